/- Cells: the statement itself, for every input: every input of the statement; no condition. Texts joined: JoinParts. -/
import Derived.Test.YtmjdnljneifpcaaGreatDoorBfs
import Derived.Test.YtmjdnljneifpcaaGreatDoorBft
import Derived.Test.YtmjdnljneifpcaaGreatDoorTie
import Derived.Test.YtmjdnljneifpcaaGreatDoorCards
import Derived.SevenTiedAt
import Derived.SizedLaws
set_option linter.unusedVariables false
set_option linter.unusedSimpArgs false
namespace Go.Proofs.YtmjdnljneifpcaaGreatDoor
open List
open Go.SL Go.ChangeShapes Go.WideShapes Go.ChangeAt Go.RowKit Go.ChangeMaps
set_option maxRecDepth 100000 in
theorem joinParts_lifted (os:Os) (started:os.Started) (H:Type) (enc:TypeId×Value→H) :
  ReturnsInHanded {} Tryz.checked os 7 .any (fun w args=>(Rows.joinPartsSpec.pre enc Tryz.prog Tryz.f7 [] false w args∧laidMetH Tryz.prog Rows.joinActsRow.laid w)∧sizedMet enc Tryz.prog Tryz.f7 (OpenSpec.ofChange Rows.joinPartsSpec) false w args)
   (Rows.joinPartsSpec.post enc Tryz.prog Tryz.f7 false true false false):=by
 refine returnsInHanded_of_change_and (C:=Tryz.checked) (X:=fun w _=>laidMetH Tryz.prog Rows.joinActsRow.laid w) (fun _ _ _ hh h=>h.of_heap hh) own0 started (by kernel_rfl) Tryz.func7
  (ChangeSpec.witness_at (enc:=enc) (C:=Tryz.checked) (os:=os) (X:=fun w _=>laidMetH Tryz.prog Rows.joinActsRow.laid w) false (nY os) #[.agg #[.int .i64 0,.int .i64 0,.int .i64 0],.slice none 0 0,.agg #[.int .i64 0,.int .i64 0,.slice none 0 0]] 8 rfl (by kernel_rfl) (by kernel_rfl) (by kernel_rfl) (by kernel_rfl) (by kernel_rfl) (Q0m os _)) ?_
 intro W base args ds gs before Q0q hW Q3a hwt hL _;have HY:∀ (j:Nat) t v,Tryz.f7.params[j]? = some t→args[j]? = some v→Value.okWide Tryz.prog W .any base t v:=Q0q;have S6:=hW;obtain⟨p,q,hA0,hV,rfl,hfz,QN⟩:=hW;have hA:DataW.TrodAll enc Tryz.prog W 0 (fun _=>true) true Tryz.f7.params.toList args.toList ds p:=hA0;rw[Tryz.params7] at hA HY;obtain⟨v0,vs0,d0,ds0,p0,q0,Q3c,rfl,rfl,h0,r0⟩:=trodAll_cons hA;obtain⟨v1,vs1,d1,ds1,p1,q1,rfl,rfl,rfl,h1,r1⟩:=trodAll_cons r0;obtain⟨v2,vs2,d2,ds2,p2,q2,rfl,rfl,rfl,h2,r2⟩:=trodAll_cons r1;obtain⟨rfl,rfl,rfl⟩:=trodAll_nil r2;obtain rfl:args=#[v0,v1,v2]:=by cases args;simp_all
 obtain⟨rfl,rfl⟩:=trodVars_none hV;obtain⟨z0,y0,x0,rfl⟩:=Q0e (HY 0 _ v0 rfl rfl) h0;obtain⟨ad1,cap1,l1,rfl,ZQ,Q0t,Q0u,ZG⟩:=Q0b (HY 1 _ v1 rfl rfl) h1
 have Q0v:l1.length*128≤140737488351232:=by
  rcases Q0u with h|⟨el,sp,he,hl⟩
  ·rw[h];exact Nat.zero_le _
  ·have:=sized_slice hwt (j:=1) (t:=24) (e:=95) rfl (by rw[← he];rfl) Tryz.underlying24;rw[show Tryz.checked.prog.bytesOf 95=128 by kernel_rfl] at this;unfold reachBytes at this;omega
 obtain⟨z2,y2,vW2,ws2,rfl,Q0w⟩:=Q0o (HY 2 _ v2 rfl rfl) h2;have nZ:=Q0j hL;haveI:Z5 0 Lib.deBruijn64tab [old W]:=oJ nZ.1 nZ.2;letI:Q4:=⟨W.os,W.output⟩;have walk:=zT z0 y0 x0 _ l1 Q0v z2 y2 vW2 ws2 (Q0f (cap:=cap1) ZG []) (fun x hx=>Q0h (Q0t x hx) []) (Q0p Q0w []) (Q0.start W ⟨rfl,rfl⟩);refine walk.mono ?_;intro e W' h;cases e with
 | panicked c=>exact h.elim
 | outgrown=>exact h.elim
 | returned x=>
  obtain⟨rfl,HH⟩:=h;have Z3:(Tryz.f7.params.toList.all fun t=>Tryz.prog.readableRec t && decide (t < Tryz.prog.types.size))=true:=by kernel_rfl
  refine⟨_,rfl,fW Q0i (fun t ht=>by have:=all_eq_true.1 Z3 t ht;rw[Bool.and_eq_true,decide_eq_true_eq] at this;exact this) rfl S6 (fun b hb=>HH.old hb) HH.2.1 HH.2.2 rfl rfl ?_⟩;exact trodAll_cons_mk (shut_bool Tryz.underlying4 _) trodAll_mk0
set_option maxHeartbeats 8000000 in
theorem joinParts_facts:joinedFacts Tryz.pinned.checked.prog 7 Tryz.f7 Rows.joinPartsSpec Rows.joinPartsRow=true:=by
 unfold joinedFacts;simp only[Bool.and_eq_true]
 repeat' apply And.intro
 all_goals (as_aux_lemma=>kernel_rfl)
set_option maxHeartbeats 8000000 in
theorem joinPartsRow:Rows.JoinPartsSaid:=
 OpenClaim.holds_of_wide 7 Tryz.f7 rfl rfl rfl rfl rfl rfl rfl ⟨rfl,rfl,rfl,rfl,rfl⟩ rfl rfl rfl rfl rfl (by as_aux_lemma=>kernel_rfl) Tryz.func7 joinParts_facts
  (of_decide_eq_true (by as_aux_lemma=>kernel_rfl)) (by unfold Func.isWrapper;first|(rw[if_pos (by decide +kernel)];kernel_rfl)|(rw[if_neg (by decide +kernel)];exact⟨rfl,rfl⟩))
  (fun os started H enc _=>joinParts_lifted os started H enc)
set_option maxHeartbeats 8000000 in
theorem joinParts:Rows.JoinPartsCardSaid:=
 Claim7.holds_tied_plain_at .later [] [.data] true _ false
  joinPartsRow (fun _ h=>by cases h) (by as_aux_lemma=>kernel_rfl) (fun _ h=>by cases h) joinParts_row_tie rfl ⟨rfl,rfl⟩ (by as_aux_lemma=>kernel_rfl) rfl
  (fun f fn hf hfn => by
   obtain rfl:f=7:=Option.some.inj ((show Tryz.prog.funcNamed "turnrow/turnrowlaw16.JoinParts" = some 7 by as_aux_lemma=>kernel_rfl).symm.trans hf) |>.symm;obtain rfl:fn=Tryz.f7:=(Option.some.inj (Tryz.func7.symm.trans hfn)).symm;have Z3:(Tryz.f7.params.toList.all fun t => !Tryz.prog.wantsStandIn t)=true:=by as_aux_lemma=>kernel_rfl
   exact⟨by as_aux_lemma=>kernel_rfl,fun j t ht=>by
    have:=all_eq_true.1 Z3 t (mem_of_getElem? (i:=j) (by rw[Array.getElem?_toList];exact ht));exact Bool.not_eq_true' _▸this⟩)
  (by as_aux_lemma=>kernel_rfl)
end Go.Proofs.YtmjdnljneifpcaaGreatDoor
