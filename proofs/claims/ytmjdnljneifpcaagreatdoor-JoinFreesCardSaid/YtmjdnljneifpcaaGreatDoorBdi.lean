/- Cells: what is proved on the way: every input of the statement; no condition. Texts joined: TabB TabC TabD CelA CelB CelC CelD CelE CelF CelG CelH PrtP. -/
import Derived.Test.YtmjdnljneifpcaaGreatDoorBdd
import Derived.Test.YtmjdnljneifpcaaGreatDoorBdh
import Derived.Test.YtmjdnljneifpcaaGreatDoorBdg
set_option linter.unusedVariables false
set_option linter.unusedSimpArgs false
set_option linter.unusedSectionVars false
namespace Go.Proofs.YtmjdnljneifpcaaGreatDoor
open Go.SL
@[reducible] def ZE (i g:Int):Value := .agg #[.int .i64 i,.int .i64 g]
theorem aD {ts:List QH} {i g:Int} (h:Qk ts i g=none):i < 0∨(ts.length:Int)≤i∨∃ (k:Nat) (t:QH),i=k∧ts[k]? = some t∧(t.ent=none∨(t.ent.isSome=true∧(t.gen:Int)≠g)):=by
 by_cases h0:i < 0
 ·exact .inl h0
 by_cases h1:(ts.length:Int)≤i
 ·exact .inr (.inl h1)
 refine .inr (.inr ?_);obtain⟨k,rfl⟩:∃ k:Nat,i=k:=⟨i.toNat,by omega⟩;have hk:=List.getElem?_eq_getElem (l:=ts) (i:=k) (by omega);generalize ts[k]'(by omega)=t at hk;refine⟨k,t,rfl,hk,?_⟩;obtain⟨n,e⟩:=t;cases e with
 | none=>exact .inl rfl
 | some e=>
  refine .inr ⟨rfl,fun hg=>?_⟩;rw[(Y5 (k:=k) (e:=e)).2 ⟨n,rfl,hg.symm,hk⟩] at h;cases h
theorem Hi [Q4] (p b c u:Nat) (go:Value) (hgo:go.oneCell'=true) (ts:List QH) (s:List Value) (hlen:ts.length≤63) (i g:Int) {w:World} {fr:List Q2} (H:Q0 w (pts p (row 144 [.slice (some ⟨b,0,none⟩) ts.length c,pp u,go])::pts b (row 199 (ts.flatMap Y2++s))::fr)) :
  Calls Tryz.prog 132 #[pp p,ZE i g] w (ret fun v w'=>v=(match Qk ts i g with|some (k,_) => .tuple #[.pointer (some ⟨b,k*6,none⟩),.int .i64 0]|none => .tuple #[.pointer none,.int .i64 8]) ∧
   Q0 w' (pts p (row 144 [.slice (some ⟨b,0,none⟩) ts.length c,pp u,go])::pts b (row 199 (ts.flatMap Y2++s))::fr)):=by
 refine QQ Tryz.func132 rfl (by kernel_rfl) ?_;refine J6 H ?_;clear H;intro b3 w H;refine Db H ?_;cases hL:Qk ts i g with
 | some q=>
  obtain⟨k,e⟩:=q;obtain⟨n,rfl,rfl,hk⟩:=Y5.1 hL;have hkl:k < ts.length:=(List.getElem?_eq_some_iff.1 hk).1;have c1:(ts.flatMap Y2++s)[k*6+1]? = some (.bool true):=XN Yt hk rfl;have c0:(ts.flatMap Y2++s)[k*6+0]? = some (.int .i64 n):=XN Yt hk rfl;have ei:0+((k:Nat):Int).toNat*6=k*6:=by simp
  refine J1 H ?_;clear H;intro w H;refine Ks H ?_;rw[show decide ((k:Int) < 0)=false from decide_eq_false (by omega)];refine Ja 3 ?_;refine Kt H ?_;refine AZ H ?_;refine Jl 9 [] H ?_;refine Kk 10 rfl (Q8.of rfl rfl rfl) rfl (by kernel_rfl) ?_;refine Ja 11 ?_;rw[show decide ((k:Int)≥(ts.length:Int))=false from decide_eq_false (by omega)];refine Ja 12 ?_;refine Ja 13 ?_;refine Ja 14 ?_;refine Ja 15 ?_;refine Jf 16 ?_;refine Jl 17 [] H ?_;refine Jf 18 ?_;refine Jl 19 [] H ?_;refine Ji 20 ?_;rw[ei];refine Jf 21 ?_;refine Vf 22 [] H rfl (Q8.of rfl rfl rfl) rfl c1 (by kernel_rfl) ?_;refine Ja 23 ?_;refine Ja 24 ?_;refine Ja 25 ?_;refine Ja 26 ?_;refine Ja 27 ?_;refine Jf 28 ?_;refine Jl 29 [] H ?_;refine Jf 30 ?_;refine Jl 31 [] H ?_;refine Ji 32 ?_;rw[ei];refine Jf 33 ?_;refine Vf 34 [] H rfl (Q8.of rfl rfl rfl) rfl c0 (by kernel_rfl) ?_;refine Jf 35 ?_;refine Jl 36 [] H ?_;refine Ja 37 ?_;rw[show (((n:Nat):Int) != (n:Int))=false by simp];refine Ja 38 ?_;refine Jx H ?_;refine BP H ?_;clear H;intro w H;refine Uw H ?_;refine Kt H ?_;refine Ji 6 ?_;rw[ei];refine Ja 7 ?_;refine X6 H ?_;exact Q3 (Jy H.drop rfl fun w' H'=>⟨rfl,H'⟩)
 | none=>
  rcases aD hL with h0|h1|⟨k,t,rfl,hk,ht⟩
  ·refine J1 H ?_;clear H;intro w H;refine Ks H ?_;rw[show decide (i < 0)=true from decide_eq_true (by omega)];refine Ja 3 ?_;refine Jn 4 ?_;refine Jn 5 ?_;refine Jn 6 ?_;refine Jn 7 ?_;refine Jn 8 ?_;refine Dz H ?_;refine Xc H ?_;refine E0 H ?_;refine E1 H ?_;exact Q3 (Jy H.drop rfl fun w' H'=>⟨rfl,H'⟩)
  ·by_cases h0:i < 0
   ·refine J1 H ?_;clear H;intro w H;refine Ks H ?_;rw[show decide (i < 0)=true from decide_eq_true (by omega)];refine Ja 3 ?_;refine Jn 4 ?_;refine Jn 5 ?_;refine Jn 6 ?_;refine Jn 7 ?_;refine Jn 8 ?_;refine Dz H ?_;refine Xc H ?_;refine E0 H ?_;refine E1 H ?_;exact Q3 (Jy H.drop rfl fun w' H'=>⟨rfl,H'⟩)
   ·refine J1 H ?_;clear H;intro w H;refine Ks H ?_;rw[show decide (i < 0)=false from decide_eq_false (by omega)];refine Ja 3 ?_;refine Kt H ?_;refine AZ H ?_;refine Jl 9 [] H ?_;refine Kk 10 rfl (Q8.of rfl rfl rfl) rfl (by kernel_rfl) ?_;refine Ja 11 ?_;rw[show decide (i≥(ts.length:Int))=true from decide_eq_true (by omega)];refine Xc H ?_;refine E0 H ?_;refine E1 H ?_;exact Q3 (Jy H.drop rfl fun w' H'=>⟨rfl,H'⟩)
  ·have hkl:k < ts.length:=(List.getElem?_eq_some_iff.1 hk).1;have c1:(ts.flatMap Y2++s)[k*6+1]? = some (.bool t.ent.isSome):=XN Yt hk (aW t);have c0:(ts.flatMap Y2++s)[k*6+0]? = some (.int .i64 t.gen):=XN Yt hk (aR t);have ei:0+((k:Nat):Int).toNat*6=k*6:=by simp
   refine J1 H ?_;clear H;intro w H;refine Ks H ?_;rw[show decide ((k:Int) < 0)=false from decide_eq_false (by omega)];refine Ja 3 ?_;refine Kt H ?_;refine AZ H ?_;refine Jl 9 [] H ?_;refine Kk 10 rfl (Q8.of rfl rfl rfl) rfl (by kernel_rfl) ?_;refine Ja 11 ?_;rw[show decide ((k:Int)≥(ts.length:Int))=false from decide_eq_false (by omega)];refine Ja 12 ?_;refine Ja 13 ?_;refine Ja 14 ?_;refine Ja 15 ?_;refine Jf 16 ?_;refine Jl 17 [] H ?_;refine Jf 18 ?_;refine Jl 19 [] H ?_;refine Ji 20 ?_;rw[ei];refine Jf 21 ?_;refine Vf 22 [] H rfl (Q8.of rfl rfl rfl) rfl c1 (by kernel_rfl) ?_
   rcases ht with ht|⟨ht,hne⟩
   ·rw[ht];refine Ja 23 ?_;refine E1 H ?_;exact Q3 (Jy H.drop rfl fun w' H'=>⟨rfl,H'⟩)
   ·rw[ht];refine Ja 23 ?_;refine Ja 24 ?_;refine Ja 25 ?_;refine Ja 26 ?_;refine Ja 27 ?_;refine Jf 28 ?_;refine Jl 29 [] H ?_;refine Jf 30 ?_;refine Jl 31 [] H ?_;refine Ji 32 ?_;rw[ei];refine Jf 33 ?_;refine Vf 34 [] H rfl (Q8.of rfl rfl rfl) rfl c0 (by kernel_rfl) ?_;refine Jf 35 ?_;refine Jl 36 [] H ?_;refine Ja 37 ?_;rw[show (((t.gen:Nat):Int) != g)=true by simpa using hne];refine Ja 38 ?_;refine Jx H ?_
    repeat refine Q7 ?_
    refine Vg rfl ?_
    repeat refine Q7 ?_
    refine QG ?_;refine Jv ?_;refine Jv ?_;refine Q6 ?_;exact Q3 (Jy H.drop rfl fun w' H'=>⟨rfl,H'⟩)
end Go.Proofs.YtmjdnljneifpcaaGreatDoor
namespace Go.Proofs.YtmjdnljneifpcaaGreatDoor
open Go.SL
theorem Ej {ts:List QH} {k:Nat} {t t':QH} (hk:ts[k]? = some t) (hb:(t'.ent.isNone && t'.gen == 255)=(t.ent.isNone && t.gen == 255)):Zc (ts.set k t')=Zc ts:=by
 unfold Zc;rw[set_split hk]
 conv=>rhs;rw[split_at hk]
 rw[List.filter_append,List.filter_append,List.filter_cons,List.filter_cons,hb];split <;> simp
theorem UE.set {ts:List QH} {x k:Nat} {t t':QH} (h:UE ts x) (hk:ts[k]? = some t) (hb:busy t'=busy t) (hg:t'.gen≤255):UE (ts.set k t') x:=by
 refine⟨by rw[List.length_set];exact h.bits,fun i u hu=>?_,fun i u hu=>?_⟩
 ·rcases Qv hu with ⟨rfl,rfl,_⟩|⟨_,hu⟩
  ·rw[hb];exact h.bit _ _ hk
  ·exact h.bit _ _ hu
 ·rcases Qv hu with ⟨rfl,rfl,_⟩|⟨_,hu⟩
  ·exact hg
  ·exact h.gen _ _ hu
theorem aE [Q4] (p:Nat) (ts:List QH) (i g:Int) {w:World} {fr:List Q2} (H:Q0 w (Qh p ts::fr)) :
  Calls Tryz.prog 68 #[pp p,ZE i g] w (ret fun v w'=>v=(match Qk ts i g with|some (_,e) => .tuple #[.agg (YE e).toArray,.int .i64 0]|none => .tuple #[.agg #[.int .i64 0,.int .i64 0,.bool false,.bool false],.int .i64 8])∧Q0 w' (Qh p ts::fr)):=by
 obtain⟨b,c,s,u,x,hok,hc,H,hclose⟩:=RN H;refine QQ Tryz.func68 rfl (by kernel_rfl) ?_;refine J6 H ?_;clear H;intro b3 w H;refine VZ H ?_;clear H;intro b4 w H;refine R3 H ?_;replace H:=Js [2,2,0,0,0] 0 H;refine Jc rfl rfl (Hi p b c u _ rfl ts s hok.bits.le i g H) ?_;clear H;rintro v w ⟨rfl,H⟩;cases hL:Qk ts i g with
 | some q=>
  obtain⟨k,e⟩:=q;obtain⟨n,rfl,rfl,hk⟩:=Y5.1 hL;have hrd:QY (ts.flatMap Y2++s) (k*6+2) 4 (YE e):=Wk (vs:=YE e) Yt hk (by repeat first|exact .nil _|apply QY.cons rfl);refine Zu H ?_;refine J5 H ?_;refine KW H ?_;refine Q5 rfl (VH H rfl hrd rfl ?_);refine J3 H ?_;clear H;intro w H;refine J0 H ?_;replace H:=Js [2,0,0,1] 1 H;exact Q3 (Jz H (fun w' H' => .cellN H' rfl (by repeat first|exact .nil _|apply QY.cons rfl) (.tmp .nil)) fun w' H'=>⟨rfl,hclose _ _ ts x rfl rfl hok H'.drop⟩)
 | none=>
  refine X0 H ?_;refine E2 H ?_;clear H;intro w H;refine J0 H ?_;replace H:=Js [2,0,0,1] 1 H;exact Q3 (Jz H (fun w' H' => .cellN H' rfl (by repeat first|exact .nil _|apply QY.cons rfl) (.tmp .nil)) fun w' H'=>⟨rfl,hclose _ _ ts x rfl rfl hok H'.drop⟩)
theorem C4 [Q4] (p:Nat) (ts:List QH) (i g:Int) (e':Q9) {w:World} {fr:List Q2} (H:Q0 w (Qh p ts::fr)) :
  Calls Tryz.prog 140 #[pp p,ZE i g,.agg (YE e').toArray] w (ret fun v w'=>(∃ k e,Qk ts i g=some (k,e)∧v = .int .i64 0∧Q0 w' (Qh p (ts.set k ⟨g.toNat,some e'⟩)::fr))∨(Qk ts i g=none∧v = .int .i64 8∧Q0 w' (Qh p ts::fr))):=by
 obtain⟨b,c,s,u,x,hok,hc,H,hclose⟩:=RN H;refine QQ Tryz.func140 rfl (by kernel_rfl) ?_;refine J6 H ?_;clear H;intro b4 w H;refine Uy H ?_;clear H;intro b5 w H;refine R3 H ?_;replace H:=Js [2,2,0,0,0] 0 H;refine Jc rfl rfl (Hi p b c u _ rfl ts s hok.bits.le i g H) ?_;clear H;rintro v w ⟨rfl,H⟩;cases hL:Qk ts i g with
 | some q=>
  obtain⟨k,e⟩:=q;obtain⟨n,rfl,rfl,hk⟩:=Y5.1 hL;refine X0 H ?_;refine J8 H ?_;refine Qn (fun ms σ w=>ms=[]∧σ 8 = .int .i64 0∧Q0 w (Qh p (ts.set k ⟨n,some e'⟩)::fr)) ?_ ?_
  ·refine Vg rfl ?_;refine Ge H ?_;refine Jv ?_;refine KW H ?_;replace H:=Js [1,0,0,0,0] 0 H;have hlen:=Gd Yt ts;have hkl:k < ts.length:=(List.getElem?_eq_some_iff.1 hk).1;refine Q5 rfl (ZN (vs:=YE e') H rfl rfl inferInstance rfl rfl (by rw[List.length_append,hlen];omega) rfl ?_);clear H;intro w H;rw[D4 (x':=⟨n,some e'⟩) Yt hk (by simp) rfl] at H;refine Q6 ?_;replace H:=Js [1,0,2] 2 H;exact⟨rfl,rfl,rfl,hclose _ _ (ts.set k ⟨n,some e'⟩) x (by simp) (Ej hk rfl) (hok.set hk rfl (by have:=hok.gen _ _ hk;exact this)) H⟩
  ·clear H;rintro ms σ w ⟨rfl,g8,H⟩;rw[Q1 g8];refine J4 H ?_;exact Q3 (Jy H rfl fun w' H' => .inl ⟨k,e,rfl,rfl,H'⟩)
 | none=>
  refine Zu H ?_;refine J4 H ?_;replace H:=Js [0,0,2] 2 H;exact Q3 (Jy H rfl fun w' H' => .inr ⟨rfl,rfl,hclose _ _ ts x rfl rfl hok H'⟩)
theorem aF [Q4] (p:Nat) (ts:List QH) {w:World} {fr:List Q2} (H:Q0 w (Qh p ts::fr)) :
  Calls Tryz.prog 17 #[pp p] w (ret fun v w'=>v = .int .i64 ((Gk ts - Zc ts:Nat):Int)∧Q0 w' (Qh p ts::fr)):=by
 obtain⟨b,c,s,u,x,hok,hc,H,hclose⟩:=RN H;have hb:=hok.bits.le;have hcnt:=hok.cnt;have hle:=EC ts.length x
 have hgb:Zc ts≤Gk ts:=by
  unfold Zc Gk;refine List.Sublist.length_le ?_
  have:ts.filter (fun t=>t.ent.isNone && t.gen == 255)=(ts.filter busy).filter (fun t=>t.ent.isNone && t.gen == 255):=by
   rw[List.filter_filter];apply List.filter_congr;intro t _;unfold busy;cases t.ent <;> simp
  rw[this];exact List.filter_sublist
 refine QQ Tryz.func17 rfl (by kernel_rfl) ?_;refine DX H ?_;clear H;intro w H;refine YT H ?_;refine Jl 3 [4] H ?_;refine Ww H ?_;refine Jl 8 [] H ?_;replace H:=Js [2,0,0] 0 H;refine Jo 4 H ?_;refine Jk rfl rfl (HV u _ _ _ H) ?_;clear H;rintro v w ⟨rfl,H⟩;refine Ja 9 ?_;refine Ja 10 ?_;refine Jx H ?_;replace H:=Js [1,1,0] 0 H;refine Q3 (Jy (hclose _ _ ts x rfl rfl hok H) rfl fun w' H'=>⟨?_,H'⟩);show Value.int .i64 (IntKind.i64.wrap ((YP ts.length x:Int) - (Zc ts:Int)))=_;rw[QT (by omega) (by omega),← hcnt];congr 1;omega
end Go.Proofs.YtmjdnljneifpcaaGreatDoor
namespace Go.Proofs.YtmjdnljneifpcaaGreatDoor
open Go.SL
theorem Ek [Q4] (p:Nat) (ts:List QH) (k n:Nat) (e:Q9) (hk:ts[k]? = some ⟨n,some e⟩) {w:World} {fr:List Q2} (H:Q0 w (Qh p ts::fr)) :
  Calls Tryz.prog 110 #[pp p,.int .i64 k] w (ret fun v w'=>v = .tuple #[X8 k n,.bool true]∧Q0 w' (Qh p ts::fr)):=by
 obtain⟨b,c,s,u,x,hok,hc,H,hclose⟩:=RN H;have hb:=hok.bits.le;have hkl:k < ts.length:=(List.getElem?_eq_some_iff.1 hk).1;have c1:(ts.flatMap Y2++s)[k*6+1]? = some (.bool true):=XN Yt hk rfl;have c0:(ts.flatMap Y2++s)[k*6+0]? = some (.int .i64 n):=XN Yt hk rfl;have ei:0+((k:Nat):Int).toNat*6=k*6:=by simp
 refine QQ Tryz.func110 rfl (by kernel_rfl) ?_;refine YO H ?_;clear H;intro b4 w H;refine J0 H ?_;refine DZ H ?_;refine XP H ?_;rw[show decide ((k:Int) < 0)=false from decide_eq_false (by omega)];refine YS H ?_;refine UG H ?_;refine Fk H ?_;rw[show decide ((k:Int)≥(ts.length:Int))=false from decide_eq_false (by omega)];refine Du H ?_;refine Qe rfl rfl rfl (Gs rfl rfl (by omega) (by omega) rfl ?_);rw[ei];refine Qe rfl rfl rfl (VK rfl rfl ?_);refine Qe rfl rfl rfl (QA H rfl c1 rfl ?_);refine Wo H ?_;refine Be H ?_;refine Jd ?_;rw[ei];refine KW H ?_;refine Q5 rfl (QA H rfl c0 rfl ?_);refine Gv H ?_;refine J3 H ?_;clear H;intro w H;refine J0 H ?_;exact Q3 (Jz H (fun w' H' => .cellN H' rfl (by repeat first|exact .nil _|apply QY.cons rfl) (.tmp .nil)) fun w' H'=>⟨rfl,hclose _ _ ts x rfl rfl hok H'.drop⟩)
theorem aH [Q4] (p:Nat) (ts:List QH) (e:Q9) {w:World} {fr:List Q2} [hT:YN 0 Lib.deBruijn64tab fr] (H:Q0 w (Qh p ts::fr)) :
  Calls Tryz.prog 91 #[pp p,.agg (YE e).toArray] w (ret fun v w'=>(∃ k n,ts[k]? = some ⟨n,none⟩∧n≤254∧(∀ j t,j < k→ts[j]? = some t→busy t=true)∧v = .tuple #[X8 k (n+1),.int .i64 0]∧Q0 w' (Qh p (ts.set k ⟨n+1,some e⟩)::fr)) ∨
   ((∀ t∈ts,busy t=true)∧v = .tuple #[X8 0 0,.int .i64 12]∧Q0 w' (Qh p ts::fr))):=by
 obtain⟨b,c,s,u,x,hok,hc,H,hclose⟩:=RN H;have hb:=hok.bits.le;refine QQ Tryz.func91 rfl (by kernel_rfl) ?_;refine J6 H ?_;clear H;intro b3 w H;refine VZ H ?_;clear H;intro b4 w H;refine A6 H ?_;refine Ya H ?_;replace H:=Js [4,0,0,0,0] 0 H;refine Jc rfl rfl (HK u ts.length x 0 _ hok.bits (by omega) H) ?_;clear H;rintro v w ⟨hF,H⟩
 rcases hF with ⟨k,rfl,_,hk,hoff,hall⟩|⟨rfl,hall⟩
 ·have ht:=List.getElem?_eq_getElem hk;have hbz:∀ j t,j < k→ts[j]? = some t→busy t=true:=fun j t hj hjt=>by rw[← hok.bit j t hjt];exact hall j (Nat.zero_le _) hj
  generalize ts[k]=t at ht;have hbk:=hok.bit k t ht;have hg:=hok.gen k t ht;rw[hoff] at hbk;obtain⟨n,en⟩:=t
  have hen:en=none∧n≤254:=by
   unfold busy at hbk;cases en with
   | none=>simp at hbk hg;exact⟨rfl,by omega⟩
   | some y=>simp at hbk
  obtain⟨rfl,hn⟩:=hen;have ei:0+((k:Nat):Int).toNat*6=k*6:=by simp
  have hlen:=Gd Yt ts;refine Zu H ?_;refine J9 H ?_;refine Jc rfl rfl (HG u _ x k true hok.bits hk H) ?_;clear H;rintro v w ⟨rfl,H⟩;refine Dy H ?_;refine Jd ?_;rw[ei];refine J0 H ?_;have c0:(ts.flatMap Y2++s)[k*6+0]? = some (.int .i64 n):=XN Yt ht rfl;replace H:=Js [4,0,0,0,0] 0 H;refine J5 H ?_;refine KW H ?_;refine Q5 rfl (QA H rfl c0 rfl ?_);refine YS H ?_;refine KW H ?_;rw[QT (x:=((n:Nat):Int)+1) (by omega) (by omega),show ((n:Nat):Int)+1=((n+1:Nat):Int) by omega];refine Q5 rfl (Yf H rfl rfl inferInstance rfl (by rw[List.length_append,hlen];omega) rfl ?_);clear H;intro w H;rw[Lf (x':=⟨n+1,none⟩) Yt ht (by omega) rfl] at H;refine Q6 ?_;have ht1:(ts.set k ⟨n+1,none⟩)[k]? = some (⟨n+1,none⟩:QH):=List.getElem?_set_self hk;have hlen1:=Gd Yt (ts.set k ⟨n+1,none⟩);rw[List.length_set] at hlen1;refine J1 H ?_;clear H;intro w H;refine Ja 0 ?_;refine Ja 1 ?_;refine VM 2 [8] H rfl (Q8.none rfl) rfl (by repeat first|exact .nil _|apply QY.cons rfl) (by kernel_rfl) ?_;refine Ja 3 ?_;refine Jf 4 ?_;refine Jo 5 H ?_;refine Yf H rfl rfl inferInstance rfl (by rw[List.length_append,hlen1];omega) rfl ?_;clear H;intro w H;rw[Lf (x':=⟨n+1,some ⟨0,0,false,false,0,0,[]⟩⟩) Yt ht1 (by omega) rfl,List.set_set] at H;have ht2:(ts.set k ⟨n+1,some ⟨0,0,false,false,0,0,[]⟩⟩)[k]? = some (⟨n+1,some ⟨0,0,false,false,0,0,[]⟩⟩:QH):=List.getElem?_set_self hk;have hlen2:=Gd Yt (ts.set k ⟨n+1,some ⟨0,0,false,false,0,0,[]⟩⟩);rw[List.length_set] at hlen2;refine Ja 6 ?_;refine Jf 7 ?_;refine Jo 8 H ?_;refine ZN (vs:=YE e) H rfl rfl inferInstance rfl rfl (by rw[List.length_append,hlen2];omega) rfl ?_;clear H;intro w H;rw[D4 (x':=⟨n+1,some e⟩) Yt ht2 (by simp) rfl,List.set_set] at H;refine Jx H ?_;have ht3:(ts.set k ⟨n+1,some e⟩)[k]? = some (⟨n+1,some e⟩:QH):=List.getElem?_set_self hk;have c3:((ts.set k ⟨n+1,some e⟩).flatMap Y2++s)[k*6+0]? = some (.int .i64 ((n+1:Nat):Int)):=XN Yt ht3 rfl;refine Vh H ?_;refine KW H ?_;refine Q5 rfl (QA H rfl c3 rfl ?_);refine Gv H ?_;refine J3 H ?_;clear H;intro w H;refine J0 H ?_;replace H:=Js [2,3,0,0] 1 H;have hn255:(n == 255)=false:=by simp;omega
  have hok':UE (ts.set k ⟨n+1,some e⟩) (Yk x k true):=by
   refine⟨by rw[List.length_set];exact hok.bits.set hk,fun i v hv=>?_,fun i v hv=>?_⟩
   ·rw[W8]
    rcases Qv hv with ⟨rfl,rfl,_⟩|⟨hne,hv⟩
    ·rw[if_pos rfl];rfl
    ·rw[if_neg hne];exact hok.bit _ _ hv
   ·rcases Qv hv with ⟨rfl,rfl,_⟩|⟨_,hv⟩
    ·show n+1≤255;omega
    ·exact hok.gen _ _ hv
  exact Q3 (Jz H (fun w' H' => .cellN H' rfl (by repeat first|exact .nil _|apply QY.cons rfl) (.tmp .nil)) fun w' H' => .inl ⟨k,n,ht,hn,hbz,rfl,hclose _ _ (ts.set k ⟨n+1,some e⟩) (Yk x k true) (by simp) (Ej ht (by simp[hn255])) hok' H'.drop⟩)
 ·refine BF H ?_;refine BK H ?_;clear H;intro w H;refine J0 H ?_;replace H:=Js [1,2,2,0] 1 H;refine Q3 (Jz H (fun w' H' => .cellN H' rfl (by repeat first|exact .nil _|apply QY.cons rfl) (.tmp .nil)) fun w' H' => .inr ⟨fun t ht=>?_,rfl,hclose _ _ ts x rfl rfl hok H'.drop⟩);obtain⟨j,hj⟩:=List.getElem?_of_mem ht;rw[← hok.bit j t hj];exact hall j (Nat.zero_le _) (List.getElem?_eq_some_iff.1 hj).1
end Go.Proofs.YtmjdnljneifpcaaGreatDoor
namespace Go.Proofs.YtmjdnljneifpcaaGreatDoor
open Go.SL
structure GJ where
 sp:Nat
 bp:Nat
 ip:Nat
 tp:Nat
 trp:Nat
 rp:Nat
 sm:Nat
 mm:Nat
@[reducible] def Qr:Nat→Value:=fun b=>pp b
@[reducible] def VJ (x:Int×Nat×QE):Int×Nat:=(x.1,x.2.1)
@[reducible] def Qz (x:Int×Nat×List Nat):Int×Nat:=(x.1,x.2.1)
@[reducible] def VT (sp:Nat) (x:Int×Nat×QE):Q2:=Qi x.2.1 sp x.1.toNat x.2.2
@[reducible] def VY (x:Int×Nat×List Nat):Q2:=Qs x.2.1 x.2.2
@[reducible] def V7 (p:Nat) (q:GJ):Q2:=pts p (row 43 [pp q.sp,pp q.bp,pp q.ip,pp q.tp,pp q.trp,pp q.rp,.map (some q.sm),.map (some q.mm)])
def QR (p:Nat) (s:CS):Q2:=ex fun x:GJ×List Nat=>star [prop (WF s∧VI s x.2),V7 p x.1,Qw x.1.ip x.1.sp x.1.bp,Ql x.1.bp s.lays,ST x.1.sp s.size x.2 s.own,Qh x.1.tp s.tab,Qg x.1.trp s.last s.par,RS x.1.rp s.rem,
 mp (ki .i64) Qr x.1.sm (s.sps.map VJ),star (s.sps.map (VT x.1.sp)),mp (ki .i64) Qr x.1.mm (s.mns.map Qz),star (s.mns.map VY)]
theorem Vs [Q4] {w:World} {p:Nat} {s:CS} {fr:List Q2} (H:Q0 w (QR p s::fr)):∃ (q:GJ) (mem:List Nat),WF s∧VI s mem ∧
  Q0 w (V7 p q::Qw q.ip q.sp q.bp::Ql q.bp s.lays::ST q.sp s.size mem s.own::Qh q.tp s.tab::Qg q.trp s.last s.par::RS q.rp s.rem::mp (ki .i64) Qr q.sm (s.sps.map VJ)::star (s.sps.map (VT q.sp))::mp (ki .i64) Qr q.mm (s.mns.map Qz)::star (s.mns.map VY)::fr):=by
 obtain⟨⟨q,mem⟩,H⟩:=Q0.ex.1 H;have H:=Q0.star.1 H;obtain⟨h,H⟩:=Q0.prop.1 H;exact⟨q,mem,h.1,h.2,H⟩
theorem VG [Q4] {w:World} {p:Nat} {s:CS} {fr:List Q2} {q:GJ} {mem:List Nat} (h:WF s) (hm:VI s mem)
  (H:Q0 w (V7 p q::Qw q.ip q.sp q.bp::Ql q.bp s.lays::ST q.sp s.size mem s.own::Qh q.tp s.tab::Qg q.trp s.last s.par::RS q.rp s.rem::mp (ki .i64) Qr q.sm (s.sps.map VJ)::star (s.sps.map (VT q.sp))::mp (ki .i64) Qr q.mm (s.mns.map Qz)::star (s.mns.map VY)::fr)):Q0 w (QR p s::fr):=
 Q0.ex.2 ⟨(q,mem),Q0.star.2 (Q0.prop.2 ⟨⟨h,hm⟩,H⟩)⟩
def QN (s:CS) (e:Q9):QJ:=(s.lays[e.lay - 1]?).getD ⟨0,[],0,[]⟩
def ZZ (w:Nat):Vw:=if w=0 then .none else if w=1 then .grave else .obj (w % 4294967296 - 2) (w / 4294967296)
theorem aI {x:Nat} (h0:x≠0) (h1:x≠1):ZZ x = .obj (x % 4294967296 - 2) (x / 4294967296):=by
 unfold ZZ;rw[if_neg h0,if_neg h1]
theorem Mq {i g:Nat} (h:i < 4096):(i+2+g*4294967296) % 4294967296 - 2=i∧(i+2+g*4294967296) / 4294967296=g:=by omega
theorem Mr {i g:Nat} (h1:i < 4096):ZZ (V9 (.obj i g)) = .obj i g:=by
 rw[EW,aI (by omega) (by omega),(Mq h1).1,(Mq h1).2]
theorem Ms {k:Vw} (h:GK k):ZZ (V9 k)=k:=by
 cases k with
 | none=>rfl
 | grave=>rfl
 | obj i g=>exact Mr h.1
theorem KL {s:CS} (h:WF s) {mem:List Nat} (m:VI s mem) {k g:Nat} {e:Q9} (hk:s.tab[k]? = some ⟨g,some e⟩):XY s.lays s.size mem s.own e.addr e.lay e.count k e.ws.length (QN s e):=by
 obtain⟨⟨hm,l,h1,h2,h3,h4⟩,hl,_⟩:=h.obj k g e hk;have hle:QN s e=l:=by unfold QN;rw[h1];rfl
 rw[hle];refine⟨hm,h1,h2,h3,?_,?_,?_⟩
 ·rw[List.getD_eq_getElem?_getD,m.head _ _ _ hk,Option.getD_some]
 ·have:=hl.1;unfold QM at this;rw[m.len];exact this
 ·intro c c1 c2;obtain⟨r,hr,_,hr1⟩:=hl.2 c c1 (by rw[show e.addr+(e.ws.length+1) - 1=e.addr+e.ws.length by omega] at c2;exact c2);rw[List.getD_eq_getElem?_getD,hr];show r≠0;omega
theorem Hj {s:CS} (h:WF s) {mem:List Nat} (m:VI s mem) {k g:Nat} {e:Q9} (hk:s.tab[k]? = some ⟨g,some e⟩) {p:Nat} (hp:p < e.ws.length):mem.getD (e.addr+1+p) 0=e.ws.getD p 0:=by
 have hx:=List.getElem?_eq_getElem hp;rw[List.getD_eq_getElem?_getD,List.getD_eq_getElem?_getD,m.words _ _ _ hk p _ hx,hx]
theorem Mt {s:CS} (h:WF s) {k g:Nat} {e:Q9} (hk:s.tab[k]? = some ⟨g,some e⟩) {p:Nat} (hp:p < e.ws.length) (hr:VV (QN s e) p=true):GK (ZZ (e.ws.getD p 0))∧e.ws.getD p 0=V9 (ZZ (e.ws.getD p 0)):=by
 obtain⟨⟨hm,l,h1,h2,h3,h4⟩,hl,_⟩:=h.obj k g e hk;have hle:QN s e=l:=by unfold QN;rw[h1];rfl
 rw[hle] at hr;have hx:=List.getElem?_eq_getElem hp;obtain⟨q,hq,hw⟩:=(h4 p _ hx).2 hr;have hd:e.ws.getD p 0=V9 q:=by rw[List.getD_eq_getElem?_getD,hx,Option.getD_some];exact hw
 rw[hd,Ms hq];exact⟨hq,rfl⟩
def Hk:Option (Nat×Q9)→Value
 | some (_,e) => .tuple #[.agg (YE e).toArray,.int .i64 0]
 | none => .tuple #[.agg #[.int .i64 0,.int .i64 0,.bool false,.bool false],.int .i64 8]
theorem C5 (o:Option (Nat×Q9)):∃ e1 e2 h1 h2 e4,Hk o = .tuple #[.agg #[.int .i64 e1,.int .i64 e2,.bool h1,.bool h2],.int .i64 e4]:=by
 cases o <;> exact⟨_,_,_,_,_,rfl⟩
theorem ZF [Q4] (p:Nat) (ts:List QH) (i g:Int) {w:World} {fr:List Q2} (H:Q0 w (Qh p ts::fr)) :
  Calls Tryz.prog 68 #[pp p,ZE i g] w (ret fun v w'=>v=Hk (Qk ts i g)∧Q0 w' (Qh p ts::fr)):=
 call (aE p ts i g H) fun v w h=>⟨by rw[h.1];cases Qk ts i g <;> rfl,h.2⟩
theorem Mu [Q4] (p:Nat) (s:CS) (i g:Int) {w:World} {fr:List Q2} (H:Q0 w (QR p s::fr)) :
  Calls Tryz.prog 94 #[pp p,ZE i g] w (ret fun v w'=>v=Hk (Qm s.tab i g)∧Q0 w' (QR p s::fr)):=by
 obtain⟨q,mem,hw,hm,H⟩:=Vs H;refine QQ Tryz.func94 rfl (by kernel_rfl) ?_;refine J6 H ?_;clear H;intro b3 w H;refine VZ H ?_;clear H;intro b4 w H;refine A6 H ?_;obtain⟨e1,e2,h1,h2,e4,hsh⟩:=C5 (Qk s.tab i g);refine J8 H ?_
 refine Qn (fun ms σ w=>ms=[]∧∃ b6,σ 4=pp b4∧σ 6=pp b6∧σ 7 = .int .i64 e4 ∧
  Q0 w (pts b4 (row 113 [.int .i64 0,.int .i64 0,.bool false,.bool false])::pts b6 (row 113 [.int .i64 e1,.int .i64 e2,.bool h1,.bool h2])::QR p s::fr)) ?_ ?_
 ·replace H:=Js [6,0,0,0,0,0,0,0,0,0,0,0,0] 0 H;refine J1 H ?_;clear H;intro w H;refine R6 H ?_;refine Jw 5 9 H rfl rfl (V2 (a:=[]) (b:=[]) rfl rfl (call (ZF q.tp s.tab i g H) ?_)) (Vu H rfl ?_)
  ·clear H;rintro v w ⟨rfl,H⟩;rw[hsh];refine R7 H ?_;clear H;intro b6 w H;refine R8 H ?_;clear H;intro w H;refine GX H ?_;replace H:=Js [4,4,4,4,1,3,3,3,3,3,3,1,0] 1 H;refine⟨rfl,rfl,b6,rfl,rfl,rfl,?_⟩;replace H:=VG hw hm H;replace H:=Js [1,1,0] 0 H;exact H
  ·clear H;intro b6 w H;refine Jo 5 H ?_;refine Jk rfl rfl (ZF q.tp s.tab i g H.swap) ?_;clear H;rintro v w ⟨rfl,H⟩;rw[hsh];refine R9 H ?_;clear H;intro w H;refine GX H ?_;replace H:=Js [4,4,4,4,0,3,3,3,3,3,3,1,0] 1 H;refine⟨rfl,rfl,b6,rfl,rfl,rfl,?_⟩;replace H:=VG hw hm H;replace H:=Js [1,1,0] 0 H;exact H
 ·clear H;rintro ms σ w ⟨rfl,b6,g4,g6,g7,H⟩;rw[Q1 g4,Q1 g6,Q1 g7];have hv:Qm s.tab i g=(match Qk s.tab i g with|some (k,e)=>if e.held then some (k,e) else none|none=>none):=rfl;cases hL:Qk s.tab i g with
  | none=>
   rw[hL] at hsh hv;have hv:Qm s.tab i g=none:=hv;rw[hv];cases hsh;refine Vh H ?_;refine Kx H ?_;refine A1 H ?_;clear H;intro w H;refine J0 H ?_;exact Q3 (Jz H (fun w' H' => .cellN H' rfl (by repeat first|exact .nil _|apply QY.cons rfl) (.tmp .nil)) fun w' H'=>⟨rfl,H'.drop.drop⟩)
  | some x=>
   obtain⟨k,e⟩:=x;obtain⟨ea,er,eh,ep,el,ec,ew⟩:=e;rw[hL] at hsh hv;cases hsh;cases eh with
   | true=>
    have hv:Qm s.tab i g=some (k,⟨ea,er,true,ep,el,ec,ew⟩):=hv;rw[hv];refine Vh H ?_;refine Gw H ?_;refine Y0 H ?_;refine K5 H ?_;clear H;intro w H;refine J0 H ?_;exact Q3 (Jz H (fun w' H' => .cellN H' rfl (by repeat first|exact .nil _|apply QY.cons rfl) (.tmp .nil)) fun w' H'=>⟨rfl,H'.drop.drop⟩)
   | false=>
    have hv:Qm s.tab i g=none:=hv;rw[hv];refine Vh H ?_;refine Gw H ?_;refine A1 H ?_;clear H;intro w H;refine J0 H ?_;exact Q3 (Jz H (fun w' H' => .cellN H' rfl (by repeat first|exact .nil _|apply QY.cons rfl) (.tmp .nil)) fun w' H'=>⟨rfl,H'.drop.drop⟩)
end Go.Proofs.YtmjdnljneifpcaaGreatDoor
namespace Go.Proofs.YtmjdnljneifpcaaGreatDoor
open Go.SL
theorem WW [Q4] (p:Nat) (s:CS) (i g:Int) (f:FuncId) (cs:List Value) [QV Tryz.prog f] (R:Value→World→Prop) (fr:List Q2)
  (hno:Qm s.tab i g=none→∀ w,Q0 w (QR p s::fr)→R (.int .i64 8) w)
  (hyes:∀ k e,Qm s.tab i g=some (k,e)→∀ w,Q0 w (QR p s::fr)→Calls Tryz.prog f (.agg (YE e).toArray::cs).toArray w (ret R)) {w:World} (H:Q0 w (QR p s::fr)) :
  Calls Tryz.prog 77 #[pp p,ZE i g,.func (.func f) #[] cs.toArray] w (ret R):=by
 refine QQ Tryz.func77 rfl (by kernel_rfl) ?_;refine J6 H ?_;clear H;intro b4 w H;refine R3 H ?_;refine Jc rfl rfl (Mu p s i g H.swap) ?_;clear H;rintro v w ⟨rfl,H⟩;cases hv:Qm s.tab i g with
 | none=>
  refine Vi H ?_;clear H;intro b7 w H;refine J3 H ?_;clear H;intro w H;refine Bk H ?_;replace H:=Js [1] 2 H;exact Q3 (Jy H rfl fun w' H'=>hno hv w' H')
 | some x=>
  obtain⟨k,e⟩:=x;refine Vi H ?_;clear H;intro b7 w H;refine J3 H ?_;clear H;intro w H;refine Dt H ?_;replace H:=Js [1] 2 H;refine Q5 rfl (V2 (a:=[]) (b:=cs) rfl rfl (call (hyes k e hv w H) ?_));clear H;intro v w hr;refine Uc rfl rfl ?_;refine Q6 ?_;exact Q3 (Xx (.inr rfl) rfl hr)
def U3 (s:CS) (i g place:Int):Nat×Nat:=
 match Qm s.tab i g with
 | none=>(0,8)
 | some (_,e)=>if QL (QN s e) e.ws.length place false=0 then (e.ws.getD place.toNat 0,0) else (0,QL (QN s e) e.ws.length place false)
theorem Mv {s:CS} {i g place:Int} (h:Qm s.tab i g=none):U3 s i g place=(0,8):=by unfold U3;rw[h]
theorem Hl {s:CS} {i g place:Int} {k:Nat} {e:Q9} (h:Qm s.tab i g=some (k,e)):U3 s i g place=if QL (QN s e) e.ws.length place false=0 then (e.ws.getD place.toNat 0,0) else (0,QL (QN s e) e.ws.length place false):=by unfold U3;rw[h]
theorem ZG {s:CS} {i g:Int} {k:Nat} {e:Q9} (h:Qm s.tab i g=some (k,e)):∃ n:Nat,i=k∧g=n∧s.tab[k]? = some ⟨n,some e⟩∧e.held=true:=by
 obtain⟨h1,h2⟩:=XQ.1 h;obtain⟨n,a,b,c⟩:=Y5.1 h1;exact⟨n,a,b,c,h2⟩
theorem aJ [Q4] (p:Nat) (s:CS) (i g place:Int) {w:World} {fr:List Q2} (H:Q0 w (QR p s::fr)) :
  Calls Tryz.prog 41 #[pp p,ZE i g,.int .i64 place] w (ret fun v w'=>v = .tuple #[.int .u64 ((U3 s i g place).1:Nat),.int .i64 ((U3 s i g place).2:Nat)]∧Q0 w' (QR p s::fr)):=by
 refine QQ Tryz.func41 rfl (by kernel_rfl) ?_;refine ZW H ?_;clear H;intro b3 w H;refine Uy H ?_;clear H;intro b4 w H;refine KA H ?_;clear H;intro b5 w H;refine J2 H ?_;refine YO H ?_;clear H;intro b8 w H;refine Q6 ?_;refine Fp H ?_;replace H:=Js [4,0,0,0,0] 0 H;refine Jc rfl rfl (WW p s i g 106 [pp b3,pp b5,pp b8] (fun v w'=>v = .int .i64 ((U3 s i g place).2:Nat)∧Q0 w' (pts b8 (row 83 [.int .u64 ((U3 s i g place).1:Nat)])::QR p s::fr)) _ ?_ ?_ H) ?_
 ·intro hv w H;rw[Mv hv];replace H:=Js [1,0] 3 H;exact⟨rfl,H⟩
 ·intro k e hv w H;obtain⟨n,rfl,rfl,hk,hh⟩:=ZG hv;obtain⟨q,mem,hw,hm,H⟩:=Vs H;have hI:=KL hw hm hk;refine QQ Tryz.func106 rfl (by kernel_rfl) ?_;refine J6 H ?_;clear H;intro b4 w H;refine J0 H ?_;replace H:=Js [2,2,2,0,0,0,0,0,0,0,0,0,0,0,1] 1 H
  have hval:(if QL (QN s e) e.ws.length place false=0 then mem.getD (e.addr+1+place.toNat) 0 else 0)=(U3 s k n place).1:=by
   rw[Hl hv];split
   ·rename_i h0;obtain⟨x,rfl,hx,_⟩:=Za h0;exact Hj hw hm hk hx
   ·rfl
  have herr:QL (QN s e) e.ws.length place false=(U3 s k n place).2:=by
   rw[Hl hv];split
   ·assumption
   ·rfl
  refine J1 H ?_;clear H;intro w H;refine Jl 0 [7,11] H ?_;refine X7 H ?_;refine Jl 3 [7,11] H ?_;refine Jf 4 ?_;refine Jl 5 [7,11] H ?_;refine Jl 6 [7,11] H ?_;refine Jo 7 H ?_;refine Jk rfl rfl (TH q.ip q.sp q.bp s.size s.lays mem s.own e.addr e.lay e.count k e.ws.length (QN s e) hI place H) ?_;clear H;rintro v w ⟨rfl,H⟩;rw[hval,herr];refine KG H ?_;refine Jo 11 H ?_;refine Uh H ?_;clear H;intro w H;refine Xb H ?_;refine J4 H ?_;replace H:=Js [4,0,0,0,1,1,1,1,1,1,1,1] 3 H;replace H:=VG hw hm H;exact Q3 (Jy H.swap rfl fun w' H'=>⟨rfl,H'⟩)
 ·clear H;rintro v w ⟨rfl,H⟩;refine J0 H ?_;refine Gz H ?_;refine Wy H ?_;exact Q3 (Jy H rfl fun w' H'=>⟨rfl,H'.drop⟩)
end Go.Proofs.YtmjdnljneifpcaaGreatDoor
namespace Go.Proofs.YtmjdnljneifpcaaGreatDoor
open Go.SL
theorem Hm {s:CS} (h:WF s) {k g:Nat} {e:Q9} (hk:s.tab[k]? = some ⟨g,some e⟩):s.lays[e.lay - 1]? = some (QN s e):=by
 obtain⟨⟨hm,l,h1,h2,h3,h4⟩,hl,_⟩:=h.obj k g e hk;rw[h1];unfold QN;rw[h1];rfl
theorem aM {ts:List QH} {k:Nat} {t t':QH} (hk:ts[k]? = some t) (h:Y2 t'=Y2 t):(ts.set k t').flatMap Y2=ts.flatMap Y2:=by
 rw[set_split hk]
 conv=>rhs;rw[split_at hk]
 simp[h]
theorem Hn [Q4] {w:World} {p:Nat} {ts:List QH} {l:List Q2} {k g:Nat} {e e':Q9} (hk:ts[k]? = some ⟨g,some e⟩) (he:YE e'=YE e) (H:Q0 w (Qh p ts::l)):Q0 w (Qh p (ts.set k ⟨g,some e'⟩)::l):=by
 obtain⟨b,c,s,u,x,hok,hc,H,hclose⟩:=RN H
 have hv:Y2 ⟨g,some e'⟩=Y2 ⟨g,some e⟩:=by
  show Value.int .i64 g :: .bool true::YE e' = .int .i64 g :: .bool true::YE e;rw[he]
 refine hclose _ _ (ts.set k ⟨g,some e'⟩) x (by simp) (Ej hk rfl) (hok.set hk rfl (by have:=hok.gen _ _ hk;exact this)) ?_;rw[aM hk hv];exact H
def UF (s:CS) (i g place:Int) (x:Nat):CS×Nat:=
 match Qm s.tab i g with
 | none=>(s,8)
 | some (k,e)=>if QL (QN s e) e.ws.length place false=0 then (VF s k g.toNat { e with ws:=e.ws.set place.toNat x },0) else (s,QL (QN s e) e.ws.length place false)
theorem C6 {s:CS} {i g place:Int} {x:Nat} (h:Qm s.tab i g=none):UF s i g place x=(s,8):=by unfold UF;rw[h]
theorem C7 {s:CS} {i g place:Int} {x k:Nat} {e:Q9} (h:Qm s.tab i g=some (k,e)):UF s i g place x=if QL (QN s e) e.ws.length place false=0 then (VF s k g.toNat { e with ws:=e.ws.set place.toNat x },0) else (s,QL (QN s e) e.ws.length place false):=by unfold UF;rw[h]
theorem aN [Q4] (p:Nat) (s:CS) (i g place:Int) (x:Nat) (hx:x < 18446744073709551616) {w:World} {fr:List Q2} (H:Q0 w (QR p s::fr)) :
  Calls Tryz.prog 165 #[pp p,ZE i g,.int .i64 place,.int .u64 x] w (ret fun v w'=>v = .int .i64 ((UF s i g place x).2:Nat)∧Q0 w' (QR p (UF s i g place x).1::fr)):=by
 refine QQ Tryz.func165 rfl (by kernel_rfl) ?_;refine ZW H ?_;clear H;intro b4 w H;refine Uy H ?_;clear H;intro b5 w H;refine KA H ?_;clear H;intro b6 w H;refine KA H ?_;clear H;intro b7 w H;refine E3 H ?_;replace H:=Js [4,0,0,0,0] 0 H;refine Jc rfl rfl (WW p s i g 232 [pp b4,pp b6,pp b7] (fun v w'=>v = .int .i64 ((UF s i g place x).2:Nat)∧Q0 w' (QR p (UF s i g place x).1::fr)) _ ?_ ?_ H) ?_
 ·intro hv w H;rw[C6 hv];replace H:=Js [0] 4 H;exact⟨rfl,H⟩
 ·intro k e hv w H;obtain⟨n,rfl,rfl,hk,hh⟩:=ZG hv;obtain⟨q,mem,hw,hm,H⟩:=Vs H;have hI:=KL hw hm hk;refine QQ Tryz.func232 rfl (by kernel_rfl) ?_;refine J6 H ?_;clear H;intro b4 w H;refine J0 H ?_;replace H:=Js [2,2,2,0,0,0,0,0,0,0,0,0,0,0,1] 1 H;refine J1 H ?_;clear H;intro w H;refine Jl 0 [8] H ?_;refine X7 H ?_;refine Jl 3 [8] H ?_;refine Jf 4 ?_;refine Jl 5 [8] H ?_;refine Jl 6 [8] H ?_;refine Jl 7 [8] H ?_;refine Jo 8 H ?_;refine Jk rfl rfl (TI q.ip q.sp q.bp s.size s.lays mem s.own e.addr e.lay e.count k e.ws.length (QN s e) hI place x H) ?_;clear H;rintro v w ⟨rfl,H⟩;refine Ja 9 ?_;refine Jx H ?_;replace H:=Js [4,0,0,0,1,1,1,1,1,1,1] 4 H;rw[C7 hv];by_cases h0:QL (QN s e) e.ws.length place false=0
  ·obtain⟨y,rfl,hy,hr⟩:=Za h0;rw[if_pos h0] at H;rw[if_pos h0,h0];have hw':=ES (e':={ e with ws:=e.ws.set y x }) hw hk ⟨rfl,rfl,rfl,rfl,by show (e.ws.set y x).length=_;simp⟩ (HL (hw.obj _ _ _ hk).1 (Hm hw hk) hx (fun h=>by rw[hr] at h;cases h));have hm':=HJ hw hm hk hy (x:=x);replace H:=Js [4,0,0,0,0,0,0,0,0,0,0] 0 H;replace H:=Hn (e':={ e with ws:=e.ws.set y x }) hk rfl H;replace H:=Js [1,1,1,1,0,0,0,0,0,0,0] 0 H;replace H:=VG hw' hm' H;exact Q3 (Jy H rfl fun w' H'=>⟨rfl,H'⟩)
  ·rw[if_neg h0] at H;rw[if_neg h0];replace H:=VG hw hm H;exact Q3 (Jy H rfl fun w' H'=>⟨rfl,H'⟩)
 ·clear H;rintro v w ⟨rfl,H⟩;refine J0 H ?_;exact Q3 (Jy H rfl fun w' H'=>⟨rfl,H'⟩)
def Vz (s:CS) (i g place:Int):Vw×Nat:=
 match Qm s.tab i g with
 | none=>(.none,8)
 | some (_,e)=>if QL (QN s e) e.ws.length place true=0 then (ZZ (e.ws.getD place.toNat 0),0) else (.none,QL (QN s e) e.ws.length place true)
theorem Ho {s:CS} {i g place:Int} (h:Qm s.tab i g=none):Vz s i g place=(.none,8):=by unfold Vz;rw[h]
theorem C8 {s:CS} {i g place:Int} {k:Nat} {e:Q9} (h:Qm s.tab i g=some (k,e)):Vz s i g place=if QL (QN s e) e.ws.length place true=0 then (ZZ (e.ws.getD place.toNat 0),0) else (.none,QL (QN s e) e.ws.length place true):=by unfold Vz;rw[h]
theorem El [Q4] (p:Nat) (s:CS) (i g place:Int) {w:World} {fr:List Q2} (H:Q0 w (QR p s::fr)) :
  Calls Tryz.prog 33 #[pp p,ZE i g,.int .i64 place] w (ret fun v w'=>v = .tuple #[ZA (Vz s i g place).1,.int .i64 ((Vz s i g place).2:Nat)]∧Q0 w' (QR p s::fr)):=by
 obtain⟨a1,a2,a3,hkv⟩:=Gi (Vz s i g place).1;rw[hkv];refine QQ Tryz.func33 rfl (by kernel_rfl) ?_;refine ZW H ?_;clear H;intro b3 w H;refine Uy H ?_;clear H;intro b4 w H;refine KA H ?_;clear H;intro b5 w H;refine VZ H ?_;clear H;intro b6 w H;refine J0 H ?_;refine YO H ?_;clear H;intro b8 w H;refine Q6 ?_;refine Fp H ?_;replace H:=Js [5,0,0,0,0,0] 0 H;refine Jc rfl rfl (WW p s i g 96 [pp b3,pp b5,pp b8] (fun v w'=>v = .int .i64 ((Vz s i g place).2:Nat)∧Q0 w' (pts b8 (row 88 [.int .i64 a1,.int .i64 a2,.int .i64 a3])::pts b6 (row 88 [.int .i64 0,.int .i64 0,.int .i64 0])::QR p s::fr)) _ ?_ ?_ H) ?_
 ·intro hv w H;rw[Ho hv] at hkv ⊢;cases hkv;replace H:=Js [1,1,0] 3 H;exact⟨rfl,H⟩
 ·intro k e hv w H;obtain⟨n,rfl,rfl,hk,hh⟩:=ZG hv;obtain⟨q,mem,hw,hm,H⟩:=Vs H;have hI:=KL hw hm hk;refine QQ Tryz.func96 rfl (by kernel_rfl) ?_;refine J6 H ?_;clear H;intro b4 w H;refine J0 H ?_;replace H:=Js [2,2,2,0,0,0,0,0,0,0,0,0,0,0,0,1] 1 H
  have hlk:ZA (Vz s k n place).1=ZA (if QL (QN s e) e.ws.length place true=0 then ZZ (e.ws.getD place.toNat 0) else .none):=by
   rw[C8 hv];split <;> rfl
  have herr:QL (QN s e) e.ws.length place true=(Vz s k n place).2:=by
   rw[C8 hv];split
   ·assumption
   ·rfl
  have hlf:QL (QN s e) e.ws.length place true=0→GK (if QL (QN s e) e.ws.length place true=0 then ZZ (e.ws.getD place.toNat 0) else .none)∧mem.getD (e.addr+1+place.toNat) 0=V9 (if QL (QN s e) e.ws.length place true=0 then ZZ (e.ws.getD place.toNat 0) else .none):=fun h0=>by
   obtain⟨y,hpy,hy,hr⟩:=Za h0;rw[if_pos h0,hpy,Int.toNat_natCast,Hj hw hm hk hy];exact Mt hw hk hy hr
  have hF:=fun (w:World) (fr:List Q2) (H:Q0 w (Qw q.ip q.sp q.bp::Ql q.bp s.lays::ST q.sp s.size mem s.own::fr))=>MO q.ip q.sp q.bp s.size s.lays mem s.own e.addr e.lay e.count k e.ws.length (QN s e) hI place (if QL (QN s e) e.ws.length place true=0 then ZZ (e.ws.getD place.toNat 0) else .none) hlf (fun h0=>if_neg h0) H;rw[← hlk,hkv] at hF;refine J1 H ?_;clear H;intro w H;refine Jl 0 [7,11] H ?_;refine X7 H ?_;refine Jl 3 [7,11] H ?_;refine Jf 4 ?_;refine Jl 5 [7,11] H ?_;refine Jl 6 [7,11] H ?_;refine Jo 7 H ?_;refine Jk rfl rfl (hF _ _ H) ?_;clear H;rintro v w ⟨rfl,H⟩;rw[herr];refine KG H ?_;refine Ws H ?_;clear H;intro w H;refine Xb H ?_;refine J4 H ?_;replace H:=Js [4,0,0,0,1,1,1,1,1,1,1,1,1] 3 H;replace H:=VG hw hm H;replace H:=Js [1,1,0] 0 H;exact Q3 (Jy H rfl fun w' H'=>⟨rfl,H'⟩)
 ·clear H;rintro v w ⟨rfl,H⟩;refine J0 H ?_;refine KU H ?_;clear H;intro w H;refine J0 H ?_;replace H:=Js [1,1] 1 H;exact Q3 (Jz H (fun w' H' => .cellN H' rfl (by repeat first|exact .nil _|apply QY.cons rfl) (.tmp .nil)) fun w' H'=>⟨rfl,H'.drop⟩)
end Go.Proofs.YtmjdnljneifpcaaGreatDoor
namespace Go.Proofs.YtmjdnljneifpcaaGreatDoor
open Go.SL
def UH (s:CS) (i g:Int):CS×Nat:=
 match Qm s.tab i g with
 | none=>(s,8)
 | some (k,e)=>(VF s k g.toNat { e with held:=false },0)
theorem C9 {s:CS} {i g:Int} (h:Qm s.tab i g=none):UH s i g=(s,8):=by unfold UH;rw[h]
theorem CQ {s:CS} {i g:Int} {k:Nat} {e:Q9} (h:Qm s.tab i g=some (k,e)):UH s i g=(VF s k g.toNat { e with held:=false },0):=by unfold UH;rw[h]
def UI (s:CS) (i g:Int) (on:Bool):CS×Nat:=
 match Qm s.tab i g with
 | none=>(s,8)
 | some (k,e)=>if e.pinned=on then (s,7) else (VF s k g.toNat { e with pinned:=on },0)
theorem CV {s:CS} {i g:Int} {on:Bool} (h:Qm s.tab i g=none):UI s i g on=(s,8):=by unfold UI;rw[h]
theorem CY {s:CS} {i g:Int} {on:Bool} {k:Nat} {e:Q9} (h:Qm s.tab i g=some (k,e)):UI s i g on=if e.pinned=on then (s,7) else (VF s k g.toNat { e with pinned:=on },0):=by unfold UI;rw[h]
theorem Hq [Q4] {w:World} {p:Nat} {s:CS} {fr:List Q2} {q:GJ} {mem:List Nat} (hw:WF s) (hm:VI s mem) {k n:Nat} {e e':Q9} (hk:s.tab[k]? = some ⟨n,some e⟩) (a:KE e e') (hws:e'.ws=e.ws)
  (H:Q0 w (V7 p q::Qw q.ip q.sp q.bp::Ql q.bp s.lays::ST q.sp s.size mem s.own::Qh q.tp (s.tab.set k ⟨n,some e'⟩)::Qg q.trp s.last s.par::RS q.rp s.rem::mp (ki .i64) Qr q.sm (s.sps.map VJ)::star (s.sps.map (VT q.sp))::mp (ki .i64) Qr q.mm (s.mns.map Qz)::star (s.mns.map VY)::fr)) :
  Q0 w (QR p (VF s k n e')::fr):=
 VG (s:=VF s k n e') (ES hw hk a (TR (hw.obj _ _ _ hk).1 a hws)) (TX hw hm hk a hws) H
theorem aP [Q4] (p:Nat) (s:CS) (i g:Int) {w:World} {fr:List Q2} (H:Q0 w (QR p s::fr)) :
  Calls Tryz.prog 171 #[pp p,ZE i g] w (ret fun v w'=>v = .int .i64 ((UH s i g).2:Nat)∧Q0 w' (QR p (UH s i g).1::fr)):=by
 refine QQ Tryz.func171 rfl (by kernel_rfl) ?_;refine ZW H ?_;clear H;intro b2 w H;refine Uy H ?_;clear H;intro b3 w H;refine E3 H ?_;replace H:=Js [2,0,0] 0 H;refine Jc rfl rfl (WW p s i g 234 [pp b2,pp b3] (fun v w'=>v = .int .i64 ((UH s i g).2:Nat)∧Q0 w' (QR p (UH s i g).1::fr)) _ ?_ ?_ H) ?_
 ·intro hv w H;rw[C9 hv];replace H:=Js [0] 2 H;exact⟨rfl,H⟩
 ·intro k e hv w H;obtain⟨n,rfl,rfl,hk,hh⟩:=ZG hv;obtain⟨q,mem,hw,hm,H⟩:=Vs H;refine QQ Tryz.func234 rfl (by kernel_rfl) ?_;refine J6 H ?_;clear H;intro b3 w H;refine J0 H ?_;refine GZ H ?_;refine Ui H ?_;clear H;intro w H;refine Q6 ?_;replace H:=Js [5,0,0,0,0,0,0,0,0,0,0,0,0,0] 0 H;refine J1 H ?_;clear H;intro w H;refine Jl 0 [6] H ?_;refine X7 H ?_;refine Jl 3 [6] H ?_;refine De H ?_;refine Ba H ?_;refine Jk rfl rfl (C4 q.tp s.tab k n { e with held:=false } H) ?_;clear H;rintro v w (⟨k',e',hL,rfl,H⟩|⟨hL,rfl,H⟩)
  ·have hLk:=(XQ.1 hv).1;rw[hLk] at hL;cases hL;refine Ja 7 ?_;refine Jx H ?_;replace H:=Js [2,2,2,2,0,1,1,1,1,1,1] 3 H;rw[CQ hv];replace H:=Hq (e':={ e with held:=false }) hw hm hk ⟨rfl,rfl,rfl,rfl,rfl⟩ rfl H;exact Q3 (Jy H rfl fun w' H'=>⟨rfl,H'⟩)
  ·rw[(XQ.1 hv).1] at hL;cases hL
 ·clear H;rintro v w ⟨rfl,H⟩;refine J0 H ?_;exact Q3 (Jy H rfl fun w' H'=>⟨rfl,H'⟩)
theorem aT [Q4] (p:Nat) (s:CS) (i g:Int) (on:Bool) {w:World} {fr:List Q2} (H:Q0 w (QR p s::fr)) :
  Calls Tryz.prog 173 #[pp p,ZE i g,.bool on] w (ret fun v w'=>v = .int .i64 ((UI s i g on).2:Nat)∧Q0 w' (QR p (UI s i g on).1::fr)):=by
 refine QQ Tryz.func173 rfl (by kernel_rfl) ?_;refine ZW H ?_;clear H;intro b3 w H;refine Uy H ?_;clear H;intro b4 w H;refine KA H ?_;clear H;intro b5 w H;refine E3 H ?_;replace H:=Js [3,0,0,0] 0 H;refine Jc rfl rfl (WW p s i g 235 [pp b5,pp b3,pp b4] (fun v w'=>v = .int .i64 ((UI s i g on).2:Nat)∧Q0 w' (QR p (UI s i g on).1::fr)) _ ?_ ?_ H) ?_
 ·intro hv w H;rw[CV hv];replace H:=Js [0] 3 H;exact⟨rfl,H⟩
 ·intro k e hv w H;obtain⟨n,rfl,rfl,hk,hh⟩:=ZG hv;obtain⟨q,mem,hw,hm,H⟩:=Vs H;refine QQ Tryz.func235 rfl (by kernel_rfl) ?_;refine J6 H ?_;clear H;intro b4 w H;refine Ru H ?_;refine K4 H ?_;refine Q5 rfl (Az rfl rfl (.inl rfl) rfl ?_);refine Q6 ?_;rw[CY hv];by_cases hp:e.pinned=on
  ·rw[show (e.pinned == on)=true by simp[hp],if_pos hp];refine YG H ?_;replace H:=Js [1,1,1,1,1,1,1,1,1,1,1] 4 H;replace H:=VG hw hm H;exact Q3 (Jy H rfl fun w' H'=>⟨rfl,H'⟩)
  ·rw[show (e.pinned == on)=false by simp[hp],if_neg hp];refine V5 H ?_;refine Gz H ?_;refine Ui H ?_;clear H;intro w H;refine Q6 ?_;replace H:=Js [5,0,0,0,0,0,0,0,0,0,0,0,0,0,0] 0 H;refine J1 H ?_;clear H;intro w H;refine Jl 0 [6] H ?_;refine X7 H ?_;refine Jl 3 [6] H ?_;refine De H ?_;refine Ba H ?_;refine Jk rfl rfl (C4 q.tp s.tab k n { e with pinned:=on } H) ?_;clear H;rintro v w (⟨k',e',hL,rfl,H⟩|⟨hL,rfl,H⟩)
   ·have hLk:=(XQ.1 hv).1;rw[hLk] at hL;cases hL;refine Ja 7 ?_;refine Jx H ?_;replace H:=Js [2,2,2,2,0,1,1,1,1,1,1] 4 H;replace H:=Hq (e':={ e with pinned:=on }) hw hm hk ⟨rfl,rfl,rfl,rfl,rfl⟩ rfl H;exact Q3 (Jy H rfl fun w' H'=>⟨rfl,H'⟩)
   ·rw[(XQ.1 hv).1] at hL;cases hL
 ·clear H;rintro v w ⟨rfl,H⟩;refine J0 H ?_;exact Q3 (Jy H rfl fun w' H'=>⟨rfl,H'⟩)
@[reducible] def Mw (e:Q9):List Value:=[.int .i64 e.region,.int .i64 e.lay,.int .i64 e.count,.int .i64 e.ws.length,.bool e.pinned]
def Hr:Option (Nat×Q9)→Value
 | some (_,e) => .tuple #[.agg (Mw e).toArray,.int .i64 0]
 | none => .tuple #[.agg #[.int .i64 0,.int .i64 0,.int .i64 0,.int .i64 0,.bool false],.int .i64 8]
theorem ac [Q4] (p:Nat) (s:CS) (i g:Int) {w:World} {fr:List Q2} (H:Q0 w (QR p s::fr)) :
  Calls Tryz.prog 26 #[pp p,ZE i g] w (ret fun v w'=>v=Hr (Qm s.tab i g)∧Q0 w' (QR p s::fr)):=by
 obtain⟨a1,a2,a3,a4,a5,a6,htv⟩:∃ a1 a2 a3 a4 a5 a6,Hr (Qm s.tab i g) = .tuple #[.agg #[.int .i64 a1,.int .i64 a2,.int .i64 a3,.int .i64 a4,.bool a5],.int .i64 a6]:=by
  cases Qm s.tab i g <;> exact⟨_,_,_,_,_,_,rfl⟩
 rw[htv];refine QQ Tryz.func26 rfl (by kernel_rfl) ?_;refine ZW H ?_;clear H;intro b2 w H;refine Uy H ?_;clear H;intro b3 w H;refine VZ H ?_;clear H;intro b4 w H;refine J0 H ?_;refine YO H ?_;clear H;intro b6 w H;refine Q6 ?_;refine Fp H ?_;replace H:=Js [4,0,0,0,0] 0 H;refine Jc rfl rfl (WW p s i g 78 [pp b2,pp b6] (fun v w'=>v = .int .i64 a6∧Q0 w' (pts b6 (row 71 [.int .i64 a1,.int .i64 a2,.int .i64 a3,.int .i64 a4,.bool a5])::pts b4 (row 71 [.int .i64 0,.int .i64 0,.int .i64 0,.int .i64 0,.bool false])::QR p s::fr)) _ ?_ ?_ H) ?_
 ·intro hv w H;rw[hv] at htv;cases htv;replace H:=Js [1,1,0] 2 H;exact⟨rfl,H⟩
 ·intro k e hv w H;rw[hv] at htv;cases htv;obtain⟨n,rfl,rfl,hk,hh⟩:=ZG hv;obtain⟨q,mem,hw,hm,H⟩:=Vs H;have hI:=KL hw hm hk;have hml:=Ea (H.pull 3);have hfit:=hI.fit;refine QQ Tryz.func78 rfl (by kernel_rfl) ?_;refine J6 H ?_;clear H;intro b3 w H;refine Y1 H ?_
  refine Qn (fun ms σ w=>ms=[]∧∃ b5,σ 2=pp b6∧σ 3=pp b3∧σ 5=pp b5∧σ 6 = .int .i64 ((e.ws.length+1:Nat):Int)∧σ 7 = .int .i64 0 ∧
   Q0 w (pts b3 (row 113 (YE e))::pts b5 (row 115 [.int .i64 e.lay,.int .i64 e.count,.int .i64 k])::pts b6 (row 71 [.int .i64 0,.int .i64 0,.int .i64 0,.int .i64 0,.bool false])::pts b4 (row 71 [.int .i64 0,.int .i64 0,.int .i64 0,.int .i64 0,.bool false])::QR p s::fr)) ?_ ?_
  ·replace H:=Js [2,2,2,0,0,0,0,0,0,0,0,0,0,0,1] 1 H;refine J1 H ?_;clear H;intro w H;refine Jl 0 [6,12] H ?_;refine X7 H ?_;refine Jl 3 [6,12] H ?_;refine Jf 4 ?_;refine Jl 5 [6,12] H ?_;refine Jw 6 11 H rfl rfl (V2 (a:=[]) (b:=[]) rfl rfl (call (C1 q.ip q.sp q.bp s.size s.lays mem s.own e.addr e.lay e.count k e.ws.length (QN s e) hI H) ?_)) (Vu H rfl ?_)
   ·clear H;rintro v w ⟨rfl,H⟩;refine E4 H ?_;refine Bl H ?_;clear H;intro b5 w H;refine Xd H ?_;clear H;intro w H;refine AG H ?_;replace H:=Js [5,1,1,1,2,2,2,2,2,2,2,1,0,0,0] 1 H;replace H:=VG hw hm H;replace H:=Js [1,1,1,1,0] 0 H;exact⟨rfl,rfl,b5,rfl,rfl,rfl,rfl,rfl,H⟩
   ·clear H;intro b5 w H;replace H:=Js [1,1,1,0] 0 H;refine Jo 6 H ?_;refine Jk rfl rfl (C1 q.ip q.sp q.bp s.size s.lays mem s.own e.addr e.lay e.count k e.ws.length (QN s e) hI H) ?_;clear H;rintro v w ⟨rfl,H⟩;refine E4 H ?_;refine Xd H ?_;clear H;intro w H;refine AG H ?_;replace H:=Js [5,0,0,0,2,2,2,2,2,2,2,1,0,0,0] 1 H;replace H:=VG hw hm H;replace H:=Js [1,1,1,1,0] 0 H;exact⟨rfl,rfl,b5,rfl,rfl,rfl,rfl,rfl,H⟩
  ·clear H;rintro ms σ w ⟨rfl,b5,g2,g3,g5,g6,g7,H⟩;rw[Q1 g2,Q1 g3,Q1 g5,Q1 g6,Q1 g7];refine BI H ?_;refine DJ H ?_;rw[QT (x:=((e.ws.length+1:Nat):Int) - 1) (by omega) (by omega),show ((e.ws.length+1:Nat):Int) - 1=(e.ws.length:Int) by omega];refine Gf H ?_;refine Gv H ?_;refine J3 H ?_;clear H;intro w H;refine Ux H ?_;replace H:=Js [2,2,2] 2 H;exact Q3 (Jy H rfl fun w' H'=>⟨rfl,H'⟩)
 ·clear H;rintro v w ⟨rfl,H⟩;refine J0 H ?_;refine KU H ?_;clear H;intro w H;refine J0 H ?_;replace H:=Js [1,1] 1 H;exact Q3 (Jz H (fun w' H' => .cellN H' rfl (by repeat first|exact .nil _|apply QY.cons rfl) (.tmp .nil)) fun w' H'=>⟨rfl,H'.drop⟩)
end Go.Proofs.YtmjdnljneifpcaaGreatDoor
namespace Go.Proofs.YtmjdnljneifpcaaGreatDoor
open Go.SL
theorem Aa [Q4] {w:World} {p:Nat} {m:List (Rf×Int)} {l:List Q2} (H:Q0 w (RS p m::l)):(m.map (·.1)).Nodup:=by
 obtain⟨bt,bo,bf,H⟩:=WG H;exact KB bt H
theorem Mx [Q4] (p:Nat) (s:CS) (k n:Nat) (e:Q9) (hk:s.tab[k]? = some ⟨n,some e⟩) {w:World} {fr:List Q2} (H:Q0 w (QR p s::fr)) :
  Calls Tryz.prog 127 #[pp p,.int .i64 k] w (ret fun v w'=>v = .tuple #[.agg (YE e).toArray,.bool true]∧Q0 w' (QR p s::fr)):=by
 obtain⟨q,mem,hw,hm,H⟩:=Vs H;have hL:Qk s.tab k n=some (k,e):=Y5.2 ⟨n,rfl,rfl,hk⟩;refine QQ Tryz.func127 rfl (by kernel_rfl) ?_;refine YO H ?_;clear H;intro b4 w H;refine A6 H ?_;refine J9 H ?_;replace H:=Js [5,0,0,0,0,0,0,0,0,0,0,0] 0 H;refine Jc rfl rfl (Ek q.tp s.tab k n e hk H) ?_;clear H;rintro v w ⟨rfl,H⟩;refine Vi H ?_;clear H;intro b6 w H;refine J3 H ?_;clear H;intro w H;refine Y1 H ?_
 refine Qn (fun ms σ w=>ms=[]∧∃ b8,σ 4=pp b4∧σ 7 = .bool true∧σ 8=pp b8 ∧
   Q0 w (pts b4 (row 113 [.int .i64 0,.int .i64 0,.bool false,.bool false])::pts b8 (row 113 (YE e))::QR p s::fr)) ?_ ?_
 ·replace H:=Js [1,0,0,0,0,0,0,0,0,0,0,0,0] 0 H;refine J1 H ?_;clear H;intro w H;refine R6 H ?_;refine Jw 5 9 H rfl rfl (V2 (a:=[]) (b:=[]) rfl rfl (call (ZF q.tp s.tab k n H) ?_)) (Vu H rfl ?_)
  ·clear H;rintro v w ⟨rfl,H⟩;rw[hL];refine R7 H ?_;clear H;intro b8 w H;refine R8 H ?_;clear H;intro w H;refine GX H ?_;replace H:=Js [4,4,4,4,1,3,3,3,3,3,3,2,0] 1 H;replace H:=VG hw hm H;replace H:=Js [1,1,0] 0 H;exact⟨rfl,rfl,b8,rfl,rfl,rfl,H⟩
  ·clear H;intro b8 w H;refine Jo 5 H ?_;refine Jk rfl rfl (ZF q.tp s.tab k n H.swap) ?_;clear H;rintro v w ⟨rfl,H⟩;rw[hL];refine R9 H ?_;clear H;intro w H;refine GX H ?_;replace H:=Js [4,4,4,4,0,3,3,3,3,3,3,2,0] 1 H;replace H:=VG hw hm H;replace H:=Js [1,1,0] 0 H;exact⟨rfl,rfl,b8,rfl,rfl,rfl,H⟩
 ·clear H;rintro ms σ w ⟨rfl,b8,g4,g7,g8,H⟩;rw[Q1 g4,Q1 g7,Q1 g8];refine KU H ?_;clear H;intro w H;refine J0 H ?_;exact Q3 (Jz H (fun w' H' => .cellN H' rfl (by repeat first|exact .nil _|apply QY.cons rfl) (.tmp .nil)) fun w' H'=>⟨rfl,H'.drop.drop⟩)
def Yc (s:CS) (k:Nat) (e:Q9) (place:Int) (l:Vw):List (Rf×Int):=
 match l with
 | .obj a b=>match Qk s.tab a b with
  | some (_,f)=>if f.region≠e.region then Vp (QB s.rem ((k:Int),place)) ((k:Int),place) (a:Int) else QB s.rem ((k:Int),place)
  | none=>QB s.rem ((k:Int),place)
 | _=>QB s.rem ((k:Int),place)
theorem Hs {s:CS} {k a b:Nat} {e:Q9} {place:Int} (h:Qk s.tab a b=none):Yc s k e place (.obj a b)=QB s.rem ((k:Int),place):=by
 show (match Qk s.tab a b with|some (_,f)=>if f.region≠e.region then Vp (QB s.rem ((k:Int),place)) ((k:Int),place) (a:Int) else QB s.rem ((k:Int),place)|none=>QB s.rem ((k:Int),place))=_;rw[h]
theorem CZ {s:CS} {k a b kk:Nat} {e f:Q9} {place:Int} (h:Qk s.tab a b=some (kk,f)):Yc s k e place (.obj a b)=if f.region≠e.region then Vp (QB s.rem ((k:Int),place)) ((k:Int),place) (a:Int) else QB s.rem ((k:Int),place):=by
 show (match Qk s.tab a b with|some (_,f)=>if f.region≠e.region then Vp (QB s.rem ((k:Int),place)) ((k:Int),place) (a:Int) else QB s.rem ((k:Int),place)|none=>QB s.rem ((k:Int),place))=_;rw[h]
theorem ae [Q4] (p:Nat) (s:CS) (k n:Nat) (e:Q9) (hk:s.tab[k]? = some ⟨n,some e⟩) (place:Int) (l:Vw) {w:World} {fr:List Q2} (H:Q0 w (QR p s::fr)) :
  Calls Tryz.prog 156 #[pp p,.int .i64 k,.int .i64 place,ZA l] w (ret fun v w'=>Q0 w' (QR p { s with rem:=Yc s k e place l }::fr)):=by
 obtain⟨a1,a2,a3,hkv⟩:=Gi l;rw[hkv];obtain⟨q,mem,hw,hm,H⟩:=Vs H;have hnd:=Aa (H.pull 6);have hnd0:=hnd;refine QQ Tryz.func156 rfl (by kernel_rfl) ?_;refine J6 H ?_;clear H;intro b7 w H;refine W5 H ?_;refine Gv H ?_;refine VZ H ?_;clear H;intro b8 w H;refine J3 H ?_;clear H;intro w H;refine Q6 ?_;replace H:=Js [8,0,0,0,0,0,0,0,0,0,0,0,0] 0 H;refine J1 H ?_;clear H;intro w H;refine Dc H ?_;refine Jk rfl rfl (Bz q.rp s.rem hnd ((k:Int),place) H) ?_;clear H;rintro v w ⟨rfl,H⟩;refine Jx H ?_;replace H:=Js [3,3,3,3,3,3,0,2,2,2,2,0,0] 0 H;have H:=VG (s:={ s with rem:=QB s.rem ((k:Int),place) }) (AF hw _) (ET hm _) H;clear hw hm;refine AU H ?_
 have hcase:(a1≠2∧Yc s k e place l=QB s.rem ((k:Int),place))∨∃ a b:Nat,l = .obj a b∧a1=2∧a2=a∧a3=b:=by
  cases l with
  | none=>injection hkv with h;simp at h;exact .inl ⟨by omega,rfl⟩
  | grave=>injection hkv with h;simp at h;exact .inl ⟨by omega,rfl⟩
  | obj a b=>injection hkv with h;simp at h;exact .inr ⟨a,b,rfl,by omega,by omega,by omega⟩
 rcases hcase with ⟨h2,hn⟩|⟨a,b,rfl,rfl,rfl,rfl⟩
 ·rw[show (a1 != 2)=true by simpa using h2];refine VD H ?_;rw[hn];replace H:=Js [0] 2 H;exact Q3 (Jy H rfl fun w' H'=>H')
 ·refine A4 H ?_;refine Jc rfl rfl (Mx p { s with rem:=QB s.rem ((k:Int),place) } k n e hk H) ?_;clear H;rintro v w ⟨rfl,H⟩;refine Vi H ?_;clear H;intro b9 w H;refine J3 H ?_;clear H;intro w H;refine J0 H ?_;replace H:=Js [1,0,0,0] 0 H;obtain⟨q,mem,hw,hm,H⟩:=Vs H;dsimp only at H;obtain⟨e1,e2,h1,h2,e4,hsh⟩:=C5 (Qk s.tab a b);refine J8 H ?_
  refine Qn (fun ms σ w=>ms=[]∧∃ b11,σ 0=pp p∧σ 7=pp b7∧σ 8=pp b8∧σ 9=pp b9∧σ 11=pp b11∧σ 12 = .int .i64 e4 ∧
    Q0 w (QR p { s with rem:=QB s.rem ((k:Int),place) }::pts b11 (row 113 [.int .i64 e1,.int .i64 e2,.bool h1,.bool h2])::pts b9 (row 113 (YE e))::pts b8 (row 133 [.int .i64 k,.int .i64 place])::pts b7 (row 88 [.int .i64 2,.int .i64 a,.int .i64 b])::fr)) ?_ ?_
  ·replace H:=Js [4,0,0,0,0,0,0,0,0,0,0,0,0,0] 0 H;refine J1 H ?_;clear H;intro w H;refine Dn H ?_;refine Fq H ?_;refine Jw 6 10 H rfl rfl (V2 (a:=[]) (b:=[]) rfl rfl (call (ZF q.tp s.tab a b H) ?_)) (Vu H rfl ?_)
   ·clear H;rintro v w ⟨rfl,H⟩;rw[hsh];refine Dp H ?_;clear H;intro b11 w H;refine Ws H ?_;clear H;intro w H;refine Xb H ?_;replace H:=Js [2,2,2,2,1,1,1,1,1,1,1,0,0,0,0] 0 H;have H:=VG (s:={ s with rem:=QB s.rem ((k:Int),place) }) hw hm H;exact⟨rfl,rfl,b11,rfl,rfl,rfl,rfl,rfl,rfl,H⟩
   ·clear H;intro b11 w H;refine Jo 6 H ?_;refine Jk rfl rfl (ZF q.tp s.tab a b H.swap) ?_;clear H;rintro v w ⟨rfl,H⟩;rw[hsh];refine Dq H ?_;clear H;intro w H;refine Xb H ?_;replace H:=Js [2,2,2,2,0,1,1,1,1,1,1,0,0,0,0] 0 H;have H:=VG (s:={ s with rem:=QB s.rem ((k:Int),place) }) hw hm H;exact⟨rfl,rfl,b11,rfl,rfl,rfl,rfl,rfl,rfl,H⟩
  ·clear H;rintro ms σ w ⟨rfl,b11,g0,g7,g8,g9,g11,g12,H⟩;rw[Q1 g0,Q1 g7,Q1 g8,Q1 g9,Q1 g11,Q1 g12];cases hL:Qk s.tab a b with
   | none=>
    have hn:Yc s k e place (.obj a b)=QB s.rem ((k:Int),place):=Hs hL;rw[hL] at hsh;cases hsh;rw[hn];refine Vh H ?_;refine Wz H ?_;refine Qu rfl rfl rfl ?_;refine Y0 H ?_;replace H:=Js [0] 4 H;exact Y4 _ (.inl rfl) H rfl fun w' H'=>H'
   | some x=>
    obtain⟨kk,f⟩:=x;rw[hL] at hsh;cases hsh;refine Vh H ?_;refine Uf H ?_;refine Gw H ?_;by_cases hr:f.region=e.region
    ·have hn:Yc s k e place (.obj a b)=QB s.rem ((k:Int),place):=by rw[CZ hL];exact if_neg (by simpa using hr)
     rw[hn,show (f.region != e.region)=false by simpa using hr];refine Y0 H ?_;replace H:=Js [0] 4 H;exact Y4 _ (.inl rfl) H rfl fun w' H'=>H'
    ·have hn:Yc s k e place (.obj a b)=Vp (QB s.rem ((k:Int),place)) ((k:Int),place) (a:Int):=by rw[CZ hL];exact if_pos hr
     rw[hn,show (f.region != e.region)=true by simpa using hr];refine X4 H ?_;obtain⟨q,mem,hw,hm,H⟩:=Vs H;dsimp only at H;replace H:=Js [6,0,0,0,0,0,0,0,0,0,0,0,0,0,0] 0 H;have hnd:=Aa H;refine J1 H ?_;clear H;intro w H;refine Bm H ?_;refine VM 4 [8] H rfl (Q8.none rfl) rfl (by repeat first|exact .nil _|apply QY.cons rfl) (by kernel_rfl) ?_;refine Jf 5 ?_;refine Jf 6 ?_;refine Jl 7 [8] H ?_;refine Jo 8 H ?_;refine Jk rfl rfl (MA q.rp _ hnd ((k:Int),place) a H) ?_;clear H;rintro v w ⟨rfl,H⟩;refine Jx H ?_
     have he:QB (QB s.rem ((k:Int),place)) ((k:Int),place)=QB s.rem ((k:Int),place):=by
      refine Ax ?_;intro hmem;exact absurd rfl ((Ay hnd0).1 hmem).1
     rw[he] at H;replace H:=Js [1,1,1,1,1,1,0,0,0,0,0] 4 H;have H:=VG (s:={ s with rem:=Vp (QB s.rem ((k:Int),place)) ((k:Int),place) (a:Int) }) (AF hw _) (ET hm _) H;exact Y4 _ (.inl rfl) H rfl fun w' H'=>H'
end Go.Proofs.YtmjdnljneifpcaaGreatDoor
namespace Go.Proofs.YtmjdnljneifpcaaGreatDoor
open Go.SL
def GL (s:CS) (i g place:Int) (l:Vw):CS×Nat:=
 match Qm s.tab i g with
 | none=>(s,8)
 | some (k,e)=>if QL (QN s e) e.ws.length place true=0 then ({ VF s k g.toNat { e with ws:=e.ws.set place.toNat (V9 l) } with rem:=Yc (VF s k g.toNat { e with ws:=e.ws.set place.toNat (V9 l) }) k { e with ws:=e.ws.set place.toNat (V9 l) } place l },0) else (s,QL (QN s e) e.ws.length place true)
theorem CG {s:CS} {i g place:Int} {l:Vw} (h:Qm s.tab i g=none):GL s i g place l=(s,8):=by unfold GL;rw[h]
theorem WA {s:CS} {i g place:Int} {l:Vw} {k:Nat} {e:Q9} (h:Qm s.tab i g=some (k,e)):GL s i g place l=if QL (QN s e) e.ws.length place true=0 then ({ VF s k g.toNat { e with ws:=e.ws.set place.toNat (V9 l) } with rem:=Yc (VF s k g.toNat { e with ws:=e.ws.set place.toNat (V9 l) }) k { e with ws:=e.ws.set place.toNat (V9 l) } place l },0) else (s,QL (QN s e) e.ws.length place true):=by unfold GL;rw[h]
theorem My [Q4] (p:Nat) (s:CS) (i g place:Int) (l:Vw) (hl:GK l) {w:World} {fr:List Q2} (H:Q0 w (QR p s::fr)) :
  Calls Tryz.prog 95 #[pp p,ZE i g,.int .i64 place,ZA l] w (ret fun v w'=>v = .int .i64 ((GL s i g place l).2:Nat)∧Q0 w' (QR p (GL s i g place l).1::fr)):=by
 obtain⟨a1,a2,a3,hkv⟩:=Gi l;rw[hkv];refine QQ Tryz.func95 rfl (by kernel_rfl) ?_;refine ZW H ?_;clear H;intro b4 w H;refine Uy H ?_;clear H;intro b5 w H;refine KA H ?_;clear H;intro b6 w H;refine Uy H ?_;clear H;intro b7 w H;refine E3 H ?_;replace H:=Js [4,0,0,0,0] 0 H
 refine Q5 rfl (V2 (a:=[]) (b:=[]) rfl rfl (call (WW p s i g 155 [pp b4,pp b6,pp b7] (fun v w'=>
   (Qm s.tab i g=none∧v = .int .i64 8∧Q0 w' (QR p s::fr)) ∨
   (∃ k n e, Qm s.tab i g = some (k, e) ∧ g = (n : Nat) ∧ i = (k : Nat) ∧ s.tab[k]? = some ⟨n, some e⟩ ∧ ((QL (QN s e) e.ws.length place true ≠ 0 ∧ v = .int .i64 (QL (QN s e) e.ws.length place true) ∧ Q0 w' (QR p s :: fr)) ∨
    (QL (QN s e) e.ws.length place true=0∧v = .int .i64 0∧Q0 w' (pts b4 (row 44 [pp p])::pts b5 (row 69 [.int .i64 i,.int .i64 g])::pts b6 (row 3 [.int .i64 place])::pts b7 (row 88 [.int .i64 a1,.int .i64 a2,.int .i64 a3])::QR p (VF s k n { e with ws:=e.ws.set place.toNat (V9 l) })::fr))))) _ ?_ ?_ H) ?_))
 ·intro hv w H;replace H:=Js [0] 4 H;exact .inl ⟨hv,rfl,H⟩
 ·intro k e hv w H;obtain⟨n,rfl,rfl,hk,hh⟩:=ZG hv;obtain⟨q,mem,hw,hm,H⟩:=Vs H;have hI:=KL hw hm hk;have hT:=fun (w:World) (fr:List Q2) (H:Q0 w (Qw q.ip q.sp q.bp::Ql q.bp s.lays::ST q.sp s.size mem s.own::fr))=>MP q.ip q.sp q.bp s.size s.lays mem s.own e.addr e.lay e.count k e.ws.length (QN s e) hI place l hl H;rw[hkv] at hT;refine QQ Tryz.func155 rfl (by kernel_rfl) ?_;refine J6 H ?_;clear H;intro b4 w H;refine J0 H ?_;replace H:=Js [2,2,2,0,0,0,0,0,0,0,0,0,0,0,0,0] 0 H;refine J1 H ?_;clear H;intro w H;refine Jl 0 [8] H ?_;refine X7 H ?_;refine Jl 3 [8] H ?_;refine Jf 4 ?_;refine Jl 5 [8] H ?_;refine Jl 6 [8] H ?_;refine VM 7 [8] H rfl (Q8.none rfl) rfl (by repeat first|exact .nil _|apply QY.cons rfl) (by kernel_rfl) ?_;refine Jo 8 H ?_;refine Jk rfl rfl (hT _ _ H) ?_;clear H;rintro v w ⟨rfl,H⟩;refine Ja 9 ?_;refine Jx H ?_;by_cases h0:QL (QN s e) e.ws.length place true=0
  ·obtain⟨y,rfl,hy,hr⟩:=Za h0;rw[if_pos h0] at H;rw[h0];have hwl:V9 l < 18446744073709551616:=Lw hl;have hw':=ES (e':={ e with ws:=e.ws.set y (V9 l) }) hw hk ⟨rfl,rfl,rfl,rfl,by show (e.ws.set y (V9 l)).length=_;simp⟩ (HL (hw.obj _ _ _ hk).1 (Hm hw hk) hwl (fun _=>⟨l,hl,rfl⟩));have hm':=HJ hw hm hk hy (x:=V9 l);replace H:=Js [5,4,0,0,0,1,1,1,1,1,1,4,3,2,1] 1 H;replace H:=Hn (e':={ e with ws:=e.ws.set y (V9 l) }) hk rfl H;replace H:=Js [1,1,1,1,0,0,0,0,0,0,0,0,0,0,0] 0 H;replace H:=VG hw' hm' H;replace H:=Js [1,1,1,1,0] 0 H;exact Q3 (Jy H rfl fun w' H' => .inr ⟨k,n,e,hv,rfl,rfl,hk,.inr ⟨h0,rfl,H'⟩⟩)
  ·rw[if_neg h0] at H;replace H:=Js [4,0,0,0,1,1,1,1,1,1,1] 5 H;replace H:=VG hw hm H;exact Q3 (Jy H rfl fun w' H' => .inr ⟨k,n,e,hv,rfl,rfl,hk,.inl ⟨h0,rfl,H'⟩⟩)
 ·clear H;rintro v w (⟨hv,rfl,H⟩|⟨k,n,e,hv,rfl,rfl,hk,(⟨h0,rfl,H⟩|⟨h0,rfl,H⟩)⟩)
  ·rw[CG hv];refine Yi H ?_;refine J4 H ?_;exact Q3 (Jy H rfl fun w' H'=>⟨rfl,H'⟩)
  ·rw[WA hv,if_neg h0];refine YD H ?_;rw[show (((QL (QN s e) e.ws.length place true:Nat):Int) == 0)=false by simpa using h0];refine BA H ?_;exact Q3 (Jy H rfl fun w' H'=>⟨rfl,H'⟩)
  ·rw[WA hv,if_pos h0,Int.toNat_natCast];have hN:=fun (w:World) (fr:List Q2) (H:Q0 w (QR p (VF s k n { e with ws:=e.ws.set place.toNat (V9 l) })::fr))=>ae p (VF s k n { e with ws:=e.ws.set place.toNat (V9 l) }) k n { e with ws:=e.ws.set place.toNat (V9 l) } (by show (s.tab.set k _)[k]? = _;simp[(List.getElem?_eq_some_iff.1 hk).1]) place l H;rw[hkv] at hN;refine YD H ?_;refine J8 H ?_;refine Qn (fun ms σ w=>ms=[]∧σ 9 = .int .i64 0∧Q0 w (QR p { VF s k n { e with ws:=e.ws.set place.toNat (V9 l) } with rem:=Yc (VF s k n { e with ws:=e.ws.set place.toNat (V9 l) }) k { e with ws:=e.ws.set place.toNat (V9 l) } place l }::fr)) ?_ ?_
   ·refine Vg rfl ?_;refine Gz H ?_;refine Gf H ?_;refine K4 H ?_;refine Kz H ?_;replace H:=Js [4,0,0,0,0] 0 H;refine Jc rfl rfl (hN _ _ H) ?_;clear H;intro v w H;refine Q6 ?_;replace H:=Js [0] 4 H;exact⟨rfl,rfl,rfl,H⟩
   ·clear H;rintro ms σ w ⟨rfl,g9,H⟩;rw[Q1 g9];refine J4 H ?_;exact Q3 (Jy H rfl fun w' H'=>⟨rfl,H'⟩)
def Ym (s:CS) (i g place u v:Int):CS×Nat:=
 if (Vz s i g place).2≠0 then (s,(Vz s i g place).2)
 else if (Qm s.tab u v).isNone then (s,8) else GL s i g place (.obj u.toNat v.toNat)
theorem Ht {s:CS} (h:WF s) {k g:Nat} {e:Q9} (hk:s.tab[k]? = some ⟨g,some e⟩):Bs k g:=by
 have h1:=(List.getElem?_eq_some_iff.1 hk).1;have h2:=h.slots.2;have h3:=h.gen _ _ hk;exact⟨by omega,h3.2 rfl,h3.1⟩
theorem Mz [Q4] (p:Nat) (s:CS) (i g place u v:Int) {w:World} {fr:List Q2} (H:Q0 w (QR p s::fr)) :
  Calls Tryz.prog 32 #[pp p,ZE i g,.int .i64 place,ZE u v] w (ret fun x w'=>x = .int .i64 ((Ym s i g place u v).2:Nat)∧Q0 w' (QR p (Ym s i g place u v).1::fr)):=by
 obtain⟨a1,a2,a3,hkv⟩:=Gi (Vz s i g place).1;refine QQ Tryz.func32 rfl (by kernel_rfl) ?_;refine J6 H ?_;clear H;intro b5 w H;refine Uy H ?_;clear H;intro b7 w H;refine R3 H ?_;refine Jv ?_;replace H:=Js [2,0,0] 0 H;refine Jc rfl rfl (El p s i g place H) ?_;clear H;rintro v w ⟨rfl,H⟩;rw[hkv];refine Vi H ?_;clear H;intro b9 w H;refine J3 H ?_;clear H;intro w H;refine YD H ?_;by_cases h0:(Vz s i g place).2=0
 ·have hT:Ym s i g place u v=if (Qm s.tab u v).isNone then (s,8) else GL s i g place (.obj u.toNat v.toNat):=by unfold Ym;rw[if_neg (by simpa using h0)]
  rw[hT,h0];refine V5 H ?_;refine Ge H ?_;replace H:=Js [1,0,0,0] 0 H;refine Jc rfl rfl (Mu p s u v H) ?_;clear H;rintro v w ⟨rfl,H⟩;cases hv:Qm s.tab u v with
  | none=>
   refine Vi H ?_;clear H;intro b11 w H;refine J3 H ?_;clear H;intro w H;refine Bk H ?_;replace H:=Js [1] 4 H;exact Q3 (Jy H rfl fun w' H'=>⟨rfl,H'⟩)
  | some x=>
   obtain⟨k,f⟩:=x;obtain⟨n,rfl,rfl,hk,hh⟩:=ZG hv
   have hok:Bs k n:=by
    obtain⟨q,mem,hw,hm,_⟩:=Vs (H.pull 0);exact Ht hw hk
   refine Vi H ?_;clear H;intro b11 w H;refine J3 H ?_;clear H;intro w H;refine Dt H ?_;refine Jv ?_;refine Kz H ?_;refine Gv H ?_;replace H:=Js [1,0,0,0,0] 0 H;refine Jc rfl rfl (My p s i g place (.obj k n) hok H) ?_;clear H;rintro v w ⟨rfl,H⟩;refine J0 H ?_;replace H:=Js [0] 4 H;exact Q3 (Jy H rfl fun w' H'=>⟨rfl,H'⟩)
 ·have hT:Ym s i g place u v=(s,(Vz s i g place).2):=by unfold Ym;rw[if_pos h0]
  rw[hT];rw[show ((((Vz s i g place).2:Nat):Int) != 0)=true by simpa using h0];refine Yj H ?_;replace H:=Js [1] 3 H;exact Q3 (Jy H rfl fun w' H'=>⟨rfl,H'⟩)
theorem ah [Q4] (p:Nat) (s:CS) (i g place:Int) {w:World} {fr:List Q2} (H:Q0 w (QR p s::fr)) :
  Calls Tryz.prog 169 #[pp p,ZE i g,.int .i64 place] w (ret fun x w'=>x = .int .i64 ((GL s i g place .none).2:Nat)∧Q0 w' (QR p (GL s i g place .none).1::fr)):=by
 refine QQ Tryz.func169 rfl (by kernel_rfl) ?_;refine J6 H ?_;clear H;intro b4 w H;refine R3 H ?_;refine Jv ?_;refine Gv H ?_;refine Jc rfl rfl (My p s i g place .none trivial H.swap) ?_;clear H;rintro v w ⟨rfl,H⟩;refine J0 H ?_;replace H:=Js [0] 1 H;exact Q3 (Jy H rfl fun w' H'=>⟨rfl,H'⟩)
end Go.Proofs.YtmjdnljneifpcaaGreatDoor
namespace Go.Proofs.YtmjdnljneifpcaaGreatDoor
open Go.SL
def KM (s:CS) (a b:Nat):CS:=
 match Qk s.tab a b with
 | some (k,e)=>VF s k b { e with held:=true }
 | none=>s
theorem CU {s:CS} {a b:Nat} (h:Qk s.tab a b=none):KM s a b=s:=by unfold KM;rw[h]
theorem CX {s:CS} {a b k:Nat} {e:Q9} (h:Qk s.tab a b=some (k,e)):KM s a b=VF s k b { e with held:=true }:=by unfold KM;rw[h]
def ZH (s:CS) (i g place:Int):CS:=
 match Vz s i g place with
 | (.obj a b,0)=>KM s a b
 | _=>s
theorem aj [Q4] (p:Nat) (s:CS) (i g place:Int) {w:World} {fr:List Q2} (H:Q0 w (QR p s::fr)) :
  Calls Tryz.prog 166 #[pp p,ZE i g,.int .i64 place] w (ret fun v w'=>v = .tuple #[ZA (Vz s i g place).1,.int .i64 ((Vz s i g place).2:Nat)]∧Q0 w' (QR p (ZH s i g place)::fr)):=by
 obtain⟨a1,a2,a3,hkv⟩:=Gi (Vz s i g place).1;rw[hkv];refine QQ Tryz.func166 rfl (by kernel_rfl) ?_;refine J6 H ?_;clear H;intro b4 w H;refine VZ H ?_;clear H;intro b6 w H;refine R3 H ?_;refine Jv ?_;replace H:=Js [2,0,0] 0 H;refine Jc rfl rfl (El p s i g place H) ?_;clear H;rintro v w ⟨rfl,H⟩;rw[hkv];refine Vi H ?_;clear H;intro b8 w H;refine J3 H ?_;clear H;intro w H;refine J0 H ?_;replace H:=Js [1,0,0] 1 H;have fin:∀ (σ:QU) (w:World),σ 6=pp b6→σ 8=pp b8→σ 9 = .int .i64 ((Vz s i g place).2:Nat)→Q0 w (QR p (ZH s i g place)::pts b8 (row 88 [.int .i64 a1,.int .i64 a2,.int .i64 a3])::pts b6 (row 88 [.int .i64 0,.int .i64 0,.int .i64 0])::fr)→True:=fun _ _ _ _ _ _=>trivial;clear fin;generalize hq:Vz s i g place=r at hkv H ⊢;obtain⟨k,er⟩:=r
 have hcase:(¬ (er=0∧a1=2)∧ZH s i g place=s)∨∃ a b:Nat,k = .obj a b∧er=0∧a1=2∧a2=a∧a3=b∧ZH s i g place=KM s a b:=by
  have hr:ZH s i g place=(match (k,er) with|(.obj a b,0)=>KM s a b|_=>s):=by unfold ZH;rw[hq]
  cases k with
  | none=>injection hkv with h;simp at h;exact .inl ⟨by omega,hr⟩
  | grave=>injection hkv with h;simp at h;exact .inl ⟨by omega,hr⟩
  | obj a b=>
   injection hkv with h
   simp at h;cases er with
   | zero=>exact .inr ⟨a,b,rfl,rfl,by omega,by omega,by omega,hr⟩
   | succ er=>exact .inl ⟨by omega,hr⟩
 rcases hcase with ⟨hno,hr⟩|⟨a,b,rfl,rfl,rfl,rfl,rfl,hr⟩
 ·rw[hr];refine J5 H ?_;by_cases h0:er=0
  ·subst h0;rw[show (((0:Nat):Int) == 0)=true from rfl];refine Wm H ?_;rw[show (a1 == 2)=false by simp;intro h;exact hno ⟨rfl,h⟩];refine Y0 H ?_;refine KU H ?_;clear H;intro w H;refine J0 H ?_;replace H:=Js [2,0] 1 H;exact Q3 (Jz H (fun w' H' => .cellN H' rfl (by repeat first|exact .nil _|apply QY.cons rfl) (.tmp .nil)) fun w' H'=>⟨rfl,H'.drop⟩)
  ·rw[show (((er:Nat):Int) == 0)=false by simpa using h0];refine DD H ?_;refine Y0 H ?_;refine KU H ?_;clear H;intro w H;refine J0 H ?_;replace H:=Js [2,0] 1 H;exact Q3 (Jz H (fun w' H' => .cellN H' rfl (by repeat first|exact .nil _|apply QY.cons rfl) (.tmp .nil)) fun w' H'=>⟨rfl,H'.drop⟩)
 ·rw[hr];refine Vh H ?_;refine Gw H ?_;refine J0 H ?_;obtain⟨e1,e2,h1,h2,e4,hsh⟩:=C5 (Qk s.tab a b);refine J8 H ?_;refine Qn (fun ms σ w=>ms=[]∧σ 6=pp b6∧σ 8=pp b8∧σ 9 = .int .i64 0∧Q0 w (QR p (KM s a b)::pts b8 (row 88 [.int .i64 2,.int .i64 a,.int .i64 b])::pts b6 (row 88 [.int .i64 0,.int .i64 0,.int .i64 0])::fr)) ?_ ?_
  ·refine VD H ?_;obtain⟨q,mem,hw,hm,H⟩:=Vs H;refine J8 H ?_
   refine Qn (fun ms σ w=>ms=[]∧∃ b10,σ 0=pp p∧σ 6=pp b6∧σ 8=pp b8∧σ 9 = .int .i64 0∧σ 10=pp b10 ∧
     Q0 w (pts b10 (row 113 [.int .i64 e1,.int .i64 e2,.bool h1,.bool h2])::QR p s::pts b8 (row 88 [.int .i64 2,.int .i64 a,.int .i64 b])::pts b6 (row 88 [.int .i64 0,.int .i64 0,.int .i64 0])::fr)) ?_ ?_
   ·replace H:=Js [4,0,0,0,0,0,0,0,0,0,0,0,0] 0 H;refine J1 H ?_;clear H;intro w H;refine Dn H ?_;refine Fq H ?_;refine Jw 6 10 H rfl rfl (V2 (a:=[]) (b:=[]) rfl rfl (call (ZF q.tp s.tab a b H) ?_)) (Vu H rfl ?_)
    ·clear H;rintro v w ⟨rfl,H⟩;rw[hsh];refine Dp H ?_;clear H;intro b10 w H;refine Ws H ?_;clear H;intro w H;refine Xb H ?_;replace H:=Js [2,2,2,2,1,1,1,1,1,1,1,0,0,0] 0 H;have H:=VG hw hm H;exact⟨rfl,rfl,b10,rfl,rfl,rfl,rfl,rfl,H.swap⟩
    ·clear H;intro b10 w H;refine Jo 6 H ?_;refine Jk rfl rfl (ZF q.tp s.tab a b H.swap) ?_;clear H;rintro v w ⟨rfl,H⟩;rw[hsh];refine Dq H ?_;clear H;intro w H;refine Xb H ?_;replace H:=Js [2,2,2,2,0,1,1,1,1,1,1,0,0,0] 0 H;have H:=VG hw hm H;exact⟨rfl,rfl,b10,rfl,rfl,rfl,rfl,rfl,H.swap⟩
   ·clear H;rintro ms σ w ⟨rfl,b10,g0,g6,g8,g9,g10,H⟩;rw[Q1 g0,Q1 g6,Q1 g8,Q1 g9,Q1 g10];refine GZ H ?_;refine Ui H ?_;clear H;intro w H;refine Q6 ?_;obtain⟨q,mem,hw,hm,H⟩:=Vs H.swap;cases hL:Qk s.tab a b with
    | none=>
     rw[hL] at hsh;cases hsh;rw[CU hL];replace H:=Js [4,0,0,0,0,0,0,0,0,0,0,0,0,0] 0 H;refine J1 H ?_;clear H;intro w H;refine Ja 0 ?_;refine Ja 1 ?_;refine Jf 2 ?_;refine Jl 3 [7] H ?_;refine Jf 4 ?_;refine Fr H ?_;refine Dd H ?_;refine Jk rfl rfl (C4 q.tp s.tab a b ⟨0,0,true,false,0,0,[]⟩ H) ?_;clear H;rintro v w (⟨k',e',hL',rfl,H⟩|⟨_,rfl,H⟩)
     ·rw[hL] at hL';cases hL'
     ·refine Jx H ?_;replace H:=Js [1,1,1,1,0,0,0,0,0,0,0,1,1] 1 H;have H:=VG hw hm H;exact⟨rfl,rfl,rfl,rfl,rfl,H⟩
    | some x=>
     obtain⟨kk,f⟩:=x;rw[hL] at hsh;cases hsh;rw[CX hL];obtain⟨n,hkk,hbn,hk⟩:=Y5.1 hL;obtain rfl:a=kk:=by omega
     obtain rfl:b=n:=by omega
     replace H:=Js [4,0,0,0,0,0,0,0,0,0,0,0,0,0] 0 H;refine J1 H ?_;clear H;intro w H;refine Ja 0 ?_;refine Ja 1 ?_;refine Jf 2 ?_;refine Jl 3 [7] H ?_;refine Jf 4 ?_;refine Fr H ?_;refine Dd H ?_;refine Jk rfl rfl (C4 q.tp s.tab a b { f with held:=true } H) ?_;clear H;rintro v w (⟨k',e',hL',rfl,H⟩|⟨hL',rfl,H⟩)
     ·rw[hL] at hL';cases hL';refine Jx H ?_;replace H:=Js [1,1,1,1,0,0,0,0,0,0,0,1,1] 1 H;have H:=Hq (e':={ f with held:=true }) hw hm hk ⟨rfl,rfl,rfl,rfl,rfl⟩ rfl H;exact⟨rfl,rfl,rfl,rfl,rfl,H⟩
     ·rw[hL] at hL';cases hL'
  ·clear H;rintro ms σ w ⟨rfl,g6,g8,g9,H⟩;rw[Q1 g6,Q1 g8,Q1 g9];refine KU H ?_;clear H;intro w H;refine J0 H ?_;replace H:=Js [2,0] 1 H;exact Q3 (Jz H (fun w' H' => .cellN H' rfl (by repeat first|exact .nil _|apply QY.cons rfl) (.tmp .nil)) fun w' H'=>⟨rfl,H'.drop⟩)
end Go.Proofs.YtmjdnljneifpcaaGreatDoor
namespace Go.Proofs.YtmjdnljneifpcaaGreatDoor
open Go.SL
def UJ (s:CS) (ws:List Nat):CS×Nat×Nat:=
 match ZV ws with
 | none=>(s,0,4)
 | some l=>if s.lays.length=64 then (s,0,5) else ({ s with lays:=s.lays++[l] },s.lays.length+1,0)
theorem CK {s:CS} {ws:List Nat} (h:ZV ws=none):UJ s ws=(s,0,4):=by unfold UJ;rw[h]
theorem Ab {s:CS} {ws:List Nat} {l:QJ} (h:ZV ws=some l):UJ s ws=if s.lays.length=64 then (s,0,5) else ({ s with lays:=s.lays++[l] },s.lays.length+1,0):=by unfold UJ;rw[h]
theorem am {ws:List Nat} (h:ws.length≠3):ZV ws=none:=by
 match ws with
 | []=>rfl
 | [_]=>rfl
 | [_,_]=>rfl
 | [_,_,_]=>exact absurd rfl h
 | _::_::_::_::_=>rfl
theorem ap [Q4] (v:Value) (ws:List Nat) (hws:∀ x∈ws,x < 18446744073709551616) {w:World} {fr:List Q2} [hT:YN 0 Lib.deBruijn64tab fr] (hr:Vm fr v ws.length 1 (QP ws)) (H:Q0 w fr) :
  Calls Tryz.prog 86 #[v] w (ret fun r w'=>(ZV ws=none∧r = .tuple #[Yr 0 (.slice none 0 0) 0 (.slice none 0 0),.int .i64 4]∧Q0 w' fr) ∨
   ∃ l vr vq,ZV ws=some l∧r = .tuple #[Yr l.fixed vr l.record vq,.int .i64 0]∧Q0 w' (NL vr l.refs::NL vq l.recs::fr)):=by
 by_cases h3:ws.length=3
 ·obtain⟨x,y,z,rfl⟩:∃ x y z,ws=[x,y,z]:=by
   match ws,h3 with
   | [x,y,z],_=>exact⟨x,y,z,rfl⟩
  exact Sz v x y z (hws x (by simp)) (hws y (by simp)) (hws z (by simp)) hr H
 ·obtain⟨_,a,c,rfl,_⟩:=id hr;exact call (Sy _ ws.length h3 ⟨a,c,rfl⟩ H) fun r w h => .inl ⟨am h3,h.1,h.2⟩
theorem N0 [Q4] (p:Nat) (s:CS) (v:Value) (ws:List Nat) (hws:∀ x∈ws,x < 18446744073709551616) {w:World} {fr:List Q2} [hT:YN 0 Lib.deBruijn64tab fr] (hr:Vm fr v ws.length 1 (QP ws)) (H:Q0 w (QR p s::fr)) :
  Calls Tryz.prog 29 #[pp p,v] w (ret fun x w'=>x = .tuple #[.int .i64 ((UJ s ws).2.1:Nat),.int .i64 ((UJ s ws).2.2:Nat)]∧Q0 w' (QR p (UJ s ws).1::fr)):=by
 obtain⟨_,av,cv,rfl,_⟩:=id hr;refine QQ Tryz.func29 rfl (by kernel_rfl) ?_;refine DW H ?_;refine YZ H ?_;refine Jc rfl rfl (ap _ ws hws hr.there H) ?_;clear H;rintro v w (⟨hd,rfl,H⟩|⟨l,vr,vq,hd,rfl,H⟩)
 ·rw[CK hd];refine Vi H ?_;clear H;intro b6 w H;refine J3 H ?_;clear H;intro w H;refine AX H ?_;replace H:=Js [1] 1 H;exact Q3 (Jy H rfl fun w' H'=>⟨rfl,H'⟩)
 ·obtain⟨aa,ma,rfl⟩:=QD H (QF _) (by decide);obtain⟨ab,mb,rfl⟩:=QD H.drop (QF _) (by decide);rw[Ab hd];refine Vi H ?_;clear H;intro b6 w H;refine J3 H ?_;clear H;intro w H;refine Yi H ?_;replace H:=Js [3,0,0,0] 0 H;obtain⟨q,mem,hw,hm,H⟩:=Vs H;have hR:=Sv hd;replace H:=Js [12,12,2,0,0,0,0,0,0,0,0,0,0,0] 0 H;obtain⟨D1,H,hD1,hC1⟩:=sls_rd H (QF _) (by decide);obtain⟨D2,H,hD2,hC2⟩:=sls_rd H.swap (QF _) (by decide);refine J1 H ?_;clear H;intro w H;refine Ja 0 ?_;refine Ja 1 ?_;refine Jf 2 ?_;refine Jl 3 [5] H ?_;refine VM 4 [5] H rfl (Q8.none rfl) rfl (by repeat first|exact .nil _|apply QY.cons rfl) (by kernel_rfl) ?_;replace H:=Js [2,1,0] 0 H;refine Jo 5 H ?_;refine Jk rfl rfl (T3 q.bp s.lays _ _ l hR ⟨hD1 _,(hD2 _).there⟩ H) ?_;clear H;rintro v w (⟨h64,rfl,H⟩|⟨h64,rfl,H⟩)
  ·rw[if_pos h64];refine Xa H ?_;refine DM H ?_;replace H:=Js [3,3,0,2,2,2,2,2,2,2,2] 3 H;have H:=VG hw hm H;exact Q3 (Jy H rfl fun w' H'=>⟨rfl,H'⟩)
  ·rw[if_neg (by omega)];refine Xa H ?_;refine DM H ?_;replace H:=Js [3,3,0,2,2,2,2,2,2,2,2] 3 H;have H:=VG (s:={ s with lays:=s.lays++[l] }) (TD hw hR h64) ⟨hm.len,hm.head,hm.words⟩ H;exact Q3 (Jy H rfl fun w' H'=>⟨rfl,H'⟩)
@[reducible] def WB (s:CS) (parent:Int) (b b2:Nat):CS:=
 { s with last:=s.last+1,par:=s.par++[(((s.last+1:Nat):Int),parent)],sps:=s.sps++[(((s.last+1:Nat):Int),b,⟨[],0,0⟩)],mns:=s.mns++[(((s.last+1:Nat):Int),b2,[])] }
theorem Hu [Q4] (p:Nat) (s:CS) (parent:Int) (hlast:s.last+1 < 1000000) {w:World} {fr:List Q2} (H:Q0 w (QR p s::fr)) :
  Calls Tryz.prog 30 #[pp p,.int .i64 parent] w (ret fun x w'=>(Yz s.par parent≠0∧x = .tuple #[.int .i64 0,.int .i64 (Yz s.par parent)]∧Q0 w' (QR p s::fr)) ∨
   (Yz s.par parent=0∧∃ b b2,x = .tuple #[.int .i64 ((s.last+1:Nat):Int),.int .i64 0]∧Q0 w' (QR p (WB s parent b b2)::fr))):=by
 obtain⟨q,mem,hw,hm,H⟩:=Vs H;refine QQ Tryz.func30 rfl (by kernel_rfl) ?_;refine DW H ?_;refine J9 H ?_;replace H:=Js [5,0,0,0,0,0,0,0,0,0,0] 0 H;refine Jc rfl rfl (ME q.trp s.last s.par parent (by omega) (fun r x hx=>(hw.par.2.2 r x hx).2) H) ?_;clear H;rintro v w (⟨he,rfl,H⟩|⟨he,rfl,H⟩)
 ·refine BF H ?_;rw[show (((Yz s.par parent:Nat):Int) != 0)=true by simpa using he];refine Dk H ?_;replace H:=Js [1,1,1,1,1,0,0,0,0,0,0] 0 H;have H:=VG hw hm H;exact Q3 (Jy H rfl fun w' H' => .inl ⟨he,rfl,H'⟩)
 ·have hl64:s.par.length < 64:=by
   unfold Yz at he;split at he
   ·omega
   ·split at he
    ·omega
    ·have:=hw.par.1;omega
  have hfr:∀ {α:Type} (l:List (Int×α)),l.map (·.1)=s.par.map (·.1)→((s.last+1:Nat):Int)∉l.map (·.1):=by
   intro α l hl hmem;rw[hl] at hmem;obtain⟨⟨r,x⟩,hx,h1⟩:=List.mem_map.1 hmem;have h1:r=((s.last+1:Nat):Int):=h1;have:=(hw.par.2.2 r x hx).2;omega
  have hf1:((s.last+1:Nat):Int)∉(s.sps.map VJ).map (·.1):=hfr _ (by rw[List.map_map];exact hw.skeys);have hf2:((s.last+1:Nat):Int)∉(s.mns.map Qz).map (·.1):=hfr _ (by rw[List.map_map];exact hw.mkeys);refine Zu H ?_;refine J1 H ?_;clear H;intro w H;refine YT H ?_;refine Jl 3 [14] H ?_;refine DB H ?_;refine Jl 8 [10,14] H ?_;refine Ja 9 ?_;refine Jo 10 H ?_;refine Jk rfl rfl (HN q.sp (s.last+1) (by omega) H) ?_;clear H;rintro v w ⟨b,rfl,H⟩;refine Ja 11 ?_;refine Xc H ?_;refine Jo 14 H ?_;refine XI (ek:=ki .i64) (vv:=Qr) (v:=b) (key:=((s.last+1:Nat):Int)) H rfl rfl rfl VP rfl ?_;clear H;intro w H;rw[XE hf1,show s.sps.map VJ++[(((s.last+1:Nat):Int),b)]=(s.sps++[(((s.last+1:Nat):Int),b,(⟨[],0,0⟩:QE))]).map VJ by simp] at H;refine Jx H ?_;refine J1 H ?_;clear H;intro w H;refine BT H ?_;refine Ja 4 ?_;refine Jo 5 H ?_;refine Jk rfl rfl (HT H) ?_;clear H;rintro v w ⟨b2,rfl,H⟩
  refine Jo 6 H ?_;refine XI (ek:=ki .i64) (vv:=Qr) (v:=b2) (key:=((s.last+1:Nat):Int)) H rfl rfl rfl VP rfl ?_;clear H;intro w H;rw[XE hf2,show s.mns.map Qz++[(((s.last+1:Nat):Int),b2)]=(s.mns++[(((s.last+1:Nat):Int),b2,([]:List Nat))]).map Qz by simp] at H;refine Jx H ?_;refine V8 H ?_;replace H:=Js [1,9,2,2,2,2,2,1,1,1,1,1,0] 0 H;have H:=(Q0.pick (R:=VT q.sp) (x:=(((s.last+1:Nat):Int),b,(⟨[],0,0⟩:QE))) (g1:=s.sps) (g2:=[]) rfl).2 (by rw[List.append_nil];exact H);replace H:=Js [11,10,0,0,0,0,0,0,0,0,0,0] 0 H;have H:=(Q0.pick (R:=VY) (x:=(((s.last+1:Nat):Int),b2,([]:List Nat))) (g1:=s.mns) (g2:=[]) rfl).2 (by rw[List.append_nil];exact H);replace H:=Js [2,2,2,2,2,2,2,2,1,1,0] 0 H;have H:=VG (s:=WB s parent b b2) (TB hw hl64 hlast) ⟨hm.len,hm.head,hm.words⟩ H;exact Q3 (Jy H rfl fun w' H' => .inr ⟨he,b,b2,rfl,H'⟩)
theorem N2 [Q4] (n size slots:Nat) (h1:1≤n) (h2:n≤63) (h3:1≤size) (h4:size≤1024) (h5:1≤slots) (h6:slots≤63) {w:World} {fr:List Q2} (H:Q0 w fr) :
  Calls Tryz.prog 28 #[.int .i64 n,.int .i64 size,.int .i64 slots] w (ret fun v w'=>∃ p,v = .tuple #[pp p,.int .i64 0] ∧
   Q0 w' (QR p ⟨size,List.replicate n 0,[],List.replicate slots ⟨0,none⟩,0,[],[],[],[]⟩::fr)):=by
 refine QQ Tryz.func28 rfl (by kernel_rfl) ?_;refine X5 H ?_;refine Jc rfl rfl (So n size h1 (by omega) h3 h4 H) ?_;clear H;rintro v w ⟨sp,rfl,H⟩;refine Zu H ?_;refine YZ H ?_;refine Jc rfl rfl (aC slots h5 h6 H) ?_;clear H;rintro v w ⟨tp,rfl,H⟩;refine Zu H ?_;refine GZ H ?_;refine Jc rfl rfl (T0 H) ?_;clear H;rintro v w ⟨bp,rfl,H⟩;refine J0 H ?_;refine J5 H ?_;refine Jc rfl rfl (TF sp bp H) ?_;clear H;rintro v w ⟨ip,rfl,H⟩;refine Zh H ?_;refine XS H ?_;refine Jc rfl rfl (TU H) ?_;clear H;rintro v w ⟨trp,rfl,H⟩;refine Jc rfl rfl (TY H) ?_;clear H;rintro v w ⟨rp,rfl,H⟩;refine Q5 rfl (Ki Qr (ki .i64) H rfl ?_);clear H;intro sm w H;refine Q5 rfl (Ki Qr (ki .i64) H rfl ?_);clear H;intro mm w H;refine Uv H ?_;clear H;intro b47 w H;refine J2 H ?_;have hget:∀ {i:Nat} {t:QH},(List.replicate slots (⟨0,none⟩:QH))[i]? = some t→t=⟨0,none⟩:=fun h=>List.eq_of_mem_replicate (List.mem_of_getElem? h);have hget0:∀ {i r:Nat},(List.replicate n 0)[i]? = some r→r=0:=fun h=>List.eq_of_mem_replicate (List.mem_of_getElem? h)
 have hw:WF ⟨size,List.replicate n 0,[],List.replicate slots ⟨0,none⟩,0,[],[],[],[]⟩:=by
  refine⟨⟨h3,h4⟩,by simp;omega,by simp;omega,by simp,fun i t h=>?_,fun i g e h=>?_,fun i j g h e f _ hi _=>?_,by simp,rfl,rfl,by simp,by simp,fun c r h h0=>?_,by simp⟩
  ·have:=hget h;subst this;simp
  ·have:=hget h;cases this
  ·have:=hget hi;cases this
  ·exact absurd (hget0 h) h0
 have hm:VI ⟨size,List.replicate n 0,[],List.replicate slots ⟨0,none⟩,0,[],[],[],[]⟩ (List.replicate (n*size) 0):=by
  refine⟨by simp,fun i g e h=>?_,fun i g e h=>?_⟩
  ·have:=hget h;cases this
  ·have:=hget h;cases this
 have H:Q0 w (star (([]:List (Int×Nat×QE)).map (VT sp))::_):=Q0.star.2 H;have H:Q0 w (star (([]:List (Int×Nat×List Nat)).map VY)::_):=Q0.star.2 H;replace H:=Js [2,6,6,7,6,5,4,3,1,1,0] 0 H;have H:=VG (s:=⟨size,List.replicate n 0,[],List.replicate slots ⟨0,none⟩,0,[],[],[],[]⟩) (q:=⟨sp,bp,ip,tp,trp,rp,sm,mm⟩) hw hm H;exact Q3 (Jy H rfl fun w' H'=>⟨_,rfl,H'⟩)
end Go.Proofs.YtmjdnljneifpcaaGreatDoor
namespace Go.Proofs.YtmjdnljneifpcaaGreatDoor
open Go.SL
def G1 (size:Nat) (x:Nat×Nat) (e:Q9):Prop:=(x.2=1∧x.1*size≤e.addr∧QM e≤(x.1+1)*size)∨(2≤x.2∧e.addr=x.1*size∧x.2=e.ws.length / size+1)
def Vt (s:CS):Prop:=∀ (k g:Nat) (e:Q9),s.tab[k]? = some ⟨g,some e⟩→∃ x∈s.sps,x.1=e.region∧∃ y∈x.2.2.parts,G1 s.size y e
theorem G1.alike {size:Nat} {x:Nat×Nat} {e e':Q9} (h:G1 size x e) (h1:e'.addr=e.addr) (h2:e'.ws.length=e.ws.length):G1 size x e':=by
 unfold G1 QM at *;rw[h1,h2];exact h
theorem ax {size:Nat} (hs:1≤size) {x:Nat×Nat} {e:Q9} (h:G1 size x e):x.1*size≤e.addr∧QM e≤(x.1+x.2)*size:=by
 rcases h with ⟨h1,h2,h3⟩|⟨h1,h2,h3⟩
 ·rw[h1];exact⟨h2,h3⟩
 ·refine⟨by omega,?_⟩;have h4:e.ws.length < (e.ws.length / size+1)*size:=Nat.lt_mul_of_div_lt (Nat.lt_succ_self _) (by omega);rw[Nat.add_mul,h3];unfold QM;omega
theorem ay {s:CS} (hP:Vt s) {i g0 r q:Nat} {S S':QE} {p1 p2:List (Int×Nat×QE)} (hs:s.sps=p1++((r:Int),q,S)::p2) {e:Q9} (hreg:e.region=r) {own' mem mem':List Nat} (hsz:1≤s.size) (hS:GW s.size s.own r S)
  (al:U1 s.size s.own mem r S (e.ws.length+1) own' mem' S' e.addr) {s':CS} (h1:s'.size=s.size) (h2:s'.tab=s.tab.set i ⟨g0+1,some e⟩) (h3:s'.sps=p1++((r:Int),q,S')::p2):Vt s':=by
 have hsub:(∀ y∈S.parts,y∈S'.parts)∧∃ y∈S'.parts,G1 s.size y e:=by
  generalize hea:e.addr=ad at al;cases al with
  | room hn=>
   have hfin:S.fin≠0:=by omega
   obtain⟨c,hc1,hc2,hc3⟩:=hS.fin hfin;refine⟨fun y hy=>hy,(c,1),hc3,.inl ⟨rfl,?_,?_⟩⟩
   ·show c*s.size≤e.addr;omega
   ·show QM e≤(c+1)*s.size;unfold QM;omega
  | @one a ha hf hn=>
   refine⟨fun y hy=>List.mem_append.2 (.inl hy),(a,1),by simp,.inl ⟨rfl,?_,?_⟩⟩
   ·show a*s.size≤e.addr;omega
   ·show QM e≤(a+1)*s.size;have:(a+1)*s.size=a*s.size+s.size:=Nat.succ_mul _ _;unfold QM;omega
  | @run a k hk ha hf hn hn2=>
   refine⟨fun y hy=>List.mem_append.2 (.inl hy),(a,k),by simp,.inr ⟨hk,hea,?_⟩⟩;show k=e.ws.length / s.size+1;have h4:(k - 1)*s.size≤e.ws.length:=by omega
   have h5:k - 1≤e.ws.length / s.size:=(Nat.le_div_iff_mul_le (by omega)).2 h4;have h6:e.ws.length / s.size < k:=(Nat.div_lt_iff_lt_mul (by omega)).2 (by omega);omega
 intro j n f hj;rw[h2] at hj;rw[h1,h3]
 rcases Qv hj with ⟨rfl,u1,_⟩|⟨h0,hj⟩
 ·injection u1 with _ u1
  injection u1 with u1
  subst u1;obtain⟨y,y1,y2⟩:=hsub.2;exact⟨((r:Int),q,S'),by simp,hreg.symm,y,y1,y2⟩
 ·obtain⟨x,x1,x2,y,y1,y2⟩:=hP j n f hj;rw[hs] at x1
  rcases Zx x1 with rfl|x1
  ·exact⟨((r:Int),q,S'),by simp,x2,y,hsub.1 y y1,y2⟩
  ·exact⟨x,Um x1,x2,y,y1,y2⟩
structure Vx (s s':CS):Prop where
 par:s'.par=s.par
 sps:s'.sps=s.sps
 size:s'.size=s.size
 tab:∀ (k g:Nat) (e':Q9),s'.tab[k]? = some ⟨g,some e'⟩→∃ e,s.tab[k]? = some ⟨g,some e⟩∧e'.region=e.region∧e'.addr=e.addr∧e'.ws.length=e.ws.length
theorem Vx.refl (s:CS):Vx s s:=⟨rfl,rfl,rfl,fun k g e h=>⟨e,h,rfl,rfl,rfl⟩⟩
theorem Vx.part {s s':CS} (h:Vx s s') (hP:Vt s):Vt s':=by
 intro k g e' hk;obtain⟨e,h1,h2,h3,h4⟩:=h.tab k g e' hk;obtain⟨x,x1,x2,y,y1,y2⟩:=hP k g e h1;rw[h.sps,h.size,h2];exact⟨x,x1,x2,y,y1,y2.alike h3 h4⟩
theorem Vx.set {s:CS} {k g:Nat} {e e':Q9} (hk:s.tab[k]? = some ⟨g,some e⟩) (a:e'.region=e.region∧e'.addr=e.addr∧e'.ws.length=e.ws.length) (R:List ((Int×Int)×Int)):Vx s { VF s k g e' with rem:=R }:=by
 refine⟨rfl,rfl,rfl,fun j n f hj=>?_⟩;have hj:(s.tab.set k ⟨g,some e'⟩)[j]? = some ⟨n,some f⟩:=hj
 rcases Qv hj with ⟨rfl,h1,_⟩|⟨_,h1⟩
 ·injection h1 with h1 h2
  injection h2 with h2
  subst h1 h2;exact⟨e,hk,a⟩
 ·exact⟨f,h1,rfl,rfl,rfl⟩
end Go.Proofs.YtmjdnljneifpcaaGreatDoor
