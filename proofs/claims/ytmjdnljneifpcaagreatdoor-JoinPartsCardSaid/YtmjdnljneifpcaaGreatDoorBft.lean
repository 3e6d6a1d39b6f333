/- Cells: what is proved on the way: every input of the statement; no condition. Texts joined: OpnD. -/
import Derived.Test.YtmjdnljneifpcaaGreatDoorBfs
set_option linter.unusedVariables false
set_option linter.unusedSimpArgs false
set_option linter.constructorNameAsVariable false
set_option maxRecDepth 100000
namespace Go.Proofs.YtmjdnljneifpcaaGreatDoor
open List
open Go.SL Go.ChangeShapes Go.WideShapes Go.ChangeAt Go.RowKit Go.Deep
def dR (W:World) (vW:Value) (ws:List Int):Prop:=∃ (ad:Option Addr) (cap:Nat),vW = .slice ad ws.length cap∧(ws=[]∨∃ b o E fz c,ad=some ⟨b,o,none⟩∧W.heap[b]? = some (.cells (List.toArray c) E fz)∧QY c o (ws.length*1) (Qm ws))
section
variable {H:Type} {enc:TypeId×Value→H} {W:World} {n:Nat} {sp:Nat→Bool} {held:Bool} {base:Nat}
theorem Q0n {cs:List Value} {x:DataW H×List MemPlace} (h:DataW.trod enc Tryz.prog W base sp held n 65 cs=some x):∃ (z1 z2:Int) (vW:Value) (ws:List Int),cs=[.int .i64 z1,.int .i64 z2,vW]∧dR W vW ws:=by
 obtain⟨xs,k,rfl,hx,hl,Qw,hf⟩:=DataW.trod_struct Tryz.underlying65 h;have Vu:cs.length=3:=hl.trans (by kernel_rfl);obtain⟨c0,ct0,rfl,g0⟩:=Vs Vu;obtain⟨c1,ct1,rfl,g1⟩:=Vs g0;obtain⟨c2,ct2,rfl,g2⟩:=Vs g1;obtain rfl:=length_eq_zero_iff.1 g2;obtain⟨y0,yt0,rfl,k0⟩:=Vs Qw;obtain⟨y1,yt1,rfl,k1⟩:=Vs k0;obtain⟨y2,yt2,rfl,k2⟩:=Vs k1;have h0:=hf 0 _ rfl;have h1:=hf 1 _ rfl;have h2:=hf 2 _ rfl;obtain⟨z0,e0,_⟩:=DataW.trod_int Tryz.underlying3 h0;obtain⟨z1,e1,_⟩:=DataW.trod_int Tryz.underlying3 h1;obtain⟨ad,cap,ws,e2,hr⟩:=n8 (v:=c2) h2;refine⟨z0,z1,c2,ws,?_,ad,cap,e2,hr⟩;have e0:[c0]=[.int .i64 z0]:=e0;have e1:[c1]=[.int .i64 z1]:=e1;simp only[List.cons.injEq,and_true] at e0 e1;rw[e0,e1]
theorem Q0o {v:Value} {d:DataW H} {ps:List MemPlace} {r:Reach} {b0:Nat} (hv:Value.okWide Tryz.prog W r b0 65 v) (h:DataW.Trod enc Tryz.prog W 0 (fun _=>true) true 65 v d ps):∃ (z1 z2:Int) (vW:Value) (ws:List Int),v = .agg #[.int .i64 z1,.int .i64 z2,vW]∧dR W vW ws:=by
 obtain⟨cs,rfl,Va⟩:=okWide_struct Tryz.underlying65 hv;obtain⟨fuel,hf⟩:=h;obtain⟨z1,z2,vW,ws,hx,hc⟩:=Q0n hf;refine⟨z1,z2,vW,ws,?_,hc⟩;have:cs.toList=[.int .i64 z1,.int .i64 z2,vW]:=hx;rw[← Array.toArray_toList (xs:=cs),this]
end
theorem Q0p {W:World} {vW:Value} {ws:List Int} (h:dR W vW ws) (fr:List Q2):YM (old W::fr) vW ws.length 1 (Qm ws):=by
 obtain⟨ad,cap,h3,h4⟩:=h;refine⟨YZ _,ad,cap,h3,?_⟩
 rcases h4 with h4|⟨b,o,E,fz,c,rfl,hb,hr⟩
 ·left;rw[h4];rfl
 ·haveI:Hq W b (.cells (List.toArray c) E fz):=⟨hb⟩;exact .inr ⟨b,o,E,fz,c,rfl,inferInstance,hr⟩
end Go.Proofs.YtmjdnljneifpcaaGreatDoor
