/- Cells: what is proved on the way: every input of the statement; no condition. Texts joined: SplQ SplB RefE MovR ChkP JoiD. -/
import Derived.Test.YtmjdnljneifpcaaGreatDoorBcn
import Derived.Test.YtmjdnljneifpcaaGreatDoorBcl
import Derived.Test.YtmjdnljneifpcaaGreatDoorBce
import Derived.Test.YtmjdnljneifpcaaGreatDoorBci
import Derived.Test.YtmjdnljneifpcaaGreatDoorBck
import Derived.Test.YtmjdnljneifpcaaGreatDoorBcm
import Derived.Test.YtmjdnljneifpcaaGreatDoorBcd
set_option linter.unusedVariables false
set_option linter.unusedSimpArgs false
set_option linter.unusedSectionVars false
namespace Go.Proofs.YtmjdnljneifpcaaGreatDoor
open List
open Go.SL
structure Pl where
 k:Nat
 g:Nat
 e:Q7
 a:Nat
def G0 (S:QE) (size:Nat) (e:Q7):Bool:=S.parts.any fun x=>decide (1 < x.2∧x.1≤e.addr / size∧e.addr / size < x.1+x.2)
theorem gY {l:List (Nat×Nat)} (h:(QU l).Nodup) {x y:Nat×Nat} (hx:x∈l) (hy:y∈l) {c:Nat} (h1:x.1≤c) (h2:c < x.1+x.2) (h3:y.1≤c) (h4:c < y.1+y.2):x=y:=by
 obtain⟨A,B,rfl⟩:=append_of_mem hx
 rcases G9 hy with rfl|hy
 ·rfl
 ·exact absurd (Kx hy h3 h4) ((FP h).2 c h1 h2)
theorem P8 {s:CS} (h:WF s) (hnd:(s.par.map (·.1)).Nodup) (hP:Y1 s) {k g:Nat} {e:Q7} (hk:s.tab[k]? = some ⟨g,some e⟩) {b0:Nat} {S:QE} (hSm:(e.region,b0,S)∈s.sps):∃ y∈S.parts,GG s.size y e:=by
 obtain⟨x,x1,x2,y,y1,y2⟩:=hP k g e hk;obtain rfl:x=(e.region,b0,S):=P7 (by rw[h.skeys];exact hnd) x1 hSm x2;exact⟨y,y1,y2⟩
theorem gZ {s:CS} (h:WF s) (hnd:(s.par.map (·.1)).Nodup) (hP:Y1 s) {k g:Nat} {e:Q7} (hk:s.tab[k]? = some ⟨g,some e⟩) {b0:Nat} {S:QE} (hSm:(e.region,b0,S)∈s.sps) (hb:G0 S s.size e=false):e.ws.length+1≤s.size:=by
 obtain⟨y,y1,y2⟩:=P8 h hnd hP hk hSm
 rcases y2 with ⟨h1,h2,h3⟩|⟨h1,h2,h3⟩
 ·rw[Nat.add_mul] at h3;unfold QJ at h3;omega
 ·exfalso;have hs:=h.size.1;have h4:e.addr / s.size=y.1:=by rw[h2];exact Nat.mul_div_cancel _ (by omega)
  have:G0 S s.size e=true:=any_eq_true.2 ⟨y,y1,decide_eq_true ⟨by omega,by omega,by omega⟩⟩;rw[hb] at this;cases this
theorem gG {s:CS} (h:WF s) (hnd:(s.par.map (·.1)).Nodup) (hP:Y1 s) {k g:Nat} {e:Q7} (hk:s.tab[k]? = some ⟨g,some e⟩) {b0:Nat} {S:QE} (hSm:(e.region,b0,S)∈s.sps) (hb:G0 S s.size e=true):∃ y∈S.parts,2≤y.2∧GG s.size y e:=by
 obtain⟨x,x1,x2⟩:=any_eq_true.1 hb;obtain⟨x3,x4,x5⟩:=of_decide_eq_true x2;obtain⟨y,y1,y2⟩:=P8 h hnd hP hk hSm;obtain⟨y3,y4⟩:=y2.chunk h.size.1 (Nat.le_refl _) (Nat.div_le_div_right (by omega));obtain rfl:=gY (h.spc _ hSm).nodup x1 y1 x4 x5 y3 y4;exact⟨x,x1,x3,y2⟩
structure YT (s:CS) (r:Nat) (S:QE) (Z:List Pl) (mem own' mem':List Nat) (T:QE):Prop where
 parts:∀ p∈T.parts,p.2=1∧s.own[p.1]? = some 0
 nd:(QU T.parts).Nodup
 at1:T.at'≤T.fin
 fin:T.fin≠0→∃ c,T.fin=(c+1)*s.size∧c*s.size < T.at'∧(c,1)∈T.parts
 ol:own'.length=s.own.length
 og:∀ j,own'.getD j 0=if j∈QU T.parts then r else s.own.getD j 0
 ml:mem'.length=mem.length
 mg:∀ a x,s.own[a / s.size]? = some x→x≠0→mem'[a]? = mem[a]?
 few:T.parts.length≤Z.length
 sit:∀ z∈Z,(G0 S s.size z.e=true∧z.a=z.e.addr)∨(G0 S s.size z.e=false∧Ky s.size T z.a (z.e.ws.length+1))
 apart:Z.Pairwise fun x y=>G0 S s.size x.e=false→G0 S s.size y.e=false→x.a+(x.e.ws.length+1)≤y.a∨y.a+(y.e.ws.length+1)≤x.a
theorem YT.start (s:CS) (r:Nat) (S:QE) (mem:List Nat):YT s r S [] mem s.own mem ⟨[],0,0⟩:=
 ⟨fun p hp=>(by cases hp),by simp[QU],Nat.le_refl _,fun h=>absurd rfl h,rfl,fun j=>by rw[if_neg (by simp[QU])],rfl,fun _ _ _ _=>rfl,Nat.le_refl _,fun z hz=>(by cases hz),.nil⟩
theorem YT.big {s:CS} {r:Nat} {S T:QE} {Z:List Pl} {mem own' mem':List Nat} (h:YT s r S Z mem own' mem' T) {z:Pl} (hb:G0 S s.size z.e=true) (ha:z.a=z.e.addr):YT s r S (Z++[z]) mem own' mem' T:=by
 refine⟨h.parts,h.nd,h.at1,h.fin,h.ol,h.og,h.ml,h.mg,by rw[length_append];have:=h.few;omega,fun y hy=>?_,?_⟩
 ·rcases mem_append.1 hy with hy|hy
  ·exact h.sit y hy
  ·rw[mem_singleton] at hy;subst hy;exact .inl ⟨hb,ha⟩
 ·rw[pairwise_append];refine⟨h.apart,by simp,fun x hx y hy h1 h2=>?_⟩;rw[mem_singleton] at hy;subst hy;rw[hb] at h2;cases h2
theorem YT.small {s:CS} (hw:WF s) {r:Nat} (hr:1≤r) {S T T':QE} {Z:List Pl} {mem own' mem' own2 mem2:List Nat} (h:YT s r S Z mem own' mem' T) (hml:mem.length=s.own.length*s.size) {z:Pl} (hb:G0 S s.size z.e=false) (hn:z.e.ws.length+1≤s.size)
  (al:UG s.size own' mem' r T (z.e.ws.length+1) own2 mem2 T' z.a):YT s r S (Z++[z]) mem own2 mem2 T':=by
 have hs1:=hw.size.1;obtain⟨zk,zg,e,a⟩:=z;have hb:G0 S s.size e=false:=hb;have hn:e.ws.length+1≤s.size:=hn;have al:UG s.size own' mem' r T (e.ws.length+1) own2 mem2 T' a:=al
 have fin2:∀ {U:QE},(∀ z∈Z,G0 S s.size z.e=false→Ky s.size U z.a (z.e.ws.length+1)∧(z.a+(z.e.ws.length+1)≤a∨a+(e.ws.length+1)≤z.a))→Ky s.size U a (e.ws.length+1) →
   (∀ z∈Z++[Pl.mk zk zg e a],(G0 S s.size z.e=true∧z.a=z.e.addr)∨(G0 S s.size z.e=false∧Ky s.size U z.a (z.e.ws.length+1))) ∧
   (Z++[Pl.mk zk zg e a]).Pairwise fun x y=>G0 S s.size x.e=false→G0 S s.size y.e=false→x.a+(x.e.ws.length+1)≤y.a∨y.a+(y.e.ws.length+1)≤x.a:=by
  intro U h1 h2;constructor
  ·intro y hy
   rcases mem_append.1 hy with hy|hy
   ·rcases h.sit y hy with h3|⟨h3,_⟩
    ·exact .inl h3
    ·exact .inr ⟨h3,(h1 y hy h3).1⟩
   ·rw[mem_singleton] at hy;subst hy;exact .inr ⟨hb,h2⟩
  ·rw[pairwise_append];refine⟨h.apart,by simp,fun x hx y hy h3 h4=>?_⟩;rw[mem_singleton] at hy;subst hy;exact(h1 x hx h3).2
 have hsit:∀ z∈Z,G0 S s.size z.e=false→Ky s.size T z.a (z.e.ws.length+1):=fun z hz h1=>by
  rcases h.sit z hz with ⟨h2,_⟩|⟨_,h2⟩
  ·rw[h1] at h2;cases h2
  ·exact h2
 cases al with
 | room hroom=>
  have hf0:T.fin≠0:=by omega
  obtain⟨c,hc1,hc2,hc3⟩:=h.fin hf0
  obtain⟨f1,f2⟩:=fin2 (U:={ T with at':=T.at'+(e.ws.length+1) }) (fun z hz h1=>by
   obtain⟨d,d1,d2,d3,d4⟩:=hsit z hz h1;refine⟨⟨d,d1,d2,d3,?_⟩,?_⟩
   ·show _≤T.at'+(e.ws.length+1)∨_
    rcases d4 with d4|d4
    ·left;omega
    ·exact .inr d4
   ·rcases d4 with d4|d4
    ·exact .inl d4
    ·right;omega) ⟨c,hc3,by omega,by rw[← hc1];omega,.inl (Nat.le_refl _)⟩
  refine⟨h.parts,h.nd,by show T.at'+_≤T.fin;omega,fun _=>⟨c,hc1,by show c*s.size < T.at'+_;omega,hc3⟩,h.ol,h.og,h.ml,h.mg,by rw[length_append];have:=h.few;show T.parts.length≤_;omega,f1,f2⟩
 | @one c hc hf hn'=>
  have hcl:c < own'.length:=hc
  have hnT:c∉QU T.parts:=fun h1=>by
   have h2:=h.og c;rw[if_pos h1,getD_eq_getElem?_getD,hf] at h2;have h2:(0:Nat)=r:=h2;omega
  have hs0:s.own[c]? = some 0:=by
   have h2:=h.og c;rw[if_neg hnT,getD_eq_getElem?_getD,hf,getD_eq_getElem?_getD,getElem?_eq_getElem (by rw[← h.ol];exact hcl)] at h2;rw[getElem?_eq_getElem (by rw[← h.ol];exact hcl)];have h2:(0:Nat)=s.own[c]'(by rw[← h.ol];exact hcl):=h2;rw[← h2]
  have hsz:(c+1)*s.size=c*s.size+s.size:=Nat.succ_mul _ _;have hle:(c+1)*s.size≤s.own.length*s.size:=Nat.mul_le_mul_right _ (by rw[← h.ol];exact hcl)
  obtain⟨f1,f2⟩:=fin2 (U:=⟨T.parts++[(c,1)],c*s.size+(e.ws.length+1),(c+1)*s.size⟩) (fun z hz h1=>by
   obtain⟨d,d1,d2,d3,d4⟩:=hsit z hz h1;have hdc:d≠c:=fun h2=>hnT (h2▸Kx d1 (Nat.le_refl _) (Nat.lt_succ_self _))
   rcases Nat.lt_or_gt_of_ne hdc with h2|h2
   ·have h3:(d+1)*s.size≤c*s.size:=Nat.mul_le_mul_right _ h2;exact⟨⟨d,mem_append.2 (.inl d1),d2,d3,.inl (by show _≤c*s.size+_;omega)⟩,.inl (by omega)⟩
   ·have h3:(c+1)*s.size≤d*s.size:=Nat.mul_le_mul_right _ h2;exact⟨⟨d,mem_append.2 (.inl d1),d2,d3,.inr (by show (c+1)*s.size≤_;omega)⟩,.inr (by omega)⟩) ⟨c,by simp,Nat.le_refl _,by omega,.inl (Nat.le_refl _)⟩
  refine⟨fun p hp=>?_,?_,by show c*s.size+_≤(c+1)*s.size;omega,fun _=>⟨c,rfl,by show c*s.size < c*s.size+_;omega,by simp⟩,by rw[Vz hc];exact h.ol,fun j=>?_,?_,fun i x h1 h2=>?_,by have:=h.few;simp only[length_append,length_cons,length_nil];omega,f1,f2⟩
  ·rcases mem_append.1 (show p∈T.parts++[(c,1)] from hp) with hp|hp
   ·exact h.parts p hp
   ·rw[mem_singleton] at hp;subst hp;exact⟨rfl,hs0⟩
  ·show (QU (T.parts++[(c,1)])).Nodup;rw[Gd,K2,nodup_append];refine⟨h.nd,IV c 1,fun x hx y hy hxy=>?_⟩;subst hxy;have:=Ge.1 hy;obtain rfl:x=c:=by omega
   exact hnT hx
  ·show _=if j∈QU (T.parts++[(c,1)]) then r else _;rw[Rk hc,h.og,Gd,K2];by_cases h1:c≤j∧j < c+1
   ·rw[if_pos h1,if_pos (mem_append.2 (.inr (Ge.2 h1)))]
   ·rw[if_neg h1];by_cases h2:j∈QU T.parts
    ·rw[if_pos h2,if_pos (mem_append.2 (.inl h2))]
    ·rw[if_neg h2,if_neg];intro h3
     rcases mem_append.1 h3 with h3|h3
     ·exact h2 h3
     ·exact h1 (Ge.1 h3)
  ·rw[Vz (by rw[h.ml,hml,Nat.one_mul];omega)];exact h.ml
  ·rw[Zt (by rw[h.ml,hml,Nat.one_mul];omega),if_neg]
   ·exact h.mg i x h1 h2
   ·rintro⟨h3,h4⟩;have:i / s.size=c:=Nat.div_eq_of_lt_le (by omega) (by omega);rw[this,hs0] at h1;injection h1 with h1
    exact h2 h1.symm
 | @run c k hk hc hf hn1 hn2=>
  exfalso;have:1*s.size≤(k - 1)*s.size:=Nat.mul_le_mul_right _ (by omega);omega
theorem gU {s:CS} (h:WF s) {r:Nat} {S T:QE} {Z:List Pl} {mem own' mem':List Nat} (hA:YT s r S Z mem own' mem' T) (hl:s.par.length < 64) (hlast:s.last+1 < 1000000) {own2:List Nat} (hol:own2.length=own'.length) (hog:∀ j,own2.getD j 0=if j∈QU T.parts then s.last+1 else own'.getD j 0) (bs bm:Nat) :
  WF { s with own:=own2,last:=s.last+1,par:=s.par++[(((s.last+1:Nat):Int),(r:Int))],sps:=s.sps++[(((s.last+1:Nat):Int),bs,T)],mns:=s.mns++[(((s.last+1:Nat):Int),bm,[])] }:=by
 have hup:∀ r x,(r,x)∈s.par→r≠((s.last+1:Nat):Int):=fun r x hx=>by
  have:=(h.par.2.2 r x hx).2;omega
 have hs1:=h.size.1
 have hfree:∀ c,c∈QU T.parts→s.own[c]? = some 0:=fun c hc=>by
  obtain⟨y,y1,y2,y3⟩:=Cx.1 hc;obtain⟨y4,y5⟩:=hA.parts y y1;obtain rfl:c=y.1:=by omega
  exact y5
 have hog2:∀ j,own2.getD j 0=if j∈QU T.parts then s.last+1 else s.own.getD j 0:=fun j=>by
  rw[hog,hA.og];split <;> rfl
 have hol2:own2.length=s.own.length:=hol.trans hA.ol
 have hkeep:∀ (d y:Nat),s.own[d]? = some y→y≠0→own2[d]? = some y:=fun d y h1 h2=>by
  have hd:=(List.getElem?_eq_some_iff.1 h1).1;have h3:=hog2 d;rw[if_neg (fun h4=>by rw[hfree d h4] at h1;injection h1 with h1;exact h2 h1.symm),getD_eq_getElem?_getD,getD_eq_getElem?_getD,h1,getElem?_eq_getElem (by omega)] at h3;rw[getElem?_eq_getElem (by omega)];exact congrArg some h3
 have hback:∀ (d y:Nat),own2[d]? = some y→y≠0→(d∈QU T.parts∧y=s.last+1)∨s.own[d]? = some y:=fun d y h1 h2=>by
  have hd:=(List.getElem?_eq_some_iff.1 h1).1;have h3:=hog2 d;rw[getD_eq_getElem?_getD,h1] at h3;by_cases h4:d∈QU T.parts
  ·rw[if_pos h4] at h3;exact .inl ⟨h4,h3⟩
  ·rw[if_neg h4,getD_eq_getElem?_getD,getElem?_eq_getElem (by omega)] at h3;rw[getElem?_eq_getElem (by omega)];exact .inr (congrArg some h3.symm)
 refine⟨h.size,by show 1≤own2.length∧own2.length≤63;rw[hol2];exact h.own,h.slots,h.lays,h.gen,fun i g e hi=>?_,h.apart,⟨by show (s.par++[_]).length≤64;simp;omega,hlast,?_⟩,?_,?_,fun x hx=>?_,fun x hx i g e hi=>?_,fun c x hc h0=>?_,?_⟩
 ·obtain⟨a,⟨b1,b2⟩,y,hy⟩:=h.obj i g e hi;refine⟨a,⟨by show _≤own2.length*_;rw[hol2];exact b1,fun d d1 d2=>?_⟩,y,mem_append.2 (.inl hy)⟩;obtain⟨x,x1,x2,x3⟩:=b2 d d1 d2;exact⟨x,hkeep d x x1 (by omega),x2,x3⟩
 ·intro r x hx;have hx:(r,x)∈s.par++[_]:=hx;show 1≤r∧r≤((s.last+1:Nat):Int)
  rcases mem_append.1 hx with hx|hx
  ·have:=h.par.2.2 r x hx;omega
  ·simp at hx;omega
 ·have:=h.skeys;simp[this]
 ·have:=h.mkeys;simp[this]
 ·rcases mem_append.1 (show x∈s.sps++[_] from hx) with hx|hx
  ·obtain⟨a1,a2,a3,a4,a5⟩:=h.spc x hx;have hxk:x.1∈s.par.map (·.1):=by rw[← h.skeys];exact mem_map.2 ⟨x,hx,rfl⟩
   obtain⟨⟨x',z⟩,z1,z2⟩:=mem_map.1 hxk;have hne:x.1≠((s.last+1:Nat):Int):=by rw[← z2];exact hup _ _ z1
   refine⟨a1,a2,fun y hy=>by rw[hol2];exact a3 y hy,a4,fun c=>?_⟩;rw[a5];constructor
   ·rintro⟨y,y1,y2,y3⟩;exact⟨y,hkeep c y y1 y3,y2,y3⟩
   ·rintro⟨y,y1,y2,y3⟩
    rcases hback c y y1 y3 with ⟨_,h2⟩|h2
    ·exact absurd (by rw[← y2,h2]) hne
    ·exact⟨y,h2,y2,y3⟩
  ·rw[mem_singleton] at hx;subst hx;refine⟨hA.at1,hA.fin,fun y hy=>?_,hA.nd,fun c=>?_⟩
   ·obtain⟨y1,y2⟩:=hA.parts y hy;have:=(List.getElem?_eq_some_iff.1 y2).1;rw[hol2];omega
   ·constructor
    ·intro hc;have hcl:=(List.getElem?_eq_some_iff.1 (hfree c hc)).1;have h3:=hog2 c;have hcl2:c < own2.length:=by omega
     rw[if_pos hc,getD_eq_getElem?_getD,getElem?_eq_getElem hcl2] at h3;exact⟨s.last+1,by show own2[c]? = _;rw[getElem?_eq_getElem hcl2];exact congrArg some h3,rfl,by omega⟩
    ·rintro⟨y,y1,y2,y3⟩
     rcases hback c y y1 y3 with ⟨h2,_⟩|h2
     ·exact h2
     ·obtain⟨z,hz⟩:=h.live c y h2 y3;exact absurd y2 (hup _ _ hz)
 ·rcases mem_append.1 (show x∈s.sps++[_] from hx) with hx|hx
  ·exact h.free x hx i g e hi
  ·rw[mem_singleton] at hx;subst hx;show QJ e≤T.at'∨T.fin≤e.addr;by_cases h0:T.fin=0
   ·right;omega
   obtain⟨c,c1,c2,c3⟩:=hA.fin h0
   rcases (h.obj i g e hi).2.1.chunk hs1 c with (h1|h1)|⟨y,y1,_,y3⟩
   ·left;omega
   ·right;omega
   ·rw[(hA.parts _ c3).2] at y1;injection y1 with y1
    omega
 ·rcases hback c x hc h0 with ⟨_,h1⟩|h1
  ·exact⟨(r:Int),mem_append.2 (.inr (by rw[h1];simp))⟩
  ·obtain⟨y,hy⟩:=h.live c x h1 h0;exact⟨y,mem_append.2 (.inl hy)⟩
 ·intro x hx
  rcases mem_append.1 (show x∈s.mns++[_] from hx) with hx|hx
  ·exact h.mine x hx
  ·rw[mem_singleton] at hx;subst hx;refine⟨by simp,fun i=>⟨fun hc=>by simp at hc,?_⟩⟩;rintro⟨g,e,h1,h2⟩;obtain⟨_,_,y,hy⟩:=h.obj _ _ _ h1;exact absurd h2 (hup _ _ hy)
theorem P9 {s s':CS} (h:WF s) {r:Nat} {S T:QE} {Z:List Pl} {mem own' mem':List Nat} (hA:YT s r S Z mem own' mem' T) (m:Va s mem) (h1:s'.own.length=s.own.length) (h2:s'.size=s.size) (h3:s'.tab=s.tab):Va s' mem':=by
 have hs1:=h.size.1;refine⟨by rw[h1,h2,hA.ml];exact m.len,fun i g e hi=>?_,fun i g e hi p w hp=>?_⟩
 ·rw[h3] at hi;obtain⟨x,x1,_,x3⟩:=(h.obj i g e hi).2.1.2 (e.addr / s.size) (Nat.le_refl _) (Nat.div_le_div_right (by omega));rw[hA.mg _ x x1 (by omega)];exact m.head i g e hi
 ·rw[h3] at hi;have hpl:=(List.getElem?_eq_some_iff.1 hp).1;obtain⟨x,x1,_,x3⟩:=(h.obj i g e hi).2.1.2 ((e.addr+1+p) / s.size) (Nat.div_le_div_right (by omega)) (Nat.div_le_div_right (by omega));rw[hA.mg _ x x1 (by omega)];exact m.words i g e hi p w hp
theorem YT.beside {s:CS} (h:WF s) {r:Nat} {S T:QE} {Z:List Pl} {mem own' mem':List Nat} (hA:YT s r S Z mem own' mem' T) {a n:Nat} (hs:Ky s.size T a n) {j g:Nat} {f:Q7} (hj:s.tab[j]? = some ⟨g,some f⟩):QJ f≤a∨a+n≤f.addr:=by
 obtain⟨c,c1,c2,c3,_⟩:=hs
 rcases (h.obj j g f hj).2.1.chunk h.size.1 c with (h1|h1)|⟨y,y1,_,y3⟩
 ·left;omega
 ·right;omega
 ·rw[(hA.parts _ c1).2] at y1;injection y1 with y1
  omega
def Yi (id:Int) (Z:List Pl) (k:Nat) (e:Q7):Q7:=match Z.find? (fun z=>z.k == k) with
 | some z=>{ e with region:=id,addr:=z.a }
 | none=>e
theorem PQ (id:Int) (Z:List Pl) (k:Nat) (e:Q7):(Yi id Z k e).lay=e.lay∧(Yi id Z k e).count=e.count∧(Yi id Z k e).ws=e.ws∧(Yi id Z k e).held=e.held∧(Yi id Z k e).pinned=e.pinned:=by
 unfold Yi;split <;> exact⟨rfl,rfl,rfl,rfl,rfl⟩
theorem JK {Z:List Pl} {k:Nat} (h:k∉Z.map Pl.k):Z.find? (fun z=>z.k == k)=none:=by
 rw[find?_eq_none];intro z hz h1;exact h (mem_map.2 ⟨z,hz,by simpa using h1⟩)
theorem Cy {id:Int} {Z:List Pl} {k:Nat} (h:k∉Z.map Pl.k) (e:Q7):Yi id Z k e=e:=by
 unfold Yi;rw[JK h]
theorem gX {id:Int} {Z:List Pl} {z:Pl} {k:Nat} (h:k≠z.k) (e:Q7):Yi id (Z++[z]) k e=Yi id Z k e:=by
 unfold Yi;rw[find?_append,find?_cons_of_neg (by simpa using fun h1=>h h1.symm),find?_nil,Option.or_none]
theorem gK {id:Int} {Z:List Pl} {z:Pl} (h:z.k∉Z.map Pl.k) (e:Q7):Yi id (Z++[z]) z.k e={ e with region:=id,addr:=z.a }:=by
 unfold Yi;rw[find?_append,JK h,find?_cons_of_pos (by simp),Option.none_or]
theorem JR {id:Int} {Z:List Pl} (hnd:(Z.map Pl.k).Nodup) {z:Pl} (hz:z∈Z) (e:Q7):Yi id Z z.k e={ e with region:=id,addr:=z.a }:=by
 obtain⟨A,B,rfl⟩:=append_of_mem hz;rw[map_append,map_cons,nodup_append] at hnd;have h1:z.k∉A.map Pl.k:=fun h=>hnd.2.2 _ h _ mem_cons_self rfl;unfold Yi;rw[find?_append,JK h1,find?_cons_of_pos (by simp),Option.none_or]
def gR (s:CS) (r:Int) (S T:QE) (z:Pl):Prop:=s.tab[z.k]? = some ⟨z.g,some z.e⟩∧z.e.region=r ∧
 ((z.a=z.e.addr∧∃ y∈S.parts,2≤y.2∧GG s.size y z.e)∨(z.a≠z.e.addr∧Ky s.size T z.a (z.e.ws.length+1)∧∀ (j n:Nat) (f:Q7),s.tab[j]? = some ⟨n,some f⟩→QJ f≤z.a∨z.a+(z.e.ws.length+1)≤f.addr))
structure Um (s:CS) (r:Int) (id:Nat) (Zd Zp:List Pl) (s':CS) (S T:QE):Prop where
 size:s'.size=s.size
 own:s'.own.length=s.own.length
 lays:s'.lays=s.lays
 last:s'.last=s.last+1
 par:s'.par=s.par++[((id:Int),r)]
 rem:s'.rem=s.rem
 tabl:s'.tab.length=s.tab.length
 tab:∀ (k:Nat) (t:QX),s.tab[k]? = some t→s'.tab[k]? = some ⟨t.gen,t.ent.map (Yi id Zd k)⟩
 part:Y1 s'
 pend:∀ z∈Zp,gR s' r S T z
 apart:Zp.Pairwise fun x y=>x.a≠x.e.addr→y.a≠y.e.addr→x.a+(x.e.ws.length+1)≤y.a∨y.a+(y.e.ws.length+1)≤x.a
 keys:((Zd++Zp).map Pl.k).Nodup
 zero:Zd++Zp=[]→s'.own=s.own
theorem PY {s s':CS} {id:Nat} {Zd:List Pl} (htl:s'.tab.length=s.tab.length) (ht:∀ (k:Nat) (t:QX),s.tab[k]? = some t→s'.tab[k]? = some ⟨t.gen,t.ent.map (Yi id Zd k)⟩) {z:Pl} (hz:s'.tab[z.k]? = some ⟨z.g,some z.e⟩) (hk:z.k∉Zd.map Pl.k)
  (k:Nat) (t:QX) (hkt:s.tab[k]? = some t):(s'.tab.set z.k ⟨z.g,some { z.e with region:=(id:Int),addr:=z.a }⟩)[k]? = some ⟨t.gen,t.ent.map (Yi id (Zd++[z]) k)⟩:=by
 have h1:=ht k t hkt;have hkl:=(List.getElem?_eq_some_iff.1 h1).1;obtain⟨g0,e0⟩:=t;by_cases hkz:z.k=k
 ·subst hkz;rw[hz] at h1;injection h1 with h1
  injection h1 with h2 h3
  rw[getElem?_set_self hkl,h2];cases e0 with
  | none=>cases h3
  | some e=>
   injection h3 with h3
   rw[Cy hk] at h3;subst h3;show _=some (QX.mk g0 (some (Yi id (Zd++[z]) z.k z.e)));rw[gK hk]
 ·rw[getElem?_set_ne hkz,h1];cases e0 with
  | none=>rfl
  | some e=>
   show some (QX.mk g0 (some (Yi id Zd k e)))=some (QX.mk g0 (some (Yi id (Zd++[z]) k e)));rw[gX (fun h=>hkz h.symm)]
theorem Um.facts {s:CS} {r:Int} {id:Nat} {Zd Zp:List Pl} {z:Pl} {s':CS} {S T:QE} (h:Um s r id Zd (z::Zp) s' S T):z.k∉Zd.map Pl.k∧(∀ y∈Zp,y.k≠z.k)∧((Zd++[z]++Zp).map Pl.k).Nodup:=by
 have h1:=h.keys;refine⟨fun h2=>?_,fun y hy h2=>?_,by rw[append_assoc];exact h1⟩
 ·rw[map_append,nodup_append] at h1;exact h1.2.2 _ h2 z.k (by simp) rfl
 ·rw[map_append,nodup_append,map_cons,nodup_cons] at h1;exact h1.2.1.1 (h2▸mem_map.2 ⟨y,hy,rfl⟩)
theorem Um.shift {s:CS} {r:Int} {id:Nat} {Zd Zp:List Pl} {z:Pl} {s' s2:CS} {S T:QE} (h:Um s r id Zd (z::Zp) s' S T) (hza:z.a≠z.e.addr) {bs:Nat} (hT:((id:Int),bs,T)∈s'.sps)
  (h1:s2.size=s'.size) (h2:s2.own=s'.own) (h3:s2.lays=s'.lays) (h4:s2.last=s'.last) (h5:s2.par=s'.par) (h6:s2.rem=s'.rem) (h7:s2.tab=s'.tab.set z.k ⟨z.g,some { z.e with region:=(id:Int),addr:=z.a }⟩) (h8:s2.sps=s'.sps):Um s r id (Zd++[z]) Zp s2 S T:=by
 obtain⟨hk1,hk2,hk3⟩:=h.facts;obtain⟨q1,q2,q3⟩:=h.pend z mem_cons_self
 rcases q3 with ⟨q3,_⟩|⟨_,q4,q5⟩
 ·exact absurd q3 hza
 have hap:=h.apart;rw[pairwise_cons] at hap;refine⟨h1.trans h.size,by rw[h2];exact h.own,h3.trans h.lays,h4.trans h.last,h5.trans h.par,h6.trans h.rem,by rw[h7,length_set];exact h.tabl,fun k t hk=>by rw[h7];exact PY h.tabl h.tab q1 hk1 k t hk,fw h.part (bs:=bs) (T:=T) (by rw[h8];exact hT) q4 h1 h7 h8,fun y hy=>?_,hap.2,hk3,fun h0=>by simp at h0⟩;obtain⟨y1,y2,y3⟩:=h.pend y (mem_cons_of_mem _ hy);refine⟨by rw[h7,getElem?_set_ne (fun h=>hk2 y hy h.symm)];exact y1,y2,?_⟩;rw[h1]
 rcases y3 with y3|⟨y3,y4,y5⟩
 ·exact .inl y3
 ·refine .inr ⟨y3,y4,fun j n f hj=>?_⟩;rw[h7] at hj
  rcases V3 hj with ⟨rfl,u1,_⟩|⟨h0,hj⟩
  ·injection u1 with _ u1
   injection u1 with u1
   subst u1;have:=hap.1 y hy hza y3;show z.a+1+z.e.ws.length≤y.a∨_≤z.a;omega
  ·exact y5 j n f hj
theorem Um.hand {s:CS} {r:Int} {id:Nat} {Zd Zp:List Pl} {z:Pl} {s' s2:CS} {S T:QE} (h:Um s r id Zd (z::Zp) s' S T) (hw:WF s') (hnd:(s'.par.map (·.1)).Nodup) (hza:z.a=z.e.addr)
  {p1 p2:List (Int×Nat×QE)} {b0 bs:Nat} (hsps:s'.sps=p1++(r,b0,S)::(p2++[((id:Int),bs,T)])) {A B:List (Nat×Nat)} {c n:Nat} (hp:S.parts=A++(c,n)::B) (hn:2≤n) (hin:GG s'.size (c,n) z.e)
  (h1:s2.size=s'.size) (h2:s2.own.length=s'.own.length) (h3:s2.lays=s'.lays) (h4:s2.last=s'.last) (h5:s2.par=s'.par) (h6:s2.rem=s'.rem) (h7:s2.tab=s'.tab.set z.k ⟨z.g,some { z.e with region:=(id:Int),addr:=z.e.addr }⟩)
  (h8:s2.sps=p1++(r,b0,{ S with parts:=A++B })::(p2++[((id:Int),bs,{ T with parts:=T.parts++[(c,n)] })])):Um s r id (Zd++[z]) Zp s2 { S with parts:=A++B } { T with parts:=T.parts++[(c,n)] }:=by
 obtain⟨hk1,hk2,hk3⟩:=h.facts;obtain⟨q1,q2,q3⟩:=h.pend z mem_cons_self;have hap:=h.apart;rw[pairwise_cons] at hap;have hSm:(r,b0,S)∈s'.sps:=by rw[hsps];simp
 refine⟨h1.trans h.size,by rw[h2];exact h.own,h3.trans h.lays,h4.trans h.last,h5.trans h.par,h6.trans h.rem,by rw[h7,length_set];exact h.tabl,fun k t hk=>by rw[h7,← hza];exact PY h.tabl h.tab q1 hk1 k t hk,gV hw h.part q1 q2 hnd hsps hp hn hin h1 h7 h8,fun y hy=>?_,hap.2,hk3,fun h0=>by simp at h0⟩;obtain⟨y1,y2,y3⟩:=h.pend y (mem_cons_of_mem _ hy);refine⟨by rw[h7,getElem?_set_ne (fun h=>hk2 y hy h.symm)];exact y1,y2,?_⟩;rw[h1]
 rcases y3 with ⟨y3,x,x1,x2,x3⟩|⟨y3,⟨d,d1,d2,d3,d4⟩,y5⟩
 ·refine .inl ⟨y3,x,?_,x2,x3⟩;rw[hp] at x1
  rcases G9 x1 with rfl|x1
  ·exfalso;have hd1:y.e.addr / s'.size≤y.e.addr / s'.size:=Nat.le_refl _;have hd2:y.e.addr / s'.size≤(y.e.addr+y.e.ws.length) / s'.size:=Nat.div_le_div_right (by omega);exact JX hw h.part hnd q1 (S:=S) (b0:=b0) (by rw[q2];exact hSm) hp hn hin (hk2 y hy) y1 hd1 hd2 (x3.chunk hw.size.1 hd1 hd2)
  ·exact x1
 ·refine .inr ⟨y3,⟨d,mem_append.2 (.inl d1),d2,d3,d4⟩,fun j m f hj=>?_⟩;rw[h7] at hj
  rcases V3 hj with ⟨rfl,u1,_⟩|⟨h0,hj⟩
  ·injection u1 with _ u1
   injection u1 with u1
   subst u1;exact(y5 z.k z.g z.e q1:QJ z.e≤y.a∨y.a+(y.e.ws.length+1)≤z.e.addr)
  ·exact y5 j m f hj
theorem gW {s:CS} {r:Nat} {S T:QE} {Z:List Pl} {mem own' mem' own2:List Nat} {n:Nat} (hA:YT s r S Z mem own' mem' T) (hl:own2.length=own'.length) (hg:∀ j,own2.getD j 0=if j∈QU T.parts then n else own'.getD j 0) (hZ:Z=[]):own2=s.own:=by
 have h1:=hA.few;rw[hZ] at h1;have h2:T.parts=[]:=eq_nil_of_length_eq_zero (Nat.le_zero.1 h1);have h3:∀ j,j∉QU T.parts:=fun j h=>by rw[h2] at h;simp[QU] at h
 have h4:own2.length=s.own.length:=hl.trans hA.ol;refine ext_getElem h4 fun j j1 j2=>?_;have h5:=hg j;rw[if_neg (h3 j),hA.og,if_neg (h3 j),getD_eq_getElem?_getD,getD_eq_getElem?_getD,getElem?_eq_getElem j1,getElem?_eq_getElem j2] at h5;exact h5
theorem gA {s:CS} (hw:WF s) (hnd:(s.par.map (·.1)).Nodup) (hP:Y1 s) {r:Nat} {b0:Nat} {S T:QE} (hSm:((r:Int),b0,S)∈s.sps) {Z:List Pl} {mem own' mem':List Nat} (hA:YT s r S Z mem own' mem' T)
  (hents:∀ z∈Z,s.tab[z.k]? = some ⟨z.g,some z.e⟩∧z.e.region=(r:Int)) (hkeys:(Z.map Pl.k).Nodup) {own2:List Nat} (hol:own2.length=s.own.length) (h00:Z=[]→own2=s.own) (bs bm:Nat) :
  Um s r (s.last+1) [] Z { s with own:=own2,last:=s.last+1,par:=s.par++[(((s.last+1:Nat):Int),(r:Int))],sps:=s.sps++[(((s.last+1:Nat):Int),bs,T)],mns:=s.mns++[(((s.last+1:Nat):Int),bm,[])] } S T:=by
 have hsm:∀ z∈Z,z.a≠z.e.addr→G0 S s.size z.e=false:=fun z hz h1=>by
  rcases hA.sit z hz with ⟨_,h2⟩|⟨h2,_⟩
  ·exact absurd h2 h1
  ·exact h2
 refine⟨rfl,hol,rfl,rfl,rfl,rfl,rfl,fun k t hk=>?_,fun k g e hk=>?_,fun z hz=>?_,?_,hkeys,h00⟩
 ·show s.tab[k]? = _;rw[hk];obtain⟨g,e⟩:=t;cases e <;> rfl
 ·obtain⟨x,x1,x2,x3⟩:=hP k g e hk;exact⟨x,mem_append.2 (.inl x1),x2,x3⟩
 ·obtain⟨h1,h2⟩:=hents z hz;have hSm':(z.e.region,b0,S)∈s.sps:=by rw[h2];exact hSm
  refine⟨h1,h2,?_⟩
  rcases hA.sit z hz with ⟨h3,h4⟩|⟨h3,h4⟩
  ·exact .inl ⟨h4,gG hw hnd hP h1 hSm' h3⟩
  ·refine .inr ⟨fun h5=>?_,h4,fun j n f hj=>hA.beside hw h4 hj⟩;have:=hA.beside hw h4 h1;unfold QJ at this;omega
 ·exact hA.apart.imp_of_mem fun hx hy h1 h2 h3=>h1 (hsm _ hx h2) (hsm _ hy h3)
structure BZ (s:CS) (r:Int) (Z:List Pl) (s':CS):Prop where
 size:s'.size=s.size
 own:s'.own.length=s.own.length
 lays:s'.lays=s.lays
 last:s'.last=s.last+1
 par:s'.par=s.par++[(((s.last+1:Nat):Int),r)]
 tabl:s'.tab.length=s.tab.length
 tab:∀ (k:Nat) (t:QX),s.tab[k]? = some t→s'.tab[k]? = some ⟨t.gen,t.ent.map (Yi ((s.last+1:Nat):Int) Z k)⟩
 ents:∀ z∈Z,s.tab[z.k]? = some ⟨z.g,some z.e⟩∧z.e.region=r
 keys:(Z.map Pl.k).Nodup
 rem:∃ D,Oy s' (fun k=>∃ g e,s'.tab[k]? = some ⟨g,some e⟩∧(e.region=r∨e.region=((s.last+1:Nat):Int))) D∧ZL s' s.rem D s'.rem
 part:Y1 s'
 zero:Z=[]→s'.own=s.own
theorem BZ.mv {s s':CS} {r:Int} {Z:List Pl} (h:BZ s r Z s'):Ul s s' (Yi ((s.last+1:Nat):Int) Z):=⟨h.lays,h.tabl,h.tab,fun k e=>PQ _ Z k e⟩
theorem gB {s s':CS} (hw:WF s) {r:Int} (hr:r≤s.last) {Z:List Pl} (h:BZ s r Z s') (hI:Inv s):Inv s':=by
 obtain⟨D,hD,hN⟩:=h.rem;refine P2 h.mv hI hN fun k g p a b e f hnD hk hp hrf ha=>?_;have hno:∀ P:Prop,((Yi ((s.last+1:Nat):Int) Z k e).region=r∨(Yi ((s.last+1:Nat):Int) Z k e).region=((s.last+1:Nat):Int))→P:=fun P h1=>absurd ((hD _).2 ⟨k,g,_,⟨g,_,h.mv.at hk,h1⟩,h.mv.at hk,Oz.2 ⟨p,rfl,by rw[(PQ _ Z k e).2.2.1];exact hp,by rw[h.mv.lay k e];exact hrf⟩⟩) hnD
 have hkZ:k∉Z.map Pl.k:=fun h1=>by
  obtain⟨z,z1,z2⟩:=mem_map.1 h1;subst z2;exact hno _ (.inr (by rw[JR h.keys z1]))
 rw[Cy hkZ] at hno;rw[Cy hkZ];have her:e.region≠r:=fun h1=>hno _ (.inl h1)
 have hel:e.region≤s.last:=by
  obtain⟨_,_,q,hq⟩:=hw.obj k g e hk;exact(hw.par.2.2 _ _ hq).2
 by_cases haZ:a∈Z.map Pl.k
 ·obtain⟨z,z1,z2⟩:=mem_map.1 haZ;subst z2;obtain⟨z3,z4⟩:=h.ents z z1;rw[ha] at z3;injection z3 with z3
  injection z3 with _ z3
  injection z3 with z3
  rw[JR h.keys z1,z3,z4]
  exact⟨fun _ h1=>her h1.symm,fun _ h1=>by
   have h1:((s.last+1:Nat):Int)=e.region:=h1;omega⟩
 ·rw[Cy haZ]
def Wn (P:List Int):Prop:=∀ (i:Nat) (q:Int),1≤i→P[i]? = some q→q < i
def W0 (P:List Int) (id:Int):Nat→Int→Bool
 | 0,_=>false
 | n+1,i=>if 0 < i then (if i=id then true else W0 P id n (P.getD i.toNat 0)) else false
def G1 (P:List Int) (id i:Int):Bool:=W0 P id i.toNat i
theorem Cz (P:List Int) (id:Int) (n:Nat) {i:Int} (h:i≤0):W0 P id n i=false:=by
 cases n with
 | zero=>rfl
 | succ n=>unfold W0;rw[if_neg (by omega)]
theorem JW {P:List Int} (h:Wn P) (id:Int):∀ (n:Nat) (i:Int),i≤n→i < P.length→W0 P id n i=G1 P id i
 | 0,i,h1,_=>by
  unfold G1;rw[Cz P id _ (by omega),Cz P id _ (by omega)]
 | n+1,i,h1,h2=>by
  by_cases h0:0 < i
  ·obtain⟨k,rfl⟩:∃ k:Nat,i=(k+1:Nat):=⟨i.toNat - 1,by omega⟩;have hk:k+1 < P.length:=by omega
   have hg:P.getD (k+1) 0 < ((k+1:Nat):Int):=h (k+1) _ (by omega) (by rw[getD_eq_getElem?_getD,getElem?_eq_getElem hk];rfl);unfold G1;rw[Int.toNat_natCast];unfold W0;rw[if_pos h0,if_pos h0,Int.toNat_natCast];by_cases h3:((k+1:Nat):Int)=id
   ·rw[if_pos h3,if_pos h3]
   ·rw[if_neg h3,if_neg h3,JW h id n _ (by omega) (by omega),JW h id k _ (by omega) (by omega)]
  ·unfold G1;rw[Cz P id _ (by omega),Cz P id _ (by omega)]
theorem PZ {P:List Int} (h:Wn P) {id i:Int} (h0:0 < i) (hl:i < P.length):G1 P id i=if i=id then true else G1 P id (P.getD i.toNat 0):=by
 obtain⟨k,rfl⟩:∃ k:Nat,i=(k+1:Nat):=⟨i.toNat - 1,by omega⟩;have hk:k+1 < P.length:=by omega
 have hg:P.getD (k+1) 0 < ((k+1:Nat):Int):=h (k+1) _ (by omega) (by rw[getD_eq_getElem?_getD,getElem?_eq_getElem hk];rfl);rw[Int.toNat_natCast];show W0 P id (((k+1:Nat):Int).toNat) _=_;rw[Int.toNat_natCast];show (if (0:Int) < ((k+1:Nat):Int) then (if ((k+1:Nat):Int)=id then true else W0 P id k (P.getD ((k+1:Nat):Int).toNat 0)) else false)=_;rw[if_pos h0,Int.toNat_natCast];by_cases h3:((k+1:Nat):Int)=id
 ·rw[if_pos h3,if_pos h3]
 ·rw[if_neg h3,if_neg h3,JW h id k _ (by omega) (by omega)]
theorem PG (P:List Int) (id:Int) {i:Int} (h:i≤0):G1 P id i=false:=Cz P id _ h
def W1 (P:List Int) (id:Int) (k:Nat):List Nat:=(List.range k).filter fun i=>decide (1≤i∧0≤P.getD i 0) && G1 P id i
def G2 (P:List Int) (id:Int):List Nat:=W1 P id P.length
theorem gC (P:List Int) (id:Int) (k:Nat) (hk:1≤k):W1 P id (k+1)=W1 P id k++if 0≤P.getD k 0∧G1 P id k=true then [k] else []:=by
 unfold W1;rw[range_succ,filter_append];congr 1;by_cases h1:0≤P.getD k 0
 ·by_cases h2:G1 P id k=true
  ·rw[if_pos ⟨h1,h2⟩,filter_cons,if_pos (by rw[h2,decide_eq_true ⟨hk,h1⟩];rfl),filter_nil]
  ·rw[if_neg (fun h=>h2 h.2),filter_cons,if_neg (by simpa using fun _ _=>h2),filter_nil]
 ·rw[if_neg (fun h=>h1 h.1),filter_cons,if_neg (by rw[decide_eq_false (fun h=>h1 h.2)];simp),filter_nil]
theorem PU {P:List Int} {id:Int} {k i:Nat}:i∈W1 P id k↔i < k∧(1≤i∧0≤P.getD i 0)∧G1 P id i=true:=by
 unfold W1;rw[mem_filter,mem_range,Bool.and_eq_true,decide_eq_true_eq]
theorem JA (P:List Int) (id:Int) (k:Nat):(W1 P id k).length≤k:=by
 have:=length_filter_le (fun i=>decide (1≤i∧0≤P.getD i 0) && G1 P id (i:Nat)) (List.range k);rw[length_range] at this;exact this
def Vw (P:List Int) (L:List Nat):List Int:=P.mapIdx fun k q=>if k∈L then -1 else q
theorem gD (P:List Int):Vw P []=P:=by
 unfold Vw;apply ext_getElem?;intro i;rw[getElem?_mapIdx];cases P[i]? <;> simp
theorem JB (P:List Int) (L:List Nat):(Vw P L).length=P.length:=length_mapIdx
theorem gE (P:List Int) (L:List Nat) (k:Nat):(Vw P L).set k (-1)=Vw P (L++[k]):=by
 apply ext_getElem?;intro i;rw[getElem?_set];unfold Vw;rw[getElem?_mapIdx,getElem?_mapIdx,length_mapIdx];by_cases h:k=i
 ·subst h;rw[if_pos rfl];by_cases hl:k < P.length
  ·rw[if_pos hl,getElem?_eq_getElem hl];simp
  ·rw[if_neg hl,getElem?_eq_none (by omega)];rfl
 ·rw[if_neg h];cases P[i]? with
  | none=>rfl
  | some q=>
   have h2:i∈L++[k]↔i∈L:=by
    rw[mem_append,mem_singleton];exact⟨fun h4=>h4.elim id fun h5=>absurd h5.symm h,.inl⟩
   simp only[Option.map_some,h2]
def ZU (P:List Int) (id q:Nat):List Int:=P.mapIdx fun k x=>if k=id then -1 else if 1≤k∧x=(id:Int) then (q:Int) else x
def UB (P:List Int) (id q n:Nat):List Int:=P.mapIdx fun k x=>if (1≤k∧k < n)∧x=(id:Int) then (q:Int) else x
theorem BG (P:List Int) (id q n:Nat):(UB P id q n).length=P.length:=length_mapIdx
theorem Wo (P:List Int) (id q n k:Nat):(UB P id q n)[k]? = (P[k]?).map fun x=>if (1≤k∧k < n)∧x=(id:Int) then (q:Int) else x:=getElem?_mapIdx
theorem gF {P:List Int} {id q:Nat}:UB P id q 1=P:=by
 apply ext_getElem?;intro i;rw[Wo];cases hi:P[i]? with
 | none=>rfl
 | some x=>
  simp only[Option.map_some];rw[if_neg];rintro⟨h1,h2⟩;omega
theorem gH {P:List Int} {id q n:Nat} (hn:1≤n) (h:P[n]? = some (id:Int)):(UB P id q n).set n (q:Int)=UB P id q (n+1):=by
 apply ext_getElem?;intro i;rw[getElem?_set,Wo,Wo,BG];have hl:=(List.getElem?_eq_some_iff.1 h).1;by_cases hi:n=i
 ·subst hi;rw[if_pos rfl,if_pos hl,h];simp only[Option.map_some];rw[if_pos ⟨⟨hn,by omega⟩,trivial⟩]
 ·rw[if_neg hi];cases P[i]? with
  | none=>rfl
  | some x=>
   simp only[Option.map_some];have:(1≤i∧i < n+1)↔(1≤i∧i < n):=by omega
   simp only[this]
theorem gI {P:List Int} {id q n:Nat} {x:Int} (h:P[n]? = some x) (hx:x≠(id:Int)):UB P id q n=UB P id q (n+1):=by
 apply ext_getElem?;intro i;rw[Wo,Wo];cases hP:P[i]? with
 | none=>rfl
 | some y=>
  simp only[Option.map_some];by_cases hi:i=n
  ·subst hi;rw[h] at hP;injection hP with hP
   subst hP;rw[if_neg (fun h=>hx h.2),if_neg (fun h=>hx h.2)]
  ·have:i < n+1↔i < n:=by omega
   simp only[this]
theorem gJ (P:List Int) (id q:Nat):(UB P id q P.length).set id (-1)=ZU P id q:=by
 apply ext_getElem?;intro i;unfold ZU;rw[getElem?_set,Wo,BG,getElem?_mapIdx];by_cases hi:id=i
 ·subst hi;rw[if_pos rfl];by_cases hl:id < P.length
  ·rw[if_pos hl,getElem?_eq_getElem hl];simp
  ·rw[if_neg hl,getElem?_eq_none (by omega)];rfl
 ·rw[if_neg hi];cases hP:P[i]? with
  | none=>rfl
  | some y=>
   have hl:=(List.getElem?_eq_some_iff.1 hP).1;simp only[Option.map_some];rw[if_neg (fun h:i=id=>hi h.symm)];by_cases hy:1≤i∧y=(id:Int)
   ·rw[if_pos ⟨⟨hy.1,hl⟩,hy.2⟩,if_pos hy]
   ·rw[if_neg (fun h=>hy ⟨h.1.1,h.2⟩),if_neg hy]
theorem JC {l:List Int} {spare:List Value} {i:Nat} {x:Int} (h:i < l.length):(Qg l++spare).set (0+i*1) (.int .i64 x)=Qg (l.set i x)++spare:=by
 rw[Nat.zero_add,Nat.mul_one,set_append_left _ _ (by simpa [Qg] using h)];simp[Qg,map_set]
theorem gL [Q4] (p:Nat) (P:List Int) (hO:Wn P) (i id:Int) (hi:i < P.length) {w:World} {fr:List Q2} (H:Q0 w (VS p P::fr)) :
  Calls Tryz.prog 256 #[pp p,.int .i64 i,.int .i64 id] w (ret fun v w'=>v = .bool (G1 P id i)∧Q0 w' (VS p P::fr)):=by
 refine Q9 Tryz.func256 rfl (by kernel_rfl) ?_;refine AG H ?_;refine Ql (fun ms σ w n=>ms=[]∧∃ i':Int,i' < P.length∧G1 P id i'=G1 P id i∧n=i'.toNat∧σ 0=pp p∧σ 1 = .int .i64 i'∧σ 2 = .int .i64 id∧Q0 w (VS p P::fr)) (m:=i.toNat) ⟨rfl,i,hi,rfl,rfl,rfl,rfl,rfl,H⟩ ?_;clear H;rintro ms σ w n ⟨rfl,i',hi',hb,rfl,g0,g1,g2,H⟩;rw[Q1 g0,Q1 g1,Q1 g2];refine Bq H ?_;refine Qk rfl (fun h=>QB ?_) (fun h=>Qq ?_)
 ·have h:0 < i':=h;rw[PZ hO h hi'] at hb;obtain⟨k,rfl⟩:∃ k:Nat,i'=k:=⟨i'.toNat,by omega⟩;rw[Int.toNat_natCast] at hb;refine GL H ?_;refine VX H ?_;by_cases he:(k:Int)=id
  ·rw[show ((k:Int) == id)=true by rw[he];exact beq_self_eq_true id];refine YD H ?_;rw[if_pos he] at hb;rw[← hb];exact Q3 (Jy H rfl fun w' H'=>⟨rfl,H'⟩)
  ·rw[show ((k:Int) == id)=false by rw[beq_eq_false_iff_ne];exact he];refine V6 H ?_;rw[if_neg he] at hb;have hkl:k < P.length:=by omega
   have hg:P.getD k 0 < (k:Int):=hO k _ (by omega) (by rw[getD_eq_getElem?_getD,getElem?_eq_getElem hkl];rfl);obtain⟨a,c,H⟩:=Kn H;obtain⟨b,s,rfl,H,hclose⟩:=V5 H.swap (by omega);have hc:=Az (P:=P) (s:=s) (i:=k) hkl;refine VQ H ?_;refine Jd ?_;refine Q5 rfl (QR H rfl hc rfl ?_);refine J0 H ?_;replace H:=Gf (hclose _ _ H).swap;exact⟨_,⟨rfl,P.getD k 0,by omega,hb,rfl,rfl,rfl,rfl,H⟩,by rw[Int.toNat_natCast];omega⟩
 ·have h:¬ 0 < i':=h;rw[PG _ _ (by omega)] at hb;rw[← hb];refine VB H ?_;exact Q3 (Jy H rfl fun w' H'=>⟨rfl,H'⟩)
theorem gM [Q4] (p:Nat) (P:List Int) (hO:Wn P) (id:Int) (h1:1≤P.length) (hl:P.length≤1000000) {w:World} {fr:List Q2} (H:Q0 w (VS p P::fr)) :
  Calls Tryz.prog 236 #[pp p,.int .i64 id] w (ret fun v w'=>Q0 w' (NL v (G2 P id)::VS p P::fr)):=by
 refine Q9 Tryz.func236 rfl (by kernel_rfl) ?_;refine E1 H ?_;refine Ql (fun ms σ w n=>ms=[]∧∃ (i:Nat) (g:Value),1≤i∧i≤P.length∧n=P.length - i∧σ 0=pp p∧σ 1 = .int .i64 id∧σ 5=g∧σ 6 = .int .i64 i∧Q0 w (NL g (W1 P id i)::VS p P::fr)) (m:=P.length - 1) ⟨rfl,1,_,by omega,h1,rfl,rfl,rfl,rfl,rfl,Z2 H⟩ ?_;clear H;rintro ms σ w n ⟨rfl,i,g,hi1,hi2,rfl,g0,g1,g5,g6,H⟩;obtain⟨ag,mg,cg,rfl⟩:=Qw H;obtain⟨a,c,H⟩:=Kn H.swap;rw[Q1 g0,Q1 g1,Q1 g5,Q1 g6];refine Kc H ?_;refine Qk rfl (fun h=>QB ?_) (fun h=>Qq ?_)
 ·have hlt:i < P.length:=by omega
  obtain⟨b,s,rfl,H,hclose⟩:=V5 H.swap (by omega);have hc:=Az (P:=P) (s:=s) (i:=i) (by omega);have hnx:=gC P id i hi1;generalize P.getD i 0=y at hc hnx;refine AW H ?_;refine Jd ?_;refine Q5 rfl (QR H rfl hc rfl ?_);refine J0 H ?_;replace H:=Gf (hclose _ _ H).swap;refine J6 H ?_;refine Qk rfl (fun h=>?_) (fun h=>QB ?_)
  ·have h:0≤y:=h;refine Vq H ?_;refine Jc rfl rfl (gL p P hO i id (by omega) H) ?_;clear H;rintro v w ⟨rfl,H⟩;refine J0 H ?_;refine VB H ?_;cases hb:G1 P id i with
   | true=>
    rw[hb,if_pos ⟨h,rfl⟩] at hnx;refine VM H ?_;refine E3 H ?_;clear H;intro b32 w H;replace H:=Js [2,0,0] 0 H;refine Q5 rfl (YO H rfl rfl (by repeat first|exact .nil _|apply QV.cons rfl) rfl (by decide) (by rw[QH];have:=JA P id i;simp only[length_cons,length_nil];omega) rfl rfl ?_);clear H;intro v25 w H;obtain⟨a25,m25,c25,rfl⟩:=Qw H;refine Bz H ?_;replace H:=Js [0,1] 1 H;refine⟨_,⟨rfl,i+1,_,by omega,hlt,rfl,rfl,rfl,rfl,Qc (by omega),?_⟩,by omega⟩;rw[hnx];show Q0 w (QC _ 1 _ (QW (_++[i]))::_);rw[WT];exact H
   | false=>
    rw[hb,if_neg (fun h=>by cases h.2),append_nil] at hnx;refine AC H ?_;exact⟨_,⟨rfl,i+1,_,by omega,hlt,rfl,rfl,rfl,rfl,Qc (by omega),by rw[hnx];exact H.swap⟩,by omega⟩
  ·have h:¬ 0≤y:=h;rw[if_neg (fun h2=>h h2.1),append_nil] at hnx;refine VX H ?_;exact⟨_,⟨rfl,i+1,_,by omega,hlt,rfl,rfl,rfl,rfl,Qc (by omega),by rw[hnx];exact H.swap⟩,by omega⟩
 ·obtain rfl:i=P.length:=by omega
  refine J5 H ?_;have H:=(Gf H).swap;exact Q3 (Jy H rfl fun w' H'=>H')
theorem gN [Q4] (p:Nat) (P:List Int) (hO:Wn P) (id:Int) (h1:1≤P.length) (hl:P.length≤1000000) {w:World} {fr:List Q2} (H:Q0 w (VS p P::fr)) :
  Calls Tryz.prog 175 #[pp p,.int .i64 id] w (ret fun v w'=>Q0 w' (NL v (G2 P id)::VS p (Vw P (G2 P id))::fr)):=by
 refine Q9 Tryz.func175 rfl (by kernel_rfl) ?_;refine Uy H ?_;refine Jc rfl rfl (gM p P hO id h1 hl H) ?_;clear H;rintro v w H;have hLm:∀ k∈G2 P id,k < P.length:=fun k hk=>(PU.1 hk).1;have hLl:(G2 P id).length≤P.length:=JA P id P.length;generalize G2 P id=U at H hLm hLl;obtain⟨aU,cU,rfl⟩:=QF H (QH U) (by decide);refine J0 H ?_;refine AG H ?_;refine Ql (fun ms σ w n=>ms=[]∧∃ i:Nat,i≤U.length∧n=U.length - i∧σ 0=pp p∧σ 5 = .slice aU U.length cU∧σ 6 = .int .i64 i∧Q0 w (NL (.slice aU U.length cU) U::VS p (Vw P (U.take i))::fr)) (m:=U.length) ⟨rfl,0,by omega,rfl,rfl,rfl,rfl,by rw[take_zero,gD];exact H⟩ ?_;clear H;rintro ms σ w n ⟨rfl,i,hi,rfl,g0,g5,g6,H⟩;rw[Q1 g0,Q1 g5,Q1 g6];refine KO H ?_;refine Qk rfl (fun h=>QB ?_) (fun h=>Qq ?_)
 ·have hlt:i < U.length:=by omega
  have hx:=getElem?_eq_getElem hlt;have htk:U.take (i+1)=U.take i++[U[i]]:=by rw[take_add_one,hx];rfl
  have hxl:=hLm _ (getElem_mem hlt);generalize U[i]=k at hx htk hxl;have hfl:=JB P (U.take i);obtain⟨a,c,H⟩:=Kn H.swap;obtain⟨b,s,rfl,H,_,_,hclose⟩:=Z3 H.swap (by omega);replace H:=Js [2,0,0] 0 H;obtain⟨bU,sU,rfl,H,hclU⟩:=V5 H (by omega);have hkx:((k:Nat):Int).toNat=k:=Int.toNat_natCast k;refine CQ H ?_;clear H;intro w H;refine E9 H ?_;refine Us H ?_;refine Ji 6 ?_;refine Vm 7 [] H rfl (Q8.none rfl) rfl (G8 hx) (by kernel_rfl) ?_;refine Ji 8 ?_;refine Jo 9 H ?_;refine Yj H rfl rfl inferInstance rfl (by simp only[length_append,Vn];omega) rfl ?_;clear H;intro w H;rw[hkx,JC (by omega),gE] at H;refine Jx H ?_;replace H:=hclU _ _ H;replace H:=Js [1,1,0] 0 H;replace H:=hclose _ _ _ (by rw[Vn,Vn,JB,JB]) H;replace H:=Gf H.swap;refine VX H ?_;exact⟨_,⟨rfl,i+1,hlt,rfl,rfl,rfl,Qc (by omega),by rw[htk];exact H.swap⟩,by omega⟩
 ·obtain rfl:i=U.length:=by omega
  rw[take_length] at H;refine J5 H ?_;exact Q3 (Jy H rfl fun w' H'=>H')
theorem gO [Q4] (p:Nat) (P:List Int) (id:Nat) (q:Int) (hid:1≤id) (hq:P[id]? = some q) (hq0:0≤q) (h1:1≤P.length) (hl:P.length≤1000000) {w:World} {fr:List Q2} (H:Q0 w (VS p P::fr)) :
  Calls Tryz.prog 177 #[pp p,.int .i64 id] w (ret fun v w'=>(q=0∧v = .tuple #[.int .i64 0,.int .i64 16]∧Q0 w' (VS p P::fr))∨(q≠0∧v = .tuple #[.int .i64 q,.int .i64 0]∧Q0 w' (VS p (ZU P id q.toNat)::fr))):=by
 have hidl:=(List.getElem?_eq_some_iff.1 hq).1;have hgd:P.getD id 0=q:=by rw[getD_eq_getElem?_getD,hq];rfl
 have hlv:Y0 P (id:Int)=true:=decide_eq_true ⟨by omega,by omega,by rw[Int.toNat_natCast,hgd];exact hq0⟩;refine Q9 Tryz.func177 rfl (by kernel_rfl) ?_;refine XL H ?_;refine Jc rfl rfl (Wg p P id H) ?_;clear H;rintro v w ⟨rfl,H⟩;rw[hlv];refine Yv H ?_;obtain⟨a,c,H⟩:=Kn H;obtain⟨b,s,rfl,H,hclose⟩:=V5 H.swap (by omega);have hc:=Az (P:=P) (s:=s) (i:=id) hidl;rw[hgd] at hc;refine VQ H ?_;refine Jd ?_;refine Q5 rfl (QR H rfl hc rfl ?_);refine J0 H ?_;replace H:=Gf (hclose _ _ H).swap;refine J5 H ?_;by_cases hz:q=0
 ·rw[show (q == (0:Int))=true by rw[hz];rfl];refine Yn H ?_;exact Q3 (Jy H rfl fun w' H' => .inl ⟨hz,rfl,H'⟩)
 rw[show (q == (0:Int))=false by rw[beq_eq_false_iff_ne];exact hz];refine V6 H ?_;obtain⟨qn,rfl⟩:∃ qn:Nat,q=qn:=⟨q.toNat,by omega⟩;rw[Int.toNat_natCast];refine J7 H ?_;refine Qo (fun ms σ w=>ms=[]∧σ 0=pp p∧σ 1 = .int .i64 id∧σ 7 = .int .i64 qn∧Q0 w (VS p (UB P id qn P.length)::fr)) ?_ ?_
 ·refine QP ?_;refine Ql (fun ms σ w n=>ms=[]∧∃ i:Nat,1≤i∧i≤P.length∧n=P.length - i∧σ 0=pp p∧σ 1 = .int .i64 id∧σ 7 = .int .i64 qn∧σ 8 = .int .i64 i∧Q0 w (VS p (UB P id qn i)::fr)) (m:=P.length - 1) ⟨rfl,1,by omega,h1,rfl,rfl,rfl,rfl,rfl,by rw[gF];exact H⟩ ?_;clear H hclose;rintro ms σ w n ⟨rfl,i,hi1,hi2,rfl,g0,g1,g7,g8,H⟩;rw[Q1 g0,Q1 g1,Q1 g7,Q1 g8];have hml:=BG P id qn i;obtain⟨a,c,H⟩:=Kn H;refine Kc H ?_;rw[hml];refine Qk rfl (fun h=>QB ?_) (fun h=>Qq ?_)
  ·have hlt:i < P.length:=by omega
   obtain⟨b,s,rfl,H,_,_,hclose⟩:=Z3 H.swap (by omega);have hPi:=getElem?_eq_getElem hlt;generalize P[i]=y at hPi
   have hgi:(UB P id qn i).getD i 0=y:=by
    rw[getD_eq_getElem?_getD,Wo,hPi];simp
   have hc:=Az (P:=UB P id qn i) (s:=s) (i:=i) (by omega);rw[hgi] at hc;have hkx:((i:Nat):Int).toNat=i:=Int.toNat_natCast i;refine AW H ?_;refine Jd ?_;refine Q5 rfl (QR H rfl hc rfl ?_);refine J3 H ?_;by_cases hy:y=(id:Int)
   ·rw[show (y == (id:Int))=true by rw[hy];exact beq_self_eq_true _];subst hy;refine VM H ?_;refine GM H ?_;refine Jd ?_;refine Q5 rfl (Yj H rfl rfl inferInstance rfl (by simp only[length_append,Vn];omega) rfl ?_);clear H;intro w H;rw[hkx,JC (by omega),gH hi1 hPi] at H;refine J2 H ?_;replace H:=Gf (hclose _ _ _ (by rw[Vn,Vn,BG,BG]) H).swap;refine VX H ?_;exact⟨_,⟨rfl,i+1,by omega,hlt,rfl,rfl,rfl,rfl,Qc (by omega),H⟩,by omega⟩
   ·rw[show (y == (id:Int))=false by rw[beq_eq_false_iff_ne];exact hy];refine V6 H ?_;rw[gI hPi hy] at H hclose;replace H:=Gf (hclose _ _ _ rfl H).swap;refine VX H ?_;exact⟨_,⟨rfl,i+1,by omega,hlt,rfl,rfl,rfl,rfl,Qc (by omega),H⟩,by omega⟩
  ·obtain rfl:i=P.length:=by omega
   exact⟨rfl,rfl,rfl,rfl,rfl,Gf H⟩
 clear H hclose;rintro ms σ w ⟨rfl,g0,g1,g7,H⟩;rw[Q1 g0,Q1 g1,Q1 g7];have hml:=BG P id qn P.length;obtain⟨a,c,H⟩:=Kn H;obtain⟨b,s,rfl,H,_,_,hclose⟩:=Z3 H.swap (by omega);have hkx:((id:Nat):Int).toNat=id:=Int.toNat_natCast id;refine VQ H ?_;refine Jd ?_;refine Q5 rfl (Yj H rfl rfl inferInstance rfl (by simp only[length_append,Vn];omega) rfl ?_);clear H;intro w H;rw[hkx,JC (by omega),gJ] at H;have hmp:(ZU P id qn).length=(UB P id qn P.length).length:=by unfold ZU UB;rw[length_mapIdx,length_mapIdx]
 refine J2 H ?_;replace H:=Gf (hclose _ _ _ (by rw[Vn,Vn,hmp]) H).swap;refine VX H ?_;exact Q3 (Jy H rfl fun w' H' => .inr ⟨hz,rfl,H'⟩)
theorem PX {s s':CS} {m m':MS} {told:List (Nat×Nat)} (R:Rel s m told) {mv:Nat→Q7→Q7} (h:Ul s s' mv) (hl:m'.lays=m.lays) (ho:m'.objs.length=m.objs.length)
  (htree:∀ (r q:Int),(r,q)∈s'.par↔∃ k:Nat,r=k∧1≤k∧m'.P[k]? = some q∧0≤q) (hnd:(s'.par.map (·.1)).Nodup) (hlast:s'.last+1=m'.P.length)
  (hobj:∀ (o:Nat) (x':QI),m'.objs[o]? = some x'→∃ x,m.objs[o]? = some x∧x'={ x with region:=x'.region }∧∀ (k g:Nat) (e:Q7),told[o]? = some (k,g)→x.gone=false→s.tab[k]? = some ⟨g,some e⟩→e.region=x.region→(mv k e).region=x'.region):Rel s' m' told:=by
 refine⟨by rw[ho];exact R.len,by rw[h.lays,hl];exact R.lays,htree,hnd,hlast,?_,?_,?_,?_,R.nodup⟩
 ·intro o x' k g hx' ht hg;obtain⟨x,hx,he,hr⟩:=hobj o x' hx';have hg:x.gone=false:=by rw[he] at hg;exact hg
  obtain⟨e,hk,hL⟩:=R.obj o x k g hx ht hg;obtain⟨s1,s2,s3,s4,s5⟩:=h.same k e;refine⟨mv k e,h.at hk,?_⟩;have hreg:=hr k g e ht hg hk hL.region;rw[hl];have f1:x'.lay=x.lay:=by rw[he]
  have f2:x'.count=x.count:=by rw[he]
  have f3:x'.held=x.held:=by rw[he]
  have f4:x'.pinned=x.pinned:=by rw[he]
  have f5:x'.w=x.w:=by rw[he]
  have f6:x'.kind=x.kind:=by rw[he]
  have f7:x'.to=x.to:=by rw[he]
  refine⟨hreg,by rw[s1,f1];exact hL.lay,by rw[s2,f2];exact hL.count,by rw[s4,f3];exact hL.held,by rw[s5,f4];exact hL.pinned,by rw[s3,f5];exact hL.len,?_,?_,?_⟩
  ·rw[f5,f1,f6,f7,s3];exact hL.ref
  ·rw[f5,f1,s3];exact hL.word
  ·rw[f5,f1,f6];exact hL.kind
 ·intro o x' k g hx' ht hg e' hk';obtain⟨x,hx,he,_⟩:=hobj o x' hx';have hg:x.gone=true:=by rw[he] at hg;exact hg
  obtain⟨e,hk,_⟩:=h.from hk';exact R.gone o x k g hx ht hg e hk
 ·intro k g e' hk';obtain⟨e,hk,_⟩:=h.from hk';exact R.used k g e hk
 ·intro o k g ht;obtain⟨t,h1,h2⟩:=R.gens o k g ht;exact⟨_,h.tab k t h1,h2⟩
def GK (id q:Nat) (x:QI):QI:=if x.region=id then { x with region:=q } else x
def FS (m:MS) (id q:Nat):MS:={ m with P:=ZU m.P id q,objs:=m.objs.map (GK id q) }
theorem PK (id q:Nat) (x:QI):GK id q x={ x with region:=(GK id q x).region }:=by
 unfold GK;split <;> rfl
theorem gP (id q:Nat) (x:QI):(GK id q x).region=if x.region=id then q else x.region:=by
 unfold GK;split <;> rfl
theorem gS {s s':CS} {m:MS} {told:List (Nat×Nat)} (R:Rel s m told) {id q:Nat} (hid:1≤id) (hne:id≠q) (h:BY s id q s'):Rel s' (FS m id q) told:=by
 have hnd':(s'.par.map (·.1)).Nodup:=by rw[h.par.1];exact R.nd.filter _
 refine PX R h.mv rfl (length_map _) (fun r z=>?_) hnd' ?_ fun o x' hx'=>?_
 ·rw[← Yl hnd',h.par.2];have hPk:∀ k:Nat,(ZU m.P id q)[k]? = (m.P[k]?).map fun x=>if k=id then -1 else if 1≤k∧x=(id:Int) then (q:Int) else x:=fun k=>getElem?_mapIdx;constructor
  ·intro hr;split at hr
   ·cases hr
   ·rename_i h1;split at hr
    ·rename_i h2;injection hr with hr
     obtain⟨k,k1,k2,k3,k4⟩:=(R.tree _ _).1 ((Yl R.nd).1 h2);refine⟨k,k1,k2,?_,by omega⟩;show (ZU m.P id q)[k]? = _;rw[hPk,k3];simp only[Option.map_some];rw[if_neg (by omega),if_pos ⟨k2,trivial⟩,hr]
    ·rename_i h2;obtain⟨k,k1,k2,k3,k4⟩:=(R.tree _ _).1 ((Yl R.nd).1 hr);refine⟨k,k1,k2,?_,k4⟩;show (ZU m.P id q)[k]? = _;rw[hPk,k3];simp only[Option.map_some];rw[if_neg (by omega),if_neg (fun h3=>h2 (by rw[hr,h3.2]))]
  ·rintro⟨k,rfl,k2,k3,k4⟩;have k3:(ZU m.P id q)[k]? = some z:=k3;rw[hPk] at k3;cases hP:m.P[k]? with
   | none=>rw[hP] at k3;cases k3
   | some z0=>
    rw[hP] at k3;injection k3 with k3
    have k3:(if k=id then (-1:Int) else if 1≤k∧z0=(id:Int) then (q:Int) else z0)=z:=k3;by_cases h1:k=id
    ·rw[if_pos h1] at k3;omega
    ·rw[if_neg h1] at k3;rw[if_neg (by omega)]
     have hz0:0≤z0:=by
      split at k3 <;> omega
     have hf:=(Yl R.nd).2 ((R.tree (k:Int) z0).2 ⟨k,rfl,k2,hP,hz0⟩);by_cases h2:z0=(id:Int)
     ·rw[if_pos ⟨k2,h2⟩] at k3;rw[h2] at hf;rw[if_pos hf,k3]
     ·rw[if_neg (fun h3=>h2 h3.2)] at k3;subst k3
      rw[if_neg (fun h3=>by
       rw[hf] at h3;injection h3 with h3
       exact h2 h3)]
      exact hf
 ·rw[h.last];show s.last+1=(ZU m.P id q).length;unfold ZU;rw[length_mapIdx];exact R.last
 ·have hx':(m.objs.map (GK id q))[o]? = some x':=hx';rw[getElem?_map] at hx';cases hx:m.objs[o]? with
  | none=>rw[hx] at hx';cases hx'
  | some x=>
   rw[hx] at hx';injection hx' with hx'
   subst hx';refine⟨x,rfl,PK id q x,fun k g e _ _ _ hr=>?_⟩;rw[XY,gP,hr];by_cases h1:x.region=id
   ·rw[if_pos (by omega),if_pos h1]
   ·rw[if_neg (by omega),if_neg h1]
theorem PR {m m':MS} (h:VY m) (hP:m'.P.length=m.P.length∨(m'.P.length=m.P.length+1∧m.P.length < 100000)) (hl:m'.lays=m.lays) (ho:m'.objs.length=m.objs.length)
  (hobj:∀ (o:Nat) (x':QI),m'.objs[o]? = some x'→∃ x,m.objs[o]? = some x∧x'={ x with region:=x'.region }):VY m':=by
 refine⟨by have:=h.P;omega,by rw[hl];exact h.lays,fun x' hx'=>?_,by rw[ho];exact h.few⟩;obtain⟨o,hx'⟩:=getElem?_of_mem hx';obtain⟨x,hx,he⟩:=hobj o x' hx';obtain⟨a,b,c,d,e⟩:=h.objs x (mem_of_getElem? hx);rw[hl,ho,he];exact⟨a,b,c,d,e⟩
def Wp (m:MS) (r:Nat) (os:List Nat):MS:={ m with P:=m.P++[(r:Int)],objs:=m.objs.mapIdx fun o x=>if o∈os then { x with region:=m.P.length } else x }
theorem PW {m:MS} {r:Nat} {os:List Nat} {o:Nat} {x':QI} (h:(Wp m r os).objs[o]? = some x'):∃ x,m.objs[o]? = some x∧x'={ x with region:=x'.region }∧x'.region=if o∈os then m.P.length else x.region:=by
 have h:(m.objs.mapIdx fun o x=>if o∈os then { x with region:=m.P.length } else x)[o]? = some x':=h;rw[getElem?_mapIdx] at h;cases hx:m.objs[o]? with
 | none=>rw[hx] at h;cases h
 | some x=>
  rw[hx] at h;injection h with h
  have h:(if o∈os then ({ x with region:=m.P.length }:QI) else x)=x':=h;subst h;refine⟨x,rfl,?_,?_⟩ <;> split <;> rfl
theorem gT {m:MS} (h:VY m) (hP:m.P.length < 100000) (r:Nat) (os:List Nat):VY (Wp m r os):=by
 refine PR h (.inr ⟨by show (m.P++[_]).length=_;simp,hP⟩) rfl (length_mapIdx) fun o x' hx'=>?_;obtain⟨x,h1,h2,_⟩:=PW hx';exact⟨x,h1,h2⟩
theorem ga {s s':CS} (hw:WF s) {m:MS} {told:List (Nat×Nat)} (R:Rel s m told) {r:Nat} {Z:List Pl} {os:List Nat} (h:BZ s r Z s') (hos:∀ (o k g:Nat) (x:QI),told[o]? = some (k,g)→m.objs[o]? = some x→x.gone=false→(o∈os↔k∈Z.map Pl.k)):Rel s' (Wp m r os) told:=by
 have hup:∀ x,x∈s.par.map (·.1)→x≠((s.last+1:Nat):Int):=fun x hx=>by
  obtain⟨⟨x',q⟩,h1,h2⟩:=mem_map.1 hx;have h2:x'=x:=h2;have:=(hw.par.2.2 x' q h1).2;omega
 have hPl:m.P.length=s.last+1:=R.last.symm;refine PX R h.mv rfl length_mapIdx (fun x z=>?_) ?_ ?_ fun o x' hx'=>?_
 ·rw[h.par,mem_append,R.tree];show _↔∃ k:Nat,x=k∧1≤k∧(m.P++[(r:Int)])[k]? = some z∧0≤z;constructor
  ·rintro(⟨k,k1,k2,k3,k4⟩|h1)
   ·exact⟨k,k1,k2,by rw[getElem?_append_left (List.getElem?_eq_some_iff.1 k3).1];exact k3,k4⟩
   ·rw[mem_singleton] at h1;injection h1 with h1 h2
    refine⟨s.last+1,h1,by omega,?_,by omega⟩;rw[getElem?_append_right (by omega),hPl,Nat.sub_self,h2];rfl
  ·rintro⟨k,k1,k2,k3,k4⟩;by_cases hk:k < m.P.length
   ·rw[getElem?_append_left hk] at k3;exact .inl ⟨k,k1,k2,k3,k4⟩
   ·rw[getElem?_append_right (by omega)] at k3;have hk0:=(List.getElem?_eq_some_iff.1 k3).1;have hk0:k - m.P.length < 1:=hk0;have hk1:k - m.P.length=0:=by omega
    rw[hk1] at k3;injection k3 with k3
    refine .inr ?_;rw[mem_singleton,← k3,k1,show k=s.last+1 by omega]
 ·rw[h.par,map_append,nodup_append];refine⟨R.nd,by simp,fun a ha b hb hab=>?_⟩;simp at hb;subst hab;exact hup a ha hb
 ·rw[h.last];show _=(m.P++[(r:Int)]).length;rw[length_append,hPl];rfl
 ·obtain⟨x,h1,h2,h3⟩:=PW hx';refine⟨x,h1,h2,fun k g e ht hg hk hr=>?_⟩;have:=hos o k g x ht h1 hg;rw[h3];by_cases h4:k∈Z.map Pl.k
  ·rw[if_pos (this.2 h4),hPl];obtain⟨z,z1,z2⟩:=mem_map.1 h4;subst z2;rw[JR h.keys z1]
  ·rw[if_neg (fun h5=>h4 (this.1 h5)),Cy h4];exact hr
def ZX (ts:List QX) (r:Int):List (Nat×Nat)→List (Nat×Nat)→Nat
 | _,[]=>0
 | pre,t::l=>match Qr ts t.1 t.2 with
  | none=>8
  | some (_,e)=>if e.region≠r then 15 else if e.pinned=true then 13 else if t∈pre then 14 else ZX ts r (pre++[t]) l
def Zg (s:CS) (r:Int) (l:List (Nat×Nat)):Nat:=if 64 < l.length then 18 else if ZX s.tab r [] l≠0 then ZX s.tab r [] l else if s.par.length=64 then 5 else 0
theorem FT {ts:List QX} {r:Int} {pre l:List (Nat×Nat)} {t:Nat×Nat} (h:Qr ts t.1 t.2=none):ZX ts r pre (t::l)=8:=by
 unfold ZX;rw[h]
theorem JD {ts:List QX} {r:Int} {pre l:List (Nat×Nat)} {t:Nat×Nat} {k:Nat} {e:Q7} (h:Qr ts t.1 t.2=some (k,e)):ZX ts r pre (t::l)=if e.region≠r then 15 else if e.pinned=true then 13 else if t∈pre then 14 else ZX ts r (pre++[t]) l:=by
 show (match Qr ts t.1 t.2 with
  | none=>8
  | some (_,e)=>if e.region≠r then 15 else if e.pinned=true then 13 else if t∈pre then 14 else ZX ts r (pre++[t]) l)=_
 rw[h]
theorem Fa {ts:List QX} {r:Int}:∀ {l pre:List (Nat×Nat)},ZX ts r pre l=0→(∀ t∈l,(∃ e,ts[t.1]? = some ⟨t.2,some e⟩∧e.held=true∧e.region=r∧e.pinned=false)∧t∉pre)∧l.Nodup
 | [],_,_=>⟨fun t ht=>(by cases ht),.nil⟩
 | t::l,pre,h=>by
  cases hv:Qr ts t.1 t.2 with
  | none=>rw[FT hv] at h;cases h
  | some q=>
   obtain⟨k,e⟩:=q;rw[JD hv] at h;split at h
   ·cases h
   ·rename_i h1;split at h
    ·cases h
    ·rename_i h2;split at h
     ·cases h
     ·rename_i h3;obtain⟨h4,h5⟩:=Fa h;obtain⟨hL,hh⟩:=XP.1 hv;obtain⟨n,n1,n2,n3⟩:=Y8.1 hL;have e1:t.1=k:=by omega
      have e2:t.2=n:=by omega
      refine⟨fun u hu=>?_,nodup_cons.2 ⟨fun h6=>(h4 t h6).2 (by simp),h5⟩⟩
      rcases mem_cons.1 hu with rfl|hu
      ·exact⟨⟨e,by rw[e1,e2];exact n3,hh,Classical.not_not.1 h1,by simpa using h2⟩,h3⟩
      ·exact⟨(h4 u hu).1,fun h6=>(h4 u hu).2 (mem_append.2 (.inl h6))⟩
theorem gb {ts:List QX} {r:Int} {l:List (Nat×Nat)} (h:ZX ts r [] l=0):(l.map (·.1)).Nodup:=by
 obtain⟨h1,h2⟩:=Fa h;refine pairwise_map.2 (h2.imp_of_mem fun {a b} ha hb hab hk=>hab ?_);obtain⟨⟨e,e1,_⟩,_⟩:=h1 a ha;obtain⟨⟨f,f1,_⟩,_⟩:=h1 b hb;rw[hk,f1] at e1;injection e1 with e1
 injection e1 with e1 _
 exact Prod.ext hk e1.symm
def GR (m:MS) (r:Int):List Int→List Int→Nat
 | _,[]=>0
 | pre,o::l=>match V7 m o with
  | none=>8
  | some (_,x)=>if (x.region:Int)≠r then 15 else if x.pinned=true then 13 else if o∈pre then 14 else GR m r (pre++[o]) l
def Gs (m:MS) (r:Int) (os:List Int):Nat:=if Y0 m.P r=false then 15 else if 64 < os.length then 18 else if GR m r [] os≠0 then GR m r [] os else if 64≤(V0 m.P).length then 5 else 0
theorem PA {m:MS} {r:Int} {pre l:List Int} {o:Int} (h:V7 m o=none):GR m r pre (o::l)=8:=by
 unfold GR;rw[h]
theorem PB {m:MS} {r:Int} {pre l:List Int} {o:Int} {k:Nat} {x:QI} (h:V7 m o=some (k,x)):GR m r pre (o::l)=if (x.region:Int)≠r then 15 else if x.pinned=true then 13 else if o∈pre then 14 else GR m r (pre++[o]) l:=by
 show (match V7 m o with
  | none=>8
  | some (_,x)=>if (x.region:Int)≠r then 15 else if x.pinned=true then 13 else if o∈pre then 14 else GR m r (pre++[o]) l)=_
 rw[h]
def W2 (told:List (Nat×Nat)) (y:(Nat×Nat)×Int):Prop:=(∃ n:Nat,y.2=n∧told[n]? = some y.1)∨(y.2 = -1∧told=[])
theorem W2.pick {told:List (Nat×Nat)} {y:(Nat×Nat)×Int} (h:W2 told y):U1 told y.1.1 y.1.2 y.2:=by
 rcases h with ⟨n,h1,h2⟩|⟨h1,h2⟩
 ·exact .inl ⟨y.1.1,y.1.2,n,rfl,rfl,h1,h2⟩
 ·exact .inr ⟨h1,fun k gg n _ _=>by rw[h2];simp⟩
theorem PC {s:CS} {m:MS} {told:List (Nat×Nat)} (R:Rel s m told) (r:Int):∀ (l pre:List ((Nat×Nat)×Int)),(∀ y∈l,W2 told y)→(∀ y∈pre,W2 told y)→ZX s.tab r (pre.map (·.1)) (l.map (·.1))=GR m r (pre.map (·.2)) (l.map (·.2))
 | [],pre,_,_=>rfl
 | y::l,pre,h1,h2=>by
  have hy:=h1 y mem_cons_self
  have ih:=PC R r l (pre++[y]) (fun z hz=>h1 z (mem_cons_of_mem _ hz)) (fun z hz=>by
   rcases mem_append.1 hz with hz|hz
   ·exact h2 z hz
   ·rw[mem_singleton] at hz;subst hz;exact hy)
  rw[map_append,map_append] at ih;have hV:Vd s m told y.1.1 y.1.2 y.2:=K7 R hy.pick
  rcases hV with ⟨v1,v2⟩|⟨k,gg,n,e,x,a1,a2,a3,a4,a5,a6,a7,a8,a9,a10⟩
  ·show ZX s.tab r (pre.map (·.1)) (y.1::l.map (·.1))=GR m r (pre.map (·.2)) (y.2::l.map (·.2));rw[FT v1,PA v2]
  ·show ZX s.tab r (pre.map (·.1)) (y.1::l.map (·.1))=GR m r (pre.map (·.2)) (y.2::l.map (·.2));rw[JD a9,PB a10,a8.region,a8.pinned]
   have hiff:y.1∈pre.map (·.1)↔y.2∈pre.map (·.2):=by
    have ht:told[n]? = some y.1:=by rw[a4];congr 1;exact Prod.ext (by omega) (by omega)
    constructor
    ·intro h;obtain⟨z,z1,z2⟩:=mem_map.1 h;refine mem_map.2 ⟨z,z1,?_⟩
     rcases h2 z z1 with ⟨n',b1,b2⟩|⟨_,b2⟩
     ·rw[z2] at b2;have:=FW R.nodup ht b2;omega
     ·rw[b2] at ht;cases ht
    ·intro h;obtain⟨z,z1,z2⟩:=mem_map.1 h;refine mem_map.2 ⟨z,z1,?_⟩
     rcases h2 z z1 with ⟨n',b1,b2⟩|⟨b1,_⟩
     ·have:n'=n:=by omega
      subst this;rw[ht] at b2;injection b2 with b2
      exact b2.symm
     ·omega
   by_cases c1:(x.region:Int)≠r
   ·rw[if_pos c1,if_pos c1]
   ·rw[if_neg c1,if_neg c1];by_cases c2:x.pinned=true
    ·rw[if_pos c2,if_pos c2]
    ·rw[if_neg c2,if_neg c2];by_cases c3:y.1∈pre.map (·.1)
     ·rw[if_pos c3,if_pos (hiff.1 c3)]
     ·rw[if_neg c3,if_neg (fun h=>c3 (hiff.2 h))];exact ih
theorem gc {s:CS} {m:MS} {told:List (Nat×Nat)} (R:Rel s m told) (hw:WF s) {r:Int} (hr:(QY s.par r).isSome=true) {l:List ((Nat×Nat)×Int)} (h:∀ y∈l,W2 told y):Zg s r (l.map (·.1))=Gs m r (l.map (·.2)):=by
 have h1:=PC R r l [] h (fun y hy=>(by cases hy));have h1:ZX s.tab r [] (l.map (·.1))=GR m r [] (l.map (·.2)):=h1;unfold Zg Gs;rw[← Wl R,hr,if_neg (show ¬ (true=false) by decide),length_map,length_map,h1];by_cases c1:64 < l.length
 ·rw[if_pos c1,if_pos c1]
 ·rw[if_neg c1,if_neg c1];by_cases c2:GR m r [] (l.map (·.2))≠0
  ·rw[if_pos c2,if_pos c2]
  ·rw[if_neg c2,if_neg c2,Cn R.w];have:=hw.par.1;rw[Cn R.w] at this;by_cases c3:(V0 m.P).length=64
   ·rw[if_pos c3,if_pos (by omega)]
   ·rw[if_neg c3,if_neg (by omega)]
theorem Fb [Q4] (p:Nat) (q:Gj) (last:Nat) (par:List (Int×Int)) (region:Int) {w:World} {fr:List Q2} (H:Q0 w (Qf q.trp last par::Qv p q::fr)) :
  Calls Tryz.prog 54 #[pp p,.int .i64 region] w (ret fun v w'=>v = .int .i64 (if (QY par region).isSome then 0 else 15)∧Q0 w' (Qf q.trp last par::Qv p q::fr)):=by
 refine Q9 Tryz.func54 rfl (by kernel_rfl) ?_;refine J7 H ?_;refine Y6 (fun ms σ w=>ms=[]∧(QY par region).isSome=true∧Q0 w (Qf q.trp last par::Qv p q::fr)) ?_ ?_
 ·refine RW H ?_;refine VQ H ?_;refine Jc rfl rfl (CL q.trp last par region H) ?_;clear H;rintro v w ⟨rfl,H⟩;cases hf:(QY par region).isSome with
  | true=>
   refine WH H ?_;exact .inl ⟨rfl,rfl,rfl,H⟩
  | false=>
   refine E8 H ?_;exact Q3 (.inr ⟨by simp,Jy H rfl fun w' H'=>⟨rfl,H'⟩⟩)
 ·clear H;rintro ms σ w ⟨rfl,hf,H⟩;rw[hf];refine VB H ?_;exact Q3 (Jy H rfl fun w' H'=>⟨rfl,H'⟩)
theorem gd [Q4] {w:World} {a b:Q2} {l:List Q2} (H:Q0 w (a::b::l)):∃ X,X=l∧Q0 w (a::b::X):=⟨l,rfl,H⟩
def KV (s:CS) (l:List Int) (G:List Nat):Prop:=G.Pairwise (· < ·)∧∀ k,k∈G↔∃ g e,s.tab[k]? = some ⟨g,some e⟩∧e.region∈l
theorem KV.len {s:CS} (hw:WF s) {l:List Int} {G:List Nat} (h:KV s l G):G.length≤64:=by
 have:=Kh G 0 64 (fun x hx=>⟨Nat.zero_le _,by
  obtain⟨g,f,h3,_⟩:=(h.2 x).1 hx;have h4:=(List.getElem?_eq_some_iff.1 h3).1;have:=hw.slots.2;omega⟩) h.1
 omega
theorem KV.step {s:CS} {l:List Int} {G M:List Nat} {x:Int} (h:KV s l G) (hx:x∉l) (hM:M.Pairwise (· < ·)) (hm:∀ i,i∈M↔∃ g e,s.tab[i]? = some ⟨g,some e⟩∧e.region=x):(∀ k∈G,k∉M)∧KV s (l++[x]) (UW G M):=by
 have hd:∀ k∈G,k∉M:=fun k hk hk2=>by
  obtain⟨g,e,h1,h2⟩:=(h.2 k).1 hk;obtain⟨g',e',h3,h4⟩:=(hm k).1 hk2;rw[h1] at h3;injection h3 with h3
  injection h3 with _ h3
  injection h3 with h3
  subst h3;exact hx (h4▸h2)
 refine⟨hd,OO h.1 hM hd,fun k=>?_⟩;rw[eM,h.2,hm];constructor
 ·rintro(⟨g,e,h1,h2⟩|⟨g,e,h1,h2⟩)
  ·exact⟨g,e,h1,mem_append.2 (.inl h2)⟩
  ·exact⟨g,e,h1,mem_append.2 (.inr (mem_singleton.2 h2))⟩
 ·rintro⟨g,e,h1,h2⟩
  rcases mem_append.1 h2 with h2|h2
  ·exact .inl ⟨g,e,h1,h2⟩
  ·exact .inr ⟨g,e,h1,mem_singleton.1 h2⟩
theorem Gq.rk {s s':CS} {D:List Rf} (h:Gq s D s') (hR:Xf s):Xf s':=by
 refine⟨h.nd,fun r t hr=>?_⟩;rw[h.rem] at hr;split at hr
 ·cases hr
 ·obtain⟨k,p,g,e,h1,h2,h3⟩:=hR.key r t hr;exact⟨k,p,g,VL D k e,h1,h.tab k _ h2,by rw[Rz];exact h3⟩
def Wq (s:CS) (G ks:List Nat) (D:List Rf):Prop:=∀ r:Rf,r∈D↔(∃ t∈ks,QY s.rem r=some ((t:Nat):Int))∧¬ ∃ k∈G,r.1=((k:Nat):Int)
structure Xh (s:CS) (ks:List Nat) (s':CS):Prop where
 size:s'.size=s.size
 own:s'.own=s.own
 lays:s'.lays=s.lays
 last:s'.last=s.last
 par:s'.par=s.par
 sps:s'.sps=s.sps
 tabl:s'.tab.length=s.tab.length
 tab:∀ (k:Nat) (t:QX),s.tab[k]? = some t→s'.tab[k]? = some (if k∈ks then ⟨t.gen,none⟩ else t)
 nd:(s'.rem.map (·.1)).Nodup
 rem:∀ r,QY s'.rem r=if ∃ k∈ks,r.1=((k:Nat):Int) then none else QY s.rem r
theorem Xh.start {s:CS} (h:(s.rem.map (·.1)).Nodup):Xh s [] s:=
 ⟨rfl,rfl,rfl,rfl,rfl,rfl,rfl,fun k t hk=>by rw[if_neg (by simp)];exact hk,h,fun r=>by rw[if_neg (by simp)]⟩
theorem Xh.step {s s' s2:CS} {ks:List Nat} (h:Xh s ks s') {k n:Nat} {e:Q7} (hk:s.tab[k]? = some ⟨n,some e⟩) (hL:FN s' k n s2):Xh s (ks++[k]) s2:=by
 refine⟨hL.size.trans h.size,hL.own.trans h.own,hL.lays.trans h.lays,hL.last.trans h.last,hL.par.trans h.par,hL.sps.trans h.sps,by rw[hL.tab,length_set];exact h.tabl,fun j t hj=>?_,hL.nd,fun r=>?_⟩
 ·have hj':=h.tab j t hj;have hjl:=(List.getElem?_eq_some_iff.1 hj').1;rw[hL.tab];by_cases hkj:k=j
  ·subst hkj;rw[hk] at hj;injection hj with hj
   subst hj;rw[getElem?_set_self hjl,if_pos (by simp)]
  ·rw[getElem?_set_ne hkj,hj']
   have h1:j∈ks++[k]↔j∈ks:=by
    rw[mem_append,mem_singleton];exact⟨fun h=>h.elim id fun h=>absurd h.symm hkj,.inl⟩
   by_cases h2:j∈ks
   ·rw[if_pos h2,if_pos (h1.2 h2)]
   ·rw[if_neg h2,if_neg (fun h=>h2 (h1.1 h))]
 ·rw[hL.rem,h.rem];by_cases h1:r.1=((k:Nat):Int)
  ·rw[if_pos h1,if_pos ⟨k,by simp,h1⟩]
  ·rw[if_neg h1];by_cases h2:∃ j∈ks,r.1=((j:Nat):Int)
   ·obtain⟨j,h3,h4⟩:=h2;rw[if_pos ⟨j,h3,h4⟩,if_pos ⟨j,mem_append.2 (.inl h3),h4⟩]
   ·rw[if_neg h2,if_neg];rintro⟨j,h3,h4⟩
    rcases mem_append.1 h3 with h3|h3
    ·exact h2 ⟨j,h3,h4⟩
    ·rw[mem_singleton] at h3;subst h3;exact h1 h4
structure Kz (s:CS) (l:List Int) (s':CS):Prop where
 size:s'.size=s.size
 own:s'.own.length=s.own.length
 lays:s'.lays=s.lays
 last:s'.last=s.last
 par:s'.par=l.foldl QD s.par
 tab:s'.tab=s.tab
 rem:s'.rem=s.rem
 sps:∀ y∈s.sps,y.1∉l→y∈s'.sps
 owns:∀ j,s'.own.getD j 0=if ((s.own.getD j 0:Nat):Int)∈l then 0 else s.own.getD j 0
theorem Kz.start (s:CS):Kz s [] s:=⟨rfl,rfl,rfl,rfl,rfl,rfl,rfl,fun y h _=>h,fun j=>by rw[if_neg (by simp)]⟩
theorem Kz.step {s s':CS} {l:List Int} (h:Kz s l s') (x:Int) {own':List Nat} (ho:own'.length=s'.own.length) (sps:List (Int×Nat×QE)) (mns:List (Int×Nat×List Nat)) (hsp:∀ y∈s'.sps,y.1≠x→y∈sps) (hog:∀ j,own'.getD j 0=if ((s'.own.getD j 0:Nat):Int)=x then 0 else s'.own.getD j 0):Kz s (l++[x]) { s' with own:=own',par:=QD s'.par x,sps:=sps,mns:=mns }:=
 ⟨h.size, ho.trans h.own, h.lays, h.last, by show QD s'.par x = _; rw [h.par, foldl_append]; rfl, h.tab, h.rem, fun y hy hn => hsp y (h.sps y hy fun h1 => hn (mem_append.2 (.inl h1))) fun h1 => hn (mem_append.2 (.inr (by rw [h1]; exact mem_singleton.2 rfl))), fun j => by
  show own'.getD j 0=_;rw[hog,h.owns];by_cases h1:((s.own.getD j 0:Nat):Int)∈l
  ·rw[if_pos h1,if_pos (mem_append.2 (.inl h1))];split <;> rfl
  ·rw[if_neg h1];by_cases h2:((s.own.getD j 0:Nat):Int)=x
   ·rw[if_pos h2,if_pos (mem_append.2 (.inr (by rw[h2];exact mem_singleton.2 rfl)))]
   ·rw[if_neg h2,if_neg (fun h3=>(mem_append.1 h3).elim h1 fun h4=>h2 (mem_singleton.1 h4))]⟩
theorem Fc:∀ (ks:List Int) {m:List (Int×Int)},(m.map (·.1)).Nodup→((ks.foldl QD m).map (·.1)).Nodup
 | [],_,h=>h
 | k::ks,_,h=>Fc ks (XK h)
theorem gf {m:List (Int×Int)} {k x:Int} (hne:k≠x) (hx:x∈m.map (·.1)):x∈(QD m k).map (·.1):=by
 induction m with
 | nil=>exact hx
 | cons a m ih=>
  unfold QD;split
  ·rename_i h;rw[map_cons,mem_cons] at hx
   rcases hx with hx|hx
   ·exact absurd (hx.trans h).symm hne
   ·exact hx
  ·rw[map_cons,mem_cons] at hx ⊢
   rcases hx with hx|hx
   ·exact .inl hx
   ·exact .inr (ih hx)
theorem PD {x:Int}:∀ {ks:List Int} {m:List (Int×Int)},x∉ks→x∈m.map (·.1)→x∈(ks.foldl QD m).map (·.1)
 | [],_,_,h=>h
 | k::ks,_,h1,h=>PD (ks:=ks) (fun h2=>h1 (mem_cons_of_mem _ h2)) (gf (fun e=>h1 (e▸mem_cons_self)) h)
theorem gh {own own' C:List Nat} {r:Int} (hog:∀ j,own'.getD j 0=if j∈C then 0 else own.getD j 0) (ho:∀ c,c∈C↔∃ q:Nat,own[c]? = some q∧(q:Int)=r∧q≠0) (j:Nat):own'.getD j 0=if ((own.getD j 0:Nat):Int)=r then 0 else own.getD j 0:=by
 rw[hog j];by_cases hj:j∈C
 ·obtain⟨q',h1,h2,_⟩:=(ho j).1 hj;rw[if_pos hj,if_pos (by rw[getD_eq_getElem?_getD,h1];exact h2)]
 ·rw[if_neg hj];split
  ·rename_i h1;rw[getD_eq_getElem?_getD] at h1 ⊢;cases h2:own[j]? with
   | none=>rfl
   | some y=>
    rw[h2] at h1;have h1:((y:Nat):Int)=r:=h1;by_cases h3:y=0
    ·exact h3
    ·exact absurd ((ho j).2 ⟨y,h2,h1,h3⟩) hj
  ·rfl
def Fe (s:CS) (L:List Int) (s':CS):Prop:=∃ (G:List Nat) (Dl:List Rf) (s1 s2:CS),KV s L G∧Gq s Dl s1∧Wq s G G Dl∧Xh s1 G s2∧Kz s2 L s'
set_option maxRecDepth 10000 in
theorem PE [Q4] (p:Nat) (s:CS) (region:Int) (hT:Z0 s.par) (hid:(QY s.par region).isSome=true) (hI:Inv s) (hgen:∀ (k g:Nat) (e:Q7),s.tab[k]? = some ⟨g,some e⟩→g < 255) {w:World} {fr:List Q2} (H:Q0 w (QA p s::fr)) :
  Calls Tryz.prog 14 #[pp p,.int .i64 region] w (ret fun v w'=>∃ u L s',v = .tuple #[u,.int .i64 0]∧L.Nodup∧L.Pairwise (·≤·)∧(∀ c,c∈L↔Zf s.par region c)∧L.length≤s.par.length∧Fe s L s'∧Q0 w' (IL u L::QA p s'::fr)):=by
 obtain⟨q,mem,hw,hm,H⟩:=Vv H;refine Q9 Tryz.func14 rfl (by kernel_rfl) ?_;refine Yw H ?_;clear H;intro b2 w H;refine J3 H ?_;replace H:=Js [6,1,0,0,0,0,0] 0 H;refine GS H ?_;refine Jc rfl rfl (Fb p q s.last s.par region H) ?_;clear H;rintro v w ⟨rfl,H⟩;rw[if_pos hid];refine Yv H ?_;refine US H ?_;refine Jc rfl rfl (eI q.trp s.last s.par region hT hid (by have:=hw.par.1;omega) H) ?_;clear H;rintro v w ⟨u,L,rfl,hL1,hL2,hL3,hL4,H⟩;obtain⟨aL,cL,rfl⟩:=QF H (Vn L) (by decide);refine Zs H ?_;refine G5 H ?_;refine Jc rfl rfl (IU H) ?_;clear H;rintro v w ⟨bg,rfl,H⟩;refine VZ H ?_;clear H;intro b9 w H;refine Kg H ?_;clear H;intro w H;refine J2 H ?_;refine UV H ?_;have hLl:L.length≤64:=by have:=hw.par.1;omega
 have hLm:∀ x∈L,x∈s.mns.map (·.1):=fun x hx=>by
  have h1:=((hL3 x).1 hx).live hid;rw[hw.mkeys];cases hf:QY s.par x with
  | none=>rw[hf] at h1;cases h1
  | some y=>exact mem_map.2 ⟨(x,y),UC hf,rfl⟩
 replace H:=Js [2,1,0,11,1,1,8,0,0,0,0,0,0,0,0] 0 H;obtain⟨X,hX,H⟩:=gd H;refine J6 H ?_;refine Qo (fun ms σ w=>ms=[]∧∃ G:List Nat,KV s L G∧σ 2=pp b2∧σ 7 = .slice aL L.length cL∧σ 9=pp b9∧Q0 w (IL (.slice aL L.length cL) L::Qu bg G::X)) ?_ ?_
 ·refine QP ?_;refine Ql (fun ms σ w z=>ms=[]∧∃ (i:Nat) (G:List Nat),i≤L.length∧z=L.length - i∧KV s (L.take i) G∧σ 2=pp b2∧σ 7 = .slice aL L.length cL∧σ 9=pp b9∧σ 36 = .slice aL L.length cL∧σ 37 = .int .i64 L.length∧σ 38 = .int .i64 i∧Q0 w (IL (.slice aL L.length cL) L::Qu bg G::X)) (m:=L.length) ⟨rfl,0,[],by omega,rfl,⟨List.Pairwise.nil,fun k=>by simp⟩,rfl,rfl,rfl,rfl,rfl,rfl,H⟩ ?_;clear H;rintro ms σ w z ⟨rfl,i,G,hi,rfl,hG,g2,g7,g9,g36,g37,g38,H⟩;rw[Q1 g2,Q1 g7,Q1 g9,Q1 g36,Q1 g37,Q1 g38];refine J7 H ?_;refine Qk rfl (fun h=>QB ?_) (fun h=>Qq ?_)
  ·have hlt:i < L.length:=by omega
   have hx:=getElem?_eq_getElem hlt;have htk:L.take (i+1)=L.take i++[L[i]]:=by rw[take_add_one,hx];rfl
   have hnt:L[i]∉L.take i:=fun hh=>by
    obtain⟨j,hj⟩:=getElem?_of_mem hh;rw[getElem?_take] at hj;split at hj
    ·rename_i hji;obtain⟨hj1,hj2⟩:=List.getElem?_eq_some_iff.1 hj;exact(pairwise_iff_getElem.1 hL1) j i hj1 hlt hji hj2
    ·cases hj
   have hxm:=hLm _ (getElem_mem hlt);generalize L[i]=x at hx htk hnt hxm;obtain⟨b',hkM⟩:=X8 (l:=s.mns) (f:=fun x=>x.1) (g:=fun x=>x.2.1) (k:=x) hxm;obtain⟨⟨r1,b1,M⟩,m1,m2,hmns,h11,h12⟩:=X7 hkM;have h11:r1=x:=h11;have h12:b1=b':=h12;subst h11 h12;have hkM':QY (s.mns.map Qx) r1=some b1:=hkM;have hM:=hw.mine (r1,b1,M) (by rw[hmns];simp);have hM1:KV s [r1] M:=⟨hM.1,fun k=>by rw[hM.2];simp⟩;have hMl:=hM1.len hw;have hGl:=hG.len hw;obtain⟨hdj,hG2⟩:=hG.step hnt hM.1 hM.2;rw[hX] at H;obtain⟨bT,sT,rfl,H,hcl⟩:=V5 H (by omega);refine YW H ?_;refine Jd ?_;refine Q5 rfl (QR H rfl (by simpa using Uk hx) rfl ?_);refine J0 H ?_;replace H:=hcl _ _ H;replace H:=Js [3,0,0,0] 0 H;replace H:Q0 w (Qu b1 M::star ((m1++m2).map Qy)::_):=(Q0.pick (R:=Qy) (x:=(r1,b1,M)) hmns).1 H;replace H:=Js [3,0,0,0] 0 H;refine J1 H ?_;clear H;intro w H;refine Jl 0 [7] H ?_;refine Jl 1 [7] H ?_;refine Ja 2 ?_;refine Jf 3 ?_;refine Jl 4 [] H ?_;refine Ja 5 ?_;refine Uq 6 [] (key:=r1) H rfl (Q8.none rfl) rfl rfl VC (by kernel_rfl) ?_;rw[hkM'];refine Jo 7 H ?_;refine Jk rfl rfl (eP bg b1 G M hG.1 hM.1 hdj (by omega) (by omega) H) ?_;clear H;rintro v w ⟨rfl,H⟩;refine Jx H ?_;replace H:=Js [1,1,0,0] 0 H;replace H:=(Q0.pick (R:=Qy) (x:=(r1,b1,M)) hmns).2 H;replace H:=Js [2,1,1,0] 0 H;refine J5 H ?_;exact⟨_,⟨rfl,i+1,UW G M,hlt,rfl,by rw[htk];exact hG2,rfl,rfl,rfl,rfl,rfl,Qc (by omega),by rw[hX];exact H⟩,by omega⟩
  ·have hge:i=L.length:=by omega
   subst hge;rw[take_length] at hG;exact⟨rfl,rfl,G,hG,rfl,rfl,rfl,H⟩
 clear H;rintro ms σ w ⟨rfl,G,hG,g2,g7,g9,H⟩;rw[Q1 g2,Q1 g7,Q1 g9];rw[hX] at H;clear hX;have hGl:=hG.len hw;replace H:=Js [1,0] 0 H;refine Zl H ?_;refine Jc rfl rfl (FI bg G (by omega) H) ?_;clear H;rintro v w ⟨bv,av,cv,rfl,H⟩;refine J2 H ?_;replace H:=Js [6,9,9,9,9,9,9,9,7,5,0,0,0,0,0,0,0] 0 H;replace H:=Cv hw hm H;refine J6 H ?_;refine Qo (fun ms σ w=>(∃ (D:Nat) (s1:CS) (Dl:List Rf),ms=[D]∧Gq s Dl s1∧Wq s G G Dl∧Q0 w (Gp p q s1::Qu bg G::pts b9 (row 61 [pp bg])::pts b2 (row 44 [pp p])::pts D (.deferred (some []))::IL (.slice aL L.length cL) L::Qf q.trp s.last (L.foldl QD s.par)::fr))∧σ 2=pp b2∧σ 7 = .slice aL L.length cL∧σ 9=pp b9) ?_ ?_
 ·refine QP (XA (a:=[]) (b:=[pp bv]) H rfl (fun yl D w H=>?_));generalize hL:LR _ yl _ _ _ _ D .ready=LRR at H ⊢;obtain⟨J,hJ⟩:∃ J:List Nat→Q2,J=fun ks=>ex fun x:CS×List Rf=>star [prop (Gq s x.2 x.1∧Wq s G ks x.2),LRR,Gp p q x.1,Qu bg G,pts b9 (row 61 [pp bg]),pts b2 (row 44 [pp p])]:=⟨_,rfl⟩
  have hin:∀ (ks:List Nat) (s1:CS) (Dl:List Rf) (w:World) (l':List Q2),Gq s Dl s1→Wq s G ks Dl→Q0 w (LRR::Gp p q s1::Qu bg G::pts b9 (row 61 [pp bg])::pts b2 (row 44 [pp p])::l')→Q0 w (J ks::l'):=by
   intro ks s1 Dl w l' h1 h2 H;rw[hJ];exact Q0.ex.2 ⟨(s1,Dl),Q0.star.2 (Q0.prop.2 ⟨⟨h1,h2⟩,H⟩)⟩
  have hout:∀ (ks:List Nat) (w:World) (l':List Q2),Q0 w (J ks::l')→∃ s1 Dl,Gq s Dl s1∧Wq s G ks Dl∧Q0 w (LRR::Gp p q s1::Qu bg G::pts b9 (row 61 [pp bg])::pts b2 (row 44 [pp p])::l'):=by
   intro ks w l' H;rw[hJ] at H;obtain⟨⟨s1,Dl⟩,H⟩:=Q0.ex.1 H;obtain⟨⟨h1,h2⟩,H⟩:=Q0.prop.1 (Q0.star.1 H);exact⟨s1,Dl,h1,h2,H⟩
  replace H:=Js [0,1,3,4,4,1,1,0,0,0] 0 H;replace H:=hin [] s [] _ _ (Gq.start hI.nd) (fun r=>by simp) H;refine call (FJ yl bv av cv G (by omega) J ?_ H) ?_
  ·clear H;intro ks k tt rest w hpre H;obtain⟨s1,Dl,hC1,hD1,H⟩:=hout _ _ _ H;subst hL;refine UF (args:=[.int .i64 k]) H rfl rfl ?_;refine VB H ?_;refine⟨rfl,_,H,fun w H=>QP ?_⟩;generalize hLB:LR _ yl _ _ _ _ D .busy=LB at H ⊢;replace H:=Js [1,0] 0 H;obtain⟨mem1,hw1,hm1,H⟩:=Cu H;replace H:=Js [5,0,0,0,0,0] 0 H;refine US H ?_;refine Jc rfl rfl (fZ q.rp s1.rem (FM hw1 (hC1.rk hI.rk)) k H) ?_;clear H;rintro v w ⟨rs,hrs,hris,H⟩;obtain⟨ar,cr,rfl⟩:=QF H (Av rs) (by decide);refine UN H ?_
   have hrl:rs.length≤1000000:=by
    have h1:=ZS (l₁:=rs) (l₂:=s1.rem.map (·.1)) (hris.imp fun h=>by
     rintro rfl
     rcases h with h|⟨_,h⟩ <;> omega) (fun r hr=>by
     have:=(hrs r).1 hr;exact mem_map.2 ⟨(r,((k:Nat):Int)),UC this,rfl⟩)
    rw[length_map] at h1;have:=FM hw1 (hC1.rk hI.rk);omega
   have hkn:k∉ks:=fun h=>by
    have h1:=hG.1;rw[hpre,pairwise_append] at h1;have:=h1.2.2 k h k mem_cons_self;omega
   replace H:=Js [2,2,2,2,2,1,1,1,1,1,0] 0 H;replace H:=Cv hw1 hm1 H;refine J6 H ?_;refine QP (Ql (fun ms σ w z=>ms=[]∧∃ (i:Nat) (s2:CS) (D2:List Rf),i≤rs.length∧z=rs.length - i∧Gq s D2 s2∧(∀ r,r∈D2↔r∈Dl∨(r∈rs.take i∧¬ ∃ k∈G,r.1=((k:Nat):Int)))∧σ 2=pp b2∧σ 9=pp b9∧σ 59 = .slice ar rs.length cr∧σ 60 = .int .i64 rs.length∧σ 61 = .int .i64 i∧Q0 w (Gp p q s2::QC 133 2 (.slice ar rs.length cr) (ZE rs)::LB::Qu bg G::pts b9 (row 61 [pp bg])::pts b2 (row 44 [pp p])::rest)) (m:=rs.length) ⟨rfl,0,s1,Dl,by omega,rfl,hC1,(fun r=>by simp),rfl,rfl,rfl,rfl,rfl,H⟩ ?_);clear H hw1 hm1;rintro ms σ w z ⟨rfl,i,s2,D2,hi,rfl,hC2,hD2,g2,g9,g59,g60,g61,H⟩;rw[Q1 g2,Q1 g9,Q1 g59,Q1 g60,Q1 g61];refine J7 H ?_;refine Qk rfl (fun h=>QB ?_) (fun h=>Qq ?_)
   ·have hlt:i < rs.length:=by omega
    have hx:=getElem?_eq_getElem hlt;have htk:rs.take (i+1)=rs.take i++[rs[i]]:=by rw[take_add_one,hx];rfl
    have hmem:=(hrs _).1 (getElem_mem hlt);generalize rs[i]=rr at hx htk hmem;rw[hC1.rem] at hmem;split at hmem
    ·cases hmem
    rename_i hnD;obtain⟨kk,pl,g,e,a,b,f,rfl,hk,hpl,hrf,hlk,hlo,hfar,hka⟩:=(hI.rem _ _).1 hmem;have hk2:=hC2.tab kk _ hk;replace H:=Js [1,0] 0 H;obtain⟨bT,sT,rfl,H,hcl⟩:=V5 H (by omega);refine YW H ?_;refine Jd ?_;rw[show 0+((i:Nat):Int).toNat*2=0+i*2 by simp];refine Q5 rfl (VN H rfl (NC hx) rfl ?_);refine VZ H ?_;clear H;intro b14 w H;refine J4 H ?_;clear H;intro w H;refine J2 H ?_;replace H:=hcl _ _ H.swap;replace H:=Js [4,0,0,0,0] 0 H;refine Zl H ?_;refine ZB H ?_;refine Jc rfl rfl (NX bg G kk hG.1 (by omega) H) ?_;clear H;rintro v w ⟨rfl,H⟩;by_cases hkG:kk∈G
    ·rw[decide_eq_true hkG];refine Rd H ?_;replace H:=Js [3,1,2,0,1,1] 1 H;refine⟨_,⟨rfl,i+1,s2,D2,hlt,rfl,hC2,(fun r=>?_),rfl,rfl,rfl,rfl,Qc (by omega),H⟩,by omega⟩;rw[hD2,htk];constructor
     ·rintro(h1|⟨h1,h2⟩)
      ·exact .inl h1
      ·exact .inr ⟨mem_append.2 (.inl h1),h2⟩
     ·rintro(h1|⟨h1,h2⟩)
      ·exact .inl h1
      ·rcases mem_append.1 h1 with h1|h1
       ·exact .inr ⟨h1,h2⟩
       ·rw[mem_singleton] at h1;subst h1;exact absurd ⟨kk,hkG,rfl⟩ h2
    ·rw[decide_eq_false hkG];refine XJ H ?_;replace H:=Js [3,0,0,0] 0 H;obtain⟨mem2,hw2,hm2,H⟩:=Cu H;replace H:=Js [4,0,0,0,0] 0 H;refine Zl H ?_;refine ZB H ?_;refine Jc rfl rfl (Iw p q s2.tab kk g (VL D2 kk e) hk2 H) ?_;clear H;rintro v w ⟨rfl,H⟩;refine Vj H ?_;clear H;intro b15 w H;refine VZ H ?_;clear H;intro b16 w H;refine J4 H ?_;clear H;intro w H;refine J4 H ?_;clear H;intro w H;refine J2 H ?_;have hI2:=Xc hw2 hm2 hk2;have hpl2:pl < (VL D2 kk e).ws.length:=by rw[Rz];exact hpl
     have hrf2:VU (QN s2 (VL D2 kk e)) pl=true:=by rw[hC2.lay];exact hrf
     replace H:=Js [4,4,4,0,0,0,0] 0 H;refine J1 H ?_;clear H;intro w H;refine Jl 0 [] H ?_;refine XN H ?_;refine Jl 3 [] H ?_;refine RK H ?_;refine Jf 6 ?_;refine Jl 7 [] H ?_;refine Zq 8 rfl (Q8.none rfl) rfl (by kernel_rfl) ?_;have hTie:=NG q.ip q.sp q.bp s2.size s2.lays mem2 s2.own (VL D2 kk e).addr (VL D2 kk e).lay (VL D2 kk e).count kk (VL D2 kk e).ws.length (QN s2 (VL D2 kk e)) hI2 pl .grave trivial H;refine Jo 9 H ?_;refine Jk rfl rfl (hTie) ?_;clear H hTie;rintro v w ⟨rfl,H⟩;rw[fA hpl2 hrf2,if_pos rfl,Int.toNat_natCast] at H;refine Jx H ?_;replace H:=Js [7,0,0,0,0,0,0,0] 0 H;refine J1 H ?_;clear H;intro w H;refine Jl 0 [] H ?_;refine XN H ?_;refine Jl 3 [] H ?_;refine VP 4 [] H rfl (Q8.none rfl) rfl (by repeat first|exact .nil _|apply QV.cons rfl) (by kernel_rfl) ?_;refine Jo 5 H ?_;refine Jk rfl rfl (CI q.rp s2.rem hC2.nd (((kk:Nat):Int),((pl:Nat):Int)) H) ?_;clear H;rintro v w ⟨rfl,H⟩;refine Jx H ?_;replace H:=Js [6,6,1,1,1,0,2,2,2,2,3,4,2,3,3] 3 H;replace H:=II (e':={ VL D2 kk e with ws:=(VL D2 kk e).ws.set pl 1 }) hk2 rfl H;replace H:=Js [1,1,1,1,0] 0 H;replace H:=Cv (s:=Cw s2 kk g pl (VL D2 kk e)) (fE hw2 hk2) (fF hw2 hm2 hk2 hpl2) H;refine J5 H ?_;refine⟨_,⟨rfl,i+1,Cw s2 kk g pl (VL D2 kk e),D2++[(((kk:Nat):Int),((pl:Nat):Int))],hlt,rfl,hC2.step hk,(fun r=>?_),rfl,rfl,rfl,rfl,Qc (by omega),H⟩,by omega⟩;rw[mem_append,hD2,htk];constructor
     ·rintro((h1|⟨h1,h2⟩)|h1)
      ·exact .inl h1
      ·exact .inr ⟨mem_append.2 (.inl h1),h2⟩
      ·refine .inr ⟨mem_append.2 (.inr h1),?_⟩;rw[mem_singleton] at h1;subst h1;rintro⟨k',h3,h4⟩;have h4:((kk:Nat):Int)=((k':Nat):Int):=h4;obtain rfl:kk=k':=by omega
       exact hkG h3
     ·rintro(h1|⟨h1,h2⟩)
      ·exact .inl (.inl h1)
      ·rcases mem_append.1 h1 with h1|h1
       ·exact .inl (.inr ⟨h1,h2⟩)
       ·exact .inr h1
   ·have hge:i=rs.length:=by omega
    subst hge;rw[take_length] at hD2
    have hChr:Wq s G (ks++[k]) D2:=by
     intro r;rw[hD2,hrs,hC1.rem];constructor
     ·rintro(h0|⟨h1,h2⟩)
      ·obtain⟨⟨t,h1,h2⟩,h3⟩:=(hD1 r).1 h0;exact⟨⟨t,mem_append.2 (.inl h1),h2⟩,h3⟩
      ·split at h1
       ·cases h1
       ·exact⟨⟨k,by simp,h1⟩,h2⟩
     ·rintro⟨⟨t,h1,h2⟩,h3⟩
      rcases mem_append.1 h1 with h1|h1
      ·exact .inl ((hD1 r).2 ⟨⟨t,h1,h2⟩,h3⟩)
      ·rw[mem_singleton] at h1;subst h1;refine .inr ⟨?_,h3⟩;rw[if_neg]
       ·exact h2
       ·intro h4;obtain⟨⟨t',h5,h6⟩,_⟩:=(hD1 r).1 h4;rw[h2] at h6;injection h6 with h6
        obtain rfl:t=t':=by omega
        exact hkn h5
    subst hLB;replace H:=Js [2,0,1,1,1] 1 H;exact⟨rfl,_,H,fun w H=>⟨rfl,hin _ _ _ _ _ hC2 hChr H⟩⟩
  ·clear H;rintro v w H;obtain⟨s1,Dl,hC1,hD1,H⟩:=hout _ _ _ H;subst hL;refine⟨_,H,fun w H=>?_⟩;replace H:=Js [0,0,0,0,2,2,2] 2 H;exact⟨rfl,⟨D,s1,Dl,rfl,hC1,hD1,H⟩,rfl,rfl,rfl⟩
 clear H;rintro ms σ w ⟨⟨D,s1,Dl,rfl,hC1,hD1,H⟩,g2,g7,g9⟩;rw[Q1 g2,Q1 g7,Q1 g9];have hLnd:=hL1;clear hL1;replace H:=Js [1,1,0] 0 H;refine Zl H ?_;refine Jc rfl rfl (FI bg G (by omega) H) ?_;clear H;rintro v w ⟨bv2,av2,cv2,rfl,H⟩;refine J2 H ?_;replace H:=Js [5,5,0,0,1,1,1,1] 1 H;refine J6 H ?_;refine Qo (fun ms σ w=>(∃ (D2:Nat) (s2:CS),ms=[D2,D]∧Xh s1 G s2∧Xf s2∧Q0 w (Gp p q s2::pts b2 (row 44 [pp p])::pts D2 (.deferred (some []))::pts D (.deferred (some []))::IL (.slice aL L.length cL) L::Qf q.trp s.last (L.foldl QD s.par)::fr))∧σ 2=pp b2∧σ 7 = .slice aL L.length cL) ?_ ?_
 ·refine QP (XA (a:=[]) (b:=[pp bv2]) H rfl (fun yl D2 w H=>?_));generalize hL:LR _ yl _ _ _ _ D2 .ready=LRR at H ⊢;obtain⟨J,hJ⟩:∃ J:List Nat→Q2,J=fun ks=>ex fun x:CS=>star [prop (Xh s1 ks x∧Xf x),LRR,Gp p q x,pts b2 (row 44 [pp p])]:=⟨_,rfl⟩
  have hin:∀ (ks:List Nat) (s2:CS) (w:World) (l':List Q2),Xh s1 ks s2→Xf s2→Q0 w (LRR::Gp p q s2::pts b2 (row 44 [pp p])::l')→Q0 w (J ks::l'):=by
   intro ks s2 w l' h1 h2 H;rw[hJ];exact Q0.ex.2 ⟨s2,Q0.star.2 (Q0.prop.2 ⟨⟨h1,h2⟩,H⟩)⟩
  have hout:∀ (ks:List Nat) (w:World) (l':List Q2),Q0 w (J ks::l')→∃ s2,Xh s1 ks s2∧Xf s2∧Q0 w (LRR::Gp p q s2::pts b2 (row 44 [pp p])::l'):=by
   intro ks w l' H;rw[hJ] at H;obtain⟨s2,H⟩:=Q0.ex.1 H;obtain⟨⟨h1,h2⟩,H⟩:=Q0.prop.1 (Q0.star.1 H);exact⟨s2,h1,h2,H⟩
  replace H:=Js [0,6,1,2,2,0,0,1,1] 1 H;replace H:=hin [] s1 _ _ (Xh.start hC1.nd) (hC1.rk hI.rk) H;refine call (FJ yl bv2 av2 cv2 G (by omega) J ?_ H) ?_
  ·clear H;intro ks k tt rest w hpre H;obtain⟨s2,hN,hR2,H⟩:=hout _ _ _ H;subst hL;have hkG:k∈G:=by rw[hpre];simp
   have hkn:k∉ks:=fun h=>by
    have h1:=hG.1;rw[hpre,pairwise_append] at h1;have:=h1.2.2 k h k mem_cons_self;omega
   obtain⟨g,e,hk,_⟩:=(hG.2 k).1 hkG;have hk1:=hC1.tab k _ hk;have hk2:=hN.tab k _ hk1;rw[if_neg hkn] at hk2;refine UF (args:=[.int .i64 k]) H rfl rfl ?_;refine VB H ?_;refine⟨rfl,_,H,fun w H=>QP ?_⟩;generalize hLB:LR _ yl _ _ _ _ D2 .busy=LB at H ⊢;replace H:=Js [1,0] 0 H;refine GS H ?_;refine Jc rfl rfl (fY p q s2 (by rw[hN.par,hC1.par];exact hT.nd) k g (VL Dl k e) hk2 (hgen k g e hk) hR2 H) ?_;clear H;rintro v w ⟨rfl,s3,hL3',H⟩;refine J2 H ?_;subst hLB;replace H:=Js [1,0,0] 0 H;exact⟨rfl,_,H,fun w H=>⟨rfl,hin _ _ _ _ (hN.step hk1 hL3') (hL3'.rk hR2) H⟩⟩
  ·clear H;rintro v w H;obtain⟨s2,hN,hR2,H⟩:=hout _ _ _ H;subst hL;refine⟨_,H,fun w H=>?_⟩;replace H:=Js [0,0,2,2,2,2] 2 H;exact⟨rfl,⟨D2,s2,rfl,hN,hR2,H⟩,rfl,rfl⟩
 clear H;rintro ms σ w ⟨⟨D2,s2,rfl,hN,hR2,H⟩,g2,g7⟩;rw[Q1 g2,Q1 g7]
 have hno:∀ x∈L,∀ (k g:Nat) (e:Q7),s2.tab[k]? = some ⟨g,some e⟩→e.region≠x:=by
  intro x hx k g e hk hr
  have hlt:k < s1.tab.length:=by
   have:=(List.getElem?_eq_some_iff.1 hk).1;rw[hN.tabl] at this;exact this
  have hlt':k < s.tab.length:=by rw[hC1.tabl] at hlt;exact hlt
  have h1:=hC1.tab k _ (getElem?_eq_getElem hlt');have h2:=hN.tab k _ h1;rw[hk] at h2;split at h2
  ·injection h2 with h2
   injection h2 with _ h2
   cases h2
  ·rename_i hkG;injection h2 with h2
   injection h2 with h3 h4
   cases he:(s.tab[k]).ent with
   | none=>rw[he] at h4;cases h4
   | some e0=>
    rw[he] at h4;injection h4 with h4
    refine hkG ((hG.2 k).2 ⟨(s.tab[k]).gen,e0,?_,?_⟩)
    ·rw[getElem?_eq_getElem hlt',← he]
    ·have h5:e.region=e0.region:=by rw[h4];rfl
     rw[← h5,hr];exact hx
 have hpar2:s2.par=s.par:=hN.par.trans hC1.par;refine YY H ?_;refine C9 H ?_;refine Qo (fun ms σ w=>ms=[D2,D]∧∃ s3:CS,Kz s2 L s3∧σ 2=pp b2∧σ 7 = .slice aL L.length cL∧Q0 w (Gp p q s3::pts b2 (row 44 [pp p])::pts D2 (.deferred (some []))::pts D (.deferred (some []))::IL (.slice aL L.length cL) L::Qf q.trp s.last (L.foldl QD s.par)::fr)) ?_ ?_
 ·refine QP ?_;refine Ql (fun ms σ w z=>ms=[D2,D]∧∃ (i:Nat) (s3:CS),i≤L.length∧z=L.length - i∧Kz s2 (L.take i) s3∧σ 2=pp b2∧σ 7 = .slice aL L.length cL∧σ 100 = .slice aL L.length cL∧σ 101 = .int .i64 L.length∧σ 102 = .int .i64 i∧Q0 w (Gp p q s3::pts b2 (row 44 [pp p])::pts D2 (.deferred (some []))::pts D (.deferred (some []))::IL (.slice aL L.length cL) L::Qf q.trp s.last (L.foldl QD s.par)::fr)) (m:=L.length) ⟨rfl,0,s2,by omega,rfl,Kz.start s2,rfl,rfl,rfl,rfl,rfl,H⟩ ?_;clear H;rintro ms σ w z ⟨rfl,i,s3,hi,rfl,hE,g2,g7,g100,g101,g102,H⟩;rw[Q1 g2,Q1 g7,Q1 g100,Q1 g101,Q1 g102];refine J7 H ?_;refine Qk rfl (fun h=>QB ?_) (fun h=>Qq ?_)
  ·have hlt:i < L.length:=by omega
   have hx:=getElem?_eq_getElem hlt;have htk:L.take (i+1)=L.take i++[L[i]]:=by rw[take_add_one,hx];rfl
   have hnt:L[i]∉L.take i:=fun hh=>by
    obtain⟨j,hj⟩:=getElem?_of_mem hh;rw[getElem?_take] at hj;split at hj
    ·rename_i hji;obtain⟨hj1,hj2⟩:=List.getElem?_eq_some_iff.1 hj;exact(pairwise_iff_getElem.1 hLnd) j i hj1 hlt hji hj2
    ·cases hj
   have hxL:=getElem_mem hlt;have hxm:=hLm _ hxL;generalize L[i]=x at hx htk hnt hxm hxL;replace H:=Js [4,0,0,0,0] 0 H;obtain⟨bT,sT,rfl,H,hcl⟩:=V5 H (by omega);refine YW H ?_;refine Jd ?_;refine Q5 rfl (QR H rfl (by simpa using Uk hx) rfl ?_);refine J0 H ?_;replace H:=hcl _ _ H;replace H:=Js [1,0] 0 H;obtain⟨mem3,hw3,hm3,H⟩:=Cu H;have hnd3:(s3.par.map (·.1)).Nodup:=by rw[hE.par];exact Fc _ (by rw[hpar2];exact hT.nd)
   have hxp:x∈s3.par.map (·.1):=by
    rw[hE.par];refine PD hnt ?_;rw[hpar2,← hw.mkeys];exact hxm
   obtain⟨b0,hkS⟩:=X8 (l:=s3.sps) (f:=fun x=>x.1) (g:=fun x=>x.2.1) (k:=x) (by rw[hw3.skeys];exact hxp);obtain⟨⟨r1,b0',SP⟩,p1,p2,hsps,hs1,hs2⟩:=X7 hkS;obtain rfl:r1=x:=hs1;obtain rfl:b0'=b0:=hs2;obtain⟨b1,hkM⟩:=X8 (l:=s3.mns) (f:=fun x=>x.1) (g:=fun x=>x.2.1) (k:=r1) (by rw[hw3.mkeys];exact hxp);obtain⟨⟨r2,b1',M⟩,m1,m2,hmns,hs3,hs4⟩:=X7 hkM;obtain rfl:r2=r1:=hs3;obtain rfl:b1'=b1:=hs4;have hkS':QY (s3.sps.map VE) r2=some b0':=hkS;have hSx:(r2,b0',SP)∈s3.sps:=by rw[hsps];simp
   obtain⟨hp1,hp2,hp3,hp4,hp5,hp6⟩:=BQ hw3 hSx;replace H:=Js [11,0,7,7,3,6,6,0,0,0,0,0,0] 0 H;replace H:=Js [1,0,6,6,2,5,6,0,0,0,0,0,0] 0 H;refine US H ?_;refine Q5 rfl (ZR (key:=r2) H rfl rfl VC rfl ?_);rw[hkS'];replace H:=Js [6,3,0,0,0,0,0,0,0,0,0,0,0] 0 H;replace H:Q0 w (Qn b0' q.sp r2.toNat SP::star ((p1++p2).map (VJ q.sp))::_):=(Q0.pick (R:=VJ q.sp) (x:=(r2,b0',SP)) hsps).1 H;replace H:=Js [0,1,0] 0 H;refine Jc rfl rfl (Oo b0' q.sp r2.toNat SP s3.size mem3 s3.own hp2 hp4 hp5 hp1 hp3 hw3.own.2 hw3.size.2 hp6 H) ?_;clear H;rintro v w ⟨rfl,own',hol,hog,H⟩;refine J2 H ?_;replace H:=Js [8,0,0,0,0,0,0,0,0] 0 H;replace H:Q0 w (Qu b1' M::star ((m1++m2).map Qy)::_):=(Q0.pick (R:=Qy) (x:=(r2,b1',M)) hmns).1 H;replace H:=H.drop;replace H:=Js [4,3,0,0,0,0,0,0,0,0,0,0,0] 0 H;refine US H ?_;refine Q5 rfl (Xo (key:=r2) H rfl rfl VC rfl ?_);clear H;intro w H;refine J2 H ?_;refine US H ?_;refine Q5 rfl (Xo (key:=r2) H rfl rfl VC rfl ?_);clear H;intro w H;refine Uv H ?_
   have hkeyS:QD (s3.sps.map VE) r2=(p1++p2).map VE:=by
    have h1:=hnd3;rw[← hw3.skeys,hsps] at h1;rw[hsps,map_append,map_cons,map_append];exact Wb (p:=(r2,b0')) (by rw[map_append,map_cons] at h1 ⊢;rw[map_map,map_map];exact h1)
   have hkeyM:QD (s3.mns.map Qx) r2=(m1++m2).map Qx:=by
    have h1:=hnd3;rw[← hw3.mkeys,hmns] at h1;rw[hmns,map_append,map_cons,map_append];exact Wb (p:=(r2,b1')) (by rw[map_append,map_cons] at h1 ⊢;rw[map_map,map_map];exact h1)
   rw[hkeyS,hkeyM] at H;replace H:=Js [1,10,4,2,3,3,6,2,2,1,0,1,1,0] 0 H;have hwE:=fI hw3 hnd3 (fun k g e hk=>hno r2 hxL k g e (by rw[← hE.tab];exact hk)) hsps hmns (own':=own') ⟨hol,hog⟩;have hmE:=fJ (s':={ s3 with own:=own',par:=QD s3.par r2,sps:=p1++p2,mns:=m1++m2 }) hm3 hol rfl rfl;replace H:=Cv hwE hmE H
   exact⟨_,⟨rfl,i+1,{ s3 with own:=own',par:=QD s3.par r2,sps:=p1++p2,mns:=m1++m2 },hlt,rfl,by rw[htk];exact hE.step r2 hol _ _ (hog:=gh hog (hw3.spc _ hSx).owned) (fun y hy hn=>by
    rw[hsps] at hy
    rcases mem_append.1 hy with h1|h1
    ·exact mem_append.2 (.inl h1)
    ·rcases mem_cons.1 h1 with h1|h1
     ·exact absurd (by rw[h1]) hn
     ·exact mem_append.2 (.inr h1)),rfl,rfl,rfl,rfl,Qc (by omega),H⟩,by omega⟩
  ·have hge:i=L.length:=by omega
   subst hge;rw[take_length] at hE;exact⟨rfl,rfl,s3,hE,rfl,rfl,H⟩
 clear H;rintro ms σ w ⟨rfl,s3,hE,g2,g7,H⟩;rw[Q1 g2,Q1 g7];refine VX H ?_;replace H:=Js [2,2,0,2,1] 1 H;have hpar3:s3.par=L.foldl QD s.par:=by rw[hE.par,hpar2]
 have hlast3:s3.last=s.last:=by rw[hE.last,hN.last,hC1.last]
 rw[← hpar3,← hlast3] at H;exact Q3 (HI (ms:=[D2,D]) _ (.inr rfl) (Q0.star.2 H) (fun w' H' => .tmp (.tmp .nil)) fun w' H'=>⟨_,L,s3,rfl,hLnd,hL2,hL3,hL4,⟨G,Dl,s1,s2,hG,hC1,hD1,hN,hE⟩,(fV H').swap⟩)
end Go.Proofs.YtmjdnljneifpcaaGreatDoor
