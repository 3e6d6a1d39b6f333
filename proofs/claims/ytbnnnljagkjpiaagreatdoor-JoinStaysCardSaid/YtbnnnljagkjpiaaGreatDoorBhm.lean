/- Cells: what is proved on the way: every input of the statement; no condition. Texts joined: LawP LawQ LawR RefE MovR JoiD. -/
import Derived.Test.YtbnnnljagkjpiaaGreatDoorBhl
import Derived.Test.YtbnnnljagkjpiaaGreatDoorBhi
import Derived.Test.YtbnnnljagkjpiaaGreatDoorBhd
import Derived.Test.YtbnnnljagkjpiaaGreatDoorBhk
import Derived.Test.YtbnnnljagkjpiaaGreatDoorBhj
set_option linter.unusedVariables false
set_option linter.unusedSimpArgs false
set_option linter.unusedSectionVars false
namespace Go.Proofs.YtbnnnljagkjpiaaGreatDoor
open List
open Go.SL
def eW:Option (Nat×Nat)→Vy
 | some (k,g) => .obj k g
 | none => .none
def Z9 (told:List (Nat×Nat)) (kd t:Nat):Vy:=if kd=2 then eW told[t]? else if kd=1 then .grave else .none
def UT (ls:List QJ) (i:Nat):QJ:=(ls[i - 1]?).getD ⟨0,[],0,[]⟩
structure Gk (lays:List QJ) (told:List (Nat×Nat)) (e:QQ) (x:QI):Prop where
 region:e.region=x.region
 lay:e.lay=x.lay
 count:e.count=x.count
 held:e.held=x.held
 pinned:e.pinned=x.pinned
 len:e.ws.length=x.w.length
 ref:∀ p,p < x.w.length→VW (UT lays x.lay) p=true→ZR (e.ws.getD p 0)=Z9 told (x.kind.getD p 0) (x.to.getD p 0)
 word:∀ p,p < x.w.length→VW (UT lays x.lay) p=false→e.ws.getD p 0=x.w.getD p 0
 kind:∀ p,p < x.w.length→x.kind.getD p 0≠0→VW (UT lays x.lay) p=true∧x.kind.getD p 0≤2
structure Rel (s:CS) (m:MS) (told:List (Nat×Nat)):Prop where
 len:told.length=m.objs.length
 lays:s.lays=m.lays
 tree:∀ (r q:Int),(r,q)∈s.par↔∃ k:Nat,r=k∧1≤k∧m.P[k]? = some q∧0≤q
 nd:(s.par.map (·.1)).Nodup
 last:s.last+1=m.P.length
 obj:∀ (o:Nat) (x:QI) (k g:Nat),m.objs[o]? = some x→told[o]? = some (k,g)→x.gone=false→∃ e,s.tab[k]? = some ⟨g,some e⟩∧Gk m.lays told e x
 gone:∀ (o:Nat) (x:QI) (k g:Nat),m.objs[o]? = some x→told[o]? = some (k,g)→x.gone=true→∀ e,s.tab[k]? ≠ some ⟨g,some e⟩
 used:∀ (k g:Nat) (e:QQ),s.tab[k]? = some ⟨g,some e⟩→∃ o:Nat,told[o]? = some (k,g)
 gens:∀ (o k g:Nat),told[o]? = some (k,g)→∃ t,s.tab[k]? = some t∧g≤t.gen
 nodup:told.Nodup
structure RT (s:CS) (m:MS) (told:List (Nat×Nat)):Prop where
 len:told.length=m.objs.length
 lays:s.lays=m.lays
 tree:∀ (r q:Int),(r,q)∈s.par↔∃ k:Nat,r=k∧1≤k∧m.P[k]? = some q∧0≤q
 nd:(s.par.map (·.1)).Nodup
 obj:∀ (o:Nat) (x:QI) (k g:Nat),m.objs[o]? = some x→told[o]? = some (k,g)→x.gone=false→∃ e,s.tab[k]? = some ⟨g,some e⟩∧Gk m.lays told e x
 gone:∀ (o:Nat) (x:QI) (k g:Nat),m.objs[o]? = some x→told[o]? = some (k,g)→x.gone=true→∀ e,s.tab[k]? ≠ some ⟨g,some e⟩
theorem Rel.w {s:CS} {m:MS} {told:List (Nat×Nat)} (R:Rel s m told):RT s m told:=⟨R.len,R.lays,R.tree,R.nd,R.obj,R.gone⟩
theorem FG {α:Type} {l:List α} (h:l.Nodup) {i j:Nat} {a:α} (hi:l[i]? = some a) (hj:l[j]? = some a):i=j:=by
 have h1:=(List.getElem?_eq_some_iff.1 hi);have h2:=(List.getElem?_eq_some_iff.1 hj);obtain⟨a1,b1⟩:=h1;obtain⟨a2,b2⟩:=h2;have h3:=pairwise_iff_getElem.1 h
 rcases Nat.lt_trichotomy i j with h4|h4|h4
 ·exact absurd (b1.trans b2.symm) (h3 i j a1 a2 h4)
 ·exact h4
 ·exact absurd (b2.trans b1.symm) (h3 j i a2 a1 h4)
theorem Aq {s:CS} {m:MS} {told:List (Nat×Nat)} (R:Rel s m told) {n k g:Nat} {e e':QQ} {x x':QI} (ht:told[n]? = some (k,g)) (hk:s.tab[k]? = some ⟨g,some e⟩) (hx:m.objs[n]? = some x) (hg:x.gone=false) (hg':x'.gone=false) (hl:Gk m.lays told e' x') (rem:List ((Int×Int)×Int)) :
  Rel { VI s k g e' with rem:=rem } (Yl m n x') told:=by
 have hnl:=(List.getElem?_eq_some_iff.1 hx).1;have hkl:=(List.getElem?_eq_some_iff.1 hk).1;refine⟨by show told.length=(m.objs.set n x').length;rw[length_set];exact R.len,R.lays,R.tree,R.nd,R.last,?_,?_,?_,?_,R.nodup⟩
 ·intro o x0 k0 g0 (hx0:(m.objs.set n x')[o]? = some x0) ht0 hg0;by_cases hon:n=o
  ·subst hon;rw[getElem?_set_self hnl] at hx0;injection hx0 with hx0
   subst hx0;rw[ht] at ht0;injection ht0 with h1
   injection h1 with h1 h2
   subst h1 h2;exact⟨e',by show (s.tab.set k _)[k]? = _;rw[getElem?_set_self hkl],hl⟩
  ·rw[getElem?_set_ne hon] at hx0;obtain⟨e0,h1,h2⟩:=R.obj o x0 k0 g0 hx0 ht0 hg0;refine⟨e0,?_,h2⟩;show (s.tab.set k _)[k0]? = _;by_cases hkk:k=k0
   ·subst hkk;rw[hk] at h1;injection h1 with h1
    injection h1 with h1 _
    subst h1;exact absurd (FG R.nodup ht ht0) hon
   ·rw[getElem?_set_ne hkk];exact h1
 ·intro o x0 k0 g0 (hx0:(m.objs.set n x')[o]? = some x0) ht0 hg0 e0 (h1:(s.tab.set k _)[k0]? = _);by_cases hon:n=o
  ·subst hon;rw[getElem?_set_self hnl] at hx0;injection hx0 with hx0
   subst hx0;rw[hg'] at hg0;cases hg0
  ·rw[getElem?_set_ne hon] at hx0
   rcases Qx h1 with ⟨rfl,h2,_⟩|⟨_,h2⟩
   ·injection h2 with h2 _
    subst h2;exact hon (FG R.nodup ht ht0)
   ·exact R.gone o x0 k0 g0 hx0 ht0 hg0 e0 h2
 ·intro k0 g0 e0 (h1:(s.tab.set k _)[k0]? = _)
  rcases Qx h1 with ⟨rfl,h2,_⟩|⟨_,h2⟩
  ·injection h2 with h2 _
   subst h2;exact⟨n,ht⟩
  ·exact R.used k0 g0 e0 h2
 ·intro o k0 g0 ht0;obtain⟨t,h1,h2⟩:=R.gens o k0 g0 ht0;show ∃ t,(s.tab.set k _)[k0]? = some t∧_;by_cases hkk:k=k0
  ·subst hkk;rw[hk] at h1;injection h1 with h1
   subst h1;exact⟨_,getElem?_set_self hkl,h2⟩
  ·exact⟨t,by rw[getElem?_set_ne hkk];exact h1,h2⟩
theorem eA {s:CS} {m:MS} {told:List (Nat×Nat)} (R:Rel s m told) {n:Nat} {x x':QI} (hx:m.objs[n]? = some x) (hg:x.gone=true) (hg':x'.gone=true):Rel s (Yl m n x') told:=by
 have hnl:=(List.getElem?_eq_some_iff.1 hx).1;refine⟨by show told.length=(m.objs.set n x').length;rw[length_set];exact R.len,R.lays,R.tree,R.nd,R.last,?_,?_,R.used,R.gens,R.nodup⟩
 ·intro o x0 k0 g0 (hx0:(m.objs.set n x')[o]? = some x0) ht0 hg0;by_cases hon:n=o
  ·subst hon;rw[getElem?_set_self hnl] at hx0;injection hx0 with hx0
   subst hx0;rw[hg'] at hg0;cases hg0
  ·rw[getElem?_set_ne hon] at hx0;exact R.obj o x0 k0 g0 hx0 ht0 hg0
 ·intro o x0 k0 g0 (hx0:(m.objs.set n x')[o]? = some x0) ht0 hg0;by_cases hon:n=o
  ·subst hon;exact R.gone n x k0 g0 hx ht0 hg
  ·rw[getElem?_set_ne hon] at hx0;exact R.gone o x0 k0 g0 hx0 ht0 hg0
def Gl (told:List (Nat×Nat)) (i g o:Int):Prop:=(∃ k gg n:Nat,i=k∧g=gg∧o=n∧told[n]? = some (k,gg))∨(o = -1∧∀ (k gg n:Nat),i=k→g=gg→told[n]? ≠ some (k,gg))
@[reducible] def Vd (s:CS) (m:MS) (told:List (Nat×Nat)) (i g o:Int):Prop:=(Qg s.tab i g=none∧V1 m o=none) ∨
  ∃ (k gg n:Nat) (e:QQ) (x:QI),i=k∧g=gg∧o=n∧told[n]? = some (k,gg)∧s.tab[k]? = some ⟨gg,some e⟩∧m.objs[n]? = some x∧x.gone=false∧Gk m.lays told e x∧Qg s.tab i g=some (k,e)∧V1 m o=some (n,x)
theorem eB {s:CS} {m:MS} {told:List (Nat×Nat)} (R:RT s m told) {k gg n:Nat} (ht:told[n]? = some (k,gg)):Vd s m told k gg n:=by
 have hnl:n < m.objs.length:=by rw[← R.len];exact(List.getElem?_eq_some_iff.1 ht).1
 have hx:=getElem?_eq_getElem hnl;generalize m.objs[n]=x at hx;cases hg:x.gone with
 | true=>
  left;constructor
  ·cases hv:Qg s.tab k gg with
   | none=>rfl
   | some q=>
    obtain⟨k',e⟩:=q;obtain⟨n',h1,h2,h3⟩:=Vz.1 (U0.1 hv).1;obtain rfl:k=k':=by omega
    obtain rfl:gg=n':=by omega
    exact absurd h3 (R.gone n x k gg hx ht hg e)
  ·rw[Ck,hx];simp[hg]
 | false=>
  obtain⟨e,he,hl⟩:=R.obj n x k gg hx ht hg;have hlk:Qn s.tab k gg=some (k,e):=Vz.2 ⟨gg,rfl,rfl,he⟩;cases hh:x.held with
  | true=>
   right;refine⟨k,gg,n,e,x,rfl,rfl,rfl,ht,he,hx,hg,hl,U0.2 ⟨hlk,by rw[hl.held,hh]⟩,?_⟩;rw[Ck,hx];simp[hg,hh]
  | false=>
   left;constructor
   ·cases hv:Qg s.tab k gg with
    | none=>rfl
    | some q=>
     obtain⟨k',e'⟩:=q;obtain⟨h1,h2⟩:=U0.1 hv;rw[hlk] at h1;injection h1 with h1
     injection h1 with h1 h3
     subst h3;rw[hl.held,hh] at h2;cases h2
   ·rw[Ck,hx];simp[hh]
theorem Xv {s:CS} {m:MS} {told:List (Nat×Nat)} (R:Rel s m told) {i g o:Int} (P:Gl told i g o):Vd s m told i g o:=by
 rcases P with ⟨k,gg,n,rfl,rfl,rfl,ht⟩|⟨rfl,hno⟩
 ·exact eB R.w ht
 ·left;refine⟨?_,rfl⟩;cases hv:Qg s.tab i g with
  | none=>rfl
  | some q=>
   obtain⟨k,e⟩:=q;obtain⟨n',h1,h2,h3⟩:=Vz.1 (U0.1 hv).1;obtain⟨o,ho⟩:=R.used k n' e h3;exact absurd ho (hno k n' o h1 h2)
theorem Ki {s:CS} {m:MS} {told:List (Nat×Nat)} (R:RT s m told) {e:QQ} {x:QI} (h:Gk m.lays told e x):QO s e=Vq m x:=by
 unfold QO Vq;rw[R.lays,h.lay]
theorem eC {s:CS} {m:MS} {told:List (Nat×Nat)} (R:RT s m told) {i g o:Int} (V:Vd s m told i g o) (place:Int) :
  (VD m o place false≠0∧U3 s i g place=(0,VD m o place false))∨(VD m o place false=0∧∃ (n j:Nat) (x:QI),o=n∧place=j∧m.objs[n]? = some x∧j < x.w.length∧U3 s i g place=(x.w.getD j 0,0)):=by
 rcases V with ⟨h1,h2⟩|⟨k,gg,n,e,x,rfl,rfl,rfl,ht,hk,hx,hg,hl,h1,h2⟩
 ·left;rw[XR h2,N7 h1];exact⟨by omega,rfl⟩
 ·rw[UP h2,I0 h1,Ki R hl,hl.len];by_cases h0:QM (Vq m x) x.w.length place false=0
  ·right;obtain⟨j,rfl,hj,hr⟩:=Zh h0;refine⟨h0,n,j,x,rfl,rfl,hx,hj,?_⟩;rw[if_pos h0,Int.toNat_natCast,hl.word j hj hr]
  ·left;exact⟨h0,by rw[if_neg h0]⟩
theorem eD {s:CS} {m:MS} {told:List (Nat×Nat)} (R:Rel s m told) {i g o:Int} (P:Gl told i g o) (place:Int) :
  (VD m o place false≠0∧U3 s i g place=(0,VD m o place false))∨(VD m o place false=0∧∃ (n j:Nat) (x:QI),o=n∧place=j∧m.objs[n]? = some x∧j < x.w.length∧U3 s i g place=(x.w.getD j 0,0)):=eC R.w (Xv R P) place
theorem Ra {α:Type} {l:List α} {i j:Nat} {a d:α} (h:i < l.length):(l.set i a).getD j d=if i=j then a else l.getD j d:=by
 rw[getD_eq_getElem?_getD,getD_eq_getElem?_getD,getElem?_set];split
 ·rename_i hij;subst hij;simp[h]
 ·rfl
def Kj (m:MS) (o place:Int) (X:Nat):MS:=
 match V1 m o with
 | none=>m
 | some (k,x)=>if QM (Vq m x) x.w.length place false=0 then Yl m k { x with w:=x.w.set place.toNat X } else m
theorem O9 {m:MS} {o place:Int} {X:Nat} (h:V1 m o=none):Kj m o place X=m:=by unfold Kj;rw[h]
theorem Ib {m:MS} {o place:Int} {X k:Nat} {x:QI} (h:V1 m o=some (k,x)):Kj m o place X=if QM (Vq m x) x.w.length place false=0 then Yl m k { x with w:=x.w.set place.toNat X } else m:=by unfold Kj;rw[h]
theorem eE {s:CS} {m:MS} {told:List (Nat×Nat)} (R:Rel s m told) {i g o:Int} (P:Gl told i g o) (place:Int) (X:Nat) :
  (UF s i g place X).2=VD m o place false∧Rel (UF s i g place X).1 (Kj m o place X) told:=by
 rcases Xv R P with ⟨h1,h2⟩|⟨k,gg,n,e,x,rfl,rfl,rfl,ht,hk,hx,hg,hl,h1,h2⟩
 ·rw[XR h2,CD h1,O9 h2];exact⟨rfl,R⟩
 ·rw[UP h2,CE h1,Ib h2,Ki R.w hl,hl.len];by_cases h0:QM (Vq m x) x.w.length place false=0
  ·obtain⟨j,rfl,hj,hr⟩:=Zh h0;rw[if_pos h0,if_pos h0,h0,Int.toNat_natCast,Int.toNat_natCast];refine⟨rfl,Aq R ht hk hx hg (by exact hg) ?_ s.rem⟩;refine⟨hl.region,hl.lay,hl.count,hl.held,hl.pinned,by simp[hl.len],?_,?_,?_⟩
   ·intro p hp hr';have hp':p < x.w.length:=by simpa using hp
    show ZR ((e.ws.set j X).getD p 0)=_;rw[Ra (by rw[hl.len];exact hj)];rw[if_neg (by rintro rfl;exact absurd (hr'.symm.trans hr) (by decide))];exact hl.ref p hp' hr'
   ·intro p hp hr';have hp':p < x.w.length:=by simpa using hp
    show (e.ws.set j X).getD p 0=(x.w.set j X).getD p 0;rw[Ra (by rw[hl.len];exact hj),Ra hj];split
    ·rfl
    ·exact hl.word p hp' hr'
   ·intro p hp hn;have hp':p < x.w.length:=by simpa using hp
    exact hl.kind p hp' hn
  ·rw[if_neg h0,if_neg h0];exact⟨rfl,R⟩
theorem OQ {ls:List QJ} {told:List (Nat×Nat)} {e:QQ} {x:QI} (h:Gk ls told e x) (b:Bool):Gk ls told { e with held:=b } { x with held:=b }:=⟨h.region,h.lay,h.count,rfl,h.pinned,h.len,h.ref,h.word,h.kind⟩
theorem eF {ls:List QJ} {told:List (Nat×Nat)} {e:QQ} {x:QI} (h:Gk ls told e x) (b:Bool):Gk ls told { e with pinned:=b } { x with pinned:=b }:=⟨h.region,h.lay,h.count,h.held,rfl,h.len,h.ref,h.word,h.kind⟩
theorem eH {s:CS} {m:MS} {told:List (Nat×Nat)} (R:Rel s m told) {i g o:Int} (P:Gl told i g o) :
  (UH s i g).2=(GO m o).2∧Rel (UH s i g).1 (GO m o).1 told:=by
 rcases Xv R P with ⟨h1,h2⟩|⟨k,gg,n,e,x,rfl,rfl,rfl,ht,hk,hx,hg,hl,h1,h2⟩
 ·have:GO m o=(m,8):=by unfold GO;rw[h2]
  rw[this,CH h1];exact⟨rfl,R⟩
 ·have:GO m n=(Yl m n { x with held:=false },0):=by unfold GO;rw[h2]
  rw[this,CI h1,Int.toNat_natCast];exact⟨rfl,Aq R ht hk hx hg (by exact hg) (OQ hl false) s.rem⟩
theorem eI {s:CS} {m:MS} {told:List (Nat×Nat)} (R:Rel s m told) {i g o:Int} (P:Gl told i g o) (on:Bool) :
  (UI s i g on).2=(GP m o on).2∧Rel (UI s i g on).1 (GP m o on).1 told:=by
 rcases Xv R P with ⟨h1,h2⟩|⟨k,gg,n,e,x,rfl,rfl,rfl,ht,hk,hx,hg,hl,h1,h2⟩
 ·have:GP m o on=(m,8):=by unfold GP;rw[h2]
  rw[this,CL h1];exact⟨rfl,R⟩
 ·have:GP m n on=if x.pinned=on then (m,7) else (Yl m n { x with pinned:=on },0):=by unfold GP;rw[h2]
  rw[this,CM h1,Int.toNat_natCast,hl.pinned];by_cases hb:x.pinned=on
  ·rw[if_pos hb,if_pos hb];exact⟨rfl,R⟩
  ·rw[if_neg hb,if_neg hb];exact⟨rfl,Aq R ht hk hx hg (by exact hg) (eF hl on) s.rem⟩
theorem eJ {s:CS} {m:MS} {told:List (Nat×Nat)} (R:RT s m told) {i g o:Int} (V:Vd s m told i g o) (place:Int) :
  (VD m o place true≠0∧Y2 s i g place=(.none,VD m o place true))∨(VD m o place true=0∧∃ (n j:Nat) (x:QI),o=n∧place=j∧m.objs[n]? = some x∧V1 m o=some (n,x)∧j < x.w.length∧VW (UT m.lays x.lay) j=true∧x.kind.getD j 0≤2∧Y2 s i g place=(Z9 told (x.kind.getD j 0) (x.to.getD j 0),0)):=by
 rcases V with ⟨h1,h2⟩|⟨k,gg,n,e,x,rfl,rfl,rfl,ht,hk,hx,hg,hl,h1,h2⟩
 ·left;rw[XR h2,I3 h1];exact⟨by omega,rfl⟩
 ·rw[UP h2,CF h1,Ki R hl,hl.len];by_cases h0:QM (Vq m x) x.w.length place true=0
  ·right;obtain⟨j,rfl,hj,hr⟩:=Zh h0;refine⟨h0,n,j,x,rfl,rfl,hx,h2,hj,hr,?_,?_⟩
   ·by_cases hz:x.kind.getD j 0=0
    ·omega
    ·exact(hl.kind j hj hz).2
   ·rw[if_pos h0,Int.toNat_natCast,hl.ref j hj hr]
  ·left;exact⟨h0,by rw[if_neg h0]⟩
theorem Ic {s:CS} {m:MS} {told:List (Nat×Nat)} (R:Rel s m told) {i g o:Int} (P:Gl told i g o) (place:Int) :
  (VD m o place true≠0∧Y2 s i g place=(.none,VD m o place true))∨(VD m o place true=0∧∃ (n j:Nat) (x:QI),o=n∧place=j∧m.objs[n]? = some x∧V1 m o=some (n,x)∧j < x.w.length∧VW (UT m.lays x.lay) j=true∧x.kind.getD j 0≤2∧Y2 s i g place=(Z9 told (x.kind.getD j 0) (x.to.getD j 0),0)):=eJ R.w (Xv R P) place
theorem OV {ls:List QJ} {told:List (Nat×Nat)} {e:QQ} {x:QI} {n:Nat} (h:Gk ls told e x) (hm:Gj ls n x) {j:Nat} (hj:j < x.w.length) (hr:VW (UT ls x.lay) j=true) (kd t:Nat) (hkd:kd≤2) (W:Nat) (hW:ZR W=Z9 told kd t):Gk ls told { e with ws:=e.ws.set j W } { x with kind:=x.kind.set j kd,to:=x.to.set j t }:=by
 refine⟨h.region,h.lay,h.count,h.held,h.pinned,by simp[h.len],?_,?_,?_⟩
 ·intro p hp hr';show ZR ((e.ws.set j W).getD p 0)=Z9 told ((x.kind.set j kd).getD p 0) ((x.to.set j t).getD p 0);rw[Ra (by rw[h.len];exact hj),Ra (by rw[hm.kind];exact hj),Ra (by rw[hm.to];exact hj)];split
  ·exact hW
  ·exact h.ref p hp hr'
 ·intro p hp hr';show (e.ws.set j W).getD p 0=x.w.getD p 0;rw[Ra (by rw[h.len];exact hj),if_neg (by rintro rfl;exact absurd (hr.symm.trans hr') (by decide))];exact h.word p hp hr'
 ·intro p hp (hn:(x.kind.set j kd).getD p 0≠0);show _∧(x.kind.set j kd).getD p 0≤2;rw[Ra (by rw[hm.kind];exact hj)] at hn ⊢;by_cases hjp:j=p
  ·subst hjp;rw[if_pos rfl];exact⟨hr,hkd⟩
  ·rw[if_neg hjp] at hn ⊢;exact h.kind p hp hn
theorem eL {s:CS} {m:MS} {told:List (Nat×Nat)} (R:Rel s m told) (hm:V6 m) {i g o:Int} (P:Gl told i g o) (place:Int) :
  (GH s i g place .none).2=(US m o place).2∧Rel (GH s i g place .none).1 (US m o place).1 told:=by
 rcases Xv R P with ⟨h1,h2⟩|⟨k,gg,n,e,x,rfl,rfl,rfl,ht,hk,hx,hg,hl,h1,h2⟩
 ·rw[O6 h2,CP h1];exact⟨rfl,R⟩
 ·rw[IS h2,WI h1,Ki R.w hl,hl.len];by_cases h0:QM (Vq m x) x.w.length place true=0
  ·obtain⟨j,rfl,hj,hr⟩:=Zh h0;rw[if_pos h0,if_pos h0,Int.toNat_natCast,Int.toNat_natCast];exact⟨rfl,Aq R ht hk hx hg (by exact hg) (OV hl (hm.objs x (mem_of_getElem? hx)) hj hr 0 0 (by omega) _ rfl) _⟩
  ·rw[if_neg h0,if_neg h0];exact⟨rfl,R⟩
theorem OY {s:CS} {m:MS} {told:List (Nat×Nat)} (R:Rel s m told) (hw:WF s) (hm:V6 m) {i g o u v q:Int} (P:Gl told i g o) (Q:Gl told u v q) (place:Int) :
  (Yk s i g place u v).2=(Yg m o place q).2∧Rel (Yk s i g place u v).1 (Yg m o place q).1 told:=by
 rcases Xv R P with ⟨h1,h2⟩|⟨k,gg,n,e,x,rfl,rfl,rfl,ht,hk,hx,hg,hl,h1,h2⟩
 ·have h3:Yg m o place q=(m,8):=by unfold Yg;rw[h2]
  have h4:Yk s i g place u v=(s,8):=by unfold Yk;rw[I3 h1];rw[if_pos (by decide)]
  rw[h3,h4];exact⟨rfl,R⟩
 ·by_cases h0:QM (Vq m x) x.w.length place true=0
  ·have hz:(Y2 s k gg place).2=0:=by rw[CF h1,Ki R.w hl,hl.len,if_pos h0]
   rcases Xv R Q with ⟨h3,h4⟩|⟨k',gg',n',e',x',rfl,rfl,rfl,ht',hk',hx',hg',hl',h3,h4⟩
   ·have h5:Yg m n place q=(m,8):=by unfold Yg;rw[h2];show (if QM _ _ _ _=0 then _ else _)=_;rw[if_pos h0,h4]
    have h6:Yk s k gg place u v=(s,8):=by unfold Yk;rw[hz,if_neg (by decide),h3];rfl
    rw[h5,h6];exact⟨rfl,R⟩
   ·have h5:Yg m n place n'=(Yl m n { x with kind:=x.kind.set place.toNat 2,to:=x.to.set place.toNat n' },0):=by unfold Yg;rw[h2];show (if QM _ _ _ _=0 then _ else _)=_;rw[if_pos h0,h4]
    have h6:Yk s k gg place k' gg'=GH s k gg place (.obj k' gg'):=by unfold Yk;rw[hz,if_neg (by decide),h3];rfl
    rw[h5,h6,WI h1,Ki R.w hl,hl.len,if_pos h0];obtain⟨j,rfl,hj,hr⟩:=Zh h0;rw[Int.toNat_natCast,Int.toNat_natCast];have hok:=I6 hw hk';exact⟨rfl,Aq R ht hk hx hg (by exact hg) (OV hl (hm.objs x (mem_of_getElem? hx)) hj hr 2 n' (by omega) _ (by rw[N3 hok.1];unfold Z9;rw[if_pos rfl,ht'];rfl)) _⟩
  ·have hz:Y2 s k gg place=(.none,QM (Vq m x) x.w.length place true):=by rw[CF h1,Ki R.w hl,hl.len,if_neg h0]
   have h5:Yg m n place q=(m,QM (Vq m x) x.w.length place true):=by unfold Yg;rw[h2];show (if QM _ _ _ _=0 then _ else _)=_;rw[if_neg h0]
   have h6:Yk s k gg place u v=(s,QM (Vq m x) x.w.length place true):=by unfold Yk;rw[hz,if_pos h0]
   rw[h5,h6];exact⟨rfl,R⟩
theorem eM {s:CS} {m:MS} {told:List (Nat×Nat)} (R:Rel s m told) (hm:V6 m) {i g o:Int} (P:Gl told i g o) (place:Int) :
  (Y2 s i g place).2=(YA m o place).2.2.2∧(Y2 s i g place).1=Z9 told (YA m o place).2.1 (YA m o place).2.2.1∧(YA m o place).2.1≤2∧((YA m o place).2.1=2→(YA m o place).2.2.1 < told.length)∧Rel (ZN s i g place) (YA m o place).1 told:=by
 rcases Ic R P place with ⟨h0,h1⟩|⟨h0,n,j,x,rfl,rfl,hx,hv,hj,hr,hk2,h1⟩
 ·have h3:YA m o place=(m,0,0,VD m o place true):=by
   cases hv:V1 m o with
   | none=>unfold YA;rw[hv,XR hv]
   | some kx=>
    obtain⟨k,x⟩:=kx;rw[UP hv] at h0 ⊢;unfold YA;rw[hv];show (if QM _ _ _ _=0 then _ else _)=_;rw[if_neg h0]
  have h4:ZN s i g place=s:=by unfold ZN;rw[h1]
  rw[h3,h4,h1];exact⟨rfl,rfl,by show 0≤2;omega,fun h=>(by cases h),R⟩
 ·rw[UP hv] at h0;have h3:YA m n j=(if x.kind.getD j 0=2 then Xu m (x.to.getD j 0) else m,x.kind.getD j 0,x.to.getD j 0,0):=by unfold YA;rw[hv];show (if QM _ _ _ _=0 then _ else _)=_;rw[if_pos h0,Int.toNat_natCast]
  have hmo:=hm.objs x (mem_of_getElem? hx);rw[h3,h1];by_cases hkd:x.kind.getD j 0=2
  ·have hjk:j < x.kind.length:=by rw[hmo.kind];exact hj
   have hjk2:=getElem?_eq_getElem hjk;have hgo:=hmo.goes j (by rw[hjk2];rw[getD_eq_getElem?_getD,hjk2] at hkd;exact congrArg some hkd);have hgt:x.to.getD j 0 < told.length:=by rw[R.len];exact hgo
   generalize htd:x.to.getD j 0=td at *;rw[hkd,if_pos rfl];have hy:=getElem?_eq_getElem hgo;generalize m.objs[td]=y at hy;have htt:=getElem?_eq_getElem hgt;generalize told[td]=ab at htt;obtain⟨a,b⟩:=ab;have hln:Z9 told 2 td = .obj a b:=by unfold Z9;rw[if_pos rfl,htt];rfl
   have h4:ZN s i g j=KO s a b:=by unfold ZN;rw[h1,hkd,hln];rfl
   have h5:Xu m td=Yl m td { y with held:=true }:=by unfold Xu;rw[hy]
   rw[h4,h5];refine⟨rfl,rfl,by show 2≤2;omega,fun _=>hgt,?_⟩;by_cases hyg:y.gone=true
   ·have h6:Qn s.tab a b=none:=by
     cases hlk:Qn s.tab a b with
     | none=>rfl
     | some q=>
      obtain⟨k',e'⟩:=q;obtain⟨n',h1,h2,h3⟩:=Vz.1 hlk;obtain rfl:a=k':=by omega
      obtain rfl:b=n':=by omega
      exact absurd h3 (R.gone td y a b hy htt hyg e')
    rw[CT h6];exact eA R hy hyg (by exact hyg)
   ·have hyg:y.gone=false:=by simpa using hyg
    obtain⟨e',he',hl'⟩:=R.obj td y a b hy htt hyg;have h6:Qn s.tab a b=some (a,e'):=Vz.2 ⟨b,rfl,rfl,he'⟩;rw[Ca h6];exact Aq R htt he' hy hyg (by exact hyg) (OQ hl' true) s.rem
  ·have h4:ZN s i g j=s:=by
    unfold ZN;rw[h1]
    have:∀ a b,Z9 told (x.kind.getD j 0) (x.to.getD j 0) ≠ .obj a b:=by
     intro a b;unfold Z9;rw[if_neg hkd];split <;> intro h <;> cases h
    generalize Z9 told (x.kind.getD j 0) (x.to.getD j 0)=L at this;cases L with
    | none=>rfl
    | grave=>rfl
    | obj a b=>exact absurd rfl (this a b)
   rw[h4,if_neg hkd];exact⟨rfl,rfl,hk2,fun h=>absurd h hkd,R⟩
def OZ:Option (Nat×QI)→Value
 | some (_,x) => .tuple #[.agg #[.int .i64 x.region,.int .i64 x.lay,.int .i64 x.count,.int .i64 x.w.length,.bool x.pinned],.int .i64 0]
 | none => .tuple #[.agg #[.int .i64 0,.int .i64 0,.int .i64 0,.int .i64 0,.bool false],.int .i64 8]
theorem eN {s:CS} {m:MS} {told:List (Nat×Nat)} (R:RT s m told) {i g o:Int} (V:Vd s m told i g o):F3 (Qg s.tab i g)=OZ (V1 m o):=by
 rcases V with ⟨h1,h2⟩|⟨k,gg,n,e,x,rfl,rfl,rfl,ht,hk,hx,hg,hl,h1,h2⟩
 ·rw[h1,h2];rfl
 ·rw[h1,h2];show Value.tuple #[.agg (KN e).toArray,.int .i64 0]=_;show Value.tuple #[.agg #[.int .i64 e.region,.int .i64 e.lay,.int .i64 e.count,.int .i64 e.ws.length,.bool e.pinned],.int .i64 0]=Value.tuple #[.agg #[.int .i64 x.region,.int .i64 x.lay,.int .i64 x.count,.int .i64 x.w.length,.bool x.pinned],.int .i64 0];rw[hl.region,hl.lay,hl.count,hl.len,hl.pinned]
theorem WS {s:CS} {m:MS} {told:List (Nat×Nat)} (R:Rel s m told) (id:Int):(Q8 s.par id).isSome=Vw m.P id:=by
 unfold Vw;cases hf:Q8 s.par id with
 | some q=>
  obtain⟨k,rfl,h1,h2,h3⟩:=(R.tree id q).1 (Ud hf);have h4:=(List.getElem?_eq_some_iff.1 h2).1
  symm
  show decide _=true;rw[decide_eq_true];refine⟨by omega,by omega,?_⟩;rw[Int.toNat_natCast,getD_eq_getElem?_getD,h2];exact h3
 | none=>
  symm
  show decide _=false;rw[decide_eq_false];rintro⟨h1,h2,h3⟩;obtain⟨k,rfl⟩:∃ k:Nat,id=k:=⟨id.toNat,by omega⟩;have hk:k < m.P.length:=by omega
  have h4:=getElem?_eq_getElem hk;rw[Int.toNat_natCast,getD_eq_getElem?_getD,h4] at h3;have h5:=(R.tree k m.P[k]).2 ⟨k,rfl,by omega,h4,h3⟩;rw[(Y4 R.nd).2 h5] at hf;cases hf
theorem Ie {P:List Int} {k:Nat}:k∈Yu P↔∃ q,P[k]? = some q∧1≤k∧0≤q:=by
 unfold Yu;rw[O3];constructor
 ·rintro⟨h1,h2,h3⟩;have h4:=getElem?_eq_getElem h1;rw[getD_eq_getElem?_getD,h4] at h3;exact⟨_,h4,h2,by simpa using h3⟩
 ·rintro⟨q,h1,h2,h3⟩;refine⟨(List.getElem?_eq_some_iff.1 h1).1,h2,?_⟩;rw[getD_eq_getElem?_getD,h1];simpa using h3
theorem eO (P:List Int):(Yu P).Nodup:=(dw P _ _).imp (fun h=>by omega)
theorem FU {s:CS} {m:MS} {told:List (Nat×Nat)} (R:RT s m told):s.par.length=(Yu m.P).length:=by
 have h1:((Yu m.P).map fun k:Nat=>(k:Int)).Nodup:=by
  refine List.Pairwise.map _ ?_ (eO m.P);intro a b hab;omega
 have h2:=G1 R.nd (l₂:=(Yu m.P).map fun k:Nat=>(k:Int)) (by
  intro z hz;obtain⟨⟨r,q⟩,hq,rfl⟩:=mem_map.1 hz;obtain⟨k,rfl,a,b,c⟩:=(R.tree r q).1 hq;exact mem_map.2 ⟨k,Ie.2 ⟨q,b,a,c⟩,rfl⟩)
 have h3:=G1 h1 (l₂:=s.par.map (·.1)) (by
  intro z hz;obtain⟨k,hk,rfl⟩:=mem_map.1 hz;obtain⟨q,a,b,c⟩:=Ie.1 hk;exact mem_map.2 ⟨((k:Int),q),(R.tree k q).2 ⟨k,rfl,b,a,c⟩,rfl⟩)
 rw[length_map,length_map] at h2 h3;omega
theorem eP {s:CS} {m:MS} {told:List (Nat×Nat)} (R:Rel s m told) (hw:WF s) (parent:Int):Z2 s.par parent=Z7 m.P parent:=by
 unfold Z2 Z7;rw[WS R,FU R.w];have:=hw.par.1;rw[FU R.w] at this;by_cases h:parent≠0∧Vw m.P parent=false
 ·rw[if_pos h,if_pos h]
 ·rw[if_neg h,if_neg h];by_cases h2:(Yu m.P).length=64
  ·rw[if_pos h2,if_pos (by omega)]
  ·rw[if_neg h2,if_neg (by omega)]
theorem If {s:CS} {m:MS} {told:List (Nat×Nat)} (R:Rel s m told) {parent:Int} (h:Z7 m.P parent=0) (b b2:Nat):Rel (WJ s parent b b2) { m with P:=m.P++[parent] } told:=by
 have hp:0≤parent:=by
  unfold Z7 at h;split at h
  ·cases h
  ·rename_i hn;by_cases h0:parent=0
   ·omega
   ·have:Vw m.P parent=true:=by
     cases hl:Vw m.P parent with
     | true=>rfl
     | false=>exact absurd ⟨h0,hl⟩ hn
    unfold Vw at this;have:=of_decide_eq_true this;omega
 have hl:=R.last;refine⟨R.len,R.lays,?_,?_,?_,R.obj,R.gone,R.used,R.gens,R.nodup⟩
 ·intro r q;show (r,q)∈s.par++[(((s.last+1:Nat):Int),parent)]↔∃ k:Nat,r=k∧1≤k∧(m.P++[parent])[k]? = some q∧0≤q;rw[mem_append,R.tree r q];constructor
  ·rintro(⟨k,rfl,a,b,c⟩|h)
   ·exact⟨k,rfl,a,by rw[getElem?_append_left (List.getElem?_eq_some_iff.1 b).1];exact b,c⟩
   ·simp only[mem_singleton] at h;injection h with h1 h2
    subst h1 h2;exact⟨s.last+1,rfl,by omega,by rw[hl,getElem?_append_right (Nat.le_refl _),Nat.sub_self];rfl,hp⟩
  ·rintro⟨k,rfl,a,b,c⟩;by_cases hk:k < m.P.length
   ·rw[getElem?_append_left hk] at b;exact .inl ⟨k,rfl,a,b,c⟩
   ·right;have hk2:=(List.getElem?_eq_some_iff.1 b).1;simp at hk2;obtain rfl:k=m.P.length:=by omega
    rw[getElem?_append_right (Nat.le_refl _),Nat.sub_self] at b;injection b with b
    simp only[mem_singleton];rw[hl,← b]
 ·show ((s.par++[(((s.last+1:Nat):Int),parent)]).map (·.1)).Nodup;rw[map_append];refine nodup_append.2 ⟨R.nd,by simp,?_⟩;intro a ha b hb;simp only[map_cons,map_nil,mem_singleton] at hb;subst hb;obtain⟨⟨r,q⟩,hq,rfl⟩:=mem_map.1 ha;obtain⟨k,h1,_,h2,_⟩:=(R.tree r q).1 hq;have:=(List.getElem?_eq_some_iff.1 h2).1;intro h3;have h4:r=((s.last+1:Nat):Int):=h3;omega
 ·show s.last+1+1=(m.P++[parent]).length;simp;omega
theorem Ig {ls:List QJ} {l:QJ} {i:Nat} (h:i - 1 < ls.length):UT (ls++[l]) i=UT ls i:=by
 unfold UT;rw[getElem?_append_left h]
theorem eS {ls:List QJ} {told:List (Nat×Nat)} {e:QQ} {x:QI} (h:Gk ls told e x) {l:QJ} (hi:x.lay - 1 < ls.length):Gk (ls++[l]) told e x:=by
 refine⟨h.region,h.lay,h.count,h.held,h.pinned,h.len,?_,?_,?_⟩
 ·rw[Ig hi];exact h.ref
 ·rw[Ig hi];exact h.word
 ·rw[Ig hi];exact h.kind
theorem OG {s:CS} {m:MS} {told:List (Nat×Nat)} (R:Rel s m told) (hm:V6 m) (ws:List Nat):(UJ s ws).2=(ZS m ws).2∧Rel (UJ s ws).1 (ZS m ws).1 told:=by
 cases hd:ZX ws with
 | none=>
  have h1:ZS m ws=(m,0,4):=by unfold ZS;rw[hd]
  rw[h1,Cb hd];exact⟨rfl,R⟩
 | some l=>
  have h1:ZS m ws=if 64≤m.lays.length then (m,0,5) else ({ m with lays:=m.lays++[l] },m.lays.length+1,0):=by unfold ZS;rw[hd]
  rw[h1,Ai hd,R.lays];have:=hm.lays.1;by_cases h64:m.lays.length=64
  ·rw[if_pos h64,if_pos (by omega)];exact⟨rfl,R⟩
  ·rw[if_neg h64,if_neg (by omega)];refine⟨rfl,R.len,rfl,R.tree,R.nd,R.last,?_,R.gone,R.used,R.gens,R.nodup⟩;intro o x k g hx ht hg;obtain⟨e,h1,h2⟩:=R.obj o x k g hx ht hg;have hmo:=hm.objs x (mem_of_getElem? hx);obtain⟨l',h3,_⟩:=hmo.lay;exact⟨e,h1,eS h2 (List.getElem?_eq_some_iff.1 h3).1⟩
theorem Ih {s:CS} {m:MS} {told:List (Nat×Nat)} (R:Rel s m told) (region id count:Int):ZO s region id count=(Vk m region id count).2∧((Vk m region id count).2=0→YW s id count=(Vk m region id count).1):=by
 unfold ZO YW Vk KP;rw[WS R,R.lays];by_cases h1:Vw m.P region=false
 ·rw[if_pos h1,if_pos h1];exact⟨rfl,fun h=>by cases h⟩
 ·rw[if_neg h1,if_neg h1];by_cases h2:id < 1∨(m.lays.length:Int) < id
  ·rw[if_pos h2,if_pos h2];exact⟨rfl,fun h=>by cases h⟩
  ·rw[if_neg h2,if_neg h2];exact⟨rfl,fun _=>rfl⟩
theorem eT {ls:List QJ} {told:List (Nat×Nat)} {e:QQ} {x:QI} (h:Gk ls told e x) {t:Nat×Nat} (hx:∀ p,x.kind[p]? = some 2→x.to.getD p 0 < told.length):Gk ls (told++[t]) e x:=by
 refine⟨h.region,h.lay,h.count,h.held,h.pinned,h.len,?_,h.word,h.kind⟩;intro p hp hr;rw[h.ref p hp hr];unfold Z9;by_cases h2:x.kind.getD p 0=2
 ·rw[if_pos h2,if_pos h2]
  have h3:x.kind[p]? = some 2:=by
   rw[getD_eq_getElem?_getD] at h2;cases hk:x.kind[p]? with
   | none=>rw[hk] at h2;cases h2
   | some q=>rw[hk] at h2;exact congrArg some h2
  rw[getElem?_append_left (hx p h3)]
 ·rw[if_neg h2,if_neg h2]
theorem Ii (n p:Nat):(List.replicate n 0).getD p 0=0:=by
 rw[getD_eq_getElem?_getD,getElem?_replicate];split <;> rfl
theorem OU {s s':CS} {m:MS} {told:List (Nat×Nat)} (R:Rel s m told) (hm:V6 m) {region id count:Int} (hmay:(Vk m region id count).2=0) {k g0 addr:Nat} (hk:s.tab[k]? = some ⟨g0,none⟩)
  (e1:s'.lays=s.lays) (e2:s'.last=s.last) (e3:s'.par=s.par) (e4:s'.tab=s.tab.set k ⟨g0+1,some ⟨addr,region,true,false,id.toNat,count.toNat,List.replicate (YW s id count) 0⟩⟩) :
  (∀ n:Nat,told[n]? ≠ some (k,g0+1))∧Rel s' (Kh m region id count) (told++[(k,g0+1)]):=by
 have hkl:=(List.getElem?_eq_some_iff.1 hk).1;have hn:YW s id count=(Vk m region id count).1:=(Ih R region id count).2 hmay;have hr:Kh m region id count={ m with objs:=m.objs++[G4 region id count (Vk m region id count).1] }:=rfl
 have hreg:region=(region.toNat:Int):=by
  obtain⟨r,la,c,l,rfl,_⟩:=FZ hmay;rfl
 have hnew:∀ n:Nat,told[n]? ≠ some (k,g0+1):=by
  intro n hn;obtain⟨t,h1,h2⟩:=R.gens n k (g0+1) hn;rw[hk] at h1;injection h1 with h1
  subst h1;have h2:g0+1≤g0:=h2;omega
 refine⟨hnew,?_⟩;rw[hr]
 have hne:∀ (o k0 g:Nat) (e:QQ),s.tab[k0]? = some ⟨g,some e⟩→k≠k0:=by
  rintro o k0 g e h rfl;rw[hk] at h;injection h with h
  injection h with _ h
  cases h
 refine⟨by show (told++[_]).length=(m.objs++[_]).length;rw[length_append,length_append,R.len];rfl,by rw[e1];exact R.lays,by rw[e3];exact R.tree,by rw[e3];exact R.nd,by rw[e2];exact R.last,?_,?_,?_,?_,?_⟩
 ·intro o x k0 g (hx:(m.objs++[G4 region id count (Vk m region id count).1])[o]? = some x) ht hg;by_cases ho:o < m.objs.length
  ·rw[getElem?_append_left ho] at hx;rw[getElem?_append_left (by rw[R.len];exact ho)] at ht;obtain⟨e,h1,h2⟩:=R.obj o x k0 g hx ht hg;refine⟨e,?_,eT h2 (by rw[R.len];exact(hm.objs x (mem_of_getElem? hx)).goes)⟩;rw[e4,getElem?_set_ne (hne o k0 g e h1)];exact h1
  ·have hol:=(List.getElem?_eq_some_iff.1 hx).1;rw[length_append] at hol;obtain rfl:o=m.objs.length:=by simp at hol;omega
   rw[getElem?_append_right (Nat.le_refl _),Nat.sub_self] at hx;rw[← R.len,getElem?_append_right (Nat.le_refl _),Nat.sub_self] at ht;injection hx with hx
   injection ht with ht
   injection ht with h1 h2
   subst hx h1 h2;refine⟨_,by rw[e4,getElem?_set_self hkl],?_⟩;rw[hn];refine⟨hreg,rfl,rfl,rfl,rfl,rfl,?_,?_,?_⟩
   ·intro p hp _;show ZR ((List.replicate _ 0).getD p 0)=Z9 _ ((List.replicate _ 0).getD p 0) ((List.replicate _ 0).getD p 0);rw[Ii];rfl
   ·intro p hp _;rfl
   ·intro p hp (hk:(List.replicate _ 0).getD p 0≠0);exact absurd (Ii _ p) hk
 ·intro o x k0 g (hx:(m.objs++[G4 region id count (Vk m region id count).1])[o]? = some x) ht hg;by_cases ho:o < m.objs.length
  ·rw[getElem?_append_left ho] at hx;rw[getElem?_append_left (by rw[R.len];exact ho)] at ht;intro e h1;rw[e4] at h1
   rcases Qx h1 with ⟨rfl,h2,_⟩|⟨_,h2⟩
   ·injection h2 with h2 _
    subst h2;exact hnew o ht
   ·exact R.gone o x k0 g hx ht hg e h2
  ·have hol:=(List.getElem?_eq_some_iff.1 hx).1;rw[length_append] at hol;obtain rfl:o=m.objs.length:=by simp at hol;omega
   rw[getElem?_append_right (Nat.le_refl _),Nat.sub_self] at hx;injection hx with hx
   subst hx;cases hg
 ·intro k0 g e h1;rw[e4] at h1
  rcases Qx h1 with ⟨rfl,h2,_⟩|⟨_,h2⟩
  ·injection h2 with h2 _
   subst h2;exact⟨told.length,by rw[getElem?_append_right (Nat.le_refl _),Nat.sub_self];rfl⟩
  ·obtain⟨o,ho⟩:=R.used k0 g e h2;exact⟨o,by rw[getElem?_append_left (List.getElem?_eq_some_iff.1 ho).1];exact ho⟩
 ·intro o k0 g ht;rw[e4];by_cases ho:o < told.length
  ·rw[getElem?_append_left ho] at ht;obtain⟨t,h1,h2⟩:=R.gens o k0 g ht;by_cases hkk:k=k0
   ·subst hkk;rw[hk] at h1;injection h1 with h1
    subst h1;exact⟨_,getElem?_set_self hkl,by show g≤g0+1;have h2:g≤g0:=h2;omega⟩
   ·exact⟨t,by rw[getElem?_set_ne hkk];exact h1,h2⟩
  ·have hol:=(List.getElem?_eq_some_iff.1 ht).1;rw[length_append] at hol;obtain rfl:o=told.length:=by simp at hol;omega
   rw[getElem?_append_right (Nat.le_refl _),Nat.sub_self] at ht;injection ht with ht
   injection ht with h1 h2
   subst h1 h2;exact⟨_,getElem?_set_self hkl,Nat.le_refl _⟩
 ·refine nodup_append.2 ⟨R.nodup,by simp,?_⟩;intro a ha b hb;simp only[mem_singleton] at hb;subst hb;rintro rfl;obtain⟨n,h⟩:=mem_iff_getElem?.1 ha;exact hnew n h
def WT (P:List Int):Prop:=∀ (i:Nat) (q:Int),1≤i→P[i]? = some q→q < i
def Rb (P:List Int) (id:Int):Nat→Int→Bool
 | 0,_=>false
 | n+1,i=>if 0 < i then (if i=id then true else Rb P id n (P.getD i.toNat 0)) else false
def Zs (P:List Int) (id i:Int):Bool:=Rb P id i.toNat i
theorem Cl (P:List Int) (id:Int) (n:Nat) {i:Int} (h:i≤0):Rb P id n i=false:=by
 cases n with
 | zero=>rfl
 | succ n=>unfold Rb;rw[if_neg (by omega)]
theorem Ij {P:List Int} (h:WT P) (id:Int):∀ (n:Nat) (i:Int),i≤n→i < P.length→Rb P id n i=Zs P id i
 | 0,i,h1,_=>by
  unfold Zs;rw[Cl P id _ (by omega),Cl P id _ (by omega)]
 | n+1,i,h1,h2=>by
  by_cases h0:0 < i
  ·obtain⟨k,rfl⟩:∃ k:Nat,i=(k+1:Nat):=⟨i.toNat - 1,by omega⟩;have hk:k+1 < P.length:=by omega
   have hg:P.getD (k+1) 0 < ((k+1:Nat):Int):=h (k+1) _ (by omega) (by rw[getD_eq_getElem?_getD,getElem?_eq_getElem hk];rfl);unfold Zs;rw[Int.toNat_natCast];unfold Rb;rw[if_pos h0,if_pos h0,Int.toNat_natCast];by_cases h3:((k+1:Nat):Int)=id
   ·rw[if_pos h3,if_pos h3]
   ·rw[if_neg h3,if_neg h3,Ij h id n _ (by omega) (by omega),Ij h id k _ (by omega) (by omega)]
  ·unfold Zs;rw[Cl P id _ (by omega),Cl P id _ (by omega)]
theorem OX {P:List Int} (h:WT P) {id i:Int} (h0:0 < i) (hl:i < P.length):Zs P id i=if i=id then true else Zs P id (P.getD i.toNat 0):=by
 obtain⟨k,rfl⟩:∃ k:Nat,i=(k+1:Nat):=⟨i.toNat - 1,by omega⟩;have hk:k+1 < P.length:=by omega
 have hg:P.getD (k+1) 0 < ((k+1:Nat):Int):=h (k+1) _ (by omega) (by rw[getD_eq_getElem?_getD,getElem?_eq_getElem hk];rfl);rw[Int.toNat_natCast];show Rb P id (((k+1:Nat):Int).toNat) _=_;rw[Int.toNat_natCast];show (if (0:Int) < ((k+1:Nat):Int) then (if ((k+1:Nat):Int)=id then true else Rb P id k (P.getD ((k+1:Nat):Int).toNat 0)) else false)=_;rw[if_pos h0,Int.toNat_natCast];by_cases h3:((k+1:Nat):Int)=id
 ·rw[if_pos h3,if_pos h3]
 ·rw[if_neg h3,if_neg h3,Ij h id k _ (by omega) (by omega)]
theorem OK (P:List Int) (id:Int) {i:Int} (h:i≤0):Zs P id i=false:=Cl P id _ h
def Rc (P:List Int) (id:Int) (k:Nat):List Nat:=(List.range k).filter fun i=>decide (1≤i∧0≤P.getD i 0) && Zs P id i
def Zt (P:List Int) (id:Int):List Nat:=Rc P id P.length
theorem eb (P:List Int) (id:Int) (k:Nat) (hk:1≤k):Rc P id (k+1)=Rc P id k++if 0≤P.getD k 0∧Zs P id k=true then [k] else []:=by
 unfold Rc;rw[range_succ,filter_append];congr 1;by_cases h1:0≤P.getD k 0
 ·by_cases h2:Zs P id k=true
  ·rw[if_pos ⟨h1,h2⟩,filter_cons,if_pos (by rw[h2,decide_eq_true ⟨hk,h1⟩];rfl),filter_nil]
  ·rw[if_neg (fun h=>h2 h.2),filter_cons,if_neg (by simpa using fun _ _=>h2),filter_nil]
 ·rw[if_neg (fun h=>h1 h.1),filter_cons,if_neg (by rw[decide_eq_false (fun h=>h1 h.2)];simp),filter_nil]
theorem OR {P:List Int} {id:Int} {k i:Nat}:i∈Rc P id k↔i < k∧(1≤i∧0≤P.getD i 0)∧Zs P id i=true:=by
 unfold Rc;rw[mem_filter,mem_range,Bool.and_eq_true,decide_eq_true_eq]
theorem Ik (P:List Int) (id:Int) (k:Nat):(Rc P id k).length≤k:=by
 have:=length_filter_le (fun i=>decide (1≤i∧0≤P.getD i 0) && Zs P id (i:Nat)) (List.range k);rw[length_range] at this;exact this
def Vs (P:List Int) (L:List Nat):List Int:=P.mapIdx fun k q=>if k∈L then -1 else q
theorem ef (P:List Int):Vs P []=P:=by
 unfold Vs;apply ext_getElem?;intro i;rw[getElem?_mapIdx];cases P[i]? <;> simp
theorem Il (P:List Int) (L:List Nat):(Vs P L).length=P.length:=length_mapIdx
theorem eg (P:List Int) (L:List Nat) (k:Nat):(Vs P L).set k (-1)=Vs P (L++[k]):=by
 apply ext_getElem?;intro i;rw[getElem?_set];unfold Vs;rw[getElem?_mapIdx,getElem?_mapIdx,length_mapIdx];by_cases h:k=i
 ·subst h;rw[if_pos rfl];by_cases hl:k < P.length
  ·rw[if_pos hl,getElem?_eq_getElem hl];simp
  ·rw[if_neg hl,getElem?_eq_none (by omega)];rfl
 ·rw[if_neg h];cases P[i]? with
  | none=>rfl
  | some q=>
   have h2:i∈L++[k]↔i∈L:=by
    rw[mem_append,mem_singleton];exact⟨fun h4=>h4.elim id fun h5=>absurd h5.symm h,.inl⟩
   simp only[Option.map_some,h2]
def ZQ (P:List Int) (id q:Nat):List Int:=P.mapIdx fun k x=>if k=id then -1 else if 1≤k∧x=(id:Int) then (q:Int) else x
def U8 (P:List Int) (id q n:Nat):List Int:=P.mapIdx fun k x=>if (1≤k∧k < n)∧x=(id:Int) then (q:Int) else x
theorem Ar (P:List Int) (id q n:Nat):(U8 P id q n).length=P.length:=length_mapIdx
theorem Wa (P:List Int) (id q n k:Nat):(U8 P id q n)[k]? = (P[k]?).map fun x=>if (1≤k∧k < n)∧x=(id:Int) then (q:Int) else x:=getElem?_mapIdx
theorem eo {P:List Int} {id q:Nat}:U8 P id q 1=P:=by
 apply ext_getElem?;intro i;rw[Wa];cases hi:P[i]? with
 | none=>rfl
 | some x=>
  simp only[Option.map_some];rw[if_neg];rintro⟨h1,h2⟩;omega
theorem eu {P:List Int} {id q n:Nat} (hn:1≤n) (h:P[n]? = some (id:Int)):(U8 P id q n).set n (q:Int)=U8 P id q (n+1):=by
 apply ext_getElem?;intro i;rw[getElem?_set,Wa,Wa,Ar];have hl:=(List.getElem?_eq_some_iff.1 h).1;by_cases hi:n=i
 ·subst hi;rw[if_pos rfl,if_pos hl,h];simp only[Option.map_some];rw[if_pos ⟨⟨hn,by omega⟩,trivial⟩]
 ·rw[if_neg hi];cases P[i]? with
  | none=>rfl
  | some x=>
   simp only[Option.map_some];have:(1≤i∧i < n+1)↔(1≤i∧i < n):=by omega
   simp only[this]
theorem ey {P:List Int} {id q n:Nat} {x:Int} (h:P[n]? = some x) (hx:x≠(id:Int)):U8 P id q n=U8 P id q (n+1):=by
 apply ext_getElem?;intro i;rw[Wa,Wa];cases hP:P[i]? with
 | none=>rfl
 | some y=>
  simp only[Option.map_some];by_cases hi:i=n
  ·subst hi;rw[h] at hP;injection hP with hP
   subst hP;rw[if_neg (fun h=>hx h.2),if_neg (fun h=>hx h.2)]
  ·have:i < n+1↔i < n:=by omega
   simp only[this]
theorem ez (P:List Int) (id q:Nat):(U8 P id q P.length).set id (-1)=ZQ P id q:=by
 apply ext_getElem?;intro i;unfold ZQ;rw[getElem?_set,Wa,Ar,getElem?_mapIdx];by_cases hi:id=i
 ·subst hi;rw[if_pos rfl];by_cases hl:id < P.length
  ·rw[if_pos hl,getElem?_eq_getElem hl];simp
  ·rw[if_neg hl,getElem?_eq_none (by omega)];rfl
 ·rw[if_neg hi];cases hP:P[i]? with
  | none=>rfl
  | some y=>
   have hl:=(List.getElem?_eq_some_iff.1 hP).1;simp only[Option.map_some];rw[if_neg (fun h:i=id=>hi h.symm)];by_cases hy:1≤i∧y=(id:Int)
   ·rw[if_pos ⟨⟨hy.1,hl⟩,hy.2⟩,if_pos hy]
   ·rw[if_neg (fun h=>hy ⟨h.1.1,h.2⟩),if_neg hy]
theorem Im {l:List Int} {spare:List Value} {i:Nat} {x:Int} (h:i < l.length):(Qc l++spare).set (0+i*1) (.int .i64 x)=Qc (l.set i x)++spare:=by
 rw[Nat.zero_add,Nat.mul_one,set_append_left _ _ (by simpa [Qc] using h)];simp[Qc,map_set]
theorem f0 [Q4] (p:Nat) (P:List Int) (hO:WT P) (i id:Int) (hi:i < P.length) {w:World} {fr:List Q2} (H:Q0 w (Vb p P::fr)) :
  Calls Tryz.prog 246 #[pp p,.int .i64 i,.int .i64 id] w (ret fun v w'=>v = .bool (Zs P id i)∧Q0 w' (Vb p P::fr)):=by
 refine QV Tryz.func246 rfl (by kernel_rfl) ?_;refine A1 H ?_;refine Qi (fun ms σ w n=>ms=[]∧∃ i':Int,i' < P.length∧Zs P id i'=Zs P id i∧n=i'.toNat∧σ 0=pp p∧σ 1 = .int .i64 i'∧σ 2 = .int .i64 id∧Q0 w (Vb p P::fr)) (m:=i.toNat) ⟨rfl,i,hi,rfl,rfl,rfl,rfl,rfl,H⟩ ?_;clear H;rintro ms σ w n ⟨rfl,i',hi',hb,rfl,g0,g1,g2,H⟩;rw[Q1 g0,Q1 g1,Q1 g2];refine Bd H ?_;refine Qh rfl (fun h=>QR ?_) (fun h=>Qj ?_)
 ·have h:0 < i':=h;rw[OX hO h hi'] at hb;obtain⟨k,rfl⟩:∃ k:Nat,i'=k:=⟨i'.toNat,by omega⟩;rw[Int.toNat_natCast] at hb;refine Zf H ?_;refine VG H ?_;by_cases he:(k:Int)=id
  ·rw[show ((k:Int) == id)=true by rw[he];exact beq_self_eq_true id];refine YR H ?_;rw[if_pos he] at hb;rw[← hb];exact Q3 (Jy H rfl fun w' H'=>⟨rfl,H'⟩)
  ·rw[show ((k:Int) == id)=false by rw[beq_eq_false_iff_ne];exact he];refine V8 H ?_;rw[if_neg he] at hb;have hkl:k < P.length:=by omega
   have hg:P.getD k 0 < (k:Int):=hO k _ (by omega) (by rw[getD_eq_getElem?_getD,getElem?_eq_getElem hkl];rfl);obtain⟨a,c,H⟩:=Kg H;obtain⟨b,s,rfl,H,hclose⟩:=Qw H.swap (by omega);have hc:=Al (P:=P) (s:=s) (i:=k) hkl;refine J9 H ?_;refine Jd ?_;refine Q5 rfl (QW H rfl hc rfl ?_);refine J0 H ?_;replace H:=GM (hclose _ _ H).swap;exact⟨_,⟨rfl,P.getD k 0,by omega,hb,rfl,rfl,rfl,rfl,H⟩,by rw[Int.toNat_natCast];omega⟩
 ·have h:¬ 0 < i':=h;rw[OK _ _ (by omega)] at hb;rw[← hb];refine VJ H ?_;exact Q3 (Jy H rfl fun w' H'=>⟨rfl,H'⟩)
theorem f8 [Q4] (p:Nat) (P:List Int) (hO:WT P) (id:Int) (h1:1≤P.length) (hl:P.length≤1000000) {w:World} {fr:List Q2} (H:Q0 w (Vb p P::fr)) :
  Calls Tryz.prog 223 #[pp p,.int .i64 id] w (ret fun v w'=>Q0 w' (NL v (Zt P id)::Vb p P::fr)):=by
 refine QV Tryz.func223 rfl (by kernel_rfl) ?_;refine ED H ?_;refine Qi (fun ms σ w n=>ms=[]∧∃ (i:Nat) (g:Value),1≤i∧i≤P.length∧n=P.length - i∧σ 0=pp p∧σ 1 = .int .i64 id∧σ 5=g∧σ 6 = .int .i64 i∧Q0 w (NL g (Rc P id i)::Vb p P::fr)) (m:=P.length - 1) ⟨rfl,1,_,by omega,h1,rfl,rfl,rfl,rfl,rfl,Yn H⟩ ?_;clear H;rintro ms σ w n ⟨rfl,i,g,hi1,hi2,rfl,g0,g1,g5,g6,H⟩;obtain⟨ag,mg,cg,rfl⟩:=Qq H;obtain⟨a,c,H⟩:=Kg H.swap;rw[Q1 g0,Q1 g1,Q1 g5,Q1 g6];refine KF H ?_;refine Qh rfl (fun h=>QR ?_) (fun h=>Qj ?_)
 ·have hlt:i < P.length:=by omega
  obtain⟨b,s,rfl,H,hclose⟩:=Qw H.swap (by omega);have hc:=Al (P:=P) (s:=s) (i:=i) (by omega);have hnx:=eb P id i hi1;generalize P.getD i 0=y at hc hnx;refine A6 H ?_;refine Jd ?_;refine Q5 rfl (QW H rfl hc rfl ?_);refine J0 H ?_;replace H:=GM (hclose _ _ H).swap;refine J7 H ?_;refine Qh rfl (fun h=>?_) (fun h=>QR ?_)
  ·have h:0≤y:=h;refine Vi H ?_;refine Jc rfl rfl (f0 p P hO i id (by omega) H) ?_;clear H;rintro v w ⟨rfl,H⟩;refine J0 H ?_;refine VJ H ?_;cases hb:Zs P id i with
   | true=>
    rw[hb,if_pos ⟨h,rfl⟩] at hnx;refine VR H ?_;refine E5 H ?_;clear H;intro b32 w H;replace H:=Js [2,0,0] 0 H;refine Q5 rfl (YF H rfl rfl (by repeat first|exact .nil _|apply QZ.cons rfl) rfl (by decide) (by rw[QE];have:=Ik P id i;simp only[length_cons,length_nil];omega) rfl rfl ?_);clear H;intro v25 w H;obtain⟨a25,m25,c25,rfl⟩:=Qq H;refine C1 H ?_;replace H:=Js [0,1] 1 H;refine⟨_,⟨rfl,i+1,_,by omega,hlt,rfl,rfl,rfl,rfl,Qa (by omega),?_⟩,by omega⟩;rw[hnx];show Q0 w (QC _ 1 _ (QA (_++[i]))::_);rw[WW];exact H
   | false=>
    rw[hb,if_neg (fun h=>by cases h.2),append_nil] at hnx;refine A9 H ?_;exact⟨_,⟨rfl,i+1,_,by omega,hlt,rfl,rfl,rfl,rfl,Qa (by omega),by rw[hnx];exact H.swap⟩,by omega⟩
  ·have h:¬ 0≤y:=h;rw[if_neg (fun h2=>h h2.1),append_nil] at hnx;refine VG H ?_;exact⟨_,⟨rfl,i+1,_,by omega,hlt,rfl,rfl,rfl,rfl,Qa (by omega),by rw[hnx];exact H.swap⟩,by omega⟩
 ·obtain rfl:i=P.length:=by omega
  refine J3 H ?_;have H:=(GM H).swap;exact Q3 (Jy H rfl fun w' H'=>H')
theorem f9 [Q4] (p:Nat) (P:List Int) (hO:WT P) (id:Int) (h1:1≤P.length) (hl:P.length≤1000000) {w:World} {fr:List Q2} (H:Q0 w (Vb p P::fr)) :
  Calls Tryz.prog 166 #[pp p,.int .i64 id] w (ret fun v w'=>Q0 w' (NL v (Zt P id)::Vb p (Vs P (Zt P id))::fr)):=by
 refine QV Tryz.func166 rfl (by kernel_rfl) ?_;refine Gy H ?_;refine Jc rfl rfl (f8 p P hO id h1 hl H) ?_;clear H;rintro v w H;have hLm:∀ k∈Zt P id,k < P.length:=fun k hk=>(OR.1 hk).1;have hLl:(Zt P id).length≤P.length:=Ik P id P.length;generalize Zt P id=U at H hLm hLl;obtain⟨aU,cU,rfl⟩:=QD H (QE U) (by decide);refine J0 H ?_;refine A1 H ?_;refine Qi (fun ms σ w n=>ms=[]∧∃ i:Nat,i≤U.length∧n=U.length - i∧σ 0=pp p∧σ 5 = .slice aU U.length cU∧σ 6 = .int .i64 i∧Q0 w (NL (.slice aU U.length cU) U::Vb p (Vs P (U.take i))::fr)) (m:=U.length) ⟨rfl,0,by omega,rfl,rfl,rfl,rfl,by rw[take_zero,ef];exact H⟩ ?_;clear H;rintro ms σ w n ⟨rfl,i,hi,rfl,g0,g5,g6,H⟩;rw[Q1 g0,Q1 g5,Q1 g6];refine KE H ?_;refine Qh rfl (fun h=>QR ?_) (fun h=>Qj ?_)
 ·have hlt:i < U.length:=by omega
  have hx:=getElem?_eq_getElem hlt;have htk:U.take (i+1)=U.take i++[U[i]]:=by rw[take_add_one,hx];rfl
  have hxl:=hLm _ (getElem_mem hlt);generalize U[i]=k at hx htk hxl;have hfl:=Il P (U.take i);obtain⟨a,c,H⟩:=Kg H.swap;obtain⟨b,s,rfl,H,_,_,hclose⟩:=Yx H.swap (by omega);replace H:=Js [2,0,0] 0 H;obtain⟨bU,sU,rfl,H,hclU⟩:=Qw H (by omega);have hkx:((k:Nat):Int).toNat=k:=Int.toNat_natCast k;refine C2 H ?_;clear H;intro w H;refine Bo H ?_;refine Ui H ?_;refine Ji 6 ?_;refine Vg 7 [] H rfl (Q9.none rfl) rfl (GW hx) (by kernel_rfl) ?_;refine Ji 8 ?_;refine Jo 9 H ?_;refine Yh H rfl rfl inferInstance rfl (by simp only[length_append,Va];omega) rfl ?_;clear H;intro w H;rw[hkx,Im (by omega),eg] at H;refine Jx H ?_;replace H:=hclU _ _ H;replace H:=Js [1,1,0] 0 H;replace H:=hclose _ _ _ (by rw[Va,Va,Il,Il]) H;replace H:=GM H.swap;refine VG H ?_;exact⟨_,⟨rfl,i+1,hlt,rfl,rfl,rfl,Qa (by omega),by rw[htk];exact H.swap⟩,by omega⟩
 ·obtain rfl:i=U.length:=by omega
  rw[take_length] at H;refine J3 H ?_;exact Q3 (Jy H rfl fun w' H'=>H')
theorem fQ [Q4] (p:Nat) (P:List Int) (id:Nat) (q:Int) (hid:1≤id) (hq:P[id]? = some q) (hq0:0≤q) (h1:1≤P.length) (hl:P.length≤1000000) {w:World} {fr:List Q2} (H:Q0 w (Vb p P::fr)) :
  Calls Tryz.prog 168 #[pp p,.int .i64 id] w (ret fun v w'=>(q=0∧v = .tuple #[.int .i64 0,.int .i64 16]∧Q0 w' (Vb p P::fr))∨(q≠0∧v = .tuple #[.int .i64 q,.int .i64 0]∧Q0 w' (Vb p (ZQ P id q.toNat)::fr))):=by
 have hidl:=(List.getElem?_eq_some_iff.1 hq).1;have hgd:P.getD id 0=q:=by rw[getD_eq_getElem?_getD,hq];rfl
 have hlv:Vw P (id:Int)=true:=decide_eq_true ⟨by omega,by omega,by rw[Int.toNat_natCast,hgd];exact hq0⟩;refine QV Tryz.func168 rfl (by kernel_rfl) ?_;refine Uo H ?_;refine Jc rfl rfl (WO p P id H) ?_;clear H;rintro v w ⟨rfl,H⟩;rw[hlv];refine Yp H ?_;obtain⟨a,c,H⟩:=Kg H;obtain⟨b,s,rfl,H,hclose⟩:=Qw H.swap (by omega);have hc:=Al (P:=P) (s:=s) (i:=id) hidl;rw[hgd] at hc;refine J9 H ?_;refine Jd ?_;refine Q5 rfl (QW H rfl hc rfl ?_);refine J0 H ?_;replace H:=GM (hclose _ _ H).swap;refine J3 H ?_;by_cases hz:q=0
 ·rw[show (q == (0:Int))=true by rw[hz];rfl];refine Yi H ?_;exact Q3 (Jy H rfl fun w' H' => .inl ⟨hz,rfl,H'⟩)
 rw[show (q == (0:Int))=false by rw[beq_eq_false_iff_ne];exact hz];refine V8 H ?_;obtain⟨qn,rfl⟩:∃ qn:Nat,q=qn:=⟨q.toNat,by omega⟩;rw[Int.toNat_natCast];refine J6 H ?_;refine Qm (fun ms σ w=>ms=[]∧σ 0=pp p∧σ 1 = .int .i64 id∧σ 7 = .int .i64 qn∧Q0 w (Vb p (U8 P id qn P.length)::fr)) ?_ ?_
 ·refine QS ?_;refine Qi (fun ms σ w n=>ms=[]∧∃ i:Nat,1≤i∧i≤P.length∧n=P.length - i∧σ 0=pp p∧σ 1 = .int .i64 id∧σ 7 = .int .i64 qn∧σ 8 = .int .i64 i∧Q0 w (Vb p (U8 P id qn i)::fr)) (m:=P.length - 1) ⟨rfl,1,by omega,h1,rfl,rfl,rfl,rfl,rfl,by rw[eo];exact H⟩ ?_;clear H hclose;rintro ms σ w n ⟨rfl,i,hi1,hi2,rfl,g0,g1,g7,g8,H⟩;rw[Q1 g0,Q1 g1,Q1 g7,Q1 g8];have hml:=Ar P id qn i;obtain⟨a,c,H⟩:=Kg H;refine KF H ?_;rw[hml];refine Qh rfl (fun h=>QR ?_) (fun h=>Qj ?_)
  ·have hlt:i < P.length:=by omega
   obtain⟨b,s,rfl,H,_,_,hclose⟩:=Yx H.swap (by omega);have hPi:=getElem?_eq_getElem hlt;generalize P[i]=y at hPi
   have hgi:(U8 P id qn i).getD i 0=y:=by
    rw[getD_eq_getElem?_getD,Wa,hPi];simp
   have hc:=Al (P:=U8 P id qn i) (s:=s) (i:=i) (by omega);rw[hgi] at hc;have hkx:((i:Nat):Int).toNat=i:=Int.toNat_natCast i;refine A6 H ?_;refine Jd ?_;refine Q5 rfl (QW H rfl hc rfl ?_);refine J2 H ?_;by_cases hy:y=(id:Int)
   ·rw[show (y == (id:Int))=true by rw[hy];exact beq_self_eq_true _];subst hy;refine VR H ?_;refine GU H ?_;refine Jd ?_;refine Q5 rfl (Yh H rfl rfl inferInstance rfl (by simp only[length_append,Va];omega) rfl ?_);clear H;intro w H;rw[hkx,Im (by omega),eu hi1 hPi] at H;refine Q6 ?_;replace H:=GM (hclose _ _ _ (by rw[Va,Va,Ar,Ar]) H).swap;refine VG H ?_;exact⟨_,⟨rfl,i+1,by omega,hlt,rfl,rfl,rfl,rfl,Qa (by omega),H⟩,by omega⟩
   ·rw[show (y == (id:Int))=false by rw[beq_eq_false_iff_ne];exact hy];refine V8 H ?_;rw[ey hPi hy] at H hclose;replace H:=GM (hclose _ _ _ rfl H).swap;refine VG H ?_;exact⟨_,⟨rfl,i+1,by omega,hlt,rfl,rfl,rfl,rfl,Qa (by omega),H⟩,by omega⟩
  ·obtain rfl:i=P.length:=by omega
   exact⟨rfl,rfl,rfl,rfl,rfl,GM H⟩
 clear H hclose;rintro ms σ w ⟨rfl,g0,g1,g7,H⟩;rw[Q1 g0,Q1 g1,Q1 g7];have hml:=Ar P id qn P.length;obtain⟨a,c,H⟩:=Kg H;obtain⟨b,s,rfl,H,_,_,hclose⟩:=Yx H.swap (by omega);have hkx:((id:Nat):Int).toNat=id:=Int.toNat_natCast id;refine J9 H ?_;refine Jd ?_;refine Q5 rfl (Yh H rfl rfl inferInstance rfl (by simp only[length_append,Va];omega) rfl ?_);clear H;intro w H;rw[hkx,Im (by omega),ez] at H;have hmp:(ZQ P id qn).length=(U8 P id qn P.length).length:=by unfold ZQ U8;rw[length_mapIdx,length_mapIdx]
 refine Q6 ?_;replace H:=GM (hclose _ _ _ (by rw[Va,Va,hmp]) H).swap;refine VG H ?_;exact Q3 (Jy H rfl fun w' H' => .inr ⟨hz,rfl,H'⟩)
theorem OW {s s':CS} {m m':MS} {told:List (Nat×Nat)} (R:Rel s m told) {mv:Nat→QQ→QQ} (h:UM s s' mv) (hl:m'.lays=m.lays) (ho:m'.objs.length=m.objs.length)
  (htree:∀ (r q:Int),(r,q)∈s'.par↔∃ k:Nat,r=k∧1≤k∧m'.P[k]? = some q∧0≤q) (hnd:(s'.par.map (·.1)).Nodup) (hlast:s'.last+1=m'.P.length)
  (hobj:∀ (o:Nat) (x':QI),m'.objs[o]? = some x'→∃ x,m.objs[o]? = some x∧x'={ x with region:=x'.region }∧∀ (k g:Nat) (e:QQ),told[o]? = some (k,g)→x.gone=false→s.tab[k]? = some ⟨g,some e⟩→e.region=x.region→(mv k e).region=x'.region):Rel s' m' told:=by
 refine⟨by rw[ho];exact R.len,by rw[h.lays,hl];exact R.lays,htree,hnd,hlast,?_,?_,?_,?_,R.nodup⟩
 ·intro o x' k g hx' ht hg;obtain⟨x,hx,he,hr⟩:=hobj o x' hx';have hg:x.gone=false:=by rw[he] at hg;exact hg
  obtain⟨e,hk,hL⟩:=R.obj o x k g hx ht hg;obtain⟨s1,s2,s3,s4,s5⟩:=h.same k e;refine⟨mv k e,h.at hk,?_⟩;have hreg:=hr k g e ht hg hk hL.region;rw[hl];have f1:x'.lay=x.lay:=by rw[he]
  have f2:x'.count=x.count:=by rw[he]
  have f3:x'.held=x.held:=by rw[he]
  have f4:x'.pinned=x.pinned:=by rw[he]
  have f5:x'.w=x.w:=by rw[he]
  have f6:x'.kind=x.kind:=by rw[he]
  have f7:x'.to=x.to:=by rw[he]
  refine⟨hreg,by rw[s1,f1];exact hL.lay,by rw[s2,f2];exact hL.count,by rw[s4,f3];exact hL.held,by rw[s5,f4];exact hL.pinned,by rw[s3,f5];exact hL.len,?_,?_,?_⟩
  ·rw[f5,f1,f6,f7,s3];exact hL.ref
  ·rw[f5,f1,s3];exact hL.word
  ·rw[f5,f1,f6];exact hL.kind
 ·intro o x' k g hx' ht hg e' hk';obtain⟨x,hx,he,_⟩:=hobj o x' hx';have hg:x.gone=true:=by rw[he] at hg;exact hg
  obtain⟨e,hk,_⟩:=h.from hk';exact R.gone o x k g hx ht hg e hk
 ·intro k g e' hk';obtain⟨e,hk,_⟩:=h.from hk';exact R.used k g e hk
 ·intro o k g ht;obtain⟨t,h1,h2⟩:=R.gens o k g ht;exact⟨_,h.tab k t h1,h2⟩
def G5 (id q:Nat) (x:QI):QI:=if x.region=id then { x with region:=q } else x
def FX (m:MS) (id q:Nat):MS:={ m with P:=ZQ m.P id q,objs:=m.objs.map (G5 id q) }
theorem OA (id q:Nat) (x:QI):G5 id q x={ x with region:=(G5 id q x).region }:=by
 unfold G5;split <;> rfl
theorem fV (id q:Nat) (x:QI):(G5 id q x).region=if x.region=id then q else x.region:=by
 unfold G5;split <;> rfl
theorem fY {s s':CS} {m:MS} {told:List (Nat×Nat)} (R:Rel s m told) {id q:Nat} (hid:1≤id) (hne:id≠q) (h:WM s id q s'):Rel s' (FX m id q) told:=by
 have hnd':(s'.par.map (·.1)).Nodup:=by rw[h.par.1];exact R.nd.filter _
 refine OW R h.mv rfl (length_map _) (fun r z=>?_) hnd' ?_ fun o x' hx'=>?_
 ·rw[← Y4 hnd',h.par.2];have hPk:∀ k:Nat,(ZQ m.P id q)[k]? = (m.P[k]?).map fun x=>if k=id then -1 else if 1≤k∧x=(id:Int) then (q:Int) else x:=fun k=>getElem?_mapIdx;constructor
  ·intro hr;split at hr
   ·cases hr
   ·rename_i h1;split at hr
    ·rename_i h2;injection hr with hr
     obtain⟨k,k1,k2,k3,k4⟩:=(R.tree _ _).1 ((Y4 R.nd).1 h2);refine⟨k,k1,k2,?_,by omega⟩;show (ZQ m.P id q)[k]? = _;rw[hPk,k3];simp only[Option.map_some];rw[if_neg (by omega),if_pos ⟨k2,trivial⟩,hr]
    ·rename_i h2;obtain⟨k,k1,k2,k3,k4⟩:=(R.tree _ _).1 ((Y4 R.nd).1 hr);refine⟨k,k1,k2,?_,k4⟩;show (ZQ m.P id q)[k]? = _;rw[hPk,k3];simp only[Option.map_some];rw[if_neg (by omega),if_neg (fun h3=>h2 (by rw[hr,h3.2]))]
  ·rintro⟨k,rfl,k2,k3,k4⟩;have k3:(ZQ m.P id q)[k]? = some z:=k3;rw[hPk] at k3;cases hP:m.P[k]? with
   | none=>rw[hP] at k3;cases k3
   | some z0=>
    rw[hP] at k3;injection k3 with k3
    have k3:(if k=id then (-1:Int) else if 1≤k∧z0=(id:Int) then (q:Int) else z0)=z:=k3;by_cases h1:k=id
    ·rw[if_pos h1] at k3;omega
    ·rw[if_neg h1] at k3;rw[if_neg (by omega)]
     have hz0:0≤z0:=by
      split at k3 <;> omega
     have hf:=(Y4 R.nd).2 ((R.tree (k:Int) z0).2 ⟨k,rfl,k2,hP,hz0⟩);by_cases h2:z0=(id:Int)
     ·rw[if_pos ⟨k2,h2⟩] at k3;rw[h2] at hf;rw[if_pos hf,k3]
     ·rw[if_neg (fun h3=>h2 h3.2)] at k3;subst k3
      rw[if_neg (fun h3=>by
       rw[hf] at h3;injection h3 with h3
       exact h2 h3)]
      exact hf
 ·rw[h.last];show s.last+1=(ZQ m.P id q).length;unfold ZQ;rw[length_mapIdx];exact R.last
 ·have hx':(m.objs.map (G5 id q))[o]? = some x':=hx';rw[getElem?_map] at hx';cases hx:m.objs[o]? with
  | none=>rw[hx] at hx';cases hx'
  | some x=>
   rw[hx] at hx';injection hx' with hx'
   subst hx';refine⟨x,rfl,OA id q x,fun k g e _ _ _ hr=>?_⟩;rw[UN,fV,hr];by_cases h1:x.region=id
   ·rw[if_pos (by omega),if_pos h1]
   ·rw[if_neg (by omega),if_neg h1]
theorem OB {m m':MS} (h:V6 m) (hP:m'.P.length=m.P.length∨(m'.P.length=m.P.length+1∧m.P.length < 100000)) (hl:m'.lays=m.lays) (ho:m'.objs.length=m.objs.length)
  (hobj:∀ (o:Nat) (x':QI),m'.objs[o]? = some x'→∃ x,m.objs[o]? = some x∧x'={ x with region:=x'.region }):V6 m':=by
 refine⟨by have:=h.P;omega,by rw[hl];exact h.lays,fun x' hx'=>?_,by rw[ho];exact h.few⟩;obtain⟨o,hx'⟩:=getElem?_of_mem hx';obtain⟨x,hx,he⟩:=hobj o x' hx';obtain⟨a,b,c,d,e⟩:=h.objs x (mem_of_getElem? hx);rw[hl,ho,he];exact⟨a,b,c,d,e⟩
def Wb (m:MS) (r:Nat) (os:List Nat):MS:={ m with P:=m.P++[(r:Int)],objs:=m.objs.mapIdx fun o x=>if o∈os then { x with region:=m.P.length } else x }
theorem OD {m:MS} {r:Nat} {os:List Nat} {o:Nat} {x':QI} (h:(Wb m r os).objs[o]? = some x'):∃ x,m.objs[o]? = some x∧x'={ x with region:=x'.region }∧x'.region=if o∈os then m.P.length else x.region:=by
 have h:(m.objs.mapIdx fun o x=>if o∈os then { x with region:=m.P.length } else x)[o]? = some x':=h;rw[getElem?_mapIdx] at h;cases hx:m.objs[o]? with
 | none=>rw[hx] at h;cases h
 | some x=>
  rw[hx] at h;injection h with h
  have h:(if o∈os then ({ x with region:=m.P.length }:QI) else x)=x':=h;subst h;refine⟨x,rfl,?_,?_⟩ <;> split <;> rfl
theorem fZ {m:MS} (h:V6 m) (hP:m.P.length < 100000) (r:Nat) (os:List Nat):V6 (Wb m r os):=by
 refine OB h (.inr ⟨by show (m.P++[_]).length=_;simp,hP⟩) rfl (length_mapIdx) fun o x' hx'=>?_;obtain⟨x,h1,h2,_⟩:=OD hx';exact⟨x,h1,h2⟩
theorem fG {s s':CS} (hw:WF s) {m:MS} {told:List (Nat×Nat)} (R:Rel s m told) {r:Nat} {Z:List Pl} {os:List Nat} (h:Kf s r Z s') (hos:∀ (o k g:Nat) (x:QI),told[o]? = some (k,g)→m.objs[o]? = some x→x.gone=false→(o∈os↔k∈Z.map Pl.k)):Rel s' (Wb m r os) told:=by
 have hup:∀ x,x∈s.par.map (·.1)→x≠((s.last+1:Nat):Int):=fun x hx=>by
  obtain⟨⟨x',q⟩,h1,h2⟩:=mem_map.1 hx;have h2:x'=x:=h2;have:=(hw.par.2.2 x' q h1).2;omega
 have hPl:m.P.length=s.last+1:=R.last.symm;refine OW R h.mv rfl length_mapIdx (fun x z=>?_) ?_ ?_ fun o x' hx'=>?_
 ·rw[h.par,mem_append,R.tree];show _↔∃ k:Nat,x=k∧1≤k∧(m.P++[(r:Int)])[k]? = some z∧0≤z;constructor
  ·rintro(⟨k,k1,k2,k3,k4⟩|h1)
   ·exact⟨k,k1,k2,by rw[getElem?_append_left (List.getElem?_eq_some_iff.1 k3).1];exact k3,k4⟩
   ·rw[mem_singleton] at h1;injection h1 with h1 h2
    refine⟨s.last+1,h1,by omega,?_,by omega⟩;rw[getElem?_append_right (by omega),hPl,Nat.sub_self,h2];rfl
  ·rintro⟨k,k1,k2,k3,k4⟩;by_cases hk:k < m.P.length
   ·rw[getElem?_append_left hk] at k3;exact .inl ⟨k,k1,k2,k3,k4⟩
   ·rw[getElem?_append_right (by omega)] at k3;have hk0:=(List.getElem?_eq_some_iff.1 k3).1;have hk0:k - m.P.length < 1:=hk0;have hk1:k - m.P.length=0:=by omega
    rw[hk1] at k3;injection k3 with k3
    refine .inr ?_;rw[mem_singleton,← k3,k1,show k=s.last+1 by omega]
 ·rw[h.par,map_append,nodup_append];refine⟨R.nd,by simp,fun a ha b hb hab=>?_⟩;simp at hb;subst hab;exact hup a ha hb
 ·rw[h.last];show _=(m.P++[(r:Int)]).length;rw[length_append,hPl];rfl
 ·obtain⟨x,h1,h2,h3⟩:=OD hx';refine⟨x,h1,h2,fun k g e ht hg hk hr=>?_⟩;have:=hos o k g x ht h1 hg;rw[h3];by_cases h4:k∈Z.map Pl.k
  ·rw[if_pos (this.2 h4),hPl];obtain⟨z,z1,z2⟩:=mem_map.1 h4;subst z2;rw[IJ h.keys z1]
  ·rw[if_neg (fun h5=>h4 (this.1 h5)),Ak h4];exact hr
theorem FK [Q4] (p:Nat) (q:GF) (last:Nat) (par:List (Int×Int)) (region:Int) {w:World} {fr:List Q2} (H:Q0 w (Qe q.trp last par::V5 p q::fr)) :
  Calls Tryz.prog 36 #[pp p,.int .i64 region] w (ret fun v w'=>v = .int .i64 (if (Q8 par region).isSome then 0 else 15)∧Q0 w' (Qe q.trp last par::V5 p q::fr)):=by
 refine QV Tryz.func36 rfl (by kernel_rfl) ?_;refine J6 H ?_;refine Y1 (fun ms σ w=>ms=[]∧(Q8 par region).isSome=true∧Q0 w (Qe q.trp last par::V5 p q::fr)) ?_ ?_
 ·refine Kz H ?_;refine J9 H ?_;refine Jc rfl rfl (Ek q.trp last par region H) ?_;clear H;rintro v w ⟨rfl,H⟩;cases hf:(Q8 par region).isSome with
  | true=>
   refine W3 H ?_;exact .inl ⟨rfl,rfl,rfl,H⟩
  | false=>
   refine Dr H ?_;exact Q3 (.inr ⟨by simp,Jy H rfl fun w' H'=>⟨rfl,H'⟩⟩)
 ·clear H;rintro ms σ w ⟨rfl,hf,H⟩;rw[hf];refine VJ H ?_;exact Q3 (Jy H rfl fun w' H'=>⟨rfl,H'⟩)
theorem fU [Q4] {w:World} {a b:Q2} {l:List Q2} (H:Q0 w (a::b::l)):∃ X,X=l∧Q0 w (a::b::X):=⟨l,rfl,H⟩
def Xw (s:CS) (l:List Int) (G:List Nat):Prop:=G.Pairwise (· < ·)∧∀ k,k∈G↔∃ g e,s.tab[k]? = some ⟨g,some e⟩∧e.region∈l
theorem Xw.len {s:CS} (hw:WF s) {l:List Int} {G:List Nat} (h:Xw s l G):G.length≤64:=by
 have:=RH G 0 64 (fun x hx=>⟨Nat.zero_le _,by
  obtain⟨g,f,h3,_⟩:=(h.2 x).1 hx;have h4:=(List.getElem?_eq_some_iff.1 h3).1;have:=hw.slots.2;omega⟩) h.1
 omega
theorem Xw.step {s:CS} {l:List Int} {G M:List Nat} {x:Int} (h:Xw s l G) (hx:x∉l) (hM:M.Pairwise (· < ·)) (hm:∀ i,i∈M↔∃ g e,s.tab[i]? = some ⟨g,some e⟩∧e.region=x):(∀ k∈G,k∉M)∧Xw s (l++[x]) (U5 G M):=by
 have hd:∀ k∈G,k∉M:=fun k hk hk2=>by
  obtain⟨g,e,h1,h2⟩:=(h.2 k).1 hk;obtain⟨g',e',h3,h4⟩:=(hm k).1 hk2;rw[h1] at h3;injection h3 with h3
  injection h3 with _ h3
  injection h3 with h3
  subst h3;exact hx (h4▸h2)
 refine⟨hd,NO h.1 hM hd,fun k=>?_⟩;rw[cR,h.2,hm];constructor
 ·rintro(⟨g,e,h1,h2⟩|⟨g,e,h1,h2⟩)
  ·exact⟨g,e,h1,mem_append.2 (.inl h2)⟩
  ·exact⟨g,e,h1,mem_append.2 (.inr (mem_singleton.2 h2))⟩
 ·rintro⟨g,e,h1,h2⟩
  rcases mem_append.1 h2 with h2|h2
  ·exact .inl ⟨g,e,h1,h2⟩
  ·exact .inr ⟨g,e,h1,mem_singleton.1 h2⟩
theorem GL.rk {s s':CS} {D:List Rf} (h:GL s D s') (hR:XU s):XU s':=by
 refine⟨h.nd,fun r t hr=>?_⟩;rw[h.rem] at hr;split at hr
 ·cases hr
 ·obtain⟨k,p,g,e,h1,h2,h3⟩:=hR.key r t hr;exact⟨k,p,g,VC D k e,h1,h.tab k _ h2,by rw[Kb];exact h3⟩
def Wc (s:CS) (G ks:List Nat) (D:List Rf):Prop:=∀ r:Rf,r∈D↔(∃ t∈ks,Q8 s.rem r=some ((t:Nat):Int))∧¬ ∃ k∈G,r.1=((k:Nat):Int)
structure XA (s:CS) (ks:List Nat) (s':CS):Prop where
 size:s'.size=s.size
 own:s'.own=s.own
 lays:s'.lays=s.lays
 last:s'.last=s.last
 par:s'.par=s.par
 sps:s'.sps=s.sps
 tabl:s'.tab.length=s.tab.length
 tab:∀ (k:Nat) (t:QF),s.tab[k]? = some t→s'.tab[k]? = some (if k∈ks then ⟨t.gen,none⟩ else t)
 nd:(s'.rem.map (·.1)).Nodup
 rem:∀ r,Q8 s'.rem r=if ∃ k∈ks,r.1=((k:Nat):Int) then none else Q8 s.rem r
theorem XA.start {s:CS} (h:(s.rem.map (·.1)).Nodup):XA s [] s:=
 ⟨rfl,rfl,rfl,rfl,rfl,rfl,rfl,fun k t hk=>by rw[if_neg (by simp)];exact hk,h,fun r=>by rw[if_neg (by simp)]⟩
theorem XA.step {s s' s2:CS} {ks:List Nat} (h:XA s ks s') {k n:Nat} {e:QQ} (hk:s.tab[k]? = some ⟨n,some e⟩) (hL:FQ s' k n s2):XA s (ks++[k]) s2:=by
 refine⟨hL.size.trans h.size,hL.own.trans h.own,hL.lays.trans h.lays,hL.last.trans h.last,hL.par.trans h.par,hL.sps.trans h.sps,by rw[hL.tab,length_set];exact h.tabl,fun j t hj=>?_,hL.nd,fun r=>?_⟩
 ·have hj':=h.tab j t hj;have hjl:=(List.getElem?_eq_some_iff.1 hj').1;rw[hL.tab];by_cases hkj:k=j
  ·subst hkj;rw[hk] at hj;injection hj with hj
   subst hj;rw[getElem?_set_self hjl,if_pos (by simp)]
  ·rw[getElem?_set_ne hkj,hj']
   have h1:j∈ks++[k]↔j∈ks:=by
    rw[mem_append,mem_singleton];exact⟨fun h=>h.elim id fun h=>absurd h.symm hkj,.inl⟩
   by_cases h2:j∈ks
   ·rw[if_pos h2,if_pos (h1.2 h2)]
   ·rw[if_neg h2,if_neg (fun h=>h2 (h1.1 h))]
 ·rw[hL.rem,h.rem];by_cases h1:r.1=((k:Nat):Int)
  ·rw[if_pos h1,if_pos ⟨k,by simp,h1⟩]
  ·rw[if_neg h1];by_cases h2:∃ j∈ks,r.1=((j:Nat):Int)
   ·obtain⟨j,h3,h4⟩:=h2;rw[if_pos ⟨j,h3,h4⟩,if_pos ⟨j,mem_append.2 (.inl h3),h4⟩]
   ·rw[if_neg h2,if_neg];rintro⟨j,h3,h4⟩
    rcases mem_append.1 h3 with h3|h3
    ·exact h2 ⟨j,h3,h4⟩
    ·rw[mem_singleton] at h3;subst h3;exact h1 h4
structure Kk (s:CS) (l:List Int) (s':CS):Prop where
 size:s'.size=s.size
 own:s'.own.length=s.own.length
 lays:s'.lays=s.lays
 last:s'.last=s.last
 par:s'.par=l.foldl QB s.par
 tab:s'.tab=s.tab
 rem:s'.rem=s.rem
 sps:∀ y∈s.sps,y.1∉l→y∈s'.sps
 owns:∀ j,s'.own.getD j 0=if ((s.own.getD j 0:Nat):Int)∈l then 0 else s.own.getD j 0
theorem Kk.start (s:CS):Kk s [] s:=⟨rfl,rfl,rfl,rfl,rfl,rfl,rfl,fun y h _=>h,fun j=>by rw[if_neg (by simp)]⟩
theorem Kk.step {s s':CS} {l:List Int} (h:Kk s l s') (x:Int) {own':List Nat} (ho:own'.length=s'.own.length) (sps:List (Int×Nat×QH)) (mns:List (Int×Nat×List Nat)) (hsp:∀ y∈s'.sps,y.1≠x→y∈sps) (hog:∀ j,own'.getD j 0=if ((s'.own.getD j 0:Nat):Int)=x then 0 else s'.own.getD j 0):Kk s (l++[x]) { s' with own:=own',par:=QB s'.par x,sps:=sps,mns:=mns }:=
 ⟨h.size, ho.trans h.own, h.lays, h.last, by show QB s'.par x = _; rw [h.par, foldl_append]; rfl, h.tab, h.rem, fun y hy hn => hsp y (h.sps y hy fun h1 => hn (mem_append.2 (.inl h1))) fun h1 => hn (mem_append.2 (.inr (by rw [h1]; exact mem_singleton.2 rfl))), fun j => by
  show own'.getD j 0=_;rw[hog,h.owns];by_cases h1:((s.own.getD j 0:Nat):Int)∈l
  ·rw[if_pos h1,if_pos (mem_append.2 (.inl h1))];split <;> rfl
  ·rw[if_neg h1];by_cases h2:((s.own.getD j 0:Nat):Int)=x
   ·rw[if_pos h2,if_pos (mem_append.2 (.inr (by rw[h2];exact mem_singleton.2 rfl)))]
   ·rw[if_neg h2,if_neg (fun h3=>(mem_append.1 h3).elim h1 fun h4=>h2 (mem_singleton.1 h4))]⟩
theorem FR:∀ (ks:List Int) {m:List (Int×Int)},(m.map (·.1)).Nodup→((ks.foldl QB m).map (·.1)).Nodup
 | [],_,h=>h
 | k::ks,_,h=>FR ks (X0 h)
theorem fX {m:List (Int×Int)} {k x:Int} (hne:k≠x) (hx:x∈m.map (·.1)):x∈(QB m k).map (·.1):=by
 induction m with
 | nil=>exact hx
 | cons a m ih=>
  unfold QB;split
  ·rename_i h;rw[map_cons,mem_cons] at hx
   rcases hx with hx|hx
   ·exact absurd (hx.trans h).symm hne
   ·exact hx
  ·rw[map_cons,mem_cons] at hx ⊢
   rcases hx with hx|hx
   ·exact .inl hx
   ·exact .inr (ih hx)
theorem OE {x:Int}:∀ {ks:List Int} {m:List (Int×Int)},x∉ks→x∈m.map (·.1)→x∈(ks.foldl QB m).map (·.1)
 | [],_,_,h=>h
 | k::ks,_,h1,h=>OE (ks:=ks) (fun h2=>h1 (mem_cons_of_mem _ h2)) (fX (fun e=>h1 (e▸mem_cons_self)) h)
theorem fK {own own' C:List Nat} {r:Int} (hog:∀ j,own'.getD j 0=if j∈C then 0 else own.getD j 0) (ho:∀ c,c∈C↔∃ q:Nat,own[c]? = some q∧(q:Int)=r∧q≠0) (j:Nat):own'.getD j 0=if ((own.getD j 0:Nat):Int)=r then 0 else own.getD j 0:=by
 rw[hog j];by_cases hj:j∈C
 ·obtain⟨q',h1,h2,_⟩:=(ho j).1 hj;rw[if_pos hj,if_pos (by rw[getD_eq_getElem?_getD,h1];exact h2)]
 ·rw[if_neg hj];split
  ·rename_i h1;rw[getD_eq_getElem?_getD] at h1 ⊢;cases h2:own[j]? with
   | none=>rfl
   | some y=>
    rw[h2] at h1;have h1:((y:Nat):Int)=r:=h1;by_cases h3:y=0
    ·exact h3
    ·exact absurd ((ho j).2 ⟨y,h2,h1,h3⟩) hj
  ·rfl
def FW (s:CS) (L:List Int) (s':CS):Prop:=∃ (G:List Nat) (Dl:List Rf) (s1 s2:CS),Xw s L G∧GL s Dl s1∧Wc s G G Dl∧XA s1 G s2∧Kk s2 L s'
set_option maxRecDepth 10000 in
theorem Io [Q4] (p:Nat) (s:CS) (region:Int) (hT:Y3 s.par) (hid:(Q8 s.par region).isSome=true) (hI:Inv s) (hgen:∀ (k g:Nat) (e:QQ),s.tab[k]? = some ⟨g,some e⟩→g < 255) {w:World} {fr:List Q2} (H:Q0 w (QU p s::fr)) :
  Calls Tryz.prog 13 #[pp p,.int .i64 region] w (ret fun v w'=>∃ u L s',v = .tuple #[u,.int .i64 0]∧L.Nodup∧L.Pairwise (·≤·)∧(∀ c,c∈L↔Z5 s.par region c)∧L.length≤s.par.length∧FW s L s'∧Q0 w' (IL u L::QU p s'::fr)):=by
 obtain⟨q,mem,hw,hm,H⟩:=Vv H;refine QV Tryz.func13 rfl (by kernel_rfl) ?_;refine ZF H ?_;clear H;intro b2 w H;refine J2 H ?_;replace H:=Js [6,1,0,0,0,0,0] 0 H;refine Xh H ?_;refine Jc rfl rfl (FK p q s.last s.par region H) ?_;clear H;rintro v w ⟨rfl,H⟩;rw[if_pos hid];refine Yp H ?_;refine Xj H ?_;refine Jc rfl rfl (cG q.trp s.last s.par region hT hid (by have:=hw.par.1;omega) H) ?_;clear H;rintro v w ⟨u,L,rfl,hL1,hL2,hL3,hL4,H⟩;obtain⟨aL,cL,rfl⟩:=QD H (Va L) (by decide);refine ZE H ?_;refine Yq H ?_;refine Jc rfl rfl (Hu H) ?_;clear H;rintro v w ⟨bg,rfl,H⟩;refine VQ H ?_;clear H;intro b9 w H;refine HA H ?_;clear H;intro w H;refine Q6 ?_;refine Xa H ?_;have hLl:L.length≤64:=by have:=hw.par.1;omega
 have hLm:∀ x∈L,x∈s.mns.map (·.1):=fun x hx=>by
  have h1:=((hL3 x).1 hx).live hid;rw[hw.mkeys];cases hf:Q8 s.par x with
  | none=>rw[hf] at h1;cases h1
  | some y=>exact mem_map.2 ⟨(x,y),Ud hf,rfl⟩
 replace H:=Js [2,1,0,11,1,1,8,0,0,0,0,0,0,0,0] 0 H;obtain⟨X,hX,H⟩:=fU H;refine J7 H ?_;refine Qm (fun ms σ w=>ms=[]∧∃ G:List Nat,Xw s L G∧σ 2=pp b2∧σ 7 = .slice aL L.length cL∧σ 9=pp b9∧Q0 w (IL (.slice aL L.length cL) L::Qs bg G::X)) ?_ ?_
 ·refine QS ?_;refine Qi (fun ms σ w z=>ms=[]∧∃ (i:Nat) (G:List Nat),i≤L.length∧z=L.length - i∧Xw s (L.take i) G∧σ 2=pp b2∧σ 7 = .slice aL L.length cL∧σ 9=pp b9∧σ 36 = .slice aL L.length cL∧σ 37 = .int .i64 L.length∧σ 38 = .int .i64 i∧Q0 w (IL (.slice aL L.length cL) L::Qs bg G::X)) (m:=L.length) ⟨rfl,0,[],by omega,rfl,⟨List.Pairwise.nil,fun k=>by simp⟩,rfl,rfl,rfl,rfl,rfl,rfl,H⟩ ?_;clear H;rintro ms σ w z ⟨rfl,i,G,hi,rfl,hG,g2,g7,g9,g36,g37,g38,H⟩;rw[Q1 g2,Q1 g7,Q1 g9,Q1 g36,Q1 g37,Q1 g38];refine J6 H ?_;refine Qh rfl (fun h=>QR ?_) (fun h=>Qj ?_)
  ·have hlt:i < L.length:=by omega
   have hx:=getElem?_eq_getElem hlt;have htk:L.take (i+1)=L.take i++[L[i]]:=by rw[take_add_one,hx];rfl
   have hnt:L[i]∉L.take i:=fun hh=>by
    obtain⟨j,hj⟩:=getElem?_of_mem hh;rw[getElem?_take] at hj;split at hj
    ·rename_i hji;obtain⟨hj1,hj2⟩:=List.getElem?_eq_some_iff.1 hj;exact(pairwise_iff_getElem.1 hL1) j i hj1 hlt hji hj2
    ·cases hj
   have hxm:=hLm _ (getElem_mem hlt);generalize L[i]=x at hx htk hnt hxm;obtain⟨b',hkM⟩:=KT (l:=s.mns) (f:=fun x=>x.1) (g:=fun x=>x.2.1) (k:=x) hxm;obtain⟨⟨r1,b1,M⟩,m1,m2,hmns,h11,h12⟩:=KS hkM;have h11:r1=x:=h11;have h12:b1=b':=h12;subst h11 h12;have hkM':Q8 (s.mns.map V2) r1=some b1:=hkM;have hM:=hw.mine (r1,b1,M) (by rw[hmns];simp);have hM1:Xw s [r1] M:=⟨hM.1,fun k=>by rw[hM.2];simp⟩;have hMl:=hM1.len hw;have hGl:=hG.len hw;obtain⟨hdj,hG2⟩:=hG.step hnt hM.1 hM.2;rw[hX] at H;obtain⟨bT,sT,rfl,H,hcl⟩:=Qw H (by omega);refine Y9 H ?_;refine Jd ?_;refine Q5 rfl (QW H rfl (by simpa using U4 hx) rfl ?_);refine J0 H ?_;replace H:=hcl _ _ H;replace H:=Js [3,0,0,0] 0 H;replace H:Q0 w (Qs b1 M::star ((m1++m2).map VX)::_):=(Q0.pick (R:=VX) (x:=(r1,b1,M)) hmns).1 H;replace H:=Js [3,0,0,0] 0 H;refine J1 H ?_;clear H;intro w H;refine Jl 0 [7] H ?_;refine Jl 1 [7] H ?_;refine Ja 2 ?_;refine Jf 3 ?_;refine Jl 4 [] H ?_;refine Ja 5 ?_;refine XM 6 [] (key:=r1) H rfl (Q9.none rfl) rfl rfl VL (by kernel_rfl) ?_;rw[hkM'];refine Jo 7 H ?_;refine Jk rfl rfl (cC bg b1 G M hG.1 hM.1 hdj (by omega) (by omega) H) ?_;clear H;rintro v w ⟨rfl,H⟩;refine Jx H ?_;replace H:=Js [1,1,0,0] 0 H;replace H:=(Q0.pick (R:=VX) (x:=(r1,b1,M)) hmns).2 H;replace H:=Js [2,1,1,0] 0 H;refine J3 H ?_;exact⟨_,⟨rfl,i+1,U5 G M,hlt,rfl,by rw[htk];exact hG2,rfl,rfl,rfl,rfl,rfl,Qa (by omega),by rw[hX];exact H⟩,by omega⟩
  ·have hge:i=L.length:=by omega
   subst hge;rw[take_length] at hG;exact⟨rfl,rfl,G,hG,rfl,rfl,rfl,H⟩
 clear H;rintro ms σ w ⟨rfl,G,hG,g2,g7,g9,H⟩;rw[Q1 g2,Q1 g7,Q1 g9];rw[hX] at H;clear hX;have hGl:=hG.len hw;replace H:=Js [1,0] 0 H;refine Gx H ?_;refine Jc rfl rfl (F8 bg G (by omega) H) ?_;clear H;rintro v w ⟨bv,av,cv,rfl,H⟩;refine Q6 ?_;replace H:=Js [6,9,9,9,9,9,9,9,7,5,0,0,0,0,0,0,0] 0 H;replace H:=Cg hw hm H;refine J7 H ?_;refine Qm (fun ms σ w=>(∃ (D:Nat) (s1:CS) (Dl:List Rf),ms=[D]∧GL s Dl s1∧Wc s G G Dl∧Q0 w (GJ p q s1::Qs bg G::pts b9 (row 123 [pp bg])::pts b2 (row 45 [pp p])::pts D (.deferred (some []))::IL (.slice aL L.length cL) L::Qe q.trp s.last (L.foldl QB s.par)::fr))∧σ 2=pp b2∧σ 7 = .slice aL L.length cL∧σ 9=pp b9) ?_ ?_
 ·refine QS (Kt (a:=[]) (b:=[pp bv]) H rfl (fun yl D w H=>?_));generalize hL:LR _ yl _ _ _ _ D .ready=LRR at H ⊢;obtain⟨J,hJ⟩:∃ J:List Nat→Q2,J=fun ks=>ex fun x:CS×List Rf=>star [prop (GL s x.2 x.1∧Wc s G ks x.2),LRR,GJ p q x.1,Qs bg G,pts b9 (row 123 [pp bg]),pts b2 (row 45 [pp p])]:=⟨_,rfl⟩
  have hin:∀ (ks:List Nat) (s1:CS) (Dl:List Rf) (w:World) (l':List Q2),GL s Dl s1→Wc s G ks Dl→Q0 w (LRR::GJ p q s1::Qs bg G::pts b9 (row 123 [pp bg])::pts b2 (row 45 [pp p])::l')→Q0 w (J ks::l'):=by
   intro ks s1 Dl w l' h1 h2 H;rw[hJ];exact Q0.ex.2 ⟨(s1,Dl),Q0.star.2 (Q0.prop.2 ⟨⟨h1,h2⟩,H⟩)⟩
  have hout:∀ (ks:List Nat) (w:World) (l':List Q2),Q0 w (J ks::l')→∃ s1 Dl,GL s Dl s1∧Wc s G ks Dl∧Q0 w (LRR::GJ p q s1::Qs bg G::pts b9 (row 123 [pp bg])::pts b2 (row 45 [pp p])::l'):=by
   intro ks w l' H;rw[hJ] at H;obtain⟨⟨s1,Dl⟩,H⟩:=Q0.ex.1 H;obtain⟨⟨h1,h2⟩,H⟩:=Q0.prop.1 (Q0.star.1 H);exact⟨s1,Dl,h1,h2,H⟩
  replace H:=Js [0,1,3,4,4,1,1,0,0,0] 0 H;replace H:=hin [] s [] _ _ (GL.start hI.nd) (fun r=>by simp) H;refine call (F9 yl bv av cv G (by omega) J ?_ H) ?_
  ·clear H;intro ks k tt rest w hpre H;obtain⟨s1,Dl,hC1,hD1,H⟩:=hout _ _ _ H;subst hL;refine Ks (args:=[.int .i64 k]) H rfl rfl ?_;refine VJ H ?_;refine⟨rfl,_,H,fun w H=>QS ?_⟩;generalize hLB:LR _ yl _ _ _ _ D .busy=LB at H ⊢;replace H:=Js [1,0] 0 H;obtain⟨mem1,hw1,hm1,H⟩:=Cf H;replace H:=Js [5,0,0,0,0,0] 0 H;refine Xj H ?_;refine Jc rfl rfl (cd q.rp s1.rem (IU hw1 (hC1.rk hI.rk)) k H) ?_;clear H;rintro v w ⟨rs,hrs,hris,H⟩;obtain⟨ar,cr,rfl⟩:=QD H (Ad rs) (by decide);refine Ul H ?_
   have hrl:rs.length≤1000000:=by
    have h1:=G1 (l₁:=rs) (l₂:=s1.rem.map (·.1)) (hris.imp fun h=>by
     rintro rfl
     rcases h with h|⟨_,h⟩ <;> omega) (fun r hr=>by
     have:=(hrs r).1 hr;exact mem_map.2 ⟨(r,((k:Nat):Int)),Ud this,rfl⟩)
    rw[length_map] at h1;have:=IU hw1 (hC1.rk hI.rk);omega
   have hkn:k∉ks:=fun h=>by
    have h1:=hG.1;rw[hpre,pairwise_append] at h1;have:=h1.2.2 k h k mem_cons_self;omega
   replace H:=Js [2,2,2,2,2,1,1,1,1,1,0] 0 H;replace H:=Cg hw1 hm1 H;refine J7 H ?_;refine QS (Qi (fun ms σ w z=>ms=[]∧∃ (i:Nat) (s2:CS) (D2:List Rf),i≤rs.length∧z=rs.length - i∧GL s D2 s2∧(∀ r,r∈D2↔r∈Dl∨(r∈rs.take i∧¬ ∃ k∈G,r.1=((k:Nat):Int)))∧σ 2=pp b2∧σ 9=pp b9∧σ 59 = .slice ar rs.length cr∧σ 60 = .int .i64 rs.length∧σ 61 = .int .i64 i∧Q0 w (GJ p q s2::QC 132 2 (.slice ar rs.length cr) (ZK rs)::LB::Qs bg G::pts b9 (row 123 [pp bg])::pts b2 (row 45 [pp p])::rest)) (m:=rs.length) ⟨rfl,0,s1,Dl,by omega,rfl,hC1,(fun r=>by simp),rfl,rfl,rfl,rfl,rfl,H⟩ ?_);clear H hw1 hm1;rintro ms σ w z ⟨rfl,i,s2,D2,hi,rfl,hC2,hD2,g2,g9,g59,g60,g61,H⟩;rw[Q1 g2,Q1 g9,Q1 g59,Q1 g60,Q1 g61];refine J6 H ?_;refine Qh rfl (fun h=>QR ?_) (fun h=>Qj ?_)
   ·have hlt:i < rs.length:=by omega
    have hx:=getElem?_eq_getElem hlt;have htk:rs.take (i+1)=rs.take i++[rs[i]]:=by rw[take_add_one,hx];rfl
    have hmem:=(hrs _).1 (getElem_mem hlt);generalize rs[i]=rr at hx htk hmem;rw[hC1.rem] at hmem;split at hmem
    ·cases hmem
    rename_i hnD;obtain⟨kk,pl,g,e,a,b,f,rfl,hk,hpl,hrf,hlk,hlo,hfar,hka⟩:=(hI.rem _ _).1 hmem;have hk2:=hC2.tab kk _ hk;replace H:=Js [1,0] 0 H;obtain⟨bT,sT,rfl,H,hcl⟩:=Qw H (by omega);refine Y9 H ?_;refine Jd ?_;rw[show 0+((i:Nat):Int).toNat*2=0+i*2 by simp];refine Q5 rfl (VH H rfl (Mz hx) rfl ?_);refine VQ H ?_;clear H;intro b14 w H;refine J4 H ?_;clear H;intro w H;refine Q6 ?_;replace H:=hcl _ _ H.swap;replace H:=Js [4,0,0,0,0] 0 H;refine Gx H ?_;refine Gg H ?_;refine Jc rfl rfl (Tz bg G kk hG.1 (by omega) H) ?_;clear H;rintro v w ⟨rfl,H⟩;by_cases hkG:kk∈G
    ·rw[decide_eq_true hkG];refine KK H ?_;replace H:=Js [3,1,2,0,1,1] 1 H;refine⟨_,⟨rfl,i+1,s2,D2,hlt,rfl,hC2,(fun r=>?_),rfl,rfl,rfl,rfl,Qa (by omega),H⟩,by omega⟩;rw[hD2,htk];constructor
     ·rintro(h1|⟨h1,h2⟩)
      ·exact .inl h1
      ·exact .inr ⟨mem_append.2 (.inl h1),h2⟩
     ·rintro(h1|⟨h1,h2⟩)
      ·exact .inl h1
      ·rcases mem_append.1 h1 with h1|h1
       ·exact .inr ⟨h1,h2⟩
       ·rw[mem_singleton] at h1;subst h1;exact absurd ⟨kk,hkG,rfl⟩ h2
    ·rw[decide_eq_false hkG];refine Un H ?_;replace H:=Js [3,0,0,0] 0 H;obtain⟨mem2,hw2,hm2,H⟩:=Cf H;replace H:=Js [4,0,0,0,0] 0 H;refine Gx H ?_;refine Gg H ?_;refine Jc rfl rfl (IY p q s2.tab kk g (VC D2 kk e) hk2 H) ?_;clear H;rintro v w ⟨rfl,H⟩;refine Vj H ?_;clear H;intro b15 w H;refine VQ H ?_;clear H;intro b16 w H;refine J4 H ?_;clear H;intro w H;refine J4 H ?_;clear H;intro w H;refine Q6 ?_;have hI2:=KM hw2 hm2 hk2;have hpl2:pl < (VC D2 kk e).ws.length:=by rw[Kb];exact hpl
     have hrf2:VW (QO s2 (VC D2 kk e)) pl=true:=by rw[hC2.lay];exact hrf
     replace H:=Js [4,4,4,0,0,0,0] 0 H;refine J1 H ?_;clear H;intro w H;refine Jl 0 [] H ?_;refine X9 H ?_;refine Jl 3 [] H ?_;refine Kx H ?_;refine Jf 6 ?_;refine Jl 7 [] H ?_;refine GY 8 rfl (Q9.none rfl) rfl (by kernel_rfl) ?_;have hTie:=Mq q.ip q.sp q.bp s2.size s2.lays mem2 s2.own (VC D2 kk e).addr (VC D2 kk e).lay (VC D2 kk e).count kk (VC D2 kk e).ws.length (QO s2 (VC D2 kk e)) hI2 pl .grave trivial H;refine Jo 9 H ?_;refine Jk rfl rfl (hTie) ?_;clear H hTie;rintro v w ⟨rfl,H⟩;rw[d6 hpl2 hrf2,if_pos rfl,Int.toNat_natCast] at H;refine Jx H ?_;replace H:=Js [7,0,0,0,0,0,0,0] 0 H;refine J1 H ?_;clear H;intro w H;refine Jl 0 [] H ?_;refine X9 H ?_;refine Jl 3 [] H ?_;refine VP 4 [] H rfl (Q9.none rfl) rfl (by repeat first|exact .nil _|apply QZ.cons rfl) (by kernel_rfl) ?_;refine Jo 5 H ?_;refine Jk rfl rfl (CK q.rp s2.rem hC2.nd (((kk:Nat):Int),((pl:Nat):Int)) H) ?_;clear H;rintro v w ⟨rfl,H⟩;refine Jx H ?_;replace H:=Js [6,6,1,1,1,0,2,2,2,2,3,4,2,3,3] 3 H;replace H:=I2 (e':={ VC D2 kk e with ws:=(VC D2 kk e).ws.set pl 1 }) hk2 rfl H;replace H:=Js [1,1,1,1,0] 0 H;replace H:=Cg (s:=Ch s2 kk g pl (VC D2 kk e)) (dQ hw2 hk2) (dV hw2 hm2 hk2 hpl2) H;refine J3 H ?_;refine⟨_,⟨rfl,i+1,Ch s2 kk g pl (VC D2 kk e),D2++[(((kk:Nat):Int),((pl:Nat):Int))],hlt,rfl,hC2.step hk,(fun r=>?_),rfl,rfl,rfl,rfl,Qa (by omega),H⟩,by omega⟩;rw[mem_append,hD2,htk];constructor
     ·rintro((h1|⟨h1,h2⟩)|h1)
      ·exact .inl h1
      ·exact .inr ⟨mem_append.2 (.inl h1),h2⟩
      ·refine .inr ⟨mem_append.2 (.inr h1),?_⟩;rw[mem_singleton] at h1;subst h1;rintro⟨k',h3,h4⟩;have h4:((kk:Nat):Int)=((k':Nat):Int):=h4;obtain rfl:kk=k':=by omega
       exact hkG h3
     ·rintro(h1|⟨h1,h2⟩)
      ·exact .inl (.inl h1)
      ·rcases mem_append.1 h1 with h1|h1
       ·exact .inl (.inr ⟨h1,h2⟩)
       ·exact .inr h1
   ·have hge:i=rs.length:=by omega
    subst hge;rw[take_length] at hD2
    have hChr:Wc s G (ks++[k]) D2:=by
     intro r;rw[hD2,hrs,hC1.rem];constructor
     ·rintro(h0|⟨h1,h2⟩)
      ·obtain⟨⟨t,h1,h2⟩,h3⟩:=(hD1 r).1 h0;exact⟨⟨t,mem_append.2 (.inl h1),h2⟩,h3⟩
      ·split at h1
       ·cases h1
       ·exact⟨⟨k,by simp,h1⟩,h2⟩
     ·rintro⟨⟨t,h1,h2⟩,h3⟩
      rcases mem_append.1 h1 with h1|h1
      ·exact .inl ((hD1 r).2 ⟨⟨t,h1,h2⟩,h3⟩)
      ·rw[mem_singleton] at h1;subst h1;refine .inr ⟨?_,h3⟩;rw[if_neg]
       ·exact h2
       ·intro h4;obtain⟨⟨t',h5,h6⟩,_⟩:=(hD1 r).1 h4;rw[h2] at h6;injection h6 with h6
        obtain rfl:t=t':=by omega
        exact hkn h5
    subst hLB;replace H:=Js [2,0,1,1,1] 1 H;exact⟨rfl,_,H,fun w H=>⟨rfl,hin _ _ _ _ _ hC2 hChr H⟩⟩
  ·clear H;rintro v w H;obtain⟨s1,Dl,hC1,hD1,H⟩:=hout _ _ _ H;subst hL;refine⟨_,H,fun w H=>?_⟩;replace H:=Js [0,0,0,0,2,2,2] 2 H;exact⟨rfl,⟨D,s1,Dl,rfl,hC1,hD1,H⟩,rfl,rfl,rfl⟩
 clear H;rintro ms σ w ⟨⟨D,s1,Dl,rfl,hC1,hD1,H⟩,g2,g7,g9⟩;rw[Q1 g2,Q1 g7,Q1 g9];have hLnd:=hL1;clear hL1;replace H:=Js [1,1,0] 0 H;refine Gx H ?_;refine Jc rfl rfl (F8 bg G (by omega) H) ?_;clear H;rintro v w ⟨bv2,av2,cv2,rfl,H⟩;refine Q6 ?_;replace H:=Js [5,5,0,0,1,1,1,1] 1 H;refine J7 H ?_;refine Qm (fun ms σ w=>(∃ (D2:Nat) (s2:CS),ms=[D2,D]∧XA s1 G s2∧XU s2∧Q0 w (GJ p q s2::pts b2 (row 45 [pp p])::pts D2 (.deferred (some []))::pts D (.deferred (some []))::IL (.slice aL L.length cL) L::Qe q.trp s.last (L.foldl QB s.par)::fr))∧σ 2=pp b2∧σ 7 = .slice aL L.length cL) ?_ ?_
 ·refine QS (Kt (a:=[]) (b:=[pp bv2]) H rfl (fun yl D2 w H=>?_));generalize hL:LR _ yl _ _ _ _ D2 .ready=LRR at H ⊢;obtain⟨J,hJ⟩:∃ J:List Nat→Q2,J=fun ks=>ex fun x:CS=>star [prop (XA s1 ks x∧XU x),LRR,GJ p q x,pts b2 (row 45 [pp p])]:=⟨_,rfl⟩
  have hin:∀ (ks:List Nat) (s2:CS) (w:World) (l':List Q2),XA s1 ks s2→XU s2→Q0 w (LRR::GJ p q s2::pts b2 (row 45 [pp p])::l')→Q0 w (J ks::l'):=by
   intro ks s2 w l' h1 h2 H;rw[hJ];exact Q0.ex.2 ⟨s2,Q0.star.2 (Q0.prop.2 ⟨⟨h1,h2⟩,H⟩)⟩
  have hout:∀ (ks:List Nat) (w:World) (l':List Q2),Q0 w (J ks::l')→∃ s2,XA s1 ks s2∧XU s2∧Q0 w (LRR::GJ p q s2::pts b2 (row 45 [pp p])::l'):=by
   intro ks w l' H;rw[hJ] at H;obtain⟨s2,H⟩:=Q0.ex.1 H;obtain⟨⟨h1,h2⟩,H⟩:=Q0.prop.1 (Q0.star.1 H);exact⟨s2,h1,h2,H⟩
  replace H:=Js [0,6,1,2,2,0,0,1,1] 1 H;replace H:=hin [] s1 _ _ (XA.start hC1.nd) (hC1.rk hI.rk) H;refine call (F9 yl bv2 av2 cv2 G (by omega) J ?_ H) ?_
  ·clear H;intro ks k tt rest w hpre H;obtain⟨s2,hN,hR2,H⟩:=hout _ _ _ H;subst hL;have hkG:k∈G:=by rw[hpre];simp
   have hkn:k∉ks:=fun h=>by
    have h1:=hG.1;rw[hpre,pairwise_append] at h1;have:=h1.2.2 k h k mem_cons_self;omega
   obtain⟨g,e,hk,_⟩:=(hG.2 k).1 hkG;have hk1:=hC1.tab k _ hk;have hk2:=hN.tab k _ hk1;rw[if_neg hkn] at hk2;refine Ks (args:=[.int .i64 k]) H rfl rfl ?_;refine VJ H ?_;refine⟨rfl,_,H,fun w H=>QS ?_⟩;generalize hLB:LR _ yl _ _ _ _ D2 .busy=LB at H ⊢;replace H:=Js [1,0] 0 H;refine Xh H ?_;refine Jc rfl rfl (cT p q s2 (by rw[hN.par,hC1.par];exact hT.nd) k g (VC Dl k e) hk2 (hgen k g e hk) hR2 H) ?_;clear H;rintro v w ⟨rfl,s3,hL3',H⟩;refine Q6 ?_;subst hLB;replace H:=Js [1,0,0] 0 H;exact⟨rfl,_,H,fun w H=>⟨rfl,hin _ _ _ _ (hN.step hk1 hL3') (hL3'.rk hR2) H⟩⟩
  ·clear H;rintro v w H;obtain⟨s2,hN,hR2,H⟩:=hout _ _ _ H;subst hL;refine⟨_,H,fun w H=>?_⟩;replace H:=Js [0,0,2,2,2,2] 2 H;exact⟨rfl,⟨D2,s2,rfl,hN,hR2,H⟩,rfl,rfl⟩
 clear H;rintro ms σ w ⟨⟨D2,s2,rfl,hN,hR2,H⟩,g2,g7⟩;rw[Q1 g2,Q1 g7]
 have hno:∀ x∈L,∀ (k g:Nat) (e:QQ),s2.tab[k]? = some ⟨g,some e⟩→e.region≠x:=by
  intro x hx k g e hk hr
  have hlt:k < s1.tab.length:=by
   have:=(List.getElem?_eq_some_iff.1 hk).1;rw[hN.tabl] at this;exact this
  have hlt':k < s.tab.length:=by rw[hC1.tabl] at hlt;exact hlt
  have h1:=hC1.tab k _ (getElem?_eq_getElem hlt');have h2:=hN.tab k _ h1;rw[hk] at h2;split at h2
  ·injection h2 with h2
   injection h2 with _ h2
   cases h2
  ·rename_i hkG;injection h2 with h2
   injection h2 with h3 h4
   cases he:(s.tab[k]).ent with
   | none=>rw[he] at h4;cases h4
   | some e0=>
    rw[he] at h4;injection h4 with h4
    refine hkG ((hG.2 k).2 ⟨(s.tab[k]).gen,e0,?_,?_⟩)
    ·rw[getElem?_eq_getElem hlt',← he]
    ·have h5:e.region=e0.region:=by rw[h4];rfl
     rw[← h5,hr];exact hx
 have hpar2:s2.par=s.par:=hN.par.trans hC1.par;refine YQ H ?_;refine Bs H ?_;refine Qm (fun ms σ w=>ms=[D2,D]∧∃ s3:CS,Kk s2 L s3∧σ 2=pp b2∧σ 7 = .slice aL L.length cL∧Q0 w (GJ p q s3::pts b2 (row 45 [pp p])::pts D2 (.deferred (some []))::pts D (.deferred (some []))::IL (.slice aL L.length cL) L::Qe q.trp s.last (L.foldl QB s.par)::fr)) ?_ ?_
 ·refine QS ?_;refine Qi (fun ms σ w z=>ms=[D2,D]∧∃ (i:Nat) (s3:CS),i≤L.length∧z=L.length - i∧Kk s2 (L.take i) s3∧σ 2=pp b2∧σ 7 = .slice aL L.length cL∧σ 100 = .slice aL L.length cL∧σ 101 = .int .i64 L.length∧σ 102 = .int .i64 i∧Q0 w (GJ p q s3::pts b2 (row 45 [pp p])::pts D2 (.deferred (some []))::pts D (.deferred (some []))::IL (.slice aL L.length cL) L::Qe q.trp s.last (L.foldl QB s.par)::fr)) (m:=L.length) ⟨rfl,0,s2,by omega,rfl,Kk.start s2,rfl,rfl,rfl,rfl,rfl,H⟩ ?_;clear H;rintro ms σ w z ⟨rfl,i,s3,hi,rfl,hE,g2,g7,g100,g101,g102,H⟩;rw[Q1 g2,Q1 g7,Q1 g100,Q1 g101,Q1 g102];refine J6 H ?_;refine Qh rfl (fun h=>QR ?_) (fun h=>Qj ?_)
  ·have hlt:i < L.length:=by omega
   have hx:=getElem?_eq_getElem hlt;have htk:L.take (i+1)=L.take i++[L[i]]:=by rw[take_add_one,hx];rfl
   have hnt:L[i]∉L.take i:=fun hh=>by
    obtain⟨j,hj⟩:=getElem?_of_mem hh;rw[getElem?_take] at hj;split at hj
    ·rename_i hji;obtain⟨hj1,hj2⟩:=List.getElem?_eq_some_iff.1 hj;exact(pairwise_iff_getElem.1 hLnd) j i hj1 hlt hji hj2
    ·cases hj
   have hxL:=getElem_mem hlt;have hxm:=hLm _ hxL;generalize L[i]=x at hx htk hnt hxm hxL;replace H:=Js [4,0,0,0,0] 0 H;obtain⟨bT,sT,rfl,H,hcl⟩:=Qw H (by omega);refine Y9 H ?_;refine Jd ?_;refine Q5 rfl (QW H rfl (by simpa using U4 hx) rfl ?_);refine J0 H ?_;replace H:=hcl _ _ H;replace H:=Js [1,0] 0 H;obtain⟨mem3,hw3,hm3,H⟩:=Cf H;have hnd3:(s3.par.map (·.1)).Nodup:=by rw[hE.par];exact FR _ (by rw[hpar2];exact hT.nd)
   have hxp:x∈s3.par.map (·.1):=by
    rw[hE.par];refine OE hnt ?_;rw[hpar2,← hw.mkeys];exact hxm
   obtain⟨b0,hkS⟩:=KT (l:=s3.sps) (f:=fun x=>x.1) (g:=fun x=>x.2.1) (k:=x) (by rw[hw3.skeys];exact hxp);obtain⟨⟨r1,b0',SP⟩,p1,p2,hsps,hs1,hs2⟩:=KS hkS;obtain rfl:r1=x:=hs1;obtain rfl:b0'=b0:=hs2;obtain⟨b1,hkM⟩:=KT (l:=s3.mns) (f:=fun x=>x.1) (g:=fun x=>x.2.1) (k:=r1) (by rw[hw3.mkeys];exact hxp);obtain⟨⟨r2,b1',M⟩,m1,m2,hmns,hs3,hs4⟩:=KS hkM;obtain rfl:r2=r1:=hs3;obtain rfl:b1'=b1:=hs4;have hkS':Q8 (s3.sps.map VN) r2=some b0':=hkS;have hSx:(r2,b0',SP)∈s3.sps:=by rw[hsps];simp
   obtain⟨hp1,hp2,hp3,hp4,hp5,hp6⟩:=Aj hw3 hSx;replace H:=Js [11,0,7,7,3,6,6,0,0,0,0,0,0] 0 H;replace H:=Js [1,0,6,6,2,5,6,0,0,0,0,0,0] 0 H;refine Xj H ?_;refine Q5 rfl (Zv (key:=r2) H rfl rfl VL rfl ?_);rw[hkS'];replace H:=Js [6,3,0,0,0,0,0,0,0,0,0,0,0] 0 H;replace H:Q0 w (Ql b0' q.sp r2.toNat SP::star ((p1++p2).map (VO q.sp))::_):=(Q0.pick (R:=VO q.sp) (x:=(r2,b0',SP)) hsps).1 H;replace H:=Js [0,1,0] 0 H;refine Jc rfl rfl (Ng b0' q.sp r2.toNat SP s3.size mem3 s3.own hp2 hp4 hp5 hp1 hp3 hw3.own.2 hw3.size.2 hp6 H) ?_;clear H;rintro v w ⟨rfl,own',hol,hog,H⟩;refine Q6 ?_;replace H:=Js [8,0,0,0,0,0,0,0,0] 0 H;replace H:Q0 w (Qs b1' M::star ((m1++m2).map VX)::_):=(Q0.pick (R:=VX) (x:=(r2,b1',M)) hmns).1 H;replace H:=H.drop;replace H:=Js [4,3,0,0,0,0,0,0,0,0,0,0,0] 0 H;refine Xj H ?_;refine Q5 rfl (XL (key:=r2) H rfl rfl VL rfl ?_);clear H;intro w H;refine Q6 ?_;refine Xj H ?_;refine Q5 rfl (XL (key:=r2) H rfl rfl VL rfl ?_);clear H;intro w H;refine UX H ?_
   have hkeyS:QB (s3.sps.map VN) r2=(p1++p2).map VN:=by
    have h1:=hnd3;rw[← hw3.skeys,hsps] at h1;rw[hsps,map_append,map_cons,map_append];exact WX (p:=(r2,b0')) (by rw[map_append,map_cons] at h1 ⊢;rw[map_map,map_map];exact h1)
   have hkeyM:QB (s3.mns.map V2) r2=(m1++m2).map V2:=by
    have h1:=hnd3;rw[← hw3.mkeys,hmns] at h1;rw[hmns,map_append,map_cons,map_append];exact WX (p:=(r2,b1')) (by rw[map_append,map_cons] at h1 ⊢;rw[map_map,map_map];exact h1)
   rw[hkeyS,hkeyM] at H;replace H:=Js [1,10,4,2,3,3,6,2,2,1,0,1,1,0] 0 H;have hwE:=dZ hw3 hnd3 (fun k g e hk=>hno r2 hxL k g e (by rw[← hE.tab];exact hk)) hsps hmns (own':=own') ⟨hol,hog⟩;have hmE:=dG (s':={ s3 with own:=own',par:=QB s3.par r2,sps:=p1++p2,mns:=m1++m2 }) hm3 hol rfl rfl;replace H:=Cg hwE hmE H
   exact⟨_,⟨rfl,i+1,{ s3 with own:=own',par:=QB s3.par r2,sps:=p1++p2,mns:=m1++m2 },hlt,rfl,by rw[htk];exact hE.step r2 hol _ _ (hog:=fK hog (hw3.spc _ hSx).owned) (fun y hy hn=>by
    rw[hsps] at hy
    rcases mem_append.1 hy with h1|h1
    ·exact mem_append.2 (.inl h1)
    ·rcases mem_cons.1 h1 with h1|h1
     ·exact absurd (by rw[h1]) hn
     ·exact mem_append.2 (.inr h1)),rfl,rfl,rfl,rfl,Qa (by omega),H⟩,by omega⟩
  ·have hge:i=L.length:=by omega
   subst hge;rw[take_length] at hE;exact⟨rfl,rfl,s3,hE,rfl,rfl,H⟩
 clear H;rintro ms σ w ⟨rfl,s3,hE,g2,g7,H⟩;rw[Q1 g2,Q1 g7];refine VG H ?_;replace H:=Js [2,2,0,2,1] 1 H;have hpar3:s3.par=L.foldl QB s.par:=by rw[hE.par,hpar2]
 have hlast3:s3.last=s.last:=by rw[hE.last,hN.last,hC1.last]
 rw[← hpar3,← hlast3] at H;exact Q3 (Sh (ms:=[D2,D]) _ (.inr rfl) (Q0.star.2 H) (fun w' H' => .tmp (.tmp .nil)) fun w' H'=>⟨_,L,s3,rfl,hLnd,hL2,hL3,hL4,⟨G,Dl,s1,s2,hG,hC1,hD1,hN,hE⟩,(cP H').swap⟩)
end Go.Proofs.YtbnnnljagkjpiaaGreatDoor
