/- Cells: what is proved on the way: every input of the statement; no condition. Texts joined: CelR BumA ImgA ImgB ImgC ImgD SrtI BagA RmC RmD RmE KidA. -/
import Derived.Test.YtmjdnljneifpcaaGreatDoorBfg
import Derived.Test.YtmjdnljneifpcaaGreatDoorBfe
import Derived.Test.YtmjdnljneifpcaaGreatDoorBfc
set_option linter.unusedVariables false
set_option linter.unusedSimpArgs false
namespace Go.Proofs.YtmjdnljneifpcaaGreatDoor
open List
theorem Un.chunk {size:Nat} (h1:1≤size) {own:List Nat} {e:Q9} (h:Un size own e) (c:Nat):(QT e≤c*size∨(c+1)*size≤e.addr)∨∃ r:Nat,own[c]? = some r∧(r:Int)=e.region∧1≤r:=by
 by_cases ha:c < e.addr / size
 ·left;right;have:=(Nat.le_div_iff_mul_le (by omega)).1 (Nat.succ_le_of_lt ha);exact this
 ·by_cases hb:(e.addr+e.ws.length) / size < c
  ·left;left;have:=(Nat.div_lt_iff_lt_mul (by omega)).1 hb;unfold QT;omega
  ·right;exact h.2 c (by omega) (by omega)
inductive KT (size:Nat) (own mem:List Nat) (r:Nat) (S:QP) (n:Nat):List Nat→List Nat→QP→Nat→Prop where
 | room (h:n≤S.fin - S.at'):KT size own mem r S n own mem { S with at':=S.at'+n } S.at'
 | one {a:Nat} (ha:a+1≤own.length) (hf:own[a]? = some 0) (hn:n≤size):KT size own mem r S n (Vc own a 1 r) (Vc mem (a*size) (1*size) 0) ⟨S.parts++[(a,1)],a*size+n,(a+1)*size⟩ (a*size)
 | run {a k:Nat} (hk:2≤k) (ha:a+k≤own.length) (hf:∀ c,a≤c→c < a+k→own[c]? = some 0) (hn:n≤k*size) (Gv:(k - 1)*size < n):KT size own mem r S n (Vc own a k r) (Vc mem (a*size) (k*size) 0) ⟨S.parts++[(a,k)],S.at',S.fin⟩ (a*size)
theorem Xc (a b:List (Nat×Nat)):QR (a++b)=QR a++QR b:=by simp[QR]
theorem AU (a k:Nat):QR [(a,k)]=(List.range k).map (a+·):=by simp[QR]
theorem Xd {a k c:Nat}:c∈(List.range k).map (a+·)↔a≤c∧c < a+k:=by
 simp only[mem_map,mem_range];constructor
 ·rintro⟨i,h,rfl⟩;omega
 ·rintro⟨h1,h2⟩;exact⟨c - a,by omega,by omega⟩
theorem Sx (a k:Nat):((List.range k).map (a+·)).Nodup:=by
 refine List.Pairwise.map _ (fun x y h=>?_) nodup_range;omega
theorem gC {size:Nat} {own:List Nat} {a k r:Nat} (ha:a+k≤own.length) (hf:∀ c,a≤c→c < a+k→own[c]? = some 0) {e:Q9} (h:Un size own e):Un size (Vc own a k r) e:=by
 refine⟨by rw[Yi ha];exact h.1,fun c h1 h2=>?_⟩;obtain⟨q,hq,hr,h1⟩:=h.2 c h1 h2;rw[Ul ha,if_neg]
 ·exact⟨q,hq,hr,h1⟩
 ·rintro⟨h2,h3⟩;rw[hf c h2 h3] at hq;cases hq;omega
theorem gD {size:Nat} {own:List Nat} {a k r:Nat} (ha:a+k≤own.length) (hf:∀ c,a≤c→c < a+k→own[c]? = some 0) {q:Int} {S:QP} (hq:q≠r) (h:Xb size own q S):Xb size (Vc own a k r) q S:=by
 refine⟨h.at1,h.fin,by rw[Yi ha];exact h.parts,h.nodup,fun c=>?_⟩;rw[h.owned,Ul ha];by_cases hc:a≤c∧c < a+k
 ·rw[if_pos hc,hf c hc.1 hc.2];constructor
  ·rintro⟨x,h1,_,h3⟩;cases h1;omega
  ·rintro⟨x,h1,h2,_⟩;cases h1;omega
 ·rw[if_neg hc]
theorem gE {size:Nat} {own:List Nat} {a k r:Nat} (ha:a+k≤own.length) (hf:∀ c,a≤c→c < a+k→own[c]? = some 0) (hk:1≤k) (hr:1≤r) {S:QP} (h:Xb size own r S) {x y:Nat}
  (h1:x≤y) (h2:y≠0→∃ c,y=(c+1)*size∧c*size < x∧(c,1)∈S.parts++[(a,k)]):Xb size (Vc own a k r) r ⟨S.parts++[(a,k)],x,y⟩:=by
 refine⟨h1,h2,?_,?_,fun c=>?_⟩
 ·intro p hp;rw[Yi ha]
  rcases mem_append.1 hp with hp|hp
  ·exact h.parts p hp
  ·simp at hp;subst hp;exact⟨hk,ha⟩
 ·show (QR (S.parts++[(a,k)])).Nodup;rw[Xc,AU,nodup_append];refine⟨h.nodup,Sx a k,fun c hc d hd=>?_⟩;rintro rfl;obtain⟨q,h1,_,h3⟩:=(h.owned c).1 hc;have h4:=Xd.1 hd;rw[hf c h4.1 h4.2] at h1;cases h1;omega
 ·show c∈QR (S.parts++[(a,k)])↔_;rw[Xc,AU,mem_append,Xd,h.owned,Ul ha];by_cases hc:a≤c∧c < a+k
  ·rw[if_pos hc];constructor
   ·intro _;exact⟨r,rfl,rfl,by omega⟩
   ·intro _;exact .inr hc
  ·rw[if_neg hc];constructor
   ·rintro(h|h)
    ·exact h
    ·exact absurd h hc
   ·intro h;exact .inl h
theorem Rt {α:Type} {a b:List α} {x y:α} (h:x∈a++b):x∈a++y::b:=by
 rcases mem_append.1 h with h|h
 ·exact mem_append.2 (.inl h)
 ·exact mem_append.2 (.inr (mem_cons_of_mem _ h))
theorem XQ {α:Type} {a b:List α} {x y:α} (h:x∈a++y::b):x=y∨x∈a++b:=by
 rcases mem_append.1 h with h|h
 ·exact .inr (mem_append.2 (.inl h))
 ·rcases mem_cons.1 h with h|h
  ·exact .inl h
  ·exact .inr (mem_append.2 (.inr h))
theorem JE {K V:Type} {g1 g2:List (K×V)} {x x':K×V} (h:x'.1=x.1):(g1++x'::g2).map (·.1)=(g1++x::g2).map (·.1):=by simp[h]
theorem qD {s:CS} (h:WF s) {i g0:Nat} (hi:s.tab[i]? = some ⟨g0,none⟩) (hg:g0≤254) {r:Nat} {q q2:Nat} {S:QP} {L:List Nat} {p1 p2:List (Int×Nat×QP)} {m1 m2:List (Int×Nat×List Nat)}
  (hs:s.sps=p1++((r:Int),q,S)::p2) (hm:s.mns=m1++((r:Int),q2,L)::m2) (QN:(s.par.map (·.1)).Nodup) {e:Q9} (Gx:e.region=r) (ok:Rs s.lays i e) {own' mem mem':List Nat} {S':QP}
  (al:KT s.size s.own mem r S (e.ws.length+1) own' mem' S' e.addr) {L':List Nat} (hL:L'.Pairwise (· < ·)) (AX:∀ j,j∈L'↔j=i∨j∈L) :
  WF { s with own:=own',tab:=s.tab.set i ⟨g0+1,some e⟩,sps:=p1++((r:Int),q,S')::p2,mns:=m1++((r:Int),q2,L')::m2 }:=by
 have Vn:=h.size.1;have UN:i < s.tab.length:=(List.getElem?_eq_some_iff.1 hi).1;have hS:Xb s.size s.own r S:=h.spc ((r:Int),q,S) (by rw[hs];simp)
 have XV:∃ y,((r:Int),y)∈s.par:=by
  have:(r:Int)∈s.par.map (·.1):=by rw[← h.skeys,hs];simp
  obtain⟨⟨a,b⟩,K2,rfl⟩:=mem_map.1 this;exact⟨b,K2⟩
 have ZG:1≤r:=by obtain⟨y,hy⟩:=XV;have:=(h.par.2.2 _ _ hy).1;omega
 have WE:((p1++((r:Int),q,S)::p2).map (·.1)).Nodup:=by rw[← hs,h.skeys];exact QN
 have AK:∀ x∈p1++p2,x∈s.sps∧x.1≠(r:Int):=by
  intro x hx;refine⟨by rw[hs];exact Rt hx,fun UO=>?_⟩;rw[map_append,map_cons,nodup_append] at WE;obtain⟨_,h2,h3⟩:=WE
  rcases mem_append.1 hx with hx|hx
  ·exact h3 x.1 (mem_map.2 ⟨x,hx,rfl⟩) (r:Int) (by simp) UO
  ·rw[nodup_cons] at h2;exact h2.1 (mem_map.2 ⟨x,hx,UO⟩)
 have VR:∀ x,x∈p1++((r:Int),q,S')::p2→x=((r:Int),q,S')∨x∈p1++p2:=by
  exact fun x hx=>XQ hx
 have key:own'.length=s.own.length∧Un s.size own' e∧(∀ f,Un s.size s.own f→Un s.size own' f)∧Xb s.size own' r S'∧(∀ x∈p1++p2,Xb s.size own' x.1 x.2.2) ∧
   (∀ (j g:Nat) (f:Q9),s.tab[j]? = some ⟨g,some f⟩→(QT f≤e.addr∨QT e≤f.addr)∧(QT f≤S'.at'∨S'.fin≤f.addr))∧(QT e≤S'.at'∨S'.fin≤e.addr)∧(∀ (c x:Nat),own'[c]? = some x→x≠0→x=r∨s.own[c]? = some x):=by
  generalize hea:e.addr=ad at al;cases al with
  | room hn=>
   have AR:S.fin≠0:=by omega
   obtain⟨c,Zs,UM,R6⟩:=hS.fin AR
   have BR:c∈QR S.parts:=by
    unfold QR;rw[mem_flatMap];exact⟨(c,1),R6,by simp⟩
   obtain⟨y,GH,Ka,Fv⟩:=(hS.owned c).1 BR;have GC:=hS.at1;have e1:e.addr / s.size=c:=by rw[hea];exact Nat.div_eq_of_lt_le (by omega) (by rw[← Zs];omega)
   have e2:(e.addr+e.ws.length) / s.size=c:=by rw[hea];exact Nat.div_eq_of_lt_le (by omega) (by rw[← Zs];omega)
   have QJ:c < s.own.length:=(List.getElem?_eq_some_iff.1 GH).1;have VS:(c+1)*s.size≤s.own.length*s.size:=Nat.mul_le_mul_right _ QJ;refine⟨rfl,⟨by unfold QT;omega,fun d h1 h2=>?_⟩,fun _ hf=>hf,⟨by show S.at'+_≤S.fin;omega,fun _=>⟨c,Zs,by show c*s.size < S.at'+_;omega,R6⟩,hS.parts,hS.nodup,hS.owned⟩,fun x hx=>h.spc x (AK x hx).1,fun j g f hj=>?_,.inl ?_,fun _ _ h1 _ => .inr h1⟩
   ·have:d=c:=by omega
    subst this;exact⟨y,GH,by rw[Ka,Gx],by omega⟩
   ·have:QT f≤S.at'∨S.fin≤f.addr:=h.free ((r:Int),q,S) (by rw[hs];simp) _ _ _ hj;have JF:QT e=S.at'+(e.ws.length+1):=by unfold QT;omega
    rw[JF];constructor
    ·rcases this with h1|h1
     ·left;exact h1
     ·right;show S.at'+_≤f.addr;omega
    ·rcases this with h1|h1
     ·left;show QT f≤S.at'+_;omega
     ·right;exact h1
   ·show QT e≤S.at'+_;unfold QT;omega
  | @one a ha hf hn=>
   have Zg:∀ c,a≤c→c < a+1→s.own[c]? = some 0:=fun c h1 h2=>by rw[show c=a by omega];exact hf
   have Va:(a+1)*s.size=a*s.size+s.size:=Nat.succ_mul _ _;have VS:(a+1)*s.size≤s.own.length*s.size:=Nat.mul_le_mul_right _ ha;have e1:e.addr / s.size=a:=by rw[hea];exact Nat.mul_div_cancel _ (by omega)
   have e2:(e.addr+e.ws.length) / s.size=a:=by rw[hea];exact Nat.div_eq_of_lt_le (by omega) (by omega)
   have BE:∀ (j g:Nat) (f:Q9),s.tab[j]? = some ⟨g,some f⟩→QT f≤a*s.size∨(a+1)*s.size≤f.addr:=fun j g f hj=>by
    rcases (h.obj _ _ _ hj).2.1.chunk Vn a with h1|⟨x,h1,_,h3⟩
    ·exact h1
    ·rw[hf] at h1;cases h1;omega
   refine⟨Yi ha,⟨by rw[Yi ha];unfold QT;omega,fun d h1 h2=>?_⟩,fun f hl=>gC ha Zg hl,?_,fun x hx=>gD ha Zg (AK x hx).2 (h.spc x (AK x hx).1),fun j g f hj=>?_,.inl ?_,fun c x h1 h2=>?_⟩
   ·have:d=a:=by omega
    subst this;rw[Ul ha,if_pos (by omega)];exact⟨r,rfl,Gx.symm,ZG⟩
   ·exact gE ha Zg (by omega) ZG hS (by omega) (fun _=>⟨a,rfl,by omega,by simp⟩)
   ·have:=BE j g f hj;have JF:QT e=a*s.size+(e.ws.length+1):=by unfold QT;omega
    rw[JF];constructor
    ·rcases this with h1|h1
     ·left;exact h1
     ·right;omega
    ·rcases this with h1|h1
     ·left;show QT f≤a*s.size+_;omega
     ·right;exact h1
   ·show QT e≤a*s.size+_;unfold QT;omega
   ·rw[Ul ha] at h1;split at h1
    ·cases h1;exact .inl rfl
    ·exact .inr h1
  | @run a k hk ha hf hn Gv=>
   have Va:(a+k)*s.size=a*s.size+k*s.size:=Nat.add_mul _ _ _;have qE:(k - 1+1)*s.size=(k - 1)*s.size+s.size:=Nat.succ_mul _ _;rw[show k - 1+1=k by omega] at qE;have VS:(a+k)*s.size≤s.own.length*s.size:=Nat.mul_le_mul_right _ ha;have e1:e.addr / s.size=a:=by rw[hea];exact Nat.mul_div_cancel _ (by omega)
   have e2:(e.addr+e.ws.length) / s.size < a+k:=by rw[hea,Nat.div_lt_iff_lt_mul (by omega)];omega
   have BE:∀ c,a≤c→c < a+k→∀ (j g:Nat) (f:Q9),s.tab[j]? = some ⟨g,some f⟩→QT f≤c*s.size∨(c+1)*s.size≤f.addr:=fun c Zs UM j g f hj=>by
    rcases (h.obj _ _ _ hj).2.1.chunk Vn c with h1|⟨x,h1,_,h3⟩
    ·exact h1
    ·rw[hf c Zs UM] at h1;cases h1;omega
   have qF:∀ (j g:Nat) (f:Q9),s.tab[j]? = some ⟨g,some f⟩→QT f≤a*s.size∨(a+k)*s.size≤f.addr:=fun j g f hj=>by
    have Sv:f.addr+1≤QT f:=by unfold QT;omega
    by_cases h0:QT f≤a*s.size
    ·exact .inl h0
    ·refine .inr ?_
     have:∀ m,m < k→(a+m+1)*s.size≤f.addr:=by
      intro m
      induction m with
      | zero=>
       intro _
       rcases BE a (by omega) (by omega) j g f hj with h1|h1
       ·exact absurd h1 h0
       ·exact h1
      | succ m ih=>
       intro hm;have h2:=ih (by omega)
       rcases BE (a+(m+1)) (by omega) (by omega) j g f hj with h1|h1
       ·rw[show a+(m+1)=a+m+1 by omega] at h1;omega
       ·exact h1
     have:=this (k - 1) (by omega);rw[show a+(k - 1)+1=a+k by omega] at this;exact this
   refine⟨Yi ha,⟨by rw[Yi ha];unfold QT;omega,fun d h1 h2=>?_⟩,fun f hl=>gC ha hf hl,?_,fun x hx=>gD ha hf (AK x hx).2 (h.spc x (AK x hx).1),fun j g f hj=>?_,?_,fun c x h1 h2=>?_⟩
   ·rw[Ul ha,if_pos (by omega)];exact⟨r,rfl,Gx.symm,ZG⟩
   ·refine gE ha hf (by omega) ZG hS hS.at1 (fun h0=>?_);obtain⟨c,h1,h2,h3⟩:=hS.fin h0;exact⟨c,h1,h2,by simp[h3]⟩
   ·have:=qF j g f hj;have JF:QT e=a*s.size+(e.ws.length+1):=by unfold QT;omega
    rw[JF];refine⟨?_,h.free ((r:Int),q,S) (by rw[hs];simp) _ _ _ hj⟩
    rcases this with h1|h1
    ·left;exact h1
    ·right;omega
   ·show QT e≤S.at'∨S.fin≤a*s.size;by_cases h0:S.fin=0
    ·right;omega
    obtain⟨c,Zs,UM,R6⟩:=hS.fin h0
    have BR:c∈QR S.parts:=by
     unfold QR;rw[mem_flatMap];exact⟨(c,1),R6,by simp⟩
    obtain⟨y,GH,Ka,Fv⟩:=(hS.owned c).1 BR;by_cases Sy:c < a
    ·right;have:(c+1)*s.size≤a*s.size:=Nat.mul_le_mul_right _ Sy;omega
    ·by_cases YL:c < a+k
     ·rw[hf c (by omega) YL] at GH;cases GH;omega
     ·left;have:(a+k)*s.size≤c*s.size:=Nat.mul_le_mul_right _ (by omega);unfold QT;omega
   ·rw[Ul ha] at h1;split at h1
    ·cases h1;exact .inl rfl
    ·exact .inr h1
 obtain⟨k1,k2,k3,k4,k5,k6,k7,k8⟩:=key;have qH:(p1++((r:Int),q,S')::p2).map (·.1)=s.par.map (·.1):=by rw[← h.skeys,hs];exact JE rfl
 have Sz:(m1++((r:Int),q2,L')::m2).map (·.1)=s.par.map (·.1):=by rw[← h.mkeys,hm];exact JE rfl
 have JH:((m1++((r:Int),q2,L)::m2).map (·.1)).Nodup:=by rw[← hm,h.mkeys];exact QN
 refine⟨h.size,by show 1≤own'.length∧own'.length≤63;rw[k1];exact h.own,by show 1≤(s.tab.set _ _).length∧(s.tab.set _ _).length≤63;rw[length_set];exact h.slots,h.lays,?_,?_,?_,h.par,qH,Sz,?_,?_,?_,?_⟩
 ·intro j t hj
  rcases VE hj with ⟨rfl,rfl,_⟩|⟨_,hj⟩
  ·exact⟨by show g0+1≤255;omega,fun _=>by show 1≤g0+1;omega⟩
  ·exact h.gen _ _ hj
 ·intro j g f hj
  rcases VE hj with ⟨rfl,ht,_⟩|⟨_,hj⟩
  ·injection ht with h1 h2
   injection h2 with h2
   subst h2;exact⟨ok,k2,by rw[Gx];exact XV⟩
  ·obtain⟨o1,o2,o3⟩:=h.obj _ _ _ hj;exact⟨o1,k3 _ o2,o3⟩
 ·intro j k m n f f' QA hj hk
  rcases VE hj with ⟨rfl,ht,_⟩|⟨Yg,G4⟩ <;> rcases VE hk with ⟨rfl,hu,_⟩|⟨Pa,Yb⟩
  ·exact absurd rfl QA
  ·injection ht with h1 h2
   injection h2 with h2
   subst h2;exact(k6 _ _ _ Yb).1.symm
  ·injection hu with h1 h2
   injection h2 with h2
   subst h2;exact(k6 _ _ _ G4).1
  ·exact h.apart _ _ _ _ _ _ QA G4 Yb
 ·intro x hx
  rcases VR x hx with rfl|hx
  ·exact k4
  ·exact k5 x hx
 ·intro x hx j g f hj
  rcases VE hj with ⟨rfl,ht,_⟩|⟨_,hj⟩
  ·injection ht with h1 h2
   injection h2 with h2
   subst h2
   rcases VR x hx with rfl|hx
   ·exact k7
   ·have QK:=k5 x hx;by_cases h0:x.2.2.fin=0
    ·right;omega
    obtain⟨c,Zs,UM,R6⟩:=QK.fin h0
    have BR:c∈QR x.2.2.parts:=by
     unfold QR;rw[mem_flatMap];exact⟨(c,1),R6,by simp⟩
    obtain⟨y,GH,Ka,Fv⟩:=(QK.owned c).1 BR;have GC:=QK.at1
    rcases k2.chunk Vn c with (h1|h1)|⟨z,BF,JI,qI⟩
    ·left;omega
    ·right;omega
    ·exact absurd (show x.1=(r:Int) by rw[GH] at BF;cases BF;rw[← Ka,JI,Gx]) (AK x hx).2
  ·rcases VR x hx with rfl|hx
   ·exact(k6 _ _ _ hj).2
   ·exact h.free x (AK x hx).1 _ _ _ hj
 ·intro c x hc h0
  rcases k8 c x hc h0 with rfl|h1
  ·exact XV
  ·exact h.live c x h1 h0
 ·intro x hx
  have V9:x=((r:Int),q2,L')∨(x∈s.mns∧x.1≠(r:Int)):=by
   have Z9:x=((r:Int),q2,L')∨x∈m1++m2:=by
    exact XQ hx
   rcases Z9 with h1|h1
   ·exact .inl h1
   ·refine .inr ⟨by rw[hm];exact Rt h1,fun UO=>?_⟩;rw[map_append,map_cons,nodup_append] at JH;obtain⟨_,h2,h3⟩:=JH
    rcases mem_append.1 h1 with hx|hx
    ·exact h3 x.1 (mem_map.2 ⟨x,hx,rfl⟩) (r:Int) (by simp) UO
    ·rw[nodup_cons] at h2;exact h2.1 (mem_map.2 ⟨x,hx,UO⟩)
  rcases V9 with rfl|⟨hx,QA⟩
  ·refine⟨hL,fun j=>?_⟩;show j∈L'↔_;rw[AX,(h.mine ((r:Int),q2,L) (by rw[hm];simp)).2];constructor
   ·rintro(rfl|⟨g,f,h1,h2⟩)
    ·exact⟨g0+1,e,by show (s.tab.set _ _)[_]? = _;simp[UN],Gx⟩
    ·by_cases Yg:j=i
     ·subst Yg;rw[hi] at h1;cases h1
     ·exact⟨g,f,by show (s.tab.set _ _)[_]? = _;rw[getElem?_set_ne (fun q=>Yg q.symm)];exact h1,h2⟩
   ·rintro⟨g,f,h1,h2⟩
    rcases VE h1 with ⟨rfl,_,_⟩|⟨_,h1⟩
    ·exact .inl rfl
    ·exact .inr ⟨g,f,h1,h2⟩
  ·obtain⟨h1,h2⟩:=h.mine x hx;refine⟨h1,fun j=>?_⟩;rw[h2];constructor
   ·rintro⟨g,f,h3,h4⟩;by_cases Yg:j=i
    ·subst Yg;rw[hi] at h3;cases h3
    ·exact⟨g,f,by show (s.tab.set _ _)[_]? = _;rw[getElem?_set_ne (fun q=>Yg q.symm)];exact h3,h4⟩
   ·rintro⟨g,f,h3,h4⟩
    rcases VE h3 with ⟨rfl,ht,_⟩|⟨_,h3⟩
    ·injection ht with _ h5
     injection h5 with h5
     subst h5;exact absurd (h4.symm.trans Gx) QA
    ·exact⟨g,f,h3,h4⟩
theorem gF {s:CS} (h:WF s) {mem mem' own':List Nat} (hm:mem.length=s.own.length*s.size) {r n ad:Nat} {S S':QP} (al:KT s.size s.own mem r S n own' mem' S' ad) :
  mem'.length=mem.length∧∀ (j g:Nat) (f:Q9),s.tab[j]? = some ⟨g,some f⟩→∀ k,f.addr≤k→k < QT f→mem'[k]? = mem[k]?:=by
 have Vn:=h.size.1
 have off:∀ (a K:Nat),a+K≤s.own.length→(∀ c,a≤c→c < a+K→s.own[c]? = some 0)→(Vc mem (a*s.size) (K*s.size) 0).length=mem.length ∧
   ∀ (j g:Nat) (f:Q9),s.tab[j]? = some ⟨g,some f⟩→∀ k,f.addr≤k→k < QT f→(Vc mem (a*s.size) (K*s.size) 0)[k]? = mem[k]?:=by
  intro a K ha hf;have Va:(a+K)*s.size=a*s.size+K*s.size:=Nat.add_mul _ _ _;have VS:(a+K)*s.size≤s.own.length*s.size:=Nat.mul_le_mul_right _ ha;refine⟨Yi (by omega),fun j g f hj k h1 h2=>?_⟩;rw[Ul (by omega),if_neg];rintro⟨h3,h4⟩;unfold QT at h2;have c1:f.addr / s.size≤k / s.size:=Nat.div_le_div_right h1;have c2:k / s.size≤(f.addr+f.ws.length) / s.size:=Nat.div_le_div_right (by omega);obtain⟨q,hq,_,JJ⟩:=(h.obj _ _ _ hj).2.1.2 _ c1 c2;have c3:a≤k / s.size:=(Nat.le_div_iff_mul_le (by omega)).2 h3;have c4:k / s.size < a+K:=(Nat.div_lt_iff_lt_mul (by omega)).2 (by omega);rw[hf _ c3 c4] at hq;cases hq;omega
 cases al with
 | room _=>exact⟨rfl,fun _ _ _ _ _ _ _=>rfl⟩
 | @one a ha hf _=>exact off a 1 ha (fun c h1 h2=>by rw[show c=a by omega];exact hf)
 | @run a k _ ha hf _ _=>exact off a k ha hf
theorem qJ {s:CS} (h:WF s) {mem mem1 mem2 own':List Nat} (m:YY s mem) {r i g0:Nat} (hi:s.tab[i]? = some ⟨g0,none⟩) {S S':QP} {e:Q9} (al:KT s.size s.own mem r S (e.ws.length+1) own' mem1 S' e.addr)
  (hl:mem2.length=mem1.length) (ZC:own'.length=s.own.length) (hh:mem2[e.addr]? = some (X9 e.lay e.count i)) (hw:∀ (p w:Nat),e.ws[p]? = some w→mem2[e.addr+1+p]? = some w) (YB:∀ k,k < e.addr∨QT e≤k→mem2[k]? = mem1[k]?)
  (GN:∀ (j g:Nat) (f:Q9),s.tab[j]? = some ⟨g,some f⟩→QT f≤e.addr∨QT e≤f.addr) {s':CS} (h1:s'.own=own') (h2:s'.size=s.size) (h3:s'.tab=s.tab.set i ⟨g0+1,some e⟩):YY s' mem2:=by
 obtain⟨a1,a2⟩:=gF h m.len al
 have old:∀ (j g:Nat) (f:Q9),s.tab[j]? = some ⟨g,some f⟩→∀ k,f.addr≤k→k < QT f→mem2[k]? = mem[k]? := fun j g f hj k k1 k2=>by
  rw[← a2 j g f hj k k1 k2];refine YB k ?_
  rcases GN j g f hj with h|h
  ·left;omega
  ·right;omega
 refine⟨by rw[hl,a1,h1,h2,ZC];exact m.len,?_,?_⟩
 ·intro j g f hj;rw[h3] at hj
  rcases VE hj with ⟨rfl,ht,_⟩|⟨_,hj⟩
  ·injection ht with _ h5
   injection h5 with h5
   subst h5;exact hh
  ·rw[old j g f hj f.addr (Nat.le_refl _) (by unfold QT;omega)];exact m.head _ _ _ hj
 ·intro j g f hj p w hp;rw[h3] at hj
  rcases VE hj with ⟨rfl,ht,_⟩|⟨_,hj⟩
  ·injection ht with _ h5
   injection h5 with h5
   subst h5;exact hw p w hp
  ·have Kb:=(List.getElem?_eq_some_iff.1 hp).1;rw[old j g f hj _ (by omega) (by unfold QT;omega)];exact m.words _ _ _ hj p w hp
theorem qL {s:CS} (h:WF s) {parent:Int} {q q2:Nat} (hl:s.par.length < 64) (Gc:s.last+1 < 1000000) :
  WF { s with last:=s.last+1,par:=s.par++[(((s.last+1:Nat):Int),parent)],sps:=s.sps++[(((s.last+1:Nat):Int),q,⟨[],0,0⟩)],mns:=s.mns++[(((s.last+1:Nat):Int),q2,[])] }:=by
 have Zt:∀ r x,(r,x)∈s.par→r≠((s.last+1:Nat):Int):=fun r x hx=>by
  have:=(h.par.2.2 r x hx).2;omega
 refine⟨h.size,h.own,h.slots,h.lays,h.gen,fun i g e hi=>?_,h.apart,⟨by show (s.par++[_]).length≤64;simp;omega,Gc,?_⟩,?_,?_,?_,?_,fun c r hc h0=>?_,?_⟩
 ·obtain⟨a,b,y,hy⟩:=h.obj i g e hi;exact⟨a,b,y,mem_append.2 (.inl hy)⟩
 ·intro r x hx;have hx:(r,x)∈s.par++[_]:=hx;show 1≤r∧r≤((s.last+1:Nat):Int)
  rcases mem_append.1 hx with hx|hx
  ·have:=h.par.2.2 r x hx;omega
  ·simp at hx;omega
 ·have:=h.skeys;simp[this]
 ·have:=h.mkeys;simp[this]
 ·intro x hx
  rcases mem_append.1 (show x∈s.sps++[_] from hx) with hx|hx
  ·exact h.spc x hx
  ·simp at hx;subst hx;refine⟨Nat.le_refl _,fun h0=>absurd rfl h0,fun p hp=>(by cases hp),by simp[QR],fun c=>⟨fun hc=>by simp[QR] at hc,?_⟩⟩;rintro⟨y,h1,h2,h3⟩;obtain⟨z,hz⟩:=h.live c y h1 h3;exact absurd h2 (Zt _ _ hz)
 ·intro x hx i g e hi
  rcases mem_append.1 (show x∈s.sps++[_] from hx) with hx|hx
  ·exact h.free x hx i g e hi
  ·simp at hx;subst hx;exact .inr (Nat.zero_le _)
 ·obtain⟨y,hy⟩:=h.live c r hc h0;exact⟨y,mem_append.2 (.inl hy)⟩
 ·intro x hx
  rcases mem_append.1 (show x∈s.mns++[_] from hx) with hx|hx
  ·exact h.mine x hx
  ·simp at hx;subst hx;refine⟨by simp,fun i=>⟨fun hc=>by simp at hc,?_⟩⟩;rintro⟨g,e,h1,h2⟩;obtain⟨_,_,y,hy⟩:=h.obj _ _ _ h1;exact absurd h2 (Zt _ _ hy)
theorem qM {lays:List Qa} {i:Nat} {e:Q9} (h:Rs lays i e) (x:Qa):Rs (lays++[x]) i e:=by
 obtain⟨m,l,h1,h2⟩:=h;exact⟨m,l,by rw[getElem?_append_left (List.getElem?_eq_some_iff.1 h1).1];exact h1,h2⟩
theorem qN {s:CS} (h:WF s) {l:Qa} (hr:YK l) (hl:s.lays.length < 64):WF { s with lays:=s.lays++[l] }:=by
 refine⟨h.size,h.own,h.slots,⟨by show (s.lays++[l]).length≤64;simp;omega,fun x hx=>?_⟩,h.gen,fun i g e hi=>?_,h.apart,h.par,h.skeys,h.mkeys,h.spc,h.free,h.live,h.mine⟩
 ·rcases mem_append.1 hx with hx|hx
  ·exact h.lays.2 x hx
  ·simp at hx;subst hx;exact hr
 ·obtain⟨a,b⟩:=h.obj i g e hi;exact⟨qM a l,b⟩
theorem Fw {s:CS} (h:WF s) (m:List ((Int×Int)×Int)):WF { s with rem:=m }:=⟨h.size,h.own,h.slots,h.lays,h.gen,h.obj,h.apart,h.par,h.skeys,h.mkeys,h.spc,h.free,h.live,h.mine⟩
theorem O3 {s:CS} {mem:List Nat} (h:YY s mem) (m:List ((Int×Int)×Int)):YY { s with rem:=m } mem:=⟨h.len,h.head,h.words⟩
end Go.Proofs.YtmjdnljneifpcaaGreatDoor
set_option linter.unusedSectionVars false
namespace Go.Proofs.YtmjdnljneifpcaaGreatDoor
open List
open Go.SL
@[reducible] def YD (q:Nat×Nat):List Value:=[.int .i64 q.1,.int .i64 q.2]
theorem WH (q:Nat×Nat):(YD q).length=2:=rfl
def V1 (p sp owner:Nat) (S:QP):Q2:=ex fun v:Value=>star [pts p (row 206 [pp sp,.int .i64 owner,v,.int .i64 S.at',.int .i64 S.fin]),QF 208 2 v (S.parts.flatMap YD)]
theorem XY [Q4] {w:World} {p sp owner:Nat} {S:QP} {l:List Q2} (H:Q0 w (V1 p sp owner S::l)):∃ a c,Q0 w (pts p (row 206 [pp sp,.int .i64 owner,.slice a S.parts.length c,.int .i64 S.at',.int .i64 S.fin])::QF 208 2 (.slice a S.parts.length c) (S.parts.flatMap YD)::l):=by
 obtain⟨v,H⟩:=Q0.ex.1 H;have H:=Q0.star.1 H;obtain⟨a,c,rfl⟩:=QI H.drop (Xx WH _) (by decide);exact⟨a,c,H⟩
theorem Gg [Q4] {w:World} {p sp owner:Nat} {S:QP} {l:List Q2} {v:Value} (H:Q0 w (pts p (row 206 [pp sp,.int .i64 owner,v,.int .i64 S.at',.int .i64 S.fin])::QF 208 2 v (S.parts.flatMap YD)::l)):Q0 w (V1 p sp owner S::l):=
 Q0.ex.2 ⟨v,Q0.star.2 H⟩
theorem T0 [Q4] (sp owner:Nat) (ho:1≤owner) {w:World} {fr:List Q2} (H:Q0 w fr) :
  Calls Tryz.prog 67 #[pp sp,.int .i64 owner] w (ret fun v w'=>∃ p,v = .tuple #[pp p,.int .i64 0]∧Q0 w' (V1 p sp owner ⟨[],0,0⟩::fr)):=by
 refine QQ Tryz.func67 rfl (by kernel_rfl) ?_;refine IJ H ?_;refine Z0 (fun ms σ w=>ms=[]∧σ 0=pp sp∧σ 1 = .int .i64 owner∧Q0 w fr) ?_ ?_
 ·refine CZ H ?_;refine Vj H ?_;rw[show decide ((owner:Int) < 1)=false from decide_eq_false (by omega)];refine Vk H ?_;exact .inl ⟨rfl,rfl,rfl,rfl,H⟩
 ·rintro ms σ w ⟨rfl,g0,g1,H⟩;rw[Q1 g0,Q1 g1];refine J9 H ?_;refine WG H ?_;intro b15 w H;refine J4 H ?_;have H:=(GK (E:=208) (k:=2) H).swap;exact Q3 (Jy H rfl fun w' H'=>⟨_,rfl,Gg (S:=⟨[],0,0⟩) H'⟩)
theorem qO [Q4] (p sp owner:Nat) (S:QP) (h1:S.at'≤S.fin) (h2:S.fin≤1048576) {w:World} {fr:List Q2} (H:Q0 w (V1 p sp owner S::fr)) :
  Calls Tryz.prog 133 #[pp p] w (ret fun v w'=>v = .int .i64 ((S.fin - S.at':Nat):Int)∧Q0 w' (V1 p sp owner S::fr)):=by
 obtain⟨a,c,H⟩:=XY H;refine QQ Tryz.func133 rfl (by kernel_rfl) ?_;refine Mk H ?_;intro w H;refine WX H ?_;refine N8 H ?_;refine Ja 8 ?_;refine Ja 9 ?_;refine Jx H ?_;refine Q3 (Jy (Gg H) rfl fun w' H'=>⟨?_,H'⟩);show Value.int .i64 (IntKind.i64.wrap ((S.fin:Int) - (S.at':Int)))=_;rw[Qh (by omega) (by omega)];congr 1;omega
theorem gH [Q4] (p sp owner size n:Nat) (S:QP) (mem own:List Nat) (ho:1≤owner) (K3:1≤n) (Gv:n≤100000) (h1:S.at'≤S.fin) (h2:S.fin≤1048576) (Xa:own.length≤63) (Vn:1≤size) (Yp:size≤1024) (hp:S.parts.length≤1000) {w:World} {fr:List Q2} [hT:Z5 0 Lib.deBruijn64tab fr]
  (H:Q0 w (V1 p sp owner S::ST sp size mem own::fr)) :
  Calls Tryz.prog 70 #[pp p,.int .i64 n] w (ret fun v w'=>(∃ a own' mem' S',v = .tuple #[.int .i64 ((a:Nat):Int),.int .i64 0]∧KT size own mem owner S n own' mem' S' a∧Q0 w' (V1 p sp owner S'::ST sp size mem' own'::fr)) ∨
   (v = .tuple #[.int .i64 0,.int .i64 11]∧(∀ a,a+((n - 1) / size+1)≤own.length→∃ i,a≤i∧i < a+((n - 1) / size+1)∧own.getD i 0≠0)∧Q0 w' (V1 p sp owner S::ST sp size mem own::fr))):=by
 refine QQ Tryz.func70 rfl (by kernel_rfl) ?_;refine IJ H ?_;refine Z0 (fun ms σ w=>ms=[]∧σ 0=pp p∧σ 1 = .int .i64 n∧Q0 w (V1 p sp owner S::ST sp size mem own::fr)) ?_ ?_
 ·refine CZ H ?_;refine Vj H ?_;rw[show decide ((n:Int) < 1)=false from decide_eq_false (by omega)];refine FF H ?_;refine J9 H ?_;refine Jc rfl rfl (qO p sp owner S h1 h2 H) ?_;rintro v w ⟨rfl,H⟩;refine J4 H ?_;by_cases hr:n≤S.fin - S.at'
  ·rw[show decide ((n:Int)≤((S.fin - S.at':Nat):Int))=true from decide_eq_true (by omega)];refine Vt H ?_;obtain⟨a,c,H⟩:=XY H;refine X6 H ?_;rw[Qh (x:=(S.at':Int)+(n:Int)) (by omega) (by omega),show (S.at':Int)+(n:Int)=((S.at'+n:Nat):Int) by omega];refine XO H ?_;intro w H;refine J2 H ?_;refine X6 H ?_;refine J4 H ?_;refine Q3 (.inr ⟨by simp,Jy (Gg (S:={ S with at':=S.at'+n }) H) rfl fun w' H' => .inl ⟨S.at',own,mem,_,?_,.room hr,H'⟩⟩);show Value.tuple #[.int .i64 (IntKind.i64.wrap (((S.at'+n:Nat):Int) - (n:Int))),_]=_;rw[Qh (by omega) (by omega),show ((S.at'+n:Nat):Int) - (n:Int)=(S.at':Int) by omega];rfl
  ·rw[show decide ((n:Int)≤((S.fin - S.at':Nat):Int))=false from decide_eq_false (by omega)];refine Vk H ?_;exact .inl ⟨rfl,rfl,rfl,rfl,H⟩
 ·rintro ms σ w ⟨rfl,g0,g1,H⟩;rw[Q1 g0,Q1 g1];obtain⟨a,c,H⟩:=XY H;have hk:(n - 1) / size+1≤n:=by have:=Nat.div_le_self (n - 1) size;omega
  have Xe:(n - 1) / size*size≤n - 1:=Nat.div_mul_le_self _ _
  have VP:n≤((n - 1) / size+1)*size:=by
   have:=Nat.lt_div_mul_add (a:=n - 1) (b:=size) (by omega);rw[Nat.succ_mul];omega
  refine G6 H ?_;replace H:=Js [2,0,0] 0 H;refine Jc rfl rfl (JU sp size mem own H) ?_;rintro v w ⟨rfl,H⟩;refine N9 H ?_;rw[Qh (x:=(n:Int) - 1) (by omega) (by omega),show (n:Int) - 1=((n - 1:Nat):Int) by omega]
  refine Kn (v := .int .i64 (((n - 1) / size:Nat):Int)) (by
   show (if IntKind.i64=IntKind.i64 then (if (size:Int)=0 then none else some _) else none)=_;rw[if_pos rfl,if_neg (by omega),CM (by omega)]) rfl ?_
  refine J4 H ?_;generalize R7:(n - 1) / size=q at hk Xe VP;rw[Qh (x:=((q:Nat):Int)+1) (by omega) (by omega),show ((q:Nat):Int)+1=((q+1:Nat):Int) by omega];refine J1 H ?_;intro w H;refine N6 H ?_;refine N7 H ?_;refine Jl 7 [9] H ?_;refine Ja 8 ?_;refine Jo 9 H ?_;refine Jk rfl rfl (pa sp size mem own owner (q+1) Xa ho (by omega) (by omega) H) ?_;rintro v w (⟨b,rfl,hb,G2,H⟩|⟨rfl,VK,H⟩)
  ·have hf:∀ c,b≤c→c < b+(q+1)→own[c]? = some 0:=fun c e1 e2=>by
    have:=G2 c e1 e2;rw[getD_eq_getElem?_getD,getElem?_eq_getElem (by omega)] at this;rw[getElem?_eq_getElem (by omega)];simpa using this
   have hbs:(b+(q+1))*size≤63*1024:=Nat.mul_le_mul (by omega) Yp;have Q1g:(b+(q+1))*size=b*size+(q+1)*size:=Nat.add_mul _ _ _;have Q1h:(b+1)*size=b*size+size:=Nat.succ_mul _ _;have hsq:size≤(q+1)*size:=Nat.le_mul_of_pos_left _ (by omega);refine Ja 10 ?_;refine Ja 11 ?_;refine Ja 12 ?_;refine Rl H ?_;refine KL H ?_;refine F7 H ?_;refine ZT H ?_;refine IR H ?_;intro b69 w H;replace H:=Js [3,0,1,0] 0 H;refine Q5 rfl (ZY H rfl rfl (by repeat first|exact .nil _|apply QY.cons rfl) rfl (by decide) (by rw[Xx WH];simp only[length_cons,length_nil];omega) rfl rfl ?_);intro v70 w H;obtain⟨a70,m70,c70,rfl⟩:=VZ H;have e1:S.parts.flatMap YD++[.int .i64 b,.int .i64 ((q+1:Nat):Int)]=(S.parts++[(b,q+1)]).flatMap YD:=by simp
   rw[e1] at H;refine XO H ?_;intro w H;refine Ri H ?_;by_cases hq:q=0
   ·subst hq;rw[show (((0+1:Nat):Int) == 1)=true from rfl];refine J6 H ?_;refine Qt (fun ms σ w=>ms=[]∧σ 6 = .int .i64 size∧σ 8 = .int .i64 b∧Q0 w (V1 p sp owner ⟨S.parts++[(b,1)],b*size+n,(b+1)*size⟩::ST sp size (Vc mem (b*size) (1*size) 0) (Vc own b 1 owner)::fr)) ?_ ?_
    ·refine YU rfl ?_;have m1:(b:Int)*(size:Int)=((b*size:Nat):Int):=(Int.natCast_mul _ _).symm;have m2:((b:Int)+1)*(size:Int)=(((b+1)*size:Nat):Int):=by rw[Int.natCast_mul,Int.natCast_add];rfl
     refine J9 H ?_;refine FH H ?_;refine IF H ?_;rw[Qh (x:=(b:Int)+1) (by omega) (by omega),m1,m2,Qh (x:=((b*size:Nat):Int)) (by omega) (by omega),Qh (x:=(((b+1)*size:Nat):Int)) (by omega) (by omega),Qh (x:=((b*size:Nat):Int)+(n:Int)) (by omega) (by omega),show ((b*size:Nat):Int)+(n:Int)=((b*size+n:Nat):Int) by omega];refine XO H ?_;intro w H;refine XO H ?_;intro w H;refine J2 H ?_;replace H:=Js [2,0,1] 1 H;exact⟨rfl,rfl,rfl,rfl,Gg (S:=⟨S.parts++[(b,1)],b*size+n,(b+1)*size⟩) H⟩
    ·rintro ms σ w ⟨rfl,g6,g8,H⟩;rw[Q1 g6,Q1 g8];refine Az H ?_;refine Q3 (Jy H rfl fun w' H' => .inl ⟨b*size,_,_,_,?_,.one (by omega) (hf b (by omega) (by omega)) (by omega),H'⟩);show Value.tuple #[.int .i64 (IntKind.i64.wrap ((b:Int)*(size:Int))),_]=_;rw[← Int.natCast_mul,Qh (by omega) (by omega)];rfl
   ·rw[show (((q+1:Nat):Int) == 1)=false by simp;omega];refine Vk H ?_;refine Az H ?_;replace H:=Js [2,0,1] 1 H;refine Q3 (Jy (Gg (S:=⟨S.parts++[(b,q+1)],S.at',S.fin⟩) H) rfl fun w' H' => .inl ⟨b*size,_,_,_,?_,.run (k:=q+1) (by omega) hb hf VP (by rw[Nat.add_sub_cancel];omega),H'⟩);show Value.tuple #[.int .i64 (IntKind.i64.wrap ((b:Int)*(size:Int))),_]=_;rw[← Int.natCast_mul,Qh (by omega) (by omega)];rfl
  ·refine Ja 10 ?_;refine Ja 11 ?_;refine Ja 12 ?_;refine Rl H ?_;refine J3 H ?_;refine NQ H ?_;replace H:=Js [1,1,0] 0 H;exact Q3 (Jy (Gg H) rfl fun w' H' => .inr ⟨rfl,VK,H'⟩)
open Go.SL
@[reducible] def V6 (ip sp bp:Nat):Q2:=pts ip (row 222 [pp sp,pp bp])
structure WI (ls:List Qa) (size:Nat) (mem own:List Nat) (addr i c s n:Nat) (l:Qa):Prop where
 may:A9 i c s
 lay:ls[i - 1]? = some l
 right:YK l
 siz:Vh l c=(n,0)
 head:mem.getD addr 0=X9 i c s
 fit:addr+1+n≤mem.length
 owned:K1 size own addr (n+1)
theorem K1.sub {size:Nat} {own:List Nat} {a n b m:Nat} (h:K1 size own a n) (h1:a≤b) (h2:b+m≤a+n) (h3:1≤m):K1 size own b m:=fun c c1 c2=>
 h c (Nat.le_trans (Nat.div_le_div_right h1) c1) (Nat.le_trans c2 (Nat.div_le_div_right (by omega)))
theorem qP [Q4] (sp bp:Nat) {w:World} {fr:List Q2} (H:Q0 w fr) :
  Calls Tryz.prog 83 #[pp sp,pp bp] w (ret fun v w'=>∃ ip,v = .tuple #[pp ip,.int .i64 0]∧Q0 w' (V6 ip sp bp::fr)):=by
 refine QQ Tryz.func83 rfl (by kernel_rfl) ?_;refine J3 H ?_;refine F5 H ?_;refine Ez H ?_;refine Ik H ?_;refine J9 H ?_;refine WG H ?_;intro b15 w H;refine J4 H ?_;exact Q3 (Jy H rfl fun w' H'=>⟨_,rfl,H'⟩)
theorem T3 [Q4] (p:Nat) (ls:List Qa) (i:Nat) (h1:1≤i) (l:Qa) (hk:ls[i - 1]? = some l) {w:World} {fr:List Q2} (H:Q0 w (Qq p ls::fr)) :
  Calls Tryz.prog 88 #[pp p,.int .i64 i] w (ret fun x w'=>∃ vr vq,x = .tuple #[GD l.fixed vr l.record vq,.int .i64 0]∧Q0 w' (NL vr l.refs::NL vq l.recs::Qq p ls::fr)):=by
 obtain⟨k,rfl⟩:∃ k,i=k+1:=⟨i - 1,by omega⟩;rw[Nat.add_sub_cancel] at hk;rw[show (((k+1:Nat):Int))=(k:Int)+1 by omega];exact pw p ls k l hk H
theorem gI [Q4] (ip sp bp:Nat) (ls:List Qa) (i c s n:Nat) (l:Qa) (hm:A9 i c s) (hl:ls[i - 1]? = some l) (hR:YK l) (hz:Vh l c=(n,0)) {w:World} {fr:List Q2} (H:Q0 w (V6 ip sp bp::Qq bp ls::fr)) :
  Calls Tryz.prog 153 #[pp ip,CL i c s] w (ret fun v w'=>∃ vr vq,v = .tuple #[GD l.fixed vr l.record vq,.int .i64 n,.int .i64 0]∧Q0 w' (NL vr l.refs::NL vq l.recs::V6 ip sp bp::Qq bp ls::fr)):=by
 have hi:=hm.1;refine QQ Tryz.func153 rfl (by kernel_rfl) ?_;refine J8 H ?_;intro b3 w H;refine VO H ?_;intro b4 w H;refine Av H ?_
 refine Qt (fun ms σ w=>ms=[]∧∃ b7 vr vq,σ 3=pp b3∧σ 4=pp b4∧σ 7=pp b7∧σ 8 = .int .i64 0 ∧
  Q0 w (pts b7 (row 102 [.int .i64 l.fixed,vr,.int .i64 l.record,vq])::NL vr l.refs::NL vq l.recs::pts b4 (row 102 [.int .i64 0,.slice none 0 0,.int .i64 0,.slice none 0 0])::pts b3 (row 115 [.int .i64 i,.int .i64 c,.int .i64 s])::V6 ip sp bp::Qq bp ls::fr)) ?_ ?_
 ·replace H:=Js [3,0,0,0] 0 H;refine J1 H ?_;intro w H;refine YI H ?_;refine Jl 3 [6,11] H ?_;refine Jf 4 ?_;refine Jl 5 [6,11] H ?_;refine Jw 6 10 H rfl rfl (V3 (a:=[]) (b:=[]) rfl rfl (call (T3 bp ls i hi l hl H) ?_)) (YW H rfl ?_)
  ·rintro v w ⟨vr,vq,rfl,H⟩;obtain⟨aa,ma,ca,rfl⟩:=VZ H;obtain⟨ab,mb,cb,rfl⟩:=VZ H.drop;refine CR H ?_;intro b7 w H;refine Kv H ?_;intro w H;refine KN H ?_;replace H:=Js [0,0,0,1,1,1,0] 0 H;exact⟨rfl,rfl,b7,_,_,rfl,rfl,rfl,rfl,H⟩
  ·intro b7 w H;refine Jo 6 H ?_;refine Jk rfl rfl (T3 bp ls i hi l hl H.swap) ?_;rintro v w ⟨vr,vq,rfl,H⟩;obtain⟨aa,ma,ca,rfl⟩:=VZ H;obtain⟨ab,mb,cb,rfl⟩:=VZ H.drop;refine Il H ?_;intro w H;refine KN H ?_;replace H:=Js [3,0,0,1,1,1,0] 0 H;exact⟨rfl,rfl,b7,_,_,rfl,rfl,rfl,rfl,H⟩
 ·rintro ms σ w ⟨rfl,b7,vr,vq,g3,g4,g7,g8,H⟩;rw[Q1 g3,Q1 g4,Q1 g7,Q1 g8];obtain⟨aa,ma,rfl⟩:=QI H.drop (QM _) (by decide);obtain⟨ab,mb,rfl⟩:=QI H.drop.drop (QM _) (by decide);refine KL H ?_;refine XL H ?_;refine Gs H ?_;replace H:=Js [1,1,0,0,0,0,0] 0 H;obtain⟨D1,H,Y5,Vo⟩:=sls_rd H (QM _) (by decide);obtain⟨D2,H,Zl,ZU⟩:=sls_rd H.swap (QM _) (by decide);refine Jc rfl rfl (JX _ _ l hR c ⟨(Y5 _).there,Zl _⟩ H) ?_;rintro v w ⟨rfl,H⟩;rw[hz];replace H:=Vo _ _ (ZU _ _ H).swap;refine Gt H ?_;refine XL H ?_;refine NV H ?_;intro w H;refine J4 H ?_;replace H:=Js [3,0,0,2,2] 2 H;exact Q3 (Jz H (fun w' H' => .cellN H' rfl (by repeat first|exact .nil _|apply QY.cons rfl) (.tmp (.tmp .nil))) fun w' H'=>⟨_,_,rfl,H'.drop⟩)
theorem T4 [Q4] (ip sp bp size:Nat) (ls:List Qa) (mem own:List Nat) (addr i c s n:Nat) (l:Qa) (h:WI ls size mem own addr i c s n l) {w:World} {fr:List Q2} (H:Q0 w (V6 ip sp bp::Qq bp ls::ST sp size mem own::fr)) :
  Calls Tryz.prog 111 #[pp ip,.int .i64 addr] w (ret fun v w'=>∃ vr vq,v = .tuple #[CL i c s,GD l.fixed vr l.record vq,.int .i64 n,.int .i64 0]∧Q0 w' (NL vr l.refs::NL vq l.recs::V6 ip sp bp::Qq bp ls::ST sp size mem own::fr)):=by
 obtain⟨hm,hl,hR,hz,hh,hf,ho⟩:=h;refine QQ Tryz.func111 rfl (by kernel_rfl) ?_;refine YN H ?_;intro b4 w H;refine VO H ?_;intro b5 w H;refine J4 H ?_;refine Vb H ?_;replace H:=Js [4,0,0,0,0] 0 H;refine Jc rfl rfl (Sg sp size mem own addr (by omega) (ho.sub (Nat.le_refl _) (by omega) (by omega)) H) ?_;rintro v w ⟨rfl,H⟩;rw[hh];refine UI H ?_;refine Z6 H ?_;refine Jc rfl rfl (pW i c s hm H) ?_;rintro v w ⟨rfl,H⟩;refine YC H ?_;intro b10 w H;refine J5 H ?_;intro w H;refine Za H ?_;refine Xy H ?_;replace H:=Js [4,4,1,1,1,0] 0 H;refine Jc rfl rfl (gI ip sp bp ls i c s n l hm hl hR hz H) ?_;rintro v w ⟨vr,vq,rfl,H⟩;obtain⟨aa,ma,ca,rfl⟩:=VZ H;obtain⟨ab,mb,cb,rfl⟩:=VZ H.drop;refine FH H ?_;refine VO H ?_;intro b11 w H;refine J5 H ?_;intro w H;refine J4 H ?_;refine J1 H ?_;intro w H;refine Vz 0 [4,5] H rfl (Q8.none rfl) rfl (by repeat first|exact .nil _|apply QY.cons rfl) (by kernel_rfl) ?_;refine Vz 1 [5] H rfl (Q8.none rfl) rfl (by repeat first|exact .nil _|apply QY.cons rfl) (by kernel_rfl) ?_;refine Ja 2 ?_;refine Ja 3 ?_;refine Jo 4 H ?_;refine KM H ?_;intro w H;refine Jo 5 H ?_;refine KM H ?_;intro w H;refine Ja 6 ?_;refine Ja 7 ?_;refine Jx H ?_;replace H:=Js [7,6,1,1,1,1,1] 2 H;exact Q3 (Jz H (fun w' H' => .cellN H' rfl (by repeat first|exact .nil _|apply QY.cons rfl) (.cellN H' rfl (by repeat first|exact .nil _|apply QY.cons rfl) (.tmp (.tmp .nil)))) fun w' H'=>⟨_,_,rfl,H'.drop.drop⟩)
def Qb (l:Qa) (n:Nat) (place:Int) (ref:Bool):Nat:=if place < 0∨(n:Int)≤place then 3 else if Ve l place.toNat≠ref then 9 else 0
theorem UP {l:Qa} {n:Nat} {place:Int} {ref:Bool} (h:Qb l n place ref=0):∃ p:Nat,place=p∧p < n∧Ve l p=ref:=by
 unfold Qb at h;split at h
 ·omega
 ·split at h
  ·omega
  ·rename_i h1 h2;exact⟨place.toNat,by omega,by omega,by simpa using h2⟩
theorem O4 [Q4] {w:World} {p size:Nat} {mem own:List Nat} {l:List Q2} (H:Q0 w (ST p size mem own::l)):mem.length≤1048576:=by
 obtain⟨v,v2,u,ws,many,QK,_⟩:=KP H;rw[QK.len];exact Nat.mul_le_mul QK.c2 QK.s2
theorem O5 [Q4] (ip sp bp size:Nat) (ls:List Qa) (mem own:List Nat) (addr i c s n:Nat) (l:Qa) (h:WI ls size mem own addr i c s n l) (place:Int) (ref:Bool) {w:World} {fr:List Q2} (H:Q0 w (V6 ip sp bp::Qq bp ls::ST sp size mem own::fr)) :
  Calls Tryz.prog 123 #[pp ip,.int .i64 addr,.int .i64 place,.bool ref] w (ret fun v w'=>v = .tuple #[.int .i64 ((if Qb l n place ref=0 then addr+1+place.toNat else 0:Nat):Int),.int .i64 (Qb l n place ref)]∧Q0 w' (V6 ip sp bp::Qq bp ls::ST sp size mem own::fr)):=by
 have Zb:=O4 (H.pull 2);have h':=h;obtain⟨hm,hl,hR,hz,hh,hf,ho⟩:=h';refine QQ Tryz.func123 rfl (by kernel_rfl) ?_;refine Mn H ?_;refine J9 H ?_;refine Jc rfl rfl (T4 ip sp bp size ls mem own addr i c s n l h H) ?_;rintro v w ⟨vr,vq,rfl,H⟩;obtain⟨aa,ca,rfl⟩:=QI H (QM _) (by decide);obtain⟨ab,cb,rfl⟩:=QI H.drop (QM _) (by decide);refine IF H ?_;refine VO H ?_;intro b10 w H;refine VO H ?_;intro b11 w H;refine J5 H ?_;intro w H;refine J5 H ?_;intro w H;refine Im H ?_;refine XL H ?_;refine NY H ?_;replace H:=Js [2,2,0,0,0,0,0] 0 H;obtain⟨D1,H,Y5,Vo⟩:=sls_rd H (QM _) (by decide);obtain⟨D2,H,Zl,ZU⟩:=sls_rd H.swap (QM _) (by decide);by_cases hp:place < 0∨(n:Int)≤place
 ·have he:Qb l n place ref=3:=by unfold Qb;rw[if_pos hp]
  rw[he];refine Jc rfl rfl (qQ _ _ l hR c place hz hp ⟨(Y5 _).there,Zl _⟩ H) ?_;rintro v w ⟨rfl,H⟩;replace H:=Vo _ _ (ZU _ _ H).swap;refine DL H ?_;refine Qd ?_;refine J9 H ?_;refine Rm H ?_;refine Vj H ?_;replace H:=Js [4,4,4] 4 H;exact Q3 (Jy H rfl fun w' H'=>⟨rfl,H'⟩)
 ·obtain⟨p,rfl⟩:∃ p:Nat,place=p:=⟨place.toNat,by omega⟩;refine Jc rfl rfl (qV _ _ l hR c p hz (by omega) ⟨(Y5 _).there,Zl _⟩ H) ?_;rintro v w ⟨rfl,H⟩;replace H:=Vo _ _ (ZU _ _ H).swap;refine DL H ?_;refine Z0 (fun ms σ w=>ms=[]∧Ve l p=ref∧σ 1 = .int .i64 addr∧σ 2 = .int .i64 p∧Q0 w (V6 ip sp bp::Qq bp ls::ST sp size mem own::fr)) ?_ ?_
  ·refine Qd ?_;refine FX H ?_;refine Q5 rfl (DY rfl rfl (.inr rfl) rfl ?_);refine J0 H ?_;by_cases hr:Ve l p=ref
   ·rw[show (!(Ve l p == ref))=false by simp[hr]];refine Vk H ?_;replace H:=Js [4,4,4] 4 H;exact .inl ⟨rfl,rfl,hr,rfl,rfl,H⟩
   ·have he:Qb l n (p:Int) ref=9:=by unfold Qb;rw[if_neg hp,if_pos (by simpa using hr)]
    rw[show (!(Ve l p == ref))=true by simpa using hr];refine G7 H ?_;replace H:=Js [4,4,4] 4 H;exact Q3 (.inr ⟨by simp,Jy H rfl fun w' H'=>⟨by rw[he];rfl,H'⟩⟩)
  ·rintro ms σ w ⟨rfl,hr,g1,g2,H⟩;have he:Qb l n (p:Int) ref=0:=by unfold Qb;rw[if_neg hp,if_neg (by simpa using hr)]
   rw[he,Q1 g1,Q1 g2];refine A2 H ?_;refine J4 H ?_;rw[Qh (x:=(addr:Int)+1) (by omega) (by omega),Qh (x:=(addr:Int)+1+(p:Int)) (by omega) (by omega)];refine Q3 (Jy H rfl fun w' H'=>⟨?_,H'⟩);show Value.tuple #[.int .i64 ((addr:Int)+1+(p:Int)),_]=_;rw[if_pos rfl,show (addr:Int)+1+(p:Int)=((addr+1+(p:Int).toNat:Nat):Int) by simp];rfl
theorem qS [Q4] (ip sp bp size:Nat) (ls:List Qa) (mem own:List Nat) (addr i c s n:Nat) (l:Qa) (h:WI ls size mem own addr i c s n l) (place:Int) {w:World} {fr:List Q2} (H:Q0 w (V6 ip sp bp::Qq bp ls::ST sp size mem own::fr)) :
  Calls Tryz.prog 107 #[pp ip,.int .i64 addr,.int .i64 place] w (ret fun v w'=>v = .tuple #[.int .u64 ((if Qb l n place false=0 then mem.getD (addr+1+place.toNat) 0 else 0:Nat):Int),.int .i64 (Qb l n place false)]∧Q0 w' (V6 ip sp bp::Qq bp ls::ST sp size mem own::fr)):=by
 have Qv:Calls Tryz.prog 179 #[pp ip,.int .i64 addr,.int .i64 place,.bool false,.func (.func 180) #[] #[]] w (ret fun v w'=>v = .tuple #[.int .u64 ((if Qb l n place false=0 then mem.getD (addr+1+place.toNat) 0 else 0:Nat):Int),.int .i64 (Qb l n place false)]∧Q0 w' (V6 ip sp bp::Qq bp ls::ST sp size mem own::fr)):=by
  refine QQ Tryz.func179 rfl (by kernel_rfl) ?_;refine J3 H ?_;refine Vg H ?_;refine A2 H ?_;refine Jc rfl rfl (O5 ip sp bp size ls mem own addr i c s n l h place false H) ?_;rintro v w ⟨rfl,H⟩;refine Rk H ?_;by_cases he:Qb l n place false=0
  ·obtain⟨p,rfl,hp,hr⟩:=UP he;rw[he];refine Vk H ?_;refine FI H ?_;replace H:=Js [2,0,0] 0 H;refine Jc rfl rfl (Sg sp size mem own (addr+1+p) (by have:=h.fit;omega) (h.owned.sub (by omega) (by omega) (by omega)) H) ?_;rintro v w ⟨rfl,H⟩;refine UI H ?_;refine Vj H ?_;replace H:=Js [1,1,0] 0 H;exact Q3 (Jy H rfl fun w' H'=>⟨rfl,H'⟩)
  ·rw[if_neg he,if_neg he];rw[show (((Qb l n place false:Nat):Int) != 0)=true by simpa using he];refine Vt H ?_;refine Db H ?_;exact Q3 (Jy H rfl fun w' H'=>⟨rfl,H'⟩)
 refine QQ Tryz.func107 rfl (by kernel_rfl) ?_;refine J3 H ?_;refine YJ H ?_;refine Jc rfl rfl (Qv) ?_;rintro v w ⟨rfl,H⟩;refine FW H ?_;exact Q3 (Jy H rfl fun w' H'=>⟨rfl,H'⟩)
theorem Xf (k:Yo):∃ a b d:Int,GS k = .agg #[.int .i64 a,.int .i64 b,.int .i64 d]:=by cases k <;> exact⟨_,_,_,rfl⟩
theorem gJ [Q4] (ip sp bp size:Nat) (ls:List Qa) (mem own:List Nat) (addr i c s n:Nat) (l:Qa) (h:WI ls size mem own addr i c s n l) (place:Int) (k:Yo) (hk:Qb l n place true=0→XS k∧mem.getD (addr+1+place.toNat) 0=Vm k) (VP:Qb l n place true≠0→k = .none) {w:World} {fr:List Q2} (H:Q0 w (V6 ip sp bp::Qq bp ls::ST sp size mem own::fr)) :
  Calls Tryz.prog 97 #[pp ip,.int .i64 addr,.int .i64 place] w (ret fun v w'=>v = .tuple #[GS k,.int .i64 (Qb l n place true)]∧Q0 w' (V6 ip sp bp::Qq bp ls::ST sp size mem own::fr)):=by
 have ZD:∀ (q:Nat) (k:Yo) (w:World) (fr:List Q2),q < mem.length→K1 size own q 1→XS k→mem.getD q 0=Vm k→Q0 w (ST sp size mem own::fr) →
   Calls Tryz.prog 158 #[pp sp,.int .i64 q] w (ret fun v w'=>v = .tuple #[GS k,.int .i64 0]∧Q0 w' (ST sp size mem own::fr)):=by
  intro q k w fr h1 h2 h3 h4 H;refine QQ Tryz.func158 rfl (by kernel_rfl) ?_;refine YN H ?_;intro b4 w H;refine J0 H ?_;refine J9 H ?_;refine Jc rfl rfl (Sg sp size mem own q h1 h2 H.swap) ?_;rintro v w ⟨rfl,H⟩;rw[h4];refine UI H ?_;refine Z6 H ?_;refine Jc rfl rfl (pC k h3 H) ?_;rintro v w ⟨rfl,H⟩;obtain⟨a,b,d,Y7⟩:=Xf k;rw[Y7];refine NV H ?_;intro w H;refine J0 H ?_;exact Q3 (Jz H.swap (fun w' H' => .cellN H' rfl (by repeat first|exact .nil _|apply QY.cons rfl) (.tmp .nil)) fun w' H'=>⟨rfl,H'.drop⟩)
 have Qv:∀ (w:World) (fr:List Q2),Q0 w (V6 ip sp bp::Qq bp ls::ST sp size mem own::fr)→Calls Tryz.prog 157 #[pp ip,.int .i64 addr,.int .i64 place,.bool true,.func (.func 158) #[] #[]] w (ret fun v w'=>v = .tuple #[GS k,.int .i64 (Qb l n place true)]∧Q0 w' (V6 ip sp bp::Qq bp ls::ST sp size mem own::fr)):=by
  intro w fr H;refine QQ Tryz.func157 rfl (by kernel_rfl) ?_;refine YN H ?_;intro b10 w H;refine J0 H ?_;refine YN H ?_;intro b12 w H;refine J2 H ?_;refine A2 H ?_;replace H:=Js [2,2,2,0,0] 0 H;refine Jc rfl rfl (O5 ip sp bp size ls mem own addr i c s n l h place true H) ?_;rintro v w ⟨rfl,H⟩;refine Rk H ?_;by_cases he:Qb l n place true=0
  ·obtain⟨Ce,O6⟩:=hk he;obtain⟨p,rfl,hp,hr⟩:=UP he;rw[he];refine Vk H ?_;refine FI H ?_;replace H:=Js [2,0,0,0,0] 0 H;refine Jc rfl rfl (ZD (addr+1+p) k _ _ (by have:=h.fit;omega) (h.owned.sub (by omega) (by omega) (by omega)) Ce O6 H) ?_;rintro v w ⟨rfl,H⟩;obtain⟨a,b,d,Y7⟩:=Xf k;rw[Y7];refine YC H ?_;intro b15 w H;refine J5 H ?_;intro w H;refine Za H ?_;refine Ay H ?_;intro w H;refine J0 H ?_;replace H:=Js [5,2,2,1] 2 H;exact Q3 (Jz H (fun w' H' => .cellN H' rfl (by repeat first|exact .nil _|apply QY.cons rfl) (.tmp .nil)) fun w' H'=>⟨rfl,H'.drop⟩)
  ·obtain rfl:=VP he;rw[if_neg he];rw[show (((Qb l n place true:Nat):Int) != 0)=true by simpa using he];refine Vt H ?_;refine B6 H ?_;intro w H;refine J0 H ?_;replace H:=Js [4,0,0,0] 1 H;exact Q3 (Jz H (fun w' H' => .cellN H' rfl (by repeat first|exact .nil _|apply QY.cons rfl) (.tmp .nil)) fun w' H'=>⟨rfl,H'.drop⟩)
 refine QQ Tryz.func97 rfl (by kernel_rfl) ?_;refine YN H ?_;intro b6 w H;refine N9 H ?_;replace H:=Js [1,1,1,0] 0 H;refine Jc rfl rfl (Qv _ _ H) ?_;rintro v w ⟨rfl,H⟩;obtain⟨a,b,d,Y7⟩:=Xf k;rw[Y7];refine NV H ?_;intro w H;refine J0 H ?_;replace H:=Js [3,0,0,0] 0 H;exact Q3 (Jz H (fun w' H' => .cellN H' rfl (by repeat first|exact .nil _|apply QY.cons rfl) (.tmp .nil)) fun w' H'=>⟨rfl,H'.drop⟩)
theorem qT [Q4] (ip sp bp size:Nat) (ls:List Qa) (mem own:List Nat) (addr i c s n:Nat) (l:Qa) (h:WI ls size mem own addr i c s n l) (place:Int) (x:Nat) {w:World} {fr:List Q2} (H:Q0 w (V6 ip sp bp::Qq bp ls::ST sp size mem own::fr)) :
  Calls Tryz.prog 233 #[pp ip,.int .i64 addr,.int .i64 place,.int .u64 x] w (ret fun v w'=>v = .int .i64 (Qb l n place false)∧Q0 w' (V6 ip sp bp::Qq bp ls::ST sp size (if Qb l n place false=0 then mem.set (addr+1+place.toNat) x else mem) own::fr)):=by
 refine QQ Tryz.func233 rfl (by kernel_rfl) ?_;refine DF H ?_;refine Jc rfl rfl (O5 ip sp bp size ls mem own addr i c s n l h place false H) ?_;rintro v w ⟨rfl,H⟩;refine Rk H ?_;by_cases he:Qb l n place false=0
 ·obtain⟨p,rfl,hp,hr⟩:=UP he;rw[he];refine Vk H ?_;refine G6 H ?_;refine J4 H ?_;replace H:=Js [2,0,0] 0 H;refine YJ H ?_;refine Q5 rfl (V3 (a:=[pp sp]) (b:=[]) rfl rfl (call (Ns sp size mem own (addr+1+p) x (by have:=h.fit;omega) (h.owned.sub (by omega) (by omega) (by omega)) H) ?_));rintro v w ⟨rfl,H⟩;refine J0 H ?_;replace H:=Js [1,1,0] 0 H;exact Q3 (Jy H rfl fun w' H'=>⟨rfl,H'⟩)
 ·rw[if_neg he,if_neg he];rw[show (((Qb l n place false:Nat):Int) != 0)=true by simpa using he];refine G7 H ?_;exact Q3 (Jy H rfl fun w' H'=>⟨rfl,H'⟩)
theorem gL [Q4] (ip sp bp size:Nat) (ls:List Qa) (mem own:List Nat) (addr i c s n:Nat) (l:Qa) (h:WI ls size mem own addr i c s n l) (place:Int) (k:Yo) (hk:XS k) {w:World} {fr:List Q2} (H:Q0 w (V6 ip sp bp::Qq bp ls::ST sp size mem own::fr)) :
  Calls Tryz.prog 61 #[pp ip,.int .i64 addr,.int .i64 place,GS k] w (ret fun v w'=>v = .int .i64 (Qb l n place true)∧Q0 w' (V6 ip sp bp::Qq bp ls::ST sp size (if Qb l n place true=0 then mem.set (addr+1+place.toNat) (Vm k) else mem) own::fr)):=by
 obtain⟨a,b,d,Y7⟩:=Xf k;have hW:=fun (w:World) (fr:List Q2) (H:Q0 w fr)=>pA k hk H;rw[Y7] at hW ⊢;refine QQ Tryz.func61 rfl (by kernel_rfl) ?_;refine J8 H ?_;intro b7 w H;refine J0 H ?_;replace H:=Js [1,1,1,0] 0 H;refine YJ H ?_;refine Jc rfl rfl (O5 ip sp bp size ls mem own addr i c s n l h place true H) ?_;rintro v w ⟨rfl,H⟩;refine Rk H ?_;by_cases he:Qb l n place true=0
 ·obtain⟨p,rfl,hp,hr⟩:=UP he;rw[he];refine Vk H ?_;refine XL H ?_;refine Jc rfl rfl (hW _ _ H) ?_;rintro v w ⟨rfl,H⟩;refine UI H ?_;refine G6 H ?_;refine J4 H ?_;replace H:=Js [2,0,0] 1 H;refine YJ H ?_;refine Q5 rfl (V3 (a:=[pp sp]) (b:=[]) rfl rfl (call (Ns sp size mem own (addr+1+p) (Vm k) (by have:=h.fit;omega) (h.owned.sub (by omega) (by omega) (by omega)) H) ?_));rintro v w ⟨rfl,H⟩;refine J0 H ?_;replace H:=Js [1,1,0] 0 H;exact Q3 (Jy H rfl fun w' H'=>⟨rfl,H'⟩)
 ·rw[if_neg he,if_neg he];rw[show (((Qb l n place true:Nat):Int) != 0)=true by simpa using he];refine G7 H ?_;replace H:=Js [0,0,0] 1 H;exact Q3 (Jy H rfl fun w' H'=>⟨rfl,H'⟩)
theorem Dr [Q4] (ip sp bp size:Nat) (ls:List Qa) (mem own:List Nat) (addr i c s n:Nat) (l:Qa) (h:WI ls size mem own addr i c s n l) {w:World} {fr:List Q2} (H:Q0 w (V6 ip sp bp::Qq bp ls::ST sp size mem own::fr)) :
  Calls Tryz.prog 45 #[pp ip,.int .i64 addr] w (ret fun v w'=>v = .tuple #[CL i c s,.int .i64 ((n+1:Nat):Int),.int .i64 0]∧Q0 w' (V6 ip sp bp::Qq bp ls::ST sp size mem own::fr)):=by
 have Zb:=O4 (H.pull 2);have hf:=h.fit;refine QQ Tryz.func45 rfl (by kernel_rfl) ?_;refine YN H ?_;intro b4 w H;refine N2 H ?_;refine J9 H ?_;replace H:=Js [1,1,1,0] 0 H;refine Jc rfl rfl (T4 ip sp bp size ls mem own addr i c s n l h H) ?_;rintro v w ⟨vr,vq,rfl,H⟩;obtain⟨aa,ma,ca,rfl⟩:=VZ H;obtain⟨ab,mb,cb,rfl⟩:=VZ H.drop;refine IF H ?_;refine VO H ?_;intro b7 w H;refine VO H ?_;intro b8 w H;refine J5 H ?_;intro w H;refine J5 H ?_;intro w H;refine Im H ?_;refine XL H ?_;refine NV H ?_;intro w H;refine J4 H ?_;rw[Qh (x:=((n:Nat):Int)+1) (by omega) (by omega),show ((n:Nat):Int)+1=((n+1:Nat):Int) by omega];replace H:=Js [7,4,4,4] 4 H;exact Q3 (Jz H (fun w' H' => .cellN H' rfl (by repeat first|exact .nil _|apply QY.cons rfl) (.tmp (.tmp .nil))) fun w' H'=>⟨rfl,H'.drop⟩)
theorem qa [Q4] (ip sp bp size:Nat) (ls:List Qa) (mem own:List Nat) (addr i c s n:Nat) (l:Qa) (hm:A9 i c s) (hl:ls[i - 1]? = some l) (hR:YK l) (hz:Vh l c=(n,0)) (hf:addr+1+n≤mem.length) (ho:K1 size own addr (n+1)) {w:World} {fr:List Q2} (H:Q0 w (V6 ip sp bp::Qq bp ls::ST sp size mem own::fr)) :
  Calls Tryz.prog 92 #[pp ip,.int .i64 addr,CL i c s] w (ret fun v w'=>v = .tuple #[.int .i64 ((n+1:Nat):Int),.int .i64 0]∧Q0 w' (V6 ip sp bp::Qq bp ls::ST sp size (Vc (mem.set addr (X9 i c s)) (addr+1) n 0) own::fr)):=by
 have Zb:=O4 (H.pull 2);refine QQ Tryz.func92 rfl (by kernel_rfl) ?_;refine J8 H ?_;intro b5 w H;refine N2 H ?_;refine XL H ?_;refine Jc rfl rfl (pK i c s hm H) ?_;rintro v w ⟨rfl,H⟩;refine UI H ?_;refine Xy H ?_;replace H:=Js [1,1,1,0] 0 H;refine Jc rfl rfl (gI ip sp bp ls i c s n l hm hl hR hz H) ?_;rintro v w ⟨vr,vq,rfl,H⟩;obtain⟨aa,ma,ca,rfl⟩:=VZ H;obtain⟨ab,mb,cb,rfl⟩:=VZ H.drop;refine FH H ?_;refine VO H ?_;intro b10 w H;refine J5 H ?_;intro w H;refine Im H ?_;refine G6 H ?_;refine FH H ?_;replace H:=Js [5,3,3] 4 H;rw[Qh (x:=((n:Nat):Int)+1) (by omega) (by omega),show ((n:Nat):Int)+1=((n+1:Nat):Int) by omega];refine Jc rfl rfl (pT sp size mem own addr (n+1) (by omega) (by omega) ho H) ?_;rintro v w ⟨rfl,H⟩;refine Za H ?_;refine X6 H ?_;refine Jc rfl rfl (Ns sp size mem own addr (X9 i c s) (by omega) (ho.sub (Nat.le_refl _) (by omega) (by omega)) H) ?_;rintro v w ⟨rfl,H⟩;refine Ri H ?_;generalize Gy:mem.set addr (X9 i c s)=m2 at H;have Zu:m2.length=mem.length:=by rw[← Gy,length_set]
 refine Uh H ?_;refine Qp (fun ms σ w q=>ms=[]∧∃ j:Nat,j≤n∧q=n - j∧σ 0=pp ip∧σ 1 = .int .i64 addr∧σ 11 = .int .i64 n∧σ 53 = .int .i64 n∧σ 54 = .int .i64 j∧Q0 w (ST sp size (Vc m2 (addr+1) j 0) own::V6 ip sp bp::Qq bp ls::fr)) (m:=n) ⟨rfl,0,by omega,rfl,rfl,rfl,rfl,rfl,rfl,by rw[Nt];exact H⟩ ?_;rintro ms σ w q ⟨rfl,j,hj,rfl,g0,g1,g11,g53,g54,H⟩;rw[Q1 g0,Q1 g1,Q1 g11,Q1 g53,Q1 g54];refine J7 H ?_;refine Qk rfl (fun h=>QE ?_) (fun h=>Qu ?_)
 ·have Q6:j < n:=by omega
  refine Dd H ?_;refine G6 H ?_;refine FH H ?_;rw[Qh (x:=(addr:Int)+1) (by omega) (by omega),Qh (x:=(addr:Int)+1+(j:Int)) (by omega) (by omega),show (addr:Int)+1+(j:Int)=((addr+1+j:Nat):Int) by omega];refine Jc rfl rfl (Ns sp size _ own (addr+1+j) 0 (by rw[Yi (by omega)];omega) (ho.sub (by omega) (by omega) (by omega)) H) ?_;rintro v w ⟨rfl,H⟩;rw[fj (by omega)] at H;refine Ri H ?_;exact⟨_,⟨rfl,j+1,Q6,rfl,rfl,rfl,rfl,rfl,Qg (by omega),H⟩,by omega⟩
 ·have V0:j=n:=by omega
  subst V0;refine Db H ?_;rw[Qh (x:=((j:Nat):Int)+1) (by omega) (by omega),show ((j:Nat):Int)+1=((j+1:Nat):Int) by omega];replace H:=Js [1,1,0] 0 H;exact Q3 (Jy H rfl fun w' H'=>⟨rfl,H'⟩)
def Qm (l:List Int):List Value:=l.map fun x=>Value.int .i64 x
theorem YZ (l:List Int):(Qm l).length=l.length*1:=by simp[Qm]
theorem Fx (a b:List Int):Qm (a++b)=Qm a++Qm b:=by simp[Qm]
theorem JL (l:List Nat):QH l=Qm (l.map fun x:Nat=>(x:Int)):=by simp[QH,Qm]
@[reducible] def IL (v:Value) (l:List Int):Q2:=QF 3 1 v (Qm l)
theorem O7 [Q4] (v:Value) (l:List Int) (hl:l.length≤1000000) {w:World} {fr:List Q2} (H:Q0 w (IL v l::fr)) :
  Calls Tryz.prog 53 #[v] w (ret fun x w'=>x = .tuple #[]∧Q0 w' (IL v (l.mergeSort fun x y=>decide (x≤y))::fr)):=by
 obtain⟨a,c,rfl⟩:=QI H (YZ l) (by decide);have Qw:(l.mergeSort fun x y=>decide (x≤y)).length=l.length:=length_mergeSort l;by_cases h0:l=[]
 ·subst h0;refine(Any.slices_Sort_int_none Tryz.laysSort a c w).mono ?_;rintro e w' ⟨rfl,rfl⟩;rw[mergeSort_nil];exact⟨rfl,H⟩
 ·have BH:0 < l.length:=length_pos_iff.2 h0;obtain⟨b,s,rfl,H,h1,h2,QU⟩:=GP H BH;have hb:=H.pts;refine(Any.slices_Sort_int Tryz.laysSort b 0 c l w (fun j hj=>⟨?_,D5 hb⟩) H.fresh (by omega)).mono ?_
  ·refine Ud hb ?_;have G4:j < l.length:=by simpa using hj
   rw[Nat.zero_add,getElem?_append_left (by simpa [Qm] using G4)];simp[Qm,G4]
  ·rintro e w' ⟨rfl,m,os,rfl⟩;refine⟨rfl,QU _ _ (Qm (l.mergeSort fun x y=>decide (x≤y))) (by rw[YZ,YZ,Qw]) ?_⟩;have e1:(Go.Sort.putRow (Value.int .i64) (Go.Sort.ahead w m) b 0 (l.mergeSort fun x y=>decide (x≤y)).toArray).heap=w.heap.modify b (Go.Sort.onCells (Go.Sort.putCells (Value.int .i64) 0 (l.mergeSort fun x y=>decide (x≤y)).toArray)):=rfl
   have H1:Q0 (Go.Sort.putRow (Value.int .i64) (Go.Sort.ahead w m) b 0 (l.mergeSort fun x y=>decide (x≤y)).toArray) (pts b (row 3 (Qm (l.mergeSort fun x y=>decide (x≤y))++s))::fr):=by
    refine H.set ?_ ?_
    ·rw[e1,Array.getElem?_modify,if_pos rfl,hb];simp only[Option.map_some,row,Go.Sort.onCells];congr 2;apply Array.ext';apply ext_getElem?;intro t;simp only[Go.Sort.putCells,Array.getElem?_toList,Array.getElem?_mapIdx,getElem?_toArray,Nat.zero_le,true_and,Nat.zero_add,Nat.sub_zero,size_toArray];have l1:(Qm l).length=l.length:=by simp[Qm]
     have l2:(Qm (l.mergeSort fun x y=>decide (x≤y))).length=l.length:=by simp[Qm]
     by_cases ht:t < l.length
     ·rw[getElem?_append_left (by omega),getElem?_append_left (by omega)];have WJ:t < (l.mergeSort fun x y=>decide (x≤y)).length:=by omega
      simp only[Qm,getElem?_map,getElem?_eq_getElem ht,getElem?_eq_getElem WJ,Option.map_some,if_pos WJ];rw[getElem!_pos _ t (by simpa using WJ)];simp
     ·rw[getElem?_append_right (by omega),getElem?_append_right (by omega),l1,l2];have WJ:¬ t < (l.mergeSort fun x y=>decide (x≤y)).length:=by omega
      cases s[t - l.length]? with
      | none=>rfl
      | some y=>simp;intro h;omega
    ·intro c hc;rw[e1,Array.getElem?_modify,if_neg (Ne.symm hc)]
   refine H1.up (fun c o hc=>?_) ⟨rfl,rfl⟩;show ((Go.Sort.putRow (Value.int .i64) (Go.Sort.ahead w m) b 0 (l.mergeSort fun x y=>decide (x≤y)).toArray).heap++os)[c]? = some o;have:=(Array.getElem?_eq_some_iff.1 hc).1;rw[Array.getElem?_append_left this];exact hc
theorem qb [Q4] (a:Option Addr) (n c:Nat) (hn:n < 2) {w:World} {fr:List Q2} (H:Q0 w fr) :
  Calls Tryz.prog 119 #[.slice a n c] w (ret fun x w'=>x = .slice a n c∧Q0 w' fr):=by
 refine QQ Tryz.func119 rfl (by kernel_rfl) ?_;refine Vg H ?_;refine XN H ?_;rw[show decide ((n:Int) < 2)=true from decide_eq_true (by omega)];refine G7 H ?_;exact Q3 (Jy H rfl fun w' H'=>⟨rfl,H'⟩)
theorem qc [Q4] (v:Value) (l:List Nat) (x:Nat) (hl:l.length≤1000000) (b:Nat) {w:World} {fr:List Q2} (H:Q0 w (NL v l::pts b (row 3 [.int .i64 x])::fr)) :
  Calls Tryz.prog 154 #[v,.int .i64 l.length,.slice (some ⟨b,0,none⟩) 1 1] w (ret fun v w'=>Q0 w' (NL v (l++[x])::fr)):=by
 obtain⟨a,c,rfl⟩:=QI H (QM l) (by decide);refine QQ Tryz.func154 rfl (by kernel_rfl) ?_;refine Rn H ?_;refine Q5 rfl (oO rfl rfl (Nat.le_refl _) rfl fun v12=>?_);refine Io H ?_;refine Q5 rfl (Gm rfl rfl ?_);refine Za H ?_;refine XN H ?_;refine Vj H ?_;rw[show (((l.length:Nat):Int) == (l.length:Int))=true by simp];refine Vt H ?_;refine J9 H ?_;refine Q5 rfl (ZY H rfl rfl (by repeat first|exact .nil _|apply QY.cons rfl) rfl (by decide) (by rw[QM];simp only[length_cons,length_nil];omega) rfl rfl ?_);intro v25 w H;obtain⟨a25,m25,c25,rfl⟩:=VZ H;refine J0 H ?_;have e1:QH l++[.int .i64 x]=QH (l++[x]):=by rw[BU];rfl
 rw[e1] at H;exact Q3 (Jy (Q0.drop H.swap) rfl fun w' H'=>H')
def VV (p:Nat) (l:List Nat):Q2:=ex fun v:Value=>star [pts p (row 163 [v]),NL v l]
theorem Cf [Q4] {w:World} {p:Nat} {l:List Nat} {fr:List Q2} (H:Q0 w (VV p l::fr)):∃ a c,Q0 w (pts p (row 163 [.slice a l.length c])::NL (.slice a l.length c) l::fr):=by
 obtain⟨v,H⟩:=Q0.ex.1 H;have H:=Q0.star.1 H;obtain⟨a,c,rfl⟩:=QI H.drop (QM l) (by decide);exact⟨a,c,H⟩
theorem AW [Q4] {w:World} {p:Nat} {l:List Nat} {v:Value} {fr:List Q2} (H:Q0 w (pts p (row 163 [v])::NL v l::fr)):Q0 w (VV p l::fr):=
 Q0.ex.2 ⟨v,Q0.star.2 H⟩
theorem T5 [Q4] {w:World} {fr:List Q2} (H:Q0 w fr):Calls Tryz.prog 56 #[.slice none 0 0] w (ret fun v w'=>∃ p,v=pp p∧Q0 w' (VV p []::fr)):=by
 refine QQ Tryz.func56 rfl (by kernel_rfl) ?_;refine CU H ?_;refine Jc rfl rfl (JK (.slice none 0 0) [] (by simp) ⟨rfl,none,0,rfl,.inl rfl⟩ H) ?_;rintro v w H;obtain⟨a,c,rfl⟩:=QI H (QM []) (by decide);refine F2 H ?_;refine Jc rfl rfl (O7 _ [] (by simp) H) ?_;rintro v w ⟨rfl,H⟩;rw[mergeSort_nil] at H;refine Io H ?_;refine Jc rfl rfl (qb a 0 c (by omega) H) ?_;rintro v w ⟨rfl,H⟩;refine WG H ?_;intro b10 w H;refine J0 H ?_;exact Q3 (Jy H rfl fun w' H'=>⟨_,rfl,AW (l:=[]) H'⟩)
theorem gM {l:List Nat} {x:Nat} (h:∀ a∈l,a < x):Ge l x=l.length:=by
 unfold Ge;rw[countP_eq_length];intro a ha;simpa using h a ha
theorem qd [Q4] (p:Nat) (l:List Nat) (x:Nat) (hs:l.Pairwise (· < ·)) (hl:l.length≤100000) (hx:∀ a∈l,a < x) {w:World} {fr:List Q2} (H:Q0 w (VV p l::fr)) :
  Calls Tryz.prog 93 #[pp p,.int .i64 x] w (ret fun v w'=>v = .bool true∧Q0 w' (VV p (l++[x])::fr)):=by
 obtain⟨a,c,H⟩:=Cf H;have hn:x∉l:=fun h=>by have:=hx x h;omega
 refine QQ Tryz.func93 rfl (by kernel_rfl) ?_;refine Dc H ?_;obtain⟨D1,H,Y5,Vo⟩:=sls_rd H.swap (QM _) (by decide);refine Jc rfl rfl (Ft _ l (by omega) hs x (Y5 _) H) ?_;rintro v w ⟨rfl,H⟩;replace H:=Vo _ _ H;rw[gM hx,decide_eq_false hn];refine Rk H ?_;refine J6 H ?_;refine Qt (fun ms σ w=>ms=[]∧σ 6 = .bool false∧Q0 w (VV p (l++[x])::fr)) ?_ ?_
 ·refine YU rfl ?_;refine F7 H ?_;refine ZT H ?_;refine X7 H ?_;intro b27 w H;replace H:=Js [1,0,0] 0 H;refine Jc rfl rfl (qc _ l x (by omega) _ H) ?_;intro v w H;obtain⟨a28,m28,c28,rfl⟩:=VZ H;refine XO H ?_;intro w H;refine J2 H ?_;exact⟨rfl,rfl,rfl,AW H.swap⟩
 ·rintro ms σ w ⟨rfl,g6,H⟩;rw[Q1 g6];refine Vj H ?_;exact Q3 (Jy H rfl fun w' H'=>⟨rfl,H'⟩)
theorem gN [Q4] (p:Nat) (l:List Nat) (x:Nat) (hs:l.Pairwise (· < ·)) (hl:l.length≤100000) {w:World} {fr:List Q2} (H:Q0 w (VV p l::fr)) :
  Calls Tryz.prog 47 #[pp p,.int .i64 x] w (ret fun v w'=>v = .bool (decide (x∈l))∧Q0 w' (VV p l::fr)):=by
 obtain⟨a,c,H⟩:=Cf H;refine QQ Tryz.func47 rfl (by kernel_rfl) ?_;refine Dc H ?_;obtain⟨D1,H,Y5,Vo⟩:=sls_rd H.swap (QM _) (by decide);refine Jc rfl rfl (Ft _ l (by omega) hs x (Y5 _) H) ?_;rintro v w ⟨rfl,H⟩;replace H:=Vo _ _ H;refine Rk H ?_;exact Q3 (Jy (AW H.swap) rfl fun w' H'=>⟨rfl,H'⟩)
theorem gO [Q4] (p:Nat) (l:List Nat) {w:World} {fr:List Q2} (H:Q0 w (VV p l::fr)) :
  Calls Tryz.prog 23 #[pp p] w (ret fun v w'=>v = .int .i64 l.length∧Q0 w' (VV p l::fr)):=by
 obtain⟨a,c,H⟩:=Cf H;refine QQ Tryz.func23 rfl (by kernel_rfl) ?_;refine A1 H ?_;refine WU H ?_;exact Q3 (Jy (AW H) rfl fun w' H'=>⟨rfl,H'⟩)
theorem gP:∀ a b:Rf,kp a=kp b→a=b:=Cb.inj
def Gz (l:List Rf):List Value:=l.flatMap fun r=>[.int .i64 r.1,.int .i64 r.2]
theorem Fy (l:List Rf):(Gz l).length=l.length*2:=by
 induction l with
 | nil=>rfl
 | cons r l ih=>simp only[Gz,flatMap_cons,length_append,length_cons,length_nil] at ih ⊢;omega
theorem qe (a b:List Rf):Gz (a++b)=Gz a++Gz b:=by simp[Gz]
theorem qf [Q4] (x:Option Nat) (m:List (Rf×Int)) {w:World} {fr:List Q2} (H:Q0 w (Zh kp v1 (.map x) m::fr)) :
  Calls Tryz.prog 200 #[.map x] w
   (ret fun v w'=>∃ b,v = .func (.func 246) #[] #[pp b]∧Q0 w' (pts b (row 145 [.map x])::Zh kp v1 (.map x) m::fr)):=by
 refine QQ Tryz.func200 rfl (by kernel_rfl) ?_;refine GW H ?_;intro b1 w H;refine ZZ H ?_;refine Q3 (Jy H rfl fun w' H'=>⟨b1,rfl,H'⟩)
theorem UQ {α:Type}:∀ {l₁ l₂:List α},l₁.Nodup→(∀ z∈l₁,z∈l₂)→l₁.length≤l₂.length
 | [],_,_,_=>Nat.zero_le _
 | c::l,l₂,hn,hs=>by
  obtain⟨s,t,rfl⟩:=append_of_mem (hs c (by simp));have h:=nodup_cons.1 hn
  have:=UQ (l₂:=s++t) h.2 (fun z hz=>by
   have h1:=hs z (by simp[hz]);have h2:z≠c:=fun e=>h.1 (e▸hz);simp[h2] at h1;simpa using h1)
  simp at this ⊢;omega
theorem qg [Q4] (yl b:Nat) (x:Option Nat) (m:List (Rf×Int)) (J:List Rf→Q2)
  (hy:∀ ks r rest w,ks.length < m.length→Q0 w (J ks::rest)→SL.Yields Tryz.prog yl #[rf r] w (fun v w'=>v = .bool true∧Q0 w' (J (ks++[r])::rest)))
  {w:World} {fr:List Q2} (H:Q0 w (J []::pts b (row 145 [.map x])::Zh kp v1 (.map x) m::fr)) :
  Calls Tryz.prog 246 #[.func (.yield yl) #[] #[],pp b] w
   (ret fun _ w'=>∃ ks,ks.Perm (m.map (·.1))∧Q0 w' (J ks::Zh kp v1 (.map x) m::fr)):=by
 refine QQ Tryz.func246 rfl (by kernel_rfl) ?_;refine UJ H ?_;replace H:=Js [2,0,0] 0 H;refine Q5 rfl (Pn kp v1 H rfl rfl ?_);intro bi w H;refine J2 H ?_;refine Qd ?_;refine Qp (fun ms σ w n=>ms=[]∧∃ ks:List Rf,σ 0 = .func (.yield yl) #[] #[]∧σ 5=pp bi∧n=m.length - ks.length∧Q0 w (Ar kp v1 (.map x) m bi ks::J ks::pts b (row 145 [.map x])::fr)) (m:=m.length) ⟨rfl,[],rfl,rfl,rfl,H⟩ ?_;clear H w;rintro ms σ w n ⟨rfl,ks,h0,h5,rfl,H⟩;rw[Q1 h0,Q1 h5];refine Ui H ?_;refine Q5 rfl (Po H gP rfl rfl (fun hp w H=>?_) (fun q hq hn QN Xw w H=>?_))
 ·refine Yn H ?_;refine B0 H ?_;replace H:=Pm H;replace H:=Js [1,0] 1 H;exact Z2 _ (.inl rfl) H rfl fun w' H'=>⟨ks,hp,H'⟩
 ·have Q6:ks.length < m.length:=by
   have h1:(ks++[q.1]).Nodup:=by
    rw[nodup_append];exact⟨QN,by simp,fun c hc c' G0 e0=>by simp at G0;subst G0;subst e0;exact hn hc⟩
   have h2:=UQ h1 (l₂:=m.map (·.1)) (fun z hz=>by
    rcases mem_append.1 hz with hz|hz
    ·exact Xw z hz
    ·simp at hz;subst hz;exact mem_map_of_mem hq)
   simp at h2;omega
  refine Yn H ?_;refine A3 H ?_;refine Qd ?_;refine Ui H ?_;refine Q5 rfl (Pp H gP hq rfl rfl ?_);refine Jv ?_;refine VO H ?_;intro b3 w H;refine J5 H ?_;intro w H;refine J2 H ?_;refine Xy H ?_;replace H:=Js [2,0,0,0] 0 H;refine Q5 rfl (By rfl rfl (SL.Yields.mono (hy ks q.1 _ _ Q6 H) ?_));rintro v w ⟨rfl,H⟩;refine YT H ?_;replace H:=Js [2,0,1] 1 H;exact⟨_,⟨rfl,ks++[q.1],rfl,rfl,rfl,H⟩,by simp;omega⟩
def CJ (L:Q2) (b2:Nat) (ks:List Rf):Q2:=ex fun v:Value=>star [QF 133 2 v (Gz ks),L,pts b2 (row 130 [v])]
theorem gS [Q4] {w:World} {L:Q2} {b2:Nat} {ks:List Rf} {l:List Q2} (H:Q0 w (CJ L b2 ks::l)):∃ v,Q0 w (QF 133 2 v (Gz ks)::L::pts b2 (row 130 [v])::l):=by
 obtain⟨v,H⟩:=Q0.ex.1 H;exact⟨v,Q0.star.1 H⟩
theorem gT [Q4] {w:World} {L:Q2} {b2:Nat} {ks:List Rf} {l:List Q2} {v:Value} (H:Q0 w (QF 133 2 v (Gz ks)::L::pts b2 (row 130 [v])::l)):Q0 w (CJ L b2 ks::l):=
 Q0.ex.2 ⟨v,Q0.star.2 H⟩
theorem Fz [Q4] {w:World} {E k:Nat} {v:Value} {c:List Value} {l:List Q2} (H:Q0 w (QF E k v c::l)):v.oneCell'=true:=by
 rcases XI H with ⟨rfl,_⟩|⟨_,_,_,_,rfl,_⟩ <;> rfl
theorem qh [Q4] (b:Nat) (x:Option Nat) (m:List (Rf×Int)) (hm:m.length≤1000000) {w:World} {fr:List Q2} (H:Q0 w (pts b (row 145 [.map x])::Zh kp v1 (.map x) m::fr)) :
  Calls Tryz.prog 258 #[.slice none 0 0,.func (.func 246) #[] #[pp b]] w
   (ret fun v w'=>∃ ks,ks.Perm (m.map (·.1))∧Q0 w' (QF 133 2 v (Gz ks)::Zh kp v1 (.map x) m::fr)):=by
 refine QQ Tryz.func258 rfl (by kernel_rfl) ?_;refine GW H ?_;intro b2 w H;refine Mh H ?_;refine Qd (W9 (a:=[]) (b:=[pp b]) H rfl (fun yl D w H=>?_));generalize hL:LR _ yl _ _ _ _ D .ready=L at H ⊢;replace H:=GK (E:=133) (k:=2) H;replace H:=Js [0,0,1,1,1,0] 0 H;refine call (qg yl b x m (CJ L b2) ?_ (gT (ks:=[]) H)) ?_
 ·intro ks r rest w Q6 H;obtain⟨a,c⟩:=r;obtain⟨v,H⟩:=gS H;have h1:=Fz H;subst hL;replace H:=Js [1,0,0] 0 H;refine Kp (args:=[rf (a,c)]) H rfl rfl ?_;refine YN H ?_;intro b5 w H;refine J5 H ?_;intro w H;refine J2 H ?_;replace H:=Js [1,1,0,0] 0 H;refine⟨rfl,_,H,fun w H=>Qd ?_⟩
  repeat refine Q7 ?_
  refine QG ?_;refine Q5 rfl (QC H rfl rfl rfl ?_);refine Q5 rfl (Vy H rfl (by repeat first|exact .nil _|apply QY.cons rfl) rfl ?_);refine X7 H ?_;intro b10 w H;replace H:=Js [2,0,0,0,0] 0 H;refine Q5 rfl (ZY H rfl rfl (by repeat first|exact .nil _|apply QY.cons rfl) rfl (by decide) (by simp only[Fy,length_cons,length_nil];omega) rfl rfl ?_);intro v11 w H;obtain⟨a11,c11,rfl⟩:=QI (m:=ks.length+1) H (by simp[Fy];omega) (by decide);refine Q5 rfl (G1 H rfl rfl inferInstance (Fz H) (Nat.le_of_ble_eq_true rfl) rfl ?_);intro w H;refine J2 H ?_;replace H:=Js [2,0,2] 2 H;refine⟨rfl,_,H,fun w H=>⟨rfl,gT (v := .slice a11 (ks.length+1) c11) ?_⟩⟩;replace H:=Js [1,0,0] 0 H;rw[qe];exact H
 ·rintro v w' ⟨ks,hp,H⟩;obtain⟨v2,H⟩:=gS H;have h1:=Fz H;subst hL;replace H:=Js [1,0,0,0,0] 0 H;refine⟨_,H,fun w H=>?_⟩;refine UJ H ?_;refine Kx H ?_;replace H:=Js [3,0,1] 1 H;exact Q3 (Bx (ms:=[D]) _ (.inr rfl) ((Q0.star (k:=[pts D (.deferred (some []))])).2 H) rfl fun w' H'=>⟨ks,hp,H'⟩)
theorem qi [Q4] (b:Nat) (x:Option Nat) (m:List (Rf×Int)) (hm:m.length≤1000000) {w:World} {fr:List Q2} (H:Q0 w (pts b (row 145 [.map x])::Zh kp v1 (.map x) m::fr)) :
  Calls Tryz.prog 244 #[.func (.func 246) #[] #[pp b]] w
   (ret fun v w'=>∃ ks,ks.Perm (m.map (·.1))∧Q0 w' (QF 133 2 v (Gz ks)::Zh kp v1 (.map x) m::fr)):=by
 refine QQ Tryz.func244 rfl (by kernel_rfl) ?_;refine CU H ?_;refine Jc rfl rfl (qh b x m hm H) ?_;rintro v w ⟨ks,hp,H⟩;refine Kx H ?_;exact Q3 (Jy H rfl fun w' H'=>⟨ks,hp,H'⟩)
theorem ga [Q4] (a:Int) (w:World):Calls Tryz.prog 237 #[.int .i64 a] w (ret fun v w'=>v = .bool false∧w'=w):=by
 refine QQ Tryz.func237 rfl (by kernel_rfl) ?_
 repeat refine Q7 ?_
 refine QG ?_;refine Jv ?_;refine QX ?_
 repeat refine Q7 ?_
 refine QG ?_;refine Jv ?_;refine Jv ?_;refine Jv ?_;refine Jv ?_;refine QX ?_;exact Q3 (Ak (.inr rfl) rfl ⟨by show Value.bool (a != a)=_;simp,rfl⟩)
def BI (a b:Int):Int:=if a < b then -1 else if b < a then 1 else 0
theorem gb [Q4] (a b:Int) (w:World):Calls Tryz.prog 203 #[.int .i64 a,.int .i64 b] w (ret fun v w'=>v = .int .i64 (BI a b)∧w'=w):=by
 refine QQ Tryz.func203 rfl (by kernel_rfl) ?_
 repeat refine Q7 ?_
 refine QG ?_;refine Jv ?_;refine QX ?_
 repeat refine Q7 ?_
 refine QG ?_;refine Jv ?_;refine Jc rfl rfl (ga a _) ?_;rintro v w' ⟨rfl,rfl⟩;refine Jv ?_;refine QX ?_
 repeat refine Q7 ?_
 refine QG ?_;refine Jv ?_;refine Jc rfl rfl (ga b _) ?_;rintro v w' ⟨rfl,rfl⟩;refine Jv ?_;refine QX ?_
 repeat refine Q7 ?_
 refine QG ?_;refine Jv ?_;refine QX ?_
 repeat refine Q7 ?_
 refine Vw rfl (QE ?_)
 repeat refine Q7 ?_
 refine QG ?_;refine Jv ?_;refine QX ?_
 repeat refine Q7 ?_
 refine Vw rfl (QE ?_)
 repeat refine Q7 ?_
 refine QG ?_;refine Jv ?_;refine Jv ?_;refine Jv ?_;refine QX ?_
 repeat refine Q7 ?_
 refine Qk rfl (fun h=>?_) (fun h=>QE ?_)
 ·repeat refine Q7 ?_
  refine QG ?_;refine Jv ?_;refine QX ?_;exact Q3 (Ak (.inr rfl) rfl ⟨by show Value.int .i64 (-1)=_;simp[BI,h],rfl⟩)
 ·repeat refine Q7 ?_
  refine QG ?_;refine Jv ?_;refine Jv ?_;refine Jv ?_;refine QX ?_
  repeat refine Q7 ?_
  refine Qk rfl (fun h2=>?_) (fun h2=>QE ?_)
  ·repeat refine Q7 ?_
   refine QG ?_;refine Jv ?_;refine QX ?_;exact Q3 (Ak (.inr rfl) rfl ⟨by have:b < a:=h2;show Value.int .i64 1=_;simp[BI,h,this],rfl⟩)
  ·repeat refine Q7 ?_
   refine QG ?_;refine Jv ?_;refine QX ?_;exact Q3 (Ak (.inr rfl) rfl ⟨by have:¬ b < a:=h2;show Value.int .i64 0=_;simp[BI,h,this],rfl⟩)
def H0 (x y:Int):Int:=if x=0 then y else x
theorem qj [Q4] (b:Nat) (x y:Int) {w:World} {fr:List Q2} (H:Q0 w (pts b (row 3 [.int .i64 x,.int .i64 y])::fr)) :
  Calls Tryz.prog 202 #[.slice (some ⟨b,0,none⟩) 2 2] w (ret fun v w'=>v = .int .i64 (H0 x y)∧w'=w):=by
 refine QQ Tryz.func202 rfl (by kernel_rfl) ?_;refine Vg H ?_;refine CU H ?_;refine FJ H ?_;refine Uh H ?_;refine Qp (fun ms σ w' n=>ms=[]∧w'=w∧∃ i:Nat,i≤2∧n=2 - i∧σ 6 = .slice (some ⟨b,0,none⟩) 2 2∧σ 7 = .int .i64 2∧σ 8 = .int .i64 i∧σ 3 = .int .i64 0∧(1≤i→x=0)∧(2≤i→y=0)) (m:=2) ⟨rfl,rfl,0,by omega,rfl,rfl,rfl,rfl,rfl,by omega,by omega⟩ ?_;rintro ms σ w' n ⟨rfl,rfl,i,hi,rfl,h6,h7,h8,h3,hx,hy⟩;rw[Q1 h6,Q1 h7,Q1 h8,Q1 h3];have qk:i=0∨i=1∨i=2:=by omega
 rcases qk with rfl|rfl|rfl
 ·refine J7 H ?_;refine A3 H ?_;refine Z8 H ?_;refine Q5 rfl (X4 rfl rfl (by decide) (by decide) rfl ?_);refine WY H ?_;refine J0 H ?_;refine Ic H ?_;refine D4 rfl (fun ht=>?_) (fun ht=>QE ?_)
  ·have Z9:x≠0:=by simpa using ht
   refine J3 H ?_;exact Q3 (Ak (.inr rfl) rfl ⟨by show Value.int .i64 x=_;simp[H0,Z9],rfl⟩)
  ·have Z9:x=0:=by simpa using ht
   refine J3 H ?_;exact⟨_,⟨rfl,rfl,1,by omega,rfl,rfl,rfl,rfl,rfl,by omega,by omega⟩,by omega⟩
 ·refine J7 H ?_;refine A3 H ?_;refine Z8 H ?_;refine Q5 rfl (X4 rfl rfl (by decide) (by decide) rfl ?_);refine WY H ?_;refine J0 H ?_;refine Ic H ?_;refine D4 rfl (fun ht=>?_) (fun ht=>QE ?_)
  ·have Z9:y≠0:=by simpa using ht
   refine J3 H ?_;exact Q3 (Ak (.inr rfl) rfl ⟨by show Value.int .i64 y=_;simp[H0,hx (by omega)],rfl⟩)
  ·have Z9:y=0:=by simpa using ht
   refine J3 H ?_;exact⟨_,⟨rfl,rfl,2,by omega,rfl,rfl,rfl,rfl,rfl,by omega,by omega⟩,by omega⟩
 ·refine J7 H ?_;refine B0 H ?_;refine J3 H ?_;exact Q3 (Ak (.inr rfl) rfl ⟨by show Value.int .i64 0=_;simp[H0,hx (by omega),hy (by omega)],rfl⟩)
def H8 (x y:Rf):Int:=H0 (BI x.1 y.1) (BI x.2 y.2)
open Go.Sort in
theorem ql (x y:Rf) (w:World):Calls Tryz.prog 201 #[rf x,rf y] w (ret fun v w'=>v = .int .i64 (H8 x y)∧∃ q os',w'=grow (w.drewN q) os'):=by
 obtain⟨a,b⟩:=x;obtain⟨c,d⟩:=y;letI:Q4:=⟨w.os,w.output⟩;have H:Q0 w []:=Q0.nil w ⟨rfl,rfl⟩;refine QQ Tryz.func201 rfl (by kernel_rfl) ?_
 repeat refine Q7 ?_
 refine QG ?_;refine Q5 rfl (eL H rfl rfl ?_);intro b2 w1 e1 H;refine Q5 rfl (eL H rfl rfl ?_);intro b3 w2 e2 H;refine Jv ?_;refine QX ?_
 repeat refine Q7 ?_
 refine o4 H mixed ?_;intro w3 e3 H;refine Jf 0 ?_;refine Jl 1 [4,9,10,11] H ?_;refine Jf 2 ?_;refine Jl 3 [4,9,10,11] H ?_;refine Jf 5 ?_;refine Jl 6 [9,10,11] H ?_;refine Jf 7 ?_;refine Jl 8 [9,10,11] H ?_;refine Jo 4 H ?_;refine Jk rfl rfl (gb a c _) ?_;rintro v w' ⟨rfl,rfl⟩;refine Jo 9 H ?_;refine Jk rfl rfl (gb b d _) ?_;rintro v w' ⟨rfl,rfl⟩;refine Jo 10 H ?_;refine o0 H rfl rfl rfl ?_;intro b15 w5 e5 H;refine Jo 11 H ?_;refine Jk rfl rfl (qj b15 (BI a c) (BI b d) H) ?_;rintro v w' ⟨rfl,rfl⟩;refine Ja 12 ?_;refine Jx H ?_
 have key:∃ q os',w'=grow (w.drewN q) os':=by
  rw[e5,e3,e2,e1];simp only[alloc_eq_grow]
  exact⟨1,_,by
   show grow (grow (grow (w.drewN 1) _) _) _=_;rw[grow_grow,grow_grow]⟩
 exact Q3 (Ak (.inr rfl) rfl ⟨rfl,key⟩)
def Uo (x y:Rf):Prop:=x.1 < y.1∨x.1=y.1∧x.2 < y.2
instance (x y:Rf):Decidable (Uo x y):=by unfold Uo;exact inferInstance
theorem qm (x y:Rf):H8 x y < 0↔Uo x y:=by
 unfold H8 H0 BI Uo;constructor
 ·intro h
  repeat' split at h
  all_goals omega
 ·intro h
  repeat' split
  all_goals omega
open Go.Sort in
theorem O8 (x y:Rf):ltOf H8 x y=decide (Uo x y):=by
 unfold ltOf;rw[Bool.eq_iff_iff];simp[qm]
open Go.Sort in
theorem qo:SWO (ltOf H8) where
 irrefl x:=by rw[O8];simp[Uo]
 trans x y z h1 h2:=by
  rw[O8] at h1 h2 ⊢;have h1:Uo x y:=of_decide_eq_true h1;have h2:Uo y z:=of_decide_eq_true h2;have h3:Uo x z:=by unfold Uo at *;omega
  exact decide_eq_true h3
 ntrans x y z h1 h2:=by
  rw[O8] at h1 h2 ⊢;have h1:¬ Uo x y:=of_decide_eq_false h1;have h2:¬ Uo y z:=of_decide_eq_false h2;have h3:¬ Uo x z:=by unfold Uo at *;omega
  exact decide_eq_false h3
def O9 (r:Rf):List Value:=[.int .i64 r.1,.int .i64 r.2]
theorem qp (l:List Rf):Gz l=l.flatMap O9:=rfl
def JM (l:List Rf):Prop:=l.Pairwise Uo
theorem qr [Q4] (b:Nat) (x:Option Nat) (m:List (Rf×Int)) (hm:m.length≤1000000) (hn:(m.map (·.1)).Nodup) {w:World} {fr:List Q2} (H:Q0 w (pts b (row 145 [.map x])::Zh kp v1 (.map x) m::fr)) :
  Calls Tryz.prog 199 #[.func (.func 246) #[] #[pp b],.func (.func 201) #[] #[]] w
   (ret fun v w'=>∃ ks,ks.Perm (m.map (·.1))∧JM ks∧Q0 w' (QF 133 2 v (Gz ks)::Zh kp v1 (.map x) m::fr)):=by
 refine QQ Tryz.func199 rfl (by kernel_rfl) ?_;refine CU H ?_;refine Jc rfl rfl (qi b x m hm H) ?_;rintro v w ⟨ks,hp,H⟩;refine Kx H ?_;refine Ui H ?_;refine W6 rfl rfl ?_;refine Jv ?_
 have hs:=oT (k:=2) (enc:=O9) Tryz.sortRef (t:=133) rfl inferInstance (by decide) (fun _=>rfl) (fun x v hv=>by simp[O9] at hv;rcases hv with rfl|rfl <;> rfl) H8 qo (g:=201) inferInstance (fun x y W=>(ql x y W).mono fun e w' h=>by
  cases e with
  | returned v=>exact⟨by rw[h.1],h.2⟩
  | panicked c=>exact h.elim
  | outgrown=>exact h.elim) H (by have:=hp.length_eq;simp at this;omega)
 refine Jc rfl rfl (hs) ?_;rintro v2 w ⟨ks2,GF,Yp,H⟩;refine J2 H ?_;refine Ui H ?_;refine W6 rfl rfl ?_;refine Kx H ?_;have Dt:=GF.trans hp;refine Q3 (Jy H rfl fun w' H'=>⟨ks2,Dt,?_,H'⟩);have QN:ks2.Nodup:=Dt.nodup_iff.2 hn;refine(Yp.and QN).imp ?_;rintro a b ⟨h1,h2⟩;rw[O8] at h1;have h3:¬ Uo b a:=of_decide_eq_false h1;unfold Uo at h3 ⊢;have h4:¬ (a.1=b.1∧a.2=b.2):=fun e=>h2 (Prod.ext e.1 e.2);omega
theorem OQ [Q4] (x:Option Nat) (m:List (Rf×Int)) (hm:m.length≤1000000) (hn:(m.map (·.1)).Nodup) {w:World} {fr:List Q2} (H:Q0 w (Zh kp v1 (.map x) m::fr)) :
  Calls Tryz.prog 122 #[.map x] w
   (ret fun v w'=>∃ ks,ks.Perm (m.map (·.1))∧JM ks∧Q0 w' (QF 133 2 v (Gz ks)::Zh kp v1 (.map x) m::fr)):=by
 refine QQ Tryz.func122 rfl (by kernel_rfl) ?_;refine CU H ?_;refine Jc rfl rfl (qf x m H) ?_;rintro v w ⟨b,rfl,H⟩
 refine Jc rfl rfl (qr b x m hm hn H) ?_;rintro v w ⟨ks,hp,hs,H⟩;refine Kx H ?_;exact Q3 (Jy H rfl fun w' H'=>⟨ks,hp,hs,H'⟩)
theorem OV {g1 g2:List Gr} {g:Gr} (hn:((g1++g::g2).map (·.key)).Nodup) {r:Rf}:mem (g1++g::g2) g.key r↔r∈g.m.map (·.1):=by
 rw[Dp];exact⟨fun h=>h.elim (·.2) fun h=>absurd (Cd h) (JA hn),fun h => .inl ⟨rfl,h⟩⟩
theorem T6 [Q4] {w:World} {K V:Type} {ek:K→Value} {vv:V→Value} {b:Nat} {m:List (K×V)} {l:List Q2} (H:Q0 w (Zh ek vv (.map (some b)) m::l)):Q0 w (mp ek vv b m::l):=H.head fun h hm=>by
 rcases hm with ⟨h,_⟩|⟨b',h,hm⟩
 ·cases h
 ·cases h;exact hm
theorem Du {K V:Type} [DecidableEq K] {m:List (K×V)} {x:K} (h:(QV m x).isSome=true):x∈m.map (·.1):=by
 cases hf:QV m x with
 | none=>rw[hf] at h;cases h
 | some v=>exact mem_map_of_mem (f:=(·.1)) (KE hf)
theorem qs [Q4] (p:Nat) (m:List (Rf×Int)) (hm:m.length≤1000000) (t:Int) {w:World} {fr:List Q2} (H:Q0 w (RS p m::fr)) :
  Calls Tryz.prog 209 #[pp p,.int .i64 t] w (ret fun v w'=>∃ ks,(∀ r,r∈ks↔(r.1=t∧(QV m r).isSome=true))∧JM ks∧Q0 w' (QF 133 2 v (Gz ks)::RS p m::fr)):=by
 refine QQ Tryz.func209 rfl (by kernel_rfl) ?_;obtain⟨bt,bo,bf,H⟩:=Dq H;refine Dc H ?_;replace H:=Js [3,0,0,0] 0 H;obtain⟨G,hG,H⟩:=O0 H;refine Q5 rfl (GO (key:=t) H rfl rfl Vp rfl ?_);have BA:=BW bf H;have hn:(G.map (·.key)).Nodup:=by rw[← Dm];exact BA
 cases hf:QV (G.map Um) t with
 | none=>
  replace H:=eO kp v1 H;refine Jc rfl rfl (OQ none [] (by simp) (by simp) H) ?_;rintro v w ⟨ks,hp,hs,H⟩;refine Kx H ?_;have K4:ks=[]:=by simpa using hp
  subst K4;replace H:=Js [2,2,2,2,2,0] 1 H;replace H:=AZ G hG H;replace H:=Js [1,1,1,0,0] 0 H;replace H:=BB bt bo bf (fun _ _=>Iff.rfl) (fun _ _=>Iff.rfl) H;refine Q3 (Jy H.swap rfl fun w' H'=>⟨[],fun r=>?_,hs,H'⟩);have h1:=D9.1 hf;rw[Dm] at h1;exact⟨fun h=>by simp at h,fun h=>absurd (Cd ((hG t r).2 h)) h1⟩
 | some bi=>
  obtain⟨g,g1,g2,rfl,rfl,rfl⟩:=O1 hf;have H:=(Q0.pick rfl).1 H.swap;have hi:=BW g.blk H
  have Qw:g.m.length≤1000000:=by
   have:=UQ hi (l₂:=m.map (·.1)) (fun r hr=>by
    have:=(hG g.key r).1 ((OV hn).2 hr);exact Du this.2)
   simp at this;omega
  replace H:=MM H;refine Jc rfl rfl (OQ (some g.blk) g.m Qw hi H) ?_;rintro v w ⟨ks,hp,hs,H⟩;refine Kx H ?_;replace H:=T6 H.swap;replace H:=Js [0,1,0,0,0,0,0] 0 H;replace H:=(Q0.pick (R:=Cc) (gs:=g1++g::g2) rfl).2 H;replace H:=Js [2,0,1,1,1,0] 0 H;replace H:=AZ (g1++g::g2) hG H;replace H:=Js [1,1,1,0,0] 0 H;replace H:=BB bt bo bf (fun _ _=>Iff.rfl) (fun _ _=>Iff.rfl) H;refine Q3 (Jy H.swap rfl fun w' H'=>⟨ks,fun r=>?_,hs,H'⟩);rw[hp.mem_iff,← hG,OV hn]
theorem gc {ks:List Rf} {spare:List Value} {i:Nat} {r:Rf} (h:ks[i]? = some r):QY (Gz ks++spare) (0+i*2) 2 [.int .i64 r.1,.int .i64 r.2]:=by
 have hl:=Fy ks;have hi:=(List.getElem?_eq_some_iff.1 h).1;have g:∀ t,(Gz ks)[t]? = (ks[t / 2]?).bind fun x=>(O9 x)[t % 2]? := fun t=>by rw[qp];exact Pz (k:=2) (fun _=>rfl) (by decide) ks t
 refine .cons ?_ (.cons ?_ (.nil _))
 ·rw[getElem?_append_left (by omega),g,show (0+i*2) / 2=i by omega,show (0+i*2) % 2=0 by omega,h];rfl
 ·rw[getElem?_append_left (by omega),g,show (0+i*2+1) / 2=i by omega,show (0+i*2+1) % 2=1 by omega,h];rfl
theorem qt {ks:List Rf} (h:Gz ks=[]):ks=[]:=by
 have:=Fy ks;rw[h] at this;exact eq_nil_of_length_eq_zero (by simp at this;omega)
theorem T7:∀ (ks:List Rf) {m:List (Rf×Int)},(m.map (·.1)).Nodup→((ks.foldl QO m).map (·.1)).Nodup
 | [],_,h=>h
 | k::ks,_,h=>T7 ks (W5 h)
theorem qu [Q4] (p:Nat) (m:List (Rf×Int)) (hn:(m.map (·.1)).Nodup) (hm:m.length≤1000000) (t:Int) {w:World} {fr:List Q2} (H:Q0 w (RS p m::fr)) :
  Calls Tryz.prog 128 #[pp p,.int .i64 t] w (ret fun v w'=>∃ ks,(∀ r,r∈ks↔(r.1=t∧(QV m r).isSome=true))∧JM ks∧v = .int .i64 ks.length∧Q0 w' (RS p (ks.foldl QO m)::fr)):=by
 refine QQ Tryz.func128 rfl (by kernel_rfl) ?_;refine Rn H ?_;refine Jc rfl rfl (qs p m hm t H) ?_;rintro v w ⟨ks,K4,hs,H⟩;refine Kx H ?_
 have Qw:ks.length≤1000000:=by
  have QN:ks.Nodup:=hs.imp fun {a b} h e=>by subst e;unfold Uo at h;omega
  have:=UQ QN (l₂:=m.map (·.1)) fun r hr=>Du ((K4 r).1 hr).2;simp at this;omega
 rcases XI H with ⟨rfl,h0,H2⟩|⟨b,len,cap,spare,rfl,e3,e4,e5,H2⟩ <;> replace H:=H2 <;> clear H2
 ·have:=qt h0;subst this
  repeat refine Q7 ?_
  refine QG ?_;refine Jv ?_;refine Q5 rfl (Gm rfl rfl ?_);refine Jv ?_;refine QX ?_
  repeat refine Q7 ?_
  refine Qd ?_;refine Qp (fun ms σ w n=>ms=[]∧σ 12 = .int .i64 0∧σ 13 = .int .i64 0∧σ 5 = .slice none 0 0∧Q0 w (RS p m::fr)) (m:=1) ⟨rfl,rfl,rfl,rfl,H⟩ ?_;rintro ms σ w n ⟨rfl,YE,KH,h5,H⟩;rw[Q1 YE,Q1 KH,Q1 h5];refine J7 H ?_;refine B0 H ?_;refine XN H ?_;exact Q3 (Jy H rfl fun w' H'=>⟨[],K4,hs,rfl,H'⟩)
 ·have Vu:len=ks.length:=by rw[Fy] at e3;omega
  subst Vu;refine Z6 H ?_;refine B7 H ?_
  refine Qp (fun ms σ w n=>ms=[]∧∃ i:Nat,i≤ks.length∧n=ks.length - i∧σ 0=pp p∧σ 11 = .slice (some ⟨b,0,none⟩) ks.length cap∧σ 12 = .int .i64 ks.length∧σ 13 = .int .i64 i∧σ 5 = .slice (some ⟨b,0,none⟩) ks.length cap ∧
   Q0 w (RS p ((ks.take i).foldl QO m)::pts b (row 133 (Gz ks++spare))::fr)) (m:=ks.length) ⟨rfl,0,by omega,rfl,rfl,rfl,rfl,rfl,rfl,H.swap⟩ ?_
  rintro ms σ w n ⟨rfl,i,hi,rfl,h0,VD,YE,KH,h5,H⟩;rw[Q1 h0,Q1 VD,Q1 YE,Q1 KH,Q1 h5];refine J7 H ?_;refine Qk rfl (fun h=>QE ?_) (fun h=>Qu ?_)
  ·have Q6:i < ks.length:=by omega
   have hr:=getElem?_eq_getElem Q6;generalize ks[i]=r at hr;obtain⟨a,c⟩:=r;refine Z8 H ?_;refine Jd ?_;refine Q5 rfl (Vy H rfl (gc hr) rfl ?_);refine VO H ?_;intro b7 w H;refine J5 H ?_;intro w H;refine J2 H ?_;refine Xy H ?_;replace H:=Js [1,1] 1 H;refine Jc rfl rfl (JB p _ (T7 _ hn) (a,c) H) ?_;rintro v w ⟨rfl,H⟩;refine Ri H ?_;refine⟨_,⟨rfl,i+1,Q6,rfl,rfl,rfl,rfl,Qg (by omega),rfl,?_⟩,by omega⟩;rw[take_add_one,hr];simpa using H
  ·have V0:i=ks.length:=by omega
   subst V0;refine XN H ?_;rw[take_length] at H;exact Q3 (Jy H.swap.drop rfl fun w' H'=>⟨ks,K4,hs,rfl,H'⟩)
theorem gd:∀ a b:Int,ki .i64 a=ki .i64 b→a=b:=fun a b h=>by cases h;rfl
def Xg (par:List (Int×Int)) (id k:Int):Bool:=decide (QV par k=some id)
theorem gf [Q4] (p last:Nat) (par:List (Int×Int)) (id:Int) (h0:id=0∨(QV par id).isSome=true) (hl:par.length≤1000) {w:World} {fr:List Q2} (H:Q0 w (Qo p last par::fr)) :
  Calls Tryz.prog 13 #[pp p,.int .i64 id] w (ret fun v w'=>∃ u K,v = .tuple #[u,.int .i64 0]∧K.Perm ((par.map (·.1)).filter (Xg par id))∧K.Pairwise (·≤·)∧Q0 w' (IL u K::Qo p last par::fr)):=by
 have QN:=Sr H;refine QQ Tryz.func13 rfl (by kernel_rfl) ?_;refine WR H ?_;refine Jc rfl rfl (Ss p last par id H) ?_;rintro v w ⟨rfl,H⟩;refine Yn H ?_;refine Qt (fun ms σ w=>ms=[]∧σ 22 = .bool false∧σ 0=pp p∧σ 1 = .int .i64 id∧Q0 w (Qo p last par::fr)) ?_ ?_
 ·cases hf:(QV par id).isSome with
  | true=>
   refine YJ H ?_;refine B1 H ?_;refine CG H ?_;refine Qz rfl rfl rfl ?_;refine J0 H ?_;exact⟨rfl,rfl,rfl,rfl,rfl,H⟩
  | false=>
   obtain rfl:id=0:=by
    rcases h0 with h|h
    ·exact h
    ·rw[hf] at h;cases h
   refine YJ H ?_;refine Zq H ?_;refine Qe rfl rfl rfl (KF rfl rfl (.inl rfl) rfl ?_);refine Gq H ?_;refine Gq H ?_;refine J0 H ?_;exact⟨rfl,rfl,rfl,rfl,rfl,H⟩
 rintro ms σ w ⟨rfl,g22,g0,g1,H⟩;rw[Q1 g22,Q1 g0,Q1 g1];refine De H ?_;obtain⟨b,H⟩:=BC H;refine G6 H ?_;replace H:=MM H.swap;refine Q5 rfl (Pn (ki .i64) v1 H rfl rfl ?_);intro bi w H;refine CV H ?_;refine Z0 (fun ms σ w=>ms=[]∧∃ (u:Value) (K:List Int),σ 7=u∧K.Perm ((par.map (·.1)).filter (Xg par id))∧Q0 w (IL u K::Qo p last par::fr)) ?_ ?_
 ·refine Qd ?_;refine Qp (fun ms σ w n=>ms=[]∧∃ (ks:List Int) (u:Value),ks.length≤par.length∧n=par.length - ks.length∧σ 1 = .int .i64 id∧σ 7=u∧σ 28=pp bi∧Q0 w (IL u (ks.filter (Xg par id))::Ar (ki .i64) v1 (.map (some b)) par bi ks::pts p (row 122 [.map (some b),.int .i64 last])::fr)) (m:=par.length) ⟨rfl,[],_,by simp,rfl,rfl,rfl,rfl,GK H⟩ ?_;rintro ms σ w n ⟨rfl,ks,u,VC,rfl,g1,g7,g28,H⟩;obtain⟨au,mu,cu,rfl⟩:=VZ H;rw[Q1 g1,Q1 g7,Q1 g28];refine Ui H ?_;refine Q5 rfl (Po H.swap gd rfl rfl (fun hp w H=>?_) (fun q hq hn WL Xw w H=>?_))
  ·refine Yn H ?_;refine B0 H ?_;replace H:=T6 (Pm H);replace H:=Js [1,1,0] 0 H;have H2:Q0 w (Qo p last par::IL (.slice au mu cu) (ks.filter (Xg par id))::fr):=AG (by replace H:=Q0.sel [1,1,0] 0 H;dsimp only[SL.sel,SL.pull,List.drop] at H;exact H);exact .inl ⟨rfl,rfl,_,_,rfl,hp.filter _,H2.swap⟩
  ·have Q6:ks.length < par.length:=by
    have h1:(ks++[q.1]).Nodup:=by
     rw[nodup_append];exact⟨WL,by simp,fun c hc c' G0 e0=>by simp at G0;subst G0;subst e0;exact hn hc⟩
    have h2:=UQ h1 (l₂:=par.map (·.1)) (fun z hz=>by
     rcases mem_append.1 hz with hz|hz
     ·exact Xw z hz
     ·simp at hz;subst hz;exact mem_map.2 ⟨q,hq,rfl⟩)
    simp at h2;omega
   have gh:QV par q.1=some q.2:=(YP QN).2 hq;refine Yn H ?_;refine A3 H ?_;refine Qd ?_;refine Ui H ?_;refine Q5 rfl (Pp H gd hq rfl rfl ?_);refine FW H ?_;obtain⟨k,t⟩:=q;refine Vj H ?_;by_cases ht:t=id
   ·have hk:Xg par id k=true:=by unfold Xg;rw[gh,ht];simp
    rw[show (t == id)=true by simpa using ht];refine Vt H ?_;refine If H ?_;intro b39 w H;replace H:=Js [2,0,0,0] 0 H;have VS:=length_filter_le (Xg par id) ks;refine Q5 rfl (ZY H rfl rfl (by repeat first|exact .nil _|apply QY.cons rfl) rfl (by decide) (by rw[YZ];simp only[length_cons,length_nil];omega) rfl rfl ?_);intro v40 w H;obtain⟨a40,m40,c40,rfl⟩:=VZ H;refine J0 H ?_;replace H:=Js [0,1,1] 1 H;refine⟨_,⟨rfl,ks++[k],_,by simp;omega,rfl,rfl,rfl,rfl,?_⟩,by simp;omega⟩;rw[filter_append,show [k].filter (Xg par id)=[k] by simp[hk]];show Q0 w (QF _ 1 _ (Qm (ks.filter (Xg par id)++[k]))::_);rw[Fx];exact H
   ·have hk:Xg par id k=false:=by unfold Xg;rw[gh];simp;exact ht
    rw[show (t == id)=false by simpa using ht];refine Vk H ?_;refine⟨_,⟨rfl,ks++[k],.slice au mu cu,by simp;omega,rfl,rfl,rfl,rfl,?_⟩,by simp;omega⟩;rw[filter_append,show [k].filter (Xg par id)=[] by simp[hk],append_nil];replace H:=Js [1,0,0] 0 H;exact H
 ·rintro ms σ w ⟨rfl,u,K,g7,hK,H⟩
  have hKl:K.length≤1000:=by
   have h1:=hK.length_eq;have h2:=length_filter_le (Xg par id) (par.map (·.1));simp at h2;omega
  obtain⟨au,cu,rfl⟩:=QI H (YZ K) (by decide);rw[Q1 g7];refine Z6 H ?_;refine Jc rfl rfl (O7 _ K (by omega) H) ?_;rintro v w ⟨rfl,H⟩;refine DJ H ?_;refine Q3 (Jy H rfl fun w' H'=>⟨_,_,rfl,(mergeSort_perm K _).trans hK,?_,H'⟩);have:=pairwise_mergeSort (le:=fun x y:Int=>decide (x≤y)) (fun a b c h1 h2=>by simp at *;omega) (fun a b=>by simp;omega) K;exact this.imp (fun h=>by simpa using h)
end Go.Proofs.YtmjdnljneifpcaaGreatDoor
