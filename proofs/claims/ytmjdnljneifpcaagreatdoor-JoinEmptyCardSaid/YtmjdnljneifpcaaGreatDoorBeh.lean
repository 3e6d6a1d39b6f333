/- Cells: what is proved on the way: every input of the statement; no condition. Texts joined: CelR BumA ImgA ImgB ImgC ImgD SrtI BagA RmC RmD RmE KidA. -/
import Derived.Test.YtmjdnljneifpcaaGreatDoorBeg
import Derived.Test.YtmjdnljneifpcaaGreatDoorBee
import Derived.Test.YtmjdnljneifpcaaGreatDoorBec
set_option linter.unusedVariables false
set_option linter.unusedSimpArgs false
namespace Go.Proofs.YtmjdnljneifpcaaGreatDoor
open List
theorem Ug.chunk {size:Nat} (h1:1≤size) {own:List Nat} {e:Q8} (h:Ug size own e) (c:Nat):(Qa e≤c*size∨(c+1)*size≤e.addr)∨∃ r:Nat,own[c]? = some r∧(r:Int)=e.region∧1≤r:=by
 by_cases ha:c < e.addr / size
 ·left;right;have:=(Nat.le_div_iff_mul_le (by omega)).1 (Nat.succ_le_of_lt ha);exact this
 ·by_cases hb:(e.addr+e.ws.length) / size < c
  ·left;left;have:=(Nat.div_lt_iff_lt_mul (by omega)).1 hb;unfold Qa;omega
  ·right;exact h.2 c (by omega) (by omega)
inductive KM (size:Nat) (own mem:List Nat) (r:Nat) (S:QO) (n:Nat):List Nat→List Nat→QO→Nat→Prop where
 | room (h:n≤S.fin - S.at'):KM size own mem r S n own mem { S with at':=S.at'+n } S.at'
 | one {a:Nat} (ha:a+1≤own.length) (hf:own[a]? = some 0) (hn:n≤size):KM size own mem r S n (VT own a 1 r) (VT mem (a*size) (1*size) 0) ⟨S.parts++[(a,1)],a*size+n,(a+1)*size⟩ (a*size)
 | run {a k:Nat} (hk:2≤k) (ha:a+k≤own.length) (hf:∀ c,a≤c→c < a+k→own[c]? = some 0) (hn:n≤k*size) (Gp:(k - 1)*size < n):KM size own mem r S n (VT own a k r) (VT mem (a*size) (k*size) 0) ⟨S.parts++[(a,k)],S.at',S.fin⟩ (a*size)
theorem XP (a b:List (Nat×Nat)):QR (a++b)=QR a++QR b:=by simp[QR]
theorem A4 (a k:Nat):QR [(a,k)]=(List.range k).map (a+·):=by simp[QR]
theorem XS {a k c:Nat}:c∈(List.range k).map (a+·)↔a≤c∧c < a+k:=by
 simp only[mem_map,mem_range];constructor
 ·rintro⟨i,h,rfl⟩;omega
 ·rintro⟨h1,h2⟩;exact⟨c - a,by omega,by omega⟩
theorem Sn (a k:Nat):((List.range k).map (a+·)).Nodup:=by
 refine List.Pairwise.map _ (fun x y h=>?_) nodup_range;omega
theorem fm {size:Nat} {own:List Nat} {a k r:Nat} (ha:a+k≤own.length) (hf:∀ c,a≤c→c < a+k→own[c]? = some 0) {e:Q8} (h:Ug size own e):Ug size (VT own a k r) e:=by
 refine⟨by rw[Yh ha];exact h.1,fun c h1 h2=>?_⟩;obtain⟨q,hq,hr,h1⟩:=h.2 c h1 h2;rw[Ue ha,if_neg]
 ·exact⟨q,hq,hr,h1⟩
 ·rintro⟨h2,h3⟩;rw[hf c h2 h3] at hq;cases hq;omega
theorem fp {size:Nat} {own:List Nat} {a k r:Nat} (ha:a+k≤own.length) (hf:∀ c,a≤c→c < a+k→own[c]? = some 0) {q:Int} {S:QO} (hq:q≠r) (h:XO size own q S):XO size (VT own a k r) q S:=by
 refine⟨h.at1,h.fin,by rw[Yh ha];exact h.parts,h.nodup,fun c=>?_⟩;rw[h.owned,Ue ha];by_cases hc:a≤c∧c < a+k
 ·rw[if_pos hc,hf c hc.1 hc.2];constructor
  ·rintro⟨x,h1,_,h3⟩;cases h1;omega
  ·rintro⟨x,h1,h2,_⟩;cases h1;omega
 ·rw[if_neg hc]
theorem fq {size:Nat} {own:List Nat} {a k r:Nat} (ha:a+k≤own.length) (hf:∀ c,a≤c→c < a+k→own[c]? = some 0) (hk:1≤k) (hr:1≤r) {S:QO} (h:XO size own r S) {x y:Nat}
  (h1:x≤y) (h2:y≠0→∃ c,y=(c+1)*size∧c*size < x∧(c,1)∈S.parts++[(a,k)]):XO size (VT own a k r) r ⟨S.parts++[(a,k)],x,y⟩:=by
 refine⟨h1,h2,?_,?_,fun c=>?_⟩
 ·intro p hp;rw[Yh ha]
  rcases mem_append.1 hp with hp|hp
  ·exact h.parts p hp
  ·simp at hp;subst hp;exact⟨hk,ha⟩
 ·show (QR (S.parts++[(a,k)])).Nodup;rw[XP,A4,nodup_append];refine⟨h.nodup,Sn a k,fun c hc d hd=>?_⟩;rintro rfl;obtain⟨q,h1,_,h3⟩:=(h.owned c).1 hc;have h4:=XS.1 hd;rw[hf c h4.1 h4.2] at h1;cases h1;omega
 ·show c∈QR (S.parts++[(a,k)])↔_;rw[XP,A4,mem_append,XS,h.owned,Ue ha];by_cases hc:a≤c∧c < a+k
  ·rw[if_pos hc];constructor
   ·intro _;exact⟨r,rfl,rfl,by omega⟩
   ·intro _;exact .inr hc
  ·rw[if_neg hc];constructor
   ·rintro(h|h)
    ·exact h
    ·exact absurd h hc
   ·intro h;exact .inl h
theorem Rj {α:Type} {a b:List α} {x y:α} (h:x∈a++b):x∈a++y::b:=by
 rcases mem_append.1 h with h|h
 ·exact mem_append.2 (.inl h)
 ·exact mem_append.2 (.inr (mem_cons_of_mem _ h))
theorem Uz {α:Type} {a b:List α} {x y:α} (h:x∈a++y::b):x=y∨x∈a++b:=by
 rcases mem_append.1 h with h|h
 ·exact .inr (mem_append.2 (.inl h))
 ·rcases mem_cons.1 h with h|h
  ·exact .inl h
  ·exact .inr (mem_append.2 (.inr h))
theorem Ix {K V:Type} {g1 g2:List (K×V)} {x x':K×V} (h:x'.1=x.1):(g1++x'::g2).map (·.1)=(g1++x::g2).map (·.1):=by simp[h]
theorem pi {s:CS} (h:WF s) {i g0:Nat} (hi:s.tab[i]? = some ⟨g0,none⟩) (hg:g0≤254) {r:Nat} {q q2:Nat} {S:QO} {L:List Nat} {p1 p2:List (Int×Nat×QO)} {m1 m2:List (Int×Nat×List Nat)}
  (hs:s.sps=p1++((r:Int),q,S)::p2) (hm:s.mns=m1++((r:Int),q2,L)::m2) (QP:(s.par.map (·.1)).Nodup) {e:Q8} (UF:e.region=r) (ok:Ri s.lays i e) {own' mem mem':List Nat} {S':QO}
  (al:KM s.size s.own mem r S (e.ws.length+1) own' mem' S' e.addr) {L':List Nat} (hL:L'.Pairwise (· < ·)) (A5:∀ j,j∈L'↔j=i∨j∈L) :
  WF { s with own:=own',tab:=s.tab.set i ⟨g0+1,some e⟩,sps:=p1++((r:Int),q,S')::p2,mns:=m1++((r:Int),q2,L')::m2 }:=by
 have Vn:=h.size.1;have UE:i < s.tab.length:=(List.getElem?_eq_some_iff.1 hi).1;have hS:XO s.size s.own r S:=h.spc ((r:Int),q,S) (by rw[hs];simp)
 have X0:∃ y,((r:Int),y)∈s.par:=by
  have:(r:Int)∈s.par.map (·.1):=by rw[← h.skeys,hs];simp
  obtain⟨⟨a,b⟩,Xx,rfl⟩:=mem_map.1 this;exact⟨b,Xx⟩
 have ZK:1≤r:=by obtain⟨y,hy⟩:=X0;have:=(h.par.2.2 _ _ hy).1;omega
 have WR:((p1++((r:Int),q,S)::p2).map (·.1)).Nodup:=by rw[← hs,h.skeys];exact QP
 have A6:∀ x∈p1++p2,x∈s.sps∧x.1≠(r:Int):=by
  intro x hx;refine⟨by rw[hs];exact Rj hx,fun UH=>?_⟩;rw[map_append,map_cons,nodup_append] at WR;obtain⟨_,h2,h3⟩:=WR
  rcases mem_append.1 hx with hx|hx
  ·exact h3 x.1 (mem_map.2 ⟨x,hx,rfl⟩) (r:Int) (by simp) UH
  ·rw[nodup_cons] at h2;exact h2.1 (mem_map.2 ⟨x,hx,UH⟩)
 have VR:∀ x,x∈p1++((r:Int),q,S')::p2→x=((r:Int),q,S')∨x∈p1++p2:=by
  exact fun x hx=>Uz hx
 have key:own'.length=s.own.length∧Ug s.size own' e∧(∀ f,Ug s.size s.own f→Ug s.size own' f)∧XO s.size own' r S'∧(∀ x∈p1++p2,XO s.size own' x.1 x.2.2) ∧
   (∀ (j g:Nat) (f:Q8),s.tab[j]? = some ⟨g,some f⟩→(Qa f≤e.addr∨Qa e≤f.addr)∧(Qa f≤S'.at'∨S'.fin≤f.addr))∧(Qa e≤S'.at'∨S'.fin≤e.addr)∧(∀ (c x:Nat),own'[c]? = some x→x≠0→x=r∨s.own[c]? = some x):=by
  generalize hea:e.addr=ad at al;cases al with
  | room hn=>
   have A7:S.fin≠0:=by omega
   obtain⟨c,Zn,UC,Ku⟩:=hS.fin A7
   have B7:c∈QR S.parts:=by
    unfold QR;rw[mem_flatMap];exact⟨(c,1),Ku,by simp⟩
   obtain⟨y,GR,KN,Fc⟩:=(hS.owned c).1 B7;have GG:=hS.at1;have e1:e.addr / s.size=c:=by rw[hea];exact Nat.div_eq_of_lt_le (by omega) (by rw[← Zn];omega)
   have e2:(e.addr+e.ws.length) / s.size=c:=by rw[hea];exact Nat.div_eq_of_lt_le (by omega) (by rw[← Zn];omega)
   have QM:c < s.own.length:=(List.getElem?_eq_some_iff.1 GR).1;have VO:(c+1)*s.size≤s.own.length*s.size:=Nat.mul_le_mul_right _ QM;refine⟨rfl,⟨by unfold Qa;omega,fun d h1 h2=>?_⟩,fun _ hf=>hf,⟨by show S.at'+_≤S.fin;omega,fun _=>⟨c,Zn,by show c*s.size < S.at'+_;omega,Ku⟩,hS.parts,hS.nodup,hS.owned⟩,fun x hx=>h.spc x (A6 x hx).1,fun j g f hj=>?_,.inl ?_,fun _ _ h1 _ => .inr h1⟩
   ·have:d=c:=by omega
    subst this;exact⟨y,GR,by rw[KN,UF],by omega⟩
   ·have:Qa f≤S.at'∨S.fin≤f.addr:=h.free ((r:Int),q,S) (by rw[hs];simp) _ _ _ hj;have Iy:Qa e=S.at'+(e.ws.length+1):=by unfold Qa;omega
    rw[Iy];constructor
    ·rcases this with h1|h1
     ·left;exact h1
     ·right;show S.at'+_≤f.addr;omega
    ·rcases this with h1|h1
     ·left;show Qa f≤S.at'+_;omega
     ·right;exact h1
   ·show Qa e≤S.at'+_;unfold Qa;omega
  | @one a ha hf hn=>
   have Ze:∀ c,a≤c→c < a+1→s.own[c]? = some 0:=fun c h1 h2=>by rw[show c=a by omega];exact hf
   have Ve:(a+1)*s.size=a*s.size+s.size:=Nat.succ_mul _ _;have VO:(a+1)*s.size≤s.own.length*s.size:=Nat.mul_le_mul_right _ ha;have e1:e.addr / s.size=a:=by rw[hea];exact Nat.mul_div_cancel _ (by omega)
   have e2:(e.addr+e.ws.length) / s.size=a:=by rw[hea];exact Nat.div_eq_of_lt_le (by omega) (by omega)
   have BZ:∀ (j g:Nat) (f:Q8),s.tab[j]? = some ⟨g,some f⟩→Qa f≤a*s.size∨(a+1)*s.size≤f.addr:=fun j g f hj=>by
    rcases (h.obj _ _ _ hj).2.1.chunk Vn a with h1|⟨x,h1,_,h3⟩
    ·exact h1
    ·rw[hf] at h1;cases h1;omega
   refine⟨Yh ha,⟨by rw[Yh ha];unfold Qa;omega,fun d h1 h2=>?_⟩,fun f hl=>fm ha Ze hl,?_,fun x hx=>fp ha Ze (A6 x hx).2 (h.spc x (A6 x hx).1),fun j g f hj=>?_,.inl ?_,fun c x h1 h2=>?_⟩
   ·have:d=a:=by omega
    subst this;rw[Ue ha,if_pos (by omega)];exact⟨r,rfl,UF.symm,ZK⟩
   ·exact fq ha Ze (by omega) ZK hS (by omega) (fun _=>⟨a,rfl,by omega,by simp⟩)
   ·have:=BZ j g f hj;have Iy:Qa e=a*s.size+(e.ws.length+1):=by unfold Qa;omega
    rw[Iy];constructor
    ·rcases this with h1|h1
     ·left;exact h1
     ·right;omega
    ·rcases this with h1|h1
     ·left;show Qa f≤a*s.size+_;omega
     ·right;exact h1
   ·show Qa e≤a*s.size+_;unfold Qa;omega
   ·rw[Ue ha] at h1;split at h1
    ·cases h1;exact .inl rfl
    ·exact .inr h1
  | @run a k hk ha hf hn Gp=>
   have Ve:(a+k)*s.size=a*s.size+k*s.size:=Nat.add_mul _ _ _;have pj:(k - 1+1)*s.size=(k - 1)*s.size+s.size:=Nat.succ_mul _ _;rw[show k - 1+1=k by omega] at pj;have VO:(a+k)*s.size≤s.own.length*s.size:=Nat.mul_le_mul_right _ ha;have e1:e.addr / s.size=a:=by rw[hea];exact Nat.mul_div_cancel _ (by omega)
   have e2:(e.addr+e.ws.length) / s.size < a+k:=by rw[hea,Nat.div_lt_iff_lt_mul (by omega)];omega
   have BZ:∀ c,a≤c→c < a+k→∀ (j g:Nat) (f:Q8),s.tab[j]? = some ⟨g,some f⟩→Qa f≤c*s.size∨(c+1)*s.size≤f.addr:=fun c Zn UC j g f hj=>by
    rcases (h.obj _ _ _ hj).2.1.chunk Vn c with h1|⟨x,h1,_,h3⟩
    ·exact h1
    ·rw[hf c Zn UC] at h1;cases h1;omega
   have pk:∀ (j g:Nat) (f:Q8),s.tab[j]? = some ⟨g,some f⟩→Qa f≤a*s.size∨(a+k)*s.size≤f.addr:=fun j g f hj=>by
    have Sl:f.addr+1≤Qa f:=by unfold Qa;omega
    by_cases h0:Qa f≤a*s.size
    ·exact .inl h0
    ·refine .inr ?_
     have:∀ m,m < k→(a+m+1)*s.size≤f.addr:=by
      intro m
      induction m with
      | zero=>
       intro _
       rcases BZ a (by omega) (by omega) j g f hj with h1|h1
       ·exact absurd h1 h0
       ·exact h1
      | succ m ih=>
       intro hm;have h2:=ih (by omega)
       rcases BZ (a+(m+1)) (by omega) (by omega) j g f hj with h1|h1
       ·rw[show a+(m+1)=a+m+1 by omega] at h1;omega
       ·exact h1
     have:=this (k - 1) (by omega);rw[show a+(k - 1)+1=a+k by omega] at this;exact this
   refine⟨Yh ha,⟨by rw[Yh ha];unfold Qa;omega,fun d h1 h2=>?_⟩,fun f hl=>fm ha hf hl,?_,fun x hx=>fp ha hf (A6 x hx).2 (h.spc x (A6 x hx).1),fun j g f hj=>?_,?_,fun c x h1 h2=>?_⟩
   ·rw[Ue ha,if_pos (by omega)];exact⟨r,rfl,UF.symm,ZK⟩
   ·refine fq ha hf (by omega) ZK hS hS.at1 (fun h0=>?_);obtain⟨c,h1,h2,h3⟩:=hS.fin h0;exact⟨c,h1,h2,by simp[h3]⟩
   ·have:=pk j g f hj;have Iy:Qa e=a*s.size+(e.ws.length+1):=by unfold Qa;omega
    rw[Iy];refine⟨?_,h.free ((r:Int),q,S) (by rw[hs];simp) _ _ _ hj⟩
    rcases this with h1|h1
    ·left;exact h1
    ·right;omega
   ·show Qa e≤S.at'∨S.fin≤a*s.size;by_cases h0:S.fin=0
    ·right;omega
    obtain⟨c,Zn,UC,Ku⟩:=hS.fin h0
    have B7:c∈QR S.parts:=by
     unfold QR;rw[mem_flatMap];exact⟨(c,1),Ku,by simp⟩
    obtain⟨y,GR,KN,Fc⟩:=(hS.owned c).1 B7;by_cases So:c < a
    ·right;have:(c+1)*s.size≤a*s.size:=Nat.mul_le_mul_right _ So;omega
    ·by_cases YL:c < a+k
     ·rw[hf c (by omega) YL] at GR;cases GR;omega
     ·left;have:(a+k)*s.size≤c*s.size:=Nat.mul_le_mul_right _ (by omega);unfold Qa;omega
   ·rw[Ue ha] at h1;split at h1
    ·cases h1;exact .inl rfl
    ·exact .inr h1
 obtain⟨k1,k2,k3,k4,k5,k6,k7,k8⟩:=key;have pm:(p1++((r:Int),q,S')::p2).map (·.1)=s.par.map (·.1):=by rw[← h.skeys,hs];exact Ix rfl
 have Sp:(m1++((r:Int),q2,L')::m2).map (·.1)=s.par.map (·.1):=by rw[← h.mkeys,hm];exact Ix rfl
 have Iz:((m1++((r:Int),q2,L)::m2).map (·.1)).Nodup:=by rw[← hm,h.mkeys];exact QP
 refine⟨h.size,by show 1≤own'.length∧own'.length≤63;rw[k1];exact h.own,by show 1≤(s.tab.set _ _).length∧(s.tab.set _ _).length≤63;rw[length_set];exact h.slots,h.lays,?_,?_,?_,h.par,pm,Sp,?_,?_,?_,?_⟩
 ·intro j t hj
  rcases VE hj with ⟨rfl,rfl,_⟩|⟨_,hj⟩
  ·exact⟨by show g0+1≤255;omega,fun _=>by show 1≤g0+1;omega⟩
  ·exact h.gen _ _ hj
 ·intro j g f hj
  rcases VE hj with ⟨rfl,ht,_⟩|⟨_,hj⟩
  ·injection ht with h1 h2
   injection h2 with h2
   subst h2;exact⟨ok,k2,by rw[UF];exact X0⟩
  ·obtain⟨o1,o2,o3⟩:=h.obj _ _ _ hj;exact⟨o1,k3 _ o2,o3⟩
 ·intro j k m n f f' QB hj hk
  rcases VE hj with ⟨rfl,ht,_⟩|⟨Yf,Zz⟩ <;> rcases VE hk with ⟨rfl,hu,_⟩|⟨PJ,Yk⟩
  ·exact absurd rfl QB
  ·injection ht with h1 h2
   injection h2 with h2
   subst h2;exact(k6 _ _ _ Yk).1.symm
  ·injection hu with h1 h2
   injection h2 with h2
   subst h2;exact(k6 _ _ _ Zz).1
  ·exact h.apart _ _ _ _ _ _ QB Zz Yk
 ·intro x hx
  rcases VR x hx with rfl|hx
  ·exact k4
  ·exact k5 x hx
 ·intro x hx j g f hj
  rcases VE hj with ⟨rfl,ht,_⟩|⟨_,hj⟩
  ·injection ht with h1 h2
   injection h2 with h2
   subst h2
   rcases VR x hx with rfl|hx
   ·exact k7
   ·have QX:=k5 x hx;by_cases h0:x.2.2.fin=0
    ·right;omega
    obtain⟨c,Zn,UC,Ku⟩:=QX.fin h0
    have B7:c∈QR x.2.2.parts:=by
     unfold QR;rw[mem_flatMap];exact⟨(c,1),Ku,by simp⟩
    obtain⟨y,GR,KN,Fc⟩:=(QX.owned c).1 B7;have GG:=QX.at1
    rcases k2.chunk Vn c with (h1|h1)|⟨z,BG,JQ,pn⟩
    ·left;omega
    ·right;omega
    ·exact absurd (show x.1=(r:Int) by rw[GR] at BG;cases BG;rw[← KN,JQ,UF]) (A6 x hx).2
  ·rcases VR x hx with rfl|hx
   ·exact(k6 _ _ _ hj).2
   ·exact h.free x (A6 x hx).1 _ _ _ hj
 ·intro c x hc h0
  rcases k8 c x hc h0 with rfl|h1
  ·exact X0
  ·exact h.live c x h1 h0
 ·intro x hx
  have VA:x=((r:Int),q2,L')∨(x∈s.mns∧x.1≠(r:Int)):=by
   have Z8:x=((r:Int),q2,L')∨x∈m1++m2:=by
    exact Uz hx
   rcases Z8 with h1|h1
   ·exact .inl h1
   ·refine .inr ⟨by rw[hm];exact Rj h1,fun UH=>?_⟩;rw[map_append,map_cons,nodup_append] at Iz;obtain⟨_,h2,h3⟩:=Iz
    rcases mem_append.1 h1 with hx|hx
    ·exact h3 x.1 (mem_map.2 ⟨x,hx,rfl⟩) (r:Int) (by simp) UH
    ·rw[nodup_cons] at h2;exact h2.1 (mem_map.2 ⟨x,hx,UH⟩)
  rcases VA with rfl|⟨hx,QB⟩
  ·refine⟨hL,fun j=>?_⟩;show j∈L'↔_;rw[A5,(h.mine ((r:Int),q2,L) (by rw[hm];simp)).2];constructor
   ·rintro(rfl|⟨g,f,h1,h2⟩)
    ·exact⟨g0+1,e,by show (s.tab.set _ _)[_]? = _;simp[UE],UF⟩
    ·by_cases Yf:j=i
     ·subst Yf;rw[hi] at h1;cases h1
     ·exact⟨g,f,by show (s.tab.set _ _)[_]? = _;rw[getElem?_set_ne (fun q=>Yf q.symm)];exact h1,h2⟩
   ·rintro⟨g,f,h1,h2⟩
    rcases VE h1 with ⟨rfl,_,_⟩|⟨_,h1⟩
    ·exact .inl rfl
    ·exact .inr ⟨g,f,h1,h2⟩
  ·obtain⟨h1,h2⟩:=h.mine x hx;refine⟨h1,fun j=>?_⟩;rw[h2];constructor
   ·rintro⟨g,f,h3,h4⟩;by_cases Yf:j=i
    ·subst Yf;rw[hi] at h3;cases h3
    ·exact⟨g,f,by show (s.tab.set _ _)[_]? = _;rw[getElem?_set_ne (fun q=>Yf q.symm)];exact h3,h4⟩
   ·rintro⟨g,f,h3,h4⟩
    rcases VE h3 with ⟨rfl,ht,_⟩|⟨_,h3⟩
    ·injection ht with _ h5
     injection h5 with h5
     subst h5;exact absurd (h4.symm.trans UF) QB
    ·exact⟨g,f,h3,h4⟩
theorem ft {s:CS} (h:WF s) {mem mem' own':List Nat} (hm:mem.length=s.own.length*s.size) {r n ad:Nat} {S S':QO} (al:KM s.size s.own mem r S n own' mem' S' ad) :
  mem'.length=mem.length∧∀ (j g:Nat) (f:Q8),s.tab[j]? = some ⟨g,some f⟩→∀ k,f.addr≤k→k < Qa f→mem'[k]? = mem[k]?:=by
 have Vn:=h.size.1
 have off:∀ (a K:Nat),a+K≤s.own.length→(∀ c,a≤c→c < a+K→s.own[c]? = some 0)→(VT mem (a*s.size) (K*s.size) 0).length=mem.length ∧
   ∀ (j g:Nat) (f:Q8),s.tab[j]? = some ⟨g,some f⟩→∀ k,f.addr≤k→k < Qa f→(VT mem (a*s.size) (K*s.size) 0)[k]? = mem[k]?:=by
  intro a K ha hf;have Ve:(a+K)*s.size=a*s.size+K*s.size:=Nat.add_mul _ _ _;have VO:(a+K)*s.size≤s.own.length*s.size:=Nat.mul_le_mul_right _ ha;refine⟨Yh (by omega),fun j g f hj k h1 h2=>?_⟩;rw[Ue (by omega),if_neg];rintro⟨h3,h4⟩;unfold Qa at h2;have c1:f.addr / s.size≤k / s.size:=Nat.div_le_div_right h1;have c2:k / s.size≤(f.addr+f.ws.length) / s.size:=Nat.div_le_div_right (by omega);obtain⟨q,hq,_,JV⟩:=(h.obj _ _ _ hj).2.1.2 _ c1 c2;have c3:a≤k / s.size:=(Nat.le_div_iff_mul_le (by omega)).2 h3;have c4:k / s.size < a+K:=(Nat.div_lt_iff_lt_mul (by omega)).2 (by omega);rw[hf _ c3 c4] at hq;cases hq;omega
 cases al with
 | room _=>exact⟨rfl,fun _ _ _ _ _ _ _=>rfl⟩
 | @one a ha hf _=>exact off a 1 ha (fun c h1 h2=>by rw[show c=a by omega];exact hf)
 | @run a k _ ha hf _ _=>exact off a k ha hf
theorem po {s:CS} (h:WF s) {mem mem1 mem2 own':List Nat} (m:Y8 s mem) {r i g0:Nat} (hi:s.tab[i]? = some ⟨g0,none⟩) {S S':QO} {e:Q8} (al:KM s.size s.own mem r S (e.ws.length+1) own' mem1 S' e.addr)
  (hl:mem2.length=mem1.length) (Z9:own'.length=s.own.length) (hh:mem2[e.addr]? = some (Uy e.lay e.count i)) (hw:∀ (p w:Nat),e.ws[p]? = some w→mem2[e.addr+1+p]? = some w) (YW:∀ k,k < e.addr∨Qa e≤k→mem2[k]? = mem1[k]?)
  (GF:∀ (j g:Nat) (f:Q8),s.tab[j]? = some ⟨g,some f⟩→Qa f≤e.addr∨Qa e≤f.addr) {s':CS} (h1:s'.own=own') (h2:s'.size=s.size) (h3:s'.tab=s.tab.set i ⟨g0+1,some e⟩):Y8 s' mem2:=by
 obtain⟨a1,a2⟩:=ft h m.len al
 have old:∀ (j g:Nat) (f:Q8),s.tab[j]? = some ⟨g,some f⟩→∀ k,f.addr≤k→k < Qa f→mem2[k]? = mem[k]? := fun j g f hj k k1 k2=>by
  rw[← a2 j g f hj k k1 k2];refine YW k ?_
  rcases GF j g f hj with h|h
  ·left;omega
  ·right;omega
 refine⟨by rw[hl,a1,h1,h2,Z9];exact m.len,?_,?_⟩
 ·intro j g f hj;rw[h3] at hj
  rcases VE hj with ⟨rfl,ht,_⟩|⟨_,hj⟩
  ·injection ht with _ h5
   injection h5 with h5
   subst h5;exact hh
  ·rw[old j g f hj f.addr (Nat.le_refl _) (by unfold Qa;omega)];exact m.head _ _ _ hj
 ·intro j g f hj p w hp;rw[h3] at hj
  rcases VE hj with ⟨rfl,ht,_⟩|⟨_,hj⟩
  ·injection ht with _ h5
   injection h5 with h5
   subst h5;exact hw p w hp
  ·have KO:=(List.getElem?_eq_some_iff.1 hp).1;rw[old j g f hj _ (by omega) (by unfold Qa;omega)];exact m.words _ _ _ hj p w hp
theorem pq {s:CS} (h:WF s) {parent:Int} {q q2:Nat} (hl:s.par.length < 64) (UD:s.last+1 < 1000000) :
  WF { s with last:=s.last+1,par:=s.par++[(((s.last+1:Nat):Int),parent)],sps:=s.sps++[(((s.last+1:Nat):Int),q,⟨[],0,0⟩)],mns:=s.mns++[(((s.last+1:Nat):Int),q2,[])] }:=by
 have GK:∀ r x,(r,x)∈s.par→r≠((s.last+1:Nat):Int):=fun r x hx=>by
  have:=(h.par.2.2 r x hx).2;omega
 refine⟨h.size,h.own,h.slots,h.lays,h.gen,fun i g e hi=>?_,h.apart,⟨by show (s.par++[_]).length≤64;simp;omega,UD,?_⟩,?_,?_,?_,?_,fun c r hc h0=>?_,?_⟩
 ·obtain⟨a,b,y,hy⟩:=h.obj i g e hi;exact⟨a,b,y,mem_append.2 (.inl hy)⟩
 ·intro r x hx;have hx:(r,x)∈s.par++[_]:=hx;show 1≤r∧r≤((s.last+1:Nat):Int)
  rcases mem_append.1 hx with hx|hx
  ·have:=h.par.2.2 r x hx;omega
  ·simp at hx;omega
 ·have:=h.skeys;simp[this]
 ·have:=h.mkeys;simp[this]
 ·intro x hx
  rcases mem_append.1 (show x∈s.sps++[_] from hx) with hx|hx
  ·exact h.spc x hx
  ·simp at hx;subst hx;refine⟨Nat.le_refl _,fun h0=>absurd rfl h0,fun p hp=>(by cases hp),by simp[QR],fun c=>⟨fun hc=>by simp[QR] at hc,?_⟩⟩;rintro⟨y,h1,h2,h3⟩;obtain⟨z,hz⟩:=h.live c y h1 h3;exact absurd h2 (GK _ _ hz)
 ·intro x hx i g e hi
  rcases mem_append.1 (show x∈s.sps++[_] from hx) with hx|hx
  ·exact h.free x hx i g e hi
  ·simp at hx;subst hx;exact .inr (Nat.zero_le _)
 ·obtain⟨y,hy⟩:=h.live c r hc h0;exact⟨y,mem_append.2 (.inl hy)⟩
 ·intro x hx
  rcases mem_append.1 (show x∈s.mns++[_] from hx) with hx|hx
  ·exact h.mine x hx
  ·simp at hx;subst hx;refine⟨by simp,fun i=>⟨fun hc=>by simp at hc,?_⟩⟩;rintro⟨g,e,h1,h2⟩;obtain⟨_,_,y,hy⟩:=h.obj _ _ _ h1;exact absurd h2 (GK _ _ hy)
theorem pr {lays:List Qb} {i:Nat} {e:Q8} (h:Ri lays i e) (x:Qb):Ri (lays++[x]) i e:=by
 obtain⟨m,l,h1,h2⟩:=h;exact⟨m,l,by rw[getElem?_append_left (List.getElem?_eq_some_iff.1 h1).1];exact h1,h2⟩
theorem pt {s:CS} (h:WF s) {l:Qb} (hr:YU l) (hl:s.lays.length < 64):WF { s with lays:=s.lays++[l] }:=by
 refine⟨h.size,h.own,h.slots,⟨by show (s.lays++[l]).length≤64;simp;omega,fun x hx=>?_⟩,h.gen,fun i g e hi=>?_,h.apart,h.par,h.skeys,h.mkeys,h.spc,h.free,h.live,h.mine⟩
 ·rcases mem_append.1 hx with hx|hx
  ·exact h.lays.2 x hx
  ·simp at hx;subst hx;exact hr
 ·obtain⟨a,b⟩:=h.obj i g e hi;exact⟨pr a l,b⟩
theorem Fe {s:CS} (h:WF s) (m:List ((Int×Int)×Int)):WF { s with rem:=m }:=⟨h.size,h.own,h.slots,h.lays,h.gen,h.obj,h.apart,h.par,h.skeys,h.mkeys,h.spc,h.free,h.live,h.mine⟩
theorem Nq {s:CS} {mem:List Nat} (h:Y8 s mem) (m:List ((Int×Int)×Int)):Y8 { s with rem:=m } mem:=⟨h.len,h.head,h.words⟩
end Go.Proofs.YtmjdnljneifpcaaGreatDoor
set_option linter.unusedSectionVars false
namespace Go.Proofs.YtmjdnljneifpcaaGreatDoor
open List
open Go.SL
@[reducible] def YB (q:Nat×Nat):List Value:=[.int .i64 q.1,.int .i64 q.2]
theorem WW (q:Nat×Nat):(YB q).length=2:=rfl
def Qy (p sp owner:Nat) (S:QO):Q2:=ex fun v:Value=>star [pts p (row 206 [pp sp,.int .i64 owner,v,.int .i64 S.at',.int .i64 S.fin]),QE 208 2 v (S.parts.flatMap YB)]
theorem X4 [Q4] {w:World} {p sp owner:Nat} {S:QO} {l:List Q2} (H:Q0 w (Qy p sp owner S::l)):∃ a c,Q0 w (pts p (row 206 [pp sp,.int .i64 owner,.slice a S.parts.length c,.int .i64 S.at',.int .i64 S.fin])::QE 208 2 (.slice a S.parts.length c) (S.parts.flatMap YB)::l):=by
 obtain⟨v,H⟩:=Q0.ex.1 H;have H:=Q0.star.1 H;obtain⟨a,c,rfl⟩:=QI H.drop (Xs WW _) (by decide);exact⟨a,c,H⟩
theorem Gb [Q4] {w:World} {p sp owner:Nat} {S:QO} {l:List Q2} {v:Value} (H:Q0 w (pts p (row 206 [pp sp,.int .i64 owner,v,.int .i64 S.at',.int .i64 S.fin])::QE 208 2 v (S.parts.flatMap YB)::l)):Q0 w (Qy p sp owner S::l):=
 Q0.ex.2 ⟨v,Q0.star.2 H⟩
theorem Sq [Q4] (sp owner:Nat) (ho:1≤owner) {w:World} {fr:List Q2} (H:Q0 w fr) :
  Calls Tryz.prog 67 #[pp sp,.int .i64 owner] w (ret fun v w'=>∃ p,v = .tuple #[pp p,.int .i64 0]∧Q0 w' (Qy p sp owner ⟨[],0,0⟩::fr)):=by
 refine QQ Tryz.func67 rfl (by kernel_rfl) ?_;refine I8 H ?_;refine Yx (fun ms σ w=>ms=[]∧σ 0=pp sp∧σ 1 = .int .i64 owner∧Q0 w fr) ?_ ?_
 ·refine Bx H ?_;refine Vj H ?_;rw[show decide ((owner:Int) < 1)=false from decide_eq_false (by omega)];refine Vf H ?_;exact .inl ⟨rfl,rfl,rfl,rfl,H⟩
 ·clear H;rintro ms σ w ⟨rfl,g0,g1,H⟩;rw[Q1 g0,Q1 g1];refine J9 H ?_;refine W6 H ?_;clear H;intro b15 w H;refine J4 H ?_;have H:=(Zy (E:=208) (k:=2) H).swap;exact Q3 (Jy H rfl fun w' H'=>⟨_,rfl,Gb (S:=⟨[],0,0⟩) H'⟩)
theorem pu [Q4] (p sp owner:Nat) (S:QO) (h1:S.at'≤S.fin) (h2:S.fin≤1048576) {w:World} {fr:List Q2} (H:Q0 w (Qy p sp owner S::fr)) :
  Calls Tryz.prog 133 #[pp p] w (ret fun v w'=>v = .int .i64 ((S.fin - S.at':Nat):Int)∧Q0 w' (Qy p sp owner S::fr)):=by
 obtain⟨a,c,H⟩:=X4 H;refine QQ Tryz.func133 rfl (by kernel_rfl) ?_;refine MT H ?_;clear H;intro w H;refine W8 H ?_;refine Mw H ?_;refine Ja 8 ?_;refine Ja 9 ?_;refine Jx H ?_;refine Q3 (Jy (Gb H) rfl fun w' H'=>⟨?_,H'⟩);show Value.int .i64 (IntKind.i64.wrap ((S.fin:Int) - (S.at':Int)))=_;rw[Qg (by omega) (by omega)];congr 1;omega
theorem fw [Q4] (p sp owner size n:Nat) (S:QO) (mem own:List Nat) (ho:1≤owner) (Xy:1≤n) (Gp:n≤100000) (h1:S.at'≤S.fin) (h2:S.fin≤1048576) (XN:own.length≤63) (Vn:1≤size) (Yo:size≤1024) (hp:S.parts.length≤1000) {w:World} {fr:List Q2} [hT:Z6 0 Lib.deBruijn64tab fr]
  (H:Q0 w (Qy p sp owner S::ST sp size mem own::fr)) :
  Calls Tryz.prog 70 #[pp p,.int .i64 n] w (ret fun v w'=>(∃ a own' mem' S',v = .tuple #[.int .i64 ((a:Nat):Int),.int .i64 0]∧KM size own mem owner S n own' mem' S' a∧Q0 w' (Qy p sp owner S'::ST sp size mem' own'::fr)) ∨
   (v = .tuple #[.int .i64 0,.int .i64 11]∧(∀ a,a+((n - 1) / size+1)≤own.length→∃ i,a≤i∧i < a+((n - 1) / size+1)∧own.getD i 0≠0)∧Q0 w' (Qy p sp owner S::ST sp size mem own::fr))):=by
 refine QQ Tryz.func70 rfl (by kernel_rfl) ?_;refine I8 H ?_;refine Yx (fun ms σ w=>ms=[]∧σ 0=pp p∧σ 1 = .int .i64 n∧Q0 w (Qy p sp owner S::ST sp size mem own::fr)) ?_ ?_
 ·refine Bx H ?_;refine Vj H ?_;rw[show decide ((n:Int) < 1)=false from decide_eq_false (by omega)];refine F5 H ?_;refine J9 H ?_;refine Jc rfl rfl (pu p sp owner S h1 h2 H) ?_;clear H;rintro v w ⟨rfl,H⟩;refine J4 H ?_;by_cases hr:n≤S.fin - S.at'
  ·rw[show decide ((n:Int)≤((S.fin - S.at':Nat):Int))=true from decide_eq_true (by omega)];refine Vr H ?_;obtain⟨a,c,H⟩:=X4 H;refine XF H ?_;rw[Qg (x:=(S.at':Int)+(n:Int)) (by omega) (by omega),show (S.at':Int)+(n:Int)=((S.at'+n:Nat):Int) by omega];refine XH H ?_;clear H;intro w H;refine J2 H ?_;refine XF H ?_;refine J4 H ?_;refine Q3 (.inr ⟨by simp,Jy (Gb (S:={ S with at':=S.at'+n }) H) rfl fun w' H' => .inl ⟨S.at',own,mem,_,?_,.room hr,H'⟩⟩);show Value.tuple #[.int .i64 (IntKind.i64.wrap (((S.at'+n:Nat):Int) - (n:Int))),_]=_;rw[Qg (by omega) (by omega),show ((S.at'+n:Nat):Int) - (n:Int)=(S.at':Int) by omega];rfl
  ·rw[show decide ((n:Int)≤((S.fin - S.at':Nat):Int))=false from decide_eq_false (by omega)];refine Vf H ?_;exact .inl ⟨rfl,rfl,rfl,rfl,H⟩
 ·clear H;rintro ms σ w ⟨rfl,g0,g1,H⟩;rw[Q1 g0,Q1 g1];obtain⟨a,c,H⟩:=X4 H;have hk:(n - 1) / size+1≤n:=by have:=Nat.div_le_self (n - 1) size;omega
  have XT:(n - 1) / size*size≤n - 1:=Nat.div_mul_le_self _ _
  have VN:n≤((n - 1) / size+1)*size:=by
   have:=Nat.lt_div_mul_add (a:=n - 1) (b:=size) (by omega);rw[Nat.succ_mul];omega
  refine G1 H ?_;replace H:=Js [2,0,0] 0 H;refine Jc rfl rfl (Io sp size mem own H) ?_;clear H;rintro v w ⟨rfl,H⟩;refine Mx H ?_;rw[Qg (x:=(n:Int) - 1) (by omega) (by omega),show (n:Int) - 1=((n - 1:Nat):Int) by omega]
  refine Kh (v := .int .i64 (((n - 1) / size:Nat):Int)) (by
   show (if IntKind.i64=IntKind.i64 then (if (size:Int)=0 then none else some _) else none)=_;rw[if_pos rfl,if_neg (by omega),CK (by omega)]) rfl ?_
  refine J4 H ?_;generalize Kv:(n - 1) / size=q at hk XT VN;rw[Qg (x:=((q:Nat):Int)+1) (by omega) (by omega),show ((q:Nat):Int)+1=((q+1:Nat):Int) by omega];refine J1 H ?_;clear H;intro w H;refine Mu H ?_;refine Mv H ?_;refine Jl 7 [9] H ?_;refine Ja 8 ?_;refine Jo 9 H ?_;refine Jk rfl rfl (pQ sp size mem own owner (q+1) XN ho (by omega) (by omega) H) ?_;clear H;rintro v w (⟨b,rfl,hb,Zw,H⟩|⟨rfl,VZ,H⟩)
  ·have hf:∀ c,b≤c→c < b+(q+1)→own[c]? = some 0:=fun c e1 e2=>by
    have:=Zw c e1 e2;rw[getD_eq_getElem?_getD,getElem?_eq_getElem (by omega)] at this;rw[getElem?_eq_getElem (by omega)];simpa using this
   have hbs:(b+(q+1))*size≤63*1024:=Nat.mul_le_mul (by omega) Yo;have Q0e:(b+(q+1))*size=b*size+(q+1)*size:=Nat.add_mul _ _ _;have Q0f:(b+1)*size=b*size+size:=Nat.succ_mul _ _;have hsq:size≤(q+1)*size:=Nat.le_mul_of_pos_left _ (by omega);refine Pz H ?_;refine Ja 14 ?_;refine Jx H ?_;refine KC H ?_;refine Es H ?_;refine ZS H ?_;refine Hz H ?_;clear H;intro b69 w H;replace H:=Js [3,0,1,0] 0 H;refine Q5 rfl (ZU H rfl rfl (by repeat first|exact .nil _|apply QY.cons rfl) rfl (by decide) (by rw[Xs WW];simp only[length_cons,length_nil];omega) rfl rfl ?_);clear H;intro v70 w H;obtain⟨a70,m70,c70,rfl⟩:=V8 H;have e1:S.parts.flatMap YB++[.int .i64 b,.int .i64 ((q+1:Nat):Int)]=(S.parts++[(b,q+1)]).flatMap YB:=by simp
   rw[e1] at H;refine XH H ?_;clear H;intro w H;refine Rd H ?_;by_cases hq:q=0
   ·subst hq;rw[show (((0+1:Nat):Int) == 1)=true from rfl];refine J6 H ?_;refine Qt (fun ms σ w=>ms=[]∧σ 6 = .int .i64 size∧σ 8 = .int .i64 b∧Q0 w (Qy p sp owner ⟨S.parts++[(b,1)],b*size+n,(b+1)*size⟩::ST sp size (VT mem (b*size) (1*size) 0) (VT own b 1 owner)::fr)) ?_ ?_
    ·refine YY rfl ?_;have m1:(b:Int)*(size:Int)=((b*size:Nat):Int):=(Int.natCast_mul _ _).symm;have m2:((b:Int)+1)*(size:Int)=(((b+1)*size:Nat):Int):=by rw[Int.natCast_mul,Int.natCast_add];rfl
     refine J9 H ?_;refine F6 H ?_;refine I5 H ?_;rw[Qg (x:=(b:Int)+1) (by omega) (by omega),m1,m2,Qg (x:=((b*size:Nat):Int)) (by omega) (by omega),Qg (x:=(((b+1)*size:Nat):Int)) (by omega) (by omega),Qg (x:=((b*size:Nat):Int)+(n:Int)) (by omega) (by omega),show ((b*size:Nat):Int)+(n:Int)=((b*size+n:Nat):Int) by omega];refine XH H ?_;clear H;intro w H;refine XH H ?_;clear H;intro w H;refine J2 H ?_;replace H:=Js [2,0,1] 1 H;exact⟨rfl,rfl,rfl,rfl,Gb (S:=⟨S.parts++[(b,1)],b*size+n,(b+1)*size⟩) H⟩
    ·clear H;rintro ms σ w ⟨rfl,g6,g8,H⟩;rw[Q1 g6,Q1 g8];refine Al H ?_;refine Q3 (Jy H rfl fun w' H' => .inl ⟨b*size,_,_,_,?_,.one (by omega) (hf b (by omega) (by omega)) (by omega),H'⟩);show Value.tuple #[.int .i64 (IntKind.i64.wrap ((b:Int)*(size:Int))),_]=_;rw[← Int.natCast_mul,Qg (by omega) (by omega)];rfl
   ·rw[show (((q+1:Nat):Int) == 1)=false by simp;omega];refine Vf H ?_;refine Al H ?_;replace H:=Js [2,0,1] 1 H;refine Q3 (Jy (Gb (S:=⟨S.parts++[(b,q+1)],S.at',S.fin⟩) H) rfl fun w' H' => .inl ⟨b*size,_,_,_,?_,.run (k:=q+1) (by omega) hb hf VN (by rw[Nat.add_sub_cancel];omega),H'⟩);show Value.tuple #[.int .i64 (IntKind.i64.wrap ((b:Int)*(size:Int))),_]=_;rw[← Int.natCast_mul,Qg (by omega) (by omega)];rfl
  ·refine Pz H ?_;refine Ja 14 ?_;refine Jx H ?_;refine J3 H ?_;refine My H ?_;replace H:=Js [1,1,0] 0 H;exact Q3 (Jy (Gb H) rfl fun w' H' => .inr ⟨rfl,VZ,H'⟩)
open Go.SL
@[reducible] def V6 (ip sp bp:Nat):Q2:=pts ip (row 222 [pp sp,pp bp])
structure WA (ls:List Qb) (size:Nat) (mem own:List Nat) (addr i c s n:Nat) (l:Qb):Prop where
 may:Wy i c s
 lay:ls[i - 1]? = some l
 right:YU l
 siz:Vg l c=(n,0)
 head:mem.getD addr 0=Uy i c s
 fit:addr+1+n≤mem.length
 owned:Xw size own addr (n+1)
theorem Xw.sub {size:Nat} {own:List Nat} {a n b m:Nat} (h:Xw size own a n) (h1:a≤b) (h2:b+m≤a+n) (h3:1≤m):Xw size own b m:=fun c c1 c2=>
 h c (Nat.le_trans (Nat.div_le_div_right h1) c1) (Nat.le_trans c2 (Nat.div_le_div_right (by omega)))
theorem pw [Q4] (sp bp:Nat) {w:World} {fr:List Q2} (H:Q0 w fr) :
  Calls Tryz.prog 83 #[pp sp,pp bp] w (ret fun v w'=>∃ ip,v = .tuple #[pp ip,.int .i64 0]∧Q0 w' (V6 ip sp bp::fr)):=by
 refine QQ Tryz.func83 rfl (by kernel_rfl) ?_;refine J3 H ?_;refine Ep H ?_;refine Ej H ?_;refine ID H ?_;refine J9 H ?_;refine W6 H ?_;clear H;intro b15 w H;refine J4 H ?_;exact Q3 (Jy H rfl fun w' H'=>⟨_,rfl,H'⟩)
theorem Sr [Q4] (p:Nat) (ls:List Qb) (i:Nat) (h1:1≤i) (l:Qb) (hk:ls[i - 1]? = some l) {w:World} {fr:List Q2} (H:Q0 w (Qp p ls::fr)) :
  Calls Tryz.prog 88 #[pp p,.int .i64 i] w (ret fun x w'=>∃ vr vq,x = .tuple #[GU l.fixed vr l.record vq,.int .i64 0]∧Q0 w' (NL vr l.refs::NL vq l.recs::Qp p ls::fr)):=by
 obtain⟨k,rfl⟩:∃ k,i=k+1:=⟨i - 1,by omega⟩;rw[Nat.add_sub_cancel] at hk;rw[show (((k+1:Nat):Int))=(k:Int)+1 by omega];exact pJ p ls k l hk H
theorem gQ [Q4] (ip sp bp:Nat) (ls:List Qb) (i c s n:Nat) (l:Qb) (hm:Wy i c s) (hl:ls[i - 1]? = some l) (hR:YU l) (hz:Vg l c=(n,0)) {w:World} {fr:List Q2} (H:Q0 w (V6 ip sp bp::Qp bp ls::fr)) :
  Calls Tryz.prog 153 #[pp ip,CX i c s] w (ret fun v w'=>∃ vr vq,v = .tuple #[GU l.fixed vr l.record vq,.int .i64 n,.int .i64 0]∧Q0 w' (NL vr l.refs::NL vq l.recs::V6 ip sp bp::Qp bp ls::fr)):=by
 have hi:=hm.1;refine QQ Tryz.func153 rfl (by kernel_rfl) ?_;refine J8 H ?_;clear H;intro b3 w H;refine VS H ?_;clear H;intro b4 w H;refine Ai H ?_
 refine Qt (fun ms σ w=>ms=[]∧∃ b7 vr vq,σ 3=pp b3∧σ 4=pp b4∧σ 7=pp b7∧σ 8 = .int .i64 0 ∧
  Q0 w (pts b7 (row 102 [.int .i64 l.fixed,vr,.int .i64 l.record,vq])::NL vr l.refs::NL vq l.recs::pts b4 (row 102 [.int .i64 0,.slice none 0 0,.int .i64 0,.slice none 0 0])::pts b3 (row 115 [.int .i64 i,.int .i64 c,.int .i64 s])::V6 ip sp bp::Qp bp ls::fr)) ?_ ?_
 ·replace H:=Js [3,0,0,0] 0 H;refine J1 H ?_;clear H;intro w H;refine YN H ?_;refine Jl 3 [6,11] H ?_;refine Jf 4 ?_;refine Jl 5 [6,11] H ?_;refine Jw 6 10 H rfl rfl (V1 (a:=[]) (b:=[]) rfl rfl (call (Sr bp ls i hi l hl H) ?_)) (YH H rfl ?_)
  ·clear H;rintro v w ⟨vr,vq,rfl,H⟩;obtain⟨aa,ma,ca,rfl⟩:=V8 H;obtain⟨ab,mb,cb,rfl⟩:=V8 H.drop;refine C3 H ?_;clear H;intro b7 w H;refine Km H ?_;clear H;intro w H;refine KH H ?_;replace H:=Js [0,0,0,1,1,1,0] 0 H;exact⟨rfl,rfl,b7,_,_,rfl,rfl,rfl,rfl,H⟩
  ·clear H;intro b7 w H;refine Jo 6 H ?_;refine Jk rfl rfl (Sr bp ls i hi l hl H.swap) ?_;clear H;rintro v w ⟨vr,vq,rfl,H⟩;obtain⟨aa,ma,ca,rfl⟩:=V8 H;obtain⟨ab,mb,cb,rfl⟩:=V8 H.drop;refine IF H ?_;clear H;intro w H;refine KH H ?_;replace H:=Js [3,0,0,1,1,1,0] 0 H;exact⟨rfl,rfl,b7,_,_,rfl,rfl,rfl,rfl,H⟩
 ·clear H;rintro ms σ w ⟨rfl,b7,vr,vq,g3,g4,g7,g8,H⟩;rw[Q1 g3,Q1 g4,Q1 g7,Q1 g8];obtain⟨aa,ma,rfl⟩:=QI H.drop (QJ _) (by decide);obtain⟨ab,mb,rfl⟩:=QI H.drop.drop (QJ _) (by decide);refine KC H ?_;refine XD H ?_;refine Gm H ?_;replace H:=Js [1,1,0,0,0,0,0] 0 H;obtain⟨D1,H,Y2,Vo⟩:=sls_rd H (QJ _) (by decide);obtain⟨D2,H,Zj,ZR⟩:=sls_rd H.swap (QJ _) (by decide);refine Jc rfl rfl (Iq _ _ l hR c ⟨(Y2 _).there,Zj _⟩ H) ?_;clear H;rintro v w ⟨rfl,H⟩;rw[hz];replace H:=Vo _ _ (ZR _ _ H).swap;refine U2 H ?_;refine XD H ?_;refine Mz H ?_;clear H;intro w H;refine J4 H ?_;replace H:=Js [3,0,0,2,2] 2 H;exact Q3 (Jz H (fun w' H' => .cellN H' rfl (by repeat first|exact .nil _|apply QY.cons rfl) (.tmp (.tmp .nil))) fun w' H'=>⟨_,_,rfl,H'.drop⟩)
theorem Ss [Q4] (ip sp bp size:Nat) (ls:List Qb) (mem own:List Nat) (addr i c s n:Nat) (l:Qb) (h:WA ls size mem own addr i c s n l) {w:World} {fr:List Q2} (H:Q0 w (V6 ip sp bp::Qp bp ls::ST sp size mem own::fr)) :
  Calls Tryz.prog 111 #[pp ip,.int .i64 addr] w (ret fun v w'=>∃ vr vq,v = .tuple #[CX i c s,GU l.fixed vr l.record vq,.int .i64 n,.int .i64 0]∧Q0 w' (NL vr l.refs::NL vq l.recs::V6 ip sp bp::Qp bp ls::ST sp size mem own::fr)):=by
 obtain⟨hm,hl,hR,hz,hh,hf,ho⟩:=h;refine QQ Tryz.func111 rfl (by kernel_rfl) ?_;refine YM H ?_;clear H;intro b4 w H;refine VS H ?_;clear H;intro b5 w H;refine J4 H ?_;refine VM H ?_;replace H:=Js [4,0,0,0,0] 0 H;refine Jc rfl rfl (SN sp size mem own addr (by omega) (ho.sub (Nat.le_refl _) (by omega) (by omega)) H) ?_;clear H;rintro v w ⟨rfl,H⟩;rw[hh];refine UA H ?_;refine Z4 H ?_;refine Jc rfl rfl (om i c s hm H) ?_;clear H;rintro v w ⟨rfl,H⟩;refine YA H ?_;clear H;intro b10 w H;refine J5 H ?_;clear H;intro w H;refine ZT H ?_;refine Xt H ?_;replace H:=Js [4,4,1,1,1,0] 0 H;refine Jc rfl rfl (gQ ip sp bp ls i c s n l hm hl hR hz H) ?_;clear H;rintro v w ⟨vr,vq,rfl,H⟩;obtain⟨aa,ma,ca,rfl⟩:=V8 H;obtain⟨ab,mb,cb,rfl⟩:=V8 H.drop;refine F6 H ?_;refine VS H ?_;clear H;intro b11 w H;refine J5 H ?_;clear H;intro w H;refine J4 H ?_;refine J1 H ?_;clear H;intro w H;refine Vw 0 [4,5] H rfl (Q9.none rfl) rfl (by repeat first|exact .nil _|apply QY.cons rfl) (by kernel_rfl) ?_;refine Vw 1 [5] H rfl (Q9.none rfl) rfl (by repeat first|exact .nil _|apply QY.cons rfl) (by kernel_rfl) ?_;refine Ja 2 ?_;refine Ja 3 ?_;refine Jo 4 H ?_;refine KD H ?_;clear H;intro w H;refine Jo 5 H ?_;refine KD H ?_;clear H;intro w H;refine Ja 6 ?_;refine Ja 7 ?_;refine Jx H ?_;replace H:=Js [7,6,1,1,1,1,1] 2 H;exact Q3 (Jz H (fun w' H' => .cellN H' rfl (by repeat first|exact .nil _|apply QY.cons rfl) (.cellN H' rfl (by repeat first|exact .nil _|apply QY.cons rfl) (.tmp (.tmp .nil)))) fun w' H'=>⟨_,_,rfl,H'.drop.drop⟩)
def Qc (l:Qb) (n:Nat) (place:Int) (ref:Bool):Nat:=if place < 0∨(n:Int)≤place then 3 else if Va l place.toNat≠ref then 9 else 0
theorem UI {l:Qb} {n:Nat} {place:Int} {ref:Bool} (h:Qc l n place ref=0):∃ p:Nat,place=p∧p < n∧Va l p=ref:=by
 unfold Qc at h;split at h
 ·omega
 ·split at h
  ·omega
  ·rename_i h1 h2;exact⟨place.toNat,by omega,by omega,by simpa using h2⟩
theorem Nr [Q4] {w:World} {p size:Nat} {mem own:List Nat} {l:List Q2} (H:Q0 w (ST p size mem own::l)):mem.length≤1048576:=by
 obtain⟨v,v2,u,ws,many,QX,_⟩:=KJ H;rw[QX.len];exact Nat.mul_le_mul QX.c2 QX.s2
theorem Ns [Q4] (ip sp bp size:Nat) (ls:List Qb) (mem own:List Nat) (addr i c s n:Nat) (l:Qb) (h:WA ls size mem own addr i c s n l) (place:Int) (ref:Bool) {w:World} {fr:List Q2} (H:Q0 w (V6 ip sp bp::Qp bp ls::ST sp size mem own::fr)) :
  Calls Tryz.prog 123 #[pp ip,.int .i64 addr,.int .i64 place,.bool ref] w (ret fun v w'=>v = .tuple #[.int .i64 ((if Qc l n place ref=0 then addr+1+place.toNat else 0:Nat):Int),.int .i64 (Qc l n place ref)]∧Q0 w' (V6 ip sp bp::Qp bp ls::ST sp size mem own::fr)):=by
 have GW:=Nr (H.pull 2);have h':=h;obtain⟨hm,hl,hR,hz,hh,hf,ho⟩:=h';refine QQ Tryz.func123 rfl (by kernel_rfl) ?_;refine Mc H ?_;refine J9 H ?_;refine Jc rfl rfl (Ss ip sp bp size ls mem own addr i c s n l h H) ?_;clear H;rintro v w ⟨vr,vq,rfl,H⟩;obtain⟨aa,ca,rfl⟩:=QI H (QJ _) (by decide);obtain⟨ab,cb,rfl⟩:=QI H.drop (QJ _) (by decide);refine I5 H ?_;refine VS H ?_;clear H;intro b10 w H;refine VS H ?_;clear H;intro b11 w H;refine J5 H ?_;clear H;intro w H;refine J5 H ?_;clear H;intro w H;refine IH H ?_;refine XD H ?_;refine N0 H ?_;replace H:=Js [2,2,0,0,0,0,0] 0 H;obtain⟨D1,H,Y2,Vo⟩:=sls_rd H (QJ _) (by decide);obtain⟨D2,H,Zj,ZR⟩:=sls_rd H.swap (QJ _) (by decide);by_cases hp:place < 0∨(n:Int)≤place
 ·have he:Qc l n place ref=3:=by unfold Qc;rw[if_pos hp]
  rw[he];refine Jc rfl rfl (pN _ _ l hR c place hz hp ⟨(Y2 _).there,Zj _⟩ H) ?_;clear H;rintro v w ⟨rfl,H⟩;replace H:=Vo _ _ (ZR _ _ H).swap;refine DE H ?_;refine Qe ?_;refine J9 H ?_;refine WQ H ?_;refine Vj H ?_;replace H:=Js [4,4,4] 4 H;exact Q3 (Jy H rfl fun w' H'=>⟨rfl,H'⟩)
 ·obtain⟨p,rfl⟩:∃ p:Nat,place=p:=⟨place.toNat,by omega⟩;refine Jc rfl rfl (pO _ _ l hR c p hz (by omega) ⟨(Y2 _).there,Zj _⟩ H) ?_;clear H;rintro v w ⟨rfl,H⟩;replace H:=Vo _ _ (ZR _ _ H).swap;refine DE H ?_;refine Yx (fun ms σ w=>ms=[]∧Va l p=ref∧σ 1 = .int .i64 addr∧σ 2 = .int .i64 p∧Q0 w (V6 ip sp bp::Qp bp ls::ST sp size mem own::fr)) ?_ ?_
  ·refine Qe ?_;refine Ez H ?_;refine Q5 rfl (D6 rfl rfl (.inr rfl) rfl ?_);refine J0 H ?_;by_cases hr:Va l p=ref
   ·rw[show (!(Va l p == ref))=false by simp[hr]];refine Vf H ?_;replace H:=Js [4,4,4] 4 H;exact .inl ⟨rfl,rfl,hr,rfl,rfl,H⟩
   ·have he:Qc l n (p:Int) ref=9:=by unfold Qc;rw[if_neg hp,if_pos (by simpa using hr)]
    rw[show (!(Va l p == ref))=true by simpa using hr];refine G2 H ?_;replace H:=Js [4,4,4] 4 H;exact Q3 (.inr ⟨by simp,Jy H rfl fun w' H'=>⟨by rw[he];rfl,H'⟩⟩)
  ·clear H;rintro ms σ w ⟨rfl,hr,g1,g2,H⟩;have he:Qc l n (p:Int) ref=0:=by unfold Qc;rw[if_neg hp,if_neg (by simpa using hr)]
   rw[he,Q1 g1,Q1 g2];refine Wr H ?_;refine J4 H ?_;rw[Qg (x:=(addr:Int)+1) (by omega) (by omega),Qg (x:=(addr:Int)+1+(p:Int)) (by omega) (by omega)];refine Q3 (Jy H rfl fun w' H'=>⟨?_,H'⟩);show Value.tuple #[.int .i64 ((addr:Int)+1+(p:Int)),_]=_;rw[if_pos rfl,show (addr:Int)+1+(p:Int)=((addr+1+(p:Int).toNat:Nat):Int) by simp];rfl
theorem pz [Q4] (ip sp bp size:Nat) (ls:List Qb) (mem own:List Nat) (addr i c s n:Nat) (l:Qb) (h:WA ls size mem own addr i c s n l) (place:Int) {w:World} {fr:List Q2} (H:Q0 w (V6 ip sp bp::Qp bp ls::ST sp size mem own::fr)) :
  Calls Tryz.prog 107 #[pp ip,.int .i64 addr,.int .i64 place] w (ret fun v w'=>v = .tuple #[.int .u64 ((if Qc l n place false=0 then mem.getD (addr+1+place.toNat) 0 else 0:Nat):Int),.int .i64 (Qc l n place false)]∧Q0 w' (V6 ip sp bp::Qp bp ls::ST sp size mem own::fr)):=by
 have Qu:Calls Tryz.prog 179 #[pp ip,.int .i64 addr,.int .i64 place,.bool false,.func (.func 180) #[] #[]] w (ret fun v w'=>v = .tuple #[.int .u64 ((if Qc l n place false=0 then mem.getD (addr+1+place.toNat) 0 else 0:Nat):Int),.int .i64 (Qc l n place false)]∧Q0 w' (V6 ip sp bp::Qp bp ls::ST sp size mem own::fr)):=by
  refine QQ Tryz.func179 rfl (by kernel_rfl) ?_;refine J3 H ?_;refine Vl H ?_;refine Wr H ?_;refine Jc rfl rfl (Ns ip sp bp size ls mem own addr i c s n l h place false H) ?_;clear H;rintro v w ⟨rfl,H⟩;refine Av H ?_;by_cases he:Qc l n place false=0
  ·obtain⟨p,rfl,hp,hr⟩:=UI he;rw[he];refine Vf H ?_;refine F7 H ?_;replace H:=Js [2,0,0] 0 H;refine Jc rfl rfl (SN sp size mem own (addr+1+p) (by have:=h.fit;omega) (h.owned.sub (by omega) (by omega) (by omega)) H) ?_;clear H;rintro v w ⟨rfl,H⟩;refine UA H ?_;refine Vj H ?_;replace H:=Js [1,1,0] 0 H;exact Q3 (Jy H rfl fun w' H'=>⟨rfl,H'⟩)
  ·rw[if_neg he,if_neg he];rw[show (((Qc l n place false:Nat):Int) != 0)=true by simpa using he];refine Vr H ?_;refine DN H ?_;exact Q3 (Jy H rfl fun w' H'=>⟨rfl,H'⟩)
 refine QQ Tryz.func107 rfl (by kernel_rfl) ?_;refine J3 H ?_;refine Y7 H ?_;refine Jc rfl rfl (Qu) ?_;clear H;rintro v w ⟨rfl,H⟩;refine F2 H ?_;exact Q3 (Jy H rfl fun w' H'=>⟨rfl,H'⟩)
theorem Xa (k:Yn):∃ a b d:Int,GN k = .agg #[.int .i64 a,.int .i64 b,.int .i64 d]:=by cases k <;> exact⟨_,_,_,rfl⟩
theorem gV [Q4] (ip sp bp size:Nat) (ls:List Qb) (mem own:List Nat) (addr i c s n:Nat) (l:Qb) (h:WA ls size mem own addr i c s n l) (place:Int) (k:Yn) (hk:Qc l n place true=0→XL k∧mem.getD (addr+1+place.toNat) 0=Vm k) (VN:Qc l n place true≠0→k = .none) {w:World} {fr:List Q2} (H:Q0 w (V6 ip sp bp::Qp bp ls::ST sp size mem own::fr)) :
  Calls Tryz.prog 97 #[pp ip,.int .i64 addr,.int .i64 place] w (ret fun v w'=>v = .tuple #[GN k,.int .i64 (Qc l n place true)]∧Q0 w' (V6 ip sp bp::Qp bp ls::ST sp size mem own::fr)):=by
 have ZE:∀ (q:Nat) (k:Yn) (w:World) (fr:List Q2),q < mem.length→Xw size own q 1→XL k→mem.getD q 0=Vm k→Q0 w (ST sp size mem own::fr) →
   Calls Tryz.prog 158 #[pp sp,.int .i64 q] w (ret fun v w'=>v = .tuple #[GN k,.int .i64 0]∧Q0 w' (ST sp size mem own::fr)):=by
  intro q k w fr h1 h2 h3 h4 H;refine QQ Tryz.func158 rfl (by kernel_rfl) ?_;refine YM H ?_;clear H;intro b4 w H;refine J0 H ?_;refine J9 H ?_;refine Jc rfl rfl (SN sp size mem own q h1 h2 H.swap) ?_;clear H;rintro v w ⟨rfl,H⟩;rw[h4];refine UA H ?_;refine Z4 H ?_;refine Jc rfl rfl (ot k h3 H) ?_;clear H;rintro v w ⟨rfl,H⟩;obtain⟨a,b,d,Y4⟩:=Xa k;rw[Y4];refine Mz H ?_;clear H;intro w H;refine J0 H ?_;exact Q3 (Jz H.swap (fun w' H' => .cellN H' rfl (by repeat first|exact .nil _|apply QY.cons rfl) (.tmp .nil)) fun w' H'=>⟨rfl,H'.drop⟩)
 have Qu:∀ (w:World) (fr:List Q2),Q0 w (V6 ip sp bp::Qp bp ls::ST sp size mem own::fr)→Calls Tryz.prog 157 #[pp ip,.int .i64 addr,.int .i64 place,.bool true,.func (.func 158) #[] #[]] w (ret fun v w'=>v = .tuple #[GN k,.int .i64 (Qc l n place true)]∧Q0 w' (V6 ip sp bp::Qp bp ls::ST sp size mem own::fr)):=by
  intro w fr H;refine QQ Tryz.func157 rfl (by kernel_rfl) ?_;refine YM H ?_;clear H;intro b10 w H;refine J0 H ?_;refine YM H ?_;clear H;intro b12 w H;refine J2 H ?_;refine Wr H ?_;replace H:=Js [2,2,2,0,0] 0 H;refine Jc rfl rfl (Ns ip sp bp size ls mem own addr i c s n l h place true H) ?_;clear H;rintro v w ⟨rfl,H⟩;refine Av H ?_;by_cases he:Qc l n place true=0
  ·obtain⟨CI,Nt⟩:=hk he;obtain⟨p,rfl,hp,hr⟩:=UI he;rw[he];refine Vf H ?_;refine F7 H ?_;replace H:=Js [2,0,0,0,0] 0 H;refine Jc rfl rfl (ZE (addr+1+p) k _ _ (by have:=h.fit;omega) (h.owned.sub (by omega) (by omega) (by omega)) CI Nt H) ?_;clear H;rintro v w ⟨rfl,H⟩;obtain⟨a,b,d,Y4⟩:=Xa k;rw[Y4];refine YA H ?_;clear H;intro b15 w H;refine J5 H ?_;clear H;intro w H;refine ZT H ?_;refine Ak H ?_;clear H;intro w H;refine J0 H ?_;replace H:=Js [5,2,2,1] 2 H;exact Q3 (Jz H (fun w' H' => .cellN H' rfl (by repeat first|exact .nil _|apply QY.cons rfl) (.tmp .nil)) fun w' H'=>⟨rfl,H'.drop⟩)
  ·obtain rfl:=VN he;rw[if_neg he];rw[show (((Qc l n place true:Nat):Int) != 0)=true by simpa using he];refine Vr H ?_;refine Aw H ?_;clear H;intro w H;refine J0 H ?_;replace H:=Js [4,0,0,0] 1 H;exact Q3 (Jz H (fun w' H' => .cellN H' rfl (by repeat first|exact .nil _|apply QY.cons rfl) (.tmp .nil)) fun w' H'=>⟨rfl,H'.drop⟩)
 refine QQ Tryz.func97 rfl (by kernel_rfl) ?_;refine YM H ?_;clear H;intro b6 w H;refine Mx H ?_;replace H:=Js [1,1,1,0] 0 H;refine Jc rfl rfl (Qu _ _ H) ?_;clear H;rintro v w ⟨rfl,H⟩;obtain⟨a,b,d,Y4⟩:=Xa k;rw[Y4];refine Mz H ?_;clear H;intro w H;refine J0 H ?_;replace H:=Js [3,0,0,0] 0 H;exact Q3 (Jz H (fun w' H' => .cellN H' rfl (by repeat first|exact .nil _|apply QY.cons rfl) (.tmp .nil)) fun w' H'=>⟨rfl,H'.drop⟩)
theorem q9 [Q4] (ip sp bp size:Nat) (ls:List Qb) (mem own:List Nat) (addr i c s n:Nat) (l:Qb) (h:WA ls size mem own addr i c s n l) (place:Int) (x:Nat) {w:World} {fr:List Q2} (H:Q0 w (V6 ip sp bp::Qp bp ls::ST sp size mem own::fr)) :
  Calls Tryz.prog 233 #[pp ip,.int .i64 addr,.int .i64 place,.int .u64 x] w (ret fun v w'=>v = .int .i64 (Qc l n place false)∧Q0 w' (V6 ip sp bp::Qp bp ls::ST sp size (if Qc l n place false=0 then mem.set (addr+1+place.toNat) x else mem) own::fr)):=by
 refine QQ Tryz.func233 rfl (by kernel_rfl) ?_;refine DA H ?_;refine Jc rfl rfl (Ns ip sp bp size ls mem own addr i c s n l h place false H) ?_;clear H;rintro v w ⟨rfl,H⟩;refine Av H ?_;by_cases he:Qc l n place false=0
 ·obtain⟨p,rfl,hp,hr⟩:=UI he;rw[he];refine Vf H ?_;refine G1 H ?_;refine J4 H ?_;replace H:=Js [2,0,0] 0 H;refine Y7 H ?_;refine Q5 rfl (V1 (a:=[pp sp]) (b:=[]) rfl rfl (call (Nd sp size mem own (addr+1+p) x (by have:=h.fit;omega) (h.owned.sub (by omega) (by omega) (by omega)) H) ?_));clear H;rintro v w ⟨rfl,H⟩;refine J0 H ?_;replace H:=Js [1,1,0] 0 H;exact Q3 (Jy H rfl fun w' H'=>⟨rfl,H'⟩)
 ·rw[if_neg he,if_neg he];rw[show (((Qc l n place false:Nat):Int) != 0)=true by simpa using he];refine G2 H ?_;exact Q3 (Jy H rfl fun w' H'=>⟨rfl,H'⟩)
theorem gY [Q4] (ip sp bp size:Nat) (ls:List Qb) (mem own:List Nat) (addr i c s n:Nat) (l:Qb) (h:WA ls size mem own addr i c s n l) (place:Int) (k:Yn) (hk:XL k) {w:World} {fr:List Q2} (H:Q0 w (V6 ip sp bp::Qp bp ls::ST sp size mem own::fr)) :
  Calls Tryz.prog 61 #[pp ip,.int .i64 addr,.int .i64 place,GN k] w (ret fun v w'=>v = .int .i64 (Qc l n place true)∧Q0 w' (V6 ip sp bp::Qp bp ls::ST sp size (if Qc l n place true=0 then mem.set (addr+1+place.toNat) (Vm k) else mem) own::fr)):=by
 obtain⟨a,b,d,Y4⟩:=Xa k;have hW:=fun (w:World) (fr:List Q2) (H:Q0 w fr)=>oo k hk H;rw[Y4] at hW ⊢;refine QQ Tryz.func61 rfl (by kernel_rfl) ?_;refine J8 H ?_;clear H;intro b7 w H;refine J0 H ?_;replace H:=Js [1,1,1,0] 0 H;refine Y7 H ?_;refine Jc rfl rfl (Ns ip sp bp size ls mem own addr i c s n l h place true H) ?_;clear H;rintro v w ⟨rfl,H⟩;refine Av H ?_;by_cases he:Qc l n place true=0
 ·obtain⟨p,rfl,hp,hr⟩:=UI he;rw[he];refine Vf H ?_;refine XD H ?_;refine Jc rfl rfl (hW _ _ H) ?_;clear H;rintro v w ⟨rfl,H⟩;refine UA H ?_;refine G1 H ?_;refine J4 H ?_;replace H:=Js [2,0,0] 1 H;refine Y7 H ?_;refine Q5 rfl (V1 (a:=[pp sp]) (b:=[]) rfl rfl (call (Nd sp size mem own (addr+1+p) (Vm k) (by have:=h.fit;omega) (h.owned.sub (by omega) (by omega) (by omega)) H) ?_));clear H;rintro v w ⟨rfl,H⟩;refine J0 H ?_;replace H:=Js [1,1,0] 0 H;exact Q3 (Jy H rfl fun w' H'=>⟨rfl,H'⟩)
 ·rw[if_neg he,if_neg he];rw[show (((Qc l n place true:Nat):Int) != 0)=true by simpa using he];refine G2 H ?_;replace H:=Js [0,0,0] 1 H;exact Q3 (Jy H rfl fun w' H'=>⟨rfl,H'⟩)
theorem Dg [Q4] (ip sp bp size:Nat) (ls:List Qb) (mem own:List Nat) (addr i c s n:Nat) (l:Qb) (h:WA ls size mem own addr i c s n l) {w:World} {fr:List Q2} (H:Q0 w (V6 ip sp bp::Qp bp ls::ST sp size mem own::fr)) :
  Calls Tryz.prog 45 #[pp ip,.int .i64 addr] w (ret fun v w'=>v = .tuple #[CX i c s,.int .i64 ((n+1:Nat):Int),.int .i64 0]∧Q0 w' (V6 ip sp bp::Qp bp ls::ST sp size mem own::fr)):=by
 have GW:=Nr (H.pull 2);have hf:=h.fit;refine QQ Tryz.func45 rfl (by kernel_rfl) ?_;refine YM H ?_;clear H;intro b4 w H;refine Mq H ?_;refine J9 H ?_;replace H:=Js [1,1,1,0] 0 H;refine Jc rfl rfl (Ss ip sp bp size ls mem own addr i c s n l h H) ?_;clear H;rintro v w ⟨vr,vq,rfl,H⟩;obtain⟨aa,ma,ca,rfl⟩:=V8 H;obtain⟨ab,mb,cb,rfl⟩:=V8 H.drop;refine I5 H ?_;refine VS H ?_;clear H;intro b7 w H;refine VS H ?_;clear H;intro b8 w H;refine J5 H ?_;clear H;intro w H;refine J5 H ?_;clear H;intro w H;refine IH H ?_;refine XD H ?_;refine Mz H ?_;clear H;intro w H;refine J4 H ?_;rw[Qg (x:=((n:Nat):Int)+1) (by omega) (by omega),show ((n:Nat):Int)+1=((n+1:Nat):Int) by omega];replace H:=Js [7,4,4,4] 4 H;exact Q3 (Jz H (fun w' H' => .cellN H' rfl (by repeat first|exact .nil _|apply QY.cons rfl) (.tmp (.tmp .nil))) fun w' H'=>⟨rfl,H'.drop⟩)
theorem qQ [Q4] (ip sp bp size:Nat) (ls:List Qb) (mem own:List Nat) (addr i c s n:Nat) (l:Qb) (hm:Wy i c s) (hl:ls[i - 1]? = some l) (hR:YU l) (hz:Vg l c=(n,0)) (hf:addr+1+n≤mem.length) (ho:Xw size own addr (n+1)) {w:World} {fr:List Q2} (H:Q0 w (V6 ip sp bp::Qp bp ls::ST sp size mem own::fr)) :
  Calls Tryz.prog 92 #[pp ip,.int .i64 addr,CX i c s] w (ret fun v w'=>v = .tuple #[.int .i64 ((n+1:Nat):Int),.int .i64 0]∧Q0 w' (V6 ip sp bp::Qp bp ls::ST sp size (VT (mem.set addr (Uy i c s)) (addr+1) n 0) own::fr)):=by
 have GW:=Nr (H.pull 2);refine QQ Tryz.func92 rfl (by kernel_rfl) ?_;refine J8 H ?_;clear H;intro b5 w H;refine Mq H ?_;refine XD H ?_;refine Jc rfl rfl (oe i c s hm H) ?_;clear H;rintro v w ⟨rfl,H⟩;refine UA H ?_;refine Xt H ?_;replace H:=Js [1,1,1,0] 0 H;refine Jc rfl rfl (gQ ip sp bp ls i c s n l hm hl hR hz H) ?_;clear H;rintro v w ⟨vr,vq,rfl,H⟩;obtain⟨aa,ma,ca,rfl⟩:=V8 H;obtain⟨ab,mb,cb,rfl⟩:=V8 H.drop;refine F6 H ?_;refine VS H ?_;clear H;intro b10 w H;refine J5 H ?_;clear H;intro w H;refine IH H ?_;refine G1 H ?_;refine F6 H ?_;replace H:=Js [5,3,3] 4 H;rw[Qg (x:=((n:Nat):Int)+1) (by omega) (by omega),show ((n:Nat):Int)+1=((n+1:Nat):Int) by omega];refine Jc rfl rfl (p9 sp size mem own addr (n+1) (by omega) (by omega) ho H) ?_;clear H;rintro v w ⟨rfl,H⟩;refine ZT H ?_;refine XF H ?_;refine Jc rfl rfl (Nd sp size mem own addr (Uy i c s) (by omega) (ho.sub (Nat.le_refl _) (by omega) (by omega)) H) ?_;clear H;rintro v w ⟨rfl,H⟩;refine Rd H ?_;generalize UJ:mem.set addr (Uy i c s)=m2 at H;have Zo:m2.length=mem.length:=by rw[← UJ,length_set]
 refine XE H ?_;refine Qq (fun ms σ w q=>ms=[]∧∃ j:Nat,j≤n∧q=n - j∧σ 0=pp ip∧σ 1 = .int .i64 addr∧σ 11 = .int .i64 n∧σ 53 = .int .i64 n∧σ 54 = .int .i64 j∧Q0 w (ST sp size (VT m2 (addr+1) j 0) own::V6 ip sp bp::Qp bp ls::fr)) (m:=n) ⟨rfl,0,by omega,rfl,rfl,rfl,rfl,rfl,rfl,by rw[Nf];exact H⟩ ?_;clear H;rintro ms σ w q ⟨rfl,j,hj,rfl,g0,g1,g11,g53,g54,H⟩;rw[Q1 g0,Q1 g1,Q1 g11,Q1 g53,Q1 g54];refine J7 H ?_;refine Qm rfl (fun h=>QF ?_) (fun h=>Qv ?_)
 ·have Q6:j < n:=by omega
  refine F8 H ?_;refine G1 H ?_;refine F6 H ?_;rw[Qg (x:=(addr:Int)+1) (by omega) (by omega),Qg (x:=(addr:Int)+1+(j:Int)) (by omega) (by omega),show (addr:Int)+1+(j:Int)=((addr+1+j:Nat):Int) by omega];refine Jc rfl rfl (Nd sp size _ own (addr+1+j) 0 (by rw[Yh (by omega)];omega) (ho.sub (by omega) (by omega) (by omega)) H) ?_;clear H;rintro v w ⟨rfl,H⟩;rw[fE (by omega)] at H;refine Rd H ?_;exact⟨_,⟨rfl,j+1,Q6,rfl,rfl,rfl,rfl,rfl,Qh (by omega),H⟩,by omega⟩
 ·have V2:j=n:=by omega
  subst V2;refine DN H ?_;rw[Qg (x:=((j:Nat):Int)+1) (by omega) (by omega),show ((j:Nat):Int)+1=((j+1:Nat):Int) by omega];replace H:=Js [1,1,0] 0 H;exact Q3 (Jy H rfl fun w' H'=>⟨rfl,H'⟩)
def Qn (l:List Int):List Value:=l.map fun x=>Value.int .i64 x
theorem YC (l:List Int):(Qn l).length=l.length*1:=by simp[Qn]
theorem Ff (a b:List Int):Qn (a++b)=Qn a++Qn b:=by simp[Qn]
theorem JY (l:List Nat):QH l=Qn (l.map fun x:Nat=>(x:Int)):=by simp[QH,Qn]
@[reducible] def IL (v:Value) (l:List Int):Q2:=QE 3 1 v (Qn l)
theorem Nu [Q4] (v:Value) (l:List Int) (hl:l.length≤1000000) {w:World} {fr:List Q2} (H:Q0 w (IL v l::fr)) :
  Calls Tryz.prog 53 #[v] w (ret fun x w'=>x = .tuple #[]∧Q0 w' (IL v (l.mergeSort fun x y=>decide (x≤y))::fr)):=by
 obtain⟨a,c,rfl⟩:=QI H (YC l) (by decide);have Qw:(l.mergeSort fun x y=>decide (x≤y)).length=l.length:=length_mergeSort l;by_cases h0:l=[]
 ·subst h0;refine(Any.slices_Sort_int_none Tryz.laysSort a c w).mono ?_;rintro e w' ⟨rfl,rfl⟩;rw[mergeSort_nil];exact⟨rfl,H⟩
 ·have BU:0 < l.length:=length_pos_iff.2 h0;obtain⟨b,s,rfl,H,h1,h2,QK⟩:=GJ H BU;have hb:=H.pts;refine(Any.slices_Sort_int Tryz.laysSort b 0 c l w (fun j hj=>⟨?_,Cx hb⟩) H.fresh (by omega)).mono ?_
  ·refine Ua hb ?_;have Zz:j < l.length:=by simpa using hj
   rw[Nat.zero_add,getElem?_append_left (by simpa [Qn] using Zz)];simp[Qn,Zz]
  ·rintro e w' ⟨rfl,m,os,rfl⟩;refine⟨rfl,QK _ _ (Qn (l.mergeSort fun x y=>decide (x≤y))) (by rw[YC,YC,Qw]) ?_⟩;have e1:(Go.Sort.putRow (Value.int .i64) (Go.Sort.ahead w m) b 0 (l.mergeSort fun x y=>decide (x≤y)).toArray).heap=w.heap.modify b (Go.Sort.onCells (Go.Sort.putCells (Value.int .i64) 0 (l.mergeSort fun x y=>decide (x≤y)).toArray)):=rfl
   have H1:Q0 (Go.Sort.putRow (Value.int .i64) (Go.Sort.ahead w m) b 0 (l.mergeSort fun x y=>decide (x≤y)).toArray) (pts b (row 3 (Qn (l.mergeSort fun x y=>decide (x≤y))++s))::fr):=by
    refine H.set ?_ ?_
    ·rw[e1,Array.getElem?_modify,if_pos rfl,hb];simp only[Option.map_some,row,Go.Sort.onCells];congr 2;apply Array.ext';apply ext_getElem?;intro t;simp only[Go.Sort.putCells,Array.getElem?_toList,Array.getElem?_mapIdx,getElem?_toArray,Nat.zero_le,true_and,Nat.zero_add,Nat.sub_zero,size_toArray];have l1:(Qn l).length=l.length:=by simp[Qn]
     have l2:(Qn (l.mergeSort fun x y=>decide (x≤y))).length=l.length:=by simp[Qn]
     by_cases ht:t < l.length
     ·rw[getElem?_append_left (by omega),getElem?_append_left (by omega)];have WB:t < (l.mergeSort fun x y=>decide (x≤y)).length:=by omega
      simp only[Qn,getElem?_map,getElem?_eq_getElem ht,getElem?_eq_getElem WB,Option.map_some,if_pos WB];rw[getElem!_pos _ t (by simpa using WB)];simp
     ·rw[getElem?_append_right (by omega),getElem?_append_right (by omega),l1,l2];have WB:¬ t < (l.mergeSort fun x y=>decide (x≤y)).length:=by omega
      cases s[t - l.length]? with
      | none=>rfl
      | some y=>simp;intro h;omega
    ·intro c hc;rw[e1,Array.getElem?_modify,if_neg (Ne.symm hc)]
   refine H1.up (fun c o hc=>?_) ⟨rfl,rfl⟩;show ((Go.Sort.putRow (Value.int .i64) (Go.Sort.ahead w m) b 0 (l.mergeSort fun x y=>decide (x≤y)).toArray).heap++os)[c]? = some o;have:=(Array.getElem?_eq_some_iff.1 hc).1;rw[Array.getElem?_append_left this];exact hc
theorem qV [Q4] (a:Option Addr) (n c:Nat) (hn:n < 2) {w:World} {fr:List Q2} (H:Q0 w fr) :
  Calls Tryz.prog 119 #[.slice a n c] w (ret fun x w'=>x = .slice a n c∧Q0 w' fr):=by
 refine QQ Tryz.func119 rfl (by kernel_rfl) ?_;refine Vl H ?_;refine KF H ?_;rw[show decide ((n:Int) < 2)=true from decide_eq_true (by omega)];refine G2 H ?_;exact Q3 (Jy H rfl fun w' H'=>⟨rfl,H'⟩)
theorem qY [Q4] (v:Value) (l:List Nat) (x:Nat) (hl:l.length≤1000000) (b:Nat) {w:World} {fr:List Q2} (H:Q0 w (NL v l::pts b (row 3 [.int .i64 x])::fr)) :
  Calls Tryz.prog 154 #[v,.int .i64 l.length,.slice (some ⟨b,0,none⟩) 1 1] w (ret fun v w'=>Q0 w' (NL v (l++[x])::fr)):=by
 obtain⟨a,c,rfl⟩:=QI H (QJ l) (by decide);refine QQ Tryz.func154 rfl (by kernel_rfl) ?_;refine Re H ?_;refine Q5 rfl (o6 rfl rfl (Nat.le_refl _) rfl fun v12=>?_);refine II H ?_;refine Q5 rfl (Gk rfl rfl ?_);refine ZT H ?_;refine KF H ?_;refine Vj H ?_;rw[show (((l.length:Nat):Int) == (l.length:Int))=true by simp];refine Vr H ?_;refine J9 H ?_;refine Q5 rfl (ZU H rfl rfl (by repeat first|exact .nil _|apply QY.cons rfl) rfl (by decide) (by rw[QJ];simp only[length_cons,length_nil];omega) rfl rfl ?_);clear H;intro v25 w H;obtain⟨a25,m25,c25,rfl⟩:=V8 H;refine J0 H ?_;have e1:QH l++[.int .i64 x]=QH (l++[x]):=by rw[B4];rfl
 rw[e1] at H;exact Q3 (Jy (Q0.drop H.swap) rfl fun w' H'=>H')
def VQ (p:Nat) (l:List Nat):Q2:=ex fun v:Value=>star [pts p (row 163 [v]),NL v l]
theorem CL [Q4] {w:World} {p:Nat} {l:List Nat} {fr:List Q2} (H:Q0 w (VQ p l::fr)):∃ a c,Q0 w (pts p (row 163 [.slice a l.length c])::NL (.slice a l.length c) l::fr):=by
 obtain⟨v,H⟩:=Q0.ex.1 H;have H:=Q0.star.1 H;obtain⟨a,c,rfl⟩:=QI H.drop (QJ l) (by decide);exact⟨a,c,H⟩
theorem A8 [Q4] {w:World} {p:Nat} {l:List Nat} {v:Value} {fr:List Q2} (H:Q0 w (pts p (row 163 [v])::NL v l::fr)):Q0 w (VQ p l::fr):=
 Q0.ex.2 ⟨v,Q0.star.2 H⟩
theorem Su [Q4] {w:World} {fr:List Q2} (H:Q0 w fr):Calls Tryz.prog 56 #[.slice none 0 0] w (ret fun v w'=>∃ p,v=pp p∧Q0 w' (VQ p []::fr)):=by
 refine QQ Tryz.func56 rfl (by kernel_rfl) ?_;refine Bz H ?_;refine Jc rfl rfl (Ir (.slice none 0 0) [] (by simp) ⟨rfl,none,0,rfl,.inl rfl⟩ H) ?_;clear H;rintro v w H;obtain⟨a,c,rfl⟩:=QI H (QJ []) (by decide);refine Em H ?_;refine Jc rfl rfl (Nu _ [] (by simp) H) ?_;clear H;rintro v w ⟨rfl,H⟩;rw[mergeSort_nil] at H;refine II H ?_;refine Jc rfl rfl (qV a 0 c (by omega) H) ?_;clear H;rintro v w ⟨rfl,H⟩;refine W6 H ?_;clear H;intro b10 w H;refine J0 H ?_;exact Q3 (Jy H rfl fun w' H'=>⟨_,rfl,A8 (l:=[]) H'⟩)
theorem gZ {l:List Nat} {x:Nat} (h:∀ a∈l,a < x):GS l x=l.length:=by
 unfold GS;rw[countP_eq_length];intro a ha;simpa using h a ha
theorem qZ [Q4] (p:Nat) (l:List Nat) (x:Nat) (hs:l.Pairwise (· < ·)) (hl:l.length≤100000) (hx:∀ a∈l,a < x) {w:World} {fr:List Q2} (H:Q0 w (VQ p l::fr)) :
  Calls Tryz.prog 93 #[pp p,.int .i64 x] w (ret fun v w'=>v = .bool true∧Q0 w' (VQ p (l++[x])::fr)):=by
 obtain⟨a,c,H⟩:=CL H;have hn:x∉l:=fun h=>by have:=hx x h;omega
 refine QQ Tryz.func93 rfl (by kernel_rfl) ?_;refine DO H ?_;obtain⟨D1,H,Y2,Vo⟩:=sls_rd H.swap (QJ _) (by decide);refine Jc rfl rfl (Fa _ l (by omega) hs x (Y2 _) H) ?_;clear H;rintro v w ⟨rfl,H⟩;replace H:=Vo _ _ H;rw[gZ hx,decide_eq_false hn];refine Av H ?_;refine J6 H ?_;refine Qt (fun ms σ w=>ms=[]∧σ 6 = .bool false∧Q0 w (VQ p (l++[x])::fr)) ?_ ?_
 ·refine YY rfl ?_;refine Es H ?_;refine ZS H ?_;refine Uw H ?_;clear H;intro b27 w H;replace H:=Js [1,0,0] 0 H;refine Jc rfl rfl (qY _ l x (by omega) _ H) ?_;clear H;intro v w H;obtain⟨a28,m28,c28,rfl⟩:=V8 H;refine XH H ?_;clear H;intro w H;refine J2 H ?_;exact⟨rfl,rfl,rfl,A8 H.swap⟩
 ·clear H;rintro ms σ w ⟨rfl,g6,H⟩;rw[Q1 g6];refine Vj H ?_;exact Q3 (Jy H rfl fun w' H'=>⟨rfl,H'⟩)
theorem gG [Q4] (p:Nat) (l:List Nat) (x:Nat) (hs:l.Pairwise (· < ·)) (hl:l.length≤100000) {w:World} {fr:List Q2} (H:Q0 w (VQ p l::fr)) :
  Calls Tryz.prog 47 #[pp p,.int .i64 x] w (ret fun v w'=>v = .bool (decide (x∈l))∧Q0 w' (VQ p l::fr)):=by
 obtain⟨a,c,H⟩:=CL H;refine QQ Tryz.func47 rfl (by kernel_rfl) ?_;refine DO H ?_;obtain⟨D1,H,Y2,Vo⟩:=sls_rd H.swap (QJ _) (by decide);refine Jc rfl rfl (Fa _ l (by omega) hs x (Y2 _) H) ?_;clear H;rintro v w ⟨rfl,H⟩;replace H:=Vo _ _ H;refine Av H ?_;exact Q3 (Jy (A8 H.swap) rfl fun w' H'=>⟨rfl,H'⟩)
theorem gU [Q4] (p:Nat) (l:List Nat) {w:World} {fr:List Q2} (H:Q0 w (VQ p l::fr)) :
  Calls Tryz.prog 23 #[pp p] w (ret fun v w'=>v = .int .i64 l.length∧Q0 w' (VQ p l::fr)):=by
 obtain⟨a,c,H⟩:=CL H;refine QQ Tryz.func23 rfl (by kernel_rfl) ?_;refine Wp H ?_;refine W7 H ?_;exact Q3 (Jy (A8 H) rfl fun w' H'=>⟨rfl,H'⟩)
theorem gX:∀ a b:Rf,kp a=kp b→a=b:=CD.inj
def Gs (l:List Rf):List Value:=l.flatMap fun r=>[.int .i64 r.1,.int .i64 r.2]
theorem Fg (l:List Rf):(Gs l).length=l.length*2:=by
 induction l with
 | nil=>rfl
 | cons r l ih=>simp only[Gs,flatMap_cons,length_append,length_cons,length_nil] at ih ⊢;omega
theorem qG (a b:List Rf):Gs (a++b)=Gs a++Gs b:=by simp[Gs]
theorem qU [Q4] (x:Option Nat) (m:List (Rf×Int)) {w:World} {fr:List Q2} (H:Q0 w (Zf kp v1 (.map x) m::fr)) :
  Calls Tryz.prog 200 #[.map x] w
   (ret fun v w'=>∃ b,v = .func (.func 246) #[] #[pp b]∧Q0 w' (pts b (row 145 [.map x])::Zf kp v1 (.map x) m::fr)):=by
 refine QQ Tryz.func200 rfl (by kernel_rfl) ?_;refine GV H ?_;clear H;intro b1 w H;refine ZX H ?_;refine Q3 (Jy H rfl fun w' H'=>⟨b1,rfl,H'⟩)
theorem U5 {α:Type}:∀ {l₁ l₂:List α},l₁.Nodup→(∀ z∈l₁,z∈l₂)→l₁.length≤l₂.length
 | [],_,_,_=>Nat.zero_le _
 | c::l,l₂,hn,hs=>by
  obtain⟨s,t,rfl⟩:=append_of_mem (hs c (by simp));have h:=nodup_cons.1 hn
  have:=U5 (l₂:=s++t) h.2 (fun z hz=>by
   have h1:=hs z (by simp[hz]);have h2:z≠c:=fun e=>h.1 (e▸hz);simp[h2] at h1;simpa using h1)
  simp at this ⊢;omega
theorem qX [Q4] (yl b:Nat) (x:Option Nat) (m:List (Rf×Int)) (J:List Rf→Q2)
  (hy:∀ ks r rest w,ks.length < m.length→Q0 w (J ks::rest)→SL.Yields Tryz.prog yl #[rf r] w (fun v w'=>v = .bool true∧Q0 w' (J (ks++[r])::rest)))
  {w:World} {fr:List Q2} (H:Q0 w (J []::pts b (row 145 [.map x])::Zf kp v1 (.map x) m::fr)) :
  Calls Tryz.prog 246 #[.func (.yield yl) #[] #[],pp b] w
   (ret fun _ w'=>∃ ks,ks.Perm (m.map (·.1))∧Q0 w' (J ks::Zf kp v1 (.map x) m::fr)):=by
 refine QQ Tryz.func246 rfl (by kernel_rfl) ?_;refine UB H ?_;replace H:=Js [2,0,0] 0 H;refine Q5 rfl (Pd kp v1 H rfl rfl ?_);clear H;intro bi w H;refine J2 H ?_;refine Qe ?_;refine Qq (fun ms σ w n=>ms=[]∧∃ ks:List Rf,σ 0 = .func (.yield yl) #[] #[]∧σ 5=pp bi∧n=m.length - ks.length∧Q0 w (Af kp v1 (.map x) m bi ks::J ks::pts b (row 145 [.map x])::fr)) (m:=m.length) ⟨rfl,[],rfl,rfl,rfl,H⟩ ?_;clear H w;rintro ms σ w n ⟨rfl,ks,h0,h5,rfl,H⟩;rw[Q1 h0,Q1 h5];refine Uv H ?_;refine Q5 rfl (Pe H gX rfl rfl (fun hp w H=>?_) (fun q hq hn QP Xr w H=>?_))
 ·refine Yy H ?_;refine Am H ?_;replace H:=Pc H;replace H:=Js [1,0] 1 H;exact Z2 _ (.inl rfl) H rfl fun w' H'=>⟨ks,hp,H'⟩
 ·have Q6:ks.length < m.length:=by
   have h1:(ks++[q.1]).Nodup:=by
    rw[nodup_append];exact⟨QP,by simp,fun c hc c' Zu e0=>by simp at Zu;subst Zu;subst e0;exact hn hc⟩
   have h2:=U5 h1 (l₂:=m.map (·.1)) (fun z hz=>by
    rcases mem_append.1 hz with hz|hz
    ·exact Xr z hz
    ·simp at hz;subst hz;exact mem_map_of_mem hq)
   simp at h2;omega
  refine Yy H ?_;refine Ws H ?_;refine Qe ?_;refine Uv H ?_;refine Q5 rfl (Pf H gX hq rfl rfl ?_);refine Jv ?_;refine VS H ?_;clear H;intro b3 w H;refine J5 H ?_;clear H;intro w H;refine J2 H ?_;refine Xt H ?_;replace H:=Js [2,0,0,0] 0 H;refine Q5 rfl (Bk rfl rfl (SL.Yields.mono (hy ks q.1 _ _ Q6 H) ?_));clear H;rintro v w ⟨rfl,H⟩;refine YS H ?_;replace H:=Js [2,0,1] 1 H;exact⟨_,⟨rfl,ks++[q.1],rfl,rfl,rfl,H⟩,by simp;omega⟩
def CJ (L:Q2) (b2:Nat) (ks:List Rf):Q2:=ex fun v:Value=>star [QE 133 2 v (Gs ks),L,pts b2 (row 130 [v])]
theorem gK [Q4] {w:World} {L:Q2} {b2:Nat} {ks:List Rf} {l:List Q2} (H:Q0 w (CJ L b2 ks::l)):∃ v,Q0 w (QE 133 2 v (Gs ks)::L::pts b2 (row 130 [v])::l):=by
 obtain⟨v,H⟩:=Q0.ex.1 H;exact⟨v,Q0.star.1 H⟩
theorem gR [Q4] {w:World} {L:Q2} {b2:Nat} {ks:List Rf} {l:List Q2} {v:Value} (H:Q0 w (QE 133 2 v (Gs ks)::L::pts b2 (row 130 [v])::l)):Q0 w (CJ L b2 ks::l):=
 Q0.ex.2 ⟨v,Q0.star.2 H⟩
theorem Fh [Q4] {w:World} {E k:Nat} {v:Value} {c:List Value} {l:List Q2} (H:Q0 w (QE E k v c::l)):v.oneCell'=true:=by
 rcases XB H with ⟨rfl,_⟩|⟨_,_,_,_,rfl,_⟩ <;> rfl
theorem qK [Q4] (b:Nat) (x:Option Nat) (m:List (Rf×Int)) (hm:m.length≤1000000) {w:World} {fr:List Q2} (H:Q0 w (pts b (row 145 [.map x])::Zf kp v1 (.map x) m::fr)) :
  Calls Tryz.prog 258 #[.slice none 0 0,.func (.func 246) #[] #[pp b]] w
   (ret fun v w'=>∃ ks,ks.Perm (m.map (·.1))∧Q0 w' (QE 133 2 v (Gs ks)::Zf kp v1 (.map x) m::fr)):=by
 refine QQ Tryz.func258 rfl (by kernel_rfl) ?_;refine GV H ?_;clear H;intro b2 w H;refine ML H ?_;refine Qe (W0 (a:=[]) (b:=[pp b]) H rfl (fun yl D w H=>?_));generalize hL:LR _ yl _ _ _ _ D .ready=L at H ⊢;replace H:=Zy (E:=133) (k:=2) H;replace H:=Js [0,0,1,1,1,0] 0 H;refine call (qX yl b x m (CJ L b2) ?_ (gR (ks:=[]) H)) ?_
 ·intro ks r rest w Q6 H;obtain⟨a,c⟩:=r;obtain⟨v,H⟩:=gK H;have h1:=Fh H;subst hL;replace H:=Js [1,0,0] 0 H;refine Kj (args:=[rf (a,c)]) H rfl rfl ?_;refine YM H ?_;clear H;intro b5 w H;refine J5 H ?_;clear H;intro w H;refine J2 H ?_;replace H:=Js [1,1,0,0] 0 H;refine⟨rfl,_,H,fun w H=>Qe ?_⟩
  repeat refine Q7 ?_
  refine QG ?_;refine Q5 rfl (QA H rfl rfl rfl ?_);refine Q5 rfl (Vz H rfl (by repeat first|exact .nil _|apply QY.cons rfl) rfl ?_);refine Uw H ?_;clear H;intro b10 w H;replace H:=Js [2,0,0,0,0] 0 H;refine Q5 rfl (ZU H rfl rfl (by repeat first|exact .nil _|apply QY.cons rfl) rfl (by decide) (by simp only[Fg,length_cons,length_nil];omega) rfl rfl ?_);clear H;intro v11 w H;obtain⟨a11,c11,rfl⟩:=QI (m:=ks.length+1) H (by simp[Fg];omega) (by decide);refine Q5 rfl (Zv H rfl rfl inferInstance (Fh H) (Nat.le_of_ble_eq_true rfl) rfl ?_);clear H;intro w H;refine J2 H ?_;replace H:=Js [2,0,2] 2 H;refine⟨rfl,_,H,fun w H=>⟨rfl,gR (v := .slice a11 (ks.length+1) c11) ?_⟩⟩;replace H:=Js [1,0,0] 0 H;rw[qG];exact H
 ·rintro v w' ⟨ks,hp,H⟩;obtain⟨v2,H⟩:=gK H;have h1:=Fh H;subst hL;replace H:=Js [1,0,0,0,0] 0 H;refine⟨_,H,fun w H=>?_⟩;refine UB H ?_;refine Ko H ?_;replace H:=Js [3,0,1] 1 H;exact Q3 (Bj (ms:=[D]) _ (.inr rfl) ((Q0.star (k:=[pts D (.deferred (some []))])).2 H) rfl fun w' H'=>⟨ks,hp,H'⟩)
theorem qR [Q4] (b:Nat) (x:Option Nat) (m:List (Rf×Int)) (hm:m.length≤1000000) {w:World} {fr:List Q2} (H:Q0 w (pts b (row 145 [.map x])::Zf kp v1 (.map x) m::fr)) :
  Calls Tryz.prog 244 #[.func (.func 246) #[] #[pp b]] w
   (ret fun v w'=>∃ ks,ks.Perm (m.map (·.1))∧Q0 w' (QE 133 2 v (Gs ks)::Zf kp v1 (.map x) m::fr)):=by
 refine QQ Tryz.func244 rfl (by kernel_rfl) ?_;refine Bz H ?_;refine Jc rfl rfl (qK b x m hm H) ?_;rintro v w ⟨ks,hp,H⟩;refine Ko H ?_;exact Q3 (Jy H rfl fun w' H'=>⟨ks,hp,H'⟩)
theorem gW [Q4] (a:Int) (w:World):Calls Tryz.prog 237 #[.int .i64 a] w (ret fun v w'=>v = .bool false∧w'=w):=by
 refine QQ Tryz.func237 rfl (by kernel_rfl) ?_
 repeat refine Q7 ?_
 refine QG ?_;refine Jv ?_;refine QU ?_
 repeat refine Q7 ?_
 refine QG ?_;refine Jv ?_;refine Jv ?_;refine Jv ?_;refine Jv ?_;refine QU ?_;exact Q3 (AN (.inr rfl) rfl ⟨by show Value.bool (a != a)=_;simp,rfl⟩)
def BX (a b:Int):Int:=if a < b then -1 else if b < a then 1 else 0
theorem gA [Q4] (a b:Int) (w:World):Calls Tryz.prog 203 #[.int .i64 a,.int .i64 b] w (ret fun v w'=>v = .int .i64 (BX a b)∧w'=w):=by
 refine QQ Tryz.func203 rfl (by kernel_rfl) ?_
 repeat refine Q7 ?_
 refine QG ?_;refine Jv ?_;refine QU ?_
 repeat refine Q7 ?_
 refine QG ?_;refine Jv ?_;refine Jc rfl rfl (gW a _) ?_;rintro v w' ⟨rfl,rfl⟩;refine Jv ?_;refine QU ?_
 repeat refine Q7 ?_
 refine QG ?_;refine Jv ?_;refine Jc rfl rfl (gW b _) ?_;rintro v w' ⟨rfl,rfl⟩;refine Jv ?_;refine QU ?_
 repeat refine Q7 ?_
 refine QG ?_;refine Jv ?_;refine QU ?_
 repeat refine Q7 ?_
 refine Vu rfl (QF ?_)
 repeat refine Q7 ?_
 refine QG ?_;refine Jv ?_;refine QU ?_
 repeat refine Q7 ?_
 refine Vu rfl (QF ?_)
 repeat refine Q7 ?_
 refine QG ?_;refine Jv ?_;refine Jv ?_;refine Jv ?_;refine QU ?_
 repeat refine Q7 ?_
 refine Qm rfl (fun h=>?_) (fun h=>QF ?_)
 ·repeat refine Q7 ?_
  refine QG ?_;refine Jv ?_;refine QU ?_;exact Q3 (AN (.inr rfl) rfl ⟨by show Value.int .i64 (-1)=_;simp[BX,h],rfl⟩)
 ·repeat refine Q7 ?_
  refine QG ?_;refine Jv ?_;refine Jv ?_;refine Jv ?_;refine QU ?_
  repeat refine Q7 ?_
  refine Qm rfl (fun h2=>?_) (fun h2=>QF ?_)
  ·repeat refine Q7 ?_
   refine QG ?_;refine Jv ?_;refine QU ?_;exact Q3 (AN (.inr rfl) rfl ⟨by have:b < a:=h2;show Value.int .i64 1=_;simp[BX,h,this],rfl⟩)
  ·repeat refine Q7 ?_
   refine QG ?_;refine Jv ?_;refine QU ?_;exact Q3 (AN (.inr rfl) rfl ⟨by have:¬ b < a:=h2;show Value.int .i64 0=_;simp[BX,h,this],rfl⟩)
def Fi (x y:Int):Int:=if x=0 then y else x
theorem qW [Q4] (b:Nat) (x y:Int) {w:World} {fr:List Q2} (H:Q0 w (pts b (row 3 [.int .i64 x,.int .i64 y])::fr)) :
  Calls Tryz.prog 202 #[.slice (some ⟨b,0,none⟩) 2 2] w (ret fun v w'=>v = .int .i64 (Fi x y)∧w'=w):=by
 refine QQ Tryz.func202 rfl (by kernel_rfl) ?_;refine Vl H ?_;refine Bz H ?_;refine F9 H ?_;refine XE H ?_;refine Qq (fun ms σ w' n=>ms=[]∧w'=w∧∃ i:Nat,i≤2∧n=2 - i∧σ 6 = .slice (some ⟨b,0,none⟩) 2 2∧σ 7 = .int .i64 2∧σ 8 = .int .i64 i∧σ 3 = .int .i64 0∧(1≤i→x=0)∧(2≤i→y=0)) (m:=2) ⟨rfl,rfl,0,by omega,rfl,rfl,rfl,rfl,rfl,by omega,by omega⟩ ?_;rintro ms σ w' n ⟨rfl,rfl,i,hi,rfl,h6,h7,h8,h3,hx,hy⟩;rw[Q1 h6,Q1 h7,Q1 h8,Q1 h3];have qA:i=0∨i=1∨i=2:=by omega
 rcases qA with rfl|rfl|rfl
 ·refine J7 H ?_;refine Ws H ?_;refine Z7 H ?_;refine Q5 rfl (Ut rfl rfl (by decide) (by decide) rfl ?_);refine W4 H ?_;refine J0 H ?_;refine IU H ?_;refine Cw rfl (fun ht=>?_) (fun ht=>QF ?_)
  ·have Z8:x≠0:=by simpa using ht
   refine J3 H ?_;exact Q3 (AN (.inr rfl) rfl ⟨by show Value.int .i64 x=_;simp[Fi,Z8],rfl⟩)
  ·have Z8:x=0:=by simpa using ht
   refine J3 H ?_;exact⟨_,⟨rfl,rfl,1,by omega,rfl,rfl,rfl,rfl,rfl,by omega,by omega⟩,by omega⟩
 ·refine J7 H ?_;refine Ws H ?_;refine Z7 H ?_;refine Q5 rfl (Ut rfl rfl (by decide) (by decide) rfl ?_);refine W4 H ?_;refine J0 H ?_;refine IU H ?_;refine Cw rfl (fun ht=>?_) (fun ht=>QF ?_)
  ·have Z8:y≠0:=by simpa using ht
   refine J3 H ?_;exact Q3 (AN (.inr rfl) rfl ⟨by show Value.int .i64 y=_;simp[Fi,hx (by omega)],rfl⟩)
  ·have Z8:y=0:=by simpa using ht
   refine J3 H ?_;exact⟨_,⟨rfl,rfl,2,by omega,rfl,rfl,rfl,rfl,rfl,by omega,by omega⟩,by omega⟩
 ·refine J7 H ?_;refine Am H ?_;refine J3 H ?_;exact Q3 (AN (.inr rfl) rfl ⟨by show Value.int .i64 0=_;simp[Fi,hx (by omega),hy (by omega)],rfl⟩)
def Fj (x y:Rf):Int:=Fi (BX x.1 y.1) (BX x.2 y.2)
open Go.Sort in
theorem qB (x y:Rf) (w:World):Calls Tryz.prog 201 #[rf x,rf y] w (ret fun v w'=>v = .int .i64 (Fj x y)∧∃ q os',w'=grow (w.drewN q) os'):=by
 obtain⟨a,b⟩:=x;obtain⟨c,d⟩:=y;letI:Q4:=⟨w.os,w.output⟩;have H:Q0 w []:=Q0.nil w ⟨rfl,rfl⟩;refine QQ Tryz.func201 rfl (by kernel_rfl) ?_
 repeat refine Q7 ?_
 refine QG ?_;refine Q5 rfl (eY H rfl rfl ?_);clear H;intro b2 w1 e1 H;refine Q5 rfl (eY H rfl rfl ?_);clear H;intro b3 w2 e2 H;refine Jv ?_;refine QU ?_
 repeat refine Q7 ?_
 refine nO H mixed ?_;clear H;intro w3 e3 H;refine Jf 0 ?_;refine Jl 1 [4,9,10,11] H ?_;refine Jf 2 ?_;refine Jl 3 [4,9,10,11] H ?_;refine Jf 5 ?_;refine Jl 6 [9,10,11] H ?_;refine Jf 7 ?_;refine Jl 8 [9,10,11] H ?_;refine Jo 4 H ?_;refine Jk rfl rfl (gA a c _) ?_;rintro v w' ⟨rfl,rfl⟩;refine Jo 9 H ?_;refine Jk rfl rfl (gA b d _) ?_;rintro v w' ⟨rfl,rfl⟩;refine Jo 10 H ?_;refine nN H rfl rfl rfl ?_;clear H;intro b15 w5 e5 H;refine Jo 11 H ?_;refine Jk rfl rfl (qW b15 (BX a c) (BX b d) H) ?_;rintro v w' ⟨rfl,rfl⟩;refine Ja 12 ?_;refine Jx H ?_
 have key:∃ q os',w'=grow (w.drewN q) os':=by
  rw[e5,e3,e2,e1];simp only[alloc_eq_grow]
  exact⟨1,_,by
   show grow (grow (grow (w.drewN 1) _) _) _=_;rw[grow_grow,grow_grow]⟩
 exact Q3 (AN (.inr rfl) rfl ⟨rfl,key⟩)
def Uh (x y:Rf):Prop:=x.1 < y.1∨x.1=y.1∧x.2 < y.2
instance (x y:Rf):Decidable (Uh x y):=by unfold Uh;exact inferInstance
theorem qC (x y:Rf):Fj x y < 0↔Uh x y:=by
 unfold Fj Fi BX Uh;constructor
 ·intro h
  repeat' split at h
  all_goals omega
 ·intro h
  repeat' split
  all_goals omega
open Go.Sort in
theorem Nv (x y:Rf):ltOf Fj x y=decide (Uh x y):=by
 unfold ltOf;rw[Bool.eq_iff_iff];simp[qC]
open Go.Sort in
theorem qD:SWO (ltOf Fj) where
 irrefl x:=by rw[Nv];simp[Uh]
 trans x y z h1 h2:=by
  rw[Nv] at h1 h2 ⊢;have h1:Uh x y:=of_decide_eq_true h1;have h2:Uh y z:=of_decide_eq_true h2;have h3:Uh x z:=by unfold Uh at *;omega
  exact decide_eq_true h3
 ntrans x y z h1 h2:=by
  rw[Nv] at h1 h2 ⊢;have h1:¬ Uh x y:=of_decide_eq_false h1;have h2:¬ Uh y z:=of_decide_eq_false h2;have h3:¬ Uh x z:=by unfold Uh at *;omega
  exact decide_eq_false h3
def Nw (r:Rf):List Value:=[.int .i64 r.1,.int .i64 r.2]
theorem qE (l:List Rf):Gs l=l.flatMap Nw:=rfl
def JZ (l:List Rf):Prop:=l.Pairwise Uh
theorem qF [Q4] (b:Nat) (x:Option Nat) (m:List (Rf×Int)) (hm:m.length≤1000000) (hn:(m.map (·.1)).Nodup) {w:World} {fr:List Q2} (H:Q0 w (pts b (row 145 [.map x])::Zf kp v1 (.map x) m::fr)) :
  Calls Tryz.prog 199 #[.func (.func 246) #[] #[pp b],.func (.func 201) #[] #[]] w
   (ret fun v w'=>∃ ks,ks.Perm (m.map (·.1))∧JZ ks∧Q0 w' (QE 133 2 v (Gs ks)::Zf kp v1 (.map x) m::fr)):=by
 refine QQ Tryz.func199 rfl (by kernel_rfl) ?_;refine Bz H ?_;refine Jc rfl rfl (qR b x m hm H) ?_;rintro v w ⟨ks,hp,H⟩;refine Ko H ?_;refine Uv H ?_;refine Rx rfl rfl ?_;refine Jv ?_
 have hs:=o9 (k:=2) (enc:=Nw) Tryz.sortRef (t:=133) rfl inferInstance (by decide) (fun _=>rfl) (fun x v hv=>by simp[Nw] at hv;rcases hv with rfl|rfl <;> rfl) Fj qD (g:=201) inferInstance (fun x y W=>(qB x y W).mono fun e w' h=>by
  cases e with
  | returned v=>exact⟨by rw[h.1],h.2⟩
  | panicked c=>exact h.elim
  | outgrown=>exact h.elim) H (by have:=hp.length_eq;simp at this;omega)
 refine Jc rfl rfl (hs) ?_;rintro v2 w ⟨ks2,GX,Yo,H⟩;refine J2 H ?_;refine Uv H ?_;refine Rx rfl rfl ?_;refine Ko H ?_;have Dh:=GX.trans hp;refine Q3 (Jy H rfl fun w' H'=>⟨ks2,Dh,?_,H'⟩);have QP:ks2.Nodup:=Dh.nodup_iff.2 hn;refine(Yo.and QP).imp ?_;rintro a b ⟨h1,h2⟩;rw[Nv] at h1;have h3:¬ Uh b a:=of_decide_eq_false h1;unfold Uh at h3 ⊢;have h4:¬ (a.1=b.1∧a.2=b.2):=fun e=>h2 (Prod.ext e.1 e.2);omega
theorem Nx [Q4] (x:Option Nat) (m:List (Rf×Int)) (hm:m.length≤1000000) (hn:(m.map (·.1)).Nodup) {w:World} {fr:List Q2} (H:Q0 w (Zf kp v1 (.map x) m::fr)) :
  Calls Tryz.prog 122 #[.map x] w
   (ret fun v w'=>∃ ks,ks.Perm (m.map (·.1))∧JZ ks∧Q0 w' (QE 133 2 v (Gs ks)::Zf kp v1 (.map x) m::fr)):=by
 refine QQ Tryz.func122 rfl (by kernel_rfl) ?_;refine Bz H ?_;refine Jc rfl rfl (qU x m H) ?_;rintro v w ⟨b,rfl,H⟩
 refine Jc rfl rfl (qF b x m hm hn H) ?_;rintro v w ⟨ks,hp,hs,H⟩;refine Ko H ?_;exact Q3 (Jy H rfl fun w' H'=>⟨ks,hp,hs,H'⟩)
theorem Ny {g1 g2:List Gr} {g:Gr} (hn:((g1++g::g2).map (·.key)).Nodup) {r:Rf}:mem (g1++g::g2) g.key r↔r∈g.m.map (·.1):=by
 rw[De];exact⟨fun h=>h.elim (·.2) fun h=>absurd (CH h) (Iu hn),fun h => .inl ⟨rfl,h⟩⟩
theorem Sv [Q4] {w:World} {K V:Type} {ek:K→Value} {vv:V→Value} {b:Nat} {m:List (K×V)} {l:List Q2} (H:Q0 w (Zf ek vv (.map (some b)) m::l)):Q0 w (mp ek vv b m::l):=H.head fun h hm=>by
 rcases hm with ⟨h,_⟩|⟨b',h,hm⟩
 ·cases h
 ·cases h;exact hm
theorem Di {K V:Type} [DecidableEq K] {m:List (K×V)} {x:K} (h:(QV m x).isSome=true):x∈m.map (·.1):=by
 cases hf:QV m x with
 | none=>rw[hf] at h;cases h
 | some v=>exact mem_map_of_mem (f:=(·.1)) (KK hf)
theorem qH [Q4] (p:Nat) (m:List (Rf×Int)) (hm:m.length≤1000000) (t:Int) {w:World} {fr:List Q2} (H:Q0 w (RS p m::fr)) :
  Calls Tryz.prog 209 #[pp p,.int .i64 t] w (ret fun v w'=>∃ ks,(∀ r,r∈ks↔(r.1=t∧(QV m r).isSome=true))∧JZ ks∧Q0 w' (QE 133 2 v (Gs ks)::RS p m::fr)):=by
 refine QQ Tryz.func209 rfl (by kernel_rfl) ?_;obtain⟨bt,bo,bf,H⟩:=Df H;refine DO H ?_;replace H:=Js [3,0,0,0] 0 H;obtain⟨G,hG,H⟩:=Nm H;refine Q5 rfl (GH (key:=t) H rfl rfl Vp rfl ?_);have B9:=B8 bf H;have hn:(G.map (·.key)).Nodup:=by rw[← Dd];exact B9
 cases hf:QV (G.map Uf) t with
 | none=>
  replace H:=eU kp v1 H;refine Jc rfl rfl (Nx none [] (by simp) (by simp) H) ?_;rintro v w ⟨ks,hp,hs,H⟩;refine Ko H ?_;have Xz:ks=[]:=by simpa using hp
  subst Xz;replace H:=Js [2,2,2,2,2,0] 1 H;replace H:=A2 G hG H;replace H:=Js [1,1,1,0,0] 0 H;replace H:=BQ bt bo bf (fun _ _=>Iff.rfl) (fun _ _=>Iff.rfl) H;refine Q3 (Jy H.swap rfl fun w' H'=>⟨[],fun r=>?_,hs,H'⟩);have h1:=D3.1 hf;rw[Dd] at h1;exact⟨fun h=>by simp at h,fun h=>absurd (CH ((hG t r).2 h)) h1⟩
 | some bi=>
  obtain⟨g,g1,g2,rfl,rfl,rfl⟩:=Nn hf;have H:=(Q0.pick rfl).1 H.swap;have hi:=B8 g.blk H
  have Qw:g.m.length≤1000000:=by
   have:=U5 hi (l₂:=m.map (·.1)) (fun r hr=>by
    have:=(hG g.key r).1 ((Ny hn).2 hr);exact Di this.2)
   simp at this;omega
  replace H:=MU H;refine Jc rfl rfl (Nx (some g.blk) g.m Qw hi H) ?_;rintro v w ⟨ks,hp,hs,H⟩;refine Ko H ?_;replace H:=Sv H.swap;replace H:=Js [0,1,0,0,0,0,0] 0 H;replace H:=(Q0.pick (R:=CE) (gs:=g1++g::g2) rfl).2 H;replace H:=Js [2,0,1,1,1,0] 0 H;replace H:=A2 (g1++g::g2) hG H;replace H:=Js [1,1,1,0,0] 0 H;replace H:=BQ bt bo bf (fun _ _=>Iff.rfl) (fun _ _=>Iff.rfl) H;refine Q3 (Jy H.swap rfl fun w' H'=>⟨ks,fun r=>?_,hs,H'⟩);rw[hp.mem_iff,← hG,Ny hn]
theorem gB {ks:List Rf} {spare:List Value} {i:Nat} {r:Rf} (h:ks[i]? = some r):QY (Gs ks++spare) (0+i*2) 2 [.int .i64 r.1,.int .i64 r.2]:=by
 have hl:=Fg ks;have hi:=(List.getElem?_eq_some_iff.1 h).1;have g:∀ t,(Gs ks)[t]? = (ks[t / 2]?).bind fun x=>(Nw x)[t % 2]? := fun t=>by rw[qE];exact Pr (k:=2) (fun _=>rfl) (by decide) ks t
 refine .cons ?_ (.cons ?_ (.nil _))
 ·rw[getElem?_append_left (by omega),g,show (0+i*2) / 2=i by omega,show (0+i*2) % 2=0 by omega,h];rfl
 ·rw[getElem?_append_left (by omega),g,show (0+i*2+1) / 2=i by omega,show (0+i*2+1) % 2=1 by omega,h];rfl
theorem qI {ks:List Rf} (h:Gs ks=[]):ks=[]:=by
 have:=Fg ks;rw[h] at this;exact eq_nil_of_length_eq_zero (by simp at this;omega)
theorem Sw:∀ (ks:List Rf) {m:List (Rf×Int)},(m.map (·.1)).Nodup→((ks.foldl QN m).map (·.1)).Nodup
 | [],_,h=>h
 | k::ks,_,h=>Sw ks (Rw h)
theorem qJ [Q4] (p:Nat) (m:List (Rf×Int)) (hn:(m.map (·.1)).Nodup) (hm:m.length≤1000000) (t:Int) {w:World} {fr:List Q2} (H:Q0 w (RS p m::fr)) :
  Calls Tryz.prog 128 #[pp p,.int .i64 t] w (ret fun v w'=>∃ ks,(∀ r,r∈ks↔(r.1=t∧(QV m r).isSome=true))∧JZ ks∧v = .int .i64 ks.length∧Q0 w' (RS p (ks.foldl QN m)::fr)):=by
 refine QQ Tryz.func128 rfl (by kernel_rfl) ?_;refine Re H ?_;refine Jc rfl rfl (qH p m hm t H) ?_;rintro v w ⟨ks,Xz,hs,H⟩;refine Ko H ?_
 have Qw:ks.length≤1000000:=by
  have QP:ks.Nodup:=hs.imp fun {a b} h e=>by subst e;unfold Uh at h;omega
  have:=U5 QP (l₂:=m.map (·.1)) fun r hr=>Di ((Xz r).1 hr).2;simp at this;omega
 rcases XB H with ⟨rfl,h0,H2⟩|⟨b,len,cap,spare,rfl,e3,e4,e5,H2⟩ <;> replace H:=H2 <;> clear H2
 ·have:=qI h0;subst this
  repeat refine Q7 ?_
  refine QG ?_;refine Jv ?_;refine Q5 rfl (Gk rfl rfl ?_);refine Jv ?_;refine QU ?_
  repeat refine Q7 ?_
  refine Qe ?_;refine Qq (fun ms σ w n=>ms=[]∧σ 12 = .int .i64 0∧σ 13 = .int .i64 0∧σ 5 = .slice none 0 0∧Q0 w (RS p m::fr)) (m:=1) ⟨rfl,rfl,rfl,rfl,H⟩ ?_;clear H;rintro ms σ w n ⟨rfl,YD,KW,h5,H⟩;rw[Q1 YD,Q1 KW,Q1 h5];refine J7 H ?_;refine Am H ?_;refine KF H ?_;exact Q3 (Jy H rfl fun w' H'=>⟨[],Xz,hs,rfl,H'⟩)
 ·have Y5:len=ks.length:=by rw[Fg] at e3;omega
  subst Y5;refine Z4 H ?_;refine Ax H ?_
  refine Qq (fun ms σ w n=>ms=[]∧∃ i:Nat,i≤ks.length∧n=ks.length - i∧σ 0=pp p∧σ 11 = .slice (some ⟨b,0,none⟩) ks.length cap∧σ 12 = .int .i64 ks.length∧σ 13 = .int .i64 i∧σ 5 = .slice (some ⟨b,0,none⟩) ks.length cap ∧
   Q0 w (RS p ((ks.take i).foldl QN m)::pts b (row 133 (Gs ks++spare))::fr)) (m:=ks.length) ⟨rfl,0,by omega,rfl,rfl,rfl,rfl,rfl,rfl,H.swap⟩ ?_
  clear H;rintro ms σ w n ⟨rfl,i,hi,rfl,h0,VC,YD,KW,h5,H⟩;rw[Q1 h0,Q1 VC,Q1 YD,Q1 KW,Q1 h5];refine J7 H ?_;refine Qm rfl (fun h=>QF ?_) (fun h=>Qv ?_)
  ·have Q6:i < ks.length:=by omega
   have hr:=getElem?_eq_getElem Q6;generalize ks[i]=r at hr;obtain⟨a,c⟩:=r;refine Z7 H ?_;refine Jd ?_;refine Q5 rfl (Vz H rfl (gB hr) rfl ?_);refine VS H ?_;clear H;intro b7 w H;refine J5 H ?_;clear H;intro w H;refine J2 H ?_;refine Xt H ?_;replace H:=Js [1,1] 1 H;refine Jc rfl rfl (Iv p _ (Sw _ hn) (a,c) H) ?_;clear H;rintro v w ⟨rfl,H⟩;refine Rd H ?_;refine⟨_,⟨rfl,i+1,Q6,rfl,rfl,rfl,rfl,Qh (by omega),rfl,?_⟩,by omega⟩;rw[take_add_one,hr];simpa using H
  ·have V2:i=ks.length:=by omega
   subst V2;refine KF H ?_;rw[take_length] at H;exact Q3 (Jy H.swap.drop rfl fun w' H'=>⟨ks,Xz,hs,rfl,H'⟩)
theorem gC:∀ a b:Int,ki .i64 a=ki .i64 b→a=b:=fun a b h=>by cases h;rfl
def Xb (par:List (Int×Int)) (id k:Int):Bool:=decide (QV par k=some id)
theorem gD [Q4] (p last:Nat) (par:List (Int×Int)) (id:Int) (h0:id=0∨(QV par id).isSome=true) (hl:par.length≤1000) {w:World} {fr:List Q2} (H:Q0 w (Qo p last par::fr)) :
  Calls Tryz.prog 13 #[pp p,.int .i64 id] w (ret fun v w'=>∃ u K,v = .tuple #[u,.int .i64 0]∧K.Perm ((par.map (·.1)).filter (Xb par id))∧K.Pairwise (·≤·)∧Q0 w' (IL u K::Qo p last par::fr)):=by
 have QP:=Si H;refine QQ Tryz.func13 rfl (by kernel_rfl) ?_;refine WV H ?_;refine Jc rfl rfl (Sj p last par id H) ?_;clear H;rintro v w ⟨rfl,H⟩;refine Yy H ?_;refine Qt (fun ms σ w=>ms=[]∧σ 22 = .bool false∧σ 0=pp p∧σ 1 = .int .i64 id∧Q0 w (Qo p last par::fr)) ?_ ?_
 ·cases hf:(QV par id).isSome with
  | true=>
   refine Y7 H ?_;refine Ap H ?_;refine By H ?_;refine V5 rfl rfl rfl ?_;refine J0 H ?_;exact⟨rfl,rfl,rfl,rfl,rfl,H⟩
  | false=>
   obtain rfl:id=0:=by
    rcases h0 with h|h
    ·exact h
    ·rw[hf] at h;cases h
   refine Y7 H ?_;refine Zm H ?_;refine QS rfl rfl rfl (KR rfl rfl (.inl rfl) rfl ?_);refine GL H ?_;refine GL H ?_;refine J0 H ?_;exact⟨rfl,rfl,rfl,rfl,rfl,H⟩
 clear H;rintro ms σ w ⟨rfl,g22,g0,g1,H⟩;rw[Q1 g22,Q1 g0,Q1 g1];refine Ay H ?_;obtain⟨b,H⟩:=BV H;refine G1 H ?_;replace H:=MU H.swap;refine Q5 rfl (Pd (ki .i64) v1 H rfl rfl ?_);clear H;intro bi w H;refine Bw H ?_;refine Yx (fun ms σ w=>ms=[]∧∃ (u:Value) (K:List Int),σ 7=u∧K.Perm ((par.map (·.1)).filter (Xb par id))∧Q0 w (IL u K::Qo p last par::fr)) ?_ ?_
 ·refine Qe ?_;refine Qq (fun ms σ w n=>ms=[]∧∃ (ks:List Int) (u:Value),ks.length≤par.length∧n=par.length - ks.length∧σ 1 = .int .i64 id∧σ 7=u∧σ 28=pp bi∧Q0 w (IL u (ks.filter (Xb par id))::Af (ki .i64) v1 (.map (some b)) par bi ks::pts p (row 122 [.map (some b),.int .i64 last])::fr)) (m:=par.length) ⟨rfl,[],_,by simp,rfl,rfl,rfl,rfl,Zy H⟩ ?_;clear H;rintro ms σ w n ⟨rfl,ks,u,VB,rfl,g1,g7,g28,H⟩;obtain⟨au,mu,cu,rfl⟩:=V8 H;rw[Q1 g1,Q1 g7,Q1 g28];refine Uv H ?_;refine Q5 rfl (Pe H.swap gC rfl rfl (fun hp w H=>?_) (fun q hq hn WC Xr w H=>?_))
  ·refine Yy H ?_;refine Am H ?_;replace H:=Sv (Pc H);replace H:=Js [1,1,0] 0 H;have H2:Q0 w (Qo p last par::IL (.slice au mu cu) (ks.filter (Xb par id))::fr):=A3 (by replace H:=Q0.sel [1,1,0] 0 H;dsimp only[SL.sel,SL.pull,List.drop] at H;exact H);exact .inl ⟨rfl,rfl,_,_,rfl,hp.filter _,H2.swap⟩
  ·have Q6:ks.length < par.length:=by
    have h1:(ks++[q.1]).Nodup:=by
     rw[nodup_append];exact⟨WC,by simp,fun c hc c' Zu e0=>by simp at Zu;subst Zu;subst e0;exact hn hc⟩
    have h2:=U5 h1 (l₂:=par.map (·.1)) (fun z hz=>by
     rcases mem_append.1 hz with hz|hz
     ·exact Xr z hz
     ·simp at hz;subst hz;exact mem_map.2 ⟨q,hq,rfl⟩)
    simp at h2;omega
   have gE:QV par q.1=some q.2:=(YI QP).2 hq;refine Yy H ?_;refine Ws H ?_;refine Qe ?_;refine Uv H ?_;refine Q5 rfl (Pf H gC hq rfl rfl ?_);refine F2 H ?_;obtain⟨k,t⟩:=q;refine Vj H ?_;by_cases ht:t=id
   ·have hk:Xb par id k=true:=by unfold Xb;rw[gE,ht];simp
    rw[show (t == id)=true by simpa using ht];refine Vr H ?_;refine IR H ?_;clear H;intro b39 w H;replace H:=Js [2,0,0,0] 0 H;have VO:=length_filter_le (Xb par id) ks;refine Q5 rfl (ZU H rfl rfl (by repeat first|exact .nil _|apply QY.cons rfl) rfl (by decide) (by rw[YC];simp only[length_cons,length_nil];omega) rfl rfl ?_);clear H;intro v40 w H;obtain⟨a40,m40,c40,rfl⟩:=V8 H;refine J0 H ?_;replace H:=Js [0,1,1] 1 H;refine⟨_,⟨rfl,ks++[k],_,by simp;omega,rfl,rfl,rfl,rfl,?_⟩,by simp;omega⟩;rw[filter_append,show [k].filter (Xb par id)=[k] by simp[hk]];show Q0 w (QE _ 1 _ (Qn (ks.filter (Xb par id)++[k]))::_);rw[Ff];exact H
   ·have hk:Xb par id k=false:=by unfold Xb;rw[gE];simp;exact ht
    rw[show (t == id)=false by simpa using ht];refine Vf H ?_;refine⟨_,⟨rfl,ks++[k],.slice au mu cu,by simp;omega,rfl,rfl,rfl,rfl,?_⟩,by simp;omega⟩;rw[filter_append,show [k].filter (Xb par id)=[] by simp[hk],append_nil];replace H:=Js [1,0,0] 0 H;exact H
 ·clear H;rintro ms σ w ⟨rfl,u,K,g7,hK,H⟩
  have hKl:K.length≤1000:=by
   have h1:=hK.length_eq;have h2:=length_filter_le (Xb par id) (par.map (·.1));simp at h2;omega
  obtain⟨au,cu,rfl⟩:=QI H (YC K) (by decide);rw[Q1 g7];refine Z4 H ?_;refine Jc rfl rfl (Nu _ K (by omega) H) ?_;clear H;rintro v w ⟨rfl,H⟩;refine DD H ?_;refine Q3 (Jy H rfl fun w' H'=>⟨_,_,rfl,(mergeSort_perm K _).trans hK,?_,H'⟩);have:=pairwise_mergeSort (le:=fun x y:Int=>decide (x≤y)) (fun a b c h1 h2=>by simp at *;omega) (fun a b=>by simp;omega) K;exact this.imp (fun h=>by simpa using h)
end Go.Proofs.YtmjdnljneifpcaaGreatDoor
