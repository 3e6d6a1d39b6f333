/- Cells: what is proved on the way: every input of the statement; no condition. Texts joined: CelR BumA ImgA ImgB ImgC ImgD SrtI BagA RmC RmD RmE KidA. -/
import Derived.Test.YtmjdnljneifpcaaGreatDoorBcg
import Derived.Test.YtmjdnljneifpcaaGreatDoorBce
import Derived.Test.YtmjdnljneifpcaaGreatDoorBcc
set_option linter.unusedVariables false
set_option linter.unusedSimpArgs false
namespace Go.Proofs.YtmjdnljneifpcaaGreatDoor
open List
theorem Zv.chunk {size:Nat} (h1:1≤size) {own:List Nat} {e:Q7} (h:Zv size own e) (c:Nat):(QJ e≤c*size∨(c+1)*size≤e.addr)∨∃ r:Nat,own[c]? = some r∧(r:Int)=e.region∧1≤r:=by
 by_cases ha:c < e.addr / size
 ·left;right;have:=(Nat.le_div_iff_mul_le (by omega)).1 (Nat.succ_le_of_lt ha);exact this
 ·by_cases hb:(e.addr+e.ws.length) / size < c
  ·left;left;have:=(Nat.div_lt_iff_lt_mul (by omega)).1 hb;unfold QJ;omega
  ·right;exact h.2 c (by omega) (by omega)
inductive UG (size:Nat) (own mem:List Nat) (r:Nat) (S:QE) (n:Nat):List Nat→List Nat→QE→Nat→Prop where
 | room (h:n≤S.fin - S.at'):UG size own mem r S n own mem { S with at':=S.at'+n } S.at'
 | one {a:Nat} (ha:a+1≤own.length) (hf:own[a]? = some 0) (hn:n≤size):UG size own mem r S n (VV own a 1 r) (VV mem (a*size) (1*size) 0) ⟨S.parts++[(a,1)],a*size+n,(a+1)*size⟩ (a*size)
 | run {a k:Nat} (hk:2≤k) (ha:a+k≤own.length) (hf:∀ c,a≤c→c < a+k→own[c]? = some 0) (hn:n≤k*size) (hn2:(k - 1)*size < n):UG size own mem r S n (VV own a k r) (VV mem (a*size) (k*size) 0) ⟨S.parts++[(a,k)],S.at',S.fin⟩ (a*size)
theorem Gd (a b:List (Nat×Nat)):QU (a++b)=QU a++QU b:=by simp[QU]
theorem K2 (a k:Nat):QU [(a,k)]=(List.range k).map (a+·):=by simp[QU]
theorem Ge {a k c:Nat}:c∈(List.range k).map (a+·)↔a≤c∧c < a+k:=by
 simp only[mem_map,mem_range];constructor
 ·rintro⟨i,h,rfl⟩;omega
 ·rintro⟨h1,h2⟩;exact⟨c - a,by omega,by omega⟩
theorem IV (a k:Nat):((List.range k).map (a+·)).Nodup:=by
 refine List.Pairwise.map _ (fun x y h=>?_) nodup_range;omega
theorem N7 {size:Nat} {own:List Nat} {a k r:Nat} (ha:a+k≤own.length) (hf:∀ c,a≤c→c < a+k→own[c]? = some 0) {e:Q7} (h:Zv size own e):Zv size (VV own a k r) e:=by
 refine⟨by rw[Vz ha];exact h.1,fun c h1 h2=>?_⟩;obtain⟨q,hq,hr,h1⟩:=h.2 c h1 h2;rw[Zt ha,if_neg]
 ·exact⟨q,hq,hr,h1⟩
 ·rintro⟨h2,h3⟩;rw[hf c h2 h3] at hq;cases hq;omega
theorem N8 {size:Nat} {own:List Nat} {a k r:Nat} (ha:a+k≤own.length) (hf:∀ c,a≤c→c < a+k→own[c]? = some 0) {q:Int} {S:QE} (hq:q≠r) (h:Gc size own q S):Gc size (VV own a k r) q S:=by
 refine⟨h.at1,h.fin,by rw[Vz ha];exact h.parts,h.nodup,fun c=>?_⟩;rw[h.owned,Zt ha];by_cases hc:a≤c∧c < a+k
 ·rw[if_pos hc,hf c hc.1 hc.2];constructor
  ·rintro⟨x,h1,_,h3⟩;cases h1;omega
  ·rintro⟨x,h1,h2,_⟩;cases h1;omega
 ·rw[if_neg hc]
theorem N9 {size:Nat} {own:List Nat} {a k r:Nat} (ha:a+k≤own.length) (hf:∀ c,a≤c→c < a+k→own[c]? = some 0) (hk:1≤k) (hr:1≤r) {S:QE} (h:Gc size own r S) {x y:Nat}
  (h1:x≤y) (h2:y≠0→∃ c,y=(c+1)*size∧c*size < x∧(c,1)∈S.parts++[(a,k)]):Gc size (VV own a k r) r ⟨S.parts++[(a,k)],x,y⟩:=by
 refine⟨h1,h2,?_,?_,fun c=>?_⟩
 ·intro p hp;rw[Vz ha]
  rcases mem_append.1 hp with hp|hp
  ·exact h.parts p hp
  ·simp at hp;subst hp;exact⟨hk,ha⟩
 ·show (QU (S.parts++[(a,k)])).Nodup;rw[Gd,K2,nodup_append];refine⟨h.nodup,IV a k,fun c hc d hd=>?_⟩;rintro rfl;obtain⟨q,h1,_,h3⟩:=(h.owned c).1 hc;have h4:=Ge.1 hd;rw[hf c h4.1 h4.2] at h1;cases h1;omega
 ·show c∈QU (S.parts++[(a,k)])↔_;rw[Gd,K2,mem_append,Ge,h.owned,Zt ha];by_cases hc:a≤c∧c < a+k
  ·rw[if_pos hc];constructor
   ·intro _;exact⟨r,rfl,rfl,by omega⟩
   ·intro _;exact .inr hc
  ·rw[if_neg hc];constructor
   ·rintro(h|h)
    ·exact h
    ·exact absurd h hc
   ·intro h;exact .inl h
theorem X5 {α:Type} {a b:List α} {x y:α} (h:x∈a++b):x∈a++y::b:=by
 rcases mem_append.1 h with h|h
 ·exact mem_append.2 (.inl h)
 ·exact mem_append.2 (.inr (mem_cons_of_mem _ h))
theorem G9 {α:Type} {a b:List α} {x y:α} (h:x∈a++y::b):x=y∨x∈a++b:=by
 rcases mem_append.1 h with h|h
 ·exact .inr (mem_append.2 (.inl h))
 ·rcases mem_cons.1 h with h|h
  ·exact .inl h
  ·exact .inr (mem_append.2 (.inr h))
theorem CM {K V:Type} {g1 g2:List (K×V)} {x x':K×V} (h:x'.1=x.1):(g1++x'::g2).map (·.1)=(g1++x::g2).map (·.1):=by simp[h]
theorem aP {s:CS} (h:WF s) {i g0:Nat} (hi:s.tab[i]? = some ⟨g0,none⟩) (hg:g0≤254) {r:Nat} {q q2:Nat} {S:QE} {L:List Nat} {p1 p2:List (Int×Nat×QE)} {m1 m2:List (Int×Nat×List Nat)}
  (hs:s.sps=p1++((r:Int),q,S)::p2) (hm:s.mns=m1++((r:Int),q2,L)::m2) (hnd:(s.par.map (·.1)).Nodup) {e:Q7} (hreg:e.region=r) (ok:X4 s.lays i e) {own' mem mem':List Nat} {S':QE}
  (al:UG s.size s.own mem r S (e.ws.length+1) own' mem' S' e.addr) {L':List Nat} (hL:L'.Pairwise (· < ·)) (hL':∀ j,j∈L'↔j=i∨j∈L) :
  WF { s with own:=own',tab:=s.tab.set i ⟨g0+1,some e⟩,sps:=p1++((r:Int),q,S')::p2,mns:=m1++((r:Int),q2,L')::m2 }:=by
 have hs1:=h.size.1;have hil:i < s.tab.length:=(List.getElem?_eq_some_iff.1 hi).1;have hS:Gc s.size s.own r S:=h.spc ((r:Int),q,S) (by rw[hs];simp)
 have hlive:∃ y,((r:Int),y)∈s.par:=by
  have:(r:Int)∈s.par.map (·.1):=by rw[← h.skeys,hs];simp
  obtain⟨⟨a,b⟩,hab,rfl⟩:=mem_map.1 this;exact⟨b,hab⟩
 have hr1:1≤r:=by obtain⟨y,hy⟩:=hlive;have:=(h.par.2.2 _ _ hy).1;omega
 have hnk:((p1++((r:Int),q,S)::p2).map (·.1)).Nodup:=by rw[← hs,h.skeys];exact hnd
 have hother:∀ x∈p1++p2,x∈s.sps∧x.1≠(r:Int):=by
  intro x hx;refine⟨by rw[hs];exact X5 hx,fun hx1=>?_⟩;rw[map_append,map_cons,nodup_append] at hnk;obtain⟨_,h2,h3⟩:=hnk
  rcases mem_append.1 hx with hx|hx
  ·exact h3 x.1 (mem_map.2 ⟨x,hx,rfl⟩) (r:Int) (by simp) hx1
  ·rw[nodup_cons] at h2;exact h2.1 (mem_map.2 ⟨x,hx,hx1⟩)
 have hmem:∀ x,x∈p1++((r:Int),q,S')::p2→x=((r:Int),q,S')∨x∈p1++p2:=by
  exact fun x hx=>G9 hx
 have key:own'.length=s.own.length∧Zv s.size own' e∧(∀ f,Zv s.size s.own f→Zv s.size own' f)∧Gc s.size own' r S'∧(∀ x∈p1++p2,Gc s.size own' x.1 x.2.2) ∧
   (∀ (j g:Nat) (f:Q7),s.tab[j]? = some ⟨g,some f⟩→(QJ f≤e.addr∨QJ e≤f.addr)∧(QJ f≤S'.at'∨S'.fin≤f.addr))∧(QJ e≤S'.at'∨S'.fin≤e.addr)∧(∀ (c x:Nat),own'[c]? = some x→x≠0→x=r∨s.own[c]? = some x):=by
  generalize hea:e.addr=ad at al;cases al with
  | room hn=>
   have hfin:S.fin≠0:=by omega
   obtain⟨c,hc1,hc2,hc3⟩:=hS.fin hfin
   have hcm:c∈QU S.parts:=by
    unfold QU;rw[mem_flatMap];exact⟨(c,1),hc3,by simp⟩
   obtain⟨y,hy1,hy2,hy3⟩:=(hS.owned c).1 hcm;have hat:=hS.at1;have e1:e.addr / s.size=c:=by rw[hea];exact Nat.div_eq_of_lt_le (by omega) (by rw[← hc1];omega)
   have e2:(e.addr+e.ws.length) / s.size=c:=by rw[hea];exact Nat.div_eq_of_lt_le (by omega) (by rw[← hc1];omega)
   have hcl:c < s.own.length:=(List.getElem?_eq_some_iff.1 hy1).1;have hle:(c+1)*s.size≤s.own.length*s.size:=Nat.mul_le_mul_right _ hcl;refine⟨rfl,⟨by unfold QJ;omega,fun d h1 h2=>?_⟩,fun _ hf=>hf,⟨by show S.at'+_≤S.fin;omega,fun _=>⟨c,hc1,by show c*s.size < S.at'+_;omega,hc3⟩,hS.parts,hS.nodup,hS.owned⟩,fun x hx=>h.spc x (hother x hx).1,fun j g f hj=>?_,.inl ?_,fun _ _ h1 _ => .inr h1⟩
   ·have:d=c:=by omega
    subst this;exact⟨y,hy1,by rw[hy2,hreg],by omega⟩
   ·have:QJ f≤S.at'∨S.fin≤f.addr:=h.free ((r:Int),q,S) (by rw[hs];simp) _ _ _ hj;have hee:QJ e=S.at'+(e.ws.length+1):=by unfold QJ;omega
    rw[hee];constructor
    ·rcases this with h1|h1
     ·left;exact h1
     ·right;show S.at'+_≤f.addr;omega
    ·rcases this with h1|h1
     ·left;show QJ f≤S.at'+_;omega
     ·right;exact h1
   ·show QJ e≤S.at'+_;unfold QJ;omega
  | @one a ha hf hn=>
   have hf':∀ c,a≤c→c < a+1→s.own[c]? = some 0:=fun c h1 h2=>by rw[show c=a by omega];exact hf
   have hsz:(a+1)*s.size=a*s.size+s.size:=Nat.succ_mul _ _;have hle:(a+1)*s.size≤s.own.length*s.size:=Nat.mul_le_mul_right _ ha;have e1:e.addr / s.size=a:=by rw[hea];exact Nat.mul_div_cancel _ (by omega)
   have e2:(e.addr+e.ws.length) / s.size=a:=by rw[hea];exact Nat.div_eq_of_lt_le (by omega) (by omega)
   have hoff:∀ (j g:Nat) (f:Q7),s.tab[j]? = some ⟨g,some f⟩→QJ f≤a*s.size∨(a+1)*s.size≤f.addr:=fun j g f hj=>by
    rcases (h.obj _ _ _ hj).2.1.chunk hs1 a with h1|⟨x,h1,_,h3⟩
    ·exact h1
    ·rw[hf] at h1;cases h1;omega
   refine⟨Vz ha,⟨by rw[Vz ha];unfold QJ;omega,fun d h1 h2=>?_⟩,fun f hl=>N7 ha hf' hl,?_,fun x hx=>N8 ha hf' (hother x hx).2 (h.spc x (hother x hx).1),fun j g f hj=>?_,.inl ?_,fun c x h1 h2=>?_⟩
   ·have:d=a:=by omega
    subst this;rw[Zt ha,if_pos (by omega)];exact⟨r,rfl,hreg.symm,hr1⟩
   ·exact N9 ha hf' (by omega) hr1 hS (by omega) (fun _=>⟨a,rfl,by omega,by simp⟩)
   ·have:=hoff j g f hj;have hee:QJ e=a*s.size+(e.ws.length+1):=by unfold QJ;omega
    rw[hee];constructor
    ·rcases this with h1|h1
     ·left;exact h1
     ·right;omega
    ·rcases this with h1|h1
     ·left;show QJ f≤a*s.size+_;omega
     ·right;exact h1
   ·show QJ e≤a*s.size+_;unfold QJ;omega
   ·rw[Zt ha] at h1;split at h1
    ·cases h1;exact .inl rfl
    ·exact .inr h1
  | @run a k hk ha hf hn hn2=>
   have hsz:(a+k)*s.size=a*s.size+k*s.size:=Nat.add_mul _ _ _;have hsz2:(k - 1+1)*s.size=(k - 1)*s.size+s.size:=Nat.succ_mul _ _;rw[show k - 1+1=k by omega] at hsz2;have hle:(a+k)*s.size≤s.own.length*s.size:=Nat.mul_le_mul_right _ ha;have e1:e.addr / s.size=a:=by rw[hea];exact Nat.mul_div_cancel _ (by omega)
   have e2:(e.addr+e.ws.length) / s.size < a+k:=by rw[hea,Nat.div_lt_iff_lt_mul (by omega)];omega
   have hoff:∀ c,a≤c→c < a+k→∀ (j g:Nat) (f:Q7),s.tab[j]? = some ⟨g,some f⟩→QJ f≤c*s.size∨(c+1)*s.size≤f.addr:=fun c hc1 hc2 j g f hj=>by
    rcases (h.obj _ _ _ hj).2.1.chunk hs1 c with h1|⟨x,h1,_,h3⟩
    ·exact h1
    ·rw[hf c hc1 hc2] at h1;cases h1;omega
   have hoff2:∀ (j g:Nat) (f:Q7),s.tab[j]? = some ⟨g,some f⟩→QJ f≤a*s.size∨(a+k)*s.size≤f.addr:=fun j g f hj=>by
    have hend:f.addr+1≤QJ f:=by unfold QJ;omega
    by_cases h0:QJ f≤a*s.size
    ·exact .inl h0
    ·refine .inr ?_
     have:∀ m,m < k→(a+m+1)*s.size≤f.addr:=by
      intro m
      induction m with
      | zero=>
       intro _
       rcases hoff a (by omega) (by omega) j g f hj with h1|h1
       ·exact absurd h1 h0
       ·exact h1
      | succ m ih=>
       intro hm;have h2:=ih (by omega)
       rcases hoff (a+(m+1)) (by omega) (by omega) j g f hj with h1|h1
       ·rw[show a+(m+1)=a+m+1 by omega] at h1;omega
       ·exact h1
     have:=this (k - 1) (by omega);rw[show a+(k - 1)+1=a+k by omega] at this;exact this
   refine⟨Vz ha,⟨by rw[Vz ha];unfold QJ;omega,fun d h1 h2=>?_⟩,fun f hl=>N7 ha hf hl,?_,fun x hx=>N8 ha hf (hother x hx).2 (h.spc x (hother x hx).1),fun j g f hj=>?_,?_,fun c x h1 h2=>?_⟩
   ·rw[Zt ha,if_pos (by omega)];exact⟨r,rfl,hreg.symm,hr1⟩
   ·refine N9 ha hf (by omega) hr1 hS hS.at1 (fun h0=>?_);obtain⟨c,h1,h2,h3⟩:=hS.fin h0;exact⟨c,h1,h2,by simp[h3]⟩
   ·have:=hoff2 j g f hj;have hee:QJ e=a*s.size+(e.ws.length+1):=by unfold QJ;omega
    rw[hee];refine⟨?_,h.free ((r:Int),q,S) (by rw[hs];simp) _ _ _ hj⟩
    rcases this with h1|h1
    ·left;exact h1
    ·right;omega
   ·show QJ e≤S.at'∨S.fin≤a*s.size;by_cases h0:S.fin=0
    ·right;omega
    obtain⟨c,hc1,hc2,hc3⟩:=hS.fin h0
    have hcm:c∈QU S.parts:=by
     unfold QU;rw[mem_flatMap];exact⟨(c,1),hc3,by simp⟩
    obtain⟨y,hy1,hy2,hy3⟩:=(hS.owned c).1 hcm;by_cases hca:c < a
    ·right;have:(c+1)*s.size≤a*s.size:=Nat.mul_le_mul_right _ hca;omega
    ·by_cases hcb:c < a+k
     ·rw[hf c (by omega) hcb] at hy1;cases hy1;omega
     ·left;have:(a+k)*s.size≤c*s.size:=Nat.mul_le_mul_right _ (by omega);unfold QJ;omega
   ·rw[Zt ha] at h1;split at h1
    ·cases h1;exact .inl rfl
    ·exact .inr h1
 obtain⟨k1,k2,k3,k4,k5,k6,k7,k8⟩:=key;have hsk:(p1++((r:Int),q,S')::p2).map (·.1)=s.par.map (·.1):=by rw[← h.skeys,hs];exact CM rfl
 have hmk:(m1++((r:Int),q2,L')::m2).map (·.1)=s.par.map (·.1):=by rw[← h.mkeys,hm];exact CM rfl
 have hnm:((m1++((r:Int),q2,L)::m2).map (·.1)).Nodup:=by rw[← hm,h.mkeys];exact hnd
 refine⟨h.size,by show 1≤own'.length∧own'.length≤63;rw[k1];exact h.own,by show 1≤(s.tab.set _ _).length∧(s.tab.set _ _).length≤63;rw[length_set];exact h.slots,h.lays,?_,?_,?_,h.par,hsk,hmk,?_,?_,?_,?_⟩
 ·intro j t hj
  rcases V3 hj with ⟨rfl,rfl,_⟩|⟨_,hj⟩
  ·exact⟨by show g0+1≤255;omega,fun _=>by show 1≤g0+1;omega⟩
  ·exact h.gen _ _ hj
 ·intro j g f hj
  rcases V3 hj with ⟨rfl,ht,_⟩|⟨_,hj⟩
  ·injection ht with h1 h2
   injection h2 with h2
   subst h2;exact⟨ok,k2,by rw[hreg];exact hlive⟩
  ·obtain⟨o1,o2,o3⟩:=h.obj _ _ _ hj;exact⟨o1,k3 _ o2,o3⟩
 ·intro j k m n f f' hne hj hk
  rcases V3 hj with ⟨rfl,ht,_⟩|⟨hji,hj'⟩ <;> rcases V3 hk with ⟨rfl,hu,_⟩|⟨hki,hk'⟩
  ·exact absurd rfl hne
  ·injection ht with h1 h2
   injection h2 with h2
   subst h2;exact(k6 _ _ _ hk').1.symm
  ·injection hu with h1 h2
   injection h2 with h2
   subst h2;exact(k6 _ _ _ hj').1
  ·exact h.apart _ _ _ _ _ _ hne hj' hk'
 ·intro x hx
  rcases hmem x hx with rfl|hx
  ·exact k4
  ·exact k5 x hx
 ·intro x hx j g f hj
  rcases V3 hj with ⟨rfl,ht,_⟩|⟨_,hj⟩
  ·injection ht with h1 h2
   injection h2 with h2
   subst h2
   rcases hmem x hx with rfl|hx
   ·exact k7
   ·have hok:=k5 x hx;by_cases h0:x.2.2.fin=0
    ·right;omega
    obtain⟨c,hc1,hc2,hc3⟩:=hok.fin h0
    have hcm:c∈QU x.2.2.parts:=by
     unfold QU;rw[mem_flatMap];exact⟨(c,1),hc3,by simp⟩
    obtain⟨y,hy1,hy2,hy3⟩:=(hok.owned c).1 hcm;have hat:=hok.at1
    rcases k2.chunk hs1 c with (h1|h1)|⟨z,hz1,hz2,hz3⟩
    ·left;omega
    ·right;omega
    ·exact absurd (show x.1=(r:Int) by rw[hy1] at hz1;cases hz1;rw[← hy2,hz2,hreg]) (hother x hx).2
  ·rcases hmem x hx with rfl|hx
   ·exact(k6 _ _ _ hj).2
   ·exact h.free x (hother x hx).1 _ _ _ hj
 ·intro c x hc h0
  rcases k8 c x hc h0 with rfl|h1
  ·exact hlive
  ·exact h.live c x h1 h0
 ·intro x hx
  have hx':x=((r:Int),q2,L')∨(x∈s.mns∧x.1≠(r:Int)):=by
   have hx0:x=((r:Int),q2,L')∨x∈m1++m2:=by
    exact G9 hx
   rcases hx0 with h1|h1
   ·exact .inl h1
   ·refine .inr ⟨by rw[hm];exact X5 h1,fun hx1=>?_⟩;rw[map_append,map_cons,nodup_append] at hnm;obtain⟨_,h2,h3⟩:=hnm
    rcases mem_append.1 h1 with hx|hx
    ·exact h3 x.1 (mem_map.2 ⟨x,hx,rfl⟩) (r:Int) (by simp) hx1
    ·rw[nodup_cons] at h2;exact h2.1 (mem_map.2 ⟨x,hx,hx1⟩)
  rcases hx' with rfl|⟨hx,hne⟩
  ·refine⟨hL,fun j=>?_⟩;show j∈L'↔_;rw[hL',(h.mine ((r:Int),q2,L) (by rw[hm];simp)).2];constructor
   ·rintro(rfl|⟨g,f,h1,h2⟩)
    ·exact⟨g0+1,e,by show (s.tab.set _ _)[_]? = _;simp[hil],hreg⟩
    ·by_cases hji:j=i
     ·subst hji;rw[hi] at h1;cases h1
     ·exact⟨g,f,by show (s.tab.set _ _)[_]? = _;rw[getElem?_set_ne (fun q=>hji q.symm)];exact h1,h2⟩
   ·rintro⟨g,f,h1,h2⟩
    rcases V3 h1 with ⟨rfl,_,_⟩|⟨_,h1⟩
    ·exact .inl rfl
    ·exact .inr ⟨g,f,h1,h2⟩
  ·obtain⟨h1,h2⟩:=h.mine x hx;refine⟨h1,fun j=>?_⟩;rw[h2];constructor
   ·rintro⟨g,f,h3,h4⟩;by_cases hji:j=i
    ·subst hji;rw[hi] at h3;cases h3
    ·exact⟨g,f,by show (s.tab.set _ _)[_]? = _;rw[getElem?_set_ne (fun q=>hji q.symm)];exact h3,h4⟩
   ·rintro⟨g,f,h3,h4⟩
    rcases V3 h3 with ⟨rfl,ht,_⟩|⟨_,h3⟩
    ·injection ht with _ h5
     injection h5 with h5
     subst h5;exact absurd (h4.symm.trans hreg) hne
    ·exact⟨g,f,h3,h4⟩
theorem NQ {s:CS} (h:WF s) {mem mem' own':List Nat} (hm:mem.length=s.own.length*s.size) {r n ad:Nat} {S S':QE} (al:UG s.size s.own mem r S n own' mem' S' ad) :
  mem'.length=mem.length∧∀ (j g:Nat) (f:Q7),s.tab[j]? = some ⟨g,some f⟩→∀ k,f.addr≤k→k < QJ f→mem'[k]? = mem[k]?:=by
 have hs1:=h.size.1
 have off:∀ (a K:Nat),a+K≤s.own.length→(∀ c,a≤c→c < a+K→s.own[c]? = some 0)→(VV mem (a*s.size) (K*s.size) 0).length=mem.length ∧
   ∀ (j g:Nat) (f:Q7),s.tab[j]? = some ⟨g,some f⟩→∀ k,f.addr≤k→k < QJ f→(VV mem (a*s.size) (K*s.size) 0)[k]? = mem[k]?:=by
  intro a K ha hf;have hsz:(a+K)*s.size=a*s.size+K*s.size:=Nat.add_mul _ _ _;have hle:(a+K)*s.size≤s.own.length*s.size:=Nat.mul_le_mul_right _ ha;refine⟨Vz (by omega),fun j g f hj k h1 h2=>?_⟩;rw[Zt (by omega),if_neg];rintro⟨h3,h4⟩;unfold QJ at h2;have c1:f.addr / s.size≤k / s.size:=Nat.div_le_div_right h1;have c2:k / s.size≤(f.addr+f.ws.length) / s.size:=Nat.div_le_div_right (by omega);obtain⟨q,hq,_,hq1⟩:=(h.obj _ _ _ hj).2.1.2 _ c1 c2;have c3:a≤k / s.size:=(Nat.le_div_iff_mul_le (by omega)).2 h3;have c4:k / s.size < a+K:=(Nat.div_lt_iff_lt_mul (by omega)).2 (by omega);rw[hf _ c3 c4] at hq;cases hq;omega
 cases al with
 | room _=>exact⟨rfl,fun _ _ _ _ _ _ _=>rfl⟩
 | @one a ha hf _=>exact off a 1 ha (fun c h1 h2=>by rw[show c=a by omega];exact hf)
 | @run a k _ ha hf _ _=>exact off a k ha hf
theorem aT {s:CS} (h:WF s) {mem mem1 mem2 own':List Nat} (m:Va s mem) {r i g0:Nat} (hi:s.tab[i]? = some ⟨g0,none⟩) {S S':QE} {e:Q7} (al:UG s.size s.own mem r S (e.ws.length+1) own' mem1 S' e.addr)
  (hl:mem2.length=mem1.length) (hown:own'.length=s.own.length) (hh:mem2[e.addr]? = some (G7 e.lay e.count i)) (hw:∀ (p w:Nat),e.ws[p]? = some w→mem2[e.addr+1+p]? = some w) (hout:∀ k,k < e.addr∨QJ e≤k→mem2[k]? = mem1[k]?)
  (hap:∀ (j g:Nat) (f:Q7),s.tab[j]? = some ⟨g,some f⟩→QJ f≤e.addr∨QJ e≤f.addr) {s':CS} (h1:s'.own=own') (h2:s'.size=s.size) (h3:s'.tab=s.tab.set i ⟨g0+1,some e⟩):Va s' mem2:=by
 obtain⟨a1,a2⟩:=NQ h m.len al
 have old:∀ (j g:Nat) (f:Q7),s.tab[j]? = some ⟨g,some f⟩→∀ k,f.addr≤k→k < QJ f→mem2[k]? = mem[k]? := fun j g f hj k k1 k2=>by
  rw[← a2 j g f hj k k1 k2];refine hout k ?_
  rcases hap j g f hj with h|h
  ·left;omega
  ·right;omega
 refine⟨by rw[hl,a1,h1,h2,hown];exact m.len,?_,?_⟩
 ·intro j g f hj;rw[h3] at hj
  rcases V3 hj with ⟨rfl,ht,_⟩|⟨_,hj⟩
  ·injection ht with _ h5
   injection h5 with h5
   subst h5;exact hh
  ·rw[old j g f hj f.addr (Nat.le_refl _) (by unfold QJ;omega)];exact m.head _ _ _ hj
 ·intro j g f hj p w hp;rw[h3] at hj
  rcases V3 hj with ⟨rfl,ht,_⟩|⟨_,hj⟩
  ·injection ht with _ h5
   injection h5 with h5
   subst h5;exact hw p w hp
  ·have hp1:=(List.getElem?_eq_some_iff.1 hp).1;rw[old j g f hj _ (by omega) (by unfold QJ;omega)];exact m.words _ _ _ hj p w hp
theorem ae {s:CS} (h:WF s) {parent:Int} {q q2:Nat} (hl:s.par.length < 64) (hlast:s.last+1 < 1000000) :
  WF { s with last:=s.last+1,par:=s.par++[(((s.last+1:Nat):Int),parent)],sps:=s.sps++[(((s.last+1:Nat):Int),q,⟨[],0,0⟩)],mns:=s.mns++[(((s.last+1:Nat):Int),q2,[])] }:=by
 have hup:∀ r x,(r,x)∈s.par→r≠((s.last+1:Nat):Int):=fun r x hx=>by
  have:=(h.par.2.2 r x hx).2;omega
 refine⟨h.size,h.own,h.slots,h.lays,h.gen,fun i g e hi=>?_,h.apart,⟨by show (s.par++[_]).length≤64;simp;omega,hlast,?_⟩,?_,?_,?_,?_,fun c r hc h0=>?_,?_⟩
 ·obtain⟨a,b,y,hy⟩:=h.obj i g e hi;exact⟨a,b,y,mem_append.2 (.inl hy)⟩
 ·intro r x hx;have hx:(r,x)∈s.par++[_]:=hx;show 1≤r∧r≤((s.last+1:Nat):Int)
  rcases mem_append.1 hx with hx|hx
  ·have:=h.par.2.2 r x hx;omega
  ·simp at hx;omega
 ·have:=h.skeys;simp[this]
 ·have:=h.mkeys;simp[this]
 ·intro x hx
  rcases mem_append.1 (show x∈s.sps++[_] from hx) with hx|hx
  ·exact h.spc x hx
  ·simp at hx;subst hx;refine⟨Nat.le_refl _,fun h0=>absurd rfl h0,fun p hp=>(by cases hp),by simp[QU],fun c=>⟨fun hc=>by simp[QU] at hc,?_⟩⟩;rintro⟨y,h1,h2,h3⟩;obtain⟨z,hz⟩:=h.live c y h1 h3;exact absurd h2 (hup _ _ hz)
 ·intro x hx i g e hi
  rcases mem_append.1 (show x∈s.sps++[_] from hx) with hx|hx
  ·exact h.free x hx i g e hi
  ·simp at hx;subst hx;exact .inr (Nat.zero_le _)
 ·obtain⟨y,hy⟩:=h.live c r hc h0;exact⟨y,mem_append.2 (.inl hy)⟩
 ·intro x hx
  rcases mem_append.1 (show x∈s.mns++[_] from hx) with hx|hx
  ·exact h.mine x hx
  ·simp at hx;subst hx;refine⟨by simp,fun i=>⟨fun hc=>by simp at hc,?_⟩⟩;rintro⟨g,e,h1,h2⟩;obtain⟨_,_,y,hy⟩:=h.obj _ _ _ h1;exact absurd h2 (hup _ _ hy)
theorem ah {lays:List QM} {i:Nat} {e:Q7} (h:X4 lays i e) (x:QM):X4 (lays++[x]) i e:=by
 obtain⟨m,l,h1,h2⟩:=h;exact⟨m,l,by rw[getElem?_append_left (List.getElem?_eq_some_iff.1 h1).1];exact h1,h2⟩
theorem aj {s:CS} (h:WF s) {l:QM} (hr:Vf l) (hl:s.lays.length < 64):WF { s with lays:=s.lays++[l] }:=by
 refine⟨h.size,h.own,h.slots,⟨by show (s.lays++[l]).length≤64;simp;omega,fun x hx=>?_⟩,h.gen,fun i g e hi=>?_,h.apart,h.par,h.skeys,h.mkeys,h.spc,h.free,h.live,h.mine⟩
 ·rcases mem_append.1 hx with hx|hx
  ·exact h.lays.2 x hx
  ·simp at hx;subst hx;exact hr
 ·obtain⟨a,b⟩:=h.obj i g e hi;exact⟨ah a l,b⟩
theorem As {s:CS} (h:WF s) (m:List ((Int×Int)×Int)):WF { s with rem:=m }:=⟨h.size,h.own,h.slots,h.lays,h.gen,h.obj,h.apart,h.par,h.skeys,h.mkeys,h.spc,h.free,h.live,h.mine⟩
theorem F1 {s:CS} {mem:List Nat} (h:Va s mem) (m:List ((Int×Int)×Int)):Va { s with rem:=m } mem:=⟨h.len,h.head,h.words⟩
end Go.Proofs.YtmjdnljneifpcaaGreatDoor
set_option linter.unusedSectionVars false
namespace Go.Proofs.YtmjdnljneifpcaaGreatDoor
open List
open Go.SL
@[reducible] def Vk (q:Nat×Nat):List Value:=[.int .i64 q.1,.int .i64 q.2]
theorem XS (q:Nat×Nat):(Vk q).length=2:=rfl
def Qn (p sp owner:Nat) (S:QE):Q2:=ex fun v:Value=>star [pts p (row 206 [pp sp,.int .i64 owner,v,.int .i64 S.at',.int .i64 S.fin]),QC 208 2 v (S.parts.flatMap Vk)]
theorem GQ [Q4] {w:World} {p sp owner:Nat} {S:QE} {l:List Q2} (H:Q0 w (Qn p sp owner S::l)):∃ a c,Q0 w (pts p (row 206 [pp sp,.int .i64 owner,.slice a S.parts.length c,.int .i64 S.at',.int .i64 S.fin])::QC 208 2 (.slice a S.parts.length c) (S.parts.flatMap Vk)::l):=by
 obtain⟨v,H⟩:=Q0.ex.1 H;have H:=Q0.star.1 H;obtain⟨a,c,rfl⟩:=QF H.drop (Gu XS _) (by decide);exact⟨a,c,H⟩
theorem ZQ [Q4] {w:World} {p sp owner:Nat} {S:QE} {l:List Q2} {v:Value} (H:Q0 w (pts p (row 206 [pp sp,.int .i64 owner,v,.int .i64 S.at',.int .i64 S.fin])::QC 208 2 v (S.parts.flatMap Vk)::l)):Q0 w (Qn p sp owner S::l):=
 Q0.ex.2 ⟨v,Q0.star.2 H⟩
theorem IY [Q4] (sp owner:Nat) (ho:1≤owner) {w:World} {fr:List Q2} (H:Q0 w fr) :
  Calls Tryz.prog 67 #[pp sp,.int .i64 owner] w (ret fun v w'=>∃ p,v = .tuple #[pp p,.int .i64 0]∧Q0 w' (Qn p sp owner ⟨[],0,0⟩::fr)):=by
 refine Q9 Tryz.func67 rfl (by kernel_rfl) ?_;refine Bq H ?_;refine Y6 (fun ms σ w=>ms=[]∧σ 0=pp sp∧σ 1 = .int .i64 owner∧Q0 w fr) ?_ ?_
 ·refine RW H ?_;refine VX H ?_;rw[show decide ((owner:Int) < 1)=false from decide_eq_false (by omega)];refine V6 H ?_;exact .inl ⟨rfl,rfl,rfl,rfl,H⟩
 ·clear H;rintro ms σ w ⟨rfl,g0,g1,H⟩;rw[Q1 g0,Q1 g1];refine J9 H ?_;refine XE H ?_;clear H;intro b15 w H;refine J3 H ?_;have H:=(Z2 (E:=208) (k:=2) H).swap;exact Q3 (Jy H rfl fun w' H'=>⟨_,rfl,ZQ (S:=⟨[],0,0⟩) H'⟩)
theorem am [Q4] (p sp owner:Nat) (S:QE) (h1:S.at'≤S.fin) (h2:S.fin≤1048576) {w:World} {fr:List Q2} (H:Q0 w (Qn p sp owner S::fr)) :
  Calls Tryz.prog 133 #[pp p] w (ret fun v w'=>v = .int .i64 ((S.fin - S.at':Nat):Int)∧Q0 w' (Qn p sp owner S::fr)):=by
 obtain⟨a,c,H⟩:=GQ H;refine Q9 Tryz.func133 rfl (by kernel_rfl) ?_;refine Di H ?_;clear H;intro w H;refine XF H ?_;refine EV H ?_;refine Ja 8 ?_;refine Ja 9 ?_;refine Jx H ?_;refine Q3 (Jy (ZQ H) rfl fun w' H'=>⟨?_,H'⟩);show Value.int .i64 (IntKind.i64.wrap ((S.fin:Int) - (S.at':Int)))=_;rw[Qb (by omega) (by omega)];congr 1;omega
theorem NV [Q4] (p sp owner size n:Nat) (S:QE) (mem own:List Nat) (ho:1≤owner) (hn1:1≤n) (hn2:n≤100000) (h1:S.at'≤S.fin) (h2:S.fin≤1048576) (h63:own.length≤63) (hs1:1≤size) (hs2:size≤1024) (hp:S.parts.length≤1000) {w:World} {fr:List Q2} [hT:YX 0 Lib.deBruijn64tab fr]
  (H:Q0 w (Qn p sp owner S::ST sp size mem own::fr)) :
  Calls Tryz.prog 70 #[pp p,.int .i64 n] w (ret fun v w'=>(∃ a own' mem' S',v = .tuple #[.int .i64 ((a:Nat):Int),.int .i64 0]∧UG size own mem owner S n own' mem' S' a∧Q0 w' (Qn p sp owner S'::ST sp size mem' own'::fr)) ∨
   (v = .tuple #[.int .i64 0,.int .i64 11]∧(∀ a,a+((n - 1) / size+1)≤own.length→∃ i,a≤i∧i < a+((n - 1) / size+1)∧own.getD i 0≠0)∧Q0 w' (Qn p sp owner S::ST sp size mem own::fr))):=by
 refine Q9 Tryz.func70 rfl (by kernel_rfl) ?_;refine Bq H ?_;refine Y6 (fun ms σ w=>ms=[]∧σ 0=pp p∧σ 1 = .int .i64 n∧Q0 w (Qn p sp owner S::ST sp size mem own::fr)) ?_ ?_
 ·refine RW H ?_;refine VX H ?_;rw[show decide ((n:Int) < 1)=false from decide_eq_false (by omega)];refine C5 H ?_;refine J9 H ?_;refine Jc rfl rfl (am p sp owner S h1 h2 H) ?_;clear H;rintro v w ⟨rfl,H⟩;refine J3 H ?_;by_cases hr:n≤S.fin - S.at'
  ·rw[show decide ((n:Int)≤((S.fin - S.at':Nat):Int))=true from decide_eq_true (by omega)];refine VM H ?_;obtain⟨a,c,H⟩:=GQ H;refine GM H ?_;rw[Qb (x:=(S.at':Int)+(n:Int)) (by omega) (by omega),show (S.at':Int)+(n:Int)=((S.at'+n:Nat):Int) by omega];refine GO H ?_;clear H;intro w H;refine J2 H ?_;refine GM H ?_;refine J3 H ?_;refine Q3 (.inr ⟨by simp,Jy (ZQ (S:={ S with at':=S.at'+n }) H) rfl fun w' H' => .inl ⟨S.at',own,mem,_,?_,.room hr,H'⟩⟩);show Value.tuple #[.int .i64 (IntKind.i64.wrap (((S.at'+n:Nat):Int) - (n:Int))),_]=_;rw[Qb (by omega) (by omega),show ((S.at'+n:Nat):Int) - (n:Int)=(S.at':Int) by omega];rfl
  ·rw[show decide ((n:Int)≤((S.fin - S.at':Nat):Int))=false from decide_eq_false (by omega)];refine V6 H ?_;exact .inl ⟨rfl,rfl,rfl,rfl,H⟩
 ·clear H;rintro ms σ w ⟨rfl,g0,g1,H⟩;rw[Q1 g0,Q1 g1];obtain⟨a,c,H⟩:=GQ H;have hk:(n - 1) / size+1≤n:=by have:=Nat.div_le_self (n - 1) size;omega
  have hk1:(n - 1) / size*size≤n - 1:=Nat.div_mul_le_self _ _
  have hk2:n≤((n - 1) / size+1)*size:=by
   have:=Nat.lt_div_mul_add (a:=n - 1) (b:=size) (by omega);rw[Nat.succ_mul];omega
  refine Yd H ?_;replace H:=Js [2,0,0] 0 H;refine Jc rfl rfl (CB sp size mem own H) ?_;clear H;rintro v w ⟨rfl,H⟩;refine EY H ?_;rw[Qb (x:=(n:Int) - 1) (by omega) (by omega),show (n:Int) - 1=((n - 1:Nat):Int) by omega]
  refine UD (v := .int .i64 (((n - 1) / size:Nat):Int)) (by
   show (if IntKind.i64=IntKind.i64 then (if (size:Int)=0 then none else some _) else none)=_;rw[if_pos rfl,if_neg (by omega),Ri (by omega)]) rfl ?_
  refine J3 H ?_;generalize hkk:(n - 1) / size=q at hk hk1 hk2;rw[Qb (x:=((q:Nat):Int)+1) (by omega) (by omega),show ((q:Nat):Int)+1=((q+1:Nat):Int) by omega];refine J1 H ?_;clear H;intro w H;refine E9 H ?_;refine EQ H ?_;refine Jl 7 [9] H ?_;refine Ja 8 ?_;refine Jo 9 H ?_;refine Jk rfl rfl (Tt sp size mem own owner (q+1) h63 ho (by omega) (by omega) H) ?_;clear H;rintro v w (⟨b,rfl,hb,hfree,H⟩|⟨rfl,hno,H⟩)
  ·have hf:∀ c,b≤c→c < b+(q+1)→own[c]? = some 0:=fun c e1 e2=>by
    have:=hfree c e1 e2;rw[getD_eq_getElem?_getD,getElem?_eq_getElem (by omega)] at this;rw[getElem?_eq_getElem (by omega)];simpa using this
   have hbs:(b+(q+1))*size≤63*1024:=Nat.mul_le_mul (by omega) hs2;have hbs2:(b+(q+1))*size=b*size+(q+1)*size:=Nat.add_mul _ _ _;have hbs3:(b+1)*size=b*size+size:=Nat.succ_mul _ _;have hsq:size≤(q+1)*size:=Nat.le_mul_of_pos_left _ (by omega);refine HM H ?_;refine Ja 14 ?_;refine Jx H ?_;refine U8 H ?_;refine AK H ?_;refine YP H ?_;refine Bg H ?_;clear H;intro b69 w H;replace H:=Js [3,0,1,0] 0 H;refine Q5 rfl (YO H rfl rfl (by repeat first|exact .nil _|apply QV.cons rfl) rfl (by decide) (by rw[Gu XS];simp only[length_cons,length_nil];omega) rfl rfl ?_);clear H;intro v70 w H;obtain⟨a70,m70,c70,rfl⟩:=Qw H;have e1:S.parts.flatMap Vk++[.int .i64 b,.int .i64 ((q+1:Nat):Int)]=(S.parts++[(b,q+1)]).flatMap Vk:=by simp
   rw[e1] at H;refine GO H ?_;clear H;intro w H;refine Uv H ?_;by_cases hq:q=0
   ·subst hq;rw[show (((0+1:Nat):Int) == 1)=true from rfl];refine J6 H ?_;refine Qo (fun ms σ w=>ms=[]∧σ 6 = .int .i64 size∧σ 8 = .int .i64 b∧Q0 w (Qn p sp owner ⟨S.parts++[(b,1)],b*size+n,(b+1)*size⟩::ST sp size (VV mem (b*size) (1*size) 0) (VV own b 1 owner)::fr)) ?_ ?_
    ·refine Vh rfl ?_;have m1:(b:Int)*(size:Int)=((b*size:Nat):Int):=(Int.natCast_mul _ _).symm;have m2:((b:Int)+1)*(size:Int)=(((b+1)*size:Nat):Int):=by rw[Int.natCast_mul,Int.natCast_add];rfl
     refine J9 H ?_;refine AJ H ?_;refine Bn H ?_;rw[Qb (x:=(b:Int)+1) (by omega) (by omega),m1,m2,Qb (x:=((b*size:Nat):Int)) (by omega) (by omega),Qb (x:=(((b+1)*size:Nat):Int)) (by omega) (by omega),Qb (x:=((b*size:Nat):Int)+(n:Int)) (by omega) (by omega),show ((b*size:Nat):Int)+(n:Int)=((b*size+n:Nat):Int) by omega];refine GO H ?_;clear H;intro w H;refine GO H ?_;clear H;intro w H;refine J2 H ?_;replace H:=Js [2,0,1] 1 H;exact⟨rfl,rfl,rfl,rfl,ZQ (S:=⟨S.parts++[(b,1)],b*size+n,(b+1)*size⟩) H⟩
    ·clear H;rintro ms σ w ⟨rfl,g6,g8,H⟩;rw[Q1 g6,Q1 g8];refine KI H ?_;refine Q3 (Jy H rfl fun w' H' => .inl ⟨b*size,_,_,_,?_,.one (by omega) (hf b (by omega) (by omega)) (by omega),H'⟩);show Value.tuple #[.int .i64 (IntKind.i64.wrap ((b:Int)*(size:Int))),_]=_;rw[← Int.natCast_mul,Qb (by omega) (by omega)];rfl
   ·rw[show (((q+1:Nat):Int) == 1)=false by simp;omega];refine V6 H ?_;refine KI H ?_;replace H:=Js [2,0,1] 1 H;refine Q3 (Jy (ZQ (S:=⟨S.parts++[(b,q+1)],S.at',S.fin⟩) H) rfl fun w' H' => .inl ⟨b*size,_,_,_,?_,.run (k:=q+1) (by omega) hb hf hk2 (by rw[Nat.add_sub_cancel];omega),H'⟩);show Value.tuple #[.int .i64 (IntKind.i64.wrap ((b:Int)*(size:Int))),_]=_;rw[← Int.natCast_mul,Qb (by omega) (by omega)];rfl
  ·refine HM H ?_;refine Ja 14 ?_;refine Jx H ?_;refine J5 H ?_;refine EZ H ?_;replace H:=Js [1,1,0] 0 H;exact Q3 (Jy (ZQ H) rfl fun w' H' => .inr ⟨rfl,hno,H'⟩)
open Go.SL
@[reducible] def Qt (ip sp bp:Nat):Q2:=pts ip (row 222 [pp sp,pp bp])
structure XT (ls:List QM) (size:Nat) (mem own:List Nat) (addr i c s n:Nat) (l:QM):Prop where
 may:Xy i c s
 lay:ls[i - 1]? = some l
 right:Vf l
 siz:VG l c=(n,0)
 head:mem.getD addr 0=G7 i c s
 fit:addr+1+n≤mem.length
 owned:Gx size own addr (n+1)
theorem Gx.sub {size:Nat} {own:List Nat} {a n b m:Nat} (h:Gx size own a n) (h1:a≤b) (h2:b+m≤a+n) (h3:1≤m):Gx size own b m:=fun c c1 c2=>
 h c (Nat.le_trans (Nat.div_le_div_right h1) c1) (Nat.le_trans c2 (Nat.div_le_div_right (by omega)))
theorem ap [Q4] (sp bp:Nat) {w:World} {fr:List Q2} (H:Q0 w fr) :
  Calls Tryz.prog 83 #[pp sp,pp bp] w (ret fun v w'=>∃ ip,v = .tuple #[pp ip,.int .i64 0]∧Q0 w' (Qt ip sp bp::fr)):=by
 refine Q9 Tryz.func83 rfl (by kernel_rfl) ?_;refine J5 H ?_;refine AU H ?_;refine AQ H ?_;refine C6 H ?_;refine J9 H ?_;refine XE H ?_;clear H;intro b15 w H;refine J3 H ?_;exact Q3 (Jy H rfl fun w' H'=>⟨_,rfl,H'⟩)
theorem IZ [Q4] (p:Nat) (ls:List QM) (i:Nat) (h1:1≤i) (l:QM) (hk:ls[i - 1]? = some l) {w:World} {fr:List Q2} (H:Q0 w (Qh p ls::fr)) :
  Calls Tryz.prog 88 #[pp p,.int .i64 i] w (ret fun x w'=>∃ vr vq,x = .tuple #[Yy l.fixed vr l.record vq,.int .i64 0]∧Q0 w' (NL vr l.refs::NL vq l.recs::Qh p ls::fr)):=by
 obtain⟨k,rfl⟩:∃ k,i=k+1:=⟨i - 1,by omega⟩;rw[Nat.add_sub_cancel] at hk;rw[show (((k+1:Nat):Int))=(k:Int)+1 by omega];exact aX p ls k l hk H
theorem NY [Q4] (ip sp bp:Nat) (ls:List QM) (i c s n:Nat) (l:QM) (hm:Xy i c s) (hl:ls[i - 1]? = some l) (hR:Vf l) (hz:VG l c=(n,0)) {w:World} {fr:List Q2} (H:Q0 w (Qt ip sp bp::Qh bp ls::fr)) :
  Calls Tryz.prog 153 #[pp ip,Rh i c s] w (ret fun v w'=>∃ vr vq,v = .tuple #[Yy l.fixed vr l.record vq,.int .i64 n,.int .i64 0]∧Q0 w' (NL vr l.refs::NL vq l.recs::Qt ip sp bp::Qh bp ls::fr)):=by
 have hi:=hm.1;refine Q9 Tryz.func153 rfl (by kernel_rfl) ?_;refine J8 H ?_;clear H;intro b3 w H;refine VZ H ?_;clear H;intro b4 w H;refine KE H ?_
 refine Qo (fun ms σ w=>ms=[]∧∃ b7 vr vq,σ 3=pp b3∧σ 4=pp b4∧σ 7=pp b7∧σ 8 = .int .i64 0 ∧
  Q0 w (pts b7 (row 102 [.int .i64 l.fixed,vr,.int .i64 l.record,vq])::NL vr l.refs::NL vq l.recs::pts b4 (row 102 [.int .i64 0,.slice none 0 0,.int .i64 0,.slice none 0 0])::pts b3 (row 115 [.int .i64 i,.int .i64 c,.int .i64 s])::Qt ip sp bp::Qh bp ls::fr)) ?_ ?_
 ·replace H:=Js [3,0,0,0] 0 H;refine J1 H ?_;clear H;intro w H;refine Y3 H ?_;refine Jl 3 [6,11] H ?_;refine Jf 4 ?_;refine Jl 5 [6,11] H ?_;refine Jw 6 10 H rfl rfl (V1 (a:=[]) (b:=[]) rfl rfl (call (IZ bp ls i hi l hl H) ?_)) (Vo H rfl ?_)
  ·clear H;rintro v w ⟨vr,vq,rfl,H⟩;obtain⟨aa,ma,ca,rfl⟩:=Qw H;obtain⟨ab,mb,cb,rfl⟩:=Qw H.drop;refine WO H ?_;clear H;intro b7 w H;refine Ut H ?_;clear H;intro w H;refine Ux H ?_;replace H:=Js [0,0,0,1,1,1,0] 0 H;exact⟨rfl,rfl,b7,_,_,rfl,rfl,rfl,rfl,H⟩
  ·clear H;intro b7 w H;refine Jo 6 H ?_;refine Jk rfl rfl (IZ bp ls i hi l hl H.swap) ?_;clear H;rintro v w ⟨vr,vq,rfl,H⟩;obtain⟨aa,ma,ca,rfl⟩:=Qw H;obtain⟨ab,mb,cb,rfl⟩:=Qw H.drop;refine EG H ?_;clear H;intro w H;refine Ux H ?_;replace H:=Js [3,0,0,1,1,1,0] 0 H;exact⟨rfl,rfl,b7,_,_,rfl,rfl,rfl,rfl,H⟩
 ·clear H;rintro ms σ w ⟨rfl,b7,vr,vq,g3,g4,g7,g8,H⟩;rw[Q1 g3,Q1 g4,Q1 g7,Q1 g8];obtain⟨aa,ma,rfl⟩:=QF H.drop (QH _) (by decide);obtain⟨ab,mb,rfl⟩:=QF H.drop.drop (QH _) (by decide);refine U8 H ?_;refine GJ H ?_;refine ZB H ?_;replace H:=Js [1,1,0,0,0,0,0] 0 H;obtain⟨D1,H,hD1,hC1⟩:=sls_rd H (QH _) (by decide);obtain⟨D2,H,hD2,hC2⟩:=sls_rd H.swap (QH _) (by decide);refine Jc rfl rfl (CC _ _ l hR c ⟨(hD1 _).there,hD2 _⟩ H) ?_;clear H;rintro v w ⟨rfl,H⟩;rw[hz];replace H:=hC1 _ _ (hC2 _ _ H).swap;refine Zs H ?_;refine GJ H ?_;refine EU H ?_;clear H;intro w H;refine J3 H ?_;replace H:=Js [3,0,0,2,2] 2 H;exact Q3 (Jz H (fun w' H' => .cellN H' rfl (by repeat first|exact .nil _|apply QV.cons rfl) (.tmp (.tmp .nil))) fun w' H'=>⟨_,_,rfl,H'.drop⟩)
theorem IG [Q4] (ip sp bp size:Nat) (ls:List QM) (mem own:List Nat) (addr i c s n:Nat) (l:QM) (h:XT ls size mem own addr i c s n l) {w:World} {fr:List Q2} (H:Q0 w (Qt ip sp bp::Qh bp ls::ST sp size mem own::fr)) :
  Calls Tryz.prog 111 #[pp ip,.int .i64 addr] w (ret fun v w'=>∃ vr vq,v = .tuple #[Rh i c s,Yy l.fixed vr l.record vq,.int .i64 n,.int .i64 0]∧Q0 w' (NL vr l.refs::NL vq l.recs::Qt ip sp bp::Qh bp ls::ST sp size mem own::fr)):=by
 obtain⟨hm,hl,hR,hz,hh,hf,ho⟩:=h;refine Q9 Tryz.func111 rfl (by kernel_rfl) ?_;refine Vp H ?_;clear H;intro b4 w H;refine VZ H ?_;clear H;intro b5 w H;refine J3 H ?_;refine VQ H ?_;replace H:=Js [4,0,0,0,0] 0 H;refine Jc rfl rfl (Hz sp size mem own addr (by omega) (ho.sub (Nat.le_refl _) (by omega) (by omega)) H) ?_;clear H;rintro v w ⟨rfl,H⟩;rw[hh];refine G4 H ?_;refine YY H ?_;refine Jc rfl rfl (Td i c s hm H) ?_;clear H;rintro v w ⟨rfl,H⟩;refine Vj H ?_;clear H;intro b10 w H;refine J4 H ?_;clear H;intro w H;refine EK H ?_;replace H:=Js [4,4,1,1,1,0] 0 H;refine Jc rfl rfl (NY ip sp bp ls i c s n l hm hl hR hz H) ?_;clear H;rintro v w ⟨vr,vq,rfl,H⟩;obtain⟨aa,ma,ca,rfl⟩:=Qw H;obtain⟨ab,mb,cb,rfl⟩:=Qw H.drop;refine AJ H ?_;refine VZ H ?_;clear H;intro b11 w H;refine J4 H ?_;clear H;intro w H;refine J3 H ?_;refine J1 H ?_;clear H;intro w H;refine VP 0 [4,5] H rfl (Q8.none rfl) rfl (by repeat first|exact .nil _|apply QV.cons rfl) (by kernel_rfl) ?_;refine VP 1 [5] H rfl (Q8.none rfl) rfl (by repeat first|exact .nil _|apply QV.cons rfl) (by kernel_rfl) ?_;refine Ja 2 ?_;refine Ja 3 ?_;refine Jo 4 H ?_;refine U9 H ?_;clear H;intro w H;refine Jo 5 H ?_;refine U9 H ?_;clear H;intro w H;refine Ja 6 ?_;refine Ja 7 ?_;refine Jx H ?_;replace H:=Js [7,6,1,1,1,1,1] 2 H;exact Q3 (Jz H (fun w' H' => .cellN H' rfl (by repeat first|exact .nil _|apply QV.cons rfl) (.cellN H' rfl (by repeat first|exact .nil _|apply QV.cons rfl) (.tmp (.tmp .nil)))) fun w' H'=>⟨_,_,rfl,H'.drop.drop⟩)
def QO (l:QM) (n:Nat) (place:Int) (ref:Bool):Nat:=if place < 0∨(n:Int)≤place then 3 else if VU l place.toNat≠ref then 9 else 0
theorem Zm {l:QM} {n:Nat} {place:Int} {ref:Bool} (h:QO l n place ref=0):∃ p:Nat,place=p∧p < n∧VU l p=ref:=by
 unfold QO at h;split at h
 ·omega
 ·split at h
  ·omega
  ·rename_i h1 h2;exact⟨place.toNat,by omega,by omega,by simpa using h2⟩
theorem F2 [Q4] {w:World} {p size:Nat} {mem own:List Nat} {l:List Q2} (H:Q0 w (ST p size mem own::l)):mem.length≤1048576:=by
 obtain⟨v,v2,u,ws,many,hok,_⟩:=UZ H;rw[hok.len];exact Nat.mul_le_mul hok.c2 hok.s2
theorem F3 [Q4] (ip sp bp size:Nat) (ls:List QM) (mem own:List Nat) (addr i c s n:Nat) (l:QM) (h:XT ls size mem own addr i c s n l) (place:Int) (ref:Bool) {w:World} {fr:List Q2} (H:Q0 w (Qt ip sp bp::Qh bp ls::ST sp size mem own::fr)) :
  Calls Tryz.prog 123 #[pp ip,.int .i64 addr,.int .i64 place,.bool ref] w (ret fun v w'=>v = .tuple #[.int .i64 ((if QO l n place ref=0 then addr+1+place.toNat else 0:Nat):Int),.int .i64 (QO l n place ref)]∧Q0 w' (Qt ip sp bp::Qh bp ls::ST sp size mem own::fr)):=by
 have hml:=F2 (H.pull 2);have h':=h;obtain⟨hm,hl,hR,hz,hh,hf,ho⟩:=h';refine Q9 Tryz.func123 rfl (by kernel_rfl) ?_;refine Dm H ?_;refine J9 H ?_;refine Jc rfl rfl (IG ip sp bp size ls mem own addr i c s n l h H) ?_;clear H;rintro v w ⟨vr,vq,rfl,H⟩;obtain⟨aa,ca,rfl⟩:=QF H (QH _) (by decide);obtain⟨ab,cb,rfl⟩:=QF H.drop (QH _) (by decide);refine Bn H ?_;refine VZ H ?_;clear H;intro b10 w H;refine VZ H ?_;clear H;intro b11 w H;refine J4 H ?_;clear H;intro w H;refine J4 H ?_;clear H;intro w H;refine C7 H ?_;refine GJ H ?_;refine AL H ?_;replace H:=Js [2,2,0,0,0,0,0] 0 H;obtain⟨D1,H,hD1,hC1⟩:=sls_rd H (QH _) (by decide);obtain⟨D2,H,hD2,hC2⟩:=sls_rd H.swap (QH _) (by decide);by_cases hp:place < 0∨(n:Int)≤place
 ·have he:QO l n place ref=3:=by unfold QO;rw[if_pos hp]
  rw[he];refine Jc rfl rfl (aW _ _ l hR c place hz hp ⟨(hD1 _).there,hD2 _⟩ H) ?_;clear H;rintro v w ⟨rfl,H⟩;replace H:=hC1 _ _ (hC2 _ _ H).swap;refine WC H ?_;refine QP ?_;refine J9 H ?_;refine XJ H ?_;refine VX H ?_;replace H:=Js [4,4,4] 4 H;exact Q3 (Jy H rfl fun w' H'=>⟨rfl,H'⟩)
 ·obtain⟨p,rfl⟩:∃ p:Nat,place=p:=⟨place.toNat,by omega⟩;refine Jc rfl rfl (aB _ _ l hR c p hz (by omega) ⟨(hD1 _).there,hD2 _⟩ H) ?_;clear H;rintro v w ⟨rfl,H⟩;replace H:=hC1 _ _ (hC2 _ _ H).swap;refine WC H ?_;refine Y6 (fun ms σ w=>ms=[]∧VU l p=ref∧σ 1 = .int .i64 addr∧σ 2 = .int .i64 p∧Q0 w (Qt ip sp bp::Qh bp ls::ST sp size mem own::fr)) ?_ ?_
  ·refine QP ?_;refine AE H ?_;refine Q5 rfl (WQ rfl rfl (.inr rfl) rfl ?_);refine J0 H ?_;by_cases hr:VU l p=ref
   ·rw[show (!(VU l p == ref))=false by simp[hr]];refine V6 H ?_;replace H:=Js [4,4,4] 4 H;exact .inl ⟨rfl,rfl,hr,rfl,rfl,H⟩
   ·have he:QO l n (p:Int) ref=9:=by unfold QO;rw[if_neg hp,if_pos (by simpa using hr)]
    rw[show (!(VU l p == ref))=true by simpa using hr];refine Yn H ?_;replace H:=Js [4,4,4] 4 H;exact Q3 (.inr ⟨by simp,Jy H rfl fun w' H'=>⟨by rw[he];rfl,H'⟩⟩)
  ·clear H;rintro ms σ w ⟨rfl,hr,g1,g2,H⟩;have he:QO l n (p:Int) ref=0:=by unfold QO;rw[if_neg hp,if_neg (by simpa using hr)]
   rw[he,Q1 g1,Q1 g2];refine Xu H ?_;refine J3 H ?_;rw[Qb (x:=(addr:Int)+1) (by omega) (by omega),Qb (x:=(addr:Int)+1+(p:Int)) (by omega) (by omega)];refine Q3 (Jy H rfl fun w' H'=>⟨?_,H'⟩);show Value.tuple #[.int .i64 ((addr:Int)+1+(p:Int)),_]=_;rw[if_pos rfl,show (addr:Int)+1+(p:Int)=((addr+1+(p:Int).toNat:Nat):Int) by simp];rfl
theorem ax [Q4] (ip sp bp size:Nat) (ls:List QM) (mem own:List Nat) (addr i c s n:Nat) (l:QM) (h:XT ls size mem own addr i c s n l) (place:Int) {w:World} {fr:List Q2} (H:Q0 w (Qt ip sp bp::Qh bp ls::ST sp size mem own::fr)) :
  Calls Tryz.prog 107 #[pp ip,.int .i64 addr,.int .i64 place] w (ret fun v w'=>v = .tuple #[.int .u64 ((if QO l n place false=0 then mem.getD (addr+1+place.toNat) 0 else 0:Nat):Int),.int .i64 (QO l n place false)]∧Q0 w' (Qt ip sp bp::Qh bp ls::ST sp size mem own::fr)):=by
 have hrd:Calls Tryz.prog 179 #[pp ip,.int .i64 addr,.int .i64 place,.bool false,.func (.func 180) #[] #[]] w (ret fun v w'=>v = .tuple #[.int .u64 ((if QO l n place false=0 then mem.getD (addr+1+place.toNat) 0 else 0:Nat):Int),.int .i64 (QO l n place false)]∧Q0 w' (Qt ip sp bp::Qh bp ls::ST sp size mem own::fr)):=by
  refine Q9 Tryz.func179 rfl (by kernel_rfl) ?_;refine J5 H ?_;refine VB H ?_;refine Xu H ?_;refine Jc rfl rfl (F3 ip sp bp size ls mem own addr i c s n l h place false H) ?_;clear H;rintro v w ⟨rfl,H⟩;refine Uw H ?_;by_cases he:QO l n place false=0
  ·obtain⟨p,rfl,hp,hr⟩:=Zm he;rw[he];refine V6 H ?_;refine AM H ?_;replace H:=Js [2,0,0] 0 H;refine Jc rfl rfl (Hz sp size mem own (addr+1+p) (by have:=h.fit;omega) (h.owned.sub (by omega) (by omega) (by omega)) H) ?_;clear H;rintro v w ⟨rfl,H⟩;refine G4 H ?_;refine VX H ?_;replace H:=Js [1,1,0] 0 H;exact Q3 (Jy H rfl fun w' H'=>⟨rfl,H'⟩)
  ·rw[if_neg he,if_neg he];rw[show (((QO l n place false:Nat):Int) != 0)=true by simpa using he];refine VM H ?_;refine WM H ?_;exact Q3 (Jy H rfl fun w' H'=>⟨rfl,H'⟩)
 refine Q9 Tryz.func107 rfl (by kernel_rfl) ?_;refine J5 H ?_;refine Vq H ?_;refine Jc rfl rfl (hrd) ?_;clear H;rintro v w ⟨rfl,H⟩;refine AH H ?_;exact Q3 (Jy H rfl fun w' H'=>⟨rfl,H'⟩)
theorem Gy (k:Y4):∃ a b d:Int,Z5 k = .agg #[.int .i64 a,.int .i64 b,.int .i64 d]:=by cases k <;> exact⟨_,_,_,rfl⟩
theorem NZ [Q4] (ip sp bp size:Nat) (ls:List QM) (mem own:List Nat) (addr i c s n:Nat) (l:QM) (h:XT ls size mem own addr i c s n l) (place:Int) (k:Y4) (hk:QO l n place true=0→Ga k∧mem.getD (addr+1+place.toNat) 0=VK k) (hk2:QO l n place true≠0→k = .none) {w:World} {fr:List Q2} (H:Q0 w (Qt ip sp bp::Qh bp ls::ST sp size mem own::fr)) :
  Calls Tryz.prog 97 #[pp ip,.int .i64 addr,.int .i64 place] w (ret fun v w'=>v = .tuple #[Z5 k,.int .i64 (QO l n place true)]∧Q0 w' (Qt ip sp bp::Qh bp ls::ST sp size mem own::fr)):=by
 have hlk:∀ (q:Nat) (k:Y4) (w:World) (fr:List Q2),q < mem.length→Gx size own q 1→Ga k→mem.getD q 0=VK k→Q0 w (ST sp size mem own::fr) →
   Calls Tryz.prog 158 #[pp sp,.int .i64 q] w (ret fun v w'=>v = .tuple #[Z5 k,.int .i64 0]∧Q0 w' (ST sp size mem own::fr)):=by
  intro q k w fr h1 h2 h3 h4 H;refine Q9 Tryz.func158 rfl (by kernel_rfl) ?_;refine Vp H ?_;clear H;intro b4 w H;refine J0 H ?_;refine J9 H ?_;refine Jc rfl rfl (Hz sp size mem own q h1 h2 H.swap) ?_;clear H;rintro v w ⟨rfl,H⟩;rw[h4];refine G4 H ?_;refine YY H ?_;refine Jc rfl rfl (Tg k h3 H) ?_;clear H;rintro v w ⟨rfl,H⟩;obtain⟨a,b,d,hkv⟩:=Gy k;rw[hkv];refine EU H ?_;clear H;intro w H;refine J0 H ?_;exact Q3 (Jz H.swap (fun w' H' => .cellN H' rfl (by repeat first|exact .nil _|apply QV.cons rfl) (.tmp .nil)) fun w' H'=>⟨rfl,H'.drop⟩)
 have hrd:∀ (w:World) (fr:List Q2),Q0 w (Qt ip sp bp::Qh bp ls::ST sp size mem own::fr)→Calls Tryz.prog 157 #[pp ip,.int .i64 addr,.int .i64 place,.bool true,.func (.func 158) #[] #[]] w (ret fun v w'=>v = .tuple #[Z5 k,.int .i64 (QO l n place true)]∧Q0 w' (Qt ip sp bp::Qh bp ls::ST sp size mem own::fr)):=by
  intro w fr H;refine Q9 Tryz.func157 rfl (by kernel_rfl) ?_;refine Vp H ?_;clear H;intro b10 w H;refine J0 H ?_;refine Vp H ?_;clear H;intro b12 w H;refine J2 H ?_;refine Xu H ?_;replace H:=Js [2,2,2,0,0] 0 H;refine Jc rfl rfl (F3 ip sp bp size ls mem own addr i c s n l h place true H) ?_;clear H;rintro v w ⟨rfl,H⟩;refine Uw H ?_;by_cases he:QO l n place true=0
  ·obtain⟨hk3,hk4⟩:=hk he;obtain⟨p,rfl,hp,hr⟩:=Zm he;rw[he];refine V6 H ?_;refine AM H ?_;replace H:=Js [2,0,0,0,0] 0 H;refine Jc rfl rfl (hlk (addr+1+p) k _ _ (by have:=h.fit;omega) (h.owned.sub (by omega) (by omega) (by omega)) hk3 hk4 H) ?_;clear H;rintro v w ⟨rfl,H⟩;obtain⟨a,b,d,hkv⟩:=Gy k;rw[hkv];refine Vj H ?_;clear H;intro b15 w H;refine J4 H ?_;clear H;intro w H;refine Yv H ?_;refine KH H ?_;clear H;intro w H;refine J0 H ?_;replace H:=Js [5,2,2,1] 2 H;exact Q3 (Jz H (fun w' H' => .cellN H' rfl (by repeat first|exact .nil _|apply QV.cons rfl) (.tmp .nil)) fun w' H'=>⟨rfl,H'.drop⟩)
  ·obtain rfl:=hk2 he;rw[if_neg he];rw[show (((QO l n place true:Nat):Int) != 0)=true by simpa using he];refine VM H ?_;refine KS H ?_;clear H;intro w H;refine J0 H ?_;replace H:=Js [4,0,0,0] 1 H;exact Q3 (Jz H (fun w' H' => .cellN H' rfl (by repeat first|exact .nil _|apply QV.cons rfl) (.tmp .nil)) fun w' H'=>⟨rfl,H'.drop⟩)
 refine Q9 Tryz.func97 rfl (by kernel_rfl) ?_;refine Vp H ?_;clear H;intro b6 w H;refine EY H ?_;replace H:=Js [1,1,1,0] 0 H;refine Jc rfl rfl (hrd _ _ H) ?_;clear H;rintro v w ⟨rfl,H⟩;obtain⟨a,b,d,hkv⟩:=Gy k;rw[hkv];refine EU H ?_;clear H;intro w H;refine J0 H ?_;replace H:=Js [3,0,0,0] 0 H;exact Q3 (Jz H (fun w' H' => .cellN H' rfl (by repeat first|exact .nil _|apply QV.cons rfl) (.tmp .nil)) fun w' H'=>⟨rfl,H'.drop⟩)
theorem ay [Q4] (ip sp bp size:Nat) (ls:List QM) (mem own:List Nat) (addr i c s n:Nat) (l:QM) (h:XT ls size mem own addr i c s n l) (place:Int) (x:Nat) {w:World} {fr:List Q2} (H:Q0 w (Qt ip sp bp::Qh bp ls::ST sp size mem own::fr)) :
  Calls Tryz.prog 233 #[pp ip,.int .i64 addr,.int .i64 place,.int .u64 x] w (ret fun v w'=>v = .int .i64 (QO l n place false)∧Q0 w' (Qt ip sp bp::Qh bp ls::ST sp size (if QO l n place false=0 then mem.set (addr+1+place.toNat) x else mem) own::fr)):=by
 refine Q9 Tryz.func233 rfl (by kernel_rfl) ?_;refine WR H ?_;refine Jc rfl rfl (F3 ip sp bp size ls mem own addr i c s n l h place false H) ?_;clear H;rintro v w ⟨rfl,H⟩;refine Uw H ?_;by_cases he:QO l n place false=0
 ·obtain⟨p,rfl,hp,hr⟩:=Zm he;rw[he];refine V6 H ?_;refine Yd H ?_;refine J3 H ?_;replace H:=Js [2,0,0] 0 H;refine Vq H ?_;refine Q5 rfl (V1 (a:=[pp sp]) (b:=[]) rfl rfl (call (Et sp size mem own (addr+1+p) x (by have:=h.fit;omega) (h.owned.sub (by omega) (by omega) (by omega)) H) ?_));clear H;rintro v w ⟨rfl,H⟩;refine J0 H ?_;replace H:=Js [1,1,0] 0 H;exact Q3 (Jy H rfl fun w' H'=>⟨rfl,H'⟩)
 ·rw[if_neg he,if_neg he];rw[show (((QO l n place false:Nat):Int) != 0)=true by simpa using he];refine Yn H ?_;exact Q3 (Jy H rfl fun w' H'=>⟨rfl,H'⟩)
theorem NG [Q4] (ip sp bp size:Nat) (ls:List QM) (mem own:List Nat) (addr i c s n:Nat) (l:QM) (h:XT ls size mem own addr i c s n l) (place:Int) (k:Y4) (hk:Ga k) {w:World} {fr:List Q2} (H:Q0 w (Qt ip sp bp::Qh bp ls::ST sp size mem own::fr)) :
  Calls Tryz.prog 61 #[pp ip,.int .i64 addr,.int .i64 place,Z5 k] w (ret fun v w'=>v = .int .i64 (QO l n place true)∧Q0 w' (Qt ip sp bp::Qh bp ls::ST sp size (if QO l n place true=0 then mem.set (addr+1+place.toNat) (VK k) else mem) own::fr)):=by
 obtain⟨a,b,d,hkv⟩:=Gy k;have hW:=fun (w:World) (fr:List Q2) (H:Q0 w fr)=>Te k hk H;rw[hkv] at hW ⊢;refine Q9 Tryz.func61 rfl (by kernel_rfl) ?_;refine J8 H ?_;clear H;intro b7 w H;refine J0 H ?_;replace H:=Js [1,1,1,0] 0 H;refine Vq H ?_;refine Jc rfl rfl (F3 ip sp bp size ls mem own addr i c s n l h place true H) ?_;clear H;rintro v w ⟨rfl,H⟩;refine Uw H ?_;by_cases he:QO l n place true=0
 ·obtain⟨p,rfl,hp,hr⟩:=Zm he;rw[he];refine V6 H ?_;refine GJ H ?_;refine Jc rfl rfl (hW _ _ H) ?_;clear H;rintro v w ⟨rfl,H⟩;refine G4 H ?_;refine Yd H ?_;refine J3 H ?_;replace H:=Js [2,0,0] 1 H;refine Vq H ?_;refine Q5 rfl (V1 (a:=[pp sp]) (b:=[]) rfl rfl (call (Et sp size mem own (addr+1+p) (VK k) (by have:=h.fit;omega) (h.owned.sub (by omega) (by omega) (by omega)) H) ?_));clear H;rintro v w ⟨rfl,H⟩;refine J0 H ?_;replace H:=Js [1,1,0] 0 H;exact Q3 (Jy H rfl fun w' H'=>⟨rfl,H'⟩)
 ·rw[if_neg he,if_neg he];rw[show (((QO l n place true:Nat):Int) != 0)=true by simpa using he];refine Yn H ?_;replace H:=Js [0,0,0] 1 H;exact Q3 (Jy H rfl fun w' H'=>⟨rfl,H'⟩)
theorem We [Q4] (ip sp bp size:Nat) (ls:List QM) (mem own:List Nat) (addr i c s n:Nat) (l:QM) (h:XT ls size mem own addr i c s n l) {w:World} {fr:List Q2} (H:Q0 w (Qt ip sp bp::Qh bp ls::ST sp size mem own::fr)) :
  Calls Tryz.prog 45 #[pp ip,.int .i64 addr] w (ret fun v w'=>v = .tuple #[Rh i c s,.int .i64 ((n+1:Nat):Int),.int .i64 0]∧Q0 w' (Qt ip sp bp::Qh bp ls::ST sp size mem own::fr)):=by
 have hml:=F2 (H.pull 2);have hf:=h.fit;refine Q9 Tryz.func45 rfl (by kernel_rfl) ?_;refine Vp H ?_;clear H;intro b4 w H;refine E4 H ?_;refine J9 H ?_;replace H:=Js [1,1,1,0] 0 H;refine Jc rfl rfl (IG ip sp bp size ls mem own addr i c s n l h H) ?_;clear H;rintro v w ⟨vr,vq,rfl,H⟩;obtain⟨aa,ma,ca,rfl⟩:=Qw H;obtain⟨ab,mb,cb,rfl⟩:=Qw H.drop;refine Bn H ?_;refine VZ H ?_;clear H;intro b7 w H;refine VZ H ?_;clear H;intro b8 w H;refine J4 H ?_;clear H;intro w H;refine J4 H ?_;clear H;intro w H;refine C7 H ?_;refine GJ H ?_;refine EU H ?_;clear H;intro w H;refine J3 H ?_;rw[Qb (x:=((n:Nat):Int)+1) (by omega) (by omega),show ((n:Nat):Int)+1=((n+1:Nat):Int) by omega];replace H:=Js [7,4,4,4] 4 H;exact Q3 (Jz H (fun w' H' => .cellN H' rfl (by repeat first|exact .nil _|apply QV.cons rfl) (.tmp (.tmp .nil))) fun w' H'=>⟨rfl,H'.drop⟩)
theorem az [Q4] (ip sp bp size:Nat) (ls:List QM) (mem own:List Nat) (addr i c s n:Nat) (l:QM) (hm:Xy i c s) (hl:ls[i - 1]? = some l) (hR:Vf l) (hz:VG l c=(n,0)) (hf:addr+1+n≤mem.length) (ho:Gx size own addr (n+1)) {w:World} {fr:List Q2} (H:Q0 w (Qt ip sp bp::Qh bp ls::ST sp size mem own::fr)) :
  Calls Tryz.prog 92 #[pp ip,.int .i64 addr,Rh i c s] w (ret fun v w'=>v = .tuple #[.int .i64 ((n+1:Nat):Int),.int .i64 0]∧Q0 w' (Qt ip sp bp::Qh bp ls::ST sp size (VV (mem.set addr (G7 i c s)) (addr+1) n 0) own::fr)):=by
 have hml:=F2 (H.pull 2);refine Q9 Tryz.func92 rfl (by kernel_rfl) ?_;refine J8 H ?_;clear H;intro b5 w H;refine E4 H ?_;refine GJ H ?_;refine Jc rfl rfl (Tb i c s hm H) ?_;clear H;rintro v w ⟨rfl,H⟩;refine G4 H ?_;refine Gv H ?_;replace H:=Js [1,1,1,0] 0 H;refine Jc rfl rfl (NY ip sp bp ls i c s n l hm hl hR hz H) ?_;clear H;rintro v w ⟨vr,vq,rfl,H⟩;obtain⟨aa,ma,ca,rfl⟩:=Qw H;obtain⟨ab,mb,cb,rfl⟩:=Qw H.drop;refine AJ H ?_;refine VZ H ?_;clear H;intro b10 w H;refine J4 H ?_;clear H;intro w H;refine C7 H ?_;refine Yd H ?_;refine AJ H ?_;replace H:=Js [5,3,3] 4 H;rw[Qb (x:=((n:Nat):Int)+1) (by omega) (by omega),show ((n:Nat):Int)+1=((n+1:Nat):Int) by omega];refine Jc rfl rfl (Ts sp size mem own addr (n+1) (by omega) (by omega) ho H) ?_;clear H;rintro v w ⟨rfl,H⟩;refine Yv H ?_;refine GM H ?_;refine Jc rfl rfl (Et sp size mem own addr (G7 i c s) (by omega) (ho.sub (Nat.le_refl _) (by omega) (by omega)) H) ?_;clear H;rintro v w ⟨rfl,H⟩;refine Uv H ?_;generalize hmm:mem.set addr (G7 i c s)=m2 at H;have hm2:m2.length=mem.length:=by rw[← hmm,length_set]
 refine GL H ?_;refine Ql (fun ms σ w q=>ms=[]∧∃ j:Nat,j≤n∧q=n - j∧σ 0=pp ip∧σ 1 = .int .i64 addr∧σ 11 = .int .i64 n∧σ 53 = .int .i64 n∧σ 54 = .int .i64 j∧Q0 w (ST sp size (VV m2 (addr+1) j 0) own::Qt ip sp bp::Qh bp ls::fr)) (m:=n) ⟨rfl,0,by omega,rfl,rfl,rfl,rfl,rfl,rfl,by rw[Eu];exact H⟩ ?_;clear H;rintro ms σ w q ⟨rfl,j,hj,rfl,g0,g1,g11,g53,g54,H⟩;rw[Q1 g0,Q1 g1,Q1 g11,Q1 g53,Q1 g54];refine J7 H ?_;refine Qk rfl (fun h=>QB ?_) (fun h=>Qq ?_)
 ·have hlt:j < n:=by omega
  refine KT H ?_;refine Yd H ?_;refine AJ H ?_;rw[Qb (x:=(addr:Int)+1) (by omega) (by omega),Qb (x:=(addr:Int)+1+(j:Int)) (by omega) (by omega),show (addr:Int)+1+(j:Int)=((addr+1+j:Nat):Int) by omega];refine Jc rfl rfl (Et sp size _ own (addr+1+j) 0 (by rw[Vz (by omega)];omega) (ho.sub (by omega) (by omega) (by omega)) H) ?_;clear H;rintro v w ⟨rfl,H⟩;rw[Mq (by omega)] at H;refine Uv H ?_;exact⟨_,⟨rfl,j+1,hlt,rfl,rfl,rfl,rfl,rfl,Qc (by omega),H⟩,by omega⟩
 ·have hge:j=n:=by omega
  subst hge;refine WM H ?_;rw[Qb (x:=((j:Nat):Int)+1) (by omega) (by omega),show ((j:Nat):Int)+1=((j+1:Nat):Int) by omega];replace H:=Js [1,1,0] 0 H;exact Q3 (Jy H rfl fun w' H'=>⟨rfl,H'⟩)
def Qg (l:List Int):List Value:=l.map fun x=>Value.int .i64 x
theorem Vn (l:List Int):(Qg l).length=l.length*1:=by simp[Qg]
theorem Au (a b:List Int):Qg (a++b)=Qg a++Qg b:=by simp[Qg]
theorem F4 (l:List Nat):QW l=Qg (l.map fun x:Nat=>(x:Int)):=by simp[QW,Qg]
@[reducible] def IL (v:Value) (l:List Int):Q2:=QC 3 1 v (Qg l)
theorem F5 [Q4] (v:Value) (l:List Int) (hl:l.length≤1000000) {w:World} {fr:List Q2} (H:Q0 w (IL v l::fr)) :
  Calls Tryz.prog 53 #[v] w (ret fun x w'=>x = .tuple #[]∧Q0 w' (IL v (l.mergeSort fun x y=>decide (x≤y))::fr)):=by
 obtain⟨a,c,rfl⟩:=QF H (Vn l) (by decide);have hlen:(l.mergeSort fun x y=>decide (x≤y)).length=l.length:=length_mergeSort l;by_cases h0:l=[]
 ·subst h0;refine(Any.slices_Sort_int_none Tryz.laysSort a c w).mono ?_;rintro e w' ⟨rfl,rfl⟩;rw[mergeSort_nil];exact⟨rfl,H⟩
 ·have hpos:0 < l.length:=length_pos_iff.2 h0;obtain⟨b,s,rfl,H,h1,h2,hclose⟩:=Z3 H hpos;have hb:=H.pts;refine(Any.slices_Sort_int Tryz.laysSort b 0 c l w (fun j hj=>⟨?_,W5 hb⟩) H.fresh (by omega)).mono ?_
  ·refine Zo hb ?_;have hj':j < l.length:=by simpa using hj
   rw[Nat.zero_add,getElem?_append_left (by simpa [Qg] using hj')];simp[Qg,hj']
  ·rintro e w' ⟨rfl,m,os,rfl⟩;refine⟨rfl,hclose _ _ (Qg (l.mergeSort fun x y=>decide (x≤y))) (by rw[Vn,Vn,hlen]) ?_⟩;have e1:(Go.Sort.putRow (Value.int .i64) (Go.Sort.ahead w m) b 0 (l.mergeSort fun x y=>decide (x≤y)).toArray).heap=w.heap.modify b (Go.Sort.onCells (Go.Sort.putCells (Value.int .i64) 0 (l.mergeSort fun x y=>decide (x≤y)).toArray)):=rfl
   have H1:Q0 (Go.Sort.putRow (Value.int .i64) (Go.Sort.ahead w m) b 0 (l.mergeSort fun x y=>decide (x≤y)).toArray) (pts b (row 3 (Qg (l.mergeSort fun x y=>decide (x≤y))++s))::fr):=by
    refine H.set ?_ ?_
    ·rw[e1,Array.getElem?_modify,if_pos rfl,hb];simp only[Option.map_some,row,Go.Sort.onCells];congr 2;apply Array.ext';apply ext_getElem?;intro t;simp only[Go.Sort.putCells,Array.getElem?_toList,Array.getElem?_mapIdx,getElem?_toArray,Nat.zero_le,true_and,Nat.zero_add,Nat.sub_zero,size_toArray];have l1:(Qg l).length=l.length:=by simp[Qg]
     have l2:(Qg (l.mergeSort fun x y=>decide (x≤y))).length=l.length:=by simp[Qg]
     by_cases ht:t < l.length
     ·rw[getElem?_append_left (by omega),getElem?_append_left (by omega)];have ht':t < (l.mergeSort fun x y=>decide (x≤y)).length:=by omega
      simp only[Qg,getElem?_map,getElem?_eq_getElem ht,getElem?_eq_getElem ht',Option.map_some,if_pos ht'];rw[getElem!_pos _ t (by simpa using ht')];simp
     ·rw[getElem?_append_right (by omega),getElem?_append_right (by omega),l1,l2];have ht':¬ t < (l.mergeSort fun x y=>decide (x≤y)).length:=by omega
      cases s[t - l.length]? with
      | none=>rfl
      | some y=>simp;intro h;omega
    ·intro c hc;rw[e1,Array.getElem?_modify,if_neg (Ne.symm hc)]
   refine H1.up (fun c o hc=>?_) ⟨rfl,rfl⟩;show ((Go.Sort.putRow (Value.int .i64) (Go.Sort.ahead w m) b 0 (l.mergeSort fun x y=>decide (x≤y)).toArray).heap++os)[c]? = some o;have:=(Array.getElem?_eq_some_iff.1 hc).1;rw[Array.getElem?_append_left this];exact hc
theorem bQ [Q4] (a:Option Addr) (n c:Nat) (hn:n < 2) {w:World} {fr:List Q2} (H:Q0 w fr) :
  Calls Tryz.prog 119 #[.slice a n c] w (ret fun x w'=>x = .slice a n c∧Q0 w' fr):=by
 refine Q9 Tryz.func119 rfl (by kernel_rfl) ?_;refine VB H ?_;refine UV H ?_;rw[show decide ((n:Int) < 2)=true from decide_eq_true (by omega)];refine Yn H ?_;exact Q3 (Jy H rfl fun w' H'=>⟨rfl,H'⟩)
theorem bV [Q4] (v:Value) (l:List Nat) (x:Nat) (hl:l.length≤1000000) (b:Nat) {w:World} {fr:List Q2} (H:Q0 w (NL v l::pts b (row 3 [.int .i64 x])::fr)) :
  Calls Tryz.prog 154 #[v,.int .i64 l.length,.slice (some ⟨b,0,none⟩) 1 1] w (ret fun v w'=>Q0 w' (NL v (l++[x])::fr)):=by
 obtain⟨a,c,rfl⟩:=QF H (QH l) (by decide);refine Q9 Tryz.func154 rfl (by kernel_rfl) ?_;refine Uy H ?_;refine Q5 rfl (TV rfl rfl (Nat.le_refl _) rfl fun v12=>?_);refine C8 H ?_;refine Q5 rfl (ZO rfl rfl ?_);refine Yv H ?_;refine UV H ?_;refine VX H ?_;rw[show (((l.length:Nat):Int) == (l.length:Int))=true by simp];refine VM H ?_;refine J9 H ?_;refine Q5 rfl (YO H rfl rfl (by repeat first|exact .nil _|apply QV.cons rfl) rfl (by decide) (by rw[QH];simp only[length_cons,length_nil];omega) rfl rfl ?_);clear H;intro v25 w H;obtain⟨a25,m25,c25,rfl⟩:=Qw H;refine J0 H ?_;have e1:QW l++[.int .i64 x]=QW (l++[x]):=by rw[WT];rfl
 rw[e1] at H;exact Q3 (Jy (Q0.drop H.swap) rfl fun w' H'=>H')
def Qu (p:Nat) (l:List Nat):Q2:=ex fun v:Value=>star [pts p (row 163 [v]),NL v l]
theorem Rq [Q4] {w:World} {p:Nat} {l:List Nat} {fr:List Q2} (H:Q0 w (Qu p l::fr)):∃ a c,Q0 w (pts p (row 163 [.slice a l.length c])::NL (.slice a l.length c) l::fr):=by
 obtain⟨v,H⟩:=Q0.ex.1 H;have H:=Q0.star.1 H;obtain⟨a,c,rfl⟩:=QF H.drop (QH l) (by decide);exact⟨a,c,H⟩
theorem K3 [Q4] {w:World} {p:Nat} {l:List Nat} {v:Value} {fr:List Q2} (H:Q0 w (pts p (row 163 [v])::NL v l::fr)):Q0 w (Qu p l::fr):=
 Q0.ex.2 ⟨v,Q0.star.2 H⟩
theorem IU [Q4] {w:World} {fr:List Q2} (H:Q0 w fr):Calls Tryz.prog 56 #[.slice none 0 0] w (ret fun v w'=>∃ p,v=pp p∧Q0 w' (Qu p []::fr)):=by
 refine Q9 Tryz.func56 rfl (by kernel_rfl) ?_;refine RI H ?_;refine Jc rfl rfl (CD (.slice none 0 0) [] (by simp) ⟨rfl,none,0,rfl,.inl rfl⟩ H) ?_;clear H;rintro v w H;obtain⟨a,c,rfl⟩:=QF H (QH []) (by decide);refine AY H ?_;refine Jc rfl rfl (F5 _ [] (by simp) H) ?_;clear H;rintro v w ⟨rfl,H⟩;rw[mergeSort_nil] at H;refine C8 H ?_;refine Jc rfl rfl (bQ a 0 c (by omega) H) ?_;clear H;rintro v w ⟨rfl,H⟩;refine XE H ?_;clear H;intro b10 w H;refine J0 H ?_;exact Q3 (Jy H rfl fun w' H'=>⟨_,rfl,K3 (l:=[]) H'⟩)
theorem NU {l:List Nat} {x:Nat} (h:∀ a∈l,a < x):Z8 l x=l.length:=by
 unfold Z8;rw[countP_eq_length];intro a ha;simpa using h a ha
theorem bZ [Q4] (p:Nat) (l:List Nat) (x:Nat) (hs:l.Pairwise (· < ·)) (hl:l.length≤100000) (hx:∀ a∈l,a < x) {w:World} {fr:List Q2} (H:Q0 w (Qu p l::fr)) :
  Calls Tryz.prog 93 #[pp p,.int .i64 x] w (ret fun v w'=>v = .bool true∧Q0 w' (Qu p (l++[x])::fr)):=by
 obtain⟨a,c,H⟩:=Rq H;have hn:x∉l:=fun h=>by have:=hx x h;omega
 refine Q9 Tryz.func93 rfl (by kernel_rfl) ?_;refine WN H ?_;obtain⟨D1,H,hD1,hC1⟩:=sls_rd H.swap (QH _) (by decide);refine Jc rfl rfl (Ar _ l (by omega) hs x (hD1 _) H) ?_;clear H;rintro v w ⟨rfl,H⟩;replace H:=hC1 _ _ H;rw[NU hx,decide_eq_false hn];refine Uw H ?_;refine J6 H ?_;refine Qo (fun ms σ w=>ms=[]∧σ 6 = .bool false∧Q0 w (Qu p (l++[x])::fr)) ?_ ?_
 ·refine Vh rfl ?_;refine AK H ?_;refine YP H ?_;refine GN H ?_;clear H;intro b27 w H;replace H:=Js [1,0,0] 0 H;refine Jc rfl rfl (bV _ l x (by omega) _ H) ?_;clear H;intro v w H;obtain⟨a28,m28,c28,rfl⟩:=Qw H;refine GO H ?_;clear H;intro w H;refine J2 H ?_;exact⟨rfl,rfl,rfl,K3 H.swap⟩
 ·clear H;rintro ms σ w ⟨rfl,g6,H⟩;rw[Q1 g6];refine VX H ?_;exact Q3 (Jy H rfl fun w' H'=>⟨rfl,H'⟩)
theorem NX [Q4] (p:Nat) (l:List Nat) (x:Nat) (hs:l.Pairwise (· < ·)) (hl:l.length≤100000) {w:World} {fr:List Q2} (H:Q0 w (Qu p l::fr)) :
  Calls Tryz.prog 47 #[pp p,.int .i64 x] w (ret fun v w'=>v = .bool (decide (x∈l))∧Q0 w' (Qu p l::fr)):=by
 obtain⟨a,c,H⟩:=Rq H;refine Q9 Tryz.func47 rfl (by kernel_rfl) ?_;refine WN H ?_;obtain⟨D1,H,hD1,hC1⟩:=sls_rd H.swap (QH _) (by decide);refine Jc rfl rfl (Ar _ l (by omega) hs x (hD1 _) H) ?_;clear H;rintro v w ⟨rfl,H⟩;replace H:=hC1 _ _ H;refine Uw H ?_;exact Q3 (Jy (K3 H.swap) rfl fun w' H'=>⟨rfl,H'⟩)
theorem bG [Q4] (p:Nat) (l:List Nat) {w:World} {fr:List Q2} (H:Q0 w (Qu p l::fr)) :
  Calls Tryz.prog 23 #[pp p] w (ret fun v w'=>v = .int .i64 l.length∧Q0 w' (Qu p l::fr)):=by
 obtain⟨a,c,H⟩:=Rq H;refine Q9 Tryz.func23 rfl (by kernel_rfl) ?_;refine Xt H ?_;refine UN H ?_;exact Q3 (Jy (K3 H) rfl fun w' H'=>⟨rfl,H'⟩)
theorem NK:∀ a b:Rf,kp a=kp b→a=b:=Rn.inj
def ZE (l:List Rf):List Value:=l.flatMap fun r=>[.int .i64 r.1,.int .i64 r.2]
theorem Av (l:List Rf):(ZE l).length=l.length*2:=by
 induction l with
 | nil=>rfl
 | cons r l ih=>simp only[ZE,flatMap_cons,length_append,length_cons,length_nil] at ih ⊢;omega
theorem bX (a b:List Rf):ZE (a++b)=ZE a++ZE b:=by simp[ZE]
theorem bR [Q4] (x:Option Nat) (m:List (Rf×Int)) {w:World} {fr:List Q2} (H:Q0 w (Yb kp v1 (.map x) m::fr)) :
  Calls Tryz.prog 200 #[.map x] w
   (ret fun v w'=>∃ b,v = .func (.func 246) #[] #[pp b]∧Q0 w' (pts b (row 145 [.map x])::Yb kp v1 (.map x) m::fr)):=by
 refine Q9 Tryz.func200 rfl (by kernel_rfl) ?_;refine Yw H ?_;clear H;intro b1 w H;refine YA H ?_;refine Q3 (Jy H rfl fun w' H'=>⟨b1,rfl,H'⟩)
theorem ZS {α:Type}:∀ {l₁ l₂:List α},l₁.Nodup→(∀ z∈l₁,z∈l₂)→l₁.length≤l₂.length
 | [],_,_,_=>Nat.zero_le _
 | c::l,l₂,hn,hs=>by
  obtain⟨s,t,rfl⟩:=append_of_mem (hs c (by simp));have h:=nodup_cons.1 hn
  have:=ZS (l₂:=s++t) h.2 (fun z hz=>by
   have h1:=hs z (by simp[hz]);have h2:z≠c:=fun e=>h.1 (e▸hz);simp[h2] at h1;simpa using h1)
  simp at this ⊢;omega
theorem bA [Q4] (yl b:Nat) (x:Option Nat) (m:List (Rf×Int)) (J:List Rf→Q2)
  (hy:∀ ks r rest w,ks.length < m.length→Q0 w (J ks::rest)→SL.Yields Tryz.prog yl #[rf r] w (fun v w'=>v = .bool true∧Q0 w' (J (ks++[r])::rest)))
  {w:World} {fr:List Q2} (H:Q0 w (J []::pts b (row 145 [.map x])::Yb kp v1 (.map x) m::fr)) :
  Calls Tryz.prog 246 #[.func (.yield yl) #[] #[],pp b] w
   (ret fun _ w'=>∃ ks,ks.Perm (m.map (·.1))∧Q0 w' (J ks::Yb kp v1 (.map x) m::fr)):=by
 refine Q9 Tryz.func246 rfl (by kernel_rfl) ?_;refine Zl H ?_;replace H:=Js [2,0,0] 0 H;refine Q5 rfl (HZ kp v1 H rfl rfl ?_);clear H;intro bi w H;refine J2 H ?_;refine QP ?_;refine Ql (fun ms σ w n=>ms=[]∧∃ ks:List Rf,σ 0 = .func (.yield yl) #[] #[]∧σ 5=pp bi∧n=m.length - ks.length∧Q0 w (KB kp v1 (.map x) m bi ks::J ks::pts b (row 145 [.map x])::fr)) (m:=m.length) ⟨rfl,[],rfl,rfl,rfl,H⟩ ?_;clear H w;rintro ms σ w n ⟨rfl,ks,h0,h5,rfl,H⟩;rw[Q1 h0,Q1 h5];refine G5 H ?_;refine Q5 rfl (HG H NK rfl rfl (fun hp w H=>?_) (fun q hq hn hnd hsub w H=>?_))
 ·refine YZ H ?_;refine KJ H ?_;replace H:=HY H;replace H:=Js [1,0] 1 H;exact YV _ (.inl rfl) H rfl fun w' H'=>⟨ks,hp,H'⟩
 ·have hlt:ks.length < m.length:=by
   have h1:(ks++[q.1]).Nodup:=by
    rw[nodup_append];exact⟨hnd,by simp,fun c hc c' hc' e0=>by simp at hc';subst hc';subst e0;exact hn hc⟩
   have h2:=ZS h1 (l₂:=m.map (·.1)) (fun z hz=>by
    rcases mem_append.1 hz with hz|hz
    ·exact hsub z hz
    ·simp at hz;subst hz;exact mem_map_of_mem hq)
   simp at h2;omega
  refine YZ H ?_;refine Xv H ?_;refine QP ?_;refine G5 H ?_;refine Q5 rfl (HU H NK hq rfl rfl ?_);refine Jv ?_;refine VZ H ?_;clear H;intro b3 w H;refine J4 H ?_;clear H;intro w H;refine J2 H ?_;refine Gv H ?_;replace H:=Js [2,0,0,0] 0 H;refine Q5 rfl (R6 rfl rfl (SL.Yields.mono (hy ks q.1 _ _ hlt H) ?_));clear H;rintro v w ⟨rfl,H⟩;refine Y7 H ?_;replace H:=Js [2,0,1] 1 H;exact⟨_,⟨rfl,ks++[q.1],rfl,rfl,rfl,H⟩,by simp;omega⟩
def CJ (L:Q2) (b2:Nat) (ks:List Rf):Q2:=ex fun v:Value=>star [QC 133 2 v (ZE ks),L,pts b2 (row 130 [v])]
theorem NR [Q4] {w:World} {L:Q2} {b2:Nat} {ks:List Rf} {l:List Q2} (H:Q0 w (CJ L b2 ks::l)):∃ v,Q0 w (QC 133 2 v (ZE ks)::L::pts b2 (row 130 [v])::l):=by
 obtain⟨v,H⟩:=Q0.ex.1 H;exact⟨v,Q0.star.1 H⟩
theorem NW [Q4] {w:World} {L:Q2} {b2:Nat} {ks:List Rf} {l:List Q2} {v:Value} (H:Q0 w (QC 133 2 v (ZE ks)::L::pts b2 (row 130 [v])::l)):Q0 w (CJ L b2 ks::l):=
 Q0.ex.2 ⟨v,Q0.star.2 H⟩
theorem Aw [Q4] {w:World} {E k:Nat} {v:Value} {c:List Value} {l:List Q2} (H:Q0 w (QC E k v c::l)):v.oneCell'=true:=by
 rcases GH H with ⟨rfl,_⟩|⟨_,_,_,_,rfl,_⟩ <;> rfl
theorem bB [Q4] (b:Nat) (x:Option Nat) (m:List (Rf×Int)) (hm:m.length≤1000000) {w:World} {fr:List Q2} (H:Q0 w (pts b (row 145 [.map x])::Yb kp v1 (.map x) m::fr)) :
  Calls Tryz.prog 258 #[.slice none 0 0,.func (.func 246) #[] #[pp b]] w
   (ret fun v w'=>∃ ks,ks.Perm (m.map (·.1))∧Q0 w' (QC 133 2 v (ZE ks)::Yb kp v1 (.map x) m::fr)):=by
 refine Q9 Tryz.func258 rfl (by kernel_rfl) ?_;refine Yw H ?_;clear H;intro b2 w H;refine Df H ?_;refine QP (XA (a:=[]) (b:=[pp b]) H rfl (fun yl D w H=>?_));generalize hL:LR _ yl _ _ _ _ D .ready=L at H ⊢;replace H:=Z2 (E:=133) (k:=2) H;replace H:=Js [0,0,1,1,1,0] 0 H;refine call (bA yl b x m (CJ L b2) ?_ (NW (ks:=[]) H)) ?_
 ·intro ks r rest w hlt H;obtain⟨a,c⟩:=r;obtain⟨v,H⟩:=NR H;have h1:=Aw H;subst hL;replace H:=Js [1,0,0] 0 H;refine UF (args:=[rf (a,c)]) H rfl rfl ?_;refine Vp H ?_;clear H;intro b5 w H;refine J4 H ?_;clear H;intro w H;refine J2 H ?_;replace H:=Js [1,1,0,0] 0 H;refine⟨rfl,_,H,fun w H=>QP ?_⟩
  repeat refine Q6 ?_
  refine QZ ?_;refine Q5 rfl (QR H rfl rfl rfl ?_);refine Q5 rfl (VN H rfl (by repeat first|exact .nil _|apply QV.cons rfl) rfl ?_);refine GN H ?_;clear H;intro b10 w H;replace H:=Js [2,0,0,0,0] 0 H;refine Q5 rfl (YO H rfl rfl (by repeat first|exact .nil _|apply QV.cons rfl) rfl (by decide) (by simp only[Av,length_cons,length_nil];omega) rfl rfl ?_);clear H;intro v11 w H;obtain⟨a11,c11,rfl⟩:=QF (m:=ks.length+1) H (by simp[Av];omega) (by decide);refine Q5 rfl (Yj H rfl rfl inferInstance (Aw H) (Nat.le_of_ble_eq_true rfl) rfl ?_);clear H;intro w H;refine J2 H ?_;replace H:=Js [2,0,2] 2 H;refine⟨rfl,_,H,fun w H=>⟨rfl,NW (v := .slice a11 (ks.length+1) c11) ?_⟩⟩;replace H:=Js [1,0,0] 0 H;rw[bX];exact H
 ·rintro v w' ⟨ks,hp,H⟩;obtain⟨v2,H⟩:=NR H;have h1:=Aw H;subst hL;replace H:=Js [1,0,0,0,0] 0 H;refine⟨_,H,fun w H=>?_⟩;refine Zl H ?_;refine UP H ?_;replace H:=Js [3,0,1] 1 H;exact Q3 (R5 (ms:=[D]) _ (.inr rfl) ((Q0.star (k:=[pts D (.deferred (some []))])).2 H) rfl fun w' H'=>⟨ks,hp,H'⟩)
theorem bD [Q4] (b:Nat) (x:Option Nat) (m:List (Rf×Int)) (hm:m.length≤1000000) {w:World} {fr:List Q2} (H:Q0 w (pts b (row 145 [.map x])::Yb kp v1 (.map x) m::fr)) :
  Calls Tryz.prog 244 #[.func (.func 246) #[] #[pp b]] w
   (ret fun v w'=>∃ ks,ks.Perm (m.map (·.1))∧Q0 w' (QC 133 2 v (ZE ks)::Yb kp v1 (.map x) m::fr)):=by
 refine Q9 Tryz.func244 rfl (by kernel_rfl) ?_;refine RI H ?_;refine Jc rfl rfl (bB b x m hm H) ?_;rintro v w ⟨ks,hp,H⟩;refine UP H ?_;exact Q3 (Jy H rfl fun w' H'=>⟨ks,hp,H'⟩)
theorem NA [Q4] (a:Int) (w:World):Calls Tryz.prog 237 #[.int .i64 a] w (ret fun v w'=>v = .bool false∧w'=w):=by
 refine Q9 Tryz.func237 rfl (by kernel_rfl) ?_
 repeat refine Q6 ?_
 refine QZ ?_;refine Jv ?_;refine QG ?_
 repeat refine Q6 ?_
 refine QZ ?_;refine Jv ?_;refine Jv ?_;refine Jv ?_;refine Jv ?_;refine QG ?_;exact Q3 (KK (.inr rfl) rfl ⟨by show Value.bool (a != a)=_;simp,rfl⟩)
def Km (a b:Int):Int:=if a < b then -1 else if b < a then 1 else 0
theorem NB [Q4] (a b:Int) (w:World):Calls Tryz.prog 203 #[.int .i64 a,.int .i64 b] w (ret fun v w'=>v = .int .i64 (Km a b)∧w'=w):=by
 refine Q9 Tryz.func203 rfl (by kernel_rfl) ?_
 repeat refine Q6 ?_
 refine QZ ?_;refine Jv ?_;refine QG ?_
 repeat refine Q6 ?_
 refine QZ ?_;refine Jv ?_;refine Jc rfl rfl (NA a _) ?_;rintro v w' ⟨rfl,rfl⟩;refine Jv ?_;refine QG ?_
 repeat refine Q6 ?_
 refine QZ ?_;refine Jv ?_;refine Jc rfl rfl (NA b _) ?_;rintro v w' ⟨rfl,rfl⟩;refine Jv ?_;refine QG ?_
 repeat refine Q6 ?_
 refine QZ ?_;refine Jv ?_;refine QG ?_
 repeat refine Q6 ?_
 refine VF rfl (QB ?_)
 repeat refine Q6 ?_
 refine QZ ?_;refine Jv ?_;refine QG ?_
 repeat refine Q6 ?_
 refine VF rfl (QB ?_)
 repeat refine Q6 ?_
 refine QZ ?_;refine Jv ?_;refine Jv ?_;refine Jv ?_;refine QG ?_
 repeat refine Q6 ?_
 refine Qk rfl (fun h=>?_) (fun h=>QB ?_)
 ·repeat refine Q6 ?_
  refine QZ ?_;refine Jv ?_;refine QG ?_;exact Q3 (KK (.inr rfl) rfl ⟨by show Value.int .i64 (-1)=_;simp[Km,h],rfl⟩)
 ·repeat refine Q6 ?_
  refine QZ ?_;refine Jv ?_;refine Jv ?_;refine Jv ?_;refine QG ?_
  repeat refine Q6 ?_
  refine Qk rfl (fun h2=>?_) (fun h2=>QB ?_)
  ·repeat refine Q6 ?_
   refine QZ ?_;refine Jv ?_;refine QG ?_;exact Q3 (KK (.inr rfl) rfl ⟨by have:b < a:=h2;show Value.int .i64 1=_;simp[Km,h,this],rfl⟩)
  ·repeat refine Q6 ?_
   refine QZ ?_;refine Jv ?_;refine QG ?_;exact Q3 (KK (.inr rfl) rfl ⟨by have:¬ b < a:=h2;show Value.int .i64 0=_;simp[Km,h,this],rfl⟩)
def Ax (x y:Int):Int:=if x=0 then y else x
theorem bE [Q4] (b:Nat) (x y:Int) {w:World} {fr:List Q2} (H:Q0 w (pts b (row 3 [.int .i64 x,.int .i64 y])::fr)) :
  Calls Tryz.prog 202 #[.slice (some ⟨b,0,none⟩) 2 2] w (ret fun v w'=>v = .int .i64 (Ax x y)∧w'=w):=by
 refine Q9 Tryz.func202 rfl (by kernel_rfl) ?_;refine VB H ?_;refine RI H ?_;refine C9 H ?_;refine GL H ?_;refine Ql (fun ms σ w' n=>ms=[]∧w'=w∧∃ i:Nat,i≤2∧n=2 - i∧σ 6 = .slice (some ⟨b,0,none⟩) 2 2∧σ 7 = .int .i64 2∧σ 8 = .int .i64 i∧σ 3 = .int .i64 0∧(1≤i→x=0)∧(2≤i→y=0)) (m:=2) ⟨rfl,rfl,0,by omega,rfl,rfl,rfl,rfl,rfl,by omega,by omega⟩ ?_;rintro ms σ w' n ⟨rfl,rfl,i,hi,rfl,h6,h7,h8,h3,hx,hy⟩;rw[Q1 h6,Q1 h7,Q1 h8,Q1 h3];have h012:i=0∨i=1∨i=2:=by omega
 rcases h012 with rfl|rfl|rfl
 ·refine J7 H ?_;refine Xv H ?_;refine YW H ?_;refine Q5 rfl (GF rfl rfl (by decide) (by decide) rfl ?_);refine XC H ?_;refine J0 H ?_;refine By H ?_;refine W4 rfl (fun ht=>?_) (fun ht=>QB ?_)
  ·have hx0:x≠0:=by simpa using ht
   refine J5 H ?_;exact Q3 (KK (.inr rfl) rfl ⟨by show Value.int .i64 x=_;simp[Ax,hx0],rfl⟩)
  ·have hx0:x=0:=by simpa using ht
   refine J5 H ?_;exact⟨_,⟨rfl,rfl,1,by omega,rfl,rfl,rfl,rfl,rfl,by omega,by omega⟩,by omega⟩
 ·refine J7 H ?_;refine Xv H ?_;refine YW H ?_;refine Q5 rfl (GF rfl rfl (by decide) (by decide) rfl ?_);refine XC H ?_;refine J0 H ?_;refine By H ?_;refine W4 rfl (fun ht=>?_) (fun ht=>QB ?_)
  ·have hx0:y≠0:=by simpa using ht
   refine J5 H ?_;exact Q3 (KK (.inr rfl) rfl ⟨by show Value.int .i64 y=_;simp[Ax,hx (by omega)],rfl⟩)
  ·have hx0:y=0:=by simpa using ht
   refine J5 H ?_;exact⟨_,⟨rfl,rfl,2,by omega,rfl,rfl,rfl,rfl,rfl,by omega,by omega⟩,by omega⟩
 ·refine J7 H ?_;refine KJ H ?_;refine J5 H ?_;exact Q3 (KK (.inr rfl) rfl ⟨by show Value.int .i64 0=_;simp[Ax,hx (by omega),hy (by omega)],rfl⟩)
def Ay (x y:Rf):Int:=Ax (Km x.1 y.1) (Km x.2 y.2)
open Go.Sort in
theorem bF (x y:Rf) (w:World):Calls Tryz.prog 201 #[rf x,rf y] w (ret fun v w'=>v = .int .i64 (Ay x y)∧∃ q os',w'=grow (w.drewN q) os'):=by
 obtain⟨a,b⟩:=x;obtain⟨c,d⟩:=y;letI:Q4:=⟨w.os,w.output⟩;have H:Q0 w []:=Q0.nil w ⟨rfl,rfl⟩;refine Q9 Tryz.func201 rfl (by kernel_rfl) ?_
 repeat refine Q6 ?_
 refine QZ ?_;refine Q5 rfl (M7 H rfl rfl ?_);clear H;intro b2 w1 e1 H;refine Q5 rfl (M7 H rfl rfl ?_);clear H;intro b3 w2 e2 H;refine Jv ?_;refine QG ?_
 repeat refine Q6 ?_
 refine Sj H mixed ?_;clear H;intro w3 e3 H;refine Jf 0 ?_;refine Jl 1 [4,9,10,11] H ?_;refine Jf 2 ?_;refine Jl 3 [4,9,10,11] H ?_;refine Jf 5 ?_;refine Jl 6 [9,10,11] H ?_;refine Jf 7 ?_;refine Jl 8 [9,10,11] H ?_;refine Jo 4 H ?_;refine Jk rfl rfl (NB a c _) ?_;rintro v w' ⟨rfl,rfl⟩;refine Jo 9 H ?_;refine Jk rfl rfl (NB b d _) ?_;rintro v w' ⟨rfl,rfl⟩;refine Jo 10 H ?_;refine Si H rfl rfl rfl ?_;clear H;intro b15 w5 e5 H;refine Jo 11 H ?_;refine Jk rfl rfl (bE b15 (Km a c) (Km b d) H) ?_;rintro v w' ⟨rfl,rfl⟩;refine Ja 12 ?_;refine Jx H ?_
 have key:∃ q os',w'=grow (w.drewN q) os':=by
  rw[e5,e3,e2,e1];simp only[alloc_eq_grow]
  exact⟨1,_,by
   show grow (grow (grow (w.drewN 1) _) _) _=_;rw[grow_grow,grow_grow]⟩
 exact Q3 (KK (.inr rfl) rfl ⟨rfl,key⟩)
def Zw (x y:Rf):Prop:=x.1 < y.1∨x.1=y.1∧x.2 < y.2
instance (x y:Rf):Decidable (Zw x y):=by unfold Zw;exact inferInstance
theorem bH (x y:Rf):Ay x y < 0↔Zw x y:=by
 unfold Ay Ax Km Zw;constructor
 ·intro h
  repeat' split at h
  all_goals omega
 ·intro h
  repeat' split
  all_goals omega
open Go.Sort in
theorem F6 (x y:Rf):ltOf Ay x y=decide (Zw x y):=by
 unfold ltOf;rw[Bool.eq_iff_iff];simp[bH]
open Go.Sort in
theorem bI:SWO (ltOf Ay) where
 irrefl x:=by rw[F6];simp[Zw]
 trans x y z h1 h2:=by
  rw[F6] at h1 h2 ⊢;have h1:Zw x y:=of_decide_eq_true h1;have h2:Zw y z:=of_decide_eq_true h2;have h3:Zw x z:=by unfold Zw at *;omega
  exact decide_eq_true h3
 ntrans x y z h1 h2:=by
  rw[F6] at h1 h2 ⊢;have h1:¬ Zw x y:=of_decide_eq_false h1;have h2:¬ Zw y z:=of_decide_eq_false h2;have h3:¬ Zw x z:=by unfold Zw at *;omega
  exact decide_eq_false h3
def F7 (r:Rf):List Value:=[.int .i64 r.1,.int .i64 r.2]
theorem bJ (l:List Rf):ZE l=l.flatMap F7:=rfl
def CN (l:List Rf):Prop:=l.Pairwise Zw
theorem bM [Q4] (b:Nat) (x:Option Nat) (m:List (Rf×Int)) (hm:m.length≤1000000) (hn:(m.map (·.1)).Nodup) {w:World} {fr:List Q2} (H:Q0 w (pts b (row 145 [.map x])::Yb kp v1 (.map x) m::fr)) :
  Calls Tryz.prog 199 #[.func (.func 246) #[] #[pp b],.func (.func 201) #[] #[]] w
   (ret fun v w'=>∃ ks,ks.Perm (m.map (·.1))∧CN ks∧Q0 w' (QC 133 2 v (ZE ks)::Yb kp v1 (.map x) m::fr)):=by
 refine Q9 Tryz.func199 rfl (by kernel_rfl) ?_;refine RI H ?_;refine Jc rfl rfl (bD b x m hm H) ?_;rintro v w ⟨ks,hp,H⟩;refine UP H ?_;refine G5 H ?_;refine XR rfl rfl ?_;refine Jv ?_
 have hs:=TG (k:=2) (enc:=F7) Tryz.sortRef (t:=133) rfl inferInstance (by decide) (fun _=>rfl) (fun x v hv=>by simp[F7] at hv;rcases hv with rfl|rfl <;> rfl) Ay bI (g:=201) inferInstance (fun x y W=>(bF x y W).mono fun e w' h=>by
  cases e with
  | returned v=>exact⟨by rw[h.1],h.2⟩
  | panicked c=>exact h.elim
  | outgrown=>exact h.elim) H (by have:=hp.length_eq;simp at this;omega)
 refine Jc rfl rfl (hs) ?_;rintro v2 w ⟨ks2,hp2,hs2,H⟩;refine J2 H ?_;refine G5 H ?_;refine XR rfl rfl ?_;refine UP H ?_;have hp3:=hp2.trans hp;refine Q3 (Jy H rfl fun w' H'=>⟨ks2,hp3,?_,H'⟩);have hnd:ks2.Nodup:=hp3.nodup_iff.2 hn;refine(hs2.and hnd).imp ?_;rintro a b ⟨h1,h2⟩;rw[F6] at h1;have h3:¬ Zw b a:=of_decide_eq_false h1;unfold Zw at h3 ⊢;have h4:¬ (a.1=b.1∧a.2=b.2):=fun e=>h2 (Prod.ext e.1 e.2);omega
theorem F8 [Q4] (x:Option Nat) (m:List (Rf×Int)) (hm:m.length≤1000000) (hn:(m.map (·.1)).Nodup) {w:World} {fr:List Q2} (H:Q0 w (Yb kp v1 (.map x) m::fr)) :
  Calls Tryz.prog 122 #[.map x] w
   (ret fun v w'=>∃ ks,ks.Perm (m.map (·.1))∧CN ks∧Q0 w' (QC 133 2 v (ZE ks)::Yb kp v1 (.map x) m::fr)):=by
 refine Q9 Tryz.func122 rfl (by kernel_rfl) ?_;refine RI H ?_;refine Jc rfl rfl (bR x m H) ?_;rintro v w ⟨b,rfl,H⟩
 refine Jc rfl rfl (bM b x m hm hn H) ?_;rintro v w ⟨ks,hp,hs,H⟩;refine UP H ?_;exact Q3 (Jy H rfl fun w' H'=>⟨ks,hp,hs,H'⟩)
theorem F9 {g1 g2:List Gr} {g:Gr} (hn:((g1++g::g2).map (·.key)).Nodup) {r:Rf}:mem (g1++g::g2) g.key r↔r∈g.m.map (·.1):=by
 rw[Wc];exact⟨fun h=>h.elim (·.2) fun h=>absurd (Rp h) (CH hn),fun h => .inl ⟨rfl,h⟩⟩
theorem IX [Q4] {w:World} {K V:Type} {ek:K→Value} {vv:V→Value} {b:Nat} {m:List (K×V)} {l:List Q2} (H:Q0 w (Yb ek vv (.map (some b)) m::l)):Q0 w (mp ek vv b m::l):=H.head fun h hm=>by
 rcases hm with ⟨h,_⟩|⟨b',h,hm⟩
 ·cases h
 ·cases h;exact hm
theorem Wf {K V:Type} [DecidableEq K] {m:List (K×V)} {x:K} (h:(QY m x).isSome=true):x∈m.map (·.1):=by
 cases hf:QY m x with
 | none=>rw[hf] at h;cases h
 | some v=>exact mem_map_of_mem (f:=(·.1)) (UC hf)
theorem bN [Q4] (p:Nat) (m:List (Rf×Int)) (hm:m.length≤1000000) (t:Int) {w:World} {fr:List Q2} (H:Q0 w (RS p m::fr)) :
  Calls Tryz.prog 209 #[pp p,.int .i64 t] w (ret fun v w'=>∃ ks,(∀ r,r∈ks↔(r.1=t∧(QY m r).isSome=true))∧CN ks∧Q0 w' (QC 133 2 v (ZE ks)::RS p m::fr)):=by
 refine Q9 Tryz.func209 rfl (by kernel_rfl) ?_;obtain⟨bt,bo,bf,H⟩:=Wd H;refine WN H ?_;replace H:=Js [3,0,0,0] 0 H;obtain⟨G,hG,H⟩:=Ey H;refine Q5 rfl (ZR (key:=t) H rfl rfl VC rfl ?_);have hn0:=Ki bf H;have hn:(G.map (·.key)).Nodup:=by rw[← Wa];exact hn0
 cases hf:QY (G.map Zu) t with
 | none=>
  replace H:=MV kp v1 H;refine Jc rfl rfl (F8 none [] (by simp) (by simp) H) ?_;rintro v w ⟨ks,hp,hs,H⟩;refine UP H ?_;have hks:ks=[]:=by simpa using hp
  subst hks;replace H:=Js [2,2,2,2,2,0] 1 H;replace H:=K0 G hG H;replace H:=Js [1,1,1,0,0] 0 H;replace H:=Kj bt bo bf (fun _ _=>Iff.rfl) (fun _ _=>Iff.rfl) H;refine Q3 (Jy H.swap rfl fun w' H'=>⟨[],fun r=>?_,hs,H'⟩);have h1:=W7.1 hf;rw[Wa] at h1;exact⟨fun h=>by simp at h,fun h=>absurd (Rp ((hG t r).2 h)) h1⟩
 | some bi=>
  obtain⟨g,g1,g2,rfl,rfl,rfl⟩:=Ez hf;have H:=(Q0.pick rfl).1 H.swap;have hi:=Ki g.blk H
  have hlen:g.m.length≤1000000:=by
   have:=ZS hi (l₂:=m.map (·.1)) (fun r hr=>by
    have:=(hG g.key r).1 ((F9 hn).2 hr);exact Wf this.2)
   simp at this;omega
  replace H:=DL H;refine Jc rfl rfl (F8 (some g.blk) g.m hlen hi H) ?_;rintro v w ⟨ks,hp,hs,H⟩;refine UP H ?_;replace H:=IX H.swap;replace H:=Js [0,1,0,0,0,0,0] 0 H;replace H:=(Q0.pick (R:=Ro) (gs:=g1++g::g2) rfl).2 H;replace H:=Js [2,0,1,1,1,0] 0 H;replace H:=K0 (g1++g::g2) hG H;replace H:=Js [1,1,1,0,0] 0 H;replace H:=Kj bt bo bf (fun _ _=>Iff.rfl) (fun _ _=>Iff.rfl) H;refine Q3 (Jy H.swap rfl fun w' H'=>⟨ks,fun r=>?_,hs,H'⟩);rw[hp.mem_iff,← hG,F9 hn]
theorem NC {ks:List Rf} {spare:List Value} {i:Nat} {r:Rf} (h:ks[i]? = some r):QV (ZE ks++spare) (0+i*2) 2 [.int .i64 r.1,.int .i64 r.2]:=by
 have hl:=Av ks;have hi:=(List.getElem?_eq_some_iff.1 h).1;have g:∀ t,(ZE ks)[t]? = (ks[t / 2]?).bind fun x=>(F7 x)[t % 2]? := fun t=>by rw[bJ];exact HF (k:=2) (fun _=>rfl) (by decide) ks t
 refine .cons ?_ (.cons ?_ (.nil _))
 ·rw[getElem?_append_left (by omega),g,show (0+i*2) / 2=i by omega,show (0+i*2) % 2=0 by omega,h];rfl
 ·rw[getElem?_append_left (by omega),g,show (0+i*2+1) / 2=i by omega,show (0+i*2+1) % 2=1 by omega,h];rfl
theorem bP {ks:List Rf} (h:ZE ks=[]):ks=[]:=by
 have:=Av ks;rw[h] at this;exact eq_nil_of_length_eq_zero (by simp at this;omega)
theorem IK:∀ (ks:List Rf) {m:List (Rf×Int)},(m.map (·.1)).Nodup→((ks.foldl QD m).map (·.1)).Nodup
 | [],_,h=>h
 | k::ks,_,h=>IK ks (XK h)
theorem bc [Q4] (p:Nat) (m:List (Rf×Int)) (hn:(m.map (·.1)).Nodup) (hm:m.length≤1000000) (t:Int) {w:World} {fr:List Q2} (H:Q0 w (RS p m::fr)) :
  Calls Tryz.prog 128 #[pp p,.int .i64 t] w (ret fun v w'=>∃ ks,(∀ r,r∈ks↔(r.1=t∧(QY m r).isSome=true))∧CN ks∧v = .int .i64 ks.length∧Q0 w' (RS p (ks.foldl QD m)::fr)):=by
 refine Q9 Tryz.func128 rfl (by kernel_rfl) ?_;refine Uy H ?_;refine Jc rfl rfl (bN p m hm t H) ?_;rintro v w ⟨ks,hks,hs,H⟩;refine UP H ?_
 have hlen:ks.length≤1000000:=by
  have hnd:ks.Nodup:=hs.imp fun {a b} h e=>by subst e;unfold Zw at h;omega
  have:=ZS hnd (l₂:=m.map (·.1)) fun r hr=>Wf ((hks r).1 hr).2;simp at this;omega
 rcases GH H with ⟨rfl,h0,H2⟩|⟨b,len,cap,spare,rfl,e3,e4,e5,H2⟩ <;> replace H:=H2 <;> clear H2
 ·have:=bP h0;subst this
  repeat refine Q6 ?_
  refine QZ ?_;refine Jv ?_;refine Q5 rfl (ZO rfl rfl ?_);refine Jv ?_;refine QG ?_
  repeat refine Q6 ?_
  refine QP ?_;refine Ql (fun ms σ w n=>ms=[]∧σ 12 = .int .i64 0∧σ 13 = .int .i64 0∧σ 5 = .slice none 0 0∧Q0 w (RS p m::fr)) (m:=1) ⟨rfl,rfl,rfl,rfl,H⟩ ?_;clear H;rintro ms σ w n ⟨rfl,h12,h13,h5,H⟩;rw[Q1 h12,Q1 h13,Q1 h5];refine J7 H ?_;refine KJ H ?_;refine UV H ?_;exact Q3 (Jy H rfl fun w' H'=>⟨[],hks,hs,rfl,H'⟩)
 ·have hl2:len=ks.length:=by rw[Av] at e3;omega
  subst hl2;refine YY H ?_;refine Ka H ?_
  refine Ql (fun ms σ w n=>ms=[]∧∃ i:Nat,i≤ks.length∧n=ks.length - i∧σ 0=pp p∧σ 11 = .slice (some ⟨b,0,none⟩) ks.length cap∧σ 12 = .int .i64 ks.length∧σ 13 = .int .i64 i∧σ 5 = .slice (some ⟨b,0,none⟩) ks.length cap ∧
   Q0 w (RS p ((ks.take i).foldl QD m)::pts b (row 133 (ZE ks++spare))::fr)) (m:=ks.length) ⟨rfl,0,by omega,rfl,rfl,rfl,rfl,rfl,rfl,H.swap⟩ ?_
  clear H;rintro ms σ w n ⟨rfl,i,hi,rfl,h0,h11,h12,h13,h5,H⟩;rw[Q1 h0,Q1 h11,Q1 h12,Q1 h13,Q1 h5];refine J7 H ?_;refine Qk rfl (fun h=>QB ?_) (fun h=>Qq ?_)
  ·have hlt:i < ks.length:=by omega
   have hr:=getElem?_eq_getElem hlt;generalize ks[i]=r at hr;obtain⟨a,c⟩:=r;refine YW H ?_;refine Jd ?_;refine Q5 rfl (VN H rfl (NC hr) rfl ?_);refine VZ H ?_;clear H;intro b7 w H;refine J4 H ?_;clear H;intro w H;refine J2 H ?_;refine Gv H ?_;replace H:=Js [1,1] 1 H;refine Jc rfl rfl (CI p _ (IK _ hn) (a,c) H) ?_;clear H;rintro v w ⟨rfl,H⟩;refine Uv H ?_;refine⟨_,⟨rfl,i+1,hlt,rfl,rfl,rfl,rfl,Qc (by omega),rfl,?_⟩,by omega⟩;rw[take_add_one,hr];simpa using H
  ·have hge:i=ks.length:=by omega
   subst hge;refine UV H ?_;rw[take_length] at H;exact Q3 (Jy H.swap.drop rfl fun w' H'=>⟨ks,hks,hs,rfl,H'⟩)
theorem ND:∀ a b:Int,ki .i64 a=ki .i64 b→a=b:=fun a b h=>by cases h;rfl
def UU (par:List (Int×Int)) (id k:Int):Bool:=decide (QY par k=some id)
theorem bd [Q4] (p last:Nat) (par:List (Int×Int)) (id:Int) (h0:id=0∨(QY par id).isSome=true) (hl:par.length≤1000) {w:World} {fr:List Q2} (H:Q0 w (Qf p last par::fr)) :
  Calls Tryz.prog 13 #[pp p,.int .i64 id] w (ret fun v w'=>∃ u K,v = .tuple #[u,.int .i64 0]∧K.Perm ((par.map (·.1)).filter (UU par id))∧K.Pairwise (·≤·)∧Q0 w' (IL u K::Qf p last par::fr)):=by
 have hnd:=I7 H;refine Q9 Tryz.func13 rfl (by kernel_rfl) ?_;refine XL H ?_;refine Jc rfl rfl (I8 p last par id H) ?_;clear H;rintro v w ⟨rfl,H⟩;refine YZ H ?_;refine Qo (fun ms σ w=>ms=[]∧σ 22 = .bool false∧σ 0=pp p∧σ 1 = .int .i64 id∧Q0 w (Qf p last par::fr)) ?_ ?_
 ·cases hf:(QY par id).isSome with
  | true=>
   refine Vq H ?_;refine KL H ?_;refine RH H ?_;refine Qm rfl rfl rfl ?_;refine J0 H ?_;exact⟨rfl,rfl,rfl,rfl,rfl,H⟩
  | false=>
   obtain rfl:id=0:=by
    rcases h0 with h|h
    ·exact h
    ·rw[hf] at h;cases h
   refine Vq H ?_;refine Ym H ?_;refine QT rfl rfl rfl (U6 rfl rfl (.inl rfl) rfl ?_);refine Zr H ?_;refine Zr H ?_;refine J0 H ?_;exact⟨rfl,rfl,rfl,rfl,rfl,H⟩
 clear H;rintro ms σ w ⟨rfl,g22,g0,g1,H⟩;rw[Q1 g22,Q1 g0,Q1 g1];refine Kb H ?_;obtain⟨b,H⟩:=Kk H;refine Yd H ?_;replace H:=DL H.swap;refine Q5 rfl (HZ (ki .i64) v1 H rfl rfl ?_);clear H;intro bi w H;refine RR H ?_;refine Y6 (fun ms σ w=>ms=[]∧∃ (u:Value) (K:List Int),σ 7=u∧K.Perm ((par.map (·.1)).filter (UU par id))∧Q0 w (IL u K::Qf p last par::fr)) ?_ ?_
 ·refine QP ?_;refine Ql (fun ms σ w n=>ms=[]∧∃ (ks:List Int) (u:Value),ks.length≤par.length∧n=par.length - ks.length∧σ 1 = .int .i64 id∧σ 7=u∧σ 28=pp bi∧Q0 w (IL u (ks.filter (UU par id))::KB (ki .i64) v1 (.map (some b)) par bi ks::pts p (row 122 [.map (some b),.int .i64 last])::fr)) (m:=par.length) ⟨rfl,[],_,by simp,rfl,rfl,rfl,rfl,Z2 H⟩ ?_;clear H;rintro ms σ w n ⟨rfl,ks,u,hkl,rfl,g1,g7,g28,H⟩;obtain⟨au,mu,cu,rfl⟩:=Qw H;rw[Q1 g1,Q1 g7,Q1 g28];refine G5 H ?_;refine Q5 rfl (HG H.swap ND rfl rfl (fun hp w H=>?_) (fun q hq hn hnd2 hsub w H=>?_))
  ·refine YZ H ?_;refine KJ H ?_;replace H:=IX (HY H);replace H:=Js [1,1,0] 0 H;have H2:Q0 w (Qf p last par::IL (.slice au mu cu) (ks.filter (UU par id))::fr):=K1 (by replace H:=Q0.sel [1,1,0] 0 H;dsimp only[SL.sel,SL.pull,List.drop] at H;exact H);exact .inl ⟨rfl,rfl,_,_,rfl,hp.filter _,H2.swap⟩
  ·have hlt:ks.length < par.length:=by
    have h1:(ks++[q.1]).Nodup:=by
     rw[nodup_append];exact⟨hnd2,by simp,fun c hc c' hc' e0=>by simp at hc';subst hc';subst e0;exact hn hc⟩
    have h2:=ZS h1 (l₂:=par.map (·.1)) (fun z hz=>by
     rcases mem_append.1 hz with hz|hz
     ·exact hsub z hz
     ·simp at hz;subst hz;exact mem_map.2 ⟨q,hq,rfl⟩)
    simp at h2;omega
   have hfq:QY par q.1=some q.2:=(Yl hnd).2 hq;refine YZ H ?_;refine Xv H ?_;refine QP ?_;refine G5 H ?_;refine Q5 rfl (HU H ND hq rfl rfl ?_);refine AH H ?_;obtain⟨k,t⟩:=q;refine VX H ?_;by_cases ht:t=id
   ·have hk:UU par id k=true:=by unfold UU;rw[hfq,ht];simp
    rw[show (t == id)=true by simpa using ht];refine VM H ?_;refine E3 H ?_;clear H;intro b39 w H;replace H:=Js [2,0,0,0] 0 H;have hle:=length_filter_le (UU par id) ks;refine Q5 rfl (YO H rfl rfl (by repeat first|exact .nil _|apply QV.cons rfl) rfl (by decide) (by rw[Vn];simp only[length_cons,length_nil];omega) rfl rfl ?_);clear H;intro v40 w H;obtain⟨a40,m40,c40,rfl⟩:=Qw H;refine J0 H ?_;replace H:=Js [0,1,1] 1 H;refine⟨_,⟨rfl,ks++[k],_,by simp;omega,rfl,rfl,rfl,rfl,?_⟩,by simp;omega⟩;rw[filter_append,show [k].filter (UU par id)=[k] by simp[hk]];show Q0 w (QC _ 1 _ (Qg (ks.filter (UU par id)++[k]))::_);rw[Au];exact H
   ·have hk:UU par id k=false:=by unfold UU;rw[hfq];simp;exact ht
    rw[show (t == id)=false by simpa using ht];refine V6 H ?_;refine⟨_,⟨rfl,ks++[k],.slice au mu cu,by simp;omega,rfl,rfl,rfl,rfl,?_⟩,by simp;omega⟩;rw[filter_append,show [k].filter (UU par id)=[] by simp[hk],append_nil];replace H:=Js [1,0,0] 0 H;exact H
 ·clear H;rintro ms σ w ⟨rfl,u,K,g7,hK,H⟩
  have hKl:K.length≤1000:=by
   have h1:=hK.length_eq;have h2:=length_filter_le (UU par id) (par.map (·.1));simp at h2;omega
  obtain⟨au,cu,rfl⟩:=QF H (Vn K) (by decide);rw[Q1 g7];refine YY H ?_;refine Jc rfl rfl (F5 _ K (by omega) H) ?_;clear H;rintro v w ⟨rfl,H⟩;refine WB H ?_;refine Q3 (Jy H rfl fun w' H'=>⟨_,_,rfl,(mergeSort_perm K _).trans hK,?_,H'⟩);have:=pairwise_mergeSort (le:=fun x y:Int=>decide (x≤y)) (fun a b c h1 h2=>by simp at *;omega) (fun a b=>by simp;omega) K;exact this.imp (fun h=>by simpa using h)
end Go.Proofs.YtmjdnljneifpcaaGreatDoor
