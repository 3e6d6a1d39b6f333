/- Cells: what is proved on the way: every input of the statement; no condition. Texts joined: CelR BumA ImgA ImgB ImgC ImgD SrtI BagA RmC RmD RmE. -/
import Derived.Test.YtmjdnljneifpcaaGreatDoorBbg
import Derived.Test.YtmjdnljneifpcaaGreatDoorBbe
import Derived.Test.YtmjdnljneifpcaaGreatDoorBbc
import Derived.Test.YtmjdnljneifpcaaGreatDoorBbd
set_option linter.unusedVariables false
set_option linter.unusedSimpArgs false
namespace Go.Proofs.YtmjdnljneifpcaaGreatDoor
theorem Y6h.chunk {size:Nat} (h1:1≤size) {own:List Nat} {e:Ent} (h:Y6h size own e) (c:Nat):(Q1q e≤c*size∨(c+1)*size≤e.addr)∨∃ r:Nat,own[c]? = some r∧(r:Int)=e.region∧1≤r:=by
 by_cases ha:c < e.addr / size
 ·left;right;have:=(Nat.le_div_iff_mul_le (by omega)).1 (Nat.succ_le_of_lt ha);exact this
 ·by_cases hb:(e.addr+e.ws.length) / size < c
  ·left;left;have:=(Nat.div_lt_iff_lt_mul (by omega)).1 hb;unfold Q1q;omega
  ·right;exact h.2 c (by omega) (by omega)
inductive Q6p (size:Nat) (own mem:List Nat) (r:Nat) (S:Spc) (n:Nat):List Nat→List Nat→Spc→Nat→Prop where
 | room (h:n≤S.fin - S.at'):Q6p size own mem r S n own mem { S with at':=S.at'+n } S.at'
 | one {a:Nat} (ha:a+1≤own.length) (hf:own[a]? = some 0) (hn:n≤size):Q6p size own mem r S n (Q7v own a 1 r) (Q7v mem (a*size) (1*size) 0) ⟨S.parts++[(a,1)],a*size+n,(a+1)*size⟩ (a*size)
 | run {a k:Nat} (hk:2≤k) (ha:a+k≤own.length) (hf:∀ c,a≤c→c < a+k→own[c]? = some 0) (hn:n≤k*size) (hn2:(k - 1)*size < n):Q6p size own mem r S n (Q7v own a k r) (Q7v mem (a*size) (k*size) 0) ⟨S.parts++[(a,k)],S.at',S.fin⟩ (a*size)
theorem Q1o (a b:List (Nat×Nat)):Q0k (a++b)=Q0k a++Q0k b:=by simp[Q0k]
theorem Q3u (a k:Nat):Q0k [(a,k)]=(List.range k).map (a+·):=by simp[Q0k]
theorem Q5s {a k c:Nat}:c∈(List.range k).map (a+·)↔a≤c∧c < a+k:=by
 simp only[List.mem_map,List.mem_range];constructor
 ·rintro⟨i,h,rfl⟩;omega
 ·rintro⟨h1,h2⟩;exact⟨c - a,by omega,by omega⟩
theorem V9g (a k:Nat):((List.range k).map (a+·)).Nodup:=by
 refine List.Pairwise.map _ (fun x y h=>?_) List.nodup_range;omega
theorem Z4s {size:Nat} {own:List Nat} {a k r:Nat} (ha:a+k≤own.length) (hf:∀ c,a≤c→c < a+k→own[c]? = some 0) {e:Ent} (h:Y6h size own e):Y6h size (Q7v own a k r) e:=by
 refine⟨by rw[Q0z ha];exact h.1,fun c h1 h2=>?_⟩;obtain⟨q,hq,hr,h1⟩:=h.2 c h1 h2;rw[Q4c ha,if_neg]
 ·exact⟨q,hq,hr,h1⟩
 ·rintro⟨h2,h3⟩;rw[hf c h2 h3] at hq;cases hq;omega
theorem G1a {size:Nat} {own:List Nat} {a k r:Nat} (ha:a+k≤own.length) (hf:∀ c,a≤c→c < a+k→own[c]? = some 0) {q:Int} {S:Spc} (hq:q≠r) (h:V1z size own q S):V1z size (Q7v own a k r) q S:=by
 refine⟨h.at1,h.fin,by rw[Q0z ha];exact h.parts,h.nodup,fun c=>?_⟩;rw[h.owned,Q4c ha];by_cases hc:a≤c∧c < a+k
 ·rw[if_pos hc,hf c hc.1 hc.2];constructor
  ·rintro⟨x,h1,_,h3⟩;cases h1;omega
  ·rintro⟨x,h1,h2,_⟩;cases h1;omega
 ·rw[if_neg hc]
theorem Z4t {size:Nat} {own:List Nat} {a k r:Nat} (ha:a+k≤own.length) (hf:∀ c,a≤c→c < a+k→own[c]? = some 0) (hk:1≤k) (hr:1≤r) {S:Spc} (h:V1z size own r S) {x y:Nat}
  (h1:x≤y) (h2:y≠0→∃ c,y=(c+1)*size∧c*size < x∧(c,1)∈S.parts++[(a,k)]):V1z size (Q7v own a k r) r ⟨S.parts++[(a,k)],x,y⟩:=by
 refine⟨h1,h2,?_,?_,fun c=>?_⟩
 ·intro p hp;rw[Q0z ha]
  rcases List.mem_append.1 hp with hp|hp
  ·exact h.parts p hp
  ·simp at hp;subst hp;exact⟨hk,ha⟩
 ·show (Q0k (S.parts++[(a,k)])).Nodup;rw[Q1o,Q3u,List.nodup_append];refine⟨h.nodup,V9g a k,fun c hc d hd=>?_⟩;rintro rfl;obtain⟨q,h1,_,h3⟩:=(h.owned c).1 hc;have h4:=Q5s.1 hd;rw[hf c h4.1 h4.2] at h1;cases h1;omega
 ·show c∈Q0k (S.parts++[(a,k)])↔_;rw[Q1o,Q3u,List.mem_append,Q5s,h.owned,Q4c ha];by_cases hc:a≤c∧c < a+k
  ·rw[if_pos hc];constructor
   ·intro _;exact⟨r,rfl,rfl,by omega⟩
   ·intro _;exact .inr hc
  ·rw[if_neg hc];constructor
   ·rintro(h|h)
    ·exact h
    ·exact absurd h hc
   ·intro h;exact .inl h
theorem V0o {α:Type} {a b:List α} {x y:α} (h:x∈a++b):x∈a++y::b:=by
 rcases List.mem_append.1 h with h|h
 ·exact List.mem_append.2 (.inl h)
 ·exact List.mem_append.2 (.inr (List.mem_cons_of_mem _ h))
theorem Q7s {α:Type} {a b:List α} {x y:α} (h:x∈a++y::b):x=y∨x∈a++b:=by
 rcases List.mem_append.1 h with h|h
 ·exact .inr (List.mem_append.2 (.inl h))
 ·rcases List.mem_cons.1 h with h|h
  ·exact .inl h
  ·exact .inr (List.mem_append.2 (.inr h))
theorem V4e {K V:Type} {g1 g2:List (K×V)} {x x':K×V} (h:x'.1=x.1):(g1++x'::g2).map (·.1)=(g1++x::g2).map (·.1):=by simp[h]
theorem U0l {s:CS} (h:WF s) {i g0:Nat} (hi:s.tab[i]? = some ⟨g0,none⟩) (hg:g0≤254) {r:Nat} {q q2:Nat} {S:Spc} {L:List Nat} {p1 p2:List (Int×Nat×Spc)} {m1 m2:List (Int×Nat×List Nat)}
  (hs:s.sps=p1++((r:Int),q,S)::p2) (hm:s.mns=m1++((r:Int),q2,L)::m2) (hnd:(s.par.map (·.1)).Nodup) {e:Ent} (hreg:e.region=r) (ok:V7k s.lays i e) {own' mem mem':List Nat} {S':Spc}
  (al:Q6p s.size s.own mem r S (e.ws.length+1) own' mem' S' e.addr) {L':List Nat} (hL:L'.Pairwise (· < ·)) (hL':∀ j,j∈L'↔j=i∨j∈L) :
  WF { s with own:=own',tab:=s.tab.set i ⟨g0+1,some e⟩,sps:=p1++((r:Int),q,S')::p2,mns:=m1++((r:Int),q2,L')::m2 }:=by
 have hs1:=h.size.1;have hil:i < s.tab.length:=(List.getElem?_eq_some_iff.1 hi).1;have hS:V1z s.size s.own r S:=h.spc ((r:Int),q,S) (by rw[hs];simp)
 have hlive:∃ y,((r:Int),y)∈s.par:=by
  have:(r:Int)∈s.par.map (·.1):=by rw[← h.skeys,hs];simp
  obtain⟨⟨a,b⟩,hab,rfl⟩:=List.mem_map.1 this;exact⟨b,hab⟩
 have hr1:1≤r:=by obtain⟨y,hy⟩:=hlive;have:=(h.par.2.2 _ _ hy).1;omega
 have hnk:((p1++((r:Int),q,S)::p2).map (·.1)).Nodup:=by rw[← hs,h.skeys];exact hnd
 have hother:∀ x∈p1++p2,x∈s.sps∧x.1≠(r:Int):=by
  intro x hx;refine⟨by rw[hs];exact V0o hx,fun hx1=>?_⟩;rw[List.map_append,List.map_cons,List.nodup_append] at hnk;obtain⟨_,h2,h3⟩:=hnk
  rcases List.mem_append.1 hx with hx|hx
  ·exact h3 x.1 (List.mem_map.2 ⟨x,hx,rfl⟩) (r:Int) (by simp) hx1
  ·rw[List.nodup_cons] at h2;exact h2.1 (List.mem_map.2 ⟨x,hx,hx1⟩)
 have hmem:∀ x,x∈p1++((r:Int),q,S')::p2→x=((r:Int),q,S')∨x∈p1++p2:=by
  exact fun x hx=>Q7s hx
 have key:own'.length=s.own.length∧Y6h s.size own' e∧(∀ f,Y6h s.size s.own f→Y6h s.size own' f)∧V1z s.size own' r S'∧(∀ x∈p1++p2,V1z s.size own' x.1 x.2.2) ∧
   (∀ (j g:Nat) (f:Ent),s.tab[j]? = some ⟨g,some f⟩→(Q1q f≤e.addr∨Q1q e≤f.addr)∧(Q1q f≤S'.at'∨S'.fin≤f.addr))∧(Q1q e≤S'.at'∨S'.fin≤e.addr)∧(∀ (c x:Nat),own'[c]? = some x→x≠0→x=r∨s.own[c]? = some x):=by
  generalize hea:e.addr=ad at al;cases al with
  | room hn=>
   have hfin:S.fin≠0:=by omega
   obtain⟨c,hc1,hc2,hc3⟩:=hS.fin hfin
   have hcm:c∈Q0k S.parts:=by
    unfold Q0k;rw[List.mem_flatMap];exact⟨(c,1),hc3,by simp⟩
   obtain⟨y,hy1,hy2,hy3⟩:=(hS.owned c).1 hcm;have hat:=hS.at1;have e1:e.addr / s.size=c:=by rw[hea];exact Nat.div_eq_of_lt_le (by omega) (by rw[← hc1];omega)
   have e2:(e.addr+e.ws.length) / s.size=c:=by rw[hea];exact Nat.div_eq_of_lt_le (by omega) (by rw[← hc1];omega)
   have hcl:c < s.own.length:=(List.getElem?_eq_some_iff.1 hy1).1;have hle:(c+1)*s.size≤s.own.length*s.size:=Nat.mul_le_mul_right _ hcl;refine⟨rfl,⟨by unfold Q1q;omega,fun d h1 h2=>?_⟩,fun _ hf=>hf,⟨by show S.at'+_≤S.fin;omega,fun _=>⟨c,hc1,by show c*s.size < S.at'+_;omega,hc3⟩,hS.parts,hS.nodup,hS.owned⟩,fun x hx=>h.spc x (hother x hx).1,fun j g f hj=>?_,.inl ?_,fun _ _ h1 _ => .inr h1⟩
   ·have:d=c:=by omega
    subst this;exact⟨y,hy1,by rw[hy2,hreg],by omega⟩
   ·have:Q1q f≤S.at'∨S.fin≤f.addr:=h.free ((r:Int),q,S) (by rw[hs];simp) _ _ _ hj;have hee:Q1q e=S.at'+(e.ws.length+1):=by unfold Q1q;omega
    rw[hee];constructor
    ·rcases this with h1|h1
     ·left;exact h1
     ·right;show S.at'+_≤f.addr;omega
    ·rcases this with h1|h1
     ·left;show Q1q f≤S.at'+_;omega
     ·right;exact h1
   ·show Q1q e≤S.at'+_;unfold Q1q;omega
  | @one a ha hf hn=>
   have hf':∀ c,a≤c→c < a+1→s.own[c]? = some 0:=fun c h1 h2=>by rw[show c=a by omega];exact hf
   have hsz:(a+1)*s.size=a*s.size+s.size:=Nat.succ_mul _ _;have hle:(a+1)*s.size≤s.own.length*s.size:=Nat.mul_le_mul_right _ ha;have e1:e.addr / s.size=a:=by rw[hea];exact Nat.mul_div_cancel _ (by omega)
   have e2:(e.addr+e.ws.length) / s.size=a:=by rw[hea];exact Nat.div_eq_of_lt_le (by omega) (by omega)
   have hoff:∀ (j g:Nat) (f:Ent),s.tab[j]? = some ⟨g,some f⟩→Q1q f≤a*s.size∨(a+1)*s.size≤f.addr:=fun j g f hj=>by
    rcases (h.obj _ _ _ hj).2.1.chunk hs1 a with h1|⟨x,h1,_,h3⟩
    ·exact h1
    ·rw[hf] at h1;cases h1;omega
   refine⟨Q0z ha,⟨by rw[Q0z ha];unfold Q1q;omega,fun d h1 h2=>?_⟩,fun f hl=>Z4s ha hf' hl,?_,fun x hx=>G1a ha hf' (hother x hx).2 (h.spc x (hother x hx).1),fun j g f hj=>?_,.inl ?_,fun c x h1 h2=>?_⟩
   ·have:d=a:=by omega
    subst this;rw[Q4c ha,if_pos (by omega)];exact⟨r,rfl,hreg.symm,hr1⟩
   ·exact Z4t ha hf' (by omega) hr1 hS (by omega) (fun _=>⟨a,rfl,by omega,by simp⟩)
   ·have:=hoff j g f hj;have hee:Q1q e=a*s.size+(e.ws.length+1):=by unfold Q1q;omega
    rw[hee];constructor
    ·rcases this with h1|h1
     ·left;exact h1
     ·right;omega
    ·rcases this with h1|h1
     ·left;show Q1q f≤a*s.size+_;omega
     ·right;exact h1
   ·show Q1q e≤a*s.size+_;unfold Q1q;omega
   ·rw[Q4c ha] at h1;split at h1
    ·cases h1;exact .inl rfl
    ·exact .inr h1
  | @run a k hk ha hf hn hn2=>
   have hsz:(a+k)*s.size=a*s.size+k*s.size:=Nat.add_mul _ _ _;have hsz2:(k - 1+1)*s.size=(k - 1)*s.size+s.size:=Nat.succ_mul _ _;rw[show k - 1+1=k by omega] at hsz2;have hle:(a+k)*s.size≤s.own.length*s.size:=Nat.mul_le_mul_right _ ha;have e1:e.addr / s.size=a:=by rw[hea];exact Nat.mul_div_cancel _ (by omega)
   have e2:(e.addr+e.ws.length) / s.size < a+k:=by rw[hea,Nat.div_lt_iff_lt_mul (by omega)];omega
   have hoff:∀ c,a≤c→c < a+k→∀ (j g:Nat) (f:Ent),s.tab[j]? = some ⟨g,some f⟩→Q1q f≤c*s.size∨(c+1)*s.size≤f.addr:=fun c hc1 hc2 j g f hj=>by
    rcases (h.obj _ _ _ hj).2.1.chunk hs1 c with h1|⟨x,h1,_,h3⟩
    ·exact h1
    ·rw[hf c hc1 hc2] at h1;cases h1;omega
   have hoff2:∀ (j g:Nat) (f:Ent),s.tab[j]? = some ⟨g,some f⟩→Q1q f≤a*s.size∨(a+k)*s.size≤f.addr:=fun j g f hj=>by
    have hend:f.addr+1≤Q1q f:=by unfold Q1q;omega
    by_cases h0:Q1q f≤a*s.size
    ·exact .inl h0
    ·refine .inr ?_
     have:∀ m,m < k→(a+m+1)*s.size≤f.addr:=by
      intro m
      induction m with
      | zero=>
       intro _
       rcases hoff a (by omega) (by omega) j g f hj with h1|h1
       ·exact absurd h1 h0
       ·exact h1
      | succ m ih=>
       intro hm;have h2:=ih (by omega)
       rcases hoff (a+(m+1)) (by omega) (by omega) j g f hj with h1|h1
       ·rw[show a+(m+1)=a+m+1 by omega] at h1;omega
       ·exact h1
     have:=this (k - 1) (by omega);rw[show a+(k - 1)+1=a+k by omega] at this;exact this
   refine⟨Q0z ha,⟨by rw[Q0z ha];unfold Q1q;omega,fun d h1 h2=>?_⟩,fun f hl=>Z4s ha hf hl,?_,fun x hx=>G1a ha hf (hother x hx).2 (h.spc x (hother x hx).1),fun j g f hj=>?_,?_,fun c x h1 h2=>?_⟩
   ·rw[Q4c ha,if_pos (by omega)];exact⟨r,rfl,hreg.symm,hr1⟩
   ·refine Z4t ha hf (by omega) hr1 hS hS.at1 (fun h0=>?_);obtain⟨c,h1,h2,h3⟩:=hS.fin h0;exact⟨c,h1,h2,by simp[h3]⟩
   ·have:=hoff2 j g f hj;have hee:Q1q e=a*s.size+(e.ws.length+1):=by unfold Q1q;omega
    rw[hee];refine⟨?_,h.free ((r:Int),q,S) (by rw[hs];simp) _ _ _ hj⟩
    rcases this with h1|h1
    ·left;exact h1
    ·right;omega
   ·show Q1q e≤S.at'∨S.fin≤a*s.size;by_cases h0:S.fin=0
    ·right;omega
    obtain⟨c,hc1,hc2,hc3⟩:=hS.fin h0
    have hcm:c∈Q0k S.parts:=by
     unfold Q0k;rw[List.mem_flatMap];exact⟨(c,1),hc3,by simp⟩
    obtain⟨y,hy1,hy2,hy3⟩:=(hS.owned c).1 hcm;by_cases hca:c < a
    ·right;have:(c+1)*s.size≤a*s.size:=Nat.mul_le_mul_right _ hca;omega
    ·by_cases hcb:c < a+k
     ·rw[hf c (by omega) hcb] at hy1;cases hy1;omega
     ·left;have:(a+k)*s.size≤c*s.size:=Nat.mul_le_mul_right _ (by omega);unfold Q1q;omega
   ·rw[Q4c ha] at h1;split at h1
    ·cases h1;exact .inl rfl
    ·exact .inr h1
 obtain⟨k1,k2,k3,k4,k5,k6,k7,k8⟩:=key;have hsk:(p1++((r:Int),q,S')::p2).map (·.1)=s.par.map (·.1):=by rw[← h.skeys,hs];exact V4e rfl
 have hmk:(m1++((r:Int),q2,L')::m2).map (·.1)=s.par.map (·.1):=by rw[← h.mkeys,hm];exact V4e rfl
 have hnm:((m1++((r:Int),q2,L)::m2).map (·.1)).Nodup:=by rw[← hm,h.mkeys];exact hnd
 refine⟨h.size,by show 1≤own'.length∧own'.length≤63;rw[k1];exact h.own,by show 1≤(s.tab.set _ _).length∧(s.tab.set _ _).length≤63;rw[List.length_set];exact h.slots,h.lays,?_,?_,?_,h.par,hsk,hmk,?_,?_,?_,?_⟩
 ·intro j t hj
  rcases Q1i hj with ⟨rfl,rfl,_⟩|⟨_,hj⟩
  ·exact⟨by show g0+1≤255;omega,fun _=>by show 1≤g0+1;omega⟩
  ·exact h.gen _ _ hj
 ·intro j g f hj
  rcases Q1i hj with ⟨rfl,ht,_⟩|⟨_,hj⟩
  ·injection ht with h1 h2
   injection h2 with h2
   subst h2;exact⟨ok,k2,by rw[hreg];exact hlive⟩
  ·obtain⟨o1,o2,o3⟩:=h.obj _ _ _ hj;exact⟨o1,k3 _ o2,o3⟩
 ·intro j k m n f f' hne hj hk
  rcases Q1i hj with ⟨rfl,ht,_⟩|⟨hji,hj'⟩ <;> rcases Q1i hk with ⟨rfl,hu,_⟩|⟨hki,hk'⟩
  ·exact absurd rfl hne
  ·injection ht with h1 h2
   injection h2 with h2
   subst h2;exact(k6 _ _ _ hk').1.symm
  ·injection hu with h1 h2
   injection h2 with h2
   subst h2;exact(k6 _ _ _ hj').1
  ·exact h.apart _ _ _ _ _ _ hne hj' hk'
 ·intro x hx
  rcases hmem x hx with rfl|hx
  ·exact k4
  ·exact k5 x hx
 ·intro x hx j g f hj
  rcases Q1i hj with ⟨rfl,ht,_⟩|⟨_,hj⟩
  ·injection ht with h1 h2
   injection h2 with h2
   subst h2
   rcases hmem x hx with rfl|hx
   ·exact k7
   ·have hok:=k5 x hx;by_cases h0:x.2.2.fin=0
    ·right;omega
    obtain⟨c,hc1,hc2,hc3⟩:=hok.fin h0
    have hcm:c∈Q0k x.2.2.parts:=by
     unfold Q0k;rw[List.mem_flatMap];exact⟨(c,1),hc3,by simp⟩
    obtain⟨y,hy1,hy2,hy3⟩:=(hok.owned c).1 hcm;have hat:=hok.at1
    rcases k2.chunk hs1 c with (h1|h1)|⟨z,hz1,hz2,hz3⟩
    ·left;omega
    ·right;omega
    ·exact absurd (show x.1=(r:Int) by rw[hy1] at hz1;cases hz1;rw[← hy2,hz2,hreg]) (hother x hx).2
  ·rcases hmem x hx with rfl|hx
   ·exact(k6 _ _ _ hj).2
   ·exact h.free x (hother x hx).1 _ _ _ hj
 ·intro c x hc h0
  rcases k8 c x hc h0 with rfl|h1
  ·exact hlive
  ·exact h.live c x h1 h0
 ·intro x hx
  have hx':x=((r:Int),q2,L')∨(x∈s.mns∧x.1≠(r:Int)):=by
   have hx0:x=((r:Int),q2,L')∨x∈m1++m2:=by
    exact Q7s hx
   rcases hx0 with h1|h1
   ·exact .inl h1
   ·refine .inr ⟨by rw[hm];exact V0o h1,fun hx1=>?_⟩;rw[List.map_append,List.map_cons,List.nodup_append] at hnm;obtain⟨_,h2,h3⟩:=hnm
    rcases List.mem_append.1 h1 with hx|hx
    ·exact h3 x.1 (List.mem_map.2 ⟨x,hx,rfl⟩) (r:Int) (by simp) hx1
    ·rw[List.nodup_cons] at h2;exact h2.1 (List.mem_map.2 ⟨x,hx,hx1⟩)
  rcases hx' with rfl|⟨hx,hne⟩
  ·refine⟨hL,fun j=>?_⟩;show j∈L'↔_;rw[hL',(h.mine ((r:Int),q2,L) (by rw[hm];simp)).2];constructor
   ·rintro(rfl|⟨g,f,h1,h2⟩)
    ·exact⟨g0+1,e,by show (s.tab.set _ _)[_]? = _;simp[hil],hreg⟩
    ·by_cases hji:j=i
     ·subst hji;rw[hi] at h1;cases h1
     ·exact⟨g,f,by show (s.tab.set _ _)[_]? = _;rw[List.getElem?_set_ne (fun q=>hji q.symm)];exact h1,h2⟩
   ·rintro⟨g,f,h1,h2⟩
    rcases Q1i h1 with ⟨rfl,_,_⟩|⟨_,h1⟩
    ·exact .inl rfl
    ·exact .inr ⟨g,f,h1,h2⟩
  ·obtain⟨h1,h2⟩:=h.mine x hx;refine⟨h1,fun j=>?_⟩;rw[h2];constructor
   ·rintro⟨g,f,h3,h4⟩;by_cases hji:j=i
    ·subst hji;rw[hi] at h3;cases h3
    ·exact⟨g,f,by show (s.tab.set _ _)[_]? = _;rw[List.getElem?_set_ne (fun q=>hji q.symm)];exact h3,h4⟩
   ·rintro⟨g,f,h3,h4⟩
    rcases Q1i h3 with ⟨rfl,ht,_⟩|⟨_,h3⟩
    ·injection ht with _ h5
     injection h5 with h5
     subst h5;exact absurd (h4.symm.trans hreg) hne
    ·exact⟨g,f,h3,h4⟩
theorem Y7q {s:CS} (h:WF s) {mem mem' own':List Nat} (hm:mem.length=s.own.length*s.size) {r n ad:Nat} {S S':Spc} (al:Q6p s.size s.own mem r S n own' mem' S' ad) :
  mem'.length=mem.length∧∀ (j g:Nat) (f:Ent),s.tab[j]? = some ⟨g,some f⟩→∀ k,f.addr≤k→k < Q1q f→mem'[k]? = mem[k]?:=by
 have hs1:=h.size.1
 have off:∀ (a K:Nat),a+K≤s.own.length→(∀ c,a≤c→c < a+K→s.own[c]? = some 0)→(Q7v mem (a*s.size) (K*s.size) 0).length=mem.length ∧
   ∀ (j g:Nat) (f:Ent),s.tab[j]? = some ⟨g,some f⟩→∀ k,f.addr≤k→k < Q1q f→(Q7v mem (a*s.size) (K*s.size) 0)[k]? = mem[k]?:=by
  intro a K ha hf;have hsz:(a+K)*s.size=a*s.size+K*s.size:=Nat.add_mul _ _ _;have hle:(a+K)*s.size≤s.own.length*s.size:=Nat.mul_le_mul_right _ ha;refine⟨Q0z (by omega),fun j g f hj k h1 h2=>?_⟩;rw[Q4c (by omega),if_neg];rintro⟨h3,h4⟩;unfold Q1q at h2;have c1:f.addr / s.size≤k / s.size:=Nat.div_le_div_right h1;have c2:k / s.size≤(f.addr+f.ws.length) / s.size:=Nat.div_le_div_right (by omega);obtain⟨q,hq,_,hq1⟩:=(h.obj _ _ _ hj).2.1.2 _ c1 c2;have c3:a≤k / s.size:=(Nat.le_div_iff_mul_le (by omega)).2 h3;have c4:k / s.size < a+K:=(Nat.div_lt_iff_lt_mul (by omega)).2 (by omega);rw[hf _ c3 c4] at hq;cases hq;omega
 cases al with
 | room _=>exact⟨rfl,fun _ _ _ _ _ _ _=>rfl⟩
 | @one a ha hf _=>exact off a 1 ha (fun c h1 h2=>by rw[show c=a by omega];exact hf)
 | @run a k _ ha hf _ _=>exact off a k ha hf
theorem Z6t {s:CS} (h:WF s) {mem mem1 mem2 own':List Nat} (m:Q4p s mem) {r i g0:Nat} (hi:s.tab[i]? = some ⟨g0,none⟩) {S S':Spc} {e:Ent} (al:Q6p s.size s.own mem r S (e.ws.length+1) own' mem1 S' e.addr)
  (hl:mem2.length=mem1.length) (hown:own'.length=s.own.length) (hh:mem2[e.addr]? = some (Y6z e.lay e.count i)) (hw:∀ (p w:Nat),e.ws[p]? = some w→mem2[e.addr+1+p]? = some w) (hout:∀ k,k < e.addr∨Q1q e≤k→mem2[k]? = mem1[k]?)
  (hap:∀ (j g:Nat) (f:Ent),s.tab[j]? = some ⟨g,some f⟩→Q1q f≤e.addr∨Q1q e≤f.addr) {s':CS} (h1:s'.own=own') (h2:s'.size=s.size) (h3:s'.tab=s.tab.set i ⟨g0+1,some e⟩):Q4p s' mem2:=by
 obtain⟨a1,a2⟩:=Y7q h m.len al
 have old:∀ (j g:Nat) (f:Ent),s.tab[j]? = some ⟨g,some f⟩→∀ k,f.addr≤k→k < Q1q f→mem2[k]? = mem[k]? := fun j g f hj k k1 k2=>by
  rw[← a2 j g f hj k k1 k2];refine hout k ?_
  rcases hap j g f hj with h|h
  ·left;omega
  ·right;omega
 refine⟨by rw[hl,a1,h1,h2,hown];exact m.len,?_,?_⟩
 ·intro j g f hj;rw[h3] at hj
  rcases Q1i hj with ⟨rfl,ht,_⟩|⟨_,hj⟩
  ·injection ht with _ h5
   injection h5 with h5
   subst h5;exact hh
  ·rw[old j g f hj f.addr (Nat.le_refl _) (by unfold Q1q;omega)];exact m.head _ _ _ hj
 ·intro j g f hj p w hp;rw[h3] at hj
  rcases Q1i hj with ⟨rfl,ht,_⟩|⟨_,hj⟩
  ·injection ht with _ h5
   injection h5 with h5
   subst h5;exact hw p w hp
  ·have hp1:=(List.getElem?_eq_some_iff.1 hp).1;rw[old j g f hj _ (by omega) (by unfold Q1q;omega)];exact m.words _ _ _ hj p w hp
theorem U0m {s:CS} (h:WF s) {parent:Int} {q q2:Nat} (hl:s.par.length < 64) (hlast:s.last+1 < 1000000) :
  WF { s with last:=s.last+1,par:=s.par++[(((s.last+1:Nat):Int),parent)],sps:=s.sps++[(((s.last+1:Nat):Int),q,⟨[],0,0⟩)],mns:=s.mns++[(((s.last+1:Nat):Int),q2,[])] }:=by
 have hup:∀ r x,(r,x)∈s.par→r≠((s.last+1:Nat):Int):=fun r x hx=>by
  have:=(h.par.2.2 r x hx).2;omega
 refine⟨h.size,h.own,h.slots,h.lays,h.gen,fun i g e hi=>?_,h.apart,⟨by show (s.par++[_]).length≤64;simp;omega,hlast,?_⟩,?_,?_,?_,?_,fun c r hc h0=>?_,?_⟩
 ·obtain⟨a,b,y,hy⟩:=h.obj i g e hi;exact⟨a,b,y,List.mem_append.2 (.inl hy)⟩
 ·intro r x hx;have hx:(r,x)∈s.par++[_]:=hx;show 1≤r∧r≤((s.last+1:Nat):Int)
  rcases List.mem_append.1 hx with hx|hx
  ·have:=h.par.2.2 r x hx;omega
  ·simp at hx;omega
 ·have:=h.skeys;simp[this]
 ·have:=h.mkeys;simp[this]
 ·intro x hx
  rcases List.mem_append.1 (show x∈s.sps++[_] from hx) with hx|hx
  ·exact h.spc x hx
  ·simp at hx;subst hx;refine⟨Nat.le_refl _,fun h0=>absurd rfl h0,fun p hp=>(by cases hp),by simp[Q0k],fun c=>⟨fun hc=>by simp[Q0k] at hc,?_⟩⟩;rintro⟨y,h1,h2,h3⟩;obtain⟨z,hz⟩:=h.live c y h1 h3;exact absurd h2 (hup _ _ hz)
 ·intro x hx i g e hi
  rcases List.mem_append.1 (show x∈s.sps++[_] from hx) with hx|hx
  ·exact h.free x hx i g e hi
  ·simp at hx;subst hx;exact .inr (Nat.zero_le _)
 ·obtain⟨y,hy⟩:=h.live c r hc h0;exact⟨y,List.mem_append.2 (.inl hy)⟩
 ·intro x hx
  rcases List.mem_append.1 (show x∈s.mns++[_] from hx) with hx|hx
  ·exact h.mine x hx
  ·simp at hx;subst hx;refine⟨by simp,fun i=>⟨fun hc=>by simp at hc,?_⟩⟩;rintro⟨g,e,h1,h2⟩;obtain⟨_,_,y,hy⟩:=h.obj _ _ _ h1;exact absurd h2 (hup _ _ hy)
theorem Z6u {lays:List Lay} {i:Nat} {e:Ent} (h:V7k lays i e) (x:Lay):V7k (lays++[x]) i e:=by
 obtain⟨m,l,h1,h2⟩:=h;exact⟨m,l,by rw[List.getElem?_append_left (List.getElem?_eq_some_iff.1 h1).1];exact h1,h2⟩
theorem G1b {s:CS} (h:WF s) {l:Lay} (hr:Q2y l) (hl:s.lays.length < 64):WF { s with lays:=s.lays++[l] }:=by
 refine⟨h.size,h.own,h.slots,⟨by show (s.lays++[l]).length≤64;simp;omega,fun x hx=>?_⟩,h.gen,fun i g e hi=>?_,h.apart,h.par,h.skeys,h.mkeys,h.spc,h.free,h.live,h.mine⟩
 ·rcases List.mem_append.1 hx with hx|hx
  ·exact h.lays.2 x hx
  ·simp at hx;subst hx;exact hr
 ·obtain⟨a,b⟩:=h.obj i g e hi;exact⟨Z6u a l,b⟩
theorem Y2s {s:CS} (h:WF s) (m:List ((Int×Int)×Int)):WF { s with rem:=m }:=⟨h.size,h.own,h.slots,h.lays,h.gen,h.obj,h.apart,h.par,h.skeys,h.mkeys,h.spc,h.free,h.live,h.mine⟩
theorem V4f {s:CS} {mem:List Nat} (h:Q4p s mem) (m:List ((Int×Int)×Int)):Q4p { s with rem:=m } mem:=⟨h.len,h.head,h.words⟩
end Go.Proofs.YtmjdnljneifpcaaGreatDoor
set_option linter.unusedSectionVars false
namespace Go.Proofs.YtmjdnljneifpcaaGreatDoor
open Go.SL
@[reducible] def ptv (q:Nat×Nat):List Value:=[.int .i64 q.1,.int .i64 q.2]
theorem Q8o (q:Nat×Nat):(ptv q).length=2:=rfl
def SPC (p sp owner:Nat) (S:Spc):Q0e:=ex fun v:Value=>star [pts p (row 206 [pp sp,.int .i64 owner,v,.int .i64 S.at',.int .i64 S.fin]),sls 208 2 v (S.parts.flatMap ptv)]
theorem Q5b [Q0i] {w:World} {p sp owner:Nat} {S:Spc} {l:List Q0e} (H:Q0a w (SPC p sp owner S::l)):∃ a c,Q0a w (pts p (row 206 [pp sp,.int .i64 owner,.slice a S.parts.length c,.int .i64 S.at',.int .i64 S.fin])::sls 208 2 (.slice a S.parts.length c) (S.parts.flatMap ptv)::l):=by
 obtain⟨v,H⟩:=Q0a.ex.1 H;have H:=Q0a.star.1 H;obtain⟨a,c,rfl⟩:=Q0j H.drop (Q4v Q8o _) (by decide);exact⟨a,c,H⟩
theorem Q5m [Q0i] {w:World} {p sp owner:Nat} {S:Spc} {l:List Q0e} {v:Value} (H:Q0a w (pts p (row 206 [pp sp,.int .i64 owner,v,.int .i64 S.at',.int .i64 S.fin])::sls 208 2 v (S.parts.flatMap ptv)::l)):Q0a w (SPC p sp owner S::l):=
 Q0a.ex.2 ⟨v,Q0a.star.2 H⟩
theorem V9h [Q0i] (sp owner:Nat) (ho:1≤owner) {w:World} {fr:List Q0e} (H:Q0a w fr) :
  Calls Tryz.prog 67 #[pp sp,.int .i64 owner] w (ret fun v w'=>∃ p,v = .tuple #[pp p,.int .i64 0]∧Q0a w' (SPC p sp owner ⟨[],0,0⟩::fr)):=by
 refine Q0c Tryz.func67 rfl (by kernel_rfl) ?_;refine U4c H ?_;refine Q2s (fun ms σ w=>ms=[]∧σ 0=pp sp∧σ 1 = .int .i64 owner∧Q0a w fr) ?_ ?_
 ·refine G8g H ?_;refine J11 H ?_;rw[show decide ((owner:Int) < 1)=false from decide_eq_false (by omega)];refine J9 H ?_;exact .inl ⟨rfl,rfl,rfl,rfl,H⟩
 ·clear H;rintro ms σ w ⟨rfl,g0,g1,H⟩;rw[Q0b g0,Q0b g1];refine J6 H ?_;refine J60 H ?_;clear H;intro b15 w H;refine J2 H ?_;have H:=(Q3x (E:=208) (k:=2) H).swap;exact Q0g (Jy H rfl fun w' H'=>⟨_,rfl,Q5m (S:=⟨[],0,0⟩) H'⟩)
theorem G1c [Q0i] (p sp owner:Nat) (S:Spc) (h1:S.at'≤S.fin) (h2:S.fin≤1048576) {w:World} {fr:List Q0e} (H:Q0a w (SPC p sp owner S::fr)) :
  Calls Tryz.prog 133 #[pp p] w (ret fun v w'=>v = .int .i64 ((S.fin - S.at':Nat):Int)∧Q0a w' (SPC p sp owner S::fr)):=by
 obtain⟨a,c,H⟩:=Q5b H;refine Q0c Tryz.func133 rfl (by kernel_rfl) ?_;refine U3w H ?_;refine J1 H ?_;clear H;intro w H;refine J61 H ?_;refine U7o H ?_;refine U7d H ?_;refine Q0g (Jy (Q5m H) rfl fun w' H'=>⟨?_,H'⟩);show Value.int .i64 (IntKind.i64.wrap ((S.fin:Int) - (S.at':Int)))=_;rw[Q1e (by omega) (by omega)];congr 1;omega
theorem Y2t [Q0i] (p sp owner size n:Nat) (S:Spc) (mem own:List Nat) (ho:1≤owner) (hn1:1≤n) (hn2:n≤100000) (h1:S.at'≤S.fin) (h2:S.fin≤1048576) (h63:own.length≤63) (hs1:1≤size) (hs2:size≤1024) (hp:S.parts.length≤1000) {w:World} {fr:List Q0e} [hT:Q4t 0 Lib.deBruijn64tab fr]
  (H:Q0a w (SPC p sp owner S::ST sp size mem own::fr)) :
  Calls Tryz.prog 70 #[pp p,.int .i64 n] w (ret fun v w'=>(∃ a own' mem' S',v = .tuple #[.int .i64 ((a:Nat):Int),.int .i64 0]∧Q6p size own mem owner S n own' mem' S' a∧Q0a w' (SPC p sp owner S'::ST sp size mem' own'::fr)) ∨
   (v = .tuple #[.int .i64 0,.int .i64 11]∧(∀ a,a+((n - 1) / size+1)≤own.length→∃ i,a≤i∧i < a+((n - 1) / size+1)∧own.getD i 0≠0)∧Q0a w' (SPC p sp owner S::ST sp size mem own::fr))):=by
 refine Q0c Tryz.func70 rfl (by kernel_rfl) ?_;refine U4c H ?_;refine Q2s (fun ms σ w=>ms=[]∧σ 0=pp p∧σ 1 = .int .i64 n∧Q0a w (SPC p sp owner S::ST sp size mem own::fr)) ?_ ?_
 ·refine G8g H ?_;refine J11 H ?_;rw[show decide ((n:Int) < 1)=false from decide_eq_false (by omega)];refine U2l H ?_;refine J6 H ?_;refine Jc rfl rfl (G1c p sp owner S h1 h2 H) ?_;clear H;rintro v w ⟨rfl,H⟩;refine J2 H ?_;by_cases hr:n≤S.fin - S.at'
  ·rw[show decide ((n:Int)≤((S.fin - S.at':Nat):Int))=true from decide_eq_true (by omega)];refine J13 H ?_;obtain⟨a,c,H⟩:=Q5b H;refine J37 H ?_;rw[Q1e (x:=(S.at':Int)+(n:Int)) (by omega) (by omega),show (S.at':Int)+(n:Int)=((S.at'+n:Nat):Int) by omega];refine J40 H ?_;clear H;intro w H;refine Q0h ?_;refine J37 H ?_;refine J2 H ?_;refine Q0g (.inr ⟨by simp,Jy (Q5m (S:={ S with at':=S.at'+n }) H) rfl fun w' H' => .inl ⟨S.at',own,mem,_,?_,.room hr,H'⟩⟩);show Value.tuple #[.int .i64 (IntKind.i64.wrap (((S.at'+n:Nat):Int) - (n:Int))),_]=_;rw[Q1e (by omega) (by omega),show ((S.at'+n:Nat):Int) - (n:Int)=(S.at':Int) by omega];rfl
  ·rw[show decide ((n:Int)≤((S.fin - S.at':Nat):Int))=false from decide_eq_false (by omega)];refine J9 H ?_;exact .inl ⟨rfl,rfl,rfl,rfl,H⟩
 ·clear H;rintro ms σ w ⟨rfl,g0,g1,H⟩;rw[Q0b g0,Q0b g1];obtain⟨a,c,H⟩:=Q5b H;have hk:(n - 1) / size+1≤n:=by have:=Nat.div_le_self (n - 1) size;omega
  have hk1:(n - 1) / size*size≤n - 1:=Nat.div_mul_le_self _ _
  have hk2:n≤((n - 1) / size+1)*size:=by
   have:=Nat.lt_div_mul_add (a:=n - 1) (b:=size) (by omega);rw[Nat.succ_mul];omega
  refine J29 H ?_;replace H:=Js [2,0,0] 0 H;refine Jc rfl rfl (V1q sp size mem own H) ?_;clear H;rintro v w ⟨rfl,H⟩;refine U7p H ?_;rw[Q1e (x:=(n:Int) - 1) (by omega) (by omega),show (n:Int) - 1=((n - 1:Nat):Int) by omega]
  refine V5d (v := .int .i64 (((n - 1) / size:Nat):Int)) (by
   show (if IntKind.i64=IntKind.i64 then (if (size:Int)=0 then none else some _) else none)=_;rw[if_pos rfl,if_neg (by omega),U0i (by omega)]) rfl ?_
  refine J2 H ?_;generalize hkk:(n - 1) / size=q at hk hk1 hk2;rw[Q1e (x:=((q:Nat):Int)+1) (by omega) (by omega),show ((q:Nat):Int)+1=((q+1:Nat):Int) by omega];refine J1 H ?_;clear H;intro w H;refine U7m H ?_;refine U7n H ?_;refine Jl 7 [9] H ?_;refine Ja 8 ?_;refine Jo 9 H ?_;refine Jk rfl rfl (Y7e sp size mem own owner (q+1) h63 ho (by omega) (by omega) H) ?_;clear H;rintro v w (⟨b,rfl,hb,hfree,H⟩|⟨rfl,hno,H⟩)
  ·have hf:∀ c,b≤c→c < b+(q+1)→own[c]? = some 0:=fun c e1 e2=>by
    have:=hfree c e1 e2;rw[List.getD_eq_getElem?_getD,List.getElem?_eq_getElem (by omega)] at this;rw[List.getElem?_eq_getElem (by omega)];simpa using this
   have hbs:(b+(q+1))*size≤63*1024:=Nat.mul_le_mul (by omega) hs2;have hbs2:(b+(q+1))*size=b*size+(q+1)*size:=Nat.add_mul _ _ _;have hbs3:(b+1)*size=b*size+size:=Nat.succ_mul _ _;have hsq:size≤(q+1)*size:=Nat.le_mul_of_pos_left _ (by omega);refine Ja 10 ?_;refine Ja 11 ?_;refine U6v H ?_;refine Jx H ?_;refine J47 H ?_;refine U1x H ?_;refine J26 H ?_;refine U3o H ?_;clear H;intro b69 w H;replace H:=Js [3,0,1,0] 0 H;refine Q0s rfl (Q1t H rfl rfl (by repeat first|exact .nil _|apply Q0o.cons rfl) rfl (by decide) (by rw[Q4v Q8o];simp only[List.length_cons,List.length_nil];omega) rfl rfl ?_);clear H;intro v70 w H;obtain⟨a70,m70,c70,rfl⟩:=Q1d H;have e1:S.parts.flatMap ptv++[.int .i64 b,.int .i64 ((q+1:Nat):Int)]=(S.parts++[(b,q+1)]).flatMap ptv:=by simp
   rw[e1] at H;refine J40 H ?_;clear H;intro w H;refine J62 H ?_;by_cases hq:q=0
   ·subst hq;rw[show (((0+1:Nat):Int) == 1)=true from rfl];refine J7 H ?_;refine Q1m (fun ms σ w=>ms=[]∧σ 6 = .int .i64 size∧σ 8 = .int .i64 b∧Q0a w (SPC p sp owner ⟨S.parts++[(b,1)],b*size+n,(b+1)*size⟩::ST sp size (Q7v mem (b*size) (1*size) 0) (Q7v own b 1 owner)::fr)) ?_ ?_
    ·refine Q3g rfl ?_;have m1:(b:Int)*(size:Int)=((b*size:Nat):Int):=(Int.natCast_mul _ _).symm;have m2:((b:Int)+1)*(size:Int)=(((b+1)*size:Nat):Int):=by rw[Int.natCast_mul,Int.natCast_add];rfl
     refine J6 H ?_;refine U2m H ?_;refine U3z H ?_;rw[Q1e (x:=(b:Int)+1) (by omega) (by omega),m1,m2,Q1e (x:=((b*size:Nat):Int)) (by omega) (by omega),Q1e (x:=(((b+1)*size:Nat):Int)) (by omega) (by omega),Q1e (x:=((b*size:Nat):Int)+(n:Int)) (by omega) (by omega),show ((b*size:Nat):Int)+(n:Int)=((b*size+n:Nat):Int) by omega];refine J40 H ?_;clear H;intro w H;refine J40 H ?_;clear H;intro w H;refine Q0h ?_;replace H:=Js [2,0,1] 1 H;exact⟨rfl,rfl,rfl,rfl,Q5m (S:=⟨S.parts++[(b,1)],b*size+n,(b+1)*size⟩) H⟩
    ·clear H;rintro ms σ w ⟨rfl,g6,g8,H⟩;rw[Q0b g6,Q0b g8];refine J89 H ?_;refine Q0g (Jy H rfl fun w' H' => .inl ⟨b*size,_,_,_,?_,.one (by omega) (hf b (by omega) (by omega)) (by omega),H'⟩);show Value.tuple #[.int .i64 (IntKind.i64.wrap ((b:Int)*(size:Int))),_]=_;rw[← Int.natCast_mul,Q1e (by omega) (by omega)];rfl
   ·rw[show (((q+1:Nat):Int) == 1)=false by simp;omega];refine J9 H ?_;refine J89 H ?_;replace H:=Js [2,0,1] 1 H;refine Q0g (Jy (Q5m (S:=⟨S.parts++[(b,q+1)],S.at',S.fin⟩) H) rfl fun w' H' => .inl ⟨b*size,_,_,_,?_,.run (k:=q+1) (by omega) hb hf hk2 (by rw[Nat.add_sub_cancel];omega),H'⟩);show Value.tuple #[.int .i64 (IntKind.i64.wrap ((b:Int)*(size:Int))),_]=_;rw[← Int.natCast_mul,Q1e (by omega) (by omega)];rfl
  ·refine Ja 10 ?_;refine Ja 11 ?_;refine U6v H ?_;refine U6i H ?_;refine U7q H ?_;replace H:=Js [1,1,0] 0 H;exact Q0g (Jy (Q5m H) rfl fun w' H' => .inr ⟨rfl,hno,H'⟩)
end Go.Proofs.YtmjdnljneifpcaaGreatDoor
namespace Go.Proofs.YtmjdnljneifpcaaGreatDoor
open Go.SL
@[reducible] def IMG (ip sp bp:Nat):Q0e:=pts ip (row 222 [pp sp,pp bp])
structure V9i (ls:List Lay) (size:Nat) (mem own:List Nat) (addr i c s n:Nat) (l:Lay):Prop where
 may:G4n i c s
 lay:ls[i - 1]? = some l
 right:Q2y l
 siz:Q3q l c=(n,0)
 head:mem.getD addr 0=Y6z i c s
 fit:addr+1+n≤mem.length
 owned:V2o size own addr (n+1)
theorem V2o.sub {size:Nat} {own:List Nat} {a n b m:Nat} (h:V2o size own a n) (h1:a≤b) (h2:b+m≤a+n) (h3:1≤m):V2o size own b m:=fun c c1 c2=>
 h c (Nat.le_trans (Nat.div_le_div_right h1) c1) (Nat.le_trans c2 (Nat.div_le_div_right (by omega)))
theorem G1d [Q0i] (sp bp:Nat) {w:World} {fr:List Q0e} (H:Q0a w fr) :
  Calls Tryz.prog 83 #[pp sp,pp bp] w (ret fun v w'=>∃ ip,v = .tuple #[pp ip,.int .i64 0]∧Q0a w' (IMG ip sp bp::fr)):=by
 refine Q0c Tryz.func83 rfl (by kernel_rfl) ?_;refine J3 H ?_;refine U6o H ?_;refine U1s H ?_;refine U7r H ?_;refine J6 H ?_;refine J60 H ?_;clear H;intro b15 w H;refine J2 H ?_;exact Q0g (Jy H rfl fun w' H'=>⟨_,rfl,H'⟩)
theorem V5r [Q0i] (p:Nat) (ls:List Lay) (i:Nat) (h1:1≤i) (l:Lay) (hk:ls[i - 1]? = some l) {w:World} {fr:List Q0e} (H:Q0a w (Q5v p ls::fr)) :
  Calls Tryz.prog 88 #[pp p,.int .i64 i] w (ret fun x w'=>∃ vr vq,x = .tuple #[V9c l.fixed vr l.record vq,.int .i64 0]∧Q0a w' (NL vr l.refs::NL vq l.recs::Q5v p ls::fr)):=by
 obtain⟨k,rfl⟩:∃ k,i=k+1:=⟨i - 1,by omega⟩;rw[Nat.add_sub_cancel] at hk;rw[show (((k+1:Nat):Int))=(k:Int)+1 by omega];exact G0x p ls k l hk H
theorem Y2u [Q0i] (ip sp bp:Nat) (ls:List Lay) (i c s n:Nat) (l:Lay) (hm:G4n i c s) (hl:ls[i - 1]? = some l) (hR:Q2y l) (hz:Q3q l c=(n,0)) {w:World} {fr:List Q0e} (H:Q0a w (IMG ip sp bp::Q5v bp ls::fr)) :
  Calls Tryz.prog 153 #[pp ip,hdv i c s] w (ret fun v w'=>∃ vr vq,v = .tuple #[V9c l.fixed vr l.record vq,.int .i64 n,.int .i64 0]∧Q0a w' (NL vr l.refs::NL vq l.recs::IMG ip sp bp::Q5v bp ls::fr)):=by
 have hi:=hm.1;refine Q0c Tryz.func153 rfl (by kernel_rfl) ?_;refine J8 H ?_;clear H;intro b3 w H;refine J12 H ?_;clear H;intro b4 w H;refine J84 H ?_
 refine Q1m (fun ms σ w=>ms=[]∧∃ b7 vr vq,σ 3=pp b3∧σ 4=pp b4∧σ 7=pp b7∧σ 8 = .int .i64 0 ∧
  Q0a w (pts b7 (row 102 [.int .i64 l.fixed,vr,.int .i64 l.record,vq])::NL vr l.refs::NL vq l.recs::pts b4 (row 102 [.int .i64 0,.slice none 0 0,.int .i64 0,.slice none 0 0])::pts b3 (row 115 [.int .i64 i,.int .i64 c,.int .i64 s])::IMG ip sp bp::Q5v bp ls::fr)) ?_ ?_
 ·replace H:=Js [3,0,0,0] 0 H;refine J1 H ?_;clear H;intro w H;refine U7s H ?_;refine Jl 5 [6,11] H ?_;refine Jw 6 10 H rfl rfl (Q1h (a:=[]) (b:=[]) rfl rfl (call (V5r bp ls i hi l hl H) ?_)) (Q1x H rfl ?_)
  ·clear H;rintro v w ⟨vr,vq,rfl,H⟩;obtain⟨aa,ma,ca,rfl⟩:=Q1d H;obtain⟨ab,mb,cb,rfl⟩:=Q1d H.drop;refine U4p H ?_;clear H;intro b7 w H;refine G9t H ?_;clear H;intro w H;refine J58 H ?_;replace H:=Js [0,0,0,1,1,1,0] 0 H;exact⟨rfl,rfl,b7,_,_,rfl,rfl,rfl,rfl,H⟩
  ·clear H;intro b7 w H;refine Jo 6 H ?_;refine Jk rfl rfl (V5r bp ls i hi l hl H.swap) ?_;clear H;rintro v w ⟨vr,vq,rfl,H⟩;obtain⟨aa,ma,ca,rfl⟩:=Q1d H;obtain⟨ab,mb,cb,rfl⟩:=Q1d H.drop;refine U4q H ?_;clear H;intro w H;refine J58 H ?_;replace H:=Js [3,0,0,1,1,1,0] 0 H;exact⟨rfl,rfl,b7,_,_,rfl,rfl,rfl,rfl,H⟩
 ·clear H;rintro ms σ w ⟨rfl,b7,vr,vq,g3,g4,g7,g8,H⟩;rw[Q0b g3,Q0b g4,Q0b g7,Q0b g8];obtain⟨aa,ma,rfl⟩:=Q0j H.drop (Q0d _) (by decide);obtain⟨ab,mb,rfl⟩:=Q0j H.drop.drop (Q0d _) (by decide);refine J47 H ?_;refine J36 H ?_;refine J45 H ?_;replace H:=Js [1,1,0,0,0,0,0] 0 H;obtain⟨D1,H,hD1,hC1⟩:=sls_rd H (Q0d _) (by decide);obtain⟨D2,H,hD2,hC2⟩:=sls_rd H.swap (Q0d _) (by decide);refine Jc rfl rfl (V1a _ _ l hR c ⟨(hD1 _).there,hD2 _⟩ H) ?_;clear H;rintro v w ⟨rfl,H⟩;rw[hz];replace H:=hC1 _ _ (hC2 _ _ H).swap;refine J32 H ?_;refine J36 H ?_;refine U7t H ?_;clear H;intro w H;refine J2 H ?_;replace H:=Js [3,0,0,2,2] 2 H;exact Q0g (Jz H (fun w' H' => .cellN H' rfl (by repeat first|exact .nil _|apply Q0o.cons rfl) (.tmp (.tmp .nil))) fun w' H'=>⟨_,_,rfl,H'.drop⟩)
theorem V5s [Q0i] (ip sp bp size:Nat) (ls:List Lay) (mem own:List Nat) (addr i c s n:Nat) (l:Lay) (h:V9i ls size mem own addr i c s n l) {w:World} {fr:List Q0e} (H:Q0a w (IMG ip sp bp::Q5v bp ls::ST sp size mem own::fr)) :
  Calls Tryz.prog 111 #[pp ip,.int .i64 addr] w (ret fun v w'=>∃ vr vq,v = .tuple #[hdv i c s,V9c l.fixed vr l.record vq,.int .i64 n,.int .i64 0]∧Q0a w' (NL vr l.refs::NL vq l.recs::IMG ip sp bp::Q5v bp ls::ST sp size mem own::fr)):=by
 obtain⟨hm,hl,hR,hz,hh,hf,ho⟩:=h;refine Q0c Tryz.func111 rfl (by kernel_rfl) ?_;refine J24 H ?_;clear H;intro b4 w H;refine J12 H ?_;clear H;intro b5 w H;refine J2 H ?_;refine J10 H ?_;replace H:=Js [4,0,0,0,0] 0 H;refine Jc rfl rfl (V9a sp size mem own addr (by omega) (ho.sub (Nat.le_refl _) (by omega) (by omega)) H) ?_;clear H;rintro v w ⟨rfl,H⟩;rw[hh];refine J38 H ?_;refine J20 H ?_;refine Jc rfl rfl (Z1l i c s hm H) ?_;clear H;rintro v w ⟨rfl,H⟩;refine J16 H ?_;clear H;intro b10 w H;refine J4 H ?_;clear H;intro w H;refine J23 H ?_;refine J42 H ?_;replace H:=Js [4,4,1,1,1,0] 0 H;refine Jc rfl rfl (Y2u ip sp bp ls i c s n l hm hl hR hz H) ?_;clear H;rintro v w ⟨vr,vq,rfl,H⟩;obtain⟨aa,ma,ca,rfl⟩:=Q1d H;obtain⟨ab,mb,cb,rfl⟩:=Q1d H.drop;refine U2m H ?_;refine J12 H ?_;clear H;intro b11 w H;refine J4 H ?_;clear H;intro w H;refine J2 H ?_;refine J1 H ?_;clear H;intro w H;refine Q1w 0 [4,5] H rfl (Q0n.none rfl) rfl (by repeat first|exact .nil _|apply Q0o.cons rfl) (by kernel_rfl) ?_;refine Q1w 1 [5] H rfl (Q0n.none rfl) rfl (by repeat first|exact .nil _|apply Q0o.cons rfl) (by kernel_rfl) ?_;refine Ja 2 ?_;refine Ja 3 ?_;refine Jo 4 H ?_;refine J49 H ?_;clear H;intro w H;refine Jo 5 H ?_;refine J49 H ?_;clear H;intro w H;refine J75 H ?_;refine Jx H ?_;replace H:=Js [7,6,1,1,1,1,1] 2 H;exact Q0g (Jz H (fun w' H' => .cellN H' rfl (by repeat first|exact .nil _|apply Q0o.cons rfl) (.cellN H' rfl (by repeat first|exact .nil _|apply Q0o.cons rfl) (.tmp (.tmp .nil)))) fun w' H'=>⟨_,_,rfl,H'.drop.drop⟩)
end Go.Proofs.YtmjdnljneifpcaaGreatDoor
namespace Go.Proofs.YtmjdnljneifpcaaGreatDoor
open Go.SL
def Q0x (l:Lay) (n:Nat) (place:Int) (ref:Bool):Nat:=if place < 0∨(n:Int)≤place then 3 else if Q2h l place.toNat≠ref then 9 else 0
theorem Q3b {l:Lay} {n:Nat} {place:Int} {ref:Bool} (h:Q0x l n place ref=0):∃ p:Nat,place=p∧p < n∧Q2h l p=ref:=by
 unfold Q0x at h;split at h
 ·omega
 ·split at h
  ·omega
  ·rename_i h1 h2;exact⟨place.toNat,by omega,by omega,by simpa using h2⟩
theorem Z4u [Q0i] {w:World} {p size:Nat} {mem own:List Nat} {l:List Q0e} (H:Q0a w (ST p size mem own::l)):mem.length≤1048576:=by
 obtain⟨v,v2,u,ws,many,hok,_⟩:=Q8t H;rw[hok.len];exact Nat.mul_le_mul hok.c2 hok.s2
theorem V4g [Q0i] (ip sp bp size:Nat) (ls:List Lay) (mem own:List Nat) (addr i c s n:Nat) (l:Lay) (h:V9i ls size mem own addr i c s n l) (place:Int) (ref:Bool) {w:World} {fr:List Q0e} (H:Q0a w (IMG ip sp bp::Q5v bp ls::ST sp size mem own::fr)) :
  Calls Tryz.prog 123 #[pp ip,.int .i64 addr,.int .i64 place,.bool ref] w (ret fun v w'=>v = .tuple #[.int .i64 ((if Q0x l n place ref=0 then addr+1+place.toNat else 0:Nat):Int),.int .i64 (Q0x l n place ref)]∧Q0a w' (IMG ip sp bp::Q5v bp ls::ST sp size mem own::fr)):=by
 have hml:=Z4u (H.pull 2);have h':=h;obtain⟨hm,hl,hR,hz,hh,hf,ho⟩:=h';refine Q0c Tryz.func123 rfl (by kernel_rfl) ?_;refine U6s H ?_;refine J6 H ?_;refine Jc rfl rfl (V5s ip sp bp size ls mem own addr i c s n l h H) ?_;clear H;rintro v w ⟨vr,vq,rfl,H⟩;obtain⟨aa,ca,rfl⟩:=Q0j H (Q0d _) (by decide);obtain⟨ab,cb,rfl⟩:=Q0j H.drop (Q0d _) (by decide);refine U3z H ?_;refine J12 H ?_;clear H;intro b10 w H;refine J12 H ?_;clear H;intro b11 w H;refine J4 H ?_;clear H;intro w H;refine J4 H ?_;clear H;intro w H;refine U4r H ?_;refine J36 H ?_;refine U8z H ?_;replace H:=Js [2,2,0,0,0,0,0] 0 H;obtain⟨D1,H,hD1,hC1⟩:=sls_rd H (Q0d _) (by decide);obtain⟨D2,H,hD2,hC2⟩:=sls_rd H.swap (Q0d _) (by decide);by_cases hp:place < 0∨(n:Int)≤place
 ·have he:Q0x l n place ref=3:=by unfold Q0x;rw[if_pos hp]
  rw[he];refine Jc rfl rfl (G5p _ _ l hR c place hz hp ⟨(hD1 _).there,hD2 _⟩ H) ?_;clear H;rintro v w ⟨rfl,H⟩;replace H:=hC1 _ _ (hC2 _ _ H).swap;refine G9y H ?_;refine Q0t ?_;refine J6 H ?_;refine J67 H ?_;refine J11 H ?_;replace H:=Js [4,4,4] 4 H;exact Q0g (Jy H rfl fun w' H'=>⟨rfl,H'⟩)
 ·obtain⟨p,rfl⟩:∃ p:Nat,place=p:=⟨place.toNat,by omega⟩;refine Jc rfl rfl (Z6q _ _ l hR c p hz (by omega) ⟨(hD1 _).there,hD2 _⟩ H) ?_;clear H;rintro v w ⟨rfl,H⟩;replace H:=hC1 _ _ (hC2 _ _ H).swap;refine G9y H ?_;refine Q2s (fun ms σ w=>ms=[]∧Q2h l p=ref∧σ 1 = .int .i64 addr∧σ 2 = .int .i64 p∧Q0a w (IMG ip sp bp::Q5v bp ls::ST sp size mem own::fr)) ?_ ?_
  ·refine Q0t ?_;refine U2f H ?_;refine Q0s rfl (V0t rfl rfl (.inr rfl) rfl ?_);refine J0 H ?_;by_cases hr:Q2h l p=ref
   ·rw[show (!(Q2h l p == ref))=false by simp[hr]];refine J9 H ?_;replace H:=Js [4,4,4] 4 H;exact .inl ⟨rfl,rfl,hr,rfl,rfl,H⟩
   ·have he:Q0x l n (p:Int) ref=9:=by unfold Q0x;rw[if_neg hp,if_pos (by simpa using hr)]
    rw[show (!(Q2h l p == ref))=true by simpa using hr];refine J28 H ?_;replace H:=Js [4,4,4] 4 H;exact Q0g (.inr ⟨by simp,Jy H rfl fun w' H'=>⟨by rw[he];rfl,H'⟩⟩)
  ·clear H;rintro ms σ w ⟨rfl,hr,g1,g2,H⟩;have he:Q0x l n (p:Int) ref=0:=by unfold Q0x;rw[if_neg hp,if_neg (by simpa using hr)]
   rw[he,Q0b g1,Q0b g2];refine J73 H ?_;refine J2 H ?_;rw[Q1e (x:=(addr:Int)+1) (by omega) (by omega),Q1e (x:=(addr:Int)+1+(p:Int)) (by omega) (by omega)];refine Q0g (Jy H rfl fun w' H'=>⟨?_,H'⟩);show Value.tuple #[.int .i64 ((addr:Int)+1+(p:Int)),_]=_;rw[if_pos rfl,show (addr:Int)+1+(p:Int)=((addr+1+(p:Int).toNat:Nat):Int) by simp];rfl
end Go.Proofs.YtmjdnljneifpcaaGreatDoor
namespace Go.Proofs.YtmjdnljneifpcaaGreatDoor
open Go.SL
theorem G1e [Q0i] (ip sp bp size:Nat) (ls:List Lay) (mem own:List Nat) (addr i c s n:Nat) (l:Lay) (h:V9i ls size mem own addr i c s n l) (place:Int) {w:World} {fr:List Q0e} (H:Q0a w (IMG ip sp bp::Q5v bp ls::ST sp size mem own::fr)) :
  Calls Tryz.prog 107 #[pp ip,.int .i64 addr,.int .i64 place] w (ret fun v w'=>v = .tuple #[.int .u64 ((if Q0x l n place false=0 then mem.getD (addr+1+place.toNat) 0 else 0:Nat):Int),.int .i64 (Q0x l n place false)]∧Q0a w' (IMG ip sp bp::Q5v bp ls::ST sp size mem own::fr)):=by
 have hrd:Calls Tryz.prog 179 #[pp ip,.int .i64 addr,.int .i64 place,.bool false,.func (.func 180) #[] #[]] w (ret fun v w'=>v = .tuple #[.int .u64 ((if Q0x l n place false=0 then mem.getD (addr+1+place.toNat) 0 else 0:Nat):Int),.int .i64 (Q0x l n place false)]∧Q0a w' (IMG ip sp bp::Q5v bp ls::ST sp size mem own::fr)):=by
  refine Q0c Tryz.func179 rfl (by kernel_rfl) ?_;refine J3 H ?_;refine J14 H ?_;refine J73 H ?_;refine Jc rfl rfl (V4g ip sp bp size ls mem own addr i c s n l h place false H) ?_;clear H;rintro v w ⟨rfl,H⟩;refine J66 H ?_;by_cases he:Q0x l n place false=0
  ·obtain⟨p,rfl,hp,hr⟩:=Q3b he;rw[he];refine J9 H ?_;refine U4s H ?_;replace H:=Js [2,0,0] 0 H;refine Jc rfl rfl (V9a sp size mem own (addr+1+p) (by have:=h.fit;omega) (h.owned.sub (by omega) (by omega) (by omega)) H) ?_;clear H;rintro v w ⟨rfl,H⟩;refine J38 H ?_;refine J11 H ?_;replace H:=Js [1,1,0] 0 H;exact Q0g (Jy H rfl fun w' H'=>⟨rfl,H'⟩)
  ·rw[if_neg he,if_neg he];rw[show (((Q0x l n place false:Nat):Int) != 0)=true by simpa using he];refine J13 H ?_;refine U0f H ?_;exact Q0g (Jy H rfl fun w' H'=>⟨rfl,H'⟩)
 refine Q0c Tryz.func107 rfl (by kernel_rfl) ?_;refine J3 H ?_;refine J15 H ?_;refine Jc rfl rfl (hrd) ?_;clear H;rintro v w ⟨rfl,H⟩;refine U2i H ?_;exact Q0g (Jy H rfl fun w' H'=>⟨rfl,H'⟩)
theorem Q5t (k:Lnk):∃ a b d:Int,lkv k = .agg #[.int .i64 a,.int .i64 b,.int .i64 d]:=by cases k <;> exact⟨_,_,_,rfl⟩
theorem V9j [Q0i] (ip sp bp size:Nat) (ls:List Lay) (mem own:List Nat) (addr i c s n:Nat) (l:Lay) (h:V9i ls size mem own addr i c s n l) (place:Int) (k:Lnk) (hk:Q0x l n place true=0→okL k∧mem.getD (addr+1+place.toNat) 0=Q3v k) (hk2:Q0x l n place true≠0→k = .none) {w:World} {fr:List Q0e} (H:Q0a w (IMG ip sp bp::Q5v bp ls::ST sp size mem own::fr)) :
  Calls Tryz.prog 97 #[pp ip,.int .i64 addr,.int .i64 place] w (ret fun v w'=>v = .tuple #[lkv k,.int .i64 (Q0x l n place true)]∧Q0a w' (IMG ip sp bp::Q5v bp ls::ST sp size mem own::fr)):=by
 have hlk:∀ (q:Nat) (k:Lnk) (w:World) (fr:List Q0e),q < mem.length→V2o size own q 1→okL k→mem.getD q 0=Q3v k→Q0a w (ST sp size mem own::fr) →
   Calls Tryz.prog 158 #[pp sp,.int .i64 q] w (ret fun v w'=>v = .tuple #[lkv k,.int .i64 0]∧Q0a w' (ST sp size mem own::fr)):=by
  intro q k w fr h1 h2 h3 h4 H;refine Q0c Tryz.func158 rfl (by kernel_rfl) ?_;refine J24 H ?_;clear H;intro b4 w H;refine J0 H ?_;refine J6 H ?_;refine Jc rfl rfl (V9a sp size mem own q h1 h2 H.swap) ?_;clear H;rintro v w ⟨rfl,H⟩;rw[h4];refine J38 H ?_;refine J20 H ?_;refine Jc rfl rfl (G0m k h3 H) ?_;clear H;rintro v w ⟨rfl,H⟩;obtain⟨a,b,d,hkv⟩:=Q5t k;rw[hkv];refine U7t H ?_;clear H;intro w H;refine J0 H ?_;exact Q0g (Jz H.swap (fun w' H' => .cellN H' rfl (by repeat first|exact .nil _|apply Q0o.cons rfl) (.tmp .nil)) fun w' H'=>⟨rfl,H'.drop⟩)
 have hrd:∀ (w:World) (fr:List Q0e),Q0a w (IMG ip sp bp::Q5v bp ls::ST sp size mem own::fr)→Calls Tryz.prog 157 #[pp ip,.int .i64 addr,.int .i64 place,.bool true,.func (.func 158) #[] #[]] w (ret fun v w'=>v = .tuple #[lkv k,.int .i64 (Q0x l n place true)]∧Q0a w' (IMG ip sp bp::Q5v bp ls::ST sp size mem own::fr)):=by
  intro w fr H;refine Q0c Tryz.func157 rfl (by kernel_rfl) ?_;refine J24 H ?_;clear H;intro b10 w H;refine J0 H ?_;refine J24 H ?_;clear H;intro b12 w H;refine Q0h ?_;refine J73 H ?_;replace H:=Js [2,2,2,0,0] 0 H;refine Jc rfl rfl (V4g ip sp bp size ls mem own addr i c s n l h place true H) ?_;clear H;rintro v w ⟨rfl,H⟩;refine J66 H ?_;by_cases he:Q0x l n place true=0
  ·obtain⟨hk3,hk4⟩:=hk he;obtain⟨p,rfl,hp,hr⟩:=Q3b he;rw[he];refine J9 H ?_;refine U4s H ?_;replace H:=Js [2,0,0,0,0] 0 H;refine Jc rfl rfl (hlk (addr+1+p) k _ _ (by have:=h.fit;omega) (h.owned.sub (by omega) (by omega) (by omega)) hk3 hk4 H) ?_;clear H;rintro v w ⟨rfl,H⟩;obtain⟨a,b,d,hkv⟩:=Q5t k;rw[hkv];refine J16 H ?_;clear H;intro b15 w H;refine J4 H ?_;clear H;intro w H;refine J23 H ?_;refine J87 H ?_;clear H;intro w H;refine J0 H ?_;replace H:=Js [5,2,2,1] 2 H;exact Q0g (Jz H (fun w' H' => .cellN H' rfl (by repeat first|exact .nil _|apply Q0o.cons rfl) (.tmp .nil)) fun w' H'=>⟨rfl,H'.drop⟩)
  ·obtain rfl:=hk2 he;rw[if_neg he];rw[show (((Q0x l n place true:Nat):Int) != 0)=true by simpa using he];refine J13 H ?_;refine J95 H ?_;clear H;intro w H;refine J0 H ?_;replace H:=Js [4,0,0,0] 1 H;exact Q0g (Jz H (fun w' H' => .cellN H' rfl (by repeat first|exact .nil _|apply Q0o.cons rfl) (.tmp .nil)) fun w' H'=>⟨rfl,H'.drop⟩)
 refine Q0c Tryz.func97 rfl (by kernel_rfl) ?_;refine J24 H ?_;clear H;intro b6 w H;refine U7p H ?_;replace H:=Js [1,1,1,0] 0 H;refine Jc rfl rfl (hrd _ _ H) ?_;clear H;rintro v w ⟨rfl,H⟩;obtain⟨a,b,d,hkv⟩:=Q5t k;rw[hkv];refine U7t H ?_;clear H;intro w H;refine J0 H ?_;replace H:=Js [3,0,0,0] 0 H;exact Q0g (Jz H (fun w' H' => .cellN H' rfl (by repeat first|exact .nil _|apply Q0o.cons rfl) (.tmp .nil)) fun w' H'=>⟨rfl,H'.drop⟩)
theorem G1f [Q0i] (ip sp bp size:Nat) (ls:List Lay) (mem own:List Nat) (addr i c s n:Nat) (l:Lay) (h:V9i ls size mem own addr i c s n l) (place:Int) (x:Nat) {w:World} {fr:List Q0e} (H:Q0a w (IMG ip sp bp::Q5v bp ls::ST sp size mem own::fr)) :
  Calls Tryz.prog 233 #[pp ip,.int .i64 addr,.int .i64 place,.int .u64 x] w (ret fun v w'=>v = .int .i64 (Q0x l n place false)∧Q0a w' (IMG ip sp bp::Q5v bp ls::ST sp size (if Q0x l n place false=0 then mem.set (addr+1+place.toNat) x else mem) own::fr)):=by
 refine Q0c Tryz.func233 rfl (by kernel_rfl) ?_;refine G9u H ?_;refine Jc rfl rfl (V4g ip sp bp size ls mem own addr i c s n l h place false H) ?_;clear H;rintro v w ⟨rfl,H⟩;refine J66 H ?_;by_cases he:Q0x l n place false=0
 ·obtain⟨p,rfl,hp,hr⟩:=Q3b he;rw[he];refine J9 H ?_;refine J29 H ?_;refine J2 H ?_;replace H:=Js [2,0,0] 0 H;refine J15 H ?_;refine Q0s rfl (Q1h (a:=[pp sp]) (b:=[]) rfl rfl (call (V1r sp size mem own (addr+1+p) x (by have:=h.fit;omega) (h.owned.sub (by omega) (by omega) (by omega)) H) ?_));clear H;rintro v w ⟨rfl,H⟩;refine J0 H ?_;replace H:=Js [1,1,0] 0 H;exact Q0g (Jy H rfl fun w' H'=>⟨rfl,H'⟩)
 ·rw[if_neg he,if_neg he];rw[show (((Q0x l n place false:Nat):Int) != 0)=true by simpa using he];refine J28 H ?_;exact Q0g (Jy H rfl fun w' H'=>⟨rfl,H'⟩)
theorem Y7r [Q0i] (ip sp bp size:Nat) (ls:List Lay) (mem own:List Nat) (addr i c s n:Nat) (l:Lay) (h:V9i ls size mem own addr i c s n l) (place:Int) (k:Lnk) (hk:okL k) {w:World} {fr:List Q0e} (H:Q0a w (IMG ip sp bp::Q5v bp ls::ST sp size mem own::fr)) :
  Calls Tryz.prog 61 #[pp ip,.int .i64 addr,.int .i64 place,lkv k] w (ret fun v w'=>v = .int .i64 (Q0x l n place true)∧Q0a w' (IMG ip sp bp::Q5v bp ls::ST sp size (if Q0x l n place true=0 then mem.set (addr+1+place.toNat) (Q3v k) else mem) own::fr)):=by
 obtain⟨a,b,d,hkv⟩:=Q5t k;have hW:=fun (w:World) (fr:List Q0e) (H:Q0a w fr)=>G0l k hk H;rw[hkv] at hW ⊢;refine Q0c Tryz.func61 rfl (by kernel_rfl) ?_;refine J8 H ?_;clear H;intro b7 w H;refine J0 H ?_;replace H:=Js [1,1,1,0] 0 H;refine J15 H ?_;refine Jc rfl rfl (V4g ip sp bp size ls mem own addr i c s n l h place true H) ?_;clear H;rintro v w ⟨rfl,H⟩;refine J66 H ?_;by_cases he:Q0x l n place true=0
 ·obtain⟨p,rfl,hp,hr⟩:=Q3b he;rw[he];refine J9 H ?_;refine J36 H ?_;refine Jc rfl rfl (hW _ _ H) ?_;clear H;rintro v w ⟨rfl,H⟩;refine J38 H ?_;refine J29 H ?_;refine J2 H ?_;replace H:=Js [2,0,0] 1 H;refine J15 H ?_;refine Q0s rfl (Q1h (a:=[pp sp]) (b:=[]) rfl rfl (call (V1r sp size mem own (addr+1+p) (Q3v k) (by have:=h.fit;omega) (h.owned.sub (by omega) (by omega) (by omega)) H) ?_));clear H;rintro v w ⟨rfl,H⟩;refine J0 H ?_;replace H:=Js [1,1,0] 0 H;exact Q0g (Jy H rfl fun w' H'=>⟨rfl,H'⟩)
 ·rw[if_neg he,if_neg he];rw[show (((Q0x l n place true:Nat):Int) != 0)=true by simpa using he];refine J28 H ?_;replace H:=Js [0,0,0] 1 H;exact Q0g (Jy H rfl fun w' H'=>⟨rfl,H'⟩)
theorem V4h [Q0i] (ip sp bp size:Nat) (ls:List Lay) (mem own:List Nat) (addr i c s n:Nat) (l:Lay) (h:V9i ls size mem own addr i c s n l) {w:World} {fr:List Q0e} (H:Q0a w (IMG ip sp bp::Q5v bp ls::ST sp size mem own::fr)) :
  Calls Tryz.prog 45 #[pp ip,.int .i64 addr] w (ret fun v w'=>v = .tuple #[hdv i c s,.int .i64 ((n+1:Nat):Int),.int .i64 0]∧Q0a w' (IMG ip sp bp::Q5v bp ls::ST sp size mem own::fr)):=by
 have hml:=Z4u (H.pull 2);have hf:=h.fit;refine Q0c Tryz.func45 rfl (by kernel_rfl) ?_;refine J24 H ?_;clear H;intro b4 w H;refine U7i H ?_;refine J6 H ?_;replace H:=Js [1,1,1,0] 0 H;refine Jc rfl rfl (V5s ip sp bp size ls mem own addr i c s n l h H) ?_;clear H;rintro v w ⟨vr,vq,rfl,H⟩;obtain⟨aa,ma,ca,rfl⟩:=Q1d H;obtain⟨ab,mb,cb,rfl⟩:=Q1d H.drop;refine U3z H ?_;refine J12 H ?_;clear H;intro b7 w H;refine J12 H ?_;clear H;intro b8 w H;refine J4 H ?_;clear H;intro w H;refine J4 H ?_;clear H;intro w H;refine U4r H ?_;refine J36 H ?_;refine U7t H ?_;clear H;intro w H;refine J2 H ?_;rw[Q1e (x:=((n:Nat):Int)+1) (by omega) (by omega),show ((n:Nat):Int)+1=((n+1:Nat):Int) by omega];replace H:=Js [7,4,4,4] 4 H;exact Q0g (Jz H (fun w' H' => .cellN H' rfl (by repeat first|exact .nil _|apply Q0o.cons rfl) (.tmp (.tmp .nil))) fun w' H'=>⟨rfl,H'.drop⟩)
end Go.Proofs.YtmjdnljneifpcaaGreatDoor
namespace Go.Proofs.YtmjdnljneifpcaaGreatDoor
open Go.SL
theorem Z6v [Q0i] (ip sp bp size:Nat) (ls:List Lay) (mem own:List Nat) (addr i c s n:Nat) (l:Lay) (hm:G4n i c s) (hl:ls[i - 1]? = some l) (hR:Q2y l) (hz:Q3q l c=(n,0)) (hf:addr+1+n≤mem.length) (ho:V2o size own addr (n+1)) {w:World} {fr:List Q0e} (H:Q0a w (IMG ip sp bp::Q5v bp ls::ST sp size mem own::fr)) :
  Calls Tryz.prog 92 #[pp ip,.int .i64 addr,hdv i c s] w (ret fun v w'=>v = .tuple #[.int .i64 ((n+1:Nat):Int),.int .i64 0]∧Q0a w' (IMG ip sp bp::Q5v bp ls::ST sp size (Q7v (mem.set addr (Y6z i c s)) (addr+1) n 0) own::fr)):=by
 have hml:=Z4u (H.pull 2);refine Q0c Tryz.func92 rfl (by kernel_rfl) ?_;refine J8 H ?_;clear H;intro b5 w H;refine U7i H ?_;refine J36 H ?_;refine Jc rfl rfl (Z1k i c s hm H) ?_;clear H;rintro v w ⟨rfl,H⟩;refine J38 H ?_;refine J42 H ?_;replace H:=Js [1,1,1,0] 0 H;refine Jc rfl rfl (Y2u ip sp bp ls i c s n l hm hl hR hz H) ?_;clear H;rintro v w ⟨vr,vq,rfl,H⟩;obtain⟨aa,ma,ca,rfl⟩:=Q1d H;obtain⟨ab,mb,cb,rfl⟩:=Q1d H.drop;refine U2m H ?_;refine J12 H ?_;clear H;intro b10 w H;refine J4 H ?_;clear H;intro w H;refine U4r H ?_;refine J29 H ?_;refine U2m H ?_;replace H:=Js [5,3,3] 4 H;rw[Q1e (x:=((n:Nat):Int)+1) (by omega) (by omega),show ((n:Nat):Int)+1=((n+1:Nat):Int) by omega];refine Jc rfl rfl (Y4z sp size mem own addr (n+1) (by omega) (by omega) ho H) ?_;clear H;rintro v w ⟨rfl,H⟩;refine J23 H ?_;refine J37 H ?_;refine Jc rfl rfl (V1r sp size mem own addr (Y6z i c s) (by omega) (ho.sub (Nat.le_refl _) (by omega) (by omega)) H) ?_;clear H;rintro v w ⟨rfl,H⟩;refine J62 H ?_;generalize hmm:mem.set addr (Y6z i c s)=m2 at H;have hm2:m2.length=mem.length:=by rw[← hmm,List.length_set]
 refine J43 H ?_;refine Q1l (fun ms σ w q=>ms=[]∧∃ j:Nat,j≤n∧q=n - j∧σ 0=pp ip∧σ 1 = .int .i64 addr∧σ 11 = .int .i64 n∧σ 53 = .int .i64 n∧σ 54 = .int .i64 j∧Q0a w (ST sp size (Q7v m2 (addr+1) j 0) own::IMG ip sp bp::Q5v bp ls::fr)) (m:=n) ⟨rfl,0,by omega,rfl,rfl,rfl,rfl,rfl,rfl,by rw[V4a];exact H⟩ ?_;clear H;rintro ms σ w q ⟨rfl,j,hj,rfl,g0,g1,g11,g53,g54,H⟩;rw[Q0b g0,Q0b g1,Q0b g11,Q0b g53,Q0b g54];refine J5 H ?_;refine Q2d rfl (fun h=>Q0w ?_) (fun h=>Q1n ?_)
 ·have hlt:j < n:=by omega
  refine J96 H ?_;refine J29 H ?_;refine U2m H ?_;rw[Q1e (x:=(addr:Int)+1) (by omega) (by omega),Q1e (x:=(addr:Int)+1+(j:Int)) (by omega) (by omega),show (addr:Int)+1+(j:Int)=((addr+1+j:Nat):Int) by omega];refine Jc rfl rfl (V1r sp size _ own (addr+1+j) 0 (by rw[Q0z (by omega)];omega) (ho.sub (by omega) (by omega) (by omega)) H) ?_;clear H;rintro v w ⟨rfl,H⟩;rw[Y7d (by omega)] at H;refine J62 H ?_;exact⟨_,⟨rfl,j+1,hlt,rfl,rfl,rfl,rfl,rfl,Q2a (by omega),H⟩,by omega⟩
 ·have hge:j=n:=by omega
  subst hge;refine U0f H ?_;rw[Q1e (x:=((j:Nat):Int)+1) (by omega) (by omega),show ((j:Nat):Int)+1=((j+1:Nat):Int) by omega];replace H:=Js [1,1,0] 0 H;exact Q0g (Jy H rfl fun w' H'=>⟨rfl,H'⟩)
end Go.Proofs.YtmjdnljneifpcaaGreatDoor
namespace Go.Proofs.YtmjdnljneifpcaaGreatDoor
open Go.SL
def Q1g (l:List Int):List Value:=l.map fun x=>Value.int .i64 x
theorem Q0r (l:List Int):(Q1g l).length=l.length*1:=by simp[Q1g]
theorem Q5i (a b:List Int):Q1g (a++b)=Q1g a++Q1g b:=by simp[Q1g]
theorem Q6q (l:List Nat):Q0u l=Q1g (l.map fun x:Nat=>(x:Int)):=by simp[Q0u,Q1g]
@[reducible] def IL (v:Value) (l:List Int):Q0e:=sls 3 1 v (Q1g l)
theorem V4i [Q0i] (v:Value) (l:List Int) (hl:l.length≤1000000) {w:World} {fr:List Q0e} (H:Q0a w (IL v l::fr)) :
  Calls Tryz.prog 53 #[v] w (ret fun x w'=>x = .tuple #[]∧Q0a w' (IL v (l.mergeSort fun x y=>decide (x≤y))::fr)):=by
 obtain⟨a,c,rfl⟩:=Q0j H (Q0r l) (by decide);have hlen:(l.mergeSort fun x y=>decide (x≤y)).length=l.length:=List.length_mergeSort l;by_cases h0:l=[]
 ·subst h0;refine(Any.slices_Sort_int_none Tryz.laysSort a c w).mono ?_;rintro e w' ⟨rfl,rfl⟩;rw[List.mergeSort_nil];exact⟨rfl,H⟩
 ·have hpos:0 < l.length:=List.length_pos_iff.2 h0;obtain⟨b,s,rfl,H,h1,h2,hclose⟩:=Q2n H hpos;have hb:=H.pts;refine(Any.slices_Sort_int Tryz.laysSort b 0 c l w (fun j hj=>⟨?_,Q7b hb⟩) H.fresh (by omega)).mono ?_
  ·refine Q4b hb ?_;have hj':j < l.length:=by simpa using hj
   rw[Nat.zero_add,List.getElem?_append_left (by simpa [Q1g] using hj')];simp[Q1g,hj']
  ·rintro e w' ⟨rfl,m,os,rfl⟩;refine⟨rfl,hclose _ _ (Q1g (l.mergeSort fun x y=>decide (x≤y))) (by rw[Q0r,Q0r,hlen]) ?_⟩;have e1:(Go.Sort.putRow (Value.int .i64) (Go.Sort.ahead w m) b 0 (l.mergeSort fun x y=>decide (x≤y)).toArray).heap=w.heap.modify b (Go.Sort.onCells (Go.Sort.putCells (Value.int .i64) 0 (l.mergeSort fun x y=>decide (x≤y)).toArray)):=rfl
   have H1:Q0a (Go.Sort.putRow (Value.int .i64) (Go.Sort.ahead w m) b 0 (l.mergeSort fun x y=>decide (x≤y)).toArray) (pts b (row 3 (Q1g (l.mergeSort fun x y=>decide (x≤y))++s))::fr):=by
    refine H.set ?_ ?_
    ·rw[e1,Array.getElem?_modify,if_pos rfl,hb];simp only[Option.map_some,row,Go.Sort.onCells];congr 2;apply Array.ext';apply List.ext_getElem?;intro t;simp only[Go.Sort.putCells,Array.getElem?_toList,Array.getElem?_mapIdx,List.getElem?_toArray,Nat.zero_le,true_and,Nat.zero_add,Nat.sub_zero,List.size_toArray];have l1:(Q1g l).length=l.length:=by simp[Q1g]
     have l2:(Q1g (l.mergeSort fun x y=>decide (x≤y))).length=l.length:=by simp[Q1g]
     by_cases ht:t < l.length
     ·rw[List.getElem?_append_left (by omega),List.getElem?_append_left (by omega)];have ht':t < (l.mergeSort fun x y=>decide (x≤y)).length:=by omega
      simp only[Q1g,List.getElem?_map,List.getElem?_eq_getElem ht,List.getElem?_eq_getElem ht',Option.map_some,if_pos ht'];rw[getElem!_pos _ t (by simpa using ht')];simp
     ·rw[List.getElem?_append_right (by omega),List.getElem?_append_right (by omega),l1,l2];have ht':¬ t < (l.mergeSort fun x y=>decide (x≤y)).length:=by omega
      cases s[t - l.length]? with
      | none=>rfl
      | some y=>simp;intro h;omega
    ·intro c hc;rw[e1,Array.getElem?_modify,if_neg (Ne.symm hc)]
   refine H1.up (fun c o hc=>?_) ⟨rfl,rfl⟩;show ((Go.Sort.putRow (Value.int .i64) (Go.Sort.ahead w m) b 0 (l.mergeSort fun x y=>decide (x≤y)).toArray).heap++os)[c]? = some o;have:=(Array.getElem?_eq_some_iff.1 hc).1;rw[Array.getElem?_append_left this];exact hc
theorem Z1q [Q0i] (a:Option Addr) (n c:Nat) (hn:n < 2) {w:World} {fr:List Q0e} (H:Q0a w fr) :
  Calls Tryz.prog 119 #[.slice a n c] w (ret fun x w'=>x = .slice a n c∧Q0a w' fr):=by
 refine Q0c Tryz.func119 rfl (by kernel_rfl) ?_;refine J63 H ?_;refine J57 H ?_;rw[show decide ((n:Int) < 2)=true from decide_eq_true (by omega)];refine J28 H ?_;exact Q0g (Jy H rfl fun w' H'=>⟨rfl,H'⟩)
theorem Z6w [Q0i] (v:Value) (l:List Nat) (x:Nat) (hl:l.length≤1000000) (b:Nat) {w:World} {fr:List Q0e} (H:Q0a w (NL v l::pts b (row 3 [.int .i64 x])::fr)) :
  Calls Tryz.prog 154 #[v,.int .i64 l.length,.slice (some ⟨b,0,none⟩) 1 1] w (ret fun v w'=>Q0a w' (NL v (l++[x])::fr)):=by
 obtain⟨a,c,rfl⟩:=Q0j H (Q0d l) (by decide);refine Q0c Tryz.func154 rfl (by kernel_rfl) ?_;refine J59 H ?_;refine Q0s rfl (Y4r rfl rfl (Nat.le_refl _) rfl fun v12=>?_);refine U4t H ?_;refine Q0s rfl (Q1z rfl rfl ?_);refine J23 H ?_;refine J77 H ?_;refine J11 H ?_;rw[show (((l.length:Nat):Int) == (l.length:Int))=true by simp];refine J13 H ?_;refine J6 H ?_;refine Q0s rfl (Q1t H rfl rfl (by repeat first|exact .nil _|apply Q0o.cons rfl) rfl (by decide) (by rw[Q0d];simp only[List.length_cons,List.length_nil];omega) rfl rfl ?_);clear H;intro v25 w H;obtain⟨a25,m25,c25,rfl⟩:=Q1d H;refine J0 H ?_;have e1:Q0u l++[.int .i64 x]=Q0u (l++[x]):=by rw[Q3s];rfl
 rw[e1] at H;exact Q0g (Jy (Q0a.drop H.swap) rfl fun w' H'=>H')
end Go.Proofs.YtmjdnljneifpcaaGreatDoor
namespace Go.Proofs.YtmjdnljneifpcaaGreatDoor
open Go.SL
def BAG (p:Nat) (l:List Nat):Q0e:=ex fun v:Value=>star [pts p (row 163 [v]),NL v l]
theorem V2t [Q0i] {w:World} {p:Nat} {l:List Nat} {fr:List Q0e} (H:Q0a w (BAG p l::fr)):∃ a c,Q0a w (pts p (row 163 [.slice a l.length c])::NL (.slice a l.length c) l::fr):=by
 obtain⟨v,H⟩:=Q0a.ex.1 H;have H:=Q0a.star.1 H;obtain⟨a,c,rfl⟩:=Q0j H.drop (Q0d l) (by decide);exact⟨a,c,H⟩
theorem V4j [Q0i] {w:World} {p:Nat} {l:List Nat} {v:Value} {fr:List Q0e} (H:Q0a w (pts p (row 163 [v])::NL v l::fr)):Q0a w (BAG p l::fr):=
 Q0a.ex.2 ⟨v,Q0a.star.2 H⟩
theorem V9k [Q0i] {w:World} {fr:List Q0e} (H:Q0a w fr):Calls Tryz.prog 56 #[.slice none 0 0] w (ret fun v w'=>∃ p,v=pp p∧Q0a w' (BAG p []::fr)):=by
 refine Q0c Tryz.func56 rfl (by kernel_rfl) ?_;refine J63 H ?_;refine Jc rfl rfl (Q9g (.slice none 0 0) [] (by simp) ⟨rfl,none,0,rfl,.inl rfl⟩ H) ?_;clear H;rintro v w H;obtain⟨a,c,rfl⟩:=Q0j H (Q0d []) (by decide);refine U6m H ?_;refine Jc rfl rfl (V4i _ [] (by simp) H) ?_;clear H;rintro v w ⟨rfl,H⟩;rw[List.mergeSort_nil] at H;refine U4t H ?_;refine Jc rfl rfl (Z1q a 0 c (by omega) H) ?_;clear H;rintro v w ⟨rfl,H⟩;refine J60 H ?_;clear H;intro b10 w H;refine J0 H ?_;exact Q0g (Jy H rfl fun w' H'=>⟨_,rfl,V4j (l:=[]) H'⟩)
theorem Z4v {l:List Nat} {x:Nat} (h:∀ a∈l,a < x):Y1d l x=l.length:=by
 unfold Y1d;rw[List.countP_eq_length];intro a ha;simpa using h a ha
theorem G1g [Q0i] (p:Nat) (l:List Nat) (x:Nat) (hs:l.Pairwise (· < ·)) (hl:l.length≤100000) (hx:∀ a∈l,a < x) {w:World} {fr:List Q0e} (H:Q0a w (BAG p l::fr)) :
  Calls Tryz.prog 93 #[pp p,.int .i64 x] w (ret fun v w'=>v = .bool true∧Q0a w' (BAG p (l++[x])::fr)):=by
 obtain⟨a,c,H⟩:=V2t H;have hn:x∉l:=fun h=>by have:=hx x h;omega
 refine Q0c Tryz.func93 rfl (by kernel_rfl) ?_;refine U0g H ?_;obtain⟨D1,H,hD1,hC1⟩:=sls_rd H.swap (Q0d _) (by decide);refine Jc rfl rfl (Q7e _ l (by omega) hs x (hD1 _) H) ?_;clear H;rintro v w ⟨rfl,H⟩;replace H:=hC1 _ _ H;rw[Z4v hx,decide_eq_false hn];refine J66 H ?_;refine J7 H ?_;refine Q1m (fun ms σ w=>ms=[]∧σ 6 = .bool false∧Q0a w (BAG p (l++[x])::fr)) ?_ ?_
 ·refine Q3g rfl ?_;refine U1x H ?_;refine J26 H ?_;refine J35 H ?_;clear H;intro b27 w H;replace H:=Js [1,0,0] 0 H;refine Jc rfl rfl (Z6w _ l x (by omega) _ H) ?_;clear H;intro v w H;obtain⟨a28,m28,c28,rfl⟩:=Q1d H;refine J40 H ?_;clear H;intro w H;refine Q0h ?_;exact⟨rfl,rfl,rfl,V4j H.swap⟩
 ·clear H;rintro ms σ w ⟨rfl,g6,H⟩;rw[Q0b g6];refine J11 H ?_;exact Q0g (Jy H rfl fun w' H'=>⟨rfl,H'⟩)
theorem G1h [Q0i] (p:Nat) (l:List Nat) (x:Nat) (hs:l.Pairwise (· < ·)) (hl:l.length≤100000) {w:World} {fr:List Q0e} (H:Q0a w (BAG p l::fr)) :
  Calls Tryz.prog 47 #[pp p,.int .i64 x] w (ret fun v w'=>v = .bool (decide (x∈l))∧Q0a w' (BAG p l::fr)):=by
 obtain⟨a,c,H⟩:=V2t H;refine Q0c Tryz.func47 rfl (by kernel_rfl) ?_;refine U0g H ?_;obtain⟨D1,H,hD1,hC1⟩:=sls_rd H.swap (Q0d _) (by decide);refine Jc rfl rfl (Q7e _ l (by omega) hs x (hD1 _) H) ?_;clear H;rintro v w ⟨rfl,H⟩;replace H:=hC1 _ _ H;refine J66 H ?_;exact Q0g (Jy (V4j H.swap) rfl fun w' H'=>⟨rfl,H'⟩)
end Go.Proofs.YtmjdnljneifpcaaGreatDoor
namespace Go.Proofs.YtmjdnljneifpcaaGreatDoor
open Go.SL
theorem G8t:∀ a b:Rf,kp a=kp b→a=b:=tkR.inj
def Q5z (l:List Rf):List Value:=l.flatMap fun r=>[.int .i64 r.1,.int .i64 r.2]
theorem Q5j (l:List Rf):(Q5z l).length=l.length*2:=by
 induction l with
 | nil=>rfl
 | cons r l ih=>simp only[Q5z,List.flatMap_cons,List.length_append,List.length_cons,List.length_nil] at ih ⊢;omega
theorem Y5g (a b:List Rf):Q5z (a++b)=Q5z a++Q5z b:=by simp[Q5z]
theorem Z6x [Q0i] (x:Option Nat) (m:List (Rf×Int)) {w:World} {fr:List Q0e} (H:Q0a w (mpv kp v1 (.map x) m::fr)) :
  Calls Tryz.prog 200 #[.map x] w
   (ret fun v w'=>∃ b,v = .func (.func 246) #[] #[pp b]∧Q0a w' (pts b (row 145 [.map x])::mpv kp v1 (.map x) m::fr)):=by
 refine Q0c Tryz.func200 rfl (by kernel_rfl) ?_;refine J30 H ?_;clear H;intro b1 w H;refine J22 H ?_;refine Q0g (Jy H rfl fun w' H'=>⟨b1,rfl,H'⟩)
theorem Q3e {α:Type}:∀ {l₁ l₂:List α},l₁.Nodup→(∀ z∈l₁,z∈l₂)→l₁.length≤l₂.length
 | [],_,_,_=>Nat.zero_le _
 | c::l,l₂,hn,hs=>by
  obtain⟨s,t,rfl⟩:=List.append_of_mem (hs c (by simp));have h:=List.nodup_cons.1 hn
  have:=Q3e (l₂:=s++t) h.2 (fun z hz=>by
   have h1:=hs z (by simp[hz]);have h2:z≠c:=fun e=>h.1 (e▸hz);simp[h2] at h1;simpa using h1)
  simp at this ⊢;omega
theorem G5s [Q0i] (yl b:Nat) (x:Option Nat) (m:List (Rf×Int)) (J:List Rf→Q0e)
  (hy:∀ ks r rest w,ks.length < m.length→Q0a w (J ks::rest)→SL.Yields Tryz.prog yl #[rf r] w (fun v w'=>v = .bool true∧Q0a w' (J (ks++[r])::rest)))
  {w:World} {fr:List Q0e} (H:Q0a w (J []::pts b (row 145 [.map x])::mpv kp v1 (.map x) m::fr)) :
  Calls Tryz.prog 246 #[.func (.yield yl) #[] #[],pp b] w
   (ret fun _ w'=>∃ ks,ks.Perm (m.map (·.1))∧Q0a w' (J ks::mpv kp v1 (.map x) m::fr)):=by
 refine Q0c Tryz.func246 rfl (by kernel_rfl) ?_;refine J50 H ?_;replace H:=Js [2,0,0] 0 H;refine Q0s rfl (Y4k kp v1 H rfl rfl ?_);clear H;intro bi w H;refine Q0h ?_;refine Q0t ?_;refine Q1l (fun ms σ w n=>ms=[]∧∃ ks:List Rf,σ 0 = .func (.yield yl) #[] #[]∧σ 5=pp bi∧n=m.length - ks.length∧Q0a w (mit kp v1 (.map x) m bi ks::J ks::pts b (row 145 [.map x])::fr)) (m:=m.length) ⟨rfl,[],rfl,rfl,rfl,H⟩ ?_;clear H w;rintro ms σ w n ⟨rfl,ks,h0,h5,rfl,H⟩;rw[Q0b h0,Q0b h5];refine J39 H ?_;refine Q0s rfl (Z1b H G8t rfl rfl (fun hp w H=>?_) (fun q hq hn hnd hsub w H=>?_))
 ·refine J18 H ?_;refine J91 H ?_;replace H:=Z1a H;replace H:=Js [1,0] 1 H;exact Q2w _ (.inl rfl) H rfl fun w' H'=>⟨ks,hp,H'⟩
 ·have hlt:ks.length < m.length:=by
   have h1:(ks++[q.1]).Nodup:=by
    rw[List.nodup_append];exact⟨hnd,by simp,fun c hc c' hc' e0=>by simp at hc';subst hc';subst e0;exact hn hc⟩
   have h2:=Q3e h1 (l₂:=m.map (·.1)) (fun z hz=>by
    rcases List.mem_append.1 hz with hz|hz
    ·exact hsub z hz
    ·simp at hz;subst hz;exact List.mem_map_of_mem hq)
   simp at h2;omega
  refine J18 H ?_;refine J74 H ?_;refine Q0t ?_;refine J39 H ?_;refine Q0s rfl (Y4l H G8t hq rfl rfl ?_);refine Jv ?_;refine J12 H ?_;clear H;intro b3 w H;refine J4 H ?_;clear H;intro w H;refine Q0h ?_;refine J42 H ?_;replace H:=Js [2,0,0,0] 0 H;refine Q0s rfl (V1n rfl rfl (SL.Yields.mono (hy ks q.1 _ _ hlt H) ?_));clear H;rintro v w ⟨rfl,H⟩;refine J17 H ?_;replace H:=Js [2,0,1] 1 H;exact⟨_,⟨rfl,ks++[q.1],rfl,rfl,rfl,H⟩,by simp;omega⟩
def CJ (L:Q0e) (b2:Nat) (ks:List Rf):Q0e:=ex fun v:Value=>star [sls 133 2 v (Q5z ks),L,pts b2 (row 130 [v])]
theorem G8u [Q0i] {w:World} {L:Q0e} {b2:Nat} {ks:List Rf} {l:List Q0e} (H:Q0a w (CJ L b2 ks::l)):∃ v,Q0a w (sls 133 2 v (Q5z ks)::L::pts b2 (row 130 [v])::l):=by
 obtain⟨v,H⟩:=Q0a.ex.1 H;exact⟨v,Q0a.star.1 H⟩
theorem U5h [Q0i] {w:World} {L:Q0e} {b2:Nat} {ks:List Rf} {l:List Q0e} {v:Value} (H:Q0a w (sls 133 2 v (Q5z ks)::L::pts b2 (row 130 [v])::l)):Q0a w (CJ L b2 ks::l):=
 Q0a.ex.2 ⟨v,Q0a.star.2 H⟩
theorem V5t [Q0i] {w:World} {E k:Nat} {v:Value} {c:List Value} {l:List Q0e} (H:Q0a w (sls E k v c::l)):v.oneCell'=true:=by
 rcases Q4n H with ⟨rfl,_⟩|⟨_,_,_,_,rfl,_⟩ <;> rfl
theorem V9l [Q0i] (b:Nat) (x:Option Nat) (m:List (Rf×Int)) (hm:m.length≤1000000) {w:World} {fr:List Q0e} (H:Q0a w (pts b (row 145 [.map x])::mpv kp v1 (.map x) m::fr)) :
  Calls Tryz.prog 258 #[.slice none 0 0,.func (.func 246) #[] #[pp b]] w
   (ret fun v w'=>∃ ks,ks.Perm (m.map (·.1))∧Q0a w' (sls 133 2 v (Q5z ks)::mpv kp v1 (.map x) m::fr)):=by
 refine Q0c Tryz.func258 rfl (by kernel_rfl) ?_;refine J30 H ?_;clear H;intro b2 w H;refine U3u H ?_;refine Q0t (Q5a (a:=[]) (b:=[pp b]) H rfl (fun yl D w H=>?_));generalize hL:LR _ yl _ _ _ _ D .ready=L at H ⊢;replace H:=Q3x (E:=133) (k:=2) H;replace H:=Js [0,0,1,1,1,0] 0 H;refine call (G5s yl b x m (CJ L b2) ?_ (U5h (ks:=[]) H)) ?_
 ·intro ks r rest w hlt H;obtain⟨a,c⟩:=r;obtain⟨v,H⟩:=G8u H;have h1:=V5t H;subst hL;replace H:=Js [1,0,0] 0 H;refine Q7o (args:=[rf (a,c)]) H rfl rfl ?_;refine J24 H ?_;clear H;intro b5 w H;refine J4 H ?_;clear H;intro w H;refine Q0h ?_;replace H:=Js [1,1,0,0] 0 H;refine⟨rfl,_,H,fun w H=>Q0t ?_⟩
  repeat refine Q0m ?_
  refine Q0f ?_;refine Q0s rfl (Q0l H rfl rfl rfl ?_);refine Q0s rfl (Q1j H rfl (by repeat first|exact .nil _|apply Q0o.cons rfl) rfl ?_);refine J35 H ?_;clear H;intro b10 w H;replace H:=Js [2,0,0,0,0] 0 H;refine Q0s rfl (Q1t H rfl rfl (by repeat first|exact .nil _|apply Q0o.cons rfl) rfl (by decide) (by simp only[Q5j,List.length_cons,List.length_nil];omega) rfl rfl ?_);clear H;intro v11 w H;obtain⟨a11,c11,rfl⟩:=Q0j (m:=ks.length+1) H (by simp[Q5j];omega) (by decide);refine Q0s rfl (Q2e H rfl rfl inferInstance (V5t H) (Nat.le_of_ble_eq_true rfl) rfl ?_);clear H;intro w H;refine Q0h ?_;replace H:=Js [2,0,2] 2 H;refine⟨rfl,_,H,fun w H=>⟨rfl,U5h (v := .slice a11 (ks.length+1) c11) ?_⟩⟩;replace H:=Js [1,0,0] 0 H;rw[Y5g];exact H
 ·rintro v w' ⟨ks,hp,H⟩;obtain⟨v2,H⟩:=G8u H;have h1:=V5t H;subst hL;replace H:=Js [1,0,0,0,0] 0 H;refine⟨_,H,fun w H=>?_⟩;refine J50 H ?_;refine J52 H ?_;replace H:=Js [3,0,1] 1 H;exact Q0g (V8k (ms:=[D]) _ (.inr rfl) ((Q0a.star (k:=[pts D (.deferred (some []))])).2 H) rfl fun w' H'=>⟨ks,hp,H'⟩)
theorem Y5h [Q0i] (b:Nat) (x:Option Nat) (m:List (Rf×Int)) (hm:m.length≤1000000) {w:World} {fr:List Q0e} (H:Q0a w (pts b (row 145 [.map x])::mpv kp v1 (.map x) m::fr)) :
  Calls Tryz.prog 244 #[.func (.func 246) #[] #[pp b]] w
   (ret fun v w'=>∃ ks,ks.Perm (m.map (·.1))∧Q0a w' (sls 133 2 v (Q5z ks)::mpv kp v1 (.map x) m::fr)):=by
 refine Q0c Tryz.func244 rfl (by kernel_rfl) ?_;refine J63 H ?_;refine Jc rfl rfl (V9l b x m hm H) ?_;rintro v w ⟨ks,hp,H⟩;refine J52 H ?_;exact Q0g (Jy H rfl fun w' H'=>⟨ks,hp,H'⟩)
end Go.Proofs.YtmjdnljneifpcaaGreatDoor
namespace Go.Proofs.YtmjdnljneifpcaaGreatDoor
open Go.SL
theorem V9m [Q0i] (a:Int) (w:World):Calls Tryz.prog 237 #[.int .i64 a] w (ret fun v w'=>v = .bool false∧w'=w):=by
 refine Q0c Tryz.func237 rfl (by kernel_rfl) ?_
 repeat refine Q0m ?_
 refine Q0f ?_;refine Jv ?_;refine Q0h ?_
 repeat refine Q0m ?_
 refine Q0f ?_;refine Jv ?_;refine Jv ?_;refine Jv ?_;refine Jv ?_;refine Q0h ?_;exact Q0g (Q9w (.inr rfl) rfl ⟨by show Value.bool (a != a)=_;simp,rfl⟩)
def G5t (a b:Int):Int:=if a < b then -1 else if b < a then 1 else 0
theorem V4k [Q0i] (a b:Int) (w:World):Calls Tryz.prog 203 #[.int .i64 a,.int .i64 b] w (ret fun v w'=>v = .int .i64 (G5t a b)∧w'=w):=by
 refine Q0c Tryz.func203 rfl (by kernel_rfl) ?_
 repeat refine Q0m ?_
 refine Q0f ?_;refine Jv ?_;refine Q0h ?_
 repeat refine Q0m ?_
 refine Q0f ?_;refine Jv ?_;refine Jc rfl rfl (V9m a _) ?_;rintro v w' ⟨rfl,rfl⟩;refine Jv ?_;refine Q0h ?_
 repeat refine Q0m ?_
 refine Q0f ?_;refine Jv ?_;refine Jc rfl rfl (V9m b _) ?_;rintro v w' ⟨rfl,rfl⟩;refine Jv ?_;refine Q0h ?_
 repeat refine Q0m ?_
 refine Q0f ?_;refine Jv ?_;refine Q0h ?_
 repeat refine Q0m ?_
 refine Q1y rfl (Q0w ?_)
 repeat refine Q0m ?_
 refine Q0f ?_;refine Jv ?_;refine Q0h ?_
 repeat refine Q0m ?_
 refine Q1y rfl (Q0w ?_)
 repeat refine Q0m ?_
 refine Q0f ?_;refine Jv ?_;refine Jv ?_;refine Jv ?_;refine Q0h ?_
 repeat refine Q0m ?_
 refine Q2d rfl (fun h=>?_) (fun h=>Q0w ?_)
 ·repeat refine Q0m ?_
  refine Q0f ?_;refine Jv ?_;refine Q0h ?_;exact Q0g (Q9w (.inr rfl) rfl ⟨by show Value.int .i64 (-1)=_;simp[G5t,h],rfl⟩)
 ·repeat refine Q0m ?_
  refine Q0f ?_;refine Jv ?_;refine Jv ?_;refine Jv ?_;refine Q0h ?_
  repeat refine Q0m ?_
  refine Q2d rfl (fun h2=>?_) (fun h2=>Q0w ?_)
  ·repeat refine Q0m ?_
   refine Q0f ?_;refine Jv ?_;refine Q0h ?_;exact Q0g (Q9w (.inr rfl) rfl ⟨by have:b < a:=h2;show Value.int .i64 1=_;simp[G5t,h,this],rfl⟩)
  ·repeat refine Q0m ?_
   refine Q0f ?_;refine Jv ?_;refine Q0h ?_;exact Q0g (Q9w (.inr rfl) rfl ⟨by have:¬ b < a:=h2;show Value.int .i64 0=_;simp[G5t,h,this],rfl⟩)
def orI (x y:Int):Int:=if x=0 then y else x
theorem G5u [Q0i] (b:Nat) (x y:Int) {w:World} {fr:List Q0e} (H:Q0a w (pts b (row 3 [.int .i64 x,.int .i64 y])::fr)) :
  Calls Tryz.prog 202 #[.slice (some ⟨b,0,none⟩) 2 2] w (ret fun v w'=>v = .int .i64 (orI x y)∧w'=w):=by
 refine Q0c Tryz.func202 rfl (by kernel_rfl) ?_;refine J14 H ?_;refine J63 H ?_;refine U2n H ?_;refine J43 H ?_;refine Q1l (fun ms σ w' n=>ms=[]∧w'=w∧∃ i:Nat,i≤2∧n=2 - i∧σ 6 = .slice (some ⟨b,0,none⟩) 2 2∧σ 7 = .int .i64 2∧σ 8 = .int .i64 i∧σ 3 = .int .i64 0∧(1≤i→x=0)∧(2≤i→y=0)) (m:=2) ⟨rfl,rfl,0,by omega,rfl,rfl,rfl,rfl,rfl,by omega,by omega⟩ ?_;rintro ms σ w' n ⟨rfl,rfl,i,hi,rfl,h6,h7,h8,h3,hx,hy⟩;rw[Q0b h6,Q0b h7,Q0b h8,Q0b h3];have h012:i=0∨i=1∨i=2:=by omega
 rcases h012 with rfl|rfl|rfl
 ·refine J5 H ?_;refine J74 H ?_;refine J19 H ?_;refine Q0s rfl (Q2k rfl rfl (by decide) (by decide) rfl ?_);refine J86 H ?_;refine J0 H ?_;refine U4h H ?_;refine V8i rfl (fun ht=>?_) (fun ht=>Q0w ?_)
  ·have hx0:x≠0:=by simpa using ht
   refine J3 H ?_;exact Q0g (Q9w (.inr rfl) rfl ⟨by show Value.int .i64 x=_;simp[orI,hx0],rfl⟩)
  ·have hx0:x=0:=by simpa using ht
   refine J3 H ?_;exact⟨_,⟨rfl,rfl,1,by omega,rfl,rfl,rfl,rfl,rfl,by omega,by omega⟩,by omega⟩
 ·refine J5 H ?_;refine J74 H ?_;refine J19 H ?_;refine Q0s rfl (Q2k rfl rfl (by decide) (by decide) rfl ?_);refine J86 H ?_;refine J0 H ?_;refine U4h H ?_;refine V8i rfl (fun ht=>?_) (fun ht=>Q0w ?_)
  ·have hx0:y≠0:=by simpa using ht
   refine J3 H ?_;exact Q0g (Q9w (.inr rfl) rfl ⟨by show Value.int .i64 y=_;simp[orI,hx (by omega)],rfl⟩)
  ·have hx0:y=0:=by simpa using ht
   refine J3 H ?_;exact⟨_,⟨rfl,rfl,2,by omega,rfl,rfl,rfl,rfl,rfl,by omega,by omega⟩,by omega⟩
 ·refine J5 H ?_;refine J91 H ?_;refine J3 H ?_;exact Q0g (Q9w (.inr rfl) rfl ⟨by show Value.int .i64 0=_;simp[orI,hx (by omega),hy (by omega)],rfl⟩)
def U2z (x y:Rf):Int:=orI (G5t x.1 y.1) (G5t x.2 y.2)
open Go.Sort in
theorem G1i (x y:Rf) (w:World):Calls Tryz.prog 201 #[rf x,rf y] w (ret fun v w'=>v = .int .i64 (U2z x y)∧∃ q os',w'=grow (w.drewN q) os'):=by
 obtain⟨a,b⟩:=x;obtain⟨c,d⟩:=y;letI:Q0i:=⟨w.os,w.output⟩;have H:Q0a w []:=Q0a.nil w ⟨rfl,rfl⟩;refine Q0c Tryz.func201 rfl (by kernel_rfl) ?_
 repeat refine Q0m ?_
 refine Q0f ?_;refine Q0s rfl (Z4c H rfl rfl ?_);clear H;intro b2 w1 e1 H;refine Q0s rfl (Z4c H rfl rfl ?_);clear H;intro b3 w2 e2 H;refine Jv ?_;refine Q0h ?_
 repeat refine Q0m ?_
 refine G9i H mixed ?_;clear H;intro w3 e3 H;refine Jf 0 ?_;refine Jl 1 [4,9,10,11] H ?_;refine Jf 2 ?_;refine Jl 3 [4,9,10,11] H ?_;refine Jf 5 ?_;refine Jl 6 [9,10,11] H ?_;refine Jf 7 ?_;refine Jl 8 [9,10,11] H ?_;refine Jo 4 H ?_;refine Jk rfl rfl (V4k a c _) ?_;rintro v w' ⟨rfl,rfl⟩;refine Jo 9 H ?_;refine Jk rfl rfl (V4k b d _) ?_;rintro v w' ⟨rfl,rfl⟩;refine Jo 10 H ?_;refine Y1i H rfl rfl rfl ?_;clear H;intro b15 w5 e5 H;refine Jo 11 H ?_;refine Jk rfl rfl (G5u b15 (G5t a c) (G5t b d) H) ?_;rintro v w' ⟨rfl,rfl⟩;refine Ja 12 ?_;refine Jx H ?_
 have key:∃ q os',w'=grow (w.drewN q) os':=by
  rw[e5,e3,e2,e1];simp only[alloc_eq_grow]
  exact⟨1,_,by
   show grow (grow (grow (w.drewN 1) _) _) _=_;rw[grow_grow,grow_grow]⟩
 exact Q0g (Q9w (.inr rfl) rfl ⟨rfl,key⟩)
def ltR (x y:Rf):Prop:=x.1 < y.1∨x.1=y.1∧x.2 < y.2
instance (x y:Rf):Decidable (ltR x y):=by unfold ltR;exact inferInstance
theorem G5v (x y:Rf):U2z x y < 0↔ltR x y:=by
 unfold U2z orI G5t ltR;constructor
 ·intro h
  repeat' split at h
  all_goals omega
 ·intro h
  repeat' split
  all_goals omega
open Go.Sort in
theorem V4l (x y:Rf):ltOf U2z x y=decide (ltR x y):=by
 unfold ltOf;rw[Bool.eq_iff_iff];simp[G5v]
open Go.Sort in
theorem X0d:SWO (ltOf U2z) where
 irrefl x:=by rw[V4l];simp[ltR]
 trans x y z h1 h2:=by
  rw[V4l] at h1 h2 ⊢;have h1:ltR x y:=of_decide_eq_true h1;have h2:ltR y z:=of_decide_eq_true h2;have h3:ltR x z:=by unfold ltR at *;omega
  exact decide_eq_true h3
 ntrans x y z h1 h2:=by
  rw[V4l] at h1 h2 ⊢;have h1:¬ ltR x y:=of_decide_eq_false h1;have h2:¬ ltR y z:=of_decide_eq_false h2;have h3:¬ ltR x z:=by unfold ltR at *;omega
  exact decide_eq_false h3
def U8q (r:Rf):List Value:=[.int .i64 r.1,.int .i64 r.2]
theorem G1j (l:List Rf):Q5z l=l.flatMap U8q:=rfl
def Y7s (l:List Rf):Prop:=l.Pairwise ltR
theorem V7l [Q0i] (b:Nat) (x:Option Nat) (m:List (Rf×Int)) (hm:m.length≤1000000) (hn:(m.map (·.1)).Nodup) {w:World} {fr:List Q0e} (H:Q0a w (pts b (row 145 [.map x])::mpv kp v1 (.map x) m::fr)) :
  Calls Tryz.prog 199 #[.func (.func 246) #[] #[pp b],.func (.func 201) #[] #[]] w
   (ret fun v w'=>∃ ks,ks.Perm (m.map (·.1))∧Y7s ks∧Q0a w' (sls 133 2 v (Q5z ks)::mpv kp v1 (.map x) m::fr)):=by
 refine Q0c Tryz.func199 rfl (by kernel_rfl) ?_;refine J63 H ?_;refine Jc rfl rfl (Y5h b x m hm H) ?_;rintro v w ⟨ks,hp,H⟩;refine J52 H ?_;refine J39 H ?_;refine V8p rfl rfl ?_;refine Jv ?_
 have hs:=Y4u (k:=2) (enc:=U8q) Tryz.sortRef (t:=133) rfl inferInstance (by decide) (fun _=>rfl) (fun x v hv=>by simp[U8q] at hv;rcases hv with rfl|rfl <;> rfl) U2z X0d (g:=201) inferInstance (fun x y W=>(G1i x y W).mono fun e w' h=>by
  cases e with
  | returned v=>exact⟨by rw[h.1],h.2⟩
  | panicked c=>exact h.elim
  | outgrown=>exact h.elim) H (by have:=hp.length_eq;simp at this;omega)
 refine Jc rfl rfl (hs) ?_;rintro v2 w ⟨ks2,hp2,hs2,H⟩;refine Q0h ?_;refine J39 H ?_;refine V8p rfl rfl ?_;refine J52 H ?_;have hp3:=hp2.trans hp;refine Q0g (Jy H rfl fun w' H'=>⟨ks2,hp3,?_,H'⟩);have hnd:ks2.Nodup:=hp3.nodup_iff.2 hn;refine(hs2.and hnd).imp ?_;rintro a b ⟨h1,h2⟩;rw[V4l] at h1;have h3:¬ ltR b a:=of_decide_eq_false h1;unfold ltR at h3 ⊢;have h4:¬ (a.1=b.1∧a.2=b.2):=fun e=>h2 (Prod.ext e.1 e.2);omega
theorem V0e [Q0i] (x:Option Nat) (m:List (Rf×Int)) (hm:m.length≤1000000) (hn:(m.map (·.1)).Nodup) {w:World} {fr:List Q0e} (H:Q0a w (mpv kp v1 (.map x) m::fr)) :
  Calls Tryz.prog 122 #[.map x] w
   (ret fun v w'=>∃ ks,ks.Perm (m.map (·.1))∧Y7s ks∧Q0a w' (sls 133 2 v (Q5z ks)::mpv kp v1 (.map x) m::fr)):=by
 refine Q0c Tryz.func122 rfl (by kernel_rfl) ?_;refine J63 H ?_;refine Jc rfl rfl (Z6x x m H) ?_;rintro v w ⟨b,rfl,H⟩
 refine Jc rfl rfl (V7l b x m hm hn H) ?_;rintro v w ⟨ks,hp,hs,H⟩;refine J52 H ?_;exact Q0g (Jy H rfl fun w' H'=>⟨ks,hp,hs,H'⟩)
end Go.Proofs.YtmjdnljneifpcaaGreatDoor
namespace Go.Proofs.YtmjdnljneifpcaaGreatDoor
open Go.SL
theorem Z4w {g1 g2:List Gr} {g:Gr} (hn:((g1++g::g2).map (·.key)).Nodup) {r:Rf}:mem (g1++g::g2) g.key r↔r∈g.m.map (·.1):=by
 rw[V2s];exact⟨fun h=>h.elim (·.2) fun h=>absurd (V1b h) (V4c hn),fun h => .inl ⟨rfl,h⟩⟩
theorem Y5i [Q0i] {w:World} {K V:Type} {ek:K→Value} {vv:V→Value} {b:Nat} {m:List (K×V)} {l:List Q0e} (H:Q0a w (mpv ek vv (.map (some b)) m::l)):Q0a w (mp ek vv b m::l):=H.head fun h hm=>by
 rcases hm with ⟨h,_⟩|⟨b',h,hm⟩
 ·cases h
 ·cases h;exact hm
theorem Q4l {K V:Type} [DecidableEq K] {m:List (K×V)} {x:K} (h:(fnd m x).isSome=true):x∈m.map (·.1):=by
 cases hf:fnd m x with
 | none=>rw[hf] at h;cases h
 | some v=>exact List.mem_map_of_mem (f:=(·.1)) (Q7d hf)
theorem Z6y [Q0i] (p:Nat) (m:List (Rf×Int)) (hm:m.length≤1000000) (t:Int) {w:World} {fr:List Q0e} (H:Q0a w (RS p m::fr)) :
  Calls Tryz.prog 209 #[pp p,.int .i64 t] w (ret fun v w'=>∃ ks,(∀ r,r∈ks↔(r.1=t∧(fnd m r).isSome=true))∧Y7s ks∧Q0a w' (sls 133 2 v (Q5z ks)::RS p m::fr)):=by
 refine Q0c Tryz.func209 rfl (by kernel_rfl) ?_;obtain⟨bt,bo,bf,H⟩:=Y2o H;refine U0g H ?_;replace H:=Js [3,0,0,0] 0 H;obtain⟨G,hG,H⟩:=Y5d H;refine Q0s rfl (Q3m (key:=t) H rfl rfl tkI rfl ?_);have hn0:=Q5h bf H;have hn:(G.map (·.key)).Nodup:=by rw[← V0c];exact hn0
 cases hf:fnd (G.map gkb) t with
 | none=>
  replace H:=G0b kp v1 H;refine Jc rfl rfl (V0e none [] (by simp) (by simp) H) ?_;rintro v w ⟨ks,hp,hs,H⟩;refine J52 H ?_;have hks:ks=[]:=by simpa using hp
  subst hks;replace H:=Js [2,2,2,2,2,0] 1 H;replace H:=V2f G hG H;replace H:=Js [1,1,1,0,0] 0 H;replace H:=Y7n bt bo bf (fun _ _=>Iff.rfl) (fun _ _=>Iff.rfl) H;refine Q0g (Jy H.swap rfl fun w' H'=>⟨[],fun r=>?_,hs,H'⟩);have h1:=Q6f.1 hf;rw[V0c] at h1;exact⟨fun h=>by simp at h,fun h=>absurd (V1b ((hG t r).2 h)) h1⟩
 | some bi=>
  obtain⟨g,g1,g2,rfl,rfl,rfl⟩:=V7x hf;have H:=(Q0a.pick rfl).1 H.swap;have hi:=Q5h g.blk H
  have hlen:g.m.length≤1000000:=by
   have:=Q3e hi (l₂:=m.map (·.1)) (fun r hr=>by
    have:=(hG g.key r).1 ((Z4w hn).2 hr);exact Q4l this.2)
   simp at this;omega
  replace H:=Z4e H;refine Jc rfl rfl (V0e (some g.blk) g.m hlen hi H) ?_;rintro v w ⟨ks,hp,hs,H⟩;refine J52 H ?_;replace H:=Y5i H.swap;replace H:=Js [0,1,0,0,0,0,0] 0 H;replace H:=(Q0a.pick (R:=Y7k) (gs:=g1++g::g2) rfl).2 H;replace H:=Js [2,0,1,1,1,0] 0 H;replace H:=V2f (g1++g::g2) hG H;replace H:=Js [1,1,1,0,0] 0 H;replace H:=Y7n bt bo bf (fun _ _=>Iff.rfl) (fun _ _=>Iff.rfl) H;refine Q0g (Jy H.swap rfl fun w' H'=>⟨ks,fun r=>?_,hs,H'⟩);rw[hp.mem_iff,← hG,Z4w hn]
theorem V6y {ks:List Rf} {spare:List Value} {i:Nat} {r:Rf} (h:ks[i]? = some r):Q0o (Q5z ks++spare) (0+i*2) 2 [.int .i64 r.1,.int .i64 r.2]:=by
 have hl:=Q5j ks;have hi:=(List.getElem?_eq_some_iff.1 h).1;have g:∀ t,(Q5z ks)[t]? = (ks[t / 2]?).bind fun x=>(U8q x)[t % 2]? := fun t=>by rw[G1j];exact V2k (k:=2) (fun _=>rfl) (by decide) ks t
 refine .cons ?_ (.cons ?_ (.nil _))
 ·rw[List.getElem?_append_left (by omega),g,show (0+i*2) / 2=i by omega,show (0+i*2) % 2=0 by omega,h];rfl
 ·rw[List.getElem?_append_left (by omega),g,show (0+i*2+1) / 2=i by omega,show (0+i*2+1) % 2=1 by omega,h];rfl
theorem Z6z {ks:List Rf} (h:Q5z ks=[]):ks=[]:=by
 have:=Q5j ks;rw[h] at this;exact List.eq_nil_of_length_eq_zero (by simp at this;omega)
theorem Q8p:∀ (ks:List Rf) {m:List (Rf×Int)},(m.map (·.1)).Nodup→((ks.foldl era m).map (·.1)).Nodup
 | [],_,h=>h
 | k::ks,_,h=>Q8p ks (Q4y h)
theorem Y7t [Q0i] (p:Nat) (m:List (Rf×Int)) (hn:(m.map (·.1)).Nodup) (hm:m.length≤1000000) (t:Int) {w:World} {fr:List Q0e} (H:Q0a w (RS p m::fr)) :
  Calls Tryz.prog 128 #[pp p,.int .i64 t] w (ret fun v w'=>∃ ks,(∀ r,r∈ks↔(r.1=t∧(fnd m r).isSome=true))∧Y7s ks∧v = .int .i64 ks.length∧Q0a w' (RS p (ks.foldl era m)::fr)):=by
 refine Q0c Tryz.func128 rfl (by kernel_rfl) ?_;refine J59 H ?_;refine Jc rfl rfl (Z6y p m hm t H) ?_;rintro v w ⟨ks,hks,hs,H⟩;refine J52 H ?_
 have hlen:ks.length≤1000000:=by
  have hnd:ks.Nodup:=hs.imp fun {a b} h e=>by subst e;unfold ltR at h;omega
  have:=Q3e hnd (l₂:=m.map (·.1)) fun r hr=>Q4l ((hks r).1 hr).2;simp at this;omega
 rcases Q4n H with ⟨rfl,h0,H2⟩|⟨b,len,cap,spare,rfl,e3,e4,e5,H2⟩ <;> replace H:=H2 <;> clear H2
 ·have:=Z6z h0;subst this
  repeat refine Q0m ?_
  refine Q0f ?_;refine Jv ?_;refine Q0s rfl (Q1z rfl rfl ?_);refine Jv ?_;refine Q0h ?_
  repeat refine Q0m ?_
  refine Q0t ?_;refine Q1l (fun ms σ w n=>ms=[]∧σ 12 = .int .i64 0∧σ 13 = .int .i64 0∧σ 5 = .slice none 0 0∧Q0a w (RS p m::fr)) (m:=1) ⟨rfl,rfl,rfl,rfl,H⟩ ?_;clear H;rintro ms σ w n ⟨rfl,h12,h13,h5,H⟩;rw[Q0b h12,Q0b h13,Q0b h5];refine J5 H ?_;refine J91 H ?_;refine J77 H ?_;exact Q0g (Jy H rfl fun w' H'=>⟨[],hks,hs,rfl,H'⟩)
 ·have hl2:len=ks.length:=by rw[Q5j] at e3;omega
  subst hl2;refine J20 H ?_;refine J97 H ?_
  refine Q1l (fun ms σ w n=>ms=[]∧∃ i:Nat,i≤ks.length∧n=ks.length - i∧σ 0=pp p∧σ 11 = .slice (some ⟨b,0,none⟩) ks.length cap∧σ 12 = .int .i64 ks.length∧σ 13 = .int .i64 i∧σ 5 = .slice (some ⟨b,0,none⟩) ks.length cap ∧
   Q0a w (RS p ((ks.take i).foldl era m)::pts b (row 133 (Q5z ks++spare))::fr)) (m:=ks.length) ⟨rfl,0,by omega,rfl,rfl,rfl,rfl,rfl,rfl,H.swap⟩ ?_
  clear H;rintro ms σ w n ⟨rfl,i,hi,rfl,h0,h11,h12,h13,h5,H⟩;rw[Q0b h0,Q0b h11,Q0b h12,Q0b h13,Q0b h5];refine J5 H ?_;refine Q2d rfl (fun h=>Q0w ?_) (fun h=>Q1n ?_)
  ·have hlt:i < ks.length:=by omega
   have hr:=List.getElem?_eq_getElem hlt;generalize ks[i]=r at hr;obtain⟨a,c⟩:=r;refine J19 H ?_;refine Jd ?_;refine Q0s rfl (Q1j H rfl (V6y hr) rfl ?_);refine J12 H ?_;clear H;intro b7 w H;refine J4 H ?_;clear H;intro w H;refine Q0h ?_;refine J42 H ?_;replace H:=Js [1,1] 1 H;refine Jc rfl rfl (V1c p _ (Q8p _ hn) (a,c) H) ?_;clear H;rintro v w ⟨rfl,H⟩;refine J62 H ?_;refine⟨_,⟨rfl,i+1,hlt,rfl,rfl,rfl,rfl,Q2a (by omega),rfl,?_⟩,by omega⟩;rw[List.take_add_one,hr];simpa using H
  ·have hge:i=ks.length:=by omega
   subst hge;refine J77 H ?_;rw[List.take_length] at H;exact Q0g (Jy H.swap.drop rfl fun w' H'=>⟨ks,hks,hs,rfl,H'⟩)
end Go.Proofs.YtmjdnljneifpcaaGreatDoor
