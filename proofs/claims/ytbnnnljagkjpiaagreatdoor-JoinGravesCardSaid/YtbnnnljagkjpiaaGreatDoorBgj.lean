/- Cells: what is proved on the way: every input of the statement; no condition. Texts joined: CelR BumA ImgA ImgB ImgC ImgD. -/
import Derived.Test.YtbnnnljagkjpiaaGreatDoorBgi
import Derived.Test.YtbnnnljagkjpiaaGreatDoorBgf
set_option linter.unusedVariables false
set_option linter.unusedSimpArgs false
namespace Go.Proofs.YtbnnnljagkjpiaaGreatDoor
open List
theorem Zr.chunk {size:Nat} (h1:1≤size) {own:List Nat} {e:Q8} (h:Zr size own e) (c:Nat):(QN e≤c*size∨(c+1)*size≤e.addr)∨∃ r:Nat,own[c]? = some r∧(r:Int)=e.region∧1≤r:=by
 by_cases ha:c < e.addr / size
 ·left;right;have:=(Nat.le_div_iff_mul_le (by omega)).1 (Nat.succ_le_of_lt ha);exact this
 ·by_cases hb:(e.addr+e.ws.length) / size < c
  ·left;left;have:=(Nat.div_lt_iff_lt_mul (by omega)).1 hb;unfold QN;omega
  ·right;exact h.2 c (by omega) (by omega)
inductive UG (size:Nat) (own mem:List Nat) (r:Nat) (S:QF) (n:Nat):List Nat→List Nat→QF→Nat→Prop where
 | room (h:n≤S.fin - S.at'):UG size own mem r S n own mem { S with at':=S.at'+n } S.at'
 | one {a:Nat} (ha:a+1≤own.length) (hf:own[a]? = some 0) (hn:n≤size):UG size own mem r S n (V7 own a 1 r) (V7 mem (a*size) (1*size) 0) ⟨S.parts++[(a,1)],a*size+n,(a+1)*size⟩ (a*size)
 | run {a k:Nat} (hk:2≤k) (ha:a+k≤own.length) (hf:∀ c,a≤c→c < a+k→own[c]? = some 0) (hn:n≤k*size) (hn2:(k - 1)*size < n):UG size own mem r S n (V7 own a k r) (V7 mem (a*size) (k*size) 0) ⟨S.parts++[(a,k)],S.at',S.fin⟩ (a*size)
theorem GP (a b:List (Nat×Nat)):QR (a++b)=QR a++QR b:=by simp[QR]
theorem K2 (a k:Nat):QR [(a,k)]=(List.range k).map (a+·):=by simp[QR]
theorem GS {a k c:Nat}:c∈(List.range k).map (a+·)↔a≤c∧c < a+k:=by
 simp only[mem_map,mem_range];constructor
 ·rintro⟨i,h,rfl⟩;omega
 ·rintro⟨h1,h2⟩;exact⟨c - a,by omega,by omega⟩
theorem Hy (a k:Nat):((List.range k).map (a+·)).Nodup:=by
 refine List.Pairwise.map _ (fun x y h=>?_) nodup_range;omega
theorem Mt {size:Nat} {own:List Nat} {a k r:Nat} (ha:a+k≤own.length) (hf:∀ c,a≤c→c < a+k→own[c]? = some 0) {e:Q8} (h:Zr size own e):Zr size (V7 own a k r) e:=by
 refine⟨by rw[Vy ha];exact h.1,fun c h1 h2=>?_⟩;obtain⟨q,hq,hr,h1⟩:=h.2 c h1 h2;rw[Zq ha,if_neg]
 ·exact⟨q,hq,hr,h1⟩
 ·rintro⟨h2,h3⟩;rw[hf c h2 h3] at hq;cases hq;omega
theorem Mu {size:Nat} {own:List Nat} {a k r:Nat} (ha:a+k≤own.length) (hf:∀ c,a≤c→c < a+k→own[c]? = some 0) {q:Int} {S:QF} (hq:q≠r) (h:GO size own q S):GO size (V7 own a k r) q S:=by
 refine⟨h.at1,h.fin,by rw[Vy ha];exact h.parts,h.nodup,fun c=>?_⟩;rw[h.owned,Zq ha];by_cases hc:a≤c∧c < a+k
 ·rw[if_pos hc,hf c hc.1 hc.2];constructor
  ·rintro⟨x,h1,_,h3⟩;cases h1;omega
  ·rintro⟨x,h1,h2,_⟩;cases h1;omega
 ·rw[if_neg hc]
theorem Mv {size:Nat} {own:List Nat} {a k r:Nat} (ha:a+k≤own.length) (hf:∀ c,a≤c→c < a+k→own[c]? = some 0) (hk:1≤k) (hr:1≤r) {S:QF} (h:GO size own r S) {x y:Nat}
  (h1:x≤y) (h2:y≠0→∃ c,y=(c+1)*size∧c*size < x∧(c,1)∈S.parts++[(a,k)]):GO size (V7 own a k r) r ⟨S.parts++[(a,k)],x,y⟩:=by
 refine⟨h1,h2,?_,?_,fun c=>?_⟩
 ·intro p hp;rw[Vy ha]
  rcases mem_append.1 hp with hp|hp
  ·exact h.parts p hp
  ·simp at hp;subst hp;exact⟨hk,ha⟩
 ·show (QR (S.parts++[(a,k)])).Nodup;rw[GP,K2,nodup_append];refine⟨h.nodup,Hy a k,fun c hc d hd=>?_⟩;rintro rfl;obtain⟨q,h1,_,h3⟩:=(h.owned c).1 hc;have h4:=GS.1 hd;rw[hf c h4.1 h4.2] at h1;cases h1;omega
 ·show c∈QR (S.parts++[(a,k)])↔_;rw[GP,K2,mem_append,GS,h.owned,Zq ha];by_cases hc:a≤c∧c < a+k
  ·rw[if_pos hc];constructor
   ·intro _;exact⟨r,rfl,rfl,by omega⟩
   ·intro _;exact .inr hc
  ·rw[if_neg hc];constructor
   ·rintro(h|h)
    ·exact h
    ·exact absurd h hc
   ·intro h;exact .inl h
theorem X5 {α:Type} {a b:List α} {x y:α} (h:x∈a++b):x∈a++y::b:=by
 rcases mem_append.1 h with h|h
 ·exact mem_append.2 (.inl h)
 ·exact mem_append.2 (.inr (mem_cons_of_mem _ h))
theorem G8 {α:Type} {a b:List α} {x y:α} (h:x∈a++y::b):x=y∨x∈a++b:=by
 rcases mem_append.1 h with h|h
 ·exact .inr (mem_append.2 (.inl h))
 ·rcases mem_cons.1 h with h|h
  ·exact .inl h
  ·exact .inr (mem_append.2 (.inr h))
theorem CD {K V:Type} {g1 g2:List (K×V)} {x x':K×V} (h:x'.1=x.1):(g1++x'::g2).map (·.1)=(g1++x::g2).map (·.1):=by simp[h]
theorem aY {s:CS} (h:WF s) {i g0:Nat} (hi:s.tab[i]? = some ⟨g0,none⟩) (hg:g0≤254) {r:Nat} {q q2:Nat} {S:QF} {L:List Nat} {p1 p2:List (Int×Nat×QF)} {m1 m2:List (Int×Nat×List Nat)}
  (hs:s.sps=p1++((r:Int),q,S)::p2) (hm:s.mns=m1++((r:Int),q2,L)::m2) (hnd:(s.par.map (·.1)).Nodup) {e:Q8} (hreg:e.region=r) (ok:X4 s.lays i e) {own' mem mem':List Nat} {S':QF}
  (al:UG s.size s.own mem r S (e.ws.length+1) own' mem' S' e.addr) {L':List Nat} (hL:L'.Pairwise (· < ·)) (hL':∀ j,j∈L'↔j=i∨j∈L) :
  WF { s with own:=own',tab:=s.tab.set i ⟨g0+1,some e⟩,sps:=p1++((r:Int),q,S')::p2,mns:=m1++((r:Int),q2,L')::m2 }:=by
 have hs1:=h.size.1;have hil:i < s.tab.length:=(List.getElem?_eq_some_iff.1 hi).1;have hS:GO s.size s.own r S:=h.spc ((r:Int),q,S) (by rw[hs];simp)
 have hlive:∃ y,((r:Int),y)∈s.par:=by
  have:(r:Int)∈s.par.map (·.1):=by rw[← h.skeys,hs];simp
  obtain⟨⟨a,b⟩,hab,rfl⟩:=mem_map.1 this;exact⟨b,hab⟩
 have hr1:1≤r:=by obtain⟨y,hy⟩:=hlive;have:=(h.par.2.2 _ _ hy).1;omega
 have hnk:((p1++((r:Int),q,S)::p2).map (·.1)).Nodup:=by rw[← hs,h.skeys];exact hnd
 have hother:∀ x∈p1++p2,x∈s.sps∧x.1≠(r:Int):=by
  intro x hx;refine⟨by rw[hs];exact X5 hx,fun hx1=>?_⟩;rw[map_append,map_cons,nodup_append] at hnk;obtain⟨_,h2,h3⟩:=hnk
  rcases mem_append.1 hx with hx|hx
  ·exact h3 x.1 (mem_map.2 ⟨x,hx,rfl⟩) (r:Int) (by simp) hx1
  ·rw[nodup_cons] at h2;exact h2.1 (mem_map.2 ⟨x,hx,hx1⟩)
 have hmem:∀ x,x∈p1++((r:Int),q,S')::p2→x=((r:Int),q,S')∨x∈p1++p2:=by
  exact fun x hx=>G8 hx
 have key:own'.length=s.own.length∧Zr s.size own' e∧(∀ f,Zr s.size s.own f→Zr s.size own' f)∧GO s.size own' r S'∧(∀ x∈p1++p2,GO s.size own' x.1 x.2.2) ∧
   (∀ (j g:Nat) (f:Q8),s.tab[j]? = some ⟨g,some f⟩→(QN f≤e.addr∨QN e≤f.addr)∧(QN f≤S'.at'∨S'.fin≤f.addr))∧(QN e≤S'.at'∨S'.fin≤e.addr)∧(∀ (c x:Nat),own'[c]? = some x→x≠0→x=r∨s.own[c]? = some x):=by
  generalize hea:e.addr=ad at al;cases al with
  | room hn=>
   have hfin:S.fin≠0:=by omega
   obtain⟨c,hc1,hc2,hc3⟩:=hS.fin hfin
   have hcm:c∈QR S.parts:=by
    unfold QR;rw[mem_flatMap];exact⟨(c,1),hc3,by simp⟩
   obtain⟨y,hy1,hy2,hy3⟩:=(hS.owned c).1 hcm;have hat:=hS.at1;have e1:e.addr / s.size=c:=by rw[hea];exact Nat.div_eq_of_lt_le (by omega) (by rw[← hc1];omega)
   have e2:(e.addr+e.ws.length) / s.size=c:=by rw[hea];exact Nat.div_eq_of_lt_le (by omega) (by rw[← hc1];omega)
   have hcl:c < s.own.length:=(List.getElem?_eq_some_iff.1 hy1).1;have hle:(c+1)*s.size≤s.own.length*s.size:=Nat.mul_le_mul_right _ hcl;refine⟨rfl,⟨by unfold QN;omega,fun d h1 h2=>?_⟩,fun _ hf=>hf,⟨by show S.at'+_≤S.fin;omega,fun _=>⟨c,hc1,by show c*s.size < S.at'+_;omega,hc3⟩,hS.parts,hS.nodup,hS.owned⟩,fun x hx=>h.spc x (hother x hx).1,fun j g f hj=>?_,.inl ?_,fun _ _ h1 _ => .inr h1⟩
   ·have:d=c:=by omega
    subst this;exact⟨y,hy1,by rw[hy2,hreg],by omega⟩
   ·have:QN f≤S.at'∨S.fin≤f.addr:=h.free ((r:Int),q,S) (by rw[hs];simp) _ _ _ hj;have hee:QN e=S.at'+(e.ws.length+1):=by unfold QN;omega
    rw[hee];constructor
    ·rcases this with h1|h1
     ·left;exact h1
     ·right;show S.at'+_≤f.addr;omega
    ·rcases this with h1|h1
     ·left;show QN f≤S.at'+_;omega
     ·right;exact h1
   ·show QN e≤S.at'+_;unfold QN;omega
  | @one a ha hf hn=>
   have hf':∀ c,a≤c→c < a+1→s.own[c]? = some 0:=fun c h1 h2=>by rw[show c=a by omega];exact hf
   have hsz:(a+1)*s.size=a*s.size+s.size:=Nat.succ_mul _ _;have hle:(a+1)*s.size≤s.own.length*s.size:=Nat.mul_le_mul_right _ ha;have e1:e.addr / s.size=a:=by rw[hea];exact Nat.mul_div_cancel _ (by omega)
   have e2:(e.addr+e.ws.length) / s.size=a:=by rw[hea];exact Nat.div_eq_of_lt_le (by omega) (by omega)
   have hoff:∀ (j g:Nat) (f:Q8),s.tab[j]? = some ⟨g,some f⟩→QN f≤a*s.size∨(a+1)*s.size≤f.addr:=fun j g f hj=>by
    rcases (h.obj _ _ _ hj).2.1.chunk hs1 a with h1|⟨x,h1,_,h3⟩
    ·exact h1
    ·rw[hf] at h1;cases h1;omega
   refine⟨Vy ha,⟨by rw[Vy ha];unfold QN;omega,fun d h1 h2=>?_⟩,fun f hl=>Mt ha hf' hl,?_,fun x hx=>Mu ha hf' (hother x hx).2 (h.spc x (hother x hx).1),fun j g f hj=>?_,.inl ?_,fun c x h1 h2=>?_⟩
   ·have:d=a:=by omega
    subst this;rw[Zq ha,if_pos (by omega)];exact⟨r,rfl,hreg.symm,hr1⟩
   ·exact Mv ha hf' (by omega) hr1 hS (by omega) (fun _=>⟨a,rfl,by omega,by simp⟩)
   ·have:=hoff j g f hj;have hee:QN e=a*s.size+(e.ws.length+1):=by unfold QN;omega
    rw[hee];constructor
    ·rcases this with h1|h1
     ·left;exact h1
     ·right;omega
    ·rcases this with h1|h1
     ·left;show QN f≤a*s.size+_;omega
     ·right;exact h1
   ·show QN e≤a*s.size+_;unfold QN;omega
   ·rw[Zq ha] at h1;split at h1
    ·cases h1;exact .inl rfl
    ·exact .inr h1
  | @run a k hk ha hf hn hn2=>
   have hsz:(a+k)*s.size=a*s.size+k*s.size:=Nat.add_mul _ _ _;have hsz2:(k - 1+1)*s.size=(k - 1)*s.size+s.size:=Nat.succ_mul _ _;rw[show k - 1+1=k by omega] at hsz2;have hle:(a+k)*s.size≤s.own.length*s.size:=Nat.mul_le_mul_right _ ha;have e1:e.addr / s.size=a:=by rw[hea];exact Nat.mul_div_cancel _ (by omega)
   have e2:(e.addr+e.ws.length) / s.size < a+k:=by rw[hea,Nat.div_lt_iff_lt_mul (by omega)];omega
   have hoff:∀ c,a≤c→c < a+k→∀ (j g:Nat) (f:Q8),s.tab[j]? = some ⟨g,some f⟩→QN f≤c*s.size∨(c+1)*s.size≤f.addr:=fun c hc1 hc2 j g f hj=>by
    rcases (h.obj _ _ _ hj).2.1.chunk hs1 c with h1|⟨x,h1,_,h3⟩
    ·exact h1
    ·rw[hf c hc1 hc2] at h1;cases h1;omega
   have hoff2:∀ (j g:Nat) (f:Q8),s.tab[j]? = some ⟨g,some f⟩→QN f≤a*s.size∨(a+k)*s.size≤f.addr:=fun j g f hj=>by
    have hend:f.addr+1≤QN f:=by unfold QN;omega
    by_cases h0:QN f≤a*s.size
    ·exact .inl h0
    ·refine .inr ?_
     have:∀ m,m < k→(a+m+1)*s.size≤f.addr:=by
      intro m
      induction m with
      | zero=>
       intro _
       rcases hoff a (by omega) (by omega) j g f hj with h1|h1
       ·exact absurd h1 h0
       ·exact h1
      | succ m ih=>
       intro hm;have h2:=ih (by omega)
       rcases hoff (a+(m+1)) (by omega) (by omega) j g f hj with h1|h1
       ·rw[show a+(m+1)=a+m+1 by omega] at h1;omega
       ·exact h1
     have:=this (k - 1) (by omega);rw[show a+(k - 1)+1=a+k by omega] at this;exact this
   refine⟨Vy ha,⟨by rw[Vy ha];unfold QN;omega,fun d h1 h2=>?_⟩,fun f hl=>Mt ha hf hl,?_,fun x hx=>Mu ha hf (hother x hx).2 (h.spc x (hother x hx).1),fun j g f hj=>?_,?_,fun c x h1 h2=>?_⟩
   ·rw[Zq ha,if_pos (by omega)];exact⟨r,rfl,hreg.symm,hr1⟩
   ·refine Mv ha hf (by omega) hr1 hS hS.at1 (fun h0=>?_);obtain⟨c,h1,h2,h3⟩:=hS.fin h0;exact⟨c,h1,h2,by simp[h3]⟩
   ·have:=hoff2 j g f hj;have hee:QN e=a*s.size+(e.ws.length+1):=by unfold QN;omega
    rw[hee];refine⟨?_,h.free ((r:Int),q,S) (by rw[hs];simp) _ _ _ hj⟩
    rcases this with h1|h1
    ·left;exact h1
    ·right;omega
   ·show QN e≤S.at'∨S.fin≤a*s.size;by_cases h0:S.fin=0
    ·right;omega
    obtain⟨c,hc1,hc2,hc3⟩:=hS.fin h0
    have hcm:c∈QR S.parts:=by
     unfold QR;rw[mem_flatMap];exact⟨(c,1),hc3,by simp⟩
    obtain⟨y,hy1,hy2,hy3⟩:=(hS.owned c).1 hcm;by_cases hca:c < a
    ·right;have:(c+1)*s.size≤a*s.size:=Nat.mul_le_mul_right _ hca;omega
    ·by_cases hcb:c < a+k
     ·rw[hf c (by omega) hcb] at hy1;cases hy1;omega
     ·left;have:(a+k)*s.size≤c*s.size:=Nat.mul_le_mul_right _ (by omega);unfold QN;omega
   ·rw[Zq ha] at h1;split at h1
    ·cases h1;exact .inl rfl
    ·exact .inr h1
 obtain⟨k1,k2,k3,k4,k5,k6,k7,k8⟩:=key;have hsk:(p1++((r:Int),q,S')::p2).map (·.1)=s.par.map (·.1):=by rw[← h.skeys,hs];exact CD rfl
 have hmk:(m1++((r:Int),q2,L')::m2).map (·.1)=s.par.map (·.1):=by rw[← h.mkeys,hm];exact CD rfl
 have hnm:((m1++((r:Int),q2,L)::m2).map (·.1)).Nodup:=by rw[← hm,h.mkeys];exact hnd
 refine⟨h.size,by show 1≤own'.length∧own'.length≤63;rw[k1];exact h.own,by show 1≤(s.tab.set _ _).length∧(s.tab.set _ _).length≤63;rw[length_set];exact h.slots,h.lays,?_,?_,?_,h.par,hsk,hmk,?_,?_,?_,?_⟩
 ·intro j t hj
  rcases Qz hj with ⟨rfl,rfl,_⟩|⟨_,hj⟩
  ·exact⟨by show g0+1≤255;omega,fun _=>by show 1≤g0+1;omega⟩
  ·exact h.gen _ _ hj
 ·intro j g f hj
  rcases Qz hj with ⟨rfl,ht,_⟩|⟨_,hj⟩
  ·injection ht with h1 h2
   injection h2 with h2
   subst h2;exact⟨ok,k2,by rw[hreg];exact hlive⟩
  ·obtain⟨o1,o2,o3⟩:=h.obj _ _ _ hj;exact⟨o1,k3 _ o2,o3⟩
 ·intro j k m n f f' hne hj hk
  rcases Qz hj with ⟨rfl,ht,_⟩|⟨hji,hj'⟩ <;> rcases Qz hk with ⟨rfl,hu,_⟩|⟨hki,hk'⟩
  ·exact absurd rfl hne
  ·injection ht with h1 h2
   injection h2 with h2
   subst h2;exact(k6 _ _ _ hk').1.symm
  ·injection hu with h1 h2
   injection h2 with h2
   subst h2;exact(k6 _ _ _ hj').1
  ·exact h.apart _ _ _ _ _ _ hne hj' hk'
 ·intro x hx
  rcases hmem x hx with rfl|hx
  ·exact k4
  ·exact k5 x hx
 ·intro x hx j g f hj
  rcases Qz hj with ⟨rfl,ht,_⟩|⟨_,hj⟩
  ·injection ht with h1 h2
   injection h2 with h2
   subst h2
   rcases hmem x hx with rfl|hx
   ·exact k7
   ·have hok:=k5 x hx;by_cases h0:x.2.2.fin=0
    ·right;omega
    obtain⟨c,hc1,hc2,hc3⟩:=hok.fin h0
    have hcm:c∈QR x.2.2.parts:=by
     unfold QR;rw[mem_flatMap];exact⟨(c,1),hc3,by simp⟩
    obtain⟨y,hy1,hy2,hy3⟩:=(hok.owned c).1 hcm;have hat:=hok.at1
    rcases k2.chunk hs1 c with (h1|h1)|⟨z,hz1,hz2,hz3⟩
    ·left;omega
    ·right;omega
    ·exact absurd (show x.1=(r:Int) by rw[hy1] at hz1;cases hz1;rw[← hy2,hz2,hreg]) (hother x hx).2
  ·rcases hmem x hx with rfl|hx
   ·exact(k6 _ _ _ hj).2
   ·exact h.free x (hother x hx).1 _ _ _ hj
 ·intro c x hc h0
  rcases k8 c x hc h0 with rfl|h1
  ·exact hlive
  ·exact h.live c x h1 h0
 ·intro x hx
  have hx':x=((r:Int),q2,L')∨(x∈s.mns∧x.1≠(r:Int)):=by
   have hx0:x=((r:Int),q2,L')∨x∈m1++m2:=by
    exact G8 hx
   rcases hx0 with h1|h1
   ·exact .inl h1
   ·refine .inr ⟨by rw[hm];exact X5 h1,fun hx1=>?_⟩;rw[map_append,map_cons,nodup_append] at hnm;obtain⟨_,h2,h3⟩:=hnm
    rcases mem_append.1 h1 with hx|hx
    ·exact h3 x.1 (mem_map.2 ⟨x,hx,rfl⟩) (r:Int) (by simp) hx1
    ·rw[nodup_cons] at h2;exact h2.1 (mem_map.2 ⟨x,hx,hx1⟩)
  rcases hx' with rfl|⟨hx,hne⟩
  ·refine⟨hL,fun j=>?_⟩;show j∈L'↔_;rw[hL',(h.mine ((r:Int),q2,L) (by rw[hm];simp)).2];constructor
   ·rintro(rfl|⟨g,f,h1,h2⟩)
    ·exact⟨g0+1,e,by show (s.tab.set _ _)[_]? = _;simp[hil],hreg⟩
    ·by_cases hji:j=i
     ·subst hji;rw[hi] at h1;cases h1
     ·exact⟨g,f,by show (s.tab.set _ _)[_]? = _;rw[getElem?_set_ne (fun q=>hji q.symm)];exact h1,h2⟩
   ·rintro⟨g,f,h1,h2⟩
    rcases Qz h1 with ⟨rfl,_,_⟩|⟨_,h1⟩
    ·exact .inl rfl
    ·exact .inr ⟨g,f,h1,h2⟩
  ·obtain⟨h1,h2⟩:=h.mine x hx;refine⟨h1,fun j=>?_⟩;rw[h2];constructor
   ·rintro⟨g,f,h3,h4⟩;by_cases hji:j=i
    ·subst hji;rw[hi] at h3;cases h3
    ·exact⟨g,f,by show (s.tab.set _ _)[_]? = _;rw[getElem?_set_ne (fun q=>hji q.symm)];exact h3,h4⟩
   ·rintro⟨g,f,h3,h4⟩
    rcases Qz h3 with ⟨rfl,ht,_⟩|⟨_,h3⟩
    ·injection ht with _ h5
     injection h5 with h5
     subst h5;exact absurd (h4.symm.trans hreg) hne
    ·exact⟨g,f,h3,h4⟩
theorem Mw {s:CS} (h:WF s) {mem mem' own':List Nat} (hm:mem.length=s.own.length*s.size) {r n ad:Nat} {S S':QF} (al:UG s.size s.own mem r S n own' mem' S' ad) :
  mem'.length=mem.length∧∀ (j g:Nat) (f:Q8),s.tab[j]? = some ⟨g,some f⟩→∀ k,f.addr≤k→k < QN f→mem'[k]? = mem[k]?:=by
 have hs1:=h.size.1
 have off:∀ (a K:Nat),a+K≤s.own.length→(∀ c,a≤c→c < a+K→s.own[c]? = some 0)→(V7 mem (a*s.size) (K*s.size) 0).length=mem.length ∧
   ∀ (j g:Nat) (f:Q8),s.tab[j]? = some ⟨g,some f⟩→∀ k,f.addr≤k→k < QN f→(V7 mem (a*s.size) (K*s.size) 0)[k]? = mem[k]?:=by
  intro a K ha hf;have hsz:(a+K)*s.size=a*s.size+K*s.size:=Nat.add_mul _ _ _;have hle:(a+K)*s.size≤s.own.length*s.size:=Nat.mul_le_mul_right _ ha;refine⟨Vy (by omega),fun j g f hj k h1 h2=>?_⟩;rw[Zq (by omega),if_neg];rintro⟨h3,h4⟩;unfold QN at h2;have c1:f.addr / s.size≤k / s.size:=Nat.div_le_div_right h1;have c2:k / s.size≤(f.addr+f.ws.length) / s.size:=Nat.div_le_div_right (by omega);obtain⟨q,hq,_,hq1⟩:=(h.obj _ _ _ hj).2.1.2 _ c1 c2;have c3:a≤k / s.size:=(Nat.le_div_iff_mul_le (by omega)).2 h3;have c4:k / s.size < a+K:=(Nat.div_lt_iff_lt_mul (by omega)).2 (by omega);rw[hf _ c3 c4] at hq;cases hq;omega
 cases al with
 | room _=>exact⟨rfl,fun _ _ _ _ _ _ _=>rfl⟩
 | @one a ha hf _=>exact off a 1 ha (fun c h1 h2=>by rw[show c=a by omega];exact hf)
 | @run a k _ ha hf _ _=>exact off a k ha hf
theorem aZ {s:CS} (h:WF s) {mem mem1 mem2 own':List Nat} (m:VT s mem) {r i g0:Nat} (hi:s.tab[i]? = some ⟨g0,none⟩) {S S':QF} {e:Q8} (al:UG s.size s.own mem r S (e.ws.length+1) own' mem1 S' e.addr)
  (hl:mem2.length=mem1.length) (hown:own'.length=s.own.length) (hh:mem2[e.addr]? = some (G6 e.lay e.count i)) (hw:∀ (p w:Nat),e.ws[p]? = some w→mem2[e.addr+1+p]? = some w) (hout:∀ k,k < e.addr∨QN e≤k→mem2[k]? = mem1[k]?)
  (hap:∀ (j g:Nat) (f:Q8),s.tab[j]? = some ⟨g,some f⟩→QN f≤e.addr∨QN e≤f.addr) {s':CS} (h1:s'.own=own') (h2:s'.size=s.size) (h3:s'.tab=s.tab.set i ⟨g0+1,some e⟩):VT s' mem2:=by
 obtain⟨a1,a2⟩:=Mw h m.len al
 have old:∀ (j g:Nat) (f:Q8),s.tab[j]? = some ⟨g,some f⟩→∀ k,f.addr≤k→k < QN f→mem2[k]? = mem[k]? := fun j g f hj k k1 k2=>by
  rw[← a2 j g f hj k k1 k2];refine hout k ?_
  rcases hap j g f hj with h|h
  ·left;omega
  ·right;omega
 refine⟨by rw[hl,a1,h1,h2,hown];exact m.len,?_,?_⟩
 ·intro j g f hj;rw[h3] at hj
  rcases Qz hj with ⟨rfl,ht,_⟩|⟨_,hj⟩
  ·injection ht with _ h5
   injection h5 with h5
   subst h5;exact hh
  ·rw[old j g f hj f.addr (Nat.le_refl _) (by unfold QN;omega)];exact m.head _ _ _ hj
 ·intro j g f hj p w hp;rw[h3] at hj
  rcases Qz hj with ⟨rfl,ht,_⟩|⟨_,hj⟩
  ·injection ht with _ h5
   injection h5 with h5
   subst h5;exact hw p w hp
  ·have hp1:=(List.getElem?_eq_some_iff.1 hp).1;rw[old j g f hj _ (by omega) (by unfold QN;omega)];exact m.words _ _ _ hj p w hp
theorem aG {s:CS} (h:WF s) {parent:Int} {q q2:Nat} (hl:s.par.length < 64) (hlast:s.last+1 < 1000000) :
  WF { s with last:=s.last+1,par:=s.par++[(((s.last+1:Nat):Int),parent)],sps:=s.sps++[(((s.last+1:Nat):Int),q,⟨[],0,0⟩)],mns:=s.mns++[(((s.last+1:Nat):Int),q2,[])] }:=by
 have hup:∀ r x,(r,x)∈s.par→r≠((s.last+1:Nat):Int):=fun r x hx=>by
  have:=(h.par.2.2 r x hx).2;omega
 refine⟨h.size,h.own,h.slots,h.lays,h.gen,fun i g e hi=>?_,h.apart,⟨by show (s.par++[_]).length≤64;simp;omega,hlast,?_⟩,?_,?_,?_,?_,fun c r hc h0=>?_,?_⟩
 ·obtain⟨a,b,y,hy⟩:=h.obj i g e hi;exact⟨a,b,y,mem_append.2 (.inl hy)⟩
 ·intro r x hx;have hx:(r,x)∈s.par++[_]:=hx;show 1≤r∧r≤((s.last+1:Nat):Int)
  rcases mem_append.1 hx with hx|hx
  ·have:=h.par.2.2 r x hx;omega
  ·simp at hx;omega
 ·have:=h.skeys;simp[this]
 ·have:=h.mkeys;simp[this]
 ·intro x hx
  rcases mem_append.1 (show x∈s.sps++[_] from hx) with hx|hx
  ·exact h.spc x hx
  ·simp at hx;subst hx;refine⟨Nat.le_refl _,fun h0=>absurd rfl h0,fun p hp=>(by cases hp),by simp[QR],fun c=>⟨fun hc=>by simp[QR] at hc,?_⟩⟩;rintro⟨y,h1,h2,h3⟩;obtain⟨z,hz⟩:=h.live c y h1 h3;exact absurd h2 (hup _ _ hz)
 ·intro x hx i g e hi
  rcases mem_append.1 (show x∈s.sps++[_] from hx) with hx|hx
  ·exact h.free x hx i g e hi
  ·simp at hx;subst hx;exact .inr (Nat.zero_le _)
 ·obtain⟨y,hy⟩:=h.live c r hc h0;exact⟨y,mem_append.2 (.inl hy)⟩
 ·intro x hx
  rcases mem_append.1 (show x∈s.mns++[_] from hx) with hx|hx
  ·exact h.mine x hx
  ·simp at hx;subst hx;refine⟨by simp,fun i=>⟨fun hc=>by simp at hc,?_⟩⟩;rintro⟨g,e,h1,h2⟩;obtain⟨_,_,y,hy⟩:=h.obj _ _ _ h1;exact absurd h2 (hup _ _ hy)
theorem aX {lays:List QL} {i:Nat} {e:Q8} (h:X4 lays i e) (x:QL):X4 (lays++[x]) i e:=by
 obtain⟨m,l,h1,h2⟩:=h;exact⟨m,l,by rw[getElem?_append_left (List.getElem?_eq_some_iff.1 h1).1];exact h1,h2⟩
theorem aK {s:CS} (h:WF s) {l:QL} (hr:Vh l) (hl:s.lays.length < 64):WF { s with lays:=s.lays++[l] }:=by
 refine⟨h.size,h.own,h.slots,⟨by show (s.lays++[l]).length≤64;simp;omega,fun x hx=>?_⟩,h.gen,fun i g e hi=>?_,h.apart,h.par,h.skeys,h.mkeys,h.spc,h.free,h.live,h.mine⟩
 ·rcases mem_append.1 hx with hx|hx
  ·exact h.lays.2 x hx
  ·simp at hx;subst hx;exact hr
 ·obtain⟨a,b⟩:=h.obj i g e hi;exact⟨aX a l,b⟩
theorem Am {s:CS} (h:WF s) (m:List ((Int×Int)×Int)):WF { s with rem:=m }:=⟨h.size,h.own,h.slots,h.lays,h.gen,h.obj,h.apart,h.par,h.skeys,h.mkeys,h.spc,h.free,h.live,h.mine⟩
theorem Ex {s:CS} {mem:List Nat} (h:VT s mem) (m:List ((Int×Int)×Int)):VT { s with rem:=m } mem:=⟨h.len,h.head,h.words⟩
end Go.Proofs.YtbnnnljagkjpiaaGreatDoor
set_option linter.unusedSectionVars false
namespace Go.Proofs.YtbnnnljagkjpiaaGreatDoor
open List
open Go.SL
@[reducible] def Vk (q:Nat×Nat):List Value:=[.int .i64 q.1,.int .i64 q.2]
theorem XL (q:Nat×Nat):(Vk q).length=2:=rfl
def Qm (p sp owner:Nat) (S:QF):Q2:=ex fun v:Value=>star [pts p (row 224 [pp sp,.int .i64 owner,v,.int .i64 S.at',.int .i64 S.fin]),QX 226 2 v (S.parts.flatMap Vk)]
theorem G9 [Q4] {w:World} {p sp owner:Nat} {S:QF} {l:List Q2} (H:Q0 w (Qm p sp owner S::l)):∃ a c,Q0 w (pts p (row 224 [pp sp,.int .i64 owner,.slice a S.parts.length c,.int .i64 S.at',.int .i64 S.fin])::QX 226 2 (.slice a S.parts.length c) (S.parts.flatMap Vk)::l):=by
 obtain⟨v,H⟩:=Q0.ex.1 H;have H:=Q0.star.1 H;obtain⟨a,c,rfl⟩:=QE H.drop (Gu XL _) (by decide);exact⟨a,c,H⟩
theorem Z8 [Q4] {w:World} {p sp owner:Nat} {S:QF} {l:List Q2} {v:Value} (H:Q0 w (pts p (row 224 [pp sp,.int .i64 owner,v,.int .i64 S.at',.int .i64 S.fin])::QX 226 2 v (S.parts.flatMap Vk)::l)):Q0 w (Qm p sp owner S::l):=
 Q0.ex.2 ⟨v,Q0.star.2 H⟩
theorem Hz [Q4] (sp owner:Nat) (ho:1≤owner) {w:World} {fr:List Q2} (H:Q0 w fr) :
  Calls Tryz.prog 53 #[pp sp,.int .i64 owner] w (ret fun v w'=>∃ p,v = .tuple #[pp p,.int .i64 0]∧Q0 w' (Qm p sp owner ⟨[],0,0⟩::fr)):=by
 refine QQ Tryz.func53 rfl (by kernel_rfl) ?_;refine Bk H ?_;refine Y4 (fun ms σ w=>ms=[]∧σ 0=pp sp∧σ 1 = .int .i64 owner∧Q0 w fr) ?_ ?_
 ·refine RK H ?_;refine VX H ?_;rw[show decide ((owner:Int) < 1)=false from decide_eq_false (by omega)];refine V4 H ?_;exact .inl ⟨rfl,rfl,rfl,rfl,H⟩
 ·clear H;rintro ms σ w ⟨rfl,g0,g1,H⟩;rw[Q1 g0,Q1 g1];refine J9 H ?_;refine XW H ?_;clear H;intro b15 w H;refine J3 H ?_;have H:=(Yt (E:=226) (k:=2) H).swap;exact Q3 (Jy H rfl fun w' H'=>⟨_,rfl,Z8 (S:=⟨[],0,0⟩) H'⟩)
theorem aR [Q4] (p sp owner:Nat) (S:QF) (h1:S.at'≤S.fin) (h2:S.fin≤1048576) {w:World} {fr:List Q2} (H:Q0 w (Qm p sp owner S::fr)) :
  Calls Tryz.prog 121 #[pp p] w (ret fun v w'=>v = .int .i64 ((S.fin - S.at':Nat):Int)∧Q0 w' (Qm p sp owner S::fr)):=by
 obtain⟨a,c,H⟩:=G9 H;refine QQ Tryz.func121 rfl (by kernel_rfl) ?_;refine Bf H ?_;refine J1 H ?_;clear H;intro w H;refine XA H ?_;refine E5 H ?_;refine Ja 8 ?_;refine Ja 9 ?_;refine Jx H ?_;refine Q3 (Jy (Z8 H) rfl fun w' H'=>⟨?_,H'⟩);show Value.int .i64 (IntKind.i64.wrap ((S.fin:Int) - (S.at':Int)))=_;rw[Qb (by omega) (by omega)];congr 1;omega
theorem Mx [Q4] (p sp owner size n:Nat) (S:QF) (mem own:List Nat) (ho:1≤owner) (hn1:1≤n) (hn2:n≤100000) (h1:S.at'≤S.fin) (h2:S.fin≤1048576) (h63:own.length≤63) (hs1:1≤size) (hs2:size≤1024) (hp:S.parts.length≤1000) {w:World} {fr:List Q2} [hT:YW 0 Lib.deBruijn64tab fr]
  (H:Q0 w (Qm p sp owner S::ST sp size mem own::fr)) :
  Calls Tryz.prog 56 #[pp p,.int .i64 n] w (ret fun v w'=>(∃ a own' mem' S',v = .tuple #[.int .i64 ((a:Nat):Int),.int .i64 0]∧UG size own mem owner S n own' mem' S' a∧Q0 w' (Qm p sp owner S'::ST sp size mem' own'::fr)) ∨
   (v = .tuple #[.int .i64 0,.int .i64 11]∧(∀ a,a+((n - 1) / size+1)≤own.length→∃ i,a≤i∧i < a+((n - 1) / size+1)∧own.getD i 0≠0)∧Q0 w' (Qm p sp owner S::ST sp size mem own::fr))):=by
 refine QQ Tryz.func56 rfl (by kernel_rfl) ?_;refine Bk H ?_;refine Y4 (fun ms σ w=>ms=[]∧σ 0=pp p∧σ 1 = .int .i64 n∧Q0 w (Qm p sp owner S::ST sp size mem own::fr)) ?_ ?_
 ·refine RK H ?_;refine VX H ?_;rw[show decide ((n:Int) < 1)=false from decide_eq_false (by omega)];refine Bv H ?_;refine J9 H ?_;refine Jc rfl rfl (aR p sp owner S h1 h2 H) ?_;clear H;rintro v w ⟨rfl,H⟩;refine J3 H ?_;by_cases hr:n≤S.fin - S.at'
  ·rw[show decide ((n:Int)≤((S.fin - S.at':Nat):Int))=true from decide_eq_true (by omega)];refine VH H ?_;obtain⟨a,c,H⟩:=G9 H;refine GI H ?_;rw[Qb (x:=(S.at':Int)+(n:Int)) (by omega) (by omega),show (S.at':Int)+(n:Int)=((S.at'+n:Nat):Int) by omega];refine GL H ?_;clear H;intro w H;refine J2 H ?_;refine GI H ?_;refine J3 H ?_;refine Q3 (.inr ⟨by simp,Jy (Z8 (S:={ S with at':=S.at'+n }) H) rfl fun w' H' => .inl ⟨S.at',own,mem,_,?_,.room hr,H'⟩⟩);show Value.tuple #[.int .i64 (IntKind.i64.wrap (((S.at'+n:Nat):Int) - (n:Int))),_]=_;rw[Qb (by omega) (by omega),show ((S.at'+n:Nat):Int) - (n:Int)=(S.at':Int) by omega];rfl
  ·rw[show decide ((n:Int)≤((S.fin - S.at':Nat):Int))=false from decide_eq_false (by omega)];refine V4 H ?_;exact .inl ⟨rfl,rfl,rfl,rfl,H⟩
 ·clear H;rintro ms σ w ⟨rfl,g0,g1,H⟩;rw[Q1 g0,Q1 g1];obtain⟨a,c,H⟩:=G9 H;have hk:(n - 1) / size+1≤n:=by have:=Nat.div_le_self (n - 1) size;omega
  have hk1:(n - 1) / size*size≤n - 1:=Nat.div_mul_le_self _ _
  have hk2:n≤((n - 1) / size+1)*size:=by
   have:=Nat.lt_div_mul_add (a:=n - 1) (b:=size) (by omega);rw[Nat.succ_mul];omega
  refine Yk H ?_;replace H:=Js [2,0,0] 0 H;refine Jc rfl rfl (Eo sp size mem own H) ?_;clear H;rintro v w ⟨rfl,H⟩;refine E6 H ?_;rw[Qb (x:=(n:Int) - 1) (by omega) (by omega),show (n:Int) - 1=((n - 1:Nat):Int) by omega]
  refine UD (v := .int .i64 (((n - 1) / size:Nat):Int)) (by
   show (if IntKind.i64=IntKind.i64 then (if (size:Int)=0 then none else some _) else none)=_;rw[if_pos rfl,if_neg (by omega),Wa (by omega)]) rfl ?_
  refine J3 H ?_;generalize hkk:(n - 1) / size=q at hk hk1 hk2;rw[Qb (x:=((q:Nat):Int)+1) (by omega) (by omega),show ((q:Nat):Int)+1=((q+1:Nat):Int) by omega];refine J1 H ?_;clear H;intro w H;refine E3 H ?_;refine E4 H ?_;refine Jl 7 [9] H ?_;refine Ja 8 ?_;refine Jo 9 H ?_;refine Jk rfl rfl (Td sp size mem own owner (q+1) h63 ho (by omega) (by omega) H) ?_;clear H;rintro v w (⟨b,rfl,hb,hfree,H⟩|⟨rfl,hno,H⟩)
  ·have hf:∀ c,b≤c→c < b+(q+1)→own[c]? = some 0:=fun c e1 e2=>by
    have:=hfree c e1 e2;rw[getD_eq_getElem?_getD,getElem?_eq_getElem (by omega)] at this;rw[getElem?_eq_getElem (by omega)];simpa using this
   have hbs:(b+(q+1))*size≤63*1024:=Nat.mul_le_mul (by omega) hs2;have hbs2:(b+(q+1))*size=b*size+(q+1)*size:=Nat.add_mul _ _ _;have hbs3:(b+1)*size=b*size+size:=Nat.succ_mul _ _;have hsq:size≤(q+1)*size:=Nat.le_mul_of_pos_left _ (by omega);refine Ja 10 ?_;refine Ja 11 ?_;refine RR H ?_;refine Jx H ?_;refine Gw H ?_;refine AG H ?_;refine YA H ?_;refine A7 H ?_;clear H;intro b69 w H;replace H:=Js [3,0,1,0] 0 H;refine Q5 rfl (YR H rfl rfl (by repeat first|exact .nil _|apply Q9.cons rfl) rfl (by decide) (by rw[Gu XL];simp only[length_cons,length_nil];omega) rfl rfl ?_);clear H;intro v70 w H;obtain⟨a70,m70,c70,rfl⟩:=Qs H;have e1:S.parts.flatMap Vk++[.int .i64 b,.int .i64 ((q+1:Nat):Int)]=(S.parts++[(b,q+1)]).flatMap Vk:=by simp
   rw[e1] at H;refine GL H ?_;clear H;intro w H;refine XB H ?_;by_cases hq:q=0
   ·subst hq;rw[show (((0+1:Nat):Int) == 1)=true from rfl];refine J6 H ?_;refine Qk (fun ms σ w=>ms=[]∧σ 6 = .int .i64 size∧σ 8 = .int .i64 b∧Q0 w (Qm p sp owner ⟨S.parts++[(b,1)],b*size+n,(b+1)*size⟩::ST sp size (V7 mem (b*size) (1*size) 0) (V7 own b 1 owner)::fr)) ?_ ?_
    ·refine Vp rfl ?_;have m1:(b:Int)*(size:Int)=((b*size:Nat):Int):=(Int.natCast_mul _ _).symm;have m2:((b:Int)+1)*(size:Int)=(((b+1)*size:Nat):Int):=by rw[Int.natCast_mul,Int.natCast_add];rfl
     refine J9 H ?_;refine AE H ?_;refine Bh H ?_;rw[Qb (x:=(b:Int)+1) (by omega) (by omega),m1,m2,Qb (x:=((b*size:Nat):Int)) (by omega) (by omega),Qb (x:=(((b+1)*size:Nat):Int)) (by omega) (by omega),Qb (x:=((b*size:Nat):Int)+(n:Int)) (by omega) (by omega),show ((b*size:Nat):Int)+(n:Int)=((b*size+n:Nat):Int) by omega];refine GL H ?_;clear H;intro w H;refine GL H ?_;clear H;intro w H;refine J2 H ?_;replace H:=Js [2,0,1] 1 H;exact⟨rfl,rfl,rfl,rfl,Z8 (S:=⟨S.parts++[(b,1)],b*size+n,(b+1)*size⟩) H⟩
    ·clear H;rintro ms σ w ⟨rfl,g6,g8,H⟩;rw[Q1 g6,Q1 g8];refine KF H ?_;refine Q3 (Jy H rfl fun w' H' => .inl ⟨b*size,_,_,_,?_,.one (by omega) (hf b (by omega) (by omega)) (by omega),H'⟩);show Value.tuple #[.int .i64 (IntKind.i64.wrap ((b:Int)*(size:Int))),_]=_;rw[← Int.natCast_mul,Qb (by omega) (by omega)];rfl
   ·rw[show (((q+1:Nat):Int) == 1)=false by simp;omega];refine V4 H ?_;refine KF H ?_;replace H:=Js [2,0,1] 1 H;refine Q3 (Jy (Z8 (S:=⟨S.parts++[(b,q+1)],S.at',S.fin⟩) H) rfl fun w' H' => .inl ⟨b*size,_,_,_,?_,.run (k:=q+1) (by omega) hb hf hk2 (by rw[Nat.add_sub_cancel];omega),H'⟩);show Value.tuple #[.int .i64 (IntKind.i64.wrap ((b:Int)*(size:Int))),_]=_;rw[← Int.natCast_mul,Qb (by omega) (by omega)];rfl
  ·refine Ja 10 ?_;refine Ja 11 ?_;refine RR H ?_;refine Jx H ?_;refine J4 H ?_;refine E7 H ?_;replace H:=Js [1,1,0] 0 H;exact Q3 (Jy (Z8 H) rfl fun w' H' => .inr ⟨rfl,hno,H'⟩)
open Go.SL
@[reducible] def Qr (ip sp bp:Nat):Q2:=pts ip (row 213 [pp sp,pp bp])
structure XM (ls:List QL) (size:Nat) (mem own:List Nat) (addr i c s n:Nat) (l:QL):Prop where
 may:Xz i c s
 lay:ls[i - 1]? = some l
 right:Vh l
 siz:VQ l c=(n,0)
 head:mem.getD addr 0=G6 i c s
 fit:addr+1+n≤mem.length
 owned:U0 size own addr (n+1)
theorem U0.sub {size:Nat} {own:List Nat} {a n b m:Nat} (h:U0 size own a n) (h1:a≤b) (h2:b+m≤a+n) (h3:1≤m):U0 size own b m:=fun c c1 c2=>
 h c (Nat.le_trans (Nat.div_le_div_right h1) c1) (Nat.le_trans c2 (Nat.div_le_div_right (by omega)))
theorem aW [Q4] (sp bp:Nat) {w:World} {fr:List Q2} (H:Q0 w fr) :
  Calls Tryz.prog 72 #[pp sp,pp bp] w (ret fun v w'=>∃ ip,v = .tuple #[pp ip,.int .i64 0]∧Q0 w' (Qr ip sp bp::fr)):=by
 refine QQ Tryz.func72 rfl (by kernel_rfl) ?_;refine J4 H ?_;refine AY H ?_;refine A6 H ?_;refine E8 H ?_;refine J9 H ?_;refine XW H ?_;clear H;intro b15 w H;refine J3 H ?_;exact Q3 (Jy H rfl fun w' H'=>⟨_,rfl,H'⟩)
theorem I0 [Q4] (p:Nat) (ls:List QL) (i:Nat) (h1:1≤i) (l:QL) (hk:ls[i - 1]? = some l) {w:World} {fr:List Q2} (H:Q0 w (Qi p ls::fr)) :
  Calls Tryz.prog 78 #[pp p,.int .i64 i] w (ret fun x w'=>∃ vr vq,x = .tuple #[Yx l.fixed vr l.record vq,.int .i64 0]∧Q0 w' (NL vr l.refs::NL vq l.recs::Qi p ls::fr)):=by
 obtain⟨k,rfl⟩:∃ k,i=k+1:=⟨i - 1,by omega⟩;rw[Nat.add_sub_cancel] at hk;rw[show (((k+1:Nat):Int))=(k:Int)+1 by omega];exact Tp p ls k l hk H
theorem My [Q4] (ip sp bp:Nat) (ls:List QL) (i c s n:Nat) (l:QL) (hm:Xz i c s) (hl:ls[i - 1]? = some l) (hR:Vh l) (hz:VQ l c=(n,0)) {w:World} {fr:List Q2} (H:Q0 w (Qr ip sp bp::Qi bp ls::fr)) :
  Calls Tryz.prog 130 #[pp ip,Ri i c s] w (ret fun v w'=>∃ vr vq,v = .tuple #[Yx l.fixed vr l.record vq,.int .i64 n,.int .i64 0]∧Q0 w' (NL vr l.refs::NL vq l.recs::Qr ip sp bp::Qi bp ls::fr)):=by
 have hi:=hm.1;refine QQ Tryz.func130 rfl (by kernel_rfl) ?_;refine J7 H ?_;clear H;intro b3 w H;refine VZ H ?_;clear H;intro b4 w H;refine KB H ?_
 refine Qk (fun ms σ w=>ms=[]∧∃ b7 vr vq,σ 3=pp b3∧σ 4=pp b4∧σ 7=pp b7∧σ 8 = .int .i64 0 ∧
  Q0 w (pts b7 (row 164 [.int .i64 l.fixed,vr,.int .i64 l.record,vq])::NL vr l.refs::NL vq l.recs::pts b4 (row 164 [.int .i64 0,.slice none 0 0,.int .i64 0,.slice none 0 0])::pts b3 (row 117 [.int .i64 i,.int .i64 c,.int .i64 s])::Qr ip sp bp::Qi bp ls::fr)) ?_ ?_
 ·replace H:=Js [3,0,0,0] 0 H;refine J1 H ?_;clear H;intro w H;refine E9 H ?_;refine Jl 5 [6,11] H ?_;refine Jw 6 10 H rfl rfl (Qy (a:=[]) (b:=[]) rfl rfl (call (I0 bp ls i hi l hl H) ?_)) (VN H rfl ?_)
  ·clear H;rintro v w ⟨vr,vq,rfl,H⟩;obtain⟨aa,ma,ca,rfl⟩:=Qs H;obtain⟨ab,mb,cb,rfl⟩:=Qs H.drop;refine EQ H ?_;clear H;intro b7 w H;refine AQ H ?_;clear H;intro w H;refine Xv H ?_;replace H:=Js [0,0,0,1,1,1,0] 0 H;exact⟨rfl,rfl,b7,_,_,rfl,rfl,rfl,rfl,H⟩
  ·clear H;intro b7 w H;refine Jo 6 H ?_;refine Jk rfl rfl (I0 bp ls i hi l hl H.swap) ?_;clear H;rintro v w ⟨vr,vq,rfl,H⟩;obtain⟨aa,ma,ca,rfl⟩:=Qs H;obtain⟨ab,mb,cb,rfl⟩:=Qs H.drop;refine EV H ?_;clear H;intro w H;refine Xv H ?_;replace H:=Js [3,0,0,1,1,1,0] 0 H;exact⟨rfl,rfl,b7,_,_,rfl,rfl,rfl,rfl,H⟩
 ·clear H;rintro ms σ w ⟨rfl,b7,vr,vq,g3,g4,g7,g8,H⟩;rw[Q1 g3,Q1 g4,Q1 g7,Q1 g8];obtain⟨aa,ma,rfl⟩:=QE H.drop (QH _) (by decide);obtain⟨ab,mb,rfl⟩:=QE H.drop.drop (QH _) (by decide);refine Gw H ?_;refine GH H ?_;refine ZW H ?_;replace H:=Js [1,1,0,0,0,0,0] 0 H;obtain⟨D1,H,hD1,hC1⟩:=sls_rd H (QH _) (by decide);obtain⟨D2,H,hD2,hC2⟩:=sls_rd H.swap (QH _) (by decide);refine Jc rfl rfl (CW _ _ l hR c ⟨(hD1 _).there,hD2 _⟩ H) ?_;clear H;rintro v w ⟨rfl,H⟩;rw[hz];replace H:=hC1 _ _ (hC2 _ _ H).swap;refine G3 H ?_;refine GH H ?_;refine EY H ?_;clear H;intro w H;refine J3 H ?_;replace H:=Js [3,0,0,2,2] 2 H;exact Q3 (Jz H (fun w' H' => .cellN H' rfl (by repeat first|exact .nil _|apply Q9.cons rfl) (.tmp (.tmp .nil))) fun w' H'=>⟨_,_,rfl,H'.drop⟩)
theorem I1 [Q4] (ip sp bp size:Nat) (ls:List QL) (mem own:List Nat) (addr i c s n:Nat) (l:QL) (h:XM ls size mem own addr i c s n l) {w:World} {fr:List Q2} (H:Q0 w (Qr ip sp bp::Qi bp ls::ST sp size mem own::fr)) :
  Calls Tryz.prog 65 #[pp ip,.int .i64 addr] w (ret fun v w'=>∃ vr vq,v = .tuple #[Ri i c s,Yx l.fixed vr l.record vq,.int .i64 n,.int .i64 0]∧Q0 w' (NL vr l.refs::NL vq l.recs::Qr ip sp bp::Qi bp ls::ST sp size mem own::fr)):=by
 obtain⟨hm,hl,hR,hz,hh,hf,ho⟩:=h;refine QQ Tryz.func65 rfl (by kernel_rfl) ?_;refine Y7 H ?_;clear H;intro b4 w H;refine VZ H ?_;clear H;intro b5 w H;refine J3 H ?_;refine V2 H ?_;replace H:=Js [4,0,0,0,0] 0 H;refine Jc rfl rfl (Hm sp size mem own addr (by omega) (ho.sub (Nat.le_refl _) (by omega) (by omega)) H) ?_;clear H;rintro v w ⟨rfl,H⟩;rw[hh];refine G2 H ?_;refine YZ H ?_;refine Jc rfl rfl (TA i c s hm H) ?_;clear H;rintro v w ⟨rfl,H⟩;refine Ve H ?_;clear H;intro b10 w H;refine J5 H ?_;clear H;intro w H;refine EZ H ?_;replace H:=Js [4,4,1,1,1,0] 0 H;refine Jc rfl rfl (My ip sp bp ls i c s n l hm hl hR hz H) ?_;clear H;rintro v w ⟨vr,vq,rfl,H⟩;obtain⟨aa,ma,ca,rfl⟩:=Qs H;obtain⟨ab,mb,cb,rfl⟩:=Qs H.drop;refine AE H ?_;refine VZ H ?_;clear H;intro b11 w H;refine J5 H ?_;clear H;intro w H;refine J3 H ?_;refine J1 H ?_;clear H;intro w H;refine VB 0 [4,5] H rfl (Q7.none rfl) rfl (by repeat first|exact .nil _|apply Q9.cons rfl) (by kernel_rfl) ?_;refine VB 1 [5] H rfl (Q7.none rfl) rfl (by repeat first|exact .nil _|apply Q9.cons rfl) (by kernel_rfl) ?_;refine Ja 2 ?_;refine Ja 3 ?_;refine Jo 4 H ?_;refine Gy H ?_;clear H;intro w H;refine Jo 5 H ?_;refine Gy H ?_;clear H;intro w H;refine Ja 6 ?_;refine Ja 7 ?_;refine Jx H ?_;replace H:=Js [7,6,1,1,1,1,1] 2 H;exact Q3 (Jz H (fun w' H' => .cellN H' rfl (by repeat first|exact .nil _|apply Q9.cons rfl) (.cellN H' rfl (by repeat first|exact .nil _|apply Q9.cons rfl) (.tmp (.tmp .nil)))) fun w' H'=>⟨_,_,rfl,H'.drop.drop⟩)
def QM (l:QL) (n:Nat) (place:Int) (ref:Bool):Nat:=if place < 0∨(n:Int)≤place then 3 else if VV l place.toNat≠ref then 9 else 0
theorem Zh {l:QL} {n:Nat} {place:Int} {ref:Bool} (h:QM l n place ref=0):∃ p:Nat,place=p∧p < n∧VV l p=ref:=by
 unfold QM at h;split at h
 ·omega
 ·split at h
  ·omega
  ·rename_i h1 h2;exact⟨place.toNat,by omega,by omega,by simpa using h2⟩
theorem Ey [Q4] {w:World} {p size:Nat} {mem own:List Nat} {l:List Q2} (H:Q0 w (ST p size mem own::l)):mem.length≤1048576:=by
 obtain⟨v,v2,u,ws,many,hok,_⟩:=UZ H;rw[hok.len];exact Nat.mul_le_mul hok.c2 hok.s2
theorem Ez [Q4] (ip sp bp size:Nat) (ls:List QL) (mem own:List Nat) (addr i c s n:Nat) (l:QL) (h:XM ls size mem own addr i c s n l) (place:Int) (ref:Bool) {w:World} {fr:List Q2} (H:Q0 w (Qr ip sp bp::Qi bp ls::ST sp size mem own::fr)) :
  Calls Tryz.prog 103 #[pp ip,.int .i64 addr,.int .i64 place,.bool ref] w (ret fun v w'=>v = .tuple #[.int .i64 ((if QM l n place ref=0 then addr+1+place.toNat else 0:Nat):Int),.int .i64 (QM l n place ref)]∧Q0 w' (Qr ip sp bp::Qi bp ls::ST sp size mem own::fr)):=by
 have hml:=Ey (H.pull 2);have h':=h;obtain⟨hm,hl,hR,hz,hh,hf,ho⟩:=h';refine QQ Tryz.func103 rfl (by kernel_rfl) ?_;refine Dh H ?_;refine J9 H ?_;refine Jc rfl rfl (I1 ip sp bp size ls mem own addr i c s n l h H) ?_;clear H;rintro v w ⟨vr,vq,rfl,H⟩;obtain⟨aa,ca,rfl⟩:=QE H (QH _) (by decide);obtain⟨ab,cb,rfl⟩:=QE H.drop (QH _) (by decide);refine Bh H ?_;refine VZ H ?_;clear H;intro b10 w H;refine VZ H ?_;clear H;intro b11 w H;refine J5 H ?_;clear H;intro w H;refine J5 H ?_;clear H;intro w H;refine Bw H ?_;refine GH H ?_;refine AF H ?_;replace H:=Js [2,2,0,0,0,0,0] 0 H;obtain⟨D1,H,hD1,hC1⟩:=sls_rd H (QH _) (by decide);obtain⟨D2,H,hD2,hC2⟩:=sls_rd H.swap (QH _) (by decide);by_cases hp:place < 0∨(n:Int)≤place
 ·have he:QM l n place ref=3:=by unfold QM;rw[if_pos hp]
  rw[he];refine Jc rfl rfl (Ts _ _ l hR c place hz hp ⟨(hD1 _).there,hD2 _⟩ H) ?_;clear H;rintro v w ⟨rfl,H⟩;replace H:=hC1 _ _ (hC2 _ _ H).swap;refine WB H ?_;refine QP ?_;refine J9 H ?_;refine XE H ?_;refine VX H ?_;replace H:=Js [4,4,4] 4 H;exact Q3 (Jy H rfl fun w' H'=>⟨rfl,H'⟩)
 ·obtain⟨p,rfl⟩:∃ p:Nat,place=p:=⟨place.toNat,by omega⟩;refine Jc rfl rfl (Tt _ _ l hR c p hz (by omega) ⟨(hD1 _).there,hD2 _⟩ H) ?_;clear H;rintro v w ⟨rfl,H⟩;replace H:=hC1 _ _ (hC2 _ _ H).swap;refine WB H ?_;refine Y4 (fun ms σ w=>ms=[]∧VV l p=ref∧σ 1 = .int .i64 addr∧σ 2 = .int .i64 p∧Q0 w (Qr ip sp bp::Qi bp ls::ST sp size mem own::fr)) ?_ ?_
  ·refine QP ?_;refine AB H ?_;refine Q5 rfl (BR rfl rfl (.inr rfl) rfl ?_);refine J0 H ?_;by_cases hr:VV l p=ref
   ·rw[show (!(VV l p == ref))=false by simp[hr]];refine V4 H ?_;replace H:=Js [4,4,4] 4 H;exact .inl ⟨rfl,rfl,hr,rfl,rfl,H⟩
   ·have he:QM l n (p:Int) ref=9:=by unfold QM;rw[if_neg hp,if_pos (by simpa using hr)]
    rw[show (!(VV l p == ref))=true by simpa using hr];refine Yc H ?_;replace H:=Js [4,4,4] 4 H;exact Q3 (.inr ⟨by simp,Jy H rfl fun w' H'=>⟨by rw[he];rfl,H'⟩⟩)
  ·clear H;rintro ms σ w ⟨rfl,hr,g1,g2,H⟩;have he:QM l n (p:Int) ref=0:=by unfold QM;rw[if_neg hp,if_neg (by simpa using hr)]
   rw[he,Q1 g1,Q1 g2];refine Xq H ?_;refine J3 H ?_;rw[Qb (x:=(addr:Int)+1) (by omega) (by omega),Qb (x:=(addr:Int)+1+(p:Int)) (by omega) (by omega)];refine Q3 (Jy H rfl fun w' H'=>⟨?_,H'⟩);show Value.tuple #[.int .i64 ((addr:Int)+1+(p:Int)),_]=_;rw[if_pos rfl,show (addr:Int)+1+(p:Int)=((addr+1+(p:Int).toNat:Nat):Int) by simp];rfl
theorem aB [Q4] (ip sp bp size:Nat) (ls:List QL) (mem own:List Nat) (addr i c s n:Nat) (l:QL) (h:XM ls size mem own addr i c s n l) (place:Int) {w:World} {fr:List Q2} (H:Q0 w (Qr ip sp bp::Qi bp ls::ST sp size mem own::fr)) :
  Calls Tryz.prog 217 #[pp ip,.int .i64 addr,.int .i64 place] w (ret fun v w'=>v = .tuple #[.int .u64 ((if QM l n place false=0 then mem.getD (addr+1+place.toNat) 0 else 0:Nat):Int),.int .i64 (QM l n place false)]∧Q0 w' (Qr ip sp bp::Qi bp ls::ST sp size mem own::fr)):=by
 have hrd:Calls Tryz.prog 244 #[pp ip,.int .i64 addr,.int .i64 place,.bool false,.func (.func 128) #[] #[]] w (ret fun v w'=>v = .tuple #[.int .u64 ((if QM l n place false=0 then mem.getD (addr+1+place.toNat) 0 else 0:Nat):Int),.int .i64 (QM l n place false)]∧Q0 w' (Qr ip sp bp::Qi bp ls::ST sp size mem own::fr)):=by
  refine QQ Tryz.func244 rfl (by kernel_rfl) ?_;refine J4 H ?_;refine VF H ?_;refine Xq H ?_;refine Jc rfl rfl (Ez ip sp bp size ls mem own addr i c s n l h place false H) ?_;clear H;rintro v w ⟨rfl,H⟩;refine UV H ?_;by_cases he:QM l n place false=0
  ·obtain⟨p,rfl,hp,hr⟩:=Zh he;rw[he];refine V4 H ?_;refine AH H ?_;replace H:=Js [2,0,0] 0 H;refine Jc rfl rfl (Hm sp size mem own (addr+1+p) (by have:=h.fit;omega) (h.owned.sub (by omega) (by omega) (by omega)) H) ?_;clear H;rintro v w ⟨rfl,H⟩;refine G2 H ?_;refine VX H ?_;replace H:=Js [1,1,0] 0 H;exact Q3 (Jy H rfl fun w' H'=>⟨rfl,H'⟩)
  ·rw[if_neg he,if_neg he];rw[show (((QM l n place false:Nat):Int) != 0)=true by simpa using he];refine VH H ?_;refine WJ H ?_;exact Q3 (Jy H rfl fun w' H'=>⟨rfl,H'⟩)
 refine QQ Tryz.func217 rfl (by kernel_rfl) ?_;refine J4 H ?_;refine Vc H ?_;refine Jc rfl rfl (hrd) ?_;clear H;rintro v w ⟨rfl,H⟩;refine AI H ?_;exact Q3 (Jy H rfl fun w' H'=>⟨rfl,H'⟩)
theorem U1 (k:VP):∃ a b d:Int,ZA k = .agg #[.int .i64 a,.int .i64 b,.int .i64 d]:=by cases k <;> exact⟨_,_,_,rfl⟩
theorem F0 [Q4] (ip sp bp size:Nat) (ls:List QL) (mem own:List Nat) (addr i c s n:Nat) (l:QL) (h:XM ls size mem own addr i c s n l) (place:Int) (k:VP) (hk:QM l n place true=0→G7 k∧mem.getD (addr+1+place.toNat) 0=VG k) (hk2:QM l n place true≠0→k = .none) {w:World} {fr:List Q2} (H:Q0 w (Qr ip sp bp::Qi bp ls::ST sp size mem own::fr)) :
  Calls Tryz.prog 19 #[pp ip,.int .i64 addr,.int .i64 place] w (ret fun v w'=>v = .tuple #[ZA k,.int .i64 (QM l n place true)]∧Q0 w' (Qr ip sp bp::Qi bp ls::ST sp size mem own::fr)):=by
 have hlk:∀ (q:Nat) (k:VP) (w:World) (fr:List Q2),q < mem.length→U0 size own q 1→G7 k→mem.getD q 0=VG k→Q0 w (ST sp size mem own::fr) →
   Calls Tryz.prog 68 #[pp sp,.int .i64 q] w (ret fun v w'=>v = .tuple #[ZA k,.int .i64 0]∧Q0 w' (ST sp size mem own::fr)):=by
  intro q k w fr h1 h2 h3 h4 H;refine QQ Tryz.func68 rfl (by kernel_rfl) ?_;refine Y7 H ?_;clear H;intro b4 w H;refine J0 H ?_;refine J9 H ?_;refine Jc rfl rfl (Hm sp size mem own q h1 h2 H.swap) ?_;clear H;rintro v w ⟨rfl,H⟩;rw[h4];refine G2 H ?_;refine YZ H ?_;refine Jc rfl rfl (TD k h3 H) ?_;clear H;rintro v w ⟨rfl,H⟩;obtain⟨a,b,d,hkv⟩:=U1 k;rw[hkv];refine EY H ?_;clear H;intro w H;refine J0 H ?_;exact Q3 (Jz H.swap (fun w' H' => .cellN H' rfl (by repeat first|exact .nil _|apply Q9.cons rfl) (.tmp .nil)) fun w' H'=>⟨rfl,H'.drop⟩)
 have hrd:∀ (w:World) (fr:List Q2),Q0 w (Qr ip sp bp::Qi bp ls::ST sp size mem own::fr)→Calls Tryz.prog 67 #[pp ip,.int .i64 addr,.int .i64 place,.bool true,.func (.func 68) #[] #[]] w (ret fun v w'=>v = .tuple #[ZA k,.int .i64 (QM l n place true)]∧Q0 w' (Qr ip sp bp::Qi bp ls::ST sp size mem own::fr)):=by
  intro w fr H;refine QQ Tryz.func67 rfl (by kernel_rfl) ?_;refine Y7 H ?_;clear H;intro b10 w H;refine J0 H ?_;refine Y7 H ?_;clear H;intro b12 w H;refine J2 H ?_;refine Xq H ?_;replace H:=Js [2,2,2,0,0] 0 H;refine Jc rfl rfl (Ez ip sp bp size ls mem own addr i c s n l h place true H) ?_;clear H;rintro v w ⟨rfl,H⟩;refine UV H ?_;by_cases he:QM l n place true=0
  ·obtain⟨hk3,hk4⟩:=hk he;obtain⟨p,rfl,hp,hr⟩:=Zh he;rw[he];refine V4 H ?_;refine AH H ?_;replace H:=Js [2,0,0,0,0] 0 H;refine Jc rfl rfl (hlk (addr+1+p) k _ _ (by have:=h.fit;omega) (h.owned.sub (by omega) (by omega) (by omega)) hk3 hk4 H) ?_;clear H;rintro v w ⟨rfl,H⟩;obtain⟨a,b,d,hkv⟩:=U1 k;rw[hkv];refine Ve H ?_;clear H;intro b15 w H;refine J5 H ?_;clear H;intro w H;refine Yl H ?_;refine KD H ?_;clear H;intro w H;refine J0 H ?_;replace H:=Js [5,2,2,1] 2 H;exact Q3 (Jz H (fun w' H' => .cellN H' rfl (by repeat first|exact .nil _|apply Q9.cons rfl) (.tmp .nil)) fun w' H'=>⟨rfl,H'.drop⟩)
  ·obtain rfl:=hk2 he;rw[if_neg he];rw[show (((QM l n place true:Nat):Int) != 0)=true by simpa using he];refine VH H ?_;refine KN H ?_;clear H;intro w H;refine J0 H ?_;replace H:=Js [4,0,0,0] 1 H;exact Q3 (Jz H (fun w' H' => .cellN H' rfl (by repeat first|exact .nil _|apply Q9.cons rfl) (.tmp .nil)) fun w' H'=>⟨rfl,H'.drop⟩)
 refine QQ Tryz.func19 rfl (by kernel_rfl) ?_;refine Y7 H ?_;clear H;intro b6 w H;refine E6 H ?_;replace H:=Js [1,1,1,0] 0 H;refine Jc rfl rfl (hrd _ _ H) ?_;clear H;rintro v w ⟨rfl,H⟩;obtain⟨a,b,d,hkv⟩:=U1 k;rw[hkv];refine EY H ?_;clear H;intro w H;refine J0 H ?_;replace H:=Js [3,0,0,0] 0 H;exact Q3 (Jz H (fun w' H' => .cellN H' rfl (by repeat first|exact .nil _|apply Q9.cons rfl) (.tmp .nil)) fun w' H'=>⟨rfl,H'.drop⟩)
theorem aC [Q4] (ip sp bp size:Nat) (ls:List QL) (mem own:List Nat) (addr i c s n:Nat) (l:QL) (h:XM ls size mem own addr i c s n l) (place:Int) (x:Nat) {w:World} {fr:List Q2} (H:Q0 w (Qr ip sp bp::Qi bp ls::ST sp size mem own::fr)) :
  Calls Tryz.prog 220 #[pp ip,.int .i64 addr,.int .i64 place,.int .u64 x] w (ret fun v w'=>v = .int .i64 (QM l n place false)∧Q0 w' (Qr ip sp bp::Qi bp ls::ST sp size (if QM l n place false=0 then mem.set (addr+1+place.toNat) x else mem) own::fr)):=by
 refine QQ Tryz.func220 rfl (by kernel_rfl) ?_;refine WK H ?_;refine Jc rfl rfl (Ez ip sp bp size ls mem own addr i c s n l h place false H) ?_;clear H;rintro v w ⟨rfl,H⟩;refine UV H ?_;by_cases he:QM l n place false=0
 ·obtain⟨p,rfl,hp,hr⟩:=Zh he;rw[he];refine V4 H ?_;refine Yk H ?_;refine J3 H ?_;replace H:=Js [2,0,0] 0 H;refine Vc H ?_;refine Q5 rfl (Qy (a:=[pp sp]) (b:=[]) rfl rfl (call (Ep sp size mem own (addr+1+p) x (by have:=h.fit;omega) (h.owned.sub (by omega) (by omega) (by omega)) H) ?_));clear H;rintro v w ⟨rfl,H⟩;refine J0 H ?_;replace H:=Js [1,1,0] 0 H;exact Q3 (Jy H rfl fun w' H'=>⟨rfl,H'⟩)
 ·rw[if_neg he,if_neg he];rw[show (((QM l n place false:Nat):Int) != 0)=true by simpa using he];refine Yc H ?_;exact Q3 (Jy H rfl fun w' H'=>⟨rfl,H'⟩)
theorem Mz [Q4] (ip sp bp size:Nat) (ls:List QL) (mem own:List Nat) (addr i c s n:Nat) (l:QL) (h:XM ls size mem own addr i c s n l) (place:Int) (k:VP) (hk:G7 k) {w:World} {fr:List Q2} (H:Q0 w (Qr ip sp bp::Qi bp ls::ST sp size mem own::fr)) :
  Calls Tryz.prog 44 #[pp ip,.int .i64 addr,.int .i64 place,ZA k] w (ret fun v w'=>v = .int .i64 (QM l n place true)∧Q0 w' (Qr ip sp bp::Qi bp ls::ST sp size (if QM l n place true=0 then mem.set (addr+1+place.toNat) (VG k) else mem) own::fr)):=by
 obtain⟨a,b,d,hkv⟩:=U1 k;have hW:=fun (w:World) (fr:List Q2) (H:Q0 w fr)=>TB k hk H;rw[hkv] at hW ⊢;refine QQ Tryz.func44 rfl (by kernel_rfl) ?_;refine J7 H ?_;clear H;intro b7 w H;refine J0 H ?_;replace H:=Js [1,1,1,0] 0 H;refine Vc H ?_;refine Jc rfl rfl (Ez ip sp bp size ls mem own addr i c s n l h place true H) ?_;clear H;rintro v w ⟨rfl,H⟩;refine UV H ?_;by_cases he:QM l n place true=0
 ·obtain⟨p,rfl,hp,hr⟩:=Zh he;rw[he];refine V4 H ?_;refine GH H ?_;refine Jc rfl rfl (hW _ _ H) ?_;clear H;rintro v w ⟨rfl,H⟩;refine G2 H ?_;refine Yk H ?_;refine J3 H ?_;replace H:=Js [2,0,0] 1 H;refine Vc H ?_;refine Q5 rfl (Qy (a:=[pp sp]) (b:=[]) rfl rfl (call (Ep sp size mem own (addr+1+p) (VG k) (by have:=h.fit;omega) (h.owned.sub (by omega) (by omega) (by omega)) H) ?_));clear H;rintro v w ⟨rfl,H⟩;refine J0 H ?_;replace H:=Js [1,1,0] 0 H;exact Q3 (Jy H rfl fun w' H'=>⟨rfl,H'⟩)
 ·rw[if_neg he,if_neg he];rw[show (((QM l n place true:Nat):Int) != 0)=true by simpa using he];refine Yc H ?_;replace H:=Js [0,0,0] 1 H;exact Q3 (Jy H rfl fun w' H'=>⟨rfl,H'⟩)
theorem CE [Q4] (ip sp bp size:Nat) (ls:List QL) (mem own:List Nat) (addr i c s n:Nat) (l:QL) (h:XM ls size mem own addr i c s n l) {w:World} {fr:List Q2} (H:Q0 w (Qr ip sp bp::Qi bp ls::ST sp size mem own::fr)) :
  Calls Tryz.prog 35 #[pp ip,.int .i64 addr] w (ret fun v w'=>v = .tuple #[Ri i c s,.int .i64 ((n+1:Nat):Int),.int .i64 0]∧Q0 w' (Qr ip sp bp::Qi bp ls::ST sp size mem own::fr)):=by
 have hml:=Ey (H.pull 2);have hf:=h.fit;refine QQ Tryz.func35 rfl (by kernel_rfl) ?_;refine Y7 H ?_;clear H;intro b4 w H;refine Dx H ?_;refine J9 H ?_;replace H:=Js [1,1,1,0] 0 H;refine Jc rfl rfl (I1 ip sp bp size ls mem own addr i c s n l h H) ?_;clear H;rintro v w ⟨vr,vq,rfl,H⟩;obtain⟨aa,ma,ca,rfl⟩:=Qs H;obtain⟨ab,mb,cb,rfl⟩:=Qs H.drop;refine Bh H ?_;refine VZ H ?_;clear H;intro b7 w H;refine VZ H ?_;clear H;intro b8 w H;refine J5 H ?_;clear H;intro w H;refine J5 H ?_;clear H;intro w H;refine Bw H ?_;refine GH H ?_;refine EY H ?_;clear H;intro w H;refine J3 H ?_;rw[Qb (x:=((n:Nat):Int)+1) (by omega) (by omega),show ((n:Nat):Int)+1=((n+1:Nat):Int) by omega];replace H:=Js [7,4,4,4] 4 H;exact Q3 (Jz H (fun w' H' => .cellN H' rfl (by repeat first|exact .nil _|apply Q9.cons rfl) (.tmp (.tmp .nil))) fun w' H'=>⟨rfl,H'.drop⟩)
theorem aD [Q4] (ip sp bp size:Nat) (ls:List QL) (mem own:List Nat) (addr i c s n:Nat) (l:QL) (hm:Xz i c s) (hl:ls[i - 1]? = some l) (hR:Vh l) (hz:VQ l c=(n,0)) (hf:addr+1+n≤mem.length) (ho:U0 size own addr (n+1)) {w:World} {fr:List Q2} (H:Q0 w (Qr ip sp bp::Qi bp ls::ST sp size mem own::fr)) :
  Calls Tryz.prog 82 #[pp ip,.int .i64 addr,Ri i c s] w (ret fun v w'=>v = .tuple #[.int .i64 ((n+1:Nat):Int),.int .i64 0]∧Q0 w' (Qr ip sp bp::Qi bp ls::ST sp size (V7 (mem.set addr (G6 i c s)) (addr+1) n 0) own::fr)):=by
 have hml:=Ey (H.pull 2);refine QQ Tryz.func82 rfl (by kernel_rfl) ?_;refine J7 H ?_;clear H;intro b5 w H;refine Dx H ?_;refine GH H ?_;refine Jc rfl rfl (TR i c s hm H) ?_;clear H;rintro v w ⟨rfl,H⟩;refine G2 H ?_;refine Gv H ?_;replace H:=Js [1,1,1,0] 0 H;refine Jc rfl rfl (My ip sp bp ls i c s n l hm hl hR hz H) ?_;clear H;rintro v w ⟨vr,vq,rfl,H⟩;obtain⟨aa,ma,ca,rfl⟩:=Qs H;obtain⟨ab,mb,cb,rfl⟩:=Qs H.drop;refine AE H ?_;refine VZ H ?_;clear H;intro b10 w H;refine J5 H ?_;clear H;intro w H;refine Bw H ?_;refine Yk H ?_;refine AE H ?_;replace H:=Js [5,3,3] 4 H;rw[Qb (x:=((n:Nat):Int)+1) (by omega) (by omega),show ((n:Nat):Int)+1=((n+1:Nat):Int) by omega];refine Jc rfl rfl (Tc sp size mem own addr (n+1) (by omega) (by omega) ho H) ?_;clear H;rintro v w ⟨rfl,H⟩;refine Yl H ?_;refine GI H ?_;refine Jc rfl rfl (Ep sp size mem own addr (G6 i c s) (by omega) (ho.sub (Nat.le_refl _) (by omega) (by omega)) H) ?_;clear H;rintro v w ⟨rfl,H⟩;refine XB H ?_;generalize hmm:mem.set addr (G6 i c s)=m2 at H;have hm2:m2.length=mem.length:=by rw[← hmm,length_set]
 refine G1 H ?_;refine Ql (fun ms σ w q=>ms=[]∧∃ j:Nat,j≤n∧q=n - j∧σ 0=pp ip∧σ 1 = .int .i64 addr∧σ 11 = .int .i64 n∧σ 53 = .int .i64 n∧σ 54 = .int .i64 j∧Q0 w (ST sp size (V7 m2 (addr+1) j 0) own::Qr ip sp bp::Qi bp ls::fr)) (m:=n) ⟨rfl,0,by omega,rfl,rfl,rfl,rfl,rfl,rfl,by rw[Er];exact H⟩ ?_;clear H;rintro ms σ w q ⟨rfl,j,hj,rfl,g0,g1,g11,g53,g54,H⟩;rw[Q1 g0,Q1 g1,Q1 g11,Q1 g53,Q1 g54];refine J8 H ?_;refine Qj rfl (fun h=>QD ?_) (fun h=>Qp ?_)
 ·have hlt:j < n:=by omega
  refine RH H ?_;refine Yk H ?_;refine AE H ?_;rw[Qb (x:=(addr:Int)+1) (by omega) (by omega),Qb (x:=(addr:Int)+1+(j:Int)) (by omega) (by omega),show (addr:Int)+1+(j:Int)=((addr+1+j:Nat):Int) by omega];refine Jc rfl rfl (Ep sp size _ own (addr+1+j) 0 (by rw[Vy (by omega)];omega) (ho.sub (by omega) (by omega) (by omega)) H) ?_;clear H;rintro v w ⟨rfl,H⟩;rw[Mi (by omega)] at H;refine XB H ?_;exact⟨_,⟨rfl,j+1,hlt,rfl,rfl,rfl,rfl,rfl,Qc (by omega),H⟩,by omega⟩
 ·have hge:j=n:=by omega
  subst hge;refine WJ H ?_;rw[Qb (x:=((j:Nat):Int)+1) (by omega) (by omega),show ((j:Nat):Int)+1=((j+1:Nat):Int) by omega];replace H:=Js [1,1,0] 0 H;exact Q3 (Jy H rfl fun w' H'=>⟨rfl,H'⟩)
end Go.Proofs.YtbnnnljagkjpiaaGreatDoor
