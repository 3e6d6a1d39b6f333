/- Cells: what is proved on the way: every input of the statement; no condition. Texts joined: CelR BumA ImgA ImgB ImgC ImgD LnkA SrtI BagA RmC RmD. -/
import Derived.Test.YtbnnnljagkjpiaaGreatDoorBhf
import Derived.Test.YtbnnnljagkjpiaaGreatDoorBhd
import Derived.Test.YtbnnnljagkjpiaaGreatDoorBhc
set_option linter.unusedVariables false
set_option linter.unusedSimpArgs false
namespace Go.Proofs.YtbnnnljagkjpiaaGreatDoor
open List
theorem Zn.chunk {size:Nat} (h1:1≤size) {own:List Nat} {e:QQ} (h:Zn size own e) (c:Nat):(QN e≤c*size∨(c+1)*size≤e.addr)∨∃ r:Nat,own[c]? = some r∧(r:Int)=e.region∧1≤r:=by
 by_cases ha:c < e.addr / size
 ·left;right;have:=(Nat.le_div_iff_mul_le (by omega)).1 (Nat.succ_le_of_lt ha);exact this
 ·by_cases hb:(e.addr+e.ws.length) / size < c
  ·left;left;have:=(Nat.div_lt_iff_lt_mul (by omega)).1 hb;unfold QN;omega
  ·right;exact h.2 c (by omega) (by omega)
inductive U1 (size:Nat) (own mem:List Nat) (r:Nat) (S:QH) (n:Nat):List Nat→List Nat→QH→Nat→Prop where
 | room (h:n≤S.fin - S.at'):U1 size own mem r S n own mem { S with at':=S.at'+n } S.at'
 | one {a:Nat} (ha:a+1≤own.length) (hf:own[a]? = some 0) (hn:n≤size):U1 size own mem r S n (V4 own a 1 r) (V4 mem (a*size) (1*size) 0) ⟨S.parts++[(a,1)],a*size+n,(a+1)*size⟩ (a*size)
 | run {a k:Nat} (hk:2≤k) (ha:a+k≤own.length) (hf:∀ c,a≤c→c < a+k→own[c]? = some 0) (hn:n≤k*size) (hn2:(k - 1)*size < n):U1 size own mem r S n (V4 own a k r) (V4 mem (a*size) (k*size) 0) ⟨S.parts++[(a,k)],S.at',S.fin⟩ (a*size)
theorem GC (a b:List (Nat×Nat)):QK (a++b)=QK a++QK b:=by simp[QK]
theorem Xo (a k:Nat):QK [(a,k)]=(List.range k).map (a+·):=by simp[QK]
theorem GD {a k c:Nat}:c∈(List.range k).map (a+·)↔a≤c∧c < a+k:=by
 simp only[mem_map,mem_range];constructor
 ·rintro⟨i,h,rfl⟩;omega
 ·rintro⟨h1,h2⟩;exact⟨c - a,by omega,by omega⟩
theorem Hq (a k:Nat):((List.range k).map (a+·)).Nodup:=by
 refine List.Pairwise.map _ (fun x y h=>?_) nodup_range;omega
theorem Mj {size:Nat} {own:List Nat} {a k r:Nat} (ha:a+k≤own.length) (hf:∀ c,a≤c→c < a+k→own[c]? = some 0) {e:QQ} (h:Zn size own e):Zn size (V4 own a k r) e:=by
 refine⟨by rw[Vu ha];exact h.1,fun c h1 h2=>?_⟩;obtain⟨q,hq,hr,h1⟩:=h.2 c h1 h2;rw[Zm ha,if_neg]
 ·exact⟨q,hq,hr,h1⟩
 ·rintro⟨h2,h3⟩;rw[hf c h2 h3] at hq;cases hq;omega
theorem Mk {size:Nat} {own:List Nat} {a k r:Nat} (ha:a+k≤own.length) (hf:∀ c,a≤c→c < a+k→own[c]? = some 0) {q:Int} {S:QH} (hq:q≠r) (h:GB size own q S):GB size (V4 own a k r) q S:=by
 refine⟨h.at1,h.fin,by rw[Vu ha];exact h.parts,h.nodup,fun c=>?_⟩;rw[h.owned,Zm ha];by_cases hc:a≤c∧c < a+k
 ·rw[if_pos hc,hf c hc.1 hc.2];constructor
  ·rintro⟨x,h1,_,h3⟩;cases h1;omega
  ·rintro⟨x,h1,h2,_⟩;cases h1;omega
 ·rw[if_neg hc]
theorem Ml {size:Nat} {own:List Nat} {a k r:Nat} (ha:a+k≤own.length) (hf:∀ c,a≤c→c < a+k→own[c]? = some 0) (hk:1≤k) (hr:1≤r) {S:QH} (h:GB size own r S) {x y:Nat}
  (h1:x≤y) (h2:y≠0→∃ c,y=(c+1)*size∧c*size < x∧(c,1)∈S.parts++[(a,k)]):GB size (V4 own a k r) r ⟨S.parts++[(a,k)],x,y⟩:=by
 refine⟨h1,h2,?_,?_,fun c=>?_⟩
 ·intro p hp;rw[Vu ha]
  rcases mem_append.1 hp with hp|hp
  ·exact h.parts p hp
  ·simp at hp;subst hp;exact⟨hk,ha⟩
 ·show (QK (S.parts++[(a,k)])).Nodup;rw[GC,Xo,nodup_append];refine⟨h.nodup,Hq a k,fun c hc d hd=>?_⟩;rintro rfl;obtain⟨q,h1,_,h3⟩:=(h.owned c).1 hc;have h4:=GD.1 hd;rw[hf c h4.1 h4.2] at h1;cases h1;omega
 ·show c∈QK (S.parts++[(a,k)])↔_;rw[GC,Xo,mem_append,GD,h.owned,Zm ha];by_cases hc:a≤c∧c < a+k
  ·rw[if_pos hc];constructor
   ·intro _;exact⟨r,rfl,rfl,by omega⟩
   ·intro _;exact .inr hc
  ·rw[if_neg hc];constructor
   ·rintro(h|h)
    ·exact h
    ·exact absurd h hc
   ·intro h;exact .inl h
theorem Us {α:Type} {a b:List α} {x y:α} (h:x∈a++b):x∈a++y::b:=by
 rcases mem_append.1 h with h|h
 ·exact mem_append.2 (.inl h)
 ·exact mem_append.2 (.inr (mem_cons_of_mem _ h))
theorem Zz {α:Type} {a b:List α} {x y:α} (h:x∈a++y::b):x=y∨x∈a++b:=by
 rcases mem_append.1 h with h|h
 ·exact .inr (mem_append.2 (.inl h))
 ·rcases mem_cons.1 h with h|h
  ·exact .inl h
  ·exact .inr (mem_append.2 (.inr h))
theorem CR {K V:Type} {g1 g2:List (K×V)} {x x':K×V} (h:x'.1=x.1):(g1++x'::g2).map (·.1)=(g1++x::g2).map (·.1):=by simp[h]
theorem Ti {s:CS} (h:WF s) {i g0:Nat} (hi:s.tab[i]? = some ⟨g0,none⟩) (hg:g0≤254) {r:Nat} {q q2:Nat} {S:QH} {L:List Nat} {p1 p2:List (Int×Nat×QH)} {m1 m2:List (Int×Nat×List Nat)}
  (hs:s.sps=p1++((r:Int),q,S)::p2) (hm:s.mns=m1++((r:Int),q2,L)::m2) (hnd:(s.par.map (·.1)).Nodup) {e:QQ} (hreg:e.region=r) (ok:Ur s.lays i e) {own' mem mem':List Nat} {S':QH}
  (al:U1 s.size s.own mem r S (e.ws.length+1) own' mem' S' e.addr) {L':List Nat} (hL:L'.Pairwise (· < ·)) (hL':∀ j,j∈L'↔j=i∨j∈L) :
  WF { s with own:=own',tab:=s.tab.set i ⟨g0+1,some e⟩,sps:=p1++((r:Int),q,S')::p2,mns:=m1++((r:Int),q2,L')::m2 }:=by
 have hs1:=h.size.1;have hil:i < s.tab.length:=(List.getElem?_eq_some_iff.1 hi).1;have hS:GB s.size s.own r S:=h.spc ((r:Int),q,S) (by rw[hs];simp)
 have hlive:∃ y,((r:Int),y)∈s.par:=by
  have:(r:Int)∈s.par.map (·.1):=by rw[← h.skeys,hs];simp
  obtain⟨⟨a,b⟩,hab,rfl⟩:=mem_map.1 this;exact⟨b,hab⟩
 have hr1:1≤r:=by obtain⟨y,hy⟩:=hlive;have:=(h.par.2.2 _ _ hy).1;omega
 have hnk:((p1++((r:Int),q,S)::p2).map (·.1)).Nodup:=by rw[← hs,h.skeys];exact hnd
 have hother:∀ x∈p1++p2,x∈s.sps∧x.1≠(r:Int):=by
  intro x hx;refine⟨by rw[hs];exact Us hx,fun hx1=>?_⟩;rw[map_append,map_cons,nodup_append] at hnk;obtain⟨_,h2,h3⟩:=hnk
  rcases mem_append.1 hx with hx|hx
  ·exact h3 x.1 (mem_map.2 ⟨x,hx,rfl⟩) (r:Int) (by simp) hx1
  ·rw[nodup_cons] at h2;exact h2.1 (mem_map.2 ⟨x,hx,hx1⟩)
 have hmem:∀ x,x∈p1++((r:Int),q,S')::p2→x=((r:Int),q,S')∨x∈p1++p2:=by
  exact fun x hx=>Zz hx
 have key:own'.length=s.own.length∧Zn s.size own' e∧(∀ f,Zn s.size s.own f→Zn s.size own' f)∧GB s.size own' r S'∧(∀ x∈p1++p2,GB s.size own' x.1 x.2.2) ∧
   (∀ (j g:Nat) (f:QQ),s.tab[j]? = some ⟨g,some f⟩→(QN f≤e.addr∨QN e≤f.addr)∧(QN f≤S'.at'∨S'.fin≤f.addr))∧(QN e≤S'.at'∨S'.fin≤e.addr)∧(∀ (c x:Nat),own'[c]? = some x→x≠0→x=r∨s.own[c]? = some x):=by
  generalize hea:e.addr=ad at al;cases al with
  | room hn=>
   have hfin:S.fin≠0:=by omega
   obtain⟨c,hc1,hc2,hc3⟩:=hS.fin hfin
   have hcm:c∈QK S.parts:=by
    unfold QK;rw[mem_flatMap];exact⟨(c,1),hc3,by simp⟩
   obtain⟨y,hy1,hy2,hy3⟩:=(hS.owned c).1 hcm;have hat:=hS.at1;have e1:e.addr / s.size=c:=by rw[hea];exact Nat.div_eq_of_lt_le (by omega) (by rw[← hc1];omega)
   have e2:(e.addr+e.ws.length) / s.size=c:=by rw[hea];exact Nat.div_eq_of_lt_le (by omega) (by rw[← hc1];omega)
   have hcl:c < s.own.length:=(List.getElem?_eq_some_iff.1 hy1).1;have hle:(c+1)*s.size≤s.own.length*s.size:=Nat.mul_le_mul_right _ hcl;refine⟨rfl,⟨by unfold QN;omega,fun d h1 h2=>?_⟩,fun _ hf=>hf,⟨by show S.at'+_≤S.fin;omega,fun _=>⟨c,hc1,by show c*s.size < S.at'+_;omega,hc3⟩,hS.parts,hS.nodup,hS.owned⟩,fun x hx=>h.spc x (hother x hx).1,fun j g f hj=>?_,.inl ?_,fun _ _ h1 _ => .inr h1⟩
   ·have:d=c:=by omega
    subst this;exact⟨y,hy1,by rw[hy2,hreg],by omega⟩
   ·have:QN f≤S.at'∨S.fin≤f.addr:=h.free ((r:Int),q,S) (by rw[hs];simp) _ _ _ hj;have hee:QN e=S.at'+(e.ws.length+1):=by unfold QN;omega
    rw[hee];constructor
    ·rcases this with h1|h1
     ·left;exact h1
     ·right;show S.at'+_≤f.addr;omega
    ·rcases this with h1|h1
     ·left;show QN f≤S.at'+_;omega
     ·right;exact h1
   ·show QN e≤S.at'+_;unfold QN;omega
  | @one a ha hf hn=>
   have hf':∀ c,a≤c→c < a+1→s.own[c]? = some 0:=fun c h1 h2=>by rw[show c=a by omega];exact hf
   have hsz:(a+1)*s.size=a*s.size+s.size:=Nat.succ_mul _ _;have hle:(a+1)*s.size≤s.own.length*s.size:=Nat.mul_le_mul_right _ ha;have e1:e.addr / s.size=a:=by rw[hea];exact Nat.mul_div_cancel _ (by omega)
   have e2:(e.addr+e.ws.length) / s.size=a:=by rw[hea];exact Nat.div_eq_of_lt_le (by omega) (by omega)
   have hoff:∀ (j g:Nat) (f:QQ),s.tab[j]? = some ⟨g,some f⟩→QN f≤a*s.size∨(a+1)*s.size≤f.addr:=fun j g f hj=>by
    rcases (h.obj _ _ _ hj).2.1.chunk hs1 a with h1|⟨x,h1,_,h3⟩
    ·exact h1
    ·rw[hf] at h1;cases h1;omega
   refine⟨Vu ha,⟨by rw[Vu ha];unfold QN;omega,fun d h1 h2=>?_⟩,fun f hl=>Mj ha hf' hl,?_,fun x hx=>Mk ha hf' (hother x hx).2 (h.spc x (hother x hx).1),fun j g f hj=>?_,.inl ?_,fun c x h1 h2=>?_⟩
   ·have:d=a:=by omega
    subst this;rw[Zm ha,if_pos (by omega)];exact⟨r,rfl,hreg.symm,hr1⟩
   ·exact Ml ha hf' (by omega) hr1 hS (by omega) (fun _=>⟨a,rfl,by omega,by simp⟩)
   ·have:=hoff j g f hj;have hee:QN e=a*s.size+(e.ws.length+1):=by unfold QN;omega
    rw[hee];constructor
    ·rcases this with h1|h1
     ·left;exact h1
     ·right;omega
    ·rcases this with h1|h1
     ·left;show QN f≤a*s.size+_;omega
     ·right;exact h1
   ·show QN e≤a*s.size+_;unfold QN;omega
   ·rw[Zm ha] at h1;split at h1
    ·cases h1;exact .inl rfl
    ·exact .inr h1
  | @run a k hk ha hf hn hn2=>
   have hsz:(a+k)*s.size=a*s.size+k*s.size:=Nat.add_mul _ _ _;have hsz2:(k - 1+1)*s.size=(k - 1)*s.size+s.size:=Nat.succ_mul _ _;rw[show k - 1+1=k by omega] at hsz2;have hle:(a+k)*s.size≤s.own.length*s.size:=Nat.mul_le_mul_right _ ha;have e1:e.addr / s.size=a:=by rw[hea];exact Nat.mul_div_cancel _ (by omega)
   have e2:(e.addr+e.ws.length) / s.size < a+k:=by rw[hea,Nat.div_lt_iff_lt_mul (by omega)];omega
   have hoff:∀ c,a≤c→c < a+k→∀ (j g:Nat) (f:QQ),s.tab[j]? = some ⟨g,some f⟩→QN f≤c*s.size∨(c+1)*s.size≤f.addr:=fun c hc1 hc2 j g f hj=>by
    rcases (h.obj _ _ _ hj).2.1.chunk hs1 c with h1|⟨x,h1,_,h3⟩
    ·exact h1
    ·rw[hf c hc1 hc2] at h1;cases h1;omega
   have hoff2:∀ (j g:Nat) (f:QQ),s.tab[j]? = some ⟨g,some f⟩→QN f≤a*s.size∨(a+k)*s.size≤f.addr:=fun j g f hj=>by
    have hend:f.addr+1≤QN f:=by unfold QN;omega
    by_cases h0:QN f≤a*s.size
    ·exact .inl h0
    ·refine .inr ?_
     have:∀ m,m < k→(a+m+1)*s.size≤f.addr:=by
      intro m
      induction m with
      | zero=>
       intro _
       rcases hoff a (by omega) (by omega) j g f hj with h1|h1
       ·exact absurd h1 h0
       ·exact h1
      | succ m ih=>
       intro hm;have h2:=ih (by omega)
       rcases hoff (a+(m+1)) (by omega) (by omega) j g f hj with h1|h1
       ·rw[show a+(m+1)=a+m+1 by omega] at h1;omega
       ·exact h1
     have:=this (k - 1) (by omega);rw[show a+(k - 1)+1=a+k by omega] at this;exact this
   refine⟨Vu ha,⟨by rw[Vu ha];unfold QN;omega,fun d h1 h2=>?_⟩,fun f hl=>Mj ha hf hl,?_,fun x hx=>Mk ha hf (hother x hx).2 (h.spc x (hother x hx).1),fun j g f hj=>?_,?_,fun c x h1 h2=>?_⟩
   ·rw[Zm ha,if_pos (by omega)];exact⟨r,rfl,hreg.symm,hr1⟩
   ·refine Ml ha hf (by omega) hr1 hS hS.at1 (fun h0=>?_);obtain⟨c,h1,h2,h3⟩:=hS.fin h0;exact⟨c,h1,h2,by simp[h3]⟩
   ·have:=hoff2 j g f hj;have hee:QN e=a*s.size+(e.ws.length+1):=by unfold QN;omega
    rw[hee];refine⟨?_,h.free ((r:Int),q,S) (by rw[hs];simp) _ _ _ hj⟩
    rcases this with h1|h1
    ·left;exact h1
    ·right;omega
   ·show QN e≤S.at'∨S.fin≤a*s.size;by_cases h0:S.fin=0
    ·right;omega
    obtain⟨c,hc1,hc2,hc3⟩:=hS.fin h0
    have hcm:c∈QK S.parts:=by
     unfold QK;rw[mem_flatMap];exact⟨(c,1),hc3,by simp⟩
    obtain⟨y,hy1,hy2,hy3⟩:=(hS.owned c).1 hcm;by_cases hca:c < a
    ·right;have:(c+1)*s.size≤a*s.size:=Nat.mul_le_mul_right _ hca;omega
    ·by_cases hcb:c < a+k
     ·rw[hf c (by omega) hcb] at hy1;cases hy1;omega
     ·left;have:(a+k)*s.size≤c*s.size:=Nat.mul_le_mul_right _ (by omega);unfold QN;omega
   ·rw[Zm ha] at h1;split at h1
    ·cases h1;exact .inl rfl
    ·exact .inr h1
 obtain⟨k1,k2,k3,k4,k5,k6,k7,k8⟩:=key;have hsk:(p1++((r:Int),q,S')::p2).map (·.1)=s.par.map (·.1):=by rw[← h.skeys,hs];exact CR rfl
 have hmk:(m1++((r:Int),q2,L')::m2).map (·.1)=s.par.map (·.1):=by rw[← h.mkeys,hm];exact CR rfl
 have hnm:((m1++((r:Int),q2,L)::m2).map (·.1)).Nodup:=by rw[← hm,h.mkeys];exact hnd
 refine⟨h.size,by show 1≤own'.length∧own'.length≤63;rw[k1];exact h.own,by show 1≤(s.tab.set _ _).length∧(s.tab.set _ _).length≤63;rw[length_set];exact h.slots,h.lays,?_,?_,?_,h.par,hsk,hmk,?_,?_,?_,?_⟩
 ·intro j t hj
  rcases Qx hj with ⟨rfl,rfl,_⟩|⟨_,hj⟩
  ·exact⟨by show g0+1≤255;omega,fun _=>by show 1≤g0+1;omega⟩
  ·exact h.gen _ _ hj
 ·intro j g f hj
  rcases Qx hj with ⟨rfl,ht,_⟩|⟨_,hj⟩
  ·injection ht with h1 h2
   injection h2 with h2
   subst h2;exact⟨ok,k2,by rw[hreg];exact hlive⟩
  ·obtain⟨o1,o2,o3⟩:=h.obj _ _ _ hj;exact⟨o1,k3 _ o2,o3⟩
 ·intro j k m n f f' hne hj hk
  rcases Qx hj with ⟨rfl,ht,_⟩|⟨hji,hj'⟩ <;> rcases Qx hk with ⟨rfl,hu,_⟩|⟨hki,hk'⟩
  ·exact absurd rfl hne
  ·injection ht with h1 h2
   injection h2 with h2
   subst h2;exact(k6 _ _ _ hk').1.symm
  ·injection hu with h1 h2
   injection h2 with h2
   subst h2;exact(k6 _ _ _ hj').1
  ·exact h.apart _ _ _ _ _ _ hne hj' hk'
 ·intro x hx
  rcases hmem x hx with rfl|hx
  ·exact k4
  ·exact k5 x hx
 ·intro x hx j g f hj
  rcases Qx hj with ⟨rfl,ht,_⟩|⟨_,hj⟩
  ·injection ht with h1 h2
   injection h2 with h2
   subst h2
   rcases hmem x hx with rfl|hx
   ·exact k7
   ·have hok:=k5 x hx;by_cases h0:x.2.2.fin=0
    ·right;omega
    obtain⟨c,hc1,hc2,hc3⟩:=hok.fin h0
    have hcm:c∈QK x.2.2.parts:=by
     unfold QK;rw[mem_flatMap];exact⟨(c,1),hc3,by simp⟩
    obtain⟨y,hy1,hy2,hy3⟩:=(hok.owned c).1 hcm;have hat:=hok.at1
    rcases k2.chunk hs1 c with (h1|h1)|⟨z,hz1,hz2,hz3⟩
    ·left;omega
    ·right;omega
    ·exact absurd (show x.1=(r:Int) by rw[hy1] at hz1;cases hz1;rw[← hy2,hz2,hreg]) (hother x hx).2
  ·rcases hmem x hx with rfl|hx
   ·exact(k6 _ _ _ hj).2
   ·exact h.free x (hother x hx).1 _ _ _ hj
 ·intro c x hc h0
  rcases k8 c x hc h0 with rfl|h1
  ·exact hlive
  ·exact h.live c x h1 h0
 ·intro x hx
  have hx':x=((r:Int),q2,L')∨(x∈s.mns∧x.1≠(r:Int)):=by
   have hx0:x=((r:Int),q2,L')∨x∈m1++m2:=by
    exact Zz hx
   rcases hx0 with h1|h1
   ·exact .inl h1
   ·refine .inr ⟨by rw[hm];exact Us h1,fun hx1=>?_⟩;rw[map_append,map_cons,nodup_append] at hnm;obtain⟨_,h2,h3⟩:=hnm
    rcases mem_append.1 h1 with hx|hx
    ·exact h3 x.1 (mem_map.2 ⟨x,hx,rfl⟩) (r:Int) (by simp) hx1
    ·rw[nodup_cons] at h2;exact h2.1 (mem_map.2 ⟨x,hx,hx1⟩)
  rcases hx' with rfl|⟨hx,hne⟩
  ·refine⟨hL,fun j=>?_⟩;show j∈L'↔_;rw[hL',(h.mine ((r:Int),q2,L) (by rw[hm];simp)).2];constructor
   ·rintro(rfl|⟨g,f,h1,h2⟩)
    ·exact⟨g0+1,e,by show (s.tab.set _ _)[_]? = _;simp[hil],hreg⟩
    ·by_cases hji:j=i
     ·subst hji;rw[hi] at h1;cases h1
     ·exact⟨g,f,by show (s.tab.set _ _)[_]? = _;rw[getElem?_set_ne (fun q=>hji q.symm)];exact h1,h2⟩
   ·rintro⟨g,f,h1,h2⟩
    rcases Qx h1 with ⟨rfl,_,_⟩|⟨_,h1⟩
    ·exact .inl rfl
    ·exact .inr ⟨g,f,h1,h2⟩
  ·obtain⟨h1,h2⟩:=h.mine x hx;refine⟨h1,fun j=>?_⟩;rw[h2];constructor
   ·rintro⟨g,f,h3,h4⟩;by_cases hji:j=i
    ·subst hji;rw[hi] at h3;cases h3
    ·exact⟨g,f,by show (s.tab.set _ _)[_]? = _;rw[getElem?_set_ne (fun q=>hji q.symm)];exact h3,h4⟩
   ·rintro⟨g,f,h3,h4⟩
    rcases Qx h3 with ⟨rfl,ht,_⟩|⟨_,h3⟩
    ·injection ht with _ h5
     injection h5 with h5
     subst h5;exact absurd (h4.symm.trans hreg) hne
    ·exact⟨g,f,h3,h4⟩
theorem Mm {s:CS} (h:WF s) {mem mem' own':List Nat} (hm:mem.length=s.own.length*s.size) {r n ad:Nat} {S S':QH} (al:U1 s.size s.own mem r S n own' mem' S' ad) :
  mem'.length=mem.length∧∀ (j g:Nat) (f:QQ),s.tab[j]? = some ⟨g,some f⟩→∀ k,f.addr≤k→k < QN f→mem'[k]? = mem[k]?:=by
 have hs1:=h.size.1
 have off:∀ (a K:Nat),a+K≤s.own.length→(∀ c,a≤c→c < a+K→s.own[c]? = some 0)→(V4 mem (a*s.size) (K*s.size) 0).length=mem.length ∧
   ∀ (j g:Nat) (f:QQ),s.tab[j]? = some ⟨g,some f⟩→∀ k,f.addr≤k→k < QN f→(V4 mem (a*s.size) (K*s.size) 0)[k]? = mem[k]?:=by
  intro a K ha hf;have hsz:(a+K)*s.size=a*s.size+K*s.size:=Nat.add_mul _ _ _;have hle:(a+K)*s.size≤s.own.length*s.size:=Nat.mul_le_mul_right _ ha;refine⟨Vu (by omega),fun j g f hj k h1 h2=>?_⟩;rw[Zm (by omega),if_neg];rintro⟨h3,h4⟩;unfold QN at h2;have c1:f.addr / s.size≤k / s.size:=Nat.div_le_div_right h1;have c2:k / s.size≤(f.addr+f.ws.length) / s.size:=Nat.div_le_div_right (by omega);obtain⟨q,hq,_,hq1⟩:=(h.obj _ _ _ hj).2.1.2 _ c1 c2;have c3:a≤k / s.size:=(Nat.le_div_iff_mul_le (by omega)).2 h3;have c4:k / s.size < a+K:=(Nat.div_lt_iff_lt_mul (by omega)).2 (by omega);rw[hf _ c3 c4] at hq;cases hq;omega
 cases al with
 | room _=>exact⟨rfl,fun _ _ _ _ _ _ _=>rfl⟩
 | @one a ha hf _=>exact off a 1 ha (fun c h1 h2=>by rw[show c=a by omega];exact hf)
 | @run a k _ ha hf _ _=>exact off a k ha hf
theorem Tj {s:CS} (h:WF s) {mem mem1 mem2 own':List Nat} (m:VM s mem) {r i g0:Nat} (hi:s.tab[i]? = some ⟨g0,none⟩) {S S':QH} {e:QQ} (al:U1 s.size s.own mem r S (e.ws.length+1) own' mem1 S' e.addr)
  (hl:mem2.length=mem1.length) (hown:own'.length=s.own.length) (hh:mem2[e.addr]? = some (Zy e.lay e.count i)) (hw:∀ (p w:Nat),e.ws[p]? = some w→mem2[e.addr+1+p]? = some w) (hout:∀ k,k < e.addr∨QN e≤k→mem2[k]? = mem1[k]?)
  (hap:∀ (j g:Nat) (f:QQ),s.tab[j]? = some ⟨g,some f⟩→QN f≤e.addr∨QN e≤f.addr) {s':CS} (h1:s'.own=own') (h2:s'.size=s.size) (h3:s'.tab=s.tab.set i ⟨g0+1,some e⟩):VM s' mem2:=by
 obtain⟨a1,a2⟩:=Mm h m.len al
 have old:∀ (j g:Nat) (f:QQ),s.tab[j]? = some ⟨g,some f⟩→∀ k,f.addr≤k→k < QN f→mem2[k]? = mem[k]? := fun j g f hj k k1 k2=>by
  rw[← a2 j g f hj k k1 k2];refine hout k ?_
  rcases hap j g f hj with h|h
  ·left;omega
  ·right;omega
 refine⟨by rw[hl,a1,h1,h2,hown];exact m.len,?_,?_⟩
 ·intro j g f hj;rw[h3] at hj
  rcases Qx hj with ⟨rfl,ht,_⟩|⟨_,hj⟩
  ·injection ht with _ h5
   injection h5 with h5
   subst h5;exact hh
  ·rw[old j g f hj f.addr (Nat.le_refl _) (by unfold QN;omega)];exact m.head _ _ _ hj
 ·intro j g f hj p w hp;rw[h3] at hj
  rcases Qx hj with ⟨rfl,ht,_⟩|⟨_,hj⟩
  ·injection ht with _ h5
   injection h5 with h5
   subst h5;exact hw p w hp
  ·have hp1:=(List.getElem?_eq_some_iff.1 hp).1;rw[old j g f hj _ (by omega) (by unfold QN;omega)];exact m.words _ _ _ hj p w hp
theorem Tk {s:CS} (h:WF s) {parent:Int} {q q2:Nat} (hl:s.par.length < 64) (hlast:s.last+1 < 1000000) :
  WF { s with last:=s.last+1,par:=s.par++[(((s.last+1:Nat):Int),parent)],sps:=s.sps++[(((s.last+1:Nat):Int),q,⟨[],0,0⟩)],mns:=s.mns++[(((s.last+1:Nat):Int),q2,[])] }:=by
 have hup:∀ r x,(r,x)∈s.par→r≠((s.last+1:Nat):Int):=fun r x hx=>by
  have:=(h.par.2.2 r x hx).2;omega
 refine⟨h.size,h.own,h.slots,h.lays,h.gen,fun i g e hi=>?_,h.apart,⟨by show (s.par++[_]).length≤64;simp;omega,hlast,?_⟩,?_,?_,?_,?_,fun c r hc h0=>?_,?_⟩
 ·obtain⟨a,b,y,hy⟩:=h.obj i g e hi;exact⟨a,b,y,mem_append.2 (.inl hy)⟩
 ·intro r x hx;have hx:(r,x)∈s.par++[_]:=hx;show 1≤r∧r≤((s.last+1:Nat):Int)
  rcases mem_append.1 hx with hx|hx
  ·have:=h.par.2.2 r x hx;omega
  ·simp at hx;omega
 ·have:=h.skeys;simp[this]
 ·have:=h.mkeys;simp[this]
 ·intro x hx
  rcases mem_append.1 (show x∈s.sps++[_] from hx) with hx|hx
  ·exact h.spc x hx
  ·simp at hx;subst hx;refine⟨Nat.le_refl _,fun h0=>absurd rfl h0,fun p hp=>(by cases hp),by simp[QK],fun c=>⟨fun hc=>by simp[QK] at hc,?_⟩⟩;rintro⟨y,h1,h2,h3⟩;obtain⟨z,hz⟩:=h.live c y h1 h3;exact absurd h2 (hup _ _ hz)
 ·intro x hx i g e hi
  rcases mem_append.1 (show x∈s.sps++[_] from hx) with hx|hx
  ·exact h.free x hx i g e hi
  ·simp at hx;subst hx;exact .inr (Nat.zero_le _)
 ·obtain⟨y,hy⟩:=h.live c r hc h0;exact⟨y,mem_append.2 (.inl hy)⟩
 ·intro x hx
  rcases mem_append.1 (show x∈s.mns++[_] from hx) with hx|hx
  ·exact h.mine x hx
  ·simp at hx;subst hx;refine⟨by simp,fun i=>⟨fun hc=>by simp at hc,?_⟩⟩;rintro⟨g,e,h1,h2⟩;obtain⟨_,_,y,hy⟩:=h.obj _ _ _ h1;exact absurd h2 (hup _ _ hy)
theorem Tl {lays:List QJ} {i:Nat} {e:QQ} (h:Ur lays i e) (x:QJ):Ur (lays++[x]) i e:=by
 obtain⟨m,l,h1,h2⟩:=h;exact⟨m,l,by rw[getElem?_append_left (List.getElem?_eq_some_iff.1 h1).1];exact h1,h2⟩
theorem Tn {s:CS} (h:WF s) {l:QJ} (hr:VT l) (hl:s.lays.length < 64):WF { s with lays:=s.lays++[l] }:=by
 refine⟨h.size,h.own,h.slots,⟨by show (s.lays++[l]).length≤64;simp;omega,fun x hx=>?_⟩,h.gen,fun i g e hi=>?_,h.apart,h.par,h.skeys,h.mkeys,h.spc,h.free,h.live,h.mine⟩
 ·rcases mem_append.1 hx with hx|hx
  ·exact h.lays.2 x hx
  ·simp at hx;subst hx;exact hr
 ·obtain⟨a,b⟩:=h.obj i g e hi;exact⟨Tl a l,b⟩
theorem Aa {s:CS} (h:WF s) (m:List ((Int×Int)×Int)):WF { s with rem:=m }:=⟨h.size,h.own,h.slots,h.lays,h.gen,h.obj,h.apart,h.par,h.skeys,h.mkeys,h.spc,h.free,h.live,h.mine⟩
theorem En {s:CS} {mem:List Nat} (h:VM s mem) (m:List ((Int×Int)×Int)):VM { s with rem:=m } mem:=⟨h.len,h.head,h.words⟩
end Go.Proofs.YtbnnnljagkjpiaaGreatDoor
set_option linter.unusedSectionVars false
namespace Go.Proofs.YtbnnnljagkjpiaaGreatDoor
open List
open Go.SL
@[reducible] def Ve (q:Nat×Nat):List Value:=[.int .i64 q.1,.int .i64 q.2]
theorem XZ (q:Nat×Nat):(Ve q).length=2:=rfl
def Ql (p sp owner:Nat) (S:QH):Q2:=ex fun v:Value=>star [pts p (row 224 [pp sp,.int .i64 owner,v,.int .i64 S.at',.int .i64 S.fin]),QC 226 2 v (S.parts.flatMap Ve)]
theorem G0 [Q4] {w:World} {p sp owner:Nat} {S:QH} {l:List Q2} (H:Q0 w (Ql p sp owner S::l)):∃ a c,Q0 w (pts p (row 224 [pp sp,.int .i64 owner,.slice a S.parts.length c,.int .i64 S.at',.int .i64 S.fin])::QC 226 2 (.slice a S.parts.length c) (S.parts.flatMap Ve)::l):=by
 obtain⟨v,H⟩:=Q0.ex.1 H;have H:=Q0.star.1 H;obtain⟨a,c,rfl⟩:=QD H.drop (Ge XZ _) (by decide);exact⟨a,c,H⟩
theorem Z3 [Q4] {w:World} {p sp owner:Nat} {S:QH} {l:List Q2} {v:Value} (H:Q0 w (pts p (row 224 [pp sp,.int .i64 owner,v,.int .i64 S.at',.int .i64 S.fin])::QC 226 2 v (S.parts.flatMap Ve)::l)):Q0 w (Ql p sp owner S::l):=
 Q0.ex.2 ⟨v,Q0.star.2 H⟩
theorem Hr [Q4] (sp owner:Nat) (ho:1≤owner) {w:World} {fr:List Q2} (H:Q0 w fr) :
  Calls Tryz.prog 53 #[pp sp,.int .i64 owner] w (ret fun v w'=>∃ p,v = .tuple #[pp p,.int .i64 0]∧Q0 w' (Ql p sp owner ⟨[],0,0⟩::fr)):=by
 refine QV Tryz.func53 rfl (by kernel_rfl) ?_;refine Bd H ?_;refine Y1 (fun ms σ w=>ms=[]∧σ 0=pp sp∧σ 1 = .int .i64 owner∧Q0 w fr) ?_ ?_
 ·refine Kz H ?_;refine VG H ?_;rw[show decide ((owner:Int) < 1)=false from decide_eq_false (by omega)];refine V8 H ?_;exact .inl ⟨rfl,rfl,rfl,rfl,H⟩
 ·clear H;rintro ms σ w ⟨rfl,g0,g1,H⟩;rw[Q1 g0,Q1 g1];refine J5 H ?_;refine X6 H ?_;clear H;intro b15 w H;refine J2 H ?_;have H:=(Yn (E:=226) (k:=2) H).swap;exact Q3 (Jy H rfl fun w' H'=>⟨_,rfl,Z3 (S:=⟨[],0,0⟩) H'⟩)
theorem To [Q4] (p sp owner:Nat) (S:QH) (h1:S.at'≤S.fin) (h2:S.fin≤1048576) {w:World} {fr:List Q2} (H:Q0 w (Ql p sp owner S::fr)) :
  Calls Tryz.prog 121 #[pp p] w (ret fun v w'=>v = .int .i64 ((S.fin - S.at':Nat):Int)∧Q0 w' (Ql p sp owner S::fr)):=by
 obtain⟨a,c,H⟩:=G0 H;refine QV Tryz.func121 rfl (by kernel_rfl) ?_;refine BP H ?_;refine J1 H ?_;clear H;intro w H;refine X7 H ?_;refine Dv H ?_;refine Ja 8 ?_;refine Ja 9 ?_;refine Jx H ?_;refine Q3 (Jy (Z3 H) rfl fun w' H'=>⟨?_,H'⟩);show Value.int .i64 (IntKind.i64.wrap ((S.fin:Int) - (S.at':Int)))=_;rw[Qb (by omega) (by omega)];congr 1;omega
theorem Mn [Q4] (p sp owner size n:Nat) (S:QH) (mem own:List Nat) (ho:1≤owner) (hn1:1≤n) (hn2:n≤100000) (h1:S.at'≤S.fin) (h2:S.fin≤1048576) (h63:own.length≤63) (hs1:1≤size) (hs2:size≤1024) (hp:S.parts.length≤1000) {w:World} {fr:List Q2} [hT:YX 0 Lib.deBruijn64tab fr]
  (H:Q0 w (Ql p sp owner S::ST sp size mem own::fr)) :
  Calls Tryz.prog 56 #[pp p,.int .i64 n] w (ret fun v w'=>(∃ a own' mem' S',v = .tuple #[.int .i64 ((a:Nat):Int),.int .i64 0]∧U1 size own mem owner S n own' mem' S' a∧Q0 w' (Ql p sp owner S'::ST sp size mem' own'::fr)) ∨
   (v = .tuple #[.int .i64 0,.int .i64 11]∧(∀ a,a+((n - 1) / size+1)≤own.length→∃ i,a≤i∧i < a+((n - 1) / size+1)∧own.getD i 0≠0)∧Q0 w' (Ql p sp owner S::ST sp size mem own::fr))):=by
 refine QV Tryz.func56 rfl (by kernel_rfl) ?_;refine Bd H ?_;refine Y1 (fun ms σ w=>ms=[]∧σ 0=pp p∧σ 1 = .int .i64 n∧Q0 w (Ql p sp owner S::ST sp size mem own::fr)) ?_ ?_
 ·refine Kz H ?_;refine VG H ?_;rw[show decide ((n:Int) < 1)=false from decide_eq_false (by omega)];refine AX H ?_;refine J5 H ?_;refine Jc rfl rfl (To p sp owner S h1 h2 H) ?_;clear H;rintro v w ⟨rfl,H⟩;refine J2 H ?_;by_cases hr:n≤S.fin - S.at'
  ·rw[show decide ((n:Int)≤((S.fin - S.at':Nat):Int))=true from decide_eq_true (by omega)];refine VR H ?_;obtain⟨a,c,H⟩:=G0 H;refine GU H ?_;rw[Qb (x:=(S.at':Int)+(n:Int)) (by omega) (by omega),show (S.at':Int)+(n:Int)=((S.at'+n:Nat):Int) by omega];refine GK H ?_;clear H;intro w H;refine Q6 ?_;refine GU H ?_;refine J2 H ?_;refine Q3 (.inr ⟨by simp,Jy (Z3 (S:={ S with at':=S.at'+n }) H) rfl fun w' H' => .inl ⟨S.at',own,mem,_,?_,.room hr,H'⟩⟩);show Value.tuple #[.int .i64 (IntKind.i64.wrap (((S.at'+n:Nat):Int) - (n:Int))),_]=_;rw[Qb (by omega) (by omega),show ((S.at'+n:Nat):Int) - (n:Int)=(S.at':Int) by omega];rfl
  ·rw[show decide ((n:Int)≤((S.fin - S.at':Nat):Int))=false from decide_eq_false (by omega)];refine V8 H ?_;exact .inl ⟨rfl,rfl,rfl,rfl,H⟩
 ·clear H;rintro ms σ w ⟨rfl,g0,g1,H⟩;rw[Q1 g0,Q1 g1];obtain⟨a,c,H⟩:=G0 H;have hk:(n - 1) / size+1≤n:=by have:=Nat.div_le_self (n - 1) size;omega
  have hk1:(n - 1) / size*size≤n - 1:=Nat.div_mul_le_self _ _
  have hk2:n≤((n - 1) / size+1)*size:=by
   have:=Nat.lt_div_mul_add (a:=n - 1) (b:=size) (by omega);rw[Nat.succ_mul];omega
  refine ZU H ?_;replace H:=Js [2,0,0] 0 H;refine Jc rfl rfl (Ee sp size mem own H) ?_;clear H;rintro v w ⟨rfl,H⟩;refine Dw H ?_;rw[Qb (x:=(n:Int) - 1) (by omega) (by omega),show (n:Int) - 1=((n - 1:Nat):Int) by omega]
  refine UV (v := .int .i64 (((n - 1) / size:Nat):Int)) (by
   show (if IntKind.i64=IntKind.i64 then (if (size:Int)=0 then none else some _) else none)=_;rw[if_pos rfl,if_neg (by omega),WA (by omega)]) rfl ?_
  refine J2 H ?_;generalize hkk:(n - 1) / size=q at hk hk1 hk2;rw[Qb (x:=((q:Nat):Int)+1) (by omega) (by omega),show ((q:Nat):Int)+1=((q+1:Nat):Int) by omega];refine J1 H ?_;clear H;intro w H;refine Bo H ?_;refine Du H ?_;refine Jl 7 [9] H ?_;refine Ja 8 ?_;refine Jo 9 H ?_;refine Jk rfl rfl (TW sp size mem own owner (q+1) h63 ho (by omega) (by omega) H) ?_;clear H;rintro v w (⟨b,rfl,hb,hfree,H⟩|⟨rfl,hno,H⟩)
  ·have hf:∀ c,b≤c→c < b+(q+1)→own[c]? = some 0:=fun c e1 e2=>by
    have:=hfree c e1 e2;rw[getD_eq_getElem?_getD,getElem?_eq_getElem (by omega)] at this;rw[getElem?_eq_getElem (by omega)];simpa using this
   have hbs:(b+(q+1))*size≤63*1024:=Nat.mul_le_mul (by omega) hs2;have hbs2:(b+(q+1))*size=b*size+(q+1)*size:=Nat.add_mul _ _ _;have hbs3:(b+1)*size=b*size+size:=Nat.succ_mul _ _;have hsq:size≤(q+1)*size:=Nat.le_mul_of_pos_left _ (by omega);refine Ja 10 ?_;refine Ja 11 ?_;refine Be H ?_;refine Jx H ?_;refine Gf H ?_;refine A4 H ?_;refine YP H ?_;refine BD H ?_;clear H;intro b69 w H;replace H:=Js [3,0,1,0] 0 H;refine Q5 rfl (YF H rfl rfl (by repeat first|exact .nil _|apply QZ.cons rfl) rfl (by decide) (by rw[Ge XZ];simp only[length_cons,length_nil];omega) rfl rfl ?_);clear H;intro v70 w H;obtain⟨a70,m70,c70,rfl⟩:=Qq H;have e1:S.parts.flatMap Ve++[.int .i64 b,.int .i64 ((q+1:Nat):Int)]=(S.parts++[(b,q+1)]).flatMap Ve:=by simp
   rw[e1] at H;refine GK H ?_;clear H;intro w H;refine UX H ?_;by_cases hq:q=0
   ·subst hq;rw[show (((0+1:Nat):Int) == 1)=true from rfl];refine J7 H ?_;refine Qm (fun ms σ w=>ms=[]∧σ 6 = .int .i64 size∧σ 8 = .int .i64 b∧Q0 w (Ql p sp owner ⟨S.parts++[(b,1)],b*size+n,(b+1)*size⟩::ST sp size (V4 mem (b*size) (1*size) 0) (V4 own b 1 owner)::fr)) ?_ ?_
    ·refine VE rfl ?_;have m1:(b:Int)*(size:Int)=((b*size:Nat):Int):=(Int.natCast_mul _ _).symm;have m2:((b:Int)+1)*(size:Int)=(((b+1)*size:Nat):Int):=by rw[Int.natCast_mul,Int.natCast_add];rfl
     refine J5 H ?_;refine AK H ?_;refine Ba H ?_;rw[Qb (x:=(b:Int)+1) (by omega) (by omega),m1,m2,Qb (x:=((b*size:Nat):Int)) (by omega) (by omega),Qb (x:=(((b+1)*size:Nat):Int)) (by omega) (by omega),Qb (x:=((b*size:Nat):Int)+(n:Int)) (by omega) (by omega),show ((b*size:Nat):Int)+(n:Int)=((b*size+n:Nat):Int) by omega];refine GK H ?_;clear H;intro w H;refine GK H ?_;clear H;intro w H;refine Q6 ?_;replace H:=Js [2,0,1] 1 H;exact⟨rfl,rfl,rfl,rfl,Z3 (S:=⟨S.parts++[(b,1)],b*size+n,(b+1)*size⟩) H⟩
    ·clear H;rintro ms σ w ⟨rfl,g6,g8,H⟩;rw[Q1 g6,Q1 g8];refine KU H ?_;refine Q3 (Jy H rfl fun w' H' => .inl ⟨b*size,_,_,_,?_,.one (by omega) (hf b (by omega) (by omega)) (by omega),H'⟩);show Value.tuple #[.int .i64 (IntKind.i64.wrap ((b:Int)*(size:Int))),_]=_;rw[← Int.natCast_mul,Qb (by omega) (by omega)];rfl
   ·rw[show (((q+1:Nat):Int) == 1)=false by simp;omega];refine V8 H ?_;refine KU H ?_;replace H:=Js [2,0,1] 1 H;refine Q3 (Jy (Z3 (S:=⟨S.parts++[(b,q+1)],S.at',S.fin⟩) H) rfl fun w' H' => .inl ⟨b*size,_,_,_,?_,.run (k:=q+1) (by omega) hb hf hk2 (by rw[Nat.add_sub_cancel];omega),H'⟩);show Value.tuple #[.int .i64 (IntKind.i64.wrap ((b:Int)*(size:Int))),_]=_;rw[← Int.natCast_mul,Qb (by omega) (by omega)];rfl
  ·refine Ja 10 ?_;refine Ja 11 ?_;refine Be H ?_;refine DE H ?_;refine Dx H ?_;replace H:=Js [1,1,0] 0 H;exact Q3 (Jy (Z3 H) rfl fun w' H' => .inr ⟨rfl,hno,H'⟩)
@[reducible] def Qv (ip sp bp:Nat):Q2:=pts ip (row 213 [pp sp,pp bp])
structure XG (ls:List QJ) (size:Nat) (mem own:List Nat) (addr i c s n:Nat) (l:QJ):Prop where
 may:Xl i c s
 lay:ls[i - 1]? = some l
 right:VT l
 siz:V9 l c=(n,0)
 head:mem.getD addr 0=Zy i c s
 fit:addr+1+n≤mem.length
 owned:Gh size own addr (n+1)
theorem Gh.sub {size:Nat} {own:List Nat} {a n b m:Nat} (h:Gh size own a n) (h1:a≤b) (h2:b+m≤a+n) (h3:1≤m):Gh size own b m:=fun c c1 c2=>
 h c (Nat.le_trans (Nat.div_le_div_right h1) c1) (Nat.le_trans c2 (Nat.div_le_div_right (by omega)))
theorem Tp [Q4] (sp bp:Nat) {w:World} {fr:List Q2} (H:Q0 w fr) :
  Calls Tryz.prog 72 #[pp sp,pp bp] w (ret fun v w'=>∃ ip,v = .tuple #[pp ip,.int .i64 0]∧Q0 w' (Qv ip sp bp::fr)):=by
 refine QV Tryz.func72 rfl (by kernel_rfl) ?_;refine J3 H ?_;refine DN H ?_;refine BB H ?_;refine Dy H ?_;refine J5 H ?_;refine X6 H ?_;clear H;intro b15 w H;refine J2 H ?_;exact Q3 (Jy H rfl fun w' H'=>⟨_,rfl,H'⟩)
theorem Hs [Q4] (p:Nat) (ls:List QJ) (i:Nat) (h1:1≤i) (l:QJ) (hk:ls[i - 1]? = some l) {w:World} {fr:List Q2} (H:Q0 w (Qo p ls::fr)) :
  Calls Tryz.prog 78 #[pp p,.int .i64 i] w (ret fun x w'=>∃ vr vq,x = .tuple #[Ys l.fixed vr l.record vq,.int .i64 0]∧Q0 w' (NL vr l.refs::NL vq l.recs::Qo p ls::fr)):=by
 obtain⟨k,rfl⟩:∃ k,i=k+1:=⟨i - 1,by omega⟩;rw[Nat.add_sub_cancel] at hk;rw[show (((k+1:Nat):Int))=(k:Int)+1 by omega];exact TO p ls k l hk H
theorem Mo [Q4] (ip sp bp:Nat) (ls:List QJ) (i c s n:Nat) (l:QJ) (hm:Xl i c s) (hl:ls[i - 1]? = some l) (hR:VT l) (hz:V9 l c=(n,0)) {w:World} {fr:List Q2} (H:Q0 w (Qv ip sp bp::Qo bp ls::fr)) :
  Calls Tryz.prog 130 #[pp ip,RX i c s] w (ret fun v w'=>∃ vr vq,v = .tuple #[Ys l.fixed vr l.record vq,.int .i64 n,.int .i64 0]∧Q0 w' (NL vr l.refs::NL vq l.recs::Qv ip sp bp::Qo bp ls::fr)):=by
 have hi:=hm.1;refine QV Tryz.func130 rfl (by kernel_rfl) ?_;refine J8 H ?_;clear H;intro b3 w H;refine VQ H ?_;clear H;intro b4 w H;refine K9 H ?_
 refine Qm (fun ms σ w=>ms=[]∧∃ b7 vr vq,σ 3=pp b3∧σ 4=pp b4∧σ 7=pp b7∧σ 8 = .int .i64 0 ∧
  Q0 w (pts b7 (row 164 [.int .i64 l.fixed,vr,.int .i64 l.record,vq])::NL vr l.refs::NL vq l.recs::pts b4 (row 164 [.int .i64 0,.slice none 0 0,.int .i64 0,.slice none 0 0])::pts b3 (row 117 [.int .i64 i,.int .i64 c,.int .i64 s])::Qv ip sp bp::Qo bp ls::fr)) ?_ ?_
 ·replace H:=Js [3,0,0,0] 0 H;refine J1 H ?_;clear H;intro w H;refine Dz H ?_;refine Jl 5 [6,11] H ?_;refine Jw 6 10 H rfl rfl (V0 (a:=[]) (b:=[]) rfl rfl (call (Hs bp ls i hi l hl H) ?_)) (Vr H rfl ?_)
  ·clear H;rintro v w ⟨vr,vq,rfl,H⟩;obtain⟨aa,ma,ca,rfl⟩:=Qq H;obtain⟨ab,mb,cb,rfl⟩:=Qq H.drop;refine E0 H ?_;clear H;intro b7 w H;refine A2 H ?_;clear H;intro w H;refine Xb H ?_;replace H:=Js [0,0,0,1,1,1,0] 0 H;exact⟨rfl,rfl,b7,_,_,rfl,rfl,rfl,rfl,H⟩
  ·clear H;intro b7 w H;refine Jo 6 H ?_;refine Jk rfl rfl (Hs bp ls i hi l hl H.swap) ?_;clear H;rintro v w ⟨vr,vq,rfl,H⟩;obtain⟨aa,ma,ca,rfl⟩:=Qq H;obtain⟨ab,mb,cb,rfl⟩:=Qq H.drop;refine E1 H ?_;clear H;intro w H;refine Xb H ?_;replace H:=Js [3,0,0,1,1,1,0] 0 H;exact⟨rfl,rfl,b7,_,_,rfl,rfl,rfl,rfl,H⟩
 ·clear H;rintro ms σ w ⟨rfl,b7,vr,vq,g3,g4,g7,g8,H⟩;rw[Q1 g3,Q1 g4,Q1 g7,Q1 g8];obtain⟨aa,ma,rfl⟩:=QD H.drop (QE _) (by decide);obtain⟨ab,mb,rfl⟩:=QD H.drop.drop (QE _) (by decide);refine Gf H ?_;refine GG H ?_;refine Gg H ?_;replace H:=Js [1,1,0,0,0,0,0] 0 H;obtain⟨D1,H,hD1,hC1⟩:=sls_rd H (QE _) (by decide);obtain⟨D2,H,hD2,hC2⟩:=sls_rd H.swap (QE _) (by decide);refine Jc rfl rfl (CG _ _ l hR c ⟨(hD1 _).there,hD2 _⟩ H) ?_;clear H;rintro v w ⟨rfl,H⟩;rw[hz];replace H:=hC1 _ _ (hC2 _ _ H).swap;refine ZE H ?_;refine GG H ?_;refine E2 H ?_;clear H;intro w H;refine J2 H ?_;replace H:=Js [3,0,0,2,2] 2 H;exact Q3 (Jz H (fun w' H' => .cellN H' rfl (by repeat first|exact .nil _|apply QZ.cons rfl) (.tmp (.tmp .nil))) fun w' H'=>⟨_,_,rfl,H'.drop⟩)
theorem Ht [Q4] (ip sp bp size:Nat) (ls:List QJ) (mem own:List Nat) (addr i c s n:Nat) (l:QJ) (h:XG ls size mem own addr i c s n l) {w:World} {fr:List Q2} (H:Q0 w (Qv ip sp bp::Qo bp ls::ST sp size mem own::fr)) :
  Calls Tryz.prog 65 #[pp ip,.int .i64 addr] w (ret fun v w'=>∃ vr vq,v = .tuple #[RX i c s,Ys l.fixed vr l.record vq,.int .i64 n,.int .i64 0]∧Q0 w' (NL vr l.refs::NL vq l.recs::Qv ip sp bp::Qo bp ls::ST sp size mem own::fr)):=by
 obtain⟨hm,hl,hR,hz,hh,hf,ho⟩:=h;refine QV Tryz.func65 rfl (by kernel_rfl) ?_;refine YS H ?_;clear H;intro b4 w H;refine VQ H ?_;clear H;intro b5 w H;refine J2 H ?_;refine J9 H ?_;replace H:=Js [4,0,0,0,0] 0 H;refine Jc rfl rfl (Hg sp size mem own addr (by omega) (ho.sub (Nat.le_refl _) (by omega) (by omega)) H) ?_;clear H;rintro v w ⟨rfl,H⟩;rw[hh];refine Zw H ?_;refine YQ H ?_;refine Jc rfl rfl (Sy i c s hm H) ?_;clear H;rintro v w ⟨rfl,H⟩;refine Vj H ?_;clear H;intro b10 w H;refine J4 H ?_;clear H;intro w H;refine E3 H ?_;replace H:=Js [4,4,1,1,1,0] 0 H;refine Jc rfl rfl (Mo ip sp bp ls i c s n l hm hl hR hz H) ?_;clear H;rintro v w ⟨vr,vq,rfl,H⟩;obtain⟨aa,ma,ca,rfl⟩:=Qq H;obtain⟨ab,mb,cb,rfl⟩:=Qq H.drop;refine AK H ?_;refine VQ H ?_;clear H;intro b11 w H;refine J4 H ?_;clear H;intro w H;refine J2 H ?_;refine J1 H ?_;clear H;intro w H;refine VP 0 [4,5] H rfl (Q9.none rfl) rfl (by repeat first|exact .nil _|apply QZ.cons rfl) (by kernel_rfl) ?_;refine VP 1 [5] H rfl (Q9.none rfl) rfl (by repeat first|exact .nil _|apply QZ.cons rfl) (by kernel_rfl) ?_;refine Ja 2 ?_;refine Ja 3 ?_;refine Jo 4 H ?_;refine Gv H ?_;clear H;intro w H;refine Jo 5 H ?_;refine Gv H ?_;clear H;intro w H;refine Ja 6 ?_;refine Ja 7 ?_;refine Jx H ?_;replace H:=Js [7,6,1,1,1,1,1] 2 H;exact Q3 (Jz H (fun w' H' => .cellN H' rfl (by repeat first|exact .nil _|apply QZ.cons rfl) (.cellN H' rfl (by repeat first|exact .nil _|apply QZ.cons rfl) (.tmp (.tmp .nil)))) fun w' H'=>⟨_,_,rfl,H'.drop.drop⟩)
def QM (l:QJ) (n:Nat) (place:Int) (ref:Bool):Nat:=if place < 0∨(n:Int)≤place then 3 else if VW l place.toNat≠ref then 9 else 0
theorem Zh {l:QJ} {n:Nat} {place:Int} {ref:Bool} (h:QM l n place ref=0):∃ p:Nat,place=p∧p < n∧VW l p=ref:=by
 unfold QM at h;split at h
 ·omega
 ·split at h
  ·omega
  ·rename_i h1 h2;exact⟨place.toNat,by omega,by omega,by simpa using h2⟩
theorem Eo [Q4] {w:World} {p size:Nat} {mem own:List Nat} {l:List Q2} (H:Q0 w (ST p size mem own::l)):mem.length≤1048576:=by
 obtain⟨v,v2,u,ws,many,hok,_⟩:=Gz H;rw[hok.len];exact Nat.mul_le_mul hok.c2 hok.s2
theorem Ep [Q4] (ip sp bp size:Nat) (ls:List QJ) (mem own:List Nat) (addr i c s n:Nat) (l:QJ) (h:XG ls size mem own addr i c s n l) (place:Int) (ref:Bool) {w:World} {fr:List Q2} (H:Q0 w (Qv ip sp bp::Qo bp ls::ST sp size mem own::fr)) :
  Calls Tryz.prog 103 #[pp ip,.int .i64 addr,.int .i64 place,.bool ref] w (ret fun v w'=>v = .tuple #[.int .i64 ((if QM l n place ref=0 then addr+1+place.toNat else 0:Nat):Int),.int .i64 (QM l n place ref)]∧Q0 w' (Qv ip sp bp::Qo bp ls::ST sp size mem own::fr)):=by
 have hml:=Eo (H.pull 2);have h':=h;obtain⟨hm,hl,hR,hz,hh,hf,ho⟩:=h';refine QV Tryz.func103 rfl (by kernel_rfl) ?_;refine Da H ?_;refine J5 H ?_;refine Jc rfl rfl (Ht ip sp bp size ls mem own addr i c s n l h H) ?_;clear H;rintro v w ⟨vr,vq,rfl,H⟩;obtain⟨aa,ca,rfl⟩:=QD H (QE _) (by decide);obtain⟨ab,cb,rfl⟩:=QD H.drop (QE _) (by decide);refine Ba H ?_;refine VQ H ?_;clear H;intro b10 w H;refine VQ H ?_;clear H;intro b11 w H;refine J4 H ?_;clear H;intro w H;refine J4 H ?_;clear H;intro w H;refine Bp H ?_;refine GG H ?_;refine R6 H ?_;replace H:=Js [2,2,0,0,0,0,0] 0 H;obtain⟨D1,H,hD1,hC1⟩:=sls_rd H (QE _) (by decide);obtain⟨D2,H,hD2,hC2⟩:=sls_rd H.swap (QE _) (by decide);by_cases hp:place < 0∨(n:Int)≤place
 ·have he:QM l n place ref=3:=by unfold QM;rw[if_pos hp]
  rw[he];refine Jc rfl rfl (TT _ _ l hR c place hz hp ⟨(hD1 _).there,hD2 _⟩ H) ?_;clear H;rintro v w ⟨rfl,H⟩;replace H:=hC1 _ _ (hC2 _ _ H).swap;refine W0 H ?_;refine QS ?_;refine J5 H ?_;refine Un H ?_;refine VG H ?_;replace H:=Js [4,4,4] 4 H;exact Q3 (Jy H rfl fun w' H'=>⟨rfl,H'⟩)
 ·obtain⟨p,rfl⟩:∃ p:Nat,place=p:=⟨place.toNat,by omega⟩;refine Jc rfl rfl (Ta _ _ l hR c p hz (by omega) ⟨(hD1 _).there,hD2 _⟩ H) ?_;clear H;rintro v w ⟨rfl,H⟩;replace H:=hC1 _ _ (hC2 _ _ H).swap;refine W0 H ?_;refine Y1 (fun ms σ w=>ms=[]∧VW l p=ref∧σ 1 = .int .i64 addr∧σ 2 = .int .i64 p∧Q0 w (Qv ip sp bp::Qo bp ls::ST sp size mem own::fr)) ?_ ?_
  ·refine QS ?_;refine AZ H ?_;refine Q5 rfl (Rp rfl rfl (.inr rfl) rfl ?_);refine J0 H ?_;by_cases hr:VW l p=ref
   ·rw[show (!(VW l p == ref))=false by simp[hr]];refine V8 H ?_;replace H:=Js [4,4,4] 4 H;exact .inl ⟨rfl,rfl,hr,rfl,rfl,H⟩
   ·have he:QM l n (p:Int) ref=9:=by unfold QM;rw[if_neg hp,if_pos (by simpa using hr)]
    rw[show (!(VW l p == ref))=true by simpa using hr];refine Yi H ?_;replace H:=Js [4,4,4] 4 H;exact Q3 (.inr ⟨by simp,Jy H rfl fun w' H'=>⟨by rw[he];rfl,H'⟩⟩)
  ·clear H;rintro ms σ w ⟨rfl,hr,g1,g2,H⟩;have he:QM l n (p:Int) ref=0:=by unfold QM;rw[if_neg hp,if_neg (by simpa using hr)]
   rw[he,Q1 g1,Q1 g2];refine X5 H ?_;refine J2 H ?_;rw[Qb (x:=(addr:Int)+1) (by omega) (by omega),Qb (x:=(addr:Int)+1+(p:Int)) (by omega) (by omega)];refine Q3 (Jy H rfl fun w' H'=>⟨?_,H'⟩);show Value.tuple #[.int .i64 ((addr:Int)+1+(p:Int)),_]=_;rw[if_pos rfl,show (addr:Int)+1+(p:Int)=((addr+1+(p:Int).toNat:Nat):Int) by simp];rfl
theorem Tq [Q4] (ip sp bp size:Nat) (ls:List QJ) (mem own:List Nat) (addr i c s n:Nat) (l:QJ) (h:XG ls size mem own addr i c s n l) (place:Int) {w:World} {fr:List Q2} (H:Q0 w (Qv ip sp bp::Qo bp ls::ST sp size mem own::fr)) :
  Calls Tryz.prog 217 #[pp ip,.int .i64 addr,.int .i64 place] w (ret fun v w'=>v = .tuple #[.int .u64 ((if QM l n place false=0 then mem.getD (addr+1+place.toNat) 0 else 0:Nat):Int),.int .i64 (QM l n place false)]∧Q0 w' (Qv ip sp bp::Qo bp ls::ST sp size mem own::fr)):=by
 have hrd:Calls Tryz.prog 244 #[pp ip,.int .i64 addr,.int .i64 place,.bool false,.func (.func 128) #[] #[]] w (ret fun v w'=>v = .tuple #[.int .u64 ((if QM l n place false=0 then mem.getD (addr+1+place.toNat) 0 else 0:Nat):Int),.int .i64 (QM l n place false)]∧Q0 w' (Qv ip sp bp::Qo bp ls::ST sp size mem own::fr)):=by
  refine QV Tryz.func244 rfl (by kernel_rfl) ?_;refine J3 H ?_;refine VJ H ?_;refine X5 H ?_;refine Jc rfl rfl (Ep ip sp bp size ls mem own addr i c s n l h place false H) ?_;clear H;rintro v w ⟨rfl,H⟩;refine X8 H ?_;by_cases he:QM l n place false=0
  ·obtain⟨p,rfl,hp,hr⟩:=Zh he;rw[he];refine V8 H ?_;refine Bq H ?_;replace H:=Js [2,0,0] 0 H;refine Jc rfl rfl (Hg sp size mem own (addr+1+p) (by have:=h.fit;omega) (h.owned.sub (by omega) (by omega) (by omega)) H) ?_;clear H;rintro v w ⟨rfl,H⟩;refine Zw H ?_;refine VG H ?_;replace H:=Js [1,1,0] 0 H;exact Q3 (Jy H rfl fun w' H'=>⟨rfl,H'⟩)
  ·rw[if_neg he,if_neg he];rw[show (((QM l n place false:Nat):Int) != 0)=true by simpa using he];refine VR H ?_;refine W9 H ?_;exact Q3 (Jy H rfl fun w' H'=>⟨rfl,H'⟩)
 refine QV Tryz.func217 rfl (by kernel_rfl) ?_;refine J3 H ?_;refine Vi H ?_;refine Jc rfl rfl (hrd) ?_;clear H;rintro v w ⟨rfl,H⟩;refine WV H ?_;exact Q3 (Jy H rfl fun w' H'=>⟨rfl,H'⟩)
theorem Gi (k:Vy):∃ a b d:Int,ZI k = .agg #[.int .i64 a,.int .i64 b,.int .i64 d]:=by cases k <;> exact⟨_,_,_,rfl⟩
theorem Mp [Q4] (ip sp bp size:Nat) (ls:List QJ) (mem own:List Nat) (addr i c s n:Nat) (l:QJ) (h:XG ls size mem own addr i c s n l) (place:Int) (k:Vy) (hk:QM l n place true=0→GR k∧mem.getD (addr+1+place.toNat) 0=VU k) (hk2:QM l n place true≠0→k = .none) {w:World} {fr:List Q2} (H:Q0 w (Qv ip sp bp::Qo bp ls::ST sp size mem own::fr)) :
  Calls Tryz.prog 19 #[pp ip,.int .i64 addr,.int .i64 place] w (ret fun v w'=>v = .tuple #[ZI k,.int .i64 (QM l n place true)]∧Q0 w' (Qv ip sp bp::Qo bp ls::ST sp size mem own::fr)):=by
 have hlk:∀ (q:Nat) (k:Vy) (w:World) (fr:List Q2),q < mem.length→Gh size own q 1→GR k→mem.getD q 0=VU k→Q0 w (ST sp size mem own::fr) →
   Calls Tryz.prog 68 #[pp sp,.int .i64 q] w (ret fun v w'=>v = .tuple #[ZI k,.int .i64 0]∧Q0 w' (ST sp size mem own::fr)):=by
  intro q k w fr h1 h2 h3 h4 H;refine QV Tryz.func68 rfl (by kernel_rfl) ?_;refine YS H ?_;clear H;intro b4 w H;refine Br H ?_;refine Jc rfl rfl (Hg sp size mem own q h1 h2 H.swap) ?_;clear H;rintro v w ⟨rfl,H⟩;rw[h4];refine Zw H ?_;refine YQ H ?_;refine Jc rfl rfl (T3 k h3 H) ?_;clear H;rintro v w ⟨rfl,H⟩;obtain⟨a,b,d,hkv⟩:=Gi k;rw[hkv];refine E2 H ?_;clear H;intro w H;refine J0 H ?_;exact Q3 (Jz H.swap (fun w' H' => .cellN H' rfl (by repeat first|exact .nil _|apply QZ.cons rfl) (.tmp .nil)) fun w' H'=>⟨rfl,H'.drop⟩)
 have hrd:∀ (w:World) (fr:List Q2),Q0 w (Qv ip sp bp::Qo bp ls::ST sp size mem own::fr)→Calls Tryz.prog 67 #[pp ip,.int .i64 addr,.int .i64 place,.bool true,.func (.func 68) #[] #[]] w (ret fun v w'=>v = .tuple #[ZI k,.int .i64 (QM l n place true)]∧Q0 w' (Qv ip sp bp::Qo bp ls::ST sp size mem own::fr)):=by
  intro w fr H;refine QV Tryz.func67 rfl (by kernel_rfl) ?_;refine YS H ?_;clear H;intro b10 w H;refine J0 H ?_;refine YS H ?_;clear H;intro b12 w H;refine Q6 ?_;refine X5 H ?_;replace H:=Js [2,2,2,0,0] 0 H;refine Jc rfl rfl (Ep ip sp bp size ls mem own addr i c s n l h place true H) ?_;clear H;rintro v w ⟨rfl,H⟩;refine X8 H ?_;by_cases he:QM l n place true=0
  ·obtain⟨hk3,hk4⟩:=hk he;obtain⟨p,rfl,hp,hr⟩:=Zh he;rw[he];refine V8 H ?_;refine Bq H ?_;replace H:=Js [2,0,0,0,0] 0 H;refine Jc rfl rfl (hlk (addr+1+p) k _ _ (by have:=h.fit;omega) (h.owned.sub (by omega) (by omega) (by omega)) hk3 hk4 H) ?_;clear H;rintro v w ⟨rfl,H⟩;obtain⟨a,b,d,hkv⟩:=Gi k;rw[hkv];refine Vj H ?_;clear H;intro b15 w H;refine J4 H ?_;clear H;intro w H;refine Yp H ?_;refine KZ H ?_;clear H;intro w H;refine J0 H ?_;replace H:=Js [5,2,2,1] 2 H;exact Q3 (Jz H (fun w' H' => .cellN H' rfl (by repeat first|exact .nil _|apply QZ.cons rfl) (.tmp .nil)) fun w' H'=>⟨rfl,H'.drop⟩)
  ·obtain rfl:=hk2 he;rw[if_neg he];rw[show (((QM l n place true:Nat):Int) != 0)=true by simpa using he];refine VR H ?_;refine KW H ?_;clear H;intro w H;refine J0 H ?_;replace H:=Js [4,0,0,0] 1 H;exact Q3 (Jz H (fun w' H' => .cellN H' rfl (by repeat first|exact .nil _|apply QZ.cons rfl) (.tmp .nil)) fun w' H'=>⟨rfl,H'.drop⟩)
 refine QV Tryz.func19 rfl (by kernel_rfl) ?_;refine YS H ?_;clear H;intro b6 w H;refine Dw H ?_;replace H:=Js [1,1,1,0] 0 H;refine Jc rfl rfl (hrd _ _ H) ?_;clear H;rintro v w ⟨rfl,H⟩;obtain⟨a,b,d,hkv⟩:=Gi k;rw[hkv];refine E2 H ?_;clear H;intro w H;refine J0 H ?_;replace H:=Js [3,0,0,0] 0 H;exact Q3 (Jz H (fun w' H' => .cellN H' rfl (by repeat first|exact .nil _|apply QZ.cons rfl) (.tmp .nil)) fun w' H'=>⟨rfl,H'.drop⟩)
theorem Tr [Q4] (ip sp bp size:Nat) (ls:List QJ) (mem own:List Nat) (addr i c s n:Nat) (l:QJ) (h:XG ls size mem own addr i c s n l) (place:Int) (x:Nat) {w:World} {fr:List Q2} (H:Q0 w (Qv ip sp bp::Qo bp ls::ST sp size mem own::fr)) :
  Calls Tryz.prog 220 #[pp ip,.int .i64 addr,.int .i64 place,.int .u64 x] w (ret fun v w'=>v = .int .i64 (QM l n place false)∧Q0 w' (Qv ip sp bp::Qo bp ls::ST sp size (if QM l n place false=0 then mem.set (addr+1+place.toNat) x else mem) own::fr)):=by
 refine QV Tryz.func220 rfl (by kernel_rfl) ?_;refine Rw H ?_;refine Jc rfl rfl (Ep ip sp bp size ls mem own addr i c s n l h place false H) ?_;clear H;rintro v w ⟨rfl,H⟩;refine X8 H ?_;by_cases he:QM l n place false=0
 ·obtain⟨p,rfl,hp,hr⟩:=Zh he;rw[he];refine V8 H ?_;refine ZU H ?_;refine J2 H ?_;replace H:=Js [2,0,0] 0 H;refine Vi H ?_;refine Q5 rfl (V0 (a:=[pp sp]) (b:=[]) rfl rfl (call (Ef sp size mem own (addr+1+p) x (by have:=h.fit;omega) (h.owned.sub (by omega) (by omega) (by omega)) H) ?_));clear H;rintro v w ⟨rfl,H⟩;refine J0 H ?_;replace H:=Js [1,1,0] 0 H;exact Q3 (Jy H rfl fun w' H'=>⟨rfl,H'⟩)
 ·rw[if_neg he,if_neg he];rw[show (((QM l n place false:Nat):Int) != 0)=true by simpa using he];refine Yi H ?_;exact Q3 (Jy H rfl fun w' H'=>⟨rfl,H'⟩)
theorem Mq [Q4] (ip sp bp size:Nat) (ls:List QJ) (mem own:List Nat) (addr i c s n:Nat) (l:QJ) (h:XG ls size mem own addr i c s n l) (place:Int) (k:Vy) (hk:GR k) {w:World} {fr:List Q2} (H:Q0 w (Qv ip sp bp::Qo bp ls::ST sp size mem own::fr)) :
  Calls Tryz.prog 44 #[pp ip,.int .i64 addr,.int .i64 place,ZI k] w (ret fun v w'=>v = .int .i64 (QM l n place true)∧Q0 w' (Qv ip sp bp::Qo bp ls::ST sp size (if QM l n place true=0 then mem.set (addr+1+place.toNat) (VU k) else mem) own::fr)):=by
 obtain⟨a,b,d,hkv⟩:=Gi k;have hW:=fun (w:World) (fr:List Q2) (H:Q0 w fr)=>Sz k hk H;rw[hkv] at hW ⊢;refine QV Tryz.func44 rfl (by kernel_rfl) ?_;refine J8 H ?_;clear H;intro b7 w H;refine J0 H ?_;replace H:=Js [1,1,1,0] 0 H;refine Vi H ?_;refine Jc rfl rfl (Ep ip sp bp size ls mem own addr i c s n l h place true H) ?_;clear H;rintro v w ⟨rfl,H⟩;refine X8 H ?_;by_cases he:QM l n place true=0
 ·obtain⟨p,rfl,hp,hr⟩:=Zh he;rw[he];refine V8 H ?_;refine GG H ?_;refine Jc rfl rfl (hW _ _ H) ?_;clear H;rintro v w ⟨rfl,H⟩;refine Zw H ?_;refine ZU H ?_;refine J2 H ?_;replace H:=Js [2,0,0] 1 H;refine Vi H ?_;refine Q5 rfl (V0 (a:=[pp sp]) (b:=[]) rfl rfl (call (Ef sp size mem own (addr+1+p) (VU k) (by have:=h.fit;omega) (h.owned.sub (by omega) (by omega) (by omega)) H) ?_));clear H;rintro v w ⟨rfl,H⟩;refine J0 H ?_;replace H:=Js [1,1,0] 0 H;exact Q3 (Jy H rfl fun w' H'=>⟨rfl,H'⟩)
 ·rw[if_neg he,if_neg he];rw[show (((QM l n place true:Nat):Int) != 0)=true by simpa using he];refine Yi H ?_;replace H:=Js [0,0,0] 1 H;exact Q3 (Jy H rfl fun w' H'=>⟨rfl,H'⟩)
theorem CW [Q4] (ip sp bp size:Nat) (ls:List QJ) (mem own:List Nat) (addr i c s n:Nat) (l:QJ) (h:XG ls size mem own addr i c s n l) {w:World} {fr:List Q2} (H:Q0 w (Qv ip sp bp::Qo bp ls::ST sp size mem own::fr)) :
  Calls Tryz.prog 35 #[pp ip,.int .i64 addr] w (ret fun v w'=>v = .tuple #[RX i c s,.int .i64 ((n+1:Nat):Int),.int .i64 0]∧Q0 w' (Qv ip sp bp::Qo bp ls::ST sp size mem own::fr)):=by
 have hml:=Eo (H.pull 2);have hf:=h.fit;refine QV Tryz.func35 rfl (by kernel_rfl) ?_;refine YS H ?_;clear H;intro b4 w H;refine Dm H ?_;refine J5 H ?_;replace H:=Js [1,1,1,0] 0 H;refine Jc rfl rfl (Ht ip sp bp size ls mem own addr i c s n l h H) ?_;clear H;rintro v w ⟨vr,vq,rfl,H⟩;obtain⟨aa,ma,ca,rfl⟩:=Qq H;obtain⟨ab,mb,cb,rfl⟩:=Qq H.drop;refine Ba H ?_;refine VQ H ?_;clear H;intro b7 w H;refine VQ H ?_;clear H;intro b8 w H;refine J4 H ?_;clear H;intro w H;refine J4 H ?_;clear H;intro w H;refine Bp H ?_;refine GG H ?_;refine E2 H ?_;clear H;intro w H;refine J2 H ?_;rw[Qb (x:=((n:Nat):Int)+1) (by omega) (by omega),show ((n:Nat):Int)+1=((n+1:Nat):Int) by omega];replace H:=Js [7,4,4,4] 4 H;exact Q3 (Jz H (fun w' H' => .cellN H' rfl (by repeat first|exact .nil _|apply QZ.cons rfl) (.tmp (.tmp .nil))) fun w' H'=>⟨rfl,H'.drop⟩)
theorem Ts [Q4] (ip sp bp size:Nat) (ls:List QJ) (mem own:List Nat) (addr i c s n:Nat) (l:QJ) (hm:Xl i c s) (hl:ls[i - 1]? = some l) (hR:VT l) (hz:V9 l c=(n,0)) (hf:addr+1+n≤mem.length) (ho:Gh size own addr (n+1)) {w:World} {fr:List Q2} (H:Q0 w (Qv ip sp bp::Qo bp ls::ST sp size mem own::fr)) :
  Calls Tryz.prog 82 #[pp ip,.int .i64 addr,RX i c s] w (ret fun v w'=>v = .tuple #[.int .i64 ((n+1:Nat):Int),.int .i64 0]∧Q0 w' (Qv ip sp bp::Qo bp ls::ST sp size (V4 (mem.set addr (Zy i c s)) (addr+1) n 0) own::fr)):=by
 have hml:=Eo (H.pull 2);refine QV Tryz.func82 rfl (by kernel_rfl) ?_;refine J8 H ?_;clear H;intro b5 w H;refine Dm H ?_;refine GG H ?_;refine Jc rfl rfl (Sw i c s hm H) ?_;clear H;rintro v w ⟨rfl,H⟩;refine Zw H ?_;refine GZ H ?_;replace H:=Js [1,1,1,0] 0 H;refine Jc rfl rfl (Mo ip sp bp ls i c s n l hm hl hR hz H) ?_;clear H;rintro v w ⟨vr,vq,rfl,H⟩;obtain⟨aa,ma,ca,rfl⟩:=Qq H;obtain⟨ab,mb,cb,rfl⟩:=Qq H.drop;refine AK H ?_;refine VQ H ?_;clear H;intro b10 w H;refine J4 H ?_;clear H;intro w H;refine Bp H ?_;refine ZU H ?_;refine AK H ?_;replace H:=Js [5,3,3] 4 H;rw[Qb (x:=((n:Nat):Int)+1) (by omega) (by omega),show ((n:Nat):Int)+1=((n+1:Nat):Int) by omega];refine Jc rfl rfl (TR sp size mem own addr (n+1) (by omega) (by omega) ho H) ?_;clear H;rintro v w ⟨rfl,H⟩;refine Yp H ?_;refine GU H ?_;refine Jc rfl rfl (Ef sp size mem own addr (Zy i c s) (by omega) (ho.sub (Nat.le_refl _) (by omega) (by omega)) H) ?_;clear H;rintro v w ⟨rfl,H⟩;refine UX H ?_;generalize hmm:mem.set addr (Zy i c s)=m2 at H;have hm2:m2.length=mem.length:=by rw[← hmm,length_set]
 refine Zf H ?_;refine Qi (fun ms σ w q=>ms=[]∧∃ j:Nat,j≤n∧q=n - j∧σ 0=pp ip∧σ 1 = .int .i64 addr∧σ 11 = .int .i64 n∧σ 53 = .int .i64 n∧σ 54 = .int .i64 j∧Q0 w (ST sp size (V4 m2 (addr+1) j 0) own::Qv ip sp bp::Qo bp ls::fr)) (m:=n) ⟨rfl,0,by omega,rfl,rfl,rfl,rfl,rfl,rfl,by rw[Eg];exact H⟩ ?_;clear H;rintro ms σ w q ⟨rfl,j,hj,rfl,g0,g1,g11,g53,g54,H⟩;rw[Q1 g0,Q1 g1,Q1 g11,Q1 g53,Q1 g54];refine J6 H ?_;refine Qh rfl (fun h=>QR ?_) (fun h=>Qj ?_)
 ·have hlt:j < n:=by omega
  refine R7 H ?_;refine ZU H ?_;refine AK H ?_;rw[Qb (x:=(addr:Int)+1) (by omega) (by omega),Qb (x:=(addr:Int)+1+(j:Int)) (by omega) (by omega),show (addr:Int)+1+(j:Int)=((addr+1+j:Nat):Int) by omega];refine Jc rfl rfl (Ef sp size _ own (addr+1+j) 0 (by rw[Vu (by omega)];omega) (ho.sub (by omega) (by omega) (by omega)) H) ?_;clear H;rintro v w ⟨rfl,H⟩;rw[MP (by omega)] at H;refine UX H ?_;exact⟨_,⟨rfl,j+1,hlt,rfl,rfl,rfl,rfl,rfl,Qa (by omega),H⟩,by omega⟩
 ·have hge:j=n:=by omega
  subst hge;refine W9 H ?_;rw[Qb (x:=((j:Nat):Int)+1) (by omega) (by omega),show ((j:Nat):Int)+1=((j+1:Nat):Int) by omega];replace H:=Js [1,1,0] 0 H;exact Q3 (Jy H rfl fun w' H'=>⟨rfl,H'⟩)
theorem Mr:∀ {a b:List Nat},a.Pairwise (· < ·)→b.Pairwise (· < ·)→(∀ x,x∈a↔x∈b)→a=b
 | [],[],_,_,_=>rfl
 | [],y::b,_,_,h=>by have:=(h y).2 (by simp);cases this
 | x::a,[],_,_,h=>by have:=(h x).1 (by simp);cases this
 | x::a,y::b,ha,hb,h=>by
  rw[pairwise_cons] at ha hb
  have hxy:x=y:=by
   have h1:=(h x).1 (by simp);have h2:=(h y).2 (by simp);rw[mem_cons] at h1 h2
   rcases h1 with h1|h1
   ·exact h1
   ·rcases h2 with h2|h2
    ·exact h2.symm
    ·have:=hb.1 x h1;have:=ha.1 y h2;omega
  subst hxy;congr 1;refine Mr ha.2 hb.2 fun z=>?_;have hz:=h z;rw[mem_cons,mem_cons] at hz;constructor
  ·intro h1;have:=ha.1 z h1
   rcases hz.1 (.inr h1) with h2|h2
   ·omega
   ·exact h2
  ·intro h1;have:=hb.1 z h1
   rcases hz.2 (.inr h1) with h2|h2
   ·omega
   ·exact h2
def Xp (l:QJ) (i:Nat):List Nat:=l.recs.map (l.fixed+i*l.record+·)
def Z4 (l:QJ) (c:Nat):List Nat:=l.refs++(List.range c).flatMap (Xp l)
theorem Ms {l:List Nat} {n:Nat} (h:Uq l n):l=(List.range n).filter (fun p=>decide (p∈l)):=by
 refine Mr h.2 (List.Pairwise.filter _ pairwise_lt_range) fun x=>?_;rw[mem_filter,mem_range,decide_eq_true_eq];exact⟨fun hx=>⟨h.1 x hx,hx⟩,fun hx=>hx.2⟩
theorem Mt {l:QJ} (hR:VT l):∀ c:Nat,(c > 0→l.record≠0)→Z4 l c=(List.range (l.fixed+c*l.record)).filter (VW l)
 | 0,_=>by
  unfold Z4;rw[Nat.zero_mul,Nat.add_zero,range_zero,flatMap_nil,append_nil];refine(Ms hR.2.2.2.1).trans (filter_congr fun x hx=>?_);unfold VW;rw[if_pos (mem_range.1 hx)]
 | c+1,h=>by
  have ih:=Mt hR c (fun _=>h (by omega));have hr:0 < l.record:=Nat.pos_of_ne_zero (h (by omega))
  have e:Z4 l (c+1)=Z4 l c++Xp l c:=by
   unfold Z4;rw[range_succ,flatMap_append,append_assoc];simp
  have e3:List.range ((l.fixed+c*l.record)+l.record)=List.range (l.fixed+c*l.record)++(List.range l.record).map (l.fixed+c*l.record+·):=range_add;rw[e,ih,show l.fixed+(c+1)*l.record=(l.fixed+c*l.record)+l.record by rw[Nat.succ_mul];omega,e3,filter_append];congr 1;rw[filter_map];unfold Xp;congr 1;refine(Ms hR.2.2.2.2).trans (filter_congr fun x hx=>?_);have hx:=mem_range.1 hx;show _=VW l (l.fixed+c*l.record+x);unfold VW;rw[if_neg (by omega),show l.fixed+c*l.record+x - l.fixed=x+l.record*c by rw[Nat.mul_comm];omega,Nat.add_mul_mod_self_left,Nat.mod_eq_of_lt hx]
theorem Tt [Q4] (vr vq:Value) (l:QJ) (c:Nat) (h1:vr.oneCell'=true) (h2:vq.oneCell'=true) {w:World} {fr:List Q2} (H:Q0 w fr) :
  Calls Tryz.prog 66 #[Ys l.fixed vr l.record vq,.int .i64 c] w (ret fun v w'=>∃ b1 b2,v = .func (.func 131) #[] #[pp b1,pp b2]∧Q0 w' (pts b1 (row 164 [.int .i64 l.fixed,vr,.int .i64 l.record,vq])::pts b2 (row 3 [.int .i64 c])::fr)):=by
 refine QV Tryz.func66 rfl (by kernel_rfl) ?_;refine J8 H ?_;clear H;intro b2 w H;refine KA H ?_;clear H;intro b3 w H;refine YI H ?_;exact Q3 (Jy H.swap rfl fun w' H'=>⟨b2,b3,rfl,H'⟩)
theorem Tu [Q4] (yl b1 b2:Nat) (vr vq:Value) (l:QJ) (hR:VT l) (c:Nat) {n:Nat} (hz:V9 l c=(n,0)) (J:List Nat→Q2)
  (hy:∀ (ks:List Nat) (p:Nat) (rest:List Q2) (w:World),(∃ t,(List.range n).filter (VW l)=ks++p::t)→Q0 w (J ks::rest)→SL.Yields Tryz.prog yl #[.int .i64 p] w (fun v w'=>v = .bool true∧Q0 w' (J (ks++[p])::rest)))
  {w:World} {fr:List Q2} (H:Q0 w (J []::pts b1 (row 164 [.int .i64 l.fixed,vr,.int .i64 l.record,vq])::pts b2 (row 3 [.int .i64 c])::NL vr l.refs::NL vq l.recs::fr)) :
  Calls Tryz.prog 131 #[.func (.yield yl) #[] #[],pp b1,pp b2] w (ret fun _ w'=>Q0 w' (J ((List.range n).filter (VW l))::pts b1 (row 164 [.int .i64 l.fixed,vr,.int .i64 l.record,vq])::pts b2 (row 3 [.int .i64 c])::NL vr l.refs::NL vq l.recs::fr)):=by
 obtain⟨z1,z2,z3,z4,z5⟩:=Hj hz;have hall:=Mt hR c (by omega);rw[Int.toNat_natCast] at z3;rw[← z3] at hall;rw[← hall] at hy ⊢;have hfx:=hR.1;have hrc:=hR.2.1;have hl1:=Uq.len hR.2.2.2.1;have hl2:=Uq.len hR.2.2.2.2;obtain⟨ar,cr,rfl⟩:=QD (H.sel [3,0,0,0] 0) (QE _) (by decide);obtain⟨aq,cq,rfl⟩:=QD (H.sel [4,0,0,0,0] 0) (QE _) (by decide);refine QV Tryz.func131 rfl (by kernel_rfl) ?_;refine GG H ?_;refine KY H ?_;replace H:=Js [3,3,0,0,0] 0 H;obtain⟨D1,H,hD1,hC1⟩:=sls_rd H (QE _) (by decide);obtain⟨D2,H,hD2,hC2⟩:=sls_rd H.swap (QE _) (by decide);refine Jc rfl rfl (CG _ _ l hR c ⟨(hD1 _).there,hD2 _⟩ H) ?_;clear H;rintro v w ⟨rfl,H⟩;rw[hz];replace H:=hC1 _ _ (hC2 _ _ H).swap;refine Zw H ?_;replace H:=Js [0,0,0,0,0] 0 H;refine KG H ?_;refine Bs H ?_;refine Qm (fun ms σ w=>ms=[]∧σ 0 = .func (.yield yl) #[] #[]∧σ 1=pp b1∧σ 4 = .int .i64 n∧Q0 w (NL (.slice ar l.refs.length cr) l.refs::NL (.slice aq l.recs.length cq) l.recs::J l.refs::pts b1 (row 164 [.int .i64 l.fixed,.slice ar l.refs.length cr,.int .i64 l.record,.slice aq l.recs.length cq])::pts b2 (row 3 [.int .i64 c])::fr)) ?_ ?_
 ·refine QS ?_;refine Qi (fun ms σ w z=>ms=[]∧∃ i:Nat,i≤l.refs.length∧z=l.refs.length - i∧σ 0 = .func (.yield yl) #[] #[]∧σ 1=pp b1∧σ 4 = .int .i64 n∧σ 20 = .slice ar l.refs.length cr∧σ 21 = .int .i64 l.refs.length∧σ 22 = .int .i64 i∧Q0 w (NL (.slice ar l.refs.length cr) l.refs::NL (.slice aq l.recs.length cq) l.recs::J (l.refs.take i)::pts b1 (row 164 [.int .i64 l.fixed,.slice ar l.refs.length cr,.int .i64 l.record,.slice aq l.recs.length cq])::pts b2 (row 3 [.int .i64 c])::fr)) (m:=l.refs.length) ⟨rfl,0,by omega,rfl,rfl,rfl,rfl,rfl,rfl,rfl,H⟩ ?_;clear H;rintro ms σ w z ⟨rfl,i,hi,rfl,g0,g1,g4,g20,g21,g22,H⟩;rw[Q1 g0,Q1 g1,Q1 g4,Q1 g20,Q1 g21,Q1 g22];refine J6 H ?_;refine Qh rfl (fun h=>QR ?_) (fun h=>Qj ?_)
  ·have hlt:i < l.refs.length:=by omega
   have hn:=getElem?_eq_getElem hlt;have htk:l.refs.take (i+1)=l.refs.take i++[l.refs[i]]:=by rw[take_add_one,hn];rfl
   have hdr:l.refs=l.refs.take i++l.refs[i]::l.refs.drop (i+1):=split_at hn;generalize l.refs[i]=p at hn htk hdr;obtain⟨bT,sT,rfl,H,hcl⟩:=Qw H (by omega);refine Y9 H ?_;refine Jd ?_;refine Q5 rfl (QW H rfl (GW hn) rfl ?_);refine J0 H ?_;replace H:=hcl _ _ H;replace H:=Js [2,0,0,0,0] 0 H;refine J5 H ?_;refine Q5 rfl (Wl rfl rfl (SL.Yields.mono (hy (l.refs.take i) p _ _ ⟨l.refs.drop (i+1)++(List.range c).flatMap (Xp l),by unfold Z4;rw[show l.refs.take i++p::(l.refs.drop (i+1)++(List.range c).flatMap (Xp l))=(l.refs.take i++p::l.refs.drop (i+1))++(List.range c).flatMap (Xp l) by simp,← hdr]⟩ H) ?_));clear H;rintro v w ⟨rfl,H⟩;refine Vo H ?_;replace H:=Js [1,1,0,0,0] 0 H;refine J3 H ?_;rw[← htk] at H;exact⟨_,⟨rfl,i+1,hlt,rfl,rfl,rfl,rfl,rfl,rfl,Qa (by omega),H⟩,by omega⟩
  ·have hge:i=l.refs.length:=by omega
   subst hge;rw[take_length] at H;exact⟨rfl,rfl,rfl,rfl,rfl,H⟩
 clear H;rintro ms σ w ⟨rfl,g0,g1,g4,H⟩;rw[Q1 g0,Q1 g1,Q1 g4];refine KG H ?_;refine YK H ?_;refine Qm (fun ms σ w=>ms=[]∧Q0 w (NL (.slice ar l.refs.length cr) l.refs::NL (.slice aq l.recs.length cq) l.recs::J (Z4 l c)::pts b1 (row 164 [.int .i64 l.fixed,.slice ar l.refs.length cr,.int .i64 l.record,.slice aq l.recs.length cq])::pts b2 (row 3 [.int .i64 c])::fr)) ?_ ?_
 ·refine QS ?_;refine Qi (fun ms σ w z=>ms=[]∧∃ i A:Nat,i≤c∧A=l.fixed+i*l.record∧z=c - i∧σ 0 = .func (.yield yl) #[] #[]∧σ 1=pp b1∧σ 4 = .int .i64 n∧σ 8 = .int .i64 A∧Q0 w (NL (.slice ar l.refs.length cr) l.refs::NL (.slice aq l.recs.length cq) l.recs::J (Z4 l i)::pts b1 (row 164 [.int .i64 l.fixed,.slice ar l.refs.length cr,.int .i64 l.record,.slice aq l.recs.length cq])::pts b2 (row 3 [.int .i64 c])::fr)) (m:=c) ⟨rfl,0,l.fixed,by omega,by omega,rfl,rfl,rfl,rfl,rfl,by unfold Z4;rw[range_zero,flatMap_nil,append_nil];exact H⟩ ?_;clear H;rintro ms σ w z ⟨rfl,i,A,hi,hA,rfl,g0,g1,g4,g8,H⟩;rw[Q1 g0,Q1 g1,Q1 g4,Q1 g8];refine J5 H ?_;refine YK H ?_;refine Qh rfl (fun h=>QR ?_) (fun h=>Qj ?_)
  ·have hic:i < c:=by
    refine Nat.lt_of_not_le fun hle=>?_;have:=Nat.mul_le_mul_right l.record hle;omega
   have hb:A+l.record≤n:=by
    have:=Nat.mul_le_mul_right l.record (Nat.succ_le_of_lt hic);rw[Nat.succ_mul] at this;omega
   have hAl:A < 8192:=by omega
   have hsucc:Z4 l (i+1)=Z4 l i++Xp l i:=by
    unfold Z4;rw[range_succ,flatMap_append,append_assoc];simp
   have hpre:∃ t,Z4 l c=Z4 l i++Xp l i++t:=by
    rw[← hsucc];unfold Z4;refine⟨((List.range (c - (i+1))).map (i+1+·)).flatMap (Xp l),?_⟩;rw[append_assoc,← flatMap_append,← range_add,show i+1+(c - (i+1))=c by omega]
   obtain⟨tl,hpre⟩:=hpre;refine J7 H ?_;refine Qm (fun ms σ w=>ms=[]∧σ 0 = .func (.yield yl) #[] #[]∧σ 1=pp b1∧σ 4 = .int .i64 n∧σ 8 = .int .i64 A∧Q0 w (NL (.slice ar l.refs.length cr) l.refs::NL (.slice aq l.recs.length cq) l.recs::J (Z4 l (i+1))::pts b1 (row 164 [.int .i64 l.fixed,.slice ar l.refs.length cr,.int .i64 l.record,.slice aq l.recs.length cq])::pts b2 (row 3 [.int .i64 c])::fr)) ?_ ?_
   ·refine QS ?_;refine KG H ?_;refine AR H ?_;refine Qi (fun ms σ w z=>ms=[]∧∃ j:Nat,j≤l.recs.length∧z=l.recs.length - j∧σ 0 = .func (.yield yl) #[] #[]∧σ 1=pp b1∧σ 4 = .int .i64 n∧σ 8 = .int .i64 A∧σ 41 = .slice aq l.recs.length cq∧σ 42 = .int .i64 l.recs.length∧σ 43 = .int .i64 j∧Q0 w (NL (.slice ar l.refs.length cr) l.refs::NL (.slice aq l.recs.length cq) l.recs::J (Z4 l i++(l.recs.take j).map (l.fixed+i*l.record+·))::pts b1 (row 164 [.int .i64 l.fixed,.slice ar l.refs.length cr,.int .i64 l.record,.slice aq l.recs.length cq])::pts b2 (row 3 [.int .i64 c])::fr)) (m:=l.recs.length) ⟨rfl,0,by omega,rfl,rfl,rfl,rfl,rfl,rfl,rfl,rfl,by rw[take_zero,map_nil,append_nil];exact H⟩ ?_;clear H;rintro ms σ w z ⟨rfl,j,hj,rfl,g0,g1,g4,g8,g41,g42,g43,H⟩;rw[Q1 g0,Q1 g1,Q1 g4,Q1 g8,Q1 g41,Q1 g42,Q1 g43];refine J6 H ?_;refine Qh rfl (fun h=>QR ?_) (fun h=>Qj ?_)
    ·have hlt:j < l.recs.length:=by omega
     have hn:=getElem?_eq_getElem hlt;have htk:l.recs.take (j+1)=l.recs.take j++[l.recs[j]]:=by rw[take_add_one,hn];rfl
     have hdr:l.recs=l.recs.take j++l.recs[j]::l.recs.drop (j+1):=split_at hn;have hrl:=hR.2.2.2.2.1 l.recs[j] (getElem_mem _);generalize l.recs[j]=p at hn htk hdr hrl;replace H:=Js [1,0,0,0,0] 0 H;obtain⟨bT,sT,rfl,H,hcl⟩:=Qw H (by omega);refine Y9 H ?_;refine Jd ?_;refine Q5 rfl (QW H rfl (GW hn) rfl ?_);refine J0 H ?_;replace H:=hcl _ _ H;replace H:=Js [2,0,0,0,0] 0 H;refine X5 H ?_;rw[Qb (x:=(A:Int)+(p:Int)) (by omega) (by omega),show (A:Int)+(p:Int)=((A+p:Nat):Int) by omega]
     refine Q5 rfl (Wl rfl rfl (SL.Yields.mono (hy (Z4 l i++(l.recs.take j).map (l.fixed+i*l.record+·)) (A+p) _ _ ⟨(l.recs.drop (j+1)).map (l.fixed+i*l.record+·)++tl,by
      rw[hpre];unfold Xp
      conv=>lhs;rw[hdr]
      rw[hA];simp⟩ H) ?_))
     clear H;rintro v w ⟨rfl,H⟩;refine Vo H ?_;replace H:=Js [2,1,0,0,0] 0 H;refine J3 H ?_;have e4:Z4 l i++(l.recs.take j).map (l.fixed+i*l.record+·)++[A+p]=Z4 l i++(l.recs.take (j+1)).map (l.fixed+i*l.record+·):=by rw[htk,hA];simp
     rw[e4] at H;exact⟨_,⟨rfl,j+1,hlt,rfl,rfl,rfl,rfl,rfl,rfl,rfl,Qa (by omega),H⟩,by omega⟩
    ·have hge:j=l.recs.length:=by omega
     subst hge;rw[take_length] at H;have e5:Z4 l i++l.recs.map (l.fixed+i*l.record+·)=Z4 l (i+1):=hsucc.symm;rw[e5] at H;exact⟨rfl,rfl,rfl,rfl,rfl,rfl,H⟩
   clear H;rintro ms σ w ⟨rfl,g0,g1,g4,g8,H⟩;rw[Q1 g0,Q1 g1,Q1 g4,Q1 g8];refine R4 H ?_;refine J2 H ?_;refine⟨_,⟨rfl,i+1,A+l.record,hic,by rw[hA,Nat.succ_mul];omega,rfl,rfl,rfl,rfl,?_,H⟩,by omega⟩;show Value.int .i64 (IntKind.i64.wrap ((A:Int)+(l.record:Int)))=_;rw[Qb (by omega) (by omega)];rfl
  ·have hge:i=c:=by
    refine Nat.le_antisymm hi (Nat.le_of_not_lt fun hlt=>?_);have hrp:0 < l.record:=Nat.pos_of_ne_zero (z5 (by omega));have:=Nat.mul_lt_mul_of_pos_right hlt hrp;omega
   subst hge;exact⟨rfl,rfl,H⟩
 clear H;rintro ms σ w ⟨rfl,H⟩;replace H:=Js [2,2,2,0,0] 0 H;exact Y7 _ (.inl rfl) H rfl fun w' H'=>H'
def Qc (l:List Int):List Value:=l.map fun x=>Value.int .i64 x
theorem Va (l:List Int):(Qc l).length=l.length*1:=by simp[Qc]
theorem Ab (a b:List Int):Qc (a++b)=Qc a++Qc b:=by simp[Qc]
theorem Er (l:List Nat):QA l=Qc (l.map fun x:Nat=>(x:Int)):=by simp[QA,Qc]
@[reducible] def IL (v:Value) (l:List Int):Q2:=QC 3 1 v (Qc l)
theorem Es [Q4] (v:Value) (l:List Int) (hl:l.length≤1000000) {w:World} {fr:List Q2} (H:Q0 w (IL v l::fr)) :
  Calls Tryz.prog 32 #[v] w (ret fun x w'=>x = .tuple #[]∧Q0 w' (IL v (l.mergeSort fun x y=>decide (x≤y))::fr)):=by
 obtain⟨a,c,rfl⟩:=QD H (Va l) (by decide);have hlen:(l.mergeSort fun x y=>decide (x≤y)).length=l.length:=length_mergeSort l;by_cases h0:l=[]
 ·subst h0;refine(Any.slices_Sort_int_none Tryz.laysSort a c w).mono ?_;rintro e w' ⟨rfl,rfl⟩;rw[mergeSort_nil];exact⟨rfl,H⟩
 ·have hpos:0 < l.length:=length_pos_iff.2 h0;obtain⟨b,s,rfl,H,h1,h2,hclose⟩:=Yx H hpos;have hb:=H.pts;refine(Any.slices_Sort_int Tryz.laysSort b 0 c l w (fun j hj=>⟨?_,Rk hb⟩) H.fresh (by omega)).mono ?_
  ·refine Zj hb ?_;have hj':j < l.length:=by simpa using hj
   rw[Nat.zero_add,getElem?_append_left (by simpa [Qc] using hj')];simp[Qc,hj']
  ·rintro e w' ⟨rfl,m,os,rfl⟩;refine⟨rfl,hclose _ _ (Qc (l.mergeSort fun x y=>decide (x≤y))) (by rw[Va,Va,hlen]) ?_⟩;have e1:(Go.Sort.putRow (Value.int .i64) (Go.Sort.ahead w m) b 0 (l.mergeSort fun x y=>decide (x≤y)).toArray).heap=w.heap.modify b (Go.Sort.onCells (Go.Sort.putCells (Value.int .i64) 0 (l.mergeSort fun x y=>decide (x≤y)).toArray)):=rfl
   have H1:Q0 (Go.Sort.putRow (Value.int .i64) (Go.Sort.ahead w m) b 0 (l.mergeSort fun x y=>decide (x≤y)).toArray) (pts b (row 3 (Qc (l.mergeSort fun x y=>decide (x≤y))++s))::fr):=by
    refine H.set ?_ ?_
    ·rw[e1,Array.getElem?_modify,if_pos rfl,hb];simp only[Option.map_some,row,Go.Sort.onCells];congr 2;apply Array.ext';apply ext_getElem?;intro t;simp only[Go.Sort.putCells,Array.getElem?_toList,Array.getElem?_mapIdx,getElem?_toArray,Nat.zero_le,true_and,Nat.zero_add,Nat.sub_zero,size_toArray];have l1:(Qc l).length=l.length:=by simp[Qc]
     have l2:(Qc (l.mergeSort fun x y=>decide (x≤y))).length=l.length:=by simp[Qc]
     by_cases ht:t < l.length
     ·rw[getElem?_append_left (by omega),getElem?_append_left (by omega)];have ht':t < (l.mergeSort fun x y=>decide (x≤y)).length:=by omega
      simp only[Qc,getElem?_map,getElem?_eq_getElem ht,getElem?_eq_getElem ht',Option.map_some,if_pos ht'];rw[getElem!_pos _ t (by simpa using ht')];simp
     ·rw[getElem?_append_right (by omega),getElem?_append_right (by omega),l1,l2];have ht':¬ t < (l.mergeSort fun x y=>decide (x≤y)).length:=by omega
      cases s[t - l.length]? with
      | none=>rfl
      | some y=>simp;intro h;omega
    ·intro c hc;rw[e1,Array.getElem?_modify,if_neg (Ne.symm hc)]
   refine H1.up (fun c o hc=>?_) ⟨rfl,rfl⟩;show ((Go.Sort.putRow (Value.int .i64) (Go.Sort.ahead w m) b 0 (l.mergeSort fun x y=>decide (x≤y)).toArray).heap++os)[c]? = some o;have:=(Array.getElem?_eq_some_iff.1 hc).1;rw[Array.getElem?_append_left this];exact hc
theorem Tv [Q4] (a:Option Addr) (n c:Nat) (hn:n < 2) {w:World} {fr:List Q2} (H:Q0 w fr) :
  Calls Tryz.prog 98 #[.slice a n c] w (ret fun x w'=>x = .slice a n c∧Q0 w' fr):=by
 refine QV Tryz.func98 rfl (by kernel_rfl) ?_;refine E4 H ?_;rw[show decide ((n:Int) < 2)=true from decide_eq_true (by omega)];refine Yi H ?_;exact Q3 (Jy H rfl fun w' H'=>⟨rfl,H'⟩)
theorem Tw [Q4] (v:Value) (l:List Nat) (x:Nat) (hl:l.length≤1000000) (b:Nat) {w:World} {fr:List Q2} (H:Q0 w (NL v l::pts b (row 3 [.int .i64 x])::fr)) :
  Calls Tryz.prog 143 #[v,.int .i64 l.length,.slice (some ⟨b,0,none⟩) 1 1] w (ret fun v w'=>Q0 w' (NL v (l++[x])::fr)):=by
 obtain⟨a,c,rfl⟩:=QD H (QE l) (by decide);refine QV Tryz.func143 rfl (by kernel_rfl) ?_;refine Gy H ?_;refine Q5 rfl (SO rfl rfl (Nat.le_refl _) rfl fun v12=>?_);refine Bt H ?_;refine Q5 rfl (ZY rfl rfl ?_);refine Yp H ?_;refine Xa H ?_;refine VG H ?_;rw[show (((l.length:Nat):Int) == (l.length:Int))=true by simp];refine VR H ?_;refine J5 H ?_;refine Q5 rfl (YF H rfl rfl (by repeat first|exact .nil _|apply QZ.cons rfl) rfl (by decide) (by rw[QE];simp only[length_cons,length_nil];omega) rfl rfl ?_);clear H;intro v25 w H;obtain⟨a25,m25,c25,rfl⟩:=Qq H;refine J0 H ?_;have e1:QA l++[.int .i64 x]=QA (l++[x]):=by rw[WW];rfl
 rw[e1] at H;exact Q3 (Jy (Q0.drop H.swap) rfl fun w' H'=>H')
def Qs (p:Nat) (l:List Nat):Q2:=ex fun v:Value=>star [pts p (row 199 [v]),NL v l]
theorem WB [Q4] {w:World} {p:Nat} {l:List Nat} {fr:List Q2} (H:Q0 w (Qs p l::fr)):∃ a c,Q0 w (pts p (row 199 [.slice a l.length c])::NL (.slice a l.length c) l::fr):=by
 obtain⟨v,H⟩:=Q0.ex.1 H;have H:=Q0.star.1 H;obtain⟨a,c,rfl⟩:=QD H.drop (QE l) (by decide);exact⟨a,c,H⟩
theorem KJ [Q4] {w:World} {p:Nat} {l:List Nat} {v:Value} {fr:List Q2} (H:Q0 w (pts p (row 199 [v])::NL v l::fr)):Q0 w (Qs p l::fr):=
 Q0.ex.2 ⟨v,Q0.star.2 H⟩
theorem Hu [Q4] {w:World} {fr:List Q2} (H:Q0 w fr):Calls Tryz.prog 38 #[.slice none 0 0] w (ret fun v w'=>∃ p,v=pp p∧Q0 w' (Qs p []::fr)):=by
 refine QV Tryz.func38 rfl (by kernel_rfl) ?_;refine R3 H ?_;refine Jc rfl rfl (CU (.slice none 0 0) [] (by simp) ⟨rfl,none,0,rfl,.inl rfl⟩ H) ?_;clear H;rintro v w H;obtain⟨a,c,rfl⟩:=QD H (QE []) (by decide);refine DL H ?_;refine Jc rfl rfl (Es _ [] (by simp) H) ?_;clear H;rintro v w ⟨rfl,H⟩;rw[mergeSort_nil] at H;refine Bt H ?_;refine Jc rfl rfl (Tv a 0 c (by omega) H) ?_;clear H;rintro v w ⟨rfl,H⟩;refine X6 H ?_;clear H;intro b10 w H;refine J0 H ?_;exact Q3 (Jy H rfl fun w' H'=>⟨_,rfl,KJ (l:=[]) H'⟩)
theorem Mu {l:List Nat} {x:Nat} (h:∀ a∈l,a < x):Z1 l x=l.length:=by
 unfold Z1;rw[countP_eq_length];intro a ha;simpa using h a ha
theorem Tx [Q4] (p:Nat) (l:List Nat) (x:Nat) (hs:l.Pairwise (· < ·)) (hl:l.length≤100000) (hx:∀ a∈l,a < x) {w:World} {fr:List Q2} (H:Q0 w (Qs p l::fr)) :
  Calls Tryz.prog 83 #[pp p,.int .i64 x] w (ret fun v w'=>v = .bool true∧Q0 w' (Qs p (l++[x])::fr)):=by
 obtain⟨a,c,H⟩:=WB H;have hn:x∉l:=fun h=>by have:=hx x h;omega
 refine QV Tryz.func83 rfl (by kernel_rfl) ?_;refine WQ H ?_;obtain⟨D1,H,hD1,hC1⟩:=sls_rd H.swap (QE _) (by decide);refine Jc rfl rfl (AP _ l (by omega) hs x (hD1 _) H) ?_;clear H;rintro v w ⟨rfl,H⟩;replace H:=hC1 _ _ H;rw[Mu hx,decide_eq_false hn];refine X8 H ?_;refine J7 H ?_;refine Qm (fun ms σ w=>ms=[]∧σ 6 = .bool false∧Q0 w (Qs p (l++[x])::fr)) ?_ ?_
 ·refine VE rfl ?_;refine A4 H ?_;refine YP H ?_;refine GX H ?_;clear H;intro b27 w H;replace H:=Js [1,0,0] 0 H;refine Jc rfl rfl (Tw _ l x (by omega) _ H) ?_;clear H;intro v w H;obtain⟨a28,m28,c28,rfl⟩:=Qq H;refine GK H ?_;clear H;intro w H;refine Q6 ?_;exact⟨rfl,rfl,rfl,KJ H.swap⟩
 ·clear H;rintro ms σ w ⟨rfl,g6,H⟩;rw[Q1 g6];refine VG H ?_;exact Q3 (Jy H rfl fun w' H'=>⟨rfl,H'⟩)
theorem Tz [Q4] (p:Nat) (l:List Nat) (x:Nat) (hs:l.Pairwise (· < ·)) (hl:l.length≤100000) {w:World} {fr:List Q2} (H:Q0 w (Qs p l::fr)) :
  Calls Tryz.prog 42 #[pp p,.int .i64 x] w (ret fun v w'=>v = .bool (decide (x∈l))∧Q0 w' (Qs p l::fr)):=by
 obtain⟨a,c,H⟩:=WB H;refine QV Tryz.func42 rfl (by kernel_rfl) ?_;refine WQ H ?_;obtain⟨D1,H,hD1,hC1⟩:=sls_rd H.swap (QE _) (by decide);refine Jc rfl rfl (AP _ l (by omega) hs x (hD1 _) H) ?_;clear H;rintro v w ⟨rfl,H⟩;replace H:=hC1 _ _ H;refine X8 H ?_;exact Q3 (Jy (KJ H.swap) rfl fun w' H'=>⟨rfl,H'⟩)
theorem Et:∀ a b:Rf,kp a=kp b→a=b:=RV.inj
def ZK (l:List Rf):List Value:=l.flatMap fun r=>[.int .i64 r.1,.int .i64 r.2]
theorem Ad (l:List Rf):(ZK l).length=l.length*2:=by
 induction l with
 | nil=>rfl
 | cons r l ih=>simp only[ZK,flatMap_cons,length_append,length_cons,length_nil] at ih ⊢;omega
theorem aQ (a b:List Rf):ZK (a++b)=ZK a++ZK b:=by simp[ZK]
theorem aV [Q4] (x:Option Nat) (m:List (Rf×Int)) {w:World} {fr:List Q2} (H:Q0 w (YN kp v1 (.map x) m::fr)) :
  Calls Tryz.prog 184 #[.map x] w
   (ret fun v w'=>∃ b,v = .func (.func 232) #[] #[pp b]∧Q0 w' (pts b (row 202 [.map x])::YN kp v1 (.map x) m::fr)):=by
 refine QV Tryz.func184 rfl (by kernel_rfl) ?_;refine ZF H ?_;clear H;intro b1 w H;refine YI H ?_;refine Q3 (Jy H rfl fun w' H'=>⟨b1,rfl,H'⟩)
theorem G1 {α:Type}:∀ {l₁ l₂:List α},l₁.Nodup→(∀ z∈l₁,z∈l₂)→l₁.length≤l₂.length
 | [],_,_,_=>Nat.zero_le _
 | c::l,l₂,hn,hs=>by
  obtain⟨s,t,rfl⟩:=append_of_mem (hs c (by simp));have h:=nodup_cons.1 hn
  have:=G1 (l₂:=s++t) h.2 (fun z hz=>by
   have h1:=hs z (by simp[hz]);have h2:z≠c:=fun e=>h.1 (e▸hz);simp[h2] at h1;simpa using h1)
  simp at this ⊢;omega
theorem aY [Q4] (yl b:Nat) (x:Option Nat) (m:List (Rf×Int)) (J:List Rf→Q2)
  (hy:∀ ks r rest w,ks.length < m.length→Q0 w (J ks::rest)→SL.Yields Tryz.prog yl #[rf r] w (fun v w'=>v = .bool true∧Q0 w' (J (ks++[r])::rest)))
  {w:World} {fr:List Q2} (H:Q0 w (J []::pts b (row 202 [.map x])::YN kp v1 (.map x) m::fr)) :
  Calls Tryz.prog 232 #[.func (.yield yl) #[] #[],pp b] w
   (ret fun _ w'=>∃ ks,ks.Perm (m.map (·.1))∧Q0 w' (J ks::YN kp v1 (.map x) m::fr)):=by
 refine QV Tryz.func232 rfl (by kernel_rfl) ?_;refine Gx H ?_;replace H:=Js [2,0,0] 0 H;refine Q5 rfl (B9 kp v1 H rfl rfl ?_);clear H;intro bi w H;refine Q6 ?_;refine QS ?_;refine Qi (fun ms σ w n=>ms=[]∧∃ ks:List Rf,σ 0 = .func (.yield yl) #[] #[]∧σ 5=pp bi∧n=m.length - ks.length∧Q0 w (Gs kp v1 (.map x) m bi ks::J ks::pts b (row 202 [.map x])::fr)) (m:=m.length) ⟨rfl,[],rfl,rfl,rfl,H⟩ ?_;clear H w;rintro ms σ w n ⟨rfl,ks,h0,h5,rfl,H⟩;rw[Q1 h0,Q1 h5];refine Yq H ?_;refine Q5 rfl (BQ H Et rfl rfl (fun hp w H=>?_) (fun q hq hn hnd hsub w H=>?_))
 ·refine AV H ?_;replace H:=DX H;replace H:=Js [1,0] 1 H;exact Y7 _ (.inl rfl) H rfl fun w' H'=>⟨ks,hp,H'⟩
 ·have hlt:ks.length < m.length:=by
   have h1:(ks++[q.1]).Nodup:=by
    rw[nodup_append];exact⟨hnd,by simp,fun c hc c' hc' e0=>by simp at hc';subst hc';subst e0;exact hn hc⟩
   have h2:=G1 h1 (l₂:=m.map (·.1)) (fun z hz=>by
    rcases mem_append.1 hz with hz|hz
    ·exact hsub z hz
    ·simp at hz;subst hz;exact mem_map_of_mem hq)
   simp at h2;omega
  refine Bu H ?_;refine Yq H ?_;refine Q5 rfl (BV H Et hq rfl rfl ?_);refine Jv ?_;refine VQ H ?_;clear H;intro b3 w H;refine J4 H ?_;clear H;intro w H;refine Q6 ?_;refine GZ H ?_;replace H:=Js [2,0,0,0] 0 H;refine Q5 rfl (Wl rfl rfl (SL.Yields.mono (hy ks q.1 _ _ hlt H) ?_));clear H;rintro v w ⟨rfl,H⟩;refine Vo H ?_;replace H:=Js [2,0,1] 1 H;exact⟨_,⟨rfl,ks++[q.1],rfl,rfl,rfl,H⟩,by simp;omega⟩
def CJ (L:Q2) (b2:Nat) (ks:List Rf):Q2:=ex fun v:Value=>star [QC 132 2 v (ZK ks),L,pts b2 (row 129 [v])]
theorem Mv [Q4] {w:World} {L:Q2} {b2:Nat} {ks:List Rf} {l:List Q2} (H:Q0 w (CJ L b2 ks::l)):∃ v,Q0 w (QC 132 2 v (ZK ks)::L::pts b2 (row 129 [v])::l):=by
 obtain⟨v,H⟩:=Q0.ex.1 H;exact⟨v,Q0.star.1 H⟩
theorem Mw [Q4] {w:World} {L:Q2} {b2:Nat} {ks:List Rf} {l:List Q2} {v:Value} (H:Q0 w (QC 132 2 v (ZK ks)::L::pts b2 (row 129 [v])::l)):Q0 w (CJ L b2 ks::l):=
 Q0.ex.2 ⟨v,Q0.star.2 H⟩
theorem Ae [Q4] {w:World} {E k:Nat} {v:Value} {c:List Value} {l:List Q2} (H:Q0 w (QC E k v c::l)):v.oneCell'=true:=by
 rcases GV H with ⟨rfl,_⟩|⟨_,_,_,_,rfl,_⟩ <;> rfl
theorem aZ [Q4] (b:Nat) (x:Option Nat) (m:List (Rf×Int)) (hm:m.length≤1000000) {w:World} {fr:List Q2} (H:Q0 w (pts b (row 202 [.map x])::YN kp v1 (.map x) m::fr)) :
  Calls Tryz.prog 248 #[.slice none 0 0,.func (.func 232) #[] #[pp b]] w
   (ret fun v w'=>∃ ks,ks.Perm (m.map (·.1))∧Q0 w' (QC 132 2 v (ZK ks)::YN kp v1 (.map x) m::fr)):=by
 refine QV Tryz.func248 rfl (by kernel_rfl) ?_;refine ZF H ?_;clear H;intro b2 w H;refine BL H ?_;refine QS (Kt (a:=[]) (b:=[pp b]) H rfl (fun yl D w H=>?_));generalize hL:LR _ yl _ _ _ _ D .ready=L at H ⊢;replace H:=Yn (E:=132) (k:=2) H;replace H:=Js [0,0,1,1,1,0] 0 H;refine call (aY yl b x m (CJ L b2) ?_ (Mw (ks:=[]) H)) ?_
 ·intro ks r rest w hlt H;obtain⟨a,c⟩:=r;obtain⟨v,H⟩:=Mv H;have h1:=Ae H;subst hL;replace H:=Js [1,0,0] 0 H;refine Ks (args:=[rf (a,c)]) H rfl rfl ?_;refine YS H ?_;clear H;intro b5 w H;refine J4 H ?_;clear H;intro w H;refine Q6 ?_;replace H:=Js [1,1,0,0] 0 H;refine⟨rfl,_,H,fun w H=>QS ?_⟩
  repeat refine Q7 ?_
  refine QG ?_;refine Q5 rfl (QW H rfl rfl rfl ?_);refine Q5 rfl (VH H rfl (by repeat first|exact .nil _|apply QZ.cons rfl) rfl ?_);refine GX H ?_;clear H;intro b10 w H;replace H:=Js [2,0,0,0,0] 0 H;refine Q5 rfl (YF H rfl rfl (by repeat first|exact .nil _|apply QZ.cons rfl) rfl (by decide) (by simp only[Ad,length_cons,length_nil];omega) rfl rfl ?_);clear H;intro v11 w H;obtain⟨a11,c11,rfl⟩:=QD (m:=ks.length+1) H (by simp[Ad];omega) (by decide);refine Q5 rfl (Yh H rfl rfl inferInstance (Ae H) (Nat.le_of_ble_eq_true rfl) rfl ?_);clear H;intro w H;refine Q6 ?_;replace H:=Js [2,0,2] 2 H;refine⟨rfl,_,H,fun w H=>⟨rfl,Mw (v := .slice a11 (ks.length+1) c11) ?_⟩⟩;replace H:=Js [1,0,0] 0 H;rw[aQ];exact H
 ·rintro v w' ⟨ks,hp,H⟩;obtain⟨v2,H⟩:=Mv H;have h1:=Ae H;subst hL;replace H:=Js [1,0,0,0,0] 0 H;refine⟨_,H,fun w H=>?_⟩;refine Gx H ?_;refine UR H ?_;replace H:=Js [3,0,1] 1 H;exact Q3 (Rj (ms:=[D]) _ (.inr rfl) ((Q0.star (k:=[pts D (.deferred (some []))])).2 H) rfl fun w' H'=>⟨ks,hp,H'⟩)
theorem aG [Q4] (b:Nat) (x:Option Nat) (m:List (Rf×Int)) (hm:m.length≤1000000) {w:World} {fr:List Q2} (H:Q0 w (pts b (row 202 [.map x])::YN kp v1 (.map x) m::fr)) :
  Calls Tryz.prog 230 #[.func (.func 232) #[] #[pp b]] w
   (ret fun v w'=>∃ ks,ks.Perm (m.map (·.1))∧Q0 w' (QC 132 2 v (ZK ks)::YN kp v1 (.map x) m::fr)):=by
 refine QV Tryz.func230 rfl (by kernel_rfl) ?_;refine R3 H ?_;refine Jc rfl rfl (aZ b x m hm H) ?_;rintro v w ⟨ks,hp,H⟩;refine UR H ?_;exact Q3 (Jy H rfl fun w' H'=>⟨ks,hp,H'⟩)
theorem Mx [Q4] (a:Int) (w:World):Calls Tryz.prog 229 #[.int .i64 a] w (ret fun v w'=>v = .bool false∧w'=w):=by
 refine QV Tryz.func229 rfl (by kernel_rfl) ?_
 repeat refine Q7 ?_
 refine QG ?_;refine Jv ?_;refine Q6 ?_
 repeat refine Q7 ?_
 refine QG ?_;refine Jv ?_;refine Jv ?_;refine Jv ?_;refine Jv ?_;refine Q6 ?_;exact Q3 (K3 (.inr rfl) rfl ⟨by show Value.bool (a != a)=_;simp,rfl⟩)
def KL (a b:Int):Int:=if a < b then -1 else if b < a then 1 else 0
theorem My [Q4] (a b:Int) (w:World):Calls Tryz.prog 187 #[.int .i64 a,.int .i64 b] w (ret fun v w'=>v = .int .i64 (KL a b)∧w'=w):=by
 refine QV Tryz.func187 rfl (by kernel_rfl) ?_
 repeat refine Q7 ?_
 refine QG ?_;refine Jv ?_;refine Q6 ?_
 repeat refine Q7 ?_
 refine QG ?_;refine Jv ?_;refine Jc rfl rfl (Mx a _) ?_;rintro v w' ⟨rfl,rfl⟩;refine Jv ?_;refine Q6 ?_
 repeat refine Q7 ?_
 refine QG ?_;refine Jv ?_;refine Jc rfl rfl (Mx b _) ?_;rintro v w' ⟨rfl,rfl⟩;refine Jv ?_;refine Q6 ?_
 repeat refine Q7 ?_
 refine QG ?_;refine Jv ?_;refine Q6 ?_
 repeat refine Q7 ?_
 refine VY rfl (QR ?_)
 repeat refine Q7 ?_
 refine QG ?_;refine Jv ?_;refine Q6 ?_
 repeat refine Q7 ?_
 refine VY rfl (QR ?_)
 repeat refine Q7 ?_
 refine QG ?_;refine Jv ?_;refine Jv ?_;refine Jv ?_;refine Q6 ?_
 repeat refine Q7 ?_
 refine Qh rfl (fun h=>?_) (fun h=>QR ?_)
 ·repeat refine Q7 ?_
  refine QG ?_;refine Jv ?_;refine Q6 ?_;exact Q3 (K3 (.inr rfl) rfl ⟨by show Value.int .i64 (-1)=_;simp[KL,h],rfl⟩)
 ·repeat refine Q7 ?_
  refine QG ?_;refine Jv ?_;refine Jv ?_;refine Jv ?_;refine Q6 ?_
  repeat refine Q7 ?_
  refine Qh rfl (fun h2=>?_) (fun h2=>QR ?_)
  ·repeat refine Q7 ?_
   refine QG ?_;refine Jv ?_;refine Q6 ?_;exact Q3 (K3 (.inr rfl) rfl ⟨by have:b < a:=h2;show Value.int .i64 1=_;simp[KL,h,this],rfl⟩)
  ·repeat refine Q7 ?_
   refine QG ?_;refine Jv ?_;refine Q6 ?_;exact Q3 (K3 (.inr rfl) rfl ⟨by have:¬ b < a:=h2;show Value.int .i64 0=_;simp[KL,h,this],rfl⟩)
def Af (x y:Int):Int:=if x=0 then y else x
theorem aX [Q4] (b:Nat) (x y:Int) {w:World} {fr:List Q2} (H:Q0 w (pts b (row 3 [.int .i64 x,.int .i64 y])::fr)) :
  Calls Tryz.prog 186 #[.slice (some ⟨b,0,none⟩) 2 2] w (ret fun v w'=>v = .int .i64 (Af x y)∧w'=w):=by
 refine QV Tryz.func186 rfl (by kernel_rfl) ?_;refine VJ H ?_;refine R3 H ?_;refine Bs H ?_;refine Zf H ?_;refine Qi (fun ms σ w' n=>ms=[]∧w'=w∧∃ i:Nat,i≤2∧n=2 - i∧σ 6 = .slice (some ⟨b,0,none⟩) 2 2∧σ 7 = .int .i64 2∧σ 8 = .int .i64 i∧σ 3 = .int .i64 0∧(1≤i→x=0)∧(2≤i→y=0)) (m:=2) ⟨rfl,rfl,0,by omega,rfl,rfl,rfl,rfl,rfl,by omega,by omega⟩ ?_;rintro ms σ w' n ⟨rfl,rfl,i,hi,rfl,h6,h7,h8,h3,hx,hy⟩;rw[Q1 h6,Q1 h7,Q1 h8,Q1 h3];have h012:i=0∨i=1∨i=2:=by omega
 rcases h012 with rfl|rfl|rfl
 ·refine J6 H ?_;refine VE rfl (QR ?_);refine Y9 H ?_;refine Q5 rfl (Gq rfl rfl (by decide) (by decide) rfl ?_);refine KY H ?_;refine Br H ?_;refine YK H ?_;refine Ri rfl (fun ht=>?_) (fun ht=>QR ?_)
  ·have hx0:x≠0:=by simpa using ht
   refine J3 H ?_;exact Q3 (K3 (.inr rfl) rfl ⟨by show Value.int .i64 x=_;simp[Af,hx0],rfl⟩)
  ·have hx0:x=0:=by simpa using ht
   refine J3 H ?_;exact⟨_,⟨rfl,rfl,1,by omega,rfl,rfl,rfl,rfl,rfl,by omega,by omega⟩,by omega⟩
 ·refine J6 H ?_;refine VE rfl (QR ?_);refine Y9 H ?_;refine Q5 rfl (Gq rfl rfl (by decide) (by decide) rfl ?_);refine KY H ?_;refine Br H ?_;refine YK H ?_;refine Ri rfl (fun ht=>?_) (fun ht=>QR ?_)
  ·have hx0:y≠0:=by simpa using ht
   refine J3 H ?_;exact Q3 (K3 (.inr rfl) rfl ⟨by show Value.int .i64 y=_;simp[Af,hx (by omega)],rfl⟩)
  ·have hx0:y=0:=by simpa using ht
   refine J3 H ?_;exact⟨_,⟨rfl,rfl,2,by omega,rfl,rfl,rfl,rfl,rfl,by omega,by omega⟩,by omega⟩
 ·refine J6 H ?_;refine VY rfl (Qj ?_);refine J3 H ?_;exact Q3 (K3 (.inr rfl) rfl ⟨by show Value.int .i64 0=_;simp[Af,hx (by omega),hy (by omega)],rfl⟩)
def Ag (x y:Rf):Int:=Af (KL x.1 y.1) (KL x.2 y.2)
open Go.Sort in
theorem aK (x y:Rf) (w:World):Calls Tryz.prog 185 #[rf x,rf y] w (ret fun v w'=>v = .int .i64 (Ag x y)∧∃ q os',w'=grow (w.drewN q) os'):=by
 obtain⟨a,b⟩:=x;obtain⟨c,d⟩:=y;letI:Q4:=⟨w.os,w.output⟩;have H:Q0 w []:=Q0.nil w ⟨rfl,rfl⟩;refine QV Tryz.func185 rfl (by kernel_rfl) ?_
 repeat refine Q7 ?_
 refine QG ?_;refine Q5 rfl (Ll H rfl rfl ?_);clear H;intro b2 w1 e1 H;refine Q5 rfl (Ll H rfl rfl ?_);clear H;intro b3 w2 e2 H;refine Jv ?_;refine Q6 ?_
 repeat refine Q7 ?_
 refine S5 H mixed ?_;clear H;intro w3 e3 H;refine Jf 0 ?_;refine Jl 1 [4,9,10,11] H ?_;refine Jf 2 ?_;refine Jl 3 [4,9,10,11] H ?_;refine Jf 5 ?_;refine Jl 6 [9,10,11] H ?_;refine Jf 7 ?_;refine Jl 8 [9,10,11] H ?_;refine Jo 4 H ?_;refine Jk rfl rfl (My a c _) ?_;rintro v w' ⟨rfl,rfl⟩;refine Jo 9 H ?_;refine Jk rfl rfl (My b d _) ?_;rintro v w' ⟨rfl,rfl⟩;refine Jo 10 H ?_;refine S4 H rfl rfl rfl ?_;clear H;intro b15 w5 e5 H;refine Jo 11 H ?_;refine Jk rfl rfl (aX b15 (KL a c) (KL b d) H) ?_;rintro v w' ⟨rfl,rfl⟩;refine Ja 12 ?_;refine Jx H ?_
 have key:∃ q os',w'=grow (w.drewN q) os':=by
  rw[e5,e3,e2,e1];simp only[alloc_eq_grow]
  exact⟨1,_,by
   show grow (grow (grow (w.drewN 1) _) _) _=_;rw[grow_grow,grow_grow]⟩
 exact Q3 (K3 (.inr rfl) rfl ⟨rfl,key⟩)
def Zo (x y:Rf):Prop:=x.1 < y.1∨x.1=y.1∧x.2 < y.2
instance (x y:Rf):Decidable (Zo x y):=by unfold Zo;exact inferInstance
theorem aR (x y:Rf):Ag x y < 0↔Zo x y:=by
 unfold Ag Af KL Zo;constructor
 ·intro h
  repeat' split at h
  all_goals omega
 ·intro h
  repeat' split
  all_goals omega
open Go.Sort in
theorem Eu (x y:Rf):ltOf Ag x y=decide (Zo x y):=by
 unfold ltOf;rw[Bool.eq_iff_iff];simp[aR]
open Go.Sort in
theorem aW:SWO (ltOf Ag) where
 irrefl x:=by rw[Eu];simp[Zo]
 trans x y z h1 h2:=by
  rw[Eu] at h1 h2 ⊢;have h1:Zo x y:=of_decide_eq_true h1;have h2:Zo y z:=of_decide_eq_true h2;have h3:Zo x z:=by unfold Zo at *;omega
  exact decide_eq_true h3
 ntrans x y z h1 h2:=by
  rw[Eu] at h1 h2 ⊢;have h1:¬ Zo x y:=of_decide_eq_false h1;have h2:¬ Zo y z:=of_decide_eq_false h2;have h3:¬ Zo x z:=by unfold Zo at *;omega
  exact decide_eq_false h3
def Ev (r:Rf):List Value:=[.int .i64 r.1,.int .i64 r.2]
theorem aB (l:List Rf):ZK l=l.flatMap Ev:=rfl
def CA (l:List Rf):Prop:=l.Pairwise Zo
theorem aC [Q4] (b:Nat) (x:Option Nat) (m:List (Rf×Int)) (hm:m.length≤1000000) (hn:(m.map (·.1)).Nodup) {w:World} {fr:List Q2} (H:Q0 w (pts b (row 202 [.map x])::YN kp v1 (.map x) m::fr)) :
  Calls Tryz.prog 183 #[.func (.func 232) #[] #[pp b],.func (.func 185) #[] #[]] w
   (ret fun v w'=>∃ ks,ks.Perm (m.map (·.1))∧CA ks∧Q0 w' (QC 132 2 v (ZK ks)::YN kp v1 (.map x) m::fr)):=by
 refine QV Tryz.func183 rfl (by kernel_rfl) ?_;refine R3 H ?_;refine Jc rfl rfl (aG b x m hm H) ?_;rintro v w ⟨ks,hp,H⟩;refine UR H ?_;refine Yq H ?_;refine X4 rfl rfl ?_;refine Jv ?_
 have hs:=Sb (k:=2) (enc:=Ev) Tryz.sortRef (t:=132) rfl inferInstance (by decide) (fun _=>rfl) (fun x v hv=>by simp[Ev] at hv;rcases hv with rfl|rfl <;> rfl) Ag aW (g:=185) inferInstance (fun x y W=>(aK x y W).mono fun e w' h=>by
  cases e with
  | returned v=>exact⟨by rw[h.1],h.2⟩
  | panicked c=>exact h.elim
  | outgrown=>exact h.elim) H (by have:=hp.length_eq;simp at this;omega)
 refine Jc rfl rfl (hs) ?_;rintro v2 w ⟨ks2,hp2,hs2,H⟩;refine Q6 ?_;refine Yq H ?_;refine X4 rfl rfl ?_;refine UR H ?_;have hp3:=hp2.trans hp;refine Q3 (Jy H rfl fun w' H'=>⟨ks2,hp3,?_,H'⟩);have hnd:ks2.Nodup:=hp3.nodup_iff.2 hn;refine(hs2.and hnd).imp ?_;rintro a b ⟨h1,h2⟩;rw[Eu] at h1;have h3:¬ Zo b a:=of_decide_eq_false h1;unfold Zo at h3 ⊢;have h4:¬ (a.1=b.1∧a.2=b.2):=fun e=>h2 (Prod.ext e.1 e.2);omega
theorem Ew [Q4] (x:Option Nat) (m:List (Rf×Int)) (hm:m.length≤1000000) (hn:(m.map (·.1)).Nodup) {w:World} {fr:List Q2} (H:Q0 w (YN kp v1 (.map x) m::fr)) :
  Calls Tryz.prog 101 #[.map x] w
   (ret fun v w'=>∃ ks,ks.Perm (m.map (·.1))∧CA ks∧Q0 w' (QC 132 2 v (ZK ks)::YN kp v1 (.map x) m::fr)):=by
 refine QV Tryz.func101 rfl (by kernel_rfl) ?_;refine R3 H ?_;refine Jc rfl rfl (aV x m H) ?_;rintro v w ⟨b,rfl,H⟩
 refine Jc rfl rfl (aC b x m hm hn H) ?_;rintro v w ⟨ks,hp,hs,H⟩;refine UR H ?_;exact Q3 (Jy H rfl fun w' H'=>⟨ks,hp,hs,H'⟩)
end Go.Proofs.YtbnnnljagkjpiaaGreatDoor
