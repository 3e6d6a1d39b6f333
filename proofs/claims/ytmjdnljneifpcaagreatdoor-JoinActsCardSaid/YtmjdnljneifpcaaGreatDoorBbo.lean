/- Cells: what is proved on the way: every input of the statement; no condition. Texts joined: SplP SplH SplQ SplB RefE MovR ChkP. -/
import Derived.Test.YtmjdnljneifpcaaGreatDoorBbn
import Derived.Test.YtmjdnljneifpcaaGreatDoorBbl
import Derived.Test.YtmjdnljneifpcaaGreatDoorBbe
import Derived.Test.YtmjdnljneifpcaaGreatDoorBbi
import Derived.Test.YtmjdnljneifpcaaGreatDoorBbk
set_option linter.unusedVariables false
set_option linter.unusedSimpArgs false
set_option linter.unusedSectionVars false
namespace Go.Proofs.YtmjdnljneifpcaaGreatDoor
open Go.SL
def G6v (size:Nat) (T:Spc) (a n:Nat):Prop:=∃ c,(c,1)∈T.parts∧c*size≤a∧a+n≤(c+1)*size∧(a+n≤T.at'∨T.fin≤a)
theorem Y9t {size:Nat} (hs:1≤size) {own:List Nat} {x:Int} {S:Spc} (h:V1z size own x S) {e:Ent} (hl:Y6h size own e) (hne:e.region≠x):Q1q e≤S.at'∨S.fin≤e.addr:=by
 by_cases h0:S.fin=0
 ·right;omega
 obtain⟨c,hc1,hc2,hc3⟩:=h.fin h0;have hcm:c∈Q0k S.parts:=Q8e hc3 (Nat.le_refl _) (Nat.lt_succ_self _);obtain⟨y,hy1,hy2,hy3⟩:=(h.owned c).1 hcm;have hat:=h.at1
 rcases hl.chunk hs c with (h1|h1)|⟨z,hz1,hz2,hz3⟩
 ·left;omega
 ·right;omega
 ·rw[hy1] at hz1;injection hz1 with hz1
  subst hz1;exact absurd (hz2.symm.trans hy2) hne
theorem U5w {s:CS} (h:WF s) {k g:Nat} {e:Ent} (hk:s.tab[k]? = some ⟨g,some e⟩) {r id:Int} (hr:e.region=r) (hne:id≠r) (hnd:(s.par.map (·.1)).Nodup)
  {p1 p2:List (Int×Nat×Spc)} {b0 bs:Nat} {S T S' T':Spc} (hsps:s.sps=p1++(r,b0,S)::(p2++[(id,bs,T)]))
  {m1 m2:List (Int×Nat×List Nat)} {c0 bm:Nat} {M N:List Nat} (hmns:s.mns=m1++(r,c0,M)::(m2++[(id,bm,N)])) {own':List Nat} {a:Nat} {e':Ent} (he:e'={ e with region:=id,addr:=a })
  (hol:own'.length=s.own.length) (hE:Y6h s.size own' e') (hL:∀ (j n:Nat) (f:Ent),j≠k→s.tab[j]? = some ⟨n,some f⟩→Y6h s.size own' f)
  (hap:∀ (j n:Nat) (f:Ent),j≠k→s.tab[j]? = some ⟨n,some f⟩→Q1q f≤e'.addr∨Q1q e'≤f.addr)
  (hS:V1z s.size own' r S') (hT:V1z s.size own' id T') (ho:∀ x∈p1++p2,V1z s.size own' x.1 x.2.2)
  (hfS:∀ (j n:Nat) (f:Ent),(s.tab.set k ⟨g,some e'⟩)[j]? = some ⟨n,some f⟩→Q1q f≤S'.at'∨S'.fin≤f.addr) (hfT:∀ (j n:Nat) (f:Ent),(s.tab.set k ⟨g,some e'⟩)[j]? = some ⟨n,some f⟩→Q1q f≤T'.at'∨T'.fin≤f.addr)
  (hlive:∀ (c x:Nat),own'[c]? = some x→x≠0→(x:Int)=id∨s.own[c]? = some x) {b0' bs':Nat} :
  WF { s with own:=own',tab:=s.tab.set k ⟨g,some e'⟩,sps:=p1++(r,b0,S')::(p2++[(id,bs,T')]),mns:=m1++(r,c0,M.filter (·≠k))::(m2++[(id,bm,V6c N k)]) }:=by
 have hkl:=(List.getElem?_eq_some_iff.1 hk).1;have hidk:id∈s.par.map (·.1):=by rw[← h.skeys,hsps];simp
 obtain⟨z,hz⟩:∃ z,(id,z)∈s.par:=by
  obtain⟨⟨x,z⟩,h1,h2⟩:=List.mem_map.1 hidk;exact⟨z,by rw[← h2];exact h1⟩
 have hlive':∀ (c x:Nat),own'[c]? = some x→x≠0→∃ q,((x:Int),q)∈s.par:=fun c x h1 h2=>by
  rcases hlive c x h1 h2 with h3|h3
  ·exact⟨z,by rw[h3];exact hz⟩
  ·exact h.live c x h3 h2
 have heg:e'.region=id:=by rw[he]
 have hoth:∀ x∈p1++p2,x∈s.sps∧x.1≠r∧x.1≠id:=by
  intro x hx;have hnk:(s.sps.map fun y=>y.1).Nodup:=by rw[h.skeys];exact hnd
  obtain⟨u1,u2⟩:=Q4x (f:=fun y:Int×Nat×Spc=>y.1) hsps hnk
  have hx1:x∈p1++(p2++[(id,bs,T)]):=by
   rcases List.mem_append.1 hx with hx|hx
   ·exact List.mem_append.2 (.inl hx)
   ·exact List.mem_append.2 (.inr (List.mem_append.2 (.inl hx)))
  obtain⟨v1,v2⟩:=Q4x (f:=fun y:Int×Nat×Spc=>y.1) (l:=p1++(p2++[(id,bs,T)])) (l1:=p1++p2) (l2:=[]) (a:=(id,bs,T)) (by simp) (by rw[u1];exact hnk.filter _);exact⟨(u2 x hx1).1,(u2 x hx1).2,(v2 x (by simpa using hx)).2⟩
 have hothM:∀ x∈m1++m2,x∈s.mns∧x.1≠r∧x.1≠id:=by
  intro x hx;have hnk:(s.mns.map fun y=>y.1).Nodup:=by rw[h.mkeys];exact hnd
  obtain⟨u1,u2⟩:=Q4x (f:=fun y:Int×Nat×List Nat=>y.1) hmns hnk
  have hx1:x∈m1++(m2++[(id,bm,N)]):=by
   rcases List.mem_append.1 hx with hx|hx
   ·exact List.mem_append.2 (.inl hx)
   ·exact List.mem_append.2 (.inr (List.mem_append.2 (.inl hx)))
  obtain⟨v1,v2⟩:=Q4x (f:=fun y:Int×Nat×List Nat=>y.1) (l:=m1++(m2++[(id,bm,N)])) (l1:=m1++m2) (l2:=[]) (a:=(id,bm,N)) (by simp) (by rw[u1];exact hnk.filter _);exact⟨(u2 x hx1).1,(u2 x hx1).2,(v2 x (by simpa using hx)).2⟩
 have hin:∀ {α:Type} {l1 l2:List α} {u v x:α},x∈l1++u::(l2++[v])→x=u∨x=v∨x∈l1++l2:=by
  intro α l1 l2 u v x hx
  rcases List.mem_append.1 hx with hx|hx
  ·exact .inr (.inr (List.mem_append.2 (.inl hx)))
  ·rcases List.mem_cons.1 hx with hx|hx
   ·exact .inl hx
   ·rcases List.mem_append.1 hx with hx|hx
    ·exact .inr (.inr (List.mem_append.2 (.inr hx)))
    ·exact .inr (.inl (List.mem_singleton.1 hx))
 have hMm:(r,c0,M)∈s.mns:=by rw[hmns];simp
 have hNm:(id,bm,N)∈s.mns:=by rw[hmns];simp
 have hM:=h.mine _ hMm;have hN:=h.mine _ hNm;refine⟨h.size,by show 1≤own'.length∧own'.length≤63;rw[hol];exact h.own,by show 1≤(s.tab.set _ _).length∧(s.tab.set _ _).length≤63;rw[List.length_set];exact h.slots,h.lays,fun i t hi=>?_,fun i n f hi=>?_,fun i j n n' f f' hij hi hj=>?_,h.par,?_,?_,fun x hx=>?_,fun x hx j n f hj=>?_,hlive',fun x hx=>?_⟩
 ·rcases Q1i hi with ⟨rfl,rfl,_⟩|⟨_,hi⟩
  ·exact⟨(h.gen _ _ hk).1,fun _=>(h.gen _ _ hk).2 rfl⟩
  ·exact h.gen i t hi
 ·rcases Q1i hi with ⟨rfl,h1,_⟩|⟨h0,hi⟩
  ·injection h1 with h1 h2
   injection h2 with h2
   subst h1 h2;exact⟨Z5l (h.obj _ _ _ hk).1 (by rw[he]) (by rw[he]) (by rw[he]),hE,z,by rw[heg];exact hz⟩
  ·obtain⟨o1,_,o3⟩:=h.obj i n f hi;exact⟨o1,hL i n f h0 hi,o3⟩
 ·rcases Q1i hi with ⟨rfl,h1,_⟩|⟨h0,hi2⟩ <;> rcases Q1i hj with ⟨rfl,h2,_⟩|⟨h0',hj2⟩
  ·exact absurd rfl hij
  ·injection h1 with _ h1
   injection h1 with h1
   subst h1;exact(hap j n' f' h0' hj2).symm
  ·injection h2 with _ h2
   injection h2 with h2
   subst h2;exact hap i n f h0 hi2
  ·exact h.apart i j n n' f f' hij hi2 hj2
 ·rw[← h.skeys,hsps];simp
 ·rw[← h.mkeys,hmns];simp
 ·rcases hin hx with rfl|rfl|hx
  ·exact hS
  ·exact hT
  ·exact ho x hx
 ·rcases hin hx with rfl|rfl|hx2
  ·exact hfS j n f hj
  ·exact hfT j n f hj
  ·rcases Q1i hj with ⟨rfl,h1,_⟩|⟨h0,hj2⟩
   ·injection h1 with _ h1
    injection h1 with h1
    subst h1;exact Y9t h.size.1 (ho x hx2) hE (by rw[heg];exact(hoth x hx2).2.2.symm)
   ·exact h.free x (hoth x hx2).1 j n f hj2
 ·rcases hin hx with rfl|rfl|hx
  ·refine⟨hM.1.filter _,fun i=>?_⟩;show i∈M.filter (·≠k)↔∃ n f,(s.tab.set k ⟨g,some e'⟩)[i]? = some ⟨n,some f⟩∧f.region=r;rw[List.mem_filter,hM.2];constructor
   ·rintro⟨⟨n,f,h1,h2⟩,h3⟩;have h3:i≠k:=by simpa using h3
    exact⟨n,f,by rw[List.getElem?_set_ne (fun h=>h3 h.symm)];exact h1,h2⟩
   ·rintro⟨n,f,h1,h2⟩
    rcases Q1i h1 with ⟨rfl,h3,_⟩|⟨h0,h1⟩
    ·injection h3 with _ h3
     injection h3 with h3
     subst h3;exact absurd (heg.symm.trans h2) hne
    ·exact⟨⟨n,f,h1,h2⟩,by simpa using h0⟩
  ·have hkN:k∉N:=fun h1=>by
    obtain⟨n,f,h2,h3⟩:=(hN.2 k).1 h1;rw[hk] at h2;injection h2 with h2
    injection h2 with _ h2
    injection h2 with h2
    subst h2;exact hne (h3.symm.trans hr)
   refine⟨V0h hN.1 hkN,fun i=>?_⟩;show i∈V6c N k↔∃ n f,(s.tab.set k ⟨g,some e'⟩)[i]? = some ⟨n,some f⟩∧f.region=id;rw[V8c,hN.2];constructor
   ·rintro(rfl|⟨n,f,h1,h2⟩)
    ·exact⟨g,e',List.getElem?_set_self hkl,heg⟩
    ·refine⟨n,f,?_,h2⟩;rw[List.getElem?_set_ne]
     ·exact h1
     ·intro h3;subst h3;exact hkN ((hN.2 _).2 ⟨n,f,h1,h2⟩)
   ·rintro⟨n,f,h1,h2⟩
    rcases Q1i h1 with ⟨rfl,h3,_⟩|⟨h0,h1⟩
    ·exact .inl rfl
    ·exact .inr ⟨n,f,h1,h2⟩
  ·obtain⟨u1,u2,u3⟩:=hothM x hx;obtain⟨v1,v2⟩:=h.mine x u1;refine⟨v1,fun i=>?_⟩;show i∈x.2.2↔∃ n f,(s.tab.set k ⟨g,some e'⟩)[i]? = some ⟨n,some f⟩∧f.region=x.1;rw[v2];constructor
   ·rintro⟨n,f,h1,h2⟩;refine⟨n,f,?_,h2⟩;rw[List.getElem?_set_ne]
    ·exact h1
    ·intro h3;subst h3;rw[hk] at h1;injection h1 with h1
     injection h1 with _ h1
     injection h1 with h1
     subst h1;exact u2 (h2.symm.trans hr)
   ·rintro⟨n,f,h1,h2⟩
    rcases Q1i h1 with ⟨rfl,h3,_⟩|⟨h0,h1⟩
    ·injection h3 with _ h3
     injection h3 with h3
     subst h3;exact absurd (h2.symm.trans heg) u3
    ·exact⟨n,f,h1,h2⟩
theorem G6w {s:CS} (h:WF s) {k g:Nat} {e:Ent} (hk:s.tab[k]? = some ⟨g,some e⟩) {r id:Int} (hr:e.region=r) (hne:id≠r) (hnd:(s.par.map (·.1)).Nodup)
  {p1 p2:List (Int×Nat×Spc)} {b0 bs:Nat} {S T:Spc} (hsps:s.sps=p1++(r,b0,S)::(p2++[(id,bs,T)]))
  {m1 m2:List (Int×Nat×List Nat)} {c0 bm:Nat} {M N:List Nat} (hmns:s.mns=m1++(r,c0,M)::(m2++[(id,bm,N)])) {a:Nat}
  (hs:G6v s.size T a (e.ws.length+1)) (hfree:∀ (j n:Nat) (f:Ent),j≠k→s.tab[j]? = some ⟨n,some f⟩→Q1q f≤a∨a+(e.ws.length+1)≤f.addr) :
  WF { s with tab:=s.tab.set k ⟨g,some { e with region:=id,addr:=a }⟩,mns:=m1++(r,c0,M.filter (·≠k))::(m2++[(id,bm,V6c N k)]) }:=by
 obtain⟨c,c1,c2,c3,c4⟩:=hs;have hTm:(id,bs,T)∈s.sps:=by rw[hsps];simp
 have hSm:(r,b0,S)∈s.sps:=by rw[hsps];simp
 have hT:=h.spc _ hTm;obtain⟨y,hy1,hy2,hy3⟩:=(hT.owned c).1 (Q8e c1 (Nat.le_refl _) (Nat.lt_succ_self _));have hcl:=(List.getElem?_eq_some_iff.1 hy1).1;have hle:(c+1)*s.size≤s.own.length*s.size:=Nat.mul_le_mul_right _ hcl;have hs1:=h.size.1
 have hE:Y6h s.size s.own { e with region:=id,addr:=a }:=by
  refine⟨by show a+1+e.ws.length≤_;omega,fun d h1 h2=>?_⟩;have h1:a / s.size≤d:=h1;have h2:d≤(a+e.ws.length) / s.size:=h2;have e1:a / s.size=c:=Nat.div_eq_of_lt_le (by omega) (by omega);have e2:(a+e.ws.length) / s.size=c:=Nat.div_eq_of_lt_le (by omega) (by omega);obtain rfl:d=c:=by omega
  exact⟨y,hy1,hy2,by omega⟩
 have hw:=U5w (S':=S) (T':=T) (own':=s.own) (b0':=0) (bs':=0) h hk hr hne hnd hsps hmns (a:=a) rfl rfl hE (fun j n f _ hj=>(h.obj j n f hj).2.1) (fun j n f h0 hj=>by
   have:=hfree j n f h0 hj;show Q1q f≤a∨a+1+e.ws.length≤f.addr;omega) (h.spc _ hSm) hT (fun x hx=>h.spc x (by
   rw[hsps]
   rcases List.mem_append.1 hx with hx|hx
   ·exact List.mem_append.2 (.inl hx)
   ·exact List.mem_append.2 (.inr (List.mem_cons_of_mem _ (List.mem_append.2 (.inl hx)))))) (fun j n f hj=>?_) (fun j n f hj=>?_) (fun _ _ h1 _ => .inr h1)
 ·rw[← hsps] at hw;exact hw
 ·rcases Q1i hj with ⟨rfl,h1,_⟩|⟨h0,hj⟩
  ·injection h1 with _ h1
   injection h1 with h1
   subst h1;exact Y9t hs1 (h.spc _ hSm) hE hne
  ·exact h.free _ hSm j n f hj
 ·rcases Q1i hj with ⟨rfl,h1,_⟩|⟨h0,hj⟩
  ·injection h1 with _ h1
   injection h1 with h1
   subst h1;show a+1+e.ws.length≤T.at'∨T.fin≤a;omega
  ·exact h.free _ hTm j n f hj
theorem Y0l {s s':CS} (h:WF s) {mem mem':List Nat} (m:Q4p s mem) {k g:Nat} {e:Ent} (hk:s.tab[k]? = some ⟨g,some e⟩) {id:Int} {a:Nat} (hfree:∀ (j n:Nat) (f:Ent),j≠k→s.tab[j]? = some ⟨n,some f⟩→Q1q f≤a∨a+(e.ws.length+1)≤f.addr)
  (hl:mem'.length=mem.length) (hin:∀ i,i < e.ws.length+1→mem'[a+i]? = mem[e.addr+i]?) (hout:∀ j,j < a∨a+(e.ws.length+1)≤j→mem'[j]? = mem[j]?)
  (h1:s'.own.length=s.own.length) (h2:s'.size=s.size) (h3:s'.tab=s.tab.set k ⟨g,some { e with region:=id,addr:=a }⟩):Q4p s' mem':=by
 refine⟨by rw[h1,h2,hl];exact m.len,fun i n f hi=>?_,fun i n f hi p w hp=>?_⟩
 ·rw[h3] at hi
  rcases Q1i hi with ⟨rfl,u1,_⟩|⟨h0,hi⟩
  ·injection u1 with _ u1
   injection u1 with u1
   subst u1;have:=hin 0 (by omega);show mem'[a]? = _;rw[Nat.add_zero,Nat.add_zero] at this;rw[this];exact m.head _ _ _ hk
  ·rw[hout f.addr (by have:=hfree i n f h0 hi;unfold Q1q at this;omega)];exact m.head i n f hi
 ·rw[h3] at hi
  rcases Q1i hi with ⟨rfl,u1,_⟩|⟨h0,hi⟩
  ·injection u1 with _ u1
   injection u1 with u1
   subst u1;have hp:e.ws[p]? = some w:=hp;have hpl:=(List.getElem?_eq_some_iff.1 hp).1;have:=hin (1+p) (by omega);show mem'[a+1+p]? = _;rw[Nat.add_assoc,this,← Nat.add_assoc];exact m.words _ _ _ hk p w hp
  ·have hpl:=(List.getElem?_eq_some_iff.1 hp).1;rw[hout (f.addr+1+p) (by have:=hfree i n f h0 hi;unfold Q1q at this;omega)];exact m.words i n f hi p w hp
theorem Y9u {s s':CS} (hP:Q3n s) {k g:Nat} {e:Ent} {id:Int} {a:Nat} {bs:Nat} {T:Spc} (hT:(id,bs,T)∈s'.sps) (hs:G6v s.size T a (e.ws.length+1)) (h1:s'.size=s.size) (h2:s'.tab=s.tab.set k ⟨g,some { e with region:=id,addr:=a }⟩) (h3:s'.sps=s.sps):Q3n s':=by
 intro j n f hj;rw[h2] at hj
 rcases Q1i hj with ⟨rfl,u1,_⟩|⟨h0,hj⟩
 ·injection u1 with _ u1
  injection u1 with u1
  subst u1;obtain⟨c,c1,c2,c3,_⟩:=hs;refine⟨_,hT,rfl,(c,1),c1,.inl ⟨rfl,?_,?_⟩⟩
  ·rw[h1];exact c2
  ·rw[h1];show a+1+e.ws.length≤(c+1)*s.size;omega
 ·rw[h3,h1];exact hP j n f hj
end Go.Proofs.YtmjdnljneifpcaaGreatDoor
namespace Go.Proofs.YtmjdnljneifpcaaGreatDoor
open Go.SL
theorem Q9r {l:List (Nat×Nat)} {c:Nat}:c∈Q0k l↔∃ y∈l,y.1≤c∧c < y.1+y.2:=by
 unfold Q0k;rw[List.mem_flatMap];constructor
 ·rintro⟨y,h1,h2⟩;exact⟨y,h1,Q5s.1 h2⟩
 ·rintro⟨y,h1,h2⟩;exact⟨y,h1,Q5s.2 h2⟩
theorem Q8y {A B:List (Nat×Nat)} {x:Nat×Nat} (h:(Q0k (A++x::B)).Nodup):(Q0k (A++B)).Nodup∧∀ c,x.1≤c→c < x.1+x.2→c∉Q0k (A++B):=by
 have e1:Q0k (A++x::B)=Q0k A++((List.range x.2).map (x.1+·)++Q0k B):=by
  rw[Q1o];rfl
 rw[e1,List.nodup_append] at h;obtain⟨h1,h2,h3⟩:=h;rw[List.nodup_append] at h2;obtain⟨h4,h5,h6⟩:=h2;rw[Q1o];refine⟨List.nodup_append.2 ⟨h1,h5,fun a ha b hb=>h3 a ha b (List.mem_append.2 (.inr hb))⟩,fun c hc1 hc2 hc=>?_⟩;have hr:c∈(List.range x.2).map (x.1+·):=Q5s.2 ⟨hc1,hc2⟩
 rcases List.mem_append.1 hc with hc|hc
 ·exact h3 c hc c (List.mem_append.2 (.inl hr)) rfl
 ·exact h6 c hr c hc rfl
theorem Z5m {α:Type} {l:List (Int×α)} (h:(l.map (·.1)).Nodup) {x y:Int×α} (hx:x∈l) (hy:y∈l) (he:x.1=y.1):x=y:=by
 obtain⟨a1,a2,h1⟩:=List.append_of_mem hx;obtain⟨_,h2⟩:=Q4x (f:=fun z:Int×α=>z.1) h1 h;rw[h1] at hy
 rcases Q7s hy with rfl|hy
 ·rfl
 ·exact absurd he.symm (h2 y hy).2
theorem Y8i.chunk {size:Nat} (hs:1≤size) {x:Nat×Nat} {e:Ent} (h:Y8i size x e) {d:Nat} (h1:e.addr / size≤d) (h2:d≤(e.addr+e.ws.length) / size):x.1≤d∧d < x.1+x.2:=by
 obtain⟨h3,h4⟩:=U0p hs h;have h5:x.1≤e.addr / size:=(Nat.le_div_iff_mul_le (by omega)).2 h3;have h6:(e.addr+e.ws.length) / size < x.1+x.2:=(Nat.div_lt_iff_lt_mul (by omega)).2 (by unfold Q1q at h4;omega);omega
theorem Y0m {s:CS} (h:WF s) (hP:Q3n s) (hnd:(s.par.map (·.1)).Nodup) {k g:Nat} {e:Ent} (hk:s.tab[k]? = some ⟨g,some e⟩) {b0 c n:Nat} {S:Spc} (hSm:(e.region,b0,S)∈s.sps) {A B:List (Nat×Nat)} (hp:S.parts=A++(c,n)::B) (hn:2≤n) (hin:Y8i s.size (c,n) e)
  {j n':Nat} {f:Ent} (hjk:j≠k) (hj:s.tab[j]? = some ⟨n',some f⟩) {d:Nat} (h1:f.addr / s.size≤d) (h2:d≤(f.addr+f.ws.length) / s.size):¬ (c≤d∧d < c+n):=by
 rintro⟨h3,h4⟩;have hS:=h.spc _ hSm;obtain⟨y,y1,y2,_⟩:=(hS.owned d).1 (Q8e (x:=(c,n)) (by rw[hp];simp) h3 h4);obtain⟨z,z1,z2,_⟩:=(h.obj j n' f hj).2.1.2 d h1 h2;rw[y1] at z1;injection z1 with z1
 subst z1;obtain⟨x,x1,x2,w,w1,w2⟩:=hP j n' f hj;obtain rfl:x=(e.region,b0,S):=Z5m (by rw[h.skeys];exact hnd) x1 hSm (by rw[x2,← z2,y2]);have w1:w∈S.parts:=w1;obtain⟨w3,w4⟩:=w2.chunk h.size.1 h1 h2;rw[hp] at w1
 rcases Q7s w1 with rfl|w1
 ·rcases w2 with ⟨w5,_⟩|⟨_,w5,_⟩
  ·have w5:n=1:=w5;omega
  ·rcases hin with ⟨w6,_⟩|⟨_,w6,_⟩
   ·have w6:n=1:=w6;omega
   ·rcases h.apart k j g n' e f (fun h=>hjk h.symm) hk hj with w7|w7 <;> unfold Q1q at w7 <;> omega
 ·have hnd':=hS.nodup;have hnd':(Q0k S.parts).Nodup:=hnd';rw[hp] at hnd';exact(Q8y hnd').2 d h3 h4 (Q8e w1 w3 w4)
theorem U1g {s:CS} (h:WF s) (hP:Q3n s) {k g:Nat} {e:Ent} (hk:s.tab[k]? = some ⟨g,some e⟩) {r:Int} {id:Nat} (hr:e.region=r) (hne:(id:Int)≠r) (hnd:(s.par.map (·.1)).Nodup)
  {p1 p2:List (Int×Nat×Spc)} {b0 bs:Nat} {S T:Spc} (hsps:s.sps=p1++(r,b0,S)::(p2++[((id:Int),bs,T)]))
  {m1 m2:List (Int×Nat×List Nat)} {c0 bm:Nat} {M N:List Nat} (hmns:s.mns=m1++(r,c0,M)::(m2++[((id:Int),bm,N)]))
  {A B:List (Nat×Nat)} {c n:Nat} (hp:S.parts=A++(c,n)::B) (hn:2≤n) (hin:Y8i s.size (c,n) e) :
  WF { s with own:=Q7v s.own c n id,tab:=s.tab.set k ⟨g,some { e with region:=id,addr:=e.addr }⟩,sps:=p1++(r,b0,{ S with parts:=A++B })::(p2++[((id:Int),bs,{ T with parts:=T.parts++[(c,n)] })]),mns:=m1++(r,c0,M.filter (·≠k))::(m2++[((id:Int),bm,V6c N k)]) }:=by
 have hTm:((id:Int),bs,T)∈s.sps:=by rw[hsps];simp
 have hSm:(r,b0,S)∈s.sps:=by rw[hsps];simp
 have hT:=h.spc _ hTm;have hS:=h.spc _ hSm;have hcn:c+n≤s.own.length:=(hS.parts (c,n) (by show _∈S.parts;rw[hp];simp)).2;have hget:=fun i=>Q4c (v:=id) hcn i;have hs1:=h.size.1
 have hid1:1≤id:=by
  have:(id:Int)∈s.par.map (·.1):=by rw[← h.skeys,hsps];simp
  obtain⟨⟨x,z⟩,h1,h2⟩:=List.mem_map.1 this;have h2:x=(id:Int):=h2;have:=(h.par.2.2 x z h1).1;omega
 have hrun:∀ d,c≤d→d < c+n→∃ y:Nat,s.own[d]? = some y∧(y:Int)=r∧y≠0:=fun d h1 h2=>(hS.owned d).1 (Q8e (x:=(c,n)) (by show _∈S.parts;rw[hp];simp) h1 h2);have hSnd:(Q0k (A++(c,n)::B)).Nodup:=by rw[← hp];exact hS.nodup
 obtain⟨hn1,hn2⟩:=Q8y hSnd;have halone:=fun {j n':Nat} {f:Ent} (hjk:j≠k) (hj:s.tab[j]? = some ⟨n',some f⟩) {d:Nat}=>Y0m h hP hnd hk (S:=S) (b0:=b0) (by rw[hr];exact hSm) hp hn hin hjk hj (d:=d)
 have hfe:∀ x∈s.sps,∀ (j n':Nat) (f:Ent),(s.tab.set k ⟨g,some { e with region:=(id:Int),addr:=e.addr }⟩)[j]? = some ⟨n',some f⟩→Q1q f≤x.2.2.at'∨x.2.2.fin≤f.addr:=by
  intro x hx j n' f hj
  rcases Q1i hj with ⟨rfl,h1,_⟩|⟨h0,hj⟩
  ·injection h1 with _ h1
   injection h1 with h1
   subst h1;exact(h.free x hx _ g e hk:Q1q e≤x.2.2.at'∨x.2.2.fin≤e.addr)
  ·exact h.free x hx j n' f hj
 refine U5w (b0':=0) (bs':=0) h hk hr hne hnd hsps hmns (e':={ e with region:=(id:Int),addr:=e.addr }) rfl (Q0z hcn) ?_ (fun j n' f h0 hj=>?_) (fun j n' f h0 hj=>(h.apart j k n' g f e h0 hj hk:Q1q f≤e.addr∨Q1q e≤f.addr)) ⟨hS.at1,fun hf=>?_,fun y hy=>?_,hn1,fun d=>?_⟩ ⟨hT.at1,fun hf=>?_,fun y hy=>?_,?_,fun d=>?_⟩ (fun x hx=>?_) (hfe _ hSm) (hfe _ hTm) (fun d x h1 h2=>?_)
 ·obtain⟨u1,u2⟩:=(h.obj _ _ _ hk).2.1;refine⟨by rw[Q0z hcn];exact u1,fun d h1 h2=>?_⟩;obtain⟨v1,v2⟩:=hin.chunk hs1 h1 h2;exact⟨id,by rw[hget,if_pos ⟨v1,v2⟩],rfl,hid1⟩
 ·obtain⟨u1,u2⟩:=(h.obj j n' f hj).2.1;refine⟨by rw[Q0z hcn];exact u1,fun d h1 h2=>?_⟩;rw[hget,if_neg (halone h0 hj h1 h2)];exact u2 d h1 h2
 ·obtain⟨d,d1,d2,d3⟩:=hS.fin hf;refine⟨d,d1,d2,?_⟩;have d3:(d,1)∈S.parts:=d3;rw[hp] at d3
  rcases Q7s d3 with d3|d3
  ·injection d3 with _ d3
   omega
  ·exact d3
 ·rw[Q0z hcn];exact hS.parts y (by show y∈S.parts;rw[hp];exact V0o hy)
 ·show d∈Q0k (A++B)↔_;constructor
  ·intro hd
   have hd0:d∈Q0k S.parts:=by
    obtain⟨y,y1,y2⟩:=Q9r.1 hd;rw[hp];exact Q9r.2 ⟨y,V0o y1,y2⟩
   obtain⟨y,y1,y2,y3⟩:=(hS.owned d).1 hd0;refine⟨y,?_,y2,y3⟩;rw[hget,if_neg (fun h1=>hn2 d h1.1 h1.2 hd)];exact y1
  ·rintro⟨y,y1,y2,y3⟩;rw[hget] at y1;split at y1
   ·injection y1 with y1
    subst y1;exact absurd y2 hne
   ·rename_i h1;have hd0:=(hS.owned d).2 ⟨y,y1,y2,y3⟩;have hd0:d∈Q0k S.parts:=hd0;rw[hp] at hd0;obtain⟨z,z1,z2⟩:=Q9r.1 hd0
    rcases Q7s z1 with rfl|z1
    ·exact absurd z2 h1
    ·exact Q9r.2 ⟨z,z1,z2⟩
 ·obtain⟨d,d1,d2,d3⟩:=hT.fin hf;exact⟨d,d1,d2,List.mem_append.2 (.inl d3)⟩
 ·rw[Q0z hcn];have hy:y∈T.parts++[(c,n)]:=hy
  rcases List.mem_append.1 hy with hy|hy
  ·exact hT.parts y hy
  ·rw[List.mem_singleton] at hy;subst hy;exact⟨by show 1≤n;omega,hcn⟩
 ·show (Q0k (T.parts++[(c,n)])).Nodup;rw[Q1o,Q3u,List.nodup_append];refine⟨hT.nodup,V9g c n,fun x hx y hy hxy=>?_⟩;subst hxy;obtain⟨h1,h2⟩:=Q5s.1 hy;obtain⟨y,y1,y2,_⟩:=hrun x h1 h2;obtain⟨z,z1,z2,_⟩:=(hT.owned x).1 hx;rw[y1] at z1;injection z1 with z1
  subst z1;exact hne (z2.symm.trans y2)
 ·show d∈Q0k (T.parts++[(c,n)])↔_;rw[Q1o,Q3u,List.mem_append,Q5s,hget];constructor
  ·rintro(h1|h1)
   ·obtain⟨y,y1,y2,y3⟩:=(hT.owned d).1 h1;refine⟨y,?_,y2,y3⟩;rw[if_neg]
    ·exact y1
    ·rintro⟨h2,h3⟩;obtain⟨z,z1,z2,_⟩:=hrun d h2 h3;rw[y1] at z1;injection z1 with z1
     subst z1;exact hne (y2.symm.trans z2)
   ·exact⟨id,by rw[if_pos h1],rfl,by omega⟩
  ·rintro⟨y,y1,y2,y3⟩;by_cases h1:c≤d∧d < c+n
   ·exact .inr h1
   ·rw[if_neg h1] at y1;exact .inl ((hT.owned d).2 ⟨y,y1,y2,y3⟩)
 ·have hxs:x∈s.sps:=by
   rw[hsps]
   rcases List.mem_append.1 hx with hx|hx
   ·exact List.mem_append.2 (.inl hx)
   ·exact List.mem_append.2 (.inr (List.mem_cons_of_mem _ (List.mem_append.2 (.inl hx))))
  have hnk:(s.sps.map fun y=>y.1).Nodup:=by rw[h.skeys];exact hnd
  have hxr:x.1≠r:=by
   refine((Q4x (f:=fun y:Int×Nat×Spc=>y.1) hsps hnk).2 x ?_).2
   rcases List.mem_append.1 hx with hx|hx
   ·exact List.mem_append.2 (.inl hx)
   ·exact List.mem_append.2 (.inr (List.mem_append.2 (.inl hx)))
  have hxi:x.1≠(id:Int):=by
   have e1:s.sps=(p1++(r,b0,S)::p2)++((id:Int),bs,T)::[]:=by rw[hsps];simp
   refine((Q4x (f:=fun y:Int×Nat×Spc=>y.1) e1 hnk).2 x ?_).2;rw[List.append_nil];exact V0o hx
  obtain⟨a1,a2,a3,a4,a5⟩:=h.spc x hxs;refine⟨a1,a2,fun y hy=>by rw[Q0z hcn];exact a3 y hy,a4,fun d=>?_⟩;rw[a5,hget];by_cases h1:c≤d∧d < c+n
  ·rw[if_pos h1];obtain⟨y,y1,y2,y3⟩:=hrun d h1.1 h1.2;constructor
   ·rintro⟨z,z1,z2,z3⟩;rw[y1] at z1;injection z1 with z1
    subst z1;exact absurd (z2.symm.trans y2) hxr
   ·rintro⟨z,z1,z2,z3⟩;injection z1 with z1
    subst z1;exact absurd z2.symm hxi
  ·rw[if_neg h1]
 ·rw[hget] at h1;split at h1
  ·injection h1 with h1
   subst h1;exact .inl rfl
  ·exact .inr h1
theorem Z2u {s s':CS} (h:WF s) (hP:Q3n s) {k g:Nat} {e:Ent} (hk:s.tab[k]? = some ⟨g,some e⟩) {r id:Int} (hr:e.region=r) (hnd:(s.par.map (·.1)).Nodup)
  {p1 p2:List (Int×Nat×Spc)} {b0 bs:Nat} {S T:Spc} (hsps:s.sps=p1++(r,b0,S)::(p2++[(id,bs,T)])) {A B:List (Nat×Nat)} {c n:Nat} (hp:S.parts=A++(c,n)::B) (hn:2≤n) (hin:Y8i s.size (c,n) e)
  (h1:s'.size=s.size) (h2:s'.tab=s.tab.set k ⟨g,some { e with region:=id,addr:=e.addr }⟩) (h3:s'.sps=p1++(r,b0,{ S with parts:=A++B })::(p2++[(id,bs,{ T with parts:=T.parts++[(c,n)] })])):Q3n s':=by
 have hSm:(r,b0,S)∈s.sps:=by rw[hsps];simp
 intro j n' f hj;rw[h2] at hj;rw[h3,h1]
 rcases Q1i hj with ⟨rfl,u1,_⟩|⟨h0,hj⟩
 ·injection u1 with _ u1
  injection u1 with u1
  subst u1;exact⟨(id,bs,{ T with parts:=T.parts++[(c,n)] }),by simp,rfl,(c,n),List.mem_append.2 (.inr (by simp)),hin.alike rfl rfl⟩
 ·obtain⟨x,x1,x2,y,y1,y2⟩:=hP j n' f hj;have x1':=x1;rw[hsps] at x1
  rcases List.mem_append.1 x1 with x1|x1
  ·exact⟨x,List.mem_append.2 (.inl x1),x2,y,y1,y2⟩
  ·rcases List.mem_cons.1 x1 with rfl|x1
   ·refine⟨(r,b0,{ S with parts:=A++B }),by simp,x2,y,?_,y2⟩;have y1:y∈S.parts:=y1;rw[hp] at y1
    rcases Q7s y1 with rfl|y1
    ·exfalso;have hd1:f.addr / s.size≤f.addr / s.size:=Nat.le_refl _;have hd2:f.addr / s.size≤(f.addr+f.ws.length) / s.size:=Nat.div_le_div_right (by omega);exact Y0m h hP hnd hk (S:=S) (b0:=b0) (by rw[hr];exact hSm) hp hn hin h0 hj hd1 hd2 (y2.chunk h.size.1 hd1 hd2)
    ·exact y1
   ·rcases List.mem_append.1 x1 with x1|x1
    ·exact⟨x,List.mem_append.2 (.inr (List.mem_cons_of_mem _ (List.mem_append.2 (.inl x1)))),x2,y,y1,y2⟩
    ·rw[List.mem_singleton] at x1;subst x1;exact⟨(id,bs,{ T with parts:=T.parts++[(c,n)] }),by simp,x2,y,List.mem_append.2 (.inl y1),y2⟩
end Go.Proofs.YtmjdnljneifpcaaGreatDoor
namespace Go.Proofs.YtmjdnljneifpcaaGreatDoor
open Go.SL
structure Pl where
 k:Nat
 g:Nat
 e:Ent
 a:Nat
def Y6j (S:Spc) (size:Nat) (e:Ent):Bool:=S.parts.any fun x=>decide (1 < x.2∧x.1≤e.addr / size∧e.addr / size < x.1+x.2)
theorem G3d {l:List (Nat×Nat)} (h:(Q0k l).Nodup) {x y:Nat×Nat} (hx:x∈l) (hy:y∈l) {c:Nat} (h1:x.1≤c) (h2:c < x.1+x.2) (h3:y.1≤c) (h4:c < y.1+y.2):x=y:=by
 obtain⟨A,B,rfl⟩:=List.append_of_mem hx
 rcases Q7s hy with rfl|hy
 ·rfl
 ·exact absurd (Q8e hy h3 h4) ((Q8y h).2 c h1 h2)
theorem Z5n {s:CS} (h:WF s) (hnd:(s.par.map (·.1)).Nodup) (hP:Q3n s) {k g:Nat} {e:Ent} (hk:s.tab[k]? = some ⟨g,some e⟩) {b0:Nat} {S:Spc} (hSm:(e.region,b0,S)∈s.sps):∃ y∈S.parts,Y8i s.size y e:=by
 obtain⟨x,x1,x2,y,y1,y2⟩:=hP k g e hk;obtain rfl:x=(e.region,b0,S):=Z5m (by rw[h.skeys];exact hnd) x1 hSm x2;exact⟨y,y1,y2⟩
theorem G3e {s:CS} (h:WF s) (hnd:(s.par.map (·.1)).Nodup) (hP:Q3n s) {k g:Nat} {e:Ent} (hk:s.tab[k]? = some ⟨g,some e⟩) {b0:Nat} {S:Spc} (hSm:(e.region,b0,S)∈s.sps) (hb:Y6j S s.size e=false):e.ws.length+1≤s.size:=by
 obtain⟨y,y1,y2⟩:=Z5n h hnd hP hk hSm
 rcases y2 with ⟨h1,h2,h3⟩|⟨h1,h2,h3⟩
 ·rw[Nat.add_mul] at h3;unfold Q1q at h3;omega
 ·exfalso;have hs:=h.size.1;have h4:e.addr / s.size=y.1:=by rw[h2];exact Nat.mul_div_cancel _ (by omega)
  have:Y6j S s.size e=true:=List.any_eq_true.2 ⟨y,y1,decide_eq_true ⟨by omega,by omega,by omega⟩⟩;rw[hb] at this;cases this
theorem U1h {s:CS} (h:WF s) (hnd:(s.par.map (·.1)).Nodup) (hP:Q3n s) {k g:Nat} {e:Ent} (hk:s.tab[k]? = some ⟨g,some e⟩) {b0:Nat} {S:Spc} (hSm:(e.region,b0,S)∈s.sps) (hb:Y6j S s.size e=true):∃ y∈S.parts,2≤y.2∧Y8i s.size y e:=by
 obtain⟨x,x1,x2⟩:=List.any_eq_true.1 hb;obtain⟨x3,x4,x5⟩:=of_decide_eq_true x2;obtain⟨y,y1,y2⟩:=Z5n h hnd hP hk hSm;obtain⟨y3,y4⟩:=y2.chunk h.size.1 (Nat.le_refl _) (Nat.div_le_div_right (by omega));obtain rfl:=G3d (h.spc _ hSm).nodup x1 y1 x4 x5 y3 y4;exact⟨x,x1,x3,y2⟩
structure V6j (s:CS) (r:Nat) (S:Spc) (Z:List Pl) (mem own' mem':List Nat) (T:Spc):Prop where
 parts:∀ p∈T.parts,p.2=1∧s.own[p.1]? = some 0
 nd:(Q0k T.parts).Nodup
 at1:T.at'≤T.fin
 fin:T.fin≠0→∃ c,T.fin=(c+1)*s.size∧c*s.size < T.at'∧(c,1)∈T.parts
 ol:own'.length=s.own.length
 og:∀ j,own'.getD j 0=if j∈Q0k T.parts then r else s.own.getD j 0
 ml:mem'.length=mem.length
 mg:∀ a x,s.own[a / s.size]? = some x→x≠0→mem'[a]? = mem[a]?
 few:T.parts.length≤Z.length
 sit:∀ z∈Z,(Y6j S s.size z.e=true∧z.a=z.e.addr)∨(Y6j S s.size z.e=false∧G6v s.size T z.a (z.e.ws.length+1))
 apart:Z.Pairwise fun x y=>Y6j S s.size x.e=false→Y6j S s.size y.e=false→x.a+(x.e.ws.length+1)≤y.a∨y.a+(y.e.ws.length+1)≤x.a
theorem V6j.start (s:CS) (r:Nat) (S:Spc) (mem:List Nat):V6j s r S [] mem s.own mem ⟨[],0,0⟩:=
 ⟨fun p hp=>(by cases hp),by simp[Q0k],Nat.le_refl _,fun h=>absurd rfl h,rfl,fun j=>by rw[if_neg (by simp[Q0k])],rfl,fun _ _ _ _=>rfl,Nat.le_refl _,fun z hz=>(by cases hz),.nil⟩
theorem V6j.big {s:CS} {r:Nat} {S T:Spc} {Z:List Pl} {mem own' mem':List Nat} (h:V6j s r S Z mem own' mem' T) {z:Pl} (hb:Y6j S s.size z.e=true) (ha:z.a=z.e.addr):V6j s r S (Z++[z]) mem own' mem' T:=by
 refine⟨h.parts,h.nd,h.at1,h.fin,h.ol,h.og,h.ml,h.mg,by rw[List.length_append];have:=h.few;omega,fun y hy=>?_,?_⟩
 ·rcases List.mem_append.1 hy with hy|hy
  ·exact h.sit y hy
  ·rw[List.mem_singleton] at hy;subst hy;exact .inl ⟨hb,ha⟩
 ·rw[List.pairwise_append];refine⟨h.apart,by simp,fun x hx y hy h1 h2=>?_⟩;rw[List.mem_singleton] at hy;subst hy;rw[hb] at h2;cases h2
theorem V6j.small {s:CS} (hw:WF s) {r:Nat} (hr:1≤r) {S T T':Spc} {Z:List Pl} {mem own' mem' own2 mem2:List Nat} (h:V6j s r S Z mem own' mem' T) (hml:mem.length=s.own.length*s.size) {z:Pl} (hb:Y6j S s.size z.e=false) (hn:z.e.ws.length+1≤s.size)
  (al:Q6p s.size own' mem' r T (z.e.ws.length+1) own2 mem2 T' z.a):V6j s r S (Z++[z]) mem own2 mem2 T':=by
 have hs1:=hw.size.1;obtain⟨zk,zg,e,a⟩:=z;have hb:Y6j S s.size e=false:=hb;have hn:e.ws.length+1≤s.size:=hn;have al:Q6p s.size own' mem' r T (e.ws.length+1) own2 mem2 T' a:=al
 have fin2:∀ {U:Spc},(∀ z∈Z,Y6j S s.size z.e=false→G6v s.size U z.a (z.e.ws.length+1)∧(z.a+(z.e.ws.length+1)≤a∨a+(e.ws.length+1)≤z.a))→G6v s.size U a (e.ws.length+1) →
   (∀ z∈Z++[Pl.mk zk zg e a],(Y6j S s.size z.e=true∧z.a=z.e.addr)∨(Y6j S s.size z.e=false∧G6v s.size U z.a (z.e.ws.length+1))) ∧
   (Z++[Pl.mk zk zg e a]).Pairwise fun x y=>Y6j S s.size x.e=false→Y6j S s.size y.e=false→x.a+(x.e.ws.length+1)≤y.a∨y.a+(y.e.ws.length+1)≤x.a:=by
  intro U h1 h2;constructor
  ·intro y hy
   rcases List.mem_append.1 hy with hy|hy
   ·rcases h.sit y hy with h3|⟨h3,_⟩
    ·exact .inl h3
    ·exact .inr ⟨h3,(h1 y hy h3).1⟩
   ·rw[List.mem_singleton] at hy;subst hy;exact .inr ⟨hb,h2⟩
  ·rw[List.pairwise_append];refine⟨h.apart,by simp,fun x hx y hy h3 h4=>?_⟩;rw[List.mem_singleton] at hy;subst hy;exact(h1 x hx h3).2
 have hsit:∀ z∈Z,Y6j S s.size z.e=false→G6v s.size T z.a (z.e.ws.length+1):=fun z hz h1=>by
  rcases h.sit z hz with ⟨h2,_⟩|⟨_,h2⟩
  ·rw[h1] at h2;cases h2
  ·exact h2
 cases al with
 | room hroom=>
  have hf0:T.fin≠0:=by omega
  obtain⟨c,hc1,hc2,hc3⟩:=h.fin hf0
  obtain⟨f1,f2⟩:=fin2 (U:={ T with at':=T.at'+(e.ws.length+1) }) (fun z hz h1=>by
   obtain⟨d,d1,d2,d3,d4⟩:=hsit z hz h1;refine⟨⟨d,d1,d2,d3,?_⟩,?_⟩
   ·show _≤T.at'+(e.ws.length+1)∨_
    rcases d4 with d4|d4
    ·left;omega
    ·exact .inr d4
   ·rcases d4 with d4|d4
    ·exact .inl d4
    ·right;omega) ⟨c,hc3,by omega,by rw[← hc1];omega,.inl (Nat.le_refl _)⟩
  refine⟨h.parts,h.nd,by show T.at'+_≤T.fin;omega,fun _=>⟨c,hc1,by show c*s.size < T.at'+_;omega,hc3⟩,h.ol,h.og,h.ml,h.mg,by rw[List.length_append];have:=h.few;show T.parts.length≤_;omega,f1,f2⟩
 | @one c hc hf hn'=>
  have hcl:c < own'.length:=hc
  have hnT:c∉Q0k T.parts:=fun h1=>by
   have h2:=h.og c;rw[if_pos h1,List.getD_eq_getElem?_getD,hf] at h2;have h2:(0:Nat)=r:=h2;omega
  have hs0:s.own[c]? = some 0:=by
   have h2:=h.og c;rw[if_neg hnT,List.getD_eq_getElem?_getD,hf,List.getD_eq_getElem?_getD,List.getElem?_eq_getElem (by rw[← h.ol];exact hcl)] at h2;rw[List.getElem?_eq_getElem (by rw[← h.ol];exact hcl)];have h2:(0:Nat)=s.own[c]'(by rw[← h.ol];exact hcl):=h2;rw[← h2]
  have hsz:(c+1)*s.size=c*s.size+s.size:=Nat.succ_mul _ _;have hle:(c+1)*s.size≤s.own.length*s.size:=Nat.mul_le_mul_right _ (by rw[← h.ol];exact hcl)
  obtain⟨f1,f2⟩:=fin2 (U:=⟨T.parts++[(c,1)],c*s.size+(e.ws.length+1),(c+1)*s.size⟩) (fun z hz h1=>by
   obtain⟨d,d1,d2,d3,d4⟩:=hsit z hz h1;have hdc:d≠c:=fun h2=>hnT (h2▸Q8e d1 (Nat.le_refl _) (Nat.lt_succ_self _))
   rcases Nat.lt_or_gt_of_ne hdc with h2|h2
   ·have h3:(d+1)*s.size≤c*s.size:=Nat.mul_le_mul_right _ h2;exact⟨⟨d,List.mem_append.2 (.inl d1),d2,d3,.inl (by show _≤c*s.size+_;omega)⟩,.inl (by omega)⟩
   ·have h3:(c+1)*s.size≤d*s.size:=Nat.mul_le_mul_right _ h2;exact⟨⟨d,List.mem_append.2 (.inl d1),d2,d3,.inr (by show (c+1)*s.size≤_;omega)⟩,.inr (by omega)⟩) ⟨c,by simp,Nat.le_refl _,by omega,.inl (Nat.le_refl _)⟩
  refine⟨fun p hp=>?_,?_,by show c*s.size+_≤(c+1)*s.size;omega,fun _=>⟨c,rfl,by show c*s.size < c*s.size+_;omega,by simp⟩,by rw[Q0z hc];exact h.ol,fun j=>?_,?_,fun i x h1 h2=>?_,by have:=h.few;simp only[List.length_append,List.length_cons,List.length_nil];omega,f1,f2⟩
  ·rcases List.mem_append.1 (show p∈T.parts++[(c,1)] from hp) with hp|hp
   ·exact h.parts p hp
   ·rw[List.mem_singleton] at hp;subst hp;exact⟨rfl,hs0⟩
  ·show (Q0k (T.parts++[(c,1)])).Nodup;rw[Q1o,Q3u,List.nodup_append];refine⟨h.nd,V9g c 1,fun x hx y hy hxy=>?_⟩;subst hxy;have:=Q5s.1 hy;obtain rfl:x=c:=by omega
   exact hnT hx
  ·show _=if j∈Q0k (T.parts++[(c,1)]) then r else _;rw[Q7r hc,h.og,Q1o,Q3u];by_cases h1:c≤j∧j < c+1
   ·rw[if_pos h1,if_pos (List.mem_append.2 (.inr (Q5s.2 h1)))]
   ·rw[if_neg h1];by_cases h2:j∈Q0k T.parts
    ·rw[if_pos h2,if_pos (List.mem_append.2 (.inl h2))]
    ·rw[if_neg h2,if_neg];intro h3
     rcases List.mem_append.1 h3 with h3|h3
     ·exact h2 h3
     ·exact h1 (Q5s.1 h3)
  ·rw[Q0z (by rw[h.ml,hml,Nat.one_mul];omega)];exact h.ml
  ·rw[Q4c (by rw[h.ml,hml,Nat.one_mul];omega),if_neg]
   ·exact h.mg i x h1 h2
   ·rintro⟨h3,h4⟩;have:i / s.size=c:=Nat.div_eq_of_lt_le (by omega) (by omega);rw[this,hs0] at h1;injection h1 with h1
    exact h2 h1.symm
 | @run c k hk hc hf hn1 hn2=>
  exfalso;have:1*s.size≤(k - 1)*s.size:=Nat.mul_le_mul_right _ (by omega);omega
theorem G3f {s:CS} (h:WF s) {r:Nat} {S T:Spc} {Z:List Pl} {mem own' mem':List Nat} (hA:V6j s r S Z mem own' mem' T) (hl:s.par.length < 64) (hlast:s.last+1 < 1000000) {own2:List Nat} (hol:own2.length=own'.length) (hog:∀ j,own2.getD j 0=if j∈Q0k T.parts then s.last+1 else own'.getD j 0) (bs bm:Nat) :
  WF { s with own:=own2,last:=s.last+1,par:=s.par++[(((s.last+1:Nat):Int),(r:Int))],sps:=s.sps++[(((s.last+1:Nat):Int),bs,T)],mns:=s.mns++[(((s.last+1:Nat):Int),bm,[])] }:=by
 have hup:∀ r x,(r,x)∈s.par→r≠((s.last+1:Nat):Int):=fun r x hx=>by
  have:=(h.par.2.2 r x hx).2;omega
 have hs1:=h.size.1
 have hfree:∀ c,c∈Q0k T.parts→s.own[c]? = some 0:=fun c hc=>by
  obtain⟨y,y1,y2,y3⟩:=Q9r.1 hc;obtain⟨y4,y5⟩:=hA.parts y y1;obtain rfl:c=y.1:=by omega
  exact y5
 have hog2:∀ j,own2.getD j 0=if j∈Q0k T.parts then s.last+1 else s.own.getD j 0:=fun j=>by
  rw[hog,hA.og];split <;> rfl
 have hol2:own2.length=s.own.length:=hol.trans hA.ol
 have hkeep:∀ (d y:Nat),s.own[d]? = some y→y≠0→own2[d]? = some y:=fun d y h1 h2=>by
  have hd:=(List.getElem?_eq_some_iff.1 h1).1;have h3:=hog2 d;rw[if_neg (fun h4=>by rw[hfree d h4] at h1;injection h1 with h1;exact h2 h1.symm),List.getD_eq_getElem?_getD,List.getD_eq_getElem?_getD,h1,List.getElem?_eq_getElem (by omega)] at h3;rw[List.getElem?_eq_getElem (by omega)];exact congrArg some h3
 have hback:∀ (d y:Nat),own2[d]? = some y→y≠0→(d∈Q0k T.parts∧y=s.last+1)∨s.own[d]? = some y:=fun d y h1 h2=>by
  have hd:=(List.getElem?_eq_some_iff.1 h1).1;have h3:=hog2 d;rw[List.getD_eq_getElem?_getD,h1] at h3;by_cases h4:d∈Q0k T.parts
  ·rw[if_pos h4] at h3;exact .inl ⟨h4,h3⟩
  ·rw[if_neg h4,List.getD_eq_getElem?_getD,List.getElem?_eq_getElem (by omega)] at h3;rw[List.getElem?_eq_getElem (by omega)];exact .inr (congrArg some h3.symm)
 refine⟨h.size,by show 1≤own2.length∧own2.length≤63;rw[hol2];exact h.own,h.slots,h.lays,h.gen,fun i g e hi=>?_,h.apart,⟨by show (s.par++[_]).length≤64;simp;omega,hlast,?_⟩,?_,?_,fun x hx=>?_,fun x hx i g e hi=>?_,fun c x hc h0=>?_,?_⟩
 ·obtain⟨a,⟨b1,b2⟩,y,hy⟩:=h.obj i g e hi;refine⟨a,⟨by show _≤own2.length*_;rw[hol2];exact b1,fun d d1 d2=>?_⟩,y,List.mem_append.2 (.inl hy)⟩;obtain⟨x,x1,x2,x3⟩:=b2 d d1 d2;exact⟨x,hkeep d x x1 (by omega),x2,x3⟩
 ·intro r x hx;have hx:(r,x)∈s.par++[_]:=hx;show 1≤r∧r≤((s.last+1:Nat):Int)
  rcases List.mem_append.1 hx with hx|hx
  ·have:=h.par.2.2 r x hx;omega
  ·simp at hx;omega
 ·have:=h.skeys;simp[this]
 ·have:=h.mkeys;simp[this]
 ·rcases List.mem_append.1 (show x∈s.sps++[_] from hx) with hx|hx
  ·obtain⟨a1,a2,a3,a4,a5⟩:=h.spc x hx;have hxk:x.1∈s.par.map (·.1):=by rw[← h.skeys];exact List.mem_map.2 ⟨x,hx,rfl⟩
   obtain⟨⟨x',z⟩,z1,z2⟩:=List.mem_map.1 hxk;have hne:x.1≠((s.last+1:Nat):Int):=by rw[← z2];exact hup _ _ z1
   refine⟨a1,a2,fun y hy=>by rw[hol2];exact a3 y hy,a4,fun c=>?_⟩;rw[a5];constructor
   ·rintro⟨y,y1,y2,y3⟩;exact⟨y,hkeep c y y1 y3,y2,y3⟩
   ·rintro⟨y,y1,y2,y3⟩
    rcases hback c y y1 y3 with ⟨_,h2⟩|h2
    ·exact absurd (by rw[← y2,h2]) hne
    ·exact⟨y,h2,y2,y3⟩
  ·rw[List.mem_singleton] at hx;subst hx;refine⟨hA.at1,hA.fin,fun y hy=>?_,hA.nd,fun c=>?_⟩
   ·obtain⟨y1,y2⟩:=hA.parts y hy;have:=(List.getElem?_eq_some_iff.1 y2).1;rw[hol2];omega
   ·constructor
    ·intro hc;have hcl:=(List.getElem?_eq_some_iff.1 (hfree c hc)).1;have h3:=hog2 c;have hcl2:c < own2.length:=by omega
     rw[if_pos hc,List.getD_eq_getElem?_getD,List.getElem?_eq_getElem hcl2] at h3;exact⟨s.last+1,by show own2[c]? = _;rw[List.getElem?_eq_getElem hcl2];exact congrArg some h3,rfl,by omega⟩
    ·rintro⟨y,y1,y2,y3⟩
     rcases hback c y y1 y3 with ⟨h2,_⟩|h2
     ·exact h2
     ·obtain⟨z,hz⟩:=h.live c y h2 y3;exact absurd y2 (hup _ _ hz)
 ·rcases List.mem_append.1 (show x∈s.sps++[_] from hx) with hx|hx
  ·exact h.free x hx i g e hi
  ·rw[List.mem_singleton] at hx;subst hx;show Q1q e≤T.at'∨T.fin≤e.addr;by_cases h0:T.fin=0
   ·right;omega
   obtain⟨c,c1,c2,c3⟩:=hA.fin h0
   rcases (h.obj i g e hi).2.1.chunk hs1 c with (h1|h1)|⟨y,y1,_,y3⟩
   ·left;omega
   ·right;omega
   ·rw[(hA.parts _ c3).2] at y1;injection y1 with y1
    omega
 ·rcases hback c x hc h0 with ⟨_,h1⟩|h1
  ·exact⟨(r:Int),List.mem_append.2 (.inr (by rw[h1];simp))⟩
  ·obtain⟨y,hy⟩:=h.live c x h1 h0;exact⟨y,List.mem_append.2 (.inl hy)⟩
 ·intro x hx
  rcases List.mem_append.1 (show x∈s.mns++[_] from hx) with hx|hx
  ·exact h.mine x hx
  ·rw[List.mem_singleton] at hx;subst hx;refine⟨by simp,fun i=>⟨fun hc=>by simp at hc,?_⟩⟩;rintro⟨g,e,h1,h2⟩;obtain⟨_,_,y,hy⟩:=h.obj _ _ _ h1;exact absurd h2 (hup _ _ hy)
theorem V7c {s s':CS} (h:WF s) {r:Nat} {S T:Spc} {Z:List Pl} {mem own' mem':List Nat} (hA:V6j s r S Z mem own' mem' T) (m:Q4p s mem) (h1:s'.own.length=s.own.length) (h2:s'.size=s.size) (h3:s'.tab=s.tab):Q4p s' mem':=by
 have hs1:=h.size.1;refine⟨by rw[h1,h2,hA.ml];exact m.len,fun i g e hi=>?_,fun i g e hi p w hp=>?_⟩
 ·rw[h3] at hi;obtain⟨x,x1,_,x3⟩:=(h.obj i g e hi).2.1.2 (e.addr / s.size) (Nat.le_refl _) (Nat.div_le_div_right (by omega));rw[hA.mg _ x x1 (by omega)];exact m.head i g e hi
 ·rw[h3] at hi;have hpl:=(List.getElem?_eq_some_iff.1 hp).1;obtain⟨x,x1,_,x3⟩:=(h.obj i g e hi).2.1.2 ((e.addr+1+p) / s.size) (Nat.div_le_div_right (by omega)) (Nat.div_le_div_right (by omega));rw[hA.mg _ x x1 (by omega)];exact m.words i g e hi p w hp
theorem V6j.beside {s:CS} (h:WF s) {r:Nat} {S T:Spc} {Z:List Pl} {mem own' mem':List Nat} (hA:V6j s r S Z mem own' mem' T) {a n:Nat} (hs:G6v s.size T a n) {j g:Nat} {f:Ent} (hj:s.tab[j]? = some ⟨g,some f⟩):Q1q f≤a∨a+n≤f.addr:=by
 obtain⟨c,c1,c2,c3,_⟩:=hs
 rcases (h.obj j g f hj).2.1.chunk h.size.1 c with (h1|h1)|⟨y,y1,_,y3⟩
 ·left;omega
 ·right;omega
 ·rw[(hA.parts _ c1).2] at y1;injection y1 with y1
  omega
end Go.Proofs.YtmjdnljneifpcaaGreatDoor
namespace Go.Proofs.YtmjdnljneifpcaaGreatDoor
open Go.SL
def mvZ (id:Int) (Z:List Pl) (k:Nat) (e:Ent):Ent:=match Z.find? (fun z=>z.k == k) with
 | some z=>{ e with region:=id,addr:=z.a }
 | none=>e
theorem Z5o (id:Int) (Z:List Pl) (k:Nat) (e:Ent):(mvZ id Z k e).lay=e.lay∧(mvZ id Z k e).count=e.count∧(mvZ id Z k e).ws=e.ws∧(mvZ id Z k e).held=e.held∧(mvZ id Z k e).pinned=e.pinned:=by
 unfold mvZ;split <;> exact⟨rfl,rfl,rfl,rfl,rfl⟩
theorem Z2v {Z:List Pl} {k:Nat} (h:k∉Z.map Pl.k):Z.find? (fun z=>z.k == k)=none:=by
 rw[List.find?_eq_none];intro z hz h1;exact h (List.mem_map.2 ⟨z,hz,by simpa using h1⟩)
theorem Y9v {id:Int} {Z:List Pl} {k:Nat} (h:k∉Z.map Pl.k) (e:Ent):mvZ id Z k e=e:=by
 unfold mvZ;rw[Z2v h]
theorem U1i {id:Int} {Z:List Pl} {z:Pl} {k:Nat} (h:k≠z.k) (e:Ent):mvZ id (Z++[z]) k e=mvZ id Z k e:=by
 unfold mvZ;rw[List.find?_append,List.find?_cons_of_neg (by simpa using fun h1=>h h1.symm),List.find?_nil,Option.or_none]
theorem U1j {id:Int} {Z:List Pl} {z:Pl} (h:z.k∉Z.map Pl.k) (e:Ent):mvZ id (Z++[z]) z.k e={ e with region:=id,addr:=z.a }:=by
 unfold mvZ;rw[List.find?_append,Z2v h,List.find?_cons_of_pos (by simp),Option.none_or]
theorem G3g {id:Int} {Z:List Pl} (hnd:(Z.map Pl.k).Nodup) {z:Pl} (hz:z∈Z) (e:Ent):mvZ id Z z.k e={ e with region:=id,addr:=z.a }:=by
 obtain⟨A,B,rfl⟩:=List.append_of_mem hz;rw[List.map_append,List.map_cons,List.nodup_append] at hnd;have h1:z.k∉A.map Pl.k:=fun h=>hnd.2.2 _ h _ List.mem_cons_self rfl;unfold mvZ;rw[List.find?_append,Z2v h1,List.find?_cons_of_pos (by simp),Option.none_or]
def X0i (s:CS) (r:Int) (S T:Spc) (z:Pl):Prop:=s.tab[z.k]? = some ⟨z.g,some z.e⟩∧z.e.region=r ∧
 ((z.a=z.e.addr∧∃ y∈S.parts,2≤y.2∧Y8i s.size y z.e)∨(z.a≠z.e.addr∧G6v s.size T z.a (z.e.ws.length+1)∧∀ (j n:Nat) (f:Ent),s.tab[j]? = some ⟨n,some f⟩→Q1q f≤z.a∨z.a+(z.e.ws.length+1)≤f.addr))
structure Z8m (s:CS) (r:Int) (id:Nat) (Zd Zp:List Pl) (s':CS) (S T:Spc):Prop where
 size:s'.size=s.size
 own:s'.own.length=s.own.length
 lays:s'.lays=s.lays
 last:s'.last=s.last+1
 par:s'.par=s.par++[((id:Int),r)]
 rem:s'.rem=s.rem
 tabl:s'.tab.length=s.tab.length
 tab:∀ (k:Nat) (t:Slt),s.tab[k]? = some t→s'.tab[k]? = some ⟨t.gen,t.ent.map (mvZ id Zd k)⟩
 part:Q3n s'
 pend:∀ z∈Zp,X0i s' r S T z
 apart:Zp.Pairwise fun x y=>x.a≠x.e.addr→y.a≠y.e.addr→x.a+(x.e.ws.length+1)≤y.a∨y.a+(y.e.ws.length+1)≤x.a
 keys:((Zd++Zp).map Pl.k).Nodup
 zero:Zd++Zp=[]→s'.own=s.own
theorem G8z {s s':CS} {id:Nat} {Zd:List Pl} (htl:s'.tab.length=s.tab.length) (ht:∀ (k:Nat) (t:Slt),s.tab[k]? = some t→s'.tab[k]? = some ⟨t.gen,t.ent.map (mvZ id Zd k)⟩) {z:Pl} (hz:s'.tab[z.k]? = some ⟨z.g,some z.e⟩) (hk:z.k∉Zd.map Pl.k)
  (k:Nat) (t:Slt) (hkt:s.tab[k]? = some t):(s'.tab.set z.k ⟨z.g,some { z.e with region:=(id:Int),addr:=z.a }⟩)[k]? = some ⟨t.gen,t.ent.map (mvZ id (Zd++[z]) k)⟩:=by
 have h1:=ht k t hkt;have hkl:=(List.getElem?_eq_some_iff.1 h1).1;obtain⟨g0,e0⟩:=t;by_cases hkz:z.k=k
 ·subst hkz;rw[hz] at h1;injection h1 with h1
  injection h1 with h2 h3
  rw[List.getElem?_set_self hkl,h2];cases e0 with
  | none=>cases h3
  | some e=>
   injection h3 with h3
   rw[Y9v hk] at h3;subst h3;show _=some (Slt.mk g0 (some (mvZ id (Zd++[z]) z.k z.e)));rw[U1j hk]
 ·rw[List.getElem?_set_ne hkz,h1];cases e0 with
  | none=>rfl
  | some e=>
   show some (Slt.mk g0 (some (mvZ id Zd k e)))=some (Slt.mk g0 (some (mvZ id (Zd++[z]) k e)));rw[U1i (fun h=>hkz h.symm)]
theorem Z8m.facts {s:CS} {r:Int} {id:Nat} {Zd Zp:List Pl} {z:Pl} {s':CS} {S T:Spc} (h:Z8m s r id Zd (z::Zp) s' S T):z.k∉Zd.map Pl.k∧(∀ y∈Zp,y.k≠z.k)∧((Zd++[z]++Zp).map Pl.k).Nodup:=by
 have h1:=h.keys;refine⟨fun h2=>?_,fun y hy h2=>?_,by rw[List.append_assoc];exact h1⟩
 ·rw[List.map_append,List.nodup_append] at h1;exact h1.2.2 _ h2 z.k (by simp) rfl
 ·rw[List.map_append,List.nodup_append,List.map_cons,List.nodup_cons] at h1;exact h1.2.1.1 (h2▸List.mem_map.2 ⟨y,hy,rfl⟩)
theorem Z8m.shift {s:CS} {r:Int} {id:Nat} {Zd Zp:List Pl} {z:Pl} {s' s2:CS} {S T:Spc} (h:Z8m s r id Zd (z::Zp) s' S T) (hza:z.a≠z.e.addr) {bs:Nat} (hT:((id:Int),bs,T)∈s'.sps)
  (h1:s2.size=s'.size) (h2:s2.own=s'.own) (h3:s2.lays=s'.lays) (h4:s2.last=s'.last) (h5:s2.par=s'.par) (h6:s2.rem=s'.rem) (h7:s2.tab=s'.tab.set z.k ⟨z.g,some { z.e with region:=(id:Int),addr:=z.a }⟩) (h8:s2.sps=s'.sps):Z8m s r id (Zd++[z]) Zp s2 S T:=by
 obtain⟨hk1,hk2,hk3⟩:=h.facts;obtain⟨q1,q2,q3⟩:=h.pend z List.mem_cons_self
 rcases q3 with ⟨q3,_⟩|⟨_,q4,q5⟩
 ·exact absurd q3 hza
 have hap:=h.apart;rw[List.pairwise_cons] at hap;refine⟨h1.trans h.size,by rw[h2];exact h.own,h3.trans h.lays,h4.trans h.last,h5.trans h.par,h6.trans h.rem,by rw[h7,List.length_set];exact h.tabl,fun k t hk=>by rw[h7];exact G8z h.tabl h.tab q1 hk1 k t hk,Y9u h.part (bs:=bs) (T:=T) (by rw[h8];exact hT) q4 h1 h7 h8,fun y hy=>?_,hap.2,hk3,fun h0=>by simp at h0⟩;obtain⟨y1,y2,y3⟩:=h.pend y (List.mem_cons_of_mem _ hy);refine⟨by rw[h7,List.getElem?_set_ne (fun h=>hk2 y hy h.symm)];exact y1,y2,?_⟩;rw[h1]
 rcases y3 with y3|⟨y3,y4,y5⟩
 ·exact .inl y3
 ·refine .inr ⟨y3,y4,fun j n f hj=>?_⟩;rw[h7] at hj
  rcases Q1i hj with ⟨rfl,u1,_⟩|⟨h0,hj⟩
  ·injection u1 with _ u1
   injection u1 with u1
   subst u1;have:=hap.1 y hy hza y3;show z.a+1+z.e.ws.length≤y.a∨_≤z.a;omega
  ·exact y5 j n f hj
theorem Z8m.hand {s:CS} {r:Int} {id:Nat} {Zd Zp:List Pl} {z:Pl} {s' s2:CS} {S T:Spc} (h:Z8m s r id Zd (z::Zp) s' S T) (hw:WF s') (hnd:(s'.par.map (·.1)).Nodup) (hza:z.a=z.e.addr)
  {p1 p2:List (Int×Nat×Spc)} {b0 bs:Nat} (hsps:s'.sps=p1++(r,b0,S)::(p2++[((id:Int),bs,T)])) {A B:List (Nat×Nat)} {c n:Nat} (hp:S.parts=A++(c,n)::B) (hn:2≤n) (hin:Y8i s'.size (c,n) z.e)
  (h1:s2.size=s'.size) (h2:s2.own.length=s'.own.length) (h3:s2.lays=s'.lays) (h4:s2.last=s'.last) (h5:s2.par=s'.par) (h6:s2.rem=s'.rem) (h7:s2.tab=s'.tab.set z.k ⟨z.g,some { z.e with region:=(id:Int),addr:=z.e.addr }⟩)
  (h8:s2.sps=p1++(r,b0,{ S with parts:=A++B })::(p2++[((id:Int),bs,{ T with parts:=T.parts++[(c,n)] })])):Z8m s r id (Zd++[z]) Zp s2 { S with parts:=A++B } { T with parts:=T.parts++[(c,n)] }:=by
 obtain⟨hk1,hk2,hk3⟩:=h.facts;obtain⟨q1,q2,q3⟩:=h.pend z List.mem_cons_self;have hap:=h.apart;rw[List.pairwise_cons] at hap;have hSm:(r,b0,S)∈s'.sps:=by rw[hsps];simp
 refine⟨h1.trans h.size,by rw[h2];exact h.own,h3.trans h.lays,h4.trans h.last,h5.trans h.par,h6.trans h.rem,by rw[h7,List.length_set];exact h.tabl,fun k t hk=>by rw[h7,← hza];exact G8z h.tabl h.tab q1 hk1 k t hk,Z2u hw h.part q1 q2 hnd hsps hp hn hin h1 h7 h8,fun y hy=>?_,hap.2,hk3,fun h0=>by simp at h0⟩;obtain⟨y1,y2,y3⟩:=h.pend y (List.mem_cons_of_mem _ hy);refine⟨by rw[h7,List.getElem?_set_ne (fun h=>hk2 y hy h.symm)];exact y1,y2,?_⟩;rw[h1]
 rcases y3 with ⟨y3,x,x1,x2,x3⟩|⟨y3,⟨d,d1,d2,d3,d4⟩,y5⟩
 ·refine .inl ⟨y3,x,?_,x2,x3⟩;rw[hp] at x1
  rcases Q7s x1 with rfl|x1
  ·exfalso;have hd1:y.e.addr / s'.size≤y.e.addr / s'.size:=Nat.le_refl _;have hd2:y.e.addr / s'.size≤(y.e.addr+y.e.ws.length) / s'.size:=Nat.div_le_div_right (by omega);exact Y0m hw h.part hnd q1 (S:=S) (b0:=b0) (by rw[q2];exact hSm) hp hn hin (hk2 y hy) y1 hd1 hd2 (x3.chunk hw.size.1 hd1 hd2)
  ·exact x1
 ·refine .inr ⟨y3,⟨d,List.mem_append.2 (.inl d1),d2,d3,d4⟩,fun j m f hj=>?_⟩;rw[h7] at hj
  rcases Q1i hj with ⟨rfl,u1,_⟩|⟨h0,hj⟩
  ·injection u1 with _ u1
   injection u1 with u1
   subst u1;exact(y5 z.k z.g z.e q1:Q1q z.e≤y.a∨y.a+(y.e.ws.length+1)≤z.e.addr)
  ·exact y5 j m f hj
theorem G6x {s:CS} {r:Nat} {S T:Spc} {Z:List Pl} {mem own' mem' own2:List Nat} {n:Nat} (hA:V6j s r S Z mem own' mem' T) (hl:own2.length=own'.length) (hg:∀ j,own2.getD j 0=if j∈Q0k T.parts then n else own'.getD j 0) (hZ:Z=[]):own2=s.own:=by
 have h1:=hA.few;rw[hZ] at h1;have h2:T.parts=[]:=List.eq_nil_of_length_eq_zero (Nat.le_zero.1 h1);have h3:∀ j,j∉Q0k T.parts:=fun j h=>by rw[h2] at h;simp[Q0k] at h
 have h4:own2.length=s.own.length:=hl.trans hA.ol;refine List.ext_getElem h4 fun j j1 j2=>?_;have h5:=hg j;rw[if_neg (h3 j),hA.og,if_neg (h3 j),List.getD_eq_getElem?_getD,List.getD_eq_getElem?_getD,List.getElem?_eq_getElem j1,List.getElem?_eq_getElem j2] at h5;exact h5
theorem Z8n {s:CS} (hw:WF s) (hnd:(s.par.map (·.1)).Nodup) (hP:Q3n s) {r:Nat} {b0:Nat} {S T:Spc} (hSm:((r:Int),b0,S)∈s.sps) {Z:List Pl} {mem own' mem':List Nat} (hA:V6j s r S Z mem own' mem' T)
  (hents:∀ z∈Z,s.tab[z.k]? = some ⟨z.g,some z.e⟩∧z.e.region=(r:Int)) (hkeys:(Z.map Pl.k).Nodup) {own2:List Nat} (hol:own2.length=s.own.length) (h00:Z=[]→own2=s.own) (bs bm:Nat) :
  Z8m s r (s.last+1) [] Z { s with own:=own2,last:=s.last+1,par:=s.par++[(((s.last+1:Nat):Int),(r:Int))],sps:=s.sps++[(((s.last+1:Nat):Int),bs,T)],mns:=s.mns++[(((s.last+1:Nat):Int),bm,[])] } S T:=by
 have hsm:∀ z∈Z,z.a≠z.e.addr→Y6j S s.size z.e=false:=fun z hz h1=>by
  rcases hA.sit z hz with ⟨_,h2⟩|⟨h2,_⟩
  ·exact absurd h2 h1
  ·exact h2
 refine⟨rfl,hol,rfl,rfl,rfl,rfl,rfl,fun k t hk=>?_,fun k g e hk=>?_,fun z hz=>?_,?_,hkeys,h00⟩
 ·show s.tab[k]? = _;rw[hk];obtain⟨g,e⟩:=t;cases e <;> rfl
 ·obtain⟨x,x1,x2,x3⟩:=hP k g e hk;exact⟨x,List.mem_append.2 (.inl x1),x2,x3⟩
 ·obtain⟨h1,h2⟩:=hents z hz;have hSm':(z.e.region,b0,S)∈s.sps:=by rw[h2];exact hSm
  refine⟨h1,h2,?_⟩
  rcases hA.sit z hz with ⟨h3,h4⟩|⟨h3,h4⟩
  ·exact .inl ⟨h4,U1h hw hnd hP h1 hSm' h3⟩
  ·refine .inr ⟨fun h5=>?_,h4,fun j n f hj=>hA.beside hw h4 hj⟩;have:=hA.beside hw h4 h1;unfold Q1q at this;omega
 ·exact hA.apart.imp_of_mem fun hx hy h1 h2 h3=>h1 (hsm _ hx h2) (hsm _ hy h3)
structure Y3t (s:CS) (r:Int) (Z:List Pl) (s':CS):Prop where
 size:s'.size=s.size
 own:s'.own.length=s.own.length
 lays:s'.lays=s.lays
 last:s'.last=s.last+1
 par:s'.par=s.par++[(((s.last+1:Nat):Int),r)]
 tabl:s'.tab.length=s.tab.length
 tab:∀ (k:Nat) (t:Slt),s.tab[k]? = some t→s'.tab[k]? = some ⟨t.gen,t.ent.map (mvZ ((s.last+1:Nat):Int) Z k)⟩
 ents:∀ z∈Z,s.tab[z.k]? = some ⟨z.g,some z.e⟩∧z.e.region=r
 keys:(Z.map Pl.k).Nodup
 rem:∃ D,G8y s' (fun k=>∃ g e,s'.tab[k]? = some ⟨g,some e⟩∧(e.region=r∨e.region=((s.last+1:Nat):Int))) D∧Q9e s' s.rem D s'.rem
 part:Q3n s'
 zero:Z=[]→s'.own=s.own
theorem Y3t.mv {s s':CS} {r:Int} {Z:List Pl} (h:Y3t s r Z s'):V6i s s' (mvZ ((s.last+1:Nat):Int) Z):=⟨h.lays,h.tabl,h.tab,fun k e=>Z5o _ Z k e⟩
theorem G3h {s s':CS} (hw:WF s) {r:Int} (hr:r≤s.last) {Z:List Pl} (h:Y3t s r Z s') (hI:Inv s):Inv s':=by
 obtain⟨D,hD,hN⟩:=h.rem;refine Z5k h.mv hI hN fun k g p a b e f hnD hk hp hrf ha=>?_;have hno:∀ P:Prop,((mvZ ((s.last+1:Nat):Int) Z k e).region=r∨(mvZ ((s.last+1:Nat):Int) Z k e).region=((s.last+1:Nat):Int))→P:=fun P h1=>absurd ((hD _).2 ⟨k,g,_,⟨g,_,h.mv.at hk,h1⟩,h.mv.at hk,Y3r.2 ⟨p,rfl,by rw[(Z5o _ Z k e).2.2.1];exact hp,by rw[h.mv.lay k e];exact hrf⟩⟩) hnD
 have hkZ:k∉Z.map Pl.k:=fun h1=>by
  obtain⟨z,z1,z2⟩:=List.mem_map.1 h1;subst z2;exact hno _ (.inr (by rw[G3g h.keys z1]))
 rw[Y9v hkZ] at hno;rw[Y9v hkZ];have her:e.region≠r:=fun h1=>hno _ (.inl h1)
 have hel:e.region≤s.last:=by
  obtain⟨_,_,q,hq⟩:=hw.obj k g e hk;exact(hw.par.2.2 _ _ hq).2
 by_cases haZ:a∈Z.map Pl.k
 ·obtain⟨z,z1,z2⟩:=List.mem_map.1 haZ;subst z2;obtain⟨z3,z4⟩:=h.ents z z1;rw[ha] at z3;injection z3 with z3
  injection z3 with _ z3
  injection z3 with z3
  rw[G3g h.keys z1,z3,z4]
  exact⟨fun _ h1=>her h1.symm,fun _ h1=>by
   have h1:((s.last+1:Nat):Int)=e.region:=h1;omega⟩
 ·rw[Y9v haZ]
end Go.Proofs.YtmjdnljneifpcaaGreatDoor
namespace Go.Proofs.YtmjdnljneifpcaaGreatDoor
open Go.SL
def Z2w (P:List Int):Prop:=∀ (i:Nat) (q:Int),1≤i→P[i]? = some q→q < i
def V7d (P:List Int) (id:Int):Nat→Int→Bool
 | 0,_=>false
 | n+1,i=>if 0 < i then (if i=id then true else V7d P id n (P.getD i.toNat 0)) else false
def Q6z (P:List Int) (id i:Int):Bool:=V7d P id i.toNat i
theorem Q9s (P:List Int) (id:Int) (n:Nat) {i:Int} (h:i≤0):V7d P id n i=false:=by
 cases n with
 | zero=>rfl
 | succ n=>unfold V7d;rw[if_neg (by omega)]
theorem Y0n {P:List Int} (h:Z2w P) (id:Int):∀ (n:Nat) (i:Int),i≤n→i < P.length→V7d P id n i=Q6z P id i
 | 0,i,h1,_=>by
  unfold Q6z;rw[Q9s P id _ (by omega),Q9s P id _ (by omega)]
 | n+1,i,h1,h2=>by
  by_cases h0:0 < i
  ·obtain⟨k,rfl⟩:∃ k:Nat,i=(k+1:Nat):=⟨i.toNat - 1,by omega⟩;have hk:k+1 < P.length:=by omega
   have hg:P.getD (k+1) 0 < ((k+1:Nat):Int):=h (k+1) _ (by omega) (by rw[List.getD_eq_getElem?_getD,List.getElem?_eq_getElem hk];rfl);unfold Q6z;rw[Int.toNat_natCast];unfold V7d;rw[if_pos h0,if_pos h0,Int.toNat_natCast];by_cases h3:((k+1:Nat):Int)=id
   ·rw[if_pos h3,if_pos h3]
   ·rw[if_neg h3,if_neg h3,Y0n h id n _ (by omega) (by omega),Y0n h id k _ (by omega) (by omega)]
  ·unfold Q6z;rw[Q9s P id _ (by omega),Q9s P id _ (by omega)]
theorem Y0o {P:List Int} (h:Z2w P) {id i:Int} (h0:0 < i) (hl:i < P.length):Q6z P id i=if i=id then true else Q6z P id (P.getD i.toNat 0):=by
 obtain⟨k,rfl⟩:∃ k:Nat,i=(k+1:Nat):=⟨i.toNat - 1,by omega⟩;have hk:k+1 < P.length:=by omega
 have hg:P.getD (k+1) 0 < ((k+1:Nat):Int):=h (k+1) _ (by omega) (by rw[List.getD_eq_getElem?_getD,List.getElem?_eq_getElem hk];rfl);rw[Int.toNat_natCast];show V7d P id (((k+1:Nat):Int).toNat) _=_;rw[Int.toNat_natCast];show (if (0:Int) < ((k+1:Nat):Int) then (if ((k+1:Nat):Int)=id then true else V7d P id k (P.getD ((k+1:Nat):Int).toNat 0)) else false)=_;rw[if_pos h0,Int.toNat_natCast];by_cases h3:((k+1:Nat):Int)=id
 ·rw[if_pos h3,if_pos h3]
 ·rw[if_neg h3,if_neg h3,Y0n h id k _ (by omega) (by omega)]
theorem Y3u (P:List Int) (id:Int) {i:Int} (h:i≤0):Q6z P id i=false:=Q9s P id _ h
def V7e (P:List Int) (id:Int) (k:Nat):List Nat:=(List.range k).filter fun i=>decide (1≤i∧0≤P.getD i 0) && Q6z P id i
def Q7a (P:List Int) (id:Int):List Nat:=V7e P id P.length
theorem Z2x (P:List Int) (id:Int) (k:Nat) (hk:1≤k):V7e P id (k+1)=V7e P id k++if 0≤P.getD k 0∧Q6z P id k=true then [k] else []:=by
 unfold V7e;rw[List.range_succ,List.filter_append];congr 1;by_cases h1:0≤P.getD k 0
 ·by_cases h2:Q6z P id k=true
  ·rw[if_pos ⟨h1,h2⟩,List.filter_cons,if_pos (by rw[h2,decide_eq_true ⟨hk,h1⟩];rfl),List.filter_nil]
  ·rw[if_neg (fun h=>h2 h.2),List.filter_cons,if_neg (by simpa using fun _ _=>h2),List.filter_nil]
 ·rw[if_neg (fun h=>h1 h.1),List.filter_cons,if_neg (by rw[decide_eq_false (fun h=>h1 h.2)];simp),List.filter_nil]
theorem Y3v {P:List Int} {id:Int} {k i:Nat}:i∈V7e P id k↔i < k∧(1≤i∧0≤P.getD i 0)∧Q6z P id i=true:=by
 unfold V7e;rw[List.mem_filter,List.mem_range,Bool.and_eq_true,decide_eq_true_eq]
theorem V6k (P:List Int) (id:Int) (k:Nat):(V7e P id k).length≤k:=by
 have:=List.length_filter_le (fun i=>decide (1≤i∧0≤P.getD i 0) && Q6z P id (i:Nat)) (List.range k);rw[List.length_range] at this;exact this
def Q5f (P:List Int) (L:List Nat):List Int:=P.mapIdx fun k q=>if k∈L then -1 else q
theorem G3i (P:List Int):Q5f P []=P:=by
 unfold Q5f;apply List.ext_getElem?;intro i;rw[List.getElem?_mapIdx];cases P[i]? <;> simp
theorem Y0p (P:List Int) (L:List Nat):(Q5f P L).length=P.length:=List.length_mapIdx
theorem G3j (P:List Int) (L:List Nat) (k:Nat):(Q5f P L).set k (-1)=Q5f P (L++[k]):=by
 apply List.ext_getElem?;intro i;rw[List.getElem?_set];unfold Q5f;rw[List.getElem?_mapIdx,List.getElem?_mapIdx,List.length_mapIdx];by_cases h:k=i
 ·subst h;rw[if_pos rfl];by_cases hl:k < P.length
  ·rw[if_pos hl,List.getElem?_eq_getElem hl];simp
  ·rw[if_neg hl,List.getElem?_eq_none (by omega)];rfl
 ·rw[if_neg h];cases P[i]? with
  | none=>rfl
  | some q=>
   have h2:i∈L++[k]↔i∈L:=by
    rw[List.mem_append,List.mem_singleton];exact⟨fun h4=>h4.elim id fun h5=>absurd h5.symm h,.inl⟩
   simp only[Option.map_some,h2]
def Q5p (P:List Int) (id q:Nat):List Int:=P.mapIdx fun k x=>if k=id then -1 else if 1≤k∧x=(id:Int) then (q:Int) else x
def Q8z (P:List Int) (id q n:Nat):List Int:=P.mapIdx fun k x=>if (1≤k∧k < n)∧x=(id:Int) then (q:Int) else x
theorem Q8j (P:List Int) (id q n:Nat):(Q8z P id q n).length=P.length:=List.length_mapIdx
theorem Q7i (P:List Int) (id q n k:Nat):(Q8z P id q n)[k]? = (P[k]?).map fun x=>if (1≤k∧k < n)∧x=(id:Int) then (q:Int) else x:=List.getElem?_mapIdx
theorem Z8o {P:List Int} {id q:Nat}:Q8z P id q 1=P:=by
 apply List.ext_getElem?;intro i;rw[Q7i];cases hi:P[i]? with
 | none=>rfl
 | some x=>
  simp only[Option.map_some];rw[if_neg];rintro⟨h1,h2⟩;omega
theorem Z8p {P:List Int} {id q n:Nat} (hn:1≤n) (h:P[n]? = some (id:Int)):(Q8z P id q n).set n (q:Int)=Q8z P id q (n+1):=by
 apply List.ext_getElem?;intro i;rw[List.getElem?_set,Q7i,Q7i,Q8j];have hl:=(List.getElem?_eq_some_iff.1 h).1;by_cases hi:n=i
 ·subst hi;rw[if_pos rfl,if_pos hl,h];simp only[Option.map_some];rw[if_pos ⟨⟨hn,by omega⟩,trivial⟩]
 ·rw[if_neg hi];cases P[i]? with
  | none=>rfl
  | some x=>
   simp only[Option.map_some];have:(1≤i∧i < n+1)↔(1≤i∧i < n):=by omega
   simp only[this]
theorem Z2y {P:List Int} {id q n:Nat} {x:Int} (h:P[n]? = some x) (hx:x≠(id:Int)):Q8z P id q n=Q8z P id q (n+1):=by
 apply List.ext_getElem?;intro i;rw[Q7i,Q7i];cases hP:P[i]? with
 | none=>rfl
 | some y=>
  simp only[Option.map_some];by_cases hi:i=n
  ·subst hi;rw[h] at hP;injection hP with hP
   subst hP;rw[if_neg (fun h=>hx h.2),if_neg (fun h=>hx h.2)]
  ·have:i < n+1↔i < n:=by omega
   simp only[this]
theorem Z8q (P:List Int) (id q:Nat):(Q8z P id q P.length).set id (-1)=Q5p P id q:=by
 apply List.ext_getElem?;intro i;unfold Q5p;rw[List.getElem?_set,Q7i,Q8j,List.getElem?_mapIdx];by_cases hi:id=i
 ·subst hi;rw[if_pos rfl];by_cases hl:id < P.length
  ·rw[if_pos hl,List.getElem?_eq_getElem hl];simp
  ·rw[if_neg hl,List.getElem?_eq_none (by omega)];rfl
 ·rw[if_neg hi];cases hP:P[i]? with
  | none=>rfl
  | some y=>
   have hl:=(List.getElem?_eq_some_iff.1 hP).1;simp only[Option.map_some];rw[if_neg (fun h:i=id=>hi h.symm)];by_cases hy:1≤i∧y=(id:Int)
   ·rw[if_pos ⟨⟨hy.1,hl⟩,hy.2⟩,if_pos hy]
   ·rw[if_neg (fun h=>hy ⟨h.1.1,h.2⟩),if_neg hy]
theorem V6l {l:List Int} {spare:List Value} {i:Nat} {x:Int} (h:i < l.length):(Q1g l++spare).set (0+i*1) (.int .i64 x)=Q1g (l.set i x)++spare:=by
 rw[Nat.zero_add,Nat.mul_one,List.set_append_left _ _ (by simpa [Q1g] using h)];simp[Q1g,List.map_set]
theorem Z8r [Q0i] (p:Nat) (P:List Int) (hO:Z2w P) (i id:Int) (hi:i < P.length) {w:World} {fr:List Q0e} (H:Q0a w (RTR p P::fr)) :
  Calls Tryz.prog 256 #[pp p,.int .i64 i,.int .i64 id] w (ret fun v w'=>v = .bool (Q6z P id i)∧Q0a w' (RTR p P::fr)):=by
 refine Q0c Tryz.func256 rfl (by kernel_rfl) ?_;refine U1v H ?_;refine Q1l (fun ms σ w n=>ms=[]∧∃ i':Int,i' < P.length∧Q6z P id i'=Q6z P id i∧n=i'.toNat∧σ 0=pp p∧σ 1 = .int .i64 i'∧σ 2 = .int .i64 id∧Q0a w (RTR p P::fr)) (m:=i.toNat) ⟨rfl,i,hi,rfl,rfl,rfl,rfl,rfl,H⟩ ?_;clear H;rintro ms σ w n ⟨rfl,i',hi',hb,rfl,g0,g1,g2,H⟩;rw[Q0b g0,Q0b g1,Q0b g2];refine U4c H ?_;refine Q2d rfl (fun h=>Q0w ?_) (fun h=>Q1n ?_)
 ·have h:0 < i':=h;rw[Y0o hO h hi'] at hb;obtain⟨k,rfl⟩:∃ k:Nat,i'=k:=⟨i'.toNat,by omega⟩;rw[Int.toNat_natCast] at hb;refine J43 H ?_;refine J11 H ?_;by_cases he:(k:Int)=id
  ·rw[show ((k:Int) == id)=true by rw[he];exact beq_self_eq_true id];refine J21 H ?_;rw[if_pos he] at hb;rw[← hb];exact Q0g (Jy H rfl fun w' H'=>⟨rfl,H'⟩)
  ·rw[show ((k:Int) == id)=false by rw[beq_eq_false_iff_ne];exact he];refine J9 H ?_;rw[if_neg he] at hb;have hkl:k < P.length:=by omega
   have hg:P.getD k 0 < (k:Int):=hO k _ (by omega) (by rw[List.getD_eq_getElem?_getD,List.getElem?_eq_getElem hkl];rfl);obtain⟨a,c,H⟩:=Q9c H;obtain⟨b,s,rfl,H,hclose⟩:=Q0y H.swap (by omega);have hc:=V0f (P:=P) (s:=s) (i:=k) hkl;refine J10 H ?_;refine Jd ?_;refine Q0s rfl (Q0l H rfl hc rfl ?_);refine J0 H ?_;replace H:=Q6y (hclose _ _ H).swap;exact⟨_,⟨rfl,P.getD k 0,by omega,hb,rfl,rfl,rfl,rfl,H⟩,by rw[Int.toNat_natCast];omega⟩
 ·have h:¬ 0 < i':=h;rw[Y3u _ _ (by omega)] at hb;rw[← hb];refine J14 H ?_;exact Q0g (Jy H rfl fun w' H'=>⟨rfl,H'⟩)
theorem Z2z [Q0i] (p:Nat) (P:List Int) (hO:Z2w P) (id:Int) (h1:1≤P.length) (hl:P.length≤1000000) {w:World} {fr:List Q0e} (H:Q0a w (RTR p P::fr)) :
  Calls Tryz.prog 236 #[pp p,.int .i64 id] w (ret fun v w'=>Q0a w' (NL v (Q7a P id)::RTR p P::fr)):=by
 refine Q0c Tryz.func236 rfl (by kernel_rfl) ?_;refine U4j H ?_;refine Q1l (fun ms σ w n=>ms=[]∧∃ (i:Nat) (g:Value),1≤i∧i≤P.length∧n=P.length - i∧σ 0=pp p∧σ 1 = .int .i64 id∧σ 5=g∧σ 6 = .int .i64 i∧Q0a w (NL g (V7e P id i)::RTR p P::fr)) (m:=P.length - 1) ⟨rfl,1,_,by omega,h1,rfl,rfl,rfl,rfl,rfl,Q3x H⟩ ?_;clear H;rintro ms σ w n ⟨rfl,i,g,hi1,hi2,rfl,g0,g1,g5,g6,H⟩;obtain⟨ag,mg,cg,rfl⟩:=Q1d H;obtain⟨a,c,H⟩:=Q9c H.swap;rw[Q0b g0,Q0b g1,Q0b g5,Q0b g6];refine J78 H ?_;refine Q2d rfl (fun h=>Q0w ?_) (fun h=>Q1n ?_)
 ·have hlt:i < P.length:=by omega
  obtain⟨b,s,rfl,H,hclose⟩:=Q0y H.swap (by omega);have hc:=V0f (P:=P) (s:=s) (i:=i) (by omega);have hnx:=Z2x P id i hi1;generalize P.getD i 0=y at hc hnx;refine G9z H ?_;refine Jd ?_;refine Q0s rfl (Q0l H rfl hc rfl ?_);refine J0 H ?_;replace H:=Q6y (hclose _ _ H).swap;refine J7 H ?_;refine Q2d rfl (fun h=>?_) (fun h=>Q0w ?_)
  ·have h:0≤y:=h;refine J15 H ?_;refine Jc rfl rfl (Z8r p P hO i id (by omega) H) ?_;clear H;rintro v w ⟨rfl,H⟩;refine J0 H ?_;refine J14 H ?_;cases hb:Q6z P id i with
   | true=>
    rw[hb,if_pos ⟨h,rfl⟩] at hnx;refine J13 H ?_;refine U4k H ?_;clear H;intro b32 w H;replace H:=Js [2,0,0] 0 H;refine Q0s rfl (Q1t H rfl rfl (by repeat first|exact .nil _|apply Q0o.cons rfl) rfl (by decide) (by rw[Q0d];have:=V6k P id i;simp only[List.length_cons,List.length_nil];omega) rfl rfl ?_);clear H;intro v25 w H;obtain⟨a25,m25,c25,rfl⟩:=Q1d H;refine U2h H ?_;replace H:=Js [0,1] 1 H;refine⟨_,⟨rfl,i+1,_,by omega,hlt,rfl,rfl,rfl,rfl,Q2a (by omega),?_⟩,by omega⟩;rw[hnx];show Q0a w (sls _ 1 _ (Q0u (_++[i]))::_);rw[Q3s];exact H
   | false=>
    rw[hb,if_neg (fun h=>by cases h.2),List.append_nil] at hnx;refine U2c H ?_;exact⟨_,⟨rfl,i+1,_,by omega,hlt,rfl,rfl,rfl,rfl,Q2a (by omega),by rw[hnx];exact H.swap⟩,by omega⟩
  ·have h:¬ 0≤y:=h;rw[if_neg (fun h2=>h h2.1),List.append_nil] at hnx;refine J11 H ?_;exact⟨_,⟨rfl,i+1,_,by omega,hlt,rfl,rfl,rfl,rfl,Q2a (by omega),by rw[hnx];exact H.swap⟩,by omega⟩
 ·obtain rfl:i=P.length:=by omega
  refine J3 H ?_;have H:=(Q6y H).swap;exact Q0g (Jy H rfl fun w' H'=>H')
theorem Z8s [Q0i] (p:Nat) (P:List Int) (hO:Z2w P) (id:Int) (h1:1≤P.length) (hl:P.length≤1000000) {w:World} {fr:List Q0e} (H:Q0a w (RTR p P::fr)) :
  Calls Tryz.prog 175 #[pp p,.int .i64 id] w (ret fun v w'=>Q0a w' (NL v (Q7a P id)::RTR p (Q5f P (Q7a P id))::fr)):=by
 refine Q0c Tryz.func175 rfl (by kernel_rfl) ?_;refine J59 H ?_;refine Jc rfl rfl (Z2z p P hO id h1 hl H) ?_;clear H;rintro v w H;have hLm:∀ k∈Q7a P id,k < P.length:=fun k hk=>(Y3v.1 hk).1;have hLl:(Q7a P id).length≤P.length:=V6k P id P.length;generalize Q7a P id=U at H hLm hLl;obtain⟨aU,cU,rfl⟩:=Q0j H (Q0d U) (by decide);refine J0 H ?_;refine U1v H ?_;refine Q1l (fun ms σ w n=>ms=[]∧∃ i:Nat,i≤U.length∧n=U.length - i∧σ 0=pp p∧σ 5 = .slice aU U.length cU∧σ 6 = .int .i64 i∧Q0a w (NL (.slice aU U.length cU) U::RTR p (Q5f P (U.take i))::fr)) (m:=U.length) ⟨rfl,0,by omega,rfl,rfl,rfl,rfl,by rw[List.take_zero,G3i];exact H⟩ ?_;clear H;rintro ms σ w n ⟨rfl,i,hi,rfl,g0,g5,g6,H⟩;rw[Q0b g0,Q0b g5,Q0b g6];refine J93 H ?_;refine Q2d rfl (fun h=>Q0w ?_) (fun h=>Q1n ?_)
 ·have hlt:i < U.length:=by omega
  have hx:=List.getElem?_eq_getElem hlt;have htk:U.take (i+1)=U.take i++[U[i]]:=by rw[List.take_add_one,hx];rfl
  have hxl:=hLm _ (List.getElem_mem hlt);generalize U[i]=k at hx htk hxl;have hfl:=Y0p P (U.take i);obtain⟨a,c,H⟩:=Q9c H.swap;obtain⟨b,s,rfl,H,_,_,hclose⟩:=Q2n H.swap (by omega);replace H:=Js [2,0,0] 0 H;obtain⟨bU,sU,rfl,H,hclU⟩:=Q0y H (by omega);have hkx:((k:Nat):Int).toNat=k:=Int.toNat_natCast k;refine U4u H ?_;clear H;intro w H;refine U7m H ?_;refine J54 H ?_;refine Ji 6 ?_;refine Q2b 7 [] H rfl (Q0n.none rfl) rfl (Q2r hx) (by kernel_rfl) ?_;refine Ji 8 ?_;refine Jo 9 H ?_;refine Q2e H rfl rfl inferInstance rfl (by simp only[List.length_append,Q0r];omega) rfl ?_;clear H;intro w H;rw[hkx,V6l (by omega),G3j] at H;refine Jx H ?_;replace H:=hclU _ _ H;replace H:=Js [1,1,0] 0 H;replace H:=hclose _ _ _ (by rw[Q0r,Q0r,Y0p,Y0p]) H;replace H:=Q6y H.swap;refine J11 H ?_;exact⟨_,⟨rfl,i+1,hlt,rfl,rfl,rfl,Q2a (by omega),by rw[htk];exact H.swap⟩,by omega⟩
 ·obtain rfl:i=U.length:=by omega
  rw[List.take_length] at H;refine J3 H ?_;exact Q0g (Jy H rfl fun w' H'=>H')
theorem Z3a [Q0i] (p:Nat) (P:List Int) (id:Nat) (q:Int) (hid:1≤id) (hq:P[id]? = some q) (hq0:0≤q) (h1:1≤P.length) (hl:P.length≤1000000) {w:World} {fr:List Q0e} (H:Q0a w (RTR p P::fr)) :
  Calls Tryz.prog 177 #[pp p,.int .i64 id] w (ret fun v w'=>(q=0∧v = .tuple #[.int .i64 0,.int .i64 16]∧Q0a w' (RTR p P::fr))∨(q≠0∧v = .tuple #[.int .i64 q,.int .i64 0]∧Q0a w' (RTR p (Q5p P id q.toNat)::fr))):=by
 have hidl:=(List.getElem?_eq_some_iff.1 hq).1;have hgd:P.getD id 0=q:=by rw[List.getD_eq_getElem?_getD,hq];rfl
 have hlv:Q5k P (id:Int)=true:=decide_eq_true ⟨by omega,by omega,by rw[Int.toNat_natCast,hgd];exact hq0⟩;refine Q0c Tryz.func177 rfl (by kernel_rfl) ?_;refine J68 H ?_;refine Jc rfl rfl (Q7f p P id H) ?_;clear H;rintro v w ⟨rfl,H⟩;rw[hlv];refine J23 H ?_;obtain⟨a,c,H⟩:=Q9c H;obtain⟨b,s,rfl,H,hclose⟩:=Q0y H.swap (by omega);have hc:=V0f (P:=P) (s:=s) (i:=id) hidl;rw[hgd] at hc;refine J10 H ?_;refine Jd ?_;refine Q0s rfl (Q0l H rfl hc rfl ?_);refine J0 H ?_;replace H:=Q6y (hclose _ _ H).swap;refine J3 H ?_;by_cases hz:q=0
 ·rw[show (q == (0:Int))=true by rw[hz];rfl];refine J28 H ?_;exact Q0g (Jy H rfl fun w' H' => .inl ⟨hz,rfl,H'⟩)
 rw[show (q == (0:Int))=false by rw[beq_eq_false_iff_ne];exact hz];refine J9 H ?_;obtain⟨qn,rfl⟩:∃ qn:Nat,q=qn:=⟨q.toNat,by omega⟩;rw[Int.toNat_natCast];refine J5 H ?_;refine Q1m (fun ms σ w=>ms=[]∧σ 0=pp p∧σ 1 = .int .i64 id∧σ 7 = .int .i64 qn∧Q0a w (RTR p (Q8z P id qn P.length)::fr)) ?_ ?_
 ·refine Q0t ?_;refine Q1l (fun ms σ w n=>ms=[]∧∃ i:Nat,1≤i∧i≤P.length∧n=P.length - i∧σ 0=pp p∧σ 1 = .int .i64 id∧σ 7 = .int .i64 qn∧σ 8 = .int .i64 i∧Q0a w (RTR p (Q8z P id qn i)::fr)) (m:=P.length - 1) ⟨rfl,1,by omega,h1,rfl,rfl,rfl,rfl,rfl,by rw[Z8o];exact H⟩ ?_;clear H hclose;rintro ms σ w n ⟨rfl,i,hi1,hi2,rfl,g0,g1,g7,g8,H⟩;rw[Q0b g0,Q0b g1,Q0b g7,Q0b g8];have hml:=Q8j P id qn i;obtain⟨a,c,H⟩:=Q9c H;refine J78 H ?_;rw[hml];refine Q2d rfl (fun h=>Q0w ?_) (fun h=>Q1n ?_)
  ·have hlt:i < P.length:=by omega
   obtain⟨b,s,rfl,H,_,_,hclose⟩:=Q2n H.swap (by omega);have hPi:=List.getElem?_eq_getElem hlt;generalize P[i]=y at hPi
   have hgi:(Q8z P id qn i).getD i 0=y:=by
    rw[List.getD_eq_getElem?_getD,Q7i,hPi];simp
   have hc:=V0f (P:=Q8z P id qn i) (s:=s) (i:=i) (by omega);rw[hgi] at hc;have hkx:((i:Nat):Int).toNat=i:=Int.toNat_natCast i;refine G9z H ?_;refine Jd ?_;refine Q0s rfl (Q0l H rfl hc rfl ?_);refine J2 H ?_;by_cases hy:y=(id:Int)
   ·rw[show (y == (id:Int))=true by rw[hy];exact beq_self_eq_true _];subst hy;refine J13 H ?_;refine J37 H ?_;refine Jd ?_;refine Q0s rfl (Q2e H rfl rfl inferInstance rfl (by simp only[List.length_append,Q0r];omega) rfl ?_);clear H;intro w H;rw[hkx,V6l (by omega),Z8p hi1 hPi] at H;refine Q0h ?_;replace H:=Q6y (hclose _ _ _ (by rw[Q0r,Q0r,Q8j,Q8j]) H).swap;refine J11 H ?_;exact⟨_,⟨rfl,i+1,by omega,hlt,rfl,rfl,rfl,rfl,Q2a (by omega),H⟩,by omega⟩
   ·rw[show (y == (id:Int))=false by rw[beq_eq_false_iff_ne];exact hy];refine J9 H ?_;rw[Z2y hPi hy] at H hclose;replace H:=Q6y (hclose _ _ _ rfl H).swap;refine J11 H ?_;exact⟨_,⟨rfl,i+1,by omega,hlt,rfl,rfl,rfl,rfl,Q2a (by omega),H⟩,by omega⟩
  ·obtain rfl:i=P.length:=by omega
   exact⟨rfl,rfl,rfl,rfl,rfl,Q6y H⟩
 clear H hclose;rintro ms σ w ⟨rfl,g0,g1,g7,H⟩;rw[Q0b g0,Q0b g1,Q0b g7];have hml:=Q8j P id qn P.length;obtain⟨a,c,H⟩:=Q9c H;obtain⟨b,s,rfl,H,_,_,hclose⟩:=Q2n H.swap (by omega);have hkx:((id:Nat):Int).toNat=id:=Int.toNat_natCast id;refine J10 H ?_;refine Jd ?_;refine Q0s rfl (Q2e H rfl rfl inferInstance rfl (by simp only[List.length_append,Q0r];omega) rfl ?_);clear H;intro w H;rw[hkx,V6l (by omega),Z8q] at H;have hmp:(Q5p P id qn).length=(Q8z P id qn P.length).length:=by unfold Q5p Q8z;rw[List.length_mapIdx,List.length_mapIdx]
 refine Q0h ?_;replace H:=Q6y (hclose _ _ _ (by rw[Q0r,Q0r,hmp]) H).swap;refine J11 H ?_;exact Q0g (Jy H rfl fun w' H' => .inr ⟨hz,rfl,H'⟩)
end Go.Proofs.YtmjdnljneifpcaaGreatDoor
namespace Go.Proofs.YtmjdnljneifpcaaGreatDoor
open Go.SL
theorem Z5p {s s':CS} {m m':MS} {told:List (Nat×Nat)} (R:Rel s m told) {mv:Nat→Ent→Ent} (h:V6i s s' mv) (hl:m'.lays=m.lays) (ho:m'.objs.length=m.objs.length)
  (htree:∀ (r q:Int),(r,q)∈s'.par↔∃ k:Nat,r=k∧1≤k∧m'.P[k]? = some q∧0≤q) (hnd:(s'.par.map (·.1)).Nodup) (hlast:s'.last+1=m'.P.length)
  (hobj:∀ (o:Nat) (x':Mob),m'.objs[o]? = some x'→∃ x,m.objs[o]? = some x∧x'={ x with region:=x'.region }∧∀ (k g:Nat) (e:Ent),told[o]? = some (k,g)→x.gone=false→s.tab[k]? = some ⟨g,some e⟩→e.region=x.region→(mv k e).region=x'.region):Rel s' m' told:=by
 refine⟨by rw[ho];exact R.len,by rw[h.lays,hl];exact R.lays,htree,hnd,hlast,?_,?_,?_,?_,R.nodup⟩
 ·intro o x' k g hx' ht hg;obtain⟨x,hx,he,hr⟩:=hobj o x' hx';have hg:x.gone=false:=by rw[he] at hg;exact hg
  obtain⟨e,hk,hL⟩:=R.obj o x k g hx ht hg;obtain⟨s1,s2,s3,s4,s5⟩:=h.same k e;refine⟨mv k e,h.at hk,?_⟩;have hreg:=hr k g e ht hg hk hL.region;rw[hl];have f1:x'.lay=x.lay:=by rw[he]
  have f2:x'.count=x.count:=by rw[he]
  have f3:x'.held=x.held:=by rw[he]
  have f4:x'.pinned=x.pinned:=by rw[he]
  have f5:x'.w=x.w:=by rw[he]
  have f6:x'.kind=x.kind:=by rw[he]
  have f7:x'.to=x.to:=by rw[he]
  refine⟨hreg,by rw[s1,f1];exact hL.lay,by rw[s2,f2];exact hL.count,by rw[s4,f3];exact hL.held,by rw[s5,f4];exact hL.pinned,by rw[s3,f5];exact hL.len,?_,?_,?_⟩
  ·rw[f5,f1,f6,f7,s3];exact hL.ref
  ·rw[f5,f1,s3];exact hL.word
  ·rw[f5,f1,f6];exact hL.kind
 ·intro o x' k g hx' ht hg e' hk';obtain⟨x,hx,he,_⟩:=hobj o x' hx';have hg:x.gone=true:=by rw[he] at hg;exact hg
  obtain⟨e,hk,_⟩:=h.from hk';exact R.gone o x k g hx ht hg e hk
 ·intro k g e' hk';obtain⟨e,hk,_⟩:=h.from hk';exact R.used k g e hk
 ·intro o k g ht;obtain⟨t,h1,h2⟩:=R.gens o k g ht;exact⟨_,h.tab k t h1,h2⟩
def Q7t (id q:Nat) (x:Mob):Mob:=if x.region=id then { x with region:=q } else x
def Z5q (m:MS) (id q:Nat):MS:={ m with P:=Q5p m.P id q,objs:=m.objs.map (Q7t id q) }
theorem Y0q (id q:Nat) (x:Mob):Q7t id q x={ x with region:=(Q7t id q x).region }:=by
 unfold Q7t;split <;> rfl
theorem Y5x (id q:Nat) (x:Mob):(Q7t id q x).region=if x.region=id then q else x.region:=by
 unfold Q7t;split <;> rfl
theorem G3k {s s':CS} {m:MS} {told:List (Nat×Nat)} (R:Rel s m told) {id q:Nat} (hid:1≤id) (hne:id≠q) (h:Y3s s id q s'):Rel s' (Z5q m id q) told:=by
 have hnd':(s'.par.map (·.1)).Nodup:=by rw[h.par.1];exact R.nd.filter _
 refine Z5p R h.mv rfl (List.length_map _) (fun r z=>?_) hnd' ?_ fun o x' hx'=>?_
 ·rw[← Q3r hnd',h.par.2];have hPk:∀ k:Nat,(Q5p m.P id q)[k]? = (m.P[k]?).map fun x=>if k=id then -1 else if 1≤k∧x=(id:Int) then (q:Int) else x:=fun k=>List.getElem?_mapIdx;constructor
  ·intro hr;split at hr
   ·cases hr
   ·rename_i h1;split at hr
    ·rename_i h2;injection hr with hr
     obtain⟨k,k1,k2,k3,k4⟩:=(R.tree _ _).1 ((Q3r R.nd).1 h2);refine⟨k,k1,k2,?_,by omega⟩;show (Q5p m.P id q)[k]? = _;rw[hPk,k3];simp only[Option.map_some];rw[if_neg (by omega),if_pos ⟨k2,trivial⟩,hr]
    ·rename_i h2;obtain⟨k,k1,k2,k3,k4⟩:=(R.tree _ _).1 ((Q3r R.nd).1 hr);refine⟨k,k1,k2,?_,k4⟩;show (Q5p m.P id q)[k]? = _;rw[hPk,k3];simp only[Option.map_some];rw[if_neg (by omega),if_neg (fun h3=>h2 (by rw[hr,h3.2]))]
  ·rintro⟨k,rfl,k2,k3,k4⟩;have k3:(Q5p m.P id q)[k]? = some z:=k3;rw[hPk] at k3;cases hP:m.P[k]? with
   | none=>rw[hP] at k3;cases k3
   | some z0=>
    rw[hP] at k3;injection k3 with k3
    have k3:(if k=id then (-1:Int) else if 1≤k∧z0=(id:Int) then (q:Int) else z0)=z:=k3;by_cases h1:k=id
    ·rw[if_pos h1] at k3;omega
    ·rw[if_neg h1] at k3;rw[if_neg (by omega)]
     have hz0:0≤z0:=by
      split at k3 <;> omega
     have hf:=(Q3r R.nd).2 ((R.tree (k:Int) z0).2 ⟨k,rfl,k2,hP,hz0⟩);by_cases h2:z0=(id:Int)
     ·rw[if_pos ⟨k2,h2⟩] at k3;rw[h2] at hf;rw[if_pos hf,k3]
     ·rw[if_neg (fun h3=>h2 h3.2)] at k3;subst k3
      rw[if_neg (fun h3=>by
       rw[hf] at h3;injection h3 with h3
       exact h2 h3)]
      exact hf
 ·rw[h.last];show s.last+1=(Q5p m.P id q).length;unfold Q5p;rw[List.length_mapIdx];exact R.last
 ·have hx':(m.objs.map (Q7t id q))[o]? = some x':=hx';rw[List.getElem?_map] at hx';cases hx:m.objs[o]? with
  | none=>rw[hx] at hx';cases hx'
  | some x=>
   rw[hx] at hx';injection hx' with hx'
   subst hx';refine⟨x,rfl,Y0q id q x,fun k g e _ _ _ hr=>?_⟩;rw[Q4e,Y5x,hr];by_cases h1:x.region=id
   ·rw[if_pos (by omega),if_pos h1]
   ·rw[if_neg (by omega),if_neg h1]
theorem Y0r {m m':MS} (h:MWF m) (hP:m'.P.length=m.P.length∨(m'.P.length=m.P.length+1∧m.P.length < 100000)) (hl:m'.lays=m.lays) (ho:m'.objs.length=m.objs.length)
  (hobj:∀ (o:Nat) (x':Mob),m'.objs[o]? = some x'→∃ x,m.objs[o]? = some x∧x'={ x with region:=x'.region }):MWF m':=by
 refine⟨by have:=h.P;omega,by rw[hl];exact h.lays,fun x' hx'=>?_,by rw[ho];exact h.few⟩;obtain⟨o,hx'⟩:=List.getElem?_of_mem hx';obtain⟨x,hx,he⟩:=hobj o x' hx';obtain⟨a,b,c,d,e⟩:=h.objs x (List.mem_of_getElem? hx);rw[hl,ho,he];exact⟨a,b,c,d,e⟩
def Y0s (m:MS) (r:Nat) (os:List Nat):MS:={ m with P:=m.P++[(r:Int)],objs:=m.objs.mapIdx fun o x=>if o∈os then { x with region:=m.P.length } else x }
theorem Y9w {m:MS} {r:Nat} {os:List Nat} {o:Nat} {x':Mob} (h:(Y0s m r os).objs[o]? = some x'):∃ x,m.objs[o]? = some x∧x'={ x with region:=x'.region }∧x'.region=if o∈os then m.P.length else x.region:=by
 have h:(m.objs.mapIdx fun o x=>if o∈os then { x with region:=m.P.length } else x)[o]? = some x':=h;rw[List.getElem?_mapIdx] at h;cases hx:m.objs[o]? with
 | none=>rw[hx] at h;cases h
 | some x=>
  rw[hx] at h;injection h with h
  have h:(if o∈os then ({ x with region:=m.P.length }:Mob) else x)=x':=h;subst h;refine⟨x,rfl,?_,?_⟩ <;> split <;> rfl
theorem G3l {m:MS} (h:MWF m) (hP:m.P.length < 100000) (r:Nat) (os:List Nat):MWF (Y0s m r os):=by
 refine Y0r h (.inr ⟨by show (m.P++[_]).length=_;simp,hP⟩) rfl (List.length_mapIdx) fun o x' hx'=>?_;obtain⟨x,h1,h2,_⟩:=Y9w hx';exact⟨x,h1,h2⟩
theorem G3m {s s':CS} (hw:WF s) {m:MS} {told:List (Nat×Nat)} (R:Rel s m told) {r:Nat} {Z:List Pl} {os:List Nat} (h:Y3t s r Z s') (hos:∀ (o k g:Nat) (x:Mob),told[o]? = some (k,g)→m.objs[o]? = some x→x.gone=false→(o∈os↔k∈Z.map Pl.k)):Rel s' (Y0s m r os) told:=by
 have hup:∀ x,x∈s.par.map (·.1)→x≠((s.last+1:Nat):Int):=fun x hx=>by
  obtain⟨⟨x',q⟩,h1,h2⟩:=List.mem_map.1 hx;have h2:x'=x:=h2;have:=(hw.par.2.2 x' q h1).2;omega
 have hPl:m.P.length=s.last+1:=R.last.symm;refine Z5p R h.mv rfl List.length_mapIdx (fun x z=>?_) ?_ ?_ fun o x' hx'=>?_
 ·rw[h.par,List.mem_append,R.tree];show _↔∃ k:Nat,x=k∧1≤k∧(m.P++[(r:Int)])[k]? = some z∧0≤z;constructor
  ·rintro(⟨k,k1,k2,k3,k4⟩|h1)
   ·exact⟨k,k1,k2,by rw[List.getElem?_append_left (List.getElem?_eq_some_iff.1 k3).1];exact k3,k4⟩
   ·rw[List.mem_singleton] at h1;injection h1 with h1 h2
    refine⟨s.last+1,h1,by omega,?_,by omega⟩;rw[List.getElem?_append_right (by omega),hPl,Nat.sub_self,h2];rfl
  ·rintro⟨k,k1,k2,k3,k4⟩;by_cases hk:k < m.P.length
   ·rw[List.getElem?_append_left hk] at k3;exact .inl ⟨k,k1,k2,k3,k4⟩
   ·rw[List.getElem?_append_right (by omega)] at k3;have hk0:=(List.getElem?_eq_some_iff.1 k3).1;have hk0:k - m.P.length < 1:=hk0;have hk1:k - m.P.length=0:=by omega
    rw[hk1] at k3;injection k3 with k3
    refine .inr ?_;rw[List.mem_singleton,← k3,k1,show k=s.last+1 by omega]
 ·rw[h.par,List.map_append,List.nodup_append];refine⟨R.nd,by simp,fun a ha b hb hab=>?_⟩;simp at hb;subst hab;exact hup a ha hb
 ·rw[h.last];show _=(m.P++[(r:Int)]).length;rw[List.length_append,hPl];rfl
 ·obtain⟨x,h1,h2,h3⟩:=Y9w hx';refine⟨x,h1,h2,fun k g e ht hg hk hr=>?_⟩;have:=hos o k g x ht h1 hg;rw[h3];by_cases h4:k∈Z.map Pl.k
  ·rw[if_pos (this.2 h4),hPl];obtain⟨z,z1,z2⟩:=List.mem_map.1 h4;subst z2;rw[G3g h.keys z1]
  ·rw[if_neg (fun h5=>h4 (this.1 h5)),Y9v h4];exact hr
end Go.Proofs.YtmjdnljneifpcaaGreatDoor
namespace Go.Proofs.YtmjdnljneifpcaaGreatDoor
open Go.SL
def Y1f (ts:List Slt) (r:Int):List (Nat×Nat)→List (Nat×Nat)→Nat
 | _,[]=>0
 | pre,t::l=>match Q1p ts t.1 t.2 with
  | none=>8
  | some (_,e)=>if e.region≠r then 15 else if e.pinned=true then 13 else if t∈pre then 14 else Y1f ts r (pre++[t]) l
def Q6l (s:CS) (r:Int) (l:List (Nat×Nat)):Nat:=if 64 < l.length then 18 else if Y1f s.tab r [] l≠0 then Y1f s.tab r [] l else if s.par.length=64 then 5 else 0
theorem V4u {ts:List Slt} {r:Int} {pre l:List (Nat×Nat)} {t:Nat×Nat} (h:Q1p ts t.1 t.2=none):Y1f ts r pre (t::l)=8:=by
 unfold Y1f;rw[h]
theorem Y5y {ts:List Slt} {r:Int} {pre l:List (Nat×Nat)} {t:Nat×Nat} {k:Nat} {e:Ent} (h:Q1p ts t.1 t.2=some (k,e)):Y1f ts r pre (t::l)=if e.region≠r then 15 else if e.pinned=true then 13 else if t∈pre then 14 else Y1f ts r (pre++[t]) l:=by
 show (match Q1p ts t.1 t.2 with
  | none=>8
  | some (_,e)=>if e.region≠r then 15 else if e.pinned=true then 13 else if t∈pre then 14 else Y1f ts r (pre++[t]) l)=_
 rw[h]
theorem Y5z {ts:List Slt} {r:Int}:∀ {l pre:List (Nat×Nat)},Y1f ts r pre l=0→(∀ t∈l,(∃ e,ts[t.1]? = some ⟨t.2,some e⟩∧e.held=true∧e.region=r∧e.pinned=false)∧t∉pre)∧l.Nodup
 | [],_,_=>⟨fun t ht=>(by cases ht),.nil⟩
 | t::l,pre,h=>by
  cases hv:Q1p ts t.1 t.2 with
  | none=>rw[V4u hv] at h;cases h
  | some q=>
   obtain⟨k,e⟩:=q;rw[Y5y hv] at h;split at h
   ·cases h
   ·rename_i h1;split at h
    ·cases h
    ·rename_i h2;split at h
     ·cases h
     ·rename_i h3;obtain⟨h4,h5⟩:=Y5z h;obtain⟨hL,hh⟩:=Q3y.1 hv;obtain⟨n,n1,n2,n3⟩:=Q1k.1 hL;have e1:t.1=k:=by omega
      have e2:t.2=n:=by omega
      refine⟨fun u hu=>?_,List.nodup_cons.2 ⟨fun h6=>(h4 t h6).2 (by simp),h5⟩⟩
      rcases List.mem_cons.1 hu with rfl|hu
      ·exact⟨⟨e,by rw[e1,e2];exact n3,hh,Classical.not_not.1 h1,by simpa using h2⟩,h3⟩
      ·exact⟨(h4 u hu).1,fun h6=>(h4 u hu).2 (List.mem_append.2 (.inl h6))⟩
theorem G6y {ts:List Slt} {r:Int} {l:List (Nat×Nat)} (h:Y1f ts r [] l=0):(l.map (·.1)).Nodup:=by
 obtain⟨h1,h2⟩:=Y5z h;refine List.pairwise_map.2 (h2.imp_of_mem fun {a b} ha hb hab hk=>hab ?_);obtain⟨⟨e,e1,_⟩,_⟩:=h1 a ha;obtain⟨⟨f,f1,_⟩,_⟩:=h1 b hb;rw[hk,f1] at e1;injection e1 with e1
 injection e1 with e1 _
 exact Prod.ext hk e1.symm
def Y9x (m:MS) (r:Int):List Int→List Int→Nat
 | _,[]=>0
 | pre,o::l=>match Q7m m o with
  | none=>8
  | some (_,x)=>if (x.region:Int)≠r then 15 else if x.pinned=true then 13 else if o∈pre then 14 else Y9x m r (pre++[o]) l
def Z0r (m:MS) (r:Int) (os:List Int):Nat:=if Q5k m.P r=false then 15 else if 64 < os.length then 18 else if Y9x m r [] os≠0 then Y9x m r [] os else if 64≤(V4y m.P).length then 5 else 0
theorem Y3w {m:MS} {r:Int} {pre l:List Int} {o:Int} (h:Q7m m o=none):Y9x m r pre (o::l)=8:=by
 unfold Y9x;rw[h]
theorem Y9y {m:MS} {r:Int} {pre l:List Int} {o:Int} {k:Nat} {x:Mob} (h:Q7m m o=some (k,x)):Y9x m r pre (o::l)=if (x.region:Int)≠r then 15 else if x.pinned=true then 13 else if o∈pre then 14 else Y9x m r (pre++[o]) l:=by
 show (match Q7m m o with
  | none=>8
  | some (_,x)=>if (x.region:Int)≠r then 15 else if x.pinned=true then 13 else if o∈pre then 14 else Y9x m r (pre++[o]) l)=_
 rw[h]
def Y9z (told:List (Nat×Nat)) (y:(Nat×Nat)×Int):Prop:=(∃ n:Nat,y.2=n∧told[n]? = some y.1)∨(y.2 = -1∧told=[])
theorem Y9z.pick {told:List (Nat×Nat)} {y:(Nat×Nat)×Int} (h:Y9z told y):Z2b told y.1.1 y.1.2 y.2:=by
 rcases h with ⟨n,h1,h2⟩|⟨h1,h2⟩
 ·exact .inl ⟨y.1.1,y.1.2,n,rfl,rfl,h1,h2⟩
 ·exact .inr ⟨h1,fun k gg n _ _=>by rw[h2];simp⟩
theorem G3n {s:CS} {m:MS} {told:List (Nat×Nat)} (R:Rel s m told) (r:Int):∀ (l pre:List ((Nat×Nat)×Int)),(∀ y∈l,Y9z told y)→(∀ y∈pre,Y9z told y)→Y1f s.tab r (pre.map (·.1)) (l.map (·.1))=Y9x m r (pre.map (·.2)) (l.map (·.2))
 | [],pre,_,_=>rfl
 | y::l,pre,h1,h2=>by
  have hy:=h1 y List.mem_cons_self
  have ih:=G3n R r l (pre++[y]) (fun z hz=>h1 z (List.mem_cons_of_mem _ hz)) (fun z hz=>by
   rcases List.mem_append.1 hz with hz|hz
   ·exact h2 z hz
   ·rw[List.mem_singleton] at hz;subst hz;exact hy)
  rw[List.map_append,List.map_append] at ih;have hV:Vd s m told y.1.1 y.1.2 y.2:=Q6b R hy.pick
  rcases hV with ⟨v1,v2⟩|⟨k,gg,n,e,x,a1,a2,a3,a4,a5,a6,a7,a8,a9,a10⟩
  ·show Y1f s.tab r (pre.map (·.1)) (y.1::l.map (·.1))=Y9x m r (pre.map (·.2)) (y.2::l.map (·.2));rw[V4u v1,Y3w v2]
  ·show Y1f s.tab r (pre.map (·.1)) (y.1::l.map (·.1))=Y9x m r (pre.map (·.2)) (y.2::l.map (·.2));rw[Y5y a9,Y9y a10,a8.region,a8.pinned]
   have hiff:y.1∈pre.map (·.1)↔y.2∈pre.map (·.2):=by
    have ht:told[n]? = some y.1:=by rw[a4];congr 1;exact Prod.ext (by omega) (by omega)
    constructor
    ·intro h;obtain⟨z,z1,z2⟩:=List.mem_map.1 h;refine List.mem_map.2 ⟨z,z1,?_⟩
     rcases h2 z z1 with ⟨n',b1,b2⟩|⟨_,b2⟩
     ·rw[z2] at b2;have:=G6d R.nodup ht b2;omega
     ·rw[b2] at ht;cases ht
    ·intro h;obtain⟨z,z1,z2⟩:=List.mem_map.1 h;refine List.mem_map.2 ⟨z,z1,?_⟩
     rcases h2 z z1 with ⟨n',b1,b2⟩|⟨b1,_⟩
     ·have:n'=n:=by omega
      subst this;rw[ht] at b2;injection b2 with b2
      exact b2.symm
     ·omega
   by_cases c1:(x.region:Int)≠r
   ·rw[if_pos c1,if_pos c1]
   ·rw[if_neg c1,if_neg c1];by_cases c2:x.pinned=true
    ·rw[if_pos c2,if_pos c2]
    ·rw[if_neg c2,if_neg c2];by_cases c3:y.1∈pre.map (·.1)
     ·rw[if_pos c3,if_pos (hiff.1 c3)]
     ·rw[if_neg c3,if_neg (fun h=>c3 (hiff.2 h))];exact ih
theorem G3o {s:CS} {m:MS} {told:List (Nat×Nat)} (R:Rel s m told) (hw:WF s) {r:Int} (hr:(fnd s.par r).isSome=true) {l:List ((Nat×Nat)×Int)} (h:∀ y∈l,Y9z told y):Q6l s r (l.map (·.1))=Z0r m r (l.map (·.2)):=by
 have h1:=G3n R r l [] h (fun y hy=>(by cases hy));have h1:Y1f s.tab r [] (l.map (·.1))=Y9x m r [] (l.map (·.2)):=h1;unfold Q6l Z0r;rw[← V0i R,hr,if_neg (show ¬ (true=false) by decide),List.length_map,List.length_map,h1];by_cases c1:64 < l.length
 ·rw[if_pos c1,if_pos c1]
 ·rw[if_neg c1,if_neg c1];by_cases c2:Y9x m r [] (l.map (·.2))≠0
  ·rw[if_pos c2,if_pos c2]
  ·rw[if_neg c2,if_neg c2,V9w R.w];have:=hw.par.1;rw[V9w R.w] at this;by_cases c3:(V4y m.P).length=64
   ·rw[if_pos c3,if_pos (by omega)]
   ·rw[if_neg c3,if_neg (by omega)]
end Go.Proofs.YtmjdnljneifpcaaGreatDoor
