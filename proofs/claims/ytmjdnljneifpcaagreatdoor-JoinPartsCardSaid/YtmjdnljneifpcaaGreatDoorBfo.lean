/- Cells: what is proved on the way: every input of the statement; no condition. Texts joined: SplP SplH SplQ SplB RefE MovR ChkP. -/
import Derived.Test.YtmjdnljneifpcaaGreatDoorBfn
import Derived.Test.YtmjdnljneifpcaaGreatDoorBfl
import Derived.Test.YtmjdnljneifpcaaGreatDoorBfe
import Derived.Test.YtmjdnljneifpcaaGreatDoorBfi
import Derived.Test.YtmjdnljneifpcaaGreatDoorBfk
set_option linter.unusedVariables false
set_option linter.unusedSimpArgs false
set_option linter.unusedSectionVars false
namespace Go.Proofs.YtmjdnljneifpcaaGreatDoor
open List
open Go.SL
def Bo (size:Nat) (T:QP) (a n:Nat):Prop:=∃ c,(c,1)∈T.parts∧c*size≤a∧a+n≤(c+1)*size∧(a+n≤T.at'∨T.fin≤a)
theorem kR {size:Nat} (hs:1≤size) {own:List Nat} {x:Int} {S:QP} (h:Xb size own x S) {e:Q9} (hl:Un size own e) (QA:e.region≠x):QT e≤S.at'∨S.fin≤e.addr:=by
 by_cases h0:S.fin=0
 ·right;omega
 obtain⟨c,Zs,UM,R6⟩:=h.fin h0;have BR:c∈QR S.parts:=Bm R6 (Nat.le_refl _) (Nat.lt_succ_self _);obtain⟨y,GH,Ka,Fv⟩:=(h.owned c).1 BR;have GC:=h.at1
 rcases hl.chunk hs c with (h1|h1)|⟨z,BF,JI,qI⟩
 ·left;omega
 ·right;omega
 ·rw[GH] at BF;injection BF with BF
  subst BF;exact absurd (JI.symm.trans Ka) QA
theorem kW {s:CS} (h:WF s) {k g:Nat} {e:Q9} (hk:s.tab[k]? = some ⟨g,some e⟩) {r id:Int} (hr:e.region=r) (QA:id≠r) (QN:(s.par.map (·.1)).Nodup)
  {p1 p2:List (Int×Nat×QP)} {b0 bs:Nat} {S T S' T':QP} (VN:s.sps=p1++(r,b0,S)::(p2++[(id,bs,T)]))
  {m1 m2:List (Int×Nat×List Nat)} {c0 bm:Nat} {M N:List Nat} (Vl:s.mns=m1++(r,c0,M)::(m2++[(id,bm,N)])) {own':List Nat} {a:Nat} {e':Q9} (he:e'={ e with region:=id,addr:=a })
  (VH:own'.length=s.own.length) (hE:Un s.size own' e') (hL:∀ (j n:Nat) (f:Q9),j≠k→s.tab[j]? = some ⟨n,some f⟩→Un s.size own' f)
  (GN:∀ (j n:Nat) (f:Q9),j≠k→s.tab[j]? = some ⟨n,some f⟩→QT f≤e'.addr∨QT e'≤f.addr)
  (hS:Xb s.size own' r S') (hT:Xb s.size own' id T') (ho:∀ x∈p1++p2,Xb s.size own' x.1 x.2.2)
  (vF:∀ (j n:Nat) (f:Q9),(s.tab.set k ⟨g,some e'⟩)[j]? = some ⟨n,some f⟩→QT f≤S'.at'∨S'.fin≤f.addr) (vH:∀ (j n:Nat) (f:Q9),(s.tab.set k ⟨g,some e'⟩)[j]? = some ⟨n,some f⟩→QT f≤T'.at'∨T'.fin≤f.addr)
  (XV:∀ (c x:Nat),own'[c]? = some x→x≠0→(x:Int)=id∨s.own[c]? = some x) {b0' bs':Nat} :
  WF { s with own:=own',tab:=s.tab.set k ⟨g,some e'⟩,sps:=p1++(r,b0,S')::(p2++[(id,bs,T')]),mns:=m1++(r,c0,M.filter (·≠k))::(m2++[(id,bm,Zc N k)]) }:=by
 have VC:=(List.getElem?_eq_some_iff.1 hk).1;have kU:id∈s.par.map (·.1):=by rw[← h.skeys,VN];simp
 obtain⟨z,hz⟩:∃ z,(id,z)∈s.par:=by
  obtain⟨⟨x,z⟩,h1,h2⟩:=mem_map.1 kU;exact⟨z,by rw[← h2];exact h1⟩
 have vI:∀ (c x:Nat),own'[c]? = some x→x≠0→∃ q,((x:Int),q)∈s.par:=fun c x h1 h2=>by
  rcases XV c x h1 h2 with h3|h3
  ·exact⟨z,by rw[h3];exact hz⟩
  ·exact h.live c x h3 h2
 have Lg:e'.region=id:=by rw[he]
 have C5:∀ x∈p1++p2,x∈s.sps∧x.1≠r∧x.1≠id:=by
  intro x hx;have WE:(s.sps.map fun y=>y.1).Nodup:=by rw[h.skeys];exact QN
  obtain⟨u1,u2⟩:=Kk (f:=fun y:Int×Nat×QP=>y.1) VN WE
  have UO:x∈p1++(p2++[(id,bs,T)]):=by
   rcases mem_append.1 hx with hx|hx
   ·exact mem_append.2 (.inl hx)
   ·exact mem_append.2 (.inr (mem_append.2 (.inl hx)))
  obtain⟨v1,v2⟩:=Kk (f:=fun y:Int×Nat×QP=>y.1) (l:=p1++(p2++[(id,bs,T)])) (l1:=p1++p2) (l2:=[]) (a:=(id,bs,T)) (by simp) (by rw[u1];exact WE.filter _);exact⟨(u2 x UO).1,(u2 x UO).2,(v2 x (by simpa using hx)).2⟩
 have aN:∀ x∈m1++m2,x∈s.mns∧x.1≠r∧x.1≠id:=by
  intro x hx;have WE:(s.mns.map fun y=>y.1).Nodup:=by rw[h.mkeys];exact QN
  obtain⟨u1,u2⟩:=Kk (f:=fun y:Int×Nat×List Nat=>y.1) Vl WE
  have UO:x∈m1++(m2++[(id,bm,N)]):=by
   rcases mem_append.1 hx with hx|hx
   ·exact mem_append.2 (.inl hx)
   ·exact mem_append.2 (.inr (mem_append.2 (.inl hx)))
  obtain⟨v1,v2⟩:=Kk (f:=fun y:Int×Nat×List Nat=>y.1) (l:=m1++(m2++[(id,bm,N)])) (l1:=m1++m2) (l2:=[]) (a:=(id,bm,N)) (by simp) (by rw[u1];exact WE.filter _);exact⟨(u2 x UO).1,(u2 x UO).2,(v2 x (by simpa using hx)).2⟩
 have VQ:∀ {α:Type} {l1 l2:List α} {u v x:α},x∈l1++u::(l2++[v])→x=u∨x=v∨x∈l1++l2:=by
  intro α l1 l2 u v x hx
  rcases mem_append.1 hx with hx|hx
  ·exact .inr (.inr (mem_append.2 (.inl hx)))
  ·rcases mem_cons.1 hx with hx|hx
   ·exact .inl hx
   ·rcases mem_append.1 hx with hx|hx
    ·exact .inr (.inr (mem_append.2 (.inr hx)))
    ·exact .inr (.inl (mem_singleton.1 hx))
 have KK:(r,c0,M)∈s.mns:=by rw[Vl];simp
 have Lf:(id,bm,N)∈s.mns:=by rw[Vl];simp
 have hM:=h.mine _ KK;have hN:=h.mine _ Lf;refine⟨h.size,by show 1≤own'.length∧own'.length≤63;rw[VH];exact h.own,by show 1≤(s.tab.set _ _).length∧(s.tab.set _ _).length≤63;rw[length_set];exact h.slots,h.lays,fun i t hi=>?_,fun i n f hi=>?_,fun i j n n' f f' ZR hi hj=>?_,h.par,?_,?_,fun x hx=>?_,fun x hx j n f hj=>?_,vI,fun x hx=>?_⟩
 ·rcases VE hi with ⟨rfl,rfl,_⟩|⟨_,hi⟩
  ·exact⟨(h.gen _ _ hk).1,fun _=>(h.gen _ _ hk).2 rfl⟩
  ·exact h.gen i t hi
 ·rcases VE hi with ⟨rfl,h1,_⟩|⟨h0,hi⟩
  ·injection h1 with h1 h2
   injection h2 with h2
   subst h1 h2;exact⟨kG (h.obj _ _ _ hk).1 (by rw[he]) (by rw[he]) (by rw[he]),hE,z,by rw[Lg];exact hz⟩
  ·obtain⟨o1,_,o3⟩:=h.obj i n f hi;exact⟨o1,hL i n f h0 hi,o3⟩
 ·rcases VE hi with ⟨rfl,h1,_⟩|⟨h0,AB⟩ <;> rcases VE hj with ⟨rfl,h2,_⟩|⟨LS,Kf⟩
  ·exact absurd rfl ZR
  ·injection h1 with _ h1
   injection h1 with h1
   subst h1;exact(GN j n' f' LS Kf).symm
  ·injection h2 with _ h2
   injection h2 with h2
   subst h2;exact GN i n f h0 AB
  ·exact h.apart i j n n' f f' ZR AB Kf
 ·rw[← h.skeys,VN];simp
 ·rw[← h.mkeys,Vl];simp
 ·rcases VQ hx with rfl|rfl|hx
  ·exact hS
  ·exact hT
  ·exact ho x hx
 ·rcases VQ hx with rfl|rfl|LM
  ·exact vF j n f hj
  ·exact vH j n f hj
  ·rcases VE hj with ⟨rfl,h1,_⟩|⟨h0,Kf⟩
   ·injection h1 with _ h1
    injection h1 with h1
    subst h1;exact kR h.size.1 (ho x LM) hE (by rw[Lg];exact(C5 x LM).2.2.symm)
   ·exact h.free x (C5 x LM).1 j n f Kf
 ·rcases VQ hx with rfl|rfl|hx
  ·refine⟨hM.1.filter _,fun i=>?_⟩;show i∈M.filter (·≠k)↔∃ n f,(s.tab.set k ⟨g,some e'⟩)[i]? = some ⟨n,some f⟩∧f.region=r;rw[mem_filter,hM.2];constructor
   ·rintro⟨⟨n,f,h1,h2⟩,h3⟩;have h3:i≠k:=by simpa using h3
    exact⟨n,f,by rw[getElem?_set_ne (fun h=>h3 h.symm)];exact h1,h2⟩
   ·rintro⟨n,f,h1,h2⟩
    rcases VE h1 with ⟨rfl,h3,_⟩|⟨h0,h1⟩
    ·injection h3 with _ h3
     injection h3 with h3
     subst h3;exact absurd (Lg.symm.trans h2) QA
    ·exact⟨⟨n,f,h1,h2⟩,by simpa using h0⟩
  ·have ER:k∉N:=fun h1=>by
    obtain⟨n,f,h2,h3⟩:=(hN.2 k).1 h1;rw[hk] at h2;injection h2 with h2
    injection h2 with _ h2
    injection h2 with h2
    subst h2;exact QA (h3.symm.trans hr)
   refine⟨OH hN.1 ER,fun i=>?_⟩;show i∈Zc N k↔∃ n f,(s.tab.set k ⟨g,some e'⟩)[i]? = some ⟨n,some f⟩∧f.region=id;rw[OF,hN.2];constructor
   ·rintro(rfl|⟨n,f,h1,h2⟩)
    ·exact⟨g,e',getElem?_set_self VC,Lg⟩
    ·refine⟨n,f,?_,h2⟩;rw[getElem?_set_ne]
     ·exact h1
     ·intro h3;subst h3;exact ER ((hN.2 _).2 ⟨n,f,h1,h2⟩)
   ·rintro⟨n,f,h1,h2⟩
    rcases VE h1 with ⟨rfl,h3,_⟩|⟨h0,h1⟩
    ·exact .inl rfl
    ·exact .inr ⟨n,f,h1,h2⟩
  ·obtain⟨u1,u2,u3⟩:=aN x hx;obtain⟨v1,v2⟩:=h.mine x u1;refine⟨v1,fun i=>?_⟩;show i∈x.2.2↔∃ n f,(s.tab.set k ⟨g,some e'⟩)[i]? = some ⟨n,some f⟩∧f.region=x.1;rw[v2];constructor
   ·rintro⟨n,f,h1,h2⟩;refine⟨n,f,?_,h2⟩;rw[getElem?_set_ne]
    ·exact h1
    ·intro h3;subst h3;rw[hk] at h1;injection h1 with h1
     injection h1 with _ h1
     injection h1 with h1
     subst h1;exact u2 (h2.symm.trans hr)
   ·rintro⟨n,f,h1,h2⟩
    rcases VE h1 with ⟨rfl,h3,_⟩|⟨h0,h1⟩
    ·injection h3 with _ h3
     injection h3 with h3
     subst h3;exact absurd (h2.symm.trans Lg) u3
    ·exact⟨n,f,h1,h2⟩
theorem vJ {s:CS} (h:WF s) {k g:Nat} {e:Q9} (hk:s.tab[k]? = some ⟨g,some e⟩) {r id:Int} (hr:e.region=r) (QA:id≠r) (QN:(s.par.map (·.1)).Nodup)
  {p1 p2:List (Int×Nat×QP)} {b0 bs:Nat} {S T:QP} (VN:s.sps=p1++(r,b0,S)::(p2++[(id,bs,T)]))
  {m1 m2:List (Int×Nat×List Nat)} {c0 bm:Nat} {M N:List Nat} (Vl:s.mns=m1++(r,c0,M)::(m2++[(id,bm,N)])) {a:Nat}
  (hs:Bo s.size T a (e.ws.length+1)) (G2:∀ (j n:Nat) (f:Q9),j≠k→s.tab[j]? = some ⟨n,some f⟩→QT f≤a∨a+(e.ws.length+1)≤f.addr) :
  WF { s with tab:=s.tab.set k ⟨g,some { e with region:=id,addr:=a }⟩,mns:=m1++(r,c0,M.filter (·≠k))::(m2++[(id,bm,Zc N k)]) }:=by
 obtain⟨c,c1,c2,c3,c4⟩:=hs;have Bn:(id,bs,T)∈s.sps:=by rw[VN];simp
 have Yx:(r,b0,S)∈s.sps:=by rw[VN];simp
 have hT:=h.spc _ Bn;obtain⟨y,GH,Ka,Fv⟩:=(hT.owned c).1 (Bm c1 (Nat.le_refl _) (Nat.lt_succ_self _));have QJ:=(List.getElem?_eq_some_iff.1 GH).1;have VS:(c+1)*s.size≤s.own.length*s.size:=Nat.mul_le_mul_right _ QJ;have Vn:=h.size.1
 have hE:Un s.size s.own { e with region:=id,addr:=a }:=by
  refine⟨by show a+1+e.ws.length≤_;omega,fun d h1 h2=>?_⟩;have h1:a / s.size≤d:=h1;have h2:d≤(a+e.ws.length) / s.size:=h2;have e1:a / s.size=c:=Nat.div_eq_of_lt_le (by omega) (by omega);have e2:(a+e.ws.length) / s.size=c:=Nat.div_eq_of_lt_le (by omega) (by omega);obtain rfl:d=c:=by omega
  exact⟨y,GH,Ka,by omega⟩
 have hw:=kW (S':=S) (T':=T) (own':=s.own) (b0':=0) (bs':=0) h hk hr QA QN VN Vl (a:=a) rfl rfl hE (fun j n f _ hj=>(h.obj j n f hj).2.1) (fun j n f h0 hj=>by
   have:=G2 j n f h0 hj;show QT f≤a∨a+1+e.ws.length≤f.addr;omega) (h.spc _ Yx) hT (fun x hx=>h.spc x (by
   rw[VN]
   rcases mem_append.1 hx with hx|hx
   ·exact mem_append.2 (.inl hx)
   ·exact mem_append.2 (.inr (mem_cons_of_mem _ (mem_append.2 (.inl hx)))))) (fun j n f hj=>?_) (fun j n f hj=>?_) (fun _ _ h1 _ => .inr h1)
 ·rw[← VN] at hw;exact hw
 ·rcases VE hj with ⟨rfl,h1,_⟩|⟨h0,hj⟩
  ·injection h1 with _ h1
   injection h1 with h1
   subst h1;exact kR Vn (h.spc _ Yx) hE QA
  ·exact h.free _ Yx j n f hj
 ·rcases VE hj with ⟨rfl,h1,_⟩|⟨h0,hj⟩
  ·injection h1 with _ h1
   injection h1 with h1
   subst h1;show a+1+e.ws.length≤T.at'∨T.fin≤a;omega
  ·exact h.free _ Bn j n f hj
theorem kA {s s':CS} (h:WF s) {mem mem':List Nat} (m:YY s mem) {k g:Nat} {e:Q9} (hk:s.tab[k]? = some ⟨g,some e⟩) {id:Int} {a:Nat} (G2:∀ (j n:Nat) (f:Q9),j≠k→s.tab[j]? = some ⟨n,some f⟩→QT f≤a∨a+(e.ws.length+1)≤f.addr)
  (hl:mem'.length=mem.length) (VQ:∀ i,i < e.ws.length+1→mem'[a+i]? = mem[e.addr+i]?) (YB:∀ j,j < a∨a+(e.ws.length+1)≤j→mem'[j]? = mem[j]?)
  (h1:s'.own.length=s.own.length) (h2:s'.size=s.size) (h3:s'.tab=s.tab.set k ⟨g,some { e with region:=id,addr:=a }⟩):YY s' mem':=by
 refine⟨by rw[h1,h2,hl];exact m.len,fun i n f hi=>?_,fun i n f hi p w hp=>?_⟩
 ·rw[h3] at hi
  rcases VE hi with ⟨rfl,u1,_⟩|⟨h0,hi⟩
  ·injection u1 with _ u1
   injection u1 with u1
   subst u1;have:=VQ 0 (by omega);show mem'[a]? = _;rw[Nat.add_zero,Nat.add_zero] at this;rw[this];exact m.head _ _ _ hk
  ·rw[YB f.addr (by have:=G2 i n f h0 hi;unfold QT at this;omega)];exact m.head i n f hi
 ·rw[h3] at hi
  rcases VE hi with ⟨rfl,u1,_⟩|⟨h0,hi⟩
  ·injection u1 with _ u1
   injection u1 with u1
   subst u1;have hp:e.ws[p]? = some w:=hp;have Us:=(List.getElem?_eq_some_iff.1 hp).1;have:=VQ (1+p) (by omega);show mem'[a+1+p]? = _;rw[Nat.add_assoc,this,← Nat.add_assoc];exact m.words _ _ _ hk p w hp
  ·have Us:=(List.getElem?_eq_some_iff.1 hp).1;rw[YB (f.addr+1+p) (by have:=G2 i n f h0 hi;unfold QT at this;omega)];exact m.words i n f hi p w hp
theorem vM {s s':CS} (hP:Yc s) {k g:Nat} {e:Q9} {id:Int} {a:Nat} {bs:Nat} {T:QP} (hT:(id,bs,T)∈s'.sps) (hs:Bo s.size T a (e.ws.length+1)) (h1:s'.size=s.size) (h2:s'.tab=s.tab.set k ⟨g,some { e with region:=id,addr:=a }⟩) (h3:s'.sps=s.sps):Yc s':=by
 intro j n f hj;rw[h2] at hj
 rcases VE hj with ⟨rfl,u1,_⟩|⟨h0,hj⟩
 ·injection u1 with _ u1
  injection u1 with u1
  subst u1;obtain⟨c,c1,c2,c3,_⟩:=hs;refine⟨_,hT,rfl,(c,1),c1,.inl ⟨rfl,?_,?_⟩⟩
  ·rw[h1];exact c2
  ·rw[h1];show a+1+e.ws.length≤(c+1)*s.size;omega
 ·rw[h3,h1];exact hP j n f hj
theorem Lh {l:List (Nat×Nat)} {c:Nat}:c∈QR l↔∃ y∈l,y.1≤c∧c < y.1+y.2:=by
 unfold QR;rw[mem_flatMap];constructor
 ·rintro⟨y,h1,h2⟩;exact⟨y,h1,Xd.1 h2⟩
 ·rintro⟨y,h1,h2⟩;exact⟨y,h1,Xd.2 h2⟩
theorem Om {A B:List (Nat×Nat)} {x:Nat×Nat} (h:(QR (A++x::B)).Nodup):(QR (A++B)).Nodup∧∀ c,x.1≤c→c < x.1+x.2→c∉QR (A++B):=by
 have e1:QR (A++x::B)=QR A++((List.range x.2).map (x.1+·)++QR B):=by
  rw[Xc];rfl
 rw[e1,nodup_append] at h;obtain⟨h1,h2,h3⟩:=h;rw[nodup_append] at h2;obtain⟨h4,h5,h6⟩:=h2;rw[Xc];refine⟨nodup_append.2 ⟨h1,h5,fun a ha b hb=>h3 a ha b (mem_append.2 (.inr hb))⟩,fun c Zs UM hc=>?_⟩;have hr:c∈(List.range x.2).map (x.1+·):=Xd.2 ⟨Zs,UM⟩
 rcases mem_append.1 hc with hc|hc
 ·exact h3 c hc c (mem_append.2 (.inl hr)) rfl
 ·exact h6 c hr c hc rfl
theorem kB {α:Type} {l:List (Int×α)} (h:(l.map (·.1)).Nodup) {x y:Int×α} (hx:x∈l) (hy:y∈l) (he:x.1=y.1):x=y:=by
 obtain⟨a1,a2,h1⟩:=append_of_mem hx;obtain⟨_,h2⟩:=Kk (f:=fun z:Int×α=>z.1) h1 h;rw[h1] at hy
 rcases XQ hy with rfl|hy
 ·rfl
 ·exact absurd he.symm (h2 y hy).2
theorem XX.chunk {size:Nat} (hs:1≤size) {x:Nat×Nat} {e:Q9} (h:XX size x e) {d:Nat} (h1:e.addr / size≤d) (h2:d≤(e.addr+e.ws.length) / size):x.1≤d∧d < x.1+x.2:=by
 obtain⟨h3,h4⟩:=ro hs h;have h5:x.1≤e.addr / size:=(Nat.le_div_iff_mul_le (by omega)).2 h3;have h6:(e.addr+e.ws.length) / size < x.1+x.2:=(Nat.div_lt_iff_lt_mul (by omega)).2 (by unfold QT at h4;omega);omega
theorem aP {s:CS} (h:WF s) (hP:Yc s) (QN:(s.par.map (·.1)).Nodup) {k g:Nat} {e:Q9} (hk:s.tab[k]? = some ⟨g,some e⟩) {b0 c n:Nat} {S:QP} (Yx:(e.region,b0,S)∈s.sps) {A B:List (Nat×Nat)} (hp:S.parts=A++(c,n)::B) (hn:2≤n) (VQ:XX s.size (c,n) e)
  {j n':Nat} {f:Q9} (KB:j≠k) (hj:s.tab[j]? = some ⟨n',some f⟩) {d:Nat} (h1:f.addr / s.size≤d) (h2:d≤(f.addr+f.ws.length) / s.size):¬ (c≤d∧d < c+n):=by
 rintro⟨h3,h4⟩;have hS:=h.spc _ Yx;obtain⟨y,y1,y2,_⟩:=(hS.owned d).1 (Bm (x:=(c,n)) (by rw[hp];simp) h3 h4);obtain⟨z,z1,z2,_⟩:=(h.obj j n' f hj).2.1.2 d h1 h2;rw[y1] at z1;injection z1 with z1
 subst z1;obtain⟨x,x1,x2,w,w1,w2⟩:=hP j n' f hj;obtain rfl:x=(e.region,b0,S):=kB (by rw[h.skeys];exact QN) x1 Yx (by rw[x2,← z2,y2]);have w1:w∈S.parts:=w1;obtain⟨w3,w4⟩:=w2.chunk h.size.1 h1 h2;rw[hp] at w1
 rcases XQ w1 with rfl|w1
 ·rcases w2 with ⟨w5,_⟩|⟨_,w5,_⟩
  ·have w5:n=1:=w5;omega
  ·rcases VQ with ⟨w6,_⟩|⟨_,w6,_⟩
   ·have w6:n=1:=w6;omega
   ·rcases h.apart k j g n' e f (fun h=>KB h.symm) hk hj with w7|w7 <;> unfold QT at w7 <;> omega
 ·have Wf:=hS.nodup;have Wf:(QR S.parts).Nodup:=Wf;rw[hp] at Wf;exact(Om Wf).2 d h3 h4 (Bm w1 w3 w4)
theorem vN {s:CS} (h:WF s) (hP:Yc s) {k g:Nat} {e:Q9} (hk:s.tab[k]? = some ⟨g,some e⟩) {r:Int} {id:Nat} (hr:e.region=r) (QA:(id:Int)≠r) (QN:(s.par.map (·.1)).Nodup)
  {p1 p2:List (Int×Nat×QP)} {b0 bs:Nat} {S T:QP} (VN:s.sps=p1++(r,b0,S)::(p2++[((id:Int),bs,T)]))
  {m1 m2:List (Int×Nat×List Nat)} {c0 bm:Nat} {M N:List Nat} (Vl:s.mns=m1++(r,c0,M)::(m2++[((id:Int),bm,N)]))
  {A B:List (Nat×Nat)} {c n:Nat} (hp:S.parts=A++(c,n)::B) (hn:2≤n) (VQ:XX s.size (c,n) e) :
  WF { s with own:=Vc s.own c n id,tab:=s.tab.set k ⟨g,some { e with region:=id,addr:=e.addr }⟩,sps:=p1++(r,b0,{ S with parts:=A++B })::(p2++[((id:Int),bs,{ T with parts:=T.parts++[(c,n)] })]),mns:=m1++(r,c0,M.filter (·≠k))::(m2++[((id:Int),bm,Zc N k)]) }:=by
 have Bn:((id:Int),bs,T)∈s.sps:=by rw[VN];simp
 have Yx:(r,b0,S)∈s.sps:=by rw[VN];simp
 have hT:=h.spc _ Bn;have hS:=h.spc _ Yx;have RM:c+n≤s.own.length:=(hS.parts (c,n) (by show _∈S.parts;rw[hp];simp)).2;have RU:=fun i=>Ul (v:=id) RM i;have Vn:=h.size.1
 have On:1≤id:=by
  have:(id:Int)∈s.par.map (·.1):=by rw[← h.skeys,VN];simp
  obtain⟨⟨x,z⟩,h1,h2⟩:=mem_map.1 this;have h2:x=(id:Int):=h2;have:=(h.par.2.2 x z h1).1;omega
 have X0:∀ d,c≤d→d < c+n→∃ y:Nat,s.own[d]? = some y∧(y:Int)=r∧y≠0:=fun d h1 h2=>(hS.owned d).1 (Bm (x:=(c,n)) (by show _∈S.parts;rw[hp];simp) h1 h2);have vP:(QR (A++(c,n)::B)).Nodup:=by rw[← hp];exact hS.nodup
 obtain⟨K3,Gv⟩:=Om vP;have vT:=fun {j n':Nat} {f:Q9} (KB:j≠k) (hj:s.tab[j]? = some ⟨n',some f⟩) {d:Nat}=>aP h hP QN hk (S:=S) (b0:=b0) (by rw[hr];exact Yx) hp hn VQ KB hj (d:=d)
 have HD:∀ x∈s.sps,∀ (j n':Nat) (f:Q9),(s.tab.set k ⟨g,some { e with region:=(id:Int),addr:=e.addr }⟩)[j]? = some ⟨n',some f⟩→QT f≤x.2.2.at'∨x.2.2.fin≤f.addr:=by
  intro x hx j n' f hj
  rcases VE hj with ⟨rfl,h1,_⟩|⟨h0,hj⟩
  ·injection h1 with _ h1
   injection h1 with h1
   subst h1;exact(h.free x hx _ g e hk:QT e≤x.2.2.at'∨x.2.2.fin≤e.addr)
  ·exact h.free x hx j n' f hj
 refine kW (b0':=0) (bs':=0) h hk hr QA QN VN Vl (e':={ e with region:=(id:Int),addr:=e.addr }) rfl (Yi RM) ?_ (fun j n' f h0 hj=>?_) (fun j n' f h0 hj=>(h.apart j k n' g f e h0 hj hk:QT f≤e.addr∨QT e≤f.addr)) ⟨hS.at1,fun hf=>?_,fun y hy=>?_,K3,fun d=>?_⟩ ⟨hT.at1,fun hf=>?_,fun y hy=>?_,?_,fun d=>?_⟩ (fun x hx=>?_) (HD _ Yx) (HD _ Bn) (fun d x h1 h2=>?_)
 ·obtain⟨u1,u2⟩:=(h.obj _ _ _ hk).2.1;refine⟨by rw[Yi RM];exact u1,fun d h1 h2=>?_⟩;obtain⟨v1,v2⟩:=VQ.chunk Vn h1 h2;exact⟨id,by rw[RU,if_pos ⟨v1,v2⟩],rfl,On⟩
 ·obtain⟨u1,u2⟩:=(h.obj j n' f hj).2.1;refine⟨by rw[Yi RM];exact u1,fun d h1 h2=>?_⟩;rw[RU,if_neg (vT h0 hj h1 h2)];exact u2 d h1 h2
 ·obtain⟨d,d1,d2,d3⟩:=hS.fin hf;refine⟨d,d1,d2,?_⟩;have d3:(d,1)∈S.parts:=d3;rw[hp] at d3
  rcases XQ d3 with d3|d3
  ·injection d3 with _ d3
   omega
  ·exact d3
 ·rw[Yi RM];exact hS.parts y (by show y∈S.parts;rw[hp];exact Rt hy)
 ·show d∈QR (A++B)↔_;constructor
  ·intro hd
   have HJ:d∈QR S.parts:=by
    obtain⟨y,y1,y2⟩:=Lh.1 hd;rw[hp];exact Lh.2 ⟨y,Rt y1,y2⟩
   obtain⟨y,y1,y2,y3⟩:=(hS.owned d).1 HJ;refine⟨y,?_,y2,y3⟩;rw[RU,if_neg (fun h1=>Gv d h1.1 h1.2 hd)];exact y1
  ·rintro⟨y,y1,y2,y3⟩;rw[RU] at y1;split at y1
   ·injection y1 with y1
    subst y1;exact absurd y2 QA
   ·rename_i h1;have HJ:=(hS.owned d).2 ⟨y,y1,y2,y3⟩;have HJ:d∈QR S.parts:=HJ;rw[hp] at HJ;obtain⟨z,z1,z2⟩:=Lh.1 HJ
    rcases XQ z1 with rfl|z1
    ·exact absurd z2 h1
    ·exact Lh.2 ⟨z,z1,z2⟩
 ·obtain⟨d,d1,d2,d3⟩:=hT.fin hf;exact⟨d,d1,d2,mem_append.2 (.inl d3)⟩
 ·rw[Yi RM];have hy:y∈T.parts++[(c,n)]:=hy
  rcases mem_append.1 hy with hy|hy
  ·exact hT.parts y hy
  ·rw[mem_singleton] at hy;subst hy;exact⟨by show 1≤n;omega,RM⟩
 ·show (QR (T.parts++[(c,n)])).Nodup;rw[Xc,AU,nodup_append];refine⟨hT.nodup,Sx c n,fun x hx y hy Yy=>?_⟩;subst Yy;obtain⟨h1,h2⟩:=Xd.1 hy;obtain⟨y,y1,y2,_⟩:=X0 x h1 h2;obtain⟨z,z1,z2,_⟩:=(hT.owned x).1 hx;rw[y1] at z1;injection z1 with z1
  subst z1;exact QA (z2.symm.trans y2)
 ·show d∈QR (T.parts++[(c,n)])↔_;rw[Xc,AU,mem_append,Xd,RU];constructor
  ·rintro(h1|h1)
   ·obtain⟨y,y1,y2,y3⟩:=(hT.owned d).1 h1;refine⟨y,?_,y2,y3⟩;rw[if_neg]
    ·exact y1
    ·rintro⟨h2,h3⟩;obtain⟨z,z1,z2,_⟩:=X0 d h2 h3;rw[y1] at z1;injection z1 with z1
     subst z1;exact QA (y2.symm.trans z2)
   ·exact⟨id,by rw[if_pos h1],rfl,by omega⟩
  ·rintro⟨y,y1,y2,y3⟩;by_cases h1:c≤d∧d < c+n
   ·exact .inr h1
   ·rw[if_neg h1] at y1;exact .inl ((hT.owned d).2 ⟨y,y1,y2,y3⟩)
 ·have Nv:x∈s.sps:=by
   rw[VN]
   rcases mem_append.1 hx with hx|hx
   ·exact mem_append.2 (.inl hx)
   ·exact mem_append.2 (.inr (mem_cons_of_mem _ (mem_append.2 (.inl hx))))
  have WE:(s.sps.map fun y=>y.1).Nodup:=by rw[h.skeys];exact QN
  have Wg:x.1≠r:=by
   refine((Kk (f:=fun y:Int×Nat×QP=>y.1) VN WE).2 x ?_).2
   rcases mem_append.1 hx with hx|hx
   ·exact mem_append.2 (.inl hx)
   ·exact mem_append.2 (.inr (mem_append.2 (.inl hx)))
  have Xt:x.1≠(id:Int):=by
   have e1:s.sps=(p1++(r,b0,S)::p2)++((id:Int),bs,T)::[]:=by rw[VN];simp
   refine((Kk (f:=fun y:Int×Nat×QP=>y.1) e1 WE).2 x ?_).2;rw[append_nil];exact Rt hx
  obtain⟨a1,a2,a3,a4,a5⟩:=h.spc x Nv;refine⟨a1,a2,fun y hy=>by rw[Yi RM];exact a3 y hy,a4,fun d=>?_⟩;rw[a5,RU];by_cases h1:c≤d∧d < c+n
  ·rw[if_pos h1];obtain⟨y,y1,y2,y3⟩:=X0 d h1.1 h1.2;constructor
   ·rintro⟨z,z1,z2,z3⟩;rw[y1] at z1;injection z1 with z1
    subst z1;exact absurd (z2.symm.trans y2) Wg
   ·rintro⟨z,z1,z2,z3⟩;injection z1 with z1
    subst z1;exact absurd z2.symm Xt
  ·rw[if_neg h1]
 ·rw[RU] at h1;split at h1
  ·injection h1 with h1
   subst h1;exact .inl rfl
  ·exact .inr h1
theorem vc {s s':CS} (h:WF s) (hP:Yc s) {k g:Nat} {e:Q9} (hk:s.tab[k]? = some ⟨g,some e⟩) {r id:Int} (hr:e.region=r) (QN:(s.par.map (·.1)).Nodup)
  {p1 p2:List (Int×Nat×QP)} {b0 bs:Nat} {S T:QP} (VN:s.sps=p1++(r,b0,S)::(p2++[(id,bs,T)])) {A B:List (Nat×Nat)} {c n:Nat} (hp:S.parts=A++(c,n)::B) (hn:2≤n) (VQ:XX s.size (c,n) e)
  (h1:s'.size=s.size) (h2:s'.tab=s.tab.set k ⟨g,some { e with region:=id,addr:=e.addr }⟩) (h3:s'.sps=p1++(r,b0,{ S with parts:=A++B })::(p2++[(id,bs,{ T with parts:=T.parts++[(c,n)] })])):Yc s':=by
 have Yx:(r,b0,S)∈s.sps:=by rw[VN];simp
 intro j n' f hj;rw[h2] at hj;rw[h3,h1]
 rcases VE hj with ⟨rfl,u1,_⟩|⟨h0,hj⟩
 ·injection u1 with _ u1
  injection u1 with u1
  subst u1;exact⟨(id,bs,{ T with parts:=T.parts++[(c,n)] }),by simp,rfl,(c,n),mem_append.2 (.inr (by simp)),VQ.alike rfl rfl⟩
 ·obtain⟨x,x1,x2,y,y1,y2⟩:=hP j n' f hj;have x1':=x1;rw[VN] at x1
  rcases mem_append.1 x1 with x1|x1
  ·exact⟨x,mem_append.2 (.inl x1),x2,y,y1,y2⟩
  ·rcases mem_cons.1 x1 with rfl|x1
   ·refine⟨(r,b0,{ S with parts:=A++B }),by simp,x2,y,?_,y2⟩;have y1:y∈S.parts:=y1;rw[hp] at y1
    rcases XQ y1 with rfl|y1
    ·exfalso;have EY:f.addr / s.size≤f.addr / s.size:=Nat.le_refl _;have BZ:f.addr / s.size≤(f.addr+f.ws.length) / s.size:=Nat.div_le_div_right (by omega);exact aP h hP QN hk (S:=S) (b0:=b0) (by rw[hr];exact Yx) hp hn VQ h0 hj EY BZ (y2.chunk h.size.1 EY BZ)
    ·exact y1
   ·rcases mem_append.1 x1 with x1|x1
    ·exact⟨x,mem_append.2 (.inr (mem_cons_of_mem _ (mem_append.2 (.inl x1)))),x2,y,y1,y2⟩
    ·rw[mem_singleton] at x1;subst x1;exact⟨(id,bs,{ T with parts:=T.parts++[(c,n)] }),by simp,x2,y,mem_append.2 (.inl y1),y2⟩
structure Pl where
 k:Nat
 g:Nat
 e:Q9
 a:Nat
def Uv (S:QP) (size:Nat) (e:Q9):Bool:=S.parts.any fun x=>decide (1 < x.2∧x.1≤e.addr / size∧e.addr / size < x.1+x.2)
theorem vd {l:List (Nat×Nat)} (h:(QR l).Nodup) {x y:Nat×Nat} (hx:x∈l) (hy:y∈l) {c:Nat} (h1:x.1≤c) (h2:c < x.1+x.2) (h3:y.1≤c) (h4:c < y.1+y.2):x=y:=by
 obtain⟨A,B,rfl⟩:=append_of_mem hx
 rcases XQ hy with rfl|hy
 ·rfl
 ·exact absurd (Bm hy h3 h4) ((Om h).2 c h1 h2)
theorem kC {s:CS} (h:WF s) (QN:(s.par.map (·.1)).Nodup) (hP:Yc s) {k g:Nat} {e:Q9} (hk:s.tab[k]? = some ⟨g,some e⟩) {b0:Nat} {S:QP} (Yx:(e.region,b0,S)∈s.sps):∃ y∈S.parts,XX s.size y e:=by
 obtain⟨x,x1,x2,y,y1,y2⟩:=hP k g e hk;obtain rfl:x=(e.region,b0,S):=kB (by rw[h.skeys];exact QN) x1 Yx x2;exact⟨y,y1,y2⟩
theorem ve {s:CS} (h:WF s) (QN:(s.par.map (·.1)).Nodup) (hP:Yc s) {k g:Nat} {e:Q9} (hk:s.tab[k]? = some ⟨g,some e⟩) {b0:Nat} {S:QP} (Yx:(e.region,b0,S)∈s.sps) (hb:Uv S s.size e=false):e.ws.length+1≤s.size:=by
 obtain⟨y,y1,y2⟩:=kC h QN hP hk Yx
 rcases y2 with ⟨h1,h2,h3⟩|⟨h1,h2,h3⟩
 ·rw[Nat.add_mul] at h3;unfold QT at h3;omega
 ·exfalso;have hs:=h.size.1;have h4:e.addr / s.size=y.1:=by rw[h2];exact Nat.mul_div_cancel _ (by omega)
  have:Uv S s.size e=true:=any_eq_true.2 ⟨y,y1,decide_eq_true ⟨by omega,by omega,by omega⟩⟩;rw[hb] at this;cases this
theorem vg {s:CS} (h:WF s) (QN:(s.par.map (·.1)).Nodup) (hP:Yc s) {k g:Nat} {e:Q9} (hk:s.tab[k]? = some ⟨g,some e⟩) {b0:Nat} {S:QP} (Yx:(e.region,b0,S)∈s.sps) (hb:Uv S s.size e=true):∃ y∈S.parts,2≤y.2∧XX s.size y e:=by
 obtain⟨x,x1,x2⟩:=any_eq_true.1 hb;obtain⟨x3,x4,x5⟩:=of_decide_eq_true x2;obtain⟨y,y1,y2⟩:=kC h QN hP hk Yx;obtain⟨y3,y4⟩:=y2.chunk h.size.1 (Nat.le_refl _) (Nat.div_le_div_right (by omega));obtain rfl:=vd (h.spc _ Yx).nodup x1 y1 x4 x5 y3 y4;exact⟨x,x1,x3,y2⟩
structure Ze (s:CS) (r:Nat) (S:QP) (Z:List Pl) (mem own' mem':List Nat) (T:QP):Prop where
 parts:∀ p∈T.parts,p.2=1∧s.own[p.1]? = some 0
 nd:(QR T.parts).Nodup
 at1:T.at'≤T.fin
 fin:T.fin≠0→∃ c,T.fin=(c+1)*s.size∧c*s.size < T.at'∧(c,1)∈T.parts
 ol:own'.length=s.own.length
 og:∀ j,own'.getD j 0=if j∈QR T.parts then r else s.own.getD j 0
 ml:mem'.length=mem.length
 mg:∀ a x,s.own[a / s.size]? = some x→x≠0→mem'[a]? = mem[a]?
 few:T.parts.length≤Z.length
 sit:∀ z∈Z,(Uv S s.size z.e=true∧z.a=z.e.addr)∨(Uv S s.size z.e=false∧Bo s.size T z.a (z.e.ws.length+1))
 apart:Z.Pairwise fun x y=>Uv S s.size x.e=false→Uv S s.size y.e=false→x.a+(x.e.ws.length+1)≤y.a∨y.a+(y.e.ws.length+1)≤x.a
theorem Ze.start (s:CS) (r:Nat) (S:QP) (mem:List Nat):Ze s r S [] mem s.own mem ⟨[],0,0⟩:=
 ⟨fun p hp=>(by cases hp),by simp[QR],Nat.le_refl _,fun h=>absurd rfl h,rfl,fun j=>by rw[if_neg (by simp[QR])],rfl,fun _ _ _ _=>rfl,Nat.le_refl _,fun z hz=>(by cases hz),.nil⟩
theorem Ze.big {s:CS} {r:Nat} {S T:QP} {Z:List Pl} {mem own' mem':List Nat} (h:Ze s r S Z mem own' mem' T) {z:Pl} (hb:Uv S s.size z.e=true) (ha:z.a=z.e.addr):Ze s r S (Z++[z]) mem own' mem' T:=by
 refine⟨h.parts,h.nd,h.at1,h.fin,h.ol,h.og,h.ml,h.mg,by rw[length_append];have:=h.few;omega,fun y hy=>?_,?_⟩
 ·rcases mem_append.1 hy with hy|hy
  ·exact h.sit y hy
  ·rw[mem_singleton] at hy;subst hy;exact .inl ⟨hb,ha⟩
 ·rw[pairwise_append];refine⟨h.apart,by simp,fun x hx y hy h1 h2=>?_⟩;rw[mem_singleton] at hy;subst hy;rw[hb] at h2;cases h2
theorem Ze.small {s:CS} (hw:WF s) {r:Nat} (hr:1≤r) {S T T':QP} {Z:List Pl} {mem own' mem' own2 mem2:List Nat} (h:Ze s r S Z mem own' mem' T) (Zb:mem.length=s.own.length*s.size) {z:Pl} (hb:Uv S s.size z.e=false) (hn:z.e.ws.length+1≤s.size)
  (al:KT s.size own' mem' r T (z.e.ws.length+1) own2 mem2 T' z.a):Ze s r S (Z++[z]) mem own2 mem2 T':=by
 have Vn:=hw.size.1;obtain⟨zk,zg,e,a⟩:=z;have hb:Uv S s.size e=false:=hb;have hn:e.ws.length+1≤s.size:=hn;have al:KT s.size own' mem' r T (e.ws.length+1) own2 mem2 T' a:=al
 have fin2:∀ {U:QP},(∀ z∈Z,Uv S s.size z.e=false→Bo s.size U z.a (z.e.ws.length+1)∧(z.a+(z.e.ws.length+1)≤a∨a+(e.ws.length+1)≤z.a))→Bo s.size U a (e.ws.length+1) →
   (∀ z∈Z++[Pl.mk zk zg e a],(Uv S s.size z.e=true∧z.a=z.e.addr)∨(Uv S s.size z.e=false∧Bo s.size U z.a (z.e.ws.length+1))) ∧
   (Z++[Pl.mk zk zg e a]).Pairwise fun x y=>Uv S s.size x.e=false→Uv S s.size y.e=false→x.a+(x.e.ws.length+1)≤y.a∨y.a+(y.e.ws.length+1)≤x.a:=by
  intro U h1 h2;constructor
  ·intro y hy
   rcases mem_append.1 hy with hy|hy
   ·rcases h.sit y hy with h3|⟨h3,_⟩
    ·exact .inl h3
    ·exact .inr ⟨h3,(h1 y hy h3).1⟩
   ·rw[mem_singleton] at hy;subst hy;exact .inr ⟨hb,h2⟩
  ·rw[pairwise_append];refine⟨h.apart,by simp,fun x hx y hy h3 h4=>?_⟩;rw[mem_singleton] at hy;subst hy;exact(h1 x hx h3).2
 have Oo:∀ z∈Z,Uv S s.size z.e=false→Bo s.size T z.a (z.e.ws.length+1):=fun z hz h1=>by
  rcases h.sit z hz with ⟨h2,_⟩|⟨_,h2⟩
  ·rw[h1] at h2;cases h2
  ·exact h2
 cases al with
 | room Wt=>
  have vh:T.fin≠0:=by omega
  obtain⟨c,Zs,UM,R6⟩:=h.fin vh
  obtain⟨f1,f2⟩:=fin2 (U:={ T with at':=T.at'+(e.ws.length+1) }) (fun z hz h1=>by
   obtain⟨d,d1,d2,d3,d4⟩:=Oo z hz h1;refine⟨⟨d,d1,d2,d3,?_⟩,?_⟩
   ·show _≤T.at'+(e.ws.length+1)∨_
    rcases d4 with d4|d4
    ·left;omega
    ·exact .inr d4
   ·rcases d4 with d4|d4
    ·exact .inl d4
    ·right;omega) ⟨c,R6,by omega,by rw[← Zs];omega,.inl (Nat.le_refl _)⟩
  refine⟨h.parts,h.nd,by show T.at'+_≤T.fin;omega,fun _=>⟨c,Zs,by show c*s.size < T.at'+_;omega,R6⟩,h.ol,h.og,h.ml,h.mg,by rw[length_append];have:=h.few;show T.parts.length≤_;omega,f1,f2⟩
 | @one c hc hf HR=>
  have QJ:c < own'.length:=hc
  have aT:c∉QR T.parts:=fun h1=>by
   have h2:=h.og c;rw[if_pos h1,getD_eq_getElem?_getD,hf] at h2;have h2:(0:Nat)=r:=h2;omega
  have kD:s.own[c]? = some 0:=by
   have h2:=h.og c;rw[if_neg aT,getD_eq_getElem?_getD,hf,getD_eq_getElem?_getD,getElem?_eq_getElem (by rw[← h.ol];exact QJ)] at h2;rw[getElem?_eq_getElem (by rw[← h.ol];exact QJ)];have h2:(0:Nat)=s.own[c]'(by rw[← h.ol];exact QJ):=h2;rw[← h2]
  have Va:(c+1)*s.size=c*s.size+s.size:=Nat.succ_mul _ _;have VS:(c+1)*s.size≤s.own.length*s.size:=Nat.mul_le_mul_right _ (by rw[← h.ol];exact QJ)
  obtain⟨f1,f2⟩:=fin2 (U:=⟨T.parts++[(c,1)],c*s.size+(e.ws.length+1),(c+1)*s.size⟩) (fun z hz h1=>by
   obtain⟨d,d1,d2,d3,d4⟩:=Oo z hz h1;have vj:d≠c:=fun h2=>aT (h2▸Bm d1 (Nat.le_refl _) (Nat.lt_succ_self _))
   rcases Nat.lt_or_gt_of_ne vj with h2|h2
   ·have h3:(d+1)*s.size≤c*s.size:=Nat.mul_le_mul_right _ h2;exact⟨⟨d,mem_append.2 (.inl d1),d2,d3,.inl (by show _≤c*s.size+_;omega)⟩,.inl (by omega)⟩
   ·have h3:(c+1)*s.size≤d*s.size:=Nat.mul_le_mul_right _ h2;exact⟨⟨d,mem_append.2 (.inl d1),d2,d3,.inr (by show (c+1)*s.size≤_;omega)⟩,.inr (by omega)⟩) ⟨c,by simp,Nat.le_refl _,by omega,.inl (Nat.le_refl _)⟩
  refine⟨fun p hp=>?_,?_,by show c*s.size+_≤(c+1)*s.size;omega,fun _=>⟨c,rfl,by show c*s.size < c*s.size+_;omega,by simp⟩,by rw[Yi hc];exact h.ol,fun j=>?_,?_,fun i x h1 h2=>?_,by have:=h.few;simp only[length_append,length_cons,length_nil];omega,f1,f2⟩
  ·rcases mem_append.1 (show p∈T.parts++[(c,1)] from hp) with hp|hp
   ·exact h.parts p hp
   ·rw[mem_singleton] at hp;subst hp;exact⟨rfl,kD⟩
  ·show (QR (T.parts++[(c,1)])).Nodup;rw[Xc,AU,nodup_append];refine⟨h.nd,Sx c 1,fun x hx y hy Yy=>?_⟩;subst Yy;have:=Xd.1 hy;obtain rfl:x=c:=by omega
   exact aT hx
  ·show _=if j∈QR (T.parts++[(c,1)]) then r else _;rw[CO hc,h.og,Xc,AU];by_cases h1:c≤j∧j < c+1
   ·rw[if_pos h1,if_pos (mem_append.2 (.inr (Xd.2 h1)))]
   ·rw[if_neg h1];by_cases h2:j∈QR T.parts
    ·rw[if_pos h2,if_pos (mem_append.2 (.inl h2))]
    ·rw[if_neg h2,if_neg];intro h3
     rcases mem_append.1 h3 with h3|h3
     ·exact h2 h3
     ·exact h1 (Xd.1 h3)
  ·rw[Yi (by rw[h.ml,Zb,Nat.one_mul];omega)];exact h.ml
  ·rw[Ul (by rw[h.ml,Zb,Nat.one_mul];omega),if_neg]
   ·exact h.mg i x h1 h2
   ·rintro⟨h3,h4⟩;have:i / s.size=c:=Nat.div_eq_of_lt_le (by omega) (by omega);rw[this,kD] at h1;injection h1 with h1
    exact h2 h1.symm
 | @run c k hk hc hf K3 Gv=>
  exfalso;have:1*s.size≤(k - 1)*s.size:=Nat.mul_le_mul_right _ (by omega);omega
theorem vn {s:CS} (h:WF s) {r:Nat} {S T:QP} {Z:List Pl} {mem own' mem':List Nat} (hA:Ze s r S Z mem own' mem' T) (hl:s.par.length < 64) (Gc:s.last+1 < 1000000) {own2:List Nat} (VH:own2.length=own'.length) (hog:∀ j,own2.getD j 0=if j∈QR T.parts then s.last+1 else own'.getD j 0) (bs bm:Nat) :
  WF { s with own:=own2,last:=s.last+1,par:=s.par++[(((s.last+1:Nat):Int),(r:Int))],sps:=s.sps++[(((s.last+1:Nat):Int),bs,T)],mns:=s.mns++[(((s.last+1:Nat):Int),bm,[])] }:=by
 have Zt:∀ r x,(r,x)∈s.par→r≠((s.last+1:Nat):Int):=fun r x hx=>by
  have:=(h.par.2.2 r x hx).2;omega
 have Vn:=h.size.1
 have G2:∀ c,c∈QR T.parts→s.own[c]? = some 0:=fun c hc=>by
  obtain⟨y,y1,y2,y3⟩:=Lh.1 hc;obtain⟨y4,y5⟩:=hA.parts y y1;obtain rfl:c=y.1:=by omega
  exact y5
 have HL:∀ j,own2.getD j 0=if j∈QR T.parts then s.last+1 else s.own.getD j 0:=fun j=>by
  rw[hog,hA.og];split <;> rfl
 have Cx:own2.length=s.own.length:=VH.trans hA.ol
 have kE:∀ (d y:Nat),s.own[d]? = some y→y≠0→own2[d]? = some y:=fun d y h1 h2=>by
  have hd:=(List.getElem?_eq_some_iff.1 h1).1;have h3:=HL d;rw[if_neg (fun h4=>by rw[G2 d h4] at h1;injection h1 with h1;exact h2 h1.symm),getD_eq_getElem?_getD,getD_eq_getElem?_getD,h1,getElem?_eq_getElem (by omega)] at h3;rw[getElem?_eq_getElem (by omega)];exact congrArg some h3
 have Cy:∀ (d y:Nat),own2[d]? = some y→y≠0→(d∈QR T.parts∧y=s.last+1)∨s.own[d]? = some y:=fun d y h1 h2=>by
  have hd:=(List.getElem?_eq_some_iff.1 h1).1;have h3:=HL d;rw[getD_eq_getElem?_getD,h1] at h3;by_cases h4:d∈QR T.parts
  ·rw[if_pos h4] at h3;exact .inl ⟨h4,h3⟩
  ·rw[if_neg h4,getD_eq_getElem?_getD,getElem?_eq_getElem (by omega)] at h3;rw[getElem?_eq_getElem (by omega)];exact .inr (congrArg some h3.symm)
 refine⟨h.size,by show 1≤own2.length∧own2.length≤63;rw[Cx];exact h.own,h.slots,h.lays,h.gen,fun i g e hi=>?_,h.apart,⟨by show (s.par++[_]).length≤64;simp;omega,Gc,?_⟩,?_,?_,fun x hx=>?_,fun x hx i g e hi=>?_,fun c x hc h0=>?_,?_⟩
 ·obtain⟨a,⟨b1,b2⟩,y,hy⟩:=h.obj i g e hi;refine⟨a,⟨by show _≤own2.length*_;rw[Cx];exact b1,fun d d1 d2=>?_⟩,y,mem_append.2 (.inl hy)⟩;obtain⟨x,x1,x2,x3⟩:=b2 d d1 d2;exact⟨x,kE d x x1 (by omega),x2,x3⟩
 ·intro r x hx;have hx:(r,x)∈s.par++[_]:=hx;show 1≤r∧r≤((s.last+1:Nat):Int)
  rcases mem_append.1 hx with hx|hx
  ·have:=h.par.2.2 r x hx;omega
  ·simp at hx;omega
 ·have:=h.skeys;simp[this]
 ·have:=h.mkeys;simp[this]
 ·rcases mem_append.1 (show x∈s.sps++[_] from hx) with hx|hx
  ·obtain⟨a1,a2,a3,a4,a5⟩:=h.spc x hx;have aH:x.1∈s.par.map (·.1):=by rw[← h.skeys];exact mem_map.2 ⟨x,hx,rfl⟩
   obtain⟨⟨x',z⟩,z1,z2⟩:=mem_map.1 aH;have QA:x.1≠((s.last+1:Nat):Int):=by rw[← z2];exact Zt _ _ z1
   refine⟨a1,a2,fun y hy=>by rw[Cx];exact a3 y hy,a4,fun c=>?_⟩;rw[a5];constructor
   ·rintro⟨y,y1,y2,y3⟩;exact⟨y,kE c y y1 y3,y2,y3⟩
   ·rintro⟨y,y1,y2,y3⟩
    rcases Cy c y y1 y3 with ⟨_,h2⟩|h2
    ·exact absurd (by rw[← y2,h2]) QA
    ·exact⟨y,h2,y2,y3⟩
  ·rw[mem_singleton] at hx;subst hx;refine⟨hA.at1,hA.fin,fun y hy=>?_,hA.nd,fun c=>?_⟩
   ·obtain⟨y1,y2⟩:=hA.parts y hy;have:=(List.getElem?_eq_some_iff.1 y2).1;rw[Cx];omega
   ·constructor
    ·intro hc;have QJ:=(List.getElem?_eq_some_iff.1 (G2 c hc)).1;have h3:=HL c;have WB:c < own2.length:=by omega
     rw[if_pos hc,getD_eq_getElem?_getD,getElem?_eq_getElem WB] at h3;exact⟨s.last+1,by show own2[c]? = _;rw[getElem?_eq_getElem WB];exact congrArg some h3,rfl,by omega⟩
    ·rintro⟨y,y1,y2,y3⟩
     rcases Cy c y y1 y3 with ⟨h2,_⟩|h2
     ·exact h2
     ·obtain⟨z,hz⟩:=h.live c y h2 y3;exact absurd y2 (Zt _ _ hz)
 ·rcases mem_append.1 (show x∈s.sps++[_] from hx) with hx|hx
  ·exact h.free x hx i g e hi
  ·rw[mem_singleton] at hx;subst hx;show QT e≤T.at'∨T.fin≤e.addr;by_cases h0:T.fin=0
   ·right;omega
   obtain⟨c,c1,c2,c3⟩:=hA.fin h0
   rcases (h.obj i g e hi).2.1.chunk Vn c with (h1|h1)|⟨y,y1,_,y3⟩
   ·left;omega
   ·right;omega
   ·rw[(hA.parts _ c3).2] at y1;injection y1 with y1
    omega
 ·rcases Cy c x hc h0 with ⟨_,h1⟩|h1
  ·exact⟨(r:Int),mem_append.2 (.inr (by rw[h1];simp))⟩
  ·obtain⟨y,hy⟩:=h.live c x h1 h0;exact⟨y,mem_append.2 (.inl hy)⟩
 ·intro x hx
  rcases mem_append.1 (show x∈s.mns++[_] from hx) with hx|hx
  ·exact h.mine x hx
  ·rw[mem_singleton] at hx;subst hx;refine⟨by simp,fun i=>⟨fun hc=>by simp at hc,?_⟩⟩;rintro⟨g,e,h1,h2⟩;obtain⟨_,_,y,hy⟩:=h.obj _ _ _ h1;exact absurd h2 (Zt _ _ hy)
theorem kF {s s':CS} (h:WF s) {r:Nat} {S T:QP} {Z:List Pl} {mem own' mem':List Nat} (hA:Ze s r S Z mem own' mem' T) (m:YY s mem) (h1:s'.own.length=s.own.length) (h2:s'.size=s.size) (h3:s'.tab=s.tab):YY s' mem':=by
 have Vn:=h.size.1;refine⟨by rw[h1,h2,hA.ml];exact m.len,fun i g e hi=>?_,fun i g e hi p w hp=>?_⟩
 ·rw[h3] at hi;obtain⟨x,x1,_,x3⟩:=(h.obj i g e hi).2.1.2 (e.addr / s.size) (Nat.le_refl _) (Nat.div_le_div_right (by omega));rw[hA.mg _ x x1 (by omega)];exact m.head i g e hi
 ·rw[h3] at hi;have Us:=(List.getElem?_eq_some_iff.1 hp).1;obtain⟨x,x1,_,x3⟩:=(h.obj i g e hi).2.1.2 ((e.addr+1+p) / s.size) (Nat.div_le_div_right (by omega)) (Nat.div_le_div_right (by omega));rw[hA.mg _ x x1 (by omega)];exact m.words i g e hi p w hp
theorem Ze.beside {s:CS} (h:WF s) {r:Nat} {S T:QP} {Z:List Pl} {mem own' mem':List Nat} (hA:Ze s r S Z mem own' mem' T) {a n:Nat} (hs:Bo s.size T a n) {j g:Nat} {f:Q9} (hj:s.tab[j]? = some ⟨g,some f⟩):QT f≤a∨a+n≤f.addr:=by
 obtain⟨c,c1,c2,c3,_⟩:=hs
 rcases (h.obj j g f hj).2.1.chunk h.size.1 c with (h1|h1)|⟨y,y1,_,y3⟩
 ·left;omega
 ·right;omega
 ·rw[(hA.parts _ c1).2] at y1;injection y1 with y1
  omega
def Zy (id:Int) (Z:List Pl) (k:Nat) (e:Q9):Q9:=match Z.find? (fun z=>z.k == k) with
 | some z=>{ e with region:=id,addr:=z.a }
 | none=>e
theorem ae (id:Int) (Z:List Pl) (k:Nat) (e:Q9):(Zy id Z k e).lay=e.lay∧(Zy id Z k e).count=e.count∧(Zy id Z k e).ws=e.ws∧(Zy id Z k e).held=e.held∧(Zy id Z k e).pinned=e.pinned:=by
 unfold Zy;split <;> exact⟨rfl,rfl,rfl,rfl,rfl⟩
theorem ah {Z:List Pl} {k:Nat} (h:k∉Z.map Pl.k):Z.find? (fun z=>z.k == k)=none:=by
 rw[find?_eq_none];intro z hz h1;exact h (mem_map.2 ⟨z,hz,by simpa using h1⟩)
theorem HM {id:Int} {Z:List Pl} {k:Nat} (h:k∉Z.map Pl.k) (e:Q9):Zy id Z k e=e:=by
 unfold Zy;rw[ah h]
theorem vp {id:Int} {Z:List Pl} {z:Pl} {k:Nat} (h:k≠z.k) (e:Q9):Zy id (Z++[z]) k e=Zy id Z k e:=by
 unfold Zy;rw[find?_append,find?_cons_of_neg (by simpa using fun h1=>h h1.symm),find?_nil,Option.or_none]
theorem vu {id:Int} {Z:List Pl} {z:Pl} (h:z.k∉Z.map Pl.k) (e:Q9):Zy id (Z++[z]) z.k e={ e with region:=id,addr:=z.a }:=by
 unfold Zy;rw[find?_append,ah h,find?_cons_of_pos (by simp),Option.none_or]
theorem Li {id:Int} {Z:List Pl} (QN:(Z.map Pl.k).Nodup) {z:Pl} (hz:z∈Z) (e:Q9):Zy id Z z.k e={ e with region:=id,addr:=z.a }:=by
 obtain⟨A,B,rfl⟩:=append_of_mem hz;rw[map_append,map_cons,nodup_append] at QN;have h1:z.k∉A.map Pl.k:=fun h=>QN.2.2 _ h _ mem_cons_self rfl;unfold Zy;rw[find?_append,ah h1,find?_cons_of_pos (by simp),Option.none_or]
def vy (s:CS) (r:Int) (S T:QP) (z:Pl):Prop:=s.tab[z.k]? = some ⟨z.g,some z.e⟩∧z.e.region=r ∧
 ((z.a=z.e.addr∧∃ y∈S.parts,2≤y.2∧XX s.size y z.e)∨(z.a≠z.e.addr∧Bo s.size T z.a (z.e.ws.length+1)∧∀ (j n:Nat) (f:Q9),s.tab[j]? = some ⟨n,some f⟩→QT f≤z.a∨z.a+(z.e.ws.length+1)≤f.addr))
structure RN (s:CS) (r:Int) (id:Nat) (Zd Zp:List Pl) (s':CS) (S T:QP):Prop where
 size:s'.size=s.size
 own:s'.own.length=s.own.length
 lays:s'.lays=s.lays
 last:s'.last=s.last+1
 par:s'.par=s.par++[((id:Int),r)]
 rem:s'.rem=s.rem
 tabl:s'.tab.length=s.tab.length
 tab:∀ (k:Nat) (t:QW),s.tab[k]? = some t→s'.tab[k]? = some ⟨t.gen,t.ent.map (Zy id Zd k)⟩
 part:Yc s'
 pend:∀ z∈Zp,vy s' r S T z
 apart:Zp.Pairwise fun x y=>x.a≠x.e.addr→y.a≠y.e.addr→x.a+(x.e.ws.length+1)≤y.a∨y.a+(y.e.ws.length+1)≤x.a
 keys:((Zd++Zp).map Pl.k).Nodup
 zero:Zd++Zp=[]→s'.own=s.own
theorem kH {s s':CS} {id:Nat} {Zd:List Pl} (X5:s'.tab.length=s.tab.length) (ht:∀ (k:Nat) (t:QW),s.tab[k]? = some t→s'.tab[k]? = some ⟨t.gen,t.ent.map (Zy id Zd k)⟩) {z:Pl} (hz:s'.tab[z.k]? = some ⟨z.g,some z.e⟩) (hk:z.k∉Zd.map Pl.k)
  (k:Nat) (t:QW) (HN:s.tab[k]? = some t):(s'.tab.set z.k ⟨z.g,some { z.e with region:=(id:Int),addr:=z.a }⟩)[k]? = some ⟨t.gen,t.ent.map (Zy id (Zd++[z]) k)⟩:=by
 have h1:=ht k t HN;have VC:=(List.getElem?_eq_some_iff.1 h1).1;obtain⟨g0,e0⟩:=t;by_cases hkz:z.k=k
 ·subst hkz;rw[hz] at h1;injection h1 with h1
  injection h1 with h2 h3
  rw[getElem?_set_self VC,h2];cases e0 with
  | none=>cases h3
  | some e=>
   injection h3 with h3
   rw[HM hk] at h3;subst h3;show _=some (QW.mk g0 (some (Zy id (Zd++[z]) z.k z.e)));rw[vu hk]
 ·rw[getElem?_set_ne hkz,h1];cases e0 with
  | none=>rfl
  | some e=>
   show some (QW.mk g0 (some (Zy id Zd k e)))=some (QW.mk g0 (some (Zy id (Zd++[z]) k e)));rw[vp (fun h=>hkz h.symm)]
theorem RN.facts {s:CS} {r:Int} {id:Nat} {Zd Zp:List Pl} {z:Pl} {s':CS} {S T:QP} (h:RN s r id Zd (z::Zp) s' S T):z.k∉Zd.map Pl.k∧(∀ y∈Zp,y.k≠z.k)∧((Zd++[z]++Zp).map Pl.k).Nodup:=by
 have h1:=h.keys;refine⟨fun h2=>?_,fun y hy h2=>?_,by rw[append_assoc];exact h1⟩
 ·rw[map_append,nodup_append] at h1;exact h1.2.2 _ h2 z.k (by simp) rfl
 ·rw[map_append,nodup_append,map_cons,nodup_cons] at h1;exact h1.2.1.1 (h2▸mem_map.2 ⟨y,hy,rfl⟩)
theorem RN.shift {s:CS} {r:Int} {id:Nat} {Zd Zp:List Pl} {z:Pl} {s' s2:CS} {S T:QP} (h:RN s r id Zd (z::Zp) s' S T) (W0:z.a≠z.e.addr) {bs:Nat} (hT:((id:Int),bs,T)∈s'.sps)
  (h1:s2.size=s'.size) (h2:s2.own=s'.own) (h3:s2.lays=s'.lays) (h4:s2.last=s'.last) (h5:s2.par=s'.par) (h6:s2.rem=s'.rem) (h7:s2.tab=s'.tab.set z.k ⟨z.g,some { z.e with region:=(id:Int),addr:=z.a }⟩) (h8:s2.sps=s'.sps):RN s r id (Zd++[z]) Zp s2 S T:=by
 obtain⟨Xe,VP,Ce⟩:=h.facts;obtain⟨q1,q2,q3⟩:=h.pend z mem_cons_self
 rcases q3 with ⟨q3,_⟩|⟨_,q4,q5⟩
 ·exact absurd q3 W0
 have GN:=h.apart;rw[pairwise_cons] at GN;refine⟨h1.trans h.size,by rw[h2];exact h.own,h3.trans h.lays,h4.trans h.last,h5.trans h.par,h6.trans h.rem,by rw[h7,length_set];exact h.tabl,fun k t hk=>by rw[h7];exact kH h.tabl h.tab q1 Xe k t hk,vM h.part (bs:=bs) (T:=T) (by rw[h8];exact hT) q4 h1 h7 h8,fun y hy=>?_,GN.2,Ce,fun h0=>by simp at h0⟩;obtain⟨y1,y2,y3⟩:=h.pend y (mem_cons_of_mem _ hy);refine⟨by rw[h7,getElem?_set_ne (fun h=>VP y hy h.symm)];exact y1,y2,?_⟩;rw[h1]
 rcases y3 with y3|⟨y3,y4,y5⟩
 ·exact .inl y3
 ·refine .inr ⟨y3,y4,fun j n f hj=>?_⟩;rw[h7] at hj
  rcases VE hj with ⟨rfl,u1,_⟩|⟨h0,hj⟩
  ·injection u1 with _ u1
   injection u1 with u1
   subst u1;have:=GN.1 y hy W0 y3;show z.a+1+z.e.ws.length≤y.a∨_≤z.a;omega
  ·exact y5 j n f hj
theorem RN.hand {s:CS} {r:Int} {id:Nat} {Zd Zp:List Pl} {z:Pl} {s' s2:CS} {S T:QP} (h:RN s r id Zd (z::Zp) s' S T) (hw:WF s') (QN:(s'.par.map (·.1)).Nodup) (W0:z.a=z.e.addr)
  {p1 p2:List (Int×Nat×QP)} {b0 bs:Nat} (VN:s'.sps=p1++(r,b0,S)::(p2++[((id:Int),bs,T)])) {A B:List (Nat×Nat)} {c n:Nat} (hp:S.parts=A++(c,n)::B) (hn:2≤n) (VQ:XX s'.size (c,n) z.e)
  (h1:s2.size=s'.size) (h2:s2.own.length=s'.own.length) (h3:s2.lays=s'.lays) (h4:s2.last=s'.last) (h5:s2.par=s'.par) (h6:s2.rem=s'.rem) (h7:s2.tab=s'.tab.set z.k ⟨z.g,some { z.e with region:=(id:Int),addr:=z.e.addr }⟩)
  (h8:s2.sps=p1++(r,b0,{ S with parts:=A++B })::(p2++[((id:Int),bs,{ T with parts:=T.parts++[(c,n)] })])):RN s r id (Zd++[z]) Zp s2 { S with parts:=A++B } { T with parts:=T.parts++[(c,n)] }:=by
 obtain⟨Xe,VP,Ce⟩:=h.facts;obtain⟨q1,q2,q3⟩:=h.pend z mem_cons_self;have GN:=h.apart;rw[pairwise_cons] at GN;have Yx:(r,b0,S)∈s'.sps:=by rw[VN];simp
 refine⟨h1.trans h.size,by rw[h2];exact h.own,h3.trans h.lays,h4.trans h.last,h5.trans h.par,h6.trans h.rem,by rw[h7,length_set];exact h.tabl,fun k t hk=>by rw[h7,← W0];exact kH h.tabl h.tab q1 Xe k t hk,vc hw h.part q1 q2 QN VN hp hn VQ h1 h7 h8,fun y hy=>?_,GN.2,Ce,fun h0=>by simp at h0⟩;obtain⟨y1,y2,y3⟩:=h.pend y (mem_cons_of_mem _ hy);refine⟨by rw[h7,getElem?_set_ne (fun h=>VP y hy h.symm)];exact y1,y2,?_⟩;rw[h1]
 rcases y3 with ⟨y3,x,x1,x2,x3⟩|⟨y3,⟨d,d1,d2,d3,d4⟩,y5⟩
 ·refine .inl ⟨y3,x,?_,x2,x3⟩;rw[hp] at x1
  rcases XQ x1 with rfl|x1
  ·exfalso;have EY:y.e.addr / s'.size≤y.e.addr / s'.size:=Nat.le_refl _;have BZ:y.e.addr / s'.size≤(y.e.addr+y.e.ws.length) / s'.size:=Nat.div_le_div_right (by omega);exact aP hw h.part QN q1 (S:=S) (b0:=b0) (by rw[q2];exact Yx) hp hn VQ (VP y hy) y1 EY BZ (x3.chunk hw.size.1 EY BZ)
  ·exact x1
 ·refine .inr ⟨y3,⟨d,mem_append.2 (.inl d1),d2,d3,d4⟩,fun j m f hj=>?_⟩;rw[h7] at hj
  rcases VE hj with ⟨rfl,u1,_⟩|⟨h0,hj⟩
  ·injection u1 with _ u1
   injection u1 with u1
   subst u1;exact(y5 z.k z.g z.e q1:QT z.e≤y.a∨y.a+(y.e.ws.length+1)≤z.e.addr)
  ·exact y5 j m f hj
theorem vz {s:CS} {r:Nat} {S T:QP} {Z:List Pl} {mem own' mem' own2:List Nat} {n:Nat} (hA:Ze s r S Z mem own' mem' T) (hl:own2.length=own'.length) (hg:∀ j,own2.getD j 0=if j∈QR T.parts then n else own'.getD j 0) (hZ:Z=[]):own2=s.own:=by
 have h1:=hA.few;rw[hZ] at h1;have h2:T.parts=[]:=eq_nil_of_length_eq_zero (Nat.le_zero.1 h1);have h3:∀ j,j∉QR T.parts:=fun j h=>by rw[h2] at h;simp[QR] at h
 have h4:own2.length=s.own.length:=hl.trans hA.ol;refine ext_getElem h4 fun j j1 j2=>?_;have h5:=hg j;rw[if_neg (h3 j),hA.og,if_neg (h3 j),getD_eq_getElem?_getD,getD_eq_getElem?_getD,getElem?_eq_getElem j1,getElem?_eq_getElem j2] at h5;exact h5
theorem w9 {s:CS} (hw:WF s) (QN:(s.par.map (·.1)).Nodup) (hP:Yc s) {r:Nat} {b0:Nat} {S T:QP} (Yx:((r:Int),b0,S)∈s.sps) {Z:List Pl} {mem own' mem':List Nat} (hA:Ze s r S Z mem own' mem' T)
  (AO:∀ z∈Z,s.tab[z.k]? = some ⟨z.g,some z.e⟩∧z.e.region=(r:Int)) (Oq:(Z.map Pl.k).Nodup) {own2:List Nat} (VH:own2.length=s.own.length) (Ub:Z=[]→own2=s.own) (bs bm:Nat) :
  RN s r (s.last+1) [] Z { s with own:=own2,last:=s.last+1,par:=s.par++[(((s.last+1:Nat):Int),(r:Int))],sps:=s.sps++[(((s.last+1:Nat):Int),bs,T)],mns:=s.mns++[(((s.last+1:Nat):Int),bm,[])] } S T:=by
 have Zi:∀ z∈Z,z.a≠z.e.addr→Uv S s.size z.e=false:=fun z hz h1=>by
  rcases hA.sit z hz with ⟨_,h2⟩|⟨h2,_⟩
  ·exact absurd h2 h1
  ·exact h2
 refine⟨rfl,VH,rfl,rfl,rfl,rfl,rfl,fun k t hk=>?_,fun k g e hk=>?_,fun z hz=>?_,?_,Oq,Ub⟩
 ·show s.tab[k]? = _;rw[hk];obtain⟨g,e⟩:=t;cases e <;> rfl
 ·obtain⟨x,x1,x2,x3⟩:=hP k g e hk;exact⟨x,mem_append.2 (.inl x1),x2,x3⟩
 ·obtain⟨h1,h2⟩:=AO z hz;have wQ:(z.e.region,b0,S)∈s.sps:=by rw[h2];exact Yx
  refine⟨h1,h2,?_⟩
  rcases hA.sit z hz with ⟨h3,h4⟩|⟨h3,h4⟩
  ·exact .inl ⟨h4,vg hw QN hP h1 wQ h3⟩
  ·refine .inr ⟨fun h5=>?_,h4,fun j n f hj=>hA.beside hw h4 hj⟩;have:=hA.beside hw h4 h1;unfold QT at this;omega
 ·exact hA.apart.imp_of_mem fun hx hy h1 h2 h3=>h1 (Zi _ hx h2) (Zi _ hy h3)
structure Wj (s:CS) (r:Int) (Z:List Pl) (s':CS):Prop where
 size:s'.size=s.size
 own:s'.own.length=s.own.length
 lays:s'.lays=s.lays
 last:s'.last=s.last+1
 par:s'.par=s.par++[(((s.last+1:Nat):Int),r)]
 tabl:s'.tab.length=s.tab.length
 tab:∀ (k:Nat) (t:QW),s.tab[k]? = some t→s'.tab[k]? = some ⟨t.gen,t.ent.map (Zy ((s.last+1:Nat):Int) Z k)⟩
 ents:∀ z∈Z,s.tab[z.k]? = some ⟨z.g,some z.e⟩∧z.e.region=r
 keys:(Z.map Pl.k).Nodup
 rem:∃ D,kV s' (fun k=>∃ g e,s'.tab[k]? = some ⟨g,some e⟩∧(e.region=r∨e.region=((s.last+1:Nat):Int))) D∧U6 s' s.rem D s'.rem
 part:Yc s'
 zero:Z=[]→s'.own=s.own
theorem Wj.mv {s s':CS} {r:Int} {Z:List Pl} (h:Wj s r Z s'):RL s s' (Zy ((s.last+1:Nat):Int) Z):=⟨h.lays,h.tabl,h.tab,fun k e=>ae _ Z k e⟩
theorem kI {s s':CS} (hw:WF s) {r:Int} (hr:r≤s.last) {Z:List Pl} (h:Wj s r Z s') (hI:Inv s):Inv s':=by
 obtain⟨D,hD,hN⟩:=h.rem;refine kZ h.mv hI hN fun k g p a b e f Ol hk hp KX ha=>?_;have VK:∀ P:Prop,((Zy ((s.last+1:Nat):Int) Z k e).region=r∨(Zy ((s.last+1:Nat):Int) Z k e).region=((s.last+1:Nat):Int))→P:=fun P h1=>absurd ((hD _).2 ⟨k,g,_,⟨g,_,h.mv.at hk,h1⟩,h.mv.at hk,kY.2 ⟨p,rfl,by rw[(ae _ Z k e).2.2.1];exact hp,by rw[h.mv.lay k e];exact KX⟩⟩) Ol
 have Oj:k∉Z.map Pl.k:=fun h1=>by
  obtain⟨z,z1,z2⟩:=mem_map.1 h1;subst z2;exact VK _ (.inr (by rw[Li h.keys z1]))
 rw[HM Oj] at VK;rw[HM Oj];have HP:e.region≠r:=fun h1=>VK _ (.inl h1)
 have kJ:e.region≤s.last:=by
  obtain⟨_,_,q,hq⟩:=hw.obj k g e hk;exact(hw.par.2.2 _ _ hq).2
 by_cases haZ:a∈Z.map Pl.k
 ·obtain⟨z,z1,z2⟩:=mem_map.1 haZ;subst z2;obtain⟨z3,z4⟩:=h.ents z z1;rw[ha] at z3;injection z3 with z3
  injection z3 with _ z3
  injection z3 with z3
  rw[Li h.keys z1,z3,z4]
  exact⟨fun _ h1=>HP h1.symm,fun _ h1=>by
   have h1:((s.last+1:Nat):Int)=e.region:=h1;omega⟩
 ·rw[HM haZ]
def EW (P:List Int):Prop:=∀ (i:Nat) (q:Int),1≤i→P[i]? = some q→q < i
def Cz (P:List Int) (id:Int):Nat→Int→Bool
 | 0,_=>false
 | n+1,i=>if 0 < i then (if i=id then true else Cz P id n (P.getD i.toNat 0)) else false
def Uw (P:List Int) (id i:Int):Bool:=Cz P id i.toNat i
theorem Lj (P:List Int) (id:Int) (n:Nat) {i:Int} (h:i≤0):Cz P id n i=false:=by
 cases n with
 | zero=>rfl
 | succ n=>unfold Cz;rw[if_neg (by omega)]
theorem aj {P:List Int} (h:EW P) (id:Int):∀ (n:Nat) (i:Int),i≤n→i < P.length→Cz P id n i=Uw P id i
 | 0,i,h1,_=>by
  unfold Uw;rw[Lj P id _ (by omega),Lj P id _ (by omega)]
 | n+1,i,h1,h2=>by
  by_cases h0:0 < i
  ·obtain⟨k,rfl⟩:∃ k:Nat,i=(k+1:Nat):=⟨i.toNat - 1,by omega⟩;have hk:k+1 < P.length:=by omega
   have hg:P.getD (k+1) 0 < ((k+1:Nat):Int):=h (k+1) _ (by omega) (by rw[getD_eq_getElem?_getD,getElem?_eq_getElem hk];rfl);unfold Uw;rw[Int.toNat_natCast];unfold Cz;rw[if_pos h0,if_pos h0,Int.toNat_natCast];by_cases h3:((k+1:Nat):Int)=id
   ·rw[if_pos h3,if_pos h3]
   ·rw[if_neg h3,if_neg h3,aj h id n _ (by omega) (by omega),aj h id k _ (by omega) (by omega)]
  ·unfold Uw;rw[Lj P id _ (by omega),Lj P id _ (by omega)]
theorem kL {P:List Int} (h:EW P) {id i:Int} (h0:0 < i) (hl:i < P.length):Uw P id i=if i=id then true else Uw P id (P.getD i.toNat 0):=by
 obtain⟨k,rfl⟩:∃ k:Nat,i=(k+1:Nat):=⟨i.toNat - 1,by omega⟩;have hk:k+1 < P.length:=by omega
 have hg:P.getD (k+1) 0 < ((k+1:Nat):Int):=h (k+1) _ (by omega) (by rw[getD_eq_getElem?_getD,getElem?_eq_getElem hk];rfl);rw[Int.toNat_natCast];show Cz P id (((k+1:Nat):Int).toNat) _=_;rw[Int.toNat_natCast];show (if (0:Int) < ((k+1:Nat):Int) then (if ((k+1:Nat):Int)=id then true else Cz P id k (P.getD ((k+1:Nat):Int).toNat 0)) else false)=_;rw[if_pos h0,Int.toNat_natCast];by_cases h3:((k+1:Nat):Int)=id
 ·rw[if_pos h3,if_pos h3]
 ·rw[if_neg h3,if_neg h3,aj h id k _ (by omega) (by omega)]
theorem kM (P:List Int) (id:Int) {i:Int} (h:i≤0):Uw P id i=false:=Lj P id _ h
def D0 (P:List Int) (id:Int) (k:Nat):List Nat:=(List.range k).filter fun i=>decide (1≤i∧0≤P.getD i 0) && Uw P id i
def Ux (P:List Int) (id:Int):List Nat:=D0 P id P.length
theorem wV (P:List Int) (id:Int) (k:Nat) (hk:1≤k):D0 P id (k+1)=D0 P id k++if 0≤P.getD k 0∧Uw P id k=true then [k] else []:=by
 unfold D0;rw[range_succ,filter_append];congr 1;by_cases h1:0≤P.getD k 0
 ·by_cases h2:Uw P id k=true
  ·rw[if_pos ⟨h1,h2⟩,filter_cons,if_pos (by rw[h2,decide_eq_true ⟨hk,h1⟩];rfl),filter_nil]
  ·rw[if_neg (fun h=>h2 h.2),filter_cons,if_neg (by simpa using fun _ _=>h2),filter_nil]
 ·rw[if_neg (fun h=>h1 h.1),filter_cons,if_neg (by rw[decide_eq_false (fun h=>h1 h.2)];simp),filter_nil]
theorem kN {P:List Int} {id:Int} {k i:Nat}:i∈D0 P id k↔i < k∧(1≤i∧0≤P.getD i 0)∧Uw P id i=true:=by
 unfold D0;rw[mem_filter,mem_range,Bool.and_eq_true,decide_eq_true_eq]
theorem am (P:List Int) (id:Int) (k:Nat):(D0 P id k).length≤k:=by
 have:=length_filter_le (fun i=>decide (1≤i∧0≤P.getD i 0) && Uw P id (i:Nat)) (List.range k);rw[length_range] at this;exact this
def Ye (P:List Int) (L:List Nat):List Int:=P.mapIdx fun k q=>if k∈L then -1 else q
theorem wY (P:List Int):Ye P []=P:=by
 unfold Ye;apply ext_getElem?;intro i;rw[getElem?_mapIdx];cases P[i]? <;> simp
theorem ap (P:List Int) (L:List Nat):(Ye P L).length=P.length:=length_mapIdx
theorem wZ (P:List Int) (L:List Nat) (k:Nat):(Ye P L).set k (-1)=Ye P (L++[k]):=by
 apply ext_getElem?;intro i;rw[getElem?_set];unfold Ye;rw[getElem?_mapIdx,getElem?_mapIdx,length_mapIdx];by_cases h:k=i
 ·subst h;rw[if_pos rfl];by_cases hl:k < P.length
  ·rw[if_pos hl,getElem?_eq_getElem hl];simp
  ·rw[if_neg hl,getElem?_eq_none (by omega)];rfl
 ·rw[if_neg h];cases P[i]? with
  | none=>rfl
  | some q=>
   have h2:i∈L++[k]↔i∈L:=by
    rw[mem_append,mem_singleton];exact⟨fun h4=>h4.elim id fun h5=>absurd h5.symm h,.inl⟩
   simp only[Option.map_some,h2]
def GU (P:List Int) (id q:Nat):List Int:=P.mapIdx fun k x=>if k=id then -1 else if 1≤k∧x=(id:Int) then (q:Int) else x
def Kl (P:List Int) (id q n:Nat):List Int:=P.mapIdx fun k x=>if (1≤k∧k < n)∧x=(id:Int) then (q:Int) else x
theorem HS (P:List Int) (id q n:Nat):(Kl P id q n).length=P.length:=length_mapIdx
theorem EA (P:List Int) (id q n k:Nat):(Kl P id q n)[k]? = (P[k]?).map fun x=>if (1≤k∧k < n)∧x=(id:Int) then (q:Int) else x:=getElem?_mapIdx
theorem wG {P:List Int} {id q:Nat}:Kl P id q 1=P:=by
 apply ext_getElem?;intro i;rw[EA];cases hi:P[i]? with
 | none=>rfl
 | some x=>
  simp only[Option.map_some];rw[if_neg];rintro⟨h1,h2⟩;omega
theorem wU {P:List Int} {id q n:Nat} (hn:1≤n) (h:P[n]? = some (id:Int)):(Kl P id q n).set n (q:Int)=Kl P id q (n+1):=by
 apply ext_getElem?;intro i;rw[getElem?_set,EA,EA,HS];have hl:=(List.getElem?_eq_some_iff.1 h).1;by_cases hi:n=i
 ·subst hi;rw[if_pos rfl,if_pos hl,h];simp only[Option.map_some];rw[if_pos ⟨⟨hn,by omega⟩,trivial⟩]
 ·rw[if_neg hi];cases P[i]? with
  | none=>rfl
  | some x=>
   simp only[Option.map_some];have:(1≤i∧i < n+1)↔(1≤i∧i < n):=by omega
   simp only[this]
theorem wX {P:List Int} {id q n:Nat} {x:Int} (h:P[n]? = some x) (hx:x≠(id:Int)):Kl P id q n=Kl P id q (n+1):=by
 apply ext_getElem?;intro i;rw[EA,EA];cases hP:P[i]? with
 | none=>rfl
 | some y=>
  simp only[Option.map_some];by_cases hi:i=n
  ·subst hi;rw[h] at hP;injection hP with hP
   subst hP;rw[if_neg (fun h=>hx h.2),if_neg (fun h=>hx h.2)]
  ·have:i < n+1↔i < n:=by omega
   simp only[this]
theorem wK (P:List Int) (id q:Nat):(Kl P id q P.length).set id (-1)=GU P id q:=by
 apply ext_getElem?;intro i;unfold GU;rw[getElem?_set,EA,HS,getElem?_mapIdx];by_cases hi:id=i
 ·subst hi;rw[if_pos rfl];by_cases hl:id < P.length
  ·rw[if_pos hl,getElem?_eq_getElem hl];simp
  ·rw[if_neg hl,getElem?_eq_none (by omega)];rfl
 ·rw[if_neg hi];cases hP:P[i]? with
  | none=>rfl
  | some y=>
   have hl:=(List.getElem?_eq_some_iff.1 hP).1;simp only[Option.map_some];rw[if_neg (fun h:i=id=>hi h.symm)];by_cases hy:1≤i∧y=(id:Int)
   ·rw[if_pos ⟨⟨hy.1,hl⟩,hy.2⟩,if_pos hy]
   ·rw[if_neg (fun h=>hy ⟨h.1.1,h.2⟩),if_neg hy]
theorem ax {l:List Int} {spare:List Value} {i:Nat} {x:Int} (h:i < l.length):(Qm l++spare).set (0+i*1) (.int .i64 x)=Qm (l.set i x)++spare:=by
 rw[Nat.zero_add,Nat.mul_one,set_append_left _ _ (by simpa [Qm] using h)];simp[Qm,map_set]
theorem wR [Q4] (p:Nat) (P:List Int) (hO:EW P) (i id:Int) (hi:i < P.length) {w:World} {fr:List Q2} (H:Q0 w (Vi p P::fr)) :
  Calls Tryz.prog 256 #[pp p,.int .i64 i,.int .i64 id] w (ret fun v w'=>v = .bool (Uw P id i)∧Q0 w' (Vi p P::fr)):=by
 refine QQ Tryz.func256 rfl (by kernel_rfl) ?_;refine F4 H ?_;refine Qp (fun ms σ w n=>ms=[]∧∃ i':Int,i' < P.length∧Uw P id i'=Uw P id i∧n=i'.toNat∧σ 0=pp p∧σ 1 = .int .i64 i'∧σ 2 = .int .i64 id∧Q0 w (Vi p P::fr)) (m:=i.toNat) ⟨rfl,i,hi,rfl,rfl,rfl,rfl,rfl,H⟩ ?_;rintro ms σ w n ⟨rfl,i',Ue,hb,rfl,g0,g1,g2,H⟩;rw[Q1 g0,Q1 g1,Q1 g2];refine IJ H ?_;refine Qk rfl (fun h=>QE ?_) (fun h=>Qu ?_)
 ·have h:0 < i':=h;rw[kL hO h Ue] at hb;obtain⟨k,rfl⟩:∃ k:Nat,i'=k:=⟨i'.toNat,by omega⟩;rw[Int.toNat_natCast] at hb;refine Uh H ?_;refine Vj H ?_;by_cases he:(k:Int)=id
  ·rw[show ((k:Int) == id)=true by rw[he];exact beq_self_eq_true id];refine ZB H ?_;rw[if_pos he] at hb;rw[← hb];exact Q3 (Jy H rfl fun w' H'=>⟨rfl,H'⟩)
  ·rw[show ((k:Int) == id)=false by rw[beq_eq_false_iff_ne];exact he];refine Vk H ?_;rw[if_neg he] at hb;have VC:k < P.length:=by omega
   have hg:P.getD k 0 < (k:Int):=hO k _ (by omega) (by rw[getD_eq_getElem?_getD,getElem?_eq_getElem VC];rfl);obtain⟨a,c,H⟩:=AA H;obtain⟨b,s,rfl,H,QU⟩:=VY H.swap (by omega);have hc:=Dv (P:=P) (s:=s) (i:=k) VC;refine Vb H ?_;refine Jd ?_;refine Q5 rfl (QC H rfl hc rfl ?_);refine J0 H ?_;replace H:=Up (QU _ _ H).swap;exact⟨_,⟨rfl,P.getD k 0,by omega,hb,rfl,rfl,rfl,rfl,H⟩,by rw[Int.toNat_natCast];omega⟩
 ·have h:¬ 0 < i':=h;rw[kM _ _ (by omega)] at hb;rw[← hb];refine Vg H ?_;exact Q3 (Jy H rfl fun w' H'=>⟨rfl,H'⟩)
theorem wW [Q4] (p:Nat) (P:List Int) (hO:EW P) (id:Int) (h1:1≤P.length) (hl:P.length≤1000000) {w:World} {fr:List Q2} (H:Q0 w (Vi p P::fr)) :
  Calls Tryz.prog 236 #[pp p,.int .i64 id] w (ret fun v w'=>Q0 w' (NL v (Ux P id)::Vi p P::fr)):=by
 refine QQ Tryz.func236 rfl (by kernel_rfl) ?_;refine Ie H ?_;refine Qp (fun ms σ w n=>ms=[]∧∃ (i:Nat) (g:Value),1≤i∧i≤P.length∧n=P.length - i∧σ 0=pp p∧σ 1 = .int .i64 id∧σ 5=g∧σ 6 = .int .i64 i∧Q0 w (NL g (D0 P id i)::Vi p P::fr)) (m:=P.length - 1) ⟨rfl,1,_,by omega,h1,rfl,rfl,rfl,rfl,rfl,GK H⟩ ?_;rintro ms σ w n ⟨rfl,i,g,Rg,AB,rfl,g0,g1,g5,g6,H⟩;obtain⟨ag,mg,cg,rfl⟩:=VZ H;obtain⟨a,c,H⟩:=AA H.swap;rw[Q1 g0,Q1 g1,Q1 g5,Q1 g6];refine A6 H ?_;refine Qk rfl (fun h=>QE ?_) (fun h=>Qu ?_)
 ·have Q6:i < P.length:=by omega
  obtain⟨b,s,rfl,H,QU⟩:=VY H.swap (by omega);have hc:=Dv (P:=P) (s:=s) (i:=i) (by omega);have US:=wV P id i Rg;generalize P.getD i 0=y at hc US;refine DM H ?_;refine Jd ?_;refine Q5 rfl (QC H rfl hc rfl ?_);refine J0 H ?_;replace H:=Up (QU _ _ H).swap;refine J6 H ?_;refine Qk rfl (fun h=>?_) (fun h=>QE ?_)
  ·have h:0≤y:=h;refine YJ H ?_;refine Jc rfl rfl (wR p P hO i id (by omega) H) ?_;rintro v w ⟨rfl,H⟩;refine J0 H ?_;refine Vg H ?_;cases hb:Uw P id i with
   | true=>
    rw[hb,if_pos ⟨h,rfl⟩] at US;refine Vt H ?_;refine If H ?_;intro b32 w H;replace H:=Js [2,0,0] 0 H;refine Q5 rfl (ZY H rfl rfl (by repeat first|exact .nil _|apply QY.cons rfl) rfl (by decide) (by rw[QM];have:=am P id i;simp only[length_cons,length_nil];omega) rfl rfl ?_);intro v25 w H;obtain⟨a25,m25,c25,rfl⟩:=VZ H;refine FR H ?_;replace H:=Js [0,1] 1 H;refine⟨_,⟨rfl,i+1,_,by omega,Q6,rfl,rfl,rfl,rfl,Qg (by omega),?_⟩,by omega⟩;rw[US];show Q0 w (QF _ 1 _ (QH (_++[i]))::_);rw[BU];exact H
   | false=>
    rw[hb,if_neg (fun h=>by cases h.2),append_nil] at US;refine FG H ?_;exact⟨_,⟨rfl,i+1,_,by omega,Q6,rfl,rfl,rfl,rfl,Qg (by omega),by rw[US];exact H.swap⟩,by omega⟩
  ·have h:¬ 0≤y:=h;rw[if_neg (fun h2=>h h2.1),append_nil] at US;refine Vj H ?_;exact⟨_,⟨rfl,i+1,_,by omega,Q6,rfl,rfl,rfl,rfl,Qg (by omega),by rw[US];exact H.swap⟩,by omega⟩
 ·obtain rfl:i=P.length:=by omega
  refine J3 H ?_;have H:=(Up H).swap;exact Q3 (Jy H rfl fun w' H'=>H')
theorem wA [Q4] (p:Nat) (P:List Int) (hO:EW P) (id:Int) (h1:1≤P.length) (hl:P.length≤1000000) {w:World} {fr:List Q2} (H:Q0 w (Vi p P::fr)) :
  Calls Tryz.prog 175 #[pp p,.int .i64 id] w (ret fun v w'=>Q0 w' (NL v (Ux P id)::Vi p (Ye P (Ux P id))::fr)):=by
 refine QQ Tryz.func175 rfl (by kernel_rfl) ?_;refine Rn H ?_;refine Jc rfl rfl (wW p P hO id h1 hl H) ?_;rintro v w H;have Lk:∀ k∈Ux P id,k < P.length:=fun k hk=>(kN.1 hk).1;have OS:(Ux P id).length≤P.length:=am P id P.length;generalize Ux P id=U at H Lk OS;obtain⟨aU,cU,rfl⟩:=QI H (QM U) (by decide);refine J0 H ?_;refine F4 H ?_;refine Qp (fun ms σ w n=>ms=[]∧∃ i:Nat,i≤U.length∧n=U.length - i∧σ 0=pp p∧σ 5 = .slice aU U.length cU∧σ 6 = .int .i64 i∧Q0 w (NL (.slice aU U.length cU) U::Vi p (Ye P (U.take i))::fr)) (m:=U.length) ⟨rfl,0,by omega,rfl,rfl,rfl,rfl,by rw[take_zero,wY];exact H⟩ ?_;rintro ms σ w n ⟨rfl,i,hi,rfl,g0,g5,g6,H⟩;rw[Q1 g0,Q1 g5,Q1 g6];refine B4 H ?_;refine Qk rfl (fun h=>QE ?_) (fun h=>Qu ?_)
 ·have Q6:i < U.length:=by omega
  have hx:=getElem?_eq_getElem Q6;have Qi:U.take (i+1)=U.take i++[U[i]]:=by rw[take_add_one,hx];rfl
  have Fs:=Lk _ (getElem_mem Q6);generalize U[i]=k at hx Qi Fs;have hfl:=ap P (U.take i);obtain⟨a,c,H⟩:=AA H.swap;obtain⟨b,s,rfl,H,_,_,QU⟩:=GP H.swap (by omega);replace H:=Js [2,0,0] 0 H;obtain⟨bU,sU,rfl,H,wB⟩:=VY H (by omega);have Ll:((k:Nat):Int).toNat=k:=Int.toNat_natCast k;refine Ip H ?_;intro w H;refine N6 H ?_;refine Ku H ?_;refine Ji 6 ?_;refine Y2 7 [] H rfl (Q8.none rfl) rfl (Gb hx) (by kernel_rfl) ?_;refine Ji 8 ?_;refine Jo 9 H ?_;refine G1 H rfl rfl inferInstance rfl (by simp only[length_append,YZ];omega) rfl ?_;intro w H;rw[Ll,ax (by omega),wZ] at H;refine Jx H ?_;replace H:=wB _ _ H;replace H:=Js [1,1,0] 0 H;replace H:=QU _ _ _ (by rw[YZ,YZ,ap,ap]) H;replace H:=Up H.swap;refine Vj H ?_;exact⟨_,⟨rfl,i+1,Q6,rfl,rfl,rfl,Qg (by omega),by rw[Qi];exact H.swap⟩,by omega⟩
 ·obtain rfl:i=U.length:=by omega
  rw[take_length] at H;refine J3 H ?_;exact Q3 (Jy H rfl fun w' H'=>H')
theorem wC [Q4] (p:Nat) (P:List Int) (id:Nat) (q:Int) (Qx:1≤id) (hq:P[id]? = some q) (Kj:0≤q) (h1:1≤P.length) (hl:P.length≤1000000) {w:World} {fr:List Q2} (H:Q0 w (Vi p P::fr)) :
  Calls Tryz.prog 177 #[pp p,.int .i64 id] w (ret fun v w'=>(q=0∧v = .tuple #[.int .i64 0,.int .i64 16]∧Q0 w' (Vi p P::fr))∨(q≠0∧v = .tuple #[.int .i64 q,.int .i64 0]∧Q0 w' (Vi p (GU P id q.toNat)::fr))):=by
 have kO:=(List.getElem?_eq_some_iff.1 hq).1;have Ot:P.getD id 0=q:=by rw[getD_eq_getElem?_getD,hq];rfl
 have ZE:Yj P (id:Int)=true:=decide_eq_true ⟨by omega,by omega,by rw[Int.toNat_natCast,Ot];exact Kj⟩;refine QQ Tryz.func177 rfl (by kernel_rfl) ?_;refine WR H ?_;refine Jc rfl rfl (Dw p P id H) ?_;rintro v w ⟨rfl,H⟩;rw[ZE];refine Za H ?_;obtain⟨a,c,H⟩:=AA H;obtain⟨b,s,rfl,H,QU⟩:=VY H.swap (by omega);have hc:=Dv (P:=P) (s:=s) (i:=id) kO;rw[Ot] at hc;refine Vb H ?_;refine Jd ?_;refine Q5 rfl (QC H rfl hc rfl ?_);refine J0 H ?_;replace H:=Up (QU _ _ H).swap;refine J3 H ?_;by_cases hz:q=0
 ·rw[show (q == (0:Int))=true by rw[hz];rfl];refine G7 H ?_;exact Q3 (Jy H rfl fun w' H' => .inl ⟨hz,rfl,H'⟩)
 rw[show (q == (0:Int))=false by rw[beq_eq_false_iff_ne];exact hz];refine Vk H ?_;obtain⟨qn,rfl⟩:∃ qn:Nat,q=qn:=⟨q.toNat,by omega⟩;rw[Int.toNat_natCast];refine J7 H ?_;refine Qt (fun ms σ w=>ms=[]∧σ 0=pp p∧σ 1 = .int .i64 id∧σ 7 = .int .i64 qn∧Q0 w (Vi p (Kl P id qn P.length)::fr)) ?_ ?_
 ·refine Qd ?_;refine Qp (fun ms σ w n=>ms=[]∧∃ i:Nat,1≤i∧i≤P.length∧n=P.length - i∧σ 0=pp p∧σ 1 = .int .i64 id∧σ 7 = .int .i64 qn∧σ 8 = .int .i64 i∧Q0 w (Vi p (Kl P id qn i)::fr)) (m:=P.length - 1) ⟨rfl,1,by omega,h1,rfl,rfl,rfl,rfl,rfl,by rw[wG];exact H⟩ ?_;clear H QU;rintro ms σ w n ⟨rfl,i,Rg,AB,rfl,g0,g1,g7,g8,H⟩;rw[Q1 g0,Q1 g1,Q1 g7,Q1 g8];have Zb:=HS P id qn i;obtain⟨a,c,H⟩:=AA H;refine A6 H ?_;rw[Zb];refine Qk rfl (fun h=>QE ?_) (fun h=>Qu ?_)
  ·have Q6:i < P.length:=by omega
   obtain⟨b,s,rfl,H,_,_,QU⟩:=GP H.swap (by omega);have Ou:=getElem?_eq_getElem Q6;generalize P[i]=y at Ou
   have TT:(Kl P id qn i).getD i 0=y:=by
    rw[getD_eq_getElem?_getD,EA,Ou];simp
   have hc:=Dv (P:=Kl P id qn i) (s:=s) (i:=i) (by omega);rw[TT] at hc;have Ll:((i:Nat):Int).toNat=i:=Int.toNat_natCast i;refine DM H ?_;refine Jd ?_;refine Q5 rfl (QC H rfl hc rfl ?_);refine J4 H ?_;by_cases hy:y=(id:Int)
   ·rw[show (y == (id:Int))=true by rw[hy];exact beq_self_eq_true _];subst hy;refine Vt H ?_;refine X6 H ?_;refine Jd ?_;refine Q5 rfl (G1 H rfl rfl inferInstance rfl (by simp only[length_append,YZ];omega) rfl ?_);intro w H;rw[Ll,ax (by omega),wU Rg Ou] at H;refine J2 H ?_;replace H:=Up (QU _ _ _ (by rw[YZ,YZ,HS,HS]) H).swap;refine Vj H ?_;exact⟨_,⟨rfl,i+1,by omega,Q6,rfl,rfl,rfl,rfl,Qg (by omega),H⟩,by omega⟩
   ·rw[show (y == (id:Int))=false by rw[beq_eq_false_iff_ne];exact hy];refine Vk H ?_;rw[wX Ou hy] at H QU;replace H:=Up (QU _ _ _ rfl H).swap;refine Vj H ?_;exact⟨_,⟨rfl,i+1,by omega,Q6,rfl,rfl,rfl,rfl,Qg (by omega),H⟩,by omega⟩
  ·obtain rfl:i=P.length:=by omega
   exact⟨rfl,rfl,rfl,rfl,rfl,Up H⟩
 clear H QU;rintro ms σ w ⟨rfl,g0,g1,g7,H⟩;rw[Q1 g0,Q1 g1,Q1 g7];have Zb:=HS P id qn P.length;obtain⟨a,c,H⟩:=AA H;obtain⟨b,s,rfl,H,_,_,QU⟩:=GP H.swap (by omega);have Ll:((id:Nat):Int).toNat=id:=Int.toNat_natCast id;refine Vb H ?_;refine Jd ?_;refine Q5 rfl (G1 H rfl rfl inferInstance rfl (by simp only[length_append,YZ];omega) rfl ?_);intro w H;rw[Ll,ax (by omega),wK] at H;have S3:(GU P id qn).length=(Kl P id qn P.length).length:=by unfold GU Kl;rw[length_mapIdx,length_mapIdx]
 refine J2 H ?_;replace H:=Up (QU _ _ _ (by rw[YZ,YZ,S3]) H).swap;refine Vj H ?_;exact Q3 (Jy H rfl fun w' H' => .inr ⟨hz,rfl,H'⟩)
theorem kP {s s':CS} {m m':MS} {told:List (Nat×Nat)} (R:Rel s m told) {mv:Nat→Q9→Q9} (h:RL s s' mv) (hl:m'.lays=m.lays) (ho:m'.objs.length=m.objs.length)
  (wD:∀ (r q:Int),(r,q)∈s'.par↔∃ k:Nat,r=k∧1≤k∧m'.P[k]? = some q∧0≤q) (QN:(s'.par.map (·.1)).Nodup) (Gc:s'.last+1=m'.P.length)
  (Bc:∀ (o:Nat) (x':QS),m'.objs[o]? = some x'→∃ x,m.objs[o]? = some x∧x'={ x with region:=x'.region }∧∀ (k g:Nat) (e:Q9),told[o]? = some (k,g)→x.gone=false→s.tab[k]? = some ⟨g,some e⟩→e.region=x.region→(mv k e).region=x'.region):Rel s' m' told:=by
 refine⟨by rw[ho];exact R.len,by rw[h.lays,hl];exact R.lays,wD,QN,Gc,?_,?_,?_,?_,R.nodup⟩
 ·intro o x' k g V9 ht hg;obtain⟨x,hx,he,hr⟩:=Bc o x' V9;have hg:x.gone=false:=by rw[he] at hg;exact hg
  obtain⟨e,hk,hL⟩:=R.obj o x k g hx ht hg;obtain⟨s1,s2,s3,s4,s5⟩:=h.same k e;refine⟨mv k e,h.at hk,?_⟩;have Gx:=hr k g e ht hg hk hL.region;rw[hl];have f1:x'.lay=x.lay:=by rw[he]
  have f2:x'.count=x.count:=by rw[he]
  have f3:x'.held=x.held:=by rw[he]
  have f4:x'.pinned=x.pinned:=by rw[he]
  have f5:x'.w=x.w:=by rw[he]
  have f6:x'.kind=x.kind:=by rw[he]
  have f7:x'.to=x.to:=by rw[he]
  refine⟨Gx,by rw[s1,f1];exact hL.lay,by rw[s2,f2];exact hL.count,by rw[s4,f3];exact hL.held,by rw[s5,f4];exact hL.pinned,by rw[s3,f5];exact hL.len,?_,?_,?_⟩
  ·rw[f5,f1,f6,f7,s3];exact hL.ref
  ·rw[f5,f1,s3];exact hL.word
  ·rw[f5,f1,f6];exact hL.kind
 ·intro o x' k g V9 ht hg e' Yb;obtain⟨x,hx,he,_⟩:=Bc o x' V9;have hg:x.gone=true:=by rw[he] at hg;exact hg
  obtain⟨e,hk,_⟩:=h.from Yb;exact R.gone o x k g hx ht hg e hk
 ·intro k g e' Yb;obtain⟨e,hk,_⟩:=h.from Yb;exact R.used k g e hk
 ·intro o k g ht;obtain⟨t,h1,h2⟩:=R.gens o k g ht;exact⟨_,h.tab k t h1,h2⟩
def UR (id q:Nat) (x:QS):QS:=if x.region=id then { x with region:=q } else x
def EB (m:MS) (id q:Nat):MS:={ m with P:=GU m.P id q,objs:=m.objs.map (UR id q) }
theorem ay (id q:Nat) (x:QS):UR id q x={ x with region:=(UR id q x).region }:=by
 unfold UR;split <;> rfl
theorem wE (id q:Nat) (x:QS):(UR id q x).region=if x.region=id then q else x.region:=by
 unfold UR;split <;> rfl
theorem kS {s s':CS} {m:MS} {told:List (Nat×Nat)} (R:Rel s m told) {id q:Nat} (Qx:1≤id) (QA:id≠q) (h:EK s id q s'):Rel s' (EB m id q) told:=by
 have Wf:(s'.par.map (·.1)).Nodup:=by rw[h.par.1];exact R.nd.filter _
 refine kP R h.mv rfl (length_map _) (fun r z=>?_) Wf ?_ fun o x' V9=>?_
 ·rw[← YP Wf,h.par.2];have GZ:∀ k:Nat,(GU m.P id q)[k]? = (m.P[k]?).map fun x=>if k=id then -1 else if 1≤k∧x=(id:Int) then (q:Int) else x:=fun k=>getElem?_mapIdx;constructor
  ·intro hr;split at hr
   ·cases hr
   ·rename_i h1;split at hr
    ·rename_i h2;injection hr with hr
     obtain⟨k,k1,k2,k3,k4⟩:=(R.tree _ _).1 ((YP R.nd).1 h2);refine⟨k,k1,k2,?_,by omega⟩;show (GU m.P id q)[k]? = _;rw[GZ,k3];simp only[Option.map_some];rw[if_neg (by omega),if_pos ⟨k2,trivial⟩,hr]
    ·rename_i h2;obtain⟨k,k1,k2,k3,k4⟩:=(R.tree _ _).1 ((YP R.nd).1 hr);refine⟨k,k1,k2,?_,k4⟩;show (GU m.P id q)[k]? = _;rw[GZ,k3];simp only[Option.map_some];rw[if_neg (by omega),if_neg (fun h3=>h2 (by rw[hr,h3.2]))]
  ·rintro⟨k,rfl,k2,k3,k4⟩;have k3:(GU m.P id q)[k]? = some z:=k3;rw[GZ] at k3;cases hP:m.P[k]? with
   | none=>rw[hP] at k3;cases k3
   | some z0=>
    rw[hP] at k3;injection k3 with k3
    have k3:(if k=id then (-1:Int) else if 1≤k∧z0=(id:Int) then (q:Int) else z0)=z:=k3;by_cases h1:k=id
    ·rw[if_pos h1] at k3;omega
    ·rw[if_neg h1] at k3;rw[if_neg (by omega)]
     have wF:0≤z0:=by
      split at k3 <;> omega
     have hf:=(YP R.nd).2 ((R.tree (k:Int) z0).2 ⟨k,rfl,k2,hP,wF⟩);by_cases h2:z0=(id:Int)
     ·rw[if_pos ⟨k2,h2⟩] at k3;rw[h2] at hf;rw[if_pos hf,k3]
     ·rw[if_neg (fun h3=>h2 h3.2)] at k3;subst k3
      rw[if_neg (fun h3=>by
       rw[hf] at h3;injection h3 with h3
       exact h2 h3)]
      exact hf
 ·rw[h.last];show s.last+1=(GU m.P id q).length;unfold GU;rw[length_mapIdx];exact R.last
 ·have V9:(m.objs.map (UR id q))[o]? = some x':=V9;rw[getElem?_map] at V9;cases hx:m.objs[o]? with
  | none=>rw[hx] at V9;cases V9
  | some x=>
   rw[hx] at V9;injection V9 with V9
   subst V9;refine⟨x,rfl,ay id q x,fun k g e _ _ _ hr=>?_⟩;rw[Rz,wE,hr];by_cases h1:x.region=id
   ·rw[if_pos (by omega),if_pos h1]
   ·rw[if_neg (by omega),if_neg h1]
theorem az {m m':MS} (h:VF m) (hP:m'.P.length=m.P.length∨(m'.P.length=m.P.length+1∧m.P.length < 100000)) (hl:m'.lays=m.lays) (ho:m'.objs.length=m.objs.length)
  (Bc:∀ (o:Nat) (x':QS),m'.objs[o]? = some x'→∃ x,m.objs[o]? = some x∧x'={ x with region:=x'.region }):VF m':=by
 refine⟨by have:=h.P;omega,by rw[hl];exact h.lays,fun x' V9=>?_,by rw[ho];exact h.few⟩;obtain⟨o,V9⟩:=getElem?_of_mem V9;obtain⟨x,hx,he⟩:=Bc o x' V9;obtain⟨a,b,c,d,e⟩:=h.objs x (mem_of_getElem? hx);rw[hl,ho,he];exact⟨a,b,c,d,e⟩
def AP (m:MS) (r:Nat) (os:List Nat):MS:={ m with P:=m.P++[(r:Int)],objs:=m.objs.mapIdx fun o x=>if o∈os then { x with region:=m.P.length } else x }
theorem kT {m:MS} {r:Nat} {os:List Nat} {o:Nat} {x':QS} (h:(AP m r os).objs[o]? = some x'):∃ x,m.objs[o]? = some x∧x'={ x with region:=x'.region }∧x'.region=if o∈os then m.P.length else x.region:=by
 have h:(m.objs.mapIdx fun o x=>if o∈os then { x with region:=m.P.length } else x)[o]? = some x':=h;rw[getElem?_mapIdx] at h;cases hx:m.objs[o]? with
 | none=>rw[hx] at h;cases h
 | some x=>
  rw[hx] at h;injection h with h
  have h:(if o∈os then ({ x with region:=m.P.length }:QS) else x)=x':=h;subst h;refine⟨x,rfl,?_,?_⟩ <;> split <;> rfl
theorem wH {m:MS} (h:VF m) (hP:m.P.length < 100000) (r:Nat) (os:List Nat):VF (AP m r os):=by
 refine az h (.inr ⟨by show (m.P++[_]).length=_;simp,hP⟩) rfl (length_mapIdx) fun o x' V9=>?_;obtain⟨x,h1,h2,_⟩:=kT V9;exact⟨x,h1,h2⟩
theorem ka {s s':CS} (hw:WF s) {m:MS} {told:List (Nat×Nat)} (R:Rel s m told) {r:Nat} {Z:List Pl} {os:List Nat} (h:Wj s r Z s') (Au:∀ (o k g:Nat) (x:QS),told[o]? = some (k,g)→m.objs[o]? = some x→x.gone=false→(o∈os↔k∈Z.map Pl.k)):Rel s' (AP m r os) told:=by
 have Zt:∀ x,x∈s.par.map (·.1)→x≠((s.last+1:Nat):Int):=fun x hx=>by
  obtain⟨⟨x',q⟩,h1,h2⟩:=mem_map.1 hx;have h2:x'=x:=h2;have:=(hw.par.2.2 x' q h1).2;omega
 have Bh:m.P.length=s.last+1:=R.last.symm;refine kP R h.mv rfl length_mapIdx (fun x z=>?_) ?_ ?_ fun o x' V9=>?_
 ·rw[h.par,mem_append,R.tree];show _↔∃ k:Nat,x=k∧1≤k∧(m.P++[(r:Int)])[k]? = some z∧0≤z;constructor
  ·rintro(⟨k,k1,k2,k3,k4⟩|h1)
   ·exact⟨k,k1,k2,by rw[getElem?_append_left (List.getElem?_eq_some_iff.1 k3).1];exact k3,k4⟩
   ·rw[mem_singleton] at h1;injection h1 with h1 h2
    refine⟨s.last+1,h1,by omega,?_,by omega⟩;rw[getElem?_append_right (by omega),Bh,Nat.sub_self,h2];rfl
  ·rintro⟨k,k1,k2,k3,k4⟩;by_cases hk:k < m.P.length
   ·rw[getElem?_append_left hk] at k3;exact .inl ⟨k,k1,k2,k3,k4⟩
   ·rw[getElem?_append_right (by omega)] at k3;have Xp:=(List.getElem?_eq_some_iff.1 k3).1;have Xp:k - m.P.length < 1:=Xp;have Xe:k - m.P.length=0:=by omega
    rw[Xe] at k3;injection k3 with k3
    refine .inr ?_;rw[mem_singleton,← k3,k1,show k=s.last+1 by omega]
 ·rw[h.par,map_append,nodup_append];refine⟨R.nd,by simp,fun a ha b hb K2=>?_⟩;simp at hb;subst K2;exact Zt a ha hb
 ·rw[h.last];show _=(m.P++[(r:Int)]).length;rw[length_append,Bh];rfl
 ·obtain⟨x,h1,h2,h3⟩:=kT V9;refine⟨x,h1,h2,fun k g e ht hg hk hr=>?_⟩;have:=Au o k g x ht h1 hg;rw[h3];by_cases h4:k∈Z.map Pl.k
  ·rw[if_pos (this.2 h4),Bh];obtain⟨z,z1,z2⟩:=mem_map.1 h4;subst z2;rw[Li h.keys z1]
  ·rw[if_neg (fun h5=>h4 (this.1 h5)),HM h4];exact hr
def Zz (ts:List QW) (r:Int):List (Nat×Nat)→List (Nat×Nat)→Nat
 | _,[]=>0
 | pre,t::l=>match V4 ts t.1 t.2 with
  | none=>8
  | some (_,e)=>if e.region≠r then 15 else if e.pinned=true then 13 else if t∈pre then 14 else Zz ts r (pre++[t]) l
def UW (s:CS) (r:Int) (l:List (Nat×Nat)):Nat:=if 64 < l.length then 18 else if Zz s.tab r [] l≠0 then Zz s.tab r [] l else if s.par.length=64 then 5 else 0
theorem Ov {ts:List QW} {r:Int} {pre l:List (Nat×Nat)} {t:Nat×Nat} (h:V4 ts t.1 t.2=none):Zz ts r pre (t::l)=8:=by
 unfold Zz;rw[h]
theorem bQ {ts:List QW} {r:Int} {pre l:List (Nat×Nat)} {t:Nat×Nat} {k:Nat} {e:Q9} (h:V4 ts t.1 t.2=some (k,e)):Zz ts r pre (t::l)=if e.region≠r then 15 else if e.pinned=true then 13 else if t∈pre then 14 else Zz ts r (pre++[t]) l:=by
 show (match V4 ts t.1 t.2 with
  | none=>8
  | some (_,e)=>if e.region≠r then 15 else if e.pinned=true then 13 else if t∈pre then 14 else Zz ts r (pre++[t]) l)=_
 rw[h]
theorem HT {ts:List QW} {r:Int}:∀ {l pre:List (Nat×Nat)},Zz ts r pre l=0→(∀ t∈l,(∃ e,ts[t.1]? = some ⟨t.2,some e⟩∧e.held=true∧e.region=r∧e.pinned=false)∧t∉pre)∧l.Nodup
 | [],_,_=>⟨fun t ht=>(by cases ht),.nil⟩
 | t::l,pre,h=>by
  cases hv:V4 ts t.1 t.2 with
  | none=>rw[Ov hv] at h;cases h
  | some q=>
   obtain⟨k,e⟩:=q;rw[bQ hv] at h;split at h
   ·cases h
   ·rename_i h1;split at h
    ·cases h
    ·rename_i h2;split at h
     ·cases h
     ·rename_i h3;obtain⟨h4,h5⟩:=HT h;obtain⟨hL,hh⟩:=Rq.1 hv;obtain⟨n,n1,n2,n3⟩:=Z1.1 hL;have e1:t.1=k:=by omega
      have e2:t.2=n:=by omega
      refine⟨fun u hu=>?_,nodup_cons.2 ⟨fun h6=>(h4 t h6).2 (by simp),h5⟩⟩
      rcases mem_cons.1 hu with rfl|hu
      ·exact⟨⟨e,by rw[e1,e2];exact n3,hh,Classical.not_not.1 h1,by simpa using h2⟩,h3⟩
      ·exact⟨(h4 u hu).1,fun h6=>(h4 u hu).2 (mem_append.2 (.inl h6))⟩
theorem wI {ts:List QW} {r:Int} {l:List (Nat×Nat)} (h:Zz ts r [] l=0):(l.map (·.1)).Nodup:=by
 obtain⟨h1,h2⟩:=HT h;refine pairwise_map.2 (h2.imp_of_mem fun {a b} ha hb K2 hk=>K2 ?_);obtain⟨⟨e,e1,_⟩,_⟩:=h1 a ha;obtain⟨⟨f,f1,_⟩,_⟩:=h1 b hb;rw[hk,f1] at e1;injection e1 with e1
 injection e1 with e1 _
 exact Prod.ext hk e1.symm
def XB (m:MS) (r:Int):List Int→List Int→Nat
 | _,[]=>0
 | pre,o::l=>match VL m o with
  | none=>8
  | some (_,x)=>if (x.region:Int)≠r then 15 else if x.pinned=true then 13 else if o∈pre then 14 else XB m r (pre++[o]) l
def Xu (m:MS) (r:Int) (os:List Int):Nat:=if Yj m.P r=false then 15 else if 64 < os.length then 18 else if XB m r [] os≠0 then XB m r [] os else if 64≤(V5 m.P).length then 5 else 0
theorem kb {m:MS} {r:Int} {pre l:List Int} {o:Int} (h:VL m o=none):XB m r pre (o::l)=8:=by
 unfold XB;rw[h]
theorem ke {m:MS} {r:Int} {pre l:List Int} {o:Int} {k:Nat} {x:QS} (h:VL m o=some (k,x)):XB m r pre (o::l)=if (x.region:Int)≠r then 15 else if x.pinned=true then 13 else if o∈pre then 14 else XB m r (pre++[o]) l:=by
 show (match VL m o with
  | none=>8
  | some (_,x)=>if (x.region:Int)≠r then 15 else if x.pinned=true then 13 else if o∈pre then 14 else XB m r (pre++[o]) l)=_
 rw[h]
def Bp (told:List (Nat×Nat)) (y:(Nat×Nat)×Int):Prop:=(∃ n:Nat,y.2=n∧told[n]? = some y.1)∨(y.2 = -1∧told=[])
theorem Bp.pick {told:List (Nat×Nat)} {y:(Nat×Nat)×Int} (h:Bp told y):KU told y.1.1 y.1.2 y.2:=by
 rcases h with ⟨n,h1,h2⟩|⟨h1,h2⟩
 ·exact .inl ⟨y.1.1,y.1.2,n,rfl,rfl,h1,h2⟩
 ·exact .inr ⟨h1,fun k gg n _ _=>by rw[h2];simp⟩
theorem kf {s:CS} {m:MS} {told:List (Nat×Nat)} (R:Rel s m told) (r:Int):∀ (l pre:List ((Nat×Nat)×Int)),(∀ y∈l,Bp told y)→(∀ y∈pre,Bp told y)→Zz s.tab r (pre.map (·.1)) (l.map (·.1))=XB m r (pre.map (·.2)) (l.map (·.2))
 | [],pre,_,_=>rfl
 | y::l,pre,h1,h2=>by
  have hy:=h1 y mem_cons_self
  have ih:=kf R r l (pre++[y]) (fun z hz=>h1 z (mem_cons_of_mem _ hz)) (fun z hz=>by
   rcases mem_append.1 hz with hz|hz
   ·exact h2 z hz
   ·rw[mem_singleton] at hz;subst hz;exact hy)
  rw[map_append,map_append] at ih;have hV:Vd s m told y.1.1 y.1.2 y.2:=AE R hy.pick
  rcases hV with ⟨v1,v2⟩|⟨k,gg,n,e,x,a1,a2,a3,a4,a5,a6,a7,a8,a9,a10⟩
  ·show Zz s.tab r (pre.map (·.1)) (y.1::l.map (·.1))=XB m r (pre.map (·.2)) (y.2::l.map (·.2));rw[Ov v1,kb v2]
  ·show Zz s.tab r (pre.map (·.1)) (y.1::l.map (·.1))=XB m r (pre.map (·.2)) (y.2::l.map (·.2));rw[bQ a9,ke a10,a8.region,a8.pinned]
   have kh:y.1∈pre.map (·.1)↔y.2∈pre.map (·.2):=by
    have ht:told[n]? = some y.1:=by rw[a4];congr 1;exact Prod.ext (by omega) (by omega)
    constructor
    ·intro h;obtain⟨z,z1,z2⟩:=mem_map.1 h;refine mem_map.2 ⟨z,z1,?_⟩
     rcases h2 z z1 with ⟨n',b1,b2⟩|⟨_,b2⟩
     ·rw[z2] at b2;have:=OJ R.nodup ht b2;omega
     ·rw[b2] at ht;cases ht
    ·intro h;obtain⟨z,z1,z2⟩:=mem_map.1 h;refine mem_map.2 ⟨z,z1,?_⟩
     rcases h2 z z1 with ⟨n',b1,b2⟩|⟨b1,_⟩
     ·have:n'=n:=by omega
      subst this;rw[ht] at b2;injection b2 with b2
      exact b2.symm
     ·omega
   by_cases c1:(x.region:Int)≠r
   ·rw[if_pos c1,if_pos c1]
   ·rw[if_neg c1,if_neg c1];by_cases c2:x.pinned=true
    ·rw[if_pos c2,if_pos c2]
    ·rw[if_neg c2,if_neg c2];by_cases c3:y.1∈pre.map (·.1)
     ·rw[if_pos c3,if_pos (kh.1 c3)]
     ·rw[if_neg c3,if_neg (fun h=>c3 (kh.2 h))];exact ih
theorem wJ {s:CS} {m:MS} {told:List (Nat×Nat)} (R:Rel s m told) (hw:WF s) {r:Int} (hr:(QV s.par r).isSome=true) {l:List ((Nat×Nat)×Int)} (h:∀ y∈l,Bp told y):UW s r (l.map (·.1))=Xu m r (l.map (·.2)):=by
 have h1:=kf R r l [] h (fun y hy=>(by cases hy));have h1:Zz s.tab r [] (l.map (·.1))=XB m r [] (l.map (·.2)):=h1;unfold UW Xu;rw[← E7 R,hr,if_neg (show ¬ (true=false) by decide),length_map,length_map,h1];by_cases c1:64 < l.length
 ·rw[if_pos c1,if_pos c1]
 ·rw[if_neg c1,if_neg c1];by_cases c2:XB m r [] (l.map (·.2))≠0
  ·rw[if_pos c2,if_pos c2]
  ·rw[if_neg c2,if_neg c2,HK R.w];have:=hw.par.1;rw[HK R.w] at this;by_cases c3:(V5 m.P).length=64
   ·rw[if_pos c3,if_pos (by omega)]
   ·rw[if_neg c3,if_neg (by omega)]
end Go.Proofs.YtmjdnljneifpcaaGreatDoor
