/- Cells: what is proved on the way: every input of the statement; no condition. Texts joined: SplP SplH SplQ SplB RefE MovR ChkP. -/
import Derived.Test.YtmjdnljneifpcaaGreatDoorBen
import Derived.Test.YtmjdnljneifpcaaGreatDoorBel
import Derived.Test.YtmjdnljneifpcaaGreatDoorBee
import Derived.Test.YtmjdnljneifpcaaGreatDoorBei
import Derived.Test.YtmjdnljneifpcaaGreatDoorBek
set_option linter.unusedVariables false
set_option linter.unusedSimpArgs false
set_option linter.unusedSectionVars false
namespace Go.Proofs.YtmjdnljneifpcaaGreatDoor
open List
open Go.SL
def Bb (size:Nat) (T:QO) (a n:Nat):Prop:=∃ c,(c,1)∈T.parts∧c*size≤a∧a+n≤(c+1)*size∧(a+n≤T.at'∨T.fin≤a)
theorem jq {size:Nat} (hs:1≤size) {own:List Nat} {x:Int} {S:QO} (h:XO size own x S) {e:Q8} (hl:Ug size own e) (QB:e.region≠x):Qa e≤S.at'∨S.fin≤e.addr:=by
 by_cases h0:S.fin=0
 ·right;omega
 obtain⟨c,Zn,UC,Ku⟩:=h.fin h0;have B7:c∈QR S.parts:=BS Ku (Nat.le_refl _) (Nat.lt_succ_self _);obtain⟨y,GR,KN,Fc⟩:=(h.owned c).1 B7;have GG:=h.at1
 rcases hl.chunk hs c with (h1|h1)|⟨z,BG,JQ,pn⟩
 ·left;omega
 ·right;omega
 ·rw[GR] at BG;injection BG with BG
  subst BG;exact absurd (JQ.symm.trans KN) QB
theorem jr {s:CS} (h:WF s) {k g:Nat} {e:Q8} (hk:s.tab[k]? = some ⟨g,some e⟩) {r id:Int} (hr:e.region=r) (QB:id≠r) (QP:(s.par.map (·.1)).Nodup)
  {p1 p2:List (Int×Nat×QO)} {b0 bs:Nat} {S T S' T':QO} (VL:s.sps=p1++(r,b0,S)::(p2++[(id,bs,T)]))
  {m1 m2:List (Int×Nat×List Nat)} {c0 bm:Nat} {M N:List Nat} (Vk:s.mns=m1++(r,c0,M)::(m2++[(id,bm,N)])) {own':List Nat} {a:Nat} {e':Q8} (he:e'={ e with region:=id,addr:=a })
  (Vi:own'.length=s.own.length) (hE:Ug s.size own' e') (hL:∀ (j n:Nat) (f:Q8),j≠k→s.tab[j]? = some ⟨n,some f⟩→Ug s.size own' f)
  (GF:∀ (j n:Nat) (f:Q8),j≠k→s.tab[j]? = some ⟨n,some f⟩→Qa f≤e'.addr∨Qa e'≤f.addr)
  (hS:XO s.size own' r S') (hT:XO s.size own' id T') (ho:∀ x∈p1++p2,XO s.size own' x.1 x.2.2)
  (un:∀ (j n:Nat) (f:Q8),(s.tab.set k ⟨g,some e'⟩)[j]? = some ⟨n,some f⟩→Qa f≤S'.at'∨S'.fin≤f.addr) (uo:∀ (j n:Nat) (f:Q8),(s.tab.set k ⟨g,some e'⟩)[j]? = some ⟨n,some f⟩→Qa f≤T'.at'∨T'.fin≤f.addr)
  (X0:∀ (c x:Nat),own'[c]? = some x→x≠0→(x:Int)=id∨s.own[c]? = some x) {b0' bs':Nat} :
  WF { s with own:=own',tab:=s.tab.set k ⟨g,some e'⟩,sps:=p1++(r,b0,S')::(p2++[(id,bs,T')]),mns:=m1++(r,c0,M.filter (·≠k))::(m2++[(id,bm,Za N k)]) }:=by
 have VB:=(List.getElem?_eq_some_iff.1 hk).1;have jp:id∈s.par.map (·.1):=by rw[← h.skeys,VL];simp
 obtain⟨z,hz⟩:∃ z,(id,z)∈s.par:=by
  obtain⟨⟨x,z⟩,h1,h2⟩:=mem_map.1 jp;exact⟨z,by rw[← h2];exact h1⟩
 have uq:∀ (c x:Nat),own'[c]? = some x→x≠0→∃ q,((x:Int),q)∈s.par:=fun c x h1 h2=>by
  rcases X0 c x h1 h2 with h3|h3
  ·exact⟨z,by rw[h3];exact hz⟩
  ·exact h.live c x h3 h2
 have LH:e'.region=id:=by rw[he]
 have Bq:∀ x∈p1++p2,x∈s.sps∧x.1≠r∧x.1≠id:=by
  intro x hx;have WR:(s.sps.map fun y=>y.1).Nodup:=by rw[h.skeys];exact QP
  obtain⟨u1,u2⟩:=Kf (f:=fun y:Int×Nat×QO=>y.1) VL WR
  have UH:x∈p1++(p2++[(id,bs,T)]):=by
   rcases mem_append.1 hx with hx|hx
   ·exact mem_append.2 (.inl hx)
   ·exact mem_append.2 (.inr (mem_append.2 (.inl hx)))
  obtain⟨v1,v2⟩:=Kf (f:=fun y:Int×Nat×QO=>y.1) (l:=p1++(p2++[(id,bs,T)])) (l1:=p1++p2) (l2:=[]) (a:=(id,bs,T)) (by simp) (by rw[u1];exact WR.filter _);exact⟨(u2 x UH).1,(u2 x UH).2,(v2 x (by simpa using hx)).2⟩
 have aW:∀ x∈m1++m2,x∈s.mns∧x.1≠r∧x.1≠id:=by
  intro x hx;have WR:(s.mns.map fun y=>y.1).Nodup:=by rw[h.mkeys];exact QP
  obtain⟨u1,u2⟩:=Kf (f:=fun y:Int×Nat×List Nat=>y.1) Vk WR
  have UH:x∈m1++(m2++[(id,bm,N)]):=by
   rcases mem_append.1 hx with hx|hx
   ·exact mem_append.2 (.inl hx)
   ·exact mem_append.2 (.inr (mem_append.2 (.inl hx)))
  obtain⟨v1,v2⟩:=Kf (f:=fun y:Int×Nat×List Nat=>y.1) (l:=m1++(m2++[(id,bm,N)])) (l1:=m1++m2) (l2:=[]) (a:=(id,bm,N)) (by simp) (by rw[u1];exact WR.filter _);exact⟨(u2 x UH).1,(u2 x UH).2,(v2 x (by simpa using hx)).2⟩
 have V9:∀ {α:Type} {l1 l2:List α} {u v x:α},x∈l1++u::(l2++[v])→x=u∨x=v∨x∈l1++l2:=by
  intro α l1 l2 u v x hx
  rcases mem_append.1 hx with hx|hx
  ·exact .inr (.inr (mem_append.2 (.inl hx)))
  ·rcases mem_cons.1 hx with hx|hx
   ·exact .inl hx
   ·rcases mem_append.1 hx with hx|hx
    ·exact .inr (.inr (mem_append.2 (.inr hx)))
    ·exact .inr (.inl (mem_singleton.1 hx))
 have KV:(r,c0,M)∈s.mns:=by rw[Vk];simp
 have LF:(id,bm,N)∈s.mns:=by rw[Vk];simp
 have hM:=h.mine _ KV;have hN:=h.mine _ LF;refine⟨h.size,by show 1≤own'.length∧own'.length≤63;rw[Vi];exact h.own,by show 1≤(s.tab.set _ _).length∧(s.tab.set _ _).length≤63;rw[length_set];exact h.slots,h.lays,fun i t hi=>?_,fun i n f hi=>?_,fun i j n n' f f' ZA hi hj=>?_,h.par,?_,?_,fun x hx=>?_,fun x hx j n f hj=>?_,uq,fun x hx=>?_⟩
 ·rcases VE hi with ⟨rfl,rfl,_⟩|⟨_,hi⟩
  ·exact⟨(h.gen _ _ hk).1,fun _=>(h.gen _ _ hk).2 rfl⟩
  ·exact h.gen i t hi
 ·rcases VE hi with ⟨rfl,h1,_⟩|⟨h0,hi⟩
  ·injection h1 with h1 h2
   injection h2 with h2
   subst h1 h2;exact⟨jo (h.obj _ _ _ hk).1 (by rw[he]) (by rw[he]) (by rw[he]),hE,z,by rw[LH];exact hz⟩
  ·obtain⟨o1,_,o3⟩:=h.obj i n f hi;exact⟨o1,hL i n f h0 hi,o3⟩
 ·rcases VE hi with ⟨rfl,h1,_⟩|⟨h0,AQ⟩ <;> rcases VE hj with ⟨rfl,h2,_⟩|⟨LX,Ka⟩
  ·exact absurd rfl ZA
  ·injection h1 with _ h1
   injection h1 with h1
   subst h1;exact(GF j n' f' LX Ka).symm
  ·injection h2 with _ h2
   injection h2 with h2
   subst h2;exact GF i n f h0 AQ
  ·exact h.apart i j n n' f f' ZA AQ Ka
 ·rw[← h.skeys,VL];simp
 ·rw[← h.mkeys,Vk];simp
 ·rcases V9 hx with rfl|rfl|hx
  ·exact hS
  ·exact hT
  ·exact ho x hx
 ·rcases V9 hx with rfl|rfl|LY
  ·exact un j n f hj
  ·exact uo j n f hj
  ·rcases VE hj with ⟨rfl,h1,_⟩|⟨h0,Ka⟩
   ·injection h1 with _ h1
    injection h1 with h1
    subst h1;exact jq h.size.1 (ho x LY) hE (by rw[LH];exact(Bq x LY).2.2.symm)
   ·exact h.free x (Bq x LY).1 j n f Ka
 ·rcases V9 hx with rfl|rfl|hx
  ·refine⟨hM.1.filter _,fun i=>?_⟩;show i∈M.filter (·≠k)↔∃ n f,(s.tab.set k ⟨g,some e'⟩)[i]? = some ⟨n,some f⟩∧f.region=r;rw[mem_filter,hM.2];constructor
   ·rintro⟨⟨n,f,h1,h2⟩,h3⟩;have h3:i≠k:=by simpa using h3
    exact⟨n,f,by rw[getElem?_set_ne (fun h=>h3 h.symm)];exact h1,h2⟩
   ·rintro⟨n,f,h1,h2⟩
    rcases VE h1 with ⟨rfl,h3,_⟩|⟨h0,h1⟩
    ·injection h3 with _ h3
     injection h3 with h3
     subst h3;exact absurd (LH.symm.trans h2) QB
    ·exact⟨⟨n,f,h1,h2⟩,by simpa using h0⟩
  ·have E5:k∉N:=fun h1=>by
    obtain⟨n,f,h2,h3⟩:=(hN.2 k).1 h1;rw[hk] at h2;injection h2 with h2
    injection h2 with _ h2
    injection h2 with h2
    subst h2;exact QB (h3.symm.trans hr)
   refine⟨OV hN.1 E5,fun i=>?_⟩;show i∈Za N k↔∃ n f,(s.tab.set k ⟨g,some e'⟩)[i]? = some ⟨n,some f⟩∧f.region=id;rw[OQ,hN.2];constructor
   ·rintro(rfl|⟨n,f,h1,h2⟩)
    ·exact⟨g,e',getElem?_set_self VB,LH⟩
    ·refine⟨n,f,?_,h2⟩;rw[getElem?_set_ne]
     ·exact h1
     ·intro h3;subst h3;exact E5 ((hN.2 _).2 ⟨n,f,h1,h2⟩)
   ·rintro⟨n,f,h1,h2⟩
    rcases VE h1 with ⟨rfl,h3,_⟩|⟨h0,h1⟩
    ·exact .inl rfl
    ·exact .inr ⟨n,f,h1,h2⟩
  ·obtain⟨u1,u2,u3⟩:=aW x hx;obtain⟨v1,v2⟩:=h.mine x u1;refine⟨v1,fun i=>?_⟩;show i∈x.2.2↔∃ n f,(s.tab.set k ⟨g,some e'⟩)[i]? = some ⟨n,some f⟩∧f.region=x.1;rw[v2];constructor
   ·rintro⟨n,f,h1,h2⟩;refine⟨n,f,?_,h2⟩;rw[getElem?_set_ne]
    ·exact h1
    ·intro h3;subst h3;rw[hk] at h1;injection h1 with h1
     injection h1 with _ h1
     injection h1 with h1
     subst h1;exact u2 (h2.symm.trans hr)
   ·rintro⟨n,f,h1,h2⟩
    rcases VE h1 with ⟨rfl,h3,_⟩|⟨h0,h1⟩
    ·injection h3 with _ h3
     injection h3 with h3
     subst h3;exact absurd (h2.symm.trans LH) u3
    ·exact⟨n,f,h1,h2⟩
theorem ur {s:CS} (h:WF s) {k g:Nat} {e:Q8} (hk:s.tab[k]? = some ⟨g,some e⟩) {r id:Int} (hr:e.region=r) (QB:id≠r) (QP:(s.par.map (·.1)).Nodup)
  {p1 p2:List (Int×Nat×QO)} {b0 bs:Nat} {S T:QO} (VL:s.sps=p1++(r,b0,S)::(p2++[(id,bs,T)]))
  {m1 m2:List (Int×Nat×List Nat)} {c0 bm:Nat} {M N:List Nat} (Vk:s.mns=m1++(r,c0,M)::(m2++[(id,bm,N)])) {a:Nat}
  (hs:Bb s.size T a (e.ws.length+1)) (Zw:∀ (j n:Nat) (f:Q8),j≠k→s.tab[j]? = some ⟨n,some f⟩→Qa f≤a∨a+(e.ws.length+1)≤f.addr) :
  WF { s with tab:=s.tab.set k ⟨g,some { e with region:=id,addr:=a }⟩,mns:=m1++(r,c0,M.filter (·≠k))::(m2++[(id,bm,Za N k)]) }:=by
 obtain⟨c,c1,c2,c3,c4⟩:=hs;have Ba:(id,bs,T)∈s.sps:=by rw[VL];simp
 have Yu:(r,b0,S)∈s.sps:=by rw[VL];simp
 have hT:=h.spc _ Ba;obtain⟨y,GR,KN,Fc⟩:=(hT.owned c).1 (BS c1 (Nat.le_refl _) (Nat.lt_succ_self _));have QM:=(List.getElem?_eq_some_iff.1 GR).1;have VO:(c+1)*s.size≤s.own.length*s.size:=Nat.mul_le_mul_right _ QM;have Vn:=h.size.1
 have hE:Ug s.size s.own { e with region:=id,addr:=a }:=by
  refine⟨by show a+1+e.ws.length≤_;omega,fun d h1 h2=>?_⟩;have h1:a / s.size≤d:=h1;have h2:d≤(a+e.ws.length) / s.size:=h2;have e1:a / s.size=c:=Nat.div_eq_of_lt_le (by omega) (by omega);have e2:(a+e.ws.length) / s.size=c:=Nat.div_eq_of_lt_le (by omega) (by omega);obtain rfl:d=c:=by omega
  exact⟨y,GR,KN,by omega⟩
 have hw:=jr (S':=S) (T':=T) (own':=s.own) (b0':=0) (bs':=0) h hk hr QB QP VL Vk (a:=a) rfl rfl hE (fun j n f _ hj=>(h.obj j n f hj).2.1) (fun j n f h0 hj=>by
   have:=Zw j n f h0 hj;show Qa f≤a∨a+1+e.ws.length≤f.addr;omega) (h.spc _ Yu) hT (fun x hx=>h.spc x (by
   rw[VL]
   rcases mem_append.1 hx with hx|hx
   ·exact mem_append.2 (.inl hx)
   ·exact mem_append.2 (.inr (mem_cons_of_mem _ (mem_append.2 (.inl hx)))))) (fun j n f hj=>?_) (fun j n f hj=>?_) (fun _ _ h1 _ => .inr h1)
 ·rw[← VL] at hw;exact hw
 ·rcases VE hj with ⟨rfl,h1,_⟩|⟨h0,hj⟩
  ·injection h1 with _ h1
   injection h1 with h1
   subst h1;exact jq Vn (h.spc _ Yu) hE QB
  ·exact h.free _ Yu j n f hj
 ·rcases VE hj with ⟨rfl,h1,_⟩|⟨h0,hj⟩
  ·injection h1 with _ h1
   injection h1 with h1
   subst h1;show a+1+e.ws.length≤T.at'∨T.fin≤a;omega
  ·exact h.free _ Ba j n f hj
theorem js {s s':CS} (h:WF s) {mem mem':List Nat} (m:Y8 s mem) {k g:Nat} {e:Q8} (hk:s.tab[k]? = some ⟨g,some e⟩) {id:Int} {a:Nat} (Zw:∀ (j n:Nat) (f:Q8),j≠k→s.tab[j]? = some ⟨n,some f⟩→Qa f≤a∨a+(e.ws.length+1)≤f.addr)
  (hl:mem'.length=mem.length) (V9:∀ i,i < e.ws.length+1→mem'[a+i]? = mem[e.addr+i]?) (YW:∀ j,j < a∨a+(e.ws.length+1)≤j→mem'[j]? = mem[j]?)
  (h1:s'.own.length=s.own.length) (h2:s'.size=s.size) (h3:s'.tab=s.tab.set k ⟨g,some { e with region:=id,addr:=a }⟩):Y8 s' mem':=by
 refine⟨by rw[h1,h2,hl];exact m.len,fun i n f hi=>?_,fun i n f hi p w hp=>?_⟩
 ·rw[h3] at hi
  rcases VE hi with ⟨rfl,u1,_⟩|⟨h0,hi⟩
  ·injection u1 with _ u1
   injection u1 with u1
   subst u1;have:=V9 0 (by omega);show mem'[a]? = _;rw[Nat.add_zero,Nat.add_zero] at this;rw[this];exact m.head _ _ _ hk
  ·rw[YW f.addr (by have:=Zw i n f h0 hi;unfold Qa at this;omega)];exact m.head i n f hi
 ·rw[h3] at hi
  rcases VE hi with ⟨rfl,u1,_⟩|⟨h0,hi⟩
  ·injection u1 with _ u1
   injection u1 with u1
   subst u1;have hp:e.ws[p]? = some w:=hp;have Uk:=(List.getElem?_eq_some_iff.1 hp).1;have:=V9 (1+p) (by omega);show mem'[a+1+p]? = _;rw[Nat.add_assoc,this,← Nat.add_assoc];exact m.words _ _ _ hk p w hp
  ·have Uk:=(List.getElem?_eq_some_iff.1 hp).1;rw[YW (f.addr+1+p) (by have:=Zw i n f h0 hi;unfold Qa at this;omega)];exact m.words i n f hi p w hp
theorem uu {s s':CS} (hP:Yi s) {k g:Nat} {e:Q8} {id:Int} {a:Nat} {bs:Nat} {T:QO} (hT:(id,bs,T)∈s'.sps) (hs:Bb s.size T a (e.ws.length+1)) (h1:s'.size=s.size) (h2:s'.tab=s.tab.set k ⟨g,some { e with region:=id,addr:=a }⟩) (h3:s'.sps=s.sps):Yi s':=by
 intro j n f hj;rw[h2] at hj
 rcases VE hj with ⟨rfl,u1,_⟩|⟨h0,hj⟩
 ·injection u1 with _ u1
  injection u1 with u1
  subst u1;obtain⟨c,c1,c2,c3,_⟩:=hs;refine⟨_,hT,rfl,(c,1),c1,.inl ⟨rfl,?_,?_⟩⟩
  ·rw[h1];exact c2
  ·rw[h1];show a+1+e.ws.length≤(c+1)*s.size;omega
 ·rw[h3,h1];exact hP j n f hj
theorem LI {l:List (Nat×Nat)} {c:Nat}:c∈QR l↔∃ y∈l,y.1≤c∧c < y.1+y.2:=by
 unfold QR;rw[mem_flatMap];constructor
 ·rintro⟨y,h1,h2⟩;exact⟨y,h1,XS.1 h2⟩
 ·rintro⟨y,h1,h2⟩;exact⟨y,h1,XS.2 h2⟩
theorem OP {A B:List (Nat×Nat)} {x:Nat×Nat} (h:(QR (A++x::B)).Nodup):(QR (A++B)).Nodup∧∀ c,x.1≤c→c < x.1+x.2→c∉QR (A++B):=by
 have e1:QR (A++x::B)=QR A++((List.range x.2).map (x.1+·)++QR B):=by
  rw[XP];rfl
 rw[e1,nodup_append] at h;obtain⟨h1,h2,h3⟩:=h;rw[nodup_append] at h2;obtain⟨h4,h5,h6⟩:=h2;rw[XP];refine⟨nodup_append.2 ⟨h1,h5,fun a ha b hb=>h3 a ha b (mem_append.2 (.inr hb))⟩,fun c Zn UC hc=>?_⟩;have hr:c∈(List.range x.2).map (x.1+·):=XS.2 ⟨Zn,UC⟩
 rcases mem_append.1 hc with hc|hc
 ·exact h3 c hc c (mem_append.2 (.inl hr)) rfl
 ·exact h6 c hr c hc rfl
theorem jt {α:Type} {l:List (Int×α)} (h:(l.map (·.1)).Nodup) {x y:Int×α} (hx:x∈l) (hy:y∈l) (he:x.1=y.1):x=y:=by
 obtain⟨a1,a2,h1⟩:=append_of_mem hx;obtain⟨_,h2⟩:=Kf (f:=fun z:Int×α=>z.1) h1 h;rw[h1] at hy
 rcases Uz hy with rfl|hy
 ·rfl
 ·exact absurd he.symm (h2 y hy).2
theorem X9.chunk {size:Nat} (hs:1≤size) {x:Nat×Nat} {e:Q8} (h:X9 size x e) {d:Nat} (h1:e.addr / size≤d) (h2:d≤(e.addr+e.ws.length) / size):x.1≤d∧d < x.1+x.2:=by
 obtain⟨h3,h4⟩:=rR hs h;have h5:x.1≤e.addr / size:=(Nat.le_div_iff_mul_le (by omega)).2 h3;have h6:(e.addr+e.ws.length) / size < x.1+x.2:=(Nat.div_lt_iff_lt_mul (by omega)).2 (by unfold Qa at h4;omega);omega
theorem aB {s:CS} (h:WF s) (hP:Yi s) (QP:(s.par.map (·.1)).Nodup) {k g:Nat} {e:Q8} (hk:s.tab[k]? = some ⟨g,some e⟩) {b0 c n:Nat} {S:QO} (Yu:(e.region,b0,S)∈s.sps) {A B:List (Nat×Nat)} (hp:S.parts=A++(c,n)::B) (hn:2≤n) (V9:X9 s.size (c,n) e)
  {j n':Nat} {f:Q8} (KG:j≠k) (hj:s.tab[j]? = some ⟨n',some f⟩) {d:Nat} (h1:f.addr / s.size≤d) (h2:d≤(f.addr+f.ws.length) / s.size):¬ (c≤d∧d < c+n):=by
 rintro⟨h3,h4⟩;have hS:=h.spc _ Yu;obtain⟨y,y1,y2,_⟩:=(hS.owned d).1 (BS (x:=(c,n)) (by rw[hp];simp) h3 h4);obtain⟨z,z1,z2,_⟩:=(h.obj j n' f hj).2.1.2 d h1 h2;rw[y1] at z1;injection z1 with z1
 subst z1;obtain⟨x,x1,x2,w,w1,w2⟩:=hP j n' f hj;obtain rfl:x=(e.region,b0,S):=jt (by rw[h.skeys];exact QP) x1 Yu (by rw[x2,← z2,y2]);have w1:w∈S.parts:=w1;obtain⟨w3,w4⟩:=w2.chunk h.size.1 h1 h2;rw[hp] at w1
 rcases Uz w1 with rfl|w1
 ·rcases w2 with ⟨w5,_⟩|⟨_,w5,_⟩
  ·have w5:n=1:=w5;omega
  ·rcases V9 with ⟨w6,_⟩|⟨_,w6,_⟩
   ·have w6:n=1:=w6;omega
   ·rcases h.apart k j g n' e f (fun h=>KG h.symm) hk hj with w7|w7 <;> unfold Qa at w7 <;> omega
 ·have WS:=hS.nodup;have WS:(QR S.parts).Nodup:=WS;rw[hp] at WS;exact(OP WS).2 d h3 h4 (BS w1 w3 w4)
theorem uv {s:CS} (h:WF s) (hP:Yi s) {k g:Nat} {e:Q8} (hk:s.tab[k]? = some ⟨g,some e⟩) {r:Int} {id:Nat} (hr:e.region=r) (QB:(id:Int)≠r) (QP:(s.par.map (·.1)).Nodup)
  {p1 p2:List (Int×Nat×QO)} {b0 bs:Nat} {S T:QO} (VL:s.sps=p1++(r,b0,S)::(p2++[((id:Int),bs,T)]))
  {m1 m2:List (Int×Nat×List Nat)} {c0 bm:Nat} {M N:List Nat} (Vk:s.mns=m1++(r,c0,M)::(m2++[((id:Int),bm,N)]))
  {A B:List (Nat×Nat)} {c n:Nat} (hp:S.parts=A++(c,n)::B) (hn:2≤n) (V9:X9 s.size (c,n) e) :
  WF { s with own:=VT s.own c n id,tab:=s.tab.set k ⟨g,some { e with region:=id,addr:=e.addr }⟩,sps:=p1++(r,b0,{ S with parts:=A++B })::(p2++[((id:Int),bs,{ T with parts:=T.parts++[(c,n)] })]),mns:=m1++(r,c0,M.filter (·≠k))::(m2++[((id:Int),bm,Za N k)]) }:=by
 have Ba:((id:Int),bs,T)∈s.sps:=by rw[VL];simp
 have Yu:(r,b0,S)∈s.sps:=by rw[VL];simp
 have hT:=h.spc _ Ba;have hS:=h.spc _ Yu;have RX:c+n≤s.own.length:=(hS.parts (c,n) (by show _∈S.parts;rw[hp];simp)).2;have R6:=fun i=>Ue (v:=id) RX i;have Vn:=h.size.1
 have OS:1≤id:=by
  have:(id:Int)∈s.par.map (·.1):=by rw[← h.skeys,VL];simp
  obtain⟨⟨x,z⟩,h1,h2⟩:=mem_map.1 this;have h2:x=(id:Int):=h2;have:=(h.par.2.2 x z h1).1;omega
 have Us:∀ d,c≤d→d < c+n→∃ y:Nat,s.own[d]? = some y∧(y:Int)=r∧y≠0:=fun d h1 h2=>(hS.owned d).1 (BS (x:=(c,n)) (by show _∈S.parts;rw[hp];simp) h1 h2);have uw:(QR (A++(c,n)::B)).Nodup:=by rw[← hp];exact hS.nodup
 obtain⟨Xy,Gp⟩:=OP uw;have ux:=fun {j n':Nat} {f:Q8} (KG:j≠k) (hj:s.tab[j]? = some ⟨n',some f⟩) {d:Nat}=>aB h hP QP hk (S:=S) (b0:=b0) (by rw[hr];exact Yu) hp hn V9 KG hj (d:=d)
 have H0:∀ x∈s.sps,∀ (j n':Nat) (f:Q8),(s.tab.set k ⟨g,some { e with region:=(id:Int),addr:=e.addr }⟩)[j]? = some ⟨n',some f⟩→Qa f≤x.2.2.at'∨x.2.2.fin≤f.addr:=by
  intro x hx j n' f hj
  rcases VE hj with ⟨rfl,h1,_⟩|⟨h0,hj⟩
  ·injection h1 with _ h1
   injection h1 with h1
   subst h1;exact(h.free x hx _ g e hk:Qa e≤x.2.2.at'∨x.2.2.fin≤e.addr)
  ·exact h.free x hx j n' f hj
 refine jr (b0':=0) (bs':=0) h hk hr QB QP VL Vk (e':={ e with region:=(id:Int),addr:=e.addr }) rfl (Yh RX) ?_ (fun j n' f h0 hj=>?_) (fun j n' f h0 hj=>(h.apart j k n' g f e h0 hj hk:Qa f≤e.addr∨Qa e≤f.addr)) ⟨hS.at1,fun hf=>?_,fun y hy=>?_,Xy,fun d=>?_⟩ ⟨hT.at1,fun hf=>?_,fun y hy=>?_,?_,fun d=>?_⟩ (fun x hx=>?_) (H0 _ Yu) (H0 _ Ba) (fun d x h1 h2=>?_)
 ·obtain⟨u1,u2⟩:=(h.obj _ _ _ hk).2.1;refine⟨by rw[Yh RX];exact u1,fun d h1 h2=>?_⟩;obtain⟨v1,v2⟩:=V9.chunk Vn h1 h2;exact⟨id,by rw[R6,if_pos ⟨v1,v2⟩],rfl,OS⟩
 ·obtain⟨u1,u2⟩:=(h.obj j n' f hj).2.1;refine⟨by rw[Yh RX];exact u1,fun d h1 h2=>?_⟩;rw[R6,if_neg (ux h0 hj h1 h2)];exact u2 d h1 h2
 ·obtain⟨d,d1,d2,d3⟩:=hS.fin hf;refine⟨d,d1,d2,?_⟩;have d3:(d,1)∈S.parts:=d3;rw[hp] at d3
  rcases Uz d3 with d3|d3
  ·injection d3 with _ d3
   omega
  ·exact d3
 ·rw[Yh RX];exact hS.parts y (by show y∈S.parts;rw[hp];exact Rj hy)
 ·show d∈QR (A++B)↔_;constructor
  ·intro hd
   have HY:d∈QR S.parts:=by
    obtain⟨y,y1,y2⟩:=LI.1 hd;rw[hp];exact LI.2 ⟨y,Rj y1,y2⟩
   obtain⟨y,y1,y2,y3⟩:=(hS.owned d).1 HY;refine⟨y,?_,y2,y3⟩;rw[R6,if_neg (fun h1=>Gp d h1.1 h1.2 hd)];exact y1
  ·rintro⟨y,y1,y2,y3⟩;rw[R6] at y1;split at y1
   ·injection y1 with y1
    subst y1;exact absurd y2 QB
   ·rename_i h1;have HY:=(hS.owned d).2 ⟨y,y1,y2,y3⟩;have HY:d∈QR S.parts:=HY;rw[hp] at HY;obtain⟨z,z1,z2⟩:=LI.1 HY
    rcases Uz z1 with rfl|z1
    ·exact absurd z2 h1
    ·exact LI.2 ⟨z,z1,z2⟩
 ·obtain⟨d,d1,d2,d3⟩:=hT.fin hf;exact⟨d,d1,d2,mem_append.2 (.inl d3)⟩
 ·rw[Yh RX];have hy:y∈T.parts++[(c,n)]:=hy
  rcases mem_append.1 hy with hy|hy
  ·exact hT.parts y hy
  ·rw[mem_singleton] at hy;subst hy;exact⟨by show 1≤n;omega,RX⟩
 ·show (QR (T.parts++[(c,n)])).Nodup;rw[XP,A4,nodup_append];refine⟨hT.nodup,Sn c n,fun x hx y hy Yv=>?_⟩;subst Yv;obtain⟨h1,h2⟩:=XS.1 hy;obtain⟨y,y1,y2,_⟩:=Us x h1 h2;obtain⟨z,z1,z2,_⟩:=(hT.owned x).1 hx;rw[y1] at z1;injection z1 with z1
  subst z1;exact QB (z2.symm.trans y2)
 ·show d∈QR (T.parts++[(c,n)])↔_;rw[XP,A4,mem_append,XS,R6];constructor
  ·rintro(h1|h1)
   ·obtain⟨y,y1,y2,y3⟩:=(hT.owned d).1 h1;refine⟨y,?_,y2,y3⟩;rw[if_neg]
    ·exact y1
    ·rintro⟨h2,h3⟩;obtain⟨z,z1,z2,_⟩:=Us d h2 h3;rw[y1] at z1;injection z1 with z1
     subst z1;exact QB (y2.symm.trans z2)
   ·exact⟨id,by rw[if_pos h1],rfl,by omega⟩
  ·rintro⟨y,y1,y2,y3⟩;by_cases h1:c≤d∧d < c+n
   ·exact .inr h1
   ·rw[if_neg h1] at y1;exact .inl ((hT.owned d).2 ⟨y,y1,y2,y3⟩)
 ·have Nh:x∈s.sps:=by
   rw[VL]
   rcases mem_append.1 hx with hx|hx
   ·exact mem_append.2 (.inl hx)
   ·exact mem_append.2 (.inr (mem_cons_of_mem _ (mem_append.2 (.inl hx))))
  have WR:(s.sps.map fun y=>y.1).Nodup:=by rw[h.skeys];exact QP
  have WT:x.1≠r:=by
   refine((Kf (f:=fun y:Int×Nat×QO=>y.1) VL WR).2 x ?_).2
   rcases mem_append.1 hx with hx|hx
   ·exact mem_append.2 (.inl hx)
   ·exact mem_append.2 (.inr (mem_append.2 (.inl hx)))
  have Rp:x.1≠(id:Int):=by
   have e1:s.sps=(p1++(r,b0,S)::p2)++((id:Int),bs,T)::[]:=by rw[VL];simp
   refine((Kf (f:=fun y:Int×Nat×QO=>y.1) e1 WR).2 x ?_).2;rw[append_nil];exact Rj hx
  obtain⟨a1,a2,a3,a4,a5⟩:=h.spc x Nh;refine⟨a1,a2,fun y hy=>by rw[Yh RX];exact a3 y hy,a4,fun d=>?_⟩;rw[a5,R6];by_cases h1:c≤d∧d < c+n
  ·rw[if_pos h1];obtain⟨y,y1,y2,y3⟩:=Us d h1.1 h1.2;constructor
   ·rintro⟨z,z1,z2,z3⟩;rw[y1] at z1;injection z1 with z1
    subst z1;exact absurd (z2.symm.trans y2) WT
   ·rintro⟨z,z1,z2,z3⟩;injection z1 with z1
    subst z1;exact absurd z2.symm Rp
  ·rw[if_neg h1]
 ·rw[R6] at h1;split at h1
  ·injection h1 with h1
   subst h1;exact .inl rfl
  ·exact .inr h1
theorem uy {s s':CS} (h:WF s) (hP:Yi s) {k g:Nat} {e:Q8} (hk:s.tab[k]? = some ⟨g,some e⟩) {r id:Int} (hr:e.region=r) (QP:(s.par.map (·.1)).Nodup)
  {p1 p2:List (Int×Nat×QO)} {b0 bs:Nat} {S T:QO} (VL:s.sps=p1++(r,b0,S)::(p2++[(id,bs,T)])) {A B:List (Nat×Nat)} {c n:Nat} (hp:S.parts=A++(c,n)::B) (hn:2≤n) (V9:X9 s.size (c,n) e)
  (h1:s'.size=s.size) (h2:s'.tab=s.tab.set k ⟨g,some { e with region:=id,addr:=e.addr }⟩) (h3:s'.sps=p1++(r,b0,{ S with parts:=A++B })::(p2++[(id,bs,{ T with parts:=T.parts++[(c,n)] })])):Yi s':=by
 have Yu:(r,b0,S)∈s.sps:=by rw[VL];simp
 intro j n' f hj;rw[h2] at hj;rw[h3,h1]
 rcases VE hj with ⟨rfl,u1,_⟩|⟨h0,hj⟩
 ·injection u1 with _ u1
  injection u1 with u1
  subst u1;exact⟨(id,bs,{ T with parts:=T.parts++[(c,n)] }),by simp,rfl,(c,n),mem_append.2 (.inr (by simp)),V9.alike rfl rfl⟩
 ·obtain⟨x,x1,x2,y,y1,y2⟩:=hP j n' f hj;have x1':=x1;rw[VL] at x1
  rcases mem_append.1 x1 with x1|x1
  ·exact⟨x,mem_append.2 (.inl x1),x2,y,y1,y2⟩
  ·rcases mem_cons.1 x1 with rfl|x1
   ·refine⟨(r,b0,{ S with parts:=A++B }),by simp,x2,y,?_,y2⟩;have y1:y∈S.parts:=y1;rw[hp] at y1
    rcases Uz y1 with rfl|y1
    ·exfalso;have E1:f.addr / s.size≤f.addr / s.size:=Nat.le_refl _;have B2:f.addr / s.size≤(f.addr+f.ws.length) / s.size:=Nat.div_le_div_right (by omega);exact aB h hP QP hk (S:=S) (b0:=b0) (by rw[hr];exact Yu) hp hn V9 h0 hj E1 B2 (y2.chunk h.size.1 E1 B2)
    ·exact y1
   ·rcases mem_append.1 x1 with x1|x1
    ·exact⟨x,mem_append.2 (.inr (mem_cons_of_mem _ (mem_append.2 (.inl x1)))),x2,y,y1,y2⟩
    ·rw[mem_singleton] at x1;subst x1;exact⟨(id,bs,{ T with parts:=T.parts++[(c,n)] }),by simp,x2,y,mem_append.2 (.inl y1),y2⟩
structure Pl where
 k:Nat
 g:Nat
 e:Q8
 a:Nat
def Uo (S:QO) (size:Nat) (e:Q8):Bool:=S.parts.any fun x=>decide (1 < x.2∧x.1≤e.addr / size∧e.addr / size < x.1+x.2)
theorem uz {l:List (Nat×Nat)} (h:(QR l).Nodup) {x y:Nat×Nat} (hx:x∈l) (hy:y∈l) {c:Nat} (h1:x.1≤c) (h2:c < x.1+x.2) (h3:y.1≤c) (h4:c < y.1+y.2):x=y:=by
 obtain⟨A,B,rfl⟩:=append_of_mem hx
 rcases Uz hy with rfl|hy
 ·rfl
 ·exact absurd (BS hy h3 h4) ((OP h).2 c h1 h2)
theorem ju {s:CS} (h:WF s) (QP:(s.par.map (·.1)).Nodup) (hP:Yi s) {k g:Nat} {e:Q8} (hk:s.tab[k]? = some ⟨g,some e⟩) {b0:Nat} {S:QO} (Yu:(e.region,b0,S)∈s.sps):∃ y∈S.parts,X9 s.size y e:=by
 obtain⟨x,x1,x2,y,y1,y2⟩:=hP k g e hk;obtain rfl:x=(e.region,b0,S):=jt (by rw[h.skeys];exact QP) x1 Yu x2;exact⟨y,y1,y2⟩
theorem v6 {s:CS} (h:WF s) (QP:(s.par.map (·.1)).Nodup) (hP:Yi s) {k g:Nat} {e:Q8} (hk:s.tab[k]? = some ⟨g,some e⟩) {b0:Nat} {S:QO} (Yu:(e.region,b0,S)∈s.sps) (hb:Uo S s.size e=false):e.ws.length+1≤s.size:=by
 obtain⟨y,y1,y2⟩:=ju h QP hP hk Yu
 rcases y2 with ⟨h1,h2,h3⟩|⟨h1,h2,h3⟩
 ·rw[Nat.add_mul] at h3;unfold Qa at h3;omega
 ·exfalso;have hs:=h.size.1;have h4:e.addr / s.size=y.1:=by rw[h2];exact Nat.mul_div_cancel _ (by omega)
  have:Uo S s.size e=true:=any_eq_true.2 ⟨y,y1,decide_eq_true ⟨by omega,by omega,by omega⟩⟩;rw[hb] at this;cases this
theorem vQ {s:CS} (h:WF s) (QP:(s.par.map (·.1)).Nodup) (hP:Yi s) {k g:Nat} {e:Q8} (hk:s.tab[k]? = some ⟨g,some e⟩) {b0:Nat} {S:QO} (Yu:(e.region,b0,S)∈s.sps) (hb:Uo S s.size e=true):∃ y∈S.parts,2≤y.2∧X9 s.size y e:=by
 obtain⟨x,x1,x2⟩:=any_eq_true.1 hb;obtain⟨x3,x4,x5⟩:=of_decide_eq_true x2;obtain⟨y,y1,y2⟩:=ju h QP hP hk Yu;obtain⟨y3,y4⟩:=y2.chunk h.size.1 (Nat.le_refl _) (Nat.div_le_div_right (by omega));obtain rfl:=uz (h.spc _ Yu).nodup x1 y1 x4 x5 y3 y4;exact⟨x,x1,x3,y2⟩
structure Zb (s:CS) (r:Nat) (S:QO) (Z:List Pl) (mem own' mem':List Nat) (T:QO):Prop where
 parts:∀ p∈T.parts,p.2=1∧s.own[p.1]? = some 0
 nd:(QR T.parts).Nodup
 at1:T.at'≤T.fin
 fin:T.fin≠0→∃ c,T.fin=(c+1)*s.size∧c*s.size < T.at'∧(c,1)∈T.parts
 ol:own'.length=s.own.length
 og:∀ j,own'.getD j 0=if j∈QR T.parts then r else s.own.getD j 0
 ml:mem'.length=mem.length
 mg:∀ a x,s.own[a / s.size]? = some x→x≠0→mem'[a]? = mem[a]?
 few:T.parts.length≤Z.length
 sit:∀ z∈Z,(Uo S s.size z.e=true∧z.a=z.e.addr)∨(Uo S s.size z.e=false∧Bb s.size T z.a (z.e.ws.length+1))
 apart:Z.Pairwise fun x y=>Uo S s.size x.e=false→Uo S s.size y.e=false→x.a+(x.e.ws.length+1)≤y.a∨y.a+(y.e.ws.length+1)≤x.a
theorem Zb.start (s:CS) (r:Nat) (S:QO) (mem:List Nat):Zb s r S [] mem s.own mem ⟨[],0,0⟩:=
 ⟨fun p hp=>(by cases hp),by simp[QR],Nat.le_refl _,fun h=>absurd rfl h,rfl,fun j=>by rw[if_neg (by simp[QR])],rfl,fun _ _ _ _=>rfl,Nat.le_refl _,fun z hz=>(by cases hz),.nil⟩
theorem Zb.big {s:CS} {r:Nat} {S T:QO} {Z:List Pl} {mem own' mem':List Nat} (h:Zb s r S Z mem own' mem' T) {z:Pl} (hb:Uo S s.size z.e=true) (ha:z.a=z.e.addr):Zb s r S (Z++[z]) mem own' mem' T:=by
 refine⟨h.parts,h.nd,h.at1,h.fin,h.ol,h.og,h.ml,h.mg,by rw[length_append];have:=h.few;omega,fun y hy=>?_,?_⟩
 ·rcases mem_append.1 hy with hy|hy
  ·exact h.sit y hy
  ·rw[mem_singleton] at hy;subst hy;exact .inl ⟨hb,ha⟩
 ·rw[pairwise_append];refine⟨h.apart,by simp,fun x hx y hy h1 h2=>?_⟩;rw[mem_singleton] at hy;subst hy;rw[hb] at h2;cases h2
theorem Zb.small {s:CS} (hw:WF s) {r:Nat} (hr:1≤r) {S T T':QO} {Z:List Pl} {mem own' mem' own2 mem2:List Nat} (h:Zb s r S Z mem own' mem' T) (GW:mem.length=s.own.length*s.size) {z:Pl} (hb:Uo S s.size z.e=false) (hn:z.e.ws.length+1≤s.size)
  (al:KM s.size own' mem' r T (z.e.ws.length+1) own2 mem2 T' z.a):Zb s r S (Z++[z]) mem own2 mem2 T':=by
 have Vn:=hw.size.1;obtain⟨zk,zg,e,a⟩:=z;have hb:Uo S s.size e=false:=hb;have hn:e.ws.length+1≤s.size:=hn;have al:KM s.size own' mem' r T (e.ws.length+1) own2 mem2 T' a:=al
 have fin2:∀ {U:QO},(∀ z∈Z,Uo S s.size z.e=false→Bb s.size U z.a (z.e.ws.length+1)∧(z.a+(z.e.ws.length+1)≤a∨a+(e.ws.length+1)≤z.a))→Bb s.size U a (e.ws.length+1) →
   (∀ z∈Z++[Pl.mk zk zg e a],(Uo S s.size z.e=true∧z.a=z.e.addr)∨(Uo S s.size z.e=false∧Bb s.size U z.a (z.e.ws.length+1))) ∧
   (Z++[Pl.mk zk zg e a]).Pairwise fun x y=>Uo S s.size x.e=false→Uo S s.size y.e=false→x.a+(x.e.ws.length+1)≤y.a∨y.a+(y.e.ws.length+1)≤x.a:=by
  intro U h1 h2;constructor
  ·intro y hy
   rcases mem_append.1 hy with hy|hy
   ·rcases h.sit y hy with h3|⟨h3,_⟩
    ·exact .inl h3
    ·exact .inr ⟨h3,(h1 y hy h3).1⟩
   ·rw[mem_singleton] at hy;subst hy;exact .inr ⟨hb,h2⟩
  ·rw[pairwise_append];refine⟨h.apart,by simp,fun x hx y hy h3 h4=>?_⟩;rw[mem_singleton] at hy;subst hy;exact(h1 x hx h3).2
 have OT:∀ z∈Z,Uo S s.size z.e=false→Bb s.size T z.a (z.e.ws.length+1):=fun z hz h1=>by
  rcases h.sit z hz with ⟨h2,_⟩|⟨_,h2⟩
  ·rw[h1] at h2;cases h2
  ·exact h2
 cases al with
 | room RM=>
  have vV:T.fin≠0:=by omega
  obtain⟨c,Zn,UC,Ku⟩:=h.fin vV
  obtain⟨f1,f2⟩:=fin2 (U:={ T with at':=T.at'+(e.ws.length+1) }) (fun z hz h1=>by
   obtain⟨d,d1,d2,d3,d4⟩:=OT z hz h1;refine⟨⟨d,d1,d2,d3,?_⟩,?_⟩
   ·show _≤T.at'+(e.ws.length+1)∨_
    rcases d4 with d4|d4
    ·left;omega
    ·exact .inr d4
   ·rcases d4 with d4|d4
    ·exact .inl d4
    ·right;omega) ⟨c,Ku,by omega,by rw[← Zn];omega,.inl (Nat.le_refl _)⟩
  refine⟨h.parts,h.nd,by show T.at'+_≤T.fin;omega,fun _=>⟨c,Zn,by show c*s.size < T.at'+_;omega,Ku⟩,h.ol,h.og,h.ml,h.mg,by rw[length_append];have:=h.few;show T.parts.length≤_;omega,f1,f2⟩
 | @one c hc hf Fv=>
  have QM:c < own'.length:=hc
  have aC:c∉QR T.parts:=fun h1=>by
   have h2:=h.og c;rw[if_pos h1,getD_eq_getElem?_getD,hf] at h2;have h2:(0:Nat)=r:=h2;omega
  have jv:s.own[c]? = some 0:=by
   have h2:=h.og c;rw[if_neg aC,getD_eq_getElem?_getD,hf,getD_eq_getElem?_getD,getElem?_eq_getElem (by rw[← h.ol];exact QM)] at h2;rw[getElem?_eq_getElem (by rw[← h.ol];exact QM)];have h2:(0:Nat)=s.own[c]'(by rw[← h.ol];exact QM):=h2;rw[← h2]
  have Ve:(c+1)*s.size=c*s.size+s.size:=Nat.succ_mul _ _;have VO:(c+1)*s.size≤s.own.length*s.size:=Nat.mul_le_mul_right _ (by rw[← h.ol];exact QM)
  obtain⟨f1,f2⟩:=fin2 (U:=⟨T.parts++[(c,1)],c*s.size+(e.ws.length+1),(c+1)*s.size⟩) (fun z hz h1=>by
   obtain⟨d,d1,d2,d3,d4⟩:=OT z hz h1;have vY:d≠c:=fun h2=>aC (h2▸BS d1 (Nat.le_refl _) (Nat.lt_succ_self _))
   rcases Nat.lt_or_gt_of_ne vY with h2|h2
   ·have h3:(d+1)*s.size≤c*s.size:=Nat.mul_le_mul_right _ h2;exact⟨⟨d,mem_append.2 (.inl d1),d2,d3,.inl (by show _≤c*s.size+_;omega)⟩,.inl (by omega)⟩
   ·have h3:(c+1)*s.size≤d*s.size:=Nat.mul_le_mul_right _ h2;exact⟨⟨d,mem_append.2 (.inl d1),d2,d3,.inr (by show (c+1)*s.size≤_;omega)⟩,.inr (by omega)⟩) ⟨c,by simp,Nat.le_refl _,by omega,.inl (Nat.le_refl _)⟩
  refine⟨fun p hp=>?_,?_,by show c*s.size+_≤(c+1)*s.size;omega,fun _=>⟨c,rfl,by show c*s.size < c*s.size+_;omega,by simp⟩,by rw[Yh hc];exact h.ol,fun j=>?_,?_,fun i x h1 h2=>?_,by have:=h.few;simp only[length_append,length_cons,length_nil];omega,f1,f2⟩
  ·rcases mem_append.1 (show p∈T.parts++[(c,1)] from hp) with hp|hp
   ·exact h.parts p hp
   ·rw[mem_singleton] at hp;subst hp;exact⟨rfl,jv⟩
  ·show (QR (T.parts++[(c,1)])).Nodup;rw[XP,A4,nodup_append];refine⟨h.nd,Sn c 1,fun x hx y hy Yv=>?_⟩;subst Yv;have:=XS.1 hy;obtain rfl:x=c:=by omega
   exact aC hx
  ·show _=if j∈QR (T.parts++[(c,1)]) then r else _;rw[CW hc,h.og,XP,A4];by_cases h1:c≤j∧j < c+1
   ·rw[if_pos h1,if_pos (mem_append.2 (.inr (XS.2 h1)))]
   ·rw[if_neg h1];by_cases h2:j∈QR T.parts
    ·rw[if_pos h2,if_pos (mem_append.2 (.inl h2))]
    ·rw[if_neg h2,if_neg];intro h3
     rcases mem_append.1 h3 with h3|h3
     ·exact h2 h3
     ·exact h1 (XS.1 h3)
  ·rw[Yh (by rw[h.ml,GW,Nat.one_mul];omega)];exact h.ml
  ·rw[Ue (by rw[h.ml,GW,Nat.one_mul];omega),if_neg]
   ·exact h.mg i x h1 h2
   ·rintro⟨h3,h4⟩;have:i / s.size=c:=Nat.div_eq_of_lt_le (by omega) (by omega);rw[this,jv] at h1;injection h1 with h1
    exact h2 h1.symm
 | @run c k hk hc hf Xy Gp=>
  exfalso;have:1*s.size≤(k - 1)*s.size:=Nat.mul_le_mul_right _ (by omega);omega
theorem vZ {s:CS} (h:WF s) {r:Nat} {S T:QO} {Z:List Pl} {mem own' mem':List Nat} (hA:Zb s r S Z mem own' mem' T) (hl:s.par.length < 64) (UD:s.last+1 < 1000000) {own2:List Nat} (Vi:own2.length=own'.length) (hog:∀ j,own2.getD j 0=if j∈QR T.parts then s.last+1 else own'.getD j 0) (bs bm:Nat) :
  WF { s with own:=own2,last:=s.last+1,par:=s.par++[(((s.last+1:Nat):Int),(r:Int))],sps:=s.sps++[(((s.last+1:Nat):Int),bs,T)],mns:=s.mns++[(((s.last+1:Nat):Int),bm,[])] }:=by
 have GK:∀ r x,(r,x)∈s.par→r≠((s.last+1:Nat):Int):=fun r x hx=>by
  have:=(h.par.2.2 r x hx).2;omega
 have Vn:=h.size.1
 have Zw:∀ c,c∈QR T.parts→s.own[c]? = some 0:=fun c hc=>by
  obtain⟨y,y1,y2,y3⟩:=LI.1 hc;obtain⟨y4,y5⟩:=hA.parts y y1;obtain rfl:c=y.1:=by omega
  exact y5
 have HZ:∀ j,own2.getD j 0=if j∈QR T.parts then s.last+1 else s.own.getD j 0:=fun j=>by
  rw[hog,hA.og];split <;> rfl
 have Co:own2.length=s.own.length:=Vi.trans hA.ol
 have jx:∀ (d y:Nat),s.own[d]? = some y→y≠0→own2[d]? = some y:=fun d y h1 h2=>by
  have hd:=(List.getElem?_eq_some_iff.1 h1).1;have h3:=HZ d;rw[if_neg (fun h4=>by rw[Zw d h4] at h1;injection h1 with h1;exact h2 h1.symm),getD_eq_getElem?_getD,getD_eq_getElem?_getD,h1,getElem?_eq_getElem (by omega)] at h3;rw[getElem?_eq_getElem (by omega)];exact congrArg some h3
 have Cp:∀ (d y:Nat),own2[d]? = some y→y≠0→(d∈QR T.parts∧y=s.last+1)∨s.own[d]? = some y:=fun d y h1 h2=>by
  have hd:=(List.getElem?_eq_some_iff.1 h1).1;have h3:=HZ d;rw[getD_eq_getElem?_getD,h1] at h3;by_cases h4:d∈QR T.parts
  ·rw[if_pos h4] at h3;exact .inl ⟨h4,h3⟩
  ·rw[if_neg h4,getD_eq_getElem?_getD,getElem?_eq_getElem (by omega)] at h3;rw[getElem?_eq_getElem (by omega)];exact .inr (congrArg some h3.symm)
 refine⟨h.size,by show 1≤own2.length∧own2.length≤63;rw[Co];exact h.own,h.slots,h.lays,h.gen,fun i g e hi=>?_,h.apart,⟨by show (s.par++[_]).length≤64;simp;omega,UD,?_⟩,?_,?_,fun x hx=>?_,fun x hx i g e hi=>?_,fun c x hc h0=>?_,?_⟩
 ·obtain⟨a,⟨b1,b2⟩,y,hy⟩:=h.obj i g e hi;refine⟨a,⟨by show _≤own2.length*_;rw[Co];exact b1,fun d d1 d2=>?_⟩,y,mem_append.2 (.inl hy)⟩;obtain⟨x,x1,x2,x3⟩:=b2 d d1 d2;exact⟨x,jx d x x1 (by omega),x2,x3⟩
 ·intro r x hx;have hx:(r,x)∈s.par++[_]:=hx;show 1≤r∧r≤((s.last+1:Nat):Int)
  rcases mem_append.1 hx with hx|hx
  ·have:=h.par.2.2 r x hx;omega
  ·simp at hx;omega
 ·have:=h.skeys;simp[this]
 ·have:=h.mkeys;simp[this]
 ·rcases mem_append.1 (show x∈s.sps++[_] from hx) with hx|hx
  ·obtain⟨a1,a2,a3,a4,a5⟩:=h.spc x hx;have aZ:x.1∈s.par.map (·.1):=by rw[← h.skeys];exact mem_map.2 ⟨x,hx,rfl⟩
   obtain⟨⟨x',z⟩,z1,z2⟩:=mem_map.1 aZ;have QB:x.1≠((s.last+1:Nat):Int):=by rw[← z2];exact GK _ _ z1
   refine⟨a1,a2,fun y hy=>by rw[Co];exact a3 y hy,a4,fun c=>?_⟩;rw[a5];constructor
   ·rintro⟨y,y1,y2,y3⟩;exact⟨y,jx c y y1 y3,y2,y3⟩
   ·rintro⟨y,y1,y2,y3⟩
    rcases Cp c y y1 y3 with ⟨_,h2⟩|h2
    ·exact absurd (by rw[← y2,h2]) QB
    ·exact⟨y,h2,y2,y3⟩
  ·rw[mem_singleton] at hx;subst hx;refine⟨hA.at1,hA.fin,fun y hy=>?_,hA.nd,fun c=>?_⟩
   ·obtain⟨y1,y2⟩:=hA.parts y hy;have:=(List.getElem?_eq_some_iff.1 y2).1;rw[Co];omega
   ·constructor
    ·intro hc;have QM:=(List.getElem?_eq_some_iff.1 (Zw c hc)).1;have h3:=HZ c;have Db:c < own2.length:=by omega
     rw[if_pos hc,getD_eq_getElem?_getD,getElem?_eq_getElem Db] at h3;exact⟨s.last+1,by show own2[c]? = _;rw[getElem?_eq_getElem Db];exact congrArg some h3,rfl,by omega⟩
    ·rintro⟨y,y1,y2,y3⟩
     rcases Cp c y y1 y3 with ⟨h2,_⟩|h2
     ·exact h2
     ·obtain⟨z,hz⟩:=h.live c y h2 y3;exact absurd y2 (GK _ _ hz)
 ·rcases mem_append.1 (show x∈s.sps++[_] from hx) with hx|hx
  ·exact h.free x hx i g e hi
  ·rw[mem_singleton] at hx;subst hx;show Qa e≤T.at'∨T.fin≤e.addr;by_cases h0:T.fin=0
   ·right;omega
   obtain⟨c,c1,c2,c3⟩:=hA.fin h0
   rcases (h.obj i g e hi).2.1.chunk Vn c with (h1|h1)|⟨y,y1,_,y3⟩
   ·left;omega
   ·right;omega
   ·rw[(hA.parts _ c3).2] at y1;injection y1 with y1
    omega
 ·rcases Cp c x hc h0 with ⟨_,h1⟩|h1
  ·exact⟨(r:Int),mem_append.2 (.inr (by rw[h1];simp))⟩
  ·obtain⟨y,hy⟩:=h.live c x h1 h0;exact⟨y,mem_append.2 (.inl hy)⟩
 ·intro x hx
  rcases mem_append.1 (show x∈s.mns++[_] from hx) with hx|hx
  ·exact h.mine x hx
  ·rw[mem_singleton] at hx;subst hx;refine⟨by simp,fun i=>⟨fun hc=>by simp at hc,?_⟩⟩;rintro⟨g,e,h1,h2⟩;obtain⟨_,_,y,hy⟩:=h.obj _ _ _ h1;exact absurd h2 (GK _ _ hy)
theorem jy {s s':CS} (h:WF s) {r:Nat} {S T:QO} {Z:List Pl} {mem own' mem':List Nat} (hA:Zb s r S Z mem own' mem' T) (m:Y8 s mem) (h1:s'.own.length=s.own.length) (h2:s'.size=s.size) (h3:s'.tab=s.tab):Y8 s' mem':=by
 have Vn:=h.size.1;refine⟨by rw[h1,h2,hA.ml];exact m.len,fun i g e hi=>?_,fun i g e hi p w hp=>?_⟩
 ·rw[h3] at hi;obtain⟨x,x1,_,x3⟩:=(h.obj i g e hi).2.1.2 (e.addr / s.size) (Nat.le_refl _) (Nat.div_le_div_right (by omega));rw[hA.mg _ x x1 (by omega)];exact m.head i g e hi
 ·rw[h3] at hi;have Uk:=(List.getElem?_eq_some_iff.1 hp).1;obtain⟨x,x1,_,x3⟩:=(h.obj i g e hi).2.1.2 ((e.addr+1+p) / s.size) (Nat.div_le_div_right (by omega)) (Nat.div_le_div_right (by omega));rw[hA.mg _ x x1 (by omega)];exact m.words i g e hi p w hp
theorem Zb.beside {s:CS} (h:WF s) {r:Nat} {S T:QO} {Z:List Pl} {mem own' mem':List Nat} (hA:Zb s r S Z mem own' mem' T) {a n:Nat} (hs:Bb s.size T a n) {j g:Nat} {f:Q8} (hj:s.tab[j]? = some ⟨g,some f⟩):Qa f≤a∨a+n≤f.addr:=by
 obtain⟨c,c1,c2,c3,_⟩:=hs
 rcases (h.obj j g f hj).2.1.chunk h.size.1 c with (h1|h1)|⟨y,y1,_,y3⟩
 ·left;omega
 ·right;omega
 ·rw[(hA.parts _ c1).2] at y1;injection y1 with y1
  omega
def Zt (id:Int) (Z:List Pl) (k:Nat) (e:Q8):Q8:=match Z.find? (fun z=>z.k == k) with
 | some z=>{ e with region:=id,addr:=z.a }
 | none=>e
theorem jz (id:Int) (Z:List Pl) (k:Nat) (e:Q8):(Zt id Z k e).lay=e.lay∧(Zt id Z k e).count=e.count∧(Zt id Z k e).ws=e.ws∧(Zt id Z k e).held=e.held∧(Zt id Z k e).pinned=e.pinned:=by
 unfold Zt;split <;> exact⟨rfl,rfl,rfl,rfl,rfl⟩
theorem aD {Z:List Pl} {k:Nat} (h:k∉Z.map Pl.k):Z.find? (fun z=>z.k == k)=none:=by
 rw[find?_eq_none];intro z hz h1;exact h (mem_map.2 ⟨z,hz,by simpa using h1⟩)
theorem HG {id:Int} {Z:List Pl} {k:Nat} (h:k∉Z.map Pl.k) (e:Q8):Zt id Z k e=e:=by
 unfold Zt;rw[aD h]
theorem vG {id:Int} {Z:List Pl} {z:Pl} {k:Nat} (h:k≠z.k) (e:Q8):Zt id (Z++[z]) k e=Zt id Z k e:=by
 unfold Zt;rw[find?_append,find?_cons_of_neg (by simpa using fun h1=>h h1.symm),find?_nil,Option.or_none]
theorem vU {id:Int} {Z:List Pl} {z:Pl} (h:z.k∉Z.map Pl.k) (e:Q8):Zt id (Z++[z]) z.k e={ e with region:=id,addr:=z.a }:=by
 unfold Zt;rw[find?_append,aD h,find?_cons_of_pos (by simp),Option.none_or]
theorem aE {id:Int} {Z:List Pl} (QP:(Z.map Pl.k).Nodup) {z:Pl} (hz:z∈Z) (e:Q8):Zt id Z z.k e={ e with region:=id,addr:=z.a }:=by
 obtain⟨A,B,rfl⟩:=append_of_mem hz;rw[map_append,map_cons,nodup_append] at QP;have h1:z.k∉A.map Pl.k:=fun h=>QP.2.2 _ h _ mem_cons_self rfl;unfold Zt;rw[find?_append,aD h1,find?_cons_of_pos (by simp),Option.none_or]
def vX (s:CS) (r:Int) (S T:QO) (z:Pl):Prop:=s.tab[z.k]? = some ⟨z.g,some z.e⟩∧z.e.region=r ∧
 ((z.a=z.e.addr∧∃ y∈S.parts,2≤y.2∧X9 s.size y z.e)∨(z.a≠z.e.addr∧Bb s.size T z.a (z.e.ws.length+1)∧∀ (j n:Nat) (f:Q8),s.tab[j]? = some ⟨n,some f⟩→Qa f≤z.a∨z.a+(z.e.ws.length+1)≤f.addr))
structure RK (s:CS) (r:Int) (id:Nat) (Zd Zp:List Pl) (s':CS) (S T:QO):Prop where
 size:s'.size=s.size
 own:s'.own.length=s.own.length
 lays:s'.lays=s.lays
 last:s'.last=s.last+1
 par:s'.par=s.par++[((id:Int),r)]
 rem:s'.rem=s.rem
 tabl:s'.tab.length=s.tab.length
 tab:∀ (k:Nat) (t:QW),s.tab[k]? = some t→s'.tab[k]? = some ⟨t.gen,t.ent.map (Zt id Zd k)⟩
 part:Yi s'
 pend:∀ z∈Zp,vX s' r S T z
 apart:Zp.Pairwise fun x y=>x.a≠x.e.addr→y.a≠y.e.addr→x.a+(x.e.ws.length+1)≤y.a∨y.a+(y.e.ws.length+1)≤x.a
 keys:((Zd++Zp).map Pl.k).Nodup
 zero:Zd++Zp=[]→s'.own=s.own
theorem k9 {s s':CS} {id:Nat} {Zd:List Pl} (Bt:s'.tab.length=s.tab.length) (ht:∀ (k:Nat) (t:QW),s.tab[k]? = some t→s'.tab[k]? = some ⟨t.gen,t.ent.map (Zt id Zd k)⟩) {z:Pl} (hz:s'.tab[z.k]? = some ⟨z.g,some z.e⟩) (hk:z.k∉Zd.map Pl.k)
  (k:Nat) (t:QW) (HU:s.tab[k]? = some t):(s'.tab.set z.k ⟨z.g,some { z.e with region:=(id:Int),addr:=z.a }⟩)[k]? = some ⟨t.gen,t.ent.map (Zt id (Zd++[z]) k)⟩:=by
 have h1:=ht k t HU;have VB:=(List.getElem?_eq_some_iff.1 h1).1;obtain⟨g0,e0⟩:=t;by_cases hkz:z.k=k
 ·subst hkz;rw[hz] at h1;injection h1 with h1
  injection h1 with h2 h3
  rw[getElem?_set_self VB,h2];cases e0 with
  | none=>cases h3
  | some e=>
   injection h3 with h3
   rw[HG hk] at h3;subst h3;show _=some (QW.mk g0 (some (Zt id (Zd++[z]) z.k z.e)));rw[vU hk]
 ·rw[getElem?_set_ne hkz,h1];cases e0 with
  | none=>rfl
  | some e=>
   show some (QW.mk g0 (some (Zt id Zd k e)))=some (QW.mk g0 (some (Zt id (Zd++[z]) k e)));rw[vG (fun h=>hkz h.symm)]
theorem RK.facts {s:CS} {r:Int} {id:Nat} {Zd Zp:List Pl} {z:Pl} {s':CS} {S T:QO} (h:RK s r id Zd (z::Zp) s' S T):z.k∉Zd.map Pl.k∧(∀ y∈Zp,y.k≠z.k)∧((Zd++[z]++Zp).map Pl.k).Nodup:=by
 have h1:=h.keys;refine⟨fun h2=>?_,fun y hy h2=>?_,by rw[append_assoc];exact h1⟩
 ·rw[map_append,nodup_append] at h1;exact h1.2.2 _ h2 z.k (by simp) rfl
 ·rw[map_append,nodup_append,map_cons,nodup_cons] at h1;exact h1.2.1.1 (h2▸mem_map.2 ⟨y,hy,rfl⟩)
theorem RK.shift {s:CS} {r:Int} {id:Nat} {Zd Zp:List Pl} {z:Pl} {s' s2:CS} {S T:QO} (h:RK s r id Zd (z::Zp) s' S T) (Rq:z.a≠z.e.addr) {bs:Nat} (hT:((id:Int),bs,T)∈s'.sps)
  (h1:s2.size=s'.size) (h2:s2.own=s'.own) (h3:s2.lays=s'.lays) (h4:s2.last=s'.last) (h5:s2.par=s'.par) (h6:s2.rem=s'.rem) (h7:s2.tab=s'.tab.set z.k ⟨z.g,some { z.e with region:=(id:Int),addr:=z.a }⟩) (h8:s2.sps=s'.sps):RK s r id (Zd++[z]) Zp s2 S T:=by
 obtain⟨XT,VN,CI⟩:=h.facts;obtain⟨q1,q2,q3⟩:=h.pend z mem_cons_self
 rcases q3 with ⟨q3,_⟩|⟨_,q4,q5⟩
 ·exact absurd q3 Rq
 have GF:=h.apart;rw[pairwise_cons] at GF;refine⟨h1.trans h.size,by rw[h2];exact h.own,h3.trans h.lays,h4.trans h.last,h5.trans h.par,h6.trans h.rem,by rw[h7,length_set];exact h.tabl,fun k t hk=>by rw[h7];exact k9 h.tabl h.tab q1 XT k t hk,uu h.part (bs:=bs) (T:=T) (by rw[h8];exact hT) q4 h1 h7 h8,fun y hy=>?_,GF.2,CI,fun h0=>by simp at h0⟩;obtain⟨y1,y2,y3⟩:=h.pend y (mem_cons_of_mem _ hy);refine⟨by rw[h7,getElem?_set_ne (fun h=>VN y hy h.symm)];exact y1,y2,?_⟩;rw[h1]
 rcases y3 with y3|⟨y3,y4,y5⟩
 ·exact .inl y3
 ·refine .inr ⟨y3,y4,fun j n f hj=>?_⟩;rw[h7] at hj
  rcases VE hj with ⟨rfl,u1,_⟩|⟨h0,hj⟩
  ·injection u1 with _ u1
   injection u1 with u1
   subst u1;have:=GF.1 y hy Rq y3;show z.a+1+z.e.ws.length≤y.a∨_≤z.a;omega
  ·exact y5 j n f hj
theorem RK.hand {s:CS} {r:Int} {id:Nat} {Zd Zp:List Pl} {z:Pl} {s' s2:CS} {S T:QO} (h:RK s r id Zd (z::Zp) s' S T) (hw:WF s') (QP:(s'.par.map (·.1)).Nodup) (Rq:z.a=z.e.addr)
  {p1 p2:List (Int×Nat×QO)} {b0 bs:Nat} (VL:s'.sps=p1++(r,b0,S)::(p2++[((id:Int),bs,T)])) {A B:List (Nat×Nat)} {c n:Nat} (hp:S.parts=A++(c,n)::B) (hn:2≤n) (V9:X9 s'.size (c,n) z.e)
  (h1:s2.size=s'.size) (h2:s2.own.length=s'.own.length) (h3:s2.lays=s'.lays) (h4:s2.last=s'.last) (h5:s2.par=s'.par) (h6:s2.rem=s'.rem) (h7:s2.tab=s'.tab.set z.k ⟨z.g,some { z.e with region:=(id:Int),addr:=z.e.addr }⟩)
  (h8:s2.sps=p1++(r,b0,{ S with parts:=A++B })::(p2++[((id:Int),bs,{ T with parts:=T.parts++[(c,n)] })])):RK s r id (Zd++[z]) Zp s2 { S with parts:=A++B } { T with parts:=T.parts++[(c,n)] }:=by
 obtain⟨XT,VN,CI⟩:=h.facts;obtain⟨q1,q2,q3⟩:=h.pend z mem_cons_self;have GF:=h.apart;rw[pairwise_cons] at GF;have Yu:(r,b0,S)∈s'.sps:=by rw[VL];simp
 refine⟨h1.trans h.size,by rw[h2];exact h.own,h3.trans h.lays,h4.trans h.last,h5.trans h.par,h6.trans h.rem,by rw[h7,length_set];exact h.tabl,fun k t hk=>by rw[h7,← Rq];exact k9 h.tabl h.tab q1 XT k t hk,uy hw h.part q1 q2 QP VL hp hn V9 h1 h7 h8,fun y hy=>?_,GF.2,CI,fun h0=>by simp at h0⟩;obtain⟨y1,y2,y3⟩:=h.pend y (mem_cons_of_mem _ hy);refine⟨by rw[h7,getElem?_set_ne (fun h=>VN y hy h.symm)];exact y1,y2,?_⟩;rw[h1]
 rcases y3 with ⟨y3,x,x1,x2,x3⟩|⟨y3,⟨d,d1,d2,d3,d4⟩,y5⟩
 ·refine .inl ⟨y3,x,?_,x2,x3⟩;rw[hp] at x1
  rcases Uz x1 with rfl|x1
  ·exfalso;have E1:y.e.addr / s'.size≤y.e.addr / s'.size:=Nat.le_refl _;have B2:y.e.addr / s'.size≤(y.e.addr+y.e.ws.length) / s'.size:=Nat.div_le_div_right (by omega);exact aB hw h.part QP q1 (S:=S) (b0:=b0) (by rw[q2];exact Yu) hp hn V9 (VN y hy) y1 E1 B2 (x3.chunk hw.size.1 E1 B2)
  ·exact x1
 ·refine .inr ⟨y3,⟨d,mem_append.2 (.inl d1),d2,d3,d4⟩,fun j m f hj=>?_⟩;rw[h7] at hj
  rcases VE hj with ⟨rfl,u1,_⟩|⟨h0,hj⟩
  ·injection u1 with _ u1
   injection u1 with u1
   subst u1;exact(y5 z.k z.g z.e q1:Qa z.e≤y.a∨y.a+(y.e.ws.length+1)≤z.e.addr)
  ·exact y5 j m f hj
theorem vK {s:CS} {r:Nat} {S T:QO} {Z:List Pl} {mem own' mem' own2:List Nat} {n:Nat} (hA:Zb s r S Z mem own' mem' T) (hl:own2.length=own'.length) (hg:∀ j,own2.getD j 0=if j∈QR T.parts then n else own'.getD j 0) (hZ:Z=[]):own2=s.own:=by
 have h1:=hA.few;rw[hZ] at h1;have h2:T.parts=[]:=eq_nil_of_length_eq_zero (Nat.le_zero.1 h1);have h3:∀ j,j∉QR T.parts:=fun j h=>by rw[h2] at h;simp[QR] at h
 have h4:own2.length=s.own.length:=hl.trans hA.ol;refine ext_getElem h4 fun j j1 j2=>?_;have h5:=hg j;rw[if_neg (h3 j),hA.og,if_neg (h3 j),getD_eq_getElem?_getD,getD_eq_getElem?_getD,getElem?_eq_getElem j1,getElem?_eq_getElem j2] at h5;exact h5
theorem vR {s:CS} (hw:WF s) (QP:(s.par.map (·.1)).Nodup) (hP:Yi s) {r:Nat} {b0:Nat} {S T:QO} (Yu:((r:Int),b0,S)∈s.sps) {Z:List Pl} {mem own' mem':List Nat} (hA:Zb s r S Z mem own' mem' T)
  (Cq:∀ z∈Z,s.tab[z.k]? = some ⟨z.g,some z.e⟩∧z.e.region=(r:Int)) (Oa:(Z.map Pl.k).Nodup) {own2:List Nat} (Vi:own2.length=s.own.length) (UP:Z=[]→own2=s.own) (bs bm:Nat) :
  RK s r (s.last+1) [] Z { s with own:=own2,last:=s.last+1,par:=s.par++[(((s.last+1:Nat):Int),(r:Int))],sps:=s.sps++[(((s.last+1:Nat):Int),bs,T)],mns:=s.mns++[(((s.last+1:Nat):Int),bm,[])] } S T:=by
 have Zg:∀ z∈Z,z.a≠z.e.addr→Uo S s.size z.e=false:=fun z hz h1=>by
  rcases hA.sit z hz with ⟨_,h2⟩|⟨h2,_⟩
  ·exact absurd h2 h1
  ·exact h2
 refine⟨rfl,Vi,rfl,rfl,rfl,rfl,rfl,fun k t hk=>?_,fun k g e hk=>?_,fun z hz=>?_,?_,Oa,UP⟩
 ·show s.tab[k]? = _;rw[hk];obtain⟨g,e⟩:=t;cases e <;> rfl
 ·obtain⟨x,x1,x2,x3⟩:=hP k g e hk;exact⟨x,mem_append.2 (.inl x1),x2,x3⟩
 ·obtain⟨h1,h2⟩:=Cq z hz;have vA:(z.e.region,b0,S)∈s.sps:=by rw[h2];exact Yu
  refine⟨h1,h2,?_⟩
  rcases hA.sit z hz with ⟨h3,h4⟩|⟨h3,h4⟩
  ·exact .inl ⟨h4,vQ hw QP hP h1 vA h3⟩
  ·refine .inr ⟨fun h5=>?_,h4,fun j n f hj=>hA.beside hw h4 hj⟩;have:=hA.beside hw h4 h1;unfold Qa at this;omega
 ·exact hA.apart.imp_of_mem fun hx hy h1 h2 h3=>h1 (Zg _ hx h2) (Zg _ hy h3)
structure AC (s:CS) (r:Int) (Z:List Pl) (s':CS):Prop where
 size:s'.size=s.size
 own:s'.own.length=s.own.length
 lays:s'.lays=s.lays
 last:s'.last=s.last+1
 par:s'.par=s.par++[(((s.last+1:Nat):Int),r)]
 tabl:s'.tab.length=s.tab.length
 tab:∀ (k:Nat) (t:QW),s.tab[k]? = some t→s'.tab[k]? = some ⟨t.gen,t.ent.map (Zt ((s.last+1:Nat):Int) Z k)⟩
 ents:∀ z∈Z,s.tab[z.k]? = some ⟨z.g,some z.e⟩∧z.e.region=r
 keys:(Z.map Pl.k).Nodup
 rem:∃ D,jl s' (fun k=>∃ g e,s'.tab[k]? = some ⟨g,some e⟩∧(e.region=r∨e.region=((s.last+1:Nat):Int))) D∧Gy s' s.rem D s'.rem
 part:Yi s'
 zero:Z=[]→s'.own=s.own
theorem AC.mv {s s':CS} {r:Int} {Z:List Pl} (h:AC s r Z s'):RG s s' (Zt ((s.last+1:Nat):Int) Z):=⟨h.lays,h.tabl,h.tab,fun k e=>jz _ Z k e⟩
theorem kQ {s s':CS} (hw:WF s) {r:Int} (hr:r≤s.last) {Z:List Pl} (h:AC s r Z s') (hI:Inv s):Inv s':=by
 obtain⟨D,hD,hN⟩:=h.rem;refine jn h.mv hI hN fun k g p a b e f OO hk hp KQ ha=>?_;have VZ:∀ P:Prop,((Zt ((s.last+1:Nat):Int) Z k e).region=r∨(Zt ((s.last+1:Nat):Int) Z k e).region=((s.last+1:Nat):Int))→P:=fun P h1=>absurd ((hD _).2 ⟨k,g,_,⟨g,_,h.mv.at hk,h1⟩,h.mv.at hk,jm.2 ⟨p,rfl,by rw[(jz _ Z k e).2.2.1];exact hp,by rw[h.mv.lay k e];exact KQ⟩⟩) OO
 have ON:k∉Z.map Pl.k:=fun h1=>by
  obtain⟨z,z1,z2⟩:=mem_map.1 h1;subst z2;exact VZ _ (.inr (by rw[aE h.keys z1]))
 rw[HG ON] at VZ;rw[HG ON];have HX:e.region≠r:=fun h1=>VZ _ (.inl h1)
 have kV:e.region≤s.last:=by
  obtain⟨_,_,q,hq⟩:=hw.obj k g e hk;exact(hw.par.2.2 _ _ hq).2
 by_cases haZ:a∈Z.map Pl.k
 ·obtain⟨z,z1,z2⟩:=mem_map.1 haZ;subst z2;obtain⟨z3,z4⟩:=h.ents z z1;rw[ha] at z3;injection z3 with z3
  injection z3 with _ z3
  injection z3 with z3
  rw[aE h.keys z1,z3,z4]
  exact⟨fun _ h1=>HX h1.symm,fun _ h1=>by
   have h1:((s.last+1:Nat):Int)=e.region:=h1;omega⟩
 ·rw[HG haZ]
def E6 (P:List Int):Prop:=∀ (i:Nat) (q:Int),1≤i→P[i]? = some q→q < i
def Cr (P:List Int) (id:Int):Nat→Int→Bool
 | 0,_=>false
 | n+1,i=>if 0 < i then (if i=id then true else Cr P id n (P.getD i.toNat 0)) else false
def Up (P:List Int) (id i:Int):Bool:=Cr P id i.toNat i
theorem LJ (P:List Int) (id:Int) (n:Nat) {i:Int} (h:i≤0):Cr P id n i=false:=by
 cases n with
 | zero=>rfl
 | succ n=>unfold Cr;rw[if_neg (by omega)]
theorem aF {P:List Int} (h:E6 P) (id:Int):∀ (n:Nat) (i:Int),i≤n→i < P.length→Cr P id n i=Up P id i
 | 0,i,h1,_=>by
  unfold Up;rw[LJ P id _ (by omega),LJ P id _ (by omega)]
 | n+1,i,h1,h2=>by
  by_cases h0:0 < i
  ·obtain⟨k,rfl⟩:∃ k:Nat,i=(k+1:Nat):=⟨i.toNat - 1,by omega⟩;have hk:k+1 < P.length:=by omega
   have hg:P.getD (k+1) 0 < ((k+1:Nat):Int):=h (k+1) _ (by omega) (by rw[getD_eq_getElem?_getD,getElem?_eq_getElem hk];rfl);unfold Up;rw[Int.toNat_natCast];unfold Cr;rw[if_pos h0,if_pos h0,Int.toNat_natCast];by_cases h3:((k+1:Nat):Int)=id
   ·rw[if_pos h3,if_pos h3]
   ·rw[if_neg h3,if_neg h3,aF h id n _ (by omega) (by omega),aF h id k _ (by omega) (by omega)]
  ·unfold Up;rw[LJ P id _ (by omega),LJ P id _ (by omega)]
theorem kY {P:List Int} (h:E6 P) {id i:Int} (h0:0 < i) (hl:i < P.length):Up P id i=if i=id then true else Up P id (P.getD i.toNat 0):=by
 obtain⟨k,rfl⟩:∃ k:Nat,i=(k+1:Nat):=⟨i.toNat - 1,by omega⟩;have hk:k+1 < P.length:=by omega
 have hg:P.getD (k+1) 0 < ((k+1:Nat):Int):=h (k+1) _ (by omega) (by rw[getD_eq_getElem?_getD,getElem?_eq_getElem hk];rfl);rw[Int.toNat_natCast];show Cr P id (((k+1:Nat):Int).toNat) _=_;rw[Int.toNat_natCast];show (if (0:Int) < ((k+1:Nat):Int) then (if ((k+1:Nat):Int)=id then true else Cr P id k (P.getD ((k+1:Nat):Int).toNat 0)) else false)=_;rw[if_pos h0,Int.toNat_natCast];by_cases h3:((k+1:Nat):Int)=id
 ·rw[if_pos h3,if_pos h3]
 ·rw[if_neg h3,if_neg h3,aF h id k _ (by omega) (by omega)]
theorem kZ (P:List Int) (id:Int) {i:Int} (h:i≤0):Up P id i=false:=LJ P id _ h
def Cs (P:List Int) (id:Int) (k:Nat):List Nat:=(List.range k).filter fun i=>decide (1≤i∧0≤P.getD i 0) && Up P id i
def Uq (P:List Int) (id:Int):List Nat:=Cs P id P.length
theorem vB (P:List Int) (id:Int) (k:Nat) (hk:1≤k):Cs P id (k+1)=Cs P id k++if 0≤P.getD k 0∧Up P id k=true then [k] else []:=by
 unfold Cs;rw[range_succ,filter_append];congr 1;by_cases h1:0≤P.getD k 0
 ·by_cases h2:Up P id k=true
  ·rw[if_pos ⟨h1,h2⟩,filter_cons,if_pos (by rw[h2,decide_eq_true ⟨hk,h1⟩];rfl),filter_nil]
  ·rw[if_neg (fun h=>h2 h.2),filter_cons,if_neg (by simpa using fun _ _=>h2),filter_nil]
 ·rw[if_neg (fun h=>h1 h.1),filter_cons,if_neg (by rw[decide_eq_false (fun h=>h1 h.2)];simp),filter_nil]
theorem kG {P:List Int} {id:Int} {k i:Nat}:i∈Cs P id k↔i < k∧(1≤i∧0≤P.getD i 0)∧Up P id i=true:=by
 unfold Cs;rw[mem_filter,mem_range,Bool.and_eq_true,decide_eq_true_eq]
theorem aH (P:List Int) (id:Int) (k:Nat):(Cs P id k).length≤k:=by
 have:=length_filter_le (fun i=>decide (1≤i∧0≤P.getD i 0) && Up P id (i:Nat)) (List.range k);rw[length_range] at this;exact this
def Yd (P:List Int) (L:List Nat):List Int:=P.mapIdx fun k q=>if k∈L then -1 else q
theorem vC (P:List Int):Yd P []=P:=by
 unfold Yd;apply ext_getElem?;intro i;rw[getElem?_mapIdx];cases P[i]? <;> simp
theorem aI (P:List Int) (L:List Nat):(Yd P L).length=P.length:=length_mapIdx
theorem vD (P:List Int) (L:List Nat) (k:Nat):(Yd P L).set k (-1)=Yd P (L++[k]):=by
 apply ext_getElem?;intro i;rw[getElem?_set];unfold Yd;rw[getElem?_mapIdx,getElem?_mapIdx,length_mapIdx];by_cases h:k=i
 ·subst h;rw[if_pos rfl];by_cases hl:k < P.length
  ·rw[if_pos hl,getElem?_eq_getElem hl];simp
  ·rw[if_neg hl,getElem?_eq_none (by omega)];rfl
 ·rw[if_neg h];cases P[i]? with
  | none=>rfl
  | some q=>
   have h2:i∈L++[k]↔i∈L:=by
    rw[mem_append,mem_singleton];exact⟨fun h4=>h4.elim id fun h5=>absurd h5.symm h,.inl⟩
   simp only[Option.map_some,h2]
def Gg (P:List Int) (id q:Nat):List Int:=P.mapIdx fun k x=>if k=id then -1 else if 1≤k∧x=(id:Int) then (q:Int) else x
def Kg (P:List Int) (id q n:Nat):List Int:=P.mapIdx fun k x=>if (1≤k∧k < n)∧x=(id:Int) then (q:Int) else x
theorem HK (P:List Int) (id q n:Nat):(Kg P id q n).length=P.length:=length_mapIdx
theorem E7 (P:List Int) (id q n k:Nat):(Kg P id q n)[k]? = (P[k]?).map fun x=>if (1≤k∧k < n)∧x=(id:Int) then (q:Int) else x:=getElem?_mapIdx
theorem vE {P:List Int} {id q:Nat}:Kg P id q 1=P:=by
 apply ext_getElem?;intro i;rw[E7];cases hi:P[i]? with
 | none=>rfl
 | some x=>
  simp only[Option.map_some];rw[if_neg];rintro⟨h1,h2⟩;omega
theorem vF {P:List Int} {id q n:Nat} (hn:1≤n) (h:P[n]? = some (id:Int)):(Kg P id q n).set n (q:Int)=Kg P id q (n+1):=by
 apply ext_getElem?;intro i;rw[getElem?_set,E7,E7,HK];have hl:=(List.getElem?_eq_some_iff.1 h).1;by_cases hi:n=i
 ·subst hi;rw[if_pos rfl,if_pos hl,h];simp only[Option.map_some];rw[if_pos ⟨⟨hn,by omega⟩,trivial⟩]
 ·rw[if_neg hi];cases P[i]? with
  | none=>rfl
  | some x=>
   simp only[Option.map_some];have:(1≤i∧i < n+1)↔(1≤i∧i < n):=by omega
   simp only[this]
theorem vH {P:List Int} {id q n:Nat} {x:Int} (h:P[n]? = some x) (hx:x≠(id:Int)):Kg P id q n=Kg P id q (n+1):=by
 apply ext_getElem?;intro i;rw[E7,E7];cases hP:P[i]? with
 | none=>rfl
 | some y=>
  simp only[Option.map_some];by_cases hi:i=n
  ·subst hi;rw[h] at hP;injection hP with hP
   subst hP;rw[if_neg (fun h=>hx h.2),if_neg (fun h=>hx h.2)]
  ·have:i < n+1↔i < n:=by omega
   simp only[this]
theorem vI (P:List Int) (id q:Nat):(Kg P id q P.length).set id (-1)=Gg P id q:=by
 apply ext_getElem?;intro i;unfold Gg;rw[getElem?_set,E7,HK,getElem?_mapIdx];by_cases hi:id=i
 ·subst hi;rw[if_pos rfl];by_cases hl:id < P.length
  ·rw[if_pos hl,getElem?_eq_getElem hl];simp
  ·rw[if_neg hl,getElem?_eq_none (by omega)];rfl
 ·rw[if_neg hi];cases hP:P[i]? with
  | none=>rfl
  | some y=>
   have hl:=(List.getElem?_eq_some_iff.1 hP).1;simp only[Option.map_some];rw[if_neg (fun h:i=id=>hi h.symm)];by_cases hy:1≤i∧y=(id:Int)
   ·rw[if_pos ⟨⟨hy.1,hl⟩,hy.2⟩,if_pos hy]
   ·rw[if_neg (fun h=>hy ⟨h.1.1,h.2⟩),if_neg hy]
theorem aJ {l:List Int} {spare:List Value} {i:Nat} {x:Int} (h:i < l.length):(Qn l++spare).set (0+i*1) (.int .i64 x)=Qn (l.set i x)++spare:=by
 rw[Nat.zero_add,Nat.mul_one,set_append_left _ _ (by simpa [Qn] using h)];simp[Qn,map_set]
theorem vJ [Q4] (p:Nat) (P:List Int) (hO:E6 P) (i id:Int) (hi:i < P.length) {w:World} {fr:List Q2} (H:Q0 w (Vh p P::fr)) :
  Calls Tryz.prog 256 #[pp p,.int .i64 i,.int .i64 id] w (ret fun v w'=>v = .bool (Up P id i)∧Q0 w' (Vh p P::fr)):=by
 refine QQ Tryz.func256 rfl (by kernel_rfl) ?_;refine Eo H ?_;refine Qq (fun ms σ w n=>ms=[]∧∃ i':Int,i' < P.length∧Up P id i'=Up P id i∧n=i'.toNat∧σ 0=pp p∧σ 1 = .int .i64 i'∧σ 2 = .int .i64 id∧Q0 w (Vh p P::fr)) (m:=i.toNat) ⟨rfl,i,hi,rfl,rfl,rfl,rfl,rfl,H⟩ ?_;clear H;rintro ms σ w n ⟨rfl,i',Ub,hb,rfl,g0,g1,g2,H⟩;rw[Q1 g0,Q1 g1,Q1 g2];refine I8 H ?_;refine Qm rfl (fun h=>QF ?_) (fun h=>Qv ?_)
 ·have h:0 < i':=h;rw[kY hO h Ub] at hb;obtain⟨k,rfl⟩:∃ k:Nat,i'=k:=⟨i'.toNat,by omega⟩;rw[Int.toNat_natCast] at hb;refine XE H ?_;refine Vj H ?_;by_cases he:(k:Int)=id
  ·rw[show ((k:Int) == id)=true by rw[he];exact beq_self_eq_true id];refine ZD H ?_;rw[if_pos he] at hb;rw[← hb];exact Q3 (Jy H rfl fun w' H'=>⟨rfl,H'⟩)
  ·rw[show ((k:Int) == id)=false by rw[beq_eq_false_iff_ne];exact he];refine Vf H ?_;rw[if_neg he] at hb;have VB:k < P.length:=by omega
   have hg:P.getD k 0 < (k:Int):=hO k _ (by omega) (by rw[getD_eq_getElem?_getD,getElem?_eq_getElem VB];rfl);obtain⟨a,c,H⟩:=A9 H;obtain⟨b,s,rfl,H,QK⟩:=VX H.swap (by omega);have hc:=Dj (P:=P) (s:=s) (i:=k) VB;refine VM H ?_;refine Jd ?_;refine Q5 rfl (QA H rfl hc rfl ?_);refine J0 H ?_;replace H:=Ui (QK _ _ H).swap;exact⟨_,⟨rfl,P.getD k 0,by omega,hb,rfl,rfl,rfl,rfl,H⟩,by rw[Int.toNat_natCast];omega⟩
 ·have h:¬ 0 < i':=h;rw[kZ _ _ (by omega)] at hb;rw[← hb];refine Vl H ?_;exact Q3 (Jy H rfl fun w' H'=>⟨rfl,H'⟩)
theorem vM [Q4] (p:Nat) (P:List Int) (hO:E6 P) (id:Int) (h1:1≤P.length) (hl:P.length≤1000000) {w:World} {fr:List Q2} (H:Q0 w (Vh p P::fr)) :
  Calls Tryz.prog 236 #[pp p,.int .i64 id] w (ret fun v w'=>Q0 w' (NL v (Uq P id)::Vh p P::fr)):=by
 refine QQ Tryz.func236 rfl (by kernel_rfl) ?_;refine IX H ?_;refine Qq (fun ms σ w n=>ms=[]∧∃ (i:Nat) (g:Value),1≤i∧i≤P.length∧n=P.length - i∧σ 0=pp p∧σ 1 = .int .i64 id∧σ 5=g∧σ 6 = .int .i64 i∧Q0 w (NL g (Cs P id i)::Vh p P::fr)) (m:=P.length - 1) ⟨rfl,1,_,by omega,h1,rfl,rfl,rfl,rfl,rfl,Zy H⟩ ?_;clear H;rintro ms σ w n ⟨rfl,i,g,RT,AQ,rfl,g0,g1,g5,g6,H⟩;obtain⟨ag,mg,cg,rfl⟩:=V8 H;obtain⟨a,c,H⟩:=A9 H.swap;rw[Q1 g0,Q1 g1,Q1 g5,Q1 g6];refine Wv H ?_;refine Qm rfl (fun h=>QF ?_) (fun h=>Qv ?_)
 ·have Q6:i < P.length:=by omega
  obtain⟨b,s,rfl,H,QK⟩:=VX H.swap (by omega);have hc:=Dj (P:=P) (s:=s) (i:=i) (by omega);have UM:=vB P id i RT;generalize P.getD i 0=y at hc UM;refine DH H ?_;refine Jd ?_;refine Q5 rfl (QA H rfl hc rfl ?_);refine J0 H ?_;replace H:=Ui (QK _ _ H).swap;refine J6 H ?_;refine Qm rfl (fun h=>?_) (fun h=>QF ?_)
  ·have h:0≤y:=h;refine Y7 H ?_;refine Jc rfl rfl (vJ p P hO i id (by omega) H) ?_;clear H;rintro v w ⟨rfl,H⟩;refine J0 H ?_;refine Vl H ?_;cases hb:Up P id i with
   | true=>
    rw[hb,if_pos ⟨h,rfl⟩] at UM;refine Vr H ?_;refine IR H ?_;clear H;intro b32 w H;replace H:=Js [2,0,0] 0 H;refine Q5 rfl (ZU H rfl rfl (by repeat first|exact .nil _|apply QY.cons rfl) rfl (by decide) (by rw[QJ];have:=aH P id i;simp only[length_cons,length_nil];omega) rfl rfl ?_);clear H;intro v25 w H;obtain⟨a25,m25,c25,rfl⟩:=V8 H;refine F1 H ?_;replace H:=Js [0,1] 1 H;refine⟨_,⟨rfl,i+1,_,by omega,Q6,rfl,rfl,rfl,rfl,Qh (by omega),?_⟩,by omega⟩;rw[UM];show Q0 w (QE _ 1 _ (QH (_++[i]))::_);rw[B4];exact H
   | false=>
    rw[hb,if_neg (fun h=>by cases h.2),append_nil] at UM;refine Ex H ?_;exact⟨_,⟨rfl,i+1,_,by omega,Q6,rfl,rfl,rfl,rfl,Qh (by omega),by rw[UM];exact H.swap⟩,by omega⟩
  ·have h:¬ 0≤y:=h;rw[if_neg (fun h2=>h h2.1),append_nil] at UM;refine Vj H ?_;exact⟨_,⟨rfl,i+1,_,by omega,Q6,rfl,rfl,rfl,rfl,Qh (by omega),by rw[UM];exact H.swap⟩,by omega⟩
 ·obtain rfl:i=P.length:=by omega
  refine J3 H ?_;have H:=(Ui H).swap;exact Q3 (Jy H rfl fun w' H'=>H')
theorem vN [Q4] (p:Nat) (P:List Int) (hO:E6 P) (id:Int) (h1:1≤P.length) (hl:P.length≤1000000) {w:World} {fr:List Q2} (H:Q0 w (Vh p P::fr)) :
  Calls Tryz.prog 175 #[pp p,.int .i64 id] w (ret fun v w'=>Q0 w' (NL v (Uq P id)::Vh p (Yd P (Uq P id))::fr)):=by
 refine QQ Tryz.func175 rfl (by kernel_rfl) ?_;refine Re H ?_;refine Jc rfl rfl (vM p P hO id h1 hl H) ?_;clear H;rintro v w H;have LL:∀ k∈Uq P id,k < P.length:=fun k hk=>(kG.1 hk).1;have OR:(Uq P id).length≤P.length:=aH P id P.length;generalize Uq P id=U at H LL OR;obtain⟨aU,cU,rfl⟩:=QI H (QJ U) (by decide);refine J0 H ?_;refine Eo H ?_;refine Qq (fun ms σ w n=>ms=[]∧∃ i:Nat,i≤U.length∧n=U.length - i∧σ 0=pp p∧σ 5 = .slice aU U.length cU∧σ 6 = .int .i64 i∧Q0 w (NL (.slice aU U.length cU) U::Vh p (Yd P (U.take i))::fr)) (m:=U.length) ⟨rfl,0,by omega,rfl,rfl,rfl,rfl,by rw[take_zero,vC];exact H⟩ ?_;clear H;rintro ms σ w n ⟨rfl,i,hi,rfl,g0,g5,g6,H⟩;rw[Q1 g0,Q1 g5,Q1 g6];refine As H ?_;refine Qm rfl (fun h=>QF ?_) (fun h=>Qv ?_)
 ·have Q6:i < U.length:=by omega
  have hx:=getElem?_eq_getElem Q6;have Qj:U.take (i+1)=U.take i++[U[i]]:=by rw[take_add_one,hx];rfl
  have FT:=LL _ (getElem_mem Q6);generalize U[i]=k at hx Qj FT;have hfl:=aI P (U.take i);obtain⟨a,c,H⟩:=A9 H.swap;obtain⟨b,s,rfl,H,_,_,QK⟩:=GJ H.swap (by omega);replace H:=Js [2,0,0] 0 H;obtain⟨bU,sU,rfl,H,vP⟩:=VX H (by omega);have LM:((k:Nat):Int).toNat=k:=Int.toNat_natCast k;refine IJ H ?_;clear H;intro w H;refine Mu H ?_;refine KI H ?_;refine Ji 6 ?_;refine YZ 7 [] H rfl (Q9.none rfl) rfl (U4 hx) (by kernel_rfl) ?_;refine Ji 8 ?_;refine Jo 9 H ?_;refine Zv H rfl rfl inferInstance rfl (by simp only[length_append,YC];omega) rfl ?_;clear H;intro w H;rw[LM,aJ (by omega),vD] at H;refine Jx H ?_;replace H:=vP _ _ H;replace H:=Js [1,1,0] 0 H;replace H:=QK _ _ _ (by rw[YC,YC,aI,aI]) H;replace H:=Ui H.swap;refine Vj H ?_;exact⟨_,⟨rfl,i+1,Q6,rfl,rfl,rfl,Qh (by omega),by rw[Qj];exact H.swap⟩,by omega⟩
 ·obtain rfl:i=U.length:=by omega
  rw[take_length] at H;refine J3 H ?_;exact Q3 (Jy H rfl fun w' H'=>H')
theorem vT [Q4] (p:Nat) (P:List Int) (id:Nat) (q:Int) (Qx:1≤id) (hq:P[id]? = some q) (K9:0≤q) (h1:1≤P.length) (hl:P.length≤1000000) {w:World} {fr:List Q2} (H:Q0 w (Vh p P::fr)) :
  Calls Tryz.prog 177 #[pp p,.int .i64 id] w (ret fun v w'=>(q=0∧v = .tuple #[.int .i64 0,.int .i64 16]∧Q0 w' (Vh p P::fr))∨(q≠0∧v = .tuple #[.int .i64 q,.int .i64 0]∧Q0 w' (Vh p (Gg P id q.toNat)::fr))):=by
 have kU:=(List.getElem?_eq_some_iff.1 hq).1;have Ob:P.getD id 0=q:=by rw[getD_eq_getElem?_getD,hq];rfl
 have ZQ:Yb P (id:Int)=true:=decide_eq_true ⟨by omega,by omega,by rw[Int.toNat_natCast,Ob];exact K9⟩;refine QQ Tryz.func177 rfl (by kernel_rfl) ?_;refine WV H ?_;refine Jc rfl rfl (CN p P id H) ?_;clear H;rintro v w ⟨rfl,H⟩;rw[ZQ];refine ZT H ?_;obtain⟨a,c,H⟩:=A9 H;obtain⟨b,s,rfl,H,QK⟩:=VX H.swap (by omega);have hc:=Dj (P:=P) (s:=s) (i:=id) kU;rw[Ob] at hc;refine VM H ?_;refine Jd ?_;refine Q5 rfl (QA H rfl hc rfl ?_);refine J0 H ?_;replace H:=Ui (QK _ _ H).swap;refine J3 H ?_;by_cases hz:q=0
 ·rw[show (q == (0:Int))=true by rw[hz];rfl];refine G2 H ?_;exact Q3 (Jy H rfl fun w' H' => .inl ⟨hz,rfl,H'⟩)
 rw[show (q == (0:Int))=false by rw[beq_eq_false_iff_ne];exact hz];refine Vf H ?_;obtain⟨qn,rfl⟩:∃ qn:Nat,q=qn:=⟨q.toNat,by omega⟩;rw[Int.toNat_natCast];refine J7 H ?_;refine Qt (fun ms σ w=>ms=[]∧σ 0=pp p∧σ 1 = .int .i64 id∧σ 7 = .int .i64 qn∧Q0 w (Vh p (Kg P id qn P.length)::fr)) ?_ ?_
 ·refine Qe ?_;refine Qq (fun ms σ w n=>ms=[]∧∃ i:Nat,1≤i∧i≤P.length∧n=P.length - i∧σ 0=pp p∧σ 1 = .int .i64 id∧σ 7 = .int .i64 qn∧σ 8 = .int .i64 i∧Q0 w (Vh p (Kg P id qn i)::fr)) (m:=P.length - 1) ⟨rfl,1,by omega,h1,rfl,rfl,rfl,rfl,rfl,by rw[vE];exact H⟩ ?_;clear H QK;rintro ms σ w n ⟨rfl,i,RT,AQ,rfl,g0,g1,g7,g8,H⟩;rw[Q1 g0,Q1 g1,Q1 g7,Q1 g8];have GW:=HK P id qn i;obtain⟨a,c,H⟩:=A9 H;refine Wv H ?_;rw[GW];refine Qm rfl (fun h=>QF ?_) (fun h=>Qv ?_)
  ·have Q6:i < P.length:=by omega
   obtain⟨b,s,rfl,H,_,_,QK⟩:=GJ H.swap (by omega);have Oc:=getElem?_eq_getElem Q6;generalize P[i]=y at Oc
   have TD:(Kg P id qn i).getD i 0=y:=by
    rw[getD_eq_getElem?_getD,E7,Oc];simp
   have hc:=Dj (P:=Kg P id qn i) (s:=s) (i:=i) (by omega);rw[TD] at hc;have LM:((i:Nat):Int).toNat=i:=Int.toNat_natCast i;refine DH H ?_;refine Jd ?_;refine Q5 rfl (QA H rfl hc rfl ?_);refine J4 H ?_;by_cases hy:y=(id:Int)
   ·rw[show (y == (id:Int))=true by rw[hy];exact beq_self_eq_true _];subst hy;refine Vr H ?_;refine XF H ?_;refine Jd ?_;refine Q5 rfl (Zv H rfl rfl inferInstance rfl (by simp only[length_append,YC];omega) rfl ?_);clear H;intro w H;rw[LM,aJ (by omega),vF RT Oc] at H;refine J2 H ?_;replace H:=Ui (QK _ _ _ (by rw[YC,YC,HK,HK]) H).swap;refine Vj H ?_;exact⟨_,⟨rfl,i+1,by omega,Q6,rfl,rfl,rfl,rfl,Qh (by omega),H⟩,by omega⟩
   ·rw[show (y == (id:Int))=false by rw[beq_eq_false_iff_ne];exact hy];refine Vf H ?_;rw[vH Oc hy] at H QK;replace H:=Ui (QK _ _ _ rfl H).swap;refine Vj H ?_;exact⟨_,⟨rfl,i+1,by omega,Q6,rfl,rfl,rfl,rfl,Qh (by omega),H⟩,by omega⟩
  ·obtain rfl:i=P.length:=by omega
   exact⟨rfl,rfl,rfl,rfl,rfl,Ui H⟩
 clear H QK;rintro ms σ w ⟨rfl,g0,g1,g7,H⟩;rw[Q1 g0,Q1 g1,Q1 g7];have GW:=HK P id qn P.length;obtain⟨a,c,H⟩:=A9 H;obtain⟨b,s,rfl,H,_,_,QK⟩:=GJ H.swap (by omega);have LM:((id:Nat):Int).toNat=id:=Int.toNat_natCast id;refine VM H ?_;refine Jd ?_;refine Q5 rfl (Zv H rfl rfl inferInstance rfl (by simp only[length_append,YC];omega) rfl ?_);clear H;intro w H;rw[LM,aJ (by omega),vI] at H;have Pt:(Gg P id qn).length=(Kg P id qn P.length).length:=by unfold Gg Kg;rw[length_mapIdx,length_mapIdx]
 refine J2 H ?_;replace H:=Ui (QK _ _ _ (by rw[YC,YC,Pt]) H).swap;refine Vj H ?_;exact Q3 (Jy H rfl fun w' H' => .inr ⟨hz,rfl,H'⟩)
theorem kK {s s':CS} {m m':MS} {told:List (Nat×Nat)} (R:Rel s m told) {mv:Nat→Q8→Q8} (h:RG s s' mv) (hl:m'.lays=m.lays) (ho:m'.objs.length=m.objs.length)
  (vc:∀ (r q:Int),(r,q)∈s'.par↔∃ k:Nat,r=k∧1≤k∧m'.P[k]? = some q∧0≤q) (QP:(s'.par.map (·.1)).Nodup) (UD:s'.last+1=m'.P.length)
  (Fs:∀ (o:Nat) (x':QT),m'.objs[o]? = some x'→∃ x,m.objs[o]? = some x∧x'={ x with region:=x'.region }∧∀ (k g:Nat) (e:Q8),told[o]? = some (k,g)→x.gone=false→s.tab[k]? = some ⟨g,some e⟩→e.region=x.region→(mv k e).region=x'.region):Rel s' m' told:=by
 refine⟨by rw[ho];exact R.len,by rw[h.lays,hl];exact R.lays,vc,QP,UD,?_,?_,?_,?_,R.nodup⟩
 ·intro o x' k g VA ht hg;obtain⟨x,hx,he,hr⟩:=Fs o x' VA;have hg:x.gone=false:=by rw[he] at hg;exact hg
  obtain⟨e,hk,hL⟩:=R.obj o x k g hx ht hg;obtain⟨s1,s2,s3,s4,s5⟩:=h.same k e;refine⟨mv k e,h.at hk,?_⟩;have UF:=hr k g e ht hg hk hL.region;rw[hl];have f1:x'.lay=x.lay:=by rw[he]
  have f2:x'.count=x.count:=by rw[he]
  have f3:x'.held=x.held:=by rw[he]
  have f4:x'.pinned=x.pinned:=by rw[he]
  have f5:x'.w=x.w:=by rw[he]
  have f6:x'.kind=x.kind:=by rw[he]
  have f7:x'.to=x.to:=by rw[he]
  refine⟨UF,by rw[s1,f1];exact hL.lay,by rw[s2,f2];exact hL.count,by rw[s4,f3];exact hL.held,by rw[s5,f4];exact hL.pinned,by rw[s3,f5];exact hL.len,?_,?_,?_⟩
  ·rw[f5,f1,f6,f7,s3];exact hL.ref
  ·rw[f5,f1,s3];exact hL.word
  ·rw[f5,f1,f6];exact hL.kind
 ·intro o x' k g VA ht hg e' Yk;obtain⟨x,hx,he,_⟩:=Fs o x' VA;have hg:x.gone=true:=by rw[he] at hg;exact hg
  obtain⟨e,hk,_⟩:=h.from Yk;exact R.gone o x k g hx ht hg e hk
 ·intro k g e' Yk;obtain⟨e,hk,_⟩:=h.from Yk;exact R.used k g e hk
 ·intro o k g ht;obtain⟨t,h1,h2⟩:=R.gens o k g ht;exact⟨_,h.tab k t h1,h2⟩
def XG (id q:Nat) (x:QT):QT:=if x.region=id then { x with region:=q } else x
def Od (m:MS) (id q:Nat):MS:={ m with P:=Gg m.P id q,objs:=m.objs.map (XG id q) }
theorem kR (id q:Nat) (x:QT):XG id q x={ x with region:=(XG id q x).region }:=by
 unfold XG;split <;> rfl
theorem vd (id q:Nat) (x:QT):(XG id q x).region=if x.region=id then q else x.region:=by
 unfold XG;split <;> rfl
theorem ve {s s':CS} {m:MS} {told:List (Nat×Nat)} (R:Rel s m told) {id q:Nat} (Qx:1≤id) (QB:id≠q) (h:HV s id q s'):Rel s' (Od m id q) told:=by
 have WS:(s'.par.map (·.1)).Nodup:=by rw[h.par.1];exact R.nd.filter _
 refine kK R h.mv rfl (length_map _) (fun r z=>?_) WS ?_ fun o x' VA=>?_
 ·rw[← YI WS,h.par.2];have XV:∀ k:Nat,(Gg m.P id q)[k]? = (m.P[k]?).map fun x=>if k=id then -1 else if 1≤k∧x=(id:Int) then (q:Int) else x:=fun k=>getElem?_mapIdx;constructor
  ·intro hr;split at hr
   ·cases hr
   ·rename_i h1;split at hr
    ·rename_i h2;injection hr with hr
     obtain⟨k,k1,k2,k3,k4⟩:=(R.tree _ _).1 ((YI R.nd).1 h2);refine⟨k,k1,k2,?_,by omega⟩;show (Gg m.P id q)[k]? = _;rw[XV,k3];simp only[Option.map_some];rw[if_neg (by omega),if_pos ⟨k2,trivial⟩,hr]
    ·rename_i h2;obtain⟨k,k1,k2,k3,k4⟩:=(R.tree _ _).1 ((YI R.nd).1 hr);refine⟨k,k1,k2,?_,k4⟩;show (Gg m.P id q)[k]? = _;rw[XV,k3];simp only[Option.map_some];rw[if_neg (by omega),if_neg (fun h3=>h2 (by rw[hr,h3.2]))]
  ·rintro⟨k,rfl,k2,k3,k4⟩;have k3:(Gg m.P id q)[k]? = some z:=k3;rw[XV] at k3;cases hP:m.P[k]? with
   | none=>rw[hP] at k3;cases k3
   | some z0=>
    rw[hP] at k3;injection k3 with k3
    have k3:(if k=id then (-1:Int) else if 1≤k∧z0=(id:Int) then (q:Int) else z0)=z:=k3;by_cases h1:k=id
    ·rw[if_pos h1] at k3;omega
    ·rw[if_neg h1] at k3;rw[if_neg (by omega)]
     have vg:0≤z0:=by
      split at k3 <;> omega
     have hf:=(YI R.nd).2 ((R.tree (k:Int) z0).2 ⟨k,rfl,k2,hP,vg⟩);by_cases h2:z0=(id:Int)
     ·rw[if_pos ⟨k2,h2⟩] at k3;rw[h2] at hf;rw[if_pos hf,k3]
     ·rw[if_neg (fun h3=>h2 h3.2)] at k3;subst k3
      rw[if_neg (fun h3=>by
       rw[hf] at h3;injection h3 with h3
       exact h2 h3)]
      exact hf
 ·rw[h.last];show s.last+1=(Gg m.P id q).length;unfold Gg;rw[length_mapIdx];exact R.last
 ·have VA:(m.objs.map (XG id q))[o]? = some x':=VA;rw[getElem?_map] at VA;cases hx:m.objs[o]? with
  | none=>rw[hx] at VA;cases VA
  | some x=>
   rw[hx] at VA;injection VA with VA
   subst VA;refine⟨x,rfl,kR id q x,fun k g e _ _ _ hr=>?_⟩;rw[Ro,vd,hr];by_cases h1:x.region=id
   ·rw[if_pos (by omega),if_pos h1]
   ·rw[if_neg (by omega),if_neg h1]
theorem kW {m m':MS} (h:Vc m) (hP:m'.P.length=m.P.length∨(m'.P.length=m.P.length+1∧m.P.length < 100000)) (hl:m'.lays=m.lays) (ho:m'.objs.length=m.objs.length)
  (Fs:∀ (o:Nat) (x':QT),m'.objs[o]? = some x'→∃ x,m.objs[o]? = some x∧x'={ x with region:=x'.region }):Vc m':=by
 refine⟨by have:=h.P;omega,by rw[hl];exact h.lays,fun x' VA=>?_,by rw[ho];exact h.few⟩;obtain⟨o,VA⟩:=getElem?_of_mem VA;obtain⟨x,hx,he⟩:=Fs o x' VA;obtain⟨a,b,c,d,e⟩:=h.objs x (mem_of_getElem? hx);rw[hl,ho,he];exact⟨a,b,c,d,e⟩
def E8 (m:MS) (r:Nat) (os:List Nat):MS:={ m with P:=m.P++[(r:Int)],objs:=m.objs.mapIdx fun o x=>if o∈os then { x with region:=m.P.length } else x }
theorem kA {m:MS} {r:Nat} {os:List Nat} {o:Nat} {x':QT} (h:(E8 m r os).objs[o]? = some x'):∃ x,m.objs[o]? = some x∧x'={ x with region:=x'.region }∧x'.region=if o∈os then m.P.length else x.region:=by
 have h:(m.objs.mapIdx fun o x=>if o∈os then { x with region:=m.P.length } else x)[o]? = some x':=h;rw[getElem?_mapIdx] at h;cases hx:m.objs[o]? with
 | none=>rw[hx] at h;cases h
 | some x=>
  rw[hx] at h;injection h with h
  have h:(if o∈os then ({ x with region:=m.P.length }:QT) else x)=x':=h;subst h;refine⟨x,rfl,?_,?_⟩ <;> split <;> rfl
theorem vh {m:MS} (h:Vc m) (hP:m.P.length < 100000) (r:Nat) (os:List Nat):Vc (E8 m r os):=by
 refine kW h (.inr ⟨by show (m.P++[_]).length=_;simp,hP⟩) rfl (length_mapIdx) fun o x' VA=>?_;obtain⟨x,h1,h2,_⟩:=kA VA;exact⟨x,h1,h2⟩
theorem vj {s s':CS} (hw:WF s) {m:MS} {told:List (Nat×Nat)} (R:Rel s m told) {r:Nat} {Z:List Pl} {os:List Nat} (h:AC s r Z s') (Ah:∀ (o k g:Nat) (x:QT),told[o]? = some (k,g)→m.objs[o]? = some x→x.gone=false→(o∈os↔k∈Z.map Pl.k)):Rel s' (E8 m r os) told:=by
 have GK:∀ x,x∈s.par.map (·.1)→x≠((s.last+1:Nat):Int):=fun x hx=>by
  obtain⟨⟨x',q⟩,h1,h2⟩:=mem_map.1 hx;have h2:x'=x:=h2;have:=(hw.par.2.2 x' q h1).2;omega
 have BJ:m.P.length=s.last+1:=R.last.symm;refine kK R h.mv rfl length_mapIdx (fun x z=>?_) ?_ ?_ fun o x' VA=>?_
 ·rw[h.par,mem_append,R.tree];show _↔∃ k:Nat,x=k∧1≤k∧(m.P++[(r:Int)])[k]? = some z∧0≤z;constructor
  ·rintro(⟨k,k1,k2,k3,k4⟩|h1)
   ·exact⟨k,k1,k2,by rw[getElem?_append_left (List.getElem?_eq_some_iff.1 k3).1];exact k3,k4⟩
   ·rw[mem_singleton] at h1;injection h1 with h1 h2
    refine⟨s.last+1,h1,by omega,?_,by omega⟩;rw[getElem?_append_right (by omega),BJ,Nat.sub_self,h2];rfl
  ·rintro⟨k,k1,k2,k3,k4⟩;by_cases hk:k < m.P.length
   ·rw[getElem?_append_left hk] at k3;exact .inl ⟨k,k1,k2,k3,k4⟩
   ·rw[getElem?_append_right (by omega)] at k3;have Xl:=(List.getElem?_eq_some_iff.1 k3).1;have Xl:k - m.P.length < 1:=Xl;have XT:k - m.P.length=0:=by omega
    rw[XT] at k3;injection k3 with k3
    refine .inr ?_;rw[mem_singleton,← k3,k1,show k=s.last+1 by omega]
 ·rw[h.par,map_append,nodup_append];refine⟨R.nd,by simp,fun a ha b hb Xx=>?_⟩;simp at hb;subst Xx;exact GK a ha hb
 ·rw[h.last];show _=(m.P++[(r:Int)]).length;rw[length_append,BJ];rfl
 ·obtain⟨x,h1,h2,h3⟩:=kA VA;refine⟨x,h1,h2,fun k g e ht hg hk hr=>?_⟩;have:=Ah o k g x ht h1 hg;rw[h3];by_cases h4:k∈Z.map Pl.k
  ·rw[if_pos (this.2 h4),BJ];obtain⟨z,z1,z2⟩:=mem_map.1 h4;subst z2;rw[aE h.keys z1]
  ·rw[if_neg (fun h5=>h4 (this.1 h5)),HG h4];exact hr
def Gh (ts:List QW) (r:Int):List (Nat×Nat)→List (Nat×Nat)→Nat
 | _,[]=>0
 | pre,t::l=>match V3 ts t.1 t.2 with
  | none=>8
  | some (_,e)=>if e.region≠r then 15 else if e.pinned=true then 13 else if t∈pre then 14 else Gh ts r (pre++[t]) l
def Gi (s:CS) (r:Int) (l:List (Nat×Nat)):Nat:=if 64 < l.length then 18 else if Gh s.tab r [] l≠0 then Gh s.tab r [] l else if s.par.length=64 then 5 else 0
theorem Oe {ts:List QW} {r:Int} {pre l:List (Nat×Nat)} {t:Nat×Nat} (h:V3 ts t.1 t.2=none):Gh ts r pre (t::l)=8:=by
 unfold Gh;rw[h]
theorem aM {ts:List QW} {r:Int} {pre l:List (Nat×Nat)} {t:Nat×Nat} {k:Nat} {e:Q8} (h:V3 ts t.1 t.2=some (k,e)):Gh ts r pre (t::l)=if e.region≠r then 15 else if e.pinned=true then 13 else if t∈pre then 14 else Gh ts r (pre++[t]) l:=by
 show (match V3 ts t.1 t.2 with
  | none=>8
  | some (_,e)=>if e.region≠r then 15 else if e.pinned=true then 13 else if t∈pre then 14 else Gh ts r (pre++[t]) l)=_
 rw[h]
theorem Og {ts:List QW} {r:Int}:∀ {l pre:List (Nat×Nat)},Gh ts r pre l=0→(∀ t∈l,(∃ e,ts[t.1]? = some ⟨t.2,some e⟩∧e.held=true∧e.region=r∧e.pinned=false)∧t∉pre)∧l.Nodup
 | [],_,_=>⟨fun t ht=>(by cases ht),.nil⟩
 | t::l,pre,h=>by
  cases hv:V3 ts t.1 t.2 with
  | none=>rw[Oe hv] at h;cases h
  | some q=>
   obtain⟨k,e⟩:=q;rw[aM hv] at h;split at h
   ·cases h
   ·rename_i h1;split at h
    ·cases h
    ·rename_i h2;split at h
     ·cases h
     ·rename_i h3;obtain⟨h4,h5⟩:=Og h;obtain⟨hL,hh⟩:=WK.1 hv;obtain⟨n,n1,n2,n3⟩:=Yz.1 hL;have e1:t.1=k:=by omega
      have e2:t.2=n:=by omega
      refine⟨fun u hu=>?_,nodup_cons.2 ⟨fun h6=>(h4 t h6).2 (by simp),h5⟩⟩
      rcases mem_cons.1 hu with rfl|hu
      ·exact⟨⟨e,by rw[e1,e2];exact n3,hh,Classical.not_not.1 h1,by simpa using h2⟩,h3⟩
      ·exact⟨(h4 u hu).1,fun h6=>(h4 u hu).2 (mem_append.2 (.inl h6))⟩
theorem vn {ts:List QW} {r:Int} {l:List (Nat×Nat)} (h:Gh ts r [] l=0):(l.map (·.1)).Nodup:=by
 obtain⟨h1,h2⟩:=Og h;refine pairwise_map.2 (h2.imp_of_mem fun {a b} ha hb Xx hk=>Xx ?_);obtain⟨⟨e,e1,_⟩,_⟩:=h1 a ha;obtain⟨⟨f,f1,_⟩,_⟩:=h1 b hb;rw[hk,f1] at e1;injection e1 with e1
 injection e1 with e1 _
 exact Prod.ext hk e1.symm
def XU (m:MS) (r:Int):List Int→List Int→Nat
 | _,[]=>0
 | pre,o::l=>match VH m o with
  | none=>8
  | some (_,x)=>if (x.region:Int)≠r then 15 else if x.pinned=true then 13 else if o∈pre then 14 else XU m r (pre++[o]) l
def Xp (m:MS) (r:Int) (os:List Int):Nat:=if Yb m.P r=false then 15 else if 64 < os.length then 18 else if XU m r [] os≠0 then XU m r [] os else if 64≤(V4 m.P).length then 5 else 0
theorem kB {m:MS} {r:Int} {pre l:List Int} {o:Int} (h:VH m o=none):XU m r pre (o::l)=8:=by
 unfold XU;rw[h]
theorem kC {m:MS} {r:Int} {pre l:List Int} {o:Int} {k:Nat} {x:QT} (h:VH m o=some (k,x)):XU m r pre (o::l)=if (x.region:Int)≠r then 15 else if x.pinned=true then 13 else if o∈pre then 14 else XU m r (pre++[o]) l:=by
 show (match VH m o with
  | none=>8
  | some (_,x)=>if (x.region:Int)≠r then 15 else if x.pinned=true then 13 else if o∈pre then 14 else XU m r (pre++[o]) l)=_
 rw[h]
def Ct (told:List (Nat×Nat)) (y:(Nat×Nat)×Int):Prop:=(∃ n:Nat,y.2=n∧told[n]? = some y.1)∨(y.2 = -1∧told=[])
theorem Ct.pick {told:List (Nat×Nat)} {y:(Nat×Nat)×Int} (h:Ct told y):K8 told y.1.1 y.1.2 y.2:=by
 rcases h with ⟨n,h1,h2⟩|⟨h1,h2⟩
 ·exact .inl ⟨y.1.1,y.1.2,n,rfl,rfl,h1,h2⟩
 ·exact .inr ⟨h1,fun k gg n _ _=>by rw[h2];simp⟩
theorem kD {s:CS} {m:MS} {told:List (Nat×Nat)} (R:Rel s m told) (r:Int):∀ (l pre:List ((Nat×Nat)×Int)),(∀ y∈l,Ct told y)→(∀ y∈pre,Ct told y)→Gh s.tab r (pre.map (·.1)) (l.map (·.1))=XU m r (pre.map (·.2)) (l.map (·.2))
 | [],pre,_,_=>rfl
 | y::l,pre,h1,h2=>by
  have hy:=h1 y mem_cons_self
  have ih:=kD R r l (pre++[y]) (fun z hz=>h1 z (mem_cons_of_mem _ hz)) (fun z hz=>by
   rcases mem_append.1 hz with hz|hz
   ·exact h2 z hz
   ·rw[mem_singleton] at hz;subst hz;exact hy)
  rw[map_append,map_append] at ih;have hV:Vd s m told y.1.1 y.1.2 y.2:=AZ R hy.pick
  rcases hV with ⟨v1,v2⟩|⟨k,gg,n,e,x,a1,a2,a3,a4,a5,a6,a7,a8,a9,a10⟩
  ·show Gh s.tab r (pre.map (·.1)) (y.1::l.map (·.1))=XU m r (pre.map (·.2)) (y.2::l.map (·.2));rw[Oe v1,kB v2]
  ·show Gh s.tab r (pre.map (·.1)) (y.1::l.map (·.1))=XU m r (pre.map (·.2)) (y.2::l.map (·.2));rw[aM a9,kC a10,a8.region,a8.pinned]
   have kE:y.1∈pre.map (·.1)↔y.2∈pre.map (·.2):=by
    have ht:told[n]? = some y.1:=by rw[a4];congr 1;exact Prod.ext (by omega) (by omega)
    constructor
    ·intro h;obtain⟨z,z1,z2⟩:=mem_map.1 h;refine mem_map.2 ⟨z,z1,?_⟩
     rcases h2 z z1 with ⟨n',b1,b2⟩|⟨_,b2⟩
     ·rw[z2] at b2;have:=OZ R.nodup ht b2;omega
     ·rw[b2] at ht;cases ht
    ·intro h;obtain⟨z,z1,z2⟩:=mem_map.1 h;refine mem_map.2 ⟨z,z1,?_⟩
     rcases h2 z z1 with ⟨n',b1,b2⟩|⟨b1,_⟩
     ·have:n'=n:=by omega
      subst this;rw[ht] at b2;injection b2 with b2
      exact b2.symm
     ·omega
   by_cases c1:(x.region:Int)≠r
   ·rw[if_pos c1,if_pos c1]
   ·rw[if_neg c1,if_neg c1];by_cases c2:x.pinned=true
    ·rw[if_pos c2,if_pos c2]
    ·rw[if_neg c2,if_neg c2];by_cases c3:y.1∈pre.map (·.1)
     ·rw[if_pos c3,if_pos (kE.1 c3)]
     ·rw[if_neg c3,if_neg (fun h=>c3 (kE.2 h))];exact ih
theorem vp {s:CS} {m:MS} {told:List (Nat×Nat)} (R:Rel s m told) (hw:WF s) {r:Int} (hr:(QV s.par r).isSome=true) {l:List ((Nat×Nat)×Int)} (h:∀ y∈l,Ct told y):Gi s r (l.map (·.1))=Xp m r (l.map (·.2)):=by
 have h1:=kD R r l [] h (fun y hy=>(by cases hy));have h1:Gh s.tab r [] (l.map (·.1))=XU m r [] (l.map (·.2)):=h1;unfold Gi Xp;rw[← Cb R,hr,if_neg (show ¬ (true=false) by decide),length_map,length_map,h1];by_cases c1:64 < l.length
 ·rw[if_pos c1,if_pos c1]
 ·rw[if_neg c1,if_neg c1];by_cases c2:XU m r [] (l.map (·.2))≠0
  ·rw[if_pos c2,if_pos c2]
  ·rw[if_neg c2,if_neg c2,Fu R.w];have:=hw.par.1;rw[Fu R.w] at this;by_cases c3:(V4 m.P).length=64
   ·rw[if_pos c3,if_pos (by omega)]
   ·rw[if_neg c3,if_neg (by omega)]
end Go.Proofs.YtmjdnljneifpcaaGreatDoor
