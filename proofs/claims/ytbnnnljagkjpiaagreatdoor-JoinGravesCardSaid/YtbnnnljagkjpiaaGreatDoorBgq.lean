/- Cells: what is proved on the way: every input of the statement; no condition. Texts joined: SplH SplQ TreQ SplB RefA RefB. -/
import Derived.Test.YtbnnnljagkjpiaaGreatDoorBgp
import Derived.Test.YtbnnnljagkjpiaaGreatDoorBgn
import Derived.Test.YtbnnnljagkjpiaaGreatDoorBgf
import Derived.Test.YtbnnnljagkjpiaaGreatDoorBgi
set_option linter.unusedVariables false
set_option linter.unusedSimpArgs false
set_option linter.unusedSectionVars false
namespace Go.Proofs.YtbnnnljagkjpiaaGreatDoor
open List
open Go.SL
theorem Cn {l:List (Nat×Nat)} {c:Nat}:c∈QR l↔∃ y∈l,y.1≤c∧c < y.1+y.2:=by
 unfold QR;rw[mem_flatMap];constructor
 ·rintro⟨y,h1,h2⟩;exact⟨y,h1,GS.1 h2⟩
 ·rintro⟨y,h1,h2⟩;exact⟨y,h1,GS.2 h2⟩
theorem FA {A B:List (Nat×Nat)} {x:Nat×Nat} (h:(QR (A++x::B)).Nodup):(QR (A++B)).Nodup∧∀ c,x.1≤c→c < x.1+x.2→c∉QR (A++B):=by
 have e1:QR (A++x::B)=QR A++((List.range x.2).map (x.1+·)++QR B):=by
  rw[GP];rfl
 rw[e1,nodup_append] at h;obtain⟨h1,h2,h3⟩:=h;rw[nodup_append] at h2;obtain⟨h4,h5,h6⟩:=h2;rw[GP];refine⟨nodup_append.2 ⟨h1,h5,fun a ha b hb=>h3 a ha b (mem_append.2 (.inr hb))⟩,fun c hc1 hc2 hc=>?_⟩;have hr:c∈(List.range x.2).map (x.1+·):=GS.2 ⟨hc1,hc2⟩
 rcases mem_append.1 hc with hc|hc
 ·exact h3 c hc c (mem_append.2 (.inl hr)) rfl
 ·exact h6 c hr c hc rfl
theorem OV {α:Type} {l:List (Int×α)} (h:(l.map (·.1)).Nodup) {x y:Int×α} (hx:x∈l) (hy:y∈l) (he:x.1=y.1):x=y:=by
 obtain⟨a1,a2,h1⟩:=append_of_mem hx;obtain⟨_,h2⟩:=UR (f:=fun z:Int×α=>z.1) h1 h;rw[h1] at hy
 rcases G8 hy with rfl|hy
 ·rfl
 ·exact absurd he.symm (h2 y hy).2
theorem GV.chunk {size:Nat} (hs:1≤size) {x:Nat×Nat} {e:Q8} (h:GV size x e) {d:Nat} (h1:e.addr / size≤d) (h2:d≤(e.addr+e.ws.length) / size):x.1≤d∧d < x.1+x.2:=by
 obtain⟨h3,h4⟩:=bj hs h;have h5:x.1≤e.addr / size:=(Nat.le_div_iff_mul_le (by omega)).2 h3;have h6:(e.addr+e.ws.length) / size < x.1+x.2:=(Nat.div_lt_iff_lt_mul (by omega)).2 (by unfold QN at h4;omega);omega
theorem Ib {s:CS} (h:WF s) (hP:Y0 s) (hnd:(s.par.map (·.1)).Nodup) {k g:Nat} {e:Q8} (hk:s.tab[k]? = some ⟨g,some e⟩) {b0 c n:Nat} {S:QF} (hSm:(e.region,b0,S)∈s.sps) {A B:List (Nat×Nat)} (hp:S.parts=A++(c,n)::B) (hn:2≤n) (hin:GV s.size (c,n) e)
  {j n':Nat} {f:Q8} (hjk:j≠k) (hj:s.tab[j]? = some ⟨n',some f⟩) {d:Nat} (h1:f.addr / s.size≤d) (h2:d≤(f.addr+f.ws.length) / s.size):¬ (c≤d∧d < c+n):=by
 rintro⟨h3,h4⟩;have hS:=h.spc _ hSm;obtain⟨y,y1,y2,_⟩:=(hS.owned d).1 (Kn (x:=(c,n)) (by rw[hp];simp) h3 h4);obtain⟨z,z1,z2,_⟩:=(h.obj j n' f hj).2.1.2 d h1 h2;rw[y1] at z1;injection z1 with z1
 subst z1;obtain⟨x,x1,x2,w,w1,w2⟩:=hP j n' f hj;obtain rfl:x=(e.region,b0,S):=OV (by rw[h.skeys];exact hnd) x1 hSm (by rw[x2,← z2,y2]);have w1:w∈S.parts:=w1;obtain⟨w3,w4⟩:=w2.chunk h.size.1 h1 h2;rw[hp] at w1
 rcases G8 w1 with rfl|w1
 ·rcases w2 with ⟨w5,_⟩|⟨_,w5,_⟩
  ·have w5:n=1:=w5;omega
  ·rcases hin with ⟨w6,_⟩|⟨_,w6,_⟩
   ·have w6:n=1:=w6;omega
   ·rcases h.apart k j g n' e f (fun h=>hjk h.symm) hk hj with w7|w7 <;> unfold QN at w7 <;> omega
 ·have hnd':=hS.nodup;have hnd':(QR S.parts).Nodup:=hnd';rw[hp] at hnd';exact(FA hnd').2 d h3 h4 (Kn w1 w3 w4)
theorem dz {s:CS} (h:WF s) (hP:Y0 s) {k g:Nat} {e:Q8} (hk:s.tab[k]? = some ⟨g,some e⟩) {r:Int} {id:Nat} (hr:e.region=r) (hne:(id:Int)≠r) (hnd:(s.par.map (·.1)).Nodup)
  {p1 p2:List (Int×Nat×QF)} {b0 bs:Nat} {S T:QF} (hsps:s.sps=p1++(r,b0,S)::(p2++[((id:Int),bs,T)]))
  {m1 m2:List (Int×Nat×List Nat)} {c0 bm:Nat} {M N:List Nat} (hmns:s.mns=m1++(r,c0,M)::(m2++[((id:Int),bm,N)]))
  {A B:List (Nat×Nat)} {c n:Nat} (hp:S.parts=A++(c,n)::B) (hn:2≤n) (hin:GV s.size (c,n) e) :
  WF { s with own:=V7 s.own c n id,tab:=s.tab.set k ⟨g,some { e with region:=id,addr:=e.addr }⟩,sps:=p1++(r,b0,{ S with parts:=A++B })::(p2++[((id:Int),bs,{ T with parts:=T.parts++[(c,n)] })]),mns:=m1++(r,c0,M.filter (·≠k))::(m2++[((id:Int),bm,YO N k)]) }:=by
 have hTm:((id:Int),bs,T)∈s.sps:=by rw[hsps];simp
 have hSm:(r,b0,S)∈s.sps:=by rw[hsps];simp
 have hT:=h.spc _ hTm;have hS:=h.spc _ hSm;have hcn:c+n≤s.own.length:=(hS.parts (c,n) (by show _∈S.parts;rw[hp];simp)).2;have hget:=fun i=>Zq (v:=id) hcn i;have hs1:=h.size.1
 have hid1:1≤id:=by
  have:(id:Int)∈s.par.map (·.1):=by rw[← h.skeys,hsps];simp
  obtain⟨⟨x,z⟩,h1,h2⟩:=mem_map.1 this;have h2:x=(id:Int):=h2;have:=(h.par.2.2 x z h1).1;omega
 have hrun:∀ d,c≤d→d < c+n→∃ y:Nat,s.own[d]? = some y∧(y:Int)=r∧y≠0:=fun d h1 h2=>(hS.owned d).1 (Kn (x:=(c,n)) (by show _∈S.parts;rw[hp];simp) h1 h2);have hSnd:(QR (A++(c,n)::B)).Nodup:=by rw[← hp];exact hS.nodup
 obtain⟨hn1,hn2⟩:=FA hSnd;have halone:=fun {j n':Nat} {f:Q8} (hjk:j≠k) (hj:s.tab[j]? = some ⟨n',some f⟩) {d:Nat}=>Ib h hP hnd hk (S:=S) (b0:=b0) (by rw[hr];exact hSm) hp hn hin hjk hj (d:=d)
 have hfe:∀ x∈s.sps,∀ (j n':Nat) (f:Q8),(s.tab.set k ⟨g,some { e with region:=(id:Int),addr:=e.addr }⟩)[j]? = some ⟨n',some f⟩→QN f≤x.2.2.at'∨x.2.2.fin≤f.addr:=by
  intro x hx j n' f hj
  rcases Qz hj with ⟨rfl,h1,_⟩|⟨h0,hj⟩
  ·injection h1 with _ h1
   injection h1 with h1
   subst h1;exact(h.free x hx _ g e hk:QN e≤x.2.2.at'∨x.2.2.fin≤e.addr)
  ·exact h.free x hx j n' f hj
 refine O9 (b0':=0) (bs':=0) h hk hr hne hnd hsps hmns (e':={ e with region:=(id:Int),addr:=e.addr }) rfl (Vy hcn) ?_ (fun j n' f h0 hj=>?_) (fun j n' f h0 hj=>(h.apart j k n' g f e h0 hj hk:QN f≤e.addr∨QN e≤f.addr)) ⟨hS.at1,fun hf=>?_,fun y hy=>?_,hn1,fun d=>?_⟩ ⟨hT.at1,fun hf=>?_,fun y hy=>?_,?_,fun d=>?_⟩ (fun x hx=>?_) (hfe _ hSm) (hfe _ hTm) (fun d x h1 h2=>?_)
 ·obtain⟨u1,u2⟩:=(h.obj _ _ _ hk).2.1;refine⟨by rw[Vy hcn];exact u1,fun d h1 h2=>?_⟩;obtain⟨v1,v2⟩:=hin.chunk hs1 h1 h2;exact⟨id,by rw[hget,if_pos ⟨v1,v2⟩],rfl,hid1⟩
 ·obtain⟨u1,u2⟩:=(h.obj j n' f hj).2.1;refine⟨by rw[Vy hcn];exact u1,fun d h1 h2=>?_⟩;rw[hget,if_neg (halone h0 hj h1 h2)];exact u2 d h1 h2
 ·obtain⟨d,d1,d2,d3⟩:=hS.fin hf;refine⟨d,d1,d2,?_⟩;have d3:(d,1)∈S.parts:=d3;rw[hp] at d3
  rcases G8 d3 with d3|d3
  ·injection d3 with _ d3
   omega
  ·exact d3
 ·rw[Vy hcn];exact hS.parts y (by show y∈S.parts;rw[hp];exact X5 hy)
 ·show d∈QR (A++B)↔_;constructor
  ·intro hd
   have hd0:d∈QR S.parts:=by
    obtain⟨y,y1,y2⟩:=Cn.1 hd;rw[hp];exact Cn.2 ⟨y,X5 y1,y2⟩
   obtain⟨y,y1,y2,y3⟩:=(hS.owned d).1 hd0;refine⟨y,?_,y2,y3⟩;rw[hget,if_neg (fun h1=>hn2 d h1.1 h1.2 hd)];exact y1
  ·rintro⟨y,y1,y2,y3⟩;rw[hget] at y1;split at y1
   ·injection y1 with y1
    subst y1;exact absurd y2 hne
   ·rename_i h1;have hd0:=(hS.owned d).2 ⟨y,y1,y2,y3⟩;have hd0:d∈QR S.parts:=hd0;rw[hp] at hd0;obtain⟨z,z1,z2⟩:=Cn.1 hd0
    rcases G8 z1 with rfl|z1
    ·exact absurd z2 h1
    ·exact Cn.2 ⟨z,z1,z2⟩
 ·obtain⟨d,d1,d2,d3⟩:=hT.fin hf;exact⟨d,d1,d2,mem_append.2 (.inl d3)⟩
 ·rw[Vy hcn];have hy:y∈T.parts++[(c,n)]:=hy
  rcases mem_append.1 hy with hy|hy
  ·exact hT.parts y hy
  ·rw[mem_singleton] at hy;subst hy;exact⟨by show 1≤n;omega,hcn⟩
 ·show (QR (T.parts++[(c,n)])).Nodup;rw[GP,K2,nodup_append];refine⟨hT.nodup,Hy c n,fun x hx y hy hxy=>?_⟩;subst hxy;obtain⟨h1,h2⟩:=GS.1 hy;obtain⟨y,y1,y2,_⟩:=hrun x h1 h2;obtain⟨z,z1,z2,_⟩:=(hT.owned x).1 hx;rw[y1] at z1;injection z1 with z1
  subst z1;exact hne (z2.symm.trans y2)
 ·show d∈QR (T.parts++[(c,n)])↔_;rw[GP,K2,mem_append,GS,hget];constructor
  ·rintro(h1|h1)
   ·obtain⟨y,y1,y2,y3⟩:=(hT.owned d).1 h1;refine⟨y,?_,y2,y3⟩;rw[if_neg]
    ·exact y1
    ·rintro⟨h2,h3⟩;obtain⟨z,z1,z2,_⟩:=hrun d h2 h3;rw[y1] at z1;injection z1 with z1
     subst z1;exact hne (y2.symm.trans z2)
   ·exact⟨id,by rw[if_pos h1],rfl,by omega⟩
  ·rintro⟨y,y1,y2,y3⟩;by_cases h1:c≤d∧d < c+n
   ·exact .inr h1
   ·rw[if_neg h1] at y1;exact .inl ((hT.owned d).2 ⟨y,y1,y2,y3⟩)
 ·have hxs:x∈s.sps:=by
   rw[hsps]
   rcases mem_append.1 hx with hx|hx
   ·exact mem_append.2 (.inl hx)
   ·exact mem_append.2 (.inr (mem_cons_of_mem _ (mem_append.2 (.inl hx))))
  have hnk:(s.sps.map fun y=>y.1).Nodup:=by rw[h.skeys];exact hnd
  have hxr:x.1≠r:=by
   refine((UR (f:=fun y:Int×Nat×QF=>y.1) hsps hnk).2 x ?_).2
   rcases mem_append.1 hx with hx|hx
   ·exact mem_append.2 (.inl hx)
   ·exact mem_append.2 (.inr (mem_append.2 (.inl hx)))
  have hxi:x.1≠(id:Int):=by
   have e1:s.sps=(p1++(r,b0,S)::p2)++((id:Int),bs,T)::[]:=by rw[hsps];simp
   refine((UR (f:=fun y:Int×Nat×QF=>y.1) e1 hnk).2 x ?_).2;rw[append_nil];exact X5 hx
  obtain⟨a1,a2,a3,a4,a5⟩:=h.spc x hxs;refine⟨a1,a2,fun y hy=>by rw[Vy hcn];exact a3 y hy,a4,fun d=>?_⟩;rw[a5,hget];by_cases h1:c≤d∧d < c+n
  ·rw[if_pos h1];obtain⟨y,y1,y2,y3⟩:=hrun d h1.1 h1.2;constructor
   ·rintro⟨z,z1,z2,z3⟩;rw[y1] at z1;injection z1 with z1
    subst z1;exact absurd (z2.symm.trans y2) hxr
   ·rintro⟨z,z1,z2,z3⟩;injection z1 with z1
    subst z1;exact absurd z2.symm hxi
  ·rw[if_neg h1]
 ·rw[hget] at h1;split at h1
  ·injection h1 with h1
   subst h1;exact .inl rfl
  ·exact .inr h1
theorem e9 {s s':CS} (h:WF s) (hP:Y0 s) {k g:Nat} {e:Q8} (hk:s.tab[k]? = some ⟨g,some e⟩) {r id:Int} (hr:e.region=r) (hnd:(s.par.map (·.1)).Nodup)
  {p1 p2:List (Int×Nat×QF)} {b0 bs:Nat} {S T:QF} (hsps:s.sps=p1++(r,b0,S)::(p2++[(id,bs,T)])) {A B:List (Nat×Nat)} {c n:Nat} (hp:S.parts=A++(c,n)::B) (hn:2≤n) (hin:GV s.size (c,n) e)
  (h1:s'.size=s.size) (h2:s'.tab=s.tab.set k ⟨g,some { e with region:=id,addr:=e.addr }⟩) (h3:s'.sps=p1++(r,b0,{ S with parts:=A++B })::(p2++[(id,bs,{ T with parts:=T.parts++[(c,n)] })])):Y0 s':=by
 have hSm:(r,b0,S)∈s.sps:=by rw[hsps];simp
 intro j n' f hj;rw[h2] at hj;rw[h3,h1]
 rcases Qz hj with ⟨rfl,u1,_⟩|⟨h0,hj⟩
 ·injection u1 with _ u1
  injection u1 with u1
  subst u1;exact⟨(id,bs,{ T with parts:=T.parts++[(c,n)] }),by simp,rfl,(c,n),mem_append.2 (.inr (by simp)),hin.alike rfl rfl⟩
 ·obtain⟨x,x1,x2,y,y1,y2⟩:=hP j n' f hj;have x1':=x1;rw[hsps] at x1
  rcases mem_append.1 x1 with x1|x1
  ·exact⟨x,mem_append.2 (.inl x1),x2,y,y1,y2⟩
  ·rcases mem_cons.1 x1 with rfl|x1
   ·refine⟨(r,b0,{ S with parts:=A++B }),by simp,x2,y,?_,y2⟩;have y1:y∈S.parts:=y1;rw[hp] at y1
    rcases G8 y1 with rfl|y1
    ·exfalso;have hd1:f.addr / s.size≤f.addr / s.size:=Nat.le_refl _;have hd2:f.addr / s.size≤(f.addr+f.ws.length) / s.size:=Nat.div_le_div_right (by omega);exact Ib h hP hnd hk (S:=S) (b0:=b0) (by rw[hr];exact hSm) hp hn hin h0 hj hd1 hd2 (y2.chunk h.size.1 hd1 hd2)
    ·exact y1
   ·rcases mem_append.1 x1 with x1|x1
    ·exact⟨x,mem_append.2 (.inr (mem_cons_of_mem _ (mem_append.2 (.inl x1)))),x2,y,y1,y2⟩
    ·rw[mem_singleton] at x1;subst x1;exact⟨(id,bs,{ T with parts:=T.parts++[(c,n)] }),by simp,x2,y,mem_append.2 (.inl y1),y2⟩
structure Pl where
 k:Nat
 g:Nat
 e:Q8
 a:Nat
def Zv (S:QF) (size:Nat) (e:Q8):Bool:=S.parts.any fun x=>decide (1 < x.2∧x.1≤e.addr / size∧e.addr / size < x.1+x.2)
theorem eQ {l:List (Nat×Nat)} (h:(QR l).Nodup) {x y:Nat×Nat} (hx:x∈l) (hy:y∈l) {c:Nat} (h1:x.1≤c) (h2:c < x.1+x.2) (h3:y.1≤c) (h4:c < y.1+y.2):x=y:=by
 obtain⟨A,B,rfl⟩:=append_of_mem hx
 rcases G8 hy with rfl|hy
 ·rfl
 ·exact absurd (Kn hy h3 h4) ((FA h).2 c h1 h2)
theorem OY {s:CS} (h:WF s) (hnd:(s.par.map (·.1)).Nodup) (hP:Y0 s) {k g:Nat} {e:Q8} (hk:s.tab[k]? = some ⟨g,some e⟩) {b0:Nat} {S:QF} (hSm:(e.region,b0,S)∈s.sps):∃ y∈S.parts,GV s.size y e:=by
 obtain⟨x,x1,x2,y,y1,y2⟩:=hP k g e hk;obtain rfl:x=(e.region,b0,S):=OV (by rw[h.skeys];exact hnd) x1 hSm x2;exact⟨y,y1,y2⟩
theorem eV {s:CS} (h:WF s) (hnd:(s.par.map (·.1)).Nodup) (hP:Y0 s) {k g:Nat} {e:Q8} (hk:s.tab[k]? = some ⟨g,some e⟩) {b0:Nat} {S:QF} (hSm:(e.region,b0,S)∈s.sps) (hb:Zv S s.size e=false):e.ws.length+1≤s.size:=by
 obtain⟨y,y1,y2⟩:=OY h hnd hP hk hSm
 rcases y2 with ⟨h1,h2,h3⟩|⟨h1,h2,h3⟩
 ·rw[Nat.add_mul] at h3;unfold QN at h3;omega
 ·exfalso;have hs:=h.size.1;have h4:e.addr / s.size=y.1:=by rw[h2];exact Nat.mul_div_cancel _ (by omega)
  have:Zv S s.size e=true:=any_eq_true.2 ⟨y,y1,decide_eq_true ⟨by omega,by omega,by omega⟩⟩;rw[hb] at this;cases this
theorem eY {s:CS} (h:WF s) (hnd:(s.par.map (·.1)).Nodup) (hP:Y0 s) {k g:Nat} {e:Q8} (hk:s.tab[k]? = some ⟨g,some e⟩) {b0:Nat} {S:QF} (hSm:(e.region,b0,S)∈s.sps) (hb:Zv S s.size e=true):∃ y∈S.parts,2≤y.2∧GV s.size y e:=by
 obtain⟨x,x1,x2⟩:=any_eq_true.1 hb;obtain⟨x3,x4,x5⟩:=of_decide_eq_true x2;obtain⟨y,y1,y2⟩:=OY h hnd hP hk hSm;obtain⟨y3,y4⟩:=y2.chunk h.size.1 (Nat.le_refl _) (Nat.div_le_div_right (by omega));obtain rfl:=eQ (h.spc _ hSm).nodup x1 y1 x4 x5 y3 y4;exact⟨x,x1,x3,y2⟩
structure YP (s:CS) (r:Nat) (S:QF) (Z:List Pl) (mem own' mem':List Nat) (T:QF):Prop where
 parts:∀ p∈T.parts,p.2=1∧s.own[p.1]? = some 0
 nd:(QR T.parts).Nodup
 at1:T.at'≤T.fin
 fin:T.fin≠0→∃ c,T.fin=(c+1)*s.size∧c*s.size < T.at'∧(c,1)∈T.parts
 ol:own'.length=s.own.length
 og:∀ j,own'.getD j 0=if j∈QR T.parts then r else s.own.getD j 0
 ml:mem'.length=mem.length
 mg:∀ a x,s.own[a / s.size]? = some x→x≠0→mem'[a]? = mem[a]?
 few:T.parts.length≤Z.length
 sit:∀ z∈Z,(Zv S s.size z.e=true∧z.a=z.e.addr)∨(Zv S s.size z.e=false∧Ko s.size T z.a (z.e.ws.length+1))
 apart:Z.Pairwise fun x y=>Zv S s.size x.e=false→Zv S s.size y.e=false→x.a+(x.e.ws.length+1)≤y.a∨y.a+(y.e.ws.length+1)≤x.a
theorem YP.start (s:CS) (r:Nat) (S:QF) (mem:List Nat):YP s r S [] mem s.own mem ⟨[],0,0⟩:=
 ⟨fun p hp=>(by cases hp),by simp[QR],Nat.le_refl _,fun h=>absurd rfl h,rfl,fun j=>by rw[if_neg (by simp[QR])],rfl,fun _ _ _ _=>rfl,Nat.le_refl _,fun z hz=>(by cases hz),.nil⟩
theorem YP.big {s:CS} {r:Nat} {S T:QF} {Z:List Pl} {mem own' mem':List Nat} (h:YP s r S Z mem own' mem' T) {z:Pl} (hb:Zv S s.size z.e=true) (ha:z.a=z.e.addr):YP s r S (Z++[z]) mem own' mem' T:=by
 refine⟨h.parts,h.nd,h.at1,h.fin,h.ol,h.og,h.ml,h.mg,by rw[length_append];have:=h.few;omega,fun y hy=>?_,?_⟩
 ·rcases mem_append.1 hy with hy|hy
  ·exact h.sit y hy
  ·rw[mem_singleton] at hy;subst hy;exact .inl ⟨hb,ha⟩
 ·rw[pairwise_append];refine⟨h.apart,by simp,fun x hx y hy h1 h2=>?_⟩;rw[mem_singleton] at hy;subst hy;rw[hb] at h2;cases h2
theorem YP.small {s:CS} (hw:WF s) {r:Nat} (hr:1≤r) {S T T':QF} {Z:List Pl} {mem own' mem' own2 mem2:List Nat} (h:YP s r S Z mem own' mem' T) (hml:mem.length=s.own.length*s.size) {z:Pl} (hb:Zv S s.size z.e=false) (hn:z.e.ws.length+1≤s.size)
  (al:UG s.size own' mem' r T (z.e.ws.length+1) own2 mem2 T' z.a):YP s r S (Z++[z]) mem own2 mem2 T':=by
 have hs1:=hw.size.1;obtain⟨zk,zg,e,a⟩:=z;have hb:Zv S s.size e=false:=hb;have hn:e.ws.length+1≤s.size:=hn;have al:UG s.size own' mem' r T (e.ws.length+1) own2 mem2 T' a:=al
 have fin2:∀ {U:QF},(∀ z∈Z,Zv S s.size z.e=false→Ko s.size U z.a (z.e.ws.length+1)∧(z.a+(z.e.ws.length+1)≤a∨a+(e.ws.length+1)≤z.a))→Ko s.size U a (e.ws.length+1) →
   (∀ z∈Z++[Pl.mk zk zg e a],(Zv S s.size z.e=true∧z.a=z.e.addr)∨(Zv S s.size z.e=false∧Ko s.size U z.a (z.e.ws.length+1))) ∧
   (Z++[Pl.mk zk zg e a]).Pairwise fun x y=>Zv S s.size x.e=false→Zv S s.size y.e=false→x.a+(x.e.ws.length+1)≤y.a∨y.a+(y.e.ws.length+1)≤x.a:=by
  intro U h1 h2;constructor
  ·intro y hy
   rcases mem_append.1 hy with hy|hy
   ·rcases h.sit y hy with h3|⟨h3,_⟩
    ·exact .inl h3
    ·exact .inr ⟨h3,(h1 y hy h3).1⟩
   ·rw[mem_singleton] at hy;subst hy;exact .inr ⟨hb,h2⟩
  ·rw[pairwise_append];refine⟨h.apart,by simp,fun x hx y hy h3 h4=>?_⟩;rw[mem_singleton] at hy;subst hy;exact(h1 x hx h3).2
 have hsit:∀ z∈Z,Zv S s.size z.e=false→Ko s.size T z.a (z.e.ws.length+1):=fun z hz h1=>by
  rcases h.sit z hz with ⟨h2,_⟩|⟨_,h2⟩
  ·rw[h1] at h2;cases h2
  ·exact h2
 cases al with
 | room hroom=>
  have hf0:T.fin≠0:=by omega
  obtain⟨c,hc1,hc2,hc3⟩:=h.fin hf0
  obtain⟨f1,f2⟩:=fin2 (U:={ T with at':=T.at'+(e.ws.length+1) }) (fun z hz h1=>by
   obtain⟨d,d1,d2,d3,d4⟩:=hsit z hz h1;refine⟨⟨d,d1,d2,d3,?_⟩,?_⟩
   ·show _≤T.at'+(e.ws.length+1)∨_
    rcases d4 with d4|d4
    ·left;omega
    ·exact .inr d4
   ·rcases d4 with d4|d4
    ·exact .inl d4
    ·right;omega) ⟨c,hc3,by omega,by rw[← hc1];omega,.inl (Nat.le_refl _)⟩
  refine⟨h.parts,h.nd,by show T.at'+_≤T.fin;omega,fun _=>⟨c,hc1,by show c*s.size < T.at'+_;omega,hc3⟩,h.ol,h.og,h.ml,h.mg,by rw[length_append];have:=h.few;show T.parts.length≤_;omega,f1,f2⟩
 | @one c hc hf hn'=>
  have hcl:c < own'.length:=hc
  have hnT:c∉QR T.parts:=fun h1=>by
   have h2:=h.og c;rw[if_pos h1,getD_eq_getElem?_getD,hf] at h2;have h2:(0:Nat)=r:=h2;omega
  have hs0:s.own[c]? = some 0:=by
   have h2:=h.og c;rw[if_neg hnT,getD_eq_getElem?_getD,hf,getD_eq_getElem?_getD,getElem?_eq_getElem (by rw[← h.ol];exact hcl)] at h2;rw[getElem?_eq_getElem (by rw[← h.ol];exact hcl)];have h2:(0:Nat)=s.own[c]'(by rw[← h.ol];exact hcl):=h2;rw[← h2]
  have hsz:(c+1)*s.size=c*s.size+s.size:=Nat.succ_mul _ _;have hle:(c+1)*s.size≤s.own.length*s.size:=Nat.mul_le_mul_right _ (by rw[← h.ol];exact hcl)
  obtain⟨f1,f2⟩:=fin2 (U:=⟨T.parts++[(c,1)],c*s.size+(e.ws.length+1),(c+1)*s.size⟩) (fun z hz h1=>by
   obtain⟨d,d1,d2,d3,d4⟩:=hsit z hz h1;have hdc:d≠c:=fun h2=>hnT (h2▸Kn d1 (Nat.le_refl _) (Nat.lt_succ_self _))
   rcases Nat.lt_or_gt_of_ne hdc with h2|h2
   ·have h3:(d+1)*s.size≤c*s.size:=Nat.mul_le_mul_right _ h2;exact⟨⟨d,mem_append.2 (.inl d1),d2,d3,.inl (by show _≤c*s.size+_;omega)⟩,.inl (by omega)⟩
   ·have h3:(c+1)*s.size≤d*s.size:=Nat.mul_le_mul_right _ h2;exact⟨⟨d,mem_append.2 (.inl d1),d2,d3,.inr (by show (c+1)*s.size≤_;omega)⟩,.inr (by omega)⟩) ⟨c,by simp,Nat.le_refl _,by omega,.inl (Nat.le_refl _)⟩
  refine⟨fun p hp=>?_,?_,by show c*s.size+_≤(c+1)*s.size;omega,fun _=>⟨c,rfl,by show c*s.size < c*s.size+_;omega,by simp⟩,by rw[Vy hc];exact h.ol,fun j=>?_,?_,fun i x h1 h2=>?_,by have:=h.few;simp only[length_append,length_cons,length_nil];omega,f1,f2⟩
  ·rcases mem_append.1 (show p∈T.parts++[(c,1)] from hp) with hp|hp
   ·exact h.parts p hp
   ·rw[mem_singleton] at hp;subst hp;exact⟨rfl,hs0⟩
  ·show (QR (T.parts++[(c,1)])).Nodup;rw[GP,K2,nodup_append];refine⟨h.nd,Hy c 1,fun x hx y hy hxy=>?_⟩;subst hxy;have:=GS.1 hy;obtain rfl:x=c:=by omega
   exact hnT hx
  ·show _=if j∈QR (T.parts++[(c,1)]) then r else _;rw[Rk hc,h.og,GP,K2];by_cases h1:c≤j∧j < c+1
   ·rw[if_pos h1,if_pos (mem_append.2 (.inr (GS.2 h1)))]
   ·rw[if_neg h1];by_cases h2:j∈QR T.parts
    ·rw[if_pos h2,if_pos (mem_append.2 (.inl h2))]
    ·rw[if_neg h2,if_neg];intro h3
     rcases mem_append.1 h3 with h3|h3
     ·exact h2 h3
     ·exact h1 (GS.1 h3)
  ·rw[Vy (by rw[h.ml,hml,Nat.one_mul];omega)];exact h.ml
  ·rw[Zq (by rw[h.ml,hml,Nat.one_mul];omega),if_neg]
   ·exact h.mg i x h1 h2
   ·rintro⟨h3,h4⟩;have:i / s.size=c:=Nat.div_eq_of_lt_le (by omega) (by omega);rw[this,hs0] at h1;injection h1 with h1
    exact h2 h1.symm
 | @run c k hk hc hf hn1 hn2=>
  exfalso;have:1*s.size≤(k - 1)*s.size:=Nat.mul_le_mul_right _ (by omega);omega
theorem eZ {s:CS} (h:WF s) {r:Nat} {S T:QF} {Z:List Pl} {mem own' mem':List Nat} (hA:YP s r S Z mem own' mem' T) (hl:s.par.length < 64) (hlast:s.last+1 < 1000000) {own2:List Nat} (hol:own2.length=own'.length) (hog:∀ j,own2.getD j 0=if j∈QR T.parts then s.last+1 else own'.getD j 0) (bs bm:Nat) :
  WF { s with own:=own2,last:=s.last+1,par:=s.par++[(((s.last+1:Nat):Int),(r:Int))],sps:=s.sps++[(((s.last+1:Nat):Int),bs,T)],mns:=s.mns++[(((s.last+1:Nat):Int),bm,[])] }:=by
 have hup:∀ r x,(r,x)∈s.par→r≠((s.last+1:Nat):Int):=fun r x hx=>by
  have:=(h.par.2.2 r x hx).2;omega
 have hs1:=h.size.1
 have hfree:∀ c,c∈QR T.parts→s.own[c]? = some 0:=fun c hc=>by
  obtain⟨y,y1,y2,y3⟩:=Cn.1 hc;obtain⟨y4,y5⟩:=hA.parts y y1;obtain rfl:c=y.1:=by omega
  exact y5
 have hog2:∀ j,own2.getD j 0=if j∈QR T.parts then s.last+1 else s.own.getD j 0:=fun j=>by
  rw[hog,hA.og];split <;> rfl
 have hol2:own2.length=s.own.length:=hol.trans hA.ol
 have hkeep:∀ (d y:Nat),s.own[d]? = some y→y≠0→own2[d]? = some y:=fun d y h1 h2=>by
  have hd:=(List.getElem?_eq_some_iff.1 h1).1;have h3:=hog2 d;rw[if_neg (fun h4=>by rw[hfree d h4] at h1;injection h1 with h1;exact h2 h1.symm),getD_eq_getElem?_getD,getD_eq_getElem?_getD,h1,getElem?_eq_getElem (by omega)] at h3;rw[getElem?_eq_getElem (by omega)];exact congrArg some h3
 have hback:∀ (d y:Nat),own2[d]? = some y→y≠0→(d∈QR T.parts∧y=s.last+1)∨s.own[d]? = some y:=fun d y h1 h2=>by
  have hd:=(List.getElem?_eq_some_iff.1 h1).1;have h3:=hog2 d;rw[getD_eq_getElem?_getD,h1] at h3;by_cases h4:d∈QR T.parts
  ·rw[if_pos h4] at h3;exact .inl ⟨h4,h3⟩
  ·rw[if_neg h4,getD_eq_getElem?_getD,getElem?_eq_getElem (by omega)] at h3;rw[getElem?_eq_getElem (by omega)];exact .inr (congrArg some h3.symm)
 refine⟨h.size,by show 1≤own2.length∧own2.length≤63;rw[hol2];exact h.own,h.slots,h.lays,h.gen,fun i g e hi=>?_,h.apart,⟨by show (s.par++[_]).length≤64;simp;omega,hlast,?_⟩,?_,?_,fun x hx=>?_,fun x hx i g e hi=>?_,fun c x hc h0=>?_,?_⟩
 ·obtain⟨a,⟨b1,b2⟩,y,hy⟩:=h.obj i g e hi;refine⟨a,⟨by show _≤own2.length*_;rw[hol2];exact b1,fun d d1 d2=>?_⟩,y,mem_append.2 (.inl hy)⟩;obtain⟨x,x1,x2,x3⟩:=b2 d d1 d2;exact⟨x,hkeep d x x1 (by omega),x2,x3⟩
 ·intro r x hx;have hx:(r,x)∈s.par++[_]:=hx;show 1≤r∧r≤((s.last+1:Nat):Int)
  rcases mem_append.1 hx with hx|hx
  ·have:=h.par.2.2 r x hx;omega
  ·simp at hx;omega
 ·have:=h.skeys;simp[this]
 ·have:=h.mkeys;simp[this]
 ·rcases mem_append.1 (show x∈s.sps++[_] from hx) with hx|hx
  ·obtain⟨a1,a2,a3,a4,a5⟩:=h.spc x hx;have hxk:x.1∈s.par.map (·.1):=by rw[← h.skeys];exact mem_map.2 ⟨x,hx,rfl⟩
   obtain⟨⟨x',z⟩,z1,z2⟩:=mem_map.1 hxk;have hne:x.1≠((s.last+1:Nat):Int):=by rw[← z2];exact hup _ _ z1
   refine⟨a1,a2,fun y hy=>by rw[hol2];exact a3 y hy,a4,fun c=>?_⟩;rw[a5];constructor
   ·rintro⟨y,y1,y2,y3⟩;exact⟨y,hkeep c y y1 y3,y2,y3⟩
   ·rintro⟨y,y1,y2,y3⟩
    rcases hback c y y1 y3 with ⟨_,h2⟩|h2
    ·exact absurd (by rw[← y2,h2]) hne
    ·exact⟨y,h2,y2,y3⟩
  ·rw[mem_singleton] at hx;subst hx;refine⟨hA.at1,hA.fin,fun y hy=>?_,hA.nd,fun c=>?_⟩
   ·obtain⟨y1,y2⟩:=hA.parts y hy;have:=(List.getElem?_eq_some_iff.1 y2).1;rw[hol2];omega
   ·constructor
    ·intro hc;have hcl:=(List.getElem?_eq_some_iff.1 (hfree c hc)).1;have h3:=hog2 c;have hcl2:c < own2.length:=by omega
     rw[if_pos hc,getD_eq_getElem?_getD,getElem?_eq_getElem hcl2] at h3;exact⟨s.last+1,by show own2[c]? = _;rw[getElem?_eq_getElem hcl2];exact congrArg some h3,rfl,by omega⟩
    ·rintro⟨y,y1,y2,y3⟩
     rcases hback c y y1 y3 with ⟨h2,_⟩|h2
     ·exact h2
     ·obtain⟨z,hz⟩:=h.live c y h2 y3;exact absurd y2 (hup _ _ hz)
 ·rcases mem_append.1 (show x∈s.sps++[_] from hx) with hx|hx
  ·exact h.free x hx i g e hi
  ·rw[mem_singleton] at hx;subst hx;show QN e≤T.at'∨T.fin≤e.addr;by_cases h0:T.fin=0
   ·right;omega
   obtain⟨c,c1,c2,c3⟩:=hA.fin h0
   rcases (h.obj i g e hi).2.1.chunk hs1 c with (h1|h1)|⟨y,y1,_,y3⟩
   ·left;omega
   ·right;omega
   ·rw[(hA.parts _ c3).2] at y1;injection y1 with y1
    omega
 ·rcases hback c x hc h0 with ⟨_,h1⟩|h1
  ·exact⟨(r:Int),mem_append.2 (.inr (by rw[h1];simp))⟩
  ·obtain⟨y,hy⟩:=h.live c x h1 h0;exact⟨y,mem_append.2 (.inl hy)⟩
 ·intro x hx
  rcases mem_append.1 (show x∈s.mns++[_] from hx) with hx|hx
  ·exact h.mine x hx
  ·rw[mem_singleton] at hx;subst hx;refine⟨by simp,fun i=>⟨fun hc=>by simp at hc,?_⟩⟩;rintro⟨g,e,h1,h2⟩;obtain⟨_,_,y,hy⟩:=h.obj _ _ _ h1;exact absurd h2 (hup _ _ hy)
theorem OZ {s s':CS} (h:WF s) {r:Nat} {S T:QF} {Z:List Pl} {mem own' mem':List Nat} (hA:YP s r S Z mem own' mem' T) (m:VT s mem) (h1:s'.own.length=s.own.length) (h2:s'.size=s.size) (h3:s'.tab=s.tab):VT s' mem':=by
 have hs1:=h.size.1;refine⟨by rw[h1,h2,hA.ml];exact m.len,fun i g e hi=>?_,fun i g e hi p w hp=>?_⟩
 ·rw[h3] at hi;obtain⟨x,x1,_,x3⟩:=(h.obj i g e hi).2.1.2 (e.addr / s.size) (Nat.le_refl _) (Nat.div_le_div_right (by omega));rw[hA.mg _ x x1 (by omega)];exact m.head i g e hi
 ·rw[h3] at hi;have hpl:=(List.getElem?_eq_some_iff.1 hp).1;obtain⟨x,x1,_,x3⟩:=(h.obj i g e hi).2.1.2 ((e.addr+1+p) / s.size) (Nat.div_le_div_right (by omega)) (Nat.div_le_div_right (by omega));rw[hA.mg _ x x1 (by omega)];exact m.words i g e hi p w hp
theorem YP.beside {s:CS} (h:WF s) {r:Nat} {S T:QF} {Z:List Pl} {mem own' mem':List Nat} (hA:YP s r S Z mem own' mem' T) {a n:Nat} (hs:Ko s.size T a n) {j g:Nat} {f:Q8} (hj:s.tab[j]? = some ⟨g,some f⟩):QN f≤a∨a+n≤f.addr:=by
 obtain⟨c,c1,c2,c3,_⟩:=hs
 rcases (h.obj j g f hj).2.1.chunk h.size.1 c with (h1|h1)|⟨y,y1,_,y3⟩
 ·left;omega
 ·right;omega
 ·rw[(hA.parts _ c1).2] at y1;injection y1 with y1
  omega
theorem OG {par:List (Int×Int)} (h:Yo par) {last:Nat} {r:Int} (hr:r=0∨(QY par r).isSome=true) (h0:0≤r) (hl:∀ x q,(x,q)∈par→x≤(last:Int)) (hrl:r≤last):Yo (par++[(((last+1:Nat):Int),r)]):=by
 have hn:((last+1:Nat):Int)∉par.map (·.1):=fun h1=>by
  obtain⟨⟨x,q⟩,h2,h3⟩:=mem_map.1 h1;have h3:x=((last+1:Nat):Int):=h3;have:=hl x q h2;omega
 have hf:∀ x,QY (par++[(((last+1:Nat):Int),r)]) x=if x=((last+1:Nat):Int) then some r else QY par x:=fun x=>by
  rw[← Xg hn,UC];by_cases h1:x=((last+1:Nat):Int)
  ·rw[if_pos h1,if_pos h1.symm]
  ·rw[if_neg h1,if_neg (fun h=>h1 h.symm)]
 have hlive:∀ x,(QY par x).isSome=true→(QY (par++[(((last+1:Nat):Int),r)]) x).isSome=true:=fun x h1=>by
  rw[hf];split
  ·rfl
  ·exact h1
 refine⟨?_,fun x q hx=>?_⟩
 ·rw[map_append,nodup_append];refine⟨h.nd,by simp,fun a ha b hb hab=>?_⟩;simp at hb;subst hab;subst hb;exact hn (by simpa using ha)
 ·rw[hf] at hx;split at hx
  ·injection hx with hx
   subst hx;rename_i h1;exact⟨h0,by omega,hr.imp id (hlive _)⟩
  ·obtain⟨a,b,c⟩:=h.up x q hx;exact⟨a,b,c.imp id (hlive _)⟩
theorem eG {par:List (Int×Int)} (h:Yo par) {last:Nat} {r:Int} (he:Z7 par r=0) (hl:∀ x q,(x,q)∈par→1≤x∧x≤(last:Int)):Yo (par++[(((last+1:Nat):Int),r)]):=by
 have hr:r=0∨(QY par r).isSome=true:=by
  unfold Z7 at he;split at he
  ·cases he
  ·rename_i h1;by_cases h2:r=0
   ·exact .inl h2
   ·cases hf:(QY par r).isSome with
    | true=>exact .inr rfl
    | false=>exact absurd ⟨h2,hf⟩ h1
 have h0:0≤r∧r≤(last:Int):=by
  rcases hr with h1|h1
  ·omega
  ·obtain⟨⟨x,q⟩,h2,h3⟩:=mem_map.1 (Wc h1);have h3:x=r:=h3;have:=hl x q h2;omega
 exact OG h hr h0.1 (fun x q hx=>(hl x q hx).2) h0.2
def Yf (id:Int) (Z:List Pl) (k:Nat) (e:Q8):Q8:=match Z.find? (fun z=>z.k == k) with
 | some z=>{ e with region:=id,addr:=z.a }
 | none=>e
theorem OU (id:Int) (Z:List Pl) (k:Nat) (e:Q8):(Yf id Z k e).lay=e.lay∧(Yf id Z k e).count=e.count∧(Yf id Z k e).ws=e.ws∧(Yf id Z k e).held=e.held∧(Yf id Z k e).pinned=e.pinned:=by
 unfold Yf;split <;> exact⟨rfl,rfl,rfl,rfl,rfl⟩
theorem Ic {Z:List Pl} {k:Nat} (h:k∉Z.map Pl.k):Z.find? (fun z=>z.k == k)=none:=by
 rw[find?_eq_none];intro z hz h1;exact h (mem_map.2 ⟨z,hz,by simpa using h1⟩)
theorem Co {id:Int} {Z:List Pl} {k:Nat} (h:k∉Z.map Pl.k) (e:Q8):Yf id Z k e=e:=by
 unfold Yf;rw[Ic h]
theorem eU {id:Int} {Z:List Pl} {z:Pl} {k:Nat} (h:k≠z.k) (e:Q8):Yf id (Z++[z]) k e=Yf id Z k e:=by
 unfold Yf;rw[find?_append,find?_cons_of_neg (by simpa using fun h1=>h h1.symm),find?_nil,Option.or_none]
theorem eX {id:Int} {Z:List Pl} {z:Pl} (h:z.k∉Z.map Pl.k) (e:Q8):Yf id (Z++[z]) z.k e={ e with region:=id,addr:=z.a }:=by
 unfold Yf;rw[find?_append,Ic h,find?_cons_of_pos (by simp),Option.none_or]
theorem Ie {id:Int} {Z:List Pl} (hnd:(Z.map Pl.k).Nodup) {z:Pl} (hz:z∈Z) (e:Q8):Yf id Z z.k e={ e with region:=id,addr:=z.a }:=by
 obtain⟨A,B,rfl⟩:=append_of_mem hz;rw[map_append,map_cons,nodup_append] at hnd;have h1:z.k∉A.map Pl.k:=fun h=>hnd.2.2 _ h _ mem_cons_self rfl;unfold Yf;rw[find?_append,Ic h1,find?_cons_of_pos (by simp),Option.none_or]
def eK (s:CS) (r:Int) (S T:QF) (z:Pl):Prop:=s.tab[z.k]? = some ⟨z.g,some z.e⟩∧z.e.region=r ∧
 ((z.a=z.e.addr∧∃ y∈S.parts,2≤y.2∧GV s.size y z.e)∨(z.a≠z.e.addr∧Ko s.size T z.a (z.e.ws.length+1)∧∀ (j n:Nat) (f:Q8),s.tab[j]? = some ⟨n,some f⟩→QN f≤z.a∨z.a+(z.e.ws.length+1)≤f.addr))
structure Ug (s:CS) (r:Int) (id:Nat) (Zd Zp:List Pl) (s':CS) (S T:QF):Prop where
 size:s'.size=s.size
 own:s'.own.length=s.own.length
 lays:s'.lays=s.lays
 last:s'.last=s.last+1
 par:s'.par=s.par++[((id:Int),r)]
 rem:s'.rem=s.rem
 tabl:s'.tab.length=s.tab.length
 tab:∀ (k:Nat) (t:QK),s.tab[k]? = some t→s'.tab[k]? = some ⟨t.gen,t.ent.map (Yf id Zd k)⟩
 part:Y0 s'
 pend:∀ z∈Zp,eK s' r S T z
 apart:Zp.Pairwise fun x y=>x.a≠x.e.addr→y.a≠y.e.addr→x.a+(x.e.ws.length+1)≤y.a∨y.a+(y.e.ws.length+1)≤x.a
 keys:((Zd++Zp).map Pl.k).Nodup
 zero:Zd++Zp=[]→s'.own=s.own
theorem OX {s s':CS} {id:Nat} {Zd:List Pl} (htl:s'.tab.length=s.tab.length) (ht:∀ (k:Nat) (t:QK),s.tab[k]? = some t→s'.tab[k]? = some ⟨t.gen,t.ent.map (Yf id Zd k)⟩) {z:Pl} (hz:s'.tab[z.k]? = some ⟨z.g,some z.e⟩) (hk:z.k∉Zd.map Pl.k)
  (k:Nat) (t:QK) (hkt:s.tab[k]? = some t):(s'.tab.set z.k ⟨z.g,some { z.e with region:=(id:Int),addr:=z.a }⟩)[k]? = some ⟨t.gen,t.ent.map (Yf id (Zd++[z]) k)⟩:=by
 have h1:=ht k t hkt;have hkl:=(List.getElem?_eq_some_iff.1 h1).1;obtain⟨g0,e0⟩:=t;by_cases hkz:z.k=k
 ·subst hkz;rw[hz] at h1;injection h1 with h1
  injection h1 with h2 h3
  rw[getElem?_set_self hkl,h2];cases e0 with
  | none=>cases h3
  | some e=>
   injection h3 with h3
   rw[Co hk] at h3;subst h3;show _=some (QK.mk g0 (some (Yf id (Zd++[z]) z.k z.e)));rw[eX hk]
 ·rw[getElem?_set_ne hkz,h1];cases e0 with
  | none=>rfl
  | some e=>
   show some (QK.mk g0 (some (Yf id Zd k e)))=some (QK.mk g0 (some (Yf id (Zd++[z]) k e)));rw[eU (fun h=>hkz h.symm)]
theorem Ug.facts {s:CS} {r:Int} {id:Nat} {Zd Zp:List Pl} {z:Pl} {s':CS} {S T:QF} (h:Ug s r id Zd (z::Zp) s' S T):z.k∉Zd.map Pl.k∧(∀ y∈Zp,y.k≠z.k)∧((Zd++[z]++Zp).map Pl.k).Nodup:=by
 have h1:=h.keys;refine⟨fun h2=>?_,fun y hy h2=>?_,by rw[append_assoc];exact h1⟩
 ·rw[map_append,nodup_append] at h1;exact h1.2.2 _ h2 z.k (by simp) rfl
 ·rw[map_append,nodup_append,map_cons,nodup_cons] at h1;exact h1.2.1.1 (h2▸mem_map.2 ⟨y,hy,rfl⟩)
theorem Ug.shift {s:CS} {r:Int} {id:Nat} {Zd Zp:List Pl} {z:Pl} {s' s2:CS} {S T:QF} (h:Ug s r id Zd (z::Zp) s' S T) (hza:z.a≠z.e.addr) {bs:Nat} (hT:((id:Int),bs,T)∈s'.sps)
  (h1:s2.size=s'.size) (h2:s2.own=s'.own) (h3:s2.lays=s'.lays) (h4:s2.last=s'.last) (h5:s2.par=s'.par) (h6:s2.rem=s'.rem) (h7:s2.tab=s'.tab.set z.k ⟨z.g,some { z.e with region:=(id:Int),addr:=z.a }⟩) (h8:s2.sps=s'.sps):Ug s r id (Zd++[z]) Zp s2 S T:=by
 obtain⟨hk1,hk2,hk3⟩:=h.facts;obtain⟨q1,q2,q3⟩:=h.pend z mem_cons_self
 rcases q3 with ⟨q3,_⟩|⟨_,q4,q5⟩
 ·exact absurd q3 hza
 have hap:=h.apart;rw[pairwise_cons] at hap;refine⟨h1.trans h.size,by rw[h2];exact h.own,h3.trans h.lays,h4.trans h.last,h5.trans h.par,h6.trans h.rem,by rw[h7,length_set];exact h.tabl,fun k t hk=>by rw[h7];exact OX h.tabl h.tab q1 hk1 k t hk,dy h.part (bs:=bs) (T:=T) (by rw[h8];exact hT) q4 h1 h7 h8,fun y hy=>?_,hap.2,hk3,fun h0=>by simp at h0⟩;obtain⟨y1,y2,y3⟩:=h.pend y (mem_cons_of_mem _ hy);refine⟨by rw[h7,getElem?_set_ne (fun h=>hk2 y hy h.symm)];exact y1,y2,?_⟩;rw[h1]
 rcases y3 with y3|⟨y3,y4,y5⟩
 ·exact .inl y3
 ·refine .inr ⟨y3,y4,fun j n f hj=>?_⟩;rw[h7] at hj
  rcases Qz hj with ⟨rfl,u1,_⟩|⟨h0,hj⟩
  ·injection u1 with _ u1
   injection u1 with u1
   subst u1;have:=hap.1 y hy hza y3;show z.a+1+z.e.ws.length≤y.a∨_≤z.a;omega
  ·exact y5 j n f hj
theorem Ug.hand {s:CS} {r:Int} {id:Nat} {Zd Zp:List Pl} {z:Pl} {s' s2:CS} {S T:QF} (h:Ug s r id Zd (z::Zp) s' S T) (hw:WF s') (hnd:(s'.par.map (·.1)).Nodup) (hza:z.a=z.e.addr)
  {p1 p2:List (Int×Nat×QF)} {b0 bs:Nat} (hsps:s'.sps=p1++(r,b0,S)::(p2++[((id:Int),bs,T)])) {A B:List (Nat×Nat)} {c n:Nat} (hp:S.parts=A++(c,n)::B) (hn:2≤n) (hin:GV s'.size (c,n) z.e)
  (h1:s2.size=s'.size) (h2:s2.own.length=s'.own.length) (h3:s2.lays=s'.lays) (h4:s2.last=s'.last) (h5:s2.par=s'.par) (h6:s2.rem=s'.rem) (h7:s2.tab=s'.tab.set z.k ⟨z.g,some { z.e with region:=(id:Int),addr:=z.e.addr }⟩)
  (h8:s2.sps=p1++(r,b0,{ S with parts:=A++B })::(p2++[((id:Int),bs,{ T with parts:=T.parts++[(c,n)] })])):Ug s r id (Zd++[z]) Zp s2 { S with parts:=A++B } { T with parts:=T.parts++[(c,n)] }:=by
 obtain⟨hk1,hk2,hk3⟩:=h.facts;obtain⟨q1,q2,q3⟩:=h.pend z mem_cons_self;have hap:=h.apart;rw[pairwise_cons] at hap;have hSm:(r,b0,S)∈s'.sps:=by rw[hsps];simp
 refine⟨h1.trans h.size,by rw[h2];exact h.own,h3.trans h.lays,h4.trans h.last,h5.trans h.par,h6.trans h.rem,by rw[h7,length_set];exact h.tabl,fun k t hk=>by rw[h7,← hza];exact OX h.tabl h.tab q1 hk1 k t hk,e9 hw h.part q1 q2 hnd hsps hp hn hin h1 h7 h8,fun y hy=>?_,hap.2,hk3,fun h0=>by simp at h0⟩;obtain⟨y1,y2,y3⟩:=h.pend y (mem_cons_of_mem _ hy);refine⟨by rw[h7,getElem?_set_ne (fun h=>hk2 y hy h.symm)];exact y1,y2,?_⟩;rw[h1]
 rcases y3 with ⟨y3,x,x1,x2,x3⟩|⟨y3,⟨d,d1,d2,d3,d4⟩,y5⟩
 ·refine .inl ⟨y3,x,?_,x2,x3⟩;rw[hp] at x1
  rcases G8 x1 with rfl|x1
  ·exfalso;have hd1:y.e.addr / s'.size≤y.e.addr / s'.size:=Nat.le_refl _;have hd2:y.e.addr / s'.size≤(y.e.addr+y.e.ws.length) / s'.size:=Nat.div_le_div_right (by omega);exact Ib hw h.part hnd q1 (S:=S) (b0:=b0) (by rw[q2];exact hSm) hp hn hin (hk2 y hy) y1 hd1 hd2 (x3.chunk hw.size.1 hd1 hd2)
  ·exact x1
 ·refine .inr ⟨y3,⟨d,mem_append.2 (.inl d1),d2,d3,d4⟩,fun j m f hj=>?_⟩;rw[h7] at hj
  rcases Qz hj with ⟨rfl,u1,_⟩|⟨h0,hj⟩
  ·injection u1 with _ u1
   injection u1 with u1
   subst u1;exact(y5 z.k z.g z.e q1:QN z.e≤y.a∨y.a+(y.e.ws.length+1)≤z.e.addr)
  ·exact y5 j m f hj
theorem eR {s:CS} {r:Nat} {S T:QF} {Z:List Pl} {mem own' mem' own2:List Nat} {n:Nat} (hA:YP s r S Z mem own' mem' T) (hl:own2.length=own'.length) (hg:∀ j,own2.getD j 0=if j∈QR T.parts then n else own'.getD j 0) (hZ:Z=[]):own2=s.own:=by
 have h1:=hA.few;rw[hZ] at h1;have h2:T.parts=[]:=eq_nil_of_length_eq_zero (Nat.le_zero.1 h1);have h3:∀ j,j∉QR T.parts:=fun j h=>by rw[h2] at h;simp[QR] at h
 have h4:own2.length=s.own.length:=hl.trans hA.ol;refine ext_getElem h4 fun j j1 j2=>?_;have h5:=hg j;rw[if_neg (h3 j),hA.og,if_neg (h3 j),getD_eq_getElem?_getD,getD_eq_getElem?_getD,getElem?_eq_getElem j1,getElem?_eq_getElem j2] at h5;exact h5
theorem eW {s:CS} (hw:WF s) (hnd:(s.par.map (·.1)).Nodup) (hP:Y0 s) {r:Nat} {b0:Nat} {S T:QF} (hSm:((r:Int),b0,S)∈s.sps) {Z:List Pl} {mem own' mem':List Nat} (hA:YP s r S Z mem own' mem' T)
  (hents:∀ z∈Z,s.tab[z.k]? = some ⟨z.g,some z.e⟩∧z.e.region=(r:Int)) (hkeys:(Z.map Pl.k).Nodup) {own2:List Nat} (hol:own2.length=s.own.length) (h00:Z=[]→own2=s.own) (bs bm:Nat) :
  Ug s r (s.last+1) [] Z { s with own:=own2,last:=s.last+1,par:=s.par++[(((s.last+1:Nat):Int),(r:Int))],sps:=s.sps++[(((s.last+1:Nat):Int),bs,T)],mns:=s.mns++[(((s.last+1:Nat):Int),bm,[])] } S T:=by
 have hsm:∀ z∈Z,z.a≠z.e.addr→Zv S s.size z.e=false:=fun z hz h1=>by
  rcases hA.sit z hz with ⟨_,h2⟩|⟨h2,_⟩
  ·exact absurd h2 h1
  ·exact h2
 refine⟨rfl,hol,rfl,rfl,rfl,rfl,rfl,fun k t hk=>?_,fun k g e hk=>?_,fun z hz=>?_,?_,hkeys,h00⟩
 ·show s.tab[k]? = _;rw[hk];obtain⟨g,e⟩:=t;cases e <;> rfl
 ·obtain⟨x,x1,x2,x3⟩:=hP k g e hk;exact⟨x,mem_append.2 (.inl x1),x2,x3⟩
 ·obtain⟨h1,h2⟩:=hents z hz;have hSm':(z.e.region,b0,S)∈s.sps:=by rw[h2];exact hSm
  refine⟨h1,h2,?_⟩
  rcases hA.sit z hz with ⟨h3,h4⟩|⟨h3,h4⟩
  ·exact .inl ⟨h4,eY hw hnd hP h1 hSm' h3⟩
  ·refine .inr ⟨fun h5=>?_,h4,fun j n f hj=>hA.beside hw h4 hj⟩;have:=hA.beside hw h4 h1;unfold QN at this;omega
 ·exact hA.apart.imp_of_mem fun hx hy h1 h2 h3=>h1 (hsm _ hx h2) (hsm _ hy h3)
structure Az (s:CS) (r:Int) (Z:List Pl) (s':CS):Prop where
 size:s'.size=s.size
 own:s'.own.length=s.own.length
 lays:s'.lays=s.lays
 last:s'.last=s.last+1
 par:s'.par=s.par++[(((s.last+1:Nat):Int),r)]
 tabl:s'.tab.length=s.tab.length
 tab:∀ (k:Nat) (t:QK),s.tab[k]? = some t→s'.tab[k]? = some ⟨t.gen,t.ent.map (Yf ((s.last+1:Nat):Int) Z k)⟩
 ents:∀ z∈Z,s.tab[z.k]? = some ⟨z.g,some z.e⟩∧z.e.region=r
 keys:(Z.map Pl.k).Nodup
 rem:∃ D,O4 s' (fun k=>∃ g e,s'.tab[k]? = some ⟨g,some e⟩∧(e.region=r∨e.region=((s.last+1:Nat):Int))) D∧ZH s' s.rem D s'.rem
 part:Y0 s'
 zero:Z=[]→s'.own=s.own
theorem Az.mv {s s':CS} {r:Int} {Z:List Pl} (h:Az s r Z s'):Uf s s' (Yf ((s.last+1:Nat):Int) Z):=⟨h.lays,h.tabl,h.tab,fun k e=>OU _ Z k e⟩
theorem eA {s s':CS} (hw:WF s) {r:Int} (hr:r≤s.last) {Z:List Pl} (h:Az s r Z s') (hI:Inv s):Inv s':=by
 obtain⟨D,hD,hN⟩:=h.rem;refine O6 h.mv hI hN fun k g p a b e f hnD hk hp hrf ha=>?_;have hno:∀ P:Prop,((Yf ((s.last+1:Nat):Int) Z k e).region=r∨(Yf ((s.last+1:Nat):Int) Z k e).region=((s.last+1:Nat):Int))→P:=fun P h1=>absurd ((hD _).2 ⟨k,g,_,⟨g,_,h.mv.at hk,h1⟩,h.mv.at hk,O5.2 ⟨p,rfl,by rw[(OU _ Z k e).2.2.1];exact hp,by rw[h.mv.lay k e];exact hrf⟩⟩) hnD
 have hkZ:k∉Z.map Pl.k:=fun h1=>by
  obtain⟨z,z1,z2⟩:=mem_map.1 h1;subst z2;exact hno _ (.inr (by rw[Ie h.keys z1]))
 rw[Co hkZ] at hno;rw[Co hkZ];have her:e.region≠r:=fun h1=>hno _ (.inl h1)
 have hel:e.region≤s.last:=by
  obtain⟨_,_,q,hq⟩:=hw.obj k g e hk;exact(hw.par.2.2 _ _ hq).2
 by_cases haZ:a∈Z.map Pl.k
 ·obtain⟨z,z1,z2⟩:=mem_map.1 haZ;subst z2;obtain⟨z3,z4⟩:=h.ents z z1;rw[ha] at z3;injection z3 with z3
  injection z3 with _ z3
  injection z3 with z3
  rw[Ie h.keys z1,z3,z4]
  exact⟨fun _ h1=>her h1.symm,fun _ h1=>by
   have h1:((s.last+1:Nat):Int)=e.region:=h1;omega⟩
 ·rw[Co haZ]
theorem OK [Q4] (v:Value) (l:List Nat) (size:Nat) (hl:l.length≤1000000) {w:World} {fr:List Q2} (hr:Vt fr v l.length 1 (QA l)) (H:Q0 w fr) :
  Calls Tryz.prog 252 #[v,.int .i64 size] w (ret fun x w'=>(∃ b,x = .bool b∧(b=true↔X0 l size))∧Q0 w' fr):=by
 obtain⟨_,ad,cap,rfl,hr⟩:=hr;refine QQ Tryz.func252 rfl (by kernel_rfl) ?_;refine EM H ?_;refine Ql (fun ms σ w q=>ms=[]∧∃ (i:Nat) (t:Int),i≤l.length∧q=l.length - i∧X0 (l.take i) size∧((i=0∧t = -1)∨∃ y:Nat,(l.take i).getLast? = some y∧t=y)∧σ 0 = .slice ad l.length cap∧σ 1 = .int .i64 size∧σ 5 = .int .i64 t∧σ 6 = .int .i64 i∧Q0 w fr) (m:=l.length) ⟨rfl,0,-1,by omega,rfl,⟨by simp,by simp⟩,.inl ⟨rfl,rfl⟩,rfl,rfl,rfl,rfl,H⟩ ?_;clear H;rintro ms σ w q ⟨rfl,i,t,hi,rfl,hR,ht,g0,g1,g5,g6,H⟩;rw[Q1 g0,Q1 g1,Q1 g5,Q1 g6];refine KT H ?_;refine Qj rfl (fun h=>QD ?_) (fun h=>Qp ?_)
 ·have hlt:i < l.length:=by omega
  have hx:=getElem?_eq_getElem hlt;have htk:l.take (i+1)=l.take i++[l[i]]:=by rw[take_add_one,hx];rfl
  have hmem:l[i]∈l:=getElem_mem hlt;have hlast:(l.take (i+1)).getLast? = some l[i]:=by rw[htk,getLast?_concat]
  have hbad:∀ y:Nat,(l.take i).getLast? = some y→l.Pairwise (· < ·)→y < l[i]:=fun y hy hp=>by
   have hi0:0 < i:=by
    rcases Nat.eq_zero_or_pos i with h0|h0
    ·subst h0;simp at hy
    ·exact h0
   rw[getLast?_eq_getElem?,length_take,Nat.min_eq_left hi,getElem?_take_of_lt (by omega),getElem?_eq_getElem (by omega)] at hy;have:=pairwise_iff_getElem.1 hp (i - 1) i (by omega) hlt (by omega);injection hy with hy
   omega
  generalize l[i]=x at hx htk hmem hlast hbad
  rcases hr with hr|⟨b,o,E,fz,c,rfl,hA,hrd⟩
  ·omega
  haveI:=hA
  have hcell:c[o+i*1]? = some (.int .i64 x):=by
   rw[Nat.mul_one];exact hrd.get i _ (by simp[QA,hx])
  refine Xs H ?_;refine Jd ?_;refine Q5 rfl (QB H rfl hcell rfl ?_);refine YA H ?_;by_cases h1:(x:Int)≤t
  ·rw[show decide ((x:Int)≤t)=true from decide_eq_true (by omega)];refine E2 H ?_;refine KI H ?_;refine UM H ?_;refine Q3 (Jy H rfl fun w' H'=>⟨⟨false,rfl,⟨fun h=>(by cases h),fun h=>?_⟩⟩,H'⟩)
   rcases ht with ⟨_,rfl⟩|⟨y,hy,rfl⟩
   ·omega
   ·have:=hbad y hy h.2;omega
  ·rw[show decide ((x:Int)≤t)=false from decide_eq_false (by omega)];refine UQ H ?_;refine QT rfl rfl rfl (GC rfl rfl (by omega) (by omega) rfl ?_);refine QT rfl rfl rfl (QB H rfl hcell rfl ?_);refine Zm H ?_;by_cases h2:x < size
   ·rw[show decide ((x:Int)≥(size:Int))=false from decide_eq_false (by omega)];refine Vx H ?_;refine J9 H ?_;refine Jd ?_;refine Q5 rfl (QB H rfl hcell rfl ?_);refine C6 H ?_;refine⟨_,⟨rfl,i+1,x,hlt,rfl,?_,.inr ⟨x,hlast,rfl⟩,rfl,rfl,rfl,Qc (by omega),H⟩,by omega⟩;rw[htk];refine⟨fun p hp=>?_,Mj hR.2 fun z hz=>?_⟩
    ·simp at hp
     rcases hp with hp|rfl
     ·exact hR.1 p hp
     ·exact h2
    ·rcases ht with ⟨rfl,rfl⟩|⟨y,hy,rfl⟩
     ·simp at hz
     ·rw[hy] at hz;cases hz;omega
   ·rw[show decide ((x:Int)≥(size:Int))=true from decide_eq_true (by omega)];refine UM H ?_;refine Q3 (Jy H rfl fun w' H'=>⟨⟨false,rfl,⟨fun h=>(by cases h),fun h=>?_⟩⟩,H'⟩);exact absurd (h.1 x hmem) h2
 ·have hge:i=l.length:=by omega
  subst hge;rw[take_length] at hR;refine VF H ?_;exact Q3 (Jy H rfl fun w' H'=>⟨⟨true,rfl,by simp[hR]⟩,H'⟩)
theorem OR [Q4] (v:Value) (l:List Nat) (x:Nat) (hl:l.length≤1000000) {w:World} {fr:List Q2} (hr:Vt fr v l.length 1 (QA l)) (H:Q0 w fr) :
  Calls Tryz.prog 245 #[v,.int .i64 x] w (ret fun r w'=>r = .bool (decide (x∈l))∧Q0 w' fr):=by
 obtain⟨_,ad,cap,rfl,hr⟩:=hr;refine QQ Tryz.func245 rfl (by kernel_rfl) ?_;refine HC H ?_;refine Ql (fun ms σ w q=>ms=[]∧∃ i:Nat,i≤l.length∧q=l.length - i∧x∉l.take i∧σ 0 = .slice ad l.length cap∧σ 1 = .int .i64 x∧σ 5 = .int .i64 i∧Q0 w fr) (m:=l.length) ⟨rfl,0,by omega,rfl,by simp,rfl,rfl,rfl,H⟩ ?_;clear H;rintro ms σ w q ⟨rfl,i,hi,rfl,hn,g0,g1,g5,H⟩;rw[Q1 g0,Q1 g1,Q1 g5];refine KT H ?_;refine Qj rfl (fun h=>QD ?_) (fun h=>Qp ?_)
 ·have hlt:i < l.length:=by omega
  have hx:=getElem?_eq_getElem hlt;have htk:l.take (i+1)=l.take i++[l[i]]:=by rw[take_add_one,hx];rfl
  have hmem:l[i]∈l:=getElem_mem hlt;generalize l[i]=y at hx htk hmem
  rcases hr with hr|⟨b,o,E,fz,c,rfl,hA,hrd⟩
  ·omega
  haveI:=hA
  have hcell:c[o+i*1]? = some (.int .i64 y):=by
   rw[Nat.mul_one];exact hrd.get i _ (by simp[QA,hx])
  refine Xs H ?_;refine Jd ?_;refine Q5 rfl (QB H rfl hcell rfl ?_);refine J3 H ?_;by_cases h1:y=x
  ·subst h1;rw[show ((y:Int) == (y:Int))=true by simp];refine YC H ?_;exact Q3 (Jy H rfl fun w' H'=>⟨by rw[decide_eq_true hmem];rfl,H'⟩)
  ·rw[show ((y:Int) == (x:Int))=false by simp;omega];refine AW H ?_;refine⟨_,⟨rfl,i+1,hlt,rfl,?_,rfl,rfl,Qc (by omega),H⟩,by omega⟩;rw[htk];simp only[mem_append,mem_singleton];rintro(h|h)
   ·exact hn h
   ·exact h1 h.symm
 ·have hge:i=l.length:=by omega
  subst hge;rw[take_length] at hn;refine VF H ?_;exact Q3 (Jy H rfl fun w' H'=>⟨by rw[decide_eq_false hn];rfl,H'⟩)
theorem Cp [Q4] (x:Nat) (hx:x < 18446744073709551616) {w:World} {fr:List Q2} (H:Q0 w fr) :
  Calls Tryz.prog 239 #[.int .u64 x] w (ret fun v w'=>Q0 w' (NL v (Vg x 64)::fr)):=by
 refine QQ Tryz.func239 rfl (by kernel_rfl) ?_;refine EM H ?_;refine Ql (fun ms σ w n=>ms=[]∧∃ (k:Nat) (g:Value),k≤64∧n=64 - k∧σ 0 = .int .u64 ((x / 2 ^ k:Nat):Int)∧σ 3=g∧σ 4 = .int .i64 k∧Q0 w (NL g (Vg x k)::fr)) (m:=64) ⟨rfl,0,_,by omega,rfl,by simp;rfl,rfl,rfl,Yt H⟩ ?_;clear H;rintro ms σ w n ⟨rfl,k,g,hk,rfl,g0,g3,g4,H⟩;obtain⟨ag,mg,cg,rfl⟩:=Qs H;rw[Q1 g0,Q1 g3,Q1 g4];refine J4 H ?_;by_cases h64:k < 64
 ·rw[show decide ((k:Int) < 64)=true from decide_eq_true (by omega)];refine J6 H ?_;refine Xr H ?_;have hdle:x / 2 ^ k≤x:=Nat.div_le_self _ _;have hbit:x.testBit k=decide (x / 2 ^ k % 2=1):=Nat.testBit_eq_decide_div_mod_eq;have hnext:x / 2 ^ (k+1)=x / 2 ^ k / 2:=by rw[Nat.pow_succ,Nat.div_div_eq_div_mul]
  generalize hy:x / 2 ^ k=y at hdle hbit hnext;have hrem:Int.tmod (y:Int) 2=((y % 2:Nat):Int):=by rw[Int.tmod_eq_emod_of_nonneg (by omega)];omega
  have hquo:IntKind.u64.wrap (Int.tdiv (y:Int) 2)=((y / 2:Nat):Int):=by
   rw[Int.tdiv_eq_ediv_of_nonneg (by omega),show (y:Int) / 2=((y / 2:Nat):Int) by omega,UH (by omega)]
  refine Xs H ?_;rw[hrem];refine Y8 H ?_;refine Qk (fun ms σ w=>ms=[]∧∃ g:Value,σ 0 = .int .u64 y∧σ 3=g∧σ 4 = .int .i64 k∧Q0 w (NL g (Vg x (k+1))::fr)) ?_ ?_
  ·by_cases h1:y % 2=1
   ·have e2:Vg x (k+1)=Vg x k++[k]:=by rw[Es,hbit,decide_eq_true h1];rfl
    rw[show (((y % 2:Nat):Int) == 1)=true by simp;omega];refine Vp rfl ?_;refine EG H ?_;clear H;intro b14 w H;refine Q5 rfl (YR H.swap rfl rfl (by repeat first|exact .nil _|apply Q9.cons rfl) rfl (by decide) (by rw[QH];have:=Ah x k;simp only[length_cons,length_nil];omega) rfl rfl ?_);clear H;intro v15 w H;obtain⟨a15,m15,c15,rfl⟩:=Qs H;refine J0 H ?_;refine⟨rfl,rfl,_,rfl,rfl,rfl,?_⟩;rw[e2];show Q0 w (QX _ 1 _ (QA (Vg x k++[k]))::_);rw[WT];exact Q0.drop H.swap
   ·have e2:Vg x (k+1)=Vg x k:=by rw[Es,hbit,decide_eq_false h1];simp
    rw[show (((y % 2:Nat):Int) == 1)=false by simp;omega];refine VM rfl (QD ?_);exact⟨rfl,rfl,_,rfl,rfl,rfl,by rw[e2];exact H⟩
  ·clear H;rintro ms σ w ⟨rfl,g,g0,g3,g4,H⟩;obtain⟨ag,mg,cg,rfl⟩:=Qs H;rw[Q1 g0,Q1 g3,Q1 g4];refine J9 H ?_;rw[hquo];refine C6 H ?_;exact⟨_,⟨rfl,k+1,_,h64,rfl,by rw[hnext];rfl,rfl,Qc (by omega),H⟩,by omega⟩
 ·have hk64:k=64:=by omega
  subst hk64;rw[show decide (((64:Nat):Int) < 64)=false from rfl];refine J6 H ?_;refine KH H ?_;refine J4 H ?_;exact Q3 (Jy H rfl fun w' H'=>H')
theorem OW [Q4] (vr vq:Value) (l:QL) (hs:Et l) {w:World} {fr:List Q2} (hr:UT fr vr vq l) (H:Q0 w fr) :
  Calls Tryz.prog 240 #[Yx l.fixed vr l.record vq] w (ret fun x w'=>(∃ b,x = .bool b∧(b=true↔Vh l))∧Q0 w' fr):=by
 obtain⟨s1,s2,s3,s4⟩:=hs;obtain⟨hr1,hr2⟩:=hr;obtain⟨_,ad1,cap1,rfl,hr1'⟩:=id hr1;obtain⟨_,ad2,cap2,rfl,hr2'⟩:=id hr2;refine QQ Tryz.func240 rfl (by kernel_rfl) ?_;refine J7 H ?_;clear H;intro b1 w H;refine J0 H ?_;refine RY H ?_;rw[show decide ((l.fixed:Int) < 0)=false from decide_eq_false (by omega)];refine A4 H ?_;by_cases h1:l.fixed≤64
 ·rw[show decide ((l.fixed:Int) > 64)=false from decide_eq_false (by omega)];refine BJ H ?_;rw[show decide ((l.record:Int) < 0)=false from decide_eq_false (by omega)];refine BJ H ?_;by_cases h2:l.record≤64
  ·rw[show decide ((l.record:Int) > 64)=false from decide_eq_false (by omega)];refine Vx H ?_;refine Bn H ?_;refine Jc rfl rfl (OK _ l.refs l.fixed s3 hr1.there H) ?_;clear H;rintro v w ⟨⟨b,rfl,hb⟩,H⟩;refine WX H ?_;refine ZW H ?_;refine Jc rfl rfl (OK _ l.recs l.record s4 hr2.there H) ?_;clear H;rintro v w ⟨⟨c,rfl,hc⟩,H⟩;refine J0 H ?_
   have key:(b=true∧c=true∧l.fixed+l.record≠0)↔Vh l:=by
    rw[hb,hc];exact⟨fun h=>⟨h1,h2,h.2.2,h.1,h.2.1⟩,fun h=>⟨h.2.2.2.1,h.2.2.2.2,h.2.2.1⟩⟩
   cases b with
   | false=>
    refine J9 H ?_;refine Qw rfl rfl rfl ?_;refine Uy H ?_;refine Dp H ?_;exact Q3 (Jy H.drop rfl fun w' H'=>⟨⟨false,rfl,⟨fun h=>(by cases h),fun h=>(by have:=(key.2 h).1;cases this)⟩⟩,H'⟩)
   | true=>
    cases c with
    | false=>
     refine J9 H ?_;refine Yj H ?_;refine Uy H ?_;refine Dp H ?_;exact Q3 (Jy H.drop rfl fun w' H'=>⟨⟨false,rfl,⟨fun h=>(by cases h),fun h=>(by have:=(key.2 h).2.1;cases this)⟩⟩,H'⟩)
    | true=>
     refine J9 H ?_;refine Yj H ?_;refine BJ H ?_;by_cases h3:l.fixed > 0
     ·rw[show decide ((l.fixed:Int) > 0)=true from decide_eq_true (by omega)];refine Yj H ?_;refine KJ H ?_;refine Xp H ?_;exact Q3 (Jy H.drop rfl fun w' H'=>⟨⟨true,rfl,⟨fun _=>key.1 ⟨rfl,rfl,by omega⟩,fun _=>rfl⟩⟩,H'⟩)
     ·rw[show decide ((l.fixed:Int) > 0)=false from decide_eq_false (by omega)];refine Dq H ?_;by_cases h4:l.record > 0
      ·rw[show decide ((l.record:Int) > 0)=true from decide_eq_true (by omega)];refine Xp H ?_;exact Q3 (Jy H.drop rfl fun w' H'=>⟨⟨true,rfl,⟨fun _=>key.1 ⟨rfl,rfl,by omega⟩,fun _=>rfl⟩⟩,H'⟩)
      ·rw[show decide ((l.record:Int) > 0)=false from decide_eq_false (by omega)];refine Xp H ?_;exact Q3 (Jy H.drop rfl fun w' H'=>⟨⟨false,rfl,⟨fun h=>(by cases h),fun h=>(by have:=(key.2 h).2.2;omega)⟩⟩,H'⟩)
  ·rw[show decide ((l.record:Int) > 64)=true from decide_eq_true (by omega)];refine UM H ?_;exact Q3 (Jy H.drop rfl fun w' H'=>⟨⟨false,rfl,⟨fun h=>(by cases h),fun h=>(by unfold Vh at h;omega)⟩⟩,H'⟩)
 ·rw[show decide ((l.fixed:Int) > 64)=true from decide_eq_true (by omega)];refine Dn H ?_;refine Dn H ?_;refine UM H ?_;exact Q3 (Jy H.drop rfl fun w' H'=>⟨⟨false,rfl,⟨fun h=>(by cases h),fun h=>(by unfold Vh at h;omega)⟩⟩,H'⟩)
theorem eB [Q4] (vr vq:Value) (l:QL) (hR:Vh l) (count:Int) {w:World} {fr:List Q2} (hr:UT fr vr vq l) (H:Q0 w fr) :
  Calls Tryz.prog 241 #[Yx l.fixed vr l.record vq,.int .i64 count] w (ret fun x w'=>x = .tuple #[.int .i64 ((VQ l count).1:Nat),.int .i64 ((VQ l count).2:Nat)]∧Q0 w' fr):=by
 have hf:=hR.1;have hc:=hR.2.1;obtain⟨_,ad1,cap1,rfl,hr1⟩:=id hr.r;obtain⟨_,ad2,cap2,rfl,hr2⟩:=id hr.q;refine QQ Tryz.func241 rfl (by kernel_rfl) ?_;refine J7 H ?_;clear H;intro b2 w H;refine J3 H ?_;refine GH H ?_;refine Jc rfl rfl (OW _ _ l hR.small hr.there H) ?_;clear H;rintro v w ⟨⟨b,rfl,hb⟩,H⟩;obtain rfl:=hb.2 hR;refine Yl H ?_;refine J6 H ?_;refine Qk (fun ms σ w=>ms=[]∧(∃ q,σ 26 = .bool q∧(q=true↔(count < 0∨count > 1024∨(count > 0∧l.record=0))))∧σ 1 = .int .i64 count∧σ 2=pp b2∧Q0 w (pts b2 (row 164 [.int .i64 l.fixed,.slice ad1 l.refs.length cap1,.int .i64 l.record,.slice ad2 l.recs.length cap2])::fr)) ?_ ?_
 ·refine J9 H ?_;by_cases c0:count < 0
  ·rw[show decide (count < 0)=true from decide_eq_true (by omega)];refine Jv ?_;refine KI H ?_;refine Uy H ?_;refine RW H ?_;refine Qw rfl rfl rfl ?_;refine J0 H ?_;exact⟨rfl,rfl,⟨true,rfl,by simp[c0]⟩,rfl,rfl,H⟩
  ·rw[show decide (count < 0)=false from decide_eq_false (by omega)];refine UQ H ?_;by_cases c1:count > 1024
   ·rw[show decide (count > 1024)=true from decide_eq_true (by omega)];refine Uy H ?_;refine RW H ?_;refine Qw rfl rfl rfl ?_;refine J0 H ?_;exact⟨rfl,rfl,⟨true,rfl,by simp[c1]⟩,rfl,rfl,H⟩
   ·rw[show decide (count > 1024)=false from decide_eq_false (by omega)];refine BJ H ?_;by_cases c3:l.record=0
    ·rw[show ((l.record:Int) == 0)=true by simp;omega];refine XR H ?_;by_cases c2:count > 0
     ·rw[show decide (count > 0)=true from decide_eq_true (by omega)];refine Df H ?_;exact⟨rfl,rfl,⟨true,rfl,by simp[c2,c3]⟩,rfl,rfl,H⟩
     ·rw[show decide (count > 0)=false from decide_eq_false (by omega)];refine Df H ?_;exact⟨rfl,rfl,⟨false,rfl,by simp only[Bool.false_eq_true,false_iff];omega⟩,rfl,rfl,H⟩
    ·rw[show ((l.record:Int) == 0)=false by simp;omega];refine Yj H ?_;refine KI H ?_;refine Df H ?_;exact⟨rfl,rfl,⟨false,rfl,by simp only[Bool.false_eq_true,false_iff];omega⟩,rfl,rfl,H⟩
 clear H;rintro ms σ w ⟨rfl,⟨q,g26,hq⟩,g1,g2,H⟩;rw[Q1 g26,Q1 g1,Q1 g2];cases q with
 | true=>
  have hs:VQ l count=(0,3):=by unfold VQ;rw[if_pos (hq.1 rfl)]
  refine Yc H ?_;exact Q3 (Jy H.drop rfl fun w' H'=>⟨by rw[hs];rfl,H'⟩)
 | false=>
  have hq':¬ (count < 0∨count > 1024∨(count > 0∧l.record=0)):=fun h=>by have:=hq.2 h;cases this
  obtain⟨c,rfl⟩:∃ c:Nat,count=c:=⟨count.toNat,by omega⟩;have hcm:c*l.record≤1024*64:=Nat.mul_le_mul (by omega) hc;have hcm2:(l.record:Int)*(c:Int)=((c*l.record:Nat):Int):=by rw[Int.natCast_mul,Int.mul_comm]
  refine V4 H ?_;refine Bn H ?_;refine AI H ?_;refine VX H ?_;rw[hcm2,Qb (x:=((c*l.record:Nat):Int)) (by omega) (by omega),Qb (x:=(l.fixed:Int)+((c*l.record:Nat):Int)) (by omega) (by omega),Qb (x:=(l.fixed:Int)+((c*l.record:Nat):Int)+1) (by omega) (by omega)];by_cases c3:l.fixed+c*l.record≥8192
  ·have hs:VQ l (c:Int)=(0,10):=by unfold VQ;rw[if_neg hq',if_pos (by simpa using c3)]
   rw[show decide ((l.fixed:Int)+((c*l.record:Nat):Int)+1 > 8192)=true from decide_eq_true (by omega)];refine Yc H ?_;exact Q3 (Jy H.drop rfl fun w' H'=>⟨by rw[hs];rfl,H'⟩)
  ·have hs:VQ l (c:Int)=(l.fixed+c*l.record,0):=by unfold VQ;rw[if_neg hq',if_neg (by simpa using c3)];simp
   rw[show decide ((l.fixed:Int)+((c*l.record:Nat):Int)+1 > 8192)=false from decide_eq_false (by omega)];refine AW H ?_;exact Q3 (Jy H.drop rfl fun w' H'=>⟨by rw[hs];show Value.tuple #[.int .i64 ((l.fixed:Int)+((c*l.record:Nat):Int)),_]=_;rw[← Int.natCast_add];rfl,H'⟩)
theorem eC [Q4] (vr vq:Value) (l:QL) (hR:Vh l) (p:Nat) (hp:l.record≠0∨p < l.fixed) (hp2:p < 1000000) {w:World} {fr:List Q2} (hr:UT fr vr vq l) (H:Q0 w fr) :
  Calls Tryz.prog 218 #[Yx l.fixed vr l.record vq,.int .i64 p] w (ret fun x w'=>x = .bool (VV l p)∧Q0 w' fr):=by
 have hsm:=hR.small;obtain⟨_,ad1,cap1,rfl,hr1⟩:=id hr.r;obtain⟨_,ad2,cap2,rfl,hr2⟩:=id hr.q;refine QQ Tryz.func218 rfl (by kernel_rfl) ?_;refine J7 H ?_;clear H;intro b2 w H;refine J0 H ?_;refine WI H ?_;refine J0 H ?_;by_cases h1:p < l.fixed
 ·rw[show decide ((p:Int) < (l.fixed:Int))=true from decide_eq_true (by omega)];refine VH H ?_;refine RY H ?_;refine Jc rfl rfl (OR _ l.refs p hsm.a hr.r.there H) ?_;clear H;rintro v w ⟨rfl,H⟩;refine J0 H ?_;exact Q3 (Jy H.drop rfl fun w' H'=>⟨by unfold VV;rw[if_pos h1];rfl,H'⟩)
 ·have e1:IntKind.i64.wrap ((p:Int) - (l.fixed:Int))=((p - l.fixed:Nat):Int):=by rw[Qb (by omega) (by omega)];omega
  rw[show decide ((p:Int) < (l.fixed:Int))=false from decide_eq_false (by omega)];refine Bz H ?_;clear H;intro w H;refine Jf 0 ?_;refine Jl 1 [9] H ?_;refine Ja 2 ?_;refine Jf 3 ?_;refine Jl 4 [9] H ?_;refine Ja 5 ?_;refine Jf 6 ?_;refine Jl 7 [9] H ?_;rw[e1]
  refine Gs (v := .int .i64 (((p - l.fixed) % l.record:Nat):Int)) 8 rfl (Q7.none rfl) (by
   show (if IntKind.i64=IntKind.i64 then (if (l.record:Int)=0 then none else some (Value.int .i64 (Int.tmod ((p - l.fixed:Nat):Int) (l.record:Int)))) else none)=_;rw[if_pos rfl,if_neg (by omega),Int.tmod_eq_emod_of_nonneg (by omega),Int.natCast_emod]) (by kernel_rfl) ?_
  refine Jo 9 H ?_;refine Jk rfl rfl (OR _ l.recs _ hsm.b hr.q.there H) ?_;clear H;rintro v w ⟨rfl,H⟩;refine Ja 10 ?_;refine Jx H ?_;exact Q3 (Jy H.drop rfl fun w' H'=>⟨by unfold VV;rw[if_neg h1];rfl,H'⟩)
end Go.Proofs.YtbnnnljagkjpiaaGreatDoor
