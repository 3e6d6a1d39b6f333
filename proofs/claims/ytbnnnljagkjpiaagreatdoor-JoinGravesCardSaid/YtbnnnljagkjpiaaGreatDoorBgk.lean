/- Cells: what is proved on the way: every input of the statement; no condition. Texts joined: LnkA SrtI BagA RmC RmD RmE KidA TabA TabB. -/
import Derived.Test.YtbnnnljagkjpiaaGreatDoorBgf
import Derived.Test.YtbnnnljagkjpiaaGreatDoorBgj
import Derived.Test.YtbnnnljagkjpiaaGreatDoorBge
import Derived.Test.YtbnnnljagkjpiaaGreatDoorBgi
set_option linter.unusedVariables false
set_option linter.unusedSimpArgs false
set_option linter.unusedSectionVars false
namespace Go.Proofs.YtbnnnljagkjpiaaGreatDoor
open List
open Go.SL
theorem N0:∀ {a b:List Nat},a.Pairwise (· < ·)→b.Pairwise (· < ·)→(∀ x,x∈a↔x∈b)→a=b
 | [],[],_,_,_=>rfl
 | [],y::b,_,_,h=>by have:=(h y).2 (by simp);cases this
 | x::a,[],_,_,h=>by have:=(h x).1 (by simp);cases this
 | x::a,y::b,ha,hb,h=>by
  rw[pairwise_cons] at ha hb
  have hxy:x=y:=by
   have h1:=(h x).1 (by simp);have h2:=(h y).2 (by simp);rw[mem_cons] at h1 h2
   rcases h1 with h1|h1
   ·exact h1
   ·rcases h2 with h2|h2
    ·exact h2.symm
    ·have:=hb.1 x h1;have:=ha.1 y h2;omega
  subst hxy;congr 1;refine N0 ha.2 hb.2 fun z=>?_;have hz:=h z;rw[mem_cons,mem_cons] at hz;constructor
  ·intro h1;have:=ha.1 z h1
   rcases hz.1 (.inr h1) with h2|h2
   ·omega
   ·exact h2
  ·intro h1;have:=hb.1 z h1
   rcases hz.2 (.inr h1) with h2|h2
   ·omega
   ·exact h2
def K3 (l:QL) (i:Nat):List Nat:=l.recs.map (l.fixed+i*l.record+·)
def Z9 (l:QL) (c:Nat):List Nat:=l.refs++(List.range c).flatMap (K3 l)
theorem N2 {l:List Nat} {n:Nat} (h:X0 l n):l=(List.range n).filter (fun p=>decide (p∈l)):=by
 refine N0 h.2 (List.Pairwise.filter _ pairwise_lt_range) fun x=>?_;rw[mem_filter,mem_range,decide_eq_true_eq];exact⟨fun hx=>⟨h.1 x hx,hx⟩,fun hx=>hx.2⟩
theorem N3 {l:QL} (hR:Vh l):∀ c:Nat,(c > 0→l.record≠0)→Z9 l c=(List.range (l.fixed+c*l.record)).filter (VV l)
 | 0,_=>by
  unfold Z9;rw[Nat.zero_mul,Nat.add_zero,range_zero,flatMap_nil,append_nil];refine(N2 hR.2.2.2.1).trans (filter_congr fun x hx=>?_);unfold VV;rw[if_pos (mem_range.1 hx)]
 | c+1,h=>by
  have ih:=N3 hR c (fun _=>h (by omega));have hr:0 < l.record:=Nat.pos_of_ne_zero (h (by omega))
  have e:Z9 l (c+1)=Z9 l c++K3 l c:=by
   unfold Z9;rw[range_succ,flatMap_append,append_assoc];simp
  have e3:List.range ((l.fixed+c*l.record)+l.record)=List.range (l.fixed+c*l.record)++(List.range l.record).map (l.fixed+c*l.record+·):=range_add;rw[e,ih,show l.fixed+(c+1)*l.record=(l.fixed+c*l.record)+l.record by rw[Nat.succ_mul];omega,e3,filter_append];congr 1;rw[filter_map];unfold K3;congr 1;refine(N2 hR.2.2.2.2).trans (filter_congr fun x hx=>?_);have hx:=mem_range.1 hx;show _=VV l (l.fixed+c*l.record+x);unfold VV;rw[if_neg (by omega),show l.fixed+c*l.record+x - l.fixed=x+l.record*c by rw[Nat.mul_comm];omega,Nat.add_mul_mod_self_left,Nat.mod_eq_of_lt hx]
theorem aE [Q4] (vr vq:Value) (l:QL) (c:Nat) (h1:vr.oneCell'=true) (h2:vq.oneCell'=true) {w:World} {fr:List Q2} (H:Q0 w fr) :
  Calls Tryz.prog 66 #[Yx l.fixed vr l.record vq,.int .i64 c] w (ret fun v w'=>∃ b1 b2,v = .func (.func 131) #[] #[pp b1,pp b2]∧Q0 w' (pts b1 (row 164 [.int .i64 l.fixed,vr,.int .i64 l.record,vq])::pts b2 (row 3 [.int .i64 c])::fr)):=by
 refine QQ Tryz.func66 rfl (by kernel_rfl) ?_;refine J7 H ?_;clear H;intro b2 w H;refine KO H ?_;clear H;intro b3 w H;refine YY H ?_;exact Q3 (Jy H.swap rfl fun w' H'=>⟨b2,b3,rfl,H'⟩)
theorem aF [Q4] (yl b1 b2:Nat) (vr vq:Value) (l:QL) (hR:Vh l) (c:Nat) {n:Nat} (hz:VQ l c=(n,0)) (J:List Nat→Q2)
  (hy:∀ (ks:List Nat) (p:Nat) (rest:List Q2) (w:World),(∃ t,(List.range n).filter (VV l)=ks++p::t)→Q0 w (J ks::rest)→SL.Yields Tryz.prog yl #[.int .i64 p] w (fun v w'=>v = .bool true∧Q0 w' (J (ks++[p])::rest)))
  {w:World} {fr:List Q2} (H:Q0 w (J []::pts b1 (row 164 [.int .i64 l.fixed,vr,.int .i64 l.record,vq])::pts b2 (row 3 [.int .i64 c])::NL vr l.refs::NL vq l.recs::fr)) :
  Calls Tryz.prog 131 #[.func (.yield yl) #[] #[],pp b1,pp b2] w (ret fun _ w'=>Q0 w' (J ((List.range n).filter (VV l))::pts b1 (row 164 [.int .i64 l.fixed,vr,.int .i64 l.record,vq])::pts b2 (row 3 [.int .i64 c])::NL vr l.refs::NL vq l.recs::fr)):=by
 obtain⟨z1,z2,z3,z4,z5⟩:=Hq hz;have hall:=N3 hR c (by omega);rw[Int.toNat_natCast] at z3;rw[← z3] at hall;rw[← hall] at hy ⊢;have hfx:=hR.1;have hrc:=hR.2.1;have hl1:=X0.len hR.2.2.2.1;have hl2:=X0.len hR.2.2.2.2;obtain⟨ar,cr,rfl⟩:=QE (H.sel [3,0,0,0] 0) (QH _) (by decide);obtain⟨aq,cq,rfl⟩:=QE (H.sel [4,0,0,0,0] 0) (QH _) (by decide);refine QQ Tryz.func131 rfl (by kernel_rfl) ?_;refine GH H ?_;refine Xo H ?_;replace H:=Js [3,3,0,0,0] 0 H;obtain⟨D1,H,hD1,hC1⟩:=sls_rd H (QH _) (by decide);obtain⟨D2,H,hD2,hC2⟩:=sls_rd H.swap (QH _) (by decide);refine Jc rfl rfl (CW _ _ l hR c ⟨(hD1 _).there,hD2 _⟩ H) ?_;clear H;rintro v w ⟨rfl,H⟩;rw[hz];replace H:=hC1 _ _ (hC2 _ _ H).swap;refine G2 H ?_;replace H:=Js [0,0,0,0,0] 0 H;refine KE H ?_;refine Bx H ?_;refine Qk (fun ms σ w=>ms=[]∧σ 0 = .func (.yield yl) #[] #[]∧σ 1=pp b1∧σ 4 = .int .i64 n∧Q0 w (NL (.slice ar l.refs.length cr) l.refs::NL (.slice aq l.recs.length cq) l.recs::J l.refs::pts b1 (row 164 [.int .i64 l.fixed,.slice ar l.refs.length cr,.int .i64 l.record,.slice aq l.recs.length cq])::pts b2 (row 3 [.int .i64 c])::fr)) ?_ ?_
 ·refine QP ?_;refine Ql (fun ms σ w z=>ms=[]∧∃ i:Nat,i≤l.refs.length∧z=l.refs.length - i∧σ 0 = .func (.yield yl) #[] #[]∧σ 1=pp b1∧σ 4 = .int .i64 n∧σ 20 = .slice ar l.refs.length cr∧σ 21 = .int .i64 l.refs.length∧σ 22 = .int .i64 i∧Q0 w (NL (.slice ar l.refs.length cr) l.refs::NL (.slice aq l.recs.length cq) l.recs::J (l.refs.take i)::pts b1 (row 164 [.int .i64 l.fixed,.slice ar l.refs.length cr,.int .i64 l.record,.slice aq l.recs.length cq])::pts b2 (row 3 [.int .i64 c])::fr)) (m:=l.refs.length) ⟨rfl,0,by omega,rfl,rfl,rfl,rfl,rfl,rfl,rfl,H⟩ ?_;clear H;rintro ms σ w z ⟨rfl,i,hi,rfl,g0,g1,g4,g20,g21,g22,H⟩;rw[Q1 g0,Q1 g1,Q1 g4,Q1 g20,Q1 g21,Q1 g22];refine J8 H ?_;refine Qj rfl (fun h=>QD ?_) (fun h=>Qp ?_)
  ·have hlt:i < l.refs.length:=by omega
   have hn:=getElem?_eq_getElem hlt;have htk:l.refs.take (i+1)=l.refs.take i++[l.refs[i]]:=by rw[take_add_one,hn];rfl
   have hdr:l.refs=l.refs.take i++l.refs[i]::l.refs.drop (i+1):=split_at hn;generalize l.refs[i]=p at hn htk hdr;obtain⟨bT,sT,rfl,H,hcl⟩:=V3 H (by omega);refine YB H ?_;refine Jd ?_;refine Q5 rfl (QB H rfl (Gz hn) rfl ?_);refine J0 H ?_;replace H:=hcl _ _ H;replace H:=Js [2,0,0,0,0] 0 H;refine J9 H ?_;refine Q5 rfl (Ky rfl rfl (SL.Yields.mono (hy (l.refs.take i) p _ _ ⟨l.refs.drop (i+1)++(List.range c).flatMap (K3 l),by unfold Z9;rw[show l.refs.take i++p::(l.refs.drop (i+1)++(List.range c).flatMap (K3 l))=(l.refs.take i++p::l.refs.drop (i+1))++(List.range c).flatMap (K3 l) by simp,← hdr]⟩ H) ?_));clear H;rintro v w ⟨rfl,H⟩;refine Vx H ?_;replace H:=Js [1,1,0,0,0] 0 H;refine J4 H ?_;rw[← htk] at H;exact⟨_,⟨rfl,i+1,hlt,rfl,rfl,rfl,rfl,rfl,rfl,Qc (by omega),H⟩,by omega⟩
  ·have hge:i=l.refs.length:=by omega
   subst hge;rw[take_length] at H;exact⟨rfl,rfl,rfl,rfl,rfl,H⟩
 clear H;rintro ms σ w ⟨rfl,g0,g1,g4,H⟩;rw[Q1 g0,Q1 g1,Q1 g4];refine KE H ?_;refine Y8 H ?_;refine Qk (fun ms σ w=>ms=[]∧Q0 w (NL (.slice ar l.refs.length cr) l.refs::NL (.slice aq l.recs.length cq) l.recs::J (Z9 l c)::pts b1 (row 164 [.int .i64 l.fixed,.slice ar l.refs.length cr,.int .i64 l.record,.slice aq l.recs.length cq])::pts b2 (row 3 [.int .i64 c])::fr)) ?_ ?_
 ·refine QP ?_;refine Ql (fun ms σ w z=>ms=[]∧∃ i A:Nat,i≤c∧A=l.fixed+i*l.record∧z=c - i∧σ 0 = .func (.yield yl) #[] #[]∧σ 1=pp b1∧σ 4 = .int .i64 n∧σ 8 = .int .i64 A∧Q0 w (NL (.slice ar l.refs.length cr) l.refs::NL (.slice aq l.recs.length cq) l.recs::J (Z9 l i)::pts b1 (row 164 [.int .i64 l.fixed,.slice ar l.refs.length cr,.int .i64 l.record,.slice aq l.recs.length cq])::pts b2 (row 3 [.int .i64 c])::fr)) (m:=c) ⟨rfl,0,l.fixed,by omega,by omega,rfl,rfl,rfl,rfl,rfl,by unfold Z9;rw[range_zero,flatMap_nil,append_nil];exact H⟩ ?_;clear H;rintro ms σ w z ⟨rfl,i,A,hi,hA,rfl,g0,g1,g4,g8,H⟩;rw[Q1 g0,Q1 g1,Q1 g4,Q1 g8];refine Bq H ?_;refine Qj rfl (fun h=>QD ?_) (fun h=>Qp ?_)
  ·have hic:i < c:=by
    refine Nat.lt_of_not_le fun hle=>?_;have:=Nat.mul_le_mul_right l.record hle;omega
   have hb:A+l.record≤n:=by
    have:=Nat.mul_le_mul_right l.record (Nat.succ_le_of_lt hic);rw[Nat.succ_mul] at this;omega
   have hAl:A < 8192:=by omega
   have hsucc:Z9 l (i+1)=Z9 l i++K3 l i:=by
    unfold Z9;rw[range_succ,flatMap_append,append_assoc];simp
   have hpre:∃ t,Z9 l c=Z9 l i++K3 l i++t:=by
    rw[← hsucc];unfold Z9;refine⟨((List.range (c - (i+1))).map (i+1+·)).flatMap (K3 l),?_⟩;rw[append_assoc,← flatMap_append,← range_add,show i+1+(c - (i+1))=c by omega]
   obtain⟨tl,hpre⟩:=hpre;refine J6 H ?_;refine Qk (fun ms σ w=>ms=[]∧σ 0 = .func (.yield yl) #[] #[]∧σ 1=pp b1∧σ 4 = .int .i64 n∧σ 8 = .int .i64 A∧Q0 w (NL (.slice ar l.refs.length cr) l.refs::NL (.slice aq l.recs.length cq) l.recs::J (Z9 l (i+1))::pts b1 (row 164 [.int .i64 l.fixed,.slice ar l.refs.length cr,.int .i64 l.record,.slice aq l.recs.length cq])::pts b2 (row 3 [.int .i64 c])::fr)) ?_ ?_
   ·refine QP ?_;refine KE H ?_;refine KP H ?_;refine Ql (fun ms σ w z=>ms=[]∧∃ j:Nat,j≤l.recs.length∧z=l.recs.length - j∧σ 0 = .func (.yield yl) #[] #[]∧σ 1=pp b1∧σ 4 = .int .i64 n∧σ 8 = .int .i64 A∧σ 41 = .slice aq l.recs.length cq∧σ 42 = .int .i64 l.recs.length∧σ 43 = .int .i64 j∧Q0 w (NL (.slice ar l.refs.length cr) l.refs::NL (.slice aq l.recs.length cq) l.recs::J (Z9 l i++(l.recs.take j).map (l.fixed+i*l.record+·))::pts b1 (row 164 [.int .i64 l.fixed,.slice ar l.refs.length cr,.int .i64 l.record,.slice aq l.recs.length cq])::pts b2 (row 3 [.int .i64 c])::fr)) (m:=l.recs.length) ⟨rfl,0,by omega,rfl,rfl,rfl,rfl,rfl,rfl,rfl,rfl,by rw[take_zero,map_nil,append_nil];exact H⟩ ?_;clear H;rintro ms σ w z ⟨rfl,j,hj,rfl,g0,g1,g4,g8,g41,g42,g43,H⟩;rw[Q1 g0,Q1 g1,Q1 g4,Q1 g8,Q1 g41,Q1 g42,Q1 g43];refine J8 H ?_;refine Qj rfl (fun h=>QD ?_) (fun h=>Qp ?_)
    ·have hlt:j < l.recs.length:=by omega
     have hn:=getElem?_eq_getElem hlt;have htk:l.recs.take (j+1)=l.recs.take j++[l.recs[j]]:=by rw[take_add_one,hn];rfl
     have hdr:l.recs=l.recs.take j++l.recs[j]::l.recs.drop (j+1):=split_at hn;have hrl:=hR.2.2.2.2.1 l.recs[j] (getElem_mem _);generalize l.recs[j]=p at hn htk hdr hrl;replace H:=Js [1,0,0,0,0] 0 H;obtain⟨bT,sT,rfl,H,hcl⟩:=V3 H (by omega);refine YB H ?_;refine Jd ?_;refine Q5 rfl (QB H rfl (Gz hn) rfl ?_);refine J0 H ?_;replace H:=hcl _ _ H;replace H:=Js [2,0,0,0,0] 0 H;refine Xq H ?_;rw[Qb (x:=(A:Int)+(p:Int)) (by omega) (by omega),show (A:Int)+(p:Int)=((A+p:Nat):Int) by omega]
     refine Q5 rfl (Ky rfl rfl (SL.Yields.mono (hy (Z9 l i++(l.recs.take j).map (l.fixed+i*l.record+·)) (A+p) _ _ ⟨(l.recs.drop (j+1)).map (l.fixed+i*l.record+·)++tl,by
      rw[hpre];unfold K3
      conv=>lhs;rw[hdr]
      rw[hA];simp⟩ H) ?_))
     clear H;rintro v w ⟨rfl,H⟩;refine Vx H ?_;replace H:=Js [2,1,0,0,0] 0 H;refine J4 H ?_;have e4:Z9 l i++(l.recs.take j).map (l.fixed+i*l.record+·)++[A+p]=Z9 l i++(l.recs.take (j+1)).map (l.fixed+i*l.record+·):=by rw[htk,hA];simp
     rw[e4] at H;exact⟨_,⟨rfl,j+1,hlt,rfl,rfl,rfl,rfl,rfl,rfl,rfl,Qc (by omega),H⟩,by omega⟩
    ·have hge:j=l.recs.length:=by omega
     subst hge;rw[take_length] at H;have e5:Z9 l i++l.recs.map (l.fixed+i*l.record+·)=Z9 l (i+1):=hsucc.symm;rw[e5] at H;exact⟨rfl,rfl,rfl,rfl,rfl,rfl,H⟩
   clear H;rintro ms σ w ⟨rfl,g0,g1,g4,g8,H⟩;rw[Q1 g0,Q1 g1,Q1 g4,Q1 g8];refine WI H ?_;refine J3 H ?_;refine⟨_,⟨rfl,i+1,A+l.record,hic,by rw[hA,Nat.succ_mul];omega,rfl,rfl,rfl,rfl,?_,H⟩,by omega⟩;show Value.int .i64 (IntKind.i64.wrap ((A:Int)+(l.record:Int)))=_;rw[Qb (by omega) (by omega)];rfl
  ·have hge:i=c:=by
    refine Nat.le_antisymm hi (Nat.le_of_not_lt fun hlt=>?_);have hrp:0 < l.record:=Nat.pos_of_ne_zero (z5 (by omega));have:=Nat.mul_lt_mul_of_pos_right hlt hrp;omega
   subst hge;exact⟨rfl,rfl,H⟩
 clear H;rintro ms σ w ⟨rfl,H⟩;replace H:=Js [2,2,2,0,0] 0 H;exact Y6 _ (.inl rfl) H rfl fun w' H'=>H'
def Qe (l:List Int):List Value:=l.map fun x=>Value.int .i64 x
theorem Vo (l:List Int):(Qe l).length=l.length*1:=by simp[Qe]
theorem Ao (a b:List Int):Qe (a++b)=Qe a++Qe b:=by simp[Qe]
theorem F1 (l:List Nat):QA l=Qe (l.map fun x:Nat=>(x:Int)):=by simp[QA,Qe]
@[reducible] def IL (v:Value) (l:List Int):Q2:=QX 3 1 v (Qe l)
theorem F2 [Q4] (v:Value) (l:List Int) (hl:l.length≤1000000) {w:World} {fr:List Q2} (H:Q0 w (IL v l::fr)) :
  Calls Tryz.prog 32 #[v] w (ret fun x w'=>x = .tuple #[]∧Q0 w' (IL v (l.mergeSort fun x y=>decide (x≤y))::fr)):=by
 obtain⟨a,c,rfl⟩:=QE H (Vo l) (by decide);have hlen:(l.mergeSort fun x y=>decide (x≤y)).length=l.length:=length_mergeSort l;by_cases h0:l=[]
 ·subst h0;refine(Any.slices_Sort_int_none Tryz.laysSort a c w).mono ?_;rintro e w' ⟨rfl,rfl⟩;rw[mergeSort_nil];exact⟨rfl,H⟩
 ·have hpos:0 < l.length:=length_pos_iff.2 h0;obtain⟨b,s,rfl,H,h1,h2,hclose⟩:=Z2 H hpos;have hb:=H.pts;refine(Any.slices_Sort_int Tryz.laysSort b 0 c l w (fun j hj=>⟨?_,W4 hb⟩) H.fresh (by omega)).mono ?_
  ·refine Zl hb ?_;have hj':j < l.length:=by simpa using hj
   rw[Nat.zero_add,getElem?_append_left (by simpa [Qe] using hj')];simp[Qe,hj']
  ·rintro e w' ⟨rfl,m,os,rfl⟩;refine⟨rfl,hclose _ _ (Qe (l.mergeSort fun x y=>decide (x≤y))) (by rw[Vo,Vo,hlen]) ?_⟩;have e1:(Go.Sort.putRow (Value.int .i64) (Go.Sort.ahead w m) b 0 (l.mergeSort fun x y=>decide (x≤y)).toArray).heap=w.heap.modify b (Go.Sort.onCells (Go.Sort.putCells (Value.int .i64) 0 (l.mergeSort fun x y=>decide (x≤y)).toArray)):=rfl
   have H1:Q0 (Go.Sort.putRow (Value.int .i64) (Go.Sort.ahead w m) b 0 (l.mergeSort fun x y=>decide (x≤y)).toArray) (pts b (row 3 (Qe (l.mergeSort fun x y=>decide (x≤y))++s))::fr):=by
    refine H.set ?_ ?_
    ·rw[e1,Array.getElem?_modify,if_pos rfl,hb];simp only[Option.map_some,row,Go.Sort.onCells];congr 2;apply Array.ext';apply ext_getElem?;intro t;simp only[Go.Sort.putCells,Array.getElem?_toList,Array.getElem?_mapIdx,getElem?_toArray,Nat.zero_le,true_and,Nat.zero_add,Nat.sub_zero,size_toArray];have l1:(Qe l).length=l.length:=by simp[Qe]
     have l2:(Qe (l.mergeSort fun x y=>decide (x≤y))).length=l.length:=by simp[Qe]
     by_cases ht:t < l.length
     ·rw[getElem?_append_left (by omega),getElem?_append_left (by omega)];have ht':t < (l.mergeSort fun x y=>decide (x≤y)).length:=by omega
      simp only[Qe,getElem?_map,getElem?_eq_getElem ht,getElem?_eq_getElem ht',Option.map_some,if_pos ht'];rw[getElem!_pos _ t (by simpa using ht')];simp
     ·rw[getElem?_append_right (by omega),getElem?_append_right (by omega),l1,l2];have ht':¬ t < (l.mergeSort fun x y=>decide (x≤y)).length:=by omega
      cases s[t - l.length]? with
      | none=>rfl
      | some y=>simp;intro h;omega
    ·intro c hc;rw[e1,Array.getElem?_modify,if_neg (Ne.symm hc)]
   refine H1.up (fun c o hc=>?_) ⟨rfl,rfl⟩;show ((Go.Sort.putRow (Value.int .i64) (Go.Sort.ahead w m) b 0 (l.mergeSort fun x y=>decide (x≤y)).toArray).heap++os)[c]? = some o;have:=(Array.getElem?_eq_some_iff.1 hc).1;rw[Array.getElem?_append_left this];exact hc
theorem aH [Q4] (a:Option Addr) (n c:Nat) (hn:n < 2) {w:World} {fr:List Q2} (H:Q0 w fr) :
  Calls Tryz.prog 98 #[.slice a n c] w (ret fun x w'=>x = .slice a n c∧Q0 w' fr):=by
 refine QQ Tryz.func98 rfl (by kernel_rfl) ?_;refine XC H ?_;refine Gx H ?_;rw[show decide ((n:Int) < 2)=true from decide_eq_true (by omega)];refine Yc H ?_;exact Q3 (Jy H rfl fun w' H'=>⟨rfl,H'⟩)
theorem aI [Q4] (v:Value) (l:List Nat) (x:Nat) (hl:l.length≤1000000) (b:Nat) {w:World} {fr:List Q2} (H:Q0 w (NL v l::pts b (row 3 [.int .i64 x])::fr)) :
  Calls Tryz.prog 143 #[v,.int .i64 l.length,.slice (some ⟨b,0,none⟩) 1 1] w (ret fun v w'=>Q0 w' (NL v (l++[x])::fr)):=by
 obtain⟨a,c,rfl⟩:=QE H (QH l) (by decide);refine QQ Tryz.func143 rfl (by kernel_rfl) ?_;refine Uw H ?_;refine Q5 rfl (Sq rfl rfl (Nat.le_refl _) rfl fun v12=>?_);refine By H ?_;refine Q5 rfl (ZJ rfl rfl ?_);refine Yl H ?_;refine Xu H ?_;refine VX H ?_;rw[show (((l.length:Nat):Int) == (l.length:Int))=true by simp];refine VH H ?_;refine J9 H ?_;refine Q5 rfl (YR H rfl rfl (by repeat first|exact .nil _|apply Q9.cons rfl) rfl (by decide) (by rw[QH];simp only[length_cons,length_nil];omega) rfl rfl ?_);clear H;intro v25 w H;obtain⟨a25,m25,c25,rfl⟩:=Qs H;refine J0 H ?_;have e1:QA l++[.int .i64 x]=QA (l++[x]):=by rw[WT];rfl
 rw[e1] at H;exact Q3 (Jy (Q0.drop H.swap) rfl fun w' H'=>H')
def Qu (p:Nat) (l:List Nat):Q2:=ex fun v:Value=>star [pts p (row 199 [v]),NL v l]
theorem Wb [Q4] {w:World} {p:Nat} {l:List Nat} {fr:List Q2} (H:Q0 w (Qu p l::fr)):∃ a c,Q0 w (pts p (row 199 [.slice a l.length c])::NL (.slice a l.length c) l::fr):=by
 obtain⟨v,H⟩:=Q0.ex.1 H;have H:=Q0.star.1 H;obtain⟨a,c,rfl⟩:=QE H.drop (QH l) (by decide);exact⟨a,c,H⟩
theorem Ke [Q4] {w:World} {p:Nat} {l:List Nat} {v:Value} {fr:List Q2} (H:Q0 w (pts p (row 199 [v])::NL v l::fr)):Q0 w (Qu p l::fr):=
 Q0.ex.2 ⟨v,Q0.star.2 H⟩
theorem I2 [Q4] {w:World} {fr:List Q2} (H:Q0 w fr):Calls Tryz.prog 38 #[.slice none 0 0] w (ret fun v w'=>∃ p,v=pp p∧Q0 w' (Qu p []::fr)):=by
 refine QQ Tryz.func38 rfl (by kernel_rfl) ?_;refine XC H ?_;refine Jc rfl rfl (CA (.slice none 0 0) [] (by simp) ⟨rfl,none,0,rfl,.inl rfl⟩ H) ?_;clear H;rintro v w H;obtain⟨a,c,rfl⟩:=QE H (QH []) (by decide);refine Da H ?_;refine Jc rfl rfl (F2 _ [] (by simp) H) ?_;clear H;rintro v w ⟨rfl,H⟩;rw[mergeSort_nil] at H;refine By H ?_;refine Jc rfl rfl (aH a 0 c (by omega) H) ?_;clear H;rintro v w ⟨rfl,H⟩;refine XW H ?_;clear H;intro b10 w H;refine J0 H ?_;exact Q3 (Jy H rfl fun w' H'=>⟨_,rfl,Ke (l:=[]) H'⟩)
theorem N4 {l:List Nat} {x:Nat} (h:∀ a∈l,a < x):Z6 l x=l.length:=by
 unfold Z6;rw[countP_eq_length];intro a ha;simpa using h a ha
theorem aJ [Q4] (p:Nat) (l:List Nat) (x:Nat) (hs:l.Pairwise (· < ·)) (hl:l.length≤100000) (hx:∀ a∈l,a < x) {w:World} {fr:List Q2} (H:Q0 w (Qu p l::fr)) :
  Calls Tryz.prog 83 #[pp p,.int .i64 x] w (ret fun v w'=>v = .bool true∧Q0 w' (Qu p (l++[x])::fr)):=by
 obtain⟨a,c,H⟩:=Wb H;have hn:x∉l:=fun h=>by have:=hx x h;omega
 refine QQ Tryz.func83 rfl (by kernel_rfl) ?_;refine WL H ?_;obtain⟨D1,H,hD1,hC1⟩:=sls_rd H.swap (QH _) (by decide);refine Jc rfl rfl (Ak _ l (by omega) hs x (hD1 _) H) ?_;clear H;rintro v w ⟨rfl,H⟩;replace H:=hC1 _ _ H;rw[N4 hx,decide_eq_false hn];refine UV H ?_;refine J6 H ?_;refine Qk (fun ms σ w=>ms=[]∧σ 6 = .bool false∧Q0 w (Qu p (l++[x])::fr)) ?_ ?_
 ·refine Vp rfl ?_;refine AG H ?_;refine YA H ?_;refine GJ H ?_;clear H;intro b27 w H;replace H:=Js [1,0,0] 0 H;refine Jc rfl rfl (aI _ l x (by omega) _ H) ?_;clear H;intro v w H;obtain⟨a28,m28,c28,rfl⟩:=Qs H;refine GL H ?_;clear H;intro w H;refine J2 H ?_;exact⟨rfl,rfl,rfl,Ke H.swap⟩
 ·clear H;rintro ms σ w ⟨rfl,g6,H⟩;rw[Q1 g6];refine VX H ?_;exact Q3 (Jy H rfl fun w' H'=>⟨rfl,H'⟩)
theorem aM [Q4] (p:Nat) (l:List Nat) (x:Nat) (hs:l.Pairwise (· < ·)) (hl:l.length≤100000) {w:World} {fr:List Q2} (H:Q0 w (Qu p l::fr)) :
  Calls Tryz.prog 42 #[pp p,.int .i64 x] w (ret fun v w'=>v = .bool (decide (x∈l))∧Q0 w' (Qu p l::fr)):=by
 obtain⟨a,c,H⟩:=Wb H;refine QQ Tryz.func42 rfl (by kernel_rfl) ?_;refine WL H ?_;obtain⟨D1,H,hD1,hC1⟩:=sls_rd H.swap (QH _) (by decide);refine Jc rfl rfl (Ak _ l (by omega) hs x (hD1 _) H) ?_;clear H;rintro v w ⟨rfl,H⟩;replace H:=hC1 _ _ H;refine UV H ?_;exact Q3 (Jy (Ke H.swap) rfl fun w' H'=>⟨rfl,H'⟩)
theorem N5:∀ a b:Rf,kp a=kp b→a=b:=Rc.inj
def ZD (l:List Rf):List Value:=l.flatMap fun r=>[.int .i64 r.1,.int .i64 r.2]
theorem Ap (l:List Rf):(ZD l).length=l.length*2:=by
 induction l with
 | nil=>rfl
 | cons r l ih=>simp only[ZD,flatMap_cons,length_append,length_cons,length_nil] at ih ⊢;omega
theorem aN (a b:List Rf):ZD (a++b)=ZD a++ZD b:=by simp[ZD]
theorem aP [Q4] (x:Option Nat) (m:List (Rf×Int)) {w:World} {fr:List Q2} (H:Q0 w (YS kp v1 (.map x) m::fr)) :
  Calls Tryz.prog 184 #[.map x] w
   (ret fun v w'=>∃ b,v = .func (.func 232) #[] #[pp b]∧Q0 w' (pts b (row 202 [.map x])::YS kp v1 (.map x) m::fr)):=by
 refine QQ Tryz.func184 rfl (by kernel_rfl) ?_;refine Yv H ?_;clear H;intro b1 w H;refine YY H ?_;refine Q3 (Jy H rfl fun w' H'=>⟨b1,rfl,H'⟩)
theorem Ga {α:Type}:∀ {l₁ l₂:List α},l₁.Nodup→(∀ z∈l₁,z∈l₂)→l₁.length≤l₂.length
 | [],_,_,_=>Nat.zero_le _
 | c::l,l₂,hn,hs=>by
  obtain⟨s,t,rfl⟩:=append_of_mem (hs c (by simp));have h:=nodup_cons.1 hn
  have:=Ga (l₂:=s++t) h.2 (fun z hz=>by
   have h1:=hs z (by simp[hz]);have h2:z≠c:=fun e=>h.1 (e▸hz);simp[h2] at h1;simpa using h1)
  simp at this ⊢;omega
theorem aT [Q4] (yl b:Nat) (x:Option Nat) (m:List (Rf×Int)) (J:List Rf→Q2)
  (hy:∀ ks r rest w,ks.length < m.length→Q0 w (J ks::rest)→SL.Yields Tryz.prog yl #[rf r] w (fun v w'=>v = .bool true∧Q0 w' (J (ks++[r])::rest)))
  {w:World} {fr:List Q2} (H:Q0 w (J []::pts b (row 202 [.map x])::YS kp v1 (.map x) m::fr)) :
  Calls Tryz.prog 232 #[.func (.yield yl) #[] #[],pp b] w
   (ret fun _ w'=>∃ ks,ks.Perm (m.map (·.1))∧Q0 w' (J ks::YS kp v1 (.map x) m::fr)):=by
 refine QQ Tryz.func232 rfl (by kernel_rfl) ?_;refine Zg H ?_;replace H:=Js [2,0,0] 0 H;refine Q5 rfl (H0 kp v1 H rfl rfl ?_);clear H;intro bi w H;refine J2 H ?_;refine QP ?_;refine Ql (fun ms σ w n=>ms=[]∧∃ ks:List Rf,σ 0 = .func (.yield yl) #[] #[]∧σ 5=pp bi∧n=m.length - ks.length∧Q0 w (KR kp v1 (.map x) m bi ks::J ks::pts b (row 202 [.map x])::fr)) (m:=m.length) ⟨rfl,[],rfl,rfl,rfl,H⟩ ?_;clear H w;rintro ms σ w n ⟨rfl,ks,h0,h5,rfl,H⟩;rw[Q1 h0,Q1 h5];refine Zn H ?_;refine Q5 rfl (H8 H N5 rfl rfl (fun hp w H=>?_) (fun q hq hn hnd hsub w H=>?_))
 ·refine Y8 H ?_;refine KH H ?_;replace H:=Fz H;replace H:=Js [1,0] 1 H;exact Y6 _ (.inl rfl) H rfl fun w' H'=>⟨ks,hp,H'⟩
 ·have hlt:ks.length < m.length:=by
   have h1:(ks++[q.1]).Nodup:=by
    rw[nodup_append];exact⟨hnd,by simp,fun c hc c' hc' e0=>by simp at hc';subst hc';subst e0;exact hn hc⟩
   have h2:=Ga h1 (l₂:=m.map (·.1)) (fun z hz=>by
    rcases mem_append.1 hz with hz|hz
    ·exact hsub z hz
    ·simp at hz;subst hz;exact mem_map_of_mem hq)
   simp at h2;omega
  refine Y8 H ?_;refine Xr H ?_;refine QP ?_;refine Zn H ?_;refine Q5 rfl (H9 H N5 hq rfl rfl ?_);refine Jv ?_;refine VZ H ?_;clear H;intro b3 w H;refine J5 H ?_;clear H;intro w H;refine J2 H ?_;refine Gv H ?_;replace H:=Js [2,0,0,0] 0 H;refine Q5 rfl (Ky rfl rfl (SL.Yields.mono (hy ks q.1 _ _ hlt H) ?_));clear H;rintro v w ⟨rfl,H⟩;refine Vx H ?_;replace H:=Js [2,0,1] 1 H;exact⟨_,⟨rfl,ks++[q.1],rfl,rfl,rfl,H⟩,by simp;omega⟩
def CJ (L:Q2) (b2:Nat) (ks:List Rf):Q2:=ex fun v:Value=>star [QX 132 2 v (ZD ks),L,pts b2 (row 129 [v])]
theorem N6 [Q4] {w:World} {L:Q2} {b2:Nat} {ks:List Rf} {l:List Q2} (H:Q0 w (CJ L b2 ks::l)):∃ v,Q0 w (QX 132 2 v (ZD ks)::L::pts b2 (row 129 [v])::l):=by
 obtain⟨v,H⟩:=Q0.ex.1 H;exact⟨v,Q0.star.1 H⟩
theorem N7 [Q4] {w:World} {L:Q2} {b2:Nat} {ks:List Rf} {l:List Q2} {v:Value} (H:Q0 w (QX 132 2 v (ZD ks)::L::pts b2 (row 129 [v])::l)):Q0 w (CJ L b2 ks::l):=
 Q0.ex.2 ⟨v,Q0.star.2 H⟩
theorem Aq [Q4] {w:World} {E k:Nat} {v:Value} {c:List Value} {l:List Q2} (H:Q0 w (QX E k v c::l)):v.oneCell'=true:=by
 rcases GD H with ⟨rfl,_⟩|⟨_,_,_,_,rfl,_⟩ <;> rfl
theorem ac [Q4] (b:Nat) (x:Option Nat) (m:List (Rf×Int)) (hm:m.length≤1000000) {w:World} {fr:List Q2} (H:Q0 w (pts b (row 202 [.map x])::YS kp v1 (.map x) m::fr)) :
  Calls Tryz.prog 248 #[.slice none 0 0,.func (.func 232) #[] #[pp b]] w
   (ret fun v w'=>∃ ks,ks.Perm (m.map (·.1))∧Q0 w' (QX 132 2 v (ZD ks)::YS kp v1 (.map x) m::fr)):=by
 refine QQ Tryz.func248 rfl (by kernel_rfl) ?_;refine Yv H ?_;clear H;intro b2 w H;refine Be H ?_;refine QP (Xn (a:=[]) (b:=[pp b]) H rfl (fun yl D w H=>?_));generalize hL:LR _ yl _ _ _ _ D .ready=L at H ⊢;replace H:=Yt (E:=132) (k:=2) H;replace H:=Js [0,0,1,1,1,0] 0 H;refine call (aT yl b x m (CJ L b2) ?_ (N7 (ks:=[]) H)) ?_
 ·intro ks r rest w hlt H;obtain⟨a,c⟩:=r;obtain⟨v,H⟩:=N6 H;have h1:=Aq H;subst hL;replace H:=Js [1,0,0] 0 H;refine XX (args:=[rf (a,c)]) H rfl rfl ?_;refine Y7 H ?_;clear H;intro b5 w H;refine J5 H ?_;clear H;intro w H;refine J2 H ?_;replace H:=Js [1,1,0,0] 0 H;refine⟨rfl,_,H,fun w H=>QP ?_⟩
  repeat refine Q6 ?_
  refine QZ ?_;refine Q5 rfl (QB H rfl rfl rfl ?_);refine Q5 rfl (VA H rfl (by repeat first|exact .nil _|apply Q9.cons rfl) rfl ?_);refine GJ H ?_;clear H;intro b10 w H;replace H:=Js [2,0,0,0,0] 0 H;refine Q5 rfl (YR H rfl rfl (by repeat first|exact .nil _|apply Q9.cons rfl) rfl (by decide) (by simp only[Ap,length_cons,length_nil];omega) rfl rfl ?_);clear H;intro v11 w H;obtain⟨a11,c11,rfl⟩:=QE (m:=ks.length+1) H (by simp[Ap];omega) (by decide);refine Q5 rfl (Yh H rfl rfl inferInstance (Aq H) (Nat.le_of_ble_eq_true rfl) rfl ?_);clear H;intro w H;refine J2 H ?_;replace H:=Js [2,0,2] 2 H;refine⟨rfl,_,H,fun w H=>⟨rfl,N7 (v := .slice a11 (ks.length+1) c11) ?_⟩⟩;replace H:=Js [1,0,0] 0 H;rw[aN];exact H
 ·rintro v w' ⟨ks,hp,H⟩;obtain⟨v2,H⟩:=N6 H;have h1:=Aq H;subst hL;replace H:=Js [1,0,0,0,0] 0 H;refine⟨_,H,fun w H=>?_⟩;refine Zg H ?_;refine UN H ?_;replace H:=Js [3,0,1] 1 H;exact Q3 (Kx (ms:=[D]) _ (.inr rfl) ((Q0.star (k:=[pts D (.deferred (some []))])).2 H) rfl fun w' H'=>⟨ks,hp,H'⟩)
theorem ae [Q4] (b:Nat) (x:Option Nat) (m:List (Rf×Int)) (hm:m.length≤1000000) {w:World} {fr:List Q2} (H:Q0 w (pts b (row 202 [.map x])::YS kp v1 (.map x) m::fr)) :
  Calls Tryz.prog 230 #[.func (.func 232) #[] #[pp b]] w
   (ret fun v w'=>∃ ks,ks.Perm (m.map (·.1))∧Q0 w' (QX 132 2 v (ZD ks)::YS kp v1 (.map x) m::fr)):=by
 refine QQ Tryz.func230 rfl (by kernel_rfl) ?_;refine XC H ?_;refine Jc rfl rfl (ac b x m hm H) ?_;rintro v w ⟨ks,hp,H⟩;refine UN H ?_;exact Q3 (Jy H rfl fun w' H'=>⟨ks,hp,H'⟩)
theorem N8 [Q4] (a:Int) (w:World):Calls Tryz.prog 229 #[.int .i64 a] w (ret fun v w'=>v = .bool false∧w'=w):=by
 refine QQ Tryz.func229 rfl (by kernel_rfl) ?_
 repeat refine Q6 ?_
 refine QZ ?_;refine Jv ?_;refine QG ?_
 repeat refine Q6 ?_
 refine QZ ?_;refine Jv ?_;refine Jv ?_;refine Jv ?_;refine Jv ?_;refine QG ?_;exact Q3 (KU (.inr rfl) rfl ⟨by show Value.bool (a != a)=_;simp,rfl⟩)
def Kf (a b:Int):Int:=if a < b then -1 else if b < a then 1 else 0
theorem N9 [Q4] (a b:Int) (w:World):Calls Tryz.prog 187 #[.int .i64 a,.int .i64 b] w (ret fun v w'=>v = .int .i64 (Kf a b)∧w'=w):=by
 refine QQ Tryz.func187 rfl (by kernel_rfl) ?_
 repeat refine Q6 ?_
 refine QZ ?_;refine Jv ?_;refine QG ?_
 repeat refine Q6 ?_
 refine QZ ?_;refine Jv ?_;refine Jc rfl rfl (N8 a _) ?_;rintro v w' ⟨rfl,rfl⟩;refine Jv ?_;refine QG ?_
 repeat refine Q6 ?_
 refine QZ ?_;refine Jv ?_;refine Jc rfl rfl (N8 b _) ?_;rintro v w' ⟨rfl,rfl⟩;refine Jv ?_;refine QG ?_
 repeat refine Q6 ?_
 refine QZ ?_;refine Jv ?_;refine QG ?_
 repeat refine Q6 ?_
 refine VM rfl (QD ?_)
 repeat refine Q6 ?_
 refine QZ ?_;refine Jv ?_;refine QG ?_
 repeat refine Q6 ?_
 refine VM rfl (QD ?_)
 repeat refine Q6 ?_
 refine QZ ?_;refine Jv ?_;refine Jv ?_;refine Jv ?_;refine QG ?_
 repeat refine Q6 ?_
 refine Qj rfl (fun h=>?_) (fun h=>QD ?_)
 ·repeat refine Q6 ?_
  refine QZ ?_;refine Jv ?_;refine QG ?_;exact Q3 (KU (.inr rfl) rfl ⟨by show Value.int .i64 (-1)=_;simp[Kf,h],rfl⟩)
 ·repeat refine Q6 ?_
  refine QZ ?_;refine Jv ?_;refine Jv ?_;refine Jv ?_;refine QG ?_
  repeat refine Q6 ?_
  refine Qj rfl (fun h2=>?_) (fun h2=>QD ?_)
  ·repeat refine Q6 ?_
   refine QZ ?_;refine Jv ?_;refine QG ?_;exact Q3 (KU (.inr rfl) rfl ⟨by have:b < a:=h2;show Value.int .i64 1=_;simp[Kf,h,this],rfl⟩)
  ·repeat refine Q6 ?_
   refine QZ ?_;refine Jv ?_;refine QG ?_;exact Q3 (KU (.inr rfl) rfl ⟨by have:¬ b < a:=h2;show Value.int .i64 0=_;simp[Kf,h,this],rfl⟩)
def Ar (x y:Int):Int:=if x=0 then y else x
theorem ah [Q4] (b:Nat) (x y:Int) {w:World} {fr:List Q2} (H:Q0 w (pts b (row 3 [.int .i64 x,.int .i64 y])::fr)) :
  Calls Tryz.prog 186 #[.slice (some ⟨b,0,none⟩) 2 2] w (ret fun v w'=>v = .int .i64 (Ar x y)∧w'=w):=by
 refine QQ Tryz.func186 rfl (by kernel_rfl) ?_;refine VF H ?_;refine XC H ?_;refine Bx H ?_;refine G1 H ?_;refine Ql (fun ms σ w' n=>ms=[]∧w'=w∧∃ i:Nat,i≤2∧n=2 - i∧σ 6 = .slice (some ⟨b,0,none⟩) 2 2∧σ 7 = .int .i64 2∧σ 8 = .int .i64 i∧σ 3 = .int .i64 0∧(1≤i→x=0)∧(2≤i→y=0)) (m:=2) ⟨rfl,rfl,0,by omega,rfl,rfl,rfl,rfl,rfl,by omega,by omega⟩ ?_;rintro ms σ w' n ⟨rfl,rfl,i,hi,rfl,h6,h7,h8,h3,hx,hy⟩;rw[Q1 h6,Q1 h7,Q1 h8,Q1 h3];have h012:i=0∨i=1∨i=2:=by omega
 rcases h012 with rfl|rfl|rfl
 ·refine J8 H ?_;refine Xr H ?_;refine YB H ?_;refine Q5 rfl (GC rfl rfl (by decide) (by decide) rfl ?_);refine Xo H ?_;refine J0 H ?_;refine Bq H ?_;refine W3 rfl (fun ht=>?_) (fun ht=>QD ?_)
  ·have hx0:x≠0:=by simpa using ht
   refine J4 H ?_;exact Q3 (KU (.inr rfl) rfl ⟨by show Value.int .i64 x=_;simp[Ar,hx0],rfl⟩)
  ·have hx0:x=0:=by simpa using ht
   refine J4 H ?_;exact⟨_,⟨rfl,rfl,1,by omega,rfl,rfl,rfl,rfl,rfl,by omega,by omega⟩,by omega⟩
 ·refine J8 H ?_;refine Xr H ?_;refine YB H ?_;refine Q5 rfl (GC rfl rfl (by decide) (by decide) rfl ?_);refine Xo H ?_;refine J0 H ?_;refine Bq H ?_;refine W3 rfl (fun ht=>?_) (fun ht=>QD ?_)
  ·have hx0:y≠0:=by simpa using ht
   refine J4 H ?_;exact Q3 (KU (.inr rfl) rfl ⟨by show Value.int .i64 y=_;simp[Ar,hx (by omega)],rfl⟩)
  ·have hx0:y=0:=by simpa using ht
   refine J4 H ?_;exact⟨_,⟨rfl,rfl,2,by omega,rfl,rfl,rfl,rfl,rfl,by omega,by omega⟩,by omega⟩
 ·refine J8 H ?_;refine KH H ?_;refine J4 H ?_;exact Q3 (KU (.inr rfl) rfl ⟨by show Value.int .i64 0=_;simp[Ar,hx (by omega),hy (by omega)],rfl⟩)
def As (x y:Rf):Int:=Ar (Kf x.1 y.1) (Kf x.2 y.2)
open Go.Sort in
theorem aj (x y:Rf) (w:World):Calls Tryz.prog 185 #[rf x,rf y] w (ret fun v w'=>v = .int .i64 (As x y)∧∃ q os',w'=grow (w.drewN q) os'):=by
 obtain⟨a,b⟩:=x;obtain⟨c,d⟩:=y;letI:Q4:=⟨w.os,w.output⟩;have H:Q0 w []:=Q0.nil w ⟨rfl,rfl⟩;refine QQ Tryz.func185 rfl (by kernel_rfl) ?_
 repeat refine Q6 ?_
 refine QZ ?_;refine Q5 rfl (Lu H rfl rfl ?_);clear H;intro b2 w1 e1 H;refine Q5 rfl (Lu H rfl rfl ?_);clear H;intro b3 w2 e2 H;refine Jv ?_;refine QG ?_
 repeat refine Q6 ?_
 refine SE H mixed ?_;clear H;intro w3 e3 H;refine Jf 0 ?_;refine Jl 1 [4,9,10,11] H ?_;refine Jf 2 ?_;refine Jl 3 [4,9,10,11] H ?_;refine Jf 5 ?_;refine Jl 6 [9,10,11] H ?_;refine Jf 7 ?_;refine Jl 8 [9,10,11] H ?_;refine Jo 4 H ?_;refine Jk rfl rfl (N9 a c _) ?_;rintro v w' ⟨rfl,rfl⟩;refine Jo 9 H ?_;refine Jk rfl rfl (N9 b d _) ?_;rintro v w' ⟨rfl,rfl⟩;refine Jo 10 H ?_;refine SD H rfl rfl rfl ?_;clear H;intro b15 w5 e5 H;refine Jo 11 H ?_;refine Jk rfl rfl (ah b15 (Kf a c) (Kf b d) H) ?_;rintro v w' ⟨rfl,rfl⟩;refine Ja 12 ?_;refine Jx H ?_
 have key:∃ q os',w'=grow (w.drewN q) os':=by
  rw[e5,e3,e2,e1];simp only[alloc_eq_grow]
  exact⟨1,_,by
   show grow (grow (grow (w.drewN 1) _) _) _=_;rw[grow_grow,grow_grow]⟩
 exact Q3 (KU (.inr rfl) rfl ⟨rfl,key⟩)
def Zs (x y:Rf):Prop:=x.1 < y.1∨x.1=y.1∧x.2 < y.2
instance (x y:Rf):Decidable (Zs x y):=by unfold Zs;exact inferInstance
theorem am (x y:Rf):As x y < 0↔Zs x y:=by
 unfold As Ar Kf Zs;constructor
 ·intro h
  repeat' split at h
  all_goals omega
 ·intro h
  repeat' split
  all_goals omega
open Go.Sort in
theorem F3 (x y:Rf):ltOf As x y=decide (Zs x y):=by
 unfold ltOf;rw[Bool.eq_iff_iff];simp[am]
open Go.Sort in
theorem ap:SWO (ltOf As) where
 irrefl x:=by rw[F3];simp[Zs]
 trans x y z h1 h2:=by
  rw[F3] at h1 h2 ⊢;have h1:Zs x y:=of_decide_eq_true h1;have h2:Zs y z:=of_decide_eq_true h2;have h3:Zs x z:=by unfold Zs at *;omega
  exact decide_eq_true h3
 ntrans x y z h1 h2:=by
  rw[F3] at h1 h2 ⊢;have h1:¬ Zs x y:=of_decide_eq_false h1;have h2:¬ Zs y z:=of_decide_eq_false h2;have h3:¬ Zs x z:=by unfold Zs at *;omega
  exact decide_eq_false h3
def F4 (r:Rf):List Value:=[.int .i64 r.1,.int .i64 r.2]
theorem ax (l:List Rf):ZD l=l.flatMap F4:=rfl
def CF (l:List Rf):Prop:=l.Pairwise Zs
theorem ay [Q4] (b:Nat) (x:Option Nat) (m:List (Rf×Int)) (hm:m.length≤1000000) (hn:(m.map (·.1)).Nodup) {w:World} {fr:List Q2} (H:Q0 w (pts b (row 202 [.map x])::YS kp v1 (.map x) m::fr)) :
  Calls Tryz.prog 183 #[.func (.func 232) #[] #[pp b],.func (.func 185) #[] #[]] w
   (ret fun v w'=>∃ ks,ks.Perm (m.map (·.1))∧CF ks∧Q0 w' (QX 132 2 v (ZD ks)::YS kp v1 (.map x) m::fr)):=by
 refine QQ Tryz.func183 rfl (by kernel_rfl) ?_;refine XC H ?_;refine Jc rfl rfl (ae b x m hm H) ?_;rintro v w ⟨ks,hp,H⟩;refine UN H ?_;refine Zn H ?_;refine Up rfl rfl ?_;refine Jv ?_
 have hs:=Su (k:=2) (enc:=F4) Tryz.sortRef (t:=132) rfl inferInstance (by decide) (fun _=>rfl) (fun x v hv=>by simp[F4] at hv;rcases hv with rfl|rfl <;> rfl) As ap (g:=185) inferInstance (fun x y W=>(aj x y W).mono fun e w' h=>by
  cases e with
  | returned v=>exact⟨by rw[h.1],h.2⟩
  | panicked c=>exact h.elim
  | outgrown=>exact h.elim) H (by have:=hp.length_eq;simp at this;omega)
 refine Jc rfl rfl (hs) ?_;rintro v2 w ⟨ks2,hp2,hs2,H⟩;refine J2 H ?_;refine Zn H ?_;refine Up rfl rfl ?_;refine UN H ?_;have hp3:=hp2.trans hp;refine Q3 (Jy H rfl fun w' H'=>⟨ks2,hp3,?_,H'⟩);have hnd:ks2.Nodup:=hp3.nodup_iff.2 hn;refine(hs2.and hnd).imp ?_;rintro a b ⟨h1,h2⟩;rw[F3] at h1;have h3:¬ Zs b a:=of_decide_eq_false h1;unfold Zs at h3 ⊢;have h4:¬ (a.1=b.1∧a.2=b.2):=fun e=>h2 (Prod.ext e.1 e.2);omega
theorem F5 [Q4] (x:Option Nat) (m:List (Rf×Int)) (hm:m.length≤1000000) (hn:(m.map (·.1)).Nodup) {w:World} {fr:List Q2} (H:Q0 w (YS kp v1 (.map x) m::fr)) :
  Calls Tryz.prog 101 #[.map x] w
   (ret fun v w'=>∃ ks,ks.Perm (m.map (·.1))∧CF ks∧Q0 w' (QX 132 2 v (ZD ks)::YS kp v1 (.map x) m::fr)):=by
 refine QQ Tryz.func101 rfl (by kernel_rfl) ?_;refine XC H ?_;refine Jc rfl rfl (aP x m H) ?_;rintro v w ⟨b,rfl,H⟩
 refine Jc rfl rfl (ay b x m hm hn H) ?_;rintro v w ⟨ks,hp,hs,H⟩;refine UN H ?_;exact Q3 (Jy H rfl fun w' H'=>⟨ks,hp,hs,H'⟩)
theorem F6 {g1 g2:List Gr} {g:Gr} (hn:((g1++g::g2).map (·.key)).Nodup) {r:Rf}:mem (g1++g::g2) g.key r↔r∈g.m.map (·.1):=by
 rw[WP];exact⟨fun h=>h.elim (·.2) fun h=>absurd (Re h) (CU hn),fun h => .inl ⟨rfl,h⟩⟩
theorem I3 [Q4] {w:World} {K V:Type} {ek:K→Value} {vv:V→Value} {b:Nat} {m:List (K×V)} {l:List Q2} (H:Q0 w (YS ek vv (.map (some b)) m::l)):Q0 w (mp ek vv b m::l):=H.head fun h hm=>by
 rcases hm with ⟨h,_⟩|⟨b',h,hm⟩
 ·cases h
 ·cases h;exact hm
theorem Wc {K V:Type} [DecidableEq K] {m:List (K×V)} {x:K} (h:(QY m x).isSome=true):x∈m.map (·.1):=by
 cases hf:QY m x with
 | none=>rw[hf] at h;cases h
 | some v=>exact mem_map_of_mem (f:=(·.1)) (Un hf)
theorem az [Q4] (p:Nat) (m:List (Rf×Int)) (hm:m.length≤1000000) (t:Int) {w:World} {fr:List Q2} (H:Q0 w (RS p m::fr)) :
  Calls Tryz.prog 194 #[pp p,.int .i64 t] w (ret fun v w'=>∃ ks,(∀ r,r∈ks↔(r.1=t∧(QY m r).isSome=true))∧CF ks∧Q0 w' (QX 132 2 v (ZD ks)::RS p m::fr)):=by
 refine QQ Tryz.func194 rfl (by kernel_rfl) ?_;obtain⟨bt,bo,bf,H⟩:=Al H;refine WL H ?_;replace H:=Js [3,0,0,0] 0 H;obtain⟨G,hG,H⟩:=Ed H;refine Q5 rfl (G0 (key:=t) H rfl rfl Vf rfl ?_);have hn0:=Kb bf H;have hn:(G.map (·.key)).Nodup:=by rw[← WN];exact hn0
 cases hf:QY (G.map Zo) t with
 | none=>
  replace H:=Lx kp v1 H;refine Jc rfl rfl (F5 none [] (by simp) (by simp) H) ?_;rintro v w ⟨ks,hp,hs,H⟩;refine UN H ?_;have hks:ks=[]:=by simpa using hp
  subst hks;replace H:=Js [2,2,2,2,2,0] 1 H;replace H:=Xy G hG H;replace H:=Js [1,1,1,0,0] 0 H;replace H:=Ro bt bo bf (fun _ _=>Iff.rfl) (fun _ _=>Iff.rfl) H;refine Q3 (Jy H.swap rfl fun w' H'=>⟨[],fun r=>?_,hs,H'⟩);have h1:=W6.1 hf;rw[WN] at h1;exact⟨fun h=>by simp at h,fun h=>absurd (Re ((hG t r).2 h)) h1⟩
 | some bi=>
  obtain⟨g,g1,g2,rfl,rfl,rfl⟩:=Ee hf;have H:=(Q0.pick rfl).1 H.swap;have hi:=Kb g.blk H
  have hlen:g.m.length≤1000000:=by
   have:=Ga hi (l₂:=m.map (·.1)) (fun r hr=>by
    have:=(hG g.key r).1 ((F6 hn).2 hr);exact Wc this.2)
   simp at this;omega
  replace H:=DH H;refine Jc rfl rfl (F5 (some g.blk) g.m hlen hi H) ?_;rintro v w ⟨ks,hp,hs,H⟩;refine UN H ?_;replace H:=I3 H.swap;replace H:=Js [0,1,0,0,0,0,0] 0 H;replace H:=(Q0.pick (R:=Rd) (gs:=g1++g::g2) rfl).2 H;replace H:=Js [2,0,1,1,1,0] 0 H;replace H:=Xy (g1++g::g2) hG H;replace H:=Js [1,1,1,0,0] 0 H;replace H:=Ro bt bo bf (fun _ _=>Iff.rfl) (fun _ _=>Iff.rfl) H;refine Q3 (Jy H.swap rfl fun w' H'=>⟨ks,fun r=>?_,hs,H'⟩);rw[hp.mem_iff,← hG,F6 hn]
theorem NQ {ks:List Rf} {spare:List Value} {i:Nat} {r:Rf} (h:ks[i]? = some r):Q9 (ZD ks++spare) (0+i*2) 2 [.int .i64 r.1,.int .i64 r.2]:=by
 have hl:=Ap ks;have hi:=(List.getElem?_eq_some_iff.1 h).1;have g:∀ t,(ZD ks)[t]? = (ks[t / 2]?).bind fun x=>(F4 x)[t % 2]? := fun t=>by rw[ax];exact HA (k:=2) (fun _=>rfl) (by decide) ks t
 refine .cons ?_ (.cons ?_ (.nil _))
 ·rw[getElem?_append_left (by omega),g,show (0+i*2) / 2=i by omega,show (0+i*2) % 2=0 by omega,h];rfl
 ·rw[getElem?_append_left (by omega),g,show (0+i*2+1) / 2=i by omega,show (0+i*2+1) % 2=1 by omega,h];rfl
theorem bQ {ks:List Rf} (h:ZD ks=[]):ks=[]:=by
 have:=Ap ks;rw[h] at this;exact eq_nil_of_length_eq_zero (by simp at this;omega)
theorem I4:∀ (ks:List Rf) {m:List (Rf×Int)},(m.map (·.1)).Nodup→((ks.foldl QC m).map (·.1)).Nodup
 | [],_,h=>h
 | k::ks,_,h=>I4 ks (XU h)
theorem bV [Q4] (p:Nat) (m:List (Rf×Int)) (hn:(m.map (·.1)).Nodup) (hm:m.length≤1000000) (t:Int) {w:World} {fr:List Q2} (H:Q0 w (RS p m::fr)) :
  Calls Tryz.prog 109 #[pp p,.int .i64 t] w (ret fun v w'=>∃ ks,(∀ r,r∈ks↔(r.1=t∧(QY m r).isSome=true))∧CF ks∧v = .int .i64 ks.length∧Q0 w' (RS p (ks.foldl QC m)::fr)):=by
 refine QQ Tryz.func109 rfl (by kernel_rfl) ?_;refine Uw H ?_;refine Jc rfl rfl (az p m hm t H) ?_;rintro v w ⟨ks,hks,hs,H⟩;refine UN H ?_
 have hlen:ks.length≤1000000:=by
  have hnd:ks.Nodup:=hs.imp fun {a b} h e=>by subst e;unfold Zs at h;omega
  have:=Ga hnd (l₂:=m.map (·.1)) fun r hr=>Wc ((hks r).1 hr).2;simp at this;omega
 rcases GD H with ⟨rfl,h0,H2⟩|⟨b,len,cap,spare,rfl,e3,e4,e5,H2⟩ <;> replace H:=H2 <;> clear H2
 ·have:=bQ h0;subst this
  repeat refine Q6 ?_
  refine QZ ?_;refine Jv ?_;refine Q5 rfl (ZJ rfl rfl ?_);refine Jv ?_;refine QG ?_
  repeat refine Q6 ?_
  refine QP ?_;refine Ql (fun ms σ w n=>ms=[]∧σ 12 = .int .i64 0∧σ 13 = .int .i64 0∧σ 5 = .slice none 0 0∧Q0 w (RS p m::fr)) (m:=1) ⟨rfl,rfl,rfl,rfl,H⟩ ?_;clear H;rintro ms σ w n ⟨rfl,h12,h13,h5,H⟩;rw[Q1 h12,Q1 h13,Q1 h5];refine J8 H ?_;refine KH H ?_;refine Xu H ?_;exact Q3 (Jy H rfl fun w' H'=>⟨[],hks,hs,rfl,H'⟩)
 ·have hl2:len=ks.length:=by rw[Ap] at e3;omega
  subst hl2;refine YZ H ?_;refine KP H ?_
  refine Ql (fun ms σ w n=>ms=[]∧∃ i:Nat,i≤ks.length∧n=ks.length - i∧σ 0=pp p∧σ 11 = .slice (some ⟨b,0,none⟩) ks.length cap∧σ 12 = .int .i64 ks.length∧σ 13 = .int .i64 i∧σ 5 = .slice (some ⟨b,0,none⟩) ks.length cap ∧
   Q0 w (RS p ((ks.take i).foldl QC m)::pts b (row 132 (ZD ks++spare))::fr)) (m:=ks.length) ⟨rfl,0,by omega,rfl,rfl,rfl,rfl,rfl,rfl,H.swap⟩ ?_
  clear H;rintro ms σ w n ⟨rfl,i,hi,rfl,h0,h11,h12,h13,h5,H⟩;rw[Q1 h0,Q1 h11,Q1 h12,Q1 h13,Q1 h5];refine J8 H ?_;refine Qj rfl (fun h=>QD ?_) (fun h=>Qp ?_)
  ·have hlt:i < ks.length:=by omega
   have hr:=getElem?_eq_getElem hlt;generalize ks[i]=r at hr;obtain⟨a,c⟩:=r;refine YB H ?_;refine Jd ?_;refine Q5 rfl (VA H rfl (NQ hr) rfl ?_);refine VZ H ?_;clear H;intro b7 w H;refine J5 H ?_;clear H;intro w H;refine J2 H ?_;refine Gv H ?_;replace H:=Js [1,1] 1 H;refine Jc rfl rfl (CC p _ (I4 _ hn) (a,c) H) ?_;clear H;rintro v w ⟨rfl,H⟩;refine XB H ?_;refine⟨_,⟨rfl,i+1,hlt,rfl,rfl,rfl,rfl,Qc (by omega),rfl,?_⟩,by omega⟩;rw[take_add_one,hr];simpa using H
  ·have hge:i=ks.length:=by omega
   subst hge;refine Xu H ?_;rw[take_length] at H;exact Q3 (Jy H.swap.drop rfl fun w' H'=>⟨ks,hks,hs,rfl,H'⟩)
theorem NV:∀ a b:Int,ki .i64 a=ki .i64 b→a=b:=fun a b h=>by cases h;rfl
def UU (par:List (Int×Int)) (id k:Int):Bool:=decide (QY par k=some id)
theorem bZ [Q4] (p last:Nat) (par:List (Int×Int)) (id:Int) (h0:id=0∨(QY par id).isSome=true) (hl:par.length≤1000) {w:World} {fr:List Q2} (H:Q0 w (Qf p last par::fr)) :
  Calls Tryz.prog 31 #[pp p,.int .i64 id] w (ret fun v w'=>∃ u K,v = .tuple #[u,.int .i64 0]∧K.Perm ((par.map (·.1)).filter (UU par id))∧K.Pairwise (·≤·)∧Q0 w' (IL u K::Qf p last par::fr)):=by
 have hnd:=Mq H;refine QQ Tryz.func31 rfl (by kernel_rfl) ?_;refine XF H ?_;refine Jc rfl rfl (Hu p last par id H) ?_;clear H;rintro v w ⟨rfl,H⟩;refine Y8 H ?_;refine Qk (fun ms σ w=>ms=[]∧σ 22 = .bool false∧σ 0=pp p∧σ 1 = .int .i64 id∧Q0 w (Qf p last par::fr)) ?_ ?_
 ·cases hf:(QY par id).isSome with
  | true=>
   refine Vc H ?_;refine KJ H ?_;refine RW H ?_;refine Qw rfl rfl rfl ?_;refine J0 H ?_;exact⟨rfl,rfl,rfl,rfl,rfl,H⟩
  | false=>
   obtain rfl:id=0:=by
    rcases h0 with h|h
    ·exact h
    ·rw[hf] at h;cases h
   refine Vc H ?_;refine Yj H ?_;refine QT rfl rfl rfl (Gt rfl rfl (.inl rfl) rfl ?_);refine Zm H ?_;refine Zm H ?_;refine J0 H ?_;exact⟨rfl,rfl,rfl,rfl,rfl,H⟩
 clear H;rintro ms σ w ⟨rfl,g22,g0,g1,H⟩;rw[Q1 g22,Q1 g0,Q1 g1];refine KS H ?_;obtain⟨b,H⟩:=Kc H;refine Yk H ?_;replace H:=DH H.swap;refine Q5 rfl (H0 (ki .i64) v1 H rfl rfl ?_);clear H;intro bi w H;refine AV H ?_;refine Y4 (fun ms σ w=>ms=[]∧∃ (u:Value) (K:List Int),σ 7=u∧K.Perm ((par.map (·.1)).filter (UU par id))∧Q0 w (IL u K::Qf p last par::fr)) ?_ ?_
 ·refine QP ?_;refine Ql (fun ms σ w n=>ms=[]∧∃ (ks:List Int) (u:Value),ks.length≤par.length∧n=par.length - ks.length∧σ 1 = .int .i64 id∧σ 7=u∧σ 28=pp bi∧Q0 w (IL u (ks.filter (UU par id))::KR (ki .i64) v1 (.map (some b)) par bi ks::pts p (row 114 [.map (some b),.int .i64 last])::fr)) (m:=par.length) ⟨rfl,[],_,by simp,rfl,rfl,rfl,rfl,Yt H⟩ ?_;clear H;rintro ms σ w n ⟨rfl,ks,u,hkl,rfl,g1,g7,g28,H⟩;obtain⟨au,mu,cu,rfl⟩:=Qs H;rw[Q1 g1,Q1 g7,Q1 g28];refine Zn H ?_;refine Q5 rfl (H8 H.swap NV rfl rfl (fun hp w H=>?_) (fun q hq hn hnd2 hsub w H=>?_))
  ·refine Y8 H ?_;refine KH H ?_;replace H:=I3 (Fz H);replace H:=Js [1,1,0] 0 H;have H2:Q0 w (Qf p last par::IL (.slice au mu cu) (ks.filter (UU par id))::fr):=K1 (by replace H:=Q0.sel [1,1,0] 0 H;dsimp only[SL.sel,SL.pull,List.drop] at H;exact H);exact .inl ⟨rfl,rfl,_,_,rfl,hp.filter _,H2.swap⟩
  ·have hlt:ks.length < par.length:=by
    have h1:(ks++[q.1]).Nodup:=by
     rw[nodup_append];exact⟨hnd2,by simp,fun c hc c' hc' e0=>by simp at hc';subst hc';subst e0;exact hn hc⟩
    have h2:=Ga h1 (l₂:=par.map (·.1)) (fun z hz=>by
     rcases mem_append.1 hz with hz|hz
     ·exact hsub z hz
     ·simp at hz;subst hz;exact mem_map.2 ⟨q,hq,rfl⟩)
    simp at h2;omega
   have hfq:QY par q.1=some q.2:=(Z1 hnd).2 hq;refine Y8 H ?_;refine Xr H ?_;refine QP ?_;refine Zn H ?_;refine Q5 rfl (H9 H NV hq rfl rfl ?_);refine AI H ?_;obtain⟨k,t⟩:=q;refine VX H ?_;by_cases ht:t=id
   ·have hk:UU par id k=true:=by unfold UU;rw[hfq,ht];simp
    rw[show (t == id)=true by simpa using ht];refine VH H ?_;refine EG H ?_;clear H;intro b39 w H;replace H:=Js [2,0,0,0] 0 H;have hle:=length_filter_le (UU par id) ks;refine Q5 rfl (YR H rfl rfl (by repeat first|exact .nil _|apply Q9.cons rfl) rfl (by decide) (by rw[Vo];simp only[length_cons,length_nil];omega) rfl rfl ?_);clear H;intro v40 w H;obtain⟨a40,m40,c40,rfl⟩:=Qs H;refine J0 H ?_;replace H:=Js [0,1,1] 1 H;refine⟨_,⟨rfl,ks++[k],_,by simp;omega,rfl,rfl,rfl,rfl,?_⟩,by simp;omega⟩;rw[filter_append,show [k].filter (UU par id)=[k] by simp[hk]];show Q0 w (QX _ 1 _ (Qe (ks.filter (UU par id)++[k]))::_);rw[Ao];exact H
   ·have hk:UU par id k=false:=by unfold UU;rw[hfq];simp;exact ht
    rw[show (t == id)=false by simpa using ht];refine V4 H ?_;refine⟨_,⟨rfl,ks++[k],.slice au mu cu,by simp;omega,rfl,rfl,rfl,rfl,?_⟩,by simp;omega⟩;rw[filter_append,show [k].filter (UU par id)=[] by simp[hk],append_nil];replace H:=Js [1,0,0] 0 H;exact H
 ·clear H;rintro ms σ w ⟨rfl,u,K,g7,hK,H⟩
  have hKl:K.length≤1000:=by
   have h1:=hK.length_eq;have h2:=length_filter_le (UU par id) (par.map (·.1));simp at h2;omega
  obtain⟨au,cu,rfl⟩:=QE H (Vo K) (by decide);rw[Q1 g7];refine YZ H ?_;refine Jc rfl rfl (F2 _ K (by omega) H) ?_;clear H;rintro v w ⟨rfl,H⟩;refine WA H ?_;refine Q3 (Jy H rfl fun w' H'=>⟨_,_,rfl,(mergeSort_perm K _).trans hK,?_,H'⟩);have:=pairwise_mergeSort (le:=fun x y:Int=>decide (x≤y)) (fun a b c h1 h2=>by simp at *;omega) (fun a b=>by simp;omega) K;exact this.imp (fun h=>by simpa using h)
@[reducible] def Vl (e:Q8):List Value:=[.int .i64 e.addr,.int .i64 e.region,.bool e.held,.bool e.pinned]
def VS (t:QK):List Value:=match t.ent with
 | none=>[.int .i64 t.gen,.bool false,.int .i64 0,.int .i64 0,.bool false,.bool false]
 | some e=>[.int .i64 t.gen,.bool true,.int .i64 e.addr,.int .i64 e.region,.bool e.held,.bool e.pinned]
theorem YD (t:QK):(VS t).length=6:=by unfold VS;split <;> rfl
theorem bG (t:QK):(VS t)[0]? = some (.int .i64 t.gen):=by unfold VS;split <;> rfl
theorem bX (t:QK):(VS t)[1]? = some (.bool t.ent.isSome):=by
 unfold VS;split
 ·rename_i h;rw[h];rfl
 ·rename_i h;rw[h];rfl
def busy (t:QK):Bool:=t.ent.isSome || t.gen == 255
def Zi (ts:List QK):Nat:=(ts.filter fun t=>t.ent.isNone && t.gen == 255).length
def K4 (ts:List QK):Nat:=(ts.filter busy).length
structure GQ (ts:List QK) (x:Nat):Prop where
 bits:ZB ts.length x
 bit:∀ (i:Nat) (t:QK),ts[i]? = some t→x.testBit i=busy t
 gen:∀ (i:Nat) (t:QK),ts[i]? = some t→t.gen≤255
theorem bR {α:Type} {ts:List α} {f:α→Bool} {x:Nat} (h:∀ (i:Nat) (t:α),ts[i]? = some t→x.testBit i=f t):Yd ts.length x=(ts.filter f).length:=by
 unfold Yd
 have e2:∀ (l:List α) (k:Nat),(∀ (i:Nat) (t:α),l[i]? = some t→x.testBit (k+i)=f t)→((List.range' k l.length).filter fun i=>x.testBit i).length=(l.filter f).length:=by
  intro l
  induction l with
  | nil=>intro k _;rfl
  | cons a l ih=>
   intro k hk;have h0:=hk 0 a rfl;have hr:=ih (k+1) (fun i t ht=>by rw[show k+1+i=k+(i+1) by omega];exact hk (i+1) t (by simpa using ht));rw[length_cons,range'_succ,filter_cons,filter_cons];rw[Nat.add_zero] at h0;rw[h0];split
   ·simp[hr]
   ·exact hr
 rw[range_eq_range'];exact e2 ts 0 (fun i t ht=>by rw[Nat.zero_add];exact h i t ht)
theorem GQ.cnt {ts:List QK} {x:Nat} (h:GQ ts x):Yd ts.length x=K4 ts:=bR h.bit
def Qg (p:Nat) (ts:List QK):Q2:=ex fun q:Value×Nat×Nat=>star [prop (GQ ts q.2.2),pts p (row 154 [q.1,pp q.2.1,.int .i64 (Zi ts)]),QX 158 6 q.1 (ts.flatMap VS),Z4 q.2.1 ts.length q.2.2]
theorem Rp [Q4] {w:World} {p:Nat} {ts:List QK} {l:List Q2} (H:Q0 w (Qg p ts::l)):∃ b c s u x,GQ ts x∧ts.length≤c ∧
  Q0 w (pts p (row 154 [.slice (some ⟨b,0,none⟩) ts.length c,pp u,.int .i64 (Zi ts)])::pts b (row 158 (ts.flatMap VS++s))::Z4 u ts.length x::l) ∧
  ∀ w' l' ts' x',ts'.length=ts.length→Zi ts'=Zi ts→GQ ts' x'→Q0 w' (pts p (row 154 [.slice (some ⟨b,0,none⟩) ts.length c,pp u,.int .i64 (Zi ts)])::pts b (row 158 (ts'.flatMap VS++s))::Z4 u ts.length x'::l')→Q0 w' (Qg p ts'::l'):=by
 obtain⟨⟨v,u,x⟩,H⟩:=Q0.ex.1 H;have H:=Q0.star.1 H;obtain⟨h,H⟩:=Q0.prop.1 H;replace H:Q0 w (pts p (row 154 [v,pp u,.int .i64 (Zi ts)])::QX 158 6 v (ts.flatMap VS)::Z4 u ts.length x::l):=H;obtain⟨a,c,rfl⟩:=QE H.drop (Gu YD ts) (by decide);obtain⟨b,s,rfl,H,hcap,hsp,hclose⟩:=Z2 H.swap h.bits.pos;refine⟨b,c,s,u,x,h,hcap,H.swap,fun w' l' ts' x' e1 e2 h' H'=>?_⟩;have H':=hclose w' _ (ts'.flatMap VS) (by rw[Gu YD,Gu YD,e1]) H'.swap;refine Q0.ex.2 ⟨(.slice (some ⟨b,0,none⟩) ts.length c,u,x'),Q0.star.2 (Q0.prop.2 ⟨h',?_⟩)⟩;show Q0 w' (pts p (row 154 [_,pp u,.int .i64 (Zi ts')])::QX 158 6 _ _::Z4 u ts'.length x'::l');rw[e1,e2];exact H'.swap
theorem bA [Q4] (n:Nat) (h1:1≤n) (h2:n≤63) {w:World} {fr:List Q2} (H:Q0 w fr) :
  Calls Tryz.prog 70 #[.int .i64 n] w (ret fun v w'=>∃ p,v = .tuple #[pp p,.int .i64 0]∧Q0 w' (Qg p (List.replicate n ⟨0,none⟩)::fr)):=by
 refine QQ Tryz.func70 rfl (by kernel_rfl) ?_;refine XF H ?_;rw[show decide ((n:Int) < 1)=false from decide_eq_false (by omega)];refine UQ H ?_;rw[show decide ((n:Int) > 4096)=false from decide_eq_false (by omega)];refine Vx H ?_;refine YZ H ?_;refine Jc rfl rfl (Me n (by omega) (by omega) H) ?_;clear H;rintro v w ⟨u,rfl,H⟩;refine G3 H ?_;refine YZ H ?_;refine Q5 rfl (ZR H rfl rfl (by decide) (by omega) rfl ?_);clear H;intro b18 w H;refine Jv ?_;refine XW H ?_;clear H;intro b21 w H;refine J3 H ?_
 have hz:Y2 (Qv (.agg #[.int .i64 0,.bool false,.int .i64 0,.int .i64 0,.bool false,.bool false])) n=(List.replicate n (⟨0,none⟩:QK)).flatMap VS:=by
  clear H;clear h1 h2
  induction n with
  | zero=>rfl
  | succ n ih=>show _++Y2 _ n=_;rw[ih,replicate_succ,flatMap_cons];rfl
 have hlen:(List.replicate n (⟨0,none⟩:QK)).length=n:=by simp
 have hgone:Zi (List.replicate n (⟨0,none⟩:QK))=0:=by
  unfold Zi;rw[filter_eq_nil_iff.2 (fun t ht=>by rw[eq_of_mem_replicate ht];simp)];rfl
 have hok:GQ (List.replicate n (⟨0,none⟩:QK)) 0:=by
  refine⟨by rw[hlen];exact⟨by omega,h2,Nat.two_pow_pos _⟩,fun i t ht=>?_,fun i t ht=>?_⟩
  ·rw[eq_of_mem_replicate (mem_of_getElem? ht),Nat.zero_testBit];rfl
  ·rw[eq_of_mem_replicate (mem_of_getElem? ht)];simp
 have hbm:BM u n (List.replicate ((n+63) / 64) 0) 0=Z4 u n 0:=by
  rw[show (n+63) / 64=1 by omega]
  have:Yd n 0=0:=by
   unfold Yd;rw[filter_eq_nil_iff.2 (fun i _=>by simp)];rfl
  show BM u n [0] 0=BM u n [0] (Yd n 0);rw[this]
 rw[hz,hbm] at H;refine Q3 (Jy H rfl fun w' H'=>⟨_,rfl,Q0.ex.2 ⟨(.slice (some ⟨b18,0,none⟩) n n,u,0),Q0.star.2 (Q0.prop.2 ⟨hok,?_⟩)⟩⟩);show Q0 w' (pts b21 (row 154 [_,pp u,.int .i64 (Zi (List.replicate n (⟨0,none⟩:QK)))])::QX 158 6 _ _::Z4 u (List.replicate n (⟨0,none⟩:QK)).length 0::fr);rw[hgone,hlen];exact H'
theorem NY [Q4] (p:Nat) (ts:List QK) {w:World} {fr:List Q2} (H:Q0 w (Qg p ts::fr)) :
  Calls Tryz.prog 80 #[pp p] w (ret fun v w'=>v = .int .i64 ((ts.length - K4 ts:Nat):Int)∧Q0 w' (Qg p ts::fr)):=by
 obtain⟨b,c,s,u,x,hok,hc,H,hclose⟩:=Rp H;have hb:=hok.bits.le;have hcnt:=hok.cnt;have hle:=Hg ts.length x;refine QQ Tryz.func80 rfl (by kernel_rfl) ?_;refine Bf H ?_;refine J1 H ?_;clear H;intro w H;refine XA H ?_;refine R5 4 rfl (Q7.none rfl) rfl (by kernel_rfl) ?_;refine De H ?_;refine Jl 8 [9] H ?_;replace H:=Js [2,0,0] 0 H;refine Jo 9 H ?_;refine Jk rfl rfl (Mb u _ _ _ H) ?_;clear H;rintro v w ⟨rfl,H⟩;refine Dd H ?_;replace H:=Js [1,1,0] 0 H;refine Q3 (Jy (hclose _ _ ts x rfl rfl hok H) rfl fun w' H'=>⟨?_,H'⟩);show Value.int .i64 (IntKind.i64.wrap ((ts.length:Int) - (Yd ts.length x:Int)))=_;rw[Qb (by omega) (by omega),← hcnt];congr 1;omega
@[reducible] def Yy (i g:Int):Value := .agg #[.int .i64 i,.int .i64 g]
theorem bB {ts:List QK} {i g:Int} (h:QS ts i g=none):i < 0∨(ts.length:Int)≤i∨∃ (k:Nat) (t:QK),i=k∧ts[k]? = some t∧(t.ent=none∨(t.ent.isSome=true∧(t.gen:Int)≠g)):=by
 by_cases h0:i < 0
 ·exact .inl h0
 by_cases h1:(ts.length:Int)≤i
 ·exact .inr (.inl h1)
 refine .inr (.inr ?_);obtain⟨k,rfl⟩:∃ k:Nat,i=k:=⟨i.toNat,by omega⟩;have hk:=getElem?_eq_getElem (l:=ts) (i:=k) (by omega);generalize ts[k]'(by omega)=t at hk;refine⟨k,t,rfl,hk,?_⟩;obtain⟨n,e⟩:=t;cases e with
 | none=>exact .inl rfl
 | some e=>
  refine .inr ⟨rfl,fun hg=>?_⟩;rw[(Y9 (k:=k) (e:=e)).2 ⟨n,rfl,hg.symm,hk⟩] at h;cases h
theorem F7 [Q4] (p b c u:Nat) (go:Value) (hgo:go.oneCell'=true) (ts:List QK) (s:List Value) (hlen:ts.length≤63) (i g:Int) {w:World} {fr:List Q2} (H:Q0 w (pts p (row 154 [.slice (some ⟨b,0,none⟩) ts.length c,pp u,go])::pts b (row 158 (ts.flatMap VS++s))::fr)) :
  Calls Tryz.prog 63 #[pp p,Yy i g] w (ret fun v w'=>v=(match QS ts i g with|some (k,_) => .tuple #[.pointer (some ⟨b,k*6,none⟩),.int .i64 0]|none => .tuple #[.pointer none,.int .i64 8]) ∧
   Q0 w' (pts p (row 154 [.slice (some ⟨b,0,none⟩) ts.length c,pp u,go])::pts b (row 158 (ts.flatMap VS++s))::fr)):=by
 refine QQ Tryz.func63 rfl (by kernel_rfl) ?_;refine J7 H ?_;clear H;intro b3 w H;refine Dx H ?_;cases hL:QS ts i g with
 | some q=>
  obtain⟨k,e⟩:=q;obtain⟨n,rfl,rfl,hk⟩:=Y9.1 hL;have hkl:k < ts.length:=(List.getElem?_eq_some_iff.1 hk).1;have c1:(ts.flatMap VS++s)[k*6+1]? = some (.bool true):=UI YD hk rfl;have c0:(ts.flatMap VS++s)[k*6+0]? = some (.int .i64 n):=UI YD hk rfl;have ei:0+((k:Nat):Int).toNat*6=k*6:=by simp
  refine J1 H ?_;clear H;intro w H;refine RZ H ?_;rw[show decide ((k:Int) < 0)=false from decide_eq_false (by omega)];refine Ja 3 ?_;refine RG H ?_;refine AJ H ?_;refine Jl 9 [] H ?_;refine R5 10 rfl (Q7.of rfl rfl rfl) rfl (by kernel_rfl) ?_;refine Ja 11 ?_;rw[show decide ((k:Int)≥(ts.length:Int))=false from decide_eq_false (by omega)];refine RR H ?_;refine Ja 15 ?_;refine Jf 16 ?_;refine Jl 17 [] H ?_;refine Jf 18 ?_;refine Jl 19 [] H ?_;refine Ji 20 ?_;rw[ei];refine Jf 21 ?_;refine Vn 22 [] H rfl (Q7.of rfl rfl rfl) rfl c1 (by kernel_rfl) ?_;refine Ja 23 ?_;refine Ja 24 ?_;refine Ja 25 ?_;refine Ja 26 ?_;refine Ja 27 ?_;refine Jf 28 ?_;refine Jl 29 [] H ?_;refine Jf 30 ?_;refine Jl 31 [] H ?_;refine Ji 32 ?_;rw[ei];refine Jf 33 ?_;refine Vn 34 [] H rfl (Q7.of rfl rfl rfl) rfl c0 (by kernel_rfl) ?_;refine Jf 35 ?_;refine Jl 36 [] H ?_;refine Ja 37 ?_;rw[show (((n:Nat):Int) != (n:Int))=false by simp];refine Ja 38 ?_;refine Jx H ?_;refine Bz H ?_;clear H;intro w H;refine XA H ?_;refine RG H ?_;refine Ji 6 ?_;rw[ei];refine Ja 7 ?_;refine XH H ?_;exact Q3 (Jy H.drop rfl fun w' H'=>⟨rfl,H'⟩)
 | none=>
  rcases bB hL with h0|h1|⟨k,t,rfl,hk,ht⟩
  ·refine J1 H ?_;clear H;intro w H;refine RZ H ?_;rw[show decide (i < 0)=true from decide_eq_true (by omega)];refine Ja 3 ?_;refine EU H ?_;refine Ja 12 ?_;refine Ja 13 ?_;refine EK H ?_;refine ER H ?_;exact Q3 (Jy H.drop rfl fun w' H'=>⟨rfl,H'⟩)
  ·by_cases h0:i < 0
   ·refine J1 H ?_;clear H;intro w H;refine RZ H ?_;rw[show decide (i < 0)=true from decide_eq_true (by omega)];refine Ja 3 ?_;refine EU H ?_;refine Ja 12 ?_;refine Ja 13 ?_;refine EK H ?_;refine ER H ?_;exact Q3 (Jy H.drop rfl fun w' H'=>⟨rfl,H'⟩)
   ·refine J1 H ?_;clear H;intro w H;refine RZ H ?_;rw[show decide (i < 0)=false from decide_eq_false (by omega)];refine Ja 3 ?_;refine RG H ?_;refine AJ H ?_;refine Jl 9 [] H ?_;refine R5 10 rfl (Q7.of rfl rfl rfl) rfl (by kernel_rfl) ?_;refine Ja 11 ?_;rw[show decide (i≥(ts.length:Int))=true from decide_eq_true (by omega)];refine Ja 12 ?_;refine Ja 13 ?_;refine EK H ?_;refine ER H ?_;exact Q3 (Jy H.drop rfl fun w' H'=>⟨rfl,H'⟩)
  ·have hkl:k < ts.length:=(List.getElem?_eq_some_iff.1 hk).1;have c1:(ts.flatMap VS++s)[k*6+1]? = some (.bool t.ent.isSome):=UI YD hk (bX t);have c0:(ts.flatMap VS++s)[k*6+0]? = some (.int .i64 t.gen):=UI YD hk (bG t);have ei:0+((k:Nat):Int).toNat*6=k*6:=by simp
   refine J1 H ?_;clear H;intro w H;refine RZ H ?_;rw[show decide ((k:Int) < 0)=false from decide_eq_false (by omega)];refine Ja 3 ?_;refine RG H ?_;refine AJ H ?_;refine Jl 9 [] H ?_;refine R5 10 rfl (Q7.of rfl rfl rfl) rfl (by kernel_rfl) ?_;refine Ja 11 ?_;rw[show decide ((k:Int)≥(ts.length:Int))=false from decide_eq_false (by omega)];refine RR H ?_;refine Ja 15 ?_;refine Jf 16 ?_;refine Jl 17 [] H ?_;refine Jf 18 ?_;refine Jl 19 [] H ?_;refine Ji 20 ?_;rw[ei];refine Jf 21 ?_;refine Vn 22 [] H rfl (Q7.of rfl rfl rfl) rfl c1 (by kernel_rfl) ?_
   rcases ht with ht|⟨ht,hne⟩
   ·rw[ht];refine Ja 23 ?_;refine ER H ?_;exact Q3 (Jy H.drop rfl fun w' H'=>⟨rfl,H'⟩)
   ·rw[ht];refine Ja 23 ?_;refine Ja 24 ?_;refine Ja 25 ?_;refine Ja 26 ?_;refine Ja 27 ?_;refine Jf 28 ?_;refine Jl 29 [] H ?_;refine Jf 30 ?_;refine Jl 31 [] H ?_;refine Ji 32 ?_;rw[ei];refine Jf 33 ?_;refine Vn 34 [] H rfl (Q7.of rfl rfl rfl) rfl c0 (by kernel_rfl) ?_;refine Jf 35 ?_;refine Jl 36 [] H ?_;refine Ja 37 ?_;rw[show (((t.gen:Nat):Int) != g)=true by simpa using hne];refine Ja 38 ?_;refine Jx H ?_
    repeat refine Q6 ?_
    refine Vp rfl ?_
    repeat refine Q6 ?_
    refine QZ ?_;refine Jv ?_;refine Jv ?_;refine QG ?_;exact Q3 (Jy H.drop rfl fun w' H'=>⟨rfl,H'⟩)
end Go.Proofs.YtbnnnljagkjpiaaGreatDoor
