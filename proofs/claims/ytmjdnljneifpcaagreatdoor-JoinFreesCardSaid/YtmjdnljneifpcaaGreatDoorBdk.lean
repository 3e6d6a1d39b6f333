/- Cells: what is proved on the way: every input of the statement; no condition. Texts joined: LnkA LnkB LnkC InvP InvQ TreP TreQ LawE LawF LawG. -/
import Derived.Test.YtmjdnljneifpcaaGreatDoorBdd
import Derived.Test.YtmjdnljneifpcaaGreatDoorBdg
import Derived.Test.YtmjdnljneifpcaaGreatDoorBdi
import Derived.Test.YtmjdnljneifpcaaGreatDoorBdj
import Derived.Test.YtmjdnljneifpcaaGreatDoorBdh
set_option linter.unusedVariables false
set_option linter.unusedSimpArgs false
set_option linter.unusedSectionVars false
namespace Go.Proofs.YtmjdnljneifpcaaGreatDoor
open Go.SL
theorem NW:∀ {a b:List Nat},a.Pairwise (· < ·)→b.Pairwise (· < ·)→(∀ x,x∈a↔x∈b)→a=b
 | [],[],_,_,_=>rfl
 | [],y::b,_,_,h=>by have:=(h y).2 (by simp);cases this
 | x::a,[],_,_,h=>by have:=(h x).1 (by simp);cases this
 | x::a,y::b,ha,hb,h=>by
  rw[List.pairwise_cons] at ha hb
  have hxy:x=y:=by
   have h1:=(h x).1 (by simp);have h2:=(h y).2 (by simp);rw[List.mem_cons] at h1 h2
   rcases h1 with h1|h1
   ·exact h1
   ·rcases h2 with h2|h2
    ·exact h2.symm
    ·have:=hb.1 x h1;have:=ha.1 y h2;omega
  subst hxy;congr 1;refine NW ha.2 hb.2 fun z=>?_;have hz:=h z;rw[List.mem_cons,List.mem_cons] at hz;constructor
  ·intro h1;have:=ha.1 z h1
   rcases hz.1 (.inr h1) with h2|h2
   ·omega
   ·exact h2
  ·intro h1;have:=hb.1 z h1
   rcases hz.2 (.inr h1) with h2|h2
   ·omega
   ·exact h2
def Xq (l:QJ) (i:Nat):List Nat:=l.recs.map (l.fixed+i*l.record+·)
def Z4 (l:QJ) (c:Nat):List Nat:=l.refs++(List.range c).flatMap (Xq l)
theorem NA {l:List Nat} {n:Nat} (h:Uk l n):l=(List.range n).filter (fun p=>decide (p∈l)):=by
 refine NW h.2 (List.Pairwise.filter _ List.pairwise_lt_range) fun x=>?_;rw[List.mem_filter,List.mem_range,decide_eq_true_eq];exact⟨fun hx=>⟨h.1 x hx,hx⟩,fun hx=>hx.2⟩
theorem NB {l:QJ} (hR:VO l):∀ c:Nat,(c > 0→l.record≠0)→Z4 l c=(List.range (l.fixed+c*l.record)).filter (VV l)
 | 0,_=>by
  unfold Z4;rw[Nat.zero_mul,Nat.add_zero,List.range_zero,List.flatMap_nil,List.append_nil];refine(NA hR.2.2.2.1).trans (List.filter_congr fun x hx=>?_);unfold VV;rw[if_pos (List.mem_range.1 hx)]
 | c+1,h=>by
  have ih:=NB hR c (fun _=>h (by omega));have hr:0 < l.record:=Nat.pos_of_ne_zero (h (by omega))
  have e:Z4 l (c+1)=Z4 l c++Xq l c:=by
   unfold Z4;rw[List.range_succ,List.flatMap_append,List.append_assoc];simp
  have e3:List.range ((l.fixed+c*l.record)+l.record)=List.range (l.fixed+c*l.record)++(List.range l.record).map (l.fixed+c*l.record+·):=List.range_add;rw[e,ih,show l.fixed+(c+1)*l.record=(l.fixed+c*l.record)+l.record by rw[Nat.succ_mul];omega,e3,List.filter_append];congr 1;rw[List.filter_map];unfold Xq;congr 1;refine(NA hR.2.2.2.2).trans (List.filter_congr fun x hx=>?_);have hx:=List.mem_range.1 hx;show _=VV l (l.fixed+c*l.record+x);unfold VV;rw[if_neg (by omega),show l.fixed+c*l.record+x - l.fixed=x+l.record*c by rw[Nat.mul_comm];omega,Nat.add_mul_mod_self_left,Nat.mod_eq_of_lt hx]
theorem cY [Q4] (vr vq:Value) (l:QJ) (c:Nat) (h1:vr.oneCell'=true) (h2:vq.oneCell'=true) {w:World} {fr:List Q2} (H:Q0 w fr) :
  Calls Tryz.prog 187 #[Yr l.fixed vr l.record vq,.int .i64 c] w (ret fun v w'=>∃ b1 b2,v = .func (.func 238) #[] #[pp b1,pp b2]∧Q0 w' (pts b1 (row 102 [.int .i64 l.fixed,vr,.int .i64 l.record,vq])::pts b2 (row 3 [.int .i64 c])::fr)):=by
 refine QQ Tryz.func187 rfl (by kernel_rfl) ?_;refine J6 H ?_;clear H;intro b2 w H;refine KA H ?_;clear H;intro b3 w H;refine YD H ?_;exact Q3 (Jy H.swap rfl fun w' H'=>⟨b2,b3,rfl,H'⟩)
theorem cZ [Q4] (yl b1 b2:Nat) (vr vq:Value) (l:QJ) (hR:VO l) (c:Nat) {n:Nat} (hz:V6 l c=(n,0)) (J:List Nat→Q2)
  (hy:∀ (ks:List Nat) (p:Nat) (rest:List Q2) (w:World),(∃ t,(List.range n).filter (VV l)=ks++p::t)→Q0 w (J ks::rest)→SL.Yields Tryz.prog yl #[.int .i64 p] w (fun v w'=>v = .bool true∧Q0 w' (J (ks++[p])::rest)))
  {w:World} {fr:List Q2} (H:Q0 w (J []::pts b1 (row 102 [.int .i64 l.fixed,vr,.int .i64 l.record,vq])::pts b2 (row 3 [.int .i64 c])::NL vr l.refs::NL vq l.recs::fr)) :
  Calls Tryz.prog 238 #[.func (.yield yl) #[] #[],pp b1,pp b2] w (ret fun _ w'=>Q0 w' (J ((List.range n).filter (VV l))::pts b1 (row 102 [.int .i64 l.fixed,vr,.int .i64 l.record,vq])::pts b2 (row 3 [.int .i64 c])::NL vr l.refs::NL vq l.recs::fr)):=by
 obtain⟨z1,z2,z3,z4,z5⟩:=HC hz;have hall:=NB hR c (by omega);rw[Int.toNat_natCast] at z3;rw[← z3] at hall;rw[← hall] at hy ⊢;have hfx:=hR.1;have hrc:=hR.2.1;have hl1:=Uk.len hR.2.2.2.1;have hl2:=Uk.len hR.2.2.2.2;obtain⟨ar,cr,rfl⟩:=QD (H.sel [3,0,0,0] 0) (QF _) (by decide);obtain⟨aq,cq,rfl⟩:=QD (H.sel [4,0,0,0,0] 0) (QF _) (by decide);refine QQ Tryz.func238 rfl (by kernel_rfl) ?_;refine GQ H ?_;refine K4 H ?_;replace H:=Js [3,3,0,0,0] 0 H;obtain⟨D1,H,hD1,hC1⟩:=sls_rd H (QF _) (by decide);obtain⟨D2,H,hD2,hC2⟩:=sls_rd H.swap (QF _) (by decide);refine Jc rfl rfl (Bu _ _ l hR c ⟨(hD1 _).there,hD2 _⟩ H) ?_;clear H;rintro v w ⟨rfl,H⟩;rw[hz];replace H:=hC1 _ _ (hC2 _ _ H).swap;refine Zu H ?_;replace H:=Js [0,0,0,0,0] 0 H;refine K6 H ?_;refine Bg H ?_;refine Qn (fun ms σ w=>ms=[]∧σ 0 = .func (.yield yl) #[] #[]∧σ 1=pp b1∧σ 4 = .int .i64 n∧Q0 w (NL (.slice ar l.refs.length cr) l.refs::NL (.slice aq l.recs.length cq) l.recs::J l.refs::pts b1 (row 102 [.int .i64 l.fixed,.slice ar l.refs.length cr,.int .i64 l.record,.slice aq l.recs.length cq])::pts b2 (row 3 [.int .i64 c])::fr)) ?_ ?_
 ·refine QS ?_;refine Qj (fun ms σ w z=>ms=[]∧∃ i:Nat,i≤l.refs.length∧z=l.refs.length - i∧σ 0 = .func (.yield yl) #[] #[]∧σ 1=pp b1∧σ 4 = .int .i64 n∧σ 20 = .slice ar l.refs.length cr∧σ 21 = .int .i64 l.refs.length∧σ 22 = .int .i64 i∧Q0 w (NL (.slice ar l.refs.length cr) l.refs::NL (.slice aq l.recs.length cq) l.recs::J (l.refs.take i)::pts b1 (row 102 [.int .i64 l.fixed,.slice ar l.refs.length cr,.int .i64 l.record,.slice aq l.recs.length cq])::pts b2 (row 3 [.int .i64 c])::fr)) (m:=l.refs.length) ⟨rfl,0,by omega,rfl,rfl,rfl,rfl,rfl,rfl,rfl,H⟩ ?_;clear H;rintro ms σ w z ⟨rfl,i,hi,rfl,g0,g1,g4,g20,g21,g22,H⟩;rw[Q1 g0,Q1 g1,Q1 g4,Q1 g20,Q1 g21,Q1 g22];refine J7 H ?_;refine Qf rfl (fun h=>QW ?_) (fun h=>Qp ?_)
  ·have hlt:i < l.refs.length:=by omega
   have hn:=List.getElem?_eq_getElem hlt;have htk:l.refs.take (i+1)=l.refs.take i++[l.refs[i]]:=by rw[List.take_add_one,hn];rfl
   have hdr:l.refs=l.refs.take i++l.refs[i]::l.refs.drop (i+1):=split_at hn;generalize l.refs[i]=p at hn htk hdr;obtain⟨bT,sT,rfl,H,hcl⟩:=Qx H (by omega);refine YY H ?_;refine Jd ?_;refine Q5 rfl (QA H rfl (Gg hn) rfl ?_);refine J0 H ?_;replace H:=hcl _ _ H;replace H:=Js [2,0,0,0,0] 0 H;refine J5 H ?_;refine Q5 rfl (Wb rfl rfl (SL.Yields.mono (hy (l.refs.take i) p _ _ ⟨l.refs.drop (i+1)++(List.range c).flatMap (Xq l),by unfold Z4;rw[show l.refs.take i++p::(l.refs.drop (i+1)++(List.range c).flatMap (Xq l))=(l.refs.take i++p::l.refs.drop (i+1))++(List.range c).flatMap (Xq l) by simp,← hdr]⟩ H) ?_));clear H;rintro v w ⟨rfl,H⟩;refine Y0 H ?_;replace H:=Js [1,1,0,0,0] 0 H;refine J4 H ?_;rw[← htk] at H;exact⟨_,⟨rfl,i+1,hlt,rfl,rfl,rfl,rfl,rfl,rfl,Qb (by omega),H⟩,by omega⟩
  ·have hge:i=l.refs.length:=by omega
   subst hge;rw[List.take_length] at H;exact⟨rfl,rfl,rfl,rfl,rfl,H⟩
 clear H;rintro ms σ w ⟨rfl,g0,g1,g4,H⟩;rw[Q1 g0,Q1 g1,Q1 g4];refine K6 H ?_;refine Y1 H ?_;refine Qn (fun ms σ w=>ms=[]∧Q0 w (NL (.slice ar l.refs.length cr) l.refs::NL (.slice aq l.recs.length cq) l.recs::J (Z4 l c)::pts b1 (row 102 [.int .i64 l.fixed,.slice ar l.refs.length cr,.int .i64 l.record,.slice aq l.recs.length cq])::pts b2 (row 3 [.int .i64 c])::fr)) ?_ ?_
 ·refine QS ?_;refine Qj (fun ms σ w z=>ms=[]∧∃ i A:Nat,i≤c∧A=l.fixed+i*l.record∧z=c - i∧σ 0 = .func (.yield yl) #[] #[]∧σ 1=pp b1∧σ 4 = .int .i64 n∧σ 8 = .int .i64 A∧Q0 w (NL (.slice ar l.refs.length cr) l.refs::NL (.slice aq l.recs.length cq) l.recs::J (Z4 l i)::pts b1 (row 102 [.int .i64 l.fixed,.slice ar l.refs.length cr,.int .i64 l.record,.slice aq l.recs.length cq])::pts b2 (row 3 [.int .i64 c])::fr)) (m:=c) ⟨rfl,0,l.fixed,by omega,by omega,rfl,rfl,rfl,rfl,rfl,by unfold Z4;rw[List.range_zero,List.flatMap_nil,List.append_nil];exact H⟩ ?_;clear H;rintro ms σ w z ⟨rfl,i,A,hi,hA,rfl,g0,g1,g4,g8,H⟩;rw[Q1 g0,Q1 g1,Q1 g4,Q1 g8];refine BL H ?_;refine Qf rfl (fun h=>QW ?_) (fun h=>Qp ?_)
  ·have hic:i < c:=by
    refine Nat.lt_of_not_le fun hle=>?_;have:=Nat.mul_le_mul_right l.record hle;omega
   have hb:A+l.record≤n:=by
    have:=Nat.mul_le_mul_right l.record (Nat.succ_le_of_lt hic);rw[Nat.succ_mul] at this;omega
   have hAl:A < 8192:=by omega
   have hsucc:Z4 l (i+1)=Z4 l i++Xq l i:=by
    unfold Z4;rw[List.range_succ,List.flatMap_append,List.append_assoc];simp
   have hpre:∃ t,Z4 l c=Z4 l i++Xq l i++t:=by
    rw[← hsucc];unfold Z4;refine⟨((List.range (c - (i+1))).map (i+1+·)).flatMap (Xq l),?_⟩;rw[List.append_assoc,← List.flatMap_append,← List.range_add,show i+1+(c - (i+1))=c by omega]
   obtain⟨tl,hpre⟩:=hpre;refine J8 H ?_;refine Qn (fun ms σ w=>ms=[]∧σ 0 = .func (.yield yl) #[] #[]∧σ 1=pp b1∧σ 4 = .int .i64 n∧σ 8 = .int .i64 A∧Q0 w (NL (.slice ar l.refs.length cr) l.refs::NL (.slice aq l.recs.length cq) l.recs::J (Z4 l (i+1))::pts b1 (row 102 [.int .i64 l.fixed,.slice ar l.refs.length cr,.int .i64 l.record,.slice aq l.recs.length cq])::pts b2 (row 3 [.int .i64 c])::fr)) ?_ ?_
   ·refine QS ?_;refine K6 H ?_;refine KX H ?_;refine Qj (fun ms σ w z=>ms=[]∧∃ j:Nat,j≤l.recs.length∧z=l.recs.length - j∧σ 0 = .func (.yield yl) #[] #[]∧σ 1=pp b1∧σ 4 = .int .i64 n∧σ 8 = .int .i64 A∧σ 41 = .slice aq l.recs.length cq∧σ 42 = .int .i64 l.recs.length∧σ 43 = .int .i64 j∧Q0 w (NL (.slice ar l.refs.length cr) l.refs::NL (.slice aq l.recs.length cq) l.recs::J (Z4 l i++(l.recs.take j).map (l.fixed+i*l.record+·))::pts b1 (row 102 [.int .i64 l.fixed,.slice ar l.refs.length cr,.int .i64 l.record,.slice aq l.recs.length cq])::pts b2 (row 3 [.int .i64 c])::fr)) (m:=l.recs.length) ⟨rfl,0,by omega,rfl,rfl,rfl,rfl,rfl,rfl,rfl,rfl,by rw[List.take_zero,List.map_nil,List.append_nil];exact H⟩ ?_;clear H;rintro ms σ w z ⟨rfl,j,hj,rfl,g0,g1,g4,g8,g41,g42,g43,H⟩;rw[Q1 g0,Q1 g1,Q1 g4,Q1 g8,Q1 g41,Q1 g42,Q1 g43];refine J7 H ?_;refine Qf rfl (fun h=>QW ?_) (fun h=>Qp ?_)
    ·have hlt:j < l.recs.length:=by omega
     have hn:=List.getElem?_eq_getElem hlt;have htk:l.recs.take (j+1)=l.recs.take j++[l.recs[j]]:=by rw[List.take_add_one,hn];rfl
     have hdr:l.recs=l.recs.take j++l.recs[j]::l.recs.drop (j+1):=split_at hn;have hrl:=hR.2.2.2.2.1 l.recs[j] (List.getElem_mem _);generalize l.recs[j]=p at hn htk hdr hrl;replace H:=Js [1,0,0,0,0] 0 H;obtain⟨bT,sT,rfl,H,hcl⟩:=Qx H (by omega);refine YY H ?_;refine Jd ?_;refine Q5 rfl (QA H rfl (Gg hn) rfl ?_);refine J0 H ?_;replace H:=hcl _ _ H;replace H:=Js [2,0,0,0,0] 0 H;refine XS H ?_;rw[QT (x:=(A:Int)+(p:Int)) (by omega) (by omega),show (A:Int)+(p:Int)=((A+p:Nat):Int) by omega]
     refine Q5 rfl (Wb rfl rfl (SL.Yields.mono (hy (Z4 l i++(l.recs.take j).map (l.fixed+i*l.record+·)) (A+p) _ _ ⟨(l.recs.drop (j+1)).map (l.fixed+i*l.record+·)++tl,by
      rw[hpre];unfold Xq
      conv=>lhs;rw[hdr]
      rw[hA];simp⟩ H) ?_))
     clear H;rintro v w ⟨rfl,H⟩;refine Y0 H ?_;replace H:=Js [2,1,0,0,0] 0 H;refine J4 H ?_;have e4:Z4 l i++(l.recs.take j).map (l.fixed+i*l.record+·)++[A+p]=Z4 l i++(l.recs.take (j+1)).map (l.fixed+i*l.record+·):=by rw[htk,hA];simp
     rw[e4] at H;exact⟨_,⟨rfl,j+1,hlt,rfl,rfl,rfl,rfl,rfl,rfl,rfl,Qb (by omega),H⟩,by omega⟩
    ·have hge:j=l.recs.length:=by omega
     subst hge;rw[List.take_length] at H;have e5:Z4 l i++l.recs.map (l.fixed+i*l.record+·)=Z4 l (i+1):=hsucc.symm;rw[e5] at H;exact⟨rfl,rfl,rfl,rfl,rfl,rfl,H⟩
   clear H;rintro ms σ w ⟨rfl,g0,g1,g4,g8,H⟩;rw[Q1 g0,Q1 g1,Q1 g4,Q1 g8];refine W4 H ?_;refine J2 H ?_;refine⟨_,⟨rfl,i+1,A+l.record,hic,by rw[hA,Nat.succ_mul];omega,rfl,rfl,rfl,rfl,?_,H⟩,by omega⟩;show Value.int .i64 (IntKind.i64.wrap ((A:Int)+(l.record:Int)))=_;rw[QT (by omega) (by omega)];rfl
  ·have hge:i=c:=by
    refine Nat.le_antisymm hi (Nat.le_of_not_lt fun hlt=>?_);have hrp:0 < l.record:=Nat.pos_of_ne_zero (z5 (by omega));have:=Nat.mul_lt_mul_of_pos_right hlt hrp;omega
   subst hge;exact⟨rfl,rfl,H⟩
 clear H;rintro ms σ w ⟨rfl,H⟩;replace H:=Js [2,2,2,0,0] 0 H;exact Y4 _ (.inl rfl) H rfl fun w' H'=>H'
end Go.Proofs.YtmjdnljneifpcaaGreatDoor
namespace Go.Proofs.YtmjdnljneifpcaaGreatDoor
open Go.SL
def WD (l:QJ) (n:Nat):List Nat:=(List.range n).filter (VV l)
theorem NC {l:QJ} {n p:Nat} {a t:List Nat} (h:WD l n=a++p::t):p < n∧VV l p=true:=by
 have:p∈WD l n:=by rw[h];simp
 unfold WD at this;rw[List.mem_filter,List.mem_range] at this;exact this
structure ND (ls:List QJ) (size:Nat) (own:List Nat) (addr i c s n:Nat) (l:QJ) (lk:Nat→Vw) (mem:List Nat):Prop where
 img:XY ls size mem own addr i c s n l
 link:∀ p,p < n→VV l p=true→GK (lk p)∧mem.getD (addr+1+p) 0=V9 (lk p)
theorem cG [Q4] (ip:Nat) (addr:Nat) {w:World} {fr:List Q2} (H:Q0 w fr) :
  Calls Tryz.prog 113 #[pp ip,.int .i64 addr] w (ret fun v w'=>∃ b1 b2,v = .func (.func 186) #[] #[pp b1,pp b2]∧Q0 w' (pts b1 (row 36 [pp ip])::pts b2 (row 3 [.int .i64 addr])::fr)):=by
 refine QQ Tryz.func113 rfl (by kernel_rfl) ?_;refine ZW H ?_;clear H;intro b2 w H;refine KA H ?_;clear H;intro b3 w H;refine YD H ?_;exact Q3 (Jy H.swap rfl fun w' H'=>⟨b2,b3,rfl,H'⟩)
theorem cX [Q4] (yl bm ba ip sp bp size:Nat) (ls:List QJ) (own:List Nat) (addr i c s n:Nat) (l:QJ) (lk:Nat→Vw) (F:List Nat→Prop) (hF:∀ mem,F mem→ND ls size own addr i c s n l lk mem) (J:List Nat→Q2)
  (hy : ∀ (ks : List Nat) (p : Nat) (mem : List Nat) (rest : List Q2) (w : World), F mem → (∃ t, WD l n = ks ++ p :: t) → Q0 w (J ks :: Qw ip sp bp :: Ql bp ls :: ST sp size mem own :: rest) →
   SL.Yields Tryz.prog yl #[.int .i64 p,ZA (lk p)] w (fun v w'=>v = .bool true∧∃ mem',F mem'∧Q0 w' (J (ks++[p])::Qw ip sp bp::Ql bp ls::ST sp size mem' own::rest)))
  {mem:List Nat} (hm:F mem) {w:World} {fr:List Q2} (H:Q0 w (J []::pts bm (row 36 [pp ip])::pts ba (row 3 [.int .i64 addr])::Qw ip sp bp::Ql bp ls::ST sp size mem own::fr)) :
  Calls Tryz.prog 186 #[.func (.yield yl) #[] #[],pp bm,pp ba] w (ret fun _ w'=>∃ mem',F mem'∧Q0 w' (J (WD l n)::pts bm (row 36 [pp ip])::pts ba (row 3 [.int .i64 addr])::Qw ip sp bp::Ql bp ls::ST sp size mem' own::fr)):=by
 have hR:=(hF _ hm).img.right;have hz:=(hF _ hm).img.siz;refine QQ Tryz.func186 rfl (by kernel_rfl) ?_;refine ZW H ?_;clear H;intro b3 w H;refine Q6 ?_;refine Gz H ?_;refine Q5 rfl (Gc rfl rfl (.inl rfl) rfl ?_);refine A9 H ?_;replace H:=Js [4,4,4,0,0,0,0] 0 H;refine Bp H ?_;refine Jc rfl rfl (HS ip sp bp size ls mem own addr i c s n l (hF _ hm).img H) ?_;clear H;rintro v w ⟨vr,vq,rfl,H⟩;obtain⟨ar,cr,rfl⟩:=QD H (QF _) (by decide);obtain⟨aq,cq,rfl⟩:=QD H.drop (QF _) (by decide);refine BB H ?_;refine VZ H ?_;clear H;intro b4 w H;refine VZ H ?_;clear H;intro b5 w H;refine J3 H ?_;clear H;intro w H;refine J3 H ?_;clear H;intro w H;refine Bc H ?_;refine GQ H ?_;refine Gf H ?_;refine Jc rfl rfl (cY _ _ l c rfl rfl H) ?_;clear H;rintro v w ⟨b1,b2,rfl,H⟩;refine BW H ?_;refine QS (Kp (a:=[]) (b:=[pp b1,pp b2]) H rfl (fun yl2 D w H=>?_));generalize hL:LR _ yl2 _ _ _ _ D .ready=L at H ⊢;obtain⟨J2,hJ2⟩:∃ J2:List Nat→Q2,J2=fun ks=>ex fun mem':List Nat=>star [prop (F mem'),L,J ks,pts bm (row 36 [pp ip]),pts ba (row 3 [.int .i64 addr]),pts b3 (row 279 [.func (.yield yl) #[] #[]]),Qw ip sp bp,Ql bp ls,ST sp size mem' own]:=⟨_,rfl⟩
 have hin:∀ (ks:List Nat) (mem':List Nat) (w:World) (l':List Q2),F mem'→Q0 w (L::J ks::pts bm (row 36 [pp ip])::pts ba (row 3 [.int .i64 addr])::pts b3 (row 279 [.func (.yield yl) #[] #[]])::Qw ip sp bp::Ql bp ls::ST sp size mem' own::l')→Q0 w (J2 ks::l'):=by
  intro ks mem' w l' h H;rw[hJ2];exact Q0.ex.2 ⟨mem',Q0.star.2 (Q0.prop.2 ⟨h,H⟩)⟩
 have hout:∀ (ks:List Nat) (w:World) (l':List Q2),Q0 w (J2 ks::l')→∃ mem',F mem'∧Q0 w (L::J ks::pts bm (row 36 [pp ip])::pts ba (row 3 [.int .i64 addr])::pts b3 (row 279 [.func (.yield yl) #[] #[]])::Qw ip sp bp::Ql bp ls::ST sp size mem' own::l'):=by
  intro ks w l' H;rw[hJ2] at H;obtain⟨mem',H⟩:=Q0.ex.1 H;exact⟨mem',Q0.prop.1 (Q0.star.1 H)⟩
 replace H:=Js [0,11,11,11,10,7,7,7,1,1,3,3,0] 2 H;replace H:=hin [] mem _ _ hm H;refine call (cZ yl2 b1 b2 _ _ l hR c hz J2 ?_ H) ?_
 ·clear H;intro ks p rest w hpre H;obtain⟨mem',hm',H⟩:=hout _ _ _ H;obtain⟨t,hpre⟩:=hpre;obtain⟨hpn,hpr⟩:=NC hpre
  have hpl:QL l n (p:Int) true=0:=by
   unfold QL;rw[if_neg (by omega),Int.toNat_natCast,if_neg (by rw[hpr];decide)]
  have hyy:=fun (w:World) (rest:List Q2)=>hy ks p mem' rest w hm' ⟨t,hpre⟩;obtain⟨a1,a2,a3,hkv⟩:=Gi (lk p);rw[hkv] at hyy;subst hL;refine Ko (args:=[.int .i64 p]) H rfl rfl ?_;refine VC H ?_;refine⟨rfl,_,H,fun w H=>QS ?_⟩;replace H:=Js [5,5,5,0,0,0,0,0] 0 H;refine Bp H ?_;refine Jv ?_;refine Jc rfl rfl (MO ip sp bp size ls mem' own addr i c s n l (hF _ hm').img p (lk p) (fun _=>by rw[Int.toNat_natCast];exact(hF _ hm').link p hpn hpr) (fun h=>absurd hpl h) H) ?_;clear H;rintro v w ⟨rfl,H⟩;rw[hpl,hkv];refine Vi H ?_;clear H;intro b9 w H;refine J3 H ?_;clear H;intro w H;refine J0 H ?_;replace H:=Js [5,1,1,1,1,1,1,1,0] 0 H;refine Xe H ?_;refine Kz H ?_;refine Q5 rfl (Wb rfl rfl (SL.Yields.mono (hyy _ _ H) ?_));clear H;rintro v w ⟨rfl,mem'',hm'',H⟩;refine Y0 H ?_;replace H:=Js [4,0,3,3,3,0,0,0] 1 H;exact⟨rfl,_,H,fun w H=>⟨rfl,hin _ _ _ _ hm'' H⟩⟩
 ·clear H;rintro v w H;obtain⟨mem',hm',H⟩:=hout _ _ _ H;subst hL;refine⟨_,H,fun w H=>?_⟩;replace H:=Js [11,0,0,0,1,1,1] 5 H;exact Rk (ms:=[D]) _ (.inl rfl) ((Q0.star (k:=[pts D (.deferred (some []))])).2 H) rfl fun w' H'=>⟨mem',hm',H'⟩
end Go.Proofs.YtmjdnljneifpcaaGreatDoor
namespace Go.Proofs.YtmjdnljneifpcaaGreatDoor
open Go.SL
def Y9 (e:Q9) (p:Nat):Vw:=ZZ (e.ws.getD p 0)
theorem cK {s:CS} (h:WF s) {mem:List Nat} (m:VI s mem) {k g:Nat} {e:Q9} (hk:s.tab[k]? = some ⟨g,some e⟩):ND s.lays s.size s.own e.addr e.lay e.count k e.ws.length (QN s e) (Y9 e) mem:=
 ⟨KL h m hk, fun p hp hr => by
  have h1:=Mt h hk hp hr;exact⟨h1.1,by rw[Hj h m hk hp];exact h1.2⟩⟩
end Go.Proofs.YtmjdnljneifpcaaGreatDoor
namespace Go.Proofs.YtmjdnljneifpcaaGreatDoor
open Go.SL
def CB (s:CS) (r:Int×Int) (t:Int):Prop:=∃ (k p g:Nat) (e:Q9) (a b:Nat) (f:Q9),r=((k:Int),(p:Int))∧s.tab[k]? = some ⟨g,some e⟩∧p < e.ws.length∧VV (QN s e) p=true∧Y9 e p = .obj a b∧Qk s.tab a b=some (a,f)∧f.region≠e.region∧t=a
structure Inv (s:CS):Prop where
 nd:(s.rem.map (·.1)).Nodup
 rem:∀ r t,QZ s.rem r=some t↔CB s r t
 link:∀ (k g:Nat) (e:Q9) (p a b:Nat),s.tab[k]? = some ⟨g,some e⟩→p < e.ws.length→VV (QN s e) p=true→Y9 e p = .obj a b→∃ f,Qk s.tab a b=some (a,f)
theorem GM {ts:List QH} {a b c:Nat} {f:Q9} (h:Qk ts a b=some (c,f)):c=a∧ts[a]? = some ⟨b,some f⟩:=by
 obtain⟨n,h1,h2,h3⟩:=Y5.1 h;obtain rfl:c=a:=by omega
 obtain rfl:n=b:=by omega
 exact⟨rfl,h3⟩
structure CC (s:CS) (k g:Nat) (e e':Q9):Prop where
 at':s.tab[k]? = some ⟨g,some e⟩
 region:e'.region=e.region
 lay:e'.lay=e.lay
 len:e'.ws.length=e.ws.length
theorem NE {s:CS} {k g:Nat} {e e':Q9} (h:s.tab[k]? = some ⟨g,some e⟩) (a b:Nat):Qk (VF s k g e').tab a b=(Qk s.tab a b).map fun q=>if q.1=k then (k,e') else q:=by
 have hkl:=(List.getElem?_eq_some_iff.1 h).1;cases hl:Qk s.tab a b with
 | some q=>
  obtain⟨c,f⟩:=q;obtain⟨rfl,hc⟩:=GM hl;by_cases hk:c=k
  ·subst hk;rw[h] at hc;injection hc with hc
   injection hc with h1 h2
   subst h1;show _=some (if c=c then (c,e') else _);rw[if_pos rfl];exact Y5.2 ⟨g,rfl,rfl,List.getElem?_set_self hkl⟩
  ·show _=some (if c=k then (k,e') else (c,f));rw[if_neg hk];exact Y5.2 ⟨b,rfl,rfl,by show (s.tab.set k _)[c]? = _;rw[List.getElem?_set_ne (Ne.symm hk)];exact hc⟩
 | none=>
  show _=none;cases hl2:Qk (VF s k g e').tab a b with
  | none=>rfl
  | some q=>
   obtain⟨c,f⟩:=q;obtain⟨rfl,hc⟩:=GM hl2;have hc:(s.tab.set k ⟨g,some e'⟩)[c]? = some ⟨b,some f⟩:=hc
   rcases Qv hc with ⟨rfl,h2,_⟩|⟨_,h2⟩
   ·injection h2 with h2 _
    subst h2;rw[Y5.2 ⟨b,rfl,rfl,h⟩] at hl;cases hl
   ·rw[Y5.2 ⟨b,rfl,rfl,h2⟩] at hl;cases hl
theorem NF {s:CS} {k g:Nat} {e e':Q9} (h:CC s k g e e') {a b:Nat}:(∃ f,Qk (VF s k g e').tab a b=some (a,f))↔∃ f,Qk s.tab a b=some (a,f):=by
 rw[NE h.at'];constructor
 ·rintro⟨f,hf⟩;rw[Option.map_eq_some_iff] at hf;obtain⟨⟨c,f'⟩,h1,_⟩:=hf;obtain⟨rfl,_⟩:=GM h1;exact⟨f',h1⟩
 ·rintro⟨f,hf⟩;rw[hf];by_cases hk:a=k
  ·exact⟨e',by show some (if a=k then (k,e') else (a,f))=_;rw[if_pos hk,hk]⟩
  ·exact⟨f,by show some (if a=k then (k,e') else (a,f))=_;rw[if_neg hk]⟩
theorem Es {s:CS} {k g:Nat} {e e':Q9} (h:CC s k g e e') {a b:Nat} {P:Int→Prop}:(∃ f,Qk (VF s k g e').tab a b=some (a,f)∧P f.region)↔∃ f,Qk s.tab a b=some (a,f)∧P f.region:=by
 rw[NE h.at'];constructor
 ·rintro⟨f,hf,hp⟩;rw[Option.map_eq_some_iff] at hf;obtain⟨⟨c,f'⟩,h1,h2⟩:=hf;obtain⟨rfl,h3⟩:=GM h1;refine⟨f',h1,?_⟩;by_cases hk:c=k
  ·subst hk;rw[if_pos rfl] at h2;injection h2 with _ h2
   subst h2;rw[h.at'] at h3;injection h3 with h3
   injection h3 with _ h3
   injection h3 with h3
   subst h3;rw[h.region] at hp;exact hp
  ·rw[if_neg hk] at h2;injection h2 with _ h2
   subst h2;exact hp
 ·rintro⟨f,hf,hp⟩;rw[hf];by_cases hk:a=k
  ·subst hk;obtain⟨_,h3⟩:=GM hf;rw[h.at'] at h3;injection h3 with h3
   injection h3 with _ h3
   injection h3 with h3
   subst h3;exact⟨e',by show some (if a=a then (a,e') else (a,e))=_;rw[if_pos rfl],by rw[h.region];exact hp⟩
  ·exact⟨f,by show some (if a=k then (k,e') else (a,f))=_;rw[if_neg hk],hp⟩
theorem NH {s:CS} (hI:Inv s) {k g:Nat} {e e':Q9} (h:CC s k g e e') (hl:∀ p,p < e.ws.length→VV (QN s e) p=true→Y9 e' p=Y9 e p):Inv (VF s k g e'):=by
 have hkl:=(List.getElem?_eq_some_iff.1 h.at').1;have hlay:∀ f,QN (VF s k g e') f=QN s f:=fun _=>rfl;have hle:QN s e'=QN s e:=by unfold QN;rw[h.lay]
 refine⟨hI.nd,fun r t=>?_,?_⟩
 ·show QZ s.rem r=some t↔_;rw[hI.rem];constructor
  ·rintro⟨j,p,g1,e1,a,b,f,rfl,h1,h2,h3,h4,h5,h6,rfl⟩;obtain⟨f',h5',h6'⟩:=(Es (P:=fun r=>r≠e1.region) h).2 ⟨f,h5,h6⟩;by_cases hj:j=k
   ·subst hj;rw[h.at'] at h1;injection h1 with h1
    injection h1 with h0 h1
    injection h1 with h1
    subst h0 h1;exact⟨j,p,g,e',a,b,f',rfl,List.getElem?_set_self hkl,by rw[h.len];exact h2,by rw[hlay,hle];exact h3,by rw[hl p h2 h3];exact h4,h5',by rw[h.region];exact h6',rfl⟩
   ·exact⟨j,p,g1,e1,a,b,f',rfl,by show (s.tab.set k _)[j]? = _;rw[List.getElem?_set_ne (Ne.symm hj)];exact h1,h2,h3,h4,h5',h6',rfl⟩
  ·rintro⟨j,p,g1,e1,a,b,f,rfl,h1,h2,h3,h4,h5,h6,rfl⟩;have h1:(s.tab.set k ⟨g,some e'⟩)[j]? = some ⟨g1,some e1⟩:=h1;obtain⟨f',h5',h6'⟩:=(Es (P:=fun r=>r≠e1.region) h).1 ⟨f,h5,h6⟩
   rcases Qv h1 with ⟨rfl,h7,_⟩|⟨_,h7⟩
   ·injection h7 with h0 h7
    injection h7 with h7
    subst h0 h7;rw[hlay,hle] at h3;rw[h.len] at h2;rw[hl p h2 h3] at h4;rw[h.region] at h6';exact⟨j,p,g1,e,a,b,f',rfl,h.at',h2,h3,h4,h5',h6',rfl⟩
   ·exact⟨j,p,g1,e1,a,b,f',rfl,h7,h2,h3,h4,h5',h6',rfl⟩
 ·intro j g1 e1 p a b h1 h2 h3 h4;have h1:(s.tab.set k ⟨g,some e'⟩)[j]? = some ⟨g1,some e1⟩:=h1;rw[NF h]
  rcases Qv h1 with ⟨rfl,h7,_⟩|⟨_,h7⟩
  ·injection h7 with h0 h7
   injection h7 with h7
   subst h0 h7;rw[hlay,hle] at h3;rw[h.len] at h2;rw[hl p h2 h3] at h4;exact hI.link j g1 e p a b h.at' h2 h3 h4
  ·exact hI.link j g1 e1 p a b h7 h2 h3 h4
end Go.Proofs.YtmjdnljneifpcaaGreatDoor
namespace Go.Proofs.YtmjdnljneifpcaaGreatDoor
open Go.SL
theorem cR {s:CS} {k g:Nat} {e e':Q9} (h:CC s k g e e') {r:Int×Int} {t:Int} (hl:∀ p:Nat,r=((k:Int),(p:Int))→Y9 e' p=Y9 e p):CB (VF s k g e') r t↔CB s r t:=by
 have hkl:=(List.getElem?_eq_some_iff.1 h.at').1;have hlay:∀ f,QN (VF s k g e') f=QN s f:=fun _=>rfl;have hle:QN s e'=QN s e:=by unfold QN;rw[h.lay]
 constructor
 ·rintro⟨j,p,g1,e1,a,b,f,rfl,h1,h2,h3,h4,h5,h6,rfl⟩;have h1:(s.tab.set k ⟨g,some e'⟩)[j]? = some ⟨g1,some e1⟩:=h1;obtain⟨f',h5',h6'⟩:=(Es (P:=fun r=>r≠e1.region) h).1 ⟨f,h5,h6⟩
  rcases Qv h1 with ⟨rfl,h7,_⟩|⟨_,h7⟩
  ·injection h7 with h0 h7
   injection h7 with h7
   subst h0 h7;rw[hlay,hle] at h3;rw[h.len] at h2;rw[hl p rfl] at h4;rw[h.region] at h6';exact⟨j,p,g1,e,a,b,f',rfl,h.at',h2,h3,h4,h5',h6',rfl⟩
  ·exact⟨j,p,g1,e1,a,b,f',rfl,h7,h2,h3,h4,h5',h6',rfl⟩
 ·rintro⟨j,p,g1,e1,a,b,f,rfl,h1,h2,h3,h4,h5,h6,rfl⟩;obtain⟨f',h5',h6'⟩:=(Es (P:=fun r=>r≠e1.region) h).2 ⟨f,h5,h6⟩;by_cases hj:j=k
  ·subst hj;rw[h.at'] at h1;injection h1 with h1
   injection h1 with h0 h1
   injection h1 with h1
   subst h0 h1;exact⟨j,p,g,e',a,b,f',rfl,List.getElem?_set_self hkl,by rw[h.len];exact h2,by rw[hlay,hle];exact h3,by rw[hl p rfl];exact h4,h5',by rw[h.region];exact h6',rfl⟩
  ·exact⟨j,p,g1,e1,a,b,f',rfl,by show (s.tab.set k _)[j]? = _;rw[List.getElem?_set_ne (Ne.symm hj)];exact h1,h2,h3,h4,h5',h6',rfl⟩
theorem I4 {e:Q9} {p q x:Nat} (h:q≠p):Y9 { e with ws:=e.ws.set p x } q=Y9 e q:=by
 unfold Y9;show ZZ ((e.ws.set p x).getD q 0)=_;rw[List.getD_eq_getElem?_getD,List.getElem?_set_ne (Ne.symm h),List.getD_eq_getElem?_getD]
theorem I5 {e:Q9} {p:Nat} {l:Vw} (hl:GK l) (hp:p < e.ws.length):Y9 { e with ws:=e.ws.set p (V9 l) } p=l:=by
 unfold Y9;show ZZ ((e.ws.set p (V9 l)).getD p 0)=_;rw[List.getD_eq_getElem?_getD,List.getElem?_set_self hp,Option.getD_some,Ms hl]
theorem cW {s:CS} (hI:Inv s) {k g p x:Nat} {e:Q9} (hk:s.tab[k]? = some ⟨g,some e⟩) (hr:VV (QN s e) p=false):Inv (VF s k g { e with ws:=e.ws.set p x }):=
 NH (e':={ e with ws:=e.ws.set p x }) hI ⟨hk,rfl,rfl,by show (e.ws.set p x).length=_;rw[List.length_set]⟩ fun q hq hrq=>I4 (by rintro rfl;rw[hr] at hrq;cases hrq)
theorem I6 {s:CS} (hI:Inv s) {k g:Nat} {e e':Q9} (hk:s.tab[k]? = some ⟨g,some e⟩) (h1:e'.region=e.region) (h2:e'.lay=e.lay) (h3:e'.ws=e.ws):Inv (VF s k g e'):=
 NH hI ⟨hk,h1,h2,by rw[h3]⟩ fun q _ _=>by unfold Y9;rw[h3]
theorem NI {s:CS} (h:(s.rem.map (·.1)).Nodup) (k:Nat) (e:Q9) (p:Int) (l:Vw):((Yc s k e p l).map (·.1)).Nodup:=by
 unfold Yc
 repeat' split
 ·exact Cr (Uu h)
 ·exact Uu h
 ·exact Uu h
 ·exact Uu h
theorem I7 {s:CS} (h:(s.rem.map (·.1)).Nodup) {k:Nat} {e:Q9} {p:Int} {l:Vw} {r:Int×Int} (hr:r≠((k:Int),p)):QZ (Yc s k e p l) r=QZ s.rem r:=by
 have h1:QZ (QB s.rem ((k:Int),p)) r=QZ s.rem r:=by rw[XF h,if_neg (Ne.symm hr)]
 unfold Yc
 repeat' split
 ·rw[U9,if_neg (Ne.symm hr),h1]
 ·exact h1
 ·exact h1
 ·exact h1
theorem NJ {s:CS} (h:(s.rem.map (·.1)).Nodup) {k:Nat} {e:Q9} {p:Int} {l:Vw} {t:Int}:QZ (Yc s k e p l) ((k:Int),p)=some t↔∃ (a b:Nat) (f:Q9),l = .obj a b∧Qk s.tab a b=some (a,f)∧f.region≠e.region∧t=a:=by
 have h1:QZ (QB s.rem ((k:Int),p)) ((k:Int),p)=none:=by rw[XF h,if_pos rfl]
 cases l with
 | none=>rw[show Yc s k e p .none=QB s.rem ((k:Int),p) from rfl,h1];exact⟨fun h=>(by cases h),fun ⟨_,_,_,h,_⟩=>(by cases h)⟩
 | grave=>rw[show Yc s k e p .grave=QB s.rem ((k:Int),p) from rfl,h1];exact⟨fun h=>(by cases h),fun ⟨_,_,_,h,_⟩=>(by cases h)⟩
 | obj a b=>
  cases hl:Qk s.tab a b with
  | none=>
   rw[Hs hl,h1];refine⟨fun h=>(by cases h),?_⟩;rintro⟨a',b',f,h2,h3,_⟩;injection h2 with h2 h2'
   subst h2 h2';rw[hl] at h3;cases h3
  | some q=>
   obtain⟨c,f⟩:=q;obtain⟨rfl,_⟩:=GM hl;rw[CZ hl];split
   ·rename_i hne;rw[U9,if_pos rfl];constructor
    ·intro h2;injection h2 with h2
     exact⟨c,b,f,rfl,hl,hne,h2.symm⟩
    ·rintro⟨a',b',f',h2,h3,h4,rfl⟩;injection h2 with h2 h2'
     rw[h2]
   ·rename_i hne;rw[h1];refine⟨fun h=>(by cases h),?_⟩;rintro⟨a',b',f',h2,h3,h4,rfl⟩;injection h2 with h2 h2'
    subst h2 h2';rw[hl] at h3;injection h3 with h3
    injection h3 with _ h3
    subst h3;exact absurd h4 hne
theorem cB {s:CS} (hI:Inv s) {k g p:Nat} {e:Q9} {l:Vw} (hk:s.tab[k]? = some ⟨g,some e⟩) (hp:p < e.ws.length) (hr:VV (QN s e) p=true) (hl:GK l) (ht:∀ a b,l = .obj a b→∃ f,Qk s.tab a b=some (a,f)) :
  Inv { VF s k g { e with ws:=e.ws.set p (V9 l) } with rem:=Yc (VF s k g { e with ws:=e.ws.set p (V9 l) }) k { e with ws:=e.ws.set p (V9 l) } p l }:=by
 have hlen:({ e with ws:=e.ws.set p (V9 l) }:Q9).ws.length=e.ws.length:=by show (e.ws.set p _).length=_;rw[List.length_set]
 have hS:CC s k g e { e with ws:=e.ws.set p (V9 l) }:=⟨hk,rfl,rfl,hlen⟩;have hkl:=(List.getElem?_eq_some_iff.1 hk).1;have hle:QN s { e with ws:=e.ws.set p (V9 l) }=QN s e:=rfl;refine⟨NI (s:=VF s k g _) hI.nd _ _ _ _,fun r t=>?_,?_⟩
 ·show QZ (Yc _ k _ p l) r=some t↔CB (VF s k g _) r t;by_cases hrp:r=((k:Int),(p:Int))
  ·subst hrp;rw[NJ (s:=VF s k g _) hI.nd];constructor
   ·rintro⟨a,b,f,rfl,h1,h2,rfl⟩;exact⟨k,p,g,_,a,b,f,rfl,List.getElem?_set_self hkl,by rw[hlen];exact hp,hr,I5 hl hp,h1,h2,rfl⟩
   ·rintro⟨j,q,g1,e1,a,b,f,hq,h1,h2,h3,h4,h5,h6,rfl⟩;injection hq with hq1 hq2
    obtain rfl:k=j:=by omega
    obtain rfl:p=q:=by omega
    replace h1:(s.tab.set k _)[k]? = some ⟨g1,some e1⟩:=h1;rw[List.getElem?_set_self hkl] at h1;injection h1 with h1
    injection h1 with h0 h1
    injection h1 with h1
    subst h0 h1;rw[I5 hl hp] at h4;exact⟨a,b,f,h4,h5,h6,rfl⟩
  ·rw[I7 (s:=VF s k g _) hI.nd hrp,cR hS fun q hq=>I4 (by rintro rfl;exact hrp hq)];exact hI.rem r t
 ·intro j g1 e1 q a b h1 h2 h3 h4;have h1:(s.tab.set k _)[j]? = some ⟨g1,some e1⟩:=h1;show ∃ f,Qk (VF s k g _).tab a b=_;rw[NF hS]
  rcases Qv h1 with ⟨rfl,h7,_⟩|⟨_,h7⟩
  ·injection h7 with h0 h7
   injection h7 with h7
   subst h0 h7;by_cases hq:q=p
   ·subst hq;rw[I5 hl hp] at h4;exact ht a b h4
   ·rw[I4 hq] at h4;exact hI.link j g1 e q a b hk (by rw[← hlen];exact h2) h3 h4
  ·exact hI.link j g1 e1 q a b h7 h2 h3 h4
theorem NM {s:CS} (hI:Inv s) (i g p:Int) (x:Nat):Inv (UF s i g p x).1:=by
 cases hv:Qm s.tab i g with
 | none=>rw[C6 hv];exact hI
 | some q=>
  obtain⟨k,e⟩:=q;obtain⟨n,rfl,rfl,hk,_⟩:=ZG hv;rw[C7 hv];split
  ·rename_i h0;obtain⟨j,rfl,hj,hr⟩:=Za h0;exact cW hI hk hr
  ·exact hI
theorem cC {s:CS} (hI:Inv s) (i g:Int):Inv (UH s i g).1:=by
 cases hv:Qm s.tab i g with
 | none=>rw[C9 hv];exact hI
 | some q=>
  obtain⟨k,e⟩:=q;obtain⟨n,rfl,rfl,hk,_⟩:=ZG hv;rw[CQ hv,Int.toNat_natCast];exact I6 hI hk rfl rfl rfl
theorem cD {s:CS} (hI:Inv s) (i g:Int) (on:Bool):Inv (UI s i g on).1:=by
 cases hv:Qm s.tab i g with
 | none=>rw[CV hv];exact hI
 | some q=>
  obtain⟨k,e⟩:=q;obtain⟨n,rfl,rfl,hk,_⟩:=ZG hv;rw[CY hv];split
  ·exact hI
  ·rw[Int.toNat_natCast];exact I6 hI hk rfl rfl rfl
theorem NN {s:CS} (hI:Inv s) (i g p:Int) {l:Vw} (hl:GK l) (ht:∀ a b,l = .obj a b→∃ f,Qk s.tab a b=some (a,f)):Inv (GL s i g p l).1:=by
 cases hv:Qm s.tab i g with
 | none=>rw[CG hv];exact hI
 | some q=>
  obtain⟨k,e⟩:=q;obtain⟨n,rfl,rfl,hk,_⟩:=ZG hv;rw[WA hv];split
  ·rename_i h0;obtain⟨j,rfl,hj,hr⟩:=Za h0;exact cB hI hk hj hr hl ht
  ·exact hI
theorem NO {s:CS} (hw:WF s) (hI:Inv s) (i g p u v:Int):Inv (Ym s i g p u v).1:=by
 unfold Ym;split
 ·exact hI
 ·split
  ·exact hI
  ·rename_i _ hn;cases hv:Qm s.tab u v with
   | none=>rw[hv] at hn;exact absurd rfl hn
   | some q=>
    obtain⟨k,e⟩:=q;obtain⟨n,rfl,rfl,hk,_⟩:=ZG hv;refine NN hI i g p (Ht hw hk) fun a b hab=>?_;injection hab with h1 h2
    rw[Int.toNat_natCast] at h1 h2;subst h1 h2;exact⟨e,Y5.2 ⟨n,rfl,rfl,hk⟩⟩
theorem cE {s:CS} (hI:Inv s) (i g p:Int):Inv (ZH s i g p):=by
 unfold ZH;split
 ·rename_i a b _;cases hl:Qk s.tab a b with
  | none=>rw[CU hl];exact hI
  | some q=>
   obtain⟨k,e⟩:=q;obtain⟨n,h1,h2,hk⟩:=Y5.1 hl;obtain rfl:b=n:=by omega
   rw[CX hl];exact I6 hI hk rfl rfl rfl
 ·exact hI
theorem cF {s:CS} (hw:WF s) (hI:Inv s) (x:QJ):Inv { s with lays:=s.lays++[x] }:=by
 have hle:∀ (k g:Nat) (e:Q9),s.tab[k]? = some ⟨g,some e⟩→QN { s with lays:=s.lays++[x] } e=QN s e:=by
  intro k g e hk;obtain⟨⟨_,l,h1,_⟩,_⟩:=hw.obj k g e hk;show ((s.lays++[x])[e.lay - 1]?).getD _=_;unfold QN;rw[List.getElem?_append_left (List.getElem?_eq_some_iff.1 h1).1]
 refine⟨hI.nd,fun r t=>?_,fun j g1 e1 q a b h1 h2 h3 h4=>hI.link j g1 e1 q a b h1 h2 (by rw[hle _ _ _ h1] at h3;exact h3) h4⟩;show QZ s.rem r=some t↔_;rw[hI.rem];constructor
 ·rintro⟨j,p,g1,e1,a,b,f,rfl,h1,h2,h3,h4⟩;exact⟨j,p,g1,e1,a,b,f,rfl,h1,h2,by rw[hle _ _ _ h1];exact h3,h4⟩
 ·rintro⟨j,p,g1,e1,a,b,f,rfl,h1,h2,h3,h4⟩;rw[hle _ _ _ h1] at h3;exact⟨j,p,g1,e1,a,b,f,rfl,h1,h2,h3,h4⟩
theorem cH {s:CS} (hw:WF s) (hI:Inv s) (ws:List Nat):Inv (UJ s ws).1:=by
 cases hd:ZV ws with
 | none=>rw[CK hd];exact hI
 | some l=>
  rw[Ab hd];split
  ·exact hI
  ·exact cF hw hI l
theorem cI {s:CS} (hI:Inv s) (q:Int) (b b2:Nat):Inv (WB s q b b2):=⟨hI.nd,hI.rem,hI.link⟩
theorem NP {s s':CS} (hI:Inv s) {k g0 n:Nat} {e0:Q9} (hk:s.tab[k]? = some ⟨g0,none⟩) (h1:s'.lays=s.lays) (h2:s'.rem=s.rem) (h3:s'.tab=s.tab.set k ⟨g0+1,some e0⟩) (h0:e0.ws=List.replicate n 0):Inv s':=by
 have hkl:=(List.getElem?_eq_some_iff.1 hk).1;have hle:∀ e,QN s' e=QN s e:=fun e=>by unfold QN;rw[h1]
 have hz:∀ p,Y9 e0 p = .none:=fun p=>by
  unfold Y9;rw[h0,List.getD_eq_getElem?_getD,List.getElem?_replicate];split <;> rfl
 have hup:∀ {a b:Nat} {f:Q9},Qk s.tab a b=some (a,f)→Qk s'.tab a b=some (a,f):=fun {a b f} hf=>by
  obtain⟨_,hf'⟩:=GM hf;refine Y5.2 ⟨b,rfl,rfl,?_⟩;rw[h3,List.getElem?_set_ne (by rintro rfl;rw[hk] at hf';cases hf')];exact hf'
 have hat:∀ {j g1:Nat} {e1:Q9},s.tab[j]? = some ⟨g1,some e1⟩→s'.tab[j]? = some ⟨g1,some e1⟩:=fun {j g1 e1} hj=>by
  rw[h3,List.getElem?_set_ne (by rintro rfl;rw[hk] at hj;cases hj)];exact hj
 refine⟨by rw[h2];exact hI.nd,fun r t=>?_,?_⟩
 ·rw[h2,hI.rem];constructor
  ·rintro⟨j,p,g1,e1,a,b,f,rfl,q1,q2,q3,q4,q5,q6,rfl⟩;exact⟨j,p,g1,e1,a,b,f,rfl,hat q1,q2,by rw[hle];exact q3,q4,hup q5,q6,rfl⟩
  ·rintro⟨j,p,g1,e1,a,b,f,rfl,q1,q2,q3,q4,q5,q6,rfl⟩;rw[h3] at q1
   rcases Qv q1 with ⟨rfl,q7,_⟩|⟨_,q7⟩
   ·injection q7 with _ q7
    injection q7 with q7
    subst q7;rw[hz] at q4;cases q4
   ·rw[hle] at q3;obtain⟨f',hf'⟩:=hI.link j g1 e1 p a b q7 q2 q3 q4;have h5:=hup hf';rw[q5] at h5;injection h5 with h5
    injection h5 with _ h5
    subst h5;exact⟨j,p,g1,e1,a,b,f,rfl,q7,q2,q3,q4,hf',q6,rfl⟩
 ·intro j g1 e1 p a b q1 q2 q3 q4;rw[h3] at q1
  rcases Qv q1 with ⟨rfl,q7,_⟩|⟨_,q7⟩
  ·injection q7 with _ q7
   injection q7 with q7
   subst q7;rw[hz] at q4;cases q4
  ·rw[hle] at q3;obtain⟨f',hf'⟩:=hI.link j g1 e1 p a b q7 q2 q3 q4;exact⟨f',hup hf'⟩
theorem NS {s:CS} (h1:s.rem=[]) (h2:∀ (k g:Nat) (e:Q9),s.tab[k]? ≠ some ⟨g,some e⟩):Inv s:=
 ⟨by rw[h1];exact List.nodup_nil,fun r t=>⟨fun h=>(by rw[h1] at h;cases h),fun ⟨k,p,g,e,_,_,_,_,h,_⟩=>absurd h (h2 k g e)⟩,fun k g e _ _ _ h=>absurd h (h2 k g e)⟩
theorem NT {n:Nat} (k g:Nat) (e:Q9):(List.replicate n (⟨0,none⟩:QH))[k]? ≠ some ⟨g,some e⟩:=by
 intro h;rw[List.getElem?_replicate] at h;split at h
 ·injection h with h
  injection h with _ h
  cases h
 ·cases h
end Go.Proofs.YtmjdnljneifpcaaGreatDoor
namespace Go.Proofs.YtmjdnljneifpcaaGreatDoor
open Go.SL
structure Yd (par:List (Int×Int)):Prop where
 nd:(par.map (·.1)).Nodup
 up:∀ r q,QZ par r=some q→0≤q∧q < r∧(q=0∨(QZ par q).isSome=true)
inductive ZX (par:List (Int×Int)) (id:Int):Int→Prop
 | self:ZX par id id
 | kid {c k:Int}:ZX par id k→QZ par c=some k→ZX par id c
theorem ZX.ge {par:List (Int×Int)} (h:Yd par) {id c:Int} (d:ZX par id c):id≤c:=by
 induction d with
 | self=>exact Int.le_refl _
 | kid _ hf ih=>have:=(h.up _ _ hf).2.1;omega
theorem ZX.live {par:List (Int×Int)} {id c:Int} (hid:(QZ par id).isSome=true) (d:ZX par id c):(QZ par c).isSome=true:=by
 cases d with
 | self=>exact hid
 | kid _ hf=>rw[hf];rfl
theorem ZX.inv {par:List (Int×Int)} {id c:Int} (d:ZX par id c):c=id∨∃ k,QZ par c=some k∧ZX par id k:=by
 cases d with
 | self=>exact .inl rfl
 | kid hk hf=>exact .inr ⟨_,hf,hk⟩
structure Uo (par:List (Int×Int)) (id:Int) (l:List Int) (i:Nat):Prop where
 nd:l.Nodup
 le:i≤l.length
 desc:∀ c∈l,ZX par id c
 mem:∀ c,c∈l↔c=id∨∃ k∈l.take i,QZ par c=some k
theorem Uo.start (par:List (Int×Int)) (id:Int):Uo par id [id] 0:=
 ⟨by simp,by simp,fun c hc=>by rw[List.mem_singleton] at hc;subst hc;exact .self,fun c=>by simp⟩
theorem Uo.step {par:List (Int×Int)} (h:Yd par) {id:Int} {l K:List Int} {i:Nat} (b:Uo par id l i) {x:Int} (hx:l[i]? = some x) (hK:K.Nodup) (hm:∀ c,c∈K↔QZ par c=some x):Uo par id (l++K) (i+1):=by
 have hil:=(List.getElem?_eq_some_iff.1 hx).1
 have htk:(l++K).take (i+1)=l.take i++[x]:=by
  rw[List.take_append_of_le_length (by omega),List.take_add_one,hx];rfl
 have hxl:=List.mem_of_getElem? hx
 have hnt:x∉l.take i:=fun hh=>by
  obtain⟨j,hj⟩:=List.getElem?_of_mem hh;rw[List.getElem?_take] at hj;split at hj
  ·rename_i hji;obtain⟨hj1,hj2⟩:=List.getElem?_eq_some_iff.1 hj;obtain⟨_,hx2⟩:=List.getElem?_eq_some_iff.1 hx;exact(List.pairwise_iff_getElem.1 b.nd) j i hj1 hil hji (hj2.trans hx2.symm)
  ·cases hj
 refine⟨?_,by rw[List.length_append];omega,fun c hc=>?_,fun c=>?_⟩
 ·rw[List.nodup_append];refine⟨b.nd,hK,fun a ha c hc hac=>?_⟩;subst hac;have hf:=(hm a).1 hc
  rcases (b.mem a).1 ha with rfl|⟨k,hk,hk2⟩
  ·have:=(b.desc x hxl).ge h;have:=(h.up _ _ hf).2.1;omega
  ·rw[hf] at hk2;injection hk2 with hk2
   subst hk2;exact hnt hk
 ·rcases List.mem_append.1 hc with hc|hc
  ·exact b.desc c hc
  ·exact .kid (b.desc x hxl) ((hm c).1 hc)
 ·rw[htk,List.mem_append,b.mem,hm];constructor
  ·rintro((h1|⟨k,hk,h1⟩)|h1)
   ·exact .inl h1
   ·exact .inr ⟨k,List.mem_append.2 (.inl hk),h1⟩
   ·exact .inr ⟨x,by simp,h1⟩
  ·rintro(h1|⟨k,hk,h1⟩)
   ·exact .inl (.inl h1)
   ·rcases List.mem_append.1 hk with hk|hk
    ·exact .inl (.inr ⟨k,hk,h1⟩)
    ·rw[List.mem_singleton] at hk;subst hk;exact .inr h1
theorem Uo.ends {par:List (Int×Int)} {id:Int} {l:List Int} (b:Uo par id l l.length) (c:Int):c∈l↔ZX par id c:=by
 refine⟨b.desc c,fun d=>?_⟩
 induction d with
 | self=>exact(b.mem _).2 (.inl rfl)
 | kid _ hf ih=>exact(b.mem _).2 (.inr ⟨_,by rw[List.take_length];exact ih,hf⟩)
theorem Uo.len {par:List (Int×Int)} {id:Int} (hid:(QZ par id).isSome=true) {l:List Int} {i:Nat} (b:Uo par id l i):l.length≤par.length:=by
 have:=GC b.nd (l₂:=par.map (·.1)) (fun c hc=>by
  have h1:=(b.desc c hc).live hid;cases hf:QZ par c with
  | none=>rw[hf] at h1;cases h1
  | some q=>exact List.mem_map.2 ⟨(c,q),Ua hf,rfl⟩)
 rwa [List.length_map] at this
end Go.Proofs.YtmjdnljneifpcaaGreatDoor
namespace Go.Proofs.YtmjdnljneifpcaaGreatDoor
open Go.SL
theorem Na {par:List (Int×Int)} (h:Yd par) {last:Nat} {r:Int} (hr:r=0∨(QZ par r).isSome=true) (h0:0≤r) (hl:∀ x q,(x,q)∈par→x≤(last:Int)) (hrl:r≤last):Yd (par++[(((last+1:Nat):Int),r)]):=by
 have hn:((last+1:Nat):Int)∉par.map (·.1):=fun h1=>by
  obtain⟨⟨x,q⟩,h2,h3⟩:=List.mem_map.1 h1;have h3:x=((last+1:Nat):Int):=h3;have:=hl x q h2;omega
 have hf:∀ x,QZ (par++[(((last+1:Nat):Int),r)]) x=if x=((last+1:Nat):Int) then some r else QZ par x:=fun x=>by
  rw[← XE hn,U9];by_cases h1:x=((last+1:Nat):Int)
  ·rw[if_pos h1,if_pos h1.symm]
  ·rw[if_neg h1,if_neg (fun h=>h1 h.symm)]
 have hlive:∀ x,(QZ par x).isSome=true→(QZ (par++[(((last+1:Nat):Int),r)]) x).isSome=true:=fun x h1=>by
  rw[hf];split
  ·rfl
  ·exact h1
 refine⟨?_,fun x q hx=>?_⟩
 ·rw[List.map_append,List.nodup_append];refine⟨h.nd,by simp,fun a ha b hb hab=>?_⟩;simp at hb;subst hab;subst hb;exact hn (by simpa using ha)
 ·rw[hf] at hx;split at hx
  ·injection hx with hx
   subst hx;rename_i h1;exact⟨h0,by omega,hr.imp id (hlive _)⟩
  ·obtain⟨a,b,c⟩:=h.up x q hx;exact⟨a,b,c.imp id (hlive _)⟩
theorem cJ {par:List (Int×Int)} (h:Yd par) {last:Nat} {r:Int} (he:Yz par r=0) (hl:∀ x q,(x,q)∈par→1≤x∧x≤(last:Int)):Yd (par++[(((last+1:Nat):Int),r)]):=by
 have hr:r=0∨(QZ par r).isSome=true:=by
  unfold Yz at he;split at he
  ·cases he
  ·rename_i h1;by_cases h2:r=0
   ·exact .inl h2
   ·cases hf:(QZ par r).isSome with
    | true=>exact .inr rfl
    | false=>exact absurd ⟨h2,hf⟩ h1
 have h0:0≤r∧r≤(last:Int):=by
  rcases hr with h1|h1
  ·omega
  ·obtain⟨⟨x,q⟩,h2,h3⟩:=List.mem_map.1 (WX h1);have h3:x=r:=h3;have:=hl x q h2;omega
 exact Na h hr h0.1 (fun x q hx=>(hl x q hx).2) h0.2
end Go.Proofs.YtmjdnljneifpcaaGreatDoor
namespace Go.SL
section
variable {P:Program} {n:Nat} {r:Option Nat} {ops:Array Oper} {σ:QU} {w:World}
variable {ivs:List (List Nat×(World→Prop))} {T:QU→World→Prop} {f:Nat} {L:Array Bool}
variable {u:TypeId} {p:String} {af:Array Edge} {g:Option (Nat×Bool)} {d:Option Tmp} {x y:Operand}
end
end Go.SL
namespace Go.Proofs.YtmjdnljneifpcaaGreatDoor
open Go.SL
def Ve (ts:List QH):List (Nat×Bool):=ts.map fun t=>(t.gen,t.ent.isSome)
theorem CD {ts:List QH} {k g:Nat} {e e':Q9} (h:ts[k]? = some ⟨g,some e⟩):Ve (ts.set k ⟨g,some e'⟩)=Ve ts:=by
 unfold Ve;rw[List.map_set];apply List.ext_getElem?;intro i;rw[List.getElem?_set];split
 ·rename_i hi;subst hi;have:=(List.getElem?_eq_some_iff.1 h).1;rw[List.getElem?_map,h];simp[this]
 ·rfl
structure CE (s:CS) (m:MS) (told:List (Nat×Nat)) (s':CS) (m':MS) (told':List (Nat×Nat)):Prop where
 P:m'.P.length≤m.P.length+1
 objs:m'.objs.length≤m.objs.length+1
 tab:(told'=told∧Ve s'.tab=Ve s.tab)∨∃ k g0:Nat,told'=told++[(k,g0+1)]∧s.tab[k]? = some ⟨g0,none⟩∧(∀ (j:Nat) (t:QH),j < k→s.tab[j]? = some t→busy t=true)∧Ve s'.tab=(Ve s.tab).set k (g0+1,true)
 inv:Inv s→Inv s'
 tree:Yd s.par→Yd s'.par:=by exact id
 part:Vt s→Vt s':=by exact id
def I8 (s:CS) (region id count:Int) (i g e:Nat) (s':CS):Prop:=
 (ZI s region id count≠0∧i=0∧g=0∧e=ZI s region id count∧s'=s) ∨
 (ZI s region id count=0∧(∀ t∈s.tab,busy t=true)∧i=0∧g=0∧e=12∧s'=s) ∨
 (ZI s region id count=0∧(∀ a,a+(YX s id count / s.size+1)≤s.own.length→∃ i,a≤i∧i < a+(YX s id count / s.size+1)∧s.own.getD i 0≠0)∧i=0∧g=0∧e=11∧s'=s) ∨
 (ZI s region id count = 0 ∧ e = 0 ∧ ∃ g0 addr, s.tab[i]? = some ⟨g0, none⟩ ∧ g0 ≤ 254 ∧ (∀ (j : Nat) (t : QH), j < i → s.tab[j]? = some t → busy t = true) ∧ g = g0 + 1 ∧
  s'.size=s.size∧s'.lays=s.lays∧s'.last=s.last∧s'.par=s.par∧s'.rem=s.rem∧s'.tab=s.tab.set i ⟨g0+1,some ⟨addr,region,true,false,id.toNat,count.toNat,List.replicate (YX s id count) 0⟩⟩∧Eo s.own s'.own (YX s id count / s.size+1)∧(Vt s→Vt s'))
theorem cM (x y:Int×Int):(if YV BinOp.eql=true then decide (x=y) else !decide (x=y))=decide (x=y):=if_pos rfl
theorem Et [Q4] (p:Nat) (s:CS) (region id count:Int) {w:World} {fr:List Q2} [hT:YN 0 Lib.deBruijn64tab fr] (H:Q0 w (QR p s::fr)) :
  Calls Tryz.prog 31 #[pp p,.int .i64 region,.int .i64 id,.int .i64 count] w (ret fun v w'=>∃ i g e s',v = .tuple #[X8 i g,.int .i64 (e:Nat)]∧I8 s region id count i g e s'∧Q0 w' (QR p s'::fr)):=by
 refine call (bA p s region id count H) ?_;rintro v w (⟨h1,rfl,H⟩|⟨h1,h2,rfl,H⟩|⟨h1,h2,rfl,H⟩|⟨h1,k,g0,addr,s',h2,h3,h4,rfl,h5,h6,h7,h8,h9,h10,h11,h12,H⟩)
 ·exact⟨0,0,ZI s region id count,s,rfl,.inl ⟨h1,rfl,rfl,rfl,rfl⟩,H⟩
 ·exact⟨0,0,12,s,rfl,.inr (.inl ⟨h1,h2,rfl,rfl,rfl,rfl⟩),H⟩
 ·exact⟨0,0,11,s,rfl,.inr (.inr (.inl ⟨h1,h2,rfl,rfl,rfl,rfl⟩)),H⟩
 ·exact⟨k,g0+1,0,s',rfl,.inr (.inr (.inr ⟨h1,rfl,g0,addr,h2,h3,h4,rfl,h5,h6,h7,h8,h9,h10,h11,h12⟩)),H⟩
theorem cN [Q4] (p c mo:Nat) (a:Option Addr) (cap:Nat) (s:CS) (m:MS) (told:List (Nat×Nat)) (R:Rel s m told) (hfew:m.objs.length < 100000) (k A B C X i g:Int) (kX:IntKind) (vW:Value) (raw:Bool) (hvW:vW.oneCell'=true) {w:World} {fr:List Q2} [hT:YN 0 Lib.deBruijn64tab fr]
  (H:Q0 w (Y6 p c mo (.slice a told.length cap)::QR c s::Qo mo m::VW (.slice a told.length cap) told::fr)) :
  Calls Tryz.prog 163 #[pp p,.agg #[.int .i64 k,.int .i64 A,.int .i64 B,.int .i64 C,.int .u64 X,vW,.bool raw,.int .i64 i,.int .i64 g]] w (ret fun v w'=>v = .bool true∧∃ s' m' told' a' cap',Rel s' m' told'∧CE s m told s' m' told'∧Q0 w' (Y6 p c mo (.slice a' told'.length cap')::QR c s'::Qo mo m'::VW (.slice a' told'.length cap') told'::fr)):=by
 refine QQ Tryz.func163 rfl (by kernel_rfl) ?_;refine J6 H ?_;clear H;intro b3 w H;refine Y1 H ?_;refine Qn (fun ms σ w=>ms=[]∧∃ (b5 i' g' e:Nat) (s':CS),I8 s A B C i' g' e s'∧σ 0=pp p∧σ 3=pp b3∧σ 5=pp b5∧σ 6 = .int .i64 e∧Q0 w (pts b5 (row 69 [.int .i64 i',.int .i64 g'])::pts b3 (row 93 [.int .i64 k,.int .i64 A,.int .i64 B,.int .i64 C,.int .u64 X,vW,.bool raw,.int .i64 i,.int .i64 g])::Y6 p c mo (.slice a told.length cap)::QR c s'::Qo mo m::VW (.slice a told.length cap) told::fr)) ?_ ?_
 ·replace H:=Js [2,0,0,0,0] 0 H;refine J1 H ?_;clear H;intro w H;refine YT H ?_;refine Jl 3 [10,15] H ?_;refine Jf 4 ?_;refine Jl 5 [10,15] H ?_;refine Jf 6 ?_;refine Jl 7 [10,15] H ?_;refine Jf 8 ?_;refine Jl 9 [10,15] H ?_;refine Jw 10 14 H rfl rfl (V2 (a:=[]) (b:=[]) rfl rfl (call (Et c s A B C H) ?_)) (Vu H rfl ?_)
  ·clear H;rintro v w ⟨i',g',e,s',rfl,hM,H⟩;refine Ja 11 ?_;refine Xc H ?_;refine Jo 14 H ?_;refine Vu H rfl ?_;clear H;intro b5 w H;refine Jo 15 H ?_;refine Gx H ?_;clear H;intro w H;refine Ja 16 ?_;refine Jx H ?_;replace H:=Js [0,1,1,0,0,0] 0 H;exact⟨rfl,rfl,b5,i',g',e,s',hM,rfl,rfl,rfl,rfl,H⟩
  ·clear H;intro b5 w H;refine Jo 10 H ?_;refine Jk rfl rfl (Et c s A B C H.swap) ?_;clear H;rintro v w ⟨i',g',e,s',rfl,hM,H⟩;refine Ja 11 ?_;refine Xc H ?_;refine Jo 15 H ?_;refine Gx H ?_;clear H;intro w H;refine Ja 16 ?_;refine Jx H ?_;replace H:=Js [1,1,1,0,0,0] 0 H;exact⟨rfl,rfl,b5,i',g',e,s',hM,rfl,rfl,rfl,rfl,H⟩
 clear H;rintro ms σ w ⟨rfl,b5,i',g',e,s',hM,g0,g3,g5,g6,H⟩;rw[Q1 g0,Q1 g3,Q1 g5,Q1 g6];obtain⟨hm1,hm2⟩:=I0 R A B C;replace H:=Js [4,0,0,0,0,0] 0 H;refine J1 H ?_;clear H;intro w H;refine YT H ?_;refine Jl 3 [10] H ?_;refine Jf 4 ?_;refine Jl 5 [10] H ?_;refine Jf 6 ?_;refine Jl 7 [10] H ?_;refine Jf 8 ?_;refine Jl 9 [10] H ?_;refine Jo 10 H ?_;refine Jk rfl rfl (Mo mo m A B C H) ?_;clear H;rintro v w ⟨rfl,H⟩;refine Ja 11 ?_;refine BZ H ?_;refine GV H ?_
 rcases hM with ⟨h1,rfl,rfl,rfl,rfl⟩|⟨h1,h2,rfl,rfl,rfl,rfl⟩|⟨h1,h2,rfl,rfl,rfl,rfl⟩|⟨h1,rfl,g0',addr,h2,h3,h4,rfl,h5,h6,h7,h8,h9,h10,h11,h12⟩
 ·have hw':(Vj m A B C).2≠0:=by rw[← hm1];exact h1
  refine V8 H ?_;rw[show ((((Vj m A B C).2:Nat):Int) != 0)=true by rw[bne_iff_ne];omega];refine E7 H ?_;rw[show ((((ZI s' A B C:Nat):Int)) == (((Vj m A B C).2:Nat):Int))=true by rw[hm1];exact beq_self_eq_true _];refine Jv ?_;refine Bn H ?_;refine Qe rfl rfl rfl (FF rfl rfl (.inl rfl) rfl ?_);refine J2 H ?_;replace H:=Js [3,3,0,2] 2 H;exact Q3 (Jy H rfl fun w' H'=>⟨rfl,s',m,told,a,cap,R,⟨by omega,by omega,.inl ⟨rfl,rfl⟩,id,id,id⟩,H'⟩)
 ·have hw':(Vj m A B C).2=0:=by rw[← hm1];exact h1
  rw[hw'];refine A3 H ?_;refine X4 H ?_;replace H:=Js [4,0,0,0,0,0] 0 H;obtain⟨q,mem,hw,hm,H⟩:=Vs H;replace H:=Js [4,0,0,0,0,0,0,0,0,0,0,0,0,0,0,0] 0 H;refine E6 H ?_;refine Jc rfl rfl (Mp q.tp s'.tab H) ?_;clear H;rintro v w ⟨rfl,H⟩
  have hbt:s'.tab.length - Gk s'.tab=0:=by
   unfold Gk;rw[List.filter_eq_self.2 h2,Nat.sub_self]
  rw[hbt];refine YS H ?_;refine Bn H ?_;refine Qe rfl rfl rfl (FF rfl rfl (.inl rfl) rfl ?_);refine J2 H ?_;replace H:=Js [1,1,1,1,0,0,0,0,0,0,0,0,0,0,0,0] 0 H;replace H:=VG hw hm H;replace H:=Js [4,0,0,2] 2 H;exact Q3 (Jy H rfl fun w' H'=>⟨rfl,s',m,told,a,cap,R,⟨by omega,by omega,.inl ⟨rfl,rfl⟩,id,id,id⟩,H'⟩)
 ·have hw':(Vj m A B C).2=0:=by rw[← hm1];exact h1
  have hn:=hm2 hw';rw[hw',← hn];refine A3 H ?_;refine Bq H ?_;refine X4 H ?_;replace H:=Js [4,0,0,0,0,0] 0 H;obtain⟨q,mem,hw,hm,H⟩:=Vs H;replace H:=Js [3,0,0,0,0,0,0,0,0,0,0,0,0,0,0,0] 0 H;refine E6 H ?_;refine Jc rfl rfl (EF q.sp s'.size mem s'.own H) ?_;clear H;rintro v w ⟨rfl,H⟩;replace H:=Js [1,1,1,0,0,0,0,0,0,0,0,0,0,0,0,0] 0 H;replace H:=VG hw hm H;refine J0 H ?_;replace H:=Js [4,0,0,0,0,0] 0 H;have hsz:=hw.size;have hpos:s'.size > 0:=by omega
  have hmx:(if (1:Int) > ((s'.size:Nat):Int) then (1:Int) else ((s'.size:Nat):Int))=((s'.size:Nat):Int):=by split <;> omega
  have hnlt:YX s' B C < 100000:=by
   obtain⟨r,la,c',l,_,_,_,_,_,e1,e2,e3⟩:=Ei hw';rw[hn,e1,e2];show l.fixed+c'*l.record < _;omega
  refine J1 H ?_;clear H;intro w H;refine VM 0 [9,12] H rfl (Q8.none rfl) rfl (by repeat first|exact .nil _|apply QY.cons rfl) (by kernel_rfl) ?_;refine G9 1 rfl (Q8.none rfl) rfl (by kernel_rfl) ?_;refine Pc 2 rfl (Q8.none rfl) rfl rfl (.inl rfl) (by kernel_rfl) ?_;rw[cM,decide_eq_true (show (((0:Nat):Int),((0:Nat):Int))=((0:Int),(0:Int)) from rfl)];refine Ja 3 ?_;refine Ug H ?_;rw[show decide ((s'.size:Int) > 0)=true from decide_eq_true (by omega)];refine Ja 6 ?_;refine Ja 7 ?_;refine Ja 8 ?_;refine Ja 10 ?_;refine Ja 11 ?_;refine Jw 9 12 H rfl rfl (V2 (a:=[]) (b:=[]) rfl rfl (call (NK p c mo _ s' H) ?_)) (Fg rfl rfl rfl ?_)
  ·clear H;rintro v w ⟨bb,rfl,hfr,H⟩
   have hlt:bb < YX s' B C / s'.size+1:=by
    refine Nat.lt_of_not_le fun hle=>?_;obtain⟨a0,ha,hz⟩:=hfr;obtain⟨i0,hi1,hi2,hi3⟩:=h2 a0 (by omega);exact hi3 (hz i0 hi1 (by omega))
   have hdl:YX s' B C / s'.size≤YX s' B C:=Nat.div_le_self _ _;refine Jo 12 H ?_;refine Fg rfl rfl rfl ?_;rw[hmx]
   refine Gb (v := .int .i64 ((YX s' B C / s'.size:Nat):Int)) 13 rfl (Q8.of rfl rfl rfl) (by
    show (if IntKind.i64=IntKind.i64 then (if ((s'.size:Nat):Int)=0 then none else some (Value.int IntKind.i64 (IntKind.i64.wrap (Int.tdiv ((YX s' B C:Nat):Int) ((s'.size:Nat):Int))))) else none)=_;rw[if_pos rfl,if_neg (by omega),WQ (by omega)]) (by kernel_rfl) ?_
   refine Ja 14 ?_;rw[Qb (by omega)];refine Ja 15 ?_;rw[show decide ((bb:Int) < ((YX s' B C / s'.size+1:Nat):Int))=true from decide_eq_true (by omega)];refine Ja 16 ?_;refine Ja 17 ?_;refine Jx H ?_;replace H:=Js [0,0,0,2] 2 H;exact Q3 (Jy H rfl fun w' H'=>⟨rfl,s',m,told,a,cap,R,⟨by omega,by omega,.inl ⟨rfl,rfl⟩,id,id,id⟩,H'⟩)
  ·rw[hmx];have hdl:YX s' B C / s'.size≤YX s' B C:=Nat.div_le_self _ _
   refine Gb (v := .int .i64 ((YX s' B C / s'.size:Nat):Int)) 13 rfl (Q8.of rfl rfl rfl) (by
    show (if IntKind.i64=IntKind.i64 then (if ((s'.size:Nat):Int)=0 then none else some (Value.int IntKind.i64 (IntKind.i64.wrap (Int.tdiv ((YX s' B C:Nat):Int) ((s'.size:Nat):Int))))) else none)=_;rw[if_pos rfl,if_neg (by omega),WQ (by omega)]) (by kernel_rfl) ?_
   refine Ja 14 ?_;rw[Qb (by omega)];refine Jo 9 H ?_;refine Jk rfl rfl (NK p c mo _ s' H) ?_;clear H;rintro v w ⟨bb,rfl,hfr,H⟩
   have hlt:bb < YX s' B C / s'.size+1:=by
    refine Nat.lt_of_not_le fun hle=>?_;obtain⟨a0,ha,hz⟩:=hfr;obtain⟨i0,hi1,hi2,hi3⟩:=h2 a0 (by omega);exact hi3 (hz i0 hi1 (by omega))
   refine Ja 15 ?_;rw[show decide ((bb:Int) < ((YX s' B C / s'.size+1:Nat):Int))=true from decide_eq_true (by omega)];refine Ja 16 ?_;refine Ja 17 ?_;refine Jx H ?_;replace H:=Js [0,0,0,2] 2 H;exact Q3 (Jy H rfl fun w' H'=>⟨rfl,s',m,told,a,cap,R,⟨by omega,by omega,.inl ⟨rfl,rfl⟩,id,id,id⟩,H'⟩)
 ·have hw':(Vj m A B C).2=0:=by rw[← hm1];exact h1
  rw[hw'];obtain⟨_,_,_,_,_,_,_,hmw,_⟩:=id (Zb H);obtain⟨hnew,R'⟩:=NG R hmw hw' h2 h6 h7 h8 h10;have htl:told.length < 100000:=by rw[R.len];exact hfew
  refine A3 H ?_;refine Bq H ?_;refine Bq H ?_;refine Y0 H ?_;replace H:=Js [3,0,0,0,0,0] 0 H;refine Ya H ?_;refine UK H ?_;replace H:=Js [5,2,2,0,1,0] 0 H;refine GV H ?_;refine Qj (fun ms σ w q=>ms=[]∧∃ j:Nat,j≤told.length∧q=told.length - j∧σ 0=pp p∧σ 3=pp b3∧σ 5=pp b5∧σ 102 = .slice a told.length cap∧σ 103 = .int .i64 told.length∧σ 104 = .int .i64 j∧Q0 w (VW (.slice a told.length cap) told::pts b5 (row 69 [.int .i64 (i':Nat),.int .i64 ((g0'+1:Nat):Int)])::pts b3 (row 93 [.int .i64 k,.int .i64 A,.int .i64 B,.int .i64 C,.int .u64 X,vW,.bool raw,.int .i64 i,.int .i64 g])::Y6 p c mo (.slice a told.length cap)::QR c s'::Qo mo m::fr)) (m:=told.length) ⟨rfl,0,by omega,rfl,rfl,rfl,rfl,rfl,rfl,rfl,H⟩ ?_;clear H;rintro ms σ w q ⟨rfl,j,hj,rfl,g0,g3,g5,g102,g103,g104,H⟩;rw[Q1 g0,Q1 g3,Q1 g5,Q1 g102,Q1 g103,Q1 g104];refine J7 H ?_;refine Qf rfl (fun h=>QW ?_) (fun h=>Qp ?_)
  ·have hlt:j < told.length:=by omega
   have hn:=List.getElem?_eq_getElem hlt;generalize told[j]=xy at hn;obtain⟨x,y⟩:=xy;obtain⟨bT,sT,rfl,H,hcl⟩:=Qx H (by omega);refine YY H ?_;refine Jd ?_;refine Q5 rfl (VH H rfl (Ka hn) rfl ?_);refine VZ H ?_;clear H;intro b11 w H;refine J3 H ?_;clear H;intro w H;refine E5 H ?_;refine Q6 ?_;replace H:=hcl _ _ H.drop;refine Qf (p:=((x:Int),(y:Int))=(((i':Nat):Int),((g0'+1:Nat):Int))) rfl (fun he=>?_) (fun he=>QW ?_)
   ·exfalso;injection he with e1 e2
    obtain rfl:x=i':=by omega
    obtain rfl:y=g0'+1:=by omega
    exact hnew j hn
   ·refine J4 H ?_;exact⟨_,⟨rfl,j+1,hlt,rfl,rfl,rfl,rfl,rfl,rfl,Qb (by omega),H⟩,by omega⟩
  ·replace H:=Js [5,0,0,0,0,0] 0 H;refine J1 H ?_;clear H;intro w H;refine YT H ?_;refine Jl 3 [10] H ?_;refine Jf 4 ?_;refine Jl 5 [10] H ?_;refine Jf 6 ?_;refine Jl 7 [10] H ?_;refine Jf 8 ?_;refine Jl 9 [10] H ?_;refine Jo 10 H ?_;refine Jk rfl rfl (aK mo m A B C hw' hfew H) ?_;clear H;rintro v w ⟨rfl,H⟩;refine Jx H ?_;replace H:=Js [1,1,2,0,0,0] 0 H;refine J1 H ?_;clear H;intro w H;refine W3 H ?_;refine Jl 4 [7,10] H ?_;refine Fo H ?_;refine Jo 6 H ?_;refine Rt H ?_;clear H;intro bS w H;replace H:=H.swap;refine Jo 7 H ?_;refine YC H rfl rfl (by repeat first|exact .nil _|apply QY.cons rfl) rfl (by decide) (by rw[Ra];simp only[List.length_cons,List.length_nil];omega) rfl rfl ?_;clear H;intro vS w H
   have e1:ZU told++[.int .i64 ((i':Nat):Int),.int .i64 ((g0'+1:Nat):Int)]=ZU (told++[(i',g0'+1)]):=by
    rw[I2];rfl
   rw[e1] at H;obtain⟨aS,cS,rfl⟩:=QD H (m:=(told++[(i',g0'+1)]).length) (Ra _) (by decide);refine Ja 8 ?_;refine Jf 9 ?_;refine Jo 10 H ?_;refine Uh H ?_;clear H;intro w H;refine BD H ?_;replace H:=Js [3,5,3,0] 3 H;refine Q3 (Jy H rfl fun w' H'=>⟨rfl,s',_,_,aS,cS,R',⟨?_,?_,.inr ⟨i',g0',rfl,h2,h4,?_⟩,fun hI=>NP hI h2 h6 h9 h10 rfl,fun hT=>by rw[h8];exact hT,h12⟩,H'⟩)
   ·show m.P.length≤_;omega
   ·show (m.objs++[_]).length≤_;simp
   ·rw[h10];unfold Ve;rw[List.map_set];rfl
end Go.Proofs.YtmjdnljneifpcaaGreatDoor
namespace Go.Proofs.YtmjdnljneifpcaaGreatDoor
open Go.SL
theorem Nb (s:CS) (i g p:Int) (x:Nat):Ve (UF s i g p x).1.tab=Ve s.tab:=by
 cases hv:Qm s.tab i g with
 | none=>rw[C6 hv]
 | some q=>
  obtain⟨k,e⟩:=q;obtain⟨n,rfl,rfl,hk,_⟩:=ZG hv;rw[C7 hv];split
  ·rw[Int.toNat_natCast];exact CD hk
  ·rfl
theorem cP (s:CS) (i g:Int):Ve (UH s i g).1.tab=Ve s.tab:=by
 cases hv:Qm s.tab i g with
 | none=>rw[C9 hv]
 | some q=>
  obtain⟨k,e⟩:=q;obtain⟨n,rfl,rfl,hk,_⟩:=ZG hv;rw[CQ hv,Int.toNat_natCast];exact CD hk
theorem cT (s:CS) (i g:Int) (on:Bool):Ve (UI s i g on).1.tab=Ve s.tab:=by
 cases hv:Qm s.tab i g with
 | none=>rw[CV hv]
 | some q=>
  obtain⟨k,e⟩:=q;obtain⟨n,rfl,rfl,hk,_⟩:=ZG hv;rw[CY hv];split
  ·rfl
  ·rw[Int.toNat_natCast];exact CD hk
theorem Nc (s:CS) (i g p:Int) (l:Vw):Ve (GL s i g p l).1.tab=Ve s.tab:=by
 cases hv:Qm s.tab i g with
 | none=>rw[CG hv]
 | some q=>
  obtain⟨k,e⟩:=q;obtain⟨n,rfl,rfl,hk,_⟩:=ZG hv;rw[WA hv];split
  ·rw[Int.toNat_natCast];exact CD hk
  ·rfl
theorem Nd (s:CS) (i g p u v:Int):Ve (Ym s i g p u v).1.tab=Ve s.tab:=by
 unfold Ym;split
 ·rfl
 ·split
  ·rfl
  ·exact Nc s i g p _
theorem cd (s:CS) (i g p:Int):Ve (ZH s i g p).tab=Ve s.tab:=by
 unfold ZH;split
 ·rename_i a b _;cases hl:Qk s.tab a b with
  | none=>rw[CU hl]
  | some q=>
   obtain⟨k,e⟩:=q;obtain⟨n,h1,h2,hk⟩:=Y5.1 hl;obtain rfl:b=n:=by omega
   rw[CX hl];exact CD hk
 ·rfl
theorem ce (s:CS) (ws:List Nat):Ve (UJ s ws).1.tab=Ve s.tab:=by
 cases hd:ZV ws with
 | none=>rw[CK hd]
 | some l=>
  rw[Ab hd];split <;> rfl
theorem Ae (m:MS) (k:Nat) (x:QI):(Yl m k x).objs.length=m.objs.length:=List.length_set
theorem Nf (m:MS) (o p:Int):(UD m o p).1.objs.length=m.objs.length∧(UD m o p).1.P=m.P:=by
 unfold UD;split
 ·exact⟨rfl,rfl⟩
 ·split
  ·exact⟨Ae _ _ _,rfl⟩
  ·exact⟨rfl,rfl⟩
theorem Ng (m:MS) (o p u:Int):(Yb m o p u).1.objs.length=m.objs.length∧(Yb m o p u).1.P=m.P:=by
 unfold Yb;split
 ·exact⟨rfl,rfl⟩
 ·split
  ·split
   ·exact⟨rfl,rfl⟩
   ·exact⟨Ae _ _ _,rfl⟩
  ·exact⟨rfl,rfl⟩
theorem Nh (m:MS) (o:Int):(GH m o).1.objs.length=m.objs.length∧(GH m o).1.P=m.P:=by
 unfold GH;split
 ·exact⟨rfl,rfl⟩
 ·exact⟨Ae _ _ _,rfl⟩
theorem Ni (m:MS) (o:Int) (on:Bool):(GI m o on).1.objs.length=m.objs.length∧(GI m o on).1.P=m.P:=by
 unfold GI;split
 ·exact⟨rfl,rfl⟩
 ·split
  ·exact⟨rfl,rfl⟩
  ·exact⟨Ae _ _ _,rfl⟩
theorem cj (m:MS) (t:Nat):(Xo m t).objs.length=m.objs.length∧(Xo m t).P=m.P:=by
 unfold Xo;split
 ·exact⟨Ae _ _ _,rfl⟩
 ·exact⟨rfl,rfl⟩
theorem Nj (m:MS) (o p:Int):(YU m o p).1.objs.length=m.objs.length∧(YU m o p).1.P=m.P:=by
 unfold YU;split
 ·exact⟨rfl,rfl⟩
 ·split
  ·show (if _ then _ else _:MS).objs.length=_∧(if _ then _ else _:MS).P=_;split
   ·exact cj m _
   ·exact⟨rfl,rfl⟩
  ·exact⟨rfl,rfl⟩
theorem cm (m:MS) (o p:Int) (X:Nat):(KT m o p X).objs.length=m.objs.length∧(KT m o p X).P=m.P:=by
 unfold KT;split
 ·exact⟨rfl,rfl⟩
 ·split
  ·exact⟨Ae _ _ _,rfl⟩
  ·exact⟨rfl,rfl⟩
theorem Nk (m:MS) (ws:List Nat):(ZD m ws).1.objs=m.objs∧(ZD m ws).1.P=m.P:=by
 unfold ZD;split
 ·exact⟨rfl,rfl⟩
 ·split <;> exact⟨rfl,rfl⟩
theorem Nl (s:CS) (i g p:Int) (x:Nat):Vx s (UF s i g p x).1:=by
 cases hv:Qm s.tab i g with
 | none=>rw[C6 hv];exact Vx.refl s
 | some q=>
  obtain⟨k,e⟩:=q;obtain⟨n,rfl,rfl,hk,_⟩:=ZG hv;rw[C7 hv];split
  ·rw[Int.toNat_natCast];exact Vx.set (e':={ e with ws:=e.ws.set p.toNat x }) hk ⟨rfl,rfl,List.length_set⟩ s.rem
  ·exact Vx.refl s
theorem cn (s:CS) (i g:Int):Vx s (UH s i g).1:=by
 cases hv:Qm s.tab i g with
 | none=>rw[C9 hv];exact Vx.refl s
 | some q=>
  obtain⟨k,e⟩:=q;obtain⟨n,rfl,rfl,hk,_⟩:=ZG hv;rw[CQ hv,Int.toNat_natCast];exact Vx.set (e':={ e with held:=false }) hk ⟨rfl,rfl,rfl⟩ s.rem
theorem cp (s:CS) (i g:Int) (on:Bool):Vx s (UI s i g on).1:=by
 cases hv:Qm s.tab i g with
 | none=>rw[CV hv];exact Vx.refl s
 | some q=>
  obtain⟨k,e⟩:=q;obtain⟨n,rfl,rfl,hk,_⟩:=ZG hv;rw[CY hv];split
  ·exact Vx.refl s
  ·rw[Int.toNat_natCast];exact Vx.set (e':={ e with pinned:=on }) hk ⟨rfl,rfl,rfl⟩ s.rem
theorem Nm (s:CS) (i g p:Int) (l:Vw):Vx s (GL s i g p l).1:=by
 cases hv:Qm s.tab i g with
 | none=>rw[CG hv];exact Vx.refl s
 | some q=>
  obtain⟨k,e⟩:=q;obtain⟨n,rfl,rfl,hk,_⟩:=ZG hv;rw[WA hv];split
  ·rw[Int.toNat_natCast];exact Vx.set (e':={ e with ws:=e.ws.set p.toNat (V9 l) }) hk ⟨rfl,rfl,List.length_set⟩ _
  ·exact Vx.refl s
theorem cz (s:CS) (i g p u v:Int):Vx s (Ym s i g p u v).1:=by
 unfold Ym;split
 ·exact Vx.refl s
 ·split
  ·exact Vx.refl s
  ·exact Nm s i g p _
theorem d5 (s:CS) (i g p:Int):Vx s (ZH s i g p):=by
 unfold ZH;split
 ·rename_i a b _;cases hl:Qk s.tab a b with
  | none=>rw[CU hl];exact Vx.refl s
  | some q=>
   obtain⟨k,e⟩:=q;obtain⟨n,h1,h2,hk⟩:=Y5.1 hl;obtain rfl:b=n:=by omega
   rw[CX hl];exact Vx.set (e':={ e with held:=true }) hk ⟨rfl,rfl,rfl⟩ s.rem
 ·exact Vx.refl s
theorem Nn (s:CS) (ws:List Nat):Vx s (UJ s ws).1:=by
 cases hd:ZV ws with
 | none=>rw[CK hd];exact Vx.refl s
 | some l=>
  rw[Ab hd];split
  ·exact Vx.refl s
  ·exact⟨rfl,rfl,rfl,fun k g e h=>⟨e,h,rfl,rfl,rfl⟩⟩
theorem d6 (s:CS) (q:Int) (b b2:Nat) (hP:Vt s):Vt (WB s q b b2):=fun k g e hk=>by
 obtain⟨x,x1,x2,x3⟩:=hP k g e hk;exact⟨x,List.mem_append.2 (.inl x1),x2,x3⟩
theorem U4 {s s':CS} {m m':MS} {told:List (Nat×Nat)} (h1:m'.objs.length=m.objs.length) (h2:m'.P=m.P) (h3:Ve s'.tab=Ve s.tab) (h4:Inv s→Inv s':=by exact id) (h5:Vx s s':=by exact Vx.refl _):CE s m told s' m' told:=⟨by rw[h2];omega,by omega,.inl ⟨rfl,h3⟩,h4,fun h=>by rw[h5.par];exact h,h5.part⟩
end Go.Proofs.YtmjdnljneifpcaaGreatDoor
namespace Go.Proofs.YtmjdnljneifpcaaGreatDoor
open Go.SL
theorem GN (x:Int):(x == x)=true:=beq_self_eq_true x
theorem d7 [Q4] (p:Nat) (s:CS) (m:MS) (told:List (Nat×Nat)) (R:Rel s m told) (hfew:m.objs.length < 100000) (hP:m.P.length < 100000) (k A B C i g:Int) (X:Nat) (hX:X < 18446744073709551616) (vW:Value) (ws:List Nat) (hws:∀ x∈ws,x < 18446744073709551616) (raw:Bool)
  {w:World} {fr:List Q2} [hT:YN 0 Lib.deBruijn64tab fr] (hrW:Vm fr vW ws.length 1 (QP ws)) (H:Q0 w (UN p s m told::fr)) :
  Calls Tryz.prog 100 #[pp p,.agg #[.int .i64 k,.int .i64 A,.int .i64 B,.int .i64 C,.int .u64 X,vW,.bool raw,.int .i64 i,.int .i64 g]] w (ret fun v w'=>v = .bool true∧∃ s' m' told',Rel s' m' told'∧CE s m told s' m' told'∧Q0 w' (UN p s' m' told'::fr)):=by
 obtain⟨_,adW,capW,rfl,_⟩:=id hrW;obtain⟨c,mo,a,cap,H⟩:=Er H;have hlen:told.length≤1000000:=by rw[R.len];omega
 obtain⟨_,_,hw,_,_⟩:=Vs H.swap;obtain⟨_,_,_,_,_,_,_,hmw,_⟩:=Zb (H.sel [2,0,0,0] 0);refine QQ Tryz.func100 rfl (by kernel_rfl) ?_;refine J6 H ?_;clear H;intro b3 w H;refine Y1 H ?_;refine Qn (fun ms σ w=>ms=[]∧∃ (b5:Nat) (i' g' o:Int),Gm told i' g' o∧σ 0=pp p∧σ 3=pp b3∧σ 5=pp b5∧σ 6 = .int .i64 o∧Q0 w (pts b5 (row 69 [.int .i64 i',.int .i64 g'])::pts b3 (row 93 [.int .i64 k,.int .i64 A,.int .i64 B,.int .i64 C,.int .u64 X,.slice adW ws.length capW,.bool raw,.int .i64 i,.int .i64 g])::Y6 p c mo (.slice a told.length cap)::QR c s::Qo mo m::VW (.slice a told.length cap) told::fr)) ?_ ?_
 ·replace H:=Js [1,3,0,0,0] 0 H;refine W4 H ?_;refine Gf H ?_;refine E8 H ?_;refine Jc rfl rfl (NU p c mo a cap told hlen A i g raw H) ?_;clear H;rintro v w ⟨i',g',o,rfl,hp,_,_,H⟩;refine Vi H ?_;clear H;intro b5 w H;refine J3 H ?_;clear H;intro w H;refine J0 H ?_;replace H:=Js [0,2,0,1,1,0] 0 H;exact⟨rfl,rfl,_,i',g',o,hp,rfl,rfl,rfl,rfl,H⟩
 clear H;rintro ms σ w ⟨rfl,b5,i',g',o,hPk,g0,g3,g5,g6,H⟩;rw[Q1 g0,Q1 g3,Q1 g5,Q1 g6];refine K6 H ?_;refine Q6 ?_;refine R4 H ?_;by_cases hk0:k=0
 ·subst hk0;refine VD H ?_;replace H:=Js [3,0,0,0,0,0] 0 H;refine J1 H ?_;clear H;intro w H;refine Xf H ?_;refine Jk rfl rfl (N0 c s _ ws hws hrW.there.there.there.there.there H) ?_;clear H;rintro v w ⟨rfl,H⟩;obtain⟨hd,R'⟩:=NZ R hmw ws;rw[hd];refine UZ H ?_;replace H:=Js [4,0,0,0,0,0] 0 H;refine J1 H ?_;clear H;intro w H;refine Xf H ?_;refine Jk rfl rfl (aX mo m _ ws hws hrW.there.there.there.there.there H) ?_;clear H;rintro v w ⟨rfl,H⟩;refine UZ H ?_;refine Vh H ?_;rw[GN (((ZD m ws).2.1:Nat):Int)];refine BN H ?_;rw[GN (((ZD m ws).2.2:Nat):Int)];refine J2 H ?_;replace H:=Js [4,1,0,2] 2 H;exact Q3 (Jy H rfl fun w' H'=>⟨rfl,_,_,_,R',⟨by rw[(Nk m ws).2];omega,by rw[(Nk m ws).1];omega,.inl ⟨rfl,ce s ws⟩,fun hI=>cH hw hI ws,fun hT=>by rw[(Nn s ws).par];exact hT,(Nn s ws).part⟩,YK H'⟩)
 rw[show (k == 0)=false by simpa using hk0];refine ZS H ?_;by_cases hk1:k=1
 ·subst hk1;refine VD H ?_;have hl:=R.last;have he:=bh R hw A;replace H:=Js [3,0,0,0,0,0] 0 H;refine J1 H ?_;clear H;intro w H;refine Xf H ?_;refine Jk rfl rfl (Hu c s A (by omega) H) ?_;clear H;rintro v w (⟨h1,rfl,H⟩|⟨h1,b,b2,rfl,H⟩)
  ·rw[he] at h1 ⊢;have ho:XG m A=(m,0,Z1 m.P A):=by unfold XG;rw[if_neg h1]
   refine UZ H ?_;replace H:=Js [4,0,0,0,0,0] 0 H;refine J1 H ?_;clear H;intro w H;refine Xf H ?_;refine Jk rfl rfl (Mn mo m A hP H) ?_;clear H;rintro v w ⟨rfl,H⟩;rw[ho] at H ⊢;refine E9 H ?_;refine UG H ?_;rw[GN ((Z1 m.P A:Nat):Int)];refine J2 H ?_;replace H:=Js [4,1,0,2] 2 H;exact Q3 (Jy H rfl fun w' H'=>⟨rfl,_,_,_,R,U4 rfl rfl rfl,YK H'⟩)
  ·rw[he] at h1;have ho:XG m A=({ m with P:=m.P++[A] },m.P.length,0):=by unfold XG;rw[if_pos h1]
   refine UZ H ?_;replace H:=Js [4,0,0,0,0,0] 0 H;refine J1 H ?_;clear H;intro w H;refine Xf H ?_;refine Jk rfl rfl (Mn mo m A hP H) ?_;clear H;rintro v w ⟨rfl,H⟩;rw[ho] at H ⊢;rw[hl];refine UZ H ?_;refine Vh H ?_;rw[GN ((m.P.length:Nat):Int)];refine BN H ?_;refine J2 H ?_;replace H:=Js [4,1,0,2] 2 H;exact Q3 (Jy H rfl fun w' H'=>⟨rfl,_,_,_,Hy R h1 b b2,⟨by show (m.P++[A]).length≤_;simp,by show m.objs.length≤_;omega,.inl ⟨rfl,rfl⟩,fun hI=>cI hI A b b2,fun hT=>cJ hT (he.trans h1) hw.par.2.2,d6 s A b b2⟩,YK H'⟩)
 rw[show (k == 1)=false by simpa using hk1];refine ZS H ?_;by_cases hk2:k=2
 ·subst hk2;refine VD H ?_;refine Ge H ?_;replace H:=Js [2,2,2,2,0,0] 0 H;refine Jc rfl rfl (cN p c mo a cap s m told R hfew _ A B C _ i g .i64 _ raw rfl H) ?_;clear H;rintro v w ⟨rfl,s',m',told',a',cap',R',S',H⟩;refine J0 H ?_;replace H:=Js [0,0,0,0] 2 H;exact Q3 (Jy H rfl fun w' H'=>⟨rfl,s',m',told',R',S',YK H'⟩)
 rw[show (k == 2)=false by simpa using hk2];refine ZS H ?_;by_cases hk3:k=3
 ·subst hk3;refine VD H ?_;replace H:=Js [3,0,0,0,0,0] 0 H;refine J1 H ?_;clear H;intro w H;refine Ja 0 ?_;refine Ja 1 ?_;refine Jf 2 ?_;refine Jl 3 [7] H ?_;refine VM 4 [7] H rfl (Q8.none rfl) rfl (by repeat first|exact .nil _|apply QY.cons rfl) (by kernel_rfl) ?_;refine Jf 5 ?_;refine Jl 6 [7] H ?_;refine Jo 7 H ?_;refine Jk rfl rfl (aJ c s i' g' B H) ?_;clear H;rintro v w ⟨rfl,H⟩
  rcases bF R hPk B with ⟨h0,h1⟩|⟨h0,n,j,x,rfl,rfl,hx,hj,h1⟩
  ·rw[h1];refine AK H ?_;replace H:=Js [4,0,0,0,0,0] 0 H;refine J1 H ?_;clear H;intro w H;refine Br H ?_;refine Jk rfl rfl (RM mo m o B false H) ?_;clear H;rintro v w ⟨rfl,H⟩;refine X6 H ?_;refine J4 H ?_;rw[show (((VR m o B false:Nat):Int) != 0)=true by rw[bne_iff_ne];omega];refine E7 H ?_;rw[GN ((VR m o B false:Nat):Int)];refine XP H ?_;refine J2 H ?_;replace H:=Js [4,1,0,2] 2 H;exact Q3 (Jy H rfl fun w' H'=>⟨rfl,s,m,told,R,U4 rfl rfl rfl,YK H'⟩)
  ·rw[h1];have hnl:=(List.getElem?_eq_some_iff.1 hx).1;have hjx:=List.getElem?_eq_getElem hj;have hjd:x.w.getD j 0=x.w[j]:=by rw[List.getD_eq_getElem?_getD,hjx];rfl
   have hsm:=RL (w:=hmw) hx;rw[hjd];generalize x.w[j]=y at hjx;refine AK H ?_;replace H:=Js [4,0,0,0,0,0] 0 H;refine J1 H ?_;clear H;intro w H;refine Br H ?_;refine Jk rfl rfl (RM mo m n j false H) ?_;clear H;rintro v w ⟨rfl,H⟩;rw[h0];refine X6 H ?_;refine Gu H ?_;obtain⟨t,lc,aL,cL,bO,cO,sO,ptrs,q,vw,vk,vt,rest,hm,h2,hp,H,hclose⟩:=GF H hx;have hm':=RJ hx hm;obtain⟨aw,cw,rfl⟩:=QD H.drop (Yw _) (by decide);obtain⟨bW,sW,rfl,H,hcw⟩:=Qx H.swap (by omega);refine J1 H ?_;clear H;intro w H;refine EQ H ?_;refine Di H ?_;refine Ja 8 ?_;refine Jf 9 ?_;refine Jl 10 [] H ?_;refine Ja 11 ?_;refine Ji 12 ?_;refine Vf 13 [] H rfl (Q8.of rfl rfl rfl) rfl hp (by kernel_rfl) ?_;refine Ja 14 ?_;refine Jf 15 ?_;refine Jl 16 [] H ?_;refine Jf 17 ?_;refine Jl 18 [] H ?_;refine Ji 19 ?_;refine Vf 20 [] H rfl (Q8.of rfl rfl rfl) rfl (Fv hjx) (by kernel_rfl) ?_;refine Ja 21 ?_;rw[GN (y:Int)];refine Ja 22 ?_;refine Ja 23 ?_;refine Jx H ?_;replace H:=U2 hx (hclose _ _ _ hm' (hcw _ _ H).swap);replace H:=Js [4,1,0,2] 2 H;exact Q3 (Jy H rfl fun w' H'=>⟨rfl,s,m,told,R,U4 rfl rfl rfl,YK H'⟩)
 rw[show (k == 3)=false by simpa using hk3];refine ZS H ?_;by_cases hk4:k=4
 ·subst hk4;refine VD H ?_;replace H:=Js [3,0,0,0,0,0] 0 H;refine J1 H ?_;clear H;intro w H;refine YT H ?_;refine Jl 3 [9,17] H ?_;refine VM 4 [9,17] H rfl (Q8.none rfl) rfl (by repeat first|exact .nil _|apply QY.cons rfl) (by kernel_rfl) ?_;refine Jf 5 ?_;refine Jl 6 [9,17] H ?_;refine Jf 7 ?_;refine Jl 8 [9,17] H ?_;refine EV H ?_;refine Jl 13 [17] H ?_;refine Ja 14 ?_;refine Jf 15 ?_;refine Jl 16 [17] H ?_;obtain⟨hd,R'⟩:=bH R hPk B X;refine Jo 9 H ?_;refine Jk rfl rfl (aN c s i' g' B X hX H) ?_;clear H;rintro v w ⟨rfl,H⟩;rw[hd];replace H:=Js [4,0,0,0,0,0] 0 H;refine Jo 17 H ?_;refine Jk rfl rfl (RM mo m o B false H) ?_;clear H;rintro v w ⟨rfl,H⟩;refine Ja 18 ?_;refine Ja 19 ?_;refine D6 H ?_;have hob:=cm m o B X;by_cases h0:VR m o B false=0
  ·obtain⟨n,x,hv⟩:∃ n x,Qy m o=some (n,x):=by
    cases hv:Qy m o with
    | none=>rw[XZ hv] at h0;cases h0
    | some kx=>exact⟨kx.1,kx.2,rfl⟩
   have h0':=h0;rw[UC hv] at h0';rw[Hw hv,if_pos h0'] at R' hob;obtain⟨rfl,hx,hh,hg⟩:=Xn hv;obtain⟨j,rfl,hj,hr⟩:=Za h0';rw[Int.toNat_natCast] at R' hob;rw[h0];have hnl:=(List.getElem?_eq_some_iff.1 hx).1;have hsm:=RL (w:=hmw) hx;refine VD H ?_;obtain⟨t,lc,aL,cL,bO,cO,sO,ptrs,q,vw,vk,vt,rest,hm,h2,hp,H,hclose⟩:=GF H hx;obtain⟨aw,cw,rfl⟩:=QD H.drop (Yw _) (by decide);obtain⟨bW,sW,rfl,H,_,_,hcw⟩:=Yv H.swap (by omega);have hmx:=hm.objs x (List.mem_of_getElem? hx)
   have hm':V4 (Yl m n { x with w:=x.w.set j X }):=WR hm (by
    obtain⟨a1,a2,a3,a4,a5⟩:=hmx;exact⟨by show ∃ l,_∧_∧V6 l _=((x.w.set j X).length,0);rw[List.length_set];exact a1,a2,by show _=(x.w.set j X).length;rw[List.length_set];exact a3,by show _=(x.w.set j X).length;rw[List.length_set];exact a4,a5⟩)
   refine J1 H ?_;clear H;intro w H;refine YT H ?_;refine Jl 3 [18] H ?_;refine Ja 4 ?_;refine Jf 5 ?_;refine Jl 6 [18] H ?_;refine Ja 7 ?_;refine Ji 8 ?_;refine Vf 9 [18] H rfl (Q8.none rfl) rfl hp (by kernel_rfl) ?_;refine Ja 10 ?_;refine Jf 11 ?_;refine Jl 12 [18] H ?_;refine Jf 13 ?_;refine Jl 14 [18] H ?_;refine Jf 15 ?_;refine Jl 16 [18] H ?_;refine Ji 17 ?_;refine Jo 18 H ?_;refine Yf H rfl rfl inferInstance rfl (by simp only[List.length_append,Yw];omega) rfl ?_;clear H;intro w H;rw[Int.toNat_natCast,M4 (by omega)] at H;refine Jx H ?_;refine W6 H ?_;replace H:=hcw _ _ (QP (x.w.set j X)) (by simp[QP]) H;replace H:=hclose _ _ { x with w:=x.w.set j X } hm' H.swap;replace H:=Js [4,1,0,2] 2 H;exact Q3 (Jy H rfl fun w' H'=>⟨rfl,_,_,_,R',U4 hob.1 hob.2 (Nb s i' g' j X) (fun hI=>NM hI i' g' j X) (Nl s i' g' j X),YK H'⟩)
  ·rw[show (((VR m o B false:Nat):Int) == 0)=false by simpa using h0]
   have hsw:KT m o B X=m:=by
    cases hv:Qy m o with
    | none=>rw[N7 hv]
    | some kx=>
     obtain⟨n,x⟩:=kx;rw[UC hv] at h0;rw[Hw hv,if_neg h0]
   rw[hsw] at R';refine V5 H ?_;refine Vh H ?_;rw[GN ((VR m o B false:Nat):Int)];refine J0 H ?_;replace H:=Js [4,1,0,2] 2 H;exact Q3 (Jy H rfl fun w' H'=>⟨rfl,_,_,_,R',U4 rfl rfl (Nb s i' g' B X) (fun hI=>NM hI i' g' B X) (Nl s i' g' B X),YK H'⟩)
 rw[show (k == 4)=false by simpa using hk4];refine ZS H ?_;by_cases hk5:k=5
 ·subst hk5;refine VD H ?_;replace H:=Js [3,0,0,0,0,0] 0 H;obtain⟨hd,hln,hk2,hlt,R'⟩:=bc R hmw hPk B;obtain⟨l1,l2,l3,hlk⟩:=Gi (Vz s i' g' B).1;have hRf:=fun (w:World) (fr:List Q2) (H:Q0 w (QR c s::fr))=>aj c s i' g' B H;rw[hlk,hd] at hRf;rw[hln] at hlk;refine J8 H ?_;refine Qn (fun ms σ w=>ms=[]∧∃ b20,σ 0=pp p∧σ 3=pp b3∧σ 6 = .int .i64 o∧σ 20=pp b20∧σ 21 = .int .i64 ((YU m o B).2.2.2:Nat)∧Q0 w (pts b20 (row 88 [.int .i64 l1,.int .i64 l2,.int .i64 l3])::pts b3 (row 93 [.int .i64 5,.int .i64 A,.int .i64 B,.int .i64 C,.int .u64 X,.slice adW ws.length capW,.bool raw,.int .i64 i,.int .i64 g])::Y6 p c mo (.slice a told.length cap)::QR c (ZH s i' g' B)::Qo mo m::VW (.slice a told.length cap) told::fr)) ?_ ?_
  ·refine J1 H ?_;clear H;intro w H;refine YT H ?_;refine Jl 3 [7,12] H ?_;refine Fs H ?_;refine Jf 5 ?_;refine Jl 6 [7,12] H ?_;refine Jw 7 11 H rfl rfl (V2 (a:=[]) (b:=[]) rfl rfl (call (hRf _ _ H) ?_)) (Vu H rfl ?_)
   ·clear H;rintro v w ⟨rfl,H⟩;refine KG H ?_;refine Bl H ?_;clear H;intro b20 w H;refine Xd H ?_;clear H;intro w H;refine R5 H ?_;replace H:=Js [0,2,2,0,1,1] 1 H;exact⟨rfl,rfl,b20,rfl,rfl,rfl,rfl,rfl,H⟩
   ·clear H;intro b20 w H;refine Jo 7 H ?_;refine Jk rfl rfl (hRf _ _ H.swap) ?_;clear H;rintro v w ⟨rfl,H⟩;refine KG H ?_;refine Xd H ?_;clear H;intro w H;refine R5 H ?_;replace H:=Js [1,2,2,0,1,1] 1 H;exact⟨rfl,rfl,b20,rfl,rfl,rfl,rfl,rfl,H⟩
  clear H;rintro ms σ w ⟨rfl,b20,g0,g3,g6,g20,g21,H⟩;rw[Q1 g0,Q1 g3,Q1 g6,Q1 g20,Q1 g21];replace H:=Js [4,0,0,0,0,0] 0 H;refine J1 H ?_;clear H;intro w H;refine Br H ?_;refine Jk rfl rfl (aY mo m o B H) ?_;clear H;rintro v w ⟨rfl,H⟩;refine Ja 8 ?_;refine Ja 9 ?_;refine Ja 10 ?_;refine Ja 11 ?_;refine DC H ?_;refine Jx H ?_;refine Vh H ?_;rw[GN (((YU m o B).2.2.2:Nat):Int)];replace H:=Js [3,4,1,1,1,0] 0 H;refine Wp H ?_;refine Rs H ?_;refine Zg H ?_;have hlink:=fun (w:World) (fr:List Q2) (H:Q0 w (Y6 p c mo (.slice a told.length cap)::VW (.slice a told.length cap) told::fr))=>NX p c mo a cap told (YU m o B).2.1 (YU m o B).2.2.1 hk2 hlt H;rw[hlk] at hlink;refine Qe rfl rfl rfl (V2 (a:=[]) (b:=[]) rfl rfl (call (hlink _ _ H) ?_));clear H;rintro v w ⟨rfl,H⟩;refine J2 H ?_;replace H:=Js [0,3,3,0] 2 H;exact Q3 (Jy H rfl fun w' H'=>⟨rfl,_,_,_,R',U4 (Nj m o B).1 (Nj m o B).2 (cd s i' g' B) (fun hI=>cE hI i' g' B) (d5 s i' g' B),YK H'⟩)
 rw[show (k == 5)=false by simpa using hk5];refine ZS H ?_;by_cases hk6:k=6
 ·subst hk6;refine VD H ?_;replace H:=Js [2,4,0,0,0,0] 0 H;refine W4 H ?_;refine E8 H ?_;refine Jc rfl rfl (NU p c mo a cap told hlen C i g false H) ?_;clear H;rintro v w ⟨u',v',q,rfl,hQ,_,_,H⟩;refine Vi H ?_;clear H;intro b25 w H;refine J3 H ?_;clear H;intro w H;refine J0 H ?_;replace H:=Js [5,0,0,0,0,0,0] 0 H;refine J1 H ?_;clear H;intro w H;refine YT H ?_;refine Jl 3 [8,17] H ?_;refine VM 4 [8,17] H rfl (Q8.none rfl) rfl (by repeat first|exact .nil _|apply QY.cons rfl) (by kernel_rfl) ?_;refine Jf 5 ?_;refine Jl 6 [8,17] H ?_;refine VM 7 [8,17] H rfl (Q8.none rfl) rfl (by repeat first|exact .nil _|apply QY.cons rfl) (by kernel_rfl) ?_;refine BC H ?_;refine Jl 12 [17] H ?_;refine Ja 13 ?_;refine Jf 14 ?_;refine Jl 15 [17] H ?_;refine Ja 16 ?_;obtain⟨hd,R'⟩:=NQ R hw hmw hPk hQ B;refine Jo 8 H ?_;refine Jk rfl rfl (Mz c s i' g' B u' v' H) ?_;clear H;rintro v w ⟨rfl,H⟩;rw[hd];replace H:=Js [6,0,0,0,0,0,0] 0 H;refine Jo 17 H ?_;refine Jk rfl rfl (aV mo m o B q H) ?_;clear H;rintro v w ⟨rfl,H⟩;refine Ja 18 ?_;rw[GN (((Yb m o B q).2:Nat):Int)];refine Ja 19 ?_;refine Jx H ?_;replace H:=Js [3,1,0,1] 3 H;exact Q3 (Jy H rfl fun w' H'=>⟨rfl,_,_,_,R',U4 (Ng m o B q).1 (Ng m o B q).2 (Nd s i' g' B u' v') (fun hI=>NO hw hI i' g' B u' v') (cz s i' g' B u' v'),YK H'⟩)
 rw[show (k == 6)=false by simpa using hk6];refine ZS H ?_;by_cases hk7:k=7
 ·subst hk7;refine VD H ?_;replace H:=Js [3,0,0,0,0,0] 0 H;refine J1 H ?_;clear H;intro w H;refine YT H ?_;refine Jl 3 [7,15] H ?_;refine VM 4 [7,15] H rfl (Q8.none rfl) rfl (by repeat first|exact .nil _|apply QY.cons rfl) (by kernel_rfl) ?_;refine Jf 5 ?_;refine Jl 6 [7,15] H ?_;refine Bo H ?_;refine Jl 11 [15] H ?_;refine Ja 12 ?_;refine Jf 13 ?_;refine Jl 14 [15] H ?_;obtain⟨hd,R'⟩:=bP R hmw hPk B;refine Jo 7 H ?_;refine Jk rfl rfl (ah c s i' g' B H) ?_;clear H;rintro v w ⟨rfl,H⟩;rw[hd];replace H:=Js [4,0,0,0,0,0] 0 H;refine Jo 15 H ?_;refine Jk rfl rfl (aQ mo m o B H) ?_;clear H;rintro v w ⟨rfl,H⟩;refine Ja 16 ?_;rw[GN (((UD m o B).2:Nat):Int)];refine Ja 17 ?_;refine Jx H ?_;replace H:=Js [4,1,0,2] 2 H;exact Q3 (Jy H rfl fun w' H'=>⟨rfl,_,_,_,R',U4 (Nf m o B).1 (Nf m o B).2 (Nc s i' g' B .none) (fun hI=>NN hI i' g' B trivial fun a b h=>by cases h) (Nm s i' g' B .none),YK H'⟩)
 rw[show (k == 7)=false by simpa using hk7];refine ZS H ?_;by_cases hk8:k=8
 ·subst hk8;refine VD H ?_;replace H:=Js [3,0,0,0,0,0] 0 H;refine J1 H ?_;clear H;intro w H;refine YT H ?_;refine Jl 3 [5,11] H ?_;refine VM 4 [5,11] H rfl (Q8.none rfl) rfl (by repeat first|exact .nil _|apply QY.cons rfl) (by kernel_rfl) ?_;refine AZ H ?_;refine Jl 9 [11] H ?_;refine Ja 10 ?_;obtain⟨hd,R'⟩:=bJ R hPk;refine Jo 5 H ?_;refine Jk rfl rfl (aP c s i' g' H) ?_;clear H;rintro v w ⟨rfl,H⟩;rw[hd];replace H:=Js [4,0,0,0,0,0] 0 H;refine Jo 11 H ?_;refine Jk rfl rfl (Tx mo m o H) ?_;clear H;rintro v w ⟨rfl,H⟩;refine Ja 12 ?_;rw[GN (((GH m o).2:Nat):Int)];refine R5 H ?_;replace H:=Js [4,1,0,2] 2 H;exact Q3 (Jy H rfl fun w' H'=>⟨rfl,_,_,_,R',U4 (Nh m o).1 (Nh m o).2 (cP s i' g') (fun hI=>cC hI i' g') (cn s i' g'),YK H'⟩)
 rw[show (k == 8)=false by simpa using hk8];refine ZS H ?_;by_cases hk9:k=9
 ·subst hk9;refine VD H ?_;replace H:=Js [3,0,0,0,0,0] 0 H;refine J1 H ?_;clear H;intro w H;refine YT H ?_;refine Jl 3 [9,19] H ?_;refine VM 4 [9,19] H rfl (Q8.none rfl) rfl (by repeat first|exact .nil _|apply QY.cons rfl) (by kernel_rfl) ?_;refine Jf 5 ?_;refine Jl 6 [9,19] H ?_;refine Ja 7 ?_;refine Ja 8 ?_;refine EV H ?_;refine Jl 13 [19] H ?_;refine Ja 14 ?_;refine Jf 15 ?_;refine Jl 16 [19] H ?_;refine Ja 17 ?_;refine Ja 18 ?_;generalize hon:(YB .and .u64 (X:Int) 1 == 1)=on;obtain⟨hd,R'⟩:=bM R hPk on;refine Jo 9 H ?_;refine Jk rfl rfl (aT c s i' g' on H) ?_;clear H;rintro v w ⟨rfl,H⟩;rw[hd];replace H:=Js [4,0,0,0,0,0] 0 H;refine Jo 19 H ?_;refine Jk rfl rfl (Tz mo m o on H) ?_;clear H;rintro v w ⟨rfl,H⟩;refine Ja 20 ?_;rw[GN (((GI m o on).2:Nat):Int)];refine Ja 21 ?_;refine Jx H ?_;replace H:=Js [4,1,0,2] 2 H;exact Q3 (Jy H rfl fun w' H'=>⟨rfl,_,_,_,R',U4 (Ni m o on).1 (Ni m o on).2 (cT s i' g' on) (fun hI=>cD hI i' g' on) (cp s i' g' on),YK H'⟩)
 rw[show (k == 9)=false by simpa using hk9];refine ZS H ?_;by_cases hk10:k=10
 ·subst hk10;refine VD H ?_;refine Ge H ?_;refine Jv ?_;replace H:=Js [2,2,2,2,0,0] 0 H;refine Jc rfl rfl (cV p c mo _ s m told R.w i' g' o (Xp R hPk) H) ?_;clear H;rintro v w ⟨rfl,H⟩;refine J0 H ?_;replace H:=Js [0,0,0,0] 2 H;exact Q3 (Jy H rfl fun w' H'=>⟨rfl,s,m,told,R,U4 rfl rfl rfl,YK H'⟩)
 rw[show (k == 10)=false by simpa using hk10];refine ZS H ?_;by_cases hk11:k=11
 ·subst hk11;refine VD H ?_;replace H:=Js [3,0,0,0,0,0] 0 H;have hLk:=fun (w:World) (fr:List Q2) (H:Q0 w (QR c s::fr))=>El c s i' g' B H
  rcases Hx R hPk B with ⟨h0,h1⟩|⟨h0,n,j,x,rfl,rfl,hx,hv,hj,hr,hk2,h1⟩
  ·rw[h1] at hLk;obtain⟨l1,l2,l3,hlk⟩:=Gi .none;rw[hlk] at hLk;refine J8 H ?_;refine Qn (fun ms σ w=>ms=[]∧∃ b27,σ 0=pp p∧σ 3=pp b3∧σ 6 = .int .i64 o∧σ 27=pp b27∧σ 28 = .int .i64 (VR m o B true:Nat)∧Q0 w (pts b27 (row 88 [.int .i64 l1,.int .i64 l2,.int .i64 l3])::pts b3 (row 93 [.int .i64 11,.int .i64 A,.int .i64 B,.int .i64 C,.int .u64 X,.slice adW ws.length capW,.bool raw,.int .i64 i,.int .i64 g])::Y6 p c mo (.slice a told.length cap)::QR c s::Qo mo m::VW (.slice a told.length cap) told::fr)) ?_ ?_
   ·refine J1 H ?_;clear H;intro w H;refine YT H ?_;refine Jl 3 [7,12] H ?_;refine Fs H ?_;refine Jf 5 ?_;refine Jl 6 [7,12] H ?_;refine Jw 7 11 H rfl rfl (V2 (a:=[]) (b:=[]) rfl rfl (call (hLk _ _ H) ?_)) (Vu H rfl ?_)
    ·clear H;rintro v w ⟨rfl,H⟩;refine KG H ?_;refine Bl H ?_;clear H;intro b27 w H;refine Xd H ?_;clear H;intro w H;refine R5 H ?_;replace H:=Js [0,2,2,0,1,1] 1 H;exact⟨rfl,rfl,b27,rfl,rfl,rfl,rfl,rfl,H⟩
    ·clear H;intro b27 w H;refine Jo 7 H ?_;refine Jk rfl rfl (hLk _ _ H.swap) ?_;clear H;rintro v w ⟨rfl,H⟩;refine KG H ?_;refine Xd H ?_;clear H;intro w H;refine R5 H ?_;replace H:=Js [1,2,2,0,1,1] 1 H;exact⟨rfl,rfl,b27,rfl,rfl,rfl,rfl,rfl,H⟩
   clear H;rintro ms σ w ⟨rfl,b27,g0,g3,g6,g27,g28,H⟩;rw[Q1 g0,Q1 g3,Q1 g6,Q1 g27,Q1 g28];replace H:=Js [4,0,0,0,0,0] 0 H;refine J1 H ?_;clear H;intro w H;refine Br H ?_;refine Jk rfl rfl (RM mo m o B true H) ?_;clear H;rintro v w ⟨rfl,H⟩;refine X6 H ?_;refine J4 H ?_;rw[show (((VR m o B true:Nat):Int) != 0)=true by rw[bne_iff_ne];omega];refine VD H ?_;cases hlk;refine Vh H ?_;rw[GN ((VR m o B true:Nat):Int)];refine Jv ?_;refine Bn H ?_;refine Qe rfl rfl rfl (B6 rfl rfl rfl rfl (.inl rfl) rfl ?_);refine J2 H ?_;replace H:=Js [3,3,0,2] 2 H;exact Q3 (Jy H rfl fun w' H'=>⟨congrArg Value.bool ((CA _ _).trans (I3 0 0 0)),s,m,told,R,U4 rfl rfl rfl,YK H'⟩)
  ·have hnl:=(List.getElem?_eq_some_iff.1 hx).1;have hmx:=hmw.objs x (List.mem_of_getElem? hx);have hkn:=hmx.kind;have htn:=hmx.to;have hsm:=RL (w:=hmw) hx;have hkj:=List.getElem?_eq_getElem (l:=x.kind) (i:=j) (by omega);have htj:=List.getElem?_eq_getElem (l:=x.to) (i:=j) (by omega);have hkd:x.kind.getD j 0=x.kind[j]:=by rw[List.getD_eq_getElem?_getD,hkj];rfl
   have htd:x.to.getD j 0=x.to[j]:=by rw[List.getD_eq_getElem?_getD,htj];rfl
   have hgo:=hmx.goes j;rw[htd] at hgo;rw[hkd] at hk2;rw[hkd,htd] at h1;generalize x.kind[j]=kd at *;generalize x.to[j]=td at *;have hlt:kd=2→td < told.length:=fun h=>by rw[R.len];exact hgo (by rw[hkj,h])
   rw[h1] at hLk;obtain⟨l1,l2,l3,hlk⟩:=Gi (Z3 told kd td);rw[hlk] at hLk;have hlink:=fun (w:World) (fr:List Q2) (H:Q0 w (Y6 p c mo (.slice a told.length cap)::VW (.slice a told.length cap) told::fr))=>NX p c mo a cap told kd td hk2 hlt H;rw[hlk] at hlink;refine J8 H ?_;refine Qn (fun ms σ w=>ms=[]∧∃ b27,σ 0=pp p∧σ 3=pp b3∧σ 6 = .int .i64 n∧σ 27=pp b27∧σ 28 = .int .i64 (0:Nat)∧Q0 w (pts b27 (row 88 [.int .i64 l1,.int .i64 l2,.int .i64 l3])::pts b3 (row 93 [.int .i64 11,.int .i64 A,.int .i64 (j:Nat),.int .i64 C,.int .u64 X,.slice adW ws.length capW,.bool raw,.int .i64 i,.int .i64 g])::Y6 p c mo (.slice a told.length cap)::QR c s::Qo mo m::VW (.slice a told.length cap) told::fr)) ?_ ?_
   ·refine J1 H ?_;clear H;intro w H;refine YT H ?_;refine Jl 3 [7,12] H ?_;refine Fs H ?_;refine Jf 5 ?_;refine Jl 6 [7,12] H ?_;refine Jw 7 11 H rfl rfl (V2 (a:=[]) (b:=[]) rfl rfl (call (hLk _ _ H) ?_)) (Vu H rfl ?_)
    ·clear H;rintro v w ⟨rfl,H⟩;refine KG H ?_;refine Bl H ?_;clear H;intro b27 w H;refine Xd H ?_;clear H;intro w H;refine R5 H ?_;replace H:=Js [0,2,2,0,1,1] 1 H;exact⟨rfl,rfl,b27,rfl,rfl,rfl,rfl,rfl,H⟩
    ·clear H;intro b27 w H;refine Jo 7 H ?_;refine Jk rfl rfl (hLk _ _ H.swap) ?_;clear H;rintro v w ⟨rfl,H⟩;refine KG H ?_;refine Xd H ?_;clear H;intro w H;refine R5 H ?_;replace H:=Js [1,2,2,0,1,1] 1 H;exact⟨rfl,rfl,b27,rfl,rfl,rfl,rfl,rfl,H⟩
   clear H;rintro ms σ w ⟨rfl,b27,g0,g3,g6,g27,g28,H⟩;rw[Q1 g0,Q1 g3,Q1 g6,Q1 g27,Q1 g28];replace H:=Js [4,0,0,0,0,0] 0 H;refine J1 H ?_;clear H;intro w H;refine Br H ?_;refine Jk rfl rfl (RM mo m n j true H) ?_;clear H;rintro v w ⟨rfl,H⟩;rw[h0];refine X6 H ?_;refine Gu H ?_;obtain⟨t,lc,aL,cL,bO,cO,sO,ptrs,q,vw,vk,vt,rest,hm,h2,hp,H,hclose⟩:=GF H hx;have hm':=RJ hx hm;obtain⟨ak,ck,rfl⟩:=QD H.drop.drop (QF _) (by decide);obtain⟨at',ct,rfl⟩:=QD H.drop.drop.drop (QF _) (by decide);replace H:=Js [2,0,0,0] 0 H;obtain⟨bk,sk,rfl,H,hck⟩:=Qx H (by omega);replace H:=Js [3,0,0,0] 0 H;obtain⟨bt,st,rfl,H,hct⟩:=Qx H (by omega);refine J1 H ?_;clear H;intro w H;refine EQ H ?_;refine VM 4 [39] H rfl (Q8.of rfl rfl rfl) rfl (by repeat first|exact .nil _|apply QY.cons rfl) (by kernel_rfl) ?_;refine Ww H ?_;refine Jl 8 [39] H ?_;refine Ja 9 ?_;refine Jf 10 ?_;refine Jl 11 [39] H ?_;refine Ja 12 ?_;refine Ji 13 ?_;refine Vf 14 [39] H rfl (Q8.of rfl rfl rfl) rfl hp (by kernel_rfl) ?_;refine Ja 15 ?_;refine Jf 16 ?_;refine Jl 17 [39] H ?_;refine Jf 18 ?_;refine Jl 19 [39] H ?_;refine Ji 20 ?_;refine Vf 21 [39] H rfl (Q8.of rfl rfl rfl) rfl (Gg hkj) (by kernel_rfl) ?_;refine Ja 22 ?_;refine Ja 23 ?_;refine Jf 24 ?_;refine Jl 25 [39] H ?_;refine Ja 26 ?_;refine Jf 27 ?_;refine Jl 28 [39] H ?_;refine Ja 29 ?_;refine Ji 30 ?_;refine Vf 31 [39] H rfl (Q8.of rfl rfl rfl) rfl hp (by kernel_rfl) ?_;refine Ja 32 ?_;refine Jf 33 ?_;refine Jl 34 [39] H ?_;refine Jf 35 ?_;refine Jl 36 [39] H ?_;refine Ji 37 ?_;refine Vf 38 [39] H rfl (Q8.of rfl rfl rfl) rfl (Gg htj) (by kernel_rfl) ?_;replace H:=Js [12,13,0,0,0,0,0,0,0,0,0,0,0,0,0] 0 H;refine Jo 39 H ?_;refine Jk rfl rfl (hlink _ _ H) ?_;clear H;rintro v w ⟨rfl,H⟩;refine Ja 40 ?_;refine Ja 41 ?_;refine Jx H ?_;replace H:=Js [3,2,2,2,2,2,2,2,2,2,2,2,2,0,0] 0 H;replace H:=hck _ _ H;replace H:=Js [1,0,0,0] 0 H;replace H:=hct _ _ H;replace H:=Js [2,2,1,0] 0 H;replace H:=U2 hx (hclose _ _ x hm' H);replace H:=Js [4,3,0,2] 2 H;exact Q3 (Jy H rfl fun w' H'=>⟨rfl,s,m,told,R,U4 rfl rfl rfl,YK H'⟩)
 rw[show (k == 11)=false by simpa using hk11];refine KK H ?_;replace H:=Js [2,2,2,2] 2 H;exact Q3 (Jy H rfl fun w' H'=>⟨rfl,s,m,told,R,U4 rfl rfl rfl,YK H'⟩)
end Go.Proofs.YtmjdnljneifpcaaGreatDoor
