/- Cells: what is proved on the way: every input of the statement; no condition. Texts joined: LnkA LnkB LnkC InvP InvQ TreP TreQ LawE LawF LawG. -/
import Derived.Test.YtmjdnljneifpcaaGreatDoorBbe
import Derived.Test.YtmjdnljneifpcaaGreatDoorBbh
import Derived.Test.YtmjdnljneifpcaaGreatDoorBbj
import Derived.Test.YtmjdnljneifpcaaGreatDoorBbk
import Derived.Test.YtmjdnljneifpcaaGreatDoorBbi
set_option linter.unusedVariables false
set_option linter.unusedSimpArgs false
set_option linter.unusedSectionVars false
namespace Go.Proofs.YtmjdnljneifpcaaGreatDoor
open Go.SL
theorem Y3h:∀ {a b:List Nat},a.Pairwise (· < ·)→b.Pairwise (· < ·)→(∀ x,x∈a↔x∈b)→a=b
 | [],[],_,_,_=>rfl
 | [],y::b,_,_,h=>by have:=(h y).2 (by simp);cases this
 | x::a,[],_,_,h=>by have:=(h x).1 (by simp);cases this
 | x::a,y::b,ha,hb,h=>by
  rw[List.pairwise_cons] at ha hb
  have hxy:x=y:=by
   have h1:=(h x).1 (by simp);have h2:=(h y).2 (by simp);rw[List.mem_cons] at h1 h2
   rcases h1 with h1|h1
   ·exact h1
   ·rcases h2 with h2|h2
    ·exact h2.symm
    ·have:=hb.1 x h1;have:=ha.1 y h2;omega
  subst hxy;congr 1;refine Y3h ha.2 hb.2 fun z=>?_;have hz:=h z;rw[List.mem_cons,List.mem_cons] at hz;constructor
  ·intro h1;have:=ha.1 z h1
   rcases hz.1 (.inr h1) with h2|h2
   ·omega
   ·exact h2
  ·intro h1;have:=hb.1 z h1
   rcases hz.2 (.inr h1) with h2|h2
   ·omega
   ·exact h2
def Y1r (l:Lay) (i:Nat):List Nat:=l.recs.map (l.fixed+i*l.record+·)
def Q5n (l:Lay) (c:Nat):List Nat:=l.refs++(List.range c).flatMap (Y1r l)
theorem Y3i {l:List Nat} {n:Nat} (h:Z9s l n):l=(List.range n).filter (fun p=>decide (p∈l)):=by
 refine Y3h h.2 (List.Pairwise.filter _ List.pairwise_lt_range) fun x=>?_;rw[List.mem_filter,List.mem_range,decide_eq_true_eq];exact⟨fun hx=>⟨h.1 x hx,hx⟩,fun hx=>hx.2⟩
theorem Y8q {l:Lay} (hR:Q2y l):∀ c:Nat,(c > 0→l.record≠0)→Q5n l c=(List.range (l.fixed+c*l.record)).filter (Q2h l)
 | 0,_=>by
  unfold Q5n;rw[Nat.zero_mul,Nat.add_zero,List.range_zero,List.flatMap_nil,List.append_nil];refine(Y3i hR.2.2.2.1).trans (List.filter_congr fun x hx=>?_);unfold Q2h;rw[if_pos (List.mem_range.1 hx)]
 | c+1,h=>by
  have ih:=Y8q hR c (fun _=>h (by omega));have hr:0 < l.record:=Nat.pos_of_ne_zero (h (by omega))
  have e:Q5n l (c+1)=Q5n l c++Y1r l c:=by
   unfold Q5n;rw[List.range_succ,List.flatMap_append,List.append_assoc];simp
  have e3:List.range ((l.fixed+c*l.record)+l.record)=List.range (l.fixed+c*l.record)++(List.range l.record).map (l.fixed+c*l.record+·):=List.range_add;rw[e,ih,show l.fixed+(c+1)*l.record=(l.fixed+c*l.record)+l.record by rw[Nat.succ_mul];omega,e3,List.filter_append];congr 1;rw[List.filter_map];unfold Y1r;congr 1;refine(Y3i hR.2.2.2.2).trans (List.filter_congr fun x hx=>?_);have hx:=List.mem_range.1 hx;show _=Q2h l (l.fixed+c*l.record+x);unfold Q2h;rw[if_neg (by omega),show l.fixed+c*l.record+x - l.fixed=x+l.record*c by rw[Nat.mul_comm];omega,Nat.add_mul_mod_self_left,Nat.mod_eq_of_lt hx]
theorem Z7r [Q0i] (vr vq:Value) (l:Lay) (c:Nat) (h1:vr.oneCell'=true) (h2:vq.oneCell'=true) {w:World} {fr:List Q0e} (H:Q0a w fr) :
  Calls Tryz.prog 187 #[V9c l.fixed vr l.record vq,.int .i64 c] w (ret fun v w'=>∃ b1 b2,v = .func (.func 238) #[] #[pp b1,pp b2]∧Q0a w' (pts b1 (row 102 [.int .i64 l.fixed,vr,.int .i64 l.record,vq])::pts b2 (row 3 [.int .i64 c])::fr)):=by
 refine Q0c Tryz.func187 rfl (by kernel_rfl) ?_;refine J8 H ?_;clear H;intro b2 w H;refine G5j H ?_;clear H;intro b3 w H;refine J22 H ?_;exact Q0g (Jy H.swap rfl fun w' H'=>⟨b2,b3,rfl,H'⟩)
theorem G2e [Q0i] (yl b1 b2:Nat) (vr vq:Value) (l:Lay) (hR:Q2y l) (c:Nat) {n:Nat} (hz:Q3q l c=(n,0)) (J:List Nat→Q0e)
  (hy:∀ (ks:List Nat) (p:Nat) (rest:List Q0e) (w:World),(∃ t,(List.range n).filter (Q2h l)=ks++p::t)→Q0a w (J ks::rest)→SL.Yields Tryz.prog yl #[.int .i64 p] w (fun v w'=>v = .bool true∧Q0a w' (J (ks++[p])::rest)))
  {w:World} {fr:List Q0e} (H:Q0a w (J []::pts b1 (row 102 [.int .i64 l.fixed,vr,.int .i64 l.record,vq])::pts b2 (row 3 [.int .i64 c])::NL vr l.refs::NL vq l.recs::fr)) :
  Calls Tryz.prog 238 #[.func (.yield yl) #[] #[],pp b1,pp b2] w (ret fun _ w'=>Q0a w' (J ((List.range n).filter (Q2h l))::pts b1 (row 102 [.int .i64 l.fixed,vr,.int .i64 l.record,vq])::pts b2 (row 3 [.int .i64 c])::NL vr l.refs::NL vq l.recs::fr)):=by
 obtain⟨z1,z2,z3,z4,z5⟩:=Y5b hz;have hall:=Y8q hR c (by omega);rw[Int.toNat_natCast] at z3;rw[← z3] at hall;rw[← hall] at hy ⊢;have hfx:=hR.1;have hrc:=hR.2.1;have hl1:=Z9s.len hR.2.2.2.1;have hl2:=Z9s.len hR.2.2.2.2;obtain⟨ar,cr,rfl⟩:=Q0j (H.sel [3,0,0,0] 0) (Q0d _) (by decide);obtain⟨aq,cq,rfl⟩:=Q0j (H.sel [4,0,0,0,0] 0) (Q0d _) (by decide);refine Q0c Tryz.func238 rfl (by kernel_rfl) ?_;refine J36 H ?_;refine J86 H ?_;replace H:=Js [3,3,0,0,0] 0 H;obtain⟨D1,H,hD1,hC1⟩:=sls_rd H (Q0d _) (by decide);obtain⟨D2,H,hD2,hC2⟩:=sls_rd H.swap (Q0d _) (by decide);refine Jc rfl rfl (V1a _ _ l hR c ⟨(hD1 _).there,hD2 _⟩ H) ?_;clear H;rintro v w ⟨rfl,H⟩;rw[hz];replace H:=hC1 _ _ (hC2 _ _ H).swap;refine J38 H ?_;replace H:=Js [0,0,0,0,0] 0 H;refine J88 H ?_;refine U2n H ?_;refine Q1m (fun ms σ w=>ms=[]∧σ 0 = .func (.yield yl) #[] #[]∧σ 1=pp b1∧σ 4 = .int .i64 n∧Q0a w (NL (.slice ar l.refs.length cr) l.refs::NL (.slice aq l.recs.length cq) l.recs::J l.refs::pts b1 (row 102 [.int .i64 l.fixed,.slice ar l.refs.length cr,.int .i64 l.record,.slice aq l.recs.length cq])::pts b2 (row 3 [.int .i64 c])::fr)) ?_ ?_
 ·refine Q0t ?_;refine Q1l (fun ms σ w z=>ms=[]∧∃ i:Nat,i≤l.refs.length∧z=l.refs.length - i∧σ 0 = .func (.yield yl) #[] #[]∧σ 1=pp b1∧σ 4 = .int .i64 n∧σ 20 = .slice ar l.refs.length cr∧σ 21 = .int .i64 l.refs.length∧σ 22 = .int .i64 i∧Q0a w (NL (.slice ar l.refs.length cr) l.refs::NL (.slice aq l.recs.length cq) l.recs::J (l.refs.take i)::pts b1 (row 102 [.int .i64 l.fixed,.slice ar l.refs.length cr,.int .i64 l.record,.slice aq l.recs.length cq])::pts b2 (row 3 [.int .i64 c])::fr)) (m:=l.refs.length) ⟨rfl,0,by omega,rfl,rfl,rfl,rfl,rfl,rfl,rfl,H⟩ ?_;clear H;rintro ms σ w z ⟨rfl,i,hi,rfl,g0,g1,g4,g20,g21,g22,H⟩;rw[Q0b g0,Q0b g1,Q0b g4,Q0b g20,Q0b g21,Q0b g22];refine J5 H ?_;refine Q2d rfl (fun h=>Q0w ?_) (fun h=>Q1n ?_)
  ·have hlt:i < l.refs.length:=by omega
   have hn:=List.getElem?_eq_getElem hlt;have htk:l.refs.take (i+1)=l.refs.take i++[l.refs[i]]:=by rw[List.take_add_one,hn];rfl
   have hdr:l.refs=l.refs.take i++l.refs[i]::l.refs.drop (i+1):=split_at hn;generalize l.refs[i]=p at hn htk hdr;obtain⟨bT,sT,rfl,H,hcl⟩:=Q0y H (by omega);refine J19 H ?_;refine Jd ?_;refine Q0s rfl (Q0l H rfl (Q2r hn) rfl ?_);refine J0 H ?_;replace H:=hcl _ _ H;replace H:=Js [2,0,0,0,0] 0 H;refine J6 H ?_;refine Q0s rfl (V1n rfl rfl (SL.Yields.mono (hy (l.refs.take i) p _ _ ⟨l.refs.drop (i+1)++(List.range c).flatMap (Y1r l),by unfold Q5n;rw[show l.refs.take i++p::(l.refs.drop (i+1)++(List.range c).flatMap (Y1r l))=(l.refs.take i++p::l.refs.drop (i+1))++(List.range c).flatMap (Y1r l) by simp,← hdr]⟩ H) ?_));clear H;rintro v w ⟨rfl,H⟩;refine J17 H ?_;replace H:=Js [1,1,0,0,0] 0 H;refine J3 H ?_;rw[← htk] at H;exact⟨_,⟨rfl,i+1,hlt,rfl,rfl,rfl,rfl,rfl,rfl,Q2a (by omega),H⟩,by omega⟩
  ·have hge:i=l.refs.length:=by omega
   subst hge;rw[List.take_length] at H;exact⟨rfl,rfl,rfl,rfl,rfl,H⟩
 clear H;rintro ms σ w ⟨rfl,g0,g1,g4,H⟩;rw[Q0b g0,Q0b g1,Q0b g4];refine J88 H ?_;refine J18 H ?_;refine Q1m (fun ms σ w=>ms=[]∧Q0a w (NL (.slice ar l.refs.length cr) l.refs::NL (.slice aq l.recs.length cq) l.recs::J (Q5n l c)::pts b1 (row 102 [.int .i64 l.fixed,.slice ar l.refs.length cr,.int .i64 l.record,.slice aq l.recs.length cq])::pts b2 (row 3 [.int .i64 c])::fr)) ?_ ?_
 ·refine Q0t ?_;refine Q1l (fun ms σ w z=>ms=[]∧∃ i A:Nat,i≤c∧A=l.fixed+i*l.record∧z=c - i∧σ 0 = .func (.yield yl) #[] #[]∧σ 1=pp b1∧σ 4 = .int .i64 n∧σ 8 = .int .i64 A∧Q0a w (NL (.slice ar l.refs.length cr) l.refs::NL (.slice aq l.recs.length cq) l.recs::J (Q5n l i)::pts b1 (row 102 [.int .i64 l.fixed,.slice ar l.refs.length cr,.int .i64 l.record,.slice aq l.recs.length cq])::pts b2 (row 3 [.int .i64 c])::fr)) (m:=c) ⟨rfl,0,l.fixed,by omega,by omega,rfl,rfl,rfl,rfl,rfl,by unfold Q5n;rw[List.range_zero,List.flatMap_nil,List.append_nil];exact H⟩ ?_;clear H;rintro ms σ w z ⟨rfl,i,A,hi,hA,rfl,g0,g1,g4,g8,H⟩;rw[Q0b g0,Q0b g1,Q0b g4,Q0b g8];refine U4h H ?_;refine Q2d rfl (fun h=>Q0w ?_) (fun h=>Q1n ?_)
  ·have hic:i < c:=by
    refine Nat.lt_of_not_le fun hle=>?_;have:=Nat.mul_le_mul_right l.record hle;omega
   have hb:A+l.record≤n:=by
    have:=Nat.mul_le_mul_right l.record (Nat.succ_le_of_lt hic);rw[Nat.succ_mul] at this;omega
   have hAl:A < 8192:=by omega
   have hsucc:Q5n l (i+1)=Q5n l i++Y1r l i:=by
    unfold Q5n;rw[List.range_succ,List.flatMap_append,List.append_assoc];simp
   have hpre:∃ t,Q5n l c=Q5n l i++Y1r l i++t:=by
    rw[← hsucc];unfold Q5n;refine⟨((List.range (c - (i+1))).map (i+1+·)).flatMap (Y1r l),?_⟩;rw[List.append_assoc,← List.flatMap_append,← List.range_add,show i+1+(c - (i+1))=c by omega]
   obtain⟨tl,hpre⟩:=hpre;refine J7 H ?_;refine Q1m (fun ms σ w=>ms=[]∧σ 0 = .func (.yield yl) #[] #[]∧σ 1=pp b1∧σ 4 = .int .i64 n∧σ 8 = .int .i64 A∧Q0a w (NL (.slice ar l.refs.length cr) l.refs::NL (.slice aq l.recs.length cq) l.recs::J (Q5n l (i+1))::pts b1 (row 102 [.int .i64 l.fixed,.slice ar l.refs.length cr,.int .i64 l.record,.slice aq l.recs.length cq])::pts b2 (row 3 [.int .i64 c])::fr)) ?_ ?_
   ·refine Q0t ?_;refine J88 H ?_;refine J97 H ?_;refine Q1l (fun ms σ w z=>ms=[]∧∃ j:Nat,j≤l.recs.length∧z=l.recs.length - j∧σ 0 = .func (.yield yl) #[] #[]∧σ 1=pp b1∧σ 4 = .int .i64 n∧σ 8 = .int .i64 A∧σ 41 = .slice aq l.recs.length cq∧σ 42 = .int .i64 l.recs.length∧σ 43 = .int .i64 j∧Q0a w (NL (.slice ar l.refs.length cr) l.refs::NL (.slice aq l.recs.length cq) l.recs::J (Q5n l i++(l.recs.take j).map (l.fixed+i*l.record+·))::pts b1 (row 102 [.int .i64 l.fixed,.slice ar l.refs.length cr,.int .i64 l.record,.slice aq l.recs.length cq])::pts b2 (row 3 [.int .i64 c])::fr)) (m:=l.recs.length) ⟨rfl,0,by omega,rfl,rfl,rfl,rfl,rfl,rfl,rfl,rfl,by rw[List.take_zero,List.map_nil,List.append_nil];exact H⟩ ?_;clear H;rintro ms σ w z ⟨rfl,j,hj,rfl,g0,g1,g4,g8,g41,g42,g43,H⟩;rw[Q0b g0,Q0b g1,Q0b g4,Q0b g8,Q0b g41,Q0b g42,Q0b g43];refine J5 H ?_;refine Q2d rfl (fun h=>Q0w ?_) (fun h=>Q1n ?_)
    ·have hlt:j < l.recs.length:=by omega
     have hn:=List.getElem?_eq_getElem hlt;have htk:l.recs.take (j+1)=l.recs.take j++[l.recs[j]]:=by rw[List.take_add_one,hn];rfl
     have hdr:l.recs=l.recs.take j++l.recs[j]::l.recs.drop (j+1):=split_at hn;have hrl:=hR.2.2.2.2.1 l.recs[j] (List.getElem_mem _);generalize l.recs[j]=p at hn htk hdr hrl;replace H:=Js [1,0,0,0,0] 0 H;obtain⟨bT,sT,rfl,H,hcl⟩:=Q0y H (by omega);refine J19 H ?_;refine Jd ?_;refine Q0s rfl (Q0l H rfl (Q2r hn) rfl ?_);refine J0 H ?_;replace H:=hcl _ _ H;replace H:=Js [2,0,0,0,0] 0 H;refine J73 H ?_;rw[Q1e (x:=(A:Int)+(p:Int)) (by omega) (by omega),show (A:Int)+(p:Int)=((A+p:Nat):Int) by omega]
     refine Q0s rfl (V1n rfl rfl (SL.Yields.mono (hy (Q5n l i++(l.recs.take j).map (l.fixed+i*l.record+·)) (A+p) _ _ ⟨(l.recs.drop (j+1)).map (l.fixed+i*l.record+·)++tl,by
      rw[hpre];unfold Y1r
      conv=>lhs;rw[hdr]
      rw[hA];simp⟩ H) ?_))
     clear H;rintro v w ⟨rfl,H⟩;refine J17 H ?_;replace H:=Js [2,1,0,0,0] 0 H;refine J3 H ?_;have e4:Q5n l i++(l.recs.take j).map (l.fixed+i*l.record+·)++[A+p]=Q5n l i++(l.recs.take (j+1)).map (l.fixed+i*l.record+·):=by rw[htk,hA];simp
     rw[e4] at H;exact⟨_,⟨rfl,j+1,hlt,rfl,rfl,rfl,rfl,rfl,rfl,rfl,Q2a (by omega),H⟩,by omega⟩
    ·have hge:j=l.recs.length:=by omega
     subst hge;rw[List.take_length] at H;have e5:Q5n l i++l.recs.map (l.fixed+i*l.record+·)=Q5n l (i+1):=hsucc.symm;rw[e5] at H;exact⟨rfl,rfl,rfl,rfl,rfl,rfl,H⟩
   clear H;rintro ms σ w ⟨rfl,g0,g1,g4,g8,H⟩;rw[Q0b g0,Q0b g1,Q0b g4,Q0b g8];refine U0d H ?_;refine J2 H ?_;refine⟨_,⟨rfl,i+1,A+l.record,hic,by rw[hA,Nat.succ_mul];omega,rfl,rfl,rfl,rfl,?_,H⟩,by omega⟩;show Value.int .i64 (IntKind.i64.wrap ((A:Int)+(l.record:Int)))=_;rw[Q1e (by omega) (by omega)];rfl
  ·have hge:i=c:=by
    refine Nat.le_antisymm hi (Nat.le_of_not_lt fun hlt=>?_);have hrp:0 < l.record:=Nat.pos_of_ne_zero (z5 (by omega));have:=Nat.mul_lt_mul_of_pos_right hlt hrp;omega
   subst hge;exact⟨rfl,rfl,H⟩
 clear H;rintro ms σ w ⟨rfl,H⟩;replace H:=Js [2,2,2,0,0] 0 H;exact Q2w _ (.inl rfl) H rfl fun w' H'=>H'
end Go.Proofs.YtmjdnljneifpcaaGreatDoor
namespace Go.Proofs.YtmjdnljneifpcaaGreatDoor
open Go.SL
def V3a (l:Lay) (n:Nat):List Nat:=(List.range n).filter (Q2h l)
theorem Y8r {l:Lay} {n p:Nat} {a t:List Nat} (h:V3a l n=a++p::t):p < n∧Q2h l p=true:=by
 have:p∈V3a l n:=by rw[h];simp
 unfold V3a at this;rw[List.mem_filter,List.mem_range] at this;exact this
structure U9s (ls:List Lay) (size:Nat) (own:List Nat) (addr i c s n:Nat) (l:Lay) (lk:Nat→Lnk) (mem:List Nat):Prop where
 img:V9i ls size mem own addr i c s n l
 link:∀ p,p < n→Q2h l p=true→okL (lk p)∧mem.getD (addr+1+p) 0=Q3v (lk p)
theorem Z7s [Q0i] (ip:Nat) (addr:Nat) {w:World} {fr:List Q0e} (H:Q0a w fr) :
  Calls Tryz.prog 113 #[pp ip,.int .i64 addr] w (ret fun v w'=>∃ b1 b2,v = .func (.func 186) #[] #[pp b1,pp b2]∧Q0a w' (pts b1 (row 36 [pp ip])::pts b2 (row 3 [.int .i64 addr])::fr)):=by
 refine Q0c Tryz.func113 rfl (by kernel_rfl) ?_;refine J30 H ?_;clear H;intro b2 w H;refine G5j H ?_;clear H;intro b3 w H;refine J22 H ?_;exact Q0g (Jy H.swap rfl fun w' H'=>⟨b2,b3,rfl,H'⟩)
theorem G2f [Q0i] (yl bm ba ip sp bp size:Nat) (ls:List Lay) (own:List Nat) (addr i c s n:Nat) (l:Lay) (lk:Nat→Lnk) (F:List Nat→Prop) (hF:∀ mem,F mem→U9s ls size own addr i c s n l lk mem) (J:List Nat→Q0e)
  (hy : ∀ (ks : List Nat) (p : Nat) (mem : List Nat) (rest : List Q0e) (w : World), F mem → (∃ t, V3a l n = ks ++ p :: t) → Q0a w (J ks :: IMG ip sp bp :: Q5v bp ls :: ST sp size mem own :: rest) →
   SL.Yields Tryz.prog yl #[.int .i64 p,lkv (lk p)] w (fun v w'=>v = .bool true∧∃ mem',F mem'∧Q0a w' (J (ks++[p])::IMG ip sp bp::Q5v bp ls::ST sp size mem' own::rest)))
  {mem:List Nat} (hm:F mem) {w:World} {fr:List Q0e} (H:Q0a w (J []::pts bm (row 36 [pp ip])::pts ba (row 3 [.int .i64 addr])::IMG ip sp bp::Q5v bp ls::ST sp size mem own::fr)) :
  Calls Tryz.prog 186 #[.func (.yield yl) #[] #[],pp bm,pp ba] w (ret fun _ w'=>∃ mem',F mem'∧Q0a w' (J (V3a l n)::pts bm (row 36 [pp ip])::pts ba (row 3 [.int .i64 addr])::IMG ip sp bp::Q5v bp ls::ST sp size mem' own::fr)):=by
 have hR:=(hF _ hm).img.right;have hz:=(hF _ hm).img.siz;refine Q0c Tryz.func186 rfl (by kernel_rfl) ?_;refine J30 H ?_;clear H;intro b3 w H;refine Q0h ?_;refine J50 H ?_;refine Q0s rfl (Q3i rfl rfl (.inl rfl) rfl ?_);refine U2p H ?_;replace H:=Js [4,4,4,0,0,0,0] 0 H;refine U5c H ?_;refine Jc rfl rfl (V5s ip sp bp size ls mem own addr i c s n l (hF _ hm).img H) ?_;clear H;rintro v w ⟨vr,vq,rfl,H⟩;obtain⟨ar,cr,rfl⟩:=Q0j H (Q0d _) (by decide);obtain⟨aq,cq,rfl⟩:=Q0j H.drop (Q0d _) (by decide);refine U3z H ?_;refine J12 H ?_;clear H;intro b4 w H;refine J12 H ?_;clear H;intro b5 w H;refine J4 H ?_;clear H;intro w H;refine J4 H ?_;clear H;intro w H;refine U4r H ?_;refine J36 H ?_;refine J45 H ?_;refine Jc rfl rfl (Z7r _ _ l c rfl rfl H) ?_;clear H;rintro v w ⟨b1,b2,rfl,H⟩;refine U3v H ?_;refine Q0t (Q5a (a:=[]) (b:=[pp b1,pp b2]) H rfl (fun yl2 D w H=>?_));generalize hL:LR _ yl2 _ _ _ _ D .ready=L at H ⊢;obtain⟨J2,hJ2⟩:∃ J2:List Nat→Q0e,J2=fun ks=>ex fun mem':List Nat=>star [prop (F mem'),L,J ks,pts bm (row 36 [pp ip]),pts ba (row 3 [.int .i64 addr]),pts b3 (row 279 [.func (.yield yl) #[] #[]]),IMG ip sp bp,Q5v bp ls,ST sp size mem' own]:=⟨_,rfl⟩
 have hin:∀ (ks:List Nat) (mem':List Nat) (w:World) (l':List Q0e),F mem'→Q0a w (L::J ks::pts bm (row 36 [pp ip])::pts ba (row 3 [.int .i64 addr])::pts b3 (row 279 [.func (.yield yl) #[] #[]])::IMG ip sp bp::Q5v bp ls::ST sp size mem' own::l')→Q0a w (J2 ks::l'):=by
  intro ks mem' w l' h H;rw[hJ2];exact Q0a.ex.2 ⟨mem',Q0a.star.2 (Q0a.prop.2 ⟨h,H⟩)⟩
 have hout:∀ (ks:List Nat) (w:World) (l':List Q0e),Q0a w (J2 ks::l')→∃ mem',F mem'∧Q0a w (L::J ks::pts bm (row 36 [pp ip])::pts ba (row 3 [.int .i64 addr])::pts b3 (row 279 [.func (.yield yl) #[] #[]])::IMG ip sp bp::Q5v bp ls::ST sp size mem' own::l'):=by
  intro ks w l' H;rw[hJ2] at H;obtain⟨mem',H⟩:=Q0a.ex.1 H;exact⟨mem',Q0a.prop.1 (Q0a.star.1 H)⟩
 replace H:=Js [0,11,11,11,10,7,7,7,1,1,3,3,0] 2 H;replace H:=hin [] mem _ _ hm H;refine call (G2e yl2 b1 b2 _ _ l hR c hz J2 ?_ H) ?_
 ·clear H;intro ks p rest w hpre H;obtain⟨mem',hm',H⟩:=hout _ _ _ H;obtain⟨t,hpre⟩:=hpre;obtain⟨hpn,hpr⟩:=Y8r hpre
  have hpl:Q0x l n (p:Int) true=0:=by
   unfold Q0x;rw[if_neg (by omega),Int.toNat_natCast,if_neg (by rw[hpr];decide)]
  have hyy:=fun (w:World) (rest:List Q0e)=>hy ks p mem' rest w hm' ⟨t,hpre⟩;obtain⟨a1,a2,a3,hkv⟩:=Q5t (lk p);rw[hkv] at hyy;subst hL;refine Q7o (args:=[.int .i64 p]) H rfl rfl ?_;refine J14 H ?_;refine⟨rfl,_,H,fun w H=>Q0t ?_⟩;replace H:=Js [5,5,5,0,0,0,0,0] 0 H;refine U5c H ?_;refine Jv ?_;refine Jc rfl rfl (V9j ip sp bp size ls mem' own addr i c s n l (hF _ hm').img p (lk p) (fun _=>by rw[Int.toNat_natCast];exact(hF _ hm').link p hpn hpr) (fun h=>absurd hpl h) H) ?_;clear H;rintro v w ⟨rfl,H⟩;rw[hpl,hkv];refine J16 H ?_;clear H;intro b9 w H;refine J4 H ?_;clear H;intro w H;refine J0 H ?_;replace H:=Js [5,1,1,1,1,1,1,1,0] 0 H;refine J81 H ?_;refine G8k H ?_;refine Q0s rfl (V1n rfl rfl (SL.Yields.mono (hyy _ _ H) ?_));clear H;rintro v w ⟨rfl,mem'',hm'',H⟩;refine J17 H ?_;replace H:=Js [4,0,3,3,3,0,0,0] 1 H;exact⟨rfl,_,H,fun w H=>⟨rfl,hin _ _ _ _ hm'' H⟩⟩
 ·clear H;rintro v w H;obtain⟨mem',hm',H⟩:=hout _ _ _ H;subst hL;refine⟨_,H,fun w H=>?_⟩;replace H:=Js [11,0,0,0,1,1,1] 5 H;exact V8k (ms:=[D]) _ (.inl rfl) ((Q0a.star (k:=[pts D (.deferred (some []))])).2 H) rfl fun w' H'=>⟨mem',hm',H'⟩
end Go.Proofs.YtmjdnljneifpcaaGreatDoor
namespace Go.Proofs.YtmjdnljneifpcaaGreatDoor
open Go.SL
def lkE (e:Ent) (p:Nat):Lnk:=Q9d (e.ws.getD p 0)
theorem U0z {s:CS} (h:WF s) {mem:List Nat} (m:Q4p s mem) {k g:Nat} {e:Ent} (hk:s.tab[k]? = some ⟨g,some e⟩):U9s s.lays s.size s.own e.addr e.lay e.count k e.ws.length (Q4d s e) (lkE e) mem:=
 ⟨V4q h m hk, fun p hp hr => by
  have h1:=G1q h hk hp hr;exact⟨h1.1,by rw[Z1u h m hk hp];exact h1.2⟩⟩
end Go.Proofs.YtmjdnljneifpcaaGreatDoor
namespace Go.Proofs.YtmjdnljneifpcaaGreatDoor
open Go.SL
def Far (s:CS) (r:Int×Int) (t:Int):Prop:=∃ (k p g:Nat) (e:Ent) (a b:Nat) (f:Ent),r=((k:Int),(p:Int))∧s.tab[k]? = some ⟨g,some e⟩∧p < e.ws.length∧Q2h (Q4d s e) p=true∧lkE e p = .obj a b∧Q2o s.tab a b=some (a,f)∧f.region≠e.region∧t=a
structure Inv (s:CS):Prop where
 nd:(s.rem.map (·.1)).Nodup
 rem:∀ r t,fnd s.rem r=some t↔Far s r t
 link:∀ (k g:Nat) (e:Ent) (p a b:Nat),s.tab[k]? = some ⟨g,some e⟩→p < e.ws.length→Q2h (Q4d s e) p=true→lkE e p = .obj a b→∃ f,Q2o s.tab a b=some (a,f)
theorem Q3f {ts:List Slt} {a b c:Nat} {f:Ent} (h:Q2o ts a b=some (c,f)):c=a∧ts[a]? = some ⟨b,some f⟩:=by
 obtain⟨n,h1,h2,h3⟩:=Q1k.1 h;obtain rfl:c=a:=by omega
 obtain rfl:n=b:=by omega
 exact⟨rfl,h3⟩
structure G2g (s:CS) (k g:Nat) (e e':Ent):Prop where
 at':s.tab[k]? = some ⟨g,some e⟩
 region:e'.region=e.region
 lay:e'.lay=e.lay
 len:e'.ws.length=e.ws.length
theorem Y3j {s:CS} {k g:Nat} {e e':Ent} (h:s.tab[k]? = some ⟨g,some e⟩) (a b:Nat):Q2o (Q9b s k g e').tab a b=(Q2o s.tab a b).map fun q=>if q.1=k then (k,e') else q:=by
 have hkl:=(List.getElem?_eq_some_iff.1 h).1;cases hl:Q2o s.tab a b with
 | some q=>
  obtain⟨c,f⟩:=q;obtain⟨rfl,hc⟩:=Q3f hl;by_cases hk:c=k
  ·subst hk;rw[h] at hc;injection hc with hc
   injection hc with h1 h2
   subst h1;show _=some (if c=c then (c,e') else _);rw[if_pos rfl];exact Q1k.2 ⟨g,rfl,rfl,List.getElem?_set_self hkl⟩
  ·show _=some (if c=k then (k,e') else (c,f));rw[if_neg hk];exact Q1k.2 ⟨b,rfl,rfl,by show (s.tab.set k _)[c]? = _;rw[List.getElem?_set_ne (Ne.symm hk)];exact hc⟩
 | none=>
  show _=none;cases hl2:Q2o (Q9b s k g e').tab a b with
  | none=>rfl
  | some q=>
   obtain⟨c,f⟩:=q;obtain⟨rfl,hc⟩:=Q3f hl2;have hc:(s.tab.set k ⟨g,some e'⟩)[c]? = some ⟨b,some f⟩:=hc
   rcases Q1i hc with ⟨rfl,h2,_⟩|⟨_,h2⟩
   ·injection h2 with h2 _
    subst h2;rw[Q1k.2 ⟨b,rfl,rfl,h⟩] at hl;cases hl
   ·rw[Q1k.2 ⟨b,rfl,rfl,h2⟩] at hl;cases hl
theorem Y8s {s:CS} {k g:Nat} {e e':Ent} (h:G2g s k g e e') {a b:Nat}:(∃ f,Q2o (Q9b s k g e').tab a b=some (a,f))↔∃ f,Q2o s.tab a b=some (a,f):=by
 rw[Y3j h.at'];constructor
 ·rintro⟨f,hf⟩;rw[Option.map_eq_some_iff] at hf;obtain⟨⟨c,f'⟩,h1,_⟩:=hf;obtain⟨rfl,_⟩:=Q3f h1;exact⟨f',h1⟩
 ·rintro⟨f,hf⟩;rw[hf];by_cases hk:a=k
  ·exact⟨e',by show some (if a=k then (k,e') else (a,f))=_;rw[if_pos hk,hk]⟩
  ·exact⟨f,by show some (if a=k then (k,e') else (a,f))=_;rw[if_neg hk]⟩
theorem V8e {s:CS} {k g:Nat} {e e':Ent} (h:G2g s k g e e') {a b:Nat} {P:Int→Prop}:(∃ f,Q2o (Q9b s k g e').tab a b=some (a,f)∧P f.region)↔∃ f,Q2o s.tab a b=some (a,f)∧P f.region:=by
 rw[Y3j h.at'];constructor
 ·rintro⟨f,hf,hp⟩;rw[Option.map_eq_some_iff] at hf;obtain⟨⟨c,f'⟩,h1,h2⟩:=hf;obtain⟨rfl,h3⟩:=Q3f h1;refine⟨f',h1,?_⟩;by_cases hk:c=k
  ·subst hk;rw[if_pos rfl] at h2;injection h2 with _ h2
   subst h2;rw[h.at'] at h3;injection h3 with h3
   injection h3 with _ h3
   injection h3 with h3
   subst h3;rw[h.region] at hp;exact hp
  ·rw[if_neg hk] at h2;injection h2 with _ h2
   subst h2;exact hp
 ·rintro⟨f,hf,hp⟩;rw[hf];by_cases hk:a=k
  ·subst hk;obtain⟨_,h3⟩:=Q3f hf;rw[h.at'] at h3;injection h3 with h3
   injection h3 with _ h3
   injection h3 with h3
   subst h3;exact⟨e',by show some (if a=a then (a,e') else (a,e))=_;rw[if_pos rfl],by rw[h.region];exact hp⟩
  ·exact⟨f,by show some (if a=k then (k,e') else (a,f))=_;rw[if_neg hk],hp⟩
theorem Z5e {s:CS} (hI:Inv s) {k g:Nat} {e e':Ent} (h:G2g s k g e e') (hl:∀ p,p < e.ws.length→Q2h (Q4d s e) p=true→lkE e' p=lkE e p):Inv (Q9b s k g e'):=by
 have hkl:=(List.getElem?_eq_some_iff.1 h.at').1;have hlay:∀ f,Q4d (Q9b s k g e') f=Q4d s f:=fun _=>rfl;have hle:Q4d s e'=Q4d s e:=by unfold Q4d;rw[h.lay]
 refine⟨hI.nd,fun r t=>?_,?_⟩
 ·show fnd s.rem r=some t↔_;rw[hI.rem];constructor
  ·rintro⟨j,p,g1,e1,a,b,f,rfl,h1,h2,h3,h4,h5,h6,rfl⟩;obtain⟨f',h5',h6'⟩:=(V8e (P:=fun r=>r≠e1.region) h).2 ⟨f,h5,h6⟩;by_cases hj:j=k
   ·subst hj;rw[h.at'] at h1;injection h1 with h1
    injection h1 with h0 h1
    injection h1 with h1
    subst h0 h1;exact⟨j,p,g,e',a,b,f',rfl,List.getElem?_set_self hkl,by rw[h.len];exact h2,by rw[hlay,hle];exact h3,by rw[hl p h2 h3];exact h4,h5',by rw[h.region];exact h6',rfl⟩
   ·exact⟨j,p,g1,e1,a,b,f',rfl,by show (s.tab.set k _)[j]? = _;rw[List.getElem?_set_ne (Ne.symm hj)];exact h1,h2,h3,h4,h5',h6',rfl⟩
  ·rintro⟨j,p,g1,e1,a,b,f,rfl,h1,h2,h3,h4,h5,h6,rfl⟩;have h1:(s.tab.set k ⟨g,some e'⟩)[j]? = some ⟨g1,some e1⟩:=h1;obtain⟨f',h5',h6'⟩:=(V8e (P:=fun r=>r≠e1.region) h).1 ⟨f,h5,h6⟩
   rcases Q1i h1 with ⟨rfl,h7,_⟩|⟨_,h7⟩
   ·injection h7 with h0 h7
    injection h7 with h7
    subst h0 h7;rw[hlay,hle] at h3;rw[h.len] at h2;rw[hl p h2 h3] at h4;rw[h.region] at h6';exact⟨j,p,g1,e,a,b,f',rfl,h.at',h2,h3,h4,h5',h6',rfl⟩
   ·exact⟨j,p,g1,e1,a,b,f',rfl,h7,h2,h3,h4,h5',h6',rfl⟩
 ·intro j g1 e1 p a b h1 h2 h3 h4;have h1:(s.tab.set k ⟨g,some e'⟩)[j]? = some ⟨g1,some e1⟩:=h1;rw[Y8s h]
  rcases Q1i h1 with ⟨rfl,h7,_⟩|⟨_,h7⟩
  ·injection h7 with h0 h7
   injection h7 with h7
   subst h0 h7;rw[hlay,hle] at h3;rw[h.len] at h2;rw[hl p h2 h3] at h4;exact hI.link j g1 e p a b h.at' h2 h3 h4
  ·exact hI.link j g1 e1 p a b h7 h2 h3 h4
end Go.Proofs.YtmjdnljneifpcaaGreatDoor
namespace Go.Proofs.YtmjdnljneifpcaaGreatDoor
open Go.SL
theorem G6g {s:CS} {k g:Nat} {e e':Ent} (h:G2g s k g e e') {r:Int×Int} {t:Int} (hl:∀ p:Nat,r=((k:Int),(p:Int))→lkE e' p=lkE e p):Far (Q9b s k g e') r t↔Far s r t:=by
 have hkl:=(List.getElem?_eq_some_iff.1 h.at').1;have hlay:∀ f,Q4d (Q9b s k g e') f=Q4d s f:=fun _=>rfl;have hle:Q4d s e'=Q4d s e:=by unfold Q4d;rw[h.lay]
 constructor
 ·rintro⟨j,p,g1,e1,a,b,f,rfl,h1,h2,h3,h4,h5,h6,rfl⟩;have h1:(s.tab.set k ⟨g,some e'⟩)[j]? = some ⟨g1,some e1⟩:=h1;obtain⟨f',h5',h6'⟩:=(V8e (P:=fun r=>r≠e1.region) h).1 ⟨f,h5,h6⟩
  rcases Q1i h1 with ⟨rfl,h7,_⟩|⟨_,h7⟩
  ·injection h7 with h0 h7
   injection h7 with h7
   subst h0 h7;rw[hlay,hle] at h3;rw[h.len] at h2;rw[hl p rfl] at h4;rw[h.region] at h6';exact⟨j,p,g1,e,a,b,f',rfl,h.at',h2,h3,h4,h5',h6',rfl⟩
  ·exact⟨j,p,g1,e1,a,b,f',rfl,h7,h2,h3,h4,h5',h6',rfl⟩
 ·rintro⟨j,p,g1,e1,a,b,f,rfl,h1,h2,h3,h4,h5,h6,rfl⟩;obtain⟨f',h5',h6'⟩:=(V8e (P:=fun r=>r≠e1.region) h).2 ⟨f,h5,h6⟩;by_cases hj:j=k
  ·subst hj;rw[h.at'] at h1;injection h1 with h1
   injection h1 with h0 h1
   injection h1 with h1
   subst h0 h1;exact⟨j,p,g,e',a,b,f',rfl,List.getElem?_set_self hkl,by rw[h.len];exact h2,by rw[hlay,hle];exact h3,by rw[hl p rfl];exact h4,h5',by rw[h.region];exact h6',rfl⟩
  ·exact⟨j,p,g1,e1,a,b,f',rfl,by show (s.tab.set k _)[j]? = _;rw[List.getElem?_set_ne (Ne.symm hj)];exact h1,h2,h3,h4,h5',h6',rfl⟩
theorem Z2g {e:Ent} {p q x:Nat} (h:q≠p):lkE { e with ws:=e.ws.set p x } q=lkE e q:=by
 unfold lkE;show Q9d ((e.ws.set p x).getD q 0)=_;rw[List.getD_eq_getElem?_getD,List.getElem?_set_ne (Ne.symm h),List.getD_eq_getElem?_getD]
theorem Z2h {e:Ent} {p:Nat} {l:Lnk} (hl:okL l) (hp:p < e.ws.length):lkE { e with ws:=e.ws.set p (Q3v l) } p=l:=by
 unfold lkE;show Q9d ((e.ws.set p (Q3v l)).getD p 0)=_;rw[List.getD_eq_getElem?_getD,List.getElem?_set_self hp,Option.getD_some,Y2z hl]
theorem G6h {s:CS} (hI:Inv s) {k g p x:Nat} {e:Ent} (hk:s.tab[k]? = some ⟨g,some e⟩) (hr:Q2h (Q4d s e) p=false):Inv (Q9b s k g { e with ws:=e.ws.set p x }):=
 Z5e (e':={ e with ws:=e.ws.set p x }) hI ⟨hk,rfl,rfl,by show (e.ws.set p x).length=_;rw[List.length_set]⟩ fun q hq hrq=>Z2g (by rintro rfl;rw[hr] at hrq;cases hrq)
theorem Y0a {s:CS} (hI:Inv s) {k g:Nat} {e e':Ent} (hk:s.tab[k]? = some ⟨g,some e⟩) (h1:e'.region=e.region) (h2:e'.lay=e.lay) (h3:e'.ws=e.ws):Inv (Q9b s k g e'):=
 Z5e hI ⟨hk,h1,h2,by rw[h3]⟩ fun q _ _=>by unfold lkE;rw[h3]
theorem Y0b {s:CS} (h:(s.rem.map (·.1)).Nodup) (k:Nat) (e:Ent) (p:Int) (l:Lnk):((Q7w s k e p l).map (·.1)).Nodup:=by
 unfold Q7w
 repeat' split
 ·exact V3m (Q4y h)
 ·exact Q4y h
 ·exact Q4y h
 ·exact Q4y h
theorem Y0c {s:CS} (h:(s.rem.map (·.1)).Nodup) {k:Nat} {e:Ent} {p:Int} {l:Lnk} {r:Int×Int} (hr:r≠((k:Int),p)):fnd (Q7w s k e p l) r=fnd s.rem r:=by
 have h1:fnd (era s.rem ((k:Int),p)) r=fnd s.rem r:=by rw[Q9a h,if_neg (Ne.symm hr)]
 unfold Q7w
 repeat' split
 ·rw[Q7c,if_neg (Ne.symm hr),h1]
 ·exact h1
 ·exact h1
 ·exact h1
theorem Y8t {s:CS} (h:(s.rem.map (·.1)).Nodup) {k:Nat} {e:Ent} {p:Int} {l:Lnk} {t:Int}:fnd (Q7w s k e p l) ((k:Int),p)=some t↔∃ (a b:Nat) (f:Ent),l = .obj a b∧Q2o s.tab a b=some (a,f)∧f.region≠e.region∧t=a:=by
 have h1:fnd (era s.rem ((k:Int),p)) ((k:Int),p)=none:=by rw[Q9a h,if_pos rfl]
 cases l with
 | none=>rw[show Q7w s k e p .none=era s.rem ((k:Int),p) from rfl,h1];exact⟨fun h=>(by cases h),fun ⟨_,_,_,h,_⟩=>(by cases h)⟩
 | grave=>rw[show Q7w s k e p .grave=era s.rem ((k:Int),p) from rfl,h1];exact⟨fun h=>(by cases h),fun ⟨_,_,_,h,_⟩=>(by cases h)⟩
 | obj a b=>
  cases hl:Q2o s.tab a b with
  | none=>
   rw[V2z hl,h1];refine⟨fun h=>(by cases h),?_⟩;rintro⟨a',b',f,h2,h3,_⟩;injection h2 with h2 h2'
   subst h2 h2';rw[hl] at h3;cases h3
  | some q=>
   obtain⟨c,f⟩:=q;obtain⟨rfl,_⟩:=Q3f hl;rw[Q9m hl];split
   ·rename_i hne;rw[Q7c,if_pos rfl];constructor
    ·intro h2;injection h2 with h2
     exact⟨c,b,f,rfl,hl,hne,h2.symm⟩
    ·rintro⟨a',b',f',h2,h3,h4,rfl⟩;injection h2 with h2 h2'
     rw[h2]
   ·rename_i hne;rw[h1];refine⟨fun h=>(by cases h),?_⟩;rintro⟨a',b',f',h2,h3,h4,rfl⟩;injection h2 with h2 h2'
    subst h2 h2';rw[hl] at h3;injection h3 with h3
    injection h3 with _ h3
    subst h3;exact absurd h4 hne
theorem U1a {s:CS} (hI:Inv s) {k g p:Nat} {e:Ent} {l:Lnk} (hk:s.tab[k]? = some ⟨g,some e⟩) (hp:p < e.ws.length) (hr:Q2h (Q4d s e) p=true) (hl:okL l) (ht:∀ a b,l = .obj a b→∃ f,Q2o s.tab a b=some (a,f)) :
  Inv { Q9b s k g { e with ws:=e.ws.set p (Q3v l) } with rem:=Q7w (Q9b s k g { e with ws:=e.ws.set p (Q3v l) }) k { e with ws:=e.ws.set p (Q3v l) } p l }:=by
 have hlen:({ e with ws:=e.ws.set p (Q3v l) }:Ent).ws.length=e.ws.length:=by show (e.ws.set p _).length=_;rw[List.length_set]
 have hS:G2g s k g e { e with ws:=e.ws.set p (Q3v l) }:=⟨hk,rfl,rfl,hlen⟩;have hkl:=(List.getElem?_eq_some_iff.1 hk).1;have hle:Q4d s { e with ws:=e.ws.set p (Q3v l) }=Q4d s e:=rfl;refine⟨Y0b (s:=Q9b s k g _) hI.nd _ _ _ _,fun r t=>?_,?_⟩
 ·show fnd (Q7w _ k _ p l) r=some t↔Far (Q9b s k g _) r t;by_cases hrp:r=((k:Int),(p:Int))
  ·subst hrp;rw[Y8t (s:=Q9b s k g _) hI.nd];constructor
   ·rintro⟨a,b,f,rfl,h1,h2,rfl⟩;exact⟨k,p,g,_,a,b,f,rfl,List.getElem?_set_self hkl,by rw[hlen];exact hp,hr,Z2h hl hp,h1,h2,rfl⟩
   ·rintro⟨j,q,g1,e1,a,b,f,hq,h1,h2,h3,h4,h5,h6,rfl⟩;injection hq with hq1 hq2
    obtain rfl:k=j:=by omega
    obtain rfl:p=q:=by omega
    replace h1:(s.tab.set k _)[k]? = some ⟨g1,some e1⟩:=h1;rw[List.getElem?_set_self hkl] at h1;injection h1 with h1
    injection h1 with h0 h1
    injection h1 with h1
    subst h0 h1;rw[Z2h hl hp] at h4;exact⟨a,b,f,h4,h5,h6,rfl⟩
  ·rw[Y0c (s:=Q9b s k g _) hI.nd hrp,G6g hS fun q hq=>Z2g (by rintro rfl;exact hrp hq)];exact hI.rem r t
 ·intro j g1 e1 q a b h1 h2 h3 h4;have h1:(s.tab.set k _)[j]? = some ⟨g1,some e1⟩:=h1;show ∃ f,Q2o (Q9b s k g _).tab a b=_;rw[Y8s hS]
  rcases Q1i h1 with ⟨rfl,h7,_⟩|⟨_,h7⟩
  ·injection h7 with h0 h7
   injection h7 with h7
   subst h0 h7;by_cases hq:q=p
   ·subst hq;rw[Z2h hl hp] at h4;exact ht a b h4
   ·rw[Z2g hq] at h4;exact hI.link j g1 e q a b hk (by rw[← hlen];exact h2) h3 h4
  ·exact hI.link j g1 e1 q a b h7 h2 h3 h4
theorem Y8u {s:CS} (hI:Inv s) (i g p:Int) (x:Nat):Inv (V5x s i g p x).1:=by
 cases hv:Q1p s.tab i g with
 | none=>rw[Q9h hv];exact hI
 | some q=>
  obtain⟨k,e⟩:=q;obtain⟨n,rfl,rfl,hk,_⟩:=Q3l hv;rw[Q9i hv];split
  ·rename_i h0;obtain⟨j,rfl,hj,hr⟩:=Q3b h0;exact G6h hI hk hr
  ·exact hI
theorem G2h {s:CS} (hI:Inv s) (i g:Int):Inv (V5z s i g).1:=by
 cases hv:Q1p s.tab i g with
 | none=>rw[Q9k hv];exact hI
 | some q=>
  obtain⟨k,e⟩:=q;obtain⟨n,rfl,rfl,hk,_⟩:=Q3l hv;rw[Q9l hv,Int.toNat_natCast];exact Y0a hI hk rfl rfl rfl
theorem G6i {s:CS} (hI:Inv s) (i g:Int) (on:Bool):Inv (Z7l s i g on).1:=by
 cases hv:Q1p s.tab i g with
 | none=>rw[V1h hv];exact hI
 | some q=>
  obtain⟨k,e⟩:=q;obtain⟨n,rfl,rfl,hk,_⟩:=Q3l hv;rw[V1i hv];split
  ·exact hI
  ·rw[Int.toNat_natCast];exact Y0a hI hk rfl rfl rfl
theorem Z5f {s:CS} (hI:Inv s) (i g p:Int) {l:Lnk} (hl:okL l) (ht:∀ a b,l = .obj a b→∃ f,Q2o s.tab a b=some (a,f)):Inv (Z0p s i g p l).1:=by
 cases hv:Q1p s.tab i g with
 | none=>rw[V1j hv];exact hI
 | some q=>
  obtain⟨k,e⟩:=q;obtain⟨n,rfl,rfl,hk,_⟩:=Q3l hv;rw[Q8r hv];split
  ·rename_i h0;obtain⟨j,rfl,hj,hr⟩:=Q3b h0;exact U1a hI hk hj hr hl ht
  ·exact hI
theorem Z5g {s:CS} (hw:WF s) (hI:Inv s) (i g p u v:Int):Inv (V8b s i g p u v).1:=by
 unfold V8b;split
 ·exact hI
 ·split
  ·exact hI
  ·rename_i _ hn;cases hv:Q1p s.tab u v with
   | none=>rw[hv] at hn;exact absurd rfl hn
   | some q=>
    obtain⟨k,e⟩:=q;obtain⟨n,rfl,rfl,hk,_⟩:=Q3l hv;refine Z5f hI i g p (G1v hw hk) fun a b hab=>?_;injection hab with h1 h2
    rw[Int.toNat_natCast] at h1 h2;subst h1 h2;exact⟨e,Q1k.2 ⟨n,rfl,rfl,hk⟩⟩
theorem G6j {s:CS} (hI:Inv s) (i g p:Int):Inv (Y3b s i g p):=by
 unfold Y3b;split
 ·rename_i a b _;cases hl:Q2o s.tab a b with
  | none=>rw[Q9n hl];exact hI
  | some q=>
   obtain⟨k,e⟩:=q;obtain⟨n,h1,h2,hk⟩:=Q1k.1 hl;obtain rfl:b=n:=by omega
   rw[Q9o hl];exact Y0a hI hk rfl rfl rfl
 ·exact hI
theorem G6k {s:CS} (hw:WF s) (hI:Inv s) (x:Lay):Inv { s with lays:=s.lays++[x] }:=by
 have hle:∀ (k g:Nat) (e:Ent),s.tab[k]? = some ⟨g,some e⟩→Q4d { s with lays:=s.lays++[x] } e=Q4d s e:=by
  intro k g e hk;obtain⟨⟨_,l,h1,_⟩,_⟩:=hw.obj k g e hk;show ((s.lays++[x])[e.lay - 1]?).getD _=_;unfold Q4d;rw[List.getElem?_append_left (List.getElem?_eq_some_iff.1 h1).1]
 refine⟨hI.nd,fun r t=>?_,fun j g1 e1 q a b h1 h2 h3 h4=>hI.link j g1 e1 q a b h1 h2 (by rw[hle _ _ _ h1] at h3;exact h3) h4⟩;show fnd s.rem r=some t↔_;rw[hI.rem];constructor
 ·rintro⟨j,p,g1,e1,a,b,f,rfl,h1,h2,h3,h4⟩;exact⟨j,p,g1,e1,a,b,f,rfl,h1,h2,by rw[hle _ _ _ h1];exact h3,h4⟩
 ·rintro⟨j,p,g1,e1,a,b,f,rfl,h1,h2,h3,h4⟩;rw[hle _ _ _ h1] at h3;exact⟨j,p,g1,e1,a,b,f,rfl,h1,h2,h3,h4⟩
theorem G6l {s:CS} (hw:WF s) (hI:Inv s) (ws:List Nat):Inv (Z7n s ws).1:=by
 cases hd:Q4k ws with
 | none=>rw[V1k hd];exact hI
 | some l=>
  rw[Q9p hd];split
  ·exact hI
  ·exact G6k hw hI l
theorem G2i {s:CS} (hI:Inv s) (q:Int) (b b2:Nat):Inv (Z1x s q b b2):=⟨hI.nd,hI.rem,hI.link⟩
theorem Z5h {s s':CS} (hI:Inv s) {k g0 n:Nat} {e0:Ent} (hk:s.tab[k]? = some ⟨g0,none⟩) (h1:s'.lays=s.lays) (h2:s'.rem=s.rem) (h3:s'.tab=s.tab.set k ⟨g0+1,some e0⟩) (h0:e0.ws=List.replicate n 0):Inv s':=by
 have hkl:=(List.getElem?_eq_some_iff.1 hk).1;have hle:∀ e,Q4d s' e=Q4d s e:=fun e=>by unfold Q4d;rw[h1]
 have hz:∀ p,lkE e0 p = .none:=fun p=>by
  unfold lkE;rw[h0,List.getD_eq_getElem?_getD,List.getElem?_replicate];split <;> rfl
 have hup:∀ {a b:Nat} {f:Ent},Q2o s.tab a b=some (a,f)→Q2o s'.tab a b=some (a,f):=fun {a b f} hf=>by
  obtain⟨_,hf'⟩:=Q3f hf;refine Q1k.2 ⟨b,rfl,rfl,?_⟩;rw[h3,List.getElem?_set_ne (by rintro rfl;rw[hk] at hf';cases hf')];exact hf'
 have hat:∀ {j g1:Nat} {e1:Ent},s.tab[j]? = some ⟨g1,some e1⟩→s'.tab[j]? = some ⟨g1,some e1⟩:=fun {j g1 e1} hj=>by
  rw[h3,List.getElem?_set_ne (by rintro rfl;rw[hk] at hj;cases hj)];exact hj
 refine⟨by rw[h2];exact hI.nd,fun r t=>?_,?_⟩
 ·rw[h2,hI.rem];constructor
  ·rintro⟨j,p,g1,e1,a,b,f,rfl,q1,q2,q3,q4,q5,q6,rfl⟩;exact⟨j,p,g1,e1,a,b,f,rfl,hat q1,q2,by rw[hle];exact q3,q4,hup q5,q6,rfl⟩
  ·rintro⟨j,p,g1,e1,a,b,f,rfl,q1,q2,q3,q4,q5,q6,rfl⟩;rw[h3] at q1
   rcases Q1i q1 with ⟨rfl,q7,_⟩|⟨_,q7⟩
   ·injection q7 with _ q7
    injection q7 with q7
    subst q7;rw[hz] at q4;cases q4
   ·rw[hle] at q3;obtain⟨f',hf'⟩:=hI.link j g1 e1 p a b q7 q2 q3 q4;have h5:=hup hf';rw[q5] at h5;injection h5 with h5
    injection h5 with _ h5
    subst h5;exact⟨j,p,g1,e1,a,b,f,rfl,q7,q2,q3,q4,hf',q6,rfl⟩
 ·intro j g1 e1 p a b q1 q2 q3 q4;rw[h3] at q1
  rcases Q1i q1 with ⟨rfl,q7,_⟩|⟨_,q7⟩
  ·injection q7 with _ q7
   injection q7 with q7
   subst q7;rw[hz] at q4;cases q4
  ·rw[hle] at q3;obtain⟨f',hf'⟩:=hI.link j g1 e1 p a b q7 q2 q3 q4;exact⟨f',hup hf'⟩
theorem Y8v {s:CS} (h1:s.rem=[]) (h2:∀ (k g:Nat) (e:Ent),s.tab[k]? ≠ some ⟨g,some e⟩):Inv s:=
 ⟨by rw[h1];exact List.nodup_nil,fun r t=>⟨fun h=>(by rw[h1] at h;cases h),fun ⟨k,p,g,e,_,_,_,_,h,_⟩=>absurd h (h2 k g e)⟩,fun k g e _ _ _ h=>absurd h (h2 k g e)⟩
theorem G2j {n:Nat} (k g:Nat) (e:Ent):(List.replicate n (⟨0,none⟩:Slt))[k]? ≠ some ⟨g,some e⟩:=by
 intro h;rw[List.getElem?_replicate] at h;split at h
 ·injection h with h
  injection h with _ h
  cases h
 ·cases h
end Go.Proofs.YtmjdnljneifpcaaGreatDoor
namespace Go.Proofs.YtmjdnljneifpcaaGreatDoor
open Go.SL
structure Q5d (par:List (Int×Int)):Prop where
 nd:(par.map (·.1)).Nodup
 up:∀ r q,fnd par r=some q→0≤q∧q < r∧(q=0∨(fnd par q).isSome=true)
inductive Y3k (par:List (Int×Int)) (id:Int):Int→Prop
 | self:Y3k par id id
 | kid {c k:Int}:Y3k par id k→fnd par c=some k→Y3k par id c
theorem Y3k.ge {par:List (Int×Int)} (h:Q5d par) {id c:Int} (d:Y3k par id c):id≤c:=by
 induction d with
 | self=>exact Int.le_refl _
 | kid _ hf ih=>have:=(h.up _ _ hf).2.1;omega
theorem Y3k.live {par:List (Int×Int)} {id c:Int} (hid:(fnd par id).isSome=true) (d:Y3k par id c):(fnd par c).isSome=true:=by
 cases d with
 | self=>exact hid
 | kid _ hf=>rw[hf];rfl
theorem Y3k.inv {par:List (Int×Int)} {id c:Int} (d:Y3k par id c):c=id∨∃ k,fnd par c=some k∧Y3k par id k:=by
 cases d with
 | self=>exact .inl rfl
 | kid hk hf=>exact .inr ⟨_,hf,hk⟩
structure Bfs (par:List (Int×Int)) (id:Int) (l:List Int) (i:Nat):Prop where
 nd:l.Nodup
 le:i≤l.length
 desc:∀ c∈l,Y3k par id c
 mem:∀ c,c∈l↔c=id∨∃ k∈l.take i,fnd par c=some k
theorem Bfs.start (par:List (Int×Int)) (id:Int):Bfs par id [id] 0:=
 ⟨by simp,by simp,fun c hc=>by rw[List.mem_singleton] at hc;subst hc;exact .self,fun c=>by simp⟩
theorem Bfs.step {par:List (Int×Int)} (h:Q5d par) {id:Int} {l K:List Int} {i:Nat} (b:Bfs par id l i) {x:Int} (hx:l[i]? = some x) (hK:K.Nodup) (hm:∀ c,c∈K↔fnd par c=some x):Bfs par id (l++K) (i+1):=by
 have hil:=(List.getElem?_eq_some_iff.1 hx).1
 have htk:(l++K).take (i+1)=l.take i++[x]:=by
  rw[List.take_append_of_le_length (by omega),List.take_add_one,hx];rfl
 have hxl:=List.mem_of_getElem? hx
 have hnt:x∉l.take i:=fun hh=>by
  obtain⟨j,hj⟩:=List.getElem?_of_mem hh;rw[List.getElem?_take] at hj;split at hj
  ·rename_i hji;obtain⟨hj1,hj2⟩:=List.getElem?_eq_some_iff.1 hj;obtain⟨_,hx2⟩:=List.getElem?_eq_some_iff.1 hx;exact(List.pairwise_iff_getElem.1 b.nd) j i hj1 hil hji (hj2.trans hx2.symm)
  ·cases hj
 refine⟨?_,by rw[List.length_append];omega,fun c hc=>?_,fun c=>?_⟩
 ·rw[List.nodup_append];refine⟨b.nd,hK,fun a ha c hc hac=>?_⟩;subst hac;have hf:=(hm a).1 hc
  rcases (b.mem a).1 ha with rfl|⟨k,hk,hk2⟩
  ·have:=(b.desc x hxl).ge h;have:=(h.up _ _ hf).2.1;omega
  ·rw[hf] at hk2;injection hk2 with hk2
   subst hk2;exact hnt hk
 ·rcases List.mem_append.1 hc with hc|hc
  ·exact b.desc c hc
  ·exact .kid (b.desc x hxl) ((hm c).1 hc)
 ·rw[htk,List.mem_append,b.mem,hm];constructor
  ·rintro((h1|⟨k,hk,h1⟩)|h1)
   ·exact .inl h1
   ·exact .inr ⟨k,List.mem_append.2 (.inl hk),h1⟩
   ·exact .inr ⟨x,by simp,h1⟩
  ·rintro(h1|⟨k,hk,h1⟩)
   ·exact .inl (.inl h1)
   ·rcases List.mem_append.1 hk with hk|hk
    ·exact .inl (.inr ⟨k,hk,h1⟩)
    ·rw[List.mem_singleton] at hk;subst hk;exact .inr h1
theorem Bfs.ends {par:List (Int×Int)} {id:Int} {l:List Int} (b:Bfs par id l l.length) (c:Int):c∈l↔Y3k par id c:=by
 refine⟨b.desc c,fun d=>?_⟩
 induction d with
 | self=>exact(b.mem _).2 (.inl rfl)
 | kid _ hf ih=>exact(b.mem _).2 (.inr ⟨_,by rw[List.take_length];exact ih,hf⟩)
theorem Bfs.len {par:List (Int×Int)} {id:Int} (hid:(fnd par id).isSome=true) {l:List Int} {i:Nat} (b:Bfs par id l i):l.length≤par.length:=by
 have:=Q3e b.nd (l₂:=par.map (·.1)) (fun c hc=>by
  have h1:=(b.desc c hc).live hid;cases hf:fnd par c with
  | none=>rw[hf] at h1;cases h1
  | some q=>exact List.mem_map.2 ⟨(c,q),Q7d hf,rfl⟩)
 rwa [List.length_map] at this
end Go.Proofs.YtmjdnljneifpcaaGreatDoor
namespace Go.Proofs.YtmjdnljneifpcaaGreatDoor
open Go.SL
theorem V7a {par:List (Int×Int)} (h:Q5d par) {last:Nat} {r:Int} (hr:r=0∨(fnd par r).isSome=true) (h0:0≤r) (hl:∀ x q,(x,q)∈par→x≤(last:Int)) (hrl:r≤last):Q5d (par++[(((last+1:Nat):Int),r)]):=by
 have hn:((last+1:Nat):Int)∉par.map (·.1):=fun h1=>by
  obtain⟨⟨x,q⟩,h2,h3⟩:=List.mem_map.1 h1;have h3:x=((last+1:Nat):Int):=h3;have:=hl x q h2;omega
 have hf:∀ x,fnd (par++[(((last+1:Nat):Int),r)]) x=if x=((last+1:Nat):Int) then some r else fnd par x:=fun x=>by
  rw[← Q7j hn,Q7c];by_cases h1:x=((last+1:Nat):Int)
  ·rw[if_pos h1,if_pos h1.symm]
  ·rw[if_neg h1,if_neg (fun h=>h1 h.symm)]
 have hlive:∀ x,(fnd par x).isSome=true→(fnd (par++[(((last+1:Nat):Int),r)]) x).isSome=true:=fun x h1=>by
  rw[hf];split
  ·rfl
  ·exact h1
 refine⟨?_,fun x q hx=>?_⟩
 ·rw[List.map_append,List.nodup_append];refine⟨h.nd,by simp,fun a ha b hb hab=>?_⟩;simp at hb;subst hab;subst hb;exact hn (by simpa using ha)
 ·rw[hf] at hx;split at hx
  ·injection hx with hx
   subst hx;rename_i h1;exact⟨h0,by omega,hr.imp id (hlive _)⟩
  ·obtain⟨a,b,c⟩:=h.up x q hx;exact⟨a,b,c.imp id (hlive _)⟩
theorem Z2i {par:List (Int×Int)} (h:Q5d par) {last:Nat} {r:Int} (he:Q5l par r=0) (hl:∀ x q,(x,q)∈par→1≤x∧x≤(last:Int)):Q5d (par++[(((last+1:Nat):Int),r)]):=by
 have hr:r=0∨(fnd par r).isSome=true:=by
  unfold Q5l at he;split at he
  ·cases he
  ·rename_i h1;by_cases h2:r=0
   ·exact .inl h2
   ·cases hf:(fnd par r).isSome with
    | true=>exact .inr rfl
    | false=>exact absurd ⟨h2,hf⟩ h1
 have h0:0≤r∧r≤(last:Int):=by
  rcases hr with h1|h1
  ·omega
  ·obtain⟨⟨x,q⟩,h2,h3⟩:=List.mem_map.1 (Q4l h1);have h3:x=r:=h3;have:=hl x q h2;omega
 exact V7a h hr h0.1 (fun x q hx=>(hl x q hx).2) h0.2
end Go.Proofs.YtmjdnljneifpcaaGreatDoor
namespace Go.SL
section
variable {P:Program} {n:Nat} {r:Option Nat} {ops:Array Oper} {σ:Env} {w:World}
variable {ivs:List (List Nat×(World→Prop))} {T:Env→World→Prop} {f:Nat} {L:Array Bool}
variable {u:TypeId} {p:String} {af:Array Edge} {g:Option (Nat×Bool)} {d:Option Tmp} {x y:Operand}
end
end Go.SL
namespace Go.Proofs.YtmjdnljneifpcaaGreatDoor
open Go.SL
def Q3d (ts:List Slt):List (Nat×Bool):=ts.map fun t=>(t.gen,t.ent.isSome)
theorem V1l {ts:List Slt} {k g:Nat} {e e':Ent} (h:ts[k]? = some ⟨g,some e⟩):Q3d (ts.set k ⟨g,some e'⟩)=Q3d ts:=by
 unfold Q3d;rw[List.map_set];apply List.ext_getElem?;intro i;rw[List.getElem?_set];split
 ·rename_i hi;subst hi;have:=(List.getElem?_eq_some_iff.1 h).1;rw[List.getElem?_map,h];simp[this]
 ·rfl
structure U5m (s:CS) (m:MS) (told:List (Nat×Nat)) (s':CS) (m':MS) (told':List (Nat×Nat)):Prop where
 P:m'.P.length≤m.P.length+1
 objs:m'.objs.length≤m.objs.length+1
 tab:(told'=told∧Q3d s'.tab=Q3d s.tab)∨∃ k g0:Nat,told'=told++[(k,g0+1)]∧s.tab[k]? = some ⟨g0,none⟩∧(∀ (j:Nat) (t:Slt),j < k→s.tab[j]? = some t→busy t=true)∧Q3d s'.tab=(Q3d s.tab).set k (g0+1,true)
 inv:Inv s→Inv s'
 tree:Q5d s.par→Q5d s'.par:=by exact id
 part:Q3n s→Q3n s':=by exact id
def U9j (s:CS) (region id count:Int) (i g e:Nat) (s':CS):Prop:=
 (Q9q s region id count≠0∧i=0∧g=0∧e=Q9q s region id count∧s'=s) ∨
 (Q9q s region id count=0∧(∀ t∈s.tab,busy t=true)∧i=0∧g=0∧e=12∧s'=s) ∨
 (Q9q s region id count=0∧(∀ a,a+(Q6x s id count / s.size+1)≤s.own.length→∃ i,a≤i∧i < a+(Q6x s id count / s.size+1)∧s.own.getD i 0≠0)∧i=0∧g=0∧e=11∧s'=s) ∨
 (Q9q s region id count = 0 ∧ e = 0 ∧ ∃ g0 addr, s.tab[i]? = some ⟨g0, none⟩ ∧ g0 ≤ 254 ∧ (∀ (j : Nat) (t : Slt), j < i → s.tab[j]? = some t → busy t = true) ∧ g = g0 + 1 ∧
  s'.size=s.size∧s'.lays=s.lays∧s'.last=s.last∧s'.par=s.par∧s'.rem=s.rem∧s'.tab=s.tab.set i ⟨g0+1,some ⟨addr,region,true,false,id.toNat,count.toNat,List.replicate (Q6x s id count) 0⟩⟩∧G6c s.own s'.own (Q6x s id count / s.size+1)∧(Q3n s→Q3n s'))
theorem G6m (x y:Int×Int):(if Q6w BinOp.eql=true then decide (x=y) else !decide (x=y))=decide (x=y):=if_pos rfl
theorem V8f [Q0i] (p:Nat) (s:CS) (region id count:Int) {w:World} {fr:List Q0e} [hT:Q4t 0 Lib.deBruijn64tab fr] (H:Q0a w (Q2z p s::fr)) :
  Calls Tryz.prog 31 #[pp p,.int .i64 region,.int .i64 id,.int .i64 count] w (ret fun v w'=>∃ i g e s',v = .tuple #[tkn i g,.int .i64 (e:Nat)]∧U9j s region id count i g e s'∧Q0a w' (Q2z p s'::fr)):=by
 refine call (G1x p s region id count H) ?_;rintro v w (⟨h1,rfl,H⟩|⟨h1,h2,rfl,H⟩|⟨h1,h2,rfl,H⟩|⟨h1,k,g0,addr,s',h2,h3,h4,rfl,h5,h6,h7,h8,h9,h10,h11,h12,H⟩)
 ·exact⟨0,0,Q9q s region id count,s,rfl,.inl ⟨h1,rfl,rfl,rfl,rfl⟩,H⟩
 ·exact⟨0,0,12,s,rfl,.inr (.inl ⟨h1,h2,rfl,rfl,rfl,rfl⟩),H⟩
 ·exact⟨0,0,11,s,rfl,.inr (.inr (.inl ⟨h1,h2,rfl,rfl,rfl,rfl⟩)),H⟩
 ·exact⟨k,g0+1,0,s',rfl,.inr (.inr (.inr ⟨h1,rfl,g0,addr,h2,h3,h4,rfl,h5,h6,h7,h8,h9,h10,h11,h12⟩)),H⟩
theorem G2k [Q0i] (p c mo:Nat) (a:Option Addr) (cap:Nat) (s:CS) (m:MS) (told:List (Nat×Nat)) (R:Rel s m told) (hfew:m.objs.length < 100000) (k A B C X i g:Int) (kX:IntKind) (vW:Value) (raw:Bool) (hvW:vW.oneCell'=true) {w:World} {fr:List Q0e} [hT:Q4t 0 Lib.deBruijn64tab fr]
  (H:Q0a w (V0q p c mo (.slice a told.length cap)::Q2z c s::Q2p mo m::TKL (.slice a told.length cap) told::fr)) :
  Calls Tryz.prog 163 #[pp p,.agg #[.int .i64 k,.int .i64 A,.int .i64 B,.int .i64 C,.int .u64 X,vW,.bool raw,.int .i64 i,.int .i64 g]] w (ret fun v w'=>v = .bool true∧∃ s' m' told' a' cap',Rel s' m' told'∧U5m s m told s' m' told'∧Q0a w' (V0q p c mo (.slice a' told'.length cap')::Q2z c s'::Q2p mo m'::TKL (.slice a' told'.length cap') told'::fr)):=by
 refine Q0c Tryz.func163 rfl (by kernel_rfl) ?_;refine J8 H ?_;clear H;intro b3 w H;refine J18 H ?_;refine Q1m (fun ms σ w=>ms=[]∧∃ (b5 i' g' e:Nat) (s':CS),U9j s A B C i' g' e s'∧σ 0=pp p∧σ 3=pp b3∧σ 5=pp b5∧σ 6 = .int .i64 e∧Q0a w (pts b5 (row 69 [.int .i64 i',.int .i64 g'])::pts b3 (row 93 [.int .i64 k,.int .i64 A,.int .i64 B,.int .i64 C,.int .u64 X,vW,.bool raw,.int .i64 i,.int .i64 g])::V0q p c mo (.slice a told.length cap)::Q2z c s'::Q2p mo m::TKL (.slice a told.length cap) told::fr)) ?_ ?_
 ·replace H:=Js [2,0,0,0,0] 0 H;refine J1 H ?_;clear H;intro w H;refine J27 H ?_;refine Jl 3 [10,15] H ?_;refine Jf 4 ?_;refine Jl 5 [10,15] H ?_;refine Jf 6 ?_;refine Jl 7 [10,15] H ?_;refine Jf 8 ?_;refine Jl 9 [10,15] H ?_;refine Jw 10 14 H rfl rfl (Q1h (a:=[]) (b:=[]) rfl rfl (call (V8f c s A B C H) ?_)) (Q1x H rfl ?_)
  ·clear H;rintro v w ⟨i',g',e,s',rfl,hM,H⟩;refine Ja 11 ?_;refine J79 H ?_;refine Jo 14 H ?_;refine Q1x H rfl ?_;clear H;intro b5 w H;refine Jo 15 H ?_;refine J49 H ?_;clear H;intro w H;refine Ja 16 ?_;refine Jx H ?_;replace H:=Js [0,1,1,0,0,0] 0 H;exact⟨rfl,rfl,b5,i',g',e,s',hM,rfl,rfl,rfl,rfl,H⟩
  ·clear H;intro b5 w H;refine Jo 10 H ?_;refine Jk rfl rfl (V8f c s A B C H.swap) ?_;clear H;rintro v w ⟨i',g',e,s',rfl,hM,H⟩;refine Ja 11 ?_;refine J79 H ?_;refine Jo 15 H ?_;refine J49 H ?_;clear H;intro w H;refine Ja 16 ?_;refine Jx H ?_;replace H:=Js [1,1,1,0,0,0] 0 H;exact⟨rfl,rfl,b5,i',g',e,s',hM,rfl,rfl,rfl,rfl,H⟩
 clear H;rintro ms σ w ⟨rfl,b5,i',g',e,s',hM,g0,g3,g5,g6,H⟩;rw[Q0b g0,Q0b g3,Q0b g5,Q0b g6];obtain⟨hm1,hm2⟩:=Z2e R A B C;replace H:=Js [4,0,0,0,0,0] 0 H;refine J1 H ?_;clear H;intro w H;refine J27 H ?_;refine Jl 3 [10] H ?_;refine Jf 4 ?_;refine Jl 5 [10] H ?_;refine Jf 6 ?_;refine Jl 7 [10] H ?_;refine Jf 8 ?_;refine Jl 9 [10] H ?_;refine Jo 10 H ?_;refine Jk rfl rfl (Y2x mo m A B C H) ?_;clear H;rintro v w ⟨rfl,H⟩;refine Ja 11 ?_;refine U3p H ?_;refine J43 H ?_
 rcases hM with ⟨h1,rfl,rfl,rfl,rfl⟩|⟨h1,h2,rfl,rfl,rfl,rfl⟩|⟨h1,h2,rfl,rfl,rfl,rfl⟩|⟨h1,rfl,g0',addr,h2,h3,h4,rfl,h5,h6,h7,h8,h9,h10,h11,h12⟩
 ·have hw':(V0p m A B C).2≠0:=by rw[← hm1];exact h1
  refine J11 H ?_;rw[show ((((V0p m A B C).2:Nat):Int) != 0)=true by rw[bne_iff_ne];omega];refine U8j H ?_;rw[show ((((Q9q s' A B C:Nat):Int)) == (((V0p m A B C).2:Nat):Int))=true by rw[hm1];exact beq_self_eq_true _];refine Jv ?_;refine U5b H ?_;refine Q4u rfl rfl rfl (V8o rfl rfl (.inl rfl) rfl ?_);refine J2 H ?_;replace H:=Js [3,3,0,2] 2 H;exact Q0g (Jy H rfl fun w' H'=>⟨rfl,s',m,told,a,cap,R,⟨by omega,by omega,.inl ⟨rfl,rfl⟩,id,id,id⟩,H'⟩)
 ·have hw':(V0p m A B C).2=0:=by rw[← hm1];exact h1
  rw[hw'];refine U2f H ?_;refine J67 H ?_;replace H:=Js [4,0,0,0,0,0] 0 H;obtain⟨q,mem,hw,hm,H⟩:=Q1u H;replace H:=Js [4,0,0,0,0,0,0,0,0,0,0,0,0,0,0,0] 0 H;refine U8h H ?_;refine Jc rfl rfl (Y8c q.tp s'.tab H) ?_;clear H;rintro v w ⟨rfl,H⟩
  have hbt:s'.tab.length - Y1q s'.tab=0:=by
   unfold Y1q;rw[List.filter_eq_self.2 h2,Nat.sub_self]
  rw[hbt];refine J26 H ?_;refine U5b H ?_;refine Q4u rfl rfl rfl (V8o rfl rfl (.inl rfl) rfl ?_);refine J2 H ?_;replace H:=Js [1,1,1,1,0,0,0,0,0,0,0,0,0,0,0,0] 0 H;replace H:=Q1s hw hm H;replace H:=Js [4,0,0,2] 2 H;exact Q0g (Jy H rfl fun w' H'=>⟨rfl,s',m,told,a,cap,R,⟨by omega,by omega,.inl ⟨rfl,rfl⟩,id,id,id⟩,H'⟩)
 ·have hw':(V0p m A B C).2=0:=by rw[← hm1];exact h1
  have hn:=hm2 hw';rw[hw',← hn];refine U2f H ?_;refine U5d H ?_;refine J67 H ?_;replace H:=Js [4,0,0,0,0,0] 0 H;obtain⟨q,mem,hw,hm,H⟩:=Q1u H;replace H:=Js [3,0,0,0,0,0,0,0,0,0,0,0,0,0,0,0] 0 H;refine U8h H ?_;refine Jc rfl rfl (V1q q.sp s'.size mem s'.own H) ?_;clear H;rintro v w ⟨rfl,H⟩;replace H:=Js [1,1,1,0,0,0,0,0,0,0,0,0,0,0,0,0] 0 H;replace H:=Q1s hw hm H;refine J0 H ?_;replace H:=Js [4,0,0,0,0,0] 0 H;have hsz:=hw.size;have hpos:s'.size > 0:=by omega
  have hmx:(if (1:Int) > ((s'.size:Nat):Int) then (1:Int) else ((s'.size:Nat):Int))=((s'.size:Nat):Int):=by split <;> omega
  have hnlt:Q6x s' B C < 100000:=by
   obtain⟨r,la,c',l,_,_,_,_,_,e1,e2,e3⟩:=Y5l hw';rw[hn,e1,e2];show l.fixed+c'*l.record < _;omega
  refine J1 H ?_;clear H;intro w H;refine Q1w 0 [9,12] H rfl (Q0n.none rfl) rfl (by repeat first|exact .nil _|apply Q0o.cons rfl) (by kernel_rfl) ?_;refine Q5r 1 rfl (Q0n.none rfl) rfl (by kernel_rfl) ?_;refine G5a 2 rfl (Q0n.none rfl) rfl rfl (.inl rfl) (by kernel_rfl) ?_;rw[G6m,decide_eq_true (show (((0:Nat):Int),((0:Nat):Int))=((0:Int),(0:Int)) from rfl)];refine Ja 3 ?_;refine J54 H ?_;rw[show decide ((s'.size:Int) > 0)=true from decide_eq_true (by omega)];refine Ja 6 ?_;refine Ja 7 ?_;refine Ja 8 ?_;refine Ja 10 ?_;refine Ja 11 ?_;refine Jw 9 12 H rfl rfl (Q1h (a:=[]) (b:=[]) rfl rfl (call (Z5c p c mo _ s' H) ?_)) (G0f rfl rfl rfl ?_)
  ·clear H;rintro v w ⟨bb,rfl,hfr,H⟩
   have hlt:bb < Q6x s' B C / s'.size+1:=by
    refine Nat.lt_of_not_le fun hle=>?_;obtain⟨a0,ha,hz⟩:=hfr;obtain⟨i0,hi1,hi2,hi3⟩:=h2 a0 (by omega);exact hi3 (hz i0 hi1 (by omega))
   have hdl:Q6x s' B C / s'.size≤Q6x s' B C:=Nat.div_le_self _ _;refine Jo 12 H ?_;refine G0f rfl rfl rfl ?_;rw[hmx]
   refine Z0w (v := .int .i64 ((Q6x s' B C / s'.size:Nat):Int)) 13 rfl (Q0n.of rfl rfl rfl) (by
    show (if IntKind.i64=IntKind.i64 then (if ((s'.size:Nat):Int)=0 then none else some (Value.int IntKind.i64 (IntKind.i64.wrap (Int.tdiv ((Q6x s' B C:Nat):Int) ((s'.size:Nat):Int))))) else none)=_;rw[if_pos rfl,if_neg (by omega),U0i (by omega)]) (by kernel_rfl) ?_
   refine Ja 14 ?_;rw[Q2a (by omega)];refine Ja 15 ?_;rw[show decide ((bb:Int) < ((Q6x s' B C / s'.size+1:Nat):Int))=true from decide_eq_true (by omega)];refine Ja 16 ?_;refine Ja 17 ?_;refine Jx H ?_;replace H:=Js [0,0,0,2] 2 H;exact Q0g (Jy H rfl fun w' H'=>⟨rfl,s',m,told,a,cap,R,⟨by omega,by omega,.inl ⟨rfl,rfl⟩,id,id,id⟩,H'⟩)
  ·rw[hmx];have hdl:Q6x s' B C / s'.size≤Q6x s' B C:=Nat.div_le_self _ _
   refine Z0w (v := .int .i64 ((Q6x s' B C / s'.size:Nat):Int)) 13 rfl (Q0n.of rfl rfl rfl) (by
    show (if IntKind.i64=IntKind.i64 then (if ((s'.size:Nat):Int)=0 then none else some (Value.int IntKind.i64 (IntKind.i64.wrap (Int.tdiv ((Q6x s' B C:Nat):Int) ((s'.size:Nat):Int))))) else none)=_;rw[if_pos rfl,if_neg (by omega),U0i (by omega)]) (by kernel_rfl) ?_
   refine Ja 14 ?_;rw[Q2a (by omega)];refine Jo 9 H ?_;refine Jk rfl rfl (Z5c p c mo _ s' H) ?_;clear H;rintro v w ⟨bb,rfl,hfr,H⟩
   have hlt:bb < Q6x s' B C / s'.size+1:=by
    refine Nat.lt_of_not_le fun hle=>?_;obtain⟨a0,ha,hz⟩:=hfr;obtain⟨i0,hi1,hi2,hi3⟩:=h2 a0 (by omega);exact hi3 (hz i0 hi1 (by omega))
   refine Ja 15 ?_;rw[show decide ((bb:Int) < ((Q6x s' B C / s'.size+1:Nat):Int))=true from decide_eq_true (by omega)];refine Ja 16 ?_;refine Ja 17 ?_;refine Jx H ?_;replace H:=Js [0,0,0,2] 2 H;exact Q0g (Jy H rfl fun w' H'=>⟨rfl,s',m,told,a,cap,R,⟨by omega,by omega,.inl ⟨rfl,rfl⟩,id,id,id⟩,H'⟩)
 ·have hw':(V0p m A B C).2=0:=by rw[← hm1];exact h1
  rw[hw'];obtain⟨_,_,_,_,_,_,_,hmw,_⟩:=id (Q2t H);obtain⟨hnew,R'⟩:=Z5b R hmw hw' h2 h6 h7 h8 h10;have htl:told.length < 100000:=by rw[R.len];exact hfew
  refine U2f H ?_;refine U5d H ?_;refine U5d H ?_;refine J17 H ?_;replace H:=Js [3,0,0,0,0,0] 0 H;refine U7z H ?_;replace H:=Js [5,2,2,0,1,0] 0 H;refine J43 H ?_;refine Q1l (fun ms σ w q=>ms=[]∧∃ j:Nat,j≤told.length∧q=told.length - j∧σ 0=pp p∧σ 3=pp b3∧σ 5=pp b5∧σ 102 = .slice a told.length cap∧σ 103 = .int .i64 told.length∧σ 104 = .int .i64 j∧Q0a w (TKL (.slice a told.length cap) told::pts b5 (row 69 [.int .i64 (i':Nat),.int .i64 ((g0'+1:Nat):Int)])::pts b3 (row 93 [.int .i64 k,.int .i64 A,.int .i64 B,.int .i64 C,.int .u64 X,vW,.bool raw,.int .i64 i,.int .i64 g])::V0q p c mo (.slice a told.length cap)::Q2z c s'::Q2p mo m::fr)) (m:=told.length) ⟨rfl,0,by omega,rfl,rfl,rfl,rfl,rfl,rfl,rfl,H⟩ ?_;clear H;rintro ms σ w q ⟨rfl,j,hj,rfl,g0,g3,g5,g102,g103,g104,H⟩;rw[Q0b g0,Q0b g3,Q0b g5,Q0b g102,Q0b g103,Q0b g104];refine J5 H ?_;refine Q2d rfl (fun h=>Q0w ?_) (fun h=>Q1n ?_)
  ·have hlt:j < told.length:=by omega
   have hn:=List.getElem?_eq_getElem hlt;generalize told[j]=xy at hn;obtain⟨x,y⟩:=xy;obtain⟨bT,sT,rfl,H,hcl⟩:=Q0y H (by omega);refine J19 H ?_;refine Jd ?_;refine Q0s rfl (Q1j H rfl (Q6c hn) rfl ?_);refine J12 H ?_;clear H;intro b11 w H;refine J4 H ?_;clear H;intro w H;refine U8g H ?_;refine Q0h ?_;replace H:=hcl _ _ H.drop;refine Q2d (p:=((x:Int),(y:Int))=(((i':Nat):Int),((g0'+1:Nat):Int))) rfl (fun he=>?_) (fun he=>Q0w ?_)
   ·exfalso;injection he with e1 e2
    obtain rfl:x=i':=by omega
    obtain rfl:y=g0'+1:=by omega
    exact hnew j hn
   ·refine J3 H ?_;exact⟨_,⟨rfl,j+1,hlt,rfl,rfl,rfl,rfl,rfl,rfl,Q2a (by omega),H⟩,by omega⟩
  ·replace H:=Js [5,0,0,0,0,0] 0 H;refine J1 H ?_;clear H;intro w H;refine J27 H ?_;refine Jl 3 [10] H ?_;refine Jf 4 ?_;refine Jl 5 [10] H ?_;refine Jf 6 ?_;refine Jl 7 [10] H ?_;refine Jf 8 ?_;refine Jl 9 [10] H ?_;refine Jo 10 H ?_;refine Jk rfl rfl (Z1t mo m A B C hw' hfew H) ?_;clear H;rintro v w ⟨rfl,H⟩;refine Jx H ?_;replace H:=Js [1,1,2,0,0,0] 0 H;refine J1 H ?_;clear H;intro w H;refine U0c H ?_;refine Jl 4 [7,10] H ?_;refine U9a H ?_;refine Jo 6 H ?_;refine G9r H ?_;clear H;intro bS w H;replace H:=H.swap;refine Jo 7 H ?_;refine Q1t H rfl rfl (by repeat first|exact .nil _|apply Q0o.cons rfl) rfl (by decide) (by rw[Q6k];simp only[List.length_cons,List.length_nil];omega) rfl rfl ?_;clear H;intro vS w H
   have e1:tkc told++[.int .i64 ((i':Nat):Int),.int .i64 ((g0'+1:Nat):Int)]=tkc (told++[(i',g0'+1)]):=by
    rw[V6f];rfl
   rw[e1] at H;obtain⟨aS,cS,rfl⟩:=Q0j H (m:=(told++[(i',g0'+1)]).length) (Q6k _) (by decide);refine Ja 8 ?_;refine Jf 9 ?_;refine Jo 10 H ?_;refine J55 H ?_;clear H;intro w H;refine U4b H ?_;replace H:=Js [3,5,3,0] 3 H;refine Q0g (Jy H rfl fun w' H'=>⟨rfl,s',_,_,aS,cS,R',⟨?_,?_,.inr ⟨i',g0',rfl,h2,h4,?_⟩,fun hI=>Z5h hI h2 h6 h9 h10 rfl,fun hT=>by rw[h8];exact hT,h12⟩,H'⟩)
   ·show m.P.length≤_;omega
   ·show (m.objs++[_]).length≤_;simp
   ·rw[h10];unfold Q3d;rw[List.map_set];rfl
end Go.Proofs.YtmjdnljneifpcaaGreatDoor
namespace Go.Proofs.YtmjdnljneifpcaaGreatDoor
open Go.SL
theorem Y0d (s:CS) (i g p:Int) (x:Nat):Q3d (V5x s i g p x).1.tab=Q3d s.tab:=by
 cases hv:Q1p s.tab i g with
 | none=>rw[Q9h hv]
 | some q=>
  obtain⟨k,e⟩:=q;obtain⟨n,rfl,rfl,hk,_⟩:=Q3l hv;rw[Q9i hv];split
  ·rw[Int.toNat_natCast];exact V1l hk
  ·rfl
theorem Z2j (s:CS) (i g:Int):Q3d (V5z s i g).1.tab=Q3d s.tab:=by
 cases hv:Q1p s.tab i g with
 | none=>rw[Q9k hv]
 | some q=>
  obtain⟨k,e⟩:=q;obtain⟨n,rfl,rfl,hk,_⟩:=Q3l hv;rw[Q9l hv,Int.toNat_natCast];exact V1l hk
theorem Z7t (s:CS) (i g:Int) (on:Bool):Q3d (Z7l s i g on).1.tab=Q3d s.tab:=by
 cases hv:Q1p s.tab i g with
 | none=>rw[V1h hv]
 | some q=>
  obtain⟨k,e⟩:=q;obtain⟨n,rfl,rfl,hk,_⟩:=Q3l hv;rw[V1i hv];split
  ·rfl
  ·rw[Int.toNat_natCast];exact V1l hk
theorem Y3l (s:CS) (i g p:Int) (l:Lnk):Q3d (Z0p s i g p l).1.tab=Q3d s.tab:=by
 cases hv:Q1p s.tab i g with
 | none=>rw[V1j hv]
 | some q=>
  obtain⟨k,e⟩:=q;obtain⟨n,rfl,rfl,hk,_⟩:=Q3l hv;rw[Q8r hv];split
  ·rw[Int.toNat_natCast];exact V1l hk
  ·rfl
theorem Y3m (s:CS) (i g p u v:Int):Q3d (V8b s i g p u v).1.tab=Q3d s.tab:=by
 unfold V8b;split
 ·rfl
 ·split
  ·rfl
  ·exact Y3l s i g p _
theorem Z7u (s:CS) (i g p:Int):Q3d (Y3b s i g p).tab=Q3d s.tab:=by
 unfold Y3b;split
 ·rename_i a b _;cases hl:Q2o s.tab a b with
  | none=>rw[Q9n hl]
  | some q=>
   obtain⟨k,e⟩:=q;obtain⟨n,h1,h2,hk⟩:=Q1k.1 hl;obtain rfl:b=n:=by omega
   rw[Q9o hl];exact V1l hk
 ·rfl
theorem Z7v (s:CS) (ws:List Nat):Q3d (Z7n s ws).1.tab=Q3d s.tab:=by
 cases hd:Q4k ws with
 | none=>rw[V1k hd]
 | some l=>
  rw[Q9p hd];split <;> rfl
theorem V1t (m:MS) (k:Nat) (x:Mob):(V7z m k x).objs.length=m.objs.length:=List.length_set
theorem Y8w (m:MS) (o p:Int):(Z7d m o p).1.objs.length=m.objs.length∧(Z7d m o p).1.P=m.P:=by
 unfold Z7d;split
 ·exact⟨rfl,rfl⟩
 ·split
  ·exact⟨V1t _ _ _,rfl⟩
  ·exact⟨rfl,rfl⟩
theorem Y8x (m:MS) (o p u:Int):(V7m m o p u).1.objs.length=m.objs.length∧(V7m m o p u).1.P=m.P:=by
 unfold V7m;split
 ·exact⟨rfl,rfl⟩
 ·split
  ·split
   ·exact⟨rfl,rfl⟩
   ·exact⟨V1t _ _ _,rfl⟩
  ·exact⟨rfl,rfl⟩
theorem Y3n (m:MS) (o:Int):(V2a m o).1.objs.length=m.objs.length∧(V2a m o).1.P=m.P:=by
 unfold V2a;split
 ·exact⟨rfl,rfl⟩
 ·exact⟨V1t _ _ _,rfl⟩
theorem Y8y (m:MS) (o:Int) (on:Bool):(Z0o m o on).1.objs.length=m.objs.length∧(Z0o m o on).1.P=m.P:=by
 unfold Z0o;split
 ·exact⟨rfl,rfl⟩
 ·split
  ·exact⟨rfl,rfl⟩
  ·exact⟨V1t _ _ _,rfl⟩
theorem Z7w (m:MS) (t:Nat):(Y1p m t).objs.length=m.objs.length∧(Y1p m t).P=m.P:=by
 unfold Y1p;split
 ·exact⟨V1t _ _ _,rfl⟩
 ·exact⟨rfl,rfl⟩
theorem Y8z (m:MS) (o p:Int):(V4z m o p).1.objs.length=m.objs.length∧(V4z m o p).1.P=m.P:=by
 unfold V4z;split
 ·exact⟨rfl,rfl⟩
 ·split
  ·show (if _ then _ else _:MS).objs.length=_∧(if _ then _ else _:MS).P=_;split
   ·exact Z7w m _
   ·exact⟨rfl,rfl⟩
  ·exact⟨rfl,rfl⟩
theorem Z7x (m:MS) (o p:Int) (X:Nat):(Y5o m o p X).objs.length=m.objs.length∧(Y5o m o p X).P=m.P:=by
 unfold Y5o;split
 ·exact⟨rfl,rfl⟩
 ·split
  ·exact⟨V1t _ _ _,rfl⟩
  ·exact⟨rfl,rfl⟩
theorem Y9a (m:MS) (ws:List Nat):(Y2w m ws).1.objs=m.objs∧(Y2w m ws).1.P=m.P:=by
 unfold Y2w;split
 ·exact⟨rfl,rfl⟩
 ·split <;> exact⟨rfl,rfl⟩
theorem Y3o (s:CS) (i g p:Int) (x:Nat):V2b s (V5x s i g p x).1:=by
 cases hv:Q1p s.tab i g with
 | none=>rw[Q9h hv];exact V2b.refl s
 | some q=>
  obtain⟨k,e⟩:=q;obtain⟨n,rfl,rfl,hk,_⟩:=Q3l hv;rw[Q9i hv];split
  ·rw[Int.toNat_natCast];exact V2b.set (e':={ e with ws:=e.ws.set p.toNat x }) hk ⟨rfl,rfl,List.length_set⟩ s.rem
  ·exact V2b.refl s
theorem Z7y (s:CS) (i g:Int):V2b s (V5z s i g).1:=by
 cases hv:Q1p s.tab i g with
 | none=>rw[Q9k hv];exact V2b.refl s
 | some q=>
  obtain⟨k,e⟩:=q;obtain⟨n,rfl,rfl,hk,_⟩:=Q3l hv;rw[Q9l hv,Int.toNat_natCast];exact V2b.set (e':={ e with held:=false }) hk ⟨rfl,rfl,rfl⟩ s.rem
theorem G2l (s:CS) (i g:Int) (on:Bool):V2b s (Z7l s i g on).1:=by
 cases hv:Q1p s.tab i g with
 | none=>rw[V1h hv];exact V2b.refl s
 | some q=>
  obtain⟨k,e⟩:=q;obtain⟨n,rfl,rfl,hk,_⟩:=Q3l hv;rw[V1i hv];split
  ·exact V2b.refl s
  ·rw[Int.toNat_natCast];exact V2b.set (e':={ e with pinned:=on }) hk ⟨rfl,rfl,rfl⟩ s.rem
theorem Y9b (s:CS) (i g p:Int) (l:Lnk):V2b s (Z0p s i g p l).1:=by
 cases hv:Q1p s.tab i g with
 | none=>rw[V1j hv];exact V2b.refl s
 | some q=>
  obtain⟨k,e⟩:=q;obtain⟨n,rfl,rfl,hk,_⟩:=Q3l hv;rw[Q8r hv];split
  ·rw[Int.toNat_natCast];exact V2b.set (e':={ e with ws:=e.ws.set p.toNat (Q3v l) }) hk ⟨rfl,rfl,List.length_set⟩ _
  ·exact V2b.refl s
theorem G2m (s:CS) (i g p u v:Int):V2b s (V8b s i g p u v).1:=by
 unfold V8b;split
 ·exact V2b.refl s
 ·split
  ·exact V2b.refl s
  ·exact Y9b s i g p _
theorem G2n (s:CS) (i g p:Int):V2b s (Y3b s i g p):=by
 unfold Y3b;split
 ·rename_i a b _;cases hl:Q2o s.tab a b with
  | none=>rw[Q9n hl];exact V2b.refl s
  | some q=>
   obtain⟨k,e⟩:=q;obtain⟨n,h1,h2,hk⟩:=Q1k.1 hl;obtain rfl:b=n:=by omega
   rw[Q9o hl];exact V2b.set (e':={ e with held:=true }) hk ⟨rfl,rfl,rfl⟩ s.rem
 ·exact V2b.refl s
theorem Y9c (s:CS) (ws:List Nat):V2b s (Z7n s ws).1:=by
 cases hd:Q4k ws with
 | none=>rw[V1k hd];exact V2b.refl s
 | some l=>
  rw[Q9p hd];split
  ·exact V2b.refl s
  ·exact⟨rfl,rfl,rfl,fun k g e h=>⟨e,h,rfl,rfl,rfl⟩⟩
theorem Z7z (s:CS) (q:Int) (b b2:Nat) (hP:Q3n s):Q3n (Z1x s q b b2):=fun k g e hk=>by
 obtain⟨x,x1,x2,x3⟩:=hP k g e hk;exact⟨x,List.mem_append.2 (.inl x1),x2,x3⟩
theorem Q6s {s s':CS} {m m':MS} {told:List (Nat×Nat)} (h1:m'.objs.length=m.objs.length) (h2:m'.P=m.P) (h3:Q3d s'.tab=Q3d s.tab) (h4:Inv s→Inv s':=by exact id) (h5:V2b s s':=by exact V2b.refl _):U5m s m told s' m' told:=⟨by rw[h2];omega,by omega,.inl ⟨rfl,h3⟩,h4,fun h=>by rw[h5.par];exact h,h5.part⟩
end Go.Proofs.YtmjdnljneifpcaaGreatDoor
namespace Go.Proofs.YtmjdnljneifpcaaGreatDoor
open Go.SL
theorem Q5e (x:Int):(x == x)=true:=beq_self_eq_true x
theorem U1b [Q0i] (p:Nat) (s:CS) (m:MS) (told:List (Nat×Nat)) (R:Rel s m told) (hfew:m.objs.length < 100000) (hP:m.P.length < 100000) (k A B C i g:Int) (X:Nat) (hX:X < 18446744073709551616) (vW:Value) (ws:List Nat) (hws:∀ x∈ws,x < 18446744073709551616) (raw:Bool)
  {w:World} {fr:List Q0e} [hT:Q4t 0 Lib.deBruijn64tab fr] (hrW:RdS fr vW ws.length 1 (Q1b ws)) (H:Q0a w (RUN p s m told::fr)) :
  Calls Tryz.prog 100 #[pp p,.agg #[.int .i64 k,.int .i64 A,.int .i64 B,.int .i64 C,.int .u64 X,vW,.bool raw,.int .i64 i,.int .i64 g]] w (ret fun v w'=>v = .bool true∧∃ s' m' told',Rel s' m' told'∧U5m s m told s' m' told'∧Q0a w' (RUN p s' m' told'::fr)):=by
 obtain⟨_,adW,capW,rfl,_⟩:=id hrW;obtain⟨c,mo,a,cap,H⟩:=Y5s H;have hlen:told.length≤1000000:=by rw[R.len];omega
 obtain⟨_,_,hw,_,_⟩:=Q1u H.swap;obtain⟨_,_,_,_,_,_,_,hmw,_⟩:=Q2t (H.sel [2,0,0,0] 0);refine Q0c Tryz.func100 rfl (by kernel_rfl) ?_;refine J8 H ?_;clear H;intro b3 w H;refine J18 H ?_;refine Q1m (fun ms σ w=>ms=[]∧∃ (b5:Nat) (i' g' o:Int),Z2b told i' g' o∧σ 0=pp p∧σ 3=pp b3∧σ 5=pp b5∧σ 6 = .int .i64 o∧Q0a w (pts b5 (row 69 [.int .i64 i',.int .i64 g'])::pts b3 (row 93 [.int .i64 k,.int .i64 A,.int .i64 B,.int .i64 C,.int .u64 X,.slice adW ws.length capW,.bool raw,.int .i64 i,.int .i64 g])::V0q p c mo (.slice a told.length cap)::Q2z c s::Q2p mo m::TKL (.slice a told.length cap) told::fr)) ?_ ?_
 ·replace H:=Js [1,3,0,0,0] 0 H;refine U0d H ?_;refine J45 H ?_;refine U8k H ?_;refine Jc rfl rfl (Y8p p c mo a cap told hlen A i g raw H) ?_;clear H;rintro v w ⟨i',g',o,rfl,hp,_,_,H⟩;refine J16 H ?_;clear H;intro b5 w H;refine J4 H ?_;clear H;intro w H;refine J0 H ?_;replace H:=Js [0,2,0,1,1,0] 0 H;exact⟨rfl,rfl,_,i',g',o,hp,rfl,rfl,rfl,rfl,H⟩
 clear H;rintro ms σ w ⟨rfl,b5,i',g',o,hPk,g0,g3,g5,g6,H⟩;rw[Q0b g0,Q0b g3,Q0b g5,Q0b g6];refine J88 H ?_;refine Q0h ?_;refine J96 H ?_;by_cases hk0:k=0
 ·subst hk0;refine J13 H ?_;replace H:=Js [3,0,0,0,0,0] 0 H;refine J1 H ?_;clear H;intro w H;refine J82 H ?_;refine Jk rfl rfl (V9u c s _ ws hws hrW.there.there.there.there.there H) ?_;clear H;rintro v w ⟨rfl,H⟩;obtain⟨hd,R'⟩:=G2c R hmw ws;rw[hd];refine J46 H ?_;replace H:=Js [4,0,0,0,0,0] 0 H;refine J1 H ?_;clear H;intro w H;refine J82 H ?_;refine Jk rfl rfl (Y5j mo m _ ws hws hrW.there.there.there.there.there H) ?_;clear H;rintro v w ⟨rfl,H⟩;refine J46 H ?_;refine J15 H ?_;rw[Q5e (((Y2w m ws).2.1:Nat):Int)];refine U4i H ?_;rw[Q5e (((Y2w m ws).2.2:Nat):Int)];refine J2 H ?_;replace H:=Js [4,1,0,2] 2 H;exact Q0g (Jy H rfl fun w' H'=>⟨rfl,_,_,_,R',⟨by rw[(Y9a m ws).2];omega,by rw[(Y9a m ws).1];omega,.inl ⟨rfl,Z7v s ws⟩,fun hI=>G6l hw hI ws,fun hT=>by rw[(Y9c s ws).par];exact hT,(Y9c s ws).part⟩,Q4j H'⟩)
 rw[show (k == 0)=false by simpa using hk0];refine J31 H ?_;by_cases hk1:k=1
 ·subst hk1;refine J13 H ?_;have hl:=R.last;have he:=U0w R hw A;replace H:=Js [3,0,0,0,0,0] 0 H;refine J1 H ?_;clear H;intro w H;refine J82 H ?_;refine Jk rfl rfl (V9v c s A (by omega) H) ?_;clear H;rintro v w (⟨h1,rfl,H⟩|⟨h1,b,b2,rfl,H⟩)
  ·rw[he] at h1 ⊢;have ho:V9p m A=(m,0,Y1e m.P A):=by unfold V9p;rw[if_neg h1]
   refine J46 H ?_;replace H:=Js [4,0,0,0,0,0] 0 H;refine J1 H ?_;clear H;intro w H;refine J82 H ?_;refine Jk rfl rfl (V9q mo m A hP H) ?_;clear H;rintro v w ⟨rfl,H⟩;rw[ho] at H ⊢;refine U8l H ?_;refine J44 H ?_;rw[Q5e ((Y1e m.P A:Nat):Int)];refine J2 H ?_;replace H:=Js [4,1,0,2] 2 H;exact Q0g (Jy H rfl fun w' H'=>⟨rfl,_,_,_,R,Q6s rfl rfl rfl,Q4j H'⟩)
  ·rw[he] at h1;have ho:V9p m A=({ m with P:=m.P++[A] },m.P.length,0):=by unfold V9p;rw[if_pos h1]
   refine J46 H ?_;replace H:=Js [4,0,0,0,0,0] 0 H;refine J1 H ?_;clear H;intro w H;refine J82 H ?_;refine Jk rfl rfl (V9q mo m A hP H) ?_;clear H;rintro v w ⟨rfl,H⟩;rw[ho] at H ⊢;rw[hl];refine J46 H ?_;refine J15 H ?_;rw[Q5e ((m.P.length:Nat):Int)];refine U4i H ?_;refine J2 H ?_;replace H:=Js [4,1,0,2] 2 H;exact Q0g (Jy H rfl fun w' H'=>⟨rfl,_,_,_,Y5q R h1 b b2,⟨by show (m.P++[A]).length≤_;simp,by show m.objs.length≤_;omega,.inl ⟨rfl,rfl⟩,fun hI=>G2i hI A b b2,fun hT=>Z2i hT (he.trans h1) hw.par.2.2,Z7z s A b b2⟩,Q4j H'⟩)
 rw[show (k == 1)=false by simpa using hk1];refine J31 H ?_;by_cases hk2:k=2
 ·subst hk2;refine J13 H ?_;refine J42 H ?_;replace H:=Js [2,2,2,2,0,0] 0 H;refine Jc rfl rfl (G2k p c mo a cap s m told R hfew _ A B C _ i g .i64 _ raw rfl H) ?_;clear H;rintro v w ⟨rfl,s',m',told',a',cap',R',S',H⟩;refine J0 H ?_;replace H:=Js [0,0,0,0] 2 H;exact Q0g (Jy H rfl fun w' H'=>⟨rfl,s',m',told',R',S',Q4j H'⟩)
 rw[show (k == 2)=false by simpa using hk2];refine J31 H ?_;by_cases hk3:k=3
 ·subst hk3;refine J13 H ?_;replace H:=Js [3,0,0,0,0,0] 0 H;refine J1 H ?_;clear H;intro w H;refine Ja 0 ?_;refine Ja 1 ?_;refine Jf 2 ?_;refine Jl 3 [7] H ?_;refine Q1w 4 [7] H rfl (Q0n.none rfl) rfl (by repeat first|exact .nil _|apply Q0o.cons rfl) (by kernel_rfl) ?_;refine Jf 5 ?_;refine Jl 6 [7] H ?_;refine Jo 7 H ?_;refine Jk rfl rfl (Z4x c s i' g' B H) ?_;clear H;rintro v w ⟨rfl,H⟩
  rcases U0r R hPk B with ⟨h0,h1⟩|⟨h0,n,j,x,rfl,rfl,hx,hj,h1⟩
  ·rw[h1];refine U2y H ?_;replace H:=Js [4,0,0,0,0,0] 0 H;refine J1 H ?_;clear H;intro w H;refine U5e H ?_;refine Jk rfl rfl (Q6j mo m o B false H) ?_;clear H;rintro v w ⟨rfl,H⟩;refine J69 H ?_;refine J3 H ?_;rw[show (((Q2l m o B false:Nat):Int) != 0)=true by rw[bne_iff_ne];omega];refine U8j H ?_;rw[Q5e ((Q2l m o B false:Nat):Int)];refine J72 H ?_;refine J2 H ?_;replace H:=Js [4,1,0,2] 2 H;exact Q0g (Jy H rfl fun w' H'=>⟨rfl,s,m,told,R,Q6s rfl rfl rfl,Q4j H'⟩)
  ·rw[h1];have hnl:=(List.getElem?_eq_some_iff.1 hx).1;have hjx:=List.getElem?_eq_getElem hj;have hjd:x.w.getD j 0=x.w[j]:=by rw[List.getD_eq_getElem?_getD,hjx];rfl
   have hsm:=Q4w (w:=hmw) hx;rw[hjd];generalize x.w[j]=y at hjx;refine U2y H ?_;replace H:=Js [4,0,0,0,0,0] 0 H;refine J1 H ?_;clear H;intro w H;refine U5e H ?_;refine Jk rfl rfl (Q6j mo m n j false H) ?_;clear H;rintro v w ⟨rfl,H⟩;rw[h0];refine J69 H ?_;refine J47 H ?_;obtain⟨t,lc,aL,cL,bO,cO,sO,ptrs,q,vw,vk,vt,rest,hm,h2,hp,H,hclose⟩:=Q4i H hx;have hm':=Q8b hx hm;obtain⟨aw,cw,rfl⟩:=Q0j H.drop (Q1f _) (by decide);obtain⟨bW,sW,rfl,H,hcw⟩:=Q0y H.swap (by omega);refine J1 H ?_;clear H;intro w H;refine U5f H ?_;refine U7o H ?_;refine Ja 8 ?_;refine Jf 9 ?_;refine Jl 10 [] H ?_;refine Ja 11 ?_;refine Ji 12 ?_;refine Q2b 13 [] H rfl (Q0n.of rfl rfl rfl) rfl hp (by kernel_rfl) ?_;refine Ja 14 ?_;refine Jf 15 ?_;refine Jl 16 [] H ?_;refine Jf 17 ?_;refine Jl 18 [] H ?_;refine Ji 19 ?_;refine Q2b 20 [] H rfl (Q0n.of rfl rfl rfl) rfl (V1o hjx) (by kernel_rfl) ?_;refine Ja 21 ?_;rw[Q5e (y:Int)];refine Ja 22 ?_;refine Ja 23 ?_;refine Jx H ?_;replace H:=Q3j hx (hclose _ _ _ hm' (hcw _ _ H).swap);replace H:=Js [4,1,0,2] 2 H;exact Q0g (Jy H rfl fun w' H'=>⟨rfl,s,m,told,R,Q6s rfl rfl rfl,Q4j H'⟩)
 rw[show (k == 3)=false by simpa using hk3];refine J31 H ?_;by_cases hk4:k=4
 ·subst hk4;refine J13 H ?_;replace H:=Js [3,0,0,0,0,0] 0 H;refine J1 H ?_;clear H;intro w H;refine J27 H ?_;refine Jl 3 [9,17] H ?_;refine Q1w 4 [9,17] H rfl (Q0n.none rfl) rfl (by repeat first|exact .nil _|apply Q0o.cons rfl) (by kernel_rfl) ?_;refine Jf 5 ?_;refine Jl 6 [9,17] H ?_;refine Jf 7 ?_;refine Jl 8 [9,17] H ?_;refine U8m H ?_;refine Jl 13 [17] H ?_;refine Ja 14 ?_;refine Jf 15 ?_;refine Jl 16 [17] H ?_;obtain⟨hd,R'⟩:=U0s R hPk B X;refine Jo 9 H ?_;refine Jk rfl rfl (G5x c s i' g' B X hX H) ?_;clear H;rintro v w ⟨rfl,H⟩;rw[hd];replace H:=Js [4,0,0,0,0,0] 0 H;refine Jo 17 H ?_;refine Jk rfl rfl (Q6j mo m o B false H) ?_;clear H;rintro v w ⟨rfl,H⟩;refine Ja 18 ?_;refine Ja 19 ?_;refine U6i H ?_;have hob:=Z7x m o B X;by_cases h0:Q2l m o B false=0
  ·obtain⟨n,x,hv⟩:∃ n x,Q7m m o=some (n,x):=by
    cases hv:Q7m m o with
    | none=>rw[Q3z hv] at h0;cases h0
    | some kx=>exact⟨kx.1,kx.2,rfl⟩
   have h0':=h0;rw[Q2u hv] at h0';rw[V6e hv,if_pos h0'] at R' hob;obtain⟨rfl,hx,hh,hg⟩:=Q5c hv;obtain⟨j,rfl,hj,hr⟩:=Q3b h0';rw[Int.toNat_natCast] at R' hob;rw[h0];have hnl:=(List.getElem?_eq_some_iff.1 hx).1;have hsm:=Q4w (w:=hmw) hx;refine J13 H ?_;obtain⟨t,lc,aL,cL,bO,cO,sO,ptrs,q,vw,vk,vt,rest,hm,h2,hp,H,hclose⟩:=Q4i H hx;obtain⟨aw,cw,rfl⟩:=Q0j H.drop (Q1f _) (by decide);obtain⟨bW,sW,rfl,H,_,_,hcw⟩:=Q2n H.swap (by omega);have hmx:=hm.objs x (List.mem_of_getElem? hx)
   have hm':MWF (V7z m n { x with w:=x.w.set j X }):=V2w hm (by
    obtain⟨a1,a2,a3,a4,a5⟩:=hmx;exact⟨by show ∃ l,_∧_∧Q3q l _=((x.w.set j X).length,0);rw[List.length_set];exact a1,a2,by show _=(x.w.set j X).length;rw[List.length_set];exact a3,by show _=(x.w.set j X).length;rw[List.length_set];exact a4,a5⟩)
   refine J1 H ?_;clear H;intro w H;refine J27 H ?_;refine Jl 3 [18] H ?_;refine Ja 4 ?_;refine Jf 5 ?_;refine Jl 6 [18] H ?_;refine Ja 7 ?_;refine Ji 8 ?_;refine Q2b 9 [18] H rfl (Q0n.none rfl) rfl hp (by kernel_rfl) ?_;refine Ja 10 ?_;refine Jf 11 ?_;refine Jl 12 [18] H ?_;refine Jf 13 ?_;refine Jl 14 [18] H ?_;refine Jf 15 ?_;refine Jl 16 [18] H ?_;refine Ji 17 ?_;refine Jo 18 H ?_;refine Q2e H rfl rfl inferInstance rfl (by simp only[List.length_append,Q1f];omega) rfl ?_;clear H;intro w H;rw[Int.toNat_natCast,Y2l (by omega)] at H;refine Jx H ?_;refine U0f H ?_;replace H:=hcw _ _ (Q1b (x.w.set j X)) (by simp[Q1b]) H;replace H:=hclose _ _ { x with w:=x.w.set j X } hm' H.swap;replace H:=Js [4,1,0,2] 2 H;exact Q0g (Jy H rfl fun w' H'=>⟨rfl,_,_,_,R',Q6s hob.1 hob.2 (Y0d s i' g' j X) (fun hI=>Y8u hI i' g' j X) (Y3o s i' g' j X),Q4j H'⟩)
  ·rw[show (((Q2l m o B false:Nat):Int) == 0)=false by simpa using h0]
   have hsw:Y5o m o B X=m:=by
    cases hv:Q7m m o with
    | none=>rw[Y3f hv]
    | some kx=>
     obtain⟨n,x⟩:=kx;rw[Q2u hv] at h0;rw[V6e hv,if_neg h0]
   rw[hsw] at R';refine J9 H ?_;refine J15 H ?_;rw[Q5e ((Q2l m o B false:Nat):Int)];refine J0 H ?_;replace H:=Js [4,1,0,2] 2 H;exact Q0g (Jy H rfl fun w' H'=>⟨rfl,_,_,_,R',Q6s rfl rfl (Y0d s i' g' B X) (fun hI=>Y8u hI i' g' B X) (Y3o s i' g' B X),Q4j H'⟩)
 rw[show (k == 4)=false by simpa using hk4];refine J31 H ?_;by_cases hk5:k=5
 ·subst hk5;refine J13 H ?_;replace H:=Js [3,0,0,0,0,0] 0 H;obtain⟨hd,hln,hk2,hlt,R'⟩:=U0v R hmw hPk B;obtain⟨l1,l2,l3,hlk⟩:=Q5t (Q5u s i' g' B).1;have hRf:=fun (w:World) (fr:List Q0e) (H:Q0a w (Q2z c s::fr))=>G5z c s i' g' B H;rw[hlk,hd] at hRf;rw[hln] at hlk;refine J7 H ?_;refine Q1m (fun ms σ w=>ms=[]∧∃ b20,σ 0=pp p∧σ 3=pp b3∧σ 6 = .int .i64 o∧σ 20=pp b20∧σ 21 = .int .i64 ((V4z m o B).2.2.2:Nat)∧Q0a w (pts b20 (row 88 [.int .i64 l1,.int .i64 l2,.int .i64 l3])::pts b3 (row 93 [.int .i64 5,.int .i64 A,.int .i64 B,.int .i64 C,.int .u64 X,.slice adW ws.length capW,.bool raw,.int .i64 i,.int .i64 g])::V0q p c mo (.slice a told.length cap)::Q2z c (Y3b s i' g' B)::Q2p mo m::TKL (.slice a told.length cap) told::fr)) ?_ ?_
  ·refine J1 H ?_;clear H;intro w H;refine J27 H ?_;refine Jl 3 [7,12] H ?_;refine U9e H ?_;refine Jf 5 ?_;refine Jl 6 [7,12] H ?_;refine Jw 7 11 H rfl rfl (Q1h (a:=[]) (b:=[]) rfl rfl (call (hRf _ _ H) ?_)) (Q1x H rfl ?_)
   ·clear H;rintro v w ⟨rfl,H⟩;refine J94 H ?_;refine U4z H ?_;clear H;intro b20 w H;refine J80 H ?_;clear H;intro w H;refine G8m H ?_;replace H:=Js [0,2,2,0,1,1] 1 H;exact⟨rfl,rfl,b20,rfl,rfl,rfl,rfl,rfl,H⟩
   ·clear H;intro b20 w H;refine Jo 7 H ?_;refine Jk rfl rfl (hRf _ _ H.swap) ?_;clear H;rintro v w ⟨rfl,H⟩;refine J94 H ?_;refine J80 H ?_;clear H;intro w H;refine G8m H ?_;replace H:=Js [1,2,2,0,1,1] 1 H;exact⟨rfl,rfl,b20,rfl,rfl,rfl,rfl,rfl,H⟩
  clear H;rintro ms σ w ⟨rfl,b20,g0,g3,g6,g20,g21,H⟩;rw[Q0b g0,Q0b g3,Q0b g6,Q0b g20,Q0b g21];replace H:=Js [4,0,0,0,0,0] 0 H;refine J1 H ?_;clear H;intro w H;refine U5e H ?_;refine Jk rfl rfl (Z7g mo m o B H) ?_;clear H;rintro v w ⟨rfl,H⟩;refine Ja 8 ?_;refine Ja 9 ?_;refine Ja 10 ?_;refine Ja 11 ?_;refine U6v H ?_;refine Jx H ?_;refine J15 H ?_;rw[Q5e (((V4z m o B).2.2.2:Nat):Int)];replace H:=Js [3,4,1,1,1,0] 0 H;refine U1s H ?_;refine G9q H ?_;refine J33 H ?_;have hlink:=fun (w:World) (fr:List Q0e) (H:Q0a w (V0q p c mo (.slice a told.length cap)::TKL (.slice a told.length cap) told::fr))=>V9z p c mo a cap told (V4z m o B).2.1 (V4z m o B).2.2.1 hk2 hlt H;rw[hlk] at hlink;refine Q4u rfl rfl rfl (Q1h (a:=[]) (b:=[]) rfl rfl (call (hlink _ _ H) ?_));clear H;rintro v w ⟨rfl,H⟩;refine J2 H ?_;replace H:=Js [0,3,3,0] 2 H;exact Q0g (Jy H rfl fun w' H'=>⟨rfl,_,_,_,R',Q6s (Y8z m o B).1 (Y8z m o B).2 (Z7u s i' g' B) (fun hI=>G6j hI i' g' B) (G2n s i' g' B),Q4j H'⟩)
 rw[show (k == 5)=false by simpa using hk5];refine J31 H ?_;by_cases hk6:k=6
 ·subst hk6;refine J13 H ?_;replace H:=Js [2,4,0,0,0,0] 0 H;refine U0d H ?_;refine U8k H ?_;refine Jc rfl rfl (Y8p p c mo a cap told hlen C i g false H) ?_;clear H;rintro v w ⟨u',v',q,rfl,hQ,_,_,H⟩;refine J16 H ?_;clear H;intro b25 w H;refine J4 H ?_;clear H;intro w H;refine J0 H ?_;replace H:=Js [5,0,0,0,0,0,0] 0 H;refine J1 H ?_;clear H;intro w H;refine J27 H ?_;refine Jl 3 [8,17] H ?_;refine Q1w 4 [8,17] H rfl (Q0n.none rfl) rfl (by repeat first|exact .nil _|apply Q0o.cons rfl) (by kernel_rfl) ?_;refine Jf 5 ?_;refine Jl 6 [8,17] H ?_;refine Q1w 7 [8,17] H rfl (Q0n.none rfl) rfl (by repeat first|exact .nil _|apply Q0o.cons rfl) (by kernel_rfl) ?_;refine U4a H ?_;refine Jl 12 [17] H ?_;refine Ja 13 ?_;refine Jf 14 ?_;refine Jl 15 [17] H ?_;refine Ja 16 ?_;obtain⟨hd,R'⟩:=G1y R hw hmw hPk hQ B;refine Jo 8 H ?_;refine Jk rfl rfl (Y8g c s i' g' B u' v' H) ?_;clear H;rintro v w ⟨rfl,H⟩;rw[hd];replace H:=Js [6,0,0,0,0,0,0] 0 H;refine Jo 17 H ?_;refine Jk rfl rfl (Z7f mo m o B q H) ?_;clear H;rintro v w ⟨rfl,H⟩;refine Ja 18 ?_;rw[Q5e (((V7m m o B q).2:Nat):Int)];refine Ja 19 ?_;refine Jx H ?_;replace H:=Js [3,1,0,1] 3 H;exact Q0g (Jy H rfl fun w' H'=>⟨rfl,_,_,_,R',Q6s (Y8x m o B q).1 (Y8x m o B q).2 (Y3m s i' g' B u' v') (fun hI=>Z5g hw hI i' g' B u' v') (G2m s i' g' B u' v'),Q4j H'⟩)
 rw[show (k == 6)=false by simpa using hk6];refine J31 H ?_;by_cases hk7:k=7
 ·subst hk7;refine J13 H ?_;replace H:=Js [3,0,0,0,0,0] 0 H;refine J1 H ?_;clear H;intro w H;refine J27 H ?_;refine Jl 3 [7,15] H ?_;refine Q1w 4 [7,15] H rfl (Q0n.none rfl) rfl (by repeat first|exact .nil _|apply Q0o.cons rfl) (by kernel_rfl) ?_;refine Jf 5 ?_;refine Jl 6 [7,15] H ?_;refine U2x H ?_;refine Jl 11 [15] H ?_;refine Ja 12 ?_;refine Jf 13 ?_;refine Jl 14 [15] H ?_;obtain⟨hd,R'⟩:=U0u R hmw hPk B;refine Jo 7 H ?_;refine Jk rfl rfl (G1w c s i' g' B H) ?_;clear H;rintro v w ⟨rfl,H⟩;rw[hd];replace H:=Js [4,0,0,0,0,0] 0 H;refine Jo 15 H ?_;refine Jk rfl rfl (Z7e mo m o B H) ?_;clear H;rintro v w ⟨rfl,H⟩;refine Ja 16 ?_;rw[Q5e (((Z7d m o B).2:Nat):Int)];refine Ja 17 ?_;refine Jx H ?_;replace H:=Js [4,1,0,2] 2 H;exact Q0g (Jy H rfl fun w' H'=>⟨rfl,_,_,_,R',Q6s (Y8w m o B).1 (Y8w m o B).2 (Y3l s i' g' B .none) (fun hI=>Z5f hI i' g' B trivial fun a b h=>by cases h) (Y9b s i' g' B .none),Q4j H'⟩)
 rw[show (k == 7)=false by simpa using hk7];refine J31 H ?_;by_cases hk8:k=8
 ·subst hk8;refine J13 H ?_;replace H:=Js [3,0,0,0,0,0] 0 H;refine J1 H ?_;clear H;intro w H;refine J27 H ?_;refine Jl 3 [5,11] H ?_;refine Q1w 4 [5,11] H rfl (Q0n.none rfl) rfl (by repeat first|exact .nil _|apply Q0o.cons rfl) (by kernel_rfl) ?_;refine U2t H ?_;refine Jl 9 [11] H ?_;refine Ja 10 ?_;obtain⟨hd,R'⟩:=G6f R hPk;refine Jo 5 H ?_;refine Jk rfl rfl (G1t c s i' g' H) ?_;clear H;rintro v w ⟨rfl,H⟩;rw[hd];replace H:=Js [4,0,0,0,0,0] 0 H;refine Jo 11 H ?_;refine Jk rfl rfl (Z1s mo m o H) ?_;clear H;rintro v w ⟨rfl,H⟩;refine Ja 12 ?_;rw[Q5e (((V2a m o).2:Nat):Int)];refine G8m H ?_;replace H:=Js [4,1,0,2] 2 H;exact Q0g (Jy H rfl fun w' H'=>⟨rfl,_,_,_,R',Q6s (Y3n m o).1 (Y3n m o).2 (Z2j s i' g') (fun hI=>G2h hI i' g') (Z7y s i' g'),Q4j H'⟩)
 rw[show (k == 8)=false by simpa using hk8];refine J31 H ?_;by_cases hk9:k=9
 ·subst hk9;refine J13 H ?_;replace H:=Js [3,0,0,0,0,0] 0 H;refine J1 H ?_;clear H;intro w H;refine J27 H ?_;refine Jl 3 [9,19] H ?_;refine Q1w 4 [9,19] H rfl (Q0n.none rfl) rfl (by repeat first|exact .nil _|apply Q0o.cons rfl) (by kernel_rfl) ?_;refine Jf 5 ?_;refine Jl 6 [9,19] H ?_;refine Ja 7 ?_;refine Ja 8 ?_;refine U8m H ?_;refine Jl 13 [19] H ?_;refine Ja 14 ?_;refine Jf 15 ?_;refine Jl 16 [19] H ?_;refine Ja 17 ?_;refine Ja 18 ?_;generalize hon:(V5c .and .u64 (X:Int) 1 == 1)=on;obtain⟨hd,R'⟩:=U0t R hPk on;refine Jo 9 H ?_;refine Jk rfl rfl (G5y c s i' g' on H) ?_;clear H;rintro v w ⟨rfl,H⟩;rw[hd];replace H:=Js [4,0,0,0,0,0] 0 H;refine Jo 19 H ?_;refine Jk rfl rfl (Z7c mo m o on H) ?_;clear H;rintro v w ⟨rfl,H⟩;refine Ja 20 ?_;rw[Q5e (((Z0o m o on).2:Nat):Int)];refine Ja 21 ?_;refine Jx H ?_;replace H:=Js [4,1,0,2] 2 H;exact Q0g (Jy H rfl fun w' H'=>⟨rfl,_,_,_,R',Q6s (Y8y m o on).1 (Y8y m o on).2 (Z7t s i' g' on) (fun hI=>G6i hI i' g' on) (G2l s i' g' on),Q4j H'⟩)
 rw[show (k == 9)=false by simpa using hk9];refine J31 H ?_;by_cases hk10:k=10
 ·subst hk10;refine J13 H ?_;refine U4y H ?_;replace H:=Js [2,2,2,2,0,0] 0 H;refine Jc rfl rfl (Y3g p c mo _ s m told R.w i' g' o (Q6b R hPk) H) ?_;clear H;rintro v w ⟨rfl,H⟩;refine J0 H ?_;replace H:=Js [0,0,0,0] 2 H;exact Q0g (Jy H rfl fun w' H'=>⟨rfl,s,m,told,R,Q6s rfl rfl rfl,Q4j H'⟩)
 rw[show (k == 10)=false by simpa using hk10];refine J31 H ?_;by_cases hk11:k=11
 ·subst hk11;refine J13 H ?_;replace H:=Js [3,0,0,0,0,0] 0 H;have hLk:=fun (w:World) (fr:List Q0e) (H:Q0a w (Q2z c s::fr))=>V1g c s i' g' B H
  rcases Y5p R hPk B with ⟨h0,h1⟩|⟨h0,n,j,x,rfl,rfl,hx,hv,hj,hr,hk2,h1⟩
  ·rw[h1] at hLk;obtain⟨l1,l2,l3,hlk⟩:=Q5t .none;rw[hlk] at hLk;refine J7 H ?_;refine Q1m (fun ms σ w=>ms=[]∧∃ b27,σ 0=pp p∧σ 3=pp b3∧σ 6 = .int .i64 o∧σ 27=pp b27∧σ 28 = .int .i64 (Q2l m o B true:Nat)∧Q0a w (pts b27 (row 88 [.int .i64 l1,.int .i64 l2,.int .i64 l3])::pts b3 (row 93 [.int .i64 11,.int .i64 A,.int .i64 B,.int .i64 C,.int .u64 X,.slice adW ws.length capW,.bool raw,.int .i64 i,.int .i64 g])::V0q p c mo (.slice a told.length cap)::Q2z c s::Q2p mo m::TKL (.slice a told.length cap) told::fr)) ?_ ?_
   ·refine J1 H ?_;clear H;intro w H;refine J27 H ?_;refine Jl 3 [7,12] H ?_;refine U9e H ?_;refine Jf 5 ?_;refine Jl 6 [7,12] H ?_;refine Jw 7 11 H rfl rfl (Q1h (a:=[]) (b:=[]) rfl rfl (call (hLk _ _ H) ?_)) (Q1x H rfl ?_)
    ·clear H;rintro v w ⟨rfl,H⟩;refine J94 H ?_;refine U4z H ?_;clear H;intro b27 w H;refine J80 H ?_;clear H;intro w H;refine G8m H ?_;replace H:=Js [0,2,2,0,1,1] 1 H;exact⟨rfl,rfl,b27,rfl,rfl,rfl,rfl,rfl,H⟩
    ·clear H;intro b27 w H;refine Jo 7 H ?_;refine Jk rfl rfl (hLk _ _ H.swap) ?_;clear H;rintro v w ⟨rfl,H⟩;refine J94 H ?_;refine J80 H ?_;clear H;intro w H;refine G8m H ?_;replace H:=Js [1,2,2,0,1,1] 1 H;exact⟨rfl,rfl,b27,rfl,rfl,rfl,rfl,rfl,H⟩
   clear H;rintro ms σ w ⟨rfl,b27,g0,g3,g6,g27,g28,H⟩;rw[Q0b g0,Q0b g3,Q0b g6,Q0b g27,Q0b g28];replace H:=Js [4,0,0,0,0,0] 0 H;refine J1 H ?_;clear H;intro w H;refine U5e H ?_;refine Jk rfl rfl (Q6j mo m o B true H) ?_;clear H;rintro v w ⟨rfl,H⟩;refine J69 H ?_;refine J3 H ?_;rw[show (((Q2l m o B true:Nat):Int) != 0)=true by rw[bne_iff_ne];omega];refine J13 H ?_;cases hlk;refine J15 H ?_;rw[Q5e ((Q2l m o B true:Nat):Int)];refine Jv ?_;refine U5b H ?_;refine Q4u rfl rfl rfl (V3u rfl rfl rfl rfl (.inl rfl) rfl ?_);refine J2 H ?_;replace H:=Js [3,3,0,2] 2 H;exact Q0g (Jy H rfl fun w' H'=>⟨congrArg Value.bool ((V9y _ _).trans (V9x 0 0 0)),s,m,told,R,Q6s rfl rfl rfl,Q4j H'⟩)
  ·have hnl:=(List.getElem?_eq_some_iff.1 hx).1;have hmx:=hmw.objs x (List.mem_of_getElem? hx);have hkn:=hmx.kind;have htn:=hmx.to;have hsm:=Q4w (w:=hmw) hx;have hkj:=List.getElem?_eq_getElem (l:=x.kind) (i:=j) (by omega);have htj:=List.getElem?_eq_getElem (l:=x.to) (i:=j) (by omega);have hkd:x.kind.getD j 0=x.kind[j]:=by rw[List.getD_eq_getElem?_getD,hkj];rfl
   have htd:x.to.getD j 0=x.to[j]:=by rw[List.getD_eq_getElem?_getD,htj];rfl
   have hgo:=hmx.goes j;rw[htd] at hgo;rw[hkd] at hk2;rw[hkd,htd] at h1;generalize x.kind[j]=kd at *;generalize x.to[j]=td at *;have hlt:kd=2→td < told.length:=fun h=>by rw[R.len];exact hgo (by rw[hkj,h])
   rw[h1] at hLk;obtain⟨l1,l2,l3,hlk⟩:=Q5t (V8d told kd td);rw[hlk] at hLk;have hlink:=fun (w:World) (fr:List Q0e) (H:Q0a w (V0q p c mo (.slice a told.length cap)::TKL (.slice a told.length cap) told::fr))=>V9z p c mo a cap told kd td hk2 hlt H;rw[hlk] at hlink;refine J7 H ?_;refine Q1m (fun ms σ w=>ms=[]∧∃ b27,σ 0=pp p∧σ 3=pp b3∧σ 6 = .int .i64 n∧σ 27=pp b27∧σ 28 = .int .i64 (0:Nat)∧Q0a w (pts b27 (row 88 [.int .i64 l1,.int .i64 l2,.int .i64 l3])::pts b3 (row 93 [.int .i64 11,.int .i64 A,.int .i64 (j:Nat),.int .i64 C,.int .u64 X,.slice adW ws.length capW,.bool raw,.int .i64 i,.int .i64 g])::V0q p c mo (.slice a told.length cap)::Q2z c s::Q2p mo m::TKL (.slice a told.length cap) told::fr)) ?_ ?_
   ·refine J1 H ?_;clear H;intro w H;refine J27 H ?_;refine Jl 3 [7,12] H ?_;refine U9e H ?_;refine Jf 5 ?_;refine Jl 6 [7,12] H ?_;refine Jw 7 11 H rfl rfl (Q1h (a:=[]) (b:=[]) rfl rfl (call (hLk _ _ H) ?_)) (Q1x H rfl ?_)
    ·clear H;rintro v w ⟨rfl,H⟩;refine J94 H ?_;refine U4z H ?_;clear H;intro b27 w H;refine J80 H ?_;clear H;intro w H;refine G8m H ?_;replace H:=Js [0,2,2,0,1,1] 1 H;exact⟨rfl,rfl,b27,rfl,rfl,rfl,rfl,rfl,H⟩
    ·clear H;intro b27 w H;refine Jo 7 H ?_;refine Jk rfl rfl (hLk _ _ H.swap) ?_;clear H;rintro v w ⟨rfl,H⟩;refine J94 H ?_;refine J80 H ?_;clear H;intro w H;refine G8m H ?_;replace H:=Js [1,2,2,0,1,1] 1 H;exact⟨rfl,rfl,b27,rfl,rfl,rfl,rfl,rfl,H⟩
   clear H;rintro ms σ w ⟨rfl,b27,g0,g3,g6,g27,g28,H⟩;rw[Q0b g0,Q0b g3,Q0b g6,Q0b g27,Q0b g28];replace H:=Js [4,0,0,0,0,0] 0 H;refine J1 H ?_;clear H;intro w H;refine U5e H ?_;refine Jk rfl rfl (Q6j mo m n j true H) ?_;clear H;rintro v w ⟨rfl,H⟩;rw[h0];refine J69 H ?_;refine J47 H ?_;obtain⟨t,lc,aL,cL,bO,cO,sO,ptrs,q,vw,vk,vt,rest,hm,h2,hp,H,hclose⟩:=Q4i H hx;have hm':=Q8b hx hm;obtain⟨ak,ck,rfl⟩:=Q0j H.drop.drop (Q0d _) (by decide);obtain⟨at',ct,rfl⟩:=Q0j H.drop.drop.drop (Q0d _) (by decide);replace H:=Js [2,0,0,0] 0 H;obtain⟨bk,sk,rfl,H,hck⟩:=Q0y H (by omega);replace H:=Js [3,0,0,0] 0 H;obtain⟨bt,st,rfl,H,hct⟩:=Q0y H (by omega);refine J1 H ?_;clear H;intro w H;refine U5f H ?_;refine Q1w 4 [39] H rfl (Q0n.of rfl rfl rfl) rfl (by repeat first|exact .nil _|apply Q0o.cons rfl) (by kernel_rfl) ?_;refine U3x H ?_;refine Jl 8 [39] H ?_;refine Ja 9 ?_;refine Jf 10 ?_;refine Jl 11 [39] H ?_;refine Ja 12 ?_;refine Ji 13 ?_;refine Q2b 14 [39] H rfl (Q0n.of rfl rfl rfl) rfl hp (by kernel_rfl) ?_;refine Ja 15 ?_;refine Jf 16 ?_;refine Jl 17 [39] H ?_;refine Jf 18 ?_;refine Jl 19 [39] H ?_;refine Ji 20 ?_;refine Q2b 21 [39] H rfl (Q0n.of rfl rfl rfl) rfl (Q2r hkj) (by kernel_rfl) ?_;refine Ja 22 ?_;refine Ja 23 ?_;refine Jf 24 ?_;refine Jl 25 [39] H ?_;refine Ja 26 ?_;refine Jf 27 ?_;refine Jl 28 [39] H ?_;refine Ja 29 ?_;refine Ji 30 ?_;refine Q2b 31 [39] H rfl (Q0n.of rfl rfl rfl) rfl hp (by kernel_rfl) ?_;refine Ja 32 ?_;refine Jf 33 ?_;refine Jl 34 [39] H ?_;refine Jf 35 ?_;refine Jl 36 [39] H ?_;refine Ji 37 ?_;refine Q2b 38 [39] H rfl (Q0n.of rfl rfl rfl) rfl (Q2r htj) (by kernel_rfl) ?_;replace H:=Js [12,13,0,0,0,0,0,0,0,0,0,0,0,0,0] 0 H;refine Jo 39 H ?_;refine Jk rfl rfl (hlink _ _ H) ?_;clear H;rintro v w ⟨rfl,H⟩;refine Ja 40 ?_;refine Ja 41 ?_;refine Jx H ?_;replace H:=Js [3,2,2,2,2,2,2,2,2,2,2,2,2,0,0] 0 H;replace H:=hck _ _ H;replace H:=Js [1,0,0,0] 0 H;replace H:=hct _ _ H;replace H:=Js [2,2,1,0] 0 H;replace H:=Q3j hx (hclose _ _ x hm' H);replace H:=Js [4,3,0,2] 2 H;exact Q0g (Jy H rfl fun w' H'=>⟨rfl,s,m,told,R,Q6s rfl rfl rfl,Q4j H'⟩)
 rw[show (k == 11)=false by simpa using hk11];refine J98 H ?_;replace H:=Js [2,2,2,2] 2 H;exact Q0g (Jy H rfl fun w' H'=>⟨rfl,s,m,told,R,Q6s rfl rfl rfl,Q4j H'⟩)
end Go.Proofs.YtmjdnljneifpcaaGreatDoor
