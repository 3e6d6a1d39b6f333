/- Cells: what is proved on the way: every input of the statement; no condition. Texts joined: RefA RefB RefC RefD ModA ModB ModC ModD ModE. -/
import Derived.Test.YtbnnnljagkjpiaaGreatDoorBhk
import Derived.Test.YtbnnnljagkjpiaaGreatDoorBhd
import Derived.Test.YtbnnnljagkjpiaaGreatDoorBhf
import Derived.Test.YtbnnnljagkjpiaaGreatDoorBhh
set_option linter.unusedVariables false
set_option linter.unusedSimpArgs false
set_option linter.unusedSectionVars false
namespace Go.Proofs.YtbnnnljagkjpiaaGreatDoor
open List
open Go.SL
theorem Nz [Q4] (v:Value) (l:List Nat) (size:Nat) (hl:l.length≤1000000) {w:World} {fr:List Q2} (hr:Vh fr v l.length 1 (QA l)) (H:Q0 w fr) :
  Calls Tryz.prog 252 #[v,.int .i64 size] w (ret fun x w'=>(∃ b,x = .bool b∧(b=true↔Uq l size))∧Q0 w' fr):=by
 obtain⟨_,ad,cap,rfl,hr⟩:=hr;refine QV Tryz.func252 rfl (by kernel_rfl) ?_;refine ED H ?_;refine Qi (fun ms σ w q=>ms=[]∧∃ (i:Nat) (t:Int),i≤l.length∧q=l.length - i∧Uq (l.take i) size∧((i=0∧t = -1)∨∃ y:Nat,(l.take i).getLast? = some y∧t=y)∧σ 0 = .slice ad l.length cap∧σ 1 = .int .i64 size∧σ 5 = .int .i64 t∧σ 6 = .int .i64 i∧Q0 w fr) (m:=l.length) ⟨rfl,0,-1,by omega,rfl,⟨by simp,by simp⟩,.inl ⟨rfl,rfl⟩,rfl,rfl,rfl,rfl,H⟩ ?_;clear H;rintro ms σ w q ⟨rfl,i,t,hi,rfl,hR,ht,g0,g1,g5,g6,H⟩;rw[Q1 g0,Q1 g1,Q1 g5,Q1 g6];refine KE H ?_;refine Qh rfl (fun h=>QR ?_) (fun h=>Qj ?_)
 ·have hlt:i < l.length:=by omega
  have hx:=getElem?_eq_getElem hlt;have htk:l.take (i+1)=l.take i++[l[i]]:=by rw[take_add_one,hx];rfl
  have hmem:l[i]∈l:=getElem_mem hlt;have hlast:(l.take (i+1)).getLast? = some l[i]:=by rw[htk,getLast?_concat]
  have hbad:∀ y:Nat,(l.take i).getLast? = some y→l.Pairwise (· < ·)→y < l[i]:=fun y hy hp=>by
   have hi0:0 < i:=by
    rcases Nat.eq_zero_or_pos i with h0|h0
    ·subst h0;simp at hy
    ·exact h0
   rw[getLast?_eq_getElem?,length_take,Nat.min_eq_left hi,getElem?_take_of_lt (by omega),getElem?_eq_getElem (by omega)] at hy;have:=pairwise_iff_getElem.1 hp (i - 1) i (by omega) hlt (by omega);injection hy with hy
   omega
  generalize l[i]=x at hx htk hmem hlast hbad
  rcases hr with hr|⟨b,o,E,fz,c,rfl,hA,hrd⟩
  ·omega
  haveI:=hA
  have hcell:c[o+i*1]? = some (.int .i64 x):=by
   rw[Nat.mul_one];exact hrd.get i _ (by simp[QA,hx])
  refine KX H ?_;refine Jd ?_;refine Q5 rfl (QW H rfl hcell rfl ?_);refine YP H ?_;by_cases h1:(x:Int)≤t
  ·rw[show decide ((x:Int)≤t)=true from decide_eq_true (by omega)];refine Jv ?_;refine C3 H ?_;refine UK H ?_;refine Q3 (Jy H rfl fun w' H'=>⟨⟨false,rfl,⟨fun h=>(by cases h),fun h=>?_⟩⟩,H'⟩)
   rcases ht with ⟨_,rfl⟩|⟨y,hy,rfl⟩
   ·omega
   ·have:=hbad y hy h.2;omega
  ·rw[show decide ((x:Int)≤t)=false from decide_eq_false (by omega)];refine XS H ?_;refine QT rfl rfl rfl (Gq rfl rfl (by omega) (by omega) rfl ?_);refine QT rfl rfl rfl (QW H rfl hcell rfl ?_);refine Yy H ?_;by_cases h2:x < size
   ·rw[show decide ((x:Int)≥(size:Int))=false from decide_eq_false (by omega)];refine Vo H ?_;refine J5 H ?_;refine Jd ?_;refine Q5 rfl (QW H rfl hcell rfl ?_);refine C1 H ?_;refine⟨_,⟨rfl,i+1,x,hlt,rfl,?_,.inr ⟨x,hlast,rfl⟩,rfl,rfl,rfl,Qa (by omega),H⟩,by omega⟩;rw[htk];refine⟨fun p hp=>?_,MT hR.2 fun z hz=>?_⟩
    ·simp at hp
     rcases hp with hp|rfl
     ·exact hR.1 p hp
     ·exact h2
    ·rcases ht with ⟨rfl,rfl⟩|⟨y,hy,rfl⟩
     ·simp at hz
     ·rw[hy] at hz;cases hz;omega
   ·rw[show decide ((x:Int)≥(size:Int))=true from decide_eq_true (by omega)];refine UK H ?_;refine Q3 (Jy H rfl fun w' H'=>⟨⟨false,rfl,⟨fun h=>(by cases h),fun h=>?_⟩⟩,H'⟩);exact absurd (h.1 x hmem) h2
 ·have hge:i=l.length:=by omega
  subst hge;rw[take_length] at hR;refine VJ H ?_;exact Q3 (Jy H rfl fun w' H'=>⟨⟨true,rfl,by simp[hR]⟩,H'⟩)
theorem O0 [Q4] (v:Value) (l:List Nat) (x:Nat) (hl:l.length≤1000000) {w:World} {fr:List Q2} (hr:Vh fr v l.length 1 (QA l)) (H:Q0 w fr) :
  Calls Tryz.prog 245 #[v,.int .i64 x] w (ret fun r w'=>r = .bool (decide (x∈l))∧Q0 w' fr):=by
 obtain⟨_,ad,cap,rfl,hr⟩:=hr;refine QV Tryz.func245 rfl (by kernel_rfl) ?_;refine HG H ?_;refine Qi (fun ms σ w q=>ms=[]∧∃ i:Nat,i≤l.length∧q=l.length - i∧x∉l.take i∧σ 0 = .slice ad l.length cap∧σ 1 = .int .i64 x∧σ 5 = .int .i64 i∧Q0 w fr) (m:=l.length) ⟨rfl,0,by omega,rfl,by simp,rfl,rfl,rfl,H⟩ ?_;clear H;rintro ms σ w q ⟨rfl,i,hi,rfl,hn,g0,g1,g5,H⟩;rw[Q1 g0,Q1 g1,Q1 g5];refine KE H ?_;refine Qh rfl (fun h=>QR ?_) (fun h=>Qj ?_)
 ·have hlt:i < l.length:=by omega
  have hx:=getElem?_eq_getElem hlt;have htk:l.take (i+1)=l.take i++[l[i]]:=by rw[take_add_one,hx];rfl
  have hmem:l[i]∈l:=getElem_mem hlt;generalize l[i]=y at hx htk hmem
  rcases hr with hr|⟨b,o,E,fz,c,rfl,hA,hrd⟩
  ·omega
  haveI:=hA
  have hcell:c[o+i*1]? = some (.int .i64 y):=by
   rw[Nat.mul_one];exact hrd.get i _ (by simp[QA,hx])
  refine KX H ?_;refine Jd ?_;refine Q5 rfl (QW H rfl hcell rfl ?_);refine J2 H ?_;by_cases h1:y=x
  ·subst h1;rw[show ((y:Int) == (y:Int))=true by simp];refine YR H ?_;exact Q3 (Jy H rfl fun w' H'=>⟨by rw[decide_eq_true hmem];rfl,H'⟩)
  ·rw[show ((y:Int) == (x:Int))=false by simp;omega];refine A9 H ?_;refine⟨_,⟨rfl,i+1,hlt,rfl,?_,rfl,rfl,Qa (by omega),H⟩,by omega⟩;rw[htk];simp only[mem_append,mem_singleton];rintro(h|h)
   ·exact hn h
   ·exact h1 h.symm
 ·have hge:i=l.length:=by omega
  subst hge;rw[take_length] at hn;refine VJ H ?_;exact Q3 (Jy H rfl fun w' H'=>⟨by rw[decide_eq_false hn];rfl,H'⟩)
theorem Cj [Q4] (x:Nat) (hx:x < 18446744073709551616) {w:World} {fr:List Q2} (H:Q0 w fr) :
  Calls Tryz.prog 239 #[.int .u64 x] w (ret fun v w'=>Q0 w' (NL v (VS x 64)::fr)):=by
 refine QV Tryz.func239 rfl (by kernel_rfl) ?_;refine ED H ?_;refine Qi (fun ms σ w n=>ms=[]∧∃ (k:Nat) (g:Value),k≤64∧n=64 - k∧σ 0 = .int .u64 ((x / 2 ^ k:Nat):Int)∧σ 3=g∧σ 4 = .int .i64 k∧Q0 w (NL g (VS x k)::fr)) (m:=64) ⟨rfl,0,_,by omega,rfl,by simp;rfl,rfl,rfl,Yn H⟩ ?_;clear H;rintro ms σ w n ⟨rfl,k,g,hk,rfl,g0,g3,g4,H⟩;obtain⟨ag,mg,cg,rfl⟩:=Qq H;rw[Q1 g0,Q1 g3,Q1 g4];refine J3 H ?_;by_cases h64:k < 64
 ·rw[show decide ((k:Int) < 64)=true from decide_eq_true (by omega)];refine J7 H ?_;refine VE rfl (QR ?_);have hdle:x / 2 ^ k≤x:=Nat.div_le_self _ _;have hbit:x.testBit k=decide (x / 2 ^ k % 2=1):=Nat.testBit_eq_decide_div_mod_eq;have hnext:x / 2 ^ (k+1)=x / 2 ^ k / 2:=by rw[Nat.pow_succ,Nat.div_div_eq_div_mul]
  generalize hy:x / 2 ^ k=y at hdle hbit hnext;have hrem:Int.tmod (y:Int) 2=((y % 2:Nat):Int):=by rw[Int.tmod_eq_emod_of_nonneg (by omega)];omega
  have hquo:IntKind.u64.wrap (Int.tdiv (y:Int) 2)=((y / 2:Nat):Int):=by
   rw[Int.tdiv_eq_ediv_of_nonneg (by omega),show (y:Int) / 2=((y / 2:Nat):Int) by omega,UG (by omega)]
  refine KX H ?_;rw[hrem];refine YK H ?_;refine Qm (fun ms σ w=>ms=[]∧∃ g:Value,σ 0 = .int .u64 y∧σ 3=g∧σ 4 = .int .i64 k∧Q0 w (NL g (VS x (k+1))::fr)) ?_ ?_
  ·by_cases h1:y % 2=1
   ·have e2:VS x (k+1)=VS x k++[k]:=by rw[Eh,hbit,decide_eq_true h1];rfl
    rw[show (((y % 2:Nat):Int) == 1)=true by simp;omega];refine VE rfl ?_;refine E5 H ?_;clear H;intro b14 w H;refine Q5 rfl (YF H.swap rfl rfl (by repeat first|exact .nil _|apply QZ.cons rfl) rfl (by decide) (by rw[QE];have:=AM x k;simp only[length_cons,length_nil];omega) rfl rfl ?_);clear H;intro v15 w H;obtain⟨a15,m15,c15,rfl⟩:=Qq H;refine J0 H ?_;refine⟨rfl,rfl,_,rfl,rfl,rfl,?_⟩;rw[e2];show Q0 w (QC _ 1 _ (QA (VS x k++[k]))::_);rw[WW];exact Q0.drop H.swap
   ·have e2:VS x (k+1)=VS x k:=by rw[Eh,hbit,decide_eq_false h1];simp
    rw[show (((y % 2:Nat):Int) == 1)=false by simp;omega];refine VY rfl (QR ?_);exact⟨rfl,rfl,_,rfl,rfl,rfl,by rw[e2];exact H⟩
  ·clear H;rintro ms σ w ⟨rfl,g,g0,g3,g4,H⟩;obtain⟨ag,mg,cg,rfl⟩:=Qq H;rw[Q1 g0,Q1 g3,Q1 g4];refine J5 H ?_;rw[hquo];refine C1 H ?_;exact⟨_,⟨rfl,k+1,_,h64,rfl,by rw[hnext];rfl,rfl,Qa (by omega),H⟩,by omega⟩
 ·have hk64:k=64:=by omega
  subst hk64;rw[show decide (((64:Nat):Int) < 64)=false from rfl];refine J7 H ?_;refine VY rfl (Qj ?_);refine J3 H ?_;exact Q3 (Jy H rfl fun w' H'=>H')
theorem O1 [Q4] (vr vq:Value) (l:QJ) (hs:Ei l) {w:World} {fr:List Q2} (hr:UC fr vr vq l) (H:Q0 w fr) :
  Calls Tryz.prog 240 #[Ys l.fixed vr l.record vq] w (ret fun x w'=>(∃ b,x = .bool b∧(b=true↔VT l))∧Q0 w' fr):=by
 obtain⟨s1,s2,s3,s4⟩:=hs;obtain⟨hr1,hr2⟩:=hr;obtain⟨_,ad1,cap1,rfl,hr1'⟩:=id hr1;obtain⟨_,ad2,cap2,rfl,hr2'⟩:=id hr2;refine QV Tryz.func240 rfl (by kernel_rfl) ?_;refine J8 H ?_;clear H;intro b1 w H;refine J0 H ?_;refine Kv H ?_;rw[show decide ((l.fixed:Int) < 0)=false from decide_eq_false (by omega)];refine Wy H ?_;by_cases h1:l.fixed≤64
 ·rw[show decide ((l.fixed:Int) > 64)=false from decide_eq_false (by omega)];refine BW H ?_;rw[show decide ((l.record:Int) < 0)=false from decide_eq_false (by omega)];refine BW H ?_;by_cases h2:l.record≤64
  ·rw[show decide ((l.record:Int) > 64)=false from decide_eq_false (by omega)];refine Vo H ?_;refine Bh H ?_;refine Jc rfl rfl (Nz _ l.refs l.fixed s3 hr1.there H) ?_;clear H;rintro v w ⟨⟨b,rfl,hb⟩,H⟩;refine Rv H ?_;refine Gg H ?_;refine Jc rfl rfl (Nz _ l.recs l.record s4 hr2.there H) ?_;clear H;rintro v w ⟨⟨c,rfl,hc⟩,H⟩;refine J0 H ?_
   have key:(b=true∧c=true∧l.fixed+l.record≠0)↔VT l:=by
    rw[hb,hc];exact⟨fun h=>⟨h1,h2,h.2.2,h.1,h.2.1⟩,fun h=>⟨h.2.2.2.1,h.2.2.2.2,h.2.2.1⟩⟩
   cases b with
   | false=>
    refine J5 H ?_;refine Qu rfl rfl rfl ?_;refine Zk H ?_;refine Df H ?_;exact Q3 (Jy H.drop rfl fun w' H'=>⟨⟨false,rfl,⟨fun h=>(by cases h),fun h=>(by have:=(key.2 h).1;cases this)⟩⟩,H'⟩)
   | true=>
    cases c with
    | false=>
     refine J5 H ?_;refine YT H ?_;refine Zk H ?_;refine Df H ?_;exact Q3 (Jy H.drop rfl fun w' H'=>⟨⟨false,rfl,⟨fun h=>(by cases h),fun h=>(by have:=(key.2 h).2.1;cases this)⟩⟩,H'⟩)
    | true=>
     refine J5 H ?_;refine YT H ?_;refine BW H ?_;by_cases h3:l.fixed > 0
     ·rw[show decide ((l.fixed:Int) > 0)=true from decide_eq_true (by omega)];refine YT H ?_;refine A8 H ?_;refine XP H ?_;exact Q3 (Jy H.drop rfl fun w' H'=>⟨⟨true,rfl,⟨fun _=>key.1 ⟨rfl,rfl,by omega⟩,fun _=>rfl⟩⟩,H'⟩)
     ·rw[show decide ((l.fixed:Int) > 0)=false from decide_eq_false (by omega)];refine W6 H ?_;by_cases h4:l.record > 0
      ·rw[show decide ((l.record:Int) > 0)=true from decide_eq_true (by omega)];refine XP H ?_;exact Q3 (Jy H.drop rfl fun w' H'=>⟨⟨true,rfl,⟨fun _=>key.1 ⟨rfl,rfl,by omega⟩,fun _=>rfl⟩⟩,H'⟩)
      ·rw[show decide ((l.record:Int) > 0)=false from decide_eq_false (by omega)];refine XP H ?_;exact Q3 (Jy H.drop rfl fun w' H'=>⟨⟨false,rfl,⟨fun h=>(by cases h),fun h=>(by have:=(key.2 h).2.2;omega)⟩⟩,H'⟩)
  ·rw[show decide ((l.record:Int) > 64)=true from decide_eq_true (by omega)];refine UK H ?_;exact Q3 (Jy H.drop rfl fun w' H'=>⟨⟨false,rfl,⟨fun h=>(by cases h),fun h=>(by unfold VT at h;omega)⟩⟩,H'⟩)
 ·rw[show decide ((l.fixed:Int) > 64)=true from decide_eq_true (by omega)];refine De H ?_;refine De H ?_;refine UK H ?_;exact Q3 (Jy H.drop rfl fun w' H'=>⟨⟨false,rfl,⟨fun h=>(by cases h),fun h=>(by unfold VT at h;omega)⟩⟩,H'⟩)
theorem dq [Q4] (vr vq:Value) (l:QJ) (hR:VT l) (count:Int) {w:World} {fr:List Q2} (hr:UC fr vr vq l) (H:Q0 w fr) :
  Calls Tryz.prog 241 #[Ys l.fixed vr l.record vq,.int .i64 count] w (ret fun x w'=>x = .tuple #[.int .i64 ((V9 l count).1:Nat),.int .i64 ((V9 l count).2:Nat)]∧Q0 w' fr):=by
 have hf:=hR.1;have hc:=hR.2.1;obtain⟨_,ad1,cap1,rfl,hr1⟩:=id hr.r;obtain⟨_,ad2,cap2,rfl,hr2⟩:=id hr.q;refine QV Tryz.func241 rfl (by kernel_rfl) ?_;refine J8 H ?_;clear H;intro b2 w H;refine J2 H ?_;refine GG H ?_;refine Jc rfl rfl (O1 _ _ l hR.small hr.there H) ?_;clear H;rintro v w ⟨⟨b,rfl,hb⟩,H⟩;obtain rfl:=hb.2 hR;refine Yp H ?_;refine J7 H ?_;refine Qm (fun ms σ w=>ms=[]∧(∃ q,σ 26 = .bool q∧(q=true↔(count < 0∨count > 1024∨(count > 0∧l.record=0))))∧σ 1 = .int .i64 count∧σ 2=pp b2∧Q0 w (pts b2 (row 164 [.int .i64 l.fixed,.slice ad1 l.refs.length cap1,.int .i64 l.record,.slice ad2 l.recs.length cap2])::fr)) ?_ ?_
 ·refine J5 H ?_;by_cases c0:count < 0
  ·rw[show decide (count < 0)=true from decide_eq_true (by omega)];refine Jv ?_;refine Bi H ?_;refine Zk H ?_;refine XT H ?_;refine Qu rfl rfl rfl ?_;refine J0 H ?_;exact⟨rfl,rfl,⟨true,rfl,by simp[c0]⟩,rfl,rfl,H⟩
  ·rw[show decide (count < 0)=false from decide_eq_false (by omega)];refine XS H ?_;by_cases c1:count > 1024
   ·rw[show decide (count > 1024)=true from decide_eq_true (by omega)];refine Zk H ?_;refine XT H ?_;refine Qu rfl rfl rfl ?_;refine J0 H ?_;exact⟨rfl,rfl,⟨true,rfl,by simp[c1]⟩,rfl,rfl,H⟩
   ·rw[show decide (count > 1024)=false from decide_eq_false (by omega)];refine BW H ?_;by_cases c3:l.record=0
    ·rw[show ((l.record:Int) == 0)=true by simp;omega];refine Gw H ?_;by_cases c2:count > 0
     ·rw[show decide (count > 0)=true from decide_eq_true (by omega)];refine DT H ?_;exact⟨rfl,rfl,⟨true,rfl,by simp[c2,c3]⟩,rfl,rfl,H⟩
     ·rw[show decide (count > 0)=false from decide_eq_false (by omega)];refine DT H ?_;exact⟨rfl,rfl,⟨false,rfl,by simp only[Bool.false_eq_true,false_iff];omega⟩,rfl,rfl,H⟩
    ·rw[show ((l.record:Int) == 0)=false by simp;omega];refine YT H ?_;refine Bi H ?_;refine DT H ?_;exact⟨rfl,rfl,⟨false,rfl,by simp only[Bool.false_eq_true,false_iff];omega⟩,rfl,rfl,H⟩
 clear H;rintro ms σ w ⟨rfl,⟨q,g26,hq⟩,g1,g2,H⟩;rw[Q1 g26,Q1 g1,Q1 g2];cases q with
 | true=>
  have hs:V9 l count=(0,3):=by unfold V9;rw[if_pos (hq.1 rfl)]
  refine Yi H ?_;exact Q3 (Jy H.drop rfl fun w' H'=>⟨by rw[hs];rfl,H'⟩)
 | false=>
  have hq':¬ (count < 0∨count > 1024∨(count > 0∧l.record=0)):=fun h=>by have:=hq.2 h;cases this
  obtain⟨c,rfl⟩:∃ c:Nat,count=c:=⟨count.toNat,by omega⟩;have hcm:c*l.record≤1024*64:=Nat.mul_le_mul (by omega) hc;have hcm2:(l.record:Int)*(c:Int)=((c*l.record:Nat):Int):=by rw[Int.natCast_mul,Int.mul_comm]
  refine V8 H ?_;refine Bh H ?_;refine WV H ?_;refine VG H ?_;rw[hcm2,Qb (x:=((c*l.record:Nat):Int)) (by omega) (by omega),Qb (x:=(l.fixed:Int)+((c*l.record:Nat):Int)) (by omega) (by omega),Qb (x:=(l.fixed:Int)+((c*l.record:Nat):Int)+1) (by omega) (by omega)];by_cases c3:l.fixed+c*l.record≥8192
  ·have hs:V9 l (c:Int)=(0,10):=by unfold V9;rw[if_neg hq',if_pos (by simpa using c3)]
   rw[show decide ((l.fixed:Int)+((c*l.record:Nat):Int)+1 > 8192)=true from decide_eq_true (by omega)];refine Yi H ?_;exact Q3 (Jy H.drop rfl fun w' H'=>⟨by rw[hs];rfl,H'⟩)
  ·have hs:V9 l (c:Int)=(l.fixed+c*l.record,0):=by unfold V9;rw[if_neg hq',if_neg (by simpa using c3)];simp
   rw[show decide ((l.fixed:Int)+((c*l.record:Nat):Int)+1 > 8192)=false from decide_eq_false (by omega)];refine A9 H ?_;exact Q3 (Jy H.drop rfl fun w' H'=>⟨by rw[hs];show Value.tuple #[.int .i64 ((l.fixed:Int)+((c*l.record:Nat):Int)),_]=_;rw[← Int.natCast_add];rfl,H'⟩)
theorem dr [Q4] (vr vq:Value) (l:QJ) (hR:VT l) (p:Nat) (hp:l.record≠0∨p < l.fixed) (hp2:p < 1000000) {w:World} {fr:List Q2} (hr:UC fr vr vq l) (H:Q0 w fr) :
  Calls Tryz.prog 218 #[Ys l.fixed vr l.record vq,.int .i64 p] w (ret fun x w'=>x = .bool (VW l p)∧Q0 w' fr):=by
 have hsm:=hR.small;obtain⟨_,ad1,cap1,rfl,hr1⟩:=id hr.r;obtain⟨_,ad2,cap2,rfl,hr2⟩:=id hr.q;refine QV Tryz.func218 rfl (by kernel_rfl) ?_;refine J8 H ?_;clear H;intro b2 w H;refine J0 H ?_;refine R4 H ?_;refine J0 H ?_;by_cases h1:p < l.fixed
 ·rw[show decide ((p:Int) < (l.fixed:Int))=true from decide_eq_true (by omega)];refine VR H ?_;refine Kv H ?_;refine Jc rfl rfl (O0 _ l.refs p hsm.a hr.r.there H) ?_;clear H;rintro v w ⟨rfl,H⟩;refine J0 H ?_;exact Q3 (Jy H.drop rfl fun w' H'=>⟨by unfold VW;rw[if_pos h1];rfl,H'⟩)
 ·have e1:IntKind.i64.wrap ((p:Int) - (l.fixed:Int))=((p - l.fixed:Nat):Int):=by rw[Qb (by omega) (by omega)];omega
  rw[show decide ((p:Int) < (l.fixed:Int))=false from decide_eq_false (by omega)];refine Bw H ?_;clear H;intro w H;refine Jf 0 ?_;refine Jl 1 [9] H ?_;refine Ja 2 ?_;refine Jf 3 ?_;refine Jl 4 [9] H ?_;refine Ja 5 ?_;refine Jf 6 ?_;refine Jl 7 [9] H ?_;rw[e1]
  refine Gc (v := .int .i64 (((p - l.fixed) % l.record:Nat):Int)) 8 rfl (Q9.none rfl) (by
   show (if IntKind.i64=IntKind.i64 then (if (l.record:Int)=0 then none else some (Value.int .i64 (Int.tmod ((p - l.fixed:Nat):Int) (l.record:Int)))) else none)=_;rw[if_pos rfl,if_neg (by omega),Int.tmod_eq_emod_of_nonneg (by omega),Int.natCast_emod]) (by kernel_rfl) ?_
  refine Jo 9 H ?_;refine Jk rfl rfl (O0 _ l.recs _ hsm.b hr.q.there H) ?_;clear H;rintro v w ⟨rfl,H⟩;refine Ja 10 ?_;refine Jx H ?_;exact Q3 (Jy H.drop rfl fun w' H'=>⟨by unfold VW;rw[if_neg h1];rfl,H'⟩)
theorem IM [Q4] (va vb:Value) (a b:List Int) (hl:a.length≤1000000) {w:World} {fr:List Q2} (H:Q0 w (IL va a::IL vb b::fr)) :
  Calls Tryz.prog 26 #[va,vb] w (ret fun v w'=>v = .bool (decide (a=b))∧Q0 w' (IL va a::IL vb b::fr)):=by
 obtain⟨aa,ca,rfl⟩:=QD H (Va a) (by decide);obtain⟨ab,cb,rfl⟩:=QD H.drop (Va b) (by decide);refine QV Tryz.func26 rfl (by kernel_rfl) ?_;refine R3 H ?_;refine DF H ?_;refine Ul H ?_;by_cases hlen:a.length=b.length
 ·rw[show ((a.length:Int) != (b.length:Int))=false by simp;omega];refine V8 H ?_;refine A1 H ?_;refine Qi (fun ms σ w q=>ms=[]∧∃ i:Nat,i≤a.length∧q=a.length - i∧a.take i=b.take i∧σ 0 = .slice aa a.length ca∧σ 1 = .slice ab b.length cb∧σ 5 = .int .i64 i∧Q0 w (IL (.slice aa a.length ca) a::IL (.slice ab b.length cb) b::fr)) (m:=a.length) ⟨rfl,0,by omega,rfl,by simp,rfl,rfl,rfl,H⟩ ?_;clear H;rintro ms σ w q ⟨rfl,i,hi,rfl,heq,g0,g1,g5,H⟩;rw[Q1 g0,Q1 g1,Q1 g5];refine KE H ?_;refine Qh rfl (fun h=>QR ?_) (fun h=>Qj ?_)
  ·have hlt:i < a.length:=by omega
   have hlt2:i < b.length:=by omega
   have hx:=getElem?_eq_getElem hlt;have hy:=getElem?_eq_getElem hlt2;generalize a[i]=x at hx;generalize b[i]=y at hy;obtain⟨ba,sa,rfl,H,hca⟩:=Qw H (by omega);obtain⟨bb,sb,rfl,H,hcb⟩:=Qw H.swap (by omega)
   have c1:(Qc a++sa)[0+i*1]? = some (.int .i64 x):=by
    rw[Nat.zero_add,Nat.mul_one,getElem?_append_left (by simpa [Qc] using hlt)];simp[Qc,hx]
   have c2:(Qc b++sb)[0+i*1]? = some (.int .i64 y):=by
    rw[Nat.zero_add,Nat.mul_one,getElem?_append_left (by simpa [Qc] using hlt2)];simp[Qc,hy]
   refine C2 H ?_;clear H;intro w H;refine Ja 0 ?_;refine Ja 1 ?_;refine Ji 2 ?_;refine Vg 3 [] H rfl (Q9.none rfl) rfl c1 (by kernel_rfl) ?_;refine Ui H ?_;refine Ji 6 ?_;refine Vg 7 [] H rfl (Q9.none rfl) rfl c2 (by kernel_rfl) ?_;refine Xi H ?_;replace H:=hcb _ _ H;replace H:=hca _ _ H.swap;by_cases hxy:x=y
   ·rw[show (x != y)=false by simpa using hxy];refine A9 H ?_;refine⟨_,⟨rfl,i+1,hlt,rfl,?_,rfl,rfl,Qa (by omega),H⟩,by omega⟩;rw[take_add_one,take_add_one,hx,hy,heq,hxy]
   ·rw[show (x != y)=true by simpa using hxy];refine YR H ?_;refine Q3 (Jy H rfl fun w' H'=>⟨?_,H'⟩)
    have hne:a≠b:=by
     rintro rfl;rw[hx] at hy;injection hy with hy
     exact hxy hy
    rw[decide_eq_false hne];rfl
  ·have hge:i=a.length:=by omega
   subst hge;rw[take_length,hlen,take_length] at heq;refine VJ H ?_;exact Q3 (Jy H rfl fun w' H'=>⟨by rw[decide_eq_true heq];rfl,H'⟩)
 ·rw[show ((a.length:Int) != (b.length:Int))=true by simp;omega];refine YR H ?_;refine Q3 (Jy H rfl fun w' H'=>⟨?_,H'⟩);have hne:a≠b:=by rintro rfl;exact hlen rfl
  rw[decide_eq_false hne];rfl
theorem dt [Q4] (v:Value) (ws:List Nat) (hws:∀ x∈ws,x < 18446744073709551616) {w:World} {fr:List Q2} (hr:Vh fr v ws.length 1 (QP ws)) (H:Q0 w fr) :
  Calls Tryz.prog 212 #[v] w (ret fun r w'=>(ZX ws=none∧r = .tuple #[Ys 0 (.slice none 0 0) 0 (.slice none 0 0),.bool false]∧Q0 w' fr) ∨
   ∃ l vr vq,ZX ws=some l∧r = .tuple #[Ys l.fixed vr l.record vq,.bool true]∧Q0 w' (NL vr l.refs::NL vq l.recs::fr)):=by
 obtain⟨_,ad,cap,rfl,hr'⟩:=id hr;refine QV Tryz.func212 rfl (by kernel_rfl) ?_;refine YS H ?_;clear H;intro b2 w H;refine DL H ?_;refine DF H ?_;by_cases h3:ws.length=3
 ·obtain⟨x,y,z,rfl⟩:∃ x y z,ws=[x,y,z]:=by
   match ws,h3 with
   | [x,y,z],_=>exact⟨x,y,z,rfl⟩
  have hx:=hws x (by simp);have hy:=hws y (by simp);have hz:=hws z (by simp)
  rcases hr' with h|⟨b,o,E,fz,c,rfl,hA,hrd⟩
  ·cases h
  haveI:=hA;have c0:c[o+0*1]? = some (.int .u64 x):=by have:=hrd.get 0 (.int .u64 x) (by simp[QP]);simpa using this
  have c1:c[o+1*1]? = some (.int .u64 y):=by have:=hrd.get 1 (.int .u64 y) (by simp[QP]);simpa using this
  have c2:c[o+2*1]? = some (.int .u64 z):=by have:=hrd.get 2 (.int .u64 z) (by simp[QP]);simpa using this
  rw[show ((([x,y,z]:List Nat).length:Int) != 3)=false from rfl];refine BB H ?_;refine QT rfl rfl rfl (Gq rfl rfl (by omega) (by show (0:Int) < (3:Nat);omega) rfl ?_);refine QT rfl rfl rfl (QW H rfl c0 rfl ?_);refine YT H ?_;by_cases hb:x < 65536
  ·rw[show decide ((x:Int)≥65536)=false from decide_eq_false (by omega)];refine Vo H ?_;have m8:Int.tmod (x:Int) 256=((x % 256:Nat):Int):=by rw[Int.tmod_eq_emod_of_nonneg (by omega)];omega
   have q8:IntKind.u64.wrap (Int.tdiv (x:Int) 256)=((x / 256:Nat):Int):=by
    rw[Int.tdiv_eq_ediv_of_nonneg (by omega),show (x:Int) / 256=((x / 256:Nat):Int) by omega,UG (by omega)]
   have w8:IntKind.i64.wrap ((x % 256:Nat):Int)=((x % 256:Nat):Int):=K6 (by omega);have v8:IntKind.i64.wrap ((x / 256:Nat):Int)=((x / 256:Nat):Int):=K6 (by omega);refine J7 H ?_
   refine Y1 (fun ms σ w=>ms=[]∧∃ b4 va vb,σ 2=pp b2∧σ 4=pp b4 ∧
    Q0 w (pts b4 (row 164 [.int .i64 ((x % 256:Nat):Int),va,.int .i64 ((x / 256:Nat):Int),vb])::NL va (VS y 64)::NL vb (VS z 64)::pts b2 (row 164 [.int .i64 0,.slice none 0 0,.int .i64 0,.slice none 0 0])::fr)) ?_ ?_
   ·refine J1 H ?_;clear H;intro w H;refine Ja 0 ?_;refine Ko 1 rfl (Q9.none rfl) rfl rfl (by omega) (by show (0:Int) < (3:Nat);omega) (by kernel_rfl) ?_;refine Vg 2 [20] H rfl (Q9.none rfl) rfl c0 (by kernel_rfl) ?_;refine Ja 3 ?_;refine Gt 4 rfl (Q9.none rfl) rfl (by kernel_rfl) ?_;refine Ja 5 ?_;refine Ko 6 rfl (Q9.none rfl) rfl rfl (by omega) (by show (1:Int) < (3:Nat);omega) (by kernel_rfl) ?_;refine Vg 7 [8] H rfl (Q9.none rfl) rfl c1 (by kernel_rfl) ?_;refine Ja 9 ?_;refine Ko 10 rfl (Q9.none rfl) rfl rfl (by omega) (by show (0:Int) < (3:Nat);omega) (by kernel_rfl) ?_;refine Vg 11 [20] H rfl (Q9.none rfl) rfl c0 (by kernel_rfl) ?_;refine Ja 12 ?_;refine Gt 13 rfl (Q9.none rfl) rfl (by kernel_rfl) ?_;refine Ja 14 ?_;refine Ko 15 rfl (Q9.none rfl) rfl rfl (by omega) (by show (2:Int) < (3:Nat);omega) (by kernel_rfl) ?_;refine Vg 16 [17] H rfl (Q9.none rfl) rfl c2 (by kernel_rfl) ?_;rw[m8,q8,w8,v8];refine Jw 8 19 H rfl rfl (V0 (a:=[]) (b:=[]) rfl rfl (call (Cj y hy H) ?_)) (Vr H rfl ?_)
    ·clear H;intro va w H;obtain⟨aa,ma,ca,rfl⟩:=Qq H;refine Jw 17 19 H rfl rfl (V0 (a:=[]) (b:=[]) rfl rfl (call (Cj z hz H) ?_)) (Vr H rfl ?_)
     ·clear H;intro vb w H;obtain⟨ab,mb,cb,rfl⟩:=Qq H;refine GY 18 rfl (Q9.none rfl) rfl (by kernel_rfl) ?_;refine Jo 19 H ?_;refine Vr H rfl ?_;clear H;intro b4 w H;refine Jo 20 H ?_;refine Gv H ?_;clear H;intro w H;refine Jx H ?_;replace H:=Js [0,1,0,0] 0 H;exact .inl ⟨rfl,rfl,b4,_,_,rfl,rfl,H⟩
     ·clear H;intro b4 w H;refine Jo 17 H ?_;refine Jk rfl rfl (Cj z hz H) ?_;clear H;intro vb w H;obtain⟨ab,mb,cb,rfl⟩:=Qq H;refine GY 18 rfl (Q9.none rfl) rfl (by kernel_rfl) ?_;refine Jo 20 H ?_;refine Gv H ?_;clear H;intro w H;refine Jx H ?_;replace H:=Js [1,1,0,0] 0 H;exact .inl ⟨rfl,rfl,b4,_,_,rfl,rfl,H⟩
    ·clear H;intro b4 w H;refine Jo 8 H ?_;refine Jk rfl rfl (Cj y hy H) ?_;clear H;intro va w H;obtain⟨aa,ma,ca,rfl⟩:=Qq H;refine Jo 17 H ?_;refine Jk rfl rfl (Cj z hz H) ?_;clear H;intro vb w H;obtain⟨ab,mb,cb,rfl⟩:=Qq H;refine GY 18 rfl (Q9.none rfl) rfl (by kernel_rfl) ?_;refine Jo 20 H ?_;refine Gv H ?_;clear H;intro w H;refine Jx H ?_;replace H:=Js [2,1,0,0] 0 H;exact .inl ⟨rfl,rfl,b4,_,_,rfl,rfl,H⟩
   ·clear H;rintro ms σ w ⟨rfl,b4,va,vb,g2,g4,H⟩;rw[Q1 g2,Q1 g4];have hla:=AM y 64;have hlb:=AM z 64;obtain⟨aa,ca,rfl⟩:=QD (H.drop) (QE (VS y 64)) (by decide);obtain⟨ab,cb,rfl⟩:=QD (H.drop.drop) (QE (VS z 64)) (by decide);refine GG H ?_;replace H:=Js [1,1,0,0] 0 H;obtain⟨D1,H,hD1,hC1⟩:=sls_rd H (QE (VS y 64)) (by decide);obtain⟨D2,H,hD2,hC2⟩:=sls_rd H.swap (QE (VS z 64)) (by decide);refine Jc rfl rfl (O1 _ _ (RW x y z) ⟨by show x % 256≤_;omega,by show x / 256≤_;omega,by show (VS y 64).length≤_;omega,by show (VS z 64).length≤_;omega⟩ ⟨(hD1 _).there,hD2 _⟩ H) ?_;clear H;rintro v w ⟨⟨q,rfl,hq⟩,H⟩;have H:=(hC1 _ _ (hC2 _ _ H).swap);refine J0 H ?_;cases q with
    | true=>
     refine Gf H ?_;refine KZ H ?_;clear H;intro w H;refine J0 H ?_;replace H:=Js [3,0,0] 1 H;refine Q3 (Jz H (fun w' H' => .cellN H' rfl (by repeat first|exact .nil _|apply QZ.cons rfl) (.tmp .nil)) fun w' H' => .inr ⟨RW x y z,_,_,?_,rfl,H'.drop⟩);rw[AN,if_pos ⟨hb,hq.1 rfl⟩]
    | false=>
     refine J3 H ?_;refine BJ H ?_;clear H;intro w H;refine J0 H ?_;replace H:=Js [3] 3 H;refine Q3 (Jz H (fun w' H' => .cellN H' rfl (by repeat first|exact .nil _|apply QZ.cons rfl) (.tmp .nil)) fun w' H' => .inl ⟨?_,rfl,H'.drop⟩);rw[AN,if_neg];rintro⟨_,h2⟩;have:=hq.2 h2;cases this
  ·rw[show decide ((x:Int)≥65536)=true from decide_eq_true (by omega)];refine AQ H ?_;clear H;intro w H;refine J0 H ?_;refine Q3 (Jz H (fun w' H' => .cellN H' rfl (by repeat first|exact .nil _|apply QZ.cons rfl) (.tmp .nil)) fun w' H' => .inl ⟨?_,rfl,H'.drop⟩);rw[AN,if_neg];rintro⟨h1,_⟩;exact hb h1
 ·have hd:ZX ws=none:=by
   match ws with
   | []=>rfl
   | [_]=>rfl
   | [_,_]=>rfl
   | [_,_,_]=>exact absurd rfl h3
   | _::_::_::_::_=>rfl
  rw[show ((ws.length:Int) != 3)=true by simp;omega];refine Jv ?_;refine W5 H ?_;refine AQ H ?_;clear H;intro w H;refine J0 H ?_;exact Q3 (Jz H (fun w' H' => .cellN H' rfl (by repeat first|exact .nil _|apply QZ.cons rfl) (.tmp .nil)) fun w' H' => .inl ⟨hd,rfl,H'.drop⟩)
def Vw (P:List Int) (id:Int):Bool:=decide (0 < id∧id < P.length∧0≤P.getD id.toNat 0)
def Uu (P:List Int) (f:Int→Bool) (k:Nat):List Nat:=(List.range k).filter fun i=>decide (1≤i) && f (P.getD i 0)
def Yu (P:List Int):List Nat:=Uu P (fun q=>decide (0≤q)) P.length
theorem du (P:List Int) (f:Int→Bool) (k:Nat) (hk:1≤k):Uu P f (k+1)=Uu P f k++if f (P.getD k 0) then [k] else []:=by
 unfold Uu;rw[range_succ,filter_append];congr 1;simp only[filter_cons,filter_nil,decide_eq_true hk,Bool.true_and]
theorem dv (P:List Int) (f:Int→Bool):Uu P f 1=[]:=rfl
theorem O2 (P:List Int) (f:Int→Bool) (k:Nat):(Uu P f k).length≤k:=by
 have:=length_filter_le (fun i=>decide (1≤i) && f (P.getD i 0)) (List.range k);simpa [Uu] using this
theorem O3 {P:List Int} {f:Int→Bool} {k i:Nat}:i∈Uu P f k↔i < k∧1≤i∧f (P.getD i 0)=true:=by
 unfold Uu;simp[mem_filter]
theorem dw (P:List Int) (f:Int→Bool) (k:Nat):(Uu P f k).Pairwise (· < ·):=List.Pairwise.filter _ pairwise_lt_range
def Vb (p:Nat) (P:List Int):Q2:=ex fun v:Value=>star [pts p (row 112 [v]),IL v P]
theorem Kg [Q4] {w:World} {p:Nat} {P:List Int} {l:List Q2} (H:Q0 w (Vb p P::l)):∃ a c,Q0 w (pts p (row 112 [.slice a P.length c])::IL (.slice a P.length c) P::l):=by
 obtain⟨v,H⟩:=Q0.ex.1 H;have H:=Q0.star.1 H;obtain⟨a,c,rfl⟩:=QD H.drop (Va P) (by decide);exact⟨a,c,H⟩
theorem GM [Q4] {w:World} {p:Nat} {P:List Int} {v:Value} {l:List Q2} (H:Q0 w (pts p (row 112 [v])::IL v P::l)):Q0 w (Vb p P::l):=
 Q0.ex.2 ⟨v,Q0.star.2 H⟩
theorem dx [Q4] {w:World} {fr:List Q2} (H:Q0 w fr):Calls Tryz.prog 146 #[] w (ret fun v w'=>∃ p,v=pp p∧Q0 w' (Vb p [-1]::fr)):=by
 refine QV Tryz.func146 rfl (by kernel_rfl) ?_;refine Bl H ?_;refine GX H ?_;clear H;intro b1 w H;refine X6 H ?_;clear H;intro b3 w H;refine J0 H ?_;have H:=Uh (len:=1) (k:=1) (by rfl) H.swap;exact Q3 (Jy H.swap rfl fun w' H'=>⟨_,rfl,GM (P:=[-1]) H'⟩)
theorem Al {P:List Int} {s:List Value} {i:Nat} (h:i < P.length):(Qc P++s)[0+i*1]? = some (.int .i64 (P.getD i 0)):=by
 rw[Nat.zero_add,Nat.mul_one,getElem?_append_left (by simpa [Qc] using h)];simp[Qc,h]
theorem WO [Q4] (p:Nat) (P:List Int) (id:Int) {w:World} {fr:List Q2} (H:Q0 w (Vb p P::fr)) :
  Calls Tryz.prog 165 #[pp p,.int .i64 id] w (ret fun v w'=>v = .bool (Vw P id)∧Q0 w' (Vb p P::fr)):=by
 obtain⟨a,c,H⟩:=Kg H;refine QV Tryz.func165 rfl (by kernel_rfl) ?_;refine Gy H ?_;by_cases h1:id > 0
 ·rw[show decide (id > 0)=true from decide_eq_true (by omega)];refine KR H ?_;by_cases h2:id < (P.length:Int)
  ·rw[show decide (id < (P.length:Int))=true from decide_eq_true (by omega)];obtain⟨k,rfl⟩:∃ k:Nat,id=k:=⟨id.toNat,by omega⟩;obtain⟨b,s,rfl,H,hclose⟩:=Qw H.swap (by omega);have hc:=Al (P:=P) (s:=s) (i:=k) (by omega);refine EV H ?_;refine QT rfl rfl rfl (Gq rfl rfl (by omega) (by omega) rfl ?_);refine QT rfl rfl rfl (QW H rfl hc rfl ?_);refine XP H ?_;replace H:=(hclose _ _ H).swap;refine Q3 (Jy (GM H) rfl fun w' H'=>⟨?_,H'⟩);show Value.bool (decide (P.getD k 0≥0))=_;unfold Vw;congr 1;rw[decide_eq_decide,Int.toNat_natCast];exact⟨fun h=>⟨h1,h2,h⟩,fun h=>h.2.2⟩
  ·rw[show decide (id < (P.length:Int))=false from decide_eq_false (by omega)];refine Zk H ?_;refine Dt H ?_;refine Q3 (Jy (GM H) rfl fun w' H'=>⟨?_,H'⟩);show Value.bool false=_;unfold Vw;rw[decide_eq_false (fun h=>h2 h.2.1)]
 ·rw[show decide (id > 0)=false from decide_eq_false (by omega)];refine Bj H ?_;refine Zk H ?_;refine Dt H ?_;refine Q3 (Jy (GM H) rfl fun w' H'=>⟨?_,H'⟩);show Value.bool false=_;unfold Vw;rw[decide_eq_false (fun h=>h1 h.1)]
theorem IP [Q4] (p:Nat) (P:List Int) (hl:P.length≤1000000) {w:World} {fr:List Q2} (H:Q0 w (Vb p P::fr)) :
  Calls Tryz.prog 9 #[pp p] w (ret fun v w'=>Q0 w' (NL v (Yu P)::Vb p P::fr)):=by
 refine QV Tryz.func9 rfl (by kernel_rfl) ?_;refine ED H ?_;refine Qi (fun ms σ w n=>ms=[]∧∃ (i:Nat) (g:Value),1≤i∧(i≤P.length∨i=1)∧n=P.length - i∧σ 0=pp p∧σ 3=g∧σ 4 = .int .i64 i∧Q0 w (NL g (Uu P (fun q=>decide (0≤q)) i)::Vb p P::fr)) (m:=P.length - 1) ⟨rfl,1,_,by omega,.inr rfl,rfl,rfl,rfl,rfl,Yn H⟩ ?_;clear H;rintro ms σ w n ⟨rfl,i,g,hi1,hi2,rfl,g0,g3,g4,H⟩;obtain⟨ag,mg,cg,rfl⟩:=Qq H;obtain⟨a,c,H⟩:=Kg H.swap;rw[Q1 g0,Q1 g3,Q1 g4];refine KF H ?_;refine Qh rfl (fun h=>QR ?_) (fun h=>Qj ?_)
 ·have hlt:i < P.length:=by omega
  obtain⟨b,s,rfl,H,hclose⟩:=Qw H.swap (by omega);have hc:=Al (P:=P) (s:=s) (i:=i) (by omega);have hnx:=du P (fun q=>decide (0≤q)) i hi1;generalize P.getD i 0=y at hc hnx;refine A6 H ?_;refine Jd ?_;refine Q5 rfl (QW H rfl hc rfl ?_);refine J0 H ?_;replace H:=GM (hclose _ _ H).swap;refine J7 H ?_;refine Qh rfl (fun h=>?_) (fun h=>QR ?_)
  ·rw[if_pos (by simpa using h)] at hnx;refine E5 H ?_;clear H;intro b24 w H;replace H:=Js [2,0,0] 0 H;refine Q5 rfl (YF H rfl rfl (by repeat first|exact .nil _|apply QZ.cons rfl) rfl (by decide) (by rw[QE];have:=O2 P (fun q=>decide (0≤q)) i;simp only[length_cons,length_nil];omega) rfl rfl ?_);clear H;intro v25 w H;obtain⟨a25,m25,c25,rfl⟩:=Qq H;refine C1 H ?_;replace H:=Js [0,1] 1 H;refine⟨_,⟨rfl,i+1,_,by omega,.inl hlt,rfl,rfl,rfl,Qa (by omega),?_⟩,by omega⟩;rw[hnx];show Q0 w (QC _ 1 _ (QA (_++[i]))::_);rw[WW];exact H
  ·rw[if_neg (by simpa using h),append_nil] at hnx;refine VG H ?_;exact⟨_,⟨rfl,i+1,_,by omega,.inl hlt,rfl,rfl,rfl,Qa (by omega),by rw[hnx];exact H.swap⟩,by omega⟩
 ·have he:Uu P (fun q=>decide (0≤q)) i=Yu P:=by
   unfold Yu
   rcases hi2 with h1|rfl
   ·rw[show i=P.length by omega]
   ·rw[dv]
    symm
    rw[eq_nil_iff_forall_not_mem];intro x hx;have:=O3.1 hx;omega
  rw[he] at H;refine J3 H ?_;have H:=(GM H).swap;exact Q3 (Jy H rfl fun w' H'=>H')
def Z7 (P:List Int) (parent:Int):Nat:=if parent≠0∧Vw P parent=false then 6 else if 64≤(Yu P).length then 5 else 0
theorem O4 [Q4] (p:Nat) (P:List Int) (parent:Int) (hl:P.length≤100000) (h1:1≤P.length) {w:World} {fr:List Q2} (H:Q0 w (Vb p P::fr)) :
  Calls Tryz.prog 170 #[pp p,.int .i64 parent] w (ret fun v w'=>(Z7 P parent≠0∧v = .tuple #[.int .i64 0,.int .i64 (Z7 P parent)]∧Q0 w' (Vb p P::fr)) ∨
   (Z7 P parent=0∧v = .tuple #[.int .i64 P.length,.int .i64 0]∧Q0 w' (Vb p (P++[parent])::fr))):=by
 refine QV Tryz.func170 rfl (by kernel_rfl) ?_;refine Uo H ?_;refine Jc rfl rfl (WO p P parent H) ?_;clear H;rintro v w ⟨rfl,H⟩;generalize hlv:Vw P parent=lv;refine YK H ?_;refine Qm (fun ms σ w=>ms=[]∧(∃ q,σ 16 = .bool q∧(q=true↔parent≠0∧Vw P parent=false))∧σ 0=pp p∧σ 1 = .int .i64 parent∧Q0 w (Vb p P::fr)) ?_ ?_
 ·refine J5 H ?_;by_cases h0:parent=0
  ·rw[show (parent != 0)=false by simpa using h0];refine Jv ?_;refine Bi H ?_;refine J0 H ?_;exact⟨rfl,rfl,⟨false,rfl,by simp[h0]⟩,rfl,rfl,H⟩
  ·rw[show (parent != 0)=true by simpa using h0];refine XS H ?_;refine J0 H ?_;exact⟨rfl,rfl,⟨!lv,rfl,by simp[h0,hlv]⟩,rfl,rfl,H⟩
 clear H;rintro ms σ w ⟨rfl,⟨q,g16,hq⟩,g0,g1,H⟩;rw[Q1 g16,Q1 g0,Q1 g1];cases q with
 | true=>
  have he:Z7 P parent=6:=by unfold Z7;rw[if_pos (hq.1 rfl)]
  refine Yi H ?_;exact Q3 (Jy H rfl fun w' H' => .inl ⟨by omega,by rw[he];rfl,H'⟩)
 | false=>
  have hq':¬ (parent≠0∧Vw P parent=false):=fun h=>by have:=hq.2 h;cases this
  refine A5 H ?_;refine Jc rfl rfl (IP p P (by omega) H) ?_;clear H;intro v w H;obtain⟨aa,ca,rfl⟩:=QD H (QE _) (by decide);refine Dh H ?_;by_cases h64:64≤(Yu P).length
  ·have he:Z7 P parent=5:=by unfold Z7;rw[if_neg hq',if_pos h64]
   rw[show decide (((Yu P).length:Int)≥64)=true from decide_eq_true (by omega)];refine Yi H ?_;exact Q3 (Jy H.drop rfl fun w' H' => .inl ⟨by omega,by rw[he];rfl,H'⟩)
  ·have he:Z7 P parent=0:=by unfold Z7;rw[if_neg hq',if_neg h64]
   rw[show decide (((Yu P).length:Int)≥64)=false from decide_eq_false (by omega)];refine V8 H ?_;replace H:=H.drop;obtain⟨a,c,H⟩:=Kg H;refine Bq H ?_;refine GX H ?_;clear H;intro b28 w H;replace H:=Js [2,0,0] 0 H;refine Q5 rfl (YF H rfl rfl (by repeat first|exact .nil _|apply QZ.cons rfl) rfl (by decide) (by rw[Va];simp only[length_cons,length_nil];omega) rfl rfl ?_);clear H;intro v29 w H;have e1:Qc P++[.int .i64 parent]=Qc (P++[parent]):=by rw[Ab];rfl
   rw[e1] at H;obtain⟨a29,c29,rfl⟩:=QD H (Va _) (by decide);refine GK H ?_;clear H;intro w H;refine Q6 ?_;refine Di H ?_;refine A7 H ?_;replace H:=Js [2,0] 1 H;refine Q3 (Jy (GM H) rfl fun w' H' => .inr ⟨he,?_,H'⟩);show Value.tuple #[.int .i64 (IntKind.i64.wrap (((P++[parent]).length:Int) - 1)),_]=_;rw[show (P++[parent]).length=P.length+1 by simp,Qb (by omega) (by omega),show (((P.length+1:Nat):Int)) - 1=(P.length:Int) by omega];rfl
structure QI where
 region:Nat
 lay:Nat
 count:Nat
 w:List Nat
 kind:List Nat
 to:List Nat
 held:Bool
 pinned:Bool
 gone:Bool
structure MS where
 P:List Int
 lays:List QJ
 objs:List QI
structure Gj (lays:List QJ) (n:Nat) (x:QI):Prop where
 lay:∃ l,lays[x.lay - 1]? = some l∧VT l∧V9 l x.count=(x.w.length,0)
 lay1:1≤x.lay
 kind:x.kind.length=x.w.length
 to:x.to.length=x.w.length
 goes:∀ p,x.kind[p]? = some 2→x.to.getD p 0 < n
structure V6 (m:MS):Prop where
 P:1≤m.P.length∧m.P.length≤100000
 lays:m.lays.length≤64∧∀ l∈m.lays,VT l
 objs:∀ x∈m.objs,Gj m.lays m.objs.length x
 few:m.objs.length≤100000
def Vq (m:MS) (x:QI):QJ:=(m.lays[x.lay - 1]?).getD ⟨0,[],0,[]⟩
theorem dy {lays:List QJ} {P:List Int} {os:List QI} {n:Nat} {x:QI} (h:Gj lays n x):lays[x.lay - 1]? = some (Vq ⟨P,lays,os⟩ x)∧VT (Vq ⟨P,lays,os⟩ x)∧V9 (Vq ⟨P,lays,os⟩ x) x.count=(x.w.length,0):=by
 obtain⟨l,h1,h2,h3⟩:=h.lay;have:Vq ⟨P,lays,os⟩ x=l:=by unfold Vq;rw[h1];rfl
 rw[this];exact⟨h1,h2,h3⟩
structure OC where
 ptr:Nat
 vw:Value
 vk:Value
 vt:Value
 ob:QI
@[reducible] def Xs (vw vk vt:Value) (x:QI):Obj:=row 266 [.int .i64 x.region,.int .i64 x.lay,.int .i64 x.count,vw,vk,vt,.bool x.held,.bool x.pinned,.bool x.gone]
@[reducible] def Z8 (x:OC):Q2:=star [pts x.ptr (Xs x.vw x.vk x.vt x.ob),UL x.vw x.ob.w,NL x.vk x.ob.kind,NL x.vt x.ob.to]
structure MQ where
 t:Nat
 vL:Value
 lc:List Z0
 vO:Value
 oc:List OC
def Qp (p:Nat) (m:MS):Q2:=ex fun q:MQ=>star [prop (V6 m∧q.lc.map (·.2.2)=m.lays∧q.oc.map (·.ob)=m.objs),pts p (row 56 [pp q.t,q.vL,q.vO]),Vb q.t m.P,QC 164 4 q.vL (VF q.lc),star (q.lc.map YY),QC 267 1 q.vO (q.oc.map fun x=>pp x.ptr),star (q.oc.map Z8)]
theorem ZP [Q4] {w:World} {p:Nat} {m:MS} {l:List Q2} (H:Q0 w (Qp p m::l)):∃ (t:Nat) (lc:List Z0) (oc:List OC) (aL:Option Addr) (cL:Nat) (aO:Option Addr) (cO:Nat),V6 m∧lc.map (·.2.2)=m.lays∧oc.map (·.ob)=m.objs∧lc.length=m.lays.length∧oc.length=m.objs.length ∧
  Q0 w (pts p (row 56 [pp t,.slice aL m.lays.length cL,.slice aO m.objs.length cO])::Vb t m.P::QC 164 4 (.slice aL m.lays.length cL) (VF lc)::star (lc.map YY)::QC 267 1 (.slice aO m.objs.length cO) (oc.map fun x=>pp x.ptr)::star (oc.map Z8)::l):=by
 obtain⟨⟨t,vL,lc,vO,oc⟩,H⟩:=Q0.ex.1 H;have H:=Q0.star.1 H;obtain⟨⟨h1,h2,h3⟩,H⟩:=Q0.prop.1 H;have hl1:lc.length=m.lays.length:=by rw[← h2,length_map]
 have hl2:oc.length=m.objs.length:=by rw[← h3,length_map]
 obtain⟨aL,cL,rfl⟩:=QD (H.drop.drop) (RI lc) (by decide);obtain⟨aO,cO,rfl⟩:=QD (m:=oc.length) (H.drop.drop.drop.drop) (by simp) (by decide);refine⟨t,lc,oc,aL,cL,aO,cO,h1,h2,h3,hl1,hl2,?_⟩;rw[← hl1,← hl2];exact H
theorem Yv [Q4] {w:World} {p t:Nat} {m:MS} {l:List Q2} {lc:List Z0} {oc:List OC} {vL vO:Value} (h1:V6 m) (h2:lc.map (·.2.2)=m.lays) (h3:oc.map (·.ob)=m.objs)
  (H:Q0 w (pts p (row 56 [pp t,vL,vO])::Vb t m.P::QC 164 4 vL (VF lc)::star (lc.map YY)::QC 267 1 vO (oc.map fun x=>pp x.ptr)::star (oc.map Z8)::l)):Q0 w (Qp p m::l):=
 Q0.ex.2 ⟨⟨t,vL,lc,vO,oc⟩,Q0.star.2 (Q0.prop.2 ⟨⟨h1,h2,h3⟩,H⟩)⟩
theorem GN [Q4] {w:World} {p:Nat} {m:MS} {l:List Q2} (H:Q0 w (Qp p m::l)) {o:Nat} {x:QI} (ho:m.objs[o]? = some x):∃ (t:Nat) (lc:List Z0) (aL:Option Addr) (cL bO cO:Nat) (s ptrs:List Value) (q:Nat) (vw vk vt:Value) (rest:List Q2),V6 m∧lc.map (·.2.2)=m.lays∧(ptrs++s)[0+o*1]? = some (pp q) ∧
  Q0 w (pts q (Xs vw vk vt x)::UL vw x.w::NL vk x.kind::NL vt x.to::pts bO (row 267 (ptrs++s))::pts p (row 56 [pp t,.slice aL m.lays.length cL,.slice (some ⟨bO,0,none⟩) m.objs.length cO])::QC 164 4 (.slice aL m.lays.length cL) (VF lc)::star (lc.map YY)::Vb t m.P::star rest::l) ∧
  ∀ (w':World) (l':List Q2) (x':QI),V6 { m with objs:=m.objs.set o x' }→Q0 w' (pts q (Xs vw vk vt x')::UL vw x'.w::NL vk x'.kind::NL vt x'.to::pts bO (row 267 (ptrs++s))::pts p (row 56 [pp t,.slice aL m.lays.length cL,.slice (some ⟨bO,0,none⟩) m.objs.length cO])::QC 164 4 (.slice aL m.lays.length cL) (VF lc)::star (lc.map YY)::Vb t m.P::star rest::l')→Q0 w' (Qp p { m with objs:=m.objs.set o x' }::l'):=by
 obtain⟨t,lc,oc,aL,cL,aO,cO,h1,h2,h3,hl1,hl2,H⟩:=ZP H;have hol:o < m.objs.length:=(List.getElem?_eq_some_iff.1 ho).1
 obtain⟨y,hy,hyx⟩:∃ y,oc[o]? = some y∧y.ob=x:=by
  rw[← h3,getElem?_map,Option.map_eq_some_iff] at ho;exact ho
 obtain⟨q,vw,vk,vt,x1⟩:=y;obtain rfl:x1=x:=hyx;have hpk:=SL.split_at hy;replace H:=Js [4,4,0,0,0,0] 0 H;obtain⟨bO,s,rfl,H,hclose⟩:=Qw H (by omega);replace H:=Js [1,0,0,0,0,0] 0 H;have H:=Q0.star.1 ((Q0.pick (R:=Z8) hpk).1 H);replace H:Q0 w (pts q (Xs vw vk vt x1)::UL vw x1.w::NL vk x1.kind::NL vt x1.to::star ((oc.take o++oc.drop (o+1)).map Z8)::pts bO (row 267 ((oc.map fun x=>pp x.ptr)++s))::pts p (row 56 [pp t,.slice aL m.lays.length cL,.slice (some ⟨bO,0,none⟩) m.objs.length cO])::Vb t m.P::QC 164 4 (.slice aL m.lays.length cL) (VF lc)::star (lc.map YY)::l):=H;refine⟨t,lc,aL,cL,bO,cO,s,oc.map fun x=>pp x.ptr,q,vw,vk,vt,(oc.take o++oc.drop (o+1)).map Z8,h1,h2,?_,?_,?_⟩
 ·rw[Nat.zero_add,Nat.mul_one,getElem?_append_left (by simp;omega),getElem?_map,hy];rfl
 ·replace H:=Js [0,0,0,0,1,1,2,2,1,0] 0 H;exact H
 ·intro w' l' x' hm' H;replace H:=Js [0,0,0,0,5,0,0,2,0,0] 0 H;have H:=(Q0.pick (R:=Z8) (x:=⟨q,vw,vk,vt,x'⟩) (g1:=oc.take o) (g2:=oc.drop (o+1)) rfl).2 (Q0.star.2 H);rw[← SL.set_split hy] at H;replace H:=Js [1,0,0,0,0,0] 0 H;have H:=hclose _ _ H
  have hp:(oc.map fun x=>pp x.ptr)=((oc.set o ⟨q,vw,vk,vt,x'⟩).map fun x=>pp x.ptr):=by
   rw[map_set]
   symm
   apply ext_getElem?;intro i;rw[getElem?_set];split
   ·rename_i hi;subst hi;rw[getElem?_map,hy];simp;omega
   ·rfl
  rw[hp] at H;replace H:=Js [2,2,2,2,0,0] 0 H;have hs:({ m with objs:=m.objs.set o x' }:MS).objs=m.objs.set o x':=rfl;exact Yv (m:={ m with objs:=m.objs.set o x' }) hm' h2 (by rw[map_set,h3]) H
def V1 (m:MS) (o:Int):Option (Nat×QI):=
 if 0≤o then
  match m.objs[o.toNat]? with
  | some x=>if x.held && !x.gone then some (o.toNat,x) else none
  | none=>none
 else none
theorem Ck (m:MS) (o:Nat):V1 m o=match m.objs[o]? with|some x=>if x.held && !x.gone then some (o,x) else none|none=>none:=by
 unfold V1;rw[if_pos (by omega),Int.toNat_natCast]
def VD (m:MS) (o place:Int) (ref:Bool):Nat:=
 match V1 m o with
 | none=>8
 | some (_,x)=>QM (Vq m x) x.w.length place ref
theorem U7 [Q4] {w:World} {p:Nat} {m:MS} {l:List Q2} {o:Nat} {x:QI} (ho:m.objs[o]? = some x) (H:Q0 w (Qp p { m with objs:=m.objs.set o x }::l)):Q0 w (Qp p m::l):=by
 have:m.objs.set o x=m.objs:=by
  apply ext_getElem?;intro i;rw[getElem?_set];split
  ·rename_i hi;subst hi;rw[ho];have:=(List.getElem?_eq_some_iff.1 ho).1;simp[this]
  ·rfl
 rw[this] at H;exact H
theorem RM {m:MS} {o:Nat} {x:QI} (ho:m.objs[o]? = some x) (h:V6 m):V6 { m with objs:=m.objs.set o x }:=by
 have:m.objs.set o x=m.objs:=by
  apply ext_getElem?;intro i;rw[getElem?_set];split
  ·rename_i hi;subst hi;rw[ho];have:=(List.getElem?_eq_some_iff.1 ho).1;simp[this]
  ·rfl
 rw[this];exact h
theorem Am [Q4] (p:Nat) (m:MS) (o:Int) {w:World} {fr:List Q2} (H:Q0 w (Qp p m::fr)) :
  Calls Tryz.prog 169 #[pp p,.int .i64 o] w (ret fun v w'=>v = .bool (V1 m o).isSome∧Q0 w' (Qp p m::fr)):=by
 by_cases h0:o≥0
 ·obtain⟨k,rfl⟩:∃ k:Nat,o=k:=⟨o.toNat,by omega⟩;by_cases h1:k < m.objs.length
  ·have hx:=getElem?_eq_getElem h1;generalize m.objs[k]=x at hx;have hv:V1 m k=if x.held && !x.gone then some (k,x) else none:=by rw[Ck,hx]
   obtain⟨t,lc,aL,cL,bO,cO,s,ptrs,q,vw,vk,vt,rest,hm,h2,hp,H,hclose⟩:=GN H hx;have hm':=RM hx hm;obtain⟨xr,xl,xc,xw,xk,xt,xh,xp,xg⟩:=x;refine QV Tryz.func169 rfl (by kernel_rfl) ?_;refine Gy H ?_;rw[show decide ((k:Int)≥0)=true from decide_eq_true (by omega)];refine KR H ?_;rw[show decide ((k:Int) < (m.objs.length:Int))=true from decide_eq_true (by omega)];refine EV H ?_;refine QT rfl rfl rfl (Gq rfl rfl (by omega) (by omega) rfl ?_);refine QT rfl rfl rfl (QW H rfl hp rfl ?_);cases xh with
   | true=>
    refine YT H ?_;refine BN H ?_;refine EV H ?_;refine QT rfl rfl rfl (Gq rfl rfl (by omega) (by omega) rfl ?_);refine QT rfl rfl rfl (QW H rfl hp rfl ?_);refine W6 H ?_;refine J2 H ?_;refine Q3 (Jy (U7 hx (hclose _ _ _ hm' H)) rfl fun w' H'=>⟨?_,H'⟩);rw[hv];cases xg <;> rfl
   | false=>
    refine YT H ?_;refine BN H ?_;refine Zk H ?_;refine Bg H ?_;refine J2 H ?_;refine Q3 (Jy (U7 hx (hclose _ _ _ hm' H)) rfl fun w' H'=>⟨?_,H'⟩);rw[hv];rfl
  ·have hv:V1 m k=none:=by rw[Ck,getElem?_eq_none (by omega)]
   obtain⟨t,lc,oc,aL,cL,aO,cO,a1,a2,a3,a4,a5,H⟩:=ZP H;refine QV Tryz.func169 rfl (by kernel_rfl) ?_;refine Gy H ?_;rw[show decide ((k:Int)≥0)=true from decide_eq_true (by omega)];refine KR H ?_;rw[show decide ((k:Int) < (m.objs.length:Int))=false from decide_eq_false (by omega)];refine Zk H ?_;refine C3 H ?_;refine Zk H ?_;refine Bg H ?_;refine J2 H ?_;refine Q3 (Jy (Yv a1 a2 a3 H) rfl fun w' H'=>⟨?_,H'⟩);rw[hv];rfl
 ·have hv:V1 m o=none:=by unfold V1;rw[if_neg (by omega)]
  refine QV Tryz.func169 rfl (by kernel_rfl) ?_;refine Gy H ?_;rw[show decide (o≥0)=false from decide_eq_false (by omega)];refine Bj H ?_;refine Zk H ?_;refine C3 H ?_;refine Zk H ?_;refine Bg H ?_;refine J2 H ?_;refine Q3 (Jy H rfl fun w' H'=>⟨?_,H'⟩);rw[hv];rfl
theorem O5 [Q4] {w:World} {aL:Option Addr} {n cL:Nat} {lc:List Z0} {l:List Q2} (hn:lc.length=n) (H:Q0 w (QC 164 4 (.slice aL n cL) (VF lc)::star (lc.map YY)::l)) {i:Nat} {y:Z0} (hy:lc[i]? = some y) :
  ∃ (bL:Nat) (s:List Value) (D1 D2 R:Q2),aL=some ⟨bL,0,none⟩∧Q0 w (pts bL (row 164 (VF lc++s))::D1::D2::R::l)∧(∀ l',UC (D1::D2::l') y.1 y.2.1 y.2.2) ∧
   ∀ (w':World) (l':List Q2),Q0 w' (pts bL (row 164 (VF lc++s))::D1::D2::R::l')→Q0 w' (QC 164 4 (.slice aL n cL) (VF lc)::star (lc.map YY)::l'):=by
 have hi:i < lc.length:=(List.getElem?_eq_some_iff.1 hy).1;have hpk:=SL.split_at hy;obtain⟨vr,vq,l'⟩:=y;obtain⟨bL,s,rfl,H,hclose⟩:=Qw H (by omega);have H:=Q0.star.1 ((Q0.pick (R:=YY) hpk).1 H.swap);replace H:Q0 w (NL vr l'.refs::NL vq l'.recs::star ((lc.take i++lc.drop (i+1)).map YY)::pts bL (row 164 (VF lc++s))::l):=H;obtain⟨D1,H,hD1,hC1⟩:=sls_rd H (QE _) (by decide);obtain⟨D2,H,hD2,hC2⟩:=sls_rd H.swap (QE _) (by decide);replace H:=Js [3,0,0,0] 0 H;refine⟨bL,s,D2,D1,star ((lc.take i++lc.drop (i+1)).map YY),rfl,H,fun l'=>⟨(hD1 _).there,hD2 _⟩,?_⟩;intro w' l2 H;replace H:=Js [1,1,1,0] 0 H;have H:=hC1 _ _ (hC2 _ _ H).swap;replace H:=Js [0,0,0,0] 0 H;have H:=(Q0.pick (R:=YY) hpk).2 (Q0.star.2 H);exact hclose _ _ H.swap
theorem RN {m:MS} {w:V6 m} {x:QI} {o:Nat} (h:m.objs[o]? = some x):x.w.length < 8192:=by
 obtain⟨l,_,_,h⟩:=(w.objs x (mem_of_getElem? h)).lay;unfold V9 at h;split at h
 ·injection h with h1 h2;cases h2
 ·split at h
  ·injection h with h1 h2;cases h2
  ·injection h with h1 h2;omega
theorem Xt {m:MS} {o:Int} {k:Nat} {x:QI} (h:V1 m o=some (k,x)):o=k∧m.objs[k]? = some x∧x.held=true∧x.gone=false:=by
 unfold V1 at h;split at h
 ·split at h
  ·rename_i y hy;split at h
   ·rename_i hh;injection h with h
    injection h with h1 h2
    subst h1 h2;have hh':=Bool.and_eq_true_iff.1 hh;exact⟨by omega,hy,hh'.1,by simpa using hh'.2⟩
   ·cases h
  ·cases h
 ·cases h
theorem dz {m:MS} (h:V6 m) {lc:List Z0} (hl:lc.map (·.2.2)=m.lays) {x:QI} {o:Nat} (hx:m.objs[o]? = some x):∃ y:Z0,lc[x.lay - 1]? = some y∧y.2.2=Vq m x∧1≤x.lay∧x.lay≤lc.length∧VT (Vq m x)∧V9 (Vq m x) x.count=(x.w.length,0):=by
 have hm:=h.objs x (mem_of_getElem? hx);obtain⟨h1,h2,h3⟩:=dy (P:=m.P) (os:=m.objs) hm;have h1':m.lays[x.lay - 1]? = some (Vq m x):=h1;have h3':(lc.map (·.2.2))[x.lay - 1]? = some (Vq m x):=by rw[hl];exact h1'
 rw[getElem?_map,Option.map_eq_some_iff] at h3';obtain⟨y,hy,e⟩:=h3';have:=(List.getElem?_eq_some_iff.1 hy).1;have:=hm.lay1;exact⟨y,hy,e,hm.lay1,by omega,h2,h3⟩
theorem e9 {l:QJ} {c:Nat} {n p:Nat} (h:V9 l c=(n,0)) (hp:p < n):l.record≠0∨p < l.fixed:=by
 unfold V9 at h;split at h
 ·injection h with h1 h2;cases h2
 ·split at h
  ·injection h with h1 h2;cases h2
  ·injection h with h1 h2
   by_cases h0:l.record=0
   ·rw[h0] at h1;right;omega
   ·left;exact h0
theorem RP [Q4] (p:Nat) (m:MS) (o place:Int) (ref:Bool) {w:World} {fr:List Q2} (H:Q0 w (Qp p m::fr)) :
  Calls Tryz.prog 152 #[pp p,.int .i64 o,.int .i64 place,.bool ref] w (ret fun v w'=>v = .int .i64 (VD m o place ref:Nat)∧Q0 w' (Qp p m::fr)):=by
 refine QV Tryz.func152 rfl (by kernel_rfl) ?_;refine Gy H ?_;refine Jc rfl rfl (Am p m o H) ?_;clear H;rintro v w ⟨rfl,H⟩;refine J0 H ?_;cases hv:V1 m o with
 | none=>
  have hr:VD m o place ref=8:=by unfold VD;rw[hv]
  refine AC H ?_;refine Q3 (Jy H rfl fun w' H'=>⟨by rw[hr];rfl,H'⟩)
 | some kx=>
  obtain⟨k,x⟩:=kx;obtain⟨rfl,hx,hh,hg⟩:=Xt hv;have hr:VD m k place ref=QM (Vq m x) x.w.length place ref:=by unfold VD;rw[hv]
  have hkl:=(List.getElem?_eq_some_iff.1 hx).1;obtain⟨t,lc,aL,cL,bO,cO,s,ptrs,q,vw,vk,vt,rest,hm,h2,hp,H,hclose⟩:=GN H hx;have hm':=RM hx hm;obtain⟨y,hy,hyl,hl1,hl2,hR,hsz⟩:=dz hm h2 hx;obtain⟨aw,cw,rfl⟩:=QD H.drop (Yz _) (by decide);refine Gf H ?_;refine J9 H ?_;refine Jd ?_;refine Q5 rfl (QW H rfl hp rfl ?_);refine Br H ?_;by_cases h1:place < 0∨(x.w.length:Int)≤place
  ·have hr':VD m k place ref=3:=by rw[hr];unfold QM;rw[if_pos h1]
   by_cases h0:place < 0
   ·rw[show decide (place < 0)=true from decide_eq_true (by omega)];refine Bj H ?_;refine UK H ?_;refine Q3 (Jy (U7 hx (hclose _ _ _ hm' H)) rfl fun w' H'=>⟨by rw[hr'];rfl,H'⟩)
   ·rw[show decide (place < 0)=false from decide_eq_false (by omega)];refine KR H ?_;rw[show decide (place≥(x.w.length:Int))=true from decide_eq_true (by omega)];refine UK H ?_;refine Q3 (Jy (U7 hx (hclose _ _ _ hm' H)) rfl fun w' H'=>⟨by rw[hr'];rfl,H'⟩)
  ·obtain⟨j,rfl⟩:∃ j:Nat,place=j:=⟨place.toNat,by omega⟩;have hsm:=RN (w:=hm) hx;rw[show decide ((j:Int) < 0)=false from decide_eq_false (by omega)];refine KR H ?_;rw[show decide ((j:Int)≥(x.w.length:Int))=false from decide_eq_false (by omega)];refine Vo H ?_;replace H:=Js [6,6,0,0,0,0,0,0,0,0] 0 H;obtain⟨bL,sL,D1,D2,R,rfl,H,hD,hcl⟩:=O5 (by rw[← h2,length_map]) H hy;obtain⟨vr,vq,ly⟩:=y;obtain rfl:ly=Vq m x:=hyl;refine J1 H ?_;clear H;intro w H;refine Yo H ?_;refine Jl 3 [12] H ?_;refine Du H ?_;refine Jl 7 [12] H ?_;refine Ja 8 ?_;rw[show IntKind.i64.wrap ((x.lay:Int) - 1)=((x.lay - 1:Nat):Int) by rw[Qb (by omega) (by have:=hm.lays.1;rw[← h2,length_map] at this;omega)];omega];refine Ko 9 rfl (Q9.none rfl) rfl rfl (by omega) (by rw[← h2,length_map];omega) (by kernel_rfl) ?_;refine VP 10 [12] H rfl (Q9.none rfl) rfl (Hl hy) (by kernel_rfl) ?_;refine Ja 11 ?_;refine Jo 12 H ?_;refine Jk rfl rfl (dr vr vq (Vq m x) hR j (e9 hsz (by omega)) (by omega) ((hD _).there) H) ?_;clear H;rintro v w ⟨rfl,H⟩;refine R9 H ?_;replace H:=hcl _ _ H;replace H:=Js [2,2,2,2,2,2,0,0,0,0] 0 H;replace H:=U7 hx (hclose _ _ _ hm' H);generalize hbb:VW (Vq m x) j=bb;cases bb with
   | true=>
    cases ref with
    | true=>
     refine EE H ?_;have hr':VD m k j true=0:=by rw[hr];unfold QM;rw[if_neg h1,Int.toNat_natCast,if_neg (by rw[hbb];decide)]
     refine KB H ?_;refine Q3 (Jy H rfl fun w' H'=>⟨by rw[hr'];rfl,H'⟩)
    | false=>
     refine EE H ?_;have hr':VD m k j false=9:=by rw[hr];unfold QM;rw[if_neg h1,Int.toNat_natCast,if_pos (by rw[hbb];decide)]
     refine YR H ?_;refine Q3 (Jy H rfl fun w' H'=>⟨by rw[hr'];rfl,H'⟩)
   | false=>
    cases ref with
    | true=>
     refine EE H ?_;have hr':VD m k j true=9:=by rw[hr];unfold QM;rw[if_neg h1,Int.toNat_natCast,if_pos (by rw[hbb];decide)]
     refine YR H ?_;refine Q3 (Jy H rfl fun w' H'=>⟨by rw[hr'];rfl,H'⟩)
    | false=>
     refine EE H ?_;have hr':VD m k j false=0:=by rw[hr];unfold QM;rw[if_neg h1,Int.toNat_natCast,if_neg (by rw[hbb];decide)]
     refine KB H ?_;refine Q3 (Jy H rfl fun w' H'=>⟨by rw[hr'];rfl,H'⟩)
@[reducible] def Yl (m:MS) (k:Nat) (x:QI):MS:={ m with objs:=m.objs.set k x }
theorem WP {m:MS} (h:V6 m) {o:Nat} {x:QI} (hx:Gj m.lays m.objs.length x):V6 (Yl m o x):=by
 refine⟨h.P,h.lays,fun y hy=>?_,by show (m.objs.set o x).length≤_;rw[length_set];exact h.few⟩;have hl:(m.objs.set o x).length=m.objs.length:=length_set;show Gj m.lays (m.objs.set o x).length y;rw[hl]
 rcases mem_or_eq_of_mem_set hy with hy|rfl
 ·exact h.objs y hy
 ·exact hx
def GO (m:MS) (o:Int):MS×Nat:=
 match V1 m o with
 | none=>(m,8)
 | some (k,x)=>(Yl m k { x with held:=false },0)
theorem eQ [Q4] (p:Nat) (m:MS) (o:Int) {w:World} {fr:List Q2} (H:Q0 w (Qp p m::fr)) :
  Calls Tryz.prog 161 #[pp p,.int .i64 o] w (ret fun v w'=>v = .int .i64 ((GO m o).2:Nat)∧Q0 w' (Qp p (GO m o).1::fr)):=by
 refine QV Tryz.func161 rfl (by kernel_rfl) ?_;refine Gy H ?_;refine Jc rfl rfl (Am p m o H) ?_;clear H;rintro v w ⟨rfl,H⟩;refine J0 H ?_;cases hv:V1 m o with
 | none=>
  have hr:GO m o=(m,8):=by unfold GO;rw[hv]
  rw[hr];refine AC H ?_;refine Q3 (Jy H rfl fun w' H'=>⟨rfl,H'⟩)
 | some kx=>
  obtain⟨k,x⟩:=kx;have hr:GO m o=(Yl m k { x with held:=false },0):=by unfold GO;rw[hv]
  rw[hr];obtain⟨rfl,hx,hh,hg⟩:=Xt hv;have hkl:=(List.getElem?_eq_some_iff.1 hx).1;obtain⟨t,lc,aL,cL,bO,cO,s,ptrs,q,vw,vk,vt,rest,hm,h2,hp,H,hclose⟩:=GN H hx;have hm':V6 (Yl m k { x with held:=false }):=WP hm (by obtain⟨a,b,c,d,e⟩:=hm.objs x (mem_of_getElem? hx);exact⟨a,b,c,d,e⟩);refine Gf H ?_;refine J9 H ?_;refine Jd ?_;refine Q5 rfl (QW H rfl hp rfl ?_);refine GK H ?_;clear H;intro w H;refine Rx H ?_;refine Q3 (Jy (hclose _ _ _ hm' H) rfl fun w' H'=>⟨rfl,H'⟩)
def GP (m:MS) (o:Int) (on:Bool):MS×Nat:=
 match V1 m o with
 | none=>(m,8)
 | some (k,x)=>if x.pinned=on then (m,7) else (Yl m k { x with pinned:=on },0)
theorem eV [Q4] (p:Nat) (m:MS) (o:Int) (on:Bool) {w:World} {fr:List Q2} (H:Q0 w (Qp p m::fr)) :
  Calls Tryz.prog 163 #[pp p,.int .i64 o,.bool on] w (ret fun v w'=>v = .int .i64 ((GP m o on).2:Nat)∧Q0 w' (Qp p (GP m o on).1::fr)):=by
 refine QV Tryz.func163 rfl (by kernel_rfl) ?_;refine Gy H ?_;refine Jc rfl rfl (Am p m o H) ?_;clear H;rintro v w ⟨rfl,H⟩;refine J0 H ?_;cases hv:V1 m o with
 | none=>
  have hr:GP m o on=(m,8):=by unfold GP;rw[hv]
  rw[hr];refine AC H ?_;refine Q3 (Jy H rfl fun w' H'=>⟨rfl,H'⟩)
 | some kx=>
  obtain⟨k,x⟩:=kx;have hr:GP m o on=if x.pinned=on then (m,7) else (Yl m k { x with pinned:=on },0):=by unfold GP;rw[hv]
  rw[hr];obtain⟨rfl,hx,hh,hg⟩:=Xt hv;have hkl:=(List.getElem?_eq_some_iff.1 hx).1;obtain⟨t,lc,aL,cL,bO,cO,s,ptrs,q,vw,vk,vt,rest,hm,h2,hp,H,hclose⟩:=GN H hx;have hm0:=RM hx hm;have hm':V6 (Yl m k { x with pinned:=on }):=WP hm (by obtain⟨a,b,c,d,e⟩:=hm.objs x (mem_of_getElem? hx);exact⟨a,b,c,d,e⟩);refine Gf H ?_;obtain⟨xr,xl,xc,xw,xk,xt,xh,xp,xg⟩:=x;refine J9 H ?_;refine Jd ?_;refine Q5 rfl (QW H rfl hp rfl ?_);cases xp with
  | true=>
   cases on with
   | true=>
    refine EF H ?_;refine Q6 ?_;refine YR H ?_;refine Q3 (Jy (U7 hx (hclose _ _ _ hm0 H)) rfl fun w' H'=>⟨rfl,H'⟩)
   | false=>
    refine EF H ?_;refine AB H ?_;refine J9 H ?_;refine Jd ?_;refine Q5 rfl (QW H rfl hp rfl ?_);refine YP H ?_;refine Uk H ?_;clear H;intro w H;refine Rx H ?_;refine Q3 (Jy (hclose _ _ _ hm' H) rfl fun w' H'=>⟨rfl,H'⟩)
  | false=>
   cases on with
   | true=>
    refine EF H ?_;refine AB H ?_;refine J9 H ?_;refine Jd ?_;refine Q5 rfl (QW H rfl hp rfl ?_);refine YP H ?_;refine Uk H ?_;clear H;intro w H;refine Rx H ?_;refine Q3 (Jy (hclose _ _ _ hm' H) rfl fun w' H'=>⟨rfl,H'⟩)
   | false=>
    refine EF H ?_;refine Q6 ?_;refine YR H ?_;refine Q3 (Jy (U7 hx (hclose _ _ _ hm0 H)) rfl fun w' H'=>⟨rfl,H'⟩)
theorem Ao {l:List Nat} {spare:List Value} {i x:Nat} {v:Int} (h:i < l.length) (hv:v=(x:Nat)):(QA l++spare).set (0+i*1) (.int .i64 v)=QA (l.set i x)++spare:=by subst hv;exact Ec h
theorem UP {m:MS} {o place:Int} {ref:Bool} {k:Nat} {x:QI} (h:V1 m o=some (k,x)):VD m o place ref=QM (Vq m x) x.w.length place ref:=by unfold VD;rw[h]
theorem XR {m:MS} {o place:Int} {ref:Bool} (h:V1 m o=none):VD m o place ref=8:=by unfold VD;rw[h]
def US (m:MS) (o place:Int):MS×Nat:=
 match V1 m o with
 | none=>(m,8)
 | some (k,x)=>if QM (Vq m x) x.w.length place true=0 then (Yl m k { x with kind:=x.kind.set place.toNat 0,to:=x.to.set place.toNat 0 },0) else (m,QM (Vq m x) x.w.length place true)
theorem O6 {m:MS} {o place:Int} (h:V1 m o=none):US m o place=(m,8):=by unfold US;rw[h]
theorem IS {m:MS} {o place:Int} {k:Nat} {x:QI} (h:V1 m o=some (k,x)):US m o place=if QM (Vq m x) x.w.length place true=0 then (Yl m k { x with kind:=x.kind.set place.toNat 0,to:=x.to.set place.toNat 0 },0) else (m,QM (Vq m x) x.w.length place true):=by unfold US;rw[h]
theorem IT {ls:List QJ} {n:Nat} {x:QI} (h:Gj ls n x) (j kd t:Nat) (hk:kd=2→t < n):Gj ls n { x with kind:=x.kind.set j kd,to:=x.to.set j t }:=by
 obtain⟨a,b,c,d,e⟩:=h;refine⟨a,b,by show (x.kind.set j kd).length=_;rw[length_set];exact c,by show (x.to.set j t).length=_;rw[length_set];exact d,?_⟩;intro i (hi:(x.kind.set j kd)[i]? = some 2);show (x.to.set j t).getD i 0 < n;by_cases hji:j=i
 ·subst hji
  have hl:j < x.kind.length:=by
   have:=(List.getElem?_eq_some_iff.1 hi).1;simpa using this
  rw[getElem?_set_self hl] at hi;injection hi with hi
  rw[getD_eq_getElem?_getD,getElem?_set_self (by omega)];exact hk hi
 ·rw[getElem?_set_ne hji] at hi;have:=e i hi;rw[getD_eq_getElem?_getD,getElem?_set_ne hji,← getD_eq_getElem?_getD];exact this
theorem eY [Q4] (p:Nat) (m:MS) (o place:Int) {w:World} {fr:List Q2} (H:Q0 w (Qp p m::fr)) :
  Calls Tryz.prog 159 #[pp p,.int .i64 o,.int .i64 place] w (ret fun v w'=>v = .int .i64 ((US m o place).2:Nat)∧Q0 w' (Qp p (US m o place).1::fr)):=by
 refine QV Tryz.func159 rfl (by kernel_rfl) ?_;refine Rw H ?_;refine Jc rfl rfl (RP p m o place true H) ?_;clear H;rintro v w ⟨rfl,H⟩;refine YI H ?_;by_cases h0:VD m o place true=0
 ·obtain⟨k,x,hv⟩:∃ k x,V1 m o=some (k,x):=by
   cases hv:V1 m o with
   | none=>rw[XR hv] at h0;cases h0
   | some kx=>exact⟨kx.1,kx.2,rfl⟩
  rw[UP hv] at h0 ⊢;rw[IS hv,if_pos h0,h0];obtain⟨rfl,hx,hh,hg⟩:=Xt hv;have hkl:=(List.getElem?_eq_some_iff.1 hx).1;obtain⟨j,rfl,hj,hr⟩:=Zh h0;rw[Int.toNat_natCast];obtain⟨t,lc,aL,cL,bO,cO,s,ptrs,q,vw,vk,vt,rest,hm,h2,hp,H,hclose⟩:=GN H hx;have hob:=hm.objs x (mem_of_getElem? hx);have hkn:=hob.kind;have htn:=hob.to;have hsm:=RN (w:=hm) hx;obtain⟨ak,ck,rfl⟩:=QD H.drop.drop (QE _) (by decide);obtain⟨at',ct,rfl⟩:=QD H.drop.drop.drop (QE _) (by decide);replace H:=Js [2,0,0,0] 0 H;obtain⟨bk,sk,rfl,H,_,_,hck⟩:=Yx H (by omega);replace H:=Js [3,0,0,0] 0 H;obtain⟨bt,st,rfl,H,_,_,hct⟩:=Yx H (by omega);refine VR H ?_;refine J9 H ?_;refine Jd ?_;refine Q5 rfl (QW H rfl hp rfl ?_);refine C4 H ?_;refine Jd ?_;refine Q5 rfl (Yh H rfl rfl inferInstance rfl (by simp only[length_append,QE];omega) rfl ?_);clear H;intro w H;rw[Int.toNat_natCast,Ao (v:=0) (x:=0) (by omega) rfl] at H;refine EY H ?_;refine Jd ?_;refine Q5 rfl (QW H rfl hp rfl ?_);refine C4 H ?_;refine Jd ?_;refine Q5 rfl (Yh H rfl rfl inferInstance rfl (by simp only[length_append,QE];omega) rfl ?_);clear H;intro w H;rw[Int.toNat_natCast,Ao (v:=0) (x:=0) (by omega) rfl] at H;refine Q6 ?_;replace H:=Js [1,0,0,0] 0 H;replace H:=hck _ _ (QA (x.kind.set j 0)) (by simp[QA]) H;replace H:=Js [1,0,0,0] 0 H;replace H:=hct _ _ (QA (x.to.set j 0)) (by simp[QA]) H;replace H:=Js [2,2,1,0] 0 H;replace H:=hclose _ _ { x with kind:=x.kind.set j 0,to:=x.to.set j 0 } (WP hm (IT hob j 0 0 (by omega))) H;refine J3 H ?_;exact Q3 (Jy H rfl fun w' H'=>⟨rfl,H'⟩)
 ·have hc:US m o place=(m,VD m o place true):=by
   cases hv:V1 m o with
   | none=>rw[O6 hv,XR hv]
   | some kx=>
    obtain⟨k,x⟩:=kx;rw[UP hv] at h0 ⊢;rw[IS hv,if_neg h0]
  rw[hc,show (((VD m o place true:Nat):Int) == 0)=false by simpa using h0];refine BS H ?_;exact Q3 (Jy H rfl fun w' H'=>⟨rfl,H'⟩)
def Yg (m:MS) (o place u:Int):MS×Nat:=
 match V1 m o with
 | none=>(m,8)
 | some (k,x)=>if QM (Vq m x) x.w.length place true=0 then match V1 m u with
  | none=>(m,8)
  | some (ku,_)=>(Yl m k { x with kind:=x.kind.set place.toNat 2,to:=x.to.set place.toNat ku },0)
  else (m,QM (Vq m x) x.w.length place true)
theorem eZ [Q4] (p:Nat) (m:MS) (o place u:Int) {w:World} {fr:List Q2} (H:Q0 w (Qp p m::fr)) :
  Calls Tryz.prog 157 #[pp p,.int .i64 o,.int .i64 place,.int .i64 u] w (ret fun v w'=>v = .int .i64 ((Yg m o place u).2:Nat)∧Q0 w' (Qp p (Yg m o place u).1::fr)):=by
 refine QV Tryz.func157 rfl (by kernel_rfl) ?_;refine Rw H ?_;refine Jc rfl rfl (RP p m o place true H) ?_;clear H;rintro v w ⟨rfl,H⟩;refine YI H ?_;by_cases h0:VD m o place true=0
 ·obtain⟨k,x,hv⟩:∃ k x,V1 m o=some (k,x):=by
   cases hv:V1 m o with
   | none=>rw[XR hv] at h0;cases h0
   | some kx=>exact⟨kx.1,kx.2,rfl⟩
  rw[UP hv] at h0 ⊢;rw[h0];refine AG H ?_;refine Jc rfl rfl (Am p m u H) ?_;clear H;rintro v w ⟨rfl,H⟩;refine J0 H ?_;cases hu:V1 m u with
  | none=>
   have hr:Yg m o place u=(m,8):=by unfold Yg;rw[hv];show (if QM _ _ _ _=0 then _ else _)=_;rw[if_pos h0,hu]
   rw[hr];refine AC H ?_;exact Q3 (Jy H rfl fun w' H'=>⟨rfl,H'⟩)
  | some kx=>
  obtain⟨ku,xu⟩:=kx;have hr:Yg m o place u=(Yl m k { x with kind:=x.kind.set place.toNat 2,to:=x.to.set place.toNat ku },0):=by unfold Yg;rw[hv];show (if QM _ _ _ _=0 then _ else _)=_;rw[if_pos h0,hu]
  rw[hr];obtain⟨rfl,hx,hh,hg⟩:=Xt hv;obtain⟨rfl,hxu,_,_⟩:=Xt hu;have hkl:=(List.getElem?_eq_some_iff.1 hx).1;have hkul:=(List.getElem?_eq_some_iff.1 hxu).1;obtain⟨j,rfl,hj,hr⟩:=Zh h0;rw[Int.toNat_natCast];refine Gf H ?_;obtain⟨t,lc,aL,cL,bO,cO,s,ptrs,q,vw,vk,vt,rest,hm,h2,hp,H,hclose⟩:=GN H hx;have hob:=hm.objs x (mem_of_getElem? hx);have hkn:=hob.kind;have htn:=hob.to;have hsm:=RN (w:=hm) hx;obtain⟨ak,ck,rfl⟩:=QD H.drop.drop (QE _) (by decide);obtain⟨at',ct,rfl⟩:=QD H.drop.drop.drop (QE _) (by decide);replace H:=Js [2,0,0,0] 0 H;obtain⟨bk,sk,rfl,H,_,_,hck⟩:=Yx H (by omega);replace H:=Js [3,0,0,0] 0 H;obtain⟨bt,st,rfl,H,_,_,hct⟩:=Yx H (by omega);refine J9 H ?_;refine Jd ?_;refine Q5 rfl (QW H rfl hp rfl ?_);refine C4 H ?_;refine Jd ?_;refine Q5 rfl (Yh H rfl rfl inferInstance rfl (by simp only[length_append,QE];omega) rfl ?_);clear H;intro w H;rw[Int.toNat_natCast,Ao (v:=2) (x:=2) (by omega) rfl] at H;refine EY H ?_;refine Jd ?_;refine Q5 rfl (QW H rfl hp rfl ?_);refine Jv ?_;refine Dg H ?_;refine Jd ?_;refine Q5 rfl (Yh H rfl rfl inferInstance rfl (by simp only[length_append,QE];omega) rfl ?_);clear H;intro w H;rw[Int.toNat_natCast,Ao (v:=ku) (x:=ku) (by omega) rfl] at H;refine Q6 ?_;replace H:=Js [1,0,0,0] 0 H;replace H:=hck _ _ (QA (x.kind.set j 2)) (by simp[QA]) H;replace H:=Js [1,0,0,0] 0 H;replace H:=hct _ _ (QA (x.to.set j ku)) (by simp[QA]) H;replace H:=Js [2,2,1,0] 0 H;replace H:=hclose _ _ { x with kind:=x.kind.set j 2,to:=x.to.set j ku } (WP hm (IT hob j 2 ku (fun _=>hkul))) H;refine VJ H ?_;exact Q3 (Jy H rfl fun w' H'=>⟨rfl,H'⟩)
 ·have hc:Yg m o place u=(m,VD m o place true):=by
   cases hv:V1 m o with
   | none=>unfold Yg;rw[hv,XR hv]
   | some kx=>
    obtain⟨k,x⟩:=kx;rw[UP hv] at h0 ⊢;unfold Yg;rw[hv];show (if QM _ _ _ _=0 then _ else _)=_;rw[if_neg h0]
  rw[hc,show (((VD m o place true:Nat):Int) != 0)=true by simpa using h0];refine Yi H ?_;exact Q3 (Jy H rfl fun w' H'=>⟨rfl,H'⟩)
def Xu (m:MS) (t:Nat):MS:=match m.objs[t]? with|some y=>Yl m t { y with held:=true }|none=>m
def YA (m:MS) (o place:Int):MS×Nat×Nat×Nat:=
 match V1 m o with
 | none=>(m,0,0,8)
 | some (_,x)=>if QM (Vq m x) x.w.length place true=0 then (if x.kind.getD place.toNat 0=2 then Xu m (x.to.getD place.toNat 0) else m,x.kind.getD place.toNat 0,x.to.getD place.toNat 0,0) else (m,0,0,QM (Vq m x) x.w.length place true)
theorem eG [Q4] (p:Nat) (m:MS) (o place:Int) {w:World} {fr:List Q2} (H:Q0 w (Qp p m::fr)) :
  Calls Tryz.prog 155 #[pp p,.int .i64 o,.int .i64 place] w (ret fun v w'=>v = .tuple #[.int .i64 ((YA m o place).2.1:Nat),.int .i64 ((YA m o place).2.2.1:Nat),.int .i64 ((YA m o place).2.2.2:Nat)]∧Q0 w' (Qp p (YA m o place).1::fr)):=by
 refine QV Tryz.func155 rfl (by kernel_rfl) ?_;refine VG H ?_;refine Vi H ?_;refine Jc rfl rfl (RP p m o place true H) ?_;clear H;rintro v w ⟨rfl,H⟩;refine YI H ?_;by_cases h0:VD m o place true=0
 ·obtain⟨k,x,hv⟩:∃ k x,V1 m o=some (k,x):=by
   cases hv:V1 m o with
   | none=>rw[XR hv] at h0;cases h0
   | some kx=>exact⟨kx.1,kx.2,rfl⟩
  rw[UP hv] at h0 ⊢;have hrm:YA m o place=(if x.kind.getD place.toNat 0=2 then Xu m (x.to.getD place.toNat 0) else m,x.kind.getD place.toNat 0,x.to.getD place.toNat 0,0):=by unfold YA;rw[hv];show (if QM _ _ _ _=0 then _ else _)=_;rw[if_pos h0]
  rw[hrm,h0];refine V8 H ?_;obtain⟨rfl,hx,hh,hg⟩:=Xt hv;have hkl:=(List.getElem?_eq_some_iff.1 hx).1;obtain⟨j,rfl,hj,hr⟩:=Zh h0;rw[Int.toNat_natCast];obtain⟨t,lc,aL,cL,bO,cO,s,ptrs,q,vw,vk,vt,rest,hm,h2,hp,H,hclose⟩:=GN H hx;have hob:=hm.objs x (mem_of_getElem? hx);have hkn:=hob.kind;have htn:=hob.to;have hsm:=RN (w:=hm) hx;obtain⟨ak,ck,rfl⟩:=QD H.drop.drop (QE _) (by decide);obtain⟨at',ct,rfl⟩:=QD H.drop.drop.drop (QE _) (by decide);replace H:=Js [2,0,0,0] 0 H;obtain⟨bk,sk,rfl,H,_,_,hck⟩:=Yx H (by omega);replace H:=Js [3,0,0,0] 0 H;obtain⟨bt,st,rfl,H,_,_,hct⟩:=Yx H (by omega);have hkj:=getElem?_eq_getElem (l:=x.kind) (i:=j) (by omega);have htj:=getElem?_eq_getElem (l:=x.to) (i:=j) (by omega);have hkd:x.kind.getD j 0=x.kind[j]:=by rw[getD_eq_getElem?_getD,hkj];rfl
  have htd:x.to.getD j 0=x.to[j]:=by rw[getD_eq_getElem?_getD,htj];rfl
  have hgo:=hob.goes j;rw[htd] at hgo;rw[hkd,htd];generalize x.kind[j]=kd at *;generalize x.to[j]=td at *;refine J9 H ?_;refine Jd ?_;refine Q5 rfl (QW H rfl hp rfl ?_);refine C4 H ?_;refine Jd ?_;refine Q5 rfl (QW H rfl (GW hkj) rfl ?_);refine J0 H ?_;refine J9 H ?_;refine Jd ?_;refine Q5 rfl (QW H rfl hp rfl ?_);refine C4 H ?_;refine Jd ?_;refine Q5 rfl (QW H rfl (GW htj) rfl ?_);refine J0 H ?_;replace H:=Js [1,0,0,0] 0 H;replace H:=hck _ _ (QA x.kind) rfl H;replace H:=Js [1,0,0,0] 0 H;replace H:=hct _ _ (QA x.to) rfl H;replace H:=Js [2,2,1,0] 0 H;replace H:=U7 hx (hclose _ _ x (RM hx hm) H);clear hck hct hclose;refine J3 H ?_;by_cases h2':kd=2
  ·subst h2';rw[if_pos rfl];have htl:=hgo hkj;have hy:=getElem?_eq_getElem htl;generalize m.objs[td]=y at hy;have hh':Xu m td=Yl m td { y with held:=true }:=by unfold Xu;rw[hy]
   rw[hh'];refine VR H ?_;obtain⟨t',lc',aL',cL',bO',cO',s',ptrs',q',vw',vk',vt',rest',hm',h2',hp',H,hclose⟩:=GN H hy;refine J9 H ?_;refine Jd ?_;refine Q5 rfl (QW H rfl hp' rfl ?_);refine GK H ?_;clear H;intro w H;refine Q6 ?_;refine KU H ?_;refine Q3 (Jy (hclose _ _ { y with held:=true } (WP hm (by obtain⟨a,b,c,d,e⟩:=hm.objs y (mem_of_getElem? hy);exact⟨a,b,c,d,e⟩)) H) rfl fun w' H'=>⟨rfl,H'⟩)
  ·rw[if_neg h2',show ((kd:Int) == 2)=false by simp;omega];refine V8 H ?_;refine KU H ?_;exact Q3 (Jy H rfl fun w' H'=>⟨rfl,H'⟩)
 ·have hc:YA m o place=(m,0,0,VD m o place true):=by
   cases hv:V1 m o with
   | none=>unfold YA;rw[hv,XR hv]
   | some kx=>
    obtain⟨k,x⟩:=kx;rw[UP hv] at h0 ⊢;unfold YA;rw[hv];show (if QM _ _ _ _=0 then _ else _)=_;rw[if_neg h0]
  rw[hc,show (((VD m o place true:Nat):Int) != 0)=true by simpa using h0];refine VR H ?_;refine W9 H ?_;exact Q3 (Jy H rfl fun w' H'=>⟨rfl,H'⟩)
def G3:MS:=⟨[-1],[],[]⟩
theorem eU [Q4] {w:World} {fr:List Q2} (H:Q0 w fr):Calls Tryz.prog 88 #[] w (ret fun v w'=>∃ p,v=pp p∧Q0 w' (Qp p G3::fr)):=by
 refine QV Tryz.func88 rfl (by kernel_rfl) ?_;refine Bl H ?_;refine Jc rfl rfl (dx H) ?_;clear H;rintro v w ⟨t,rfl,H⟩;refine X6 H ?_;clear H;intro b3 w H;refine J0 H ?_;have H:Q0 w (star (([]:List OC).map Z8)::pts b3 (row 56 [pp t,.slice none 0 0,.slice none 0 0])::Vb t [-1]::fr):=Q0.star.2 H;have H:=Yn (E:=267) (k:=1) H;have H:Q0 w (star (([]:List Z0).map YY)::_):=Q0.star.2 H;have H:=Yn (E:=164) (k:=4) H;replace H:=Js [4,4,0,0,0,0] 0 H;have hm:V6 G3:=⟨⟨by simp[G3],by simp[G3]⟩,⟨by simp[G3],fun l h=>by cases h⟩,(fun l h=>by cases h),by simp[G3]⟩;exact Q3 (Jy (Yv (m:=G3) hm (lc:=[]) (oc:=[]) rfl rfl H) rfl fun w' H'=>⟨_,rfl,H'⟩)
def XW (m:MS) (parent:Int):MS×Nat×Nat:=if Z7 m.P parent=0 then ({ m with P:=m.P++[parent] },m.P.length,0) else (m,0,Z7 m.P parent)
theorem O7 [Q4] (p:Nat) (m:MS) (parent:Int) (hP:m.P.length < 100000) {w:World} {fr:List Q2} (H:Q0 w (Qp p m::fr)) :
  Calls Tryz.prog 149 #[pp p,.int .i64 parent] w (ret fun v w'=>v = .tuple #[.int .i64 ((XW m parent).2.1:Nat),.int .i64 ((XW m parent).2.2:Nat)]∧Q0 w' (Qp p (XW m parent).1::fr)):=by
 obtain⟨t,lc,oc,aL,cL,aO,cO,hm,h2,h3,hl1,hl2,H⟩:=ZP H;refine QV Tryz.func149 rfl (by kernel_rfl) ?_;refine C5 H ?_;replace H:=Js [1,0] 0 H;refine Jc rfl rfl (O4 t m.P parent (by omega) hm.P.1 H) ?_;clear H;rintro v w (⟨he,rfl,H⟩|⟨he,rfl,H⟩)
 ·have hr:XW m parent=(m,0,Z7 m.P parent):=by unfold XW;rw[if_neg he]
  rw[hr];refine WV H ?_;exact Q3 (Jy (Yv hm h2 h3 H.swap) rfl fun w' H'=>⟨rfl,H'⟩)
 ·have hr:XW m parent=({ m with P:=m.P++[parent] },m.P.length,0):=by unfold XW;rw[if_pos he]
  rw[hr];have hm':V6 { m with P:=m.P++[parent] }:=⟨⟨by simp,by simp;omega⟩,hm.lays,hm.objs,hm.few⟩;refine WV H ?_;exact Q3 (Jy (Yv (m:={ m with P:=m.P++[parent] }) hm' h2 h3 H.swap) rfl fun w' H'=>⟨rfl,H'⟩)
def ZS (m:MS) (ws:List Nat):MS×Nat×Nat:=
 match ZX ws with
 | none=>(m,0,4)
 | some l=>if 64≤m.lays.length then (m,0,5) else ({ m with lays:=m.lays++[l] },m.lays.length+1,0)
theorem eX {ls:List QJ} {l:QJ} {n:Nat} {x:QI} (h:Gj ls n x):Gj (ls++[l]) n x:=by
 obtain⟨⟨l',a,a2⟩,b,c,d,e⟩:=h;exact⟨⟨l',by rw[getElem?_append_left (List.getElem?_eq_some_iff.1 a).1];exact a,a2⟩,b,c,d,e⟩
theorem eK [Q4] (p:Nat) (m:MS) (v:Value) (ws:List Nat) (hws:∀ x∈ws,x < 18446744073709551616) {w:World} {fr:List Q2} (hr:Vh fr v ws.length 1 (QP ws)) (H:Q0 w (Qp p m::fr)) :
  Calls Tryz.prog 148 #[pp p,v] w (ret fun r w'=>r = .tuple #[.int .i64 ((ZS m ws).2.1:Nat),.int .i64 ((ZS m ws).2.2:Nat)]∧Q0 w' (Qp p (ZS m ws).1::fr)):=by
 obtain⟨_,ad,cap,rfl,hr'⟩:=id hr;refine QV Tryz.func148 rfl (by kernel_rfl) ?_;refine DD H ?_;refine Jc rfl rfl (dt _ ws hws hr.there H) ?_;clear H;rintro r w (⟨hd,rfl,H⟩|⟨l,vr,vq,hd,rfl,H⟩)
 ·have hdr:ZS m ws=(m,0,4):=by unfold ZS;rw[hd]
  rw[hdr];refine Vj H ?_;clear H;intro b6 w H;refine J4 H ?_;clear H;intro w H;refine Bx H ?_;exact Q3 (Jy H.drop rfl fun w' H'=>⟨rfl,H'⟩)
 ·obtain⟨a1,m1,c1,rfl⟩:=Qq H;obtain⟨a2,m2,c2,rfl⟩:=Qq H.swap;replace H:=Js [2,0,0] 0 H;obtain⟨t,lc,oc,aL,cL,aO,cO,hm,h2,h3,hl1,hl2,H⟩:=ZP H;refine Vj H ?_;clear H;intro b6 w H;refine J4 H ?_;clear H;intro w H;refine Yp H ?_;refine ZU H ?_;refine Ul H ?_;by_cases h64:64≤m.lays.length
  ·have hdr:ZS m ws=(m,0,5):=by unfold ZS;rw[hd];show (if _ then _ else _)=_;rw[if_pos h64]
   rw[hdr];rw[show decide ((m.lays.length:Int)≥64)=true from decide_eq_true (by omega)];refine Yi H ?_;have H:=Yv hm h2 h3 H.drop;replace H:=Js [0] 2 H;exact Q3 (Jy H rfl fun w' H'=>⟨rfl,H'⟩)
  ·have hdr:ZS m ws=({ m with lays:=m.lays++[l] },m.lays.length+1,0):=by unfold ZS;rw[hd];show (if _ then _ else _)=_;rw[if_neg h64]
   rw[hdr]
   have hR:VT l:=by
    unfold ZX at hd;split at hd
    ·split at hd
     ·injection hd with hd;rename_i hx;rw[← hd];exact hx.2
     ·cases hd
    ·cases hd
   have hm':V6 { m with lays:=m.lays++[l] }:=⟨hm.P,⟨by show (m.lays++[l]).length≤64;simp;omega,fun x hx=>by
    rcases mem_append.1 hx with hx|hx
    ·exact hm.lays.2 x hx
    ·simp at hx;subst hx;exact hR⟩,fun x hx=>eX (hm.objs x hx),hm.few⟩
   rw[show decide ((m.lays.length:Int)≥64)=false from decide_eq_false (by omega)];refine Bw H ?_;clear H;intro w H;refine W8 H ?_;refine Jl 4 [7,10] H ?_;refine HW H ?_;refine Jo 6 H ?_;refine Ru H ?_;clear H;intro b27 w H;replace H:=Js [4,0,0,0,0] 0 H;refine Jo 7 H ?_;refine YF H rfl rfl (by repeat first|exact .nil _|apply QZ.cons rfl) rfl (by decide) (by rw[RI];simp only[length_cons,length_nil];omega) rfl rfl ?_;clear H;intro v28 w H
   have e1:VF lc++[.int .i64 l.fixed,.slice a1 m1 c1,.int .i64 l.record,.slice a2 m2 c2]=VF (lc++[(.slice a1 m1 c1,.slice a2 m2 c2,l)]):=by
    rw[Mc];rfl
   rw[e1] at H;have hql':(lc++[((.slice a1 m1 c1:Value),(.slice a2 m2 c2:Value),l)]).length=m.lays.length+1:=by simp[hl1]
   obtain⟨a28,c28,rfl⟩:=QD H (m:=m.lays.length+1) (by rw[RI,hql']) (by decide);refine Ja 8 ?_;refine Jf 9 ?_;refine Jo 10 H ?_;refine Uj H ?_;clear H;intro w H;refine Jx H ?_;refine Di H ?_;refine J2 H ?_;replace H:=Js [8,8,5,3,3,0,2,2] 2 H
   have H1:Q0 w (star ((lc++[((.slice a1 m1 c1:Value),(.slice a2 m2 c2:Value),l)]).map YY)::pts p (row 56 [pp t,.slice a28 (m.lays.length+1) c28,.slice aO m.objs.length cO])::Vb t m.P::QC 164 4 (.slice a28 (m.lays.length+1) c28) (VF (lc++[(.slice a1 m1 c1,.slice a2 m2 c2,l)]))::QC 267 1 (.slice aO m.objs.length cO) (oc.map fun x=>pp x.ptr)::star (oc.map Z8)::fr):=by
    refine(Q0.pick (x:=((.slice a1 m1 c1:Value),(.slice a2 m2 c2:Value),l)) (g1:=lc) (g2:=[]) rfl).2 ?_;rw[append_nil];refine Q0.star.2 ?_;exact H
   replace H1:=Js [1,1,1,0,0,0] 0 H1;have H2:=Yv (m:={ m with lays:=m.lays++[l] }) hm' (lc:=lc++[((.slice a1 m1 c1:Value),(.slice a2 m2 c2:Value),l)]) (by rw[map_append,h2];rfl) h3 H1;exact Q3 (Jy H2 rfl fun w' H'=>⟨rfl,H'⟩)
def Vk (m:MS) (region lay count:Int):Nat×Nat:=
 if Vw m.P region=false then (0,15) else if lay < 1∨(m.lays.length:Int) < lay then (0,6) else V9 ((m.lays[lay.toNat - 1]?).getD ⟨0,[],0,[]⟩) count
theorem O8 [Q4] (p:Nat) (m:MS) (region lay count:Int) {w:World} {fr:List Q2} (H:Q0 w (Qp p m::fr)) :
  Calls Tryz.prog 213 #[pp p,.int .i64 region,.int .i64 lay,.int .i64 count] w (ret fun v w'=>v = .tuple #[.int .i64 ((Vk m region lay count).1:Nat),.int .i64 ((Vk m region lay count).2:Nat)]∧Q0 w' (Qp p m::fr)):=by
 obtain⟨t,lc,oc,aL,cL,aO,cO,hm,h2,h3,hl1,hl2,H⟩:=ZP H;refine QV Tryz.func213 rfl (by kernel_rfl) ?_;refine C5 H ?_;replace H:=Js [1,0] 0 H;refine Jc rfl rfl (WO t m.P region H) ?_;clear H;rintro v w ⟨rfl,H⟩;generalize hlv:Vw m.P region=lv;have hlays:=hm.lays.1;cases lv with
 | false=>
  have hr:Vk m region lay count=(0,15):=by unfold Vk;rw[if_pos hlv]
  rw[hr];refine Bx H ?_;exact Q3 (Jy (Yv hm h2 h3 H.swap) rfl fun w' H'=>⟨rfl,H'⟩)
 | true=>
  replace H:=Js [1,0] 0 H;refine Yp H ?_;by_cases h1:lay < 1
  ·have hr:Vk m region lay count=(0,6):=by unfold Vk;rw[if_neg (by rw[hlv];decide),if_pos (.inl h1)]
   rw[hr];refine J5 H ?_;rw[show decide (lay < 1)=true from decide_eq_true (by omega)];refine Bj H ?_;refine BH H ?_;exact Q3 (Jy (Yv hm h2 h3 H) rfl fun w' H'=>⟨rfl,H'⟩)
  ·refine J5 H ?_;rw[show decide (lay < 1)=false from decide_eq_false (by omega)];refine KR H ?_;by_cases h2':(m.lays.length:Int) < lay
   ·have hr:Vk m region lay count=(0,6):=by unfold Vk;rw[if_neg (by rw[hlv];decide),if_pos (.inr h2')]
    rw[hr];rw[show decide (lay > (m.lays.length:Int))=true from decide_eq_true (by omega)];refine BH H ?_;exact Q3 (Jy (Yv hm h2 h3 H) rfl fun w' H'=>⟨rfl,H'⟩)
   ·obtain⟨la,rfl⟩:∃ la:Nat,lay=((la+1:Nat):Int):=⟨lay.toNat - 1,by omega⟩;have hla:la < lc.length:=by omega
    have hy:=getElem?_eq_getElem hla;generalize lc[la]=y at hy;have hyl:m.lays[la]? = some y.2.2:=by rw[← h2,getElem?_map,hy];rfl
    have hr:Vk m region ((la+1:Nat):Int) count=V9 y.2.2 count:=by
     unfold Vk;rw[if_neg (by rw[hlv];decide),if_neg (by omega),Int.toNat_natCast,Nat.add_sub_cancel,hyl];rfl
    rw[hr];have hR:=hm.lays.2 _ (mem_of_getElem? hyl);rw[show decide (((la+1:Nat):Int) > (m.lays.length:Int))=false from decide_eq_false (by omega)];refine Vo H ?_;replace H:=Js [2,2,0,0,0,0] 0 H;obtain⟨bL,sL,D1,D2,R,rfl,H,hD,hcl⟩:=O5 hl1 H hy;obtain⟨vr,vq,l⟩:=y;refine GU H ?_;rw[show IntKind.i64.wrap (((la+1:Nat):Int) - 1)=(la:Int) by rw[Qb (by omega) (by omega)];omega];refine Jd ?_;refine Q5 rfl (VH H rfl (Hl hy) rfl ?_);refine Jv ?_;refine Jc rfl rfl (dq vr vq l hR count ((hD _).there) H) ?_;clear H;rintro v w ⟨rfl,H⟩;refine WV H ?_;replace H:=hcl _ _ H;replace H:=Js [2,2,0,0,0,0] 0 H;exact Q3 (Jy (Yv hm h2 h3 H) rfl fun w' H'=>⟨rfl,H'⟩)
def G4 (region lay count:Int) (n:Nat):QI:=⟨region.toNat,lay.toNat,count.toNat,List.replicate n 0,List.replicate n 0,List.replicate n 0,true,false,false⟩
def Kh (m:MS) (region lay count:Int):MS:={ m with objs:=m.objs++[G4 region lay count (Vk m region lay count).1] }
theorem FZ {m:MS} {region lay count:Int} (h:(Vk m region lay count).2=0):∃ (r la c:Nat) (l:QJ),region=r∧lay=(la+1:Nat)∧count=c∧Vw m.P region=true∧m.lays[la]? = some l∧Vk m region lay count=V9 l c∧V9 l c=(l.fixed+c*l.record,0)∧l.fixed+c*l.record < 8192:=by
 unfold Vk at h ⊢;by_cases h1:Vw m.P region=false
 ·rw[if_pos h1] at h;cases h
 ·rw[if_neg h1] at h ⊢;by_cases h2:lay < 1∨(m.lays.length:Int) < lay
  ·rw[if_pos h2] at h;cases h
  ·rw[if_neg h2] at h ⊢;have h3:Vw m.P region=true:=by simpa using h1
   have h4:0 < region:=by
    unfold Vw at h3;exact(of_decide_eq_true h3).1
   obtain⟨la,rfl⟩:∃ la:Nat,lay=((la+1:Nat):Int):=⟨lay.toNat - 1,by omega⟩;have hla:la < m.lays.length:=by omega
   have hl:=getElem?_eq_getElem hla;generalize m.lays[la]=l at hl;rw[Int.toNat_natCast,Nat.add_sub_cancel,hl] at h ⊢;replace h:(V9 l count).2=0:=h;unfold V9 at h;split at h
   ·cases h
   ·rename_i hc;split at h
    ·cases h
    ·rename_i hs;obtain⟨c,rfl⟩:∃ c:Nat,count=c:=⟨count.toNat,by omega⟩;rw[Int.toNat_natCast] at hs;refine⟨region.toNat,la,c,l,by omega,rfl,rfl,h3,hl,rfl,?_,by omega⟩;unfold V9;rw[if_neg hc,Int.toNat_natCast,if_neg hs]
theorem Ia {m:MS} {region lay count:Int} (h:(Vk m region lay count).2=0) (hm:V6 m) (hf:m.objs.length < 100000):V6 (Kh m region lay count):=by
 obtain⟨r,la,c,l,rfl,rfl,rfl,hl,hla,hmay,hsz,hlt⟩:=FZ h;have hlen:(m.objs++[G4 r ((la+1:Nat):Int) c (Vk m r ((la+1:Nat):Int) c).1]).length=m.objs.length+1:=by simp
 refine⟨hm.P,hm.lays,fun x hx=>?_,by show (m.objs++[_]).length≤_;rw[hlen];omega⟩;show Gj m.lays (m.objs++[_]).length x;rw[hlen]
 rcases mem_append.1 hx with hx|hx
 ·obtain⟨a,b,c,d,e⟩:=hm.objs x hx;exact⟨a,b,c,d,fun p hp=>by have:=e p hp;omega⟩
 ·simp only[mem_singleton] at hx;subst hx;rw[hmay,hsz];refine⟨⟨l,?_,hm.lays.2 l (mem_of_getElem? hla),?_⟩,?_,rfl,rfl,?_⟩
  ·show m.lays[(((la+1:Nat):Int).toNat) - 1]? = _;rw[Int.toNat_natCast];exact hla
  ·show V9 l ((((c:Nat):Int).toNat:Nat):Int)=((List.replicate (l.fixed+c*l.record) 0).length,0);rw[Int.toNat_natCast,hsz,length_replicate]
  ·show 1≤((la+1:Nat):Int).toNat;omega
  ·intro p hp;have:(List.replicate (l.fixed+c*l.record) 0)[p]? = some 2:=hp;rw[getElem?_replicate] at this;split at this <;> cases this
theorem Ap [Q4] {w:World} {p t bO bW bK bT n rr la c:Nat} {m:MS} {lc:List Z0} {oc:List OC} {aL aS:Option Addr} {cL cS:Nat} {fr:List Q2} (hm':V6 { m with objs:=m.objs++[G4 (rr:Int) ((la+1:Nat):Int) (c:Int) n] }) (h2:lc.map (·.2.2)=m.lays) (h3:oc.map (·.ob)=m.objs) (hl1:lc.length=m.lays.length)
  (H : Q0 w (pts bO (row 266 [.int .i64 rr, .int .i64 ((la + 1 : Nat) : Int), .int .i64 c, .slice (some ⟨bW, 0, none⟩) n n, .slice (some ⟨bK, 0, none⟩) n n, .slice (some ⟨bT, 0, none⟩) n n, .bool true, .bool false, .bool false]) :: UL (.slice (some ⟨bW, 0, none⟩) n n) (List.replicate n 0) :: NL (.slice (some ⟨bK, 0, none⟩) n n) (List.replicate n 0) :: NL (.slice (some ⟨bT, 0, none⟩) n n) (List.replicate n 0) :: star (oc.map Z8) ::
   pts p (row 56 [pp t,.slice aL m.lays.length cL,.slice aS (m.objs.length+1) cS])::Vb t m.P::QC 164 4 (.slice aL m.lays.length cL) (VF lc)::star (lc.map YY)::QC 267 1 (.slice aS (m.objs.length+1) cS) ((oc.map fun x=>pp x.ptr)++[pp bO])::fr)) :
  Q0 w (Qp p { m with objs:=m.objs++[G4 (rr:Int) ((la+1:Nat):Int) (c:Int) n] }::fr):=by
 have H1:Q0 w (star ((oc++[(⟨bO,.slice (some ⟨bW,0,none⟩) n n,.slice (some ⟨bK,0,none⟩) n n,.slice (some ⟨bT,0,none⟩) n n,G4 (rr:Int) ((la+1:Nat):Int) (c:Int) n⟩:OC)]).map Z8)::pts p (row 56 [pp t,.slice aL m.lays.length cL,.slice aS (m.objs.length+1) cS])::Vb t m.P::QC 164 4 (.slice aL m.lays.length cL) (VF lc)::star (lc.map YY)::QC 267 1 (.slice aS (m.objs.length+1) cS) ((oc.map fun x=>pp x.ptr)++[pp bO])::fr):=by
  refine(Q0.pick (g1:=oc) (g2:=[]) rfl).2 ?_;rw[append_nil];exact Q0.star.2 H
 replace H1:=Js [1,1,1,1,1,0] 0 H1;exact Yv (m:={ m with objs:=m.objs++[G4 (rr:Int) ((la+1:Nat):Int) (c:Int) n] }) (oc:=oc++[(⟨bO,.slice (some ⟨bW,0,none⟩) n n,.slice (some ⟨bK,0,none⟩) n n,.slice (some ⟨bT,0,none⟩) n n,G4 (rr:Int) ((la+1:Nat):Int) (c:Int) n⟩:OC)]) hm' h2 (by rw[map_append,h3];rfl) (by rw[map_append];exact H1)
theorem eR [Q4] (p:Nat) (m:MS) (region lay count:Int) (hmay:(Vk m region lay count).2=0) (hf:m.objs.length < 100000) {w:World} {fr:List Q2} (H:Q0 w (Qp p m::fr)) :
  Calls Tryz.prog 215 #[pp p,.int .i64 region,.int .i64 lay,.int .i64 count] w (ret fun v w'=>v = .tuple #[]∧Q0 w' (Qp p (Kh m region lay count)::fr)):=by
 refine QV Tryz.func215 rfl (by kernel_rfl) ?_;refine X5 H ?_;refine Jc rfl rfl (O8 p m region lay count H) ?_;clear H;rintro v w ⟨rfl,H⟩;have hr:Kh m region lay count={ m with objs:=m.objs++[G4 region lay count (Vk m region lay count).1] }:=rfl;rw[hr];obtain⟨t,lc,oc,aL,cL,aO,cO,hm,h2,h3,hl1,hl2,H⟩:=ZP H;have hm':V6 _:=Ia hmay hm hf;rw[hr] at hm';obtain⟨rr,la,c,l,rfl,rfl,rfl,hlv,hla,hmm,hsz,hlt⟩:=FZ hmay;have hn1:(Vk m (rr:Int) ((la+1:Nat):Int) (c:Int)).1=l.fixed+c*l.record:=by rw[hmm,hsz]
 rw[hmm,hsz] at hm' ⊢;generalize l.fixed+c*l.record=n at *
 have z1:Vx (Qt (.int .u64 0)) n=QP (List.replicate n 0):=by
  rw[show Qt (.int .u64 0)=[.int .u64 0] from rfl,Rr];simp[QP]
 have z2:Vx (Qt (.int .i64 0)) n=QA (List.replicate n 0):=by
  rw[show Qt (.int .i64 0)=[.int .i64 0] from rfl,Rr];simp[QA]
 refine DM H ?_;clear H;intro w H;refine W8 H ?_;refine Jl 4 [17,20] H ?_;refine Ja 5 ?_;refine W7 H ?_;refine Ja 10 ?_;refine Ja 12 ?_;refine SC 9 11 13 rfl rfl rfl (by kernel_rfl) (by repeat first|exact .nil|refine .cons (.inr H.at) ?_|refine .cons (.inr H.mp) ?_|refine .cons (.inl (by kernel_rfl)) ?_) (Q9.none rfl) (Q9.none rfl) (Q9.none rfl) (ZG H rfl rfl (by decide) (by omega) rfl ?_) (ZG H rfl rfl (by decide) (by omega) rfl ?_) (ZG H rfl rfl (by decide) (by omega) rfl ?_)
 ·clear H;intro bW w H;rw[z1] at H;refine Jw 11 13 H rfl rfl (ZG H rfl rfl (by decide) (by omega) rfl ?_) (ZG H rfl rfl (by decide) (by omega) rfl ?_)
  ·clear H;intro bK w H;rw[z2] at H;refine Jo 13 H ?_;refine ZG H rfl rfl (by decide) (by omega) rfl ?_;clear H;intro bT w H;rw[z2] at H;replace H:=Js [2,1,0] 0 H;refine AD H ?_;clear H;intro bO w H
   refine AE H ?_;clear H;intro bS w H;replace H:=Js [9,0,0,0,0,0,0,0,0,0,0] 0 H;refine Jo 17 H ?_;refine YF H rfl rfl (by repeat first|exact .nil _|apply QZ.cons rfl) rfl (by decide) (by simp;omega) rfl rfl ?_;clear H;intro vS w H;obtain⟨aS,cS,rfl⟩:=QD H (m:=m.objs.length+1) (by simp[hl2]) (by decide);refine AF H ?_;clear H;intro w H;refine Jx H ?_;replace H:=Js [2,2,2,2,6,2,2,2,2,0] 1 H;exact Y7 _ (.inl rfl) (Ap hm' h2 h3 hl1 H) rfl fun w' H'=>⟨rfl,H'⟩
  ·clear H;intro bT w H;rw[z2] at H;refine Jo 11 H ?_;refine ZG H rfl rfl (by decide) (by omega) rfl ?_;clear H;intro bK w H;rw[z2] at H;replace H:=Js [2,0,0] 0 H;refine AD H ?_;clear H;intro bO w H
   refine AE H ?_;clear H;intro bS w H;replace H:=Js [9,0,0,0,0,0,0,0,0,0,0] 0 H;refine Jo 17 H ?_;refine YF H rfl rfl (by repeat first|exact .nil _|apply QZ.cons rfl) rfl (by decide) (by simp;omega) rfl rfl ?_;clear H;intro vS w H;obtain⟨aS,cS,rfl⟩:=QD H (m:=m.objs.length+1) (by simp[hl2]) (by decide);refine AF H ?_;clear H;intro w H;refine Jx H ?_;replace H:=Js [2,2,2,2,6,2,2,2,2,0] 1 H;exact Y7 _ (.inl rfl) (Ap hm' h2 h3 hl1 H) rfl fun w' H'=>⟨rfl,H'⟩
 ·clear H;intro bK w H;rw[z2] at H;refine Jw 9 13 H rfl rfl (ZG H rfl rfl (by decide) (by omega) rfl ?_) (ZG H rfl rfl (by decide) (by omega) rfl ?_)
  ·clear H;intro bW w H;rw[z1] at H;refine Jo 13 H ?_;refine ZG H rfl rfl (by decide) (by omega) rfl ?_;clear H;intro bT w H;rw[z2] at H;replace H:=Js [1,1,0] 0 H;refine AD H ?_;clear H;intro bO w H
   refine AE H ?_;clear H;intro bS w H;replace H:=Js [9,0,0,0,0,0,0,0,0,0,0] 0 H;refine Jo 17 H ?_;refine YF H rfl rfl (by repeat first|exact .nil _|apply QZ.cons rfl) rfl (by decide) (by simp;omega) rfl rfl ?_;clear H;intro vS w H;obtain⟨aS,cS,rfl⟩:=QD H (m:=m.objs.length+1) (by simp[hl2]) (by decide);refine AF H ?_;clear H;intro w H;refine Jx H ?_;replace H:=Js [2,2,2,2,6,2,2,2,2,0] 1 H;exact Y7 _ (.inl rfl) (Ap hm' h2 h3 hl1 H) rfl fun w' H'=>⟨rfl,H'⟩
  ·clear H;intro bT w H;rw[z2] at H;refine Jo 9 H ?_;refine ZG H rfl rfl (by decide) (by omega) rfl ?_;clear H;intro bW w H;rw[z1] at H;replace H:=Js [0,1,0] 0 H;refine AD H ?_;clear H;intro bO w H
   refine AE H ?_;clear H;intro bS w H;replace H:=Js [9,0,0,0,0,0,0,0,0,0,0] 0 H;refine Jo 17 H ?_;refine YF H rfl rfl (by repeat first|exact .nil _|apply QZ.cons rfl) rfl (by decide) (by simp;omega) rfl rfl ?_;clear H;intro vS w H;obtain⟨aS,cS,rfl⟩:=QD H (m:=m.objs.length+1) (by simp[hl2]) (by decide);refine AF H ?_;clear H;intro w H;refine Jx H ?_;replace H:=Js [2,2,2,2,6,2,2,2,2,0] 1 H;exact Y7 _ (.inl rfl) (Ap hm' h2 h3 hl1 H) rfl fun w' H'=>⟨rfl,H'⟩
 ·clear H;intro bT w H;rw[z2] at H;refine Jw 9 11 H rfl rfl (ZG H rfl rfl (by decide) (by omega) rfl ?_) (ZG H rfl rfl (by decide) (by omega) rfl ?_)
  ·clear H;intro bW w H;rw[z1] at H;refine Jo 11 H ?_;refine ZG H rfl rfl (by decide) (by omega) rfl ?_;clear H;intro bK w H;rw[z2] at H;replace H:=Js [1,0,0] 0 H;refine AD H ?_;clear H;intro bO w H
   refine AE H ?_;clear H;intro bS w H;replace H:=Js [9,0,0,0,0,0,0,0,0,0,0] 0 H;refine Jo 17 H ?_;refine YF H rfl rfl (by repeat first|exact .nil _|apply QZ.cons rfl) rfl (by decide) (by simp;omega) rfl rfl ?_;clear H;intro vS w H;obtain⟨aS,cS,rfl⟩:=QD H (m:=m.objs.length+1) (by simp[hl2]) (by decide);refine AF H ?_;clear H;intro w H;refine Jx H ?_;replace H:=Js [2,2,2,2,6,2,2,2,2,0] 1 H;exact Y7 _ (.inl rfl) (Ap hm' h2 h3 hl1 H) rfl fun w' H'=>⟨rfl,H'⟩
  ·clear H;intro bK w H;rw[z2] at H;refine Jo 9 H ?_;refine ZG H rfl rfl (by decide) (by omega) rfl ?_;clear H;intro bW w H;rw[z1] at H;replace H:=Js [0,0,0] 0 H;refine AD H ?_;clear H;intro bO w H
   refine AE H ?_;clear H;intro bS w H;replace H:=Js [9,0,0,0,0,0,0,0,0,0,0] 0 H;refine Jo 17 H ?_;refine YF H rfl rfl (by repeat first|exact .nil _|apply QZ.cons rfl) rfl (by decide) (by simp;omega) rfl rfl ?_;clear H;intro vS w H;obtain⟨aS,cS,rfl⟩:=QD H (m:=m.objs.length+1) (by simp[hl2]) (by decide);refine AF H ?_;clear H;intro w H;refine Jx H ?_;replace H:=Js [2,2,2,2,6,2,2,2,2,0] 1 H;exact Y7 _ (.inl rfl) (Ap hm' h2 h3 hl1 H) rfl fun w' H'=>⟨rfl,H'⟩
end Go.Proofs.YtbnnnljagkjpiaaGreatDoor
