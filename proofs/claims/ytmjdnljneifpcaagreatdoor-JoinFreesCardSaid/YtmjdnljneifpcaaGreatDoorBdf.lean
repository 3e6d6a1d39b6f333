/- Cells: what is proved on the way: every input of the statement; no condition. Texts joined: LayP LayA LayB LayC LayD LayE RefA RefB RemA RmB TreA. -/
import Derived.Test.YtmjdnljneifpcaaGreatDoorBde
import Derived.Test.YtmjdnljneifpcaaGreatDoorBdd
import Derived.Test.YtmjdnljneifpcaaGreatDoorBdc
set_option linter.unusedVariables false
set_option linter.unusedSimpArgs false
namespace Go.Proofs.YtmjdnljneifpcaaGreatDoor
def VN (w k:Nat):List Nat:=(List.range k).filter fun i=>w.testBit i
theorem EJ (w k:Nat):VN w (k+1)=VN w k++if w.testBit k then [k] else []:=by
 unfold VN;rw[List.range_succ,List.filter_append];congr 1;by_cases h:w.testBit k <;> simp[h]
theorem HB {w k:Nat}:∀ {t:Nat},k≤t→(∀ i,k≤i→i < t→w.testBit i=false)→VN w t=VN w k
 | 0,h,_=>by rw[show k=0 by omega]
 | t+1,h,hh=>by
  by_cases hk:k=t+1
  ·rw[hk]
  ·rw[EJ,hh t (by omega) (by omega),HB (t:=t) (by omega) (fun i h1 h2=>hh i h1 (by omega))];simp
theorem AB (w k:Nat):(VN w k).length≤k:=by
 have:=List.length_filter_le (fun i=>w.testBit i) (List.range k);simpa [VN] using this
theorem Ss {x t:Nat} (ht:x.testBit t=true) (hl:∀ i,i < t→x.testBit i=false):x=2 ^ (t+1)*(x / 2 ^ (t+1))+2 ^ t:=by
 have e:x % 2 ^ (t+1)=2 ^ t:=by
  apply Nat.eq_of_testBit_eq;intro j;rw[Nat.testBit_mod_two_pow,Nat.testBit_two_pow];by_cases h1:j < t
  ·rw[hl j h1];simp;omega
  ·by_cases h2:j=t
   ·subst h2;simp[ht]
   ·have:¬ j < t+1:=by omega
    simp[this];omega
 have:=Nat.div_add_mod x (2 ^ (t+1));omega
theorem Su {x t:Nat} (ht:x.testBit t=true) (hl:∀ i,i < t→x.testBit i=false) (j:Nat):(x &&& (x - 1)).testBit j=(x.testBit j && decide (j≠t)):=by
 have e:=Ss ht hl;have hp:0 < 2 ^ t:=Nat.two_pow_pos t;have hlt:2 ^ t - 1 < 2 ^ (t+1):=by rw[Nat.pow_succ];omega
 have e1:x - 1=2 ^ (t+1)*(x / 2 ^ (t+1))+(2 ^ t - 1):=by omega
 rw[Nat.testBit_and,e1,Nat.testBit_two_pow_mul_add _ hlt,Nat.testBit_two_pow_sub_one];by_cases h1:j < t
 ·rw[hl j h1];simp
 ·by_cases h2:j=t
  ·subst h2;simp
  ·rw[if_neg (by omega),Nat.testBit_div_two_pow,show j - (t+1)+(t+1)=j by omega];simp[h2]
def Uk (l:List Nat) (size:Nat):Prop:=(∀ p∈l,p < size)∧l.Pairwise (· < ·)
instance (l:List Nat) (size:Nat):Decidable (Uk l size):=inferInstanceAs (Decidable (_∧_))
theorem M7 {l:List Nat} {x:Nat} (h:l.Pairwise (· < ·)) (hx:∀ y,l.getLast? = some y→y < x):(l++[x]).Pairwise (· < ·):=by
 rw[List.pairwise_append];refine⟨h,by simp,fun a ha b hb=>?_⟩;simp at hb;subst hb
 obtain⟨y,hy⟩:∃ y,l.getLast? = some y:=by
  cases l with
  | nil=>cases ha
  | cons c l=>exact⟨_,List.getLast?_eq_some_getLast (by simp)⟩
 have h1:=hx y hy
 have h2:a≤y:=by
  obtain⟨l',rfl⟩:=List.getLast?_eq_some_iff.1 hy;rw[List.pairwise_append] at h;simp at ha
  rcases ha with ha|rfl
  ·exact Nat.le_of_lt (h.2.2 a ha y (by simp))
  ·exact Nat.le_refl _
 omega
structure QJ where
 fixed:Nat
 refs:List Nat
 record:Nat
 recs:List Nat
def VO (l:QJ):Prop:=l.fixed≤64∧l.record≤64∧l.fixed+l.record≠0∧Uk l.refs l.fixed∧Uk l.recs l.record
instance (l:QJ):Decidable (VO l):=inferInstanceAs (Decidable (_∧_))
def V6 (l:QJ) (count:Int):Nat×Nat:=
 if count < 0∨count > 1024∨(count > 0∧l.record=0) then (0,3)
 else if l.fixed+count.toNat*l.record≥8192 then (0,10) else (l.fixed+count.toNat*l.record,0)
def VV (l:QJ) (p:Nat):Bool:=if p < l.fixed then decide (p∈l.refs) else decide ((p - l.fixed) % l.record∈l.recs)
def RX (a b c:Nat):QJ:=⟨a % 256,VN b 64,a / 256,VN c 64⟩
def ZV (ws:List Nat):Option QJ:=
 match ws with
 | [a,b,c]=>if a < 65536∧VO (RX a b c) then some (RX a b c) else none
 | _=>none
theorem Sv {ws:List Nat} {l:QJ} (h:ZV ws=some l):VO l:=by
 unfold ZV at h;split at h
 ·split at h
  ·rename_i h1;cases h;exact h1.2
  ·cases h
 ·cases h
theorem HC {l:QJ} {c:Int} {n:Nat} (h:V6 l c=(n,0)):0≤c∧c≤1024∧n=l.fixed+c.toNat*l.record∧n < 8192∧(c > 0→l.record≠0):=by
 unfold V6 at h;split at h
 ·cases h
 ·split at h
  ·cases h
  ·rename_i h1 h2;injection h with h3 h4
   omega
end Go.Proofs.YtmjdnljneifpcaaGreatDoor
set_option linter.unusedSectionVars false
namespace Go.Proofs.YtmjdnljneifpcaaGreatDoor
open Go.SL
theorem M8 [Q4] (v:Value) (l:List Nat) (size:Nat) (hl:l.length≤1000000) {w:World} {fr:List Q2} (hr:Vm fr v l.length 1 (QK l)) (H:Q0 w fr) :
  Calls Tryz.prog 220 #[v,.int .i64 size] w (ret fun x w'=>(∃ b,x = .bool b∧(b=true↔Uk l size))∧Q0 w' fr):=by
 obtain⟨_,ad,cap,rfl,hr⟩:=hr;refine QQ Tryz.func220 rfl (by kernel_rfl) ?_;refine Wn H ?_;refine Qj (fun ms σ w q=>ms=[]∧∃ i:Nat,i≤l.length∧q=l.length - i∧Uk (l.take i) size∧σ 0 = .slice ad l.length cap∧σ 1 = .int .i64 size∧σ 7 = .slice ad l.length cap∧σ 8 = .int .i64 l.length∧σ 9 = .int .i64 i∧Q0 w fr) (m:=l.length) ⟨rfl,0,by omega,rfl,⟨by simp,by simp⟩,rfl,rfl,rfl,rfl,rfl,H⟩ ?_;clear H;rintro ms σ w q ⟨rfl,i,hi,rfl,hR,g0,g1,g7,g8,g9,H⟩;rw[Q1 g0,Q1 g1,Q1 g7,Q1 g8,Q1 g9];refine J7 H ?_;refine Qf rfl (fun h=>QW ?_) (fun h=>Qp ?_)
 ·have hlt:i < l.length:=by omega
  have hx:=List.getElem?_eq_getElem hlt;have htk:l.take (i+1)=l.take i++[l[i]]:=by rw[List.take_add_one,hx];rfl
  have hmem:l[i]∈l:=List.getElem_mem hlt;generalize l[i]=x at hx htk hmem
  rcases hr with hr|⟨b,o,E,fz,c,rfl,hA,hrd⟩
  ·omega
  haveI:=hA
  have hcell:c[o+i*1]? = some (.int .i64 x):=by
   rw[Nat.mul_one];exact hrd.get i _ (by simp[QK,hx])
  refine BV H ?_;refine Jd ?_;refine Q5 rfl (QA H rfl hcell rfl ?_);refine J2 H ?_;refine Vh H ?_;rw[show decide ((x:Int) < 0)=false from decide_eq_false (by omega)];refine UG H ?_;refine Jv ?_;by_cases hxs:x < size
  ·rw[show decide ((x:Int)≥(size:Int))=false from decide_eq_false (by omega)];refine XP H ?_;by_cases hi0:0 < i
   ·rw[show decide ((i:Int) > 0)=true from decide_eq_true (by omega)];refine Zg H ?_;refine UG H ?_;rw[QT (x:=(i:Int) - 1) (by omega) (by omega),show (i:Int) - 1=((i - 1:Nat):Int) by omega];have hy:=List.getElem?_eq_getElem (l:=l) (i:=i - 1) (by omega)
    have hlast:(l.take i).getLast? = some l[i - 1]:=by
     rw[List.getLast?_eq_getElem?,List.length_take,Nat.min_eq_left hi,List.getElem?_take_of_lt (by omega),hy]
    have hpw:l.Pairwise (· < ·)→l[i - 1] < x:=fun hp=>by
     have:=List.pairwise_iff_getElem.1 hp (i - 1) i (by omega) hlt (by omega)
     have e:l[i]=x:=by
      have:=List.getElem?_eq_getElem hlt;rw[hx] at this;exact(Option.some.inj this).symm
     omega
    generalize l[i - 1]'(by omega)=y at hy hlast hpw
    have hcell2:c[o+(i - 1)*1]? = some (.int .i64 y):=by
     rw[Nat.mul_one];exact hrd.get (i - 1) _ (by simp[QK,hy])
    refine Qe rfl rfl rfl (Gs rfl rfl (by omega) (by omega) rfl ?_);refine Qe rfl rfl rfl (QA H rfl hcell2 rfl ?_);refine Zg H ?_;refine Y1 H ?_;refine Qf rfl (fun h=>?_) (fun h=>QW ?_)
    ·refine VC H ?_
     exact Q3 (Jy H rfl fun w' H'=>⟨⟨false,rfl,by
      constructor
      ·intro h';cases h'
      ·rintro⟨_,h2⟩;have:=hpw h2;omega⟩,H'⟩)
    ·refine J4 H ?_;refine⟨_,⟨rfl,i+1,hlt,rfl,?_,rfl,rfl,rfl,rfl,Qb (by omega),H⟩,by omega⟩;rw[htk];refine⟨fun p hp=>?_,M7 hR.2 fun z hz=>?_⟩
     ·simp at hp
      rcases hp with hp|rfl
      ·exact hR.1 p hp
      ·exact hxs
     ·rw[hlast] at hz;cases hz;omega
   ·have hi00:i=0:=by omega
    subst hi00;rw[show decide (((0:Nat):Int) > 0)=false from rfl];refine Yp H ?_;refine BH H ?_;refine Yp H ?_;refine KV H ?_;refine⟨_,⟨rfl,1,hlt,rfl,?_,rfl,rfl,rfl,rfl,Qb (i:=0) (by omega),H⟩,by omega⟩;rw[htk];exact⟨by simpa using hxs,by simp⟩
  ·rw[show decide ((x:Int)≥(size:Int))=true from decide_eq_true (by omega)];refine DD H ?_;refine Kv H ?_;refine Kv H ?_;refine DE H ?_;refine UU H ?_
   exact Q3 (Jy H rfl fun w' H'=>⟨⟨false,rfl,by
    constructor
    ·intro h';cases h'
    ·rintro⟨h1,_⟩;have:=h1 x hmem;omega⟩,H'⟩)
 ·have hge:i=l.length:=by omega
  subst hge;rw[List.take_length] at hR;refine VC H ?_;exact Q3 (Jy H rfl fun w' H'=>⟨⟨true,rfl,by simp[hR]⟩,H'⟩)
@[reducible] def Yr (f:Nat) (vr:Value) (r:Nat) (vq:Value):Value := .agg #[.int .i64 f,vr,.int .i64 r,vq]
structure UA (fr:List Q2) (vr vq:Value) (l:QJ):Prop where
 r:Vm fr vr l.refs.length 1 (QK l.refs)
 q:Vm fr vq l.recs.length 1 (QK l.recs)
theorem UA.there {A:Q2} {fr:List Q2} {vr vq:Value} {l:QJ} (h:UA fr vr vq l):UA (A::fr) vr vq l:=⟨h.r.there,h.q.there⟩
structure EL (l:QJ):Prop where
 f:l.fixed≤1000000
 r:l.record≤1000000
 a:l.refs.length≤1000000
 b:l.recs.length≤1000000
theorem HD [Q4] (vr vq:Value) (l:QJ) (hs:EL l) {w:World} {fr:List Q2} (hr:UA fr vr vq l) (H:Q0 w fr) :
  Calls Tryz.prog 148 #[Yr l.fixed vr l.record vq] w (ret fun x w'=>(∃ b,x = .bool b∧(b=true↔VO l))∧Q0 w' fr):=by
 obtain⟨s1,s2,s3,s4⟩:=hs;obtain⟨hr1,hr2⟩:=hr;obtain⟨_,ad1,cap1,rfl,hr1'⟩:=id hr1;obtain⟨_,ad2,cap2,rfl,hr2'⟩:=id hr2;refine QQ Tryz.func148 rfl (by kernel_rfl) ?_;refine J6 H ?_;clear H;intro b1 w H;refine Y1 H ?_;refine Vy (fun ms σ w=>ms=[]∧(l.fixed≤64∧l.record≤64∧l.fixed+l.record≠0)∧σ 1=pp b1∧Q0 w (pts b1 (row 102 [.int .i64 l.fixed,.slice ad1 l.refs.length cap1,.int .i64 l.record,.slice ad2 l.recs.length cap2])::fr)) ?_ ?_
 ·refine QS ?_;refine Kr H ?_;rw[show decide ((l.fixed:Int) < 0)=false from decide_eq_false (by omega)];refine Wm H ?_;by_cases h1:l.fixed≤64
  ·rw[show decide ((l.fixed:Int) > 64)=false from decide_eq_false (by omega)];refine K3 H ?_;refine Kr H ?_;rw[show decide ((l.record:Int) < 0)=false from decide_eq_false (by omega)];refine Wm H ?_;by_cases h2:l.record≤64
   ·rw[show decide ((l.record:Int) > 64)=false from decide_eq_false (by omega)];refine K3 H ?_;refine BI H ?_;refine Wy H ?_;rw[QT (x:=(l.fixed:Int)+(l.record:Int)) (by omega) (by omega)];by_cases h3:l.fixed+l.record=0
    ·rw[show (((l.fixed:Int)+(l.record:Int)) == 0)=true by simp;omega];refine YG H ?_;exact Q3 (.inr ⟨by simp,Jy H.drop rfl fun w' H'=>⟨⟨false,rfl,⟨fun h=>(by cases h),fun h=>by unfold VO at h;omega⟩⟩,H'⟩⟩)
    ·rw[show (((l.fixed:Int)+(l.record:Int)) == 0)=false by simp;omega];refine V5 H ?_;exact .inl ⟨rfl,rfl,⟨h1,h2,h3⟩,rfl,H⟩
   ·rw[show decide ((l.record:Int) > 64)=true from decide_eq_true (by omega)];refine K2 H ?_;refine XT H ?_;refine YG H ?_;exact Q3 (.inr ⟨by simp,Jy H.drop rfl fun w' H'=>⟨⟨false,rfl,⟨fun h=>(by cases h),fun h=>by unfold VO at h;omega⟩⟩,H'⟩⟩)
  ·rw[show decide ((l.fixed:Int) > 64)=true from decide_eq_true (by omega)];refine K2 H ?_;refine XT H ?_;refine YG H ?_;exact Q3 (.inr ⟨by simp,Jy H.drop rfl fun w' H'=>⟨⟨false,rfl,⟨fun h=>(by cases h),fun h=>by unfold VO at h;omega⟩⟩,H'⟩⟩)
 ·clear H;rintro ms σ w ⟨rfl,⟨h1,h2,h3⟩,g1,H⟩;rw[Q1 g1];refine BI H ?_;refine Jc rfl rfl (M8 _ l.refs l.fixed s3 hr1.there H) ?_;clear H;rintro v w ⟨⟨b,rfl,hb⟩,H⟩;refine Jv ?_;cases b with
  | true=>
   refine Uf H ?_;refine Uf H ?_;refine Qe rfl rfl rfl (V2 (a:=[]) (b:=[]) rfl rfl (call (M8 _ l.recs l.record s4 hr2.there H) ?_));clear H;rintro v w ⟨⟨b,rfl,hb2⟩,H⟩;refine J2 H ?_;refine Q3 (Jy H.drop rfl fun w' H'=>⟨⟨b,rfl,?_⟩,H'⟩);rw[hb2];exact⟨fun h=>⟨h1,h2,h3,hb.1 rfl,h⟩,fun h=>h.2.2.2.2⟩
  | false=>
   refine Wz H ?_;refine Qu rfl rfl rfl ?_;refine J2 H ?_;refine Q3 (Jy H.drop rfl fun w' H'=>⟨⟨false,rfl,⟨fun h=>(by cases h),fun h=>?_⟩⟩,H'⟩);have:=hb.2 h.2.2.2.1;cases this
end Go.Proofs.YtmjdnljneifpcaaGreatDoor
namespace Go.Proofs.YtmjdnljneifpcaaGreatDoor
open Go.SL
theorem RK:∀ (l:List Nat) (lo size:Nat),(∀ p∈l,lo≤p∧p < size)→l.Pairwise (· < ·)→l.length≤size - lo
 | [],_,_,_,_=>Nat.zero_le _
 | a::l,lo,size,h,hp=>by
  rw[List.pairwise_cons] at hp;have h1:=RK l (a+1) size (fun p hx=>⟨hp.1 p hx,(h p (List.mem_cons_of_mem _ hx)).2⟩) hp.2;have h2:=h a (List.mem_cons_self ..);simp only[List.length_cons];omega
theorem Uk.len {l:List Nat} {n:Nat} (h:Uk l n):l.length≤n:=by
 have:=RK l 0 n (fun p hp=>⟨Nat.zero_le _,h.1 p hp⟩) h.2;omega
theorem VO.small {l:QJ} (h:VO l):EL l:=by
 obtain⟨h1,h2,_,h4,h5⟩:=h;have:=h4.len;have:=h5.len;exact⟨by omega,by omega,by omega,by omega⟩
def Xi:List Fl:=[(0,8),(8,8),(16,48)]
theorem Sw:RY Xi:=by
 refine⟨?_,?_⟩
 ·intro f hf;simp[Xi] at hf
  rcases hf with rfl|rfl|rfl <;> simp[RV]
 ·simp[Xi]
theorem Sx [Q4] {w:World} {fr:List Q2} (H:Q0 w fr):Calls Tryz.prog 146 #[] w (ret fun v w'=>Q0 w' (FL v Xi::fr)):=by
 refine QQ Tryz.func146 rfl (by kernel_rfl) ?_;refine D9 H ?_;refine Gv H ?_;refine BY H ?_;clear H;intro b4 w H;refine J0 H ?_;exact Q3 (Jy (Ue (len:=3) (by rfl) H) rfl fun w' H'=>H')
theorem Bu [Q4] (vr vq:Value) (l:QJ) (hR:VO l) (count:Int) {w:World} {fr:List Q2} (hr:UA fr vr vq l) (H:Q0 w fr) :
  Calls Tryz.prog 89 #[Yr l.fixed vr l.record vq,.int .i64 count] w (ret fun x w'=>x = .tuple #[.int .i64 ((V6 l count).1:Nat),.int .i64 ((V6 l count).2:Nat)]∧Q0 w' fr):=by
 have hf:=hR.1;have hc:=hR.2.1;obtain⟨_,ad1,cap1,rfl,hr1⟩:=id hr.r;obtain⟨_,ad2,cap2,rfl,hr2⟩:=id hr.q;refine QQ Tryz.func89 rfl (by kernel_rfl) ?_;refine J6 H ?_;clear H;intro b2 w H;refine K2 H ?_;refine Vy (fun ms σ w=>ms=[]∧(0≤count∧count≤1024∧(count > 0→l.record≠0))∧σ 1 = .int .i64 count∧σ 2=pp b2∧Q0 w (pts b2 (row 102 [.int .i64 l.fixed,.slice ad1 l.refs.length cap1,.int .i64 l.record,.slice ad2 l.recs.length cap2])::fr)) ?_ ?_
 ·refine QS ?_;refine GQ H ?_;refine Jc rfl rfl (HD _ _ l hR.small hr.there H) ?_;clear H;rintro v w ⟨⟨b,rfl,hb⟩,H⟩;obtain rfl:=hb.2 hR;refine K3 H ?_;refine Vh H ?_;by_cases c0:count < 0
  ·have hs:V6 l count=(0,3):=by unfold V6;rw[if_pos (by omega)]
   rw[show decide (count < 0)=true from decide_eq_true (by omega)];refine Kw H ?_;refine DF H ?_;refine DH H ?_;refine Yj H ?_;exact Q3 (.inr ⟨by simp,Jy H.drop rfl fun w' H'=>⟨by rw[hs];rfl,H'⟩⟩)
  ·rw[show decide (count < 0)=false from decide_eq_false (by omega)];refine Zg H ?_;by_cases c1:count > 1024
   ·have hs:V6 l count=(0,3):=by unfold V6;rw[if_pos (by omega)]
    rw[show decide (count > 1024)=true from decide_eq_true (by omega)];refine DF H ?_;refine DH H ?_;refine Yj H ?_;exact Q3 (.inr ⟨by simp,Jy H.drop rfl fun w' H'=>⟨by rw[hs];rfl,H'⟩⟩)
   ·rw[show decide (count > 1024)=false from decide_eq_false (by omega)];refine Jv ?_;refine Jv ?_;refine VB rfl rfl rfl rfl ?_;refine VB rfl rfl rfl rfl ?_;by_cases c2:count > 0
    ·rw[show decide (count > 0)=true from decide_eq_true (by omega)];refine DI H ?_;by_cases c3:l.record=0
     ·have hs:V6 l count=(0,3):=by unfold V6;rw[if_pos (by omega)]
      rw[show ((l.record:Int) == 0)=true by simp;omega];refine XO H ?_;refine Yj H ?_;exact Q3 (.inr ⟨by simp,Jy H.drop rfl fun w' H'=>⟨by rw[hs];rfl,H'⟩⟩)
     ·rw[show ((l.record:Int) == 0)=false by simp;omega];refine XO H ?_;refine V5 H ?_;exact .inl ⟨rfl,rfl,⟨by omega,by omega,fun _=>c3⟩,rfl,rfl,H⟩
    ·rw[show decide (count > 0)=false from decide_eq_false (by omega)];refine Yp H ?_;refine Kx H ?_;refine XO H ?_;refine V5 H ?_;exact .inl ⟨rfl,rfl,⟨by omega,by omega,fun h=>absurd h c2⟩,rfl,rfl,H⟩
 ·clear H;rintro ms σ w ⟨rfl,⟨c0,c1,c2⟩,g1,g2,H⟩;rw[Q1 g1,Q1 g2];obtain⟨c,rfl⟩:∃ c:Nat,count=c:=⟨count.toNat,by omega⟩;have hcm:c*l.record≤1024*64:=Nat.mul_le_mul (by omega) hc;have hcm2:(c:Int)*(l.record:Int)=((c*l.record:Nat):Int):=(Int.natCast_mul _ _).symm;refine Kr H ?_;refine DJ H ?_;refine YD H ?_;rw[hcm2,QT (x:=((c*l.record:Nat):Int)) (by omega) (by omega),QT (x:=(l.fixed:Int)+((c*l.record:Nat):Int)) (by omega) (by omega)];by_cases c3:l.fixed+c*l.record≥8192
  ·have hs:V6 l (c:Int)=(0,10):=by unfold V6;rw[if_neg (by omega),if_pos (by simpa using c3)]
   rw[show decide ((l.fixed:Int)+((c*l.record:Nat):Int)≥8192)=true from decide_eq_true (by omega)];refine Yj H ?_;exact Q3 (Jy H.drop rfl fun w' H'=>⟨by rw[hs];rfl,H'⟩)
  ·have hs:V6 l (c:Int)=(l.fixed+c*l.record,0):=by unfold V6;rw[if_neg (by omega),if_neg (by simpa using c3)];simp
   rw[show decide ((l.fixed:Int)+((c*l.record:Nat):Int)≥8192)=false from decide_eq_false (by omega)];refine A0 H ?_;exact Q3 (Jy H.drop rfl fun w' H'=>⟨by rw[hs];show Value.tuple #[.int .i64 ((l.fixed:Int)+((c*l.record:Nat):Int)),_]=_;rw[← Int.natCast_add];rfl,H'⟩)
theorem Bv [Q4] (v:Value) (l:List Nat) (hl:l.length≤1000000) {w:World} {fr:List Q2} (hr:Vm fr v l.length 1 (QK l)) (H:Q0 w fr) :
  Calls Tryz.prog 118 #[v] w (ret fun x w'=>Q0 w' (NL x l::fr)):=by
 obtain⟨hr1,ad,cap,rfl,hr'⟩:=id hr;refine QQ Tryz.func118 rfl (by kernel_rfl) ?_;refine Ky H ?_;refine Q5 rfl (Pj rfl rfl (.inl rfl) rfl ?_);refine Q6 ?_;cases ad with
 | none=>
  have h0:l.length=0:=by
   rcases hr' with h|⟨b,o,E,fz,c,h,_⟩
   ·exact h
   ·cases h
  have hn:l=[]:=List.eq_nil_of_length_eq_zero h0;subst hn;refine YG H ?_;exact Q3 (Jy (Yu H) rfl fun w' H'=>H')
 | some ad=>
  refine V5 H ?_;refine GZ H ?_;refine Q5 rfl (Po H rfl ?_);clear H;intro b5 w H;refine Jv ?_;refine Q5 rfl (Fc H rfl rfl hr (by simp[QK,List.all_eq_true,Value.oneCell']) (by rw[QF];simp only[List.length_nil];omega) rfl rfl ?_);clear H;intro v7 w H;refine UX H ?_;exact Q3 (Jy H rfl fun w' H'=>H')
theorem M9 [Q4] (vr vq:Value) (l:QJ) (hs:EL l) {w:World} {fr:List Q2} (hr:UA fr vr vq l) (H:Q0 w fr) :
  Calls Tryz.prog 149 #[Yr l.fixed vr l.record vq] w (ret fun x w'=>∃ vr' vq',x=Yr l.fixed vr' l.record vq'∧Q0 w' (NL vr' l.refs::NL vq' l.recs::fr)):=by
 obtain⟨_,ad1,cap1,rfl,hr1⟩:=id hr.r;obtain⟨_,ad2,cap2,rfl,hr2⟩:=id hr.q;refine QQ Tryz.func149 rfl (by kernel_rfl) ?_;refine J6 H ?_;clear H;intro b1 w H;refine VZ H ?_;clear H;intro b2 w H;refine Q6 ?_;refine J1 H ?_;clear H;intro w H;refine Jf 0 ?_;refine Jl 1 [2,5,7,9] H ?_;refine Jf 3 ?_;refine Jl 4 [5,7,9] H ?_;refine Jo 2 H ?_;refine Jk rfl rfl (Bv _ l.refs hs.a hr.r.there.there H) ?_;clear H;rintro v5 w H;obtain⟨a5,m5,c5,rfl⟩:=Qq H;refine Jf 6 ?_;refine Jo 5 H ?_;refine Jk rfl rfl (Bv _ l.recs hs.b hr.q.there.there.there H) ?_;clear H;rintro v8 w H;obtain⟨a8,m8,c8,rfl⟩:=Qq H
 refine Jo 7 H ?_;refine Uh H ?_;clear H;intro w H;refine Jf 8 ?_;refine Jo 9 H ?_;refine Uh H ?_;clear H;intro w H;refine Jx H ?_;refine K5 H ?_;clear H;intro w H;refine Q6 ?_;replace H:=Js [2,1,0] 1 H;exact Q3 (Jz H (fun w' H' => .cellN H' rfl (by repeat first|exact .nil _|apply QY.cons rfl) .nil) fun w' H'=>⟨_,_,rfl,H'.drop⟩)
theorem Bw [Q4] (x:Nat) (hx:x < 18446744073709551616) {w:World} {fr:List Q2} [hT:YN 0 Lib.deBruijn64tab fr] (H:Q0 w fr) :
  Calls Tryz.prog 147 #[.int .u64 x] w (ret fun v w'=>Q0 w' (NL v (VN x 64)::fr)):=by
 refine QQ Tryz.func147 rfl (by kernel_rfl) ?_;refine Fm H ?_;refine Qj (fun ms σ w n=>ms=[]∧∃ (k y:Nat) (g:Value),k≤64∧n=64 - k∧y < 18446744073709551616∧(∀ i,y.testBit i=(x.testBit i && decide (k≤i)))∧σ 0 = .int .u64 y∧σ 3=g∧Q0 w (NL g (VN x k)::fr)) (m:=64) ⟨rfl,0,x,_,by omega,rfl,hx,fun i=>by simp,rfl,rfl,Yu H⟩ ?_;clear H;rintro ms σ w n ⟨rfl,k,y,g,hk,rfl,hy,hbit,g0,g3,H⟩;obtain⟨ag,mg,cg,rfl⟩:=Qq H;rw[Q1 g0,Q1 g3];refine J4 H ?_;by_cases h0:y=0
 ·rw[show ((y:Int) != 0)=false by simp;exact h0];refine J8 H ?_;refine KQ H ?_
  have he:VN x 64=VN x k:=HB (by omega) (fun i h1 h2=>by
   have:=hbit i;rw[h0,Nat.zero_testBit] at this;simpa [h1] using this.symm)
  rw[← he] at H;refine J4 H ?_;exact Q3 (Jy H rfl fun w' H'=>H')
 ·rw[show ((y:Int) != 0)=true by simp;exact h0];refine J8 H ?_;refine XT H ?_;obtain⟨ht1,ht2,ht3⟩:=HU h0 hy;refine K9 H ?_;refine Jc rfl rfl (HX y hy H) ?_;clear H;rintro v w ⟨rfl,H⟩;refine GG H ?_;clear H;intro b13 w H;generalize Lib.ctz 64 y=t at ht1 ht2 ht3 H;replace H:=Js [1,0] 0 H;refine Q5 rfl (YC H rfl rfl (by repeat first|exact .nil _|apply QY.cons rfl) rfl (by decide) (by rw[QF];have:=AB x k;simp only[List.length_cons,List.length_nil];omega) rfl rfl ?_);clear H;intro v14 w H;obtain⟨a14,m14,c14,rfl⟩:=Qq H;refine J0 H ?_;have hb:=hbit t;rw[ht2] at hb;have hb1:x.testBit t=true∧k≤t:=by simpa using hb.symm
  have hcl:=Su ht2 ht3;have hyl:y &&& (y - 1) < 18446744073709551616:=Nat.lt_of_le_of_lt Nat.and_le_left hy;refine K8 H ?_
  have e1:IntKind.u64.wrap ((y:Int) - 1)=((y - 1:Nat):Int):=by
   rw[show (y:Int) - 1=((y - 1:Nat):Int) by omega,UY (by omega)]
  rw[e1,Cz hy (by omega)]
  have e2:VN x (t+1)=VN x k++[t]:=by
   rw[EJ,hb1.1,if_pos rfl,HB hb1.2 (fun i h1 h2=>?_)];have h3:=ht3 i h2;rw[hbit i] at h3;simpa [h1] using h3
  refine⟨_,⟨rfl,t+1,y &&& (y - 1),_,by omega,rfl,hyl,fun i=>?_,rfl,rfl,?_⟩,by omega⟩
  ·rw[hcl,hbit i];by_cases h1:i < t
   ·have h3:=ht3 i h1;rw[hbit i] at h3;rw[h3,show decide (t+1≤i)=false by simp;omega];simp
   ·by_cases h2:i=t
    ·subst h2;simp
    ·rw[show decide (t+1≤i)=true by simp;omega,show decide (k≤i)=true by simp;omega];simp[h2]
  ·rw[e2];show Q0 w (QC _ 1 _ (QK (VN x k++[t]))::_);rw[W9];exact Q0.drop H.swap
end Go.Proofs.YtmjdnljneifpcaaGreatDoor
namespace Go.Proofs.YtmjdnljneifpcaaGreatDoor
open Go.SL
theorem AC (x y z:Nat):ZV [x,y,z]=if x < 65536∧VO (RX x y z) then some (RX x y z) else none:=rfl
theorem Sy [Q4] (v:Value) (n:Nat) (hn:n≠3) (hv:∃ a c,v = .slice a n c) {w:World} {fr:List Q2} (H:Q0 w fr) :
  Calls Tryz.prog 86 #[v] w (ret fun x w'=>x = .tuple #[Yr 0 (.slice none 0 0) 0 (.slice none 0 0),.int .i64 4]∧Q0 w' fr):=by
 obtain⟨a,c,rfl⟩:=hv;refine QQ Tryz.func86 rfl (by kernel_rfl) ?_;refine YO H ?_;clear H;intro b2 w H;refine DL H ?_;rw[show ((n:Int) != 3)=true by simp;omega];refine BK H ?_;clear H;intro w H;refine J0 H ?_;exact Q3 (Jz H (fun w' H' => .cellN H' rfl (by repeat first|exact .nil _|apply QY.cons rfl) (.tmp .nil)) fun w' H'=>⟨rfl,H'.drop⟩)
theorem Sz [Q4] (v:Value) (x y z:Nat) (hx:x < 18446744073709551616) (hy:y < 18446744073709551616) (hz:z < 18446744073709551616) {w:World} {fr:List Q2} [hT:YN 0 Lib.deBruijn64tab fr] (hr:Vm fr v 3 1 (QP [x,y,z])) (H:Q0 w fr) :
  Calls Tryz.prog 86 #[v] w (ret fun r w'=>(ZV [x,y,z]=none∧r = .tuple #[Yr 0 (.slice none 0 0) 0 (.slice none 0 0),.int .i64 4]∧Q0 w' fr) ∨
   ∃ l vr vq,ZV [x,y,z]=some l∧r = .tuple #[Yr l.fixed vr l.record vq,.int .i64 0]∧Q0 w' (NL vr l.refs::NL vq l.recs::fr)):=by
 obtain⟨_,ad,cap,rfl,hr'⟩:=id hr
 rcases hr' with h|⟨b,o,E,fz,c,rfl,hA,hrd⟩
 ·omega
 haveI:=hA;have c0:c[o+0*1]? = some (.int .u64 x):=by have:=hrd.get 0 (.int .u64 x) (by simp[QP]);simpa using this
 have c1:c[o+1*1]? = some (.int .u64 y):=by have:=hrd.get 1 (.int .u64 y) (by simp[QP]);simpa using this
 have c2:c[o+2*1]? = some (.int .u64 z):=by have:=hrd.get 2 (.int .u64 z) (by simp[QP]);simpa using this
 refine QQ Tryz.func86 rfl (by kernel_rfl) ?_;refine YO H ?_;clear H;intro b2 w H;refine DV H ?_;refine Q5 rfl (ZO rfl rfl ?_);refine Y0 H ?_;refine J1 H ?_;clear H;intro w H;refine Ja 0 ?_;refine Ji 1 ?_;refine Vf 2 [4] H rfl (Q8.none rfl) rfl c0 (by kernel_rfl) ?_;refine Jo 3 H ?_;refine Jk rfl rfl (Sx H) ?_;clear H;rintro v w H;refine Jo 4 H ?_;refine Jk rfl rfl (Fx x hx _ Xi Sw (by decide) H) ?_;clear H;rintro v2 w ⟨u,rfl,H⟩;obtain⟨au,cu,rfl⟩:=QD H (m:=3) (by simp[QP,Xi]) (by decide);refine Ja 5 ?_;refine Xa H ?_;refine DM H ?_;obtain⟨bu,su,rfl,H,hclose⟩:=Qx H (by omega);have d0:(QP (Xi.map (Yq x))++su)[0+0*1]? = some (.int .u64 (Yq x (0,8))):=rfl;have d1:(QP (Xi.map (Yq x))++su)[0+1*1]? = some (.int .u64 (Yq x (8,8))):=rfl;have d2:(QP (Xi.map (Yq x))++su)[0+2*1]? = some (.int .u64 (Yq x (16,48))):=rfl
 have e8:IntKind.i64.wrap ((Yq x (0,8):Nat):Int)=((x % 256:Nat):Int):=by
  rw[K1 (by have:=Nat.mod_lt (x / 2 ^ 0) (show 0 < 2 ^ 8 by decide);show x / 2 ^ 0 % 2 ^ 8 < _;omega)];show ((x / 2 ^ 0 % 2 ^ 8:Nat):Int)=_;simp
 have e16:IntKind.i64.wrap ((Yq x (8,8):Nat):Int)=((x / 256 % 256:Nat):Int):=by
  rw[K1 (by have:=Nat.mod_lt (x / 2 ^ 8) (show 0 < 2 ^ 8 by decide);show x / 2 ^ 8 % 2 ^ 8 < _;omega)];rfl
 refine J8 H ?_
 refine Vy (fun ms σ w=>ms=[]∧∃ b6 va vb,σ 2=pp b2∧σ 4 = .slice (some ⟨bu,0,none⟩) 3 cu∧σ 6=pp b6 ∧
  Q0 w (pts b6 (row 102 [.int .i64 ((x % 256:Nat):Int),va,.int .i64 ((x / 256 % 256:Nat):Int),vb])::NL va (VN y 64)::NL vb (VN z 64)::pts bu (row 83 (QP (Xi.map (Yq x))++su))::pts b2 (row 102 [.int .i64 0,.slice none 0 0,.int .i64 0,.slice none 0 0])::fr)) ?_ ?_
 ·replace H:=Js [0,1] 1 H;refine J1 H ?_;clear H;intro w H;refine Ja 0 ?_;refine Ji 1 ?_;refine Vf 2 [18] H rfl (Q8.none rfl) rfl d0 (by kernel_rfl) ?_;refine DQ H ?_;refine Ja 4 ?_;refine Ji 5 ?_;refine Vf 6 [7] H rfl (Q8.none rfl) rfl c1 (by kernel_rfl) ?_;refine Ja 8 ?_;refine Ji 9 ?_;refine Vf 10 [18] H rfl (Q8.none rfl) rfl d1 (by kernel_rfl) ?_;refine Gt 11 rfl (Q8.none rfl) rfl (by kernel_rfl) ?_;refine Ja 12 ?_;refine Ji 13 ?_;refine Vf 14 [15] H rfl (Q8.none rfl) rfl c2 (by kernel_rfl) ?_;rw[e8,e16];refine Jw 7 17 H rfl rfl (V2 (a:=[]) (b:=[]) rfl rfl (call (Bw y hy H) ?_)) (Vu H rfl ?_)
  ·clear H;intro va w H;obtain⟨aa,ma,ca,rfl⟩:=Qq H;refine Jw 15 17 H rfl rfl (V2 (a:=[]) (b:=[]) rfl rfl (call (Bw z hz H) ?_)) (Vu H rfl ?_)
   ·clear H;intro vb w H;obtain⟨ab,mb,cb,rfl⟩:=Qq H;refine G9 16 rfl (Q8.none rfl) rfl (by kernel_rfl) ?_;refine Jo 17 H ?_;refine Vu H rfl ?_;clear H;intro b6 w H;refine Jo 18 H ?_;refine Gx H ?_;clear H;intro w H;refine Jx H ?_;replace H:=Js [0,1,0,0,0] 0 H;exact .inl ⟨rfl,rfl,b6,_,_,rfl,rfl,rfl,H⟩
   ·clear H;intro b6 w H;refine Jo 15 H ?_;refine Jk rfl rfl (Bw z hz H) ?_;clear H;intro vb w H;obtain⟨ab,mb,cb,rfl⟩:=Qq H;refine G9 16 rfl (Q8.none rfl) rfl (by kernel_rfl) ?_;refine Jo 18 H ?_;refine Gx H ?_;clear H;intro w H;refine Jx H ?_;replace H:=Js [1,1,0,0,0] 0 H;exact .inl ⟨rfl,rfl,b6,_,_,rfl,rfl,rfl,H⟩
  ·clear H;intro b6 w H;refine Jo 7 H ?_;refine Jk rfl rfl (Bw y hy H) ?_;clear H;intro va w H;obtain⟨aa,ma,ca,rfl⟩:=Qq H;refine Jo 15 H ?_;refine Jk rfl rfl (Bw z hz H) ?_;clear H;intro vb w H;obtain⟨ab,mb,cb,rfl⟩:=Qq H;refine G9 16 rfl (Q8.none rfl) rfl (by kernel_rfl) ?_;refine Jo 18 H ?_;refine Gx H ?_;clear H;intro w H;refine Jx H ?_;replace H:=Js [2,1,0,0,0] 0 H;exact .inl ⟨rfl,rfl,b6,_,_,rfl,rfl,rfl,H⟩
 ·clear H;rintro ms σ w ⟨rfl,b6,va,vb,g2,g4,g6,H⟩;rw[Q1 g2,Q1 g4,Q1 g6];have hla:=AB y 64;have hlb:=AB z 64;obtain⟨aa,ca,rfl⟩:=QD (H.drop) (QF (VN y 64)) (by decide);obtain⟨ab,cb,rfl⟩:=QD (H.drop.drop) (QF (VN z 64)) (by decide);refine YZ H ?_;refine Jd ?_;refine Q5 rfl (QA H rfl d2 rfl ?_);refine Jv ?_
  have hn:Yq x (16,48)=x / 65536:=by
   show x / 2 ^ 16 % 2 ^ 48=_;rw[Nat.mod_eq_of_lt (by omega)]
  rw[hn];by_cases hb:x < 65536
  ·rw[show (((x / 65536:Nat):Int) != 0)=false by simp;omega];refine Jv ?_;refine Rs H ?_;have h8:x / 256 % 256=x / 256:=Nat.mod_eq_of_lt (by omega);rw[h8] at H ⊢;replace H:=Js [1,1,0,0,0] 0 H;obtain⟨D1,H,hD1,hC1⟩:=sls_rd H (QF (VN y 64)) (by decide);obtain⟨D2,H,hD2,hC2⟩:=sls_rd H.swap (QF (VN z 64)) (by decide);refine Qe rfl rfl rfl (V2 (a:=[]) (b:=[]) rfl rfl (call (HD _ _ (RX x y z) ⟨by show x % 256≤_;omega,by show x / 256≤_;omega,by show (VN y 64).length≤_;omega,by show (VN z 64).length≤_;omega⟩ ⟨(hD1 _).there,hD2 _⟩ H) ?_));clear H;rintro v w ⟨⟨q,rfl,hq⟩,H⟩;have H:=(hC1 _ _ (hC2 _ _ H).swap);cases q with
   | true=>
    refine Wo H ?_;refine K5 H ?_;clear H;intro w H;refine J0 H ?_;replace H:=Js [4,0,0] 2 H;refine Q3 (Jz H (fun w' H' => .cellN H' rfl (by repeat first|exact .nil _|apply QY.cons rfl) (.tmp .nil)) fun w' H' => .inr ⟨RX x y z,_,_,?_,rfl,H'.drop⟩);rw[AC];rw[if_pos ⟨hb,hq.1 rfl⟩]
   | false=>
    refine Yp H ?_;refine A1 H ?_;clear H;intro w H;refine J0 H ?_;replace H:=Js [4] 4 H;refine Q3 (Jz H (fun w' H' => .cellN H' rfl (by repeat first|exact .nil _|apply QY.cons rfl) (.tmp .nil)) fun w' H' => .inl ⟨?_,rfl,H'.drop⟩);rw[AC];rw[if_neg];rintro⟨_,h2⟩;have:=hq.2 h2;cases this
  ·rw[show (((x / 65536:Nat):Int) != 0)=true by simp;omega];refine DD H ?_;refine A1 H ?_;clear H;intro w H;refine J0 H ?_;replace H:=Js [4] 4 H;refine Q3 (Jz H (fun w' H' => .cellN H' rfl (by repeat first|exact .nil _|apply QY.cons rfl) (.tmp .nil)) fun w' H' => .inl ⟨?_,rfl,H'.drop⟩);rw[AC];rw[if_neg];rintro⟨h1,_⟩;exact hb h1
end Go.Proofs.YtmjdnljneifpcaaGreatDoor
namespace Go.Proofs.YtmjdnljneifpcaaGreatDoor
open Go.SL
abbrev Yx:=Value×Value×QJ
@[reducible] def Y8 (x:Yx):Q2:=star [NL x.1 x.2.2.refs,NL x.2.1 x.2.2.recs]
@[reducible] def EM (x:Yx):List Value:=[.int .i64 x.2.2.fixed,x.1,.int .i64 x.2.2.record,x.2.1]
def VE (l:List Yx):List Value:=l.flatMap EM
theorem RR (l:List Yx):(VE l).length=l.length*4:=by
 induction l with
 | nil=>rfl
 | cons x l ih=>simp only[VE,List.flatMap_cons,List.length_append,List.length_cons,List.length_nil] at *;omega
theorem MV (a b:List Yx):VE (a++b)=VE a++VE b:=by simp[VE]
theorem MY:∀ {L:List Yx} {i:Nat} {x:Yx},L[i]? = some x→(VE L)[i*4]? = some (.int .i64 x.2.2.fixed)∧(VE L)[i*4+1]? = some x.1∧(VE L)[i*4+2]? = some (.int .i64 x.2.2.record)∧(VE L)[i*4+3]? = some x.2.1
 | y::L,0,x,h=>by
  simp at h;subst h;simp[VE]
 | y::L,i+1,x,h=>by
  have:=MY (L:=L) (i:=i) (by simpa using h);have e:VE (y::L)=EM y++VE L:=by simp[VE]
  rw[e];rw[show (i+1)*4=i*4+4 by omega];simpa [EM] using this
theorem HE {L:List Yx} {spare:List Value} {i:Nat} {x:Yx} (h:L[i]? = some x):QY (VE L++spare) (0+i*4) 4 (EM x):=by
 obtain⟨h0,h1,h2,h3⟩:=MY h;have hl:=(List.getElem?_eq_some_iff.1 h3).1;rw[Nat.zero_add];refine QY.cons ?_ (QY.cons ?_ (QY.cons ?_ (QY.cons ?_ (QY.nil _))))
 all_goals rw[List.getElem?_append_left (by omega)]
 ·exact h0
 ·exact h1
 ·exact h2
 ·exact h3
def Ql (p:Nat) (ls:List QJ):Q2:=ex fun q:Value×List Yx=>star [prop (q.2.map (·.2.2)=ls∧ls.length≤64∧∀ x∈ls,VO x),pts p (row 242 [q.1]),QC 102 4 q.1 (VE q.2),star (q.2.map Y8)]
theorem HF [Q4] {w:World} {p:Nat} {ls:List QJ} {l:List Q2} (H:Q0 w (Ql p ls::l)):∃ v q,(q.map (·.2.2)=ls∧ls.length≤64∧∀ x∈ls,VO x)∧Q0 w (pts p (row 242 [v])::QC 102 4 v (VE q)::star (q.map Y8)::l):=by
 obtain⟨⟨v,q⟩,H⟩:=Q0.ex.1 H;have H:=Q0.star.1 H;obtain⟨h,H⟩:=Q0.prop.1 H;exact⟨v,q,h,H⟩
theorem AD [Q4] {w:World} {p:Nat} {ls:List QJ} {l:List Q2} {v:Value} {q:List Yx} (h:q.map (·.2.2)=ls∧ls.length≤64∧∀ x∈ls,VO x) (H:Q0 w (pts p (row 242 [v])::QC 102 4 v (VE q)::star (q.map Y8)::l)):Q0 w (Ql p ls::l):=
 Q0.ex.2 ⟨(v,q),Q0.star.2 (Q0.prop.2 ⟨h,H⟩)⟩
theorem T0 [Q4] {w:World} {fr:List Q2} (H:Q0 w fr):Calls Tryz.prog 82 #[] w (ret fun v w'=>∃ p,v=pp p∧Q0 w' (Ql p []::fr)):=by
 refine QQ Tryz.func82 rfl (by kernel_rfl) ?_;refine D9 H ?_;refine Uy H ?_;clear H;intro b2 w H;refine J0 H ?_;have H:Q0 w (star (([]:List Yx).map Y8)::pts b2 (row 242 [.slice none 0 0])::fr):=Q0.star.2 H;have H:=Yu (E:=102) (k:=4) H;replace H:=Js [2,0,0] 0 H;exact Q3 (Jy (AD (q:=[]) ⟨rfl,by simp,by simp⟩ H) rfl fun w' H'=>⟨_,rfl,H'⟩)
theorem T3 [Q4] (p:Nat) (ls:List QJ) (vr vq:Value) (l:QJ) (hR:VO l) {w:World} {fr:List Q2} (hr:UA fr vr vq l) (H:Q0 w (Ql p ls::fr)) :
  Calls Tryz.prog 87 #[pp p,Yr l.fixed vr l.record vq] w (ret fun x w'=>(ls.length=64∧x = .tuple #[.int .i64 0,.int .i64 5]∧Q0 w' (Ql p ls::fr)) ∨
   (ls.length < 64∧x = .tuple #[.int .i64 ((ls.length+1:Nat):Int),.int .i64 0]∧Q0 w' (Ql p (ls++[l])::fr))):=by
 obtain⟨_,ad1,cap1,rfl,hr1⟩:=id hr.r;obtain⟨_,ad2,cap2,rfl,hr2⟩:=id hr.q;obtain⟨v,q,⟨hq,hlen,hall⟩,H⟩:=HF H;have hql:q.length=ls.length:=by rw[← hq,List.length_map]
 obtain⟨av,cv,rfl⟩:=QD H.drop (RR q) (by decide);refine QQ Tryz.func87 rfl (by kernel_rfl) ?_;refine J6 H ?_;clear H;intro b3 w H;refine K2 H ?_;refine Vy (fun ms σ w=>ms=[]∧ls.length < 64∧σ 0=pp p∧σ 3=pp b3∧Q0 w (pts b3 (row 102 [.int .i64 l.fixed,.slice ad1 l.refs.length cap1,.int .i64 l.record,.slice ad2 l.recs.length cap2])::pts p (row 242 [.slice av q.length cv])::QC 102 4 (.slice av q.length cv) (VE q)::star (q.map Y8)::fr)) ?_ ?_
 ·refine Ku H ?_;refine GQ H ?_;refine Jc rfl rfl (HD _ _ l hR.small hr.there.there.there.there H) ?_;clear H;rintro v w ⟨⟨b,rfl,hb⟩,H⟩;obtain rfl:=hb.2 hR;refine K3 H ?_;refine DN H ?_;refine J2 H ?_;by_cases h64:q.length=64
  ·rw[show ((q.length:Int) == 64)=true by simp;omega];refine Yj H ?_;exact Q3 (.inr ⟨by simp,Jy (AD ⟨hq,hlen,hall⟩ H.drop) rfl fun w' H' => .inl ⟨by omega,rfl,H'⟩⟩)
  ·rw[show ((q.length:Int) == 64)=false by simp;omega];refine V5 H ?_;exact .inl ⟨rfl,rfl,by omega,rfl,rfl,H⟩
 ·clear H;rintro ms σ w ⟨rfl,h64,g0,g3,H⟩;rw[Q1 g0,Q1 g3];refine J1 H ?_;clear H;intro w H;refine W3 H ?_;refine Jl 4 [8,11] H ?_;refine VM 5 [6,7,8,11] H rfl (Q8.none rfl) rfl (by repeat first|exact .nil _|apply QY.cons rfl) (by kernel_rfl) ?_;refine Jo 6 H ?_;refine Jk rfl rfl (M9 _ _ l hR.small hr.there.there.there.there H) ?_;clear H;rintro v w ⟨vr',vq',rfl,H⟩;obtain⟨a4,m4,c4,rfl⟩:=Qq H;obtain⟨a5,m5,c5,rfl⟩:=Qq H.swap
  refine Jo 7 H ?_;refine Rt H ?_;clear H;intro b27 w H;replace H:=Js [5,0,3,0,0,1] 1 H;refine Jo 8 H ?_;refine YC H rfl rfl (by repeat first|exact .nil _|apply QY.cons rfl) rfl (by decide) (by rw[RR];simp only[List.length_cons,List.length_nil];omega) rfl rfl ?_;clear H;intro v28 w H
  have e1:VE q++[.int .i64 l.fixed,.slice a4 m4 c4,.int .i64 l.record,.slice a5 m5 c5]=VE (q++[(.slice a4 m4 c4,.slice a5 m5 c5,l)]):=by
   rw[MV];rfl
  rw[e1] at H;have hql':(q++[((.slice a4 m4 c4:Value),(.slice a5 m5 c5:Value),l)]).length=ls.length+1:=by simp[hql]
  obtain⟨a28,c28,rfl⟩:=QD H (m:=ls.length+1) (by rw[RR,hql']) (by decide);refine Ja 9 ?_;refine Jf 10 ?_;refine Jo 11 H ?_;refine Uh H ?_;clear H;intro w H;refine Jx H ?_;refine DN H ?_;refine J2 H ?_;replace H:=Js [2,0,1,1,1] 1 H
  have H1:Q0 w (star ((q++[((.slice a4 m4 c4:Value),(.slice a5 m5 c5:Value),l)]).map Y8)::pts p (row 242 [.slice a28 (ls.length+1) c28])::QC 102 4 (.slice a28 (ls.length+1) c28) (VE (q++[(.slice a4 m4 c4,.slice a5 m5 c5,l)]))::fr):=by
   refine(Q0.pick (x:=((.slice a4 m4 c4:Value),(.slice a5 m5 c5:Value),l)) (g1:=q) (g2:=[]) rfl).2 ?_;rw[List.append_nil];refine Q0.star.2 ?_;replace H:=Js [2,2,2,0,0] 0 H;exact H
  replace H1:=Js [1,1,0] 0 H1
  have H2:=AD (ls:=ls++[l]) (q:=q++[((.slice a4 m4 c4:Value),(.slice a5 m5 c5:Value),l)]) ⟨by rw[List.map_append,hq];rfl,by simp;omega,fun x hx=>by
   rcases List.mem_append.1 hx with hx|hx
   ·exact hall x hx
   ·simp at hx;subst hx;exact hR⟩ H1
  exact Q3 (Jy H2 rfl fun w' H' => .inr ⟨h64,rfl,H'⟩)
theorem T4 [Q4] (p:Nat) (ls:List QJ) (id:Int) (hid:id < 1∨(ls.length:Int) < id) {w:World} {fr:List Q2} (H:Q0 w (Ql p ls::fr)) :
  Calls Tryz.prog 88 #[pp p,.int .i64 id] w (ret fun x w'=>x = .tuple #[Yr 0 (.slice none 0 0) 0 (.slice none 0 0),.int .i64 6]∧Q0 w' (Ql p ls::fr)):=by
 obtain⟨v,q,⟨hq,hlen,hall⟩,H⟩:=HF H;have hql:q.length=ls.length:=by rw[← hq,List.length_map]
 obtain⟨av,cv,rfl⟩:=QD H.drop (RR q) (by decide);refine QQ Tryz.func88 rfl (by kernel_rfl) ?_;refine YO H ?_;clear H;intro b4 w H;refine Y1 H ?_;refine DO H ?_;by_cases h1:id < 1
 ·rw[show decide (id < 1)=true from decide_eq_true (by omega)];refine BJ H ?_;refine DP H ?_;clear H;intro w H;refine J0 H ?_;exact Q3 (Jz H (fun w' H' => .cellN H' rfl (by repeat first|exact .nil _|apply QY.cons rfl) (.tmp .nil)) fun w' H'=>⟨rfl,AD ⟨hq,hlen,hall⟩ H'.drop⟩)
 ·rw[show decide (id < 1)=false from decide_eq_false (by omega)];refine KY H ?_;rw[show decide (id > (q.length:Int))=true from decide_eq_true (by omega)];refine DP H ?_;clear H;intro w H;refine J0 H ?_;exact Q3 (Jz H (fun w' H' => .cellN H' rfl (by repeat first|exact .nil _|apply QY.cons rfl) (.tmp .nil)) fun w' H'=>⟨rfl,AD ⟨hq,hlen,hall⟩ H'.drop⟩)
theorem T5 [Q4] (p:Nat) (ls:List QJ) (k:Nat) (l:QJ) (hk:ls[k]? = some l) {w:World} {fr:List Q2} (H:Q0 w (Ql p ls::fr)) :
  Calls Tryz.prog 88 #[pp p,.int .i64 ((k:Int)+1)] w (ret fun x w'=>∃ vr vq,x = .tuple #[Yr l.fixed vr l.record vq,.int .i64 0]∧Q0 w' (NL vr l.refs::NL vq l.recs::Ql p ls::fr)):=by
 obtain⟨v,q,⟨hq,hlen,hall⟩,H⟩:=HF H;have hql:q.length=ls.length:=by rw[← hq,List.length_map]
 have hkl:k < ls.length:=(List.getElem?_eq_some_iff.1 hk).1;obtain⟨av,cv,rfl⟩:=QD H.drop (RR q) (by decide);have hR:VO l:=hall l (List.mem_of_getElem? hk)
 obtain⟨x,hx,hxl⟩:∃ x,q[k]? = some x∧x.2.2=l:=by
  rw[← hq,List.getElem?_map,Option.map_eq_some_iff] at hk;exact hk
 obtain⟨vr,vq,l'⟩:=x;obtain rfl:l'=l:=hxl;have hpick:q=q.take k++(vr,vq,l')::q.drop (k+1):=split_at hx;refine QQ Tryz.func88 rfl (by kernel_rfl) ?_;refine YO H ?_;clear H;intro b4 w H;refine Y1 H ?_;refine Vy (fun ms σ w=>ms=[]∧σ 0=pp p∧σ 1 = .int .i64 ((k:Int)+1)∧σ 4=pp b4∧Q0 w (pts b4 (row 102 [.int .i64 0,.slice none 0 0,.int .i64 0,.slice none 0 0])::pts p (row 242 [.slice av q.length cv])::QC 102 4 (.slice av q.length cv) (VE q)::star (q.map Y8)::fr)) ?_ ?_
 ·refine DO H ?_;rw[show decide ((k:Int)+1 < 1)=false from decide_eq_false (by omega)];refine KY H ?_;rw[show decide ((k:Int)+1 > (q.length:Int))=false from decide_eq_false (by omega)];refine W2 H ?_;exact .inl ⟨rfl,rfl,rfl,rfl,rfl,H⟩
 ·clear H;rintro ms σ w ⟨rfl,g0,g1,g4,H⟩;rw[Q1 g0,Q1 g1,Q1 g4];replace H:=Js [3,2,0,0] 0 H;have H:=Q0.star.1 ((Q0.pick hpick).1 H);replace H:Q0 w (NL vr l'.refs::NL vq l'.recs::star ((q.take k++q.drop (k+1)).map Y8)::QC 102 4 (.slice av q.length cv) (VE q)::pts b4 (row 102 [.int .i64 0,.slice none 0 0,.int .i64 0,.slice none 0 0])::pts p (row 242 [.slice av q.length cv])::fr):=H;obtain⟨ar,cr,rfl⟩:=QD H (QF _) (by decide);obtain⟨aq,cq,rfl⟩:=QD H.drop (QF _) (by decide);obtain⟨D1,H,hD1,hC1⟩:=sls_rd H (QF _) (by decide);obtain⟨D2,H,hD2,hC2⟩:=sls_rd H.swap (QF _) (by decide);replace H:=Js [3,0,0,0,0,0] 0 H;obtain⟨b,s,rfl,H,hclose⟩:=Qx H (by omega);refine GY H ?_;rw[QT (x:=(k:Int)+1 - 1) (by omega) (by omega),show (k:Int)+1 - 1=(k:Int) by omega];refine Jd ?_;refine Q5 rfl (VH H rfl (HE hx) rfl ?_);refine Jc rfl rfl (M9 _ _ l' hR.small ⟨(hD1 _).there.there,(hD2 _).there⟩ H) ?_;clear H;rintro v w ⟨vr',vq',rfl,H⟩;obtain⟨a4,m4,c4,rfl⟩:=Qq H;obtain⟨a5,m5,c5,rfl⟩:=Qq H.swap;refine J3 H ?_;clear H;intro w H;refine J0 H ?_;replace H:=Js [3,3,2,2,2,2,0,0] 0 H;replace H:=hC1 _ _ (hC2 _ _ H).swap;replace H:=Js [0,0,1,0,0,0,0,0] 0 H;replace H:Q0 w (star (q.map Y8)::_):=(Q0.pick hpick).2 (Q0.star.2 H);replace H:=Js [1,1,2,2,1,0] 0 H;replace H:=hclose _ _ H;replace H:=Js [1,1,1,1,0,0] 0 H;exact Q3 (Jz H (fun w' H' => .cellN H' rfl (by repeat first|exact .nil _|apply QY.cons rfl) (.tmp .nil)) fun w' H'=>⟨_,_,rfl,(AD (l:=NL (.slice a4 m4 c4) l'.refs::NL (.slice a5 m5 c5) l'.recs::fr) ⟨hq,hlen,hall⟩ (by have H':=H'.drop;replace H':=Q0.sel [2,2,2,0,0] 0 H';dsimp only[SL.sel,SL.pull,List.drop] at H';exact H')).sel [1,1,0] 0⟩)
end Go.Proofs.YtmjdnljneifpcaaGreatDoor
namespace Go.Proofs.YtmjdnljneifpcaaGreatDoor
open Go.SL
def Yy (l:List Nat) (x:Nat):Nat:=l.countP (· < x)
theorem T6 (l:List Nat) (x:Nat):(l.map fun a:Nat=>(a:Int)).contains (x:Int)=decide (x∈l):=by
 induction l with
 | nil=>simp
 | cons a l ih=>
  rw[List.map_cons,List.contains_cons,ih];by_cases h:x=a
  ·subst h;simp
  ·have:((x:Int) == (a:Int))=false:=by simp;omega
   simp[this,h]
theorem T7 (l:List Nat) (x:Nat):(l.map fun a:Nat=>(a:Int)).countP (· < (x:Int))=Yy l x:=by
 unfold Yy;rw[List.countP_map];congr 1
 funext a
 simp
theorem AE [Q4] (v:Value) (l:List Nat) (hl:l.length≤1000000) (hs:l.Pairwise (· < ·)) (x:Nat) {w:World} {fr:List Q2} (hr:Vm fr v l.length 1 (QK l)) (H:Q0 w fr) :
  Calls Tryz.prog 112 #[v,.int .i64 x] w (ret fun r w'=>r = .tuple #[.int .i64 (Yy l x:Nat),.bool (decide (x∈l))]∧Q0 w' fr):=by
 obtain⟨_,ad,cap,rfl,hr'⟩:=id hr;by_cases h0:l=[]
 ·subst h0;refine QQ Tryz.func112 rfl (by kernel_rfl) ?_;refine J4 H ?_;refine Gy H ?_;refine BL H ?_;refine QS ?_;refine Qj (fun ms σ w q=>ms=[]∧σ 6 = .int .i64 0∧σ 7 = .int .i64 0∧σ 8 = .int .i64 0∧Q0 w fr) (m:=0) ⟨rfl,rfl,rfl,rfl,H⟩ ?_;clear H;rintro ms σ w q ⟨rfl,g6,g7,g8,H⟩;rw[Q1 g6,Q1 g7,Q1 g8];refine BL H ?_;refine KQ H ?_;refine J5 H ?_;refine W0 H ?_;refine BH H ?_;refine Kv H ?_;refine Kv H ?_;refine Kv H ?_;refine DE H ?_;refine Wy H ?_;exact Q3 (Jy H rfl fun w' H'=>⟨rfl,H'⟩)
 ·rcases hr' with h|⟨b,o,E,fz,c,rfl,hA,hrd⟩
  ·exact absurd (List.eq_nil_of_length_eq_zero h) h0
  haveI:=hA
  have hc:∀ j,j < l.length→w.cell? ⟨b,o+j,none⟩=some (.int .i64 (l.getD j 0)):=fun j hj=>by
   refine Zf H.at ?_;rw[Nat.mul_one] at hrd;refine hrd.get j _ ?_;simp[QK,hj]
  have e1:∀ j,(l.map fun a:Nat=>(a:Int)).getD j 0=((l.getD j 0:Nat):Int):=fun j=>by
   simp only[List.getD_eq_getElem?_getD,List.getElem?_map];cases l[j]? <;> rfl
  have e2:(l.map fun a:Nat=>(a:Int)).take l.length=l.map fun a:Nat=>(a:Int):=List.take_of_length_le (by simp);refine(Any.slices_BinarySearch_int Tryz.laysBs b o l.length cap (l.map fun a:Nat=>(a:Int)) x w (by simp) (by omega) (fun j hj=>by rw[hc j (by simpa using hj),e1]) ?_).mono ?_
  ·rw[e2];refine List.Pairwise.map _ (fun a b h=>?_) hs;omega
  ·rintro e w' ⟨rfl,q,rfl⟩;refine⟨?_,H.heap rfl⟩;rw[e2,T6,T7]
theorem T8 [Q4] (vr vq:Value) (l:QJ) (hR:VO l) (count:Int) (place:Int) {n:Nat} (hz:V6 l count=(n,0)) (hp:place < 0∨(n:Int)≤place) {w:World} {fr:List Q2} (hr:UA fr vr vq l) (H:Q0 w fr) :
  Calls Tryz.prog 204 #[Yr l.fixed vr l.record vq,.int .i64 count,.int .i64 place] w (ret fun x w'=>x = .tuple #[.bool false,.int .i64 3]∧Q0 w' fr):=by
 obtain⟨_,ad1,cap1,rfl,hr1⟩:=id hr.r;obtain⟨_,ad2,cap2,rfl,hr2⟩:=id hr.q;refine QQ Tryz.func204 rfl (by kernel_rfl) ?_;refine J6 H ?_;clear H;intro b3 w H;refine J2 H ?_;refine A2 H ?_;refine Jc rfl rfl (Bu _ _ l hR count hr.there H) ?_;clear H;rintro v w ⟨rfl,H⟩;rw[hz];refine Rz H ?_;refine QS ?_;refine A3 H ?_;by_cases h1:place < 0
 ·rw[show decide (place < 0)=true from decide_eq_true (by omega)];refine DD H ?_;refine J2 H ?_;refine Yj H ?_;exact Q3 (Jy H.drop rfl fun w' H'=>⟨rfl,H'⟩)
 ·rw[show decide (place < 0)=false from decide_eq_false (by omega)];refine BN H ?_;rw[show decide (place≥(n:Int))=true from decide_eq_true (by omega)];refine J2 H ?_;refine Yj H ?_;exact Q3 (Jy H.drop rfl fun w' H'=>⟨rfl,H'⟩)
theorem T9 [Q4] (vr vq:Value) (l:QJ) (hR:VO l) (count:Int) (p:Nat) {n:Nat} (hz:V6 l count=(n,0)) (hp:p < n) {w:World} {fr:List Q2} (hr:UA fr vr vq l) (H:Q0 w fr) :
  Calls Tryz.prog 204 #[Yr l.fixed vr l.record vq,.int .i64 count,.int .i64 p] w (ret fun x w'=>x = .tuple #[.bool (VV l p),.int .i64 0]∧Q0 w' fr):=by
 have hsm:=hR.small;obtain⟨z1,z2,z3,z4,z5⟩:=HC hz;obtain⟨_,ad1,cap1,rfl,hr1⟩:=id hr.r;obtain⟨_,ad2,cap2,rfl,hr2⟩:=id hr.q;refine QQ Tryz.func204 rfl (by kernel_rfl) ?_;refine J6 H ?_;clear H;intro b3 w H;refine J2 H ?_;refine A2 H ?_;refine Jc rfl rfl (Bu _ _ l hR count hr.there H) ?_;clear H;rintro v w ⟨rfl,H⟩;rw[hz];refine Rz H ?_;refine Vy (fun ms σ w=>ms=[]∧σ 2 = .int .i64 p∧σ 3=pp b3∧Q0 w (pts b3 (row 102 [.int .i64 l.fixed,.slice ad1 l.refs.length cap1,.int .i64 l.record,.slice ad2 l.recs.length cap2])::fr)) ?_ ?_
 ·refine QS ?_;refine A3 H ?_;rw[show decide ((p:Int) < 0)=false from decide_eq_false (by omega)];refine BN H ?_;rw[show decide ((p:Int)≥(n:Int))=false from decide_eq_false (by omega)];refine W2 H ?_;exact .inl ⟨rfl,rfl,rfl,rfl,H⟩
 ·clear H;rintro ms σ w ⟨rfl,g2,g3,H⟩;rw[Q1 g2,Q1 g3];refine K6 H ?_;refine Wy H ?_;refine W4 H ?_;refine J0 H ?_;by_cases h1:p < l.fixed
  ·rw[show decide ((p:Int)≥(l.fixed:Int))=false from decide_eq_false (by omega)];refine A4 H ?_;refine Jc rfl rfl (AE _ l.refs hsm.a hR.2.2.2.1.2 p hr.r.there H) ?_;clear H;rintro v w ⟨rfl,H⟩;refine Zh H ?_;refine V8 H ?_;exact Q3 (Jy H.drop rfl fun w' H'=>⟨by unfold VV;rw[if_pos h1];rfl,H'⟩)
  ·have hrec:l.record≠0:=by
    intro h0;rw[h0] at z3;omega
   have e1:IntKind.i64.wrap ((p:Int) - (l.fixed:Int))=((p - l.fixed:Nat):Int):=by rw[QT (by omega) (by omega)];omega
   rw[show decide ((p:Int)≥(l.fixed:Int))=true from decide_eq_true (by omega)];refine J8 H ?_;refine Qn (fun ms σ w=>ms=[]∧σ 10 = .slice ad2 l.recs.length cap2∧σ 11 = .int .i64 (((p - l.fixed) % l.record:Nat):Int)∧Q0 w (pts b3 (row 102 [.int .i64 l.fixed,.slice ad1 l.refs.length cap1,.int .i64 l.record,.slice ad2 l.recs.length cap2])::fr)) ?_ ?_
   ·refine Vg rfl ?_;refine J1 H ?_;clear H;intro w H;refine Ks H ?_;refine Jf 3 ?_;refine Jl 4 [] H ?_;refine Ja 5 ?_;refine Jf 6 ?_;refine Jl 7 [] H ?_;rw[e1]
    refine Gb (v := .int .i64 (((p - l.fixed) % l.record:Nat):Int)) 8 rfl (Q8.none rfl) (by
     show (if IntKind.i64=IntKind.i64 then (if (l.record:Int)=0 then none else some (Value.int .i64 (Int.tmod ((p - l.fixed:Nat):Int) (l.record:Int)))) else none)=_;rw[if_pos rfl,if_neg (by omega),Int.tmod_eq_emod_of_nonneg (by omega),Int.natCast_emod]) (by kernel_rfl) ?_
    refine Ja 9 ?_;refine Ja 10 ?_;refine Jx H ?_;exact⟨rfl,rfl,rfl,rfl,H⟩
   ·clear H;rintro ms σ w ⟨rfl,g10,g11,H⟩;rw[Q1 g10,Q1 g11];refine J5 H ?_;refine Jc rfl rfl (AE _ l.recs hsm.b hR.2.2.2.2.2 _ hr.q.there H) ?_;clear H;rintro v w ⟨rfl,H⟩;refine Zh H ?_;refine V8 H ?_;exact Q3 (Jy H.drop rfl fun w' H'=>⟨by unfold VV;rw[if_neg h1];rfl,H'⟩)
end Go.Proofs.YtmjdnljneifpcaaGreatDoor
namespace Go.Proofs.YtmjdnljneifpcaaGreatDoor
open Go.SL
theorem MZ [Q4] (v:Value) (l:List Nat) (size:Nat) (hl:l.length≤1000000) {w:World} {fr:List Q2} (hr:Vm fr v l.length 1 (QK l)) (H:Q0 w fr) :
  Calls Tryz.prog 262 #[v,.int .i64 size] w (ret fun x w'=>(∃ b,x = .bool b∧(b=true↔Uk l size))∧Q0 w' fr):=by
 obtain⟨_,ad,cap,rfl,hr⟩:=hr;refine QQ Tryz.func262 rfl (by kernel_rfl) ?_;refine DS H ?_;refine Qj (fun ms σ w q=>ms=[]∧∃ (i:Nat) (t:Int),i≤l.length∧q=l.length - i∧Uk (l.take i) size∧((i=0∧t = -1)∨∃ y:Nat,(l.take i).getLast? = some y∧t=y)∧σ 0 = .slice ad l.length cap∧σ 1 = .int .i64 size∧σ 5 = .int .i64 t∧σ 6 = .int .i64 i∧Q0 w fr) (m:=l.length) ⟨rfl,0,-1,by omega,rfl,⟨by simp,by simp⟩,.inl ⟨rfl,rfl⟩,rfl,rfl,rfl,rfl,H⟩ ?_;clear H;rintro ms σ w q ⟨rfl,i,t,hi,rfl,hR,ht,g0,g1,g5,g6,H⟩;rw[Q1 g0,Q1 g1,Q1 g5,Q1 g6];refine KZ H ?_;refine Qf rfl (fun h=>QW ?_) (fun h=>Qp ?_)
 ·have hlt:i < l.length:=by omega
  have hx:=List.getElem?_eq_getElem hlt;have htk:l.take (i+1)=l.take i++[l[i]]:=by rw[List.take_add_one,hx];rfl
  have hmem:l[i]∈l:=List.getElem_mem hlt;have hlast:(l.take (i+1)).getLast? = some l[i]:=by rw[htk,List.getLast?_concat]
  have hbad:∀ y:Nat,(l.take i).getLast? = some y→l.Pairwise (· < ·)→y < l[i]:=fun y hy hp=>by
   have hi0:0 < i:=by
    rcases Nat.eq_zero_or_pos i with h0|h0
    ·subst h0;simp at hy
    ·exact h0
   rw[List.getLast?_eq_getElem?,List.length_take,Nat.min_eq_left hi,List.getElem?_take_of_lt (by omega),List.getElem?_eq_getElem (by omega)] at hy;have:=List.pairwise_iff_getElem.1 hp (i - 1) i (by omega) hlt (by omega);injection hy with hy
   omega
  generalize l[i]=x at hx htk hmem hlast hbad
  rcases hr with hr|⟨b,o,E,fz,c,rfl,hA,hrd⟩
  ·omega
  haveI:=hA
  have hcell:c[o+i*1]? = some (.int .i64 x):=by
   rw[Nat.mul_one];exact hrd.get i _ (by simp[QK,hx])
  refine K9 H ?_;refine Jd ?_;refine Q5 rfl (QA H rfl hcell rfl ?_);refine YS H ?_;by_cases h1:(x:Int)≤t
  ·rw[show decide ((x:Int)≤t)=true from decide_eq_true (by omega)];refine DT H ?_;refine Kw H ?_;refine UU H ?_;refine Q3 (Jy H rfl fun w' H'=>⟨⟨false,rfl,⟨fun h=>(by cases h),fun h=>?_⟩⟩,H'⟩)
   rcases ht with ⟨_,rfl⟩|⟨y,hy,rfl⟩
   ·omega
   ·have:=hbad y hy h.2;omega
  ·rw[show decide ((x:Int)≤t)=false from decide_eq_false (by omega)];refine XP H ?_;refine Qe rfl rfl rfl (Gs rfl rfl (by omega) (by omega) rfl ?_);refine Qe rfl rfl rfl (QA H rfl hcell rfl ?_);refine Zg H ?_;by_cases h2:x < size
   ·rw[show decide ((x:Int)≥(size:Int))=false from decide_eq_false (by omega)];refine Y0 H ?_;refine J5 H ?_;refine Jd ?_;refine Q5 rfl (QA H rfl hcell rfl ?_);refine BO H ?_;refine⟨_,⟨rfl,i+1,x,hlt,rfl,?_,.inr ⟨x,hlast,rfl⟩,rfl,rfl,rfl,Qb (by omega),H⟩,by omega⟩;rw[htk];refine⟨fun p hp=>?_,M7 hR.2 fun z hz=>?_⟩
    ·simp at hp
     rcases hp with hp|rfl
     ·exact hR.1 p hp
     ·exact h2
    ·rcases ht with ⟨rfl,rfl⟩|⟨y,hy,rfl⟩
     ·simp at hz
     ·rw[hy] at hz;cases hz;omega
   ·rw[show decide ((x:Int)≥(size:Int))=true from decide_eq_true (by omega)];refine UU H ?_;refine Q3 (Jy H rfl fun w' H'=>⟨⟨false,rfl,⟨fun h=>(by cases h),fun h=>?_⟩⟩,H'⟩);exact absurd (h.1 x hmem) h2
 ·have hge:i=l.length:=by omega
  subst hge;rw[List.take_length] at hR;refine VC H ?_;exact Q3 (Jy H rfl fun w' H'=>⟨⟨true,rfl,by simp[hR]⟩,H'⟩)
theorem MG [Q4] (v:Value) (l:List Nat) (x:Nat) (hl:l.length≤1000000) {w:World} {fr:List Q2} (hr:Vm fr v l.length 1 (QK l)) (H:Q0 w fr) :
  Calls Tryz.prog 105 #[v,.int .i64 x] w (ret fun r w'=>r = .bool (decide (x∈l))∧Q0 w' fr):=by
 obtain⟨_,ad,cap,rfl,hr⟩:=hr;refine QQ Tryz.func105 rfl (by kernel_rfl) ?_;refine Fm H ?_;refine Qj (fun ms σ w q=>ms=[]∧∃ i:Nat,i≤l.length∧q=l.length - i∧x∉l.take i∧σ 0 = .slice ad l.length cap∧σ 1 = .int .i64 x∧σ 5 = .int .i64 i∧Q0 w fr) (m:=l.length) ⟨rfl,0,by omega,rfl,by simp,rfl,rfl,rfl,H⟩ ?_;clear H;rintro ms σ w q ⟨rfl,i,hi,rfl,hn,g0,g1,g5,H⟩;rw[Q1 g0,Q1 g1,Q1 g5];refine KZ H ?_;refine Qf rfl (fun h=>QW ?_) (fun h=>Qp ?_)
 ·have hlt:i < l.length:=by omega
  have hx:=List.getElem?_eq_getElem hlt;have htk:l.take (i+1)=l.take i++[l[i]]:=by rw[List.take_add_one,hx];rfl
  have hmem:l[i]∈l:=List.getElem_mem hlt;generalize l[i]=y at hx htk hmem
  rcases hr with hr|⟨b,o,E,fz,c,rfl,hA,hrd⟩
  ·omega
  haveI:=hA
  have hcell:c[o+i*1]? = some (.int .i64 y):=by
   rw[Nat.mul_one];exact hrd.get i _ (by simp[QK,hx])
  refine K9 H ?_;refine Jd ?_;refine Q5 rfl (QA H rfl hcell rfl ?_);refine J2 H ?_;by_cases h1:y=x
  ·subst h1;rw[show ((y:Int) == (y:Int))=true by simp];refine YG H ?_;exact Q3 (Jy H rfl fun w' H'=>⟨by rw[decide_eq_true hmem];rfl,H'⟩)
  ·rw[show ((y:Int) == (x:Int))=false by simp;omega];refine A0 H ?_;refine⟨_,⟨rfl,i+1,hlt,rfl,?_,rfl,rfl,Qb (by omega),H⟩,by omega⟩;rw[htk];simp only[List.mem_append,List.mem_singleton];rintro(h|h)
   ·exact hn h
   ·exact h1 h.symm
 ·have hge:i=l.length:=by omega
  subst hge;rw[List.take_length] at hn;refine VC H ?_;exact Q3 (Jy H rfl fun w' H'=>⟨by rw[decide_eq_false hn];rfl,H'⟩)
theorem Bx [Q4] (x:Nat) (hx:x < 18446744073709551616) {w:World} {fr:List Q2} (H:Q0 w fr) :
  Calls Tryz.prog 253 #[.int .u64 x] w (ret fun v w'=>Q0 w' (NL v (VN x 64)::fr)):=by
 refine QQ Tryz.func253 rfl (by kernel_rfl) ?_;refine DS H ?_;refine Qj (fun ms σ w n=>ms=[]∧∃ (k:Nat) (g:Value),k≤64∧n=64 - k∧σ 0 = .int .u64 ((x / 2 ^ k:Nat):Int)∧σ 3=g∧σ 4 = .int .i64 k∧Q0 w (NL g (VN x k)::fr)) (m:=64) ⟨rfl,0,_,by omega,rfl,by simp;rfl,rfl,rfl,Yu H⟩ ?_;clear H;rintro ms σ w n ⟨rfl,k,g,hk,rfl,g0,g3,g4,H⟩;obtain⟨ag,mg,cg,rfl⟩:=Qq H;rw[Q1 g0,Q1 g3,Q1 g4];refine J4 H ?_;by_cases h64:k < 64
 ·rw[show decide ((k:Int) < 64)=true from decide_eq_true (by omega)];refine J8 H ?_;refine XT H ?_;have hdle:x / 2 ^ k≤x:=Nat.div_le_self _ _;have hbit:x.testBit k=decide (x / 2 ^ k % 2=1):=Nat.testBit_eq_decide_div_mod_eq;have hnext:x / 2 ^ (k+1)=x / 2 ^ k / 2:=by rw[Nat.pow_succ,Nat.div_div_eq_div_mul]
  generalize hy:x / 2 ^ k=y at hdle hbit hnext;have hrem:Int.tmod (y:Int) 2=((y % 2:Nat):Int):=by rw[Int.tmod_eq_emod_of_nonneg (by omega)];omega
  have hquo:IntKind.u64.wrap (Int.tdiv (y:Int) 2)=((y / 2:Nat):Int):=by
   rw[Int.tdiv_eq_ediv_of_nonneg (by omega),show (y:Int) / 2=((y / 2:Nat):Int) by omega,UY (by omega)]
  refine K9 H ?_;rw[hrem];refine Y1 H ?_;refine Qn (fun ms σ w=>ms=[]∧∃ g:Value,σ 0 = .int .u64 y∧σ 3=g∧σ 4 = .int .i64 k∧Q0 w (NL g (VN x (k+1))::fr)) ?_ ?_
  ·by_cases h1:y % 2=1
   ·have e2:VN x (k+1)=VN x k++[k]:=by rw[EJ,hbit,decide_eq_true h1];rfl
    rw[show (((y % 2:Nat):Int) == 1)=true by simp;omega];refine Vg rfl ?_;refine Da H ?_;clear H;intro b14 w H;refine Q5 rfl (YC H.swap rfl rfl (by repeat first|exact .nil _|apply QY.cons rfl) rfl (by decide) (by rw[QF];have:=AB x k;simp only[List.length_cons,List.length_nil];omega) rfl rfl ?_);clear H;intro v15 w H;obtain⟨a15,m15,c15,rfl⟩:=Qq H;refine J0 H ?_;refine⟨rfl,rfl,_,rfl,rfl,rfl,?_⟩;rw[e2];show Q0 w (QC _ 1 _ (QK (VN x k++[k]))::_);rw[W9];exact Q0.drop H.swap
   ·have e2:VN x (k+1)=VN x k:=by rw[EJ,hbit,decide_eq_false h1];simp
    rw[show (((y % 2:Nat):Int) == 1)=false by simp;omega];refine VU rfl (QW ?_);exact⟨rfl,rfl,_,rfl,rfl,rfl,by rw[e2];exact H⟩
  ·clear H;rintro ms σ w ⟨rfl,g,g0,g3,g4,H⟩;obtain⟨ag,mg,cg,rfl⟩:=Qq H;rw[Q1 g0,Q1 g3,Q1 g4];refine J5 H ?_;rw[hquo];refine BO H ?_;exact⟨_,⟨rfl,k+1,_,h64,rfl,by rw[hnext];rfl,rfl,Qb (by omega),H⟩,by omega⟩
 ·have hk64:k=64:=by omega
  subst hk64;rw[show decide (((64:Nat):Int) < 64)=false from rfl];refine J8 H ?_;refine KQ H ?_;refine J4 H ?_;exact Q3 (Jy H rfl fun w' H'=>H')
end Go.Proofs.YtmjdnljneifpcaaGreatDoor
namespace Go.Proofs.YtmjdnljneifpcaaGreatDoor
open Go.SL
theorem MU [Q4] (vr vq:Value) (l:QJ) (hs:EL l) {w:World} {fr:List Q2} (hr:UA fr vr vq l) (H:Q0 w fr) :
  Calls Tryz.prog 254 #[Yr l.fixed vr l.record vq] w (ret fun x w'=>(∃ b,x = .bool b∧(b=true↔VO l))∧Q0 w' fr):=by
 obtain⟨s1,s2,s3,s4⟩:=hs;obtain⟨hr1,hr2⟩:=hr;obtain⟨_,ad1,cap1,rfl,hr1'⟩:=id hr1;obtain⟨_,ad2,cap2,rfl,hr2'⟩:=id hr2;refine QQ Tryz.func254 rfl (by kernel_rfl) ?_;refine J6 H ?_;clear H;intro b1 w H;refine J0 H ?_;refine Kr H ?_;rw[show decide ((l.fixed:Int) < 0)=false from decide_eq_false (by omega)];refine Wm H ?_;by_cases h1:l.fixed≤64
 ·rw[show decide ((l.fixed:Int) > 64)=false from decide_eq_false (by omega)];refine B9 H ?_;rw[show decide ((l.record:Int) < 0)=false from decide_eq_false (by omega)];refine B9 H ?_;by_cases h2:l.record≤64
  ·rw[show decide ((l.record:Int) > 64)=false from decide_eq_false (by omega)];refine Y0 H ?_;refine BI H ?_;refine Jc rfl rfl (MZ _ l.refs l.fixed s3 hr1.there H) ?_;clear H;rintro v w ⟨⟨b,rfl,hb⟩,H⟩;refine Ru H ?_;refine Gf H ?_;refine Jc rfl rfl (MZ _ l.recs l.record s4 hr2.there H) ?_;clear H;rintro v w ⟨⟨c,rfl,hc⟩,H⟩;refine J0 H ?_
   have key:(b=true∧c=true∧l.fixed+l.record≠0)↔VO l:=by
    rw[hb,hc];exact⟨fun h=>⟨h1,h2,h.2.2,h.1,h.2.1⟩,fun h=>⟨h.2.2.2.1,h.2.2.2.2,h.2.2.1⟩⟩
   cases b with
   | false=>
    refine J5 H ?_;refine Qu rfl rfl rfl ?_;refine Uz H ?_;refine DH H ?_;exact Q3 (Jy H.drop rfl fun w' H'=>⟨⟨false,rfl,⟨fun h=>(by cases h),fun h=>(by have:=(key.2 h).1;cases this)⟩⟩,H'⟩)
   | true=>
    cases c with
    | false=>
     refine J5 H ?_;refine Yp H ?_;refine Uz H ?_;refine DH H ?_;exact Q3 (Jy H.drop rfl fun w' H'=>⟨⟨false,rfl,⟨fun h=>(by cases h),fun h=>(by have:=(key.2 h).2.1;cases this)⟩⟩,H'⟩)
    | true=>
     refine J5 H ?_;refine Yp H ?_;refine B9 H ?_;by_cases h3:l.fixed > 0
     ·rw[show decide ((l.fixed:Int) > 0)=true from decide_eq_true (by omega)];refine Yp H ?_;refine Kx H ?_;refine XO H ?_;exact Q3 (Jy H.drop rfl fun w' H'=>⟨⟨true,rfl,⟨fun _=>key.1 ⟨rfl,rfl,by omega⟩,fun _=>rfl⟩⟩,H'⟩)
     ·rw[show decide ((l.fixed:Int) > 0)=false from decide_eq_false (by omega)];refine DI H ?_;by_cases h4:l.record > 0
      ·rw[show decide ((l.record:Int) > 0)=true from decide_eq_true (by omega)];refine XO H ?_;exact Q3 (Jy H.drop rfl fun w' H'=>⟨⟨true,rfl,⟨fun _=>key.1 ⟨rfl,rfl,by omega⟩,fun _=>rfl⟩⟩,H'⟩)
      ·rw[show decide ((l.record:Int) > 0)=false from decide_eq_false (by omega)];refine XO H ?_;exact Q3 (Jy H.drop rfl fun w' H'=>⟨⟨false,rfl,⟨fun h=>(by cases h),fun h=>(by have:=(key.2 h).2.2;omega)⟩⟩,H'⟩)
  ·rw[show decide ((l.record:Int) > 64)=true from decide_eq_true (by omega)];refine UU H ?_;exact Q3 (Jy H.drop rfl fun w' H'=>⟨⟨false,rfl,⟨fun h=>(by cases h),fun h=>(by unfold VO at h;omega)⟩⟩,H'⟩)
 ·rw[show decide ((l.fixed:Int) > 64)=true from decide_eq_true (by omega)];refine DF H ?_;refine DF H ?_;refine UU H ?_;exact Q3 (Jy H.drop rfl fun w' H'=>⟨⟨false,rfl,⟨fun h=>(by cases h),fun h=>(by unfold VO at h;omega)⟩⟩,H'⟩)
theorem TQ [Q4] (vr vq:Value) (l:QJ) (hR:VO l) (count:Int) {w:World} {fr:List Q2} (hr:UA fr vr vq l) (H:Q0 w fr) :
  Calls Tryz.prog 255 #[Yr l.fixed vr l.record vq,.int .i64 count] w (ret fun x w'=>x = .tuple #[.int .i64 ((V6 l count).1:Nat),.int .i64 ((V6 l count).2:Nat)]∧Q0 w' fr):=by
 have hf:=hR.1;have hc:=hR.2.1;obtain⟨_,ad1,cap1,rfl,hr1⟩:=id hr.r;obtain⟨_,ad2,cap2,rfl,hr2⟩:=id hr.q;refine QQ Tryz.func255 rfl (by kernel_rfl) ?_;refine J6 H ?_;clear H;intro b2 w H;refine J2 H ?_;refine GQ H ?_;refine Jc rfl rfl (MU _ _ l hR.small hr.there H) ?_;clear H;rintro v w ⟨⟨b,rfl,hb⟩,H⟩;obtain rfl:=hb.2 hR;refine Yi H ?_;refine J8 H ?_;refine Qn (fun ms σ w=>ms=[]∧(∃ q,σ 26 = .bool q∧(q=true↔(count < 0∨count > 1024∨(count > 0∧l.record=0))))∧σ 1 = .int .i64 count∧σ 2=pp b2∧Q0 w (pts b2 (row 102 [.int .i64 l.fixed,.slice ad1 l.refs.length cap1,.int .i64 l.record,.slice ad2 l.recs.length cap2])::fr)) ?_ ?_
 ·refine J5 H ?_;by_cases c0:count < 0
  ·rw[show decide (count < 0)=true from decide_eq_true (by omega)];refine Jv ?_;refine Kw H ?_;refine Uz H ?_;refine Kv H ?_;refine Qu rfl rfl rfl ?_;refine J0 H ?_;exact⟨rfl,rfl,⟨true,rfl,by simp[c0]⟩,rfl,rfl,H⟩
  ·rw[show decide (count < 0)=false from decide_eq_false (by omega)];refine XP H ?_;by_cases c1:count > 1024
   ·rw[show decide (count > 1024)=true from decide_eq_true (by omega)];refine Uz H ?_;refine Kv H ?_;refine Qu rfl rfl rfl ?_;refine J0 H ?_;exact⟨rfl,rfl,⟨true,rfl,by simp[c1]⟩,rfl,rfl,H⟩
   ·rw[show decide (count > 1024)=false from decide_eq_false (by omega)];refine B9 H ?_;by_cases c3:l.record=0
    ·rw[show ((l.record:Int) == 0)=true by simp;omega];refine UG H ?_;by_cases c2:count > 0
     ·rw[show decide (count > 0)=true from decide_eq_true (by omega)];refine DR H ?_;exact⟨rfl,rfl,⟨true,rfl,by simp[c2,c3]⟩,rfl,rfl,H⟩
     ·rw[show decide (count > 0)=false from decide_eq_false (by omega)];refine DR H ?_;exact⟨rfl,rfl,⟨false,rfl,by simp only[Bool.false_eq_true,false_iff];omega⟩,rfl,rfl,H⟩
    ·rw[show ((l.record:Int) == 0)=false by simp;omega];refine Yp H ?_;refine Kw H ?_;refine DR H ?_;exact⟨rfl,rfl,⟨false,rfl,by simp only[Bool.false_eq_true,false_iff];omega⟩,rfl,rfl,H⟩
 clear H;rintro ms σ w ⟨rfl,⟨q,g26,hq⟩,g1,g2,H⟩;rw[Q1 g26,Q1 g1,Q1 g2];cases q with
 | true=>
  have hs:V6 l count=(0,3):=by unfold V6;rw[if_pos (hq.1 rfl)]
  refine Yj H ?_;exact Q3 (Jy H.drop rfl fun w' H'=>⟨by rw[hs];rfl,H'⟩)
 | false=>
  have hq':¬ (count < 0∨count > 1024∨(count > 0∧l.record=0)):=fun h=>by have:=hq.2 h;cases this
  obtain⟨c,rfl⟩:∃ c:Nat,count=c:=⟨count.toNat,by omega⟩;have hcm:c*l.record≤1024*64:=Nat.mul_le_mul (by omega) hc;have hcm2:(l.record:Int)*(c:Int)=((c*l.record:Nat):Int):=by rw[Int.natCast_mul,Int.mul_comm]
  refine V5 H ?_;refine BI H ?_;refine A5 H ?_;refine V8 H ?_;rw[hcm2,QT (x:=((c*l.record:Nat):Int)) (by omega) (by omega),QT (x:=(l.fixed:Int)+((c*l.record:Nat):Int)) (by omega) (by omega),QT (x:=(l.fixed:Int)+((c*l.record:Nat):Int)+1) (by omega) (by omega)];by_cases c3:l.fixed+c*l.record≥8192
  ·have hs:V6 l (c:Int)=(0,10):=by unfold V6;rw[if_neg hq',if_pos (by simpa using c3)]
   rw[show decide ((l.fixed:Int)+((c*l.record:Nat):Int)+1 > 8192)=true from decide_eq_true (by omega)];refine Yj H ?_;exact Q3 (Jy H.drop rfl fun w' H'=>⟨by rw[hs];rfl,H'⟩)
  ·have hs:V6 l (c:Int)=(l.fixed+c*l.record,0):=by unfold V6;rw[if_neg hq',if_neg (by simpa using c3)];simp
   rw[show decide ((l.fixed:Int)+((c*l.record:Nat):Int)+1 > 8192)=false from decide_eq_false (by omega)];refine A0 H ?_;exact Q3 (Jy H.drop rfl fun w' H'=>⟨by rw[hs];show Value.tuple #[.int .i64 ((l.fixed:Int)+((c*l.record:Nat):Int)),_]=_;rw[← Int.natCast_add];rfl,H'⟩)
theorem TV [Q4] (vr vq:Value) (l:QJ) (hR:VO l) (p:Nat) (hp:l.record≠0∨p < l.fixed) (hp2:p < 1000000) {w:World} {fr:List Q2} (hr:UA fr vr vq l) (H:Q0 w fr) :
  Calls Tryz.prog 39 #[Yr l.fixed vr l.record vq,.int .i64 p] w (ret fun x w'=>x = .bool (VV l p)∧Q0 w' fr):=by
 have hsm:=hR.small;obtain⟨_,ad1,cap1,rfl,hr1⟩:=id hr.r;obtain⟨_,ad2,cap2,rfl,hr2⟩:=id hr.q;refine QQ Tryz.func39 rfl (by kernel_rfl) ?_;refine J6 H ?_;clear H;intro b2 w H;refine J0 H ?_;refine W4 H ?_;refine J0 H ?_;by_cases h1:p < l.fixed
 ·rw[show decide ((p:Int) < (l.fixed:Int))=true from decide_eq_true (by omega)];refine VD H ?_;refine Kr H ?_;refine Jc rfl rfl (MG _ l.refs p hsm.a hr.r.there H) ?_;clear H;rintro v w ⟨rfl,H⟩;refine J0 H ?_;exact Q3 (Jy H.drop rfl fun w' H'=>⟨by unfold VV;rw[if_pos h1];rfl,H'⟩)
 ·have e1:IntKind.i64.wrap ((p:Int) - (l.fixed:Int))=((p - l.fixed:Nat):Int):=by rw[QT (by omega) (by omega)];omega
  rw[show decide ((p:Int) < (l.fixed:Int))=false from decide_eq_false (by omega)];refine BP H ?_;clear H;intro w H;refine Jf 0 ?_;refine Jl 1 [9] H ?_;refine Ja 2 ?_;refine Jf 3 ?_;refine Jl 4 [9] H ?_;refine Ja 5 ?_;refine Jf 6 ?_;refine Jl 7 [9] H ?_;rw[e1]
  refine Gb (v := .int .i64 (((p - l.fixed) % l.record:Nat):Int)) 8 rfl (Q8.none rfl) (by
   show (if IntKind.i64=IntKind.i64 then (if (l.record:Int)=0 then none else some (Value.int .i64 (Int.tmod ((p - l.fixed:Nat):Int) (l.record:Int)))) else none)=_;rw[if_pos rfl,if_neg (by omega),Int.tmod_eq_emod_of_nonneg (by omega),Int.natCast_emod]) (by kernel_rfl) ?_
  refine Jo 9 H ?_;refine Jk rfl rfl (MG _ l.recs _ hsm.b hr.q.there H) ?_;clear H;rintro v w ⟨rfl,H⟩;refine Ja 10 ?_;refine Jx H ?_;exact Q3 (Jy H.drop rfl fun w' H'=>⟨by unfold VV;rw[if_neg h1];rfl,H'⟩)
end Go.Proofs.YtmjdnljneifpcaaGreatDoor
namespace Go.Proofs.YtmjdnljneifpcaaGreatDoor
open Go.SL
abbrev Rf:=Int×Int
theorem RW:G7 Tryz.prog 133 kp:=L9 inferInstance
theorem VP:G7 Tryz.prog 3 (ki .i64):=PM inferInstance
@[reducible] def vm:Nat→Value:=fun b => .map (some b)
@[reducible] def v1:Int→Value:=fun x => .int .i64 x
@[reducible] def rf (r:Rf):Value := .agg #[.int .i64 r.1,.int .i64 r.2]
structure Gr where
 key:Int
 blk:Nat
 m:List (Rf×Int)
@[reducible] def RH (g:Gr):Q2:=mp kp v1 g.blk g.m
@[reducible] def Zj (g:Gr):Int×Nat:=(g.key,g.blk)
def mem (G:List Gr) (k:Int) (r:Rf):Prop:=∃ g∈G,g.key=k∧r∈g.m.map (·.1)
def UB (bo:Nat) (S:Int→Rf→Prop):Q2:=ex fun G=>star [prop (∀ k r,mem G k r↔S k r),mp (ki .i64) vm bo (G.map Zj),star (G.map RH)]
theorem EN [Q4] {w:World} {bo:Nat} {S:Int→Rf→Prop} {l:List Q2} (H:Q0 w (UB bo S::l)) :
  ∃ G,(∀ k r,mem G k r↔S k r)∧Q0 w (mp (ki .i64) vm bo (G.map Zj)::star (G.map RH)::l):=by
 obtain⟨G,H⟩:=Q0.ex.1 H;have H:=Q0.star.1 H;obtain⟨h1,H⟩:=Q0.prop.1 H;exact⟨G,h1,H⟩
theorem Xj [Q4] {w:World} {bo:Nat} {S:Int→Rf→Prop} {l:List Q2} (G:List Gr) (h:∀ k r,mem G k r↔S k r) (H:Q0 w (mp (ki .i64) vm bo (G.map Zj)::star (G.map RH)::l)):Q0 w (UB bo S::l):=
 Q0.ex.2 ⟨G,Q0.star.2 (Q0.prop.2 ⟨h,H⟩)⟩
theorem KB [Q4] {w:World} {K V:Type} {ek:K→Value} {vv:V→Value} (b:Nat) {m:List (K×V)} {l:List Q2} (H:Q0 w l) [Ub ek vv b m l]:(m.map (·.1)).Nodup:=by
 obtain⟨es,c,_,h⟩:=Q0.mp H (ek:=ek) (vv:=vv) (b:=b) (m:=m);exact h.nodup
theorem WV (G:List Gr):(G.map Zj).map (·.1)=G.map (·.key):=by simp[Zj,Function.comp_def]
theorem EO {G:List Gr} {k:Int} {b:Nat} (h:QZ (G.map Zj) k=some b):∃ g g1 g2,G=g1++g::g2∧g.key=k∧g.blk=b:=by
 have h1:=Ua h;obtain⟨g,hg,e⟩:=List.mem_map.1 h1;obtain⟨g1,g2,rfl⟩:=List.append_of_mem hg;simp only[Zj,Prod.mk.injEq] at e;exact⟨g,g1,g2,rfl,e.1,e.2⟩
theorem WY {K V:Type} [DecidableEq K] {l1 l2:List (K×V)} {p:K×V} (h:((l1++p::l2).map (·.1)).Nodup):QB (l1++p::l2) p.1=l1++l2:=by
 induction l1 with
 | nil=>simp[QB]
 | cons q l1 ih=>
  simp only[List.cons_append,List.map_cons,List.nodup_cons] at h;have hne:q.1≠p.1:=fun e=>h.1 (by rw[e];simp);simp[QB,hne,ih h.2]
theorem WZ {g1 g2:List Gr} {g:Gr} {k:Int} {r:Rf}:mem (g1++g::g2) k r↔(g.key=k∧r∈g.m.map (·.1))∨mem (g1++g2) k r:=by
 unfold mem;simp only[List.mem_append,List.mem_cons];constructor
 ·rintro⟨x,hx|rfl|hx,h⟩
  ·exact .inr ⟨x,.inl hx,h⟩
  ·exact .inl h
  ·exact .inr ⟨x,.inr hx,h⟩
 ·rintro(h|⟨x,hx|hx,h⟩)
  ·exact⟨g,.inr (.inl rfl),h⟩
  ·exact⟨x,.inl hx,h⟩
  ·exact⟨x,.inr (.inr hx),h⟩
theorem RI {G:List Gr} {k:Int} {r:Rf} (h:mem G k r):k∈G.map (·.key):=by
 obtain⟨g,hg,rfl,_⟩:=h;exact List.mem_map_of_mem hg
theorem By {g1 g2:List Gr} {g:Gr} (h:((g1++g::g2).map (·.key)).Nodup):g.key∉(g1++g2).map (·.key):=by
 rw[((List.perm_middle (a:=g) (l₁:=g1) (l₂:=g2)).map (·.key)).nodup_iff] at h;exact(List.nodup_cons.1 h).1
theorem MX {g1 g2:List Gr} {g g':Gr} (hk:g'.key=g.key) (hn:((g1++g::g2).map (·.key)).Nodup) {k:Int} {r:Rf}:mem (g1++g'::g2) k r↔if k=g.key then r∈g'.m.map (·.1) else mem (g1++g::g2) k r:=by
 have hr:=By hn;rw[WZ,WZ,hk];by_cases h:k=g.key
 ·subst h;simp only[if_true,true_and];exact⟨fun h=>h.elim id fun h=>absurd (RI h) hr,.inl⟩
 ·rw[if_neg h];constructor
  ·rintro(⟨e,_⟩|h')
   ·exact absurd e.symm h
   ·exact .inr h'
  ·rintro(⟨e,_⟩|h')
   ·exact absurd e.symm h
   ·exact .inr h'
theorem MK [Q4] (bo:Nat) (S:Int→Rf→Prop) (k:Int) (r:Rf) {w:World} {fr:List Q2} (H:Q0 w (UB bo S::fr)) :
  Calls Tryz.prog 126 #[.map (some bo),.int .i64 k,rf r] w (ret fun v w'=>Q0 w' (UB bo (fun k' r'=>S k' r'∧¬ (k'=k∧r'=r))::fr)):=by
 obtain⟨a,b⟩:=r;refine QQ Tryz.func126 rfl (by kernel_rfl) ?_;obtain⟨G,hG,H⟩:=EN H;refine J6 H ?_;clear H;intro b5 w H;refine W5 H ?_;refine Q5 rfl (Zt (key:=k) H rfl rfl VP rfl ?_);have hn0:=KB bo H;have hn:(G.map (·.key)).Nodup:=by rw[← WV];exact hn0
 cases hf:QZ (G.map Zj) k with
 | none=>
  refine Kz H ?_;refine Q5 rfl (PS (key:=(a,b)) rfl rfl RW rfl ?_);refine W5 H ?_;refine Q5 rfl (Zt (key:=k) H rfl rfl VP rfl ?_);rw[hf];refine Q5 rfl (PT rfl rfl ?_);refine J0 H ?_;refine Vg rfl ?_;refine J5 H ?_;refine Q5 rfl (XJ (key:=k) H rfl rfl VP rfl ?_);clear H;intro w H;refine Q6 ?_;have hk:=Rn.1 hf;rw[Ax hk] at H;refine Y4 _ (.inl rfl) (Xj G (fun k' r'=>?_) H.drop) rfl (fun w' H'=>H');rw[← hG k' r'];exact⟨fun h=>⟨h,fun e=>hk (by rw[WV,← e.1];exact RI h)⟩,(·.1)⟩
 | some bi=>
  obtain⟨g,g1,g2,rfl,rfl,rfl⟩:=EO hf;have H:=(Q0.pick rfl).1 (H.pull 2);refine Kz H ?_;have hi:=KB g.blk H;refine Q5 rfl (XJ (key:=(a,b)) H rfl rfl RW rfl ?_);clear H;intro w H;refine W5 H ?_;refine Q5 rfl (Zt (key:=g.key) H rfl rfl VP rfl ?_);rw[hf];refine Q5 rfl (Wf kp v1 H rfl rfl ?_);refine J0 H ?_;refine Rj rfl (fun ht=>?_) (fun ht=>?_)
  ·refine J5 H ?_;refine Q5 rfl (XJ (key:=g.key) H rfl rfl VP rfl ?_);clear H;intro w H;refine Q6 ?_
   have e:QB ((g1++g::g2).map Zj) g.key=(g1++g2).map Zj:=by
    simp only[List.map_append,List.map_cons] at hn0 ⊢;exact WY (p:=Zj g) (by simpa using hn0)
   rw[e] at H;refine Y4 _ (.inl rfl) (Xj (g1++g2) (fun k' r'=>?_) (l:=fr) ?_) rfl (fun w' H'=>H')
   ·have hr:=By hn;have hz:QB g.m (a,b)=[]:=List.eq_nil_of_length_eq_zero (by simpa using ht);rw[← hG k' r',WZ];constructor
    ·intro h;exact⟨.inr h,fun e=>hr (by rw[← e.1];exact RI h)⟩
    ·rintro⟨⟨rfl,h⟩|h,h2⟩
     ·have:=(Ay (m:=g.m) (x:=(a,b)) (y:=r') hi).2 ⟨fun e=>h2 ⟨rfl,e⟩,h⟩;rw[hz] at this;simp at this
     ·exact h
   ·replace H:=Js [3,1] 2 H;exact H
  ·refine QW ?_;replace H:=Js [0,0,1] 1 H;refine Y4 _ (.inl rfl) (Xj (g1++{ g with m:=QB g.m (a,b) }::g2) (fun k' r'=>?_) (l:=fr) ?_) rfl (fun w' H'=>H')
   ·rw[MX (g:=g) (g':={ g with m:=QB g.m (a,b) }) rfl hn,← hG k' r'];split
    ·rename_i e;subst e;rw[Ay hi,WZ];have hr:=By hn;constructor
     ·rintro⟨h1,h2⟩;exact⟨.inl ⟨rfl,h2⟩,fun e=>h1 e.2⟩
     ·rintro⟨⟨_,h⟩|h,h2⟩
      ·exact⟨fun e=>h2 ⟨rfl,e⟩,h⟩
      ·exact absurd (RI h) hr
    ·rename_i e;exact⟨fun h=>⟨h,fun e'=>e e'.1⟩,(·.1)⟩
   ·have H:=((Q0.pick (R:=RH) (gs:=g1++{ g with m:=QB g.m (a,b) }::g2) rfl).2 H).swap;simpa only[List.map_append,List.map_cons,List.map_nil,Zj] using H
theorem MR [Q4] (bo:Nat) (S:Int→Rf→Prop) (k:Int) (r:Rf) {w:World} {fr:List Q2} (H:Q0 w (UB bo S::fr)) :
  Calls Tryz.prog 252 #[.map (some bo),.int .i64 k,rf r] w (ret fun v w'=>Q0 w' (UB bo (fun k' r'=>S k' r'∨(k'=k∧r'=r))::fr)):=by
 obtain⟨a,b⟩:=r;refine QQ Tryz.func252 rfl (by kernel_rfl) ?_;obtain⟨G,hG,H⟩:=EN H;refine J6 H ?_;clear H;intro b5 w H;refine W5 H ?_;refine Q5 rfl (Zt (key:=k) H rfl rfl VP rfl ?_);have hn0:=KB bo H;have hn:(G.map (·.key)).Nodup:=by rw[← WV];exact hn0
 cases hf:QZ (G.map Zj) k with
 | none=>
  refine Q5 rfl (LY rfl rfl (.inl rfl) rfl ?_);refine Q6 ?_;refine Vg rfl ?_;refine J5 H ?_;refine Q5 rfl (Ki v1 kp H rfl ?_);clear H;intro b12 w H;refine Q5 rfl (XI (key:=k) (v:=b12) H rfl rfl rfl VP rfl ?_);clear H;intro w H;refine W5 H ?_;have hk:=Rn.1 hf;refine Q5 rfl (Zt (key:=k) H rfl rfl VP rfl ?_);have hf2:QZ (Vp (G.map Zj) k b12) k=some b12:=by rw[U9,if_pos rfl]
  rw[hf2];refine Kz H ?_;refine Q5 rfl (XI (key:=(a,b)) (v:=1) H rfl rfl rfl RW rfl ?_);clear H;intro w H;refine Q6 ?_;rw[XE hk] at H;replace H:=Js [0,2,1] 1 H;refine Y4 _ (.inl rfl) (Xj (G++{ key:=k,blk:=b12,m:=[((a,b),1)] }::[]) (fun k' r'=>?_) (l:=fr) ?_) rfl (fun w' H'=>H')
  ·rw[WZ,List.append_nil,hG k' r'];constructor
   ·rintro(⟨rfl,h⟩|h)
    ·exact .inr ⟨rfl,by simpa using h⟩
    ·exact .inl h
   ·rintro(h|⟨rfl,rfl⟩)
    ·exact .inr h
    ·exact .inl ⟨rfl,by simp⟩
  ·have H:=((Q0.pick (R:=RH) (gs:=G++{ key:=k,blk:=b12,m:=[((a,b),1)] }::[]) rfl).2 (by rw[List.append_nil];exact H)).swap;simpa only[List.map_append,List.map_cons,List.map_nil,Zj] using H
 | some bi=>
  obtain⟨g,g1,g2,rfl,rfl,rfl⟩:=EO hf;have H:=(Q0.pick rfl).1 (H.pull 2);refine Q5 rfl (LY rfl rfl (.inl rfl) rfl ?_);refine Q6 ?_;refine VU rfl (QW ?_);refine J5 H ?_;refine Q5 rfl (Zt (key:=g.key) H rfl rfl VP rfl ?_);rw[hf];refine Kz H ?_;refine Q5 rfl (XI (key:=(a,b)) (v:=1) H rfl rfl rfl RW rfl ?_);clear H;intro w H;refine Q6 ?_;replace H:=Js [0,0,1] 1 H;refine Y4 _ (.inl rfl) (Xj (g1++{ g with m:=Vp g.m (a,b) 1 }::g2) (fun k' r'=>?_) (l:=fr) ?_) rfl (fun w' H'=>H')
  ·rw[MX (g:=g) (g':={ g with m:=Vp g.m (a,b) 1 }) rfl hn,← hG k' r'];split
   ·rename_i e;subst e;rw[L1,WZ];have hr:=By hn;constructor
    ·rintro(h|h)
     ·exact .inr ⟨rfl,h⟩
     ·exact .inl (.inl ⟨rfl,h⟩)
    ·rintro((⟨_,h⟩|h)|⟨_,h⟩)
     ·exact .inr h
     ·exact absurd (RI h) hr
     ·exact .inl h
   ·rename_i e;exact⟨.inl,fun h=>h.elim id fun e'=>absurd e'.1 e⟩
  ·have H:=((Q0.pick (R:=RH) (gs:=g1++{ g with m:=Vp g.m (a,b) 1 }::g2) rfl).2 H).swap;simpa only[List.map_append,List.map_cons,List.map_nil,Zj] using H
end Go.Proofs.YtmjdnljneifpcaaGreatDoor
namespace Go.Proofs.YtmjdnljneifpcaaGreatDoor
open Go.SL
def RS (p:Nat) (m:List (Rf×Int)):Q2:=ex fun q:Nat×Nat×Nat=>
 star [pts p (row 148 [.map (some q.1),.map (some q.2.1),.map (some q.2.2)]),mp kp v1 q.1 m,UB q.2.1 (fun k r=>QZ m r=some k),UB q.2.2 (fun k r=>r.1=k∧(QZ m r).isSome=true)]
theorem WG [Q4] {w:World} {p:Nat} {m:List (Rf×Int)} {l:List Q2} (H:Q0 w (RS p m::l)) :
  ∃ bt bo bf,Q0 w (pts p (row 148 [.map (some bt),.map (some bo),.map (some bf)])::mp kp v1 bt m::UB bo (fun k r=>QZ m r=some k)::UB bf (fun k r=>r.1=k∧(QZ m r).isSome=true)::l):=by
 obtain⟨⟨bt,bo,bf⟩,H⟩:=Q0.ex.1 H;exact⟨bt,bo,bf,Q0.star.1 H⟩
theorem KC [Q4] {w:World} {p:Nat} {m:List (Rf×Int)} {l:List Q2} {S T:Int→Rf→Prop} (bt bo bf:Nat) (hS:∀ k r,S k r↔QZ m r=some k) (hT:∀ k r,T k r↔(r.1=k∧(QZ m r).isSome=true))
  (H:Q0 w (pts p (row 148 [.map (some bt),.map (some bo),.map (some bf)])::mp kp v1 bt m::UB bo S::UB bf T::l)):Q0 w (RS p m::l):=by
 have e1:S=fun k r=>QZ m r=some k:=by funext k r;exact propext (hS k r)
 have e2:T=fun k r=>r.1=k∧(QZ m r).isSome=true:=by funext k r;exact propext (hT k r)
 subst e1 e2;exact Q0.ex.2 ⟨(bt,bo,bf),Q0.star.2 H⟩
theorem MW [Q4] {w:World} {bo:Nat} {l:List Q2} (H:Q0 w (mp (ki .i64) vm bo []::l)):Q0 w (UB bo (fun _ _=>False)::l):=
 Xj [] (by simp[mem]) (Q0.swap ((Q0.star (k:=[])).2 H))
theorem TY [Q4] {w:World} {fr:List Q2} (H:Q0 w fr):Calls Tryz.prog 85 #[] w (ret fun v w'=>∃ p,v=pp p∧Q0 w' (RS p []::fr)):=by
 refine QQ Tryz.func85 rfl (by kernel_rfl) ?_;refine BS H ?_;refine Q5 rfl (Ki v1 kp H rfl ?_);clear H;intro b1 w H;refine Q5 rfl (Ki vm (ki .i64) H rfl ?_);clear H;intro b2 w H;refine Q5 rfl (Ki vm (ki .i64) H rfl ?_);clear H;intro b3 w H;refine Uv H ?_;clear H;intro b5 w H;refine J0 H ?_;refine Q3 ?_;replace H:=MW (H.pull 1);replace H:=MW (H.pull 2);replace H:=Js [2,2,0,0] 0 H;exact Jy H rfl (fun w' H'=>⟨b5,rfl,KC b1 b2 b3 (S:=fun _ _=>False) (T:=fun _ _=>False) (by simp[QZ]) (by simp[QZ]) H'⟩)
theorem TZ (o:Option Int):Rp (.int .i64 0) v1 o = .int .i64 (o.getD 0):=by cases o <;> rfl
theorem TG [Q4] (p:Nat) (m:List (Rf×Int)) (r:Rf) {w:World} {fr:List Q2} (H:Q0 w (RS p m::fr)) :
  Calls Tryz.prog 114 #[pp p,rf r] w (ret fun v w'=>v = .tuple #[.int .i64 ((QZ m r).getD 0),.bool (QZ m r).isSome]∧Q0 w' (RS p m::fr)):=by
 obtain⟨a,b⟩:=r;refine QQ Tryz.func114 rfl (by kernel_rfl) ?_;obtain⟨bt,bo,bf,H⟩:=WG H;refine J6 H ?_;clear H;intro b3 w H;refine Db H ?_;refine J1 H ?_;clear H;intro w H;refine Uw H ?_;refine VM 4 [] H rfl (Q8.none rfl) rfl (by repeat first|exact .nil _|apply QY.cons rfl) (by kernel_rfl) ?_;refine XL 5 [] (key:=(a,b)) H rfl (Q8.none rfl) rfl rfl RW (by kernel_rfl) ?_;rw[TZ];refine Xa H ?_;refine KG H ?_;refine Jx H ?_;refine W6 H ?_;refine Q3 (Jy (KC bt bo bf (fun _ _=>Iff.rfl) (fun _ _=>Iff.rfl) H.drop) rfl fun w' H'=>⟨rfl,H'⟩)
theorem Bz [Q4] (p:Nat) (m:List (Rf×Int)) (hm:(m.map (·.1)).Nodup) (r:Rf) {w:World} {fr:List Q2} (H:Q0 w (RS p m::fr)) :
  Calls Tryz.prog 62 #[pp p,rf r] w (ret fun v w'=>v = .bool (QZ m r).isSome∧Q0 w' (RS p (QB m r)::fr)):=by
 obtain⟨a,b⟩:=r;refine QQ Tryz.func62 rfl (by kernel_rfl) ?_;refine J6 H ?_;clear H;intro b3 w H;refine R3 H ?_;refine Jc rfl rfl (TG p m (a,b) H.swap) ?_;clear H;rintro v w ⟨rfl,H⟩;refine X0 H ?_;cases hf:QZ m (a,b) with
 | none=>
  refine YG H ?_;rw[Ax (Rn.1 hf)];refine Q3 (Jy H.swap.drop rfl fun w' H'=>⟨rfl,H'⟩)
 | some t=>
  refine V5 H ?_;obtain⟨bt,bo,bf,H⟩:=WG H;refine J1 H ?_;clear H;intro w H;refine Dc H ?_;refine XJ (key:=(a,b)) H rfl rfl RW rfl ?_;clear H;intro w H;refine Jx H ?_;replace H:=Js [2,0,0,0,0] 0 H;refine J1 H ?_;clear H;intro w H;refine BT H ?_;refine Ja 4 ?_;refine Ba H ?_;refine Jk rfl rfl (MK bo _ t (a,b) H) ?_;clear H;intro v w H;refine Jx H ?_;replace H:=Js [3,0,0,0,0] 0 H;refine J1 H ?_;clear H;intro w H;refine Ja 0 ?_;refine Ja 1 ?_;refine Jf 2 ?_;refine Jl 3 [7] H ?_;refine Jf 4 ?_;refine Jl 5 [7] H ?_;refine Dd H ?_;refine Jk rfl rfl (MK bf _ a (a,b) H) ?_;clear H;intro v w H;refine BD H ?_;replace H:=Js [2,2,1,0] 1 H;refine Q3 (Jy (KC bt bo bf (fun k r=>?_) (fun k r=>?_) H) rfl fun w' H'=>⟨rfl,H'⟩)
  ·rw[XF hm];split
   ·rename_i e;subst e;rw[hf];simp;rintro rfl;rfl
   ·rename_i e;exact⟨(·.1),fun h=>⟨h,fun e'=>e e'.2.symm⟩⟩
  ·rw[XF hm];split
   ·rename_i e;subst e;simp;rintro rfl _;rfl
   ·rename_i e;exact⟨(·.1),fun h=>⟨h,fun e'=>e e'.2.symm⟩⟩
theorem MA [Q4] (p:Nat) (m:List (Rf×Int)) (hm:(m.map (·.1)).Nodup) (r:Rf) (t:Int) {w:World} {fr:List Q2} (H:Q0 w (RS p m::fr)) :
  Calls Tryz.prog 226 #[pp p,rf r,.int .i64 t] w (ret fun v w'=>v = .bool (!(QZ m r).isSome)∧Q0 w' (RS p (Vp (QB m r) r t)::fr)):=by
 obtain⟨a,b⟩:=r;refine QQ Tryz.func226 rfl (by kernel_rfl) ?_;refine J6 H ?_;clear H;intro b4 w H;refine A6 H ?_;refine Ge H ?_;refine Jc rfl rfl (Bz p m hm (a,b) H.swap) ?_;clear H;rintro v w ⟨rfl,H⟩;refine J0 H ?_;obtain⟨bt,bo,bf,H⟩:=WG H;refine J1 H ?_;clear H;intro w H;refine BT H ?_;refine De H ?_;refine Ja 5 ?_;refine Jo 6 H ?_;refine XI (key:=(a,b)) (v:=t) H rfl rfl rfl RW rfl ?_;clear H;intro w H;refine Jx H ?_;replace H:=Js [2,0,0,0,0] 0 H;refine J1 H ?_;clear H;intro w H;refine BT H ?_;refine Ja 4 ?_;refine Ba H ?_;refine Jk rfl rfl (MR bo _ t (a,b) H) ?_;clear H;intro v w H;refine Jx H ?_;replace H:=Js [3,0,0,0,0] 0 H;refine J1 H ?_;clear H;intro w H;refine Ja 0 ?_;refine Ja 1 ?_;refine Jf 2 ?_;refine Jl 3 [7] H ?_;refine Jf 4 ?_;refine Jl 5 [7] H ?_;refine Dd H ?_;refine Jk rfl rfl (MR bf _ a (a,b) H) ?_;clear H;intro v w H;refine Jx H ?_;refine V8 H ?_;replace H:=Js [2,2,1,0] 1 H;have hn:=XF hm (x:=(a,b)) (y:=(a,b));rw[if_pos rfl] at hn;refine Q3 (Jy (KC bt bo bf (fun k r=>?_) (fun k r=>?_) H) rfl fun w' H'=>⟨rfl,H'⟩)
 ·rw[U9];split
  ·rename_i e;subst e;rw[hn];simp;exact eq_comm
  ·rename_i e;exact⟨fun h=>h.elim id fun e'=>absurd e'.2.symm e,.inl⟩
 ·rw[U9];split
  ·rename_i e;subst e;rw[hn];simp;exact eq_comm
  ·rename_i e;exact⟨fun h=>h.elim id fun e'=>absurd e'.2.symm e,.inl⟩
end Go.Proofs.YtmjdnljneifpcaaGreatDoor
namespace Go.Proofs.YtmjdnljneifpcaaGreatDoor
open Go.SL
def Qg (p last:Nat) (par:List (Int×Int)):Q2:=ex fun b:Nat=>star [pts p (row 122 [.map (some b),.int .i64 last]),mp (ki .i64) v1 b par]
theorem KD [Q4] {w:World} {p last:Nat} {par:List (Int×Int)} {l:List Q2} (H:Q0 w (Qg p last par::l)):∃ b,Q0 w (pts p (row 122 [.map (some b),.int .i64 last])::mp (ki .i64) v1 b par::l):=by
 obtain⟨b,H⟩:=Q0.ex.1 H;exact⟨b,Q0.star.1 H⟩
theorem Xk [Q4] {w:World} {p last b:Nat} {par:List (Int×Int)} {l:List Q2} (H:Q0 w (pts p (row 122 [.map (some b),.int .i64 last])::mp (ki .i64) v1 b par::l)):Q0 w (Qg p last par::l):=
 Q0.ex.2 ⟨b,Q0.star.2 H⟩
theorem MB [Q4] {w:World} {p last:Nat} {par:List (Int×Int)} {l:List Q2} (H:Q0 w (Qg p last par::l)):(par.map (·.1)).Nodup:=by
 obtain⟨b,H⟩:=KD H;exact KB b H
theorem TU [Q4] {w:World} {fr:List Q2} (H:Q0 w fr):Calls Tryz.prog 84 #[] w (ret fun v w'=>∃ p,v=pp p∧Q0 w' (Qg p 0 []::fr)):=by
 refine QQ Tryz.func84 rfl (by kernel_rfl) ?_;refine BS H ?_;refine Q5 rfl (Ki v1 (ki .i64) H rfl ?_);clear H;intro b1 w H;refine Uv H ?_;clear H;intro b3 w H;refine J0 H ?_;exact Q3 (Jy H rfl fun w' H'=>⟨_,rfl,Xk H'⟩)
theorem EP [Q4] (p last:Nat) (par:List (Int×Int)) (id:Int) {w:World} {fr:List Q2} (H:Q0 w (Qg p last par::fr)) :
  Calls Tryz.prog 46 #[pp p,.int .i64 id] w (ret fun v w'=>v = .bool (QZ par id).isSome∧Q0 w' (Qg p last par::fr)):=by
 obtain⟨b,H⟩:=KD H;refine QQ Tryz.func46 rfl (by kernel_rfl) ?_;refine W7 H ?_;refine Q5 rfl (Zt (key:=id) H rfl rfl VP rfl ?_);refine W0 H ?_;refine Uc rfl rfl ?_;refine YD H ?_;exact Q3 (Jy (Xk H) rfl fun w' H'=>⟨rfl,H'⟩)
theorem MC [Q4] (p last:Nat) (par:List (Int×Int)) {w:World} {fr:List Q2} (H:Q0 w (Qg p last par::fr)) :
  Calls Tryz.prog 19 #[pp p] w (ret fun v w'=>v = .int .i64 par.length∧Q0 w' (Qg p last par::fr)):=by
 obtain⟨b,H⟩:=KD H;refine QQ Tryz.func19 rfl (by kernel_rfl) ?_;refine K7 H ?_;refine Q5 rfl (Wf (ki .i64) v1 H rfl rfl ?_);refine J0 H ?_;exact Q3 (Jy (Xk H) rfl fun w' H'=>⟨rfl,H'⟩)
theorem HI [Q4] (p last:Nat) (par:List (Int×Int)) (id:Int) {w:World} {fr:List Q2} (H:Q0 w (Qg p last par::fr)) :
  Calls Tryz.prog 52 #[pp p,.int .i64 id] w (ret fun v w'=>v = .int .i64 (if (QZ par id).isSome then 0 else 6)∧Q0 w' (Qg p last par::fr)):=by
 refine QQ Tryz.func52 rfl (by kernel_rfl) ?_;refine J7 H ?_;refine Vy (fun ms σ w=>ms=[]∧(QZ par id).isSome=true∧Q0 w (Qg p last par::fr)) ?_ ?_
 ·refine DO H ?_;refine Jc rfl rfl (EP p last par id H) ?_;clear H;rintro v w ⟨rfl,H⟩;cases hf:(QZ par id).isSome with
  | true=>
   refine W2 H ?_;exact .inl ⟨rfl,rfl,rfl,H⟩
  | false=>
   refine Df H ?_;exact Q3 (.inr ⟨by simp,Jy H rfl fun w' H'=>⟨rfl,H'⟩⟩)
 ·clear H;rintro ms σ w ⟨rfl,hf,H⟩;rw[hf];refine VC H ?_;exact Q3 (Jy H rfl fun w' H'=>⟨rfl,H'⟩)
def Yz (par:List (Int×Int)) (parent:Int):Nat:=if parent≠0∧(QZ par parent).isSome=false then 6 else if par.length=64 then 5 else 0
theorem ME [Q4] (p last:Nat) (par:List (Int×Int)) (parent:Int) (hlast:last < 1000000) (hup:∀ r q,(r,q)∈par→r≤(last:Int)) {w:World} {fr:List Q2} (H:Q0 w (Qg p last par::fr)) :
  Calls Tryz.prog 71 #[pp p,.int .i64 parent] w (ret fun v w'=>(Yz par parent≠0∧v = .tuple #[.int .i64 0,.int .i64 (Yz par parent)]∧Q0 w' (Qg p last par::fr)) ∨
   (Yz par parent=0∧v = .tuple #[.int .i64 ((last+1:Nat):Int),.int .i64 0]∧Q0 w' (Qg p (last+1) (par++[(((last+1:Nat):Int),parent)])::fr))):=by
 refine QQ Tryz.func71 rfl (by kernel_rfl) ?_;refine BE H ?_;refine Vy (fun ms σ w=>ms=[]∧Yz par parent=0∧σ 0=pp p∧σ 1 = .int .i64 parent∧Q0 w (Qg p last par::fr)) ?_ ?_
 ·refine Ku H ?_;refine J8 H ?_;refine Qn (fun ms σ w=>ms=[]∧(∃ q,σ 9 = .bool q∧(q=true↔parent≠0∧(QZ par parent).isSome=false))∧σ 0=pp p∧σ 1 = .int .i64 parent∧Q0 w (Qg p last par::fr)) ?_ ?_
  ·refine J5 H ?_;by_cases h0:parent=0
   ·rw[show (parent != 0)=false by simpa using h0];refine DT H ?_;refine J2 H ?_;exact⟨rfl,rfl,⟨false,rfl,by simp[h0]⟩,rfl,rfl,H⟩
   ·rw[show (parent != 0)=true by simpa using h0];refine XP H ?_;refine Qe rfl rfl rfl (V2 (a:=[]) (b:=[]) rfl rfl (call (EP p last par parent H) ?_));clear H;rintro v w ⟨rfl,H⟩;refine XO H ?_;exact⟨rfl,rfl,⟨!(QZ par parent).isSome,rfl,by simp[h0]⟩,rfl,rfl,H⟩
  ·clear H;rintro ms σ w ⟨rfl,⟨q,g9,hq⟩,g0,g1,H⟩;rw[Q1 g9,Q1 g0,Q1 g1];cases q with
   | true=>
    have he:Yz par parent=6:=by unfold Yz;rw[if_pos (hq.1 rfl)]
    refine Yj H ?_;exact Q3 (.inr ⟨by simp,Jy H rfl fun w' H' => .inl ⟨by omega,by rw[he];rfl,H'⟩⟩)
   | false=>
    have hq':¬ (parent≠0∧(QZ par parent).isSome=false):=fun h=>by have:=hq.2 h;cases this
    obtain⟨b,H⟩:=KD H;refine Bb H ?_;refine Ya H ?_;refine Q5 rfl (Wf (ki .i64) v1 H rfl rfl ?_);refine J2 H ?_;by_cases h64:par.length=64
    ·have he:Yz par parent=5:=by unfold Yz;rw[if_neg hq',if_pos h64]
     rw[show ((par.length:Int) == 64)=true by simp;omega];refine Yj H ?_;exact Q3 (.inr ⟨by simp,Jy (Xk H) rfl fun w' H' => .inl ⟨by omega,by rw[he];rfl,H'⟩⟩)
    ·have he:Yz par parent=0:=by unfold Yz;rw[if_neg hq',if_neg h64]
     rw[show ((par.length:Int) == 64)=false by simp;omega];refine V5 H ?_;exact .inl ⟨rfl,rfl,he,rfl,rfl,Xk H⟩
 ·clear H;rintro ms σ w ⟨rfl,he,g0,g1,H⟩;rw[Q1 g0,Q1 g1];obtain⟨b,H⟩:=KD H;refine J9 H ?_;rw[QT (x:=((last:Nat):Int)+1) (by omega) (by omega),show ((last:Nat):Int)+1=((last+1:Nat):Int) by omega];refine GU H ?_;clear H;intro w H;refine Q6 ?_;refine J1 H ?_;clear H;intro w H;refine Dg H ?_;refine Dh H ?_;refine Jl 7 [9] H ?_;refine Ja 8 ?_;refine Jo 9 H ?_;refine XI (v:=parent) (key:=((last+1:Nat):Int)) H rfl rfl rfl VP rfl ?_;clear H;intro w H;refine Jx H ?_;refine Ya H ?_;refine J2 H ?_
  rw[XE (fun h=>by
   obtain⟨⟨a,q⟩,hm,h1⟩:=List.mem_map.1 h;have h1:a=((last+1:Nat):Int):=h1;have:=hup a q hm;omega)] at H
  exact Q3 (Jy (Xk H) rfl fun w' H' => .inr ⟨he,rfl,H'⟩)
end Go.Proofs.YtmjdnljneifpcaaGreatDoor
