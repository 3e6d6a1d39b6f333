/- Cells: what is proved on the way: every input of the statement; no condition. Texts joined: LayB LayC LayD LayE RmB TreA CelP. -/
import Derived.Test.YtbnnnljagkjpiaaGreatDoorBgf
import Derived.Test.YtbnnnljagkjpiaaGreatDoorBgh
import Derived.Test.YtbnnnljagkjpiaaGreatDoorBge
import Derived.Test.YtbnnnljagkjpiaaGreatDoorBgg
set_option linter.unusedVariables false
set_option linter.unusedSimpArgs false
set_option linter.unusedSectionVars false
namespace Go.Proofs.YtbnnnljagkjpiaaGreatDoor
open List
open Go.SL
theorem Rm:∀ (l:List Nat) (lo size:Nat),(∀ p∈l,lo≤p∧p < size)→l.Pairwise (· < ·)→l.length≤size - lo
 | [],_,_,_,_=>Nat.zero_le _
 | a::l,lo,size,h,hp=>by
  rw[pairwise_cons] at hp;have h1:=Rm l (a+1) size (fun p hx=>⟨hp.1 p hx,(h p (mem_cons_of_mem _ hx)).2⟩) hp.2;have h2:=h a (mem_cons_self ..);simp only[length_cons];omega
theorem X0.len {l:List Nat} {n:Nat} (h:X0 l n):l.length≤n:=by
 have:=Rm l 0 n (fun p hp=>⟨Nat.zero_le _,h.1 p hp⟩) h.2;omega
theorem Vh.small {l:QL} (h:Vh l):Et l:=by
 obtain⟨h1,h2,_,h4,h5⟩:=h;have:=h4.len;have:=h5.len;exact⟨by omega,by omega,by omega,by omega⟩
def K0:List Fl:=[(0,8),(8,8),(16,48)]
theorem Th:Rh K0:=by
 refine⟨?_,?_⟩
 ·intro f hf;simp[K0] at hf
  rcases hf with rfl|rfl|rfl <;> simp[Rg]
 ·simp[K0]
theorem Ti [Q4] {w:World} {fr:List Q2} (H:Q0 w fr):Calls Tryz.prog 135 #[] w (ret fun v w'=>Q0 w' (FL v K0::fr)):=by
 refine QQ Tryz.func135 rfl (by kernel_rfl) ?_;refine DS H ?_;refine XK H ?_;refine A7 H ?_;clear H;intro b4 w H;refine J0 H ?_;exact Q3 (Jy (Uq (len:=3) (by rfl) H) rfl fun w' H'=>H')
theorem CW [Q4] (vr vq:Value) (l:QL) (hR:Vh l) (count:Int) {w:World} {fr:List Q2} (hr:UT fr vr vq l) (H:Q0 w fr) :
  Calls Tryz.prog 79 #[Yx l.fixed vr l.record vq,.int .i64 count] w (ret fun x w'=>x = .tuple #[.int .i64 ((VQ l count).1:Nat),.int .i64 ((VQ l count).2:Nat)]∧Q0 w' fr):=by
 have hf:=hR.1;have hc:=hR.2.1;obtain⟨_,ad1,cap1,rfl,hr1⟩:=id hr.r;obtain⟨_,ad2,cap2,rfl,hr2⟩:=id hr.q;refine QQ Tryz.func79 rfl (by kernel_rfl) ?_;refine J7 H ?_;clear H;intro b2 w H;refine KB H ?_;refine Y4 (fun ms σ w=>ms=[]∧(0≤count∧count≤1024∧(count > 0→l.record≠0))∧σ 1 = .int .i64 count∧σ 2=pp b2∧Q0 w (pts b2 (row 164 [.int .i64 l.fixed,.slice ad1 l.refs.length cap1,.int .i64 l.record,.slice ad2 l.recs.length cap2])::fr)) ?_ ?_
 ·refine QP ?_;refine GH H ?_;refine Jc rfl rfl (Hr _ _ l hR.small hr.there H) ?_;clear H;rintro v w ⟨⟨b,rfl,hb⟩,H⟩;obtain rfl:=hb.2 hR;refine KC H ?_;refine Vc H ?_;by_cases c0:count < 0
  ·have hs:VQ l count=(0,3):=by unfold VQ;rw[if_pos (by omega)]
   rw[show decide (count < 0)=true from decide_eq_true (by omega)];refine KI H ?_;refine Dn H ?_;refine Dp H ?_;refine Yc H ?_;exact Q3 (.inr ⟨by simp,Jy H.drop rfl fun w' H'=>⟨by rw[hs];rfl,H'⟩⟩)
  ·rw[show decide (count < 0)=false from decide_eq_false (by omega)];refine Zm H ?_;by_cases c1:count > 1024
   ·have hs:VQ l count=(0,3):=by unfold VQ;rw[if_pos (by omega)]
    rw[show decide (count > 1024)=true from decide_eq_true (by omega)];refine Dn H ?_;refine Dp H ?_;refine Yc H ?_;exact Q3 (.inr ⟨by simp,Jy H.drop rfl fun w' H'=>⟨by rw[hs];rfl,H'⟩⟩)
   ·rw[show decide (count > 1024)=false from decide_eq_false (by omega)];refine Jv ?_;refine Jv ?_;refine VU rfl rfl rfl rfl ?_;refine VU rfl rfl rfl rfl ?_;by_cases c2:count > 0
    ·rw[show decide (count > 0)=true from decide_eq_true (by omega)];refine Dq H ?_;by_cases c3:l.record=0
     ·have hs:VQ l count=(0,3):=by unfold VQ;rw[if_pos (by omega)]
      rw[show ((l.record:Int) == 0)=true by simp;omega];refine Xp H ?_;refine Yc H ?_;exact Q3 (.inr ⟨by simp,Jy H.drop rfl fun w' H'=>⟨by rw[hs];rfl,H'⟩⟩)
     ·rw[show ((l.record:Int) == 0)=false by simp;omega];refine Xp H ?_;refine V4 H ?_;exact .inl ⟨rfl,rfl,⟨by omega,by omega,fun _=>c3⟩,rfl,rfl,H⟩
    ·rw[show decide (count > 0)=false from decide_eq_false (by omega)];refine Yj H ?_;refine KJ H ?_;refine Xp H ?_;refine V4 H ?_;exact .inl ⟨rfl,rfl,⟨by omega,by omega,fun h=>absurd h c2⟩,rfl,rfl,H⟩
 ·clear H;rintro ms σ w ⟨rfl,⟨c0,c1,c2⟩,g1,g2,H⟩;rw[Q1 g1,Q1 g2];obtain⟨c,rfl⟩:∃ c:Nat,count=c:=⟨count.toNat,by omega⟩;have hcm:c*l.record≤1024*64:=Nat.mul_le_mul (by omega) hc;have hcm2:(c:Int)*(l.record:Int)=((c*l.record:Nat):Int):=(Int.natCast_mul _ _).symm;refine RY H ?_;refine Dr H ?_;refine YY H ?_;rw[hcm2,Qb (x:=((c*l.record:Nat):Int)) (by omega) (by omega),Qb (x:=(l.fixed:Int)+((c*l.record:Nat):Int)) (by omega) (by omega)];by_cases c3:l.fixed+c*l.record≥8192
  ·have hs:VQ l (c:Int)=(0,10):=by unfold VQ;rw[if_neg (by omega),if_pos (by simpa using c3)]
   rw[show decide ((l.fixed:Int)+((c*l.record:Nat):Int)≥8192)=true from decide_eq_true (by omega)];refine Yc H ?_;exact Q3 (Jy H.drop rfl fun w' H'=>⟨by rw[hs];rfl,H'⟩)
  ·have hs:VQ l (c:Int)=(l.fixed+c*l.record,0):=by unfold VQ;rw[if_neg (by omega),if_neg (by simpa using c3)];simp
   rw[show decide ((l.fixed:Int)+((c*l.record:Nat):Int)≥8192)=false from decide_eq_false (by omega)];refine AW H ?_;exact Q3 (Jy H.drop rfl fun w' H'=>⟨by rw[hs];show Value.tuple #[.int .i64 ((l.fixed:Int)+((c*l.record:Nat):Int)),_]=_;rw[← Int.natCast_add];rfl,H'⟩)
theorem CA [Q4] (v:Value) (l:List Nat) (hl:l.length≤1000000) {w:World} {fr:List Q2} (hr:Vt fr v l.length 1 (QA l)) (H:Q0 w fr) :
  Calls Tryz.prog 97 #[v] w (ret fun x w'=>Q0 w' (NL x l::fr)):=by
 obtain⟨hr1,ad,cap,rfl,hr'⟩:=id hr;refine QQ Tryz.func97 rfl (by kernel_rfl) ?_;refine XC H ?_;refine Q5 rfl (SI rfl rfl (.inl rfl) rfl ?_);refine J2 H ?_;cases ad with
 | none=>
  have h0:l.length=0:=by
   rcases hr' with h|⟨b,o,E,fz,c,h,_⟩
   ·exact h
   ·cases h
  have hn:l=[]:=eq_nil_of_length_eq_zero h0;subst hn;refine YC H ?_;exact Q3 (Jy (Yt H) rfl fun w' H'=>H')
 | some ad=>
  refine V4 H ?_;refine Zn H ?_;refine Q5 rfl (SO H rfl ?_);clear H;intro b5 w H;refine Jv ?_;refine Q5 rfl (HG H rfl rfl hr (by simp[QA,all_eq_true,Value.oneCell']) (by rw[QH];simp only[length_nil];omega) rfl rfl ?_);clear H;intro v7 w H;refine UN H ?_;exact Q3 (Jy H rfl fun w' H'=>H')
theorem Ml [Q4] (vr vq:Value) (l:QL) (hs:Et l) {w:World} {fr:List Q2} (hr:UT fr vr vq l) (H:Q0 w fr) :
  Calls Tryz.prog 138 #[Yx l.fixed vr l.record vq] w (ret fun x w'=>∃ vr' vq',x=Yx l.fixed vr' l.record vq'∧Q0 w' (NL vr' l.refs::NL vq' l.recs::fr)):=by
 obtain⟨_,ad1,cap1,rfl,hr1⟩:=id hr.r;obtain⟨_,ad2,cap2,rfl,hr2⟩:=id hr.q;refine QQ Tryz.func138 rfl (by kernel_rfl) ?_;refine J7 H ?_;clear H;intro b1 w H;refine VZ H ?_;clear H;intro b2 w H;refine J2 H ?_;refine J1 H ?_;clear H;intro w H;refine Jf 0 ?_;refine Jl 1 [2,5,7,9] H ?_;refine Jf 3 ?_;refine Jl 4 [5,7,9] H ?_;refine Jo 2 H ?_;refine Jk rfl rfl (CA _ l.refs hs.a hr.r.there.there H) ?_;clear H;rintro v5 w H;obtain⟨a5,m5,c5,rfl⟩:=Qs H;refine Jf 6 ?_;refine Jo 5 H ?_;refine Jk rfl rfl (CA _ l.recs hs.b hr.q.there.there.there H) ?_;clear H;rintro v8 w H;obtain⟨a8,m8,c8,rfl⟩:=Qs H
 refine Jo 7 H ?_;refine Ut H ?_;clear H;intro w H;refine Jf 8 ?_;refine Jo 9 H ?_;refine Ut H ?_;clear H;intro w H;refine Jx H ?_;refine KD H ?_;clear H;intro w H;refine J2 H ?_;replace H:=Js [2,1,0] 1 H;exact Q3 (Jz H (fun w' H' => .cellN H' rfl (by repeat first|exact .nil _|apply Q9.cons rfl) .nil) fun w' H'=>⟨_,_,rfl,H'.drop⟩)
theorem CB [Q4] (x:Nat) (hx:x < 18446744073709551616) {w:World} {fr:List Q2} [hT:YW 0 Lib.deBruijn64tab fr] (H:Q0 w fr) :
  Calls Tryz.prog 136 #[.int .u64 x] w (ret fun v w'=>Q0 w' (NL v (Vg x 64)::fr)):=by
 refine QQ Tryz.func136 rfl (by kernel_rfl) ?_;refine HC H ?_;refine Ql (fun ms σ w n=>ms=[]∧∃ (k y:Nat) (g:Value),k≤64∧n=64 - k∧y < 18446744073709551616∧(∀ i,y.testBit i=(x.testBit i && decide (k≤i)))∧σ 0 = .int .u64 y∧σ 3=g∧Q0 w (NL g (Vg x k)::fr)) (m:=64) ⟨rfl,0,x,_,by omega,rfl,hx,fun i=>by simp,rfl,rfl,Yt H⟩ ?_;clear H;rintro ms σ w n ⟨rfl,k,y,g,hk,rfl,hy,hbit,g0,g3,H⟩;obtain⟨ag,mg,cg,rfl⟩:=Qs H;rw[Q1 g0,Q1 g3];refine J4 H ?_;by_cases h0:y=0
 ·rw[show ((y:Int) != 0)=false by simp;exact h0];refine J6 H ?_;refine KH H ?_
  have he:Vg x 64=Vg x k:=Ho (by omega) (fun i h1 h2=>by
   have:=hbit i;rw[h0,Nat.zero_testBit] at this;simpa [h1] using this.symm)
  rw[← he] at H;refine J4 H ?_;exact Q3 (Jy H rfl fun w' H'=>H')
 ·rw[show ((y:Int) != 0)=true by simp;exact h0];refine J6 H ?_;refine Xr H ?_;obtain⟨ht1,ht2,ht3⟩:=Hi h0 hy;refine Xs H ?_;refine Jc rfl rfl (Hj y hy H) ?_;clear H;rintro v w ⟨rfl,H⟩;refine GJ H ?_;clear H;intro b13 w H;generalize Lib.ctz 64 y=t at ht1 ht2 ht3 H;replace H:=Js [1,0] 0 H;refine Q5 rfl (YR H rfl rfl (by repeat first|exact .nil _|apply Q9.cons rfl) rfl (by decide) (by rw[QH];have:=Ah x k;simp only[length_cons,length_nil];omega) rfl rfl ?_);clear H;intro v14 w H;obtain⟨a14,m14,c14,rfl⟩:=Qs H;refine J0 H ?_;have hb:=hbit t;rw[ht2] at hb;have hb1:x.testBit t=true∧k≤t:=by simpa using hb.symm
  have hcl:=Tf ht2 ht3;have hyl:y &&& (y - 1) < 18446744073709551616:=Nat.lt_of_le_of_lt Nat.and_le_left hy;refine KF H ?_
  have e1:IntKind.u64.wrap ((y:Int) - 1)=((y - 1:Nat):Int):=by
   rw[show (y:Int) - 1=((y - 1:Nat):Int) by omega,UH (by omega)]
  rw[e1,DI hy (by omega)]
  have e2:Vg x (t+1)=Vg x k++[t]:=by
   rw[Es,hb1.1,if_pos rfl,Ho hb1.2 (fun i h1 h2=>?_)];have h3:=ht3 i h2;rw[hbit i] at h3;simpa [h1] using h3
  refine⟨_,⟨rfl,t+1,y &&& (y - 1),_,by omega,rfl,hyl,fun i=>?_,rfl,rfl,?_⟩,by omega⟩
  ·rw[hcl,hbit i];by_cases h1:i < t
   ·have h3:=ht3 i h1;rw[hbit i] at h3;rw[h3,show decide (t+1≤i)=false by simp;omega];simp
   ·by_cases h2:i=t
    ·subst h2;simp
    ·rw[show decide (t+1≤i)=true by simp;omega,show decide (k≤i)=true by simp;omega];simp[h2]
  ·rw[e2];show Q0 w (QX _ 1 _ (QA (Vg x k++[t]))::_);rw[WT];exact Q0.drop H.swap
theorem Ai (x y z:Nat):ZC [x,y,z]=if x < 65536∧Vh (Rl x y z) then some (Rl x y z) else none:=rfl
theorem Tj [Q4] (v:Value) (n:Nat) (hn:n≠3) (hv:∃ a c,v = .slice a n c) {w:World} {fr:List Q2} (H:Q0 w fr) :
  Calls Tryz.prog 75 #[v] w (ret fun x w'=>x = .tuple #[Yx 0 (.slice none 0 0) 0 (.slice none 0 0),.int .i64 4]∧Q0 w' fr):=by
 obtain⟨a,c,rfl⟩:=hv;refine QQ Tryz.func75 rfl (by kernel_rfl) ?_;refine Y7 H ?_;clear H;intro b2 w H;refine Dt H ?_;rw[show ((n:Int) != 3)=true by simp;omega];refine Bd H ?_;clear H;intro w H;refine J0 H ?_;exact Q3 (Jz H (fun w' H' => .cellN H' rfl (by repeat first|exact .nil _|apply Q9.cons rfl) (.tmp .nil)) fun w' H'=>⟨rfl,H'.drop⟩)
theorem Tk [Q4] (v:Value) (x y z:Nat) (hx:x < 18446744073709551616) (hy:y < 18446744073709551616) (hz:z < 18446744073709551616) {w:World} {fr:List Q2} [hT:YW 0 Lib.deBruijn64tab fr] (hr:Vt fr v 3 1 (Qa [x,y,z])) (H:Q0 w fr) :
  Calls Tryz.prog 75 #[v] w (ret fun r w'=>(ZC [x,y,z]=none∧r = .tuple #[Yx 0 (.slice none 0 0) 0 (.slice none 0 0),.int .i64 4]∧Q0 w' fr) ∨
   ∃ l vr vq,ZC [x,y,z]=some l∧r = .tuple #[Yx l.fixed vr l.record vq,.int .i64 0]∧Q0 w' (NL vr l.refs::NL vq l.recs::fr)):=by
 obtain⟨_,ad,cap,rfl,hr'⟩:=id hr
 rcases hr' with h|⟨b,o,E,fz,c,rfl,hA,hrd⟩
 ·omega
 haveI:=hA;have c0:c[o+0*1]? = some (.int .u64 x):=by have:=hrd.get 0 (.int .u64 x) (by simp[Qa]);simpa using this
 have c1:c[o+1*1]? = some (.int .u64 y):=by have:=hrd.get 1 (.int .u64 y) (by simp[Qa]);simpa using this
 have c2:c[o+2*1]? = some (.int .u64 z):=by have:=hrd.get 2 (.int .u64 z) (by simp[Qa]);simpa using this
 refine QQ Tryz.func75 rfl (by kernel_rfl) ?_;refine Y7 H ?_;clear H;intro b2 w H;refine Da H ?_;refine Q5 rfl (ZJ rfl rfl ?_);refine Vx H ?_;refine J1 H ?_;clear H;intro w H;refine Ja 0 ?_;refine Ji 1 ?_;refine Vn 2 [4] H rfl (Q7.none rfl) rfl c0 (by kernel_rfl) ?_;refine Jo 3 H ?_;refine Jk rfl rfl (Ti H) ?_;clear H;rintro v w H;refine Jo 4 H ?_;refine Jk rfl rfl (HN x hx _ K0 Th (by decide) H) ?_;clear H;rintro v2 w ⟨u,rfl,H⟩;obtain⟨au,cu,rfl⟩:=QE H (m:=3) (by simp[Qa,K0]) (by decide);refine Ja 5 ?_;refine Bo H ?_;refine Jx H ?_;obtain⟨bu,su,rfl,H,hclose⟩:=V3 H (by omega);have d0:(Qa (K0.map (Yw x))++su)[0+0*1]? = some (.int .u64 (Yw x (0,8))):=rfl;have d1:(Qa (K0.map (Yw x))++su)[0+1*1]? = some (.int .u64 (Yw x (8,8))):=rfl;have d2:(Qa (K0.map (Yw x))++su)[0+2*1]? = some (.int .u64 (Yw x (16,48))):=rfl
 have e8:IntKind.i64.wrap ((Yw x (0,8):Nat):Int)=((x % 256:Nat):Int):=by
  rw[KW (by have:=Nat.mod_lt (x / 2 ^ 0) (show 0 < 2 ^ 8 by decide);show x / 2 ^ 0 % 2 ^ 8 < _;omega)];show ((x / 2 ^ 0 % 2 ^ 8:Nat):Int)=_;simp
 have e16:IntKind.i64.wrap ((Yw x (8,8):Nat):Int)=((x / 256 % 256:Nat):Int):=by
  rw[KW (by have:=Nat.mod_lt (x / 2 ^ 8) (show 0 < 2 ^ 8 by decide);show x / 2 ^ 8 % 2 ^ 8 < _;omega)];rfl
 refine J6 H ?_
 refine Y4 (fun ms σ w=>ms=[]∧∃ b6 va vb,σ 2=pp b2∧σ 4 = .slice (some ⟨bu,0,none⟩) 3 cu∧σ 6=pp b6 ∧
  Q0 w (pts b6 (row 164 [.int .i64 ((x % 256:Nat):Int),va,.int .i64 ((x / 256 % 256:Nat):Int),vb])::NL va (Vg y 64)::NL vb (Vg z 64)::pts bu (row 94 (Qa (K0.map (Yw x))++su))::pts b2 (row 164 [.int .i64 0,.slice none 0 0,.int .i64 0,.slice none 0 0])::fr)) ?_ ?_
 ·replace H:=Js [0,1] 1 H;refine J1 H ?_;clear H;intro w H;refine Ja 0 ?_;refine Ji 1 ?_;refine Vn 2 [18] H rfl (Q7.none rfl) rfl d0 (by kernel_rfl) ?_;refine DT H ?_;refine Ja 4 ?_;refine Ji 5 ?_;refine Vn 6 [7] H rfl (Q7.none rfl) rfl c1 (by kernel_rfl) ?_;refine Ja 8 ?_;refine Ji 9 ?_;refine Vn 10 [18] H rfl (Q7.none rfl) rfl d1 (by kernel_rfl) ?_;refine U8 11 rfl (Q7.none rfl) rfl (by kernel_rfl) ?_;refine Ja 12 ?_;refine Ji 13 ?_;refine Vn 14 [15] H rfl (Q7.none rfl) rfl c2 (by kernel_rfl) ?_;rw[e8,e16];refine Jw 7 17 H rfl rfl (Qy (a:=[]) (b:=[]) rfl rfl (call (CB y hy H) ?_)) (VN H rfl ?_)
  ·clear H;intro va w H;obtain⟨aa,ma,ca,rfl⟩:=Qs H;refine Jw 15 17 H rfl rfl (Qy (a:=[]) (b:=[]) rfl rfl (call (CB z hz H) ?_)) (VN H rfl ?_)
   ·clear H;intro vb w H;obtain⟨ab,mb,cb,rfl⟩:=Qs H;refine GF 16 rfl (Q7.none rfl) rfl (by kernel_rfl) ?_;refine Jo 17 H ?_;refine VN H rfl ?_;clear H;intro b6 w H;refine Jo 18 H ?_;refine Gy H ?_;clear H;intro w H;refine Jx H ?_;replace H:=Js [0,1,0,0,0] 0 H;exact .inl ⟨rfl,rfl,b6,_,_,rfl,rfl,rfl,H⟩
   ·clear H;intro b6 w H;refine Jo 15 H ?_;refine Jk rfl rfl (CB z hz H) ?_;clear H;intro vb w H;obtain⟨ab,mb,cb,rfl⟩:=Qs H;refine GF 16 rfl (Q7.none rfl) rfl (by kernel_rfl) ?_;refine Jo 18 H ?_;refine Gy H ?_;clear H;intro w H;refine Jx H ?_;replace H:=Js [1,1,0,0,0] 0 H;exact .inl ⟨rfl,rfl,b6,_,_,rfl,rfl,rfl,H⟩
  ·clear H;intro b6 w H;refine Jo 7 H ?_;refine Jk rfl rfl (CB y hy H) ?_;clear H;intro va w H;obtain⟨aa,ma,ca,rfl⟩:=Qs H;refine Jo 15 H ?_;refine Jk rfl rfl (CB z hz H) ?_;clear H;intro vb w H;obtain⟨ab,mb,cb,rfl⟩:=Qs H;refine GF 16 rfl (Q7.none rfl) rfl (by kernel_rfl) ?_;refine Jo 18 H ?_;refine Gy H ?_;clear H;intro w H;refine Jx H ?_;replace H:=Js [2,1,0,0,0] 0 H;exact .inl ⟨rfl,rfl,b6,_,_,rfl,rfl,rfl,H⟩
 ·clear H;rintro ms σ w ⟨rfl,b6,va,vb,g2,g4,g6,H⟩;rw[Q1 g2,Q1 g4,Q1 g6];have hla:=Ah y 64;have hlb:=Ah z 64;obtain⟨aa,ca,rfl⟩:=QE (H.drop) (QH (Vg y 64)) (by decide);obtain⟨ab,cb,rfl⟩:=QE (H.drop.drop) (QH (Vg z 64)) (by decide);refine YZ H ?_;refine Jd ?_;refine Q5 rfl (QB H rfl d2 rfl ?_);refine Jv ?_
  have hn:Yw x (16,48)=x / 65536:=by
   show x / 2 ^ 16 % 2 ^ 48=_;rw[Nat.mod_eq_of_lt (by omega)]
  rw[hn];by_cases hb:x < 65536
  ·rw[show (((x / 65536:Nat):Int) != 0)=false by simp;omega];refine Jv ?_;refine BN H ?_;have h8:x / 256 % 256=x / 256:=Nat.mod_eq_of_lt (by omega);rw[h8] at H ⊢;replace H:=Js [1,1,0,0,0] 0 H;obtain⟨D1,H,hD1,hC1⟩:=sls_rd H (QH (Vg y 64)) (by decide);obtain⟨D2,H,hD2,hC2⟩:=sls_rd H.swap (QH (Vg z 64)) (by decide);refine QT rfl rfl rfl (Qy (a:=[]) (b:=[]) rfl rfl (call (Hr _ _ (Rl x y z) ⟨by show x % 256≤_;omega,by show x / 256≤_;omega,by show (Vg y 64).length≤_;omega,by show (Vg z 64).length≤_;omega⟩ ⟨(hD1 _).there,hD2 _⟩ H) ?_));clear H;rintro v w ⟨⟨q,rfl,hq⟩,H⟩;have H:=(hC1 _ _ (hC2 _ _ H).swap);cases q with
   | true=>
    refine WZ H ?_;refine KD H ?_;clear H;intro w H;refine J0 H ?_;replace H:=Js [4,0,0] 2 H;refine Q3 (Jz H (fun w' H' => .cellN H' rfl (by repeat first|exact .nil _|apply Q9.cons rfl) (.tmp .nil)) fun w' H' => .inr ⟨Rl x y z,_,_,?_,rfl,H'.drop⟩);rw[Ai];rw[if_pos ⟨hb,hq.1 rfl⟩]
   | false=>
    refine Yj H ?_;refine Xt H ?_;clear H;intro w H;refine J0 H ?_;replace H:=Js [4] 4 H;refine Q3 (Jz H (fun w' H' => .cellN H' rfl (by repeat first|exact .nil _|apply Q9.cons rfl) (.tmp .nil)) fun w' H' => .inl ⟨?_,rfl,H'.drop⟩);rw[Ai];rw[if_neg];rintro⟨_,h2⟩;have:=hq.2 h2;cases this
  ·rw[show (((x / 65536:Nat):Int) != 0)=true by simp;omega];refine Dk H ?_;refine Xt H ?_;clear H;intro w H;refine J0 H ?_;replace H:=Js [4] 4 H;refine Q3 (Jz H (fun w' H' => .cellN H' rfl (by repeat first|exact .nil _|apply Q9.cons rfl) (.tmp .nil)) fun w' H' => .inl ⟨?_,rfl,H'.drop⟩);rw[Ai];rw[if_neg];rintro⟨h1,_⟩;exact hb h1
abbrev Z5:=Value×Value×QL
@[reducible] def YG (x:Z5):Q2:=star [NL x.1 x.2.2.refs,NL x.2.1 x.2.2.recs]
@[reducible] def Eu (x:Z5):List Value:=[.int .i64 x.2.2.fixed,x.1,.int .i64 x.2.2.record,x.2.1]
def VI (l:List Z5):List Value:=l.flatMap Eu
theorem Rn (l:List Z5):(VI l).length=l.length*4:=by
 induction l with
 | nil=>rfl
 | cons x l ih=>simp only[VI,flatMap_cons,length_append,length_cons,length_nil] at *;omega
theorem Mm (a b:List Z5):VI (a++b)=VI a++VI b:=by simp[VI]
theorem Mn:∀ {L:List Z5} {i:Nat} {x:Z5},L[i]? = some x→(VI L)[i*4]? = some (.int .i64 x.2.2.fixed)∧(VI L)[i*4+1]? = some x.1∧(VI L)[i*4+2]? = some (.int .i64 x.2.2.record)∧(VI L)[i*4+3]? = some x.2.1
 | y::L,0,x,h=>by
  simp at h;subst h;simp[VI]
 | y::L,i+1,x,h=>by
  have:=Mn (L:=L) (i:=i) (by simpa using h);have e:VI (y::L)=Eu y++VI L:=by simp[VI]
  rw[e];rw[show (i+1)*4=i*4+4 by omega];simpa [Eu] using this
theorem Hs {L:List Z5} {spare:List Value} {i:Nat} {x:Z5} (h:L[i]? = some x):Q9 (VI L++spare) (0+i*4) 4 (Eu x):=by
 obtain⟨h0,h1,h2,h3⟩:=Mn h;have hl:=(List.getElem?_eq_some_iff.1 h3).1;rw[Nat.zero_add];refine Q9.cons ?_ (Q9.cons ?_ (Q9.cons ?_ (Q9.cons ?_ (Q9.nil _))))
 all_goals rw[getElem?_append_left (by omega)]
 ·exact h0
 ·exact h1
 ·exact h2
 ·exact h3
def Qi (p:Nat) (ls:List QL):Q2:=ex fun q:Value×List Z5=>star [prop (q.2.map (·.2.2)=ls∧ls.length≤64∧∀ x∈ls,Vh x),pts p (row 245 [q.1]),QX 164 4 q.1 (VI q.2),star (q.2.map YG)]
theorem Ht [Q4] {w:World} {p:Nat} {ls:List QL} {l:List Q2} (H:Q0 w (Qi p ls::l)):∃ v q,(q.map (·.2.2)=ls∧ls.length≤64∧∀ x∈ls,Vh x)∧Q0 w (pts p (row 245 [v])::QX 164 4 v (VI q)::star (q.map YG)::l):=by
 obtain⟨⟨v,q⟩,H⟩:=Q0.ex.1 H;have H:=Q0.star.1 H;obtain⟨h,H⟩:=Q0.prop.1 H;exact⟨v,q,h,H⟩
theorem Aj [Q4] {w:World} {p:Nat} {ls:List QL} {l:List Q2} {v:Value} {q:List Z5} (h:q.map (·.2.2)=ls∧ls.length≤64∧∀ x∈ls,Vh x) (H:Q0 w (pts p (row 245 [v])::QX 164 4 v (VI q)::star (q.map YG)::l)):Q0 w (Qi p ls::l):=
 Q0.ex.2 ⟨(v,q),Q0.star.2 (Q0.prop.2 ⟨h,H⟩)⟩
theorem Tl [Q4] {w:World} {fr:List Q2} (H:Q0 w fr):Calls Tryz.prog 71 #[] w (ret fun v w'=>∃ p,v=pp p∧Q0 w' (Qi p []::fr)):=by
 refine QQ Tryz.func71 rfl (by kernel_rfl) ?_;refine DS H ?_;refine XD H ?_;clear H;intro b2 w H;refine J0 H ?_;have H:Q0 w (star (([]:List Z5).map YG)::pts b2 (row 245 [.slice none 0 0])::fr):=Q0.star.2 H;have H:=Yt (E:=164) (k:=4) H;replace H:=Js [2,0,0] 0 H;exact Q3 (Jy (Aj (q:=[]) ⟨rfl,by simp,by simp⟩ H) rfl fun w' H'=>⟨_,rfl,H'⟩)
theorem Tn [Q4] (p:Nat) (ls:List QL) (vr vq:Value) (l:QL) (hR:Vh l) {w:World} {fr:List Q2} (hr:UT fr vr vq l) (H:Q0 w (Qi p ls::fr)) :
  Calls Tryz.prog 76 #[pp p,Yx l.fixed vr l.record vq] w (ret fun x w'=>(ls.length=64∧x = .tuple #[.int .i64 0,.int .i64 5]∧Q0 w' (Qi p ls::fr)) ∨
   (ls.length < 64∧x = .tuple #[.int .i64 ((ls.length+1:Nat):Int),.int .i64 0]∧Q0 w' (Qi p (ls++[l])::fr))):=by
 obtain⟨_,ad1,cap1,rfl,hr1⟩:=id hr.r;obtain⟨_,ad2,cap2,rfl,hr2⟩:=id hr.q;obtain⟨v,q,⟨hq,hlen,hall⟩,H⟩:=Ht H;have hql:q.length=ls.length:=by rw[← hq,length_map]
 obtain⟨av,cv,rfl⟩:=QE H.drop (Rn q) (by decide);refine QQ Tryz.func76 rfl (by kernel_rfl) ?_;refine J7 H ?_;clear H;intro b3 w H;refine KB H ?_;refine Y4 (fun ms σ w=>ms=[]∧ls.length < 64∧σ 0=pp p∧σ 3=pp b3∧Q0 w (pts b3 (row 164 [.int .i64 l.fixed,.slice ad1 l.refs.length cap1,.int .i64 l.record,.slice ad2 l.recs.length cap2])::pts p (row 245 [.slice av q.length cv])::QX 164 4 (.slice av q.length cv) (VI q)::star (q.map YG)::fr)) ?_ ?_
 ·refine RK H ?_;refine GH H ?_;refine Jc rfl rfl (Hr _ _ l hR.small hr.there.there.there.there H) ?_;clear H;rintro v w ⟨⟨b,rfl,hb⟩,H⟩;obtain rfl:=hb.2 hR;refine KC H ?_;refine Du H ?_;refine J3 H ?_;by_cases h64:q.length=64
  ·rw[show ((q.length:Int) == 64)=true by simp;omega];refine Yc H ?_;exact Q3 (.inr ⟨by simp,Jy (Aj ⟨hq,hlen,hall⟩ H.drop) rfl fun w' H' => .inl ⟨by omega,rfl,H'⟩⟩)
  ·rw[show ((q.length:Int) == 64)=false by simp;omega];refine V4 H ?_;exact .inl ⟨rfl,rfl,by omega,rfl,rfl,H⟩
 ·clear H;rintro ms σ w ⟨rfl,h64,g0,g3,H⟩;rw[Q1 g0,Q1 g3];refine J1 H ?_;clear H;intro w H;refine WH H ?_;refine Jl 4 [8,11] H ?_;refine VB 5 [6,7,8,11] H rfl (Q7.none rfl) rfl (by repeat first|exact .nil _|apply Q9.cons rfl) (by kernel_rfl) ?_;refine Jo 6 H ?_;refine Jk rfl rfl (Ml _ _ l hR.small hr.there.there.there.there H) ?_;clear H;rintro v w ⟨vr',vq',rfl,H⟩;obtain⟨a4,m4,c4,rfl⟩:=Qs H;obtain⟨a5,m5,c5,rfl⟩:=Qs H.swap
  refine Jo 7 H ?_;refine WU H ?_;clear H;intro b27 w H;replace H:=Js [5,0,3,0,0,1] 1 H;refine Jo 8 H ?_;refine YR H rfl rfl (by repeat first|exact .nil _|apply Q9.cons rfl) rfl (by decide) (by rw[Rn];simp only[length_cons,length_nil];omega) rfl rfl ?_;clear H;intro v28 w H
  have e1:VI q++[.int .i64 l.fixed,.slice a4 m4 c4,.int .i64 l.record,.slice a5 m5 c5]=VI (q++[(.slice a4 m4 c4,.slice a5 m5 c5,l)]):=by
   rw[Mm];rfl
  rw[e1] at H;have hql':(q++[((.slice a4 m4 c4:Value),(.slice a5 m5 c5:Value),l)]).length=ls.length+1:=by simp[hql]
  obtain⟨a28,c28,rfl⟩:=QE H (m:=ls.length+1) (by rw[Rn,hql']) (by decide);refine Ja 9 ?_;refine Jf 10 ?_;refine Jo 11 H ?_;refine Ut H ?_;clear H;intro w H;refine Jx H ?_;refine Du H ?_;refine J3 H ?_;replace H:=Js [2,0,1,1,1] 1 H
  have H1:Q0 w (star ((q++[((.slice a4 m4 c4:Value),(.slice a5 m5 c5:Value),l)]).map YG)::pts p (row 245 [.slice a28 (ls.length+1) c28])::QX 164 4 (.slice a28 (ls.length+1) c28) (VI (q++[(.slice a4 m4 c4,.slice a5 m5 c5,l)]))::fr):=by
   refine(Q0.pick (x:=((.slice a4 m4 c4:Value),(.slice a5 m5 c5:Value),l)) (g1:=q) (g2:=[]) rfl).2 ?_;rw[append_nil];refine Q0.star.2 ?_;replace H:=Js [2,2,2,0,0] 0 H;exact H
  replace H1:=Js [1,1,0] 0 H1
  have H2:=Aj (ls:=ls++[l]) (q:=q++[((.slice a4 m4 c4:Value),(.slice a5 m5 c5:Value),l)]) ⟨by rw[map_append,hq];rfl,by simp;omega,fun x hx=>by
   rcases mem_append.1 hx with hx|hx
   ·exact hall x hx
   ·simp at hx;subst hx;exact hR⟩ H1
  exact Q3 (Jy H2 rfl fun w' H' => .inr ⟨h64,rfl,H'⟩)
theorem To [Q4] (p:Nat) (ls:List QL) (id:Int) (hid:id < 1∨(ls.length:Int) < id) {w:World} {fr:List Q2} (H:Q0 w (Qi p ls::fr)) :
  Calls Tryz.prog 78 #[pp p,.int .i64 id] w (ret fun x w'=>x = .tuple #[Yx 0 (.slice none 0 0) 0 (.slice none 0 0),.int .i64 6]∧Q0 w' (Qi p ls::fr)):=by
 obtain⟨v,q,⟨hq,hlen,hall⟩,H⟩:=Ht H;have hql:q.length=ls.length:=by rw[← hq,length_map]
 obtain⟨av,cv,rfl⟩:=QE H.drop (Rn q) (by decide);refine QQ Tryz.func78 rfl (by kernel_rfl) ?_;refine Y7 H ?_;clear H;intro b4 w H;refine Y8 H ?_;refine Dv H ?_;by_cases h1:id < 1
 ·rw[show decide (id < 1)=true from decide_eq_true (by omega)];refine Bp H ?_;refine Dw H ?_;clear H;intro w H;refine J0 H ?_;exact Q3 (Jz H (fun w' H' => .cellN H' rfl (by repeat first|exact .nil _|apply Q9.cons rfl) (.tmp .nil)) fun w' H'=>⟨rfl,Aj ⟨hq,hlen,hall⟩ H'.drop⟩)
 ·rw[show decide (id < 1)=false from decide_eq_false (by omega)];refine KL H ?_;rw[show decide (id > (q.length:Int))=true from decide_eq_true (by omega)];refine Dw H ?_;clear H;intro w H;refine J0 H ?_;exact Q3 (Jz H (fun w' H' => .cellN H' rfl (by repeat first|exact .nil _|apply Q9.cons rfl) (.tmp .nil)) fun w' H'=>⟨rfl,Aj ⟨hq,hlen,hall⟩ H'.drop⟩)
theorem Tp [Q4] (p:Nat) (ls:List QL) (k:Nat) (l:QL) (hk:ls[k]? = some l) {w:World} {fr:List Q2} (H:Q0 w (Qi p ls::fr)) :
  Calls Tryz.prog 78 #[pp p,.int .i64 ((k:Int)+1)] w (ret fun x w'=>∃ vr vq,x = .tuple #[Yx l.fixed vr l.record vq,.int .i64 0]∧Q0 w' (NL vr l.refs::NL vq l.recs::Qi p ls::fr)):=by
 obtain⟨v,q,⟨hq,hlen,hall⟩,H⟩:=Ht H;have hql:q.length=ls.length:=by rw[← hq,length_map]
 have hkl:k < ls.length:=(List.getElem?_eq_some_iff.1 hk).1;obtain⟨av,cv,rfl⟩:=QE H.drop (Rn q) (by decide);have hR:Vh l:=hall l (mem_of_getElem? hk)
 obtain⟨x,hx,hxl⟩:∃ x,q[k]? = some x∧x.2.2=l:=by
  rw[← hq,getElem?_map,Option.map_eq_some_iff] at hk;exact hk
 obtain⟨vr,vq,l'⟩:=x;obtain rfl:l'=l:=hxl;have hpick:q=q.take k++(vr,vq,l')::q.drop (k+1):=split_at hx;refine QQ Tryz.func78 rfl (by kernel_rfl) ?_;refine Y7 H ?_;clear H;intro b4 w H;refine Y8 H ?_;refine Y4 (fun ms σ w=>ms=[]∧σ 0=pp p∧σ 1 = .int .i64 ((k:Int)+1)∧σ 4=pp b4∧Q0 w (pts b4 (row 164 [.int .i64 0,.slice none 0 0,.int .i64 0,.slice none 0 0])::pts p (row 245 [.slice av q.length cv])::QX 164 4 (.slice av q.length cv) (VI q)::star (q.map YG)::fr)) ?_ ?_
 ·refine Dv H ?_;rw[show decide ((k:Int)+1 < 1)=false from decide_eq_false (by omega)];refine KL H ?_;rw[show decide ((k:Int)+1 > (q.length:Int))=false from decide_eq_false (by omega)];refine WE H ?_;exact .inl ⟨rfl,rfl,rfl,rfl,rfl,H⟩
 ·clear H;rintro ms σ w ⟨rfl,g0,g1,g4,H⟩;rw[Q1 g0,Q1 g1,Q1 g4];replace H:=Js [3,2,0,0] 0 H;have H:=Q0.star.1 ((Q0.pick hpick).1 H);replace H:Q0 w (NL vr l'.refs::NL vq l'.recs::star ((q.take k++q.drop (k+1)).map YG)::QX 164 4 (.slice av q.length cv) (VI q)::pts b4 (row 164 [.int .i64 0,.slice none 0 0,.int .i64 0,.slice none 0 0])::pts p (row 245 [.slice av q.length cv])::fr):=H;obtain⟨ar,cr,rfl⟩:=QE H (QH _) (by decide);obtain⟨aq,cq,rfl⟩:=QE H.drop (QH _) (by decide);obtain⟨D1,H,hD1,hC1⟩:=sls_rd H (QH _) (by decide);obtain⟨D2,H,hD2,hC2⟩:=sls_rd H.swap (QH _) (by decide);replace H:=Js [3,0,0,0,0,0] 0 H;obtain⟨b,s,rfl,H,hclose⟩:=V3 H (by omega);refine GI H ?_;rw[Qb (x:=(k:Int)+1 - 1) (by omega) (by omega),show (k:Int)+1 - 1=(k:Int) by omega];refine Jd ?_;refine Q5 rfl (VA H rfl (Hs hx) rfl ?_);refine Jc rfl rfl (Ml _ _ l' hR.small ⟨(hD1 _).there.there,(hD2 _).there⟩ H) ?_;clear H;rintro v w ⟨vr',vq',rfl,H⟩;obtain⟨a4,m4,c4,rfl⟩:=Qs H;obtain⟨a5,m5,c5,rfl⟩:=Qs H.swap;refine J5 H ?_;clear H;intro w H;refine J0 H ?_;replace H:=Js [3,3,2,2,2,2,0,0] 0 H;replace H:=hC1 _ _ (hC2 _ _ H).swap;replace H:=Js [0,0,1,0,0,0,0,0] 0 H;replace H:Q0 w (star (q.map YG)::_):=(Q0.pick hpick).2 (Q0.star.2 H);replace H:=Js [1,1,2,2,1,0] 0 H;replace H:=hclose _ _ H;replace H:=Js [1,1,1,1,0,0] 0 H;exact Q3 (Jz H (fun w' H' => .cellN H' rfl (by repeat first|exact .nil _|apply Q9.cons rfl) (.tmp .nil)) fun w' H'=>⟨_,_,rfl,(Aj (l:=NL (.slice a4 m4 c4) l'.refs::NL (.slice a5 m5 c5) l'.recs::fr) ⟨hq,hlen,hall⟩ (by have H':=H'.drop;replace H':=Q0.sel [2,2,2,0,0] 0 H';dsimp only[SL.sel,SL.pull,List.drop] at H';exact H')).sel [1,1,0] 0⟩)
def Z6 (l:List Nat) (x:Nat):Nat:=l.countP (· < x)
theorem Tq (l:List Nat) (x:Nat):(l.map fun a:Nat=>(a:Int)).contains (x:Int)=decide (x∈l):=by
 induction l with
 | nil=>simp
 | cons a l ih=>
  rw[map_cons,contains_cons,ih];by_cases h:x=a
  ·subst h;simp
  ·have:((x:Int) == (a:Int))=false:=by simp;omega
   simp[this,h]
theorem Tr (l:List Nat) (x:Nat):(l.map fun a:Nat=>(a:Int)).countP (· < (x:Int))=Z6 l x:=by
 unfold Z6;rw[countP_map];congr 1
 funext a
 simp
theorem Ak [Q4] (v:Value) (l:List Nat) (hl:l.length≤1000000) (hs:l.Pairwise (· < ·)) (x:Nat) {w:World} {fr:List Q2} (hr:Vt fr v l.length 1 (QA l)) (H:Q0 w fr) :
  Calls Tryz.prog 102 #[v,.int .i64 x] w (ret fun r w'=>r = .tuple #[.int .i64 (Z6 l x:Nat),.bool (decide (x∈l))]∧Q0 w' fr):=by
 obtain⟨_,ad,cap,rfl,hr'⟩:=id hr;by_cases h0:l=[]
 ·subst h0;refine QQ Tryz.func102 rfl (by kernel_rfl) ?_;refine J4 H ?_;refine Xu H ?_;refine Bq H ?_;refine QP ?_;refine Ql (fun ms σ w q=>ms=[]∧σ 6 = .int .i64 0∧σ 7 = .int .i64 0∧σ 8 = .int .i64 0∧Q0 w fr) (m:=0) ⟨rfl,rfl,rfl,rfl,H⟩ ?_;clear H;rintro ms σ w q ⟨rfl,g6,g7,g8,H⟩;rw[Q1 g6,Q1 g7,Q1 g8];refine Bq H ?_;refine KH H ?_;refine J9 H ?_;refine WC H ?_;refine Bm H ?_;refine RW H ?_;refine RW H ?_;refine RW H ?_;refine Dm H ?_;refine AK H ?_;exact Q3 (Jy H rfl fun w' H'=>⟨rfl,H'⟩)
 ·rcases hr' with h|⟨b,o,E,fz,c,rfl,hA,hrd⟩
  ·exact absurd (eq_nil_of_length_eq_zero h) h0
  haveI:=hA
  have hc:∀ j,j < l.length→w.cell? ⟨b,o+j,none⟩=some (.int .i64 (l.getD j 0)):=fun j hj=>by
   refine Zl H.at ?_;rw[Nat.mul_one] at hrd;refine hrd.get j _ ?_;simp[QA,hj]
  have e1:∀ j,(l.map fun a:Nat=>(a:Int)).getD j 0=((l.getD j 0:Nat):Int):=fun j=>by
   simp only[getD_eq_getElem?_getD,getElem?_map];cases l[j]? <;> rfl
  have e2:(l.map fun a:Nat=>(a:Int)).take l.length=l.map fun a:Nat=>(a:Int):=take_of_length_le (by simp);refine(Any.slices_BinarySearch_int Tryz.laysBs b o l.length cap (l.map fun a:Nat=>(a:Int)) x w (by simp) (by omega) (fun j hj=>by rw[hc j (by simpa using hj),e1]) ?_).mono ?_
  ·rw[e2];refine List.Pairwise.map _ (fun a b h=>?_) hs;omega
  ·rintro e w' ⟨rfl,q,rfl⟩;refine⟨?_,H.heap rfl⟩;rw[e2,Tq,Tr]
theorem Ts [Q4] (vr vq:Value) (l:QL) (hR:Vh l) (count:Int) (place:Int) {n:Nat} (hz:VQ l count=(n,0)) (hp:place < 0∨(n:Int)≤place) {w:World} {fr:List Q2} (hr:UT fr vr vq l) (H:Q0 w fr) :
  Calls Tryz.prog 189 #[Yx l.fixed vr l.record vq,.int .i64 count,.int .i64 place] w (ret fun x w'=>x = .tuple #[.bool false,.int .i64 3]∧Q0 w' fr):=by
 obtain⟨_,ad1,cap1,rfl,hr1⟩:=id hr.r;obtain⟨_,ad2,cap2,rfl,hr2⟩:=id hr.q;refine QQ Tryz.func189 rfl (by kernel_rfl) ?_;refine J7 H ?_;clear H;intro b3 w H;refine J3 H ?_;refine AA H ?_;refine Jc rfl rfl (CW _ _ l hR count hr.there H) ?_;clear H;rintro v w ⟨rfl,H⟩;rw[hz];refine WB H ?_;refine QP ?_;refine AB H ?_;by_cases h1:place < 0
 ·rw[show decide (place < 0)=true from decide_eq_true (by omega)];refine Dk H ?_;refine J3 H ?_;refine Yc H ?_;exact Q3 (Jy H.drop rfl fun w' H'=>⟨rfl,H'⟩)
 ·rw[show decide (place < 0)=false from decide_eq_false (by omega)];refine Br H ?_;rw[show decide (place≥(n:Int))=true from decide_eq_true (by omega)];refine J3 H ?_;refine Yc H ?_;exact Q3 (Jy H.drop rfl fun w' H'=>⟨rfl,H'⟩)
theorem Tt [Q4] (vr vq:Value) (l:QL) (hR:Vh l) (count:Int) (p:Nat) {n:Nat} (hz:VQ l count=(n,0)) (hp:p < n) {w:World} {fr:List Q2} (hr:UT fr vr vq l) (H:Q0 w fr) :
  Calls Tryz.prog 189 #[Yx l.fixed vr l.record vq,.int .i64 count,.int .i64 p] w (ret fun x w'=>x = .tuple #[.bool (VV l p),.int .i64 0]∧Q0 w' fr):=by
 have hsm:=hR.small;obtain⟨z1,z2,z3,z4,z5⟩:=Hq hz;obtain⟨_,ad1,cap1,rfl,hr1⟩:=id hr.r;obtain⟨_,ad2,cap2,rfl,hr2⟩:=id hr.q;refine QQ Tryz.func189 rfl (by kernel_rfl) ?_;refine J7 H ?_;clear H;intro b3 w H;refine J3 H ?_;refine AA H ?_;refine Jc rfl rfl (CW _ _ l hR count hr.there H) ?_;clear H;rintro v w ⟨rfl,H⟩;rw[hz];refine WB H ?_;refine Y4 (fun ms σ w=>ms=[]∧σ 2 = .int .i64 p∧σ 3=pp b3∧Q0 w (pts b3 (row 164 [.int .i64 l.fixed,.slice ad1 l.refs.length cap1,.int .i64 l.record,.slice ad2 l.recs.length cap2])::fr)) ?_ ?_
 ·refine QP ?_;refine AB H ?_;rw[show decide ((p:Int) < 0)=false from decide_eq_false (by omega)];refine Br H ?_;rw[show decide ((p:Int)≥(n:Int))=false from decide_eq_false (by omega)];refine WE H ?_;exact .inl ⟨rfl,rfl,rfl,rfl,H⟩
 ·clear H;rintro ms σ w ⟨rfl,g2,g3,H⟩;rw[Q1 g2,Q1 g3];refine KE H ?_;refine AK H ?_;refine WI H ?_;refine J0 H ?_;by_cases h1:p < l.fixed
  ·rw[show decide ((p:Int)≥(l.fixed:Int))=false from decide_eq_false (by omega)];refine AC H ?_;refine Jc rfl rfl (Ak _ l.refs hsm.a hR.2.2.2.1.2 p hr.r.there H) ?_;clear H;rintro v w ⟨rfl,H⟩;refine G3 H ?_;refine VX H ?_;exact Q3 (Jy H.drop rfl fun w' H'=>⟨by unfold VV;rw[if_pos h1];rfl,H'⟩)
  ·have hrec:l.record≠0:=by
    intro h0;rw[h0] at z3;omega
   have e1:IntKind.i64.wrap ((p:Int) - (l.fixed:Int))=((p - l.fixed:Nat):Int):=by rw[Qb (by omega) (by omega)];omega
   rw[show decide ((p:Int)≥(l.fixed:Int))=true from decide_eq_true (by omega)];refine J6 H ?_;refine Qk (fun ms σ w=>ms=[]∧σ 10 = .slice ad2 l.recs.length cap2∧σ 11 = .int .i64 (((p - l.fixed) % l.record:Nat):Int)∧Q0 w (pts b3 (row 164 [.int .i64 l.fixed,.slice ad1 l.refs.length cap1,.int .i64 l.record,.slice ad2 l.recs.length cap2])::fr)) ?_ ?_
   ·refine Vp rfl ?_;refine J1 H ?_;clear H;intro w H;refine RZ H ?_;refine Jf 3 ?_;refine Jl 4 [] H ?_;refine Ja 5 ?_;refine Jf 6 ?_;refine Jl 7 [] H ?_;rw[e1]
    refine Gs (v := .int .i64 (((p - l.fixed) % l.record:Nat):Int)) 8 rfl (Q7.none rfl) (by
     show (if IntKind.i64=IntKind.i64 then (if (l.record:Int)=0 then none else some (Value.int .i64 (Int.tmod ((p - l.fixed:Nat):Int) (l.record:Int)))) else none)=_;rw[if_pos rfl,if_neg (by omega),Int.tmod_eq_emod_of_nonneg (by omega),Int.natCast_emod]) (by kernel_rfl) ?_
    refine Ja 9 ?_;refine Ja 10 ?_;refine Jx H ?_;exact⟨rfl,rfl,rfl,rfl,H⟩
   ·clear H;rintro ms σ w ⟨rfl,g10,g11,H⟩;rw[Q1 g10,Q1 g11];refine J9 H ?_;refine Jc rfl rfl (Ak _ l.recs hsm.b hR.2.2.2.2.2 _ hr.q.there H) ?_;clear H;rintro v w ⟨rfl,H⟩;refine G3 H ?_;refine VX H ?_;exact Q3 (Jy H.drop rfl fun w' H'=>⟨by unfold VV;rw[if_neg h1];rfl,H'⟩)
def RS (p:Nat) (m:List (Rf×Int)):Q2:=ex fun q:Nat×Nat×Nat=>
 star [pts p (row 205 [.map (some q.1),.map (some q.2.1),.map (some q.2.2)]),mp kp v1 q.1 m,UO q.2.1 (fun k r=>QY m r=some k),UO q.2.2 (fun k r=>r.1=k∧(QY m r).isSome=true)]
theorem Al [Q4] {w:World} {p:Nat} {m:List (Rf×Int)} {l:List Q2} (H:Q0 w (RS p m::l)) :
  ∃ bt bo bf,Q0 w (pts p (row 205 [.map (some bt),.map (some bo),.map (some bf)])::mp kp v1 bt m::UO bo (fun k r=>QY m r=some k)::UO bf (fun k r=>r.1=k∧(QY m r).isSome=true)::l):=by
 obtain⟨⟨bt,bo,bf⟩,H⟩:=Q0.ex.1 H;exact⟨bt,bo,bf,Q0.star.1 H⟩
theorem Ro [Q4] {w:World} {p:Nat} {m:List (Rf×Int)} {l:List Q2} {S T:Int→Rf→Prop} (bt bo bf:Nat) (hS:∀ k r,S k r↔QY m r=some k) (hT:∀ k r,T k r↔(r.1=k∧(QY m r).isSome=true))
  (H:Q0 w (pts p (row 205 [.map (some bt),.map (some bo),.map (some bf)])::mp kp v1 bt m::UO bo S::UO bf T::l)):Q0 w (RS p m::l):=by
 have e1:S=fun k r=>QY m r=some k:=by funext k r;exact propext (hS k r)
 have e2:T=fun k r=>r.1=k∧(QY m r).isSome=true:=by funext k r;exact propext (hT k r)
 subst e1 e2;exact Q0.ex.2 ⟨(bt,bo,bf),Q0.star.2 H⟩
theorem Mo [Q4] {w:World} {bo:Nat} {l:List Q2} (H:Q0 w (mp (ki .i64) vm bo []::l)):Q0 w (UO bo (fun _ _=>False)::l):=
 Xy [] (by simp[mem]) (Q0.swap ((Q0.star (k:=[])).2 H))
theorem Tu [Q4] {w:World} {fr:List Q2} (H:Q0 w fr):Calls Tryz.prog 74 #[] w (ret fun v w'=>∃ p,v=pp p∧Q0 w' (RS p []::fr)):=by
 refine QQ Tryz.func74 rfl (by kernel_rfl) ?_;refine Bs H ?_;refine Q5 rfl (R3 v1 kp H rfl ?_);clear H;intro b1 w H;refine Q5 rfl (R3 vm (ki .i64) H rfl ?_);clear H;intro b2 w H;refine Q5 rfl (R3 vm (ki .i64) H rfl ?_);clear H;intro b3 w H;refine XW H ?_;clear H;intro b5 w H;refine J0 H ?_;refine Q3 ?_;replace H:=Mo (H.pull 1);replace H:=Mo (H.pull 2);replace H:=Js [2,2,0,0] 0 H;exact Jy H rfl (fun w' H'=>⟨b5,rfl,Ro b1 b2 b3 (S:=fun _ _=>False) (T:=fun _ _=>False) (by simp[QY]) (by simp[QY]) H'⟩)
theorem Tv (o:Option Int):W8 (.int .i64 0) v1 o = .int .i64 (o.getD 0):=by cases o <;> rfl
theorem Tw [Q4] (p:Nat) (m:List (Rf×Int)) (r:Rf) {w:World} {fr:List Q2} (H:Q0 w (RS p m::fr)) :
  Calls Tryz.prog 106 #[pp p,rf r] w (ret fun v w'=>v = .tuple #[.int .i64 ((QY m r).getD 0),.bool (QY m r).isSome]∧Q0 w' (RS p m::fr)):=by
 obtain⟨a,b⟩:=r;refine QQ Tryz.func106 rfl (by kernel_rfl) ?_;obtain⟨bt,bo,bf,H⟩:=Al H;refine J7 H ?_;clear H;intro b3 w H;refine Dx H ?_;refine J1 H ?_;clear H;intro w H;refine XA H ?_;refine VB 4 [] H rfl (Q7.none rfl) rfl (by repeat first|exact .nil _|apply Q9.cons rfl) (by kernel_rfl) ?_;refine Xl 5 [] (key:=(a,b)) H rfl (Q7.none rfl) rfl rfl Rc (by kernel_rfl) ?_;rw[Tv];refine Bo H ?_;refine Ja 10 ?_;refine Jx H ?_;refine WJ H ?_;refine Q3 (Jy (Ro bt bo bf (fun _ _=>Iff.rfl) (fun _ _=>Iff.rfl) H.drop) rfl fun w' H'=>⟨rfl,H'⟩)
theorem CC [Q4] (p:Nat) (m:List (Rf×Int)) (hm:(m.map (·.1)).Nodup) (r:Rf) {w:World} {fr:List Q2} (H:Q0 w (RS p m::fr)) :
  Calls Tryz.prog 45 #[pp p,rf r] w (ret fun v w'=>v = .bool (QY m r).isSome∧Q0 w' (RS p (QC m r)::fr)):=by
 obtain⟨a,b⟩:=r;refine QQ Tryz.func45 rfl (by kernel_rfl) ?_;refine J7 H ?_;clear H;intro b3 w H;refine KM H ?_;refine Jc rfl rfl (Tw p m (a,b) H.swap) ?_;clear H;rintro v w ⟨rfl,H⟩;refine UV H ?_;cases hf:QY m (a,b) with
 | none=>
  refine YC H ?_;rw[BX (W6.1 hf)];refine Q3 (Jy H.swap.drop rfl fun w' H'=>⟨rfl,H'⟩)
 | some t=>
  refine V4 H ?_;obtain⟨bt,bo,bf,H⟩:=Al H;refine J1 H ?_;clear H;intro w H;refine Dy H ?_;refine Xk (key:=(a,b)) H rfl rfl Rc rfl ?_;clear H;intro w H;refine Jx H ?_;replace H:=Js [2,0,0,0,0] 0 H;refine J1 H ?_;clear H;intro w H;refine Bt H ?_;refine Ja 4 ?_;refine Bu H ?_;refine Jk rfl rfl (MF bo _ t (a,b) H) ?_;clear H;intro v w H;refine Jx H ?_;replace H:=Js [3,0,0,0,0] 0 H;refine J1 H ?_;clear H;intro w H;refine Ja 0 ?_;refine Ja 1 ?_;refine Jf 2 ?_;refine Jl 3 [7] H ?_;refine Jf 4 ?_;refine Jl 5 [7] H ?_;refine Dz H ?_;refine Jk rfl rfl (MF bf _ a (a,b) H) ?_;clear H;intro v w H;refine Bj H ?_;replace H:=Js [2,2,1,0] 1 H;refine Q3 (Jy (Ro bt bo bf (fun k r=>?_) (fun k r=>?_) H) rfl fun w' H'=>⟨rfl,H'⟩)
  ·rw[Xh hm];split
   ·rename_i e;subst e;rw[hf];simp;rintro rfl;rfl
   ·rename_i e;exact⟨(·.1),fun h=>⟨h,fun e'=>e e'.2.symm⟩⟩
  ·rw[Xh hm];split
   ·rename_i e;subst e;simp;rintro rfl _;rfl
   ·rename_i e;exact⟨(·.1),fun h=>⟨h,fun e'=>e e'.2.symm⟩⟩
theorem Mp [Q4] (p:Nat) (m:List (Rf×Int)) (hm:(m.map (·.1)).Nodup) (r:Rf) (t:Int) {w:World} {fr:List Q2} (H:Q0 w (RS p m::fr)) :
  Calls Tryz.prog 211 #[pp p,rf r,.int .i64 t] w (ret fun v w'=>v = .bool (!(QY m r).isSome)∧Q0 w' (RS p (Vw (QC m r) r t)::fr)):=by
 obtain⟨a,b⟩:=r;refine QQ Tryz.func211 rfl (by kernel_rfl) ?_;refine J7 H ?_;clear H;intro b4 w H;refine AD H ?_;refine Gv H ?_;refine Jc rfl rfl (CC p m hm (a,b) H.swap) ?_;clear H;rintro v w ⟨rfl,H⟩;refine J0 H ?_;obtain⟨bt,bo,bf,H⟩:=Al H;refine J1 H ?_;clear H;intro w H;refine Bt H ?_;refine E0 H ?_;refine Ja 5 ?_;refine Jo 6 H ?_;refine Xj (key:=(a,b)) (v:=t) H rfl rfl rfl Rc rfl ?_;clear H;intro w H;refine Jx H ?_;replace H:=Js [2,0,0,0,0] 0 H;refine J1 H ?_;clear H;intro w H;refine Bt H ?_;refine Ja 4 ?_;refine Bu H ?_;refine Jk rfl rfl (MH bo _ t (a,b) H) ?_;clear H;intro v w H;refine Jx H ?_;replace H:=Js [3,0,0,0,0] 0 H;refine J1 H ?_;clear H;intro w H;refine Ja 0 ?_;refine Ja 1 ?_;refine Jf 2 ?_;refine Jl 3 [7] H ?_;refine Jf 4 ?_;refine Jl 5 [7] H ?_;refine Dz H ?_;refine Jk rfl rfl (MH bf _ a (a,b) H) ?_;clear H;intro v w H;refine Jx H ?_;refine VX H ?_;replace H:=Js [2,2,1,0] 1 H;have hn:=Xh hm (x:=(a,b)) (y:=(a,b));rw[if_pos rfl] at hn;refine Q3 (Jy (Ro bt bo bf (fun k r=>?_) (fun k r=>?_) H) rfl fun w' H'=>⟨rfl,H'⟩)
 ·rw[UC];split
  ·rename_i e;subst e;rw[hn];simp;exact eq_comm
  ·rename_i e;exact⟨fun h=>h.elim id fun e'=>absurd e'.2.symm e,.inl⟩
 ·rw[UC];split
  ·rename_i e;subst e;rw[hn];simp;exact eq_comm
  ·rename_i e;exact⟨fun h=>h.elim id fun e'=>absurd e'.2.symm e,.inl⟩
def Qf (p last:Nat) (par:List (Int×Int)):Q2:=ex fun b:Nat=>star [pts p (row 114 [.map (some b),.int .i64 last]),mp (ki .i64) v1 b par]
theorem Kc [Q4] {w:World} {p last:Nat} {par:List (Int×Int)} {l:List Q2} (H:Q0 w (Qf p last par::l)):∃ b,Q0 w (pts p (row 114 [.map (some b),.int .i64 last])::mp (ki .i64) v1 b par::l):=by
 obtain⟨b,H⟩:=Q0.ex.1 H;exact⟨b,Q0.star.1 H⟩
theorem K1 [Q4] {w:World} {p last b:Nat} {par:List (Int×Int)} {l:List Q2} (H:Q0 w (pts p (row 114 [.map (some b),.int .i64 last])::mp (ki .i64) v1 b par::l)):Q0 w (Qf p last par::l):=
 Q0.ex.2 ⟨b,Q0.star.2 H⟩
theorem Mq [Q4] {w:World} {p last:Nat} {par:List (Int×Int)} {l:List Q2} (H:Q0 w (Qf p last par::l)):(par.map (·.1)).Nodup:=by
 obtain⟨b,H⟩:=Kc H;exact Kb b H
theorem Tx [Q4] {w:World} {fr:List Q2} (H:Q0 w fr):Calls Tryz.prog 73 #[] w (ret fun v w'=>∃ p,v=pp p∧Q0 w' (Qf p 0 []::fr)):=by
 refine QQ Tryz.func73 rfl (by kernel_rfl) ?_;refine Bs H ?_;refine Q5 rfl (R3 v1 (ki .i64) H rfl ?_);clear H;intro b1 w H;refine XW H ?_;clear H;intro b3 w H;refine J0 H ?_;exact Q3 (Jy H rfl fun w' H'=>⟨_,rfl,K1 H'⟩)
theorem Ev [Q4] (p last:Nat) (par:List (Int×Int)) (id:Int) {w:World} {fr:List Q2} (H:Q0 w (Qf p last par::fr)) :
  Calls Tryz.prog 77 #[pp p,.int .i64 id] w (ret fun v w'=>v = .bool (QY par id).isSome∧Q0 w' (Qf p last par::fr)):=by
 obtain⟨b,H⟩:=Kc H;refine QQ Tryz.func77 rfl (by kernel_rfl) ?_;refine WL H ?_;refine Q5 rfl (G0 (key:=id) H rfl rfl Vf rfl ?_);refine WC H ?_;refine Up rfl rfl ?_;refine YY H ?_;exact Q3 (Jy (K1 H) rfl fun w' H'=>⟨rfl,H'⟩)
theorem Tz [Q4] (p last:Nat) (par:List (Int×Int)) {w:World} {fr:List Q2} (H:Q0 w (Qf p last par::fr)) :
  Calls Tryz.prog 120 #[pp p] w (ret fun v w'=>v = .int .i64 par.length∧Q0 w' (Qf p last par::fr)):=by
 obtain⟨b,H⟩:=Kc H;refine QQ Tryz.func120 rfl (by kernel_rfl) ?_;refine RX H ?_;refine Q5 rfl (Fw (ki .i64) v1 H rfl rfl ?_);refine J0 H ?_;exact Q3 (Jy (K1 H) rfl fun w' H'=>⟨rfl,H'⟩)
theorem Hu [Q4] (p last:Nat) (par:List (Int×Int)) (id:Int) {w:World} {fr:List Q2} (H:Q0 w (Qf p last par::fr)) :
  Calls Tryz.prog 30 #[pp p,.int .i64 id] w (ret fun v w'=>v = .int .i64 (if (QY par id).isSome then 0 else 6)∧Q0 w' (Qf p last par::fr)):=by
 refine QQ Tryz.func30 rfl (by kernel_rfl) ?_;refine J8 H ?_;refine Y4 (fun ms σ w=>ms=[]∧(QY par id).isSome=true∧Q0 w (Qf p last par::fr)) ?_ ?_
 ·refine Dv H ?_;refine Jc rfl rfl (Ev p last par id H) ?_;clear H;rintro v w ⟨rfl,H⟩;cases hf:(QY par id).isSome with
  | true=>
   refine WE H ?_;exact .inl ⟨rfl,rfl,rfl,H⟩
  | false=>
   refine E1 H ?_;exact Q3 (.inr ⟨by simp,Jy H rfl fun w' H'=>⟨rfl,H'⟩⟩)
 ·clear H;rintro ms σ w ⟨rfl,hf,H⟩;rw[hf];refine VF H ?_;exact Q3 (Jy H rfl fun w' H'=>⟨rfl,H'⟩)
def Z7 (par:List (Int×Int)) (parent:Int):Nat:=if parent≠0∧(QY par parent).isSome=false then 6 else if par.length=64 then 5 else 0
theorem Mr [Q4] (p last:Nat) (par:List (Int×Int)) (parent:Int) (hlast:last < 1000000) (hup:∀ r q,(r,q)∈par→r≤(last:Int)) {w:World} {fr:List Q2} (H:Q0 w (Qf p last par::fr)) :
  Calls Tryz.prog 57 #[pp p,.int .i64 parent] w (ret fun v w'=>(Z7 par parent≠0∧v = .tuple #[.int .i64 0,.int .i64 (Z7 par parent)]∧Q0 w' (Qf p last par::fr)) ∨
   (Z7 par parent=0∧v = .tuple #[.int .i64 ((last+1:Nat):Int),.int .i64 0]∧Q0 w' (Qf p (last+1) (par++[(((last+1:Nat):Int),parent)])::fr))):=by
 refine QQ Tryz.func57 rfl (by kernel_rfl) ?_;refine Bk H ?_;refine Y4 (fun ms σ w=>ms=[]∧Z7 par parent=0∧σ 0=pp p∧σ 1 = .int .i64 parent∧Q0 w (Qf p last par::fr)) ?_ ?_
 ·refine RK H ?_;refine J6 H ?_;refine Qk (fun ms σ w=>ms=[]∧(∃ q,σ 9 = .bool q∧(q=true↔parent≠0∧(QY par parent).isSome=false))∧σ 0=pp p∧σ 1 = .int .i64 parent∧Q0 w (Qf p last par::fr)) ?_ ?_
  ·refine J9 H ?_;by_cases h0:parent=0
   ·rw[show (parent != 0)=false by simpa using h0];refine E2 H ?_;refine J3 H ?_;exact⟨rfl,rfl,⟨false,rfl,by simp[h0]⟩,rfl,rfl,H⟩
   ·rw[show (parent != 0)=true by simpa using h0];refine UQ H ?_;refine QT rfl rfl rfl (Qy (a:=[]) (b:=[]) rfl rfl (call (Ev p last par parent H) ?_));clear H;rintro v w ⟨rfl,H⟩;refine Xp H ?_;exact⟨rfl,rfl,⟨!(QY par parent).isSome,rfl,by simp[h0]⟩,rfl,rfl,H⟩
  ·clear H;rintro ms σ w ⟨rfl,⟨q,g9,hq⟩,g0,g1,H⟩;rw[Q1 g9,Q1 g0,Q1 g1];cases q with
   | true=>
    have he:Z7 par parent=6:=by unfold Z7;rw[if_pos (hq.1 rfl)]
    refine Yc H ?_;exact Q3 (.inr ⟨by simp,Jy H rfl fun w' H' => .inl ⟨by omega,by rw[he];rfl,H'⟩⟩)
   | false=>
    have hq':¬ (parent≠0∧(QY par parent).isSome=false):=fun h=>by have:=hq.2 h;cases this
    obtain⟨b,H⟩:=Kc H;refine Bv H ?_;refine Yk H ?_;refine Q5 rfl (Fw (ki .i64) v1 H rfl rfl ?_);refine J3 H ?_;by_cases h64:par.length=64
    ·have he:Z7 par parent=5:=by unfold Z7;rw[if_neg hq',if_pos h64]
     rw[show ((par.length:Int) == 64)=true by simp;omega];refine Yc H ?_;exact Q3 (.inr ⟨by simp,Jy (K1 H) rfl fun w' H' => .inl ⟨by omega,by rw[he];rfl,H'⟩⟩)
    ·have he:Z7 par parent=0:=by unfold Z7;rw[if_neg hq',if_neg h64]
     rw[show ((par.length:Int) == 64)=false by simp;omega];refine V4 H ?_;exact .inl ⟨rfl,rfl,he,rfl,rfl,K1 H⟩
 ·clear H;rintro ms σ w ⟨rfl,he,g0,g1,H⟩;rw[Q1 g0,Q1 g1];obtain⟨b,H⟩:=Kc H;refine V2 H ?_;rw[Qb (x:=((last:Nat):Int)+1) (by omega) (by omega),show ((last:Nat):Int)+1=((last+1:Nat):Int) by omega];refine GL H ?_;clear H;intro w H;refine J2 H ?_;refine J1 H ?_;clear H;intro w H;refine E3 H ?_;refine E4 H ?_;refine Jl 7 [9] H ?_;refine Ja 8 ?_;refine Jo 9 H ?_;refine Xj (v:=parent) (key:=((last+1:Nat):Int)) H rfl rfl rfl Vf rfl ?_;clear H;intro w H;refine Jx H ?_;refine Yk H ?_;refine J3 H ?_
  rw[Xg (fun h=>by
   obtain⟨⟨a,q⟩,hm,h1⟩:=mem_map.1 h;have h1:a=((last+1:Nat):Int):=h1;have:=hup a q hm;omega)] at H
  exact Q3 (Jy (K1 H) rfl fun w' H' => .inr ⟨he,rfl,H'⟩)
structure Q8 where
 addr:Nat
 region:Int
 held:Bool
 pinned:Bool
 lay:Nat
 count:Nat
 ws:List Nat
structure QK where
 gen:Nat
 ent:Option Q8
def QS (ts:List QK) (i g:Int):Option (Nat×Q8):=
 if 0≤i then
  match ts[i.toNat]? with
  | some ⟨n,some e⟩=>if (n:Int)=g then some (i.toNat,e) else none
  | _=>none
 else none
theorem Y9 {ts:List QK} {i g:Int} {k:Nat} {e:Q8}:QS ts i g=some (k,e)↔∃ n:Nat,i=k∧g=n∧ts[k]? = some ⟨n,some e⟩:=by
 unfold QS;constructor
 ·intro h;split at h
  ·rename_i h0;split at h
   ·rename_i n e' he;split at h
    ·rename_i hn;injection h with h
     injection h with h1 h2
     subst h1 h2;exact⟨n,by omega,hn.symm,he⟩
    ·cases h
   ·cases h
  ·cases h
 ·rintro⟨n,rfl,rfl,h⟩;rw[if_pos (by omega)];simp only[Int.toNat_natCast,h];rw[if_pos trivial]
def Qn (ts:List QK) (i g:Int):Option (Nat×Q8):=
 match QS ts i g with
 | some (k,e)=>if e.held then some (k,e) else none
 | none=>none
theorem XJ {ts:List QK} {i g:Int} {k:Nat} {e:Q8}:Qn ts i g=some (k,e)↔QS ts i g=some (k,e)∧e.held=true:=by
 unfold Qn;cases h:QS ts i g with
 | none=>simp
 | some q=>
  obtain⟨k',e'⟩:=q;simp only;split
  ·rename_i hh;constructor
   ·intro h1;cases h1;exact⟨rfl,hh⟩
   ·rintro⟨h1,_⟩;exact h1
  ·rename_i hh;constructor
   ·intro h1;cases h1
   ·rintro⟨h1,h2⟩;cases h1;exact absurd h2 hh
structure QF where
 parts:List (Nat×Nat)
 at':Nat
 fin:Nat
def QR (l:List (Nat×Nat)):List Nat:=l.flatMap fun p=>(List.range p.2).map (p.1+·)
structure CS where
 size:Nat
 own:List Nat
 lays:List QL
 tab:List QK
 last:Nat
 par:List (Int×Int)
 rem:List ((Int×Int)×Int)
 sps:List (Int×Nat×QF)
 mns:List (Int×Nat×List Nat)
structure X4 (lays:List QL) (i:Nat) (e:Q8):Prop where
 may:Xz e.lay e.count i
 lay:∃ l,lays[e.lay - 1]? = some l∧Vh l∧VQ l e.count=(e.ws.length,0)∧∀ p w,e.ws[p]? = some w→w < 18446744073709551616∧(VV l p=true→∃ k,G7 k∧w=VG k)
def QN (e:Q8):Nat:=e.addr+1+e.ws.length
def Zr (size:Nat) (own:List Nat) (e:Q8):Prop:=QN e≤own.length*size∧∀ c,e.addr / size≤c→c≤(e.addr+e.ws.length) / size→∃ r:Nat,own[c]? = some r∧(r:Int)=e.region∧1≤r
structure GO (size:Nat) (own:List Nat) (r:Int) (S:QF):Prop where
 at1:S.at'≤S.fin
 fin:S.fin≠0→∃ c,S.fin=(c+1)*size∧c*size < S.at'∧(c,1)∈S.parts
 parts:∀ p∈S.parts,1≤p.2∧p.1+p.2≤own.length
 nodup:(QR S.parts).Nodup
 owned:∀ c,c∈QR S.parts↔∃ q:Nat,own[c]? = some q∧(q:Int)=r∧q≠0
structure WF (s:CS):Prop where
 size:1≤s.size∧s.size≤1024
 own:1≤s.own.length∧s.own.length≤63
 slots:1≤s.tab.length∧s.tab.length≤63
 lays:s.lays.length≤64∧∀ l∈s.lays,Vh l
 gen:∀ (i:Nat) (t:QK),s.tab[i]? = some t→t.gen≤255∧(t.ent.isSome=true→1≤t.gen)
 obj:∀ (i g:Nat) (e:Q8),s.tab[i]? = some ⟨g,some e⟩→X4 s.lays i e∧Zr s.size s.own e∧(∃ q,(e.region,q)∈s.par)
 apart:∀ (i j g h:Nat) (e f:Q8),i≠j→s.tab[i]? = some ⟨g,some e⟩→s.tab[j]? = some ⟨h,some f⟩→QN e≤f.addr∨QN f≤e.addr
 par:s.par.length≤64∧s.last < 1000000∧∀ r q,(r,q)∈s.par→1≤r∧r≤s.last
 skeys:s.sps.map (·.1)=s.par.map (·.1)
 mkeys:s.mns.map (·.1)=s.par.map (·.1)
 spc:∀ x∈s.sps,GO s.size s.own x.1 x.2.2
 free:∀ x∈s.sps,∀ (i g:Nat) (e:Q8),s.tab[i]? = some ⟨g,some e⟩→QN e≤x.2.2.at'∨x.2.2.fin≤e.addr
 live:∀ (c r:Nat),s.own[c]? = some r→r≠0→∃ q,((r:Int),q)∈s.par
 mine:∀ x∈s.mns,x.2.2.Pairwise (· < ·)∧∀ i,i∈x.2.2↔∃ g e,s.tab[i]? = some ⟨g,some e⟩∧e.region=x.1
structure VT (s:CS) (mem:List Nat):Prop where
 len:mem.length=s.own.length*s.size
 head:∀ (i g:Nat) (e:Q8),s.tab[i]? = some ⟨g,some e⟩→mem[e.addr]? = some (G6 e.lay e.count i)
 words:∀ (i g:Nat) (e:Q8),s.tab[i]? = some ⟨g,some e⟩→∀ (p w:Nat),e.ws[p]? = some w→mem[e.addr+1+p]? = some w
theorem Qz {ts:List QK} {i j:Nat} {t u:QK} (h:(ts.set i t)[j]? = some u):(j=i∧u=t∧i < ts.length)∨(j≠i∧ts[j]? = some u):=by
 rw[getElem?_set] at h;by_cases hij:i=j
 ·subst hij;rw[if_pos rfl] at h;split at h
  ·rename_i hl;injection h with h
   exact .inl ⟨rfl,h.symm,hl⟩
  ·cases h
 ·rw[if_neg hij] at h;exact .inr ⟨fun e=>hij e.symm,h⟩
structure Kd (e e':Q8):Prop where
 addr:e'.addr=e.addr
 region:e'.region=e.region
 lay:e'.lay=e.lay
 count:e'.count=e.count
 len:e'.ws.length=e.ws.length
theorem Kd.end {e e':Q8} (h:Kd e e'):QN e'=QN e:=by unfold QN;rw[h.addr,h.len]
theorem Kd.lies {e e':Q8} (h:Kd e e') {size:Nat} {own:List Nat} (l:Zr size own e):Zr size own e':=by
 unfold Zr at *;rw[h.end,h.addr,h.len,h.region];exact l
def VO (s:CS) (i g:Nat) (e:Q8):CS:={ s with tab:=s.tab.set i ⟨g,some e⟩ }
theorem Ew {s:CS} (h:WF s) {i g:Nat} {e e':Q8} (hi:s.tab[i]? = some ⟨g,some e⟩) (a:Kd e e') (ok:X4 s.lays i e'):WF (VO s i g e'):=by
 have ho:=h.obj i g e hi;refine⟨h.size,h.own,by show 1≤(s.tab.set _ _).length∧(s.tab.set _ _).length≤63;rw[length_set];exact h.slots,h.lays,?_,?_,?_,h.par,h.skeys,h.mkeys,h.spc,?_,h.live,?_⟩
 ·intro j t hj
  rcases Qz hj with ⟨rfl,rfl,_⟩|⟨_,hj⟩
  ·exact⟨(h.gen _ _ hi).1,fun _=>(h.gen _ _ hi).2 rfl⟩
  ·exact h.gen _ _ hj
 ·intro j k f hj
  rcases Qz hj with ⟨rfl,ht,_⟩|⟨_,hj⟩
  ·injection ht with h1 h2
   injection h2 with h2
   subst h1 h2;exact⟨ok,a.lies ho.2.1,by rw[a.region];exact ho.2.2⟩
  ·exact h.obj _ _ _ hj
 ·intro j k m n f f' hne hj hk
  rcases Qz hj with ⟨rfl,ht,_⟩|⟨hji,hj'⟩ <;> rcases Qz hk with ⟨rfl,hu,_⟩|⟨hki,hk'⟩
  ·exact absurd rfl hne
  ·injection ht with h1 h2
   injection h2 with h2
   subst h1 h2;rw[a.end,a.addr];exact h.apart _ _ _ n _ _ hne hi hk'
  ·injection hu with h1 h2
   injection h2 with h2
   subst h1 h2;rw[a.end,a.addr];exact h.apart _ _ m _ _ _ hne hj' hi
  ·exact h.apart _ _ _ _ _ _ hne hj' hk'
 ·intro x hx j k f hj
  rcases Qz hj with ⟨rfl,ht,_⟩|⟨_,hj⟩
  ·injection ht with h1 h2
   injection h2 with h2
   subst h1 h2;rw[a.end,a.addr];exact h.free x hx _ _ _ hi
  ·exact h.free x hx _ _ _ hj
 ·intro x hx;obtain⟨h1,h2⟩:=h.mine x hx;refine⟨h1,fun j=>?_⟩;rw[h2];have hil:i < s.tab.length:=(List.getElem?_eq_some_iff.1 hi).1;constructor
  ·rintro⟨m,f,hj,hf⟩;by_cases hij:j=i
   ·subst hij;rw[hi] at hj;cases hj;exact⟨g,e',by show (s.tab.set _ _)[_]? = _;simp[hil],by rw[a.region];exact hf⟩
   ·exact⟨m,f,by show (s.tab.set _ _)[_]? = _;rw[getElem?_set_ne (fun q=>hij q.symm)];exact hj,hf⟩
  ·rintro⟨m,f,hj,hf⟩
   rcases Qz hj with ⟨rfl,ht,_⟩|⟨_,hj⟩
   ·injection ht with h1 h2
    injection h2 with h2
    subst h1 h2;exact⟨_,_,hi,by rw[← a.region];exact hf⟩
   ·exact⟨m,f,hj,hf⟩
theorem Ms {s:CS} (h:WF s) {mem:List Nat} (m:VT s mem) {i g:Nat} {e e':Q8} (hi:s.tab[i]? = some ⟨g,some e⟩) (a:Kd e e') {mem':List Nat} (hl:mem'.length=mem.length)
  (hin:∀ (p w:Nat),e'.ws[p]? = some w→mem'[e.addr+1+p]? = some w) (hh:mem'[e.addr]? = mem[e.addr]?) (hout:∀ k,k < e.addr∨QN e≤k→mem'[k]? = mem[k]?):VT (VO s i g e') mem':=by
 refine⟨by rw[hl];exact m.len,?_,?_⟩
 ·intro j k f hj
  rcases Qz hj with ⟨rfl,ht,_⟩|⟨hji,hj⟩
  ·injection ht with h1 h2
   injection h2 with h2
   subst h1 h2;rw[a.addr,a.lay,a.count,hh];exact m.head _ _ _ hi
  ·have:=h.apart _ _ _ _ _ _ hji hj hi;rw[hout _ (by unfold QN at this ⊢;omega)];exact m.head _ _ _ hj
 ·intro j k f hj p w hw
  rcases Qz hj with ⟨rfl,ht,_⟩|⟨hji,hj⟩
  ·injection ht with h1 h2
   injection h2 with h2
   subst h1 h2;rw[a.addr];exact hin p w hw
  ·have:=h.apart _ _ _ _ _ _ hji hj hi;have hp:=(List.getElem?_eq_some_iff.1 hw).1;rw[hout _ (by unfold QN at this ⊢;omega)];exact m.words _ _ _ hj p w hw
theorem Hw {s:CS} (h:WF s) {mem:List Nat} (m:VT s mem) {i g:Nat} {e:Q8} (hi:s.tab[i]? = some ⟨g,some e⟩) {p x:Nat} (hp:p < e.ws.length):VT (VO s i g { e with ws:=e.ws.set p x }) (mem.set (e.addr+1+p) x):=by
 have hend:QN e≤mem.length:=by rw[m.len];exact(h.obj i g e hi).2.1.1
 refine Ms (e':={ e with ws:=e.ws.set p x }) h m hi ⟨rfl,rfl,rfl,rfl,by show (e.ws.set p x).length=_;simp⟩ (by simp) ?_ ?_ ?_
 ·intro q w hw;have hw:(e.ws.set p x)[q]? = some w:=hw;rw[getElem?_set] at hw;by_cases hpq:p=q
  ·subst hpq;rw[if_pos rfl,if_pos hp] at hw;injection hw with hw
   subst hw;rw[getElem?_set_self (by unfold QN at hend;omega)]
  ·rw[if_neg hpq] at hw;rw[getElem?_set_ne (by omega)];exact m.words _ _ _ hi q w hw
 ·rw[getElem?_set_ne (by omega)]
 ·intro k hk;rw[getElem?_set_ne (by unfold QN at hk;omega)]
theorem aQ {s:CS} (h:WF s) {mem:List Nat} (m:VT s mem) {i g:Nat} {e e':Q8} (hi:s.tab[i]? = some ⟨g,some e⟩) (a:Kd e e') (hw:e'.ws=e.ws):VT (VO s i g e') mem:=
 Ms h m hi a rfl (fun p w hp=>m.words _ _ _ hi p w (by rw[← hw];exact hp)) rfl (fun _ _=>rfl)
theorem aV {lays:List QL} {i:Nat} {e e':Q8} (h:X4 lays i e) (a:Kd e e') (hw:e'.ws=e.ws):X4 lays i e':=by
 obtain⟨m,l,h1,h2,h3,h4⟩:=h;exact⟨by rw[a.lay,a.count];exact m,l,by rw[a.lay];exact h1,h2,by rw[a.count,hw];exact h3,by rw[hw];exact h4⟩
theorem Hx {lays:List QL} {i:Nat} {e:Q8} (h:X4 lays i e) {l:QL} (hl:lays[e.lay - 1]? = some l) {p x:Nat} (hx:x < 18446744073709551616) (hr:VV l p=true→∃ k,G7 k∧x=VG k):X4 lays i { e with ws:=e.ws.set p x }:=by
 obtain⟨m,l',h1,h2,h3,h4⟩:=h;rw[hl] at h1;cases h1;refine⟨m,l,hl,h2,by simpa using h3,fun q w hw=>?_⟩;have hw:(e.ws.set p x)[q]? = some w:=hw;rw[getElem?_set] at hw;by_cases hpq:p=q
 ·subst hpq;rw[if_pos rfl] at hw;split at hw
  ·injection hw with hw
   subst hw;exact⟨hx,hr⟩
  ·cases hw
 ·rw[if_neg hpq] at hw;exact h4 q w hw
end Go.Proofs.YtbnnnljagkjpiaaGreatDoor
