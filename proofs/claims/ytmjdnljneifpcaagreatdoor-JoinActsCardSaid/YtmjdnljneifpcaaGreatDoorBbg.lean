/- Cells: what is proved on the way: every input of the statement; no condition. Texts joined: LayB LayC LayD LayE RefA RefB RemA RmB TreA CelP. -/
import Derived.Test.YtmjdnljneifpcaaGreatDoorBbe
import Derived.Test.YtmjdnljneifpcaaGreatDoorBbf
import Derived.Test.YtmjdnljneifpcaaGreatDoorBbc
set_option linter.unusedVariables false
set_option linter.unusedSimpArgs false
set_option linter.unusedSectionVars false
namespace Go.Proofs.YtmjdnljneifpcaaGreatDoor
open Go.SL
theorem V0z:∀ (l:List Nat) (lo size:Nat),(∀ p∈l,lo≤p∧p < size)→l.Pairwise (· < ·)→l.length≤size - lo
 | [],_,_,_,_=>Nat.zero_le _
 | a::l,lo,size,h,hp=>by
  rw[List.pairwise_cons] at hp;have h1:=V0z l (a+1) size (fun p hx=>⟨hp.1 p hx,(h p (List.mem_cons_of_mem _ hx)).2⟩) hp.2;have h2:=h a (List.mem_cons_self ..);simp only[List.length_cons];omega
theorem Z9s.len {l:List Nat} {n:Nat} (h:Z9s l n):l.length≤n:=by
 have:=V0z l 0 n (fun p hp=>⟨Nat.zero_le _,h.1 p hp⟩) h.2;omega
theorem Q2y.small {l:Lay} (h:Q2y l):Z4n l:=by
 obtain⟨h1,h2,_,h4,h5⟩:=h;have:=h4.len;have:=h5.len;exact⟨by omega,by omega,by omega,by omega⟩
def G4o:List Fl:=[(0,8),(8,8),(16,48)]
theorem U0j:G8r G4o:=by
 refine⟨?_,?_⟩
 ·intro f hf;simp[G4o] at hf
  rcases hf with rfl|rfl|rfl <;> simp[V6w]
 ·simp[G4o]
theorem Z6o [Q0i] {w:World} {fr:List Q0e} (H:Q0a w fr):Calls Tryz.prog 146 #[] w (ret fun v w'=>Q0a w' (FL v G4o::fr)):=by
 refine Q0c Tryz.func146 rfl (by kernel_rfl) ?_;refine U6k H ?_;refine J48 H ?_;refine U3o H ?_;clear H;intro b4 w H;refine J0 H ?_;exact Q0g (Jy (Q7u (len:=3) (by rfl) H) rfl fun w' H'=>H')
theorem V1a [Q0i] (vr vq:Value) (l:Lay) (hR:Q2y l) (count:Int) {w:World} {fr:List Q0e} (hr:RdL fr vr vq l) (H:Q0a w fr) :
  Calls Tryz.prog 89 #[V9c l.fixed vr l.record vq,.int .i64 count] w (ret fun x w'=>x = .tuple #[.int .i64 ((Q3q l count).1:Nat),.int .i64 ((Q3q l count).2:Nat)]∧Q0a w' fr):=by
 have hf:=hR.1;have hc:=hR.2.1;obtain⟨_,ad1,cap1,rfl,hr1⟩:=id hr.r;obtain⟨_,ad2,cap2,rfl,hr2⟩:=id hr.q;refine Q0c Tryz.func89 rfl (by kernel_rfl) ?_;refine J8 H ?_;clear H;intro b2 w H;refine J84 H ?_;refine Q2s (fun ms σ w=>ms=[]∧(0≤count∧count≤1024∧(count > 0→l.record≠0))∧σ 1 = .int .i64 count∧σ 2=pp b2∧Q0a w (pts b2 (row 102 [.int .i64 l.fixed,.slice ad1 l.refs.length cap1,.int .i64 l.record,.slice ad2 l.recs.length cap2])::fr)) ?_ ?_
 ·refine Q0t ?_;refine J36 H ?_;refine Jc rfl rfl (V2p _ _ l hR.small hr.there H) ?_;clear H;rintro v w ⟨⟨b,rfl,hb⟩,H⟩;obtain rfl:=hb.2 hR;refine J85 H ?_;refine J15 H ?_;by_cases c0:count < 0
  ·have hs:Q3q l count=(0,3):=by unfold Q3q;rw[if_pos (by omega)]
   rw[show decide (count < 0)=true from decide_eq_true (by omega)];refine G8i H ?_;refine U6y H ?_;refine U6z H ?_;refine J28 H ?_;exact Q0g (.inr ⟨by simp,Jy H.drop rfl fun w' H'=>⟨by rw[hs];rfl,H'⟩⟩)
  ·rw[show decide (count < 0)=false from decide_eq_false (by omega)];refine J33 H ?_;by_cases c1:count > 1024
   ·have hs:Q3q l count=(0,3):=by unfold Q3q;rw[if_pos (by omega)]
    rw[show decide (count > 1024)=true from decide_eq_true (by omega)];refine U6y H ?_;refine U6z H ?_;refine J28 H ?_;exact Q0g (.inr ⟨by simp,Jy H.drop rfl fun w' H'=>⟨by rw[hs];rfl,H'⟩⟩)
   ·rw[show decide (count > 1024)=false from decide_eq_false (by omega)];refine Jv ?_;refine Jv ?_;refine Q2q rfl rfl rfl rfl ?_;refine Q2q rfl rfl rfl rfl ?_;by_cases c2:count > 0
    ·rw[show decide (count > 0)=true from decide_eq_true (by omega)];refine U7a H ?_;by_cases c3:l.record=0
     ·have hs:Q3q l count=(0,3):=by unfold Q3q;rw[if_pos (by omega)]
      rw[show ((l.record:Int) == 0)=true by simp;omega];refine J71 H ?_;refine J28 H ?_;exact Q0g (.inr ⟨by simp,Jy H.drop rfl fun w' H'=>⟨by rw[hs];rfl,H'⟩⟩)
     ·rw[show ((l.record:Int) == 0)=false by simp;omega];refine J71 H ?_;refine J9 H ?_;exact .inl ⟨rfl,rfl,⟨by omega,by omega,fun _=>c3⟩,rfl,rfl,H⟩
    ·rw[show decide (count > 0)=false from decide_eq_false (by omega)];refine J25 H ?_;refine G8j H ?_;refine J71 H ?_;refine J9 H ?_;exact .inl ⟨rfl,rfl,⟨by omega,by omega,fun h=>absurd h c2⟩,rfl,rfl,H⟩
 ·clear H;rintro ms σ w ⟨rfl,⟨c0,c1,c2⟩,g1,g2,H⟩;rw[Q0b g1,Q0b g2];obtain⟨c,rfl⟩:∃ c:Nat,count=c:=⟨count.toNat,by omega⟩;have hcm:c*l.record≤1024*64:=Nat.mul_le_mul (by omega) hc;have hcm2:(c:Int)*(l.record:Int)=((c*l.record:Nat):Int):=(Int.natCast_mul _ _).symm;refine G8c H ?_;refine U7b H ?_;refine J22 H ?_;rw[hcm2,Q1e (x:=((c*l.record:Nat):Int)) (by omega) (by omega),Q1e (x:=(l.fixed:Int)+((c*l.record:Nat):Int)) (by omega) (by omega)];by_cases c3:l.fixed+c*l.record≥8192
  ·have hs:Q3q l (c:Int)=(0,10):=by unfold Q3q;rw[if_neg (by omega),if_pos (by simpa using c3)]
   rw[show decide ((l.fixed:Int)+((c*l.record:Nat):Int)≥8192)=true from decide_eq_true (by omega)];refine J28 H ?_;exact Q0g (Jy H.drop rfl fun w' H'=>⟨by rw[hs];rfl,H'⟩)
  ·have hs:Q3q l (c:Int)=(l.fixed+c*l.record,0):=by unfold Q3q;rw[if_neg (by omega),if_neg (by simpa using c3)];simp
   rw[show decide ((l.fixed:Int)+((c*l.record:Nat):Int)≥8192)=false from decide_eq_false (by omega)];refine U2c H ?_;exact Q0g (Jy H.drop rfl fun w' H'=>⟨by rw[hs];show Value.tuple #[.int .i64 ((l.fixed:Int)+((c*l.record:Nat):Int)),_]=_;rw[← Int.natCast_add];rfl,H'⟩)
theorem Q9g [Q0i] (v:Value) (l:List Nat) (hl:l.length≤1000000) {w:World} {fr:List Q0e} (hr:RdS fr v l.length 1 (Q0u l)) (H:Q0a w fr) :
  Calls Tryz.prog 118 #[v] w (ret fun x w'=>Q0a w' (NL x l::fr)):=by
 obtain⟨hr1,ad,cap,rfl,hr'⟩:=id hr;refine Q0c Tryz.func118 rfl (by kernel_rfl) ?_;refine J63 H ?_;refine Q0s rfl (Y4n rfl rfl (.inl rfl) rfl ?_);refine Q0h ?_;cases ad with
 | none=>
  have h0:l.length=0:=by
   rcases hr' with h|⟨b,o,E,fz,c,h,_⟩
   ·exact h
   ·cases h
  have hn:l=[]:=List.eq_nil_of_length_eq_zero h0;subst hn;refine J21 H ?_;exact Q0g (Jy (Q3x H) rfl fun w' H'=>H')
 | some ad=>
  refine J9 H ?_;refine J39 H ?_;refine Q0s rfl (Y1l H rfl ?_);clear H;intro b5 w H;refine Jv ?_;refine Q0s rfl (V5h H rfl rfl hr (by simp[Q0u,List.all_eq_true,Value.oneCell']) (by rw[Q0d];simp only[List.length_nil];omega) rfl rfl ?_);clear H;intro v7 w H;refine J52 H ?_;exact Q0g (Jy H rfl fun w' H'=>H')
theorem Z4o [Q0i] (vr vq:Value) (l:Lay) (hs:Z4n l) {w:World} {fr:List Q0e} (hr:RdL fr vr vq l) (H:Q0a w fr) :
  Calls Tryz.prog 149 #[V9c l.fixed vr l.record vq] w (ret fun x w'=>∃ vr' vq',x=V9c l.fixed vr' l.record vq'∧Q0a w' (NL vr' l.refs::NL vq' l.recs::fr)):=by
 obtain⟨_,ad1,cap1,rfl,hr1⟩:=id hr.r;obtain⟨_,ad2,cap2,rfl,hr2⟩:=id hr.q;refine Q0c Tryz.func149 rfl (by kernel_rfl) ?_;refine J8 H ?_;clear H;intro b1 w H;refine J12 H ?_;clear H;intro b2 w H;refine Q0h ?_;refine J1 H ?_;clear H;intro w H;refine Jf 0 ?_;refine Jl 1 [2,5,7,9] H ?_;refine Jf 3 ?_;refine Jl 4 [5,7,9] H ?_;refine Jo 2 H ?_;refine Jk rfl rfl (Q9g _ l.refs hs.a hr.r.there.there H) ?_;clear H;rintro v5 w H;obtain⟨a5,m5,c5,rfl⟩:=Q1d H;refine Jf 6 ?_;refine Jo 5 H ?_;refine Jk rfl rfl (Q9g _ l.recs hs.b hr.q.there.there.there H) ?_;clear H;rintro v8 w H;obtain⟨a8,m8,c8,rfl⟩:=Q1d H
 refine Jo 7 H ?_;refine J55 H ?_;clear H;intro w H;refine Jf 8 ?_;refine Jo 9 H ?_;refine J55 H ?_;clear H;intro w H;refine Jx H ?_;refine J87 H ?_;clear H;intro w H;refine Q0h ?_;replace H:=Js [2,1,0] 1 H;exact Q0g (Jz H (fun w' H' => .cellN H' rfl (by repeat first|exact .nil _|apply Q0o.cons rfl) .nil) fun w' H'=>⟨_,_,rfl,H'.drop⟩)
theorem Q8m [Q0i] (x:Nat) (hx:x < 18446744073709551616) {w:World} {fr:List Q0e} [hT:Q4t 0 Lib.deBruijn64tab fr] (H:Q0a w fr) :
  Calls Tryz.prog 147 #[.int .u64 x] w (ret fun v w'=>Q0a w' (NL v (Q2x x 64)::fr)):=by
 refine Q0c Tryz.func147 rfl (by kernel_rfl) ?_;refine U8y H ?_;refine Q1l (fun ms σ w n=>ms=[]∧∃ (k y:Nat) (g:Value),k≤64∧n=64 - k∧y < 18446744073709551616∧(∀ i,y.testBit i=(x.testBit i && decide (k≤i)))∧σ 0 = .int .u64 y∧σ 3=g∧Q0a w (NL g (Q2x x k)::fr)) (m:=64) ⟨rfl,0,x,_,by omega,rfl,hx,fun i=>by simp,rfl,rfl,Q3x H⟩ ?_;clear H;rintro ms σ w n ⟨rfl,k,y,g,hk,rfl,hy,hbit,g0,g3,H⟩;obtain⟨ag,mg,cg,rfl⟩:=Q1d H;rw[Q0b g0,Q0b g3];refine J3 H ?_;by_cases h0:y=0
 ·rw[show ((y:Int) != 0)=false by simp;exact h0];refine J7 H ?_;refine J91 H ?_
  have he:Q2x x 64=Q2x x k:=V5n (by omega) (fun i h1 h2=>by
   have:=hbit i;rw[h0,Nat.zero_testBit] at this;simpa [h1] using this.symm)
  rw[← he] at H;refine J3 H ?_;exact Q0g (Jy H rfl fun w' H'=>H')
 ·rw[show ((y:Int) != 0)=true by simp;exact h0];refine J7 H ?_;refine J74 H ?_;obtain⟨ht1,ht2,ht3⟩:=Y4y h0 hy;refine J90 H ?_;refine Jc rfl rfl (Z1n y hy H) ?_;clear H;rintro v w ⟨rfl,H⟩;refine J35 H ?_;clear H;intro b13 w H;generalize Lib.ctz 64 y=t at ht1 ht2 ht3 H;replace H:=Js [1,0] 0 H;refine Q0s rfl (Q1t H rfl rfl (by repeat first|exact .nil _|apply Q0o.cons rfl) rfl (by decide) (by rw[Q0d];have:=Q8i x k;simp only[List.length_cons,List.length_nil];omega) rfl rfl ?_);clear H;intro v14 w H;obtain⟨a14,m14,c14,rfl⟩:=Q1d H;refine J0 H ?_;have hb:=hbit t;rw[ht2] at hb;have hb1:x.testBit t=true∧k≤t:=by simpa using hb.symm
  have hcl:=G0v ht2 ht3;have hyl:y &&& (y - 1) < 18446744073709551616:=Nat.lt_of_le_of_lt Nat.and_le_left hy;refine J89 H ?_
  have e1:IntKind.u64.wrap ((y:Int) - 1)=((y - 1:Nat):Int):=by
   rw[show (y:Int) - 1=((y - 1:Nat):Int) by omega,Q4o (by omega)]
  rw[e1,Y4o hy (by omega)]
  have e2:Q2x x (t+1)=Q2x x k++[t]:=by
   rw[V0b,hb1.1,if_pos rfl,V5n hb1.2 (fun i h1 h2=>?_)];have h3:=ht3 i h2;rw[hbit i] at h3;simpa [h1] using h3
  refine⟨_,⟨rfl,t+1,y &&& (y - 1),_,by omega,rfl,hyl,fun i=>?_,rfl,rfl,?_⟩,by omega⟩
  ·rw[hcl,hbit i];by_cases h1:i < t
   ·have h3:=ht3 i h1;rw[hbit i] at h3;rw[h3,show decide (t+1≤i)=false by simp;omega];simp
   ·by_cases h2:i=t
    ·subst h2;simp
    ·rw[show decide (t+1≤i)=true by simp;omega,show decide (k≤i)=true by simp;omega];simp[h2]
  ·rw[e2];show Q0a w (sls _ 1 _ (Q0u (Q2x x k++[t]))::_);rw[Q3s];exact Q0a.drop H.swap
end Go.Proofs.YtmjdnljneifpcaaGreatDoor
namespace Go.Proofs.YtmjdnljneifpcaaGreatDoor
open Go.SL
theorem V1s (x y z:Nat):Q4k [x,y,z]=if x < 65536∧Q2y (Y7f x y z) then some (Y7f x y z) else none:=rfl
theorem Z6p [Q0i] (v:Value) (n:Nat) (hn:n≠3) (hv:∃ a c,v = .slice a n c) {w:World} {fr:List Q0e} (H:Q0a w fr) :
  Calls Tryz.prog 86 #[v] w (ret fun x w'=>x = .tuple #[V9c 0 (.slice none 0 0) 0 (.slice none 0 0),.int .i64 4]∧Q0a w' fr):=by
 obtain⟨a,c,rfl⟩:=hv;refine Q0c Tryz.func86 rfl (by kernel_rfl) ?_;refine J24 H ?_;clear H;intro b2 w H;refine U7c H ?_;rw[show ((n:Int) != 3)=true by simp;omega];refine U3t H ?_;clear H;intro w H;refine J0 H ?_;exact Q0g (Jz H (fun w' H' => .cellN H' rfl (by repeat first|exact .nil _|apply Q0o.cons rfl) (.tmp .nil)) fun w' H'=>⟨rfl,H'.drop⟩)
theorem Y7g [Q0i] (v:Value) (x y z:Nat) (hx:x < 18446744073709551616) (hy:y < 18446744073709551616) (hz:z < 18446744073709551616) {w:World} {fr:List Q0e} [hT:Q4t 0 Lib.deBruijn64tab fr] (hr:RdS fr v 3 1 (Q1b [x,y,z])) (H:Q0a w fr) :
  Calls Tryz.prog 86 #[v] w (ret fun r w'=>(Q4k [x,y,z]=none∧r = .tuple #[V9c 0 (.slice none 0 0) 0 (.slice none 0 0),.int .i64 4]∧Q0a w' fr) ∨
   ∃ l vr vq,Q4k [x,y,z]=some l∧r = .tuple #[V9c l.fixed vr l.record vq,.int .i64 0]∧Q0a w' (NL vr l.refs::NL vq l.recs::fr)):=by
 obtain⟨_,ad,cap,rfl,hr'⟩:=id hr
 rcases hr' with h|⟨b,o,E,fz,c,rfl,hA,hrd⟩
 ·omega
 haveI:=hA;have c0:c[o+0*1]? = some (.int .u64 x):=by have:=hrd.get 0 (.int .u64 x) (by simp[Q1b]);simpa using this
 have c1:c[o+1*1]? = some (.int .u64 y):=by have:=hrd.get 1 (.int .u64 y) (by simp[Q1b]);simpa using this
 have c2:c[o+2*1]? = some (.int .u64 z):=by have:=hrd.get 2 (.int .u64 z) (by simp[Q1b]);simpa using this
 refine Q0c Tryz.func86 rfl (by kernel_rfl) ?_;refine J24 H ?_;clear H;intro b2 w H;refine U6m H ?_;refine Q0s rfl (Q1z rfl rfl ?_);refine J17 H ?_;refine J1 H ?_;clear H;intro w H;refine Ja 0 ?_;refine Ji 1 ?_;refine Q2b 2 [4] H rfl (Q0n.none rfl) rfl c0 (by kernel_rfl) ?_;refine Jo 3 H ?_;refine Jk rfl rfl (Z6o H) ?_;clear H;rintro v w H;refine Jo 4 H ?_;refine Jk rfl rfl (V2l x hx _ G4o U0j (by decide) H) ?_;clear H;rintro v2 w ⟨u,rfl,H⟩;obtain⟨au,cu,rfl⟩:=Q0j H (m:=3) (by simp[Q1b,G4o]) (by decide);refine Ja 5 ?_;refine J75 H ?_;refine U7d H ?_;obtain⟨bu,su,rfl,H,hclose⟩:=Q0y H (by omega);have d0:(Q1b (G4o.map (V8w x))++su)[0+0*1]? = some (.int .u64 (V8w x (0,8))):=rfl;have d1:(Q1b (G4o.map (V8w x))++su)[0+1*1]? = some (.int .u64 (V8w x (8,8))):=rfl;have d2:(Q1b (G4o.map (V8w x))++su)[0+2*1]? = some (.int .u64 (V8w x (16,48))):=rfl
 have e8:IntKind.i64.wrap ((V8w x (0,8):Nat):Int)=((x % 256:Nat):Int):=by
  rw[Q6o (by have:=Nat.mod_lt (x / 2 ^ 0) (show 0 < 2 ^ 8 by decide);show x / 2 ^ 0 % 2 ^ 8 < _;omega)];show ((x / 2 ^ 0 % 2 ^ 8:Nat):Int)=_;simp
 have e16:IntKind.i64.wrap ((V8w x (8,8):Nat):Int)=((x / 256 % 256:Nat):Int):=by
  rw[Q6o (by have:=Nat.mod_lt (x / 2 ^ 8) (show 0 < 2 ^ 8 by decide);show x / 2 ^ 8 % 2 ^ 8 < _;omega)];rfl
 refine J7 H ?_
 refine Q2s (fun ms σ w=>ms=[]∧∃ b6 va vb,σ 2=pp b2∧σ 4 = .slice (some ⟨bu,0,none⟩) 3 cu∧σ 6=pp b6 ∧
  Q0a w (pts b6 (row 102 [.int .i64 ((x % 256:Nat):Int),va,.int .i64 ((x / 256 % 256:Nat):Int),vb])::NL va (Q2x y 64)::NL vb (Q2x z 64)::pts bu (row 83 (Q1b (G4o.map (V8w x))++su))::pts b2 (row 102 [.int .i64 0,.slice none 0 0,.int .i64 0,.slice none 0 0])::fr)) ?_ ?_
 ·replace H:=Js [0,1] 1 H;refine J1 H ?_;clear H;intro w H;refine Ja 0 ?_;refine Ji 1 ?_;refine Q2b 2 [18] H rfl (Q0n.none rfl) rfl d0 (by kernel_rfl) ?_;refine U6l H ?_;refine Ja 4 ?_;refine Ji 5 ?_;refine Q2b 6 [7] H rfl (Q0n.none rfl) rfl c1 (by kernel_rfl) ?_;refine Ja 8 ?_;refine Ji 9 ?_;refine Q2b 10 [18] H rfl (Q0n.none rfl) rfl d1 (by kernel_rfl) ?_;refine Q6n 11 rfl (Q0n.none rfl) rfl (by kernel_rfl) ?_;refine Ja 12 ?_;refine Ji 13 ?_;refine Q2b 14 [15] H rfl (Q0n.none rfl) rfl c2 (by kernel_rfl) ?_;rw[e8,e16];refine Jw 7 17 H rfl rfl (Q1h (a:=[]) (b:=[]) rfl rfl (call (Q8m y hy H) ?_)) (Q1x H rfl ?_)
  ·clear H;intro va w H;obtain⟨aa,ma,ca,rfl⟩:=Q1d H;refine Jw 15 17 H rfl rfl (Q1h (a:=[]) (b:=[]) rfl rfl (call (Q8m z hz H) ?_)) (Q1x H rfl ?_)
   ·clear H;intro vb w H;obtain⟨ab,mb,cb,rfl⟩:=Q1d H;refine Q5r 16 rfl (Q0n.none rfl) rfl (by kernel_rfl) ?_;refine Jo 17 H ?_;refine Q1x H rfl ?_;clear H;intro b6 w H;refine Jo 18 H ?_;refine J49 H ?_;clear H;intro w H;refine Jx H ?_;replace H:=Js [0,1,0,0,0] 0 H;exact .inl ⟨rfl,rfl,b6,_,_,rfl,rfl,rfl,H⟩
   ·clear H;intro b6 w H;refine Jo 15 H ?_;refine Jk rfl rfl (Q8m z hz H) ?_;clear H;intro vb w H;obtain⟨ab,mb,cb,rfl⟩:=Q1d H;refine Q5r 16 rfl (Q0n.none rfl) rfl (by kernel_rfl) ?_;refine Jo 18 H ?_;refine J49 H ?_;clear H;intro w H;refine Jx H ?_;replace H:=Js [1,1,0,0,0] 0 H;exact .inl ⟨rfl,rfl,b6,_,_,rfl,rfl,rfl,H⟩
  ·clear H;intro b6 w H;refine Jo 7 H ?_;refine Jk rfl rfl (Q8m y hy H) ?_;clear H;intro va w H;obtain⟨aa,ma,ca,rfl⟩:=Q1d H;refine Jo 15 H ?_;refine Jk rfl rfl (Q8m z hz H) ?_;clear H;intro vb w H;obtain⟨ab,mb,cb,rfl⟩:=Q1d H;refine Q5r 16 rfl (Q0n.none rfl) rfl (by kernel_rfl) ?_;refine Jo 18 H ?_;refine J49 H ?_;clear H;intro w H;refine Jx H ?_;replace H:=Js [2,1,0,0,0] 0 H;exact .inl ⟨rfl,rfl,b6,_,_,rfl,rfl,rfl,H⟩
 ·clear H;rintro ms σ w ⟨rfl,b6,va,vb,g2,g4,g6,H⟩;rw[Q0b g2,Q0b g4,Q0b g6];have hla:=Q8i y 64;have hlb:=Q8i z 64;obtain⟨aa,ca,rfl⟩:=Q0j (H.drop) (Q0d (Q2x y 64)) (by decide);obtain⟨ab,cb,rfl⟩:=Q0j (H.drop.drop) (Q0d (Q2x z 64)) (by decide);refine J20 H ?_;refine Jd ?_;refine Q0s rfl (Q0l H rfl d2 rfl ?_);refine Jv ?_
  have hn:V8w x (16,48)=x / 65536:=by
   show x / 2 ^ 16 % 2 ^ 48=_;rw[Nat.mod_eq_of_lt (by omega)]
  rw[hn];by_cases hb:x < 65536
  ·rw[show (((x / 65536:Nat):Int) != 0)=false by simp;omega];refine Jv ?_;refine G9q H ?_;have h8:x / 256 % 256=x / 256:=Nat.mod_eq_of_lt (by omega);rw[h8] at H ⊢;replace H:=Js [1,1,0,0,0] 0 H;obtain⟨D1,H,hD1,hC1⟩:=sls_rd H (Q0d (Q2x y 64)) (by decide);obtain⟨D2,H,hD2,hC2⟩:=sls_rd H.swap (Q0d (Q2x z 64)) (by decide);refine Q4u rfl rfl rfl (Q1h (a:=[]) (b:=[]) rfl rfl (call (V2p _ _ (Y7f x y z) ⟨by show x % 256≤_;omega,by show x / 256≤_;omega,by show (Q2x y 64).length≤_;omega,by show (Q2x z 64).length≤_;omega⟩ ⟨(hD1 _).there,hD2 _⟩ H) ?_));clear H;rintro v w ⟨⟨q,rfl,hq⟩,H⟩;have H:=(hC1 _ _ (hC2 _ _ H).swap);cases q with
   | true=>
    refine U1r H ?_;refine J87 H ?_;clear H;intro w H;refine J0 H ?_;replace H:=Js [4,0,0] 2 H;refine Q0g (Jz H (fun w' H' => .cellN H' rfl (by repeat first|exact .nil _|apply Q0o.cons rfl) (.tmp .nil)) fun w' H' => .inr ⟨Y7f x y z,_,_,?_,rfl,H'.drop⟩);rw[V1s];rw[if_pos ⟨hb,hq.1 rfl⟩]
   | false=>
    refine J25 H ?_;refine U2d H ?_;clear H;intro w H;refine J0 H ?_;replace H:=Js [4] 4 H;refine Q0g (Jz H (fun w' H' => .cellN H' rfl (by repeat first|exact .nil _|apply Q0o.cons rfl) (.tmp .nil)) fun w' H' => .inl ⟨?_,rfl,H'.drop⟩);rw[V1s];rw[if_neg];rintro⟨_,h2⟩;have:=hq.2 h2;cases this
  ·rw[show (((x / 65536:Nat):Int) != 0)=true by simp;omega];refine U6w H ?_;refine U2d H ?_;clear H;intro w H;refine J0 H ?_;replace H:=Js [4] 4 H;refine Q0g (Jz H (fun w' H' => .cellN H' rfl (by repeat first|exact .nil _|apply Q0o.cons rfl) (.tmp .nil)) fun w' H' => .inl ⟨?_,rfl,H'.drop⟩);rw[V1s];rw[if_neg];rintro⟨h1,_⟩;exact hb h1
end Go.Proofs.YtmjdnljneifpcaaGreatDoor
namespace Go.Proofs.YtmjdnljneifpcaaGreatDoor
open Go.SL
abbrev LyC:=Value×Value×Lay
@[reducible] def V2q (x:LyC):Q0e:=star [NL x.1 x.2.2.refs,NL x.2.1 x.2.2.recs]
@[reducible] def U8p (x:LyC):List Value:=[.int .i64 x.2.2.fixed,x.1,.int .i64 x.2.2.record,x.2.1]
def Q2f (l:List LyC):List Value:=l.flatMap U8p
theorem Q4h (l:List LyC):(Q2f l).length=l.length*4:=by
 induction l with
 | nil=>rfl
 | cons x l ih=>simp only[Q2f,List.flatMap_cons,List.length_append,List.length_cons,List.length_nil] at *;omega
theorem V4b (a b:List LyC):Q2f (a++b)=Q2f a++Q2f b:=by simp[Q2f]
theorem Y2n:∀ {L:List LyC} {i:Nat} {x:LyC},L[i]? = some x→(Q2f L)[i*4]? = some (.int .i64 x.2.2.fixed)∧(Q2f L)[i*4+1]? = some x.1∧(Q2f L)[i*4+2]? = some (.int .i64 x.2.2.record)∧(Q2f L)[i*4+3]? = some x.2.1
 | y::L,0,x,h=>by
  simp at h;subst h;simp[Q2f]
 | y::L,i+1,x,h=>by
  have:=Y2n (L:=L) (i:=i) (by simpa using h);have e:Q2f (y::L)=U8p y++Q2f L:=by simp[Q2f]
  rw[e];rw[show (i+1)*4=i*4+4 by omega];simpa [U8p] using this
theorem Q8u {L:List LyC} {spare:List Value} {i:Nat} {x:LyC} (h:L[i]? = some x):Q0o (Q2f L++spare) (0+i*4) 4 (U8p x):=by
 obtain⟨h0,h1,h2,h3⟩:=Y2n h;have hl:=(List.getElem?_eq_some_iff.1 h3).1;rw[Nat.zero_add];refine Q0o.cons ?_ (Q0o.cons ?_ (Q0o.cons ?_ (Q0o.cons ?_ (Q0o.nil _))))
 all_goals rw[List.getElem?_append_left (by omega)]
 ·exact h0
 ·exact h1
 ·exact h2
 ·exact h3
def Q5v (p:Nat) (ls:List Lay):Q0e:=ex fun q:Value×List LyC=>star [prop (q.2.map (·.2.2)=ls∧ls.length≤64∧∀ x∈ls,Q2y x),pts p (row 242 [q.1]),sls 102 4 q.1 (Q2f q.2),star (q.2.map V2q)]
theorem Y5c [Q0i] {w:World} {p:Nat} {ls:List Lay} {l:List Q0e} (H:Q0a w (Q5v p ls::l)):∃ v q,(q.map (·.2.2)=ls∧ls.length≤64∧∀ x∈ls,Q2y x)∧Q0a w (pts p (row 242 [v])::sls 102 4 v (Q2f q)::star (q.map V2q)::l):=by
 obtain⟨⟨v,q⟩,H⟩:=Q0a.ex.1 H;have H:=Q0a.star.1 H;obtain⟨h,H⟩:=Q0a.prop.1 H;exact⟨v,q,h,H⟩
theorem V5o [Q0i] {w:World} {p:Nat} {ls:List Lay} {l:List Q0e} {v:Value} {q:List LyC} (h:q.map (·.2.2)=ls∧ls.length≤64∧∀ x∈ls,Q2y x) (H:Q0a w (pts p (row 242 [v])::sls 102 4 v (Q2f q)::star (q.map V2q)::l)):Q0a w (Q5v p ls::l):=
 Q0a.ex.2 ⟨(v,q),Q0a.star.2 (Q0a.prop.2 ⟨h,H⟩)⟩
theorem Y7h [Q0i] {w:World} {fr:List Q0e} (H:Q0a w fr):Calls Tryz.prog 82 #[] w (ret fun v w'=>∃ p,v=pp p∧Q0a w' (Q5v p []::fr)):=by
 refine Q0c Tryz.func82 rfl (by kernel_rfl) ?_;refine U6k H ?_;refine J64 H ?_;clear H;intro b2 w H;refine J0 H ?_;have H:Q0a w (star (([]:List LyC).map V2q)::pts b2 (row 242 [.slice none 0 0])::fr):=Q0a.star.2 H;have H:=Q3x (E:=102) (k:=4) H;replace H:=Js [2,0,0] 0 H;exact Q0g (Jy (V5o (q:=[]) ⟨rfl,by simp,by simp⟩ H) rfl fun w' H'=>⟨_,rfl,H'⟩)
theorem G0w [Q0i] (p:Nat) (ls:List Lay) (vr vq:Value) (l:Lay) (hR:Q2y l) {w:World} {fr:List Q0e} (hr:RdL fr vr vq l) (H:Q0a w (Q5v p ls::fr)) :
  Calls Tryz.prog 87 #[pp p,V9c l.fixed vr l.record vq] w (ret fun x w'=>(ls.length=64∧x = .tuple #[.int .i64 0,.int .i64 5]∧Q0a w' (Q5v p ls::fr)) ∨
   (ls.length < 64∧x = .tuple #[.int .i64 ((ls.length+1:Nat):Int),.int .i64 0]∧Q0a w' (Q5v p (ls++[l])::fr))):=by
 obtain⟨_,ad1,cap1,rfl,hr1⟩:=id hr.r;obtain⟨_,ad2,cap2,rfl,hr2⟩:=id hr.q;obtain⟨v,q,⟨hq,hlen,hall⟩,H⟩:=Y5c H;have hql:q.length=ls.length:=by rw[← hq,List.length_map]
 obtain⟨av,cv,rfl⟩:=Q0j H.drop (Q4h q) (by decide);refine Q0c Tryz.func87 rfl (by kernel_rfl) ?_;refine J8 H ?_;clear H;intro b3 w H;refine J84 H ?_;refine Q2s (fun ms σ w=>ms=[]∧ls.length < 64∧σ 0=pp p∧σ 3=pp b3∧Q0a w (pts b3 (row 102 [.int .i64 l.fixed,.slice ad1 l.refs.length cap1,.int .i64 l.record,.slice ad2 l.recs.length cap2])::pts p (row 242 [.slice av q.length cv])::sls 102 4 (.slice av q.length cv) (Q2f q)::star (q.map V2q)::fr)) ?_ ?_
 ·refine G8g H ?_;refine J36 H ?_;refine Jc rfl rfl (V2p _ _ l hR.small hr.there.there.there.there H) ?_;clear H;rintro v w ⟨⟨b,rfl,hb⟩,H⟩;obtain rfl:=hb.2 hR;refine J85 H ?_;refine U7e H ?_;refine J2 H ?_;by_cases h64:q.length=64
  ·rw[show ((q.length:Int) == 64)=true by simp;omega];refine J28 H ?_;exact Q0g (.inr ⟨by simp,Jy (V5o ⟨hq,hlen,hall⟩ H.drop) rfl fun w' H' => .inl ⟨by omega,rfl,H'⟩⟩)
  ·rw[show ((q.length:Int) == 64)=false by simp;omega];refine J9 H ?_;exact .inl ⟨rfl,rfl,by omega,rfl,rfl,H⟩
 ·clear H;rintro ms σ w ⟨rfl,h64,g0,g3,H⟩;rw[Q0b g0,Q0b g3];refine J1 H ?_;clear H;intro w H;refine U0c H ?_;refine Jl 4 [8,11] H ?_;refine Q1w 5 [6,7,8,11] H rfl (Q0n.none rfl) rfl (by repeat first|exact .nil _|apply Q0o.cons rfl) (by kernel_rfl) ?_;refine Jo 6 H ?_;refine Jk rfl rfl (Z4o _ _ l hR.small hr.there.there.there.there H) ?_;clear H;rintro v w ⟨vr',vq',rfl,H⟩;obtain⟨a4,m4,c4,rfl⟩:=Q1d H;obtain⟨a5,m5,c5,rfl⟩:=Q1d H.swap
  refine Jo 7 H ?_;refine G9r H ?_;clear H;intro b27 w H;replace H:=Js [5,0,3,0,0,1] 1 H;refine Jo 8 H ?_;refine Q1t H rfl rfl (by repeat first|exact .nil _|apply Q0o.cons rfl) rfl (by decide) (by rw[Q4h];simp only[List.length_cons,List.length_nil];omega) rfl rfl ?_;clear H;intro v28 w H
  have e1:Q2f q++[.int .i64 l.fixed,.slice a4 m4 c4,.int .i64 l.record,.slice a5 m5 c5]=Q2f (q++[(.slice a4 m4 c4,.slice a5 m5 c5,l)]):=by
   rw[V4b];rfl
  rw[e1] at H;have hql':(q++[((.slice a4 m4 c4:Value),(.slice a5 m5 c5:Value),l)]).length=ls.length+1:=by simp[hql]
  obtain⟨a28,c28,rfl⟩:=Q0j H (m:=ls.length+1) (by rw[Q4h,hql']) (by decide);refine Ja 9 ?_;refine Jf 10 ?_;refine Jo 11 H ?_;refine J55 H ?_;clear H;intro w H;refine Jx H ?_;refine U7e H ?_;refine J2 H ?_;replace H:=Js [2,0,1,1,1] 1 H
  have H1:Q0a w (star ((q++[((.slice a4 m4 c4:Value),(.slice a5 m5 c5:Value),l)]).map V2q)::pts p (row 242 [.slice a28 (ls.length+1) c28])::sls 102 4 (.slice a28 (ls.length+1) c28) (Q2f (q++[(.slice a4 m4 c4,.slice a5 m5 c5,l)]))::fr):=by
   refine(Q0a.pick (x:=((.slice a4 m4 c4:Value),(.slice a5 m5 c5:Value),l)) (g1:=q) (g2:=[]) rfl).2 ?_;rw[List.append_nil];refine Q0a.star.2 ?_;replace H:=Js [2,2,2,0,0] 0 H;exact H
  replace H1:=Js [1,1,0] 0 H1
  have H2:=V5o (ls:=ls++[l]) (q:=q++[((.slice a4 m4 c4:Value),(.slice a5 m5 c5:Value),l)]) ⟨by rw[List.map_append,hq];rfl,by simp;omega,fun x hx=>by
   rcases List.mem_append.1 hx with hx|hx
   ·exact hall x hx
   ·simp at hx;subst hx;exact hR⟩ H1
  exact Q0g (Jy H2 rfl fun w' H' => .inr ⟨h64,rfl,H'⟩)
theorem U0k [Q0i] (p:Nat) (ls:List Lay) (id:Int) (hid:id < 1∨(ls.length:Int) < id) {w:World} {fr:List Q0e} (H:Q0a w (Q5v p ls::fr)) :
  Calls Tryz.prog 88 #[pp p,.int .i64 id] w (ret fun x w'=>x = .tuple #[V9c 0 (.slice none 0 0) 0 (.slice none 0 0),.int .i64 6]∧Q0a w' (Q5v p ls::fr)):=by
 obtain⟨v,q,⟨hq,hlen,hall⟩,H⟩:=Y5c H;have hql:q.length=ls.length:=by rw[← hq,List.length_map]
 obtain⟨av,cv,rfl⟩:=Q0j H.drop (Q4h q) (by decide);refine Q0c Tryz.func88 rfl (by kernel_rfl) ?_;refine J24 H ?_;clear H;intro b4 w H;refine J18 H ?_;refine U7f H ?_;by_cases h1:id < 1
 ·rw[show decide (id < 1)=true from decide_eq_true (by omega)];refine U4g H ?_;refine U7g H ?_;clear H;intro w H;refine J0 H ?_;exact Q0g (Jz H (fun w' H' => .cellN H' rfl (by repeat first|exact .nil _|apply Q0o.cons rfl) (.tmp .nil)) fun w' H'=>⟨rfl,V5o ⟨hq,hlen,hall⟩ H'.drop⟩)
 ·rw[show decide (id < 1)=false from decide_eq_false (by omega)];refine J92 H ?_;rw[show decide (id > (q.length:Int))=true from decide_eq_true (by omega)];refine U7g H ?_;clear H;intro w H;refine J0 H ?_;exact Q0g (Jz H (fun w' H' => .cellN H' rfl (by repeat first|exact .nil _|apply Q0o.cons rfl) (.tmp .nil)) fun w' H'=>⟨rfl,V5o ⟨hq,hlen,hall⟩ H'.drop⟩)
theorem G0x [Q0i] (p:Nat) (ls:List Lay) (k:Nat) (l:Lay) (hk:ls[k]? = some l) {w:World} {fr:List Q0e} (H:Q0a w (Q5v p ls::fr)) :
  Calls Tryz.prog 88 #[pp p,.int .i64 ((k:Int)+1)] w (ret fun x w'=>∃ vr vq,x = .tuple #[V9c l.fixed vr l.record vq,.int .i64 0]∧Q0a w' (NL vr l.refs::NL vq l.recs::Q5v p ls::fr)):=by
 obtain⟨v,q,⟨hq,hlen,hall⟩,H⟩:=Y5c H;have hql:q.length=ls.length:=by rw[← hq,List.length_map]
 have hkl:k < ls.length:=(List.getElem?_eq_some_iff.1 hk).1;obtain⟨av,cv,rfl⟩:=Q0j H.drop (Q4h q) (by decide);have hR:Q2y l:=hall l (List.mem_of_getElem? hk)
 obtain⟨x,hx,hxl⟩:∃ x,q[k]? = some x∧x.2.2=l:=by
  rw[← hq,List.getElem?_map,Option.map_eq_some_iff] at hk;exact hk
 obtain⟨vr,vq,l'⟩:=x;obtain rfl:l'=l:=hxl;have hpick:q=q.take k++(vr,vq,l')::q.drop (k+1):=split_at hx;refine Q0c Tryz.func88 rfl (by kernel_rfl) ?_;refine J24 H ?_;clear H;intro b4 w H;refine J18 H ?_;refine Q2s (fun ms σ w=>ms=[]∧σ 0=pp p∧σ 1 = .int .i64 ((k:Int)+1)∧σ 4=pp b4∧Q0a w (pts b4 (row 102 [.int .i64 0,.slice none 0 0,.int .i64 0,.slice none 0 0])::pts p (row 242 [.slice av q.length cv])::sls 102 4 (.slice av q.length cv) (Q2f q)::star (q.map V2q)::fr)) ?_ ?_
 ·refine U7f H ?_;rw[show decide ((k:Int)+1 < 1)=false from decide_eq_false (by omega)];refine J92 H ?_;rw[show decide ((k:Int)+1 > (q.length:Int))=false from decide_eq_false (by omega)];refine U0b H ?_;exact .inl ⟨rfl,rfl,rfl,rfl,rfl,H⟩
 ·clear H;rintro ms σ w ⟨rfl,g0,g1,g4,H⟩;rw[Q0b g0,Q0b g1,Q0b g4];replace H:=Js [3,2,0,0] 0 H;have H:=Q0a.star.1 ((Q0a.pick hpick).1 H);replace H:Q0a w (NL vr l'.refs::NL vq l'.recs::star ((q.take k++q.drop (k+1)).map V2q)::sls 102 4 (.slice av q.length cv) (Q2f q)::pts b4 (row 102 [.int .i64 0,.slice none 0 0,.int .i64 0,.slice none 0 0])::pts p (row 242 [.slice av q.length cv])::fr):=H;obtain⟨ar,cr,rfl⟩:=Q0j H (Q0d _) (by decide);obtain⟨aq,cq,rfl⟩:=Q0j H.drop (Q0d _) (by decide);obtain⟨D1,H,hD1,hC1⟩:=sls_rd H (Q0d _) (by decide);obtain⟨D2,H,hD2,hC2⟩:=sls_rd H.swap (Q0d _) (by decide);replace H:=Js [3,0,0,0,0,0] 0 H;obtain⟨b,s,rfl,H,hclose⟩:=Q0y H (by omega);refine J37 H ?_;rw[Q1e (x:=(k:Int)+1 - 1) (by omega) (by omega),show (k:Int)+1 - 1=(k:Int) by omega];refine Jd ?_;refine Q0s rfl (Q1j H rfl (Q8u hx) rfl ?_);refine Jc rfl rfl (Z4o _ _ l' hR.small ⟨(hD1 _).there.there,(hD2 _).there⟩ H) ?_;clear H;rintro v w ⟨vr',vq',rfl,H⟩;obtain⟨a4,m4,c4,rfl⟩:=Q1d H;obtain⟨a5,m5,c5,rfl⟩:=Q1d H.swap;refine J4 H ?_;clear H;intro w H;refine J0 H ?_;replace H:=Js [3,3,2,2,2,2,0,0] 0 H;replace H:=hC1 _ _ (hC2 _ _ H).swap;replace H:=Js [0,0,1,0,0,0,0,0] 0 H;replace H:Q0a w (star (q.map V2q)::_):=(Q0a.pick hpick).2 (Q0a.star.2 H);replace H:=Js [1,1,2,2,1,0] 0 H;replace H:=hclose _ _ H;replace H:=Js [1,1,1,1,0,0] 0 H;exact Q0g (Jz H (fun w' H' => .cellN H' rfl (by repeat first|exact .nil _|apply Q0o.cons rfl) (.tmp .nil)) fun w' H'=>⟨_,_,rfl,(V5o (l:=NL (.slice a4 m4 c4) l'.refs::NL (.slice a5 m5 c5) l'.recs::fr) ⟨hq,hlen,hall⟩ (by have H':=H'.drop;replace H':=Q0a.sel [2,2,2,0,0] 0 H';dsimp only[SL.sel,SL.pull,List.drop] at H';exact H')).sel [1,1,0] 0⟩)
end Go.Proofs.YtmjdnljneifpcaaGreatDoor
namespace Go.Proofs.YtmjdnljneifpcaaGreatDoor
open Go.SL
def Y1d (l:List Nat) (x:Nat):Nat:=l.countP (· < x)
theorem Y7i (l:List Nat) (x:Nat):(l.map fun a:Nat=>(a:Int)).contains (x:Int)=decide (x∈l):=by
 induction l with
 | nil=>simp
 | cons a l ih=>
  rw[List.map_cons,List.contains_cons,ih];by_cases h:x=a
  ·subst h;simp
  ·have:((x:Int) == (a:Int))=false:=by simp;omega
   simp[this,h]
theorem G0y (l:List Nat) (x:Nat):(l.map fun a:Nat=>(a:Int)).countP (· < (x:Int))=Y1d l x:=by
 unfold Y1d;rw[List.countP_map];congr 1
 funext a
 simp
theorem Q7e [Q0i] (v:Value) (l:List Nat) (hl:l.length≤1000000) (hs:l.Pairwise (· < ·)) (x:Nat) {w:World} {fr:List Q0e} (hr:RdS fr v l.length 1 (Q0u l)) (H:Q0a w fr) :
  Calls Tryz.prog 112 #[v,.int .i64 x] w (ret fun r w'=>r = .tuple #[.int .i64 (Y1d l x:Nat),.bool (decide (x∈l))]∧Q0a w' fr):=by
 obtain⟨_,ad,cap,rfl,hr'⟩:=id hr;by_cases h0:l=[]
 ·subst h0;refine Q0c Tryz.func112 rfl (by kernel_rfl) ?_;refine J3 H ?_;refine J77 H ?_;refine U4h H ?_;refine Q0t ?_;refine Q1l (fun ms σ w q=>ms=[]∧σ 6 = .int .i64 0∧σ 7 = .int .i64 0∧σ 8 = .int .i64 0∧Q0a w fr) (m:=0) ⟨rfl,rfl,rfl,rfl,H⟩ ?_;clear H;rintro ms σ w q ⟨rfl,g6,g7,g8,H⟩;rw[Q0b g6,Q0b g7,Q0b g8];refine U4h H ?_;refine J91 H ?_;refine J6 H ?_;refine U1z H ?_;refine U4e H ?_;refine G8h H ?_;refine G8h H ?_;refine G8h H ?_;refine U6x H ?_;refine U2a H ?_;exact Q0g (Jy H rfl fun w' H'=>⟨rfl,H'⟩)
 ·rcases hr' with h|⟨b,o,E,fz,c,rfl,hA,hrd⟩
  ·exact absurd (List.eq_nil_of_length_eq_zero h) h0
  haveI:=hA
  have hc:∀ j,j < l.length→w.cell? ⟨b,o+j,none⟩=some (.int .i64 (l.getD j 0)):=fun j hj=>by
   refine Q4b H.at ?_;rw[Nat.mul_one] at hrd;refine hrd.get j _ ?_;simp[Q0u,hj]
  have e1:∀ j,(l.map fun a:Nat=>(a:Int)).getD j 0=((l.getD j 0:Nat):Int):=fun j=>by
   simp only[List.getD_eq_getElem?_getD,List.getElem?_map];cases l[j]? <;> rfl
  have e2:(l.map fun a:Nat=>(a:Int)).take l.length=l.map fun a:Nat=>(a:Int):=List.take_of_length_le (by simp);refine(Any.slices_BinarySearch_int Tryz.laysBs b o l.length cap (l.map fun a:Nat=>(a:Int)) x w (by simp) (by omega) (fun j hj=>by rw[hc j (by simpa using hj),e1]) ?_).mono ?_
  ·rw[e2];refine List.Pairwise.map _ (fun a b h=>?_) hs;omega
  ·rintro e w' ⟨rfl,q,rfl⟩;refine⟨?_,H.heap rfl⟩;rw[e2,Y7i,G0y]
theorem G5p [Q0i] (vr vq:Value) (l:Lay) (hR:Q2y l) (count:Int) (place:Int) {n:Nat} (hz:Q3q l count=(n,0)) (hp:place < 0∨(n:Int)≤place) {w:World} {fr:List Q0e} (hr:RdL fr vr vq l) (H:Q0a w fr) :
  Calls Tryz.prog 204 #[V9c l.fixed vr l.record vq,.int .i64 count,.int .i64 place] w (ret fun x w'=>x = .tuple #[.bool false,.int .i64 3]∧Q0a w' fr):=by
 obtain⟨_,ad1,cap1,rfl,hr1⟩:=id hr.r;obtain⟨_,ad2,cap2,rfl,hr2⟩:=id hr.q;refine Q0c Tryz.func204 rfl (by kernel_rfl) ?_;refine J8 H ?_;clear H;intro b3 w H;refine J2 H ?_;refine U2e H ?_;refine Jc rfl rfl (V1a _ _ l hR count hr.there H) ?_;clear H;rintro v w ⟨rfl,H⟩;rw[hz];refine G9y H ?_;refine Q0t ?_;refine U2f H ?_;by_cases h1:place < 0
 ·rw[show decide (place < 0)=true from decide_eq_true (by omega)];refine U6w H ?_;refine J2 H ?_;refine J28 H ?_;exact Q0g (Jy H.drop rfl fun w' H'=>⟨rfl,H'⟩)
 ·rw[show decide (place < 0)=false from decide_eq_false (by omega)];refine U4i H ?_;rw[show decide (place≥(n:Int))=true from decide_eq_true (by omega)];refine J2 H ?_;refine J28 H ?_;exact Q0g (Jy H.drop rfl fun w' H'=>⟨rfl,H'⟩)
theorem Z6q [Q0i] (vr vq:Value) (l:Lay) (hR:Q2y l) (count:Int) (p:Nat) {n:Nat} (hz:Q3q l count=(n,0)) (hp:p < n) {w:World} {fr:List Q0e} (hr:RdL fr vr vq l) (H:Q0a w fr) :
  Calls Tryz.prog 204 #[V9c l.fixed vr l.record vq,.int .i64 count,.int .i64 p] w (ret fun x w'=>x = .tuple #[.bool (Q2h l p),.int .i64 0]∧Q0a w' fr):=by
 have hsm:=hR.small;obtain⟨z1,z2,z3,z4,z5⟩:=Y5b hz;obtain⟨_,ad1,cap1,rfl,hr1⟩:=id hr.r;obtain⟨_,ad2,cap2,rfl,hr2⟩:=id hr.q;refine Q0c Tryz.func204 rfl (by kernel_rfl) ?_;refine J8 H ?_;clear H;intro b3 w H;refine J2 H ?_;refine U2e H ?_;refine Jc rfl rfl (V1a _ _ l hR count hr.there H) ?_;clear H;rintro v w ⟨rfl,H⟩;rw[hz];refine G9y H ?_;refine Q2s (fun ms σ w=>ms=[]∧σ 2 = .int .i64 p∧σ 3=pp b3∧Q0a w (pts b3 (row 102 [.int .i64 l.fixed,.slice ad1 l.refs.length cap1,.int .i64 l.record,.slice ad2 l.recs.length cap2])::fr)) ?_ ?_
 ·refine Q0t ?_;refine U2f H ?_;rw[show decide ((p:Int) < 0)=false from decide_eq_false (by omega)];refine U4i H ?_;rw[show decide ((p:Int)≥(n:Int))=false from decide_eq_false (by omega)];refine U0b H ?_;exact .inl ⟨rfl,rfl,rfl,rfl,H⟩
 ·clear H;rintro ms σ w ⟨rfl,g2,g3,H⟩;rw[Q0b g2,Q0b g3];refine J88 H ?_;refine U2a H ?_;refine U0d H ?_;refine J0 H ?_;by_cases h1:p < l.fixed
  ·rw[show decide ((p:Int)≥(l.fixed:Int))=false from decide_eq_false (by omega)];refine U2g H ?_;refine Jc rfl rfl (Q7e _ l.refs hsm.a hR.2.2.2.1.2 p hr.r.there H) ?_;clear H;rintro v w ⟨rfl,H⟩;refine J32 H ?_;refine J11 H ?_;exact Q0g (Jy H.drop rfl fun w' H'=>⟨by unfold Q2h;rw[if_pos h1];rfl,H'⟩)
  ·have hrec:l.record≠0:=by
    intro h0;rw[h0] at z3;omega
   have e1:IntKind.i64.wrap ((p:Int) - (l.fixed:Int))=((p - l.fixed:Nat):Int):=by rw[Q1e (by omega) (by omega)];omega
   rw[show decide ((p:Int)≥(l.fixed:Int))=true from decide_eq_true (by omega)];refine J7 H ?_;refine Q1m (fun ms σ w=>ms=[]∧σ 10 = .slice ad2 l.recs.length cap2∧σ 11 = .int .i64 (((p - l.fixed) % l.record:Nat):Int)∧Q0a w (pts b3 (row 102 [.int .i64 l.fixed,.slice ad1 l.refs.length cap1,.int .i64 l.record,.slice ad2 l.recs.length cap2])::fr)) ?_ ?_
   ·refine Q3g rfl ?_;refine J1 H ?_;clear H;intro w H;refine G8d H ?_;refine Jf 3 ?_;refine Jl 4 [] H ?_;refine Ja 5 ?_;refine Jf 6 ?_;refine Jl 7 [] H ?_;rw[e1]
    refine Z0w (v := .int .i64 (((p - l.fixed) % l.record:Nat):Int)) 8 rfl (Q0n.none rfl) (by
     show (if IntKind.i64=IntKind.i64 then (if (l.record:Int)=0 then none else some (Value.int .i64 (Int.tmod ((p - l.fixed:Nat):Int) (l.record:Int)))) else none)=_;rw[if_pos rfl,if_neg (by omega),Int.tmod_eq_emod_of_nonneg (by omega),Int.natCast_emod]) (by kernel_rfl) ?_
    refine Ja 9 ?_;refine Ja 10 ?_;refine Jx H ?_;exact⟨rfl,rfl,rfl,rfl,H⟩
   ·clear H;rintro ms σ w ⟨rfl,g10,g11,H⟩;rw[Q0b g10,Q0b g11];refine J6 H ?_;refine Jc rfl rfl (Q7e _ l.recs hsm.b hR.2.2.2.2.2 _ hr.q.there H) ?_;clear H;rintro v w ⟨rfl,H⟩;refine J32 H ?_;refine J11 H ?_;exact Q0g (Jy H.drop rfl fun w' H'=>⟨by unfold Q2h;rw[if_neg h1];rfl,H'⟩)
end Go.Proofs.YtmjdnljneifpcaaGreatDoor
namespace Go.Proofs.YtmjdnljneifpcaaGreatDoor
open Go.SL
theorem Y7j [Q0i] (v:Value) (l:List Nat) (size:Nat) (hl:l.length≤1000000) {w:World} {fr:List Q0e} (hr:RdS fr v l.length 1 (Q0u l)) (H:Q0a w fr) :
  Calls Tryz.prog 262 #[v,.int .i64 size] w (ret fun x w'=>(∃ b,x = .bool b∧(b=true↔Z9s l size))∧Q0a w' fr):=by
 obtain⟨_,ad,cap,rfl,hr⟩:=hr;refine Q0c Tryz.func262 rfl (by kernel_rfl) ?_;refine U4j H ?_;refine Q1l (fun ms σ w q=>ms=[]∧∃ (i:Nat) (t:Int),i≤l.length∧q=l.length - i∧Z9s (l.take i) size∧((i=0∧t = -1)∨∃ y:Nat,(l.take i).getLast? = some y∧t=y)∧σ 0 = .slice ad l.length cap∧σ 1 = .int .i64 size∧σ 5 = .int .i64 t∧σ 6 = .int .i64 i∧Q0a w fr) (m:=l.length) ⟨rfl,0,-1,by omega,rfl,⟨by simp,by simp⟩,.inl ⟨rfl,rfl⟩,rfl,rfl,rfl,rfl,H⟩ ?_;clear H;rintro ms σ w q ⟨rfl,i,t,hi,rfl,hR,ht,g0,g1,g5,g6,H⟩;rw[Q0b g0,Q0b g1,Q0b g5,Q0b g6];refine J93 H ?_;refine Q2d rfl (fun h=>Q0w ?_) (fun h=>Q1n ?_)
 ·have hlt:i < l.length:=by omega
  have hx:=List.getElem?_eq_getElem hlt;have htk:l.take (i+1)=l.take i++[l[i]]:=by rw[List.take_add_one,hx];rfl
  have hmem:l[i]∈l:=List.getElem_mem hlt;have hlast:(l.take (i+1)).getLast? = some l[i]:=by rw[htk,List.getLast?_concat]
  have hbad:∀ y:Nat,(l.take i).getLast? = some y→l.Pairwise (· < ·)→y < l[i]:=fun y hy hp=>by
   have hi0:0 < i:=by
    rcases Nat.eq_zero_or_pos i with h0|h0
    ·subst h0;simp at hy
    ·exact h0
   rw[List.getLast?_eq_getElem?,List.length_take,Nat.min_eq_left hi,List.getElem?_take_of_lt (by omega),List.getElem?_eq_getElem (by omega)] at hy;have:=List.pairwise_iff_getElem.1 hp (i - 1) i (by omega) hlt (by omega);injection hy with hy
   omega
  generalize l[i]=x at hx htk hmem hlast hbad
  rcases hr with hr|⟨b,o,E,fz,c,rfl,hA,hrd⟩
  ·omega
  haveI:=hA
  have hcell:c[o+i*1]? = some (.int .i64 x):=by
   rw[Nat.mul_one];exact hrd.get i _ (by simp[Q0u,hx])
  refine J90 H ?_;refine Jd ?_;refine Q0s rfl (Q0l H rfl hcell rfl ?_);refine J26 H ?_;by_cases h1:(x:Int)≤t
  ·rw[show decide ((x:Int)≤t)=true from decide_eq_true (by omega)];refine U7h H ?_;refine G8i H ?_;refine J51 H ?_;refine Q0g (Jy H rfl fun w' H'=>⟨⟨false,rfl,⟨fun h=>(by cases h),fun h=>?_⟩⟩,H'⟩)
   rcases ht with ⟨_,rfl⟩|⟨y,hy,rfl⟩
   ·omega
   ·have:=hbad y hy h.2;omega
  ·rw[show decide ((x:Int)≤t)=false from decide_eq_false (by omega)];refine J72 H ?_;refine Q4u rfl rfl rfl (Q2k rfl rfl (by omega) (by omega) rfl ?_);refine Q4u rfl rfl rfl (Q0l H rfl hcell rfl ?_);refine J33 H ?_;by_cases h2:x < size
   ·rw[show decide ((x:Int)≥(size:Int))=false from decide_eq_false (by omega)];refine J17 H ?_;refine J6 H ?_;refine Jd ?_;refine Q0s rfl (Q0l H rfl hcell rfl ?_);refine U2h H ?_;refine⟨_,⟨rfl,i+1,x,hlt,rfl,?_,.inr ⟨x,hlast,rfl⟩,rfl,rfl,rfl,Q2a (by omega),H⟩,by omega⟩;rw[htk];refine⟨fun p hp=>?_,Z4m hR.2 fun z hz=>?_⟩
    ·simp at hp
     rcases hp with hp|rfl
     ·exact hR.1 p hp
     ·exact h2
    ·rcases ht with ⟨rfl,rfl⟩|⟨y,hy,rfl⟩
     ·simp at hz
     ·rw[hy] at hz;cases hz;omega
   ·rw[show decide ((x:Int)≥(size:Int))=true from decide_eq_true (by omega)];refine J51 H ?_;refine Q0g (Jy H rfl fun w' H'=>⟨⟨false,rfl,⟨fun h=>(by cases h),fun h=>?_⟩⟩,H'⟩);exact absurd (h.1 x hmem) h2
 ·have hge:i=l.length:=by omega
  subst hge;rw[List.take_length] at hR;refine J14 H ?_;exact Q0g (Jy H rfl fun w' H'=>⟨⟨true,rfl,by simp[hR]⟩,H'⟩)
theorem Z4p [Q0i] (v:Value) (l:List Nat) (x:Nat) (hl:l.length≤1000000) {w:World} {fr:List Q0e} (hr:RdS fr v l.length 1 (Q0u l)) (H:Q0a w fr) :
  Calls Tryz.prog 105 #[v,.int .i64 x] w (ret fun r w'=>r = .bool (decide (x∈l))∧Q0a w' fr):=by
 obtain⟨_,ad,cap,rfl,hr⟩:=hr;refine Q0c Tryz.func105 rfl (by kernel_rfl) ?_;refine U8y H ?_;refine Q1l (fun ms σ w q=>ms=[]∧∃ i:Nat,i≤l.length∧q=l.length - i∧x∉l.take i∧σ 0 = .slice ad l.length cap∧σ 1 = .int .i64 x∧σ 5 = .int .i64 i∧Q0a w fr) (m:=l.length) ⟨rfl,0,by omega,rfl,by simp,rfl,rfl,rfl,H⟩ ?_;clear H;rintro ms σ w q ⟨rfl,i,hi,rfl,hn,g0,g1,g5,H⟩;rw[Q0b g0,Q0b g1,Q0b g5];refine J93 H ?_;refine Q2d rfl (fun h=>Q0w ?_) (fun h=>Q1n ?_)
 ·have hlt:i < l.length:=by omega
  have hx:=List.getElem?_eq_getElem hlt;have htk:l.take (i+1)=l.take i++[l[i]]:=by rw[List.take_add_one,hx];rfl
  have hmem:l[i]∈l:=List.getElem_mem hlt;generalize l[i]=y at hx htk hmem
  rcases hr with hr|⟨b,o,E,fz,c,rfl,hA,hrd⟩
  ·omega
  haveI:=hA
  have hcell:c[o+i*1]? = some (.int .i64 y):=by
   rw[Nat.mul_one];exact hrd.get i _ (by simp[Q0u,hx])
  refine J90 H ?_;refine Jd ?_;refine Q0s rfl (Q0l H rfl hcell rfl ?_);refine J2 H ?_;by_cases h1:y=x
  ·subst h1;rw[show ((y:Int) == (y:Int))=true by simp];refine J21 H ?_;exact Q0g (Jy H rfl fun w' H'=>⟨by rw[decide_eq_true hmem];rfl,H'⟩)
  ·rw[show ((y:Int) == (x:Int))=false by simp;omega];refine U2c H ?_;refine⟨_,⟨rfl,i+1,hlt,rfl,?_,rfl,rfl,Q2a (by omega),H⟩,by omega⟩;rw[htk];simp only[List.mem_append,List.mem_singleton];rintro(h|h)
   ·exact hn h
   ·exact h1 h.symm
 ·have hge:i=l.length:=by omega
  subst hge;rw[List.take_length] at hn;refine J14 H ?_;exact Q0g (Jy H rfl fun w' H'=>⟨by rw[decide_eq_false hn];rfl,H'⟩)
theorem Q8n [Q0i] (x:Nat) (hx:x < 18446744073709551616) {w:World} {fr:List Q0e} (H:Q0a w fr) :
  Calls Tryz.prog 253 #[.int .u64 x] w (ret fun v w'=>Q0a w' (NL v (Q2x x 64)::fr)):=by
 refine Q0c Tryz.func253 rfl (by kernel_rfl) ?_;refine U4j H ?_;refine Q1l (fun ms σ w n=>ms=[]∧∃ (k:Nat) (g:Value),k≤64∧n=64 - k∧σ 0 = .int .u64 ((x / 2 ^ k:Nat):Int)∧σ 3=g∧σ 4 = .int .i64 k∧Q0a w (NL g (Q2x x k)::fr)) (m:=64) ⟨rfl,0,_,by omega,rfl,by simp;rfl,rfl,rfl,Q3x H⟩ ?_;clear H;rintro ms σ w n ⟨rfl,k,g,hk,rfl,g0,g3,g4,H⟩;obtain⟨ag,mg,cg,rfl⟩:=Q1d H;rw[Q0b g0,Q0b g3,Q0b g4];refine J3 H ?_;by_cases h64:k < 64
 ·rw[show decide ((k:Int) < 64)=true from decide_eq_true (by omega)];refine J7 H ?_;refine J74 H ?_;have hdle:x / 2 ^ k≤x:=Nat.div_le_self _ _;have hbit:x.testBit k=decide (x / 2 ^ k % 2=1):=Nat.testBit_eq_decide_div_mod_eq;have hnext:x / 2 ^ (k+1)=x / 2 ^ k / 2:=by rw[Nat.pow_succ,Nat.div_div_eq_div_mul]
  generalize hy:x / 2 ^ k=y at hdle hbit hnext;have hrem:Int.tmod (y:Int) 2=((y % 2:Nat):Int):=by rw[Int.tmod_eq_emod_of_nonneg (by omega)];omega
  have hquo:IntKind.u64.wrap (Int.tdiv (y:Int) 2)=((y / 2:Nat):Int):=by
   rw[Int.tdiv_eq_ediv_of_nonneg (by omega),show (y:Int) / 2=((y / 2:Nat):Int) by omega,Q4o (by omega)]
  refine J90 H ?_;rw[hrem];refine J18 H ?_;refine Q1m (fun ms σ w=>ms=[]∧∃ g:Value,σ 0 = .int .u64 y∧σ 3=g∧σ 4 = .int .i64 k∧Q0a w (NL g (Q2x x (k+1))::fr)) ?_ ?_
  ·by_cases h1:y % 2=1
   ·have e2:Q2x x (k+1)=Q2x x k++[k]:=by rw[V0b,hbit,decide_eq_true h1];rfl
    rw[show (((y % 2:Nat):Int) == 1)=true by simp;omega];refine Q3g rfl ?_;refine U4k H ?_;clear H;intro b14 w H;refine Q0s rfl (Q1t H.swap rfl rfl (by repeat first|exact .nil _|apply Q0o.cons rfl) rfl (by decide) (by rw[Q0d];have:=Q8i x k;simp only[List.length_cons,List.length_nil];omega) rfl rfl ?_);clear H;intro v15 w H;obtain⟨a15,m15,c15,rfl⟩:=Q1d H;refine J0 H ?_;refine⟨rfl,rfl,_,rfl,rfl,rfl,?_⟩;rw[e2];show Q0a w (sls _ 1 _ (Q0u (Q2x x k++[k]))::_);rw[Q3s];exact Q0a.drop H.swap
   ·have e2:Q2x x (k+1)=Q2x x k:=by rw[V0b,hbit,decide_eq_false h1];simp
    rw[show (((y % 2:Nat):Int) == 1)=false by simp;omega];refine Q1y rfl (Q0w ?_);exact⟨rfl,rfl,_,rfl,rfl,rfl,by rw[e2];exact H⟩
  ·clear H;rintro ms σ w ⟨rfl,g,g0,g3,g4,H⟩;obtain⟨ag,mg,cg,rfl⟩:=Q1d H;rw[Q0b g0,Q0b g3,Q0b g4];refine J6 H ?_;rw[hquo];refine U2h H ?_;exact⟨_,⟨rfl,k+1,_,h64,rfl,by rw[hnext];rfl,rfl,Q2a (by omega),H⟩,by omega⟩
 ·have hk64:k=64:=by omega
  subst hk64;rw[show decide (((64:Nat):Int) < 64)=false from rfl];refine J7 H ?_;refine J91 H ?_;refine J3 H ?_;exact Q0g (Jy H rfl fun w' H'=>H')
end Go.Proofs.YtmjdnljneifpcaaGreatDoor
namespace Go.Proofs.YtmjdnljneifpcaaGreatDoor
open Go.SL
theorem V9d [Q0i] (vr vq:Value) (l:Lay) (hs:Z4n l) {w:World} {fr:List Q0e} (hr:RdL fr vr vq l) (H:Q0a w fr) :
  Calls Tryz.prog 254 #[V9c l.fixed vr l.record vq] w (ret fun x w'=>(∃ b,x = .bool b∧(b=true↔Q2y l))∧Q0a w' fr):=by
 obtain⟨s1,s2,s3,s4⟩:=hs;obtain⟨hr1,hr2⟩:=hr;obtain⟨_,ad1,cap1,rfl,hr1'⟩:=id hr1;obtain⟨_,ad2,cap2,rfl,hr2'⟩:=id hr2;refine Q0c Tryz.func254 rfl (by kernel_rfl) ?_;refine J8 H ?_;clear H;intro b1 w H;refine J0 H ?_;refine G8c H ?_;rw[show decide ((l.fixed:Int) < 0)=false from decide_eq_false (by omega)];refine U1p H ?_;by_cases h1:l.fixed≤64
 ·rw[show decide ((l.fixed:Int) > 64)=false from decide_eq_false (by omega)];refine U3l H ?_;rw[show decide ((l.record:Int) < 0)=false from decide_eq_false (by omega)];refine U3l H ?_;by_cases h2:l.record≤64
  ·rw[show decide ((l.record:Int) > 64)=false from decide_eq_false (by omega)];refine J17 H ?_;refine U4f H ?_;refine Jc rfl rfl (Y7j _ l.refs l.fixed s3 hr1.there H) ?_;clear H;rintro v w ⟨⟨b,rfl,hb⟩,H⟩;refine G9s H ?_;refine J45 H ?_;refine Jc rfl rfl (Y7j _ l.recs l.record s4 hr2.there H) ?_;clear H;rintro v w ⟨⟨c,rfl,hc⟩,H⟩;refine J0 H ?_
   have key:(b=true∧c=true∧l.fixed+l.record≠0)↔Q2y l:=by
    rw[hb,hc];exact⟨fun h=>⟨h1,h2,h.2.2,h.1,h.2.1⟩,fun h=>⟨h.2.2.2.1,h.2.2.2.2,h.2.2.1⟩⟩
   cases b with
   | false=>
    refine J6 H ?_;refine Q3h rfl rfl rfl ?_;refine J65 H ?_;refine U6z H ?_;exact Q0g (Jy H.drop rfl fun w' H'=>⟨⟨false,rfl,⟨fun h=>(by cases h),fun h=>(by have:=(key.2 h).1;cases this)⟩⟩,H'⟩)
   | true=>
    cases c with
    | false=>
     refine J6 H ?_;refine J25 H ?_;refine J65 H ?_;refine U6z H ?_;exact Q0g (Jy H.drop rfl fun w' H'=>⟨⟨false,rfl,⟨fun h=>(by cases h),fun h=>(by have:=(key.2 h).2.1;cases this)⟩⟩,H'⟩)
    | true=>
     refine J6 H ?_;refine J25 H ?_;refine U3l H ?_;by_cases h3:l.fixed > 0
     ·rw[show decide ((l.fixed:Int) > 0)=true from decide_eq_true (by omega)];refine J25 H ?_;refine G8j H ?_;refine J71 H ?_;exact Q0g (Jy H.drop rfl fun w' H'=>⟨⟨true,rfl,⟨fun _=>key.1 ⟨rfl,rfl,by omega⟩,fun _=>rfl⟩⟩,H'⟩)
     ·rw[show decide ((l.fixed:Int) > 0)=false from decide_eq_false (by omega)];refine U7a H ?_;by_cases h4:l.record > 0
      ·rw[show decide ((l.record:Int) > 0)=true from decide_eq_true (by omega)];refine J71 H ?_;exact Q0g (Jy H.drop rfl fun w' H'=>⟨⟨true,rfl,⟨fun _=>key.1 ⟨rfl,rfl,by omega⟩,fun _=>rfl⟩⟩,H'⟩)
      ·rw[show decide ((l.record:Int) > 0)=false from decide_eq_false (by omega)];refine J71 H ?_;exact Q0g (Jy H.drop rfl fun w' H'=>⟨⟨false,rfl,⟨fun h=>(by cases h),fun h=>(by have:=(key.2 h).2.2;omega)⟩⟩,H'⟩)
  ·rw[show decide ((l.record:Int) > 64)=true from decide_eq_true (by omega)];refine J51 H ?_;exact Q0g (Jy H.drop rfl fun w' H'=>⟨⟨false,rfl,⟨fun h=>(by cases h),fun h=>(by unfold Q2y at h;omega)⟩⟩,H'⟩)
 ·rw[show decide ((l.fixed:Int) > 64)=true from decide_eq_true (by omega)];refine U6y H ?_;refine U6y H ?_;refine J51 H ?_;exact Q0g (Jy H.drop rfl fun w' H'=>⟨⟨false,rfl,⟨fun h=>(by cases h),fun h=>(by unfold Q2y at h;omega)⟩⟩,H'⟩)
theorem Z6r [Q0i] (vr vq:Value) (l:Lay) (hR:Q2y l) (count:Int) {w:World} {fr:List Q0e} (hr:RdL fr vr vq l) (H:Q0a w fr) :
  Calls Tryz.prog 255 #[V9c l.fixed vr l.record vq,.int .i64 count] w (ret fun x w'=>x = .tuple #[.int .i64 ((Q3q l count).1:Nat),.int .i64 ((Q3q l count).2:Nat)]∧Q0a w' fr):=by
 have hf:=hR.1;have hc:=hR.2.1;obtain⟨_,ad1,cap1,rfl,hr1⟩:=id hr.r;obtain⟨_,ad2,cap2,rfl,hr2⟩:=id hr.q;refine Q0c Tryz.func255 rfl (by kernel_rfl) ?_;refine J8 H ?_;clear H;intro b2 w H;refine J2 H ?_;refine J36 H ?_;refine Jc rfl rfl (V9d _ _ l hR.small hr.there H) ?_;clear H;rintro v w ⟨⟨b,rfl,hb⟩,H⟩;obtain rfl:=hb.2 hR;refine J23 H ?_;refine J7 H ?_;refine Q1m (fun ms σ w=>ms=[]∧(∃ q,σ 26 = .bool q∧(q=true↔(count < 0∨count > 1024∨(count > 0∧l.record=0))))∧σ 1 = .int .i64 count∧σ 2=pp b2∧Q0a w (pts b2 (row 102 [.int .i64 l.fixed,.slice ad1 l.refs.length cap1,.int .i64 l.record,.slice ad2 l.recs.length cap2])::fr)) ?_ ?_
 ·refine J6 H ?_;by_cases c0:count < 0
  ·rw[show decide (count < 0)=true from decide_eq_true (by omega)];refine Jv ?_;refine G8i H ?_;refine J65 H ?_;refine G8h H ?_;refine Q3h rfl rfl rfl ?_;refine J0 H ?_;exact⟨rfl,rfl,⟨true,rfl,by simp[c0]⟩,rfl,rfl,H⟩
  ·rw[show decide (count < 0)=false from decide_eq_false (by omega)];refine J72 H ?_;by_cases c1:count > 1024
   ·rw[show decide (count > 1024)=true from decide_eq_true (by omega)];refine J65 H ?_;refine G8h H ?_;refine Q3h rfl rfl rfl ?_;refine J0 H ?_;exact⟨rfl,rfl,⟨true,rfl,by simp[c1]⟩,rfl,rfl,H⟩
   ·rw[show decide (count > 1024)=false from decide_eq_false (by omega)];refine U3l H ?_;by_cases c3:l.record=0
    ·rw[show ((l.record:Int) == 0)=true by simp;omega];refine J44 H ?_;by_cases c2:count > 0
     ·rw[show decide (count > 0)=true from decide_eq_true (by omega)];refine U6r H ?_;exact⟨rfl,rfl,⟨true,rfl,by simp[c2,c3]⟩,rfl,rfl,H⟩
     ·rw[show decide (count > 0)=false from decide_eq_false (by omega)];refine U6r H ?_;exact⟨rfl,rfl,⟨false,rfl,by simp only[Bool.false_eq_true,false_iff];omega⟩,rfl,rfl,H⟩
    ·rw[show ((l.record:Int) == 0)=false by simp;omega];refine J25 H ?_;refine G8i H ?_;refine U6r H ?_;exact⟨rfl,rfl,⟨false,rfl,by simp only[Bool.false_eq_true,false_iff];omega⟩,rfl,rfl,H⟩
 clear H;rintro ms σ w ⟨rfl,⟨q,g26,hq⟩,g1,g2,H⟩;rw[Q0b g26,Q0b g1,Q0b g2];cases q with
 | true=>
  have hs:Q3q l count=(0,3):=by unfold Q3q;rw[if_pos (hq.1 rfl)]
  refine J28 H ?_;exact Q0g (Jy H.drop rfl fun w' H'=>⟨by rw[hs];rfl,H'⟩)
 | false=>
  have hq':¬ (count < 0∨count > 1024∨(count > 0∧l.record=0)):=fun h=>by have:=hq.2 h;cases this
  obtain⟨c,rfl⟩:∃ c:Nat,count=c:=⟨count.toNat,by omega⟩;have hcm:c*l.record≤1024*64:=Nat.mul_le_mul (by omega) hc;have hcm2:(l.record:Int)*(c:Int)=((c*l.record:Nat):Int):=by rw[Int.natCast_mul,Int.mul_comm]
  refine J9 H ?_;refine U4f H ?_;refine U2i H ?_;refine J11 H ?_;rw[hcm2,Q1e (x:=((c*l.record:Nat):Int)) (by omega) (by omega),Q1e (x:=(l.fixed:Int)+((c*l.record:Nat):Int)) (by omega) (by omega),Q1e (x:=(l.fixed:Int)+((c*l.record:Nat):Int)+1) (by omega) (by omega)];by_cases c3:l.fixed+c*l.record≥8192
  ·have hs:Q3q l (c:Int)=(0,10):=by unfold Q3q;rw[if_neg hq',if_pos (by simpa using c3)]
   rw[show decide ((l.fixed:Int)+((c*l.record:Nat):Int)+1 > 8192)=true from decide_eq_true (by omega)];refine J28 H ?_;exact Q0g (Jy H.drop rfl fun w' H'=>⟨by rw[hs];rfl,H'⟩)
  ·have hs:Q3q l (c:Int)=(l.fixed+c*l.record,0):=by unfold Q3q;rw[if_neg hq',if_neg (by simpa using c3)];simp
   rw[show decide ((l.fixed:Int)+((c*l.record:Nat):Int)+1 > 8192)=false from decide_eq_false (by omega)];refine U2c H ?_;exact Q0g (Jy H.drop rfl fun w' H'=>⟨by rw[hs];show Value.tuple #[.int .i64 ((l.fixed:Int)+((c*l.record:Nat):Int)),_]=_;rw[← Int.natCast_add];rfl,H'⟩)
theorem V9e [Q0i] (vr vq:Value) (l:Lay) (hR:Q2y l) (p:Nat) (hp:l.record≠0∨p < l.fixed) (hp2:p < 1000000) {w:World} {fr:List Q0e} (hr:RdL fr vr vq l) (H:Q0a w fr) :
  Calls Tryz.prog 39 #[V9c l.fixed vr l.record vq,.int .i64 p] w (ret fun x w'=>x = .bool (Q2h l p)∧Q0a w' fr):=by
 have hsm:=hR.small;obtain⟨_,ad1,cap1,rfl,hr1⟩:=id hr.r;obtain⟨_,ad2,cap2,rfl,hr2⟩:=id hr.q;refine Q0c Tryz.func39 rfl (by kernel_rfl) ?_;refine J8 H ?_;clear H;intro b2 w H;refine J0 H ?_;refine U0d H ?_;refine J0 H ?_;by_cases h1:p < l.fixed
 ·rw[show decide ((p:Int) < (l.fixed:Int))=true from decide_eq_true (by omega)];refine J13 H ?_;refine G8c H ?_;refine Jc rfl rfl (Z4p _ l.refs p hsm.a hr.r.there H) ?_;clear H;rintro v w ⟨rfl,H⟩;refine J0 H ?_;exact Q0g (Jy H.drop rfl fun w' H'=>⟨by unfold Q2h;rw[if_pos h1];rfl,H'⟩)
 ·have e1:IntKind.i64.wrap ((p:Int) - (l.fixed:Int))=((p - l.fixed:Nat):Int):=by rw[Q1e (by omega) (by omega)];omega
  rw[show decide ((p:Int) < (l.fixed:Int))=false from decide_eq_false (by omega)];refine U4l H ?_;clear H;intro w H;refine Jf 0 ?_;refine Jl 1 [9] H ?_;refine Ja 2 ?_;refine Jf 3 ?_;refine Jl 4 [9] H ?_;refine Ja 5 ?_;refine Jf 6 ?_;refine Jl 7 [9] H ?_;rw[e1]
  refine Z0w (v := .int .i64 (((p - l.fixed) % l.record:Nat):Int)) 8 rfl (Q0n.none rfl) (by
   show (if IntKind.i64=IntKind.i64 then (if (l.record:Int)=0 then none else some (Value.int .i64 (Int.tmod ((p - l.fixed:Nat):Int) (l.record:Int)))) else none)=_;rw[if_pos rfl,if_neg (by omega),Int.tmod_eq_emod_of_nonneg (by omega),Int.natCast_emod]) (by kernel_rfl) ?_
  refine Jo 9 H ?_;refine Jk rfl rfl (Z4p _ l.recs _ hsm.b hr.q.there H) ?_;clear H;rintro v w ⟨rfl,H⟩;refine Ja 10 ?_;refine Jx H ?_;exact Q0g (Jy H.drop rfl fun w' H'=>⟨by unfold Q2h;rw[if_neg h1];rfl,H'⟩)
end Go.Proofs.YtmjdnljneifpcaaGreatDoor
namespace Go.Proofs.YtmjdnljneifpcaaGreatDoor
open Go.SL
abbrev Rf:=Int×Int
theorem tkR:Z0m Tryz.prog 133 kp:=Y6p inferInstance
theorem tkI:Z0m Tryz.prog 3 (ki .i64):=G4z inferInstance
@[reducible] def vm:Nat→Value:=fun b => .map (some b)
@[reducible] def v1:Int→Value:=fun x => .int .i64 x
@[reducible] def rf (r:Rf):Value := .agg #[.int .i64 r.1,.int .i64 r.2]
structure Gr where
 key:Int
 blk:Nat
 m:List (Rf×Int)
@[reducible] def Y7k (g:Gr):Q0e:=mp kp v1 g.blk g.m
@[reducible] def gkb (g:Gr):Int×Nat:=(g.key,g.blk)
def mem (G:List Gr) (k:Int) (r:Rf):Prop:=∃ g∈G,g.key=k∧r∈g.m.map (·.1)
def GrR (bo:Nat) (S:Int→Rf→Prop):Q0e:=ex fun G=>star [prop (∀ k r,mem G k r↔S k r),mp (ki .i64) vm bo (G.map gkb),star (G.map Y7k)]
theorem Y5d [Q0i] {w:World} {bo:Nat} {S:Int→Rf→Prop} {l:List Q0e} (H:Q0a w (GrR bo S::l)) :
  ∃ G,(∀ k r,mem G k r↔S k r)∧Q0a w (mp (ki .i64) vm bo (G.map gkb)::star (G.map Y7k)::l):=by
 obtain⟨G,H⟩:=Q0a.ex.1 H;have H:=Q0a.star.1 H;obtain⟨h1,H⟩:=Q0a.prop.1 H;exact⟨G,h1,H⟩
theorem V2f [Q0i] {w:World} {bo:Nat} {S:Int→Rf→Prop} {l:List Q0e} (G:List Gr) (h:∀ k r,mem G k r↔S k r) (H:Q0a w (mp (ki .i64) vm bo (G.map gkb)::star (G.map Y7k)::l)):Q0a w (GrR bo S::l):=
 Q0a.ex.2 ⟨G,Q0a.star.2 (Q0a.prop.2 ⟨h,H⟩)⟩
theorem Q5h [Q0i] {w:World} {K V:Type} {ek:K→Value} {vv:V→Value} (b:Nat) {m:List (K×V)} {l:List Q0e} (H:Q0a w l) [AtM ek vv b m l]:(m.map (·.1)).Nodup:=by
 obtain⟨es,c,_,h⟩:=Q0a.mp H (ek:=ek) (vv:=vv) (b:=b) (m:=m);exact h.nodup
theorem V0c (G:List Gr):(G.map gkb).map (·.1)=G.map (·.key):=by simp[gkb,Function.comp_def]
theorem V7x {G:List Gr} {k:Int} {b:Nat} (h:fnd (G.map gkb) k=some b):∃ g g1 g2,G=g1++g::g2∧g.key=k∧g.blk=b:=by
 have h1:=Q7d h;obtain⟨g,hg,e⟩:=List.mem_map.1 h1;obtain⟨g1,g2,rfl⟩:=List.append_of_mem hg;simp only[gkb,Prod.mk.injEq] at e;exact⟨g,g1,g2,rfl,e.1,e.2⟩
theorem V2r {K V:Type} [DecidableEq K] {l1 l2:List (K×V)} {p:K×V} (h:((l1++p::l2).map (·.1)).Nodup):era (l1++p::l2) p.1=l1++l2:=by
 induction l1 with
 | nil=>simp[era]
 | cons q l1 ih=>
  simp only[List.cons_append,List.map_cons,List.nodup_cons] at h;have hne:q.1≠p.1:=fun e=>h.1 (by rw[e];simp);simp[era,hne,ih h.2]
theorem V2s {g1 g2:List Gr} {g:Gr} {k:Int} {r:Rf}:mem (g1++g::g2) k r↔(g.key=k∧r∈g.m.map (·.1))∨mem (g1++g2) k r:=by
 unfold mem;simp only[List.mem_append,List.mem_cons];constructor
 ·rintro⟨x,hx|rfl|hx,h⟩
  ·exact .inr ⟨x,.inl hx,h⟩
  ·exact .inl h
  ·exact .inr ⟨x,.inr hx,h⟩
 ·rintro(h|⟨x,hx|hx,h⟩)
  ·exact⟨g,.inr (.inl rfl),h⟩
  ·exact⟨x,.inl hx,h⟩
  ·exact⟨x,.inr (.inr hx),h⟩
theorem V1b {G:List Gr} {k:Int} {r:Rf} (h:mem G k r):k∈G.map (·.key):=by
 obtain⟨g,hg,rfl,_⟩:=h;exact List.mem_map_of_mem hg
theorem V4c {g1 g2:List Gr} {g:Gr} (h:((g1++g::g2).map (·.key)).Nodup):g.key∉(g1++g2).map (·.key):=by
 rw[((List.perm_middle (a:=g) (l₁:=g1) (l₂:=g2)).map (·.key)).nodup_iff] at h;exact(List.nodup_cons.1 h).1
theorem Z4q {g1 g2:List Gr} {g g':Gr} (hk:g'.key=g.key) (hn:((g1++g::g2).map (·.key)).Nodup) {k:Int} {r:Rf}:mem (g1++g'::g2) k r↔if k=g.key then r∈g'.m.map (·.1) else mem (g1++g::g2) k r:=by
 have hr:=V4c hn;rw[V2s,V2s,hk];by_cases h:k=g.key
 ·subst h;simp only[if_true,true_and];exact⟨fun h=>h.elim id fun h=>absurd (V1b h) hr,.inl⟩
 ·rw[if_neg h];constructor
  ·rintro(⟨e,_⟩|h')
   ·exact absurd e.symm h
   ·exact .inr h'
  ·rintro(⟨e,_⟩|h')
   ·exact absurd e.symm h
   ·exact .inr h'
theorem Y7l [Q0i] (bo:Nat) (S:Int→Rf→Prop) (k:Int) (r:Rf) {w:World} {fr:List Q0e} (H:Q0a w (GrR bo S::fr)) :
  Calls Tryz.prog 126 #[.map (some bo),.int .i64 k,rf r] w (ret fun v w'=>Q0a w' (GrR bo (fun k' r'=>S k' r'∧¬ (k'=k∧r'=r))::fr)):=by
 obtain⟨a,b⟩:=r;refine Q0c Tryz.func126 rfl (by kernel_rfl) ?_;obtain⟨G,hG,H⟩:=Y5d H;refine J8 H ?_;clear H;intro b5 w H;refine U0e H ?_;refine Q0s rfl (Q3m (key:=k) H rfl rfl tkI rfl ?_);have hn0:=Q5h bo H;have hn:(G.map (·.key)).Nodup:=by rw[← V0c];exact hn0
 cases hf:fnd (G.map gkb) k with
 | none=>
  refine G8k H ?_;refine Q0s rfl (Y4g (key:=(a,b)) rfl rfl tkR rfl ?_);refine U0e H ?_;refine Q0s rfl (Q3m (key:=k) H rfl rfl tkI rfl ?_);rw[hf];refine Q0s rfl (Y4h rfl rfl ?_);refine J0 H ?_;refine Q3g rfl ?_;refine J6 H ?_;refine Q0s rfl (Q5w (key:=k) H rfl rfl tkI rfl ?_);clear H;intro w H;refine Q0h ?_;have hk:=Q6f.1 hf;rw[V3l hk] at H;refine Q2w _ (.inl rfl) (V2f G (fun k' r'=>?_) H.drop) rfl (fun w' H'=>H');rw[← hG k' r'];exact⟨fun h=>⟨h,fun e=>hk (by rw[V0c,← e.1];exact V1b h)⟩,(·.1)⟩
 | some bi=>
  obtain⟨g,g1,g2,rfl,rfl,rfl⟩:=V7x hf;have H:=(Q0a.pick rfl).1 (H.pull 2);refine G8k H ?_;have hi:=Q5h g.blk H;refine Q0s rfl (Q5w (key:=(a,b)) H rfl rfl tkR rfl ?_);clear H;intro w H;refine U0e H ?_;refine Q0s rfl (Q3m (key:=g.key) H rfl rfl tkI rfl ?_);rw[hf];refine Q0s rfl (V8q kp v1 H rfl rfl ?_);refine J0 H ?_;refine V8i rfl (fun ht=>?_) (fun ht=>?_)
  ·refine J6 H ?_;refine Q0s rfl (Q5w (key:=g.key) H rfl rfl tkI rfl ?_);clear H;intro w H;refine Q0h ?_
   have e:era ((g1++g::g2).map gkb) g.key=(g1++g2).map gkb:=by
    simp only[List.map_append,List.map_cons] at hn0 ⊢;exact V2r (p:=gkb g) (by simpa using hn0)
   rw[e] at H;refine Q2w _ (.inl rfl) (V2f (g1++g2) (fun k' r'=>?_) (l:=fr) ?_) rfl (fun w' H'=>H')
   ·have hr:=V4c hn;have hz:era g.m (a,b)=[]:=List.eq_nil_of_length_eq_zero (by simpa using ht);rw[← hG k' r',V2s];constructor
    ·intro h;exact⟨.inr h,fun e=>hr (by rw[← e.1];exact V1b h)⟩
    ·rintro⟨⟨rfl,h⟩|h,h2⟩
     ·have:=(V3n (m:=g.m) (x:=(a,b)) (y:=r') hi).2 ⟨fun e=>h2 ⟨rfl,e⟩,h⟩;rw[hz] at this;simp at this
     ·exact h
   ·replace H:=Js [3,1] 2 H;exact H
  ·refine Q0w ?_;replace H:=Js [0,0,1] 1 H;refine Q2w _ (.inl rfl) (V2f (g1++{ g with m:=era g.m (a,b) }::g2) (fun k' r'=>?_) (l:=fr) ?_) rfl (fun w' H'=>H')
   ·rw[Z4q (g:=g) (g':={ g with m:=era g.m (a,b) }) rfl hn,← hG k' r'];split
    ·rename_i e;subst e;rw[V3n hi,V2s];have hr:=V4c hn;constructor
     ·rintro⟨h1,h2⟩;exact⟨.inl ⟨rfl,h2⟩,fun e=>h1 e.2⟩
     ·rintro⟨⟨_,h⟩|h,h2⟩
      ·exact⟨fun e=>h2 ⟨rfl,e⟩,h⟩
      ·exact absurd (V1b h) hr
    ·rename_i e;exact⟨fun h=>⟨h,fun e'=>e e'.1⟩,(·.1)⟩
   ·have H:=((Q0a.pick (R:=Y7k) (gs:=g1++{ g with m:=era g.m (a,b) }::g2) rfl).2 H).swap;simpa only[List.map_append,List.map_cons,List.map_nil,gkb] using H
theorem Y7m [Q0i] (bo:Nat) (S:Int→Rf→Prop) (k:Int) (r:Rf) {w:World} {fr:List Q0e} (H:Q0a w (GrR bo S::fr)) :
  Calls Tryz.prog 252 #[.map (some bo),.int .i64 k,rf r] w (ret fun v w'=>Q0a w' (GrR bo (fun k' r'=>S k' r'∨(k'=k∧r'=r))::fr)):=by
 obtain⟨a,b⟩:=r;refine Q0c Tryz.func252 rfl (by kernel_rfl) ?_;obtain⟨G,hG,H⟩:=Y5d H;refine J8 H ?_;clear H;intro b5 w H;refine U0e H ?_;refine Q0s rfl (Q3m (key:=k) H rfl rfl tkI rfl ?_);have hn0:=Q5h bo H;have hn:(G.map (·.key)).Nodup:=by rw[← V0c];exact hn0
 cases hf:fnd (G.map gkb) k with
 | none=>
  refine Q0s rfl (V8n rfl rfl (.inl rfl) rfl ?_);refine Q0h ?_;refine Q3g rfl ?_;refine J6 H ?_;refine Q0s rfl (Q6h v1 kp H rfl ?_);clear H;intro b12 w H;refine Q0s rfl (Q3t (key:=k) (v:=b12) H rfl rfl rfl tkI rfl ?_);clear H;intro w H;refine U0e H ?_;have hk:=Q6f.1 hf;refine Q0s rfl (Q3m (key:=k) H rfl rfl tkI rfl ?_);have hf2:fnd (ins (G.map gkb) k b12) k=some b12:=by rw[Q7c,if_pos rfl]
  rw[hf2];refine G8k H ?_;refine Q0s rfl (Q3t (key:=(a,b)) (v:=1) H rfl rfl rfl tkR rfl ?_);clear H;intro w H;refine Q0h ?_;rw[Q7j hk] at H;replace H:=Js [0,2,1] 1 H;refine Q2w _ (.inl rfl) (V2f (G++{ key:=k,blk:=b12,m:=[((a,b),1)] }::[]) (fun k' r'=>?_) (l:=fr) ?_) rfl (fun w' H'=>H')
  ·rw[V2s,List.append_nil,hG k' r'];constructor
   ·rintro(⟨rfl,h⟩|h)
    ·exact .inr ⟨rfl,by simpa using h⟩
    ·exact .inl h
   ·rintro(h|⟨rfl,rfl⟩)
    ·exact .inr h
    ·exact .inl ⟨rfl,by simp⟩
  ·have H:=((Q0a.pick (R:=Y7k) (gs:=G++{ key:=k,blk:=b12,m:=[((a,b),1)] }::[]) rfl).2 (by rw[List.append_nil];exact H)).swap;simpa only[List.map_append,List.map_cons,List.map_nil,gkb] using H
 | some bi=>
  obtain⟨g,g1,g2,rfl,rfl,rfl⟩:=V7x hf;have H:=(Q0a.pick rfl).1 (H.pull 2);refine Q0s rfl (V8n rfl rfl (.inl rfl) rfl ?_);refine Q0h ?_;refine Q1y rfl (Q0w ?_);refine J6 H ?_;refine Q0s rfl (Q3m (key:=g.key) H rfl rfl tkI rfl ?_);rw[hf];refine G8k H ?_;refine Q0s rfl (Q3t (key:=(a,b)) (v:=1) H rfl rfl rfl tkR rfl ?_);clear H;intro w H;refine Q0h ?_;replace H:=Js [0,0,1] 1 H;refine Q2w _ (.inl rfl) (V2f (g1++{ g with m:=ins g.m (a,b) 1 }::g2) (fun k' r'=>?_) (l:=fr) ?_) rfl (fun w' H'=>H')
  ·rw[Z4q (g:=g) (g':={ g with m:=ins g.m (a,b) 1 }) rfl hn,← hG k' r'];split
   ·rename_i e;subst e;rw[Z3y,V2s];have hr:=V4c hn;constructor
    ·rintro(h|h)
     ·exact .inr ⟨rfl,h⟩
     ·exact .inl (.inl ⟨rfl,h⟩)
    ·rintro((⟨_,h⟩|h)|⟨_,h⟩)
     ·exact .inr h
     ·exact absurd (V1b h) hr
     ·exact .inl h
   ·rename_i e;exact⟨.inl,fun h=>h.elim id fun e'=>absurd e'.1 e⟩
  ·have H:=((Q0a.pick (R:=Y7k) (gs:=g1++{ g with m:=ins g.m (a,b) 1 }::g2) rfl).2 H).swap;simpa only[List.map_append,List.map_cons,List.map_nil,gkb] using H
end Go.Proofs.YtmjdnljneifpcaaGreatDoor
namespace Go.Proofs.YtmjdnljneifpcaaGreatDoor
open Go.SL
def RS (p:Nat) (m:List (Rf×Int)):Q0e:=ex fun q:Nat×Nat×Nat=>
 star [pts p (row 148 [.map (some q.1),.map (some q.2.1),.map (some q.2.2)]),mp kp v1 q.1 m,GrR q.2.1 (fun k r=>fnd m r=some k),GrR q.2.2 (fun k r=>r.1=k∧(fnd m r).isSome=true)]
theorem Y2o [Q0i] {w:World} {p:Nat} {m:List (Rf×Int)} {l:List Q0e} (H:Q0a w (RS p m::l)) :
  ∃ bt bo bf,Q0a w (pts p (row 148 [.map (some bt),.map (some bo),.map (some bf)])::mp kp v1 bt m::GrR bo (fun k r=>fnd m r=some k)::GrR bf (fun k r=>r.1=k∧(fnd m r).isSome=true)::l):=by
 obtain⟨⟨bt,bo,bf⟩,H⟩:=Q0a.ex.1 H;exact⟨bt,bo,bf,Q0a.star.1 H⟩
theorem Y7n [Q0i] {w:World} {p:Nat} {m:List (Rf×Int)} {l:List Q0e} {S T:Int→Rf→Prop} (bt bo bf:Nat) (hS:∀ k r,S k r↔fnd m r=some k) (hT:∀ k r,T k r↔(r.1=k∧(fnd m r).isSome=true))
  (H:Q0a w (pts p (row 148 [.map (some bt),.map (some bo),.map (some bf)])::mp kp v1 bt m::GrR bo S::GrR bf T::l)):Q0a w (RS p m::l):=by
 have e1:S=fun k r=>fnd m r=some k:=by funext k r;exact propext (hS k r)
 have e2:T=fun k r=>r.1=k∧(fnd m r).isSome=true:=by funext k r;exact propext (hT k r)
 subst e1 e2;exact Q0a.ex.2 ⟨(bt,bo,bf),Q0a.star.2 H⟩
theorem Y7o [Q0i] {w:World} {bo:Nat} {l:List Q0e} (H:Q0a w (mp (ki .i64) vm bo []::l)):Q0a w (GrR bo (fun _ _=>False)::l):=
 V2f [] (by simp[mem]) (Q0a.swap ((Q0a.star (k:=[])).2 H))
theorem G0z [Q0i] {w:World} {fr:List Q0e} (H:Q0a w fr):Calls Tryz.prog 85 #[] w (ret fun v w'=>∃ p,v=pp p∧Q0a w' (RS p []::fr)):=by
 refine Q0c Tryz.func85 rfl (by kernel_rfl) ?_;refine U4m H ?_;refine Q0s rfl (Q6h v1 kp H rfl ?_);clear H;intro b1 w H;refine Q0s rfl (Q6h vm (ki .i64) H rfl ?_);clear H;intro b2 w H;refine Q0s rfl (Q6h vm (ki .i64) H rfl ?_);clear H;intro b3 w H;refine J60 H ?_;clear H;intro b5 w H;refine J0 H ?_;refine Q0g ?_;replace H:=Y7o (H.pull 1);replace H:=Y7o (H.pull 2);replace H:=Js [2,2,0,0] 0 H;exact Jy H rfl (fun w' H'=>⟨b5,rfl,Y7n b1 b2 b3 (S:=fun _ _=>False) (T:=fun _ _=>False) (by simp[fnd]) (by simp[fnd]) H'⟩)
theorem G5q (o:Option Int):Z0x (.int .i64 0) v1 o = .int .i64 (o.getD 0):=by cases o <;> rfl
theorem G5r [Q0i] (p:Nat) (m:List (Rf×Int)) (r:Rf) {w:World} {fr:List Q0e} (H:Q0a w (RS p m::fr)) :
  Calls Tryz.prog 114 #[pp p,rf r] w (ret fun v w'=>v = .tuple #[.int .i64 ((fnd m r).getD 0),.bool (fnd m r).isSome]∧Q0a w' (RS p m::fr)):=by
 obtain⟨a,b⟩:=r;refine Q0c Tryz.func114 rfl (by kernel_rfl) ?_;obtain⟨bt,bo,bf,H⟩:=Y2o H;refine J8 H ?_;clear H;intro b3 w H;refine U7i H ?_;refine J1 H ?_;clear H;intro w H;refine J61 H ?_;refine Q1w 4 [] H rfl (Q0n.none rfl) rfl (by repeat first|exact .nil _|apply Q0o.cons rfl) (by kernel_rfl) ?_;refine Q7k 5 [] (key:=(a,b)) H rfl (Q0n.none rfl) rfl rfl tkR (by kernel_rfl) ?_;rw[G5q];refine J75 H ?_;refine J94 H ?_;refine Jx H ?_;refine U0f H ?_;refine Q0g (Jy (Y7n bt bo bf (fun _ _=>Iff.rfl) (fun _ _=>Iff.rfl) H.drop) rfl fun w' H'=>⟨rfl,H'⟩)
theorem V1c [Q0i] (p:Nat) (m:List (Rf×Int)) (hm:(m.map (·.1)).Nodup) (r:Rf) {w:World} {fr:List Q0e} (H:Q0a w (RS p m::fr)) :
  Calls Tryz.prog 62 #[pp p,rf r] w (ret fun v w'=>v = .bool (fnd m r).isSome∧Q0a w' (RS p (era m r)::fr)):=by
 obtain⟨a,b⟩:=r;refine Q0c Tryz.func62 rfl (by kernel_rfl) ?_;refine J8 H ?_;clear H;intro b3 w H;refine G8l H ?_;refine Jc rfl rfl (G5r p m (a,b) H.swap) ?_;clear H;rintro v w ⟨rfl,H⟩;refine J66 H ?_;cases hf:fnd m (a,b) with
 | none=>
  refine J21 H ?_;rw[V3l (Q6f.1 hf)];refine Q0g (Jy H.swap.drop rfl fun w' H'=>⟨rfl,H'⟩)
 | some t=>
  refine J9 H ?_;obtain⟨bt,bo,bf,H⟩:=Y2o H;refine J1 H ?_;clear H;intro w H;refine U7j H ?_;refine Q5w (key:=(a,b)) H rfl rfl tkR rfl ?_;clear H;intro w H;refine Jx H ?_;replace H:=Js [2,0,0,0,0] 0 H;refine J1 H ?_;clear H;intro w H;refine U2j H ?_;refine Ja 4 ?_;refine U4n H ?_;refine Jk rfl rfl (Y7l bo _ t (a,b) H) ?_;clear H;intro v w H;refine Jx H ?_;replace H:=Js [3,0,0,0,0] 0 H;refine J1 H ?_;clear H;intro w H;refine Ja 0 ?_;refine Ja 1 ?_;refine Jf 2 ?_;refine Jl 3 [7] H ?_;refine Jf 4 ?_;refine Jl 5 [7] H ?_;refine U7k H ?_;refine Jk rfl rfl (Y7l bf _ a (a,b) H) ?_;clear H;intro v w H;refine U4b H ?_;replace H:=Js [2,2,1,0] 1 H;refine Q0g (Jy (Y7n bt bo bf (fun k r=>?_) (fun k r=>?_) H) rfl fun w' H'=>⟨rfl,H'⟩)
  ·rw[Q9a hm];split
   ·rename_i e;subst e;rw[hf];simp;rintro rfl;rfl
   ·rename_i e;exact⟨(·.1),fun h=>⟨h,fun e'=>e e'.2.symm⟩⟩
  ·rw[Q9a hm];split
   ·rename_i e;subst e;simp;rintro rfl _;rfl
   ·rename_i e;exact⟨(·.1),fun h=>⟨h,fun e'=>e e'.2.symm⟩⟩
theorem Y7p [Q0i] (p:Nat) (m:List (Rf×Int)) (hm:(m.map (·.1)).Nodup) (r:Rf) (t:Int) {w:World} {fr:List Q0e} (H:Q0a w (RS p m::fr)) :
  Calls Tryz.prog 226 #[pp p,rf r,.int .i64 t] w (ret fun v w'=>v = .bool (!(fnd m r).isSome)∧Q0a w' (RS p (ins (era m r) r t)::fr)):=by
 obtain⟨a,b⟩:=r;refine Q0c Tryz.func226 rfl (by kernel_rfl) ?_;refine J8 H ?_;clear H;intro b4 w H;refine U2k H ?_;refine J42 H ?_;refine Jc rfl rfl (V1c p m hm (a,b) H.swap) ?_;clear H;rintro v w ⟨rfl,H⟩;refine J0 H ?_;obtain⟨bt,bo,bf,H⟩:=Y2o H;refine J1 H ?_;clear H;intro w H;refine U2j H ?_;refine U4o H ?_;refine Ja 5 ?_;refine Jo 6 H ?_;refine Q3t (key:=(a,b)) (v:=t) H rfl rfl rfl tkR rfl ?_;clear H;intro w H;refine Jx H ?_;replace H:=Js [2,0,0,0,0] 0 H;refine J1 H ?_;clear H;intro w H;refine U2j H ?_;refine Ja 4 ?_;refine U4n H ?_;refine Jk rfl rfl (Y7m bo _ t (a,b) H) ?_;clear H;intro v w H;refine Jx H ?_;replace H:=Js [3,0,0,0,0] 0 H;refine J1 H ?_;clear H;intro w H;refine Ja 0 ?_;refine Ja 1 ?_;refine Jf 2 ?_;refine Jl 3 [7] H ?_;refine Jf 4 ?_;refine Jl 5 [7] H ?_;refine U7k H ?_;refine Jk rfl rfl (Y7m bf _ a (a,b) H) ?_;clear H;intro v w H;refine Jx H ?_;refine J11 H ?_;replace H:=Js [2,2,1,0] 1 H;have hn:=Q9a hm (x:=(a,b)) (y:=(a,b));rw[if_pos rfl] at hn;refine Q0g (Jy (Y7n bt bo bf (fun k r=>?_) (fun k r=>?_) H) rfl fun w' H'=>⟨rfl,H'⟩)
 ·rw[Q7c];split
  ·rename_i e;subst e;rw[hn];simp;exact eq_comm
  ·rename_i e;exact⟨fun h=>h.elim id fun e'=>absurd e'.2.symm e,.inl⟩
 ·rw[Q7c];split
  ·rename_i e;subst e;rw[hn];simp;exact eq_comm
  ·rename_i e;exact⟨fun h=>h.elim id fun e'=>absurd e'.2.symm e,.inl⟩
end Go.Proofs.YtmjdnljneifpcaaGreatDoor
namespace Go.Proofs.YtmjdnljneifpcaaGreatDoor
open Go.SL
def TRE (p last:Nat) (par:List (Int×Int)):Q0e:=ex fun b:Nat=>star [pts p (row 122 [.map (some b),.int .i64 last]),mp (ki .i64) v1 b par]
theorem V0d [Q0i] {w:World} {p last:Nat} {par:List (Int×Int)} {l:List Q0e} (H:Q0a w (TRE p last par::l)):∃ b,Q0a w (pts p (row 122 [.map (some b),.int .i64 last])::mp (ki .i64) v1 b par::l):=by
 obtain⟨b,H⟩:=Q0a.ex.1 H;exact⟨b,Q0a.star.1 H⟩
theorem V2g [Q0i] {w:World} {p last b:Nat} {par:List (Int×Int)} {l:List Q0e} (H:Q0a w (pts p (row 122 [.map (some b),.int .i64 last])::mp (ki .i64) v1 b par::l)):Q0a w (TRE p last par::l):=
 Q0a.ex.2 ⟨b,Q0a.star.2 H⟩
theorem Z4r [Q0i] {w:World} {p last:Nat} {par:List (Int×Int)} {l:List Q0e} (H:Q0a w (TRE p last par::l)):(par.map (·.1)).Nodup:=by
 obtain⟨b,H⟩:=V0d H;exact Q5h b H
theorem Z6s [Q0i] {w:World} {fr:List Q0e} (H:Q0a w fr):Calls Tryz.prog 84 #[] w (ret fun v w'=>∃ p,v=pp p∧Q0a w' (TRE p 0 []::fr)):=by
 refine Q0c Tryz.func84 rfl (by kernel_rfl) ?_;refine U4m H ?_;refine Q0s rfl (Q6h v1 (ki .i64) H rfl ?_);clear H;intro b1 w H;refine J60 H ?_;clear H;intro b3 w H;refine J0 H ?_;exact Q0g (Jy H rfl fun w' H'=>⟨_,rfl,V2g H'⟩)
theorem V4d [Q0i] (p last:Nat) (par:List (Int×Int)) (id:Int) {w:World} {fr:List Q0e} (H:Q0a w (TRE p last par::fr)) :
  Calls Tryz.prog 46 #[pp p,.int .i64 id] w (ret fun v w'=>v = .bool (fnd par id).isSome∧Q0a w' (TRE p last par::fr)):=by
 obtain⟨b,H⟩:=V0d H;refine Q0c Tryz.func46 rfl (by kernel_rfl) ?_;refine U0g H ?_;refine Q0s rfl (Q3m (key:=id) H rfl rfl tkI rfl ?_);refine U1z H ?_;refine V8p rfl rfl ?_;refine J22 H ?_;exact Q0g (Jy (V2g H) rfl fun w' H'=>⟨rfl,H'⟩)
theorem Y2p [Q0i] (p last:Nat) (par:List (Int×Int)) {w:World} {fr:List Q0e} (H:Q0a w (TRE p last par::fr)) :
  Calls Tryz.prog 19 #[pp p] w (ret fun v w'=>v = .int .i64 par.length∧Q0a w' (TRE p last par::fr)):=by
 obtain⟨b,H⟩:=V0d H;refine Q0c Tryz.func19 rfl (by kernel_rfl) ?_;refine G8f H ?_;refine Q0s rfl (V8q (ki .i64) v1 H rfl rfl ?_);refine J0 H ?_;exact Q0g (Jy (V2g H) rfl fun w' H'=>⟨rfl,H'⟩)
theorem V9f [Q0i] (p last:Nat) (par:List (Int×Int)) (id:Int) {w:World} {fr:List Q0e} (H:Q0a w (TRE p last par::fr)) :
  Calls Tryz.prog 52 #[pp p,.int .i64 id] w (ret fun v w'=>v = .int .i64 (if (fnd par id).isSome then 0 else 6)∧Q0a w' (TRE p last par::fr)):=by
 refine Q0c Tryz.func52 rfl (by kernel_rfl) ?_;refine J5 H ?_;refine Q2s (fun ms σ w=>ms=[]∧(fnd par id).isSome=true∧Q0a w (TRE p last par::fr)) ?_ ?_
 ·refine U7f H ?_;refine Jc rfl rfl (V4d p last par id H) ?_;clear H;rintro v w ⟨rfl,H⟩;cases hf:(fnd par id).isSome with
  | true=>
   refine U0b H ?_;exact .inl ⟨rfl,rfl,rfl,H⟩
  | false=>
   refine U7l H ?_;exact Q0g (.inr ⟨by simp,Jy H rfl fun w' H'=>⟨rfl,H'⟩⟩)
 ·clear H;rintro ms σ w ⟨rfl,hf,H⟩;rw[hf];refine J14 H ?_;exact Q0g (Jy H rfl fun w' H'=>⟨rfl,H'⟩)
def Q5l (par:List (Int×Int)) (parent:Int):Nat:=if parent≠0∧(fnd par parent).isSome=false then 6 else if par.length=64 then 5 else 0
theorem Y2q [Q0i] (p last:Nat) (par:List (Int×Int)) (parent:Int) (hlast:last < 1000000) (hup:∀ r q,(r,q)∈par→r≤(last:Int)) {w:World} {fr:List Q0e} (H:Q0a w (TRE p last par::fr)) :
  Calls Tryz.prog 71 #[pp p,.int .i64 parent] w (ret fun v w'=>(Q5l par parent≠0∧v = .tuple #[.int .i64 0,.int .i64 (Q5l par parent)]∧Q0a w' (TRE p last par::fr)) ∨
   (Q5l par parent=0∧v = .tuple #[.int .i64 ((last+1:Nat):Int),.int .i64 0]∧Q0a w' (TRE p (last+1) (par++[(((last+1:Nat):Int),parent)])::fr))):=by
 refine Q0c Tryz.func71 rfl (by kernel_rfl) ?_;refine U4c H ?_;refine Q2s (fun ms σ w=>ms=[]∧Q5l par parent=0∧σ 0=pp p∧σ 1 = .int .i64 parent∧Q0a w (TRE p last par::fr)) ?_ ?_
 ·refine G8g H ?_;refine J7 H ?_;refine Q1m (fun ms σ w=>ms=[]∧(∃ q,σ 9 = .bool q∧(q=true↔parent≠0∧(fnd par parent).isSome=false))∧σ 0=pp p∧σ 1 = .int .i64 parent∧Q0a w (TRE p last par::fr)) ?_ ?_
  ·refine J6 H ?_;by_cases h0:parent=0
   ·rw[show (parent != 0)=false by simpa using h0];refine U7h H ?_;refine J2 H ?_;exact⟨rfl,rfl,⟨false,rfl,by simp[h0]⟩,rfl,rfl,H⟩
   ·rw[show (parent != 0)=true by simpa using h0];refine J72 H ?_;refine Q4u rfl rfl rfl (Q1h (a:=[]) (b:=[]) rfl rfl (call (V4d p last par parent H) ?_));clear H;rintro v w ⟨rfl,H⟩;refine J71 H ?_;exact⟨rfl,rfl,⟨!(fnd par parent).isSome,rfl,by simp[h0]⟩,rfl,rfl,H⟩
  ·clear H;rintro ms σ w ⟨rfl,⟨q,g9,hq⟩,g0,g1,H⟩;rw[Q0b g9,Q0b g0,Q0b g1];cases q with
   | true=>
    have he:Q5l par parent=6:=by unfold Q5l;rw[if_pos (hq.1 rfl)]
    refine J28 H ?_;exact Q0g (.inr ⟨by simp,Jy H rfl fun w' H' => .inl ⟨by omega,by rw[he];rfl,H'⟩⟩)
   | false=>
    have hq':¬ (parent≠0∧(fnd par parent).isSome=false):=fun h=>by have:=hq.2 h;cases this
    obtain⟨b,H⟩:=V0d H;refine U2l H ?_;refine J29 H ?_;refine Q0s rfl (V8q (ki .i64) v1 H rfl rfl ?_);refine J2 H ?_;by_cases h64:par.length=64
    ·have he:Q5l par parent=5:=by unfold Q5l;rw[if_neg hq',if_pos h64]
     rw[show ((par.length:Int) == 64)=true by simp;omega];refine J28 H ?_;exact Q0g (.inr ⟨by simp,Jy (V2g H) rfl fun w' H' => .inl ⟨by omega,by rw[he];rfl,H'⟩⟩)
    ·have he:Q5l par parent=0:=by unfold Q5l;rw[if_neg hq',if_neg h64]
     rw[show ((par.length:Int) == 64)=false by simp;omega];refine J9 H ?_;exact .inl ⟨rfl,rfl,he,rfl,rfl,V2g H⟩
 ·clear H;rintro ms σ w ⟨rfl,he,g0,g1,H⟩;rw[Q0b g0,Q0b g1];obtain⟨b,H⟩:=V0d H;refine J10 H ?_;rw[Q1e (x:=((last:Nat):Int)+1) (by omega) (by omega),show ((last:Nat):Int)+1=((last+1:Nat):Int) by omega];refine J40 H ?_;clear H;intro w H;refine Q0h ?_;refine J1 H ?_;clear H;intro w H;refine U7m H ?_;refine U7n H ?_;refine Jl 7 [9] H ?_;refine Ja 8 ?_;refine Jo 9 H ?_;refine Q3t (v:=parent) (key:=((last+1:Nat):Int)) H rfl rfl rfl tkI rfl ?_;clear H;intro w H;refine Jx H ?_;refine J29 H ?_;refine J2 H ?_
  rw[Q7j (fun h=>by
   obtain⟨⟨a,q⟩,hm,h1⟩:=List.mem_map.1 h;have h1:a=((last+1:Nat):Int):=h1;have:=hup a q hm;omega)] at H
  exact Q0g (Jy (V2g H) rfl fun w' H' => .inr ⟨he,rfl,H'⟩)
end Go.Proofs.YtmjdnljneifpcaaGreatDoor
namespace Go.Proofs.YtmjdnljneifpcaaGreatDoor
structure Ent where
 addr:Nat
 region:Int
 held:Bool
 pinned:Bool
 lay:Nat
 count:Nat
 ws:List Nat
structure Slt where
 gen:Nat
 ent:Option Ent
def Q2o (ts:List Slt) (i g:Int):Option (Nat×Ent):=
 if 0≤i then
  match ts[i.toNat]? with
  | some ⟨n,some e⟩=>if (n:Int)=g then some (i.toNat,e) else none
  | _=>none
 else none
theorem Q1k {ts:List Slt} {i g:Int} {k:Nat} {e:Ent}:Q2o ts i g=some (k,e)↔∃ n:Nat,i=k∧g=n∧ts[k]? = some ⟨n,some e⟩:=by
 unfold Q2o;constructor
 ·intro h;split at h
  ·rename_i h0;split at h
   ·rename_i n e' he;split at h
    ·rename_i hn;injection h with h
     injection h with h1 h2
     subst h1 h2;exact⟨n,by omega,hn.symm,he⟩
    ·cases h
   ·cases h
  ·cases h
 ·rintro⟨n,rfl,rfl,h⟩;rw[if_pos (by omega)];simp only[Int.toNat_natCast,h];rw[if_pos trivial]
def Q1p (ts:List Slt) (i g:Int):Option (Nat×Ent):=
 match Q2o ts i g with
 | some (k,e)=>if e.held then some (k,e) else none
 | none=>none
theorem Q3y {ts:List Slt} {i g:Int} {k:Nat} {e:Ent}:Q1p ts i g=some (k,e)↔Q2o ts i g=some (k,e)∧e.held=true:=by
 unfold Q1p;cases h:Q2o ts i g with
 | none=>simp
 | some q=>
  obtain⟨k',e'⟩:=q;simp only;split
  ·rename_i hh;constructor
   ·intro h1;cases h1;exact⟨rfl,hh⟩
   ·rintro⟨h1,_⟩;exact h1
  ·rename_i hh;constructor
   ·intro h1;cases h1
   ·rintro⟨h1,h2⟩;cases h1;exact absurd h2 hh
structure Spc where
 parts:List (Nat×Nat)
 at':Nat
 fin:Nat
def Q0k (l:List (Nat×Nat)):List Nat:=l.flatMap fun p=>(List.range p.2).map (p.1+·)
structure CS where
 size:Nat
 own:List Nat
 lays:List Lay
 tab:List Slt
 last:Nat
 par:List (Int×Int)
 rem:List ((Int×Int)×Int)
 sps:List (Int×Nat×Spc)
 mns:List (Int×Nat×List Nat)
structure V7k (lays:List Lay) (i:Nat) (e:Ent):Prop where
 may:G4n e.lay e.count i
 lay:∃ l,lays[e.lay - 1]? = some l∧Q2y l∧Q3q l e.count=(e.ws.length,0)∧∀ p w,e.ws[p]? = some w→w < 18446744073709551616∧(Q2h l p=true→∃ k,okL k∧w=Q3v k)
def Q1q (e:Ent):Nat:=e.addr+1+e.ws.length
def Y6h (size:Nat) (own:List Nat) (e:Ent):Prop:=Q1q e≤own.length*size∧∀ c,e.addr / size≤c→c≤(e.addr+e.ws.length) / size→∃ r:Nat,own[c]? = some r∧(r:Int)=e.region∧1≤r
structure V1z (size:Nat) (own:List Nat) (r:Int) (S:Spc):Prop where
 at1:S.at'≤S.fin
 fin:S.fin≠0→∃ c,S.fin=(c+1)*size∧c*size < S.at'∧(c,1)∈S.parts
 parts:∀ p∈S.parts,1≤p.2∧p.1+p.2≤own.length
 nodup:(Q0k S.parts).Nodup
 owned:∀ c,c∈Q0k S.parts↔∃ q:Nat,own[c]? = some q∧(q:Int)=r∧q≠0
structure WF (s:CS):Prop where
 size:1≤s.size∧s.size≤1024
 own:1≤s.own.length∧s.own.length≤63
 slots:1≤s.tab.length∧s.tab.length≤63
 lays:s.lays.length≤64∧∀ l∈s.lays,Q2y l
 gen:∀ (i:Nat) (t:Slt),s.tab[i]? = some t→t.gen≤255∧(t.ent.isSome=true→1≤t.gen)
 obj:∀ (i g:Nat) (e:Ent),s.tab[i]? = some ⟨g,some e⟩→V7k s.lays i e∧Y6h s.size s.own e∧(∃ q,(e.region,q)∈s.par)
 apart:∀ (i j g h:Nat) (e f:Ent),i≠j→s.tab[i]? = some ⟨g,some e⟩→s.tab[j]? = some ⟨h,some f⟩→Q1q e≤f.addr∨Q1q f≤e.addr
 par:s.par.length≤64∧s.last < 1000000∧∀ r q,(r,q)∈s.par→1≤r∧r≤s.last
 skeys:s.sps.map (·.1)=s.par.map (·.1)
 mkeys:s.mns.map (·.1)=s.par.map (·.1)
 spc:∀ x∈s.sps,V1z s.size s.own x.1 x.2.2
 free:∀ x∈s.sps,∀ (i g:Nat) (e:Ent),s.tab[i]? = some ⟨g,some e⟩→Q1q e≤x.2.2.at'∨x.2.2.fin≤e.addr
 live:∀ (c r:Nat),s.own[c]? = some r→r≠0→∃ q,((r:Int),q)∈s.par
 mine:∀ x∈s.mns,x.2.2.Pairwise (· < ·)∧∀ i,i∈x.2.2↔∃ g e,s.tab[i]? = some ⟨g,some e⟩∧e.region=x.1
structure Q4p (s:CS) (mem:List Nat):Prop where
 len:mem.length=s.own.length*s.size
 head:∀ (i g:Nat) (e:Ent),s.tab[i]? = some ⟨g,some e⟩→mem[e.addr]? = some (Y6z e.lay e.count i)
 words:∀ (i g:Nat) (e:Ent),s.tab[i]? = some ⟨g,some e⟩→∀ (p w:Nat),e.ws[p]? = some w→mem[e.addr+1+p]? = some w
theorem Q1i {ts:List Slt} {i j:Nat} {t u:Slt} (h:(ts.set i t)[j]? = some u):(j=i∧u=t∧i < ts.length)∨(j≠i∧ts[j]? = some u):=by
 rw[List.getElem?_set] at h;by_cases hij:i=j
 ·subst hij;rw[if_pos rfl] at h;split at h
  ·rename_i hl;injection h with h
   exact .inl ⟨rfl,h.symm,hl⟩
  ·cases h
 ·rw[if_neg hij] at h;exact .inr ⟨fun e=>hij e.symm,h⟩
structure Y5e (e e':Ent):Prop where
 addr:e'.addr=e.addr
 region:e'.region=e.region
 lay:e'.lay=e.lay
 count:e'.count=e.count
 len:e'.ws.length=e.ws.length
theorem Y5e.end {e e':Ent} (h:Y5e e e'):Q1q e'=Q1q e:=by unfold Q1q;rw[h.addr,h.len]
theorem Y5e.lies {e e':Ent} (h:Y5e e e') {size:Nat} {own:List Nat} (l:Y6h size own e):Y6h size own e':=by
 unfold Y6h at *;rw[h.end,h.addr,h.len,h.region];exact l
def Q9b (s:CS) (i g:Nat) (e:Ent):CS:={ s with tab:=s.tab.set i ⟨g,some e⟩ }
theorem Y5f {s:CS} (h:WF s) {i g:Nat} {e e':Ent} (hi:s.tab[i]? = some ⟨g,some e⟩) (a:Y5e e e') (ok:V7k s.lays i e'):WF (Q9b s i g e'):=by
 have ho:=h.obj i g e hi;refine⟨h.size,h.own,by show 1≤(s.tab.set _ _).length∧(s.tab.set _ _).length≤63;rw[List.length_set];exact h.slots,h.lays,?_,?_,?_,h.par,h.skeys,h.mkeys,h.spc,?_,h.live,?_⟩
 ·intro j t hj
  rcases Q1i hj with ⟨rfl,rfl,_⟩|⟨_,hj⟩
  ·exact⟨(h.gen _ _ hi).1,fun _=>(h.gen _ _ hi).2 rfl⟩
  ·exact h.gen _ _ hj
 ·intro j k f hj
  rcases Q1i hj with ⟨rfl,ht,_⟩|⟨_,hj⟩
  ·injection ht with h1 h2
   injection h2 with h2
   subst h1 h2;exact⟨ok,a.lies ho.2.1,by rw[a.region];exact ho.2.2⟩
  ·exact h.obj _ _ _ hj
 ·intro j k m n f f' hne hj hk
  rcases Q1i hj with ⟨rfl,ht,_⟩|⟨hji,hj'⟩ <;> rcases Q1i hk with ⟨rfl,hu,_⟩|⟨hki,hk'⟩
  ·exact absurd rfl hne
  ·injection ht with h1 h2
   injection h2 with h2
   subst h1 h2;rw[a.end,a.addr];exact h.apart _ _ _ n _ _ hne hi hk'
  ·injection hu with h1 h2
   injection h2 with h2
   subst h1 h2;rw[a.end,a.addr];exact h.apart _ _ m _ _ _ hne hj' hi
  ·exact h.apart _ _ _ _ _ _ hne hj' hk'
 ·intro x hx j k f hj
  rcases Q1i hj with ⟨rfl,ht,_⟩|⟨_,hj⟩
  ·injection ht with h1 h2
   injection h2 with h2
   subst h1 h2;rw[a.end,a.addr];exact h.free x hx _ _ _ hi
  ·exact h.free x hx _ _ _ hj
 ·intro x hx;obtain⟨h1,h2⟩:=h.mine x hx;refine⟨h1,fun j=>?_⟩;rw[h2];have hil:i < s.tab.length:=(List.getElem?_eq_some_iff.1 hi).1;constructor
  ·rintro⟨m,f,hj,hf⟩;by_cases hij:j=i
   ·subst hij;rw[hi] at hj;cases hj;exact⟨g,e',by show (s.tab.set _ _)[_]? = _;simp[hil],by rw[a.region];exact hf⟩
   ·exact⟨m,f,by show (s.tab.set _ _)[_]? = _;rw[List.getElem?_set_ne (fun q=>hij q.symm)];exact hj,hf⟩
  ·rintro⟨m,f,hj,hf⟩
   rcases Q1i hj with ⟨rfl,ht,_⟩|⟨_,hj⟩
   ·injection ht with h1 h2
    injection h2 with h2
    subst h1 h2;exact⟨_,_,hi,by rw[← a.region];exact hf⟩
   ·exact⟨m,f,hj,hf⟩
theorem Y2r {s:CS} (h:WF s) {mem:List Nat} (m:Q4p s mem) {i g:Nat} {e e':Ent} (hi:s.tab[i]? = some ⟨g,some e⟩) (a:Y5e e e') {mem':List Nat} (hl:mem'.length=mem.length)
  (hin:∀ (p w:Nat),e'.ws[p]? = some w→mem'[e.addr+1+p]? = some w) (hh:mem'[e.addr]? = mem[e.addr]?) (hout:∀ k,k < e.addr∨Q1q e≤k→mem'[k]? = mem[k]?):Q4p (Q9b s i g e') mem':=by
 refine⟨by rw[hl];exact m.len,?_,?_⟩
 ·intro j k f hj
  rcases Q1i hj with ⟨rfl,ht,_⟩|⟨hji,hj⟩
  ·injection ht with h1 h2
   injection h2 with h2
   subst h1 h2;rw[a.addr,a.lay,a.count,hh];exact m.head _ _ _ hi
  ·have:=h.apart _ _ _ _ _ _ hji hj hi;rw[hout _ (by unfold Q1q at this ⊢;omega)];exact m.head _ _ _ hj
 ·intro j k f hj p w hw
  rcases Q1i hj with ⟨rfl,ht,_⟩|⟨hji,hj⟩
  ·injection ht with h1 h2
   injection h2 with h2
   subst h1 h2;rw[a.addr];exact hin p w hw
  ·have:=h.apart _ _ _ _ _ _ hji hj hi;have hp:=(List.getElem?_eq_some_iff.1 hw).1;rw[hout _ (by unfold Q1q at this ⊢;omega)];exact m.words _ _ _ hj p w hw
theorem V5p {s:CS} (h:WF s) {mem:List Nat} (m:Q4p s mem) {i g:Nat} {e:Ent} (hi:s.tab[i]? = some ⟨g,some e⟩) {p x:Nat} (hp:p < e.ws.length):Q4p (Q9b s i g { e with ws:=e.ws.set p x }) (mem.set (e.addr+1+p) x):=by
 have hend:Q1q e≤mem.length:=by rw[m.len];exact(h.obj i g e hi).2.1.1
 refine Y2r (e':={ e with ws:=e.ws.set p x }) h m hi ⟨rfl,rfl,rfl,rfl,by show (e.ws.set p x).length=_;simp⟩ (by simp) ?_ ?_ ?_
 ·intro q w hw;have hw:(e.ws.set p x)[q]? = some w:=hw;rw[List.getElem?_set] at hw;by_cases hpq:p=q
  ·subst hpq;rw[if_pos rfl,if_pos hp] at hw;injection hw with hw
   subst hw;rw[List.getElem?_set_self (by unfold Q1q at hend;omega)]
  ·rw[if_neg hpq] at hw;rw[List.getElem?_set_ne (by omega)];exact m.words _ _ _ hi q w hw
 ·rw[List.getElem?_set_ne (by omega)]
 ·intro k hk;rw[List.getElem?_set_ne (by unfold Q1q at hk;omega)]
theorem Z1o {s:CS} (h:WF s) {mem:List Nat} (m:Q4p s mem) {i g:Nat} {e e':Ent} (hi:s.tab[i]? = some ⟨g,some e⟩) (a:Y5e e e') (hw:e'.ws=e.ws):Q4p (Q9b s i g e') mem:=
 Y2r h m hi a rfl (fun p w hp=>m.words _ _ _ hi p w (by rw[← hw];exact hp)) rfl (fun _ _=>rfl)
theorem Z1p {lays:List Lay} {i:Nat} {e e':Ent} (h:V7k lays i e) (a:Y5e e e') (hw:e'.ws=e.ws):V7k lays i e':=by
 obtain⟨m,l,h1,h2,h3,h4⟩:=h;exact⟨by rw[a.lay,a.count];exact m,l,by rw[a.lay];exact h1,h2,by rw[a.count,hw];exact h3,by rw[hw];exact h4⟩
theorem V5q {lays:List Lay} {i:Nat} {e:Ent} (h:V7k lays i e) {l:Lay} (hl:lays[e.lay - 1]? = some l) {p x:Nat} (hx:x < 18446744073709551616) (hr:Q2h l p=true→∃ k,okL k∧x=Q3v k):V7k lays i { e with ws:=e.ws.set p x }:=by
 obtain⟨m,l',h1,h2,h3,h4⟩:=h;rw[hl] at h1;cases h1;refine⟨m,l,hl,h2,by simpa using h3,fun q w hw=>?_⟩;have hw:(e.ws.set p x)[q]? = some w:=hw;rw[List.getElem?_set] at hw;by_cases hpq:p=q
 ·subst hpq;rw[if_pos rfl] at hw;split at hw
  ·injection hw with hw
   subst hw;exact⟨hx,hr⟩
  ·cases hw
 ·rw[if_neg hpq] at hw;exact h4 q w hw
end Go.Proofs.YtmjdnljneifpcaaGreatDoor
