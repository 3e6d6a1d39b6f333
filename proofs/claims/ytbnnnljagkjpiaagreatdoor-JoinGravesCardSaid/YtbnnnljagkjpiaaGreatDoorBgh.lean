/- Cells: what is proved on the way: every input of the statement; no condition. Texts joined: BmpB StoA StoB LayP LayA. -/
import Derived.Test.YtbnnnljagkjpiaaGreatDoorBgf
import Derived.Test.YtbnnnljagkjpiaaGreatDoorBgg
import Derived.Test.YtbnnnljagkjpiaaGreatDoorBge
set_option linter.unusedVariables false
set_option linter.unusedSimpArgs false
set_option linter.unusedSectionVars false
namespace Go.Proofs.YtbnnnljagkjpiaaGreatDoor
open Go.SL
def XI (x a:Nat):Nat→Bool→Nat
 | 0,_=>x
 | k+1,on=>Ym (XI x a k on) (a+k) on
theorem Mc (x a:Nat) (on:Bool) (j:Nat):∀ k,(XI x a k on).testBit j=if a≤j∧j < a+k then on else x.testBit j
 | 0=>by simp[XI];omega
 | k+1=>by
  show (Ym _ _ _).testBit j=_;rw[WS,Mc x a on j k];by_cases h1:j=a+k
  ·rw[if_pos h1,if_pos (by omega)]
  ·rw[if_neg h1];by_cases h2:a≤j∧j < a+k
   ·rw[if_pos h2,if_pos (by omega)]
   ·rw[if_neg h2,if_neg (by omega)]
theorem ZB.fill {n x a:Nat} {on:Bool} (h:ZB n x):∀ {k:Nat},a+k≤n→ZB n (XI x a k on)
 | 0,_=>h
 | k+1,hk=>ZB.set (ZB.fill h (by omega)) (by omega)
theorem Md [Q4] (p n x a k:Nat) (on:Bool) (hb:ZB n x) (hk:a+k≤n) {w:World} {fr:List Q2} (H:Q0 w (Z4 p n x::fr)) :
  Calls Tryz.prog 201 #[pp p,.int .i64 a,.int .i64 k,.bool on] w (ret fun v w'=>v = .int .i64 0∧Q0 w' (Z4 p n (XI x a k on)::fr)):=by
 have hle:=hb.le;refine QQ Tryz.func201 rfl (by kernel_rfl) ?_;refine J8 H ?_;refine Y4 (fun ms σ w=>ms=[]∧σ 0=pp p∧σ 1 = .int .i64 a∧σ 2 = .int .i64 k∧σ 3 = .bool on∧Q0 w (Z4 p n x::fr)) ?_ ?_
 ·refine QP ?_;obtain⟨b,cap,spare,H,hclose⟩:=Af H;refine AY H ?_;refine Bc H ?_;refine Vc H ?_;rw[show decide ((k:Int) < 0)=false from decide_eq_false (by omega)];refine Dc H ?_;rw[show decide ((a:Int) < 0)=false from decide_eq_false (by omega)];refine XR H ?_;refine U9 H ?_;refine YA H ?_;rw[show decide ((a:Int) > (n:Int))=false from decide_eq_false (by omega)];refine XR H ?_;refine Ur H ?_;refine XR H ?_;refine J3 H ?_;rw[show decide ((k:Int) > IntKind.i64.wrap ((n:Int) - (a:Int)))=false from decide_eq_false (by rw[Qb (by omega) (by omega)];omega)];refine V4 H ?_;exact .inl ⟨rfl,rfl,rfl,rfl,rfl,rfl,hclose _ _ _ _ H⟩
 ·clear H;rintro ms σ w ⟨rfl,g0,g1,g2,g3,H⟩;rw[Q1 g0,Q1 g1,Q1 g2,Q1 g3];refine J4 H ?_;refine G1 H ?_;refine Ql (fun ms σ w q=>ms=[]∧∃ j:Nat,j≤k∧q=k - j∧σ 0=pp p∧σ 1 = .int .i64 a∧σ 2 = .int .i64 k∧σ 3 = .bool on∧σ 9 = .int .i64 ((a+j:Nat):Int)∧Q0 w (Z4 p n (XI x a j on)::fr)) (m:=k) ⟨rfl,0,by omega,rfl,rfl,rfl,rfl,rfl,rfl,H⟩ ?_;clear H;rintro ms σ w q ⟨rfl,j,hj,rfl,g0,g1,g2,g3,g9,H⟩;rw[Q1 g0,Q1 g1,Q1 g2,Q1 g3,Q1 g9];refine KF H ?_;rw[Qb (x:=(a:Int)+(k:Int)) (by omega) (by omega)];refine J6 H ?_;refine Qj rfl (fun h=>QD ?_) (fun h=>Qp ?_)
  ·have hlt:j < k:=by omega
   refine WW H ?_;refine Jc rfl rfl (TJ p n _ (a+j) on (hb.fill (by omega)) (by omega) H) ?_;clear H;intro v w H;refine WA H ?_;exact⟨_,⟨rfl,j+1,hlt,rfl,rfl,rfl,rfl,rfl,by rw[show ((a+(j+1):Nat):Int)=((a+j:Nat):Int)+1 by omega];exact Qc (i:=a+j) (by omega),H⟩,by omega⟩
  ·have hge:j=k:=by omega
   subst hge;refine VF H ?_;exact Q3 (Jy H rfl fun w' H'=>⟨rfl,H'⟩)
theorem Hh [Q4] (p n x i:Nat) (on:Bool) (hb:ZB n x) (hi:i < n) {w:World} {fr:List Q2} (H:Q0 w (Z4 p n x::fr)) :
  Calls Tryz.prog 141 #[pp p,.int .i64 i,.bool on] w (ret fun v w'=>v = .int .i64 0∧Q0 w' (Z4 p n (Ym x i on)::fr)):=by
 refine QQ Tryz.func141 rfl (by kernel_rfl) ?_;refine WK H ?_;refine Jc rfl rfl (Md p n x i 1 on hb (by omega) H) ?_;clear H;rintro v w ⟨rfl,H⟩;refine J0 H ?_;exact Q3 (Jy H rfl fun w' H'=>⟨rfl,H'⟩)
theorem Me [Q4] (n:Nat) (h1:0 < n) (h2:n≤1048576) {w:World} {fr:List Q2} (H:Q0 w fr) :
  Calls Tryz.prog 133 #[.int .i64 n] w (ret fun v w'=>∃ p,v = .tuple #[pp p,.int .i64 0]∧Q0 w' (BM p n (List.replicate ((n+63) / 64) 0) 0::fr)):=by
 refine QQ Tryz.func133 rfl (by kernel_rfl) ?_;refine J4 H ?_;refine Vc H ?_;rw[show decide ((n:Int) < 1)=false from decide_eq_false (by omega)];refine Zm H ?_;refine J0 H ?_;rw[show decide ((n:Int) > 1048576)=false from decide_eq_false (by omega)];refine V4 H ?_;refine Xq H ?_
 have e1:IntKind.i64.wrap (Int.tdiv (IntKind.i64.wrap ((n:Int)+63)) 64)=(((n+63) / 64:Nat):Int):=by
  rw[Qb (x:=(n:Int)+63) (by omega) (by omega),Int.tdiv_eq_ediv_of_nonneg (by omega),Qb (by omega) (by omega)];omega
 rw[e1];refine Q5 rfl (ZR H rfl rfl (by decide) (by omega) rfl ?_);clear H;intro b14 w H;refine XW H ?_;clear H;intro b16 w H;refine J3 H ?_
 have e:Y2 (Qv (.int .u64 0)) ((n+63) / 64)=Qa (List.replicate ((n+63) / 64) 0):=by
  rw[show Qv (.int .u64 0)=[.int .u64 0] from rfl,WV];simp[Qa]
 rw[e] at H;exact Q3 (Jy (CK H) rfl fun w' H'=>⟨_,rfl,H'⟩)
theorem Hi {y:Nat} (h0:y≠0) (h:y < 18446744073709551616):Lib.ctz 64 y < 64∧y.testBit (Lib.ctz 64 y)=true∧∀ i,i < Lib.ctz 64 y→y.testBit i=false:=by
 obtain⟨m,hm,hk⟩:=Lib.ctzFrom_spec 64 y (by omega) h;have e:Lib.ctz 64 y=Lib.ctzFrom 64 y:=by simp[Lib.ctz,h0]
 rw[e];generalize Lib.ctzFrom 64 y=k at hm hk;subst hm;refine⟨hk,?_,fun i hi=>?_⟩
 ·rw[Nat.testBit_eq_decide_div_mod_eq,Nat.mul_div_cancel_left _ (Nat.two_pow_pos k)];simp
 ·rw[Nat.testBit_eq_decide_div_mod_eq]
  have:2 ^ k*(2*m+1) / 2 ^ i=2*(2 ^ (k - i - 1)*(2*m+1)):=by
   have h2:2 ^ k=2 ^ i*(2*2 ^ (k - i - 1)):=by
    rw[← Nat.pow_succ',← Nat.pow_add];congr 1;omega
   rw[h2,Nat.mul_assoc,Nat.mul_div_cancel_left _ (Nat.two_pow_pos i),Nat.mul_assoc]
  rw[this];simp
theorem Hj [Q4] (x:Nat) (hx:x < 18446744073709551616) {w:World} {fr:List Q2} [hT:YW 0 Lib.deBruijn64tab fr] (H:Q0 w fr):Calls Tryz.prog 202 #[.int .u64 x] w (ret fun v w'=>v = .int .i64 (Lib.ctz 64 x)∧Q0 w' fr):=by
 refine(Any7.bits_TrailingZeros64 Tryz.laysTz x hx w (fun _=>hT.tab w H.1)).mono ?_;rintro e w' ⟨rfl,rfl⟩;exact⟨rfl,H⟩
theorem TM {x i:Nat} (hx:x < 18446744073709551616):(18446744073709551615 - x).testBit i=(decide (i < 64) && !x.testBit i):=by
 have e:18446744073709551615 - x=2 ^ 64 - (x+1):=by omega
 rw[e,Nat.testBit_two_pow_sub_succ hx]
theorem Mf (x a i:Nat):(x / 2 ^ a).testBit i=x.testBit (a+i):=by
 rw[Nat.testBit_div_two_pow,Nat.add_comm]
def TO (n x a:Nat) (v:Value):Prop:=
 (∃ j:Nat,v = .tuple #[.int .i64 j,.bool true]∧a≤j∧j < n∧x.testBit j=false∧∀ i,a≤i→i < j→x.testBit i=true)∨(v = .tuple #[.int .i64 0,.bool false]∧∀ i,a≤i→i < n→x.testBit i=true)
theorem Hk [Q4] (p n x a m:Nat) (hb:ZB n x) (ha:a≤n) {w:World} {fr:List Q2} [hT:YW 0 Lib.deBruijn64tab fr] (H:Q0 w (BM p n [x] m::fr)) :
  Calls Tryz.prog 140 #[pp p,.int .i64 a] w (ret fun v w'=>TO n x a v∧Q0 w' (BM p n [x] m::fr)):=by
 have hle:=hb.le;have h64:=hb.lt64;refine QQ Tryz.func140 rfl (by kernel_rfl) ?_;refine DN H ?_;refine AZ H ?_;rw[show (if (0:Int) > (a:Int) then (0:Int) else (a:Int))=(a:Int) from if_neg (by omega)];refine Y8 H ?_;refine Y4 (fun ms σ w=>ms=[]∧∃ j:Nat,σ 0=pp p∧σ 1 = .int .i64 j∧a≤j∧j≤64∧(∀ i,a≤i→i < j→x.testBit i=true)∧(j < n→x.testBit j=false)∧Q0 w (BM p n [x] m::fr)) ?_ ?_
 ·refine QP ?_;refine Ql (fun ms σ w q=>ms=[]∧q=0∧σ 0=pp p∧σ 1 = .int .i64 a∧Q0 w (BM p n [x] m::fr)) (m:=0) ⟨rfl,rfl,rfl,rfl,H⟩ ?_;clear H;rintro ms σ w q ⟨rfl,rfl,g0,g1,H⟩;rw[Q1 g0,Q1 g1];refine J9 H ?_;refine Jc rfl rfl (Hd p n _ _ H) ?_;clear H;rintro v w ⟨rfl,H⟩;refine Y8 H ?_;refine Qj rfl (fun h=>QD ?_) (fun h=>Qp ?_)
  ·have hlt:a < n:=by omega
   have hq:(18446744073709551615 - x) / 2 ^ a < 18446744073709551616:=Nat.lt_of_le_of_lt (Nat.div_le_self _ _) (by omega);have hbit:∀ i,((18446744073709551615 - x) / 2 ^ a).testBit i=(decide (a+i < 64) && !x.testBit (a+i)):=fun i=>by rw[Mf,TM h64]
   have hne:(18446744073709551615 - x) / 2 ^ a≠0:=fun e=>by
    have:=hbit (63 - a);rw[e,Nat.zero_testBit,show a+(63 - a)=63 by omega,He hb.lt hle] at this;simp at this
   obtain⟨c1,c2,c3⟩:=Hi hne hq;refine G1 H ?_;obtain⟨b,cap,spare,H,hclose⟩:=Af H;refine GI H ?_;rw[CR (show a < 64 by omega)];refine Q5 rfl (GC rfl rfl (by decide) (by decide) rfl ?_);refine Xo H ?_;refine Q5 rfl (Sk h64 rfl rfl ?_);refine YA H ?_;rw[El (show a < 64 by omega)]
   refine UD (v := .int .u64 (XG .u64 ((18446744073709551615 - x:Nat):Int) (a:Int))) (by
    show (if (a:Int) < 0 then none else some _)=_;rw[if_neg (by omega)]) rfl ?_
   rw[BC (k := .u64) (by omega) rfl];refine YY H ?_;generalize (18446744073709551615 - x) / 2 ^ a=y at *;rw[show ((y:Int) != 0)=true by simp;omega];refine VH H ?_;replace H:=hclose _ _ _ _ H;refine J9 H ?_;refine Jc rfl rfl (Hj y hq H) ?_;clear H;rintro v w ⟨rfl,H⟩;refine J3 H ?_;have hk:=hbit (Lib.ctz 64 y);rw[c2] at hk;simp at hk;refine Qp (.inl ⟨rfl,rfl,a+Lib.ctz 64 y,rfl,?_,by omega,by omega,fun i h1 h2=>?_,fun _=>by simpa using hk.2,H⟩)
   ·show Value.int .i64 (IntKind.i64.wrap ((a:Int)+(Lib.ctz 64 y:Nat)))=_;rw[Qb (by omega) (by omega)];congr 1
   ·have:=hbit (i - a);rw[c3 (i - a) (by omega),show a+(i - a)=i by omega] at this;simp at this;exact this (by omega)
  ·have hge:a=n:=by omega
   exact .inl ⟨rfl,rfl,a,rfl,rfl,by omega,by omega,fun i h1 h2=>by omega,fun h=>by omega,H⟩
 ·clear H;rintro ms σ w ⟨rfl,j,g0,g1,h1,h2,h3,h4,H⟩;rw[Q1 g0,Q1 g1];refine J9 H ?_;refine Jc rfl rfl (Hd p n _ _ H) ?_;clear H;rintro v w ⟨rfl,H⟩;refine Y8 H ?_;refine Qj rfl (fun h=>?_) (fun h=>QD ?_)
  ·refine J4 H ?_;exact Q3 (Jy H rfl fun w' H'=>⟨.inr ⟨rfl,fun i h5 h6=>h3 i h5 (by omega)⟩,H'⟩)
  ·refine VX H ?_;exact Q3 (Jy H rfl fun w' H'=>⟨.inl ⟨j,rfl,h1,by omega,h4 (by omega),h3⟩,H'⟩)
theorem Hl [Q4] (p n x a m:Nat) (hb:ZB n x) (ha:a≤n) {w:World} {fr:List Q2} [hT:YW 0 Lib.deBruijn64tab fr] (H:Q0 w (BM p n [x] m::fr)) :
  Calls Tryz.prog 127 #[pp p,.int .i64 a] w (ret fun v w'=>(∃ e:Nat,v = .int .i64 e∧a≤e∧e≤n∧(∀ i,a≤i→i < e→x.testBit i=false)∧(e < n→x.testBit e=true))∧Q0 w' (BM p n [x] m::fr)):=by
 have hle:=hb.le;have h64:=hb.lt64;refine QQ Tryz.func127 rfl (by kernel_rfl) ?_;refine J8 H ?_;refine Y4 (fun ms σ w=>ms=[]∧σ 0=pp p∧(∀ i,a≤i→i < n→x.testBit i=false)∧Q0 w (BM p n [x] m::fr)) ?_ ?_
 ·refine QP ?_
  refine Ql (fun ms σ w q=>ms=[]∧∃ j:Nat,(q=if j < n then 1 else 0)∧(j < n→j=a)∧σ 0=pp p∧σ 1 = .int .i64 j∧(j < n∨∀ i,a≤i→i < n→x.testBit i=false)∧Q0 w (BM p n [x] m::fr)) (m:=if a < n then 1 else 0) ⟨rfl,a,rfl,fun _=>rfl,rfl,rfl,by
   by_cases h:a < n
   ·exact .inl h
   ·exact .inr fun i h1 h2=>by omega,H⟩ ?_
  clear H;rintro ms σ w q ⟨rfl,j,rfl,hj,g0,g1,h5,H⟩;rw[Q1 g0,Q1 g1];obtain⟨b,cap,spare,H,hclose⟩:=Af H;refine AG H ?_;refine Y8 H ?_;refine Qj rfl (fun h=>QD ?_) (fun h=>Qp ?_)
  ·have hlt:j < n:=by omega
   have:=hj hlt;subst this;have hq:x / 2 ^ j < 18446744073709551616:=Nat.lt_of_le_of_lt (Nat.div_le_self _ _) (by omega);have hbit:∀ i,(x / 2 ^ j).testBit i=x.testBit (j+i):=fun i=>by rw[Mf]
   refine G1 H ?_;refine GI H ?_;rw[CR (show j < 64 by omega)];refine Q5 rfl (GC rfl rfl (by decide) (by decide) rfl ?_);refine Xo H ?_;refine YA H ?_;rw[El (show j < 64 by omega)]
   refine UD (v := .int .u64 (XG .u64 (x:Int) (j:Int))) (by
    show (if (j:Int) < 0 then none else some _)=_;rw[if_neg (by omega)]) rfl ?_
   rw[BC (k := .u64) (by omega) rfl];refine YY H ?_;replace H:=hclose _ _ _ _ H;generalize x / 2 ^ j=y at *;refine J6 H ?_;by_cases hy:y=0
   ·rw[show ((y:Int) != 0)=false by simp[hy]];refine V4 H ?_;refine KF H ?_;refine⟨_,⟨rfl,64,rfl,fun h=>by omega,rfl,?_,.inr fun i h1 h2=>?_,H⟩,by rw[if_pos hlt,if_neg (by omega)];decide⟩
    ·show Value.int .i64 (IntKind.i64.wrap (IntKind.i64.wrap (IntKind.i64.wrap (Int.tdiv (j:Int) 64)+1)*64))=_;rw[CR (show j < 64 by omega)];rfl
    ·have:=hbit (i - j);rw[hy,Nat.zero_testBit,show j+(i - j)=i by omega] at this;exact this.symm
   ·rw[show ((y:Int) != 0)=true by simp;omega];refine VH H ?_;obtain⟨c1,c2,c3⟩:=Hi hy hq;refine J9 H ?_;refine Jc rfl rfl (Hj y hq H) ?_;clear H;rintro v w ⟨rfl,H⟩;refine J3 H ?_;have hk:=hbit (Lib.ctz 64 y);rw[c2] at hk
    have hn:j+Lib.ctz 64 y < n:=by
     rcases Nat.lt_or_ge (j+Lib.ctz 64 y) n with h|h
     ·exact h
     ·rw[He hb.lt h] at hk;cases hk
    refine Q3 (.inr ⟨by simp,Jy H rfl fun w' H'=>⟨⟨j+Lib.ctz 64 y,?_,by omega,by omega,fun i h1 h2=>?_,fun _=>hk.symm⟩,H'⟩⟩)
    ·show Value.int .i64 (IntKind.i64.wrap ((j:Int)+(Lib.ctz 64 y:Nat)))=_;rw[Qb (by omega) (by omega)];congr 1
    ·have:=hbit (i - j);rw[c3 (i - j) (by omega),show j+(i - j)=i by omega] at this;exact this.symm
  ·exact .inl ⟨rfl,rfl,rfl,by
    rcases h5 with h5|h5
    ·omega
    ·exact h5,hclose _ _ _ _ H⟩
 ·clear H;rintro ms σ w ⟨rfl,g0,h1,H⟩;rw[Q1 g0];obtain⟨b,cap,spare,H,hclose⟩:=Af H;refine Yk H ?_;refine J0 H ?_;exact Q3 (Jy (hclose _ _ _ _ H) rfl fun w' H'=>⟨⟨n,rfl,ha,Nat.le_refl _,h1,fun h=>by omega⟩,H'⟩)
def TP (n x k:Nat) (v:Value):Prop:=
 (∃ a:Nat,v = .tuple #[.int .i64 a,.bool true]∧a+k≤n∧∀ i,a≤i→i < a+k→x.testBit i=false) ∨
 (v = .tuple #[.int .i64 0,.bool false]∧∀ a,a+k≤n→∃ i,a≤i∧i < a+k∧x.testBit i=true)
theorem TS [Q4] (p n x k m:Nat) (hb:ZB n x) (hk:1≤k) (hk2:k < 1000000) {w:World} {fr:List Q2} [hT:YW 0 Lib.deBruijn64tab fr] (H:Q0 w (BM p n [x] m::fr)) :
  Calls Tryz.prog 200 #[pp p,.int .i64 k] w (ret fun v w'=>TP n x k v∧Q0 w' (BM p n [x] m::fr)):=by
 have hle:=hb.le;refine QQ Tryz.func200 rfl (by kernel_rfl) ?_;refine J4 H ?_;refine J4 H ?_;rw[show decide ((k:Int) < 1)=false from decide_eq_false (by omega)];refine AU H ?_;refine Jc rfl rfl (Hk p n x 0 m hb (by omega) H) ?_;clear H;rintro v w ⟨hF,H⟩
 have hI:∃ (j:Nat) (ok:Bool),v = .tuple #[.int .i64 j,.bool ok]∧(ok=true→j < n∧x.testBit j=false∧∀ a,a < j→a+k≤n→∃ i,a≤i∧i < a+k∧x.testBit i=true) ∧
   (ok=false→∀ a,a+k≤n→∃ i,a≤i∧i < a+k∧x.testBit i=true):=by
  rcases hF with ⟨j,rfl,_,h2,h3,h4⟩|⟨rfl,h2⟩
  ·exact⟨j,true,rfl,fun _=>⟨h2,h3,fun a ha _=>⟨a,Nat.le_refl _,by omega,h4 a (by omega) ha⟩⟩,fun h=>by cases h⟩
  ·exact⟨0,false,rfl,(fun h=>by cases h),fun _ a ha=>⟨a,Nat.le_refl _,by omega,h2 a (by omega) (by omega)⟩⟩
 obtain⟨j,ok,rfl,hok,hno⟩:=hI;refine WB H ?_;refine QP ?_
 refine Ql (fun ms σ w q=>ms=[]∧∃ (j:Nat) (ok:Bool),(q=if ok then n - j else 0)∧σ 0=pp p∧σ 1 = .int .i64 k∧σ 6 = .int .i64 j∧σ 7 = .bool ok∧(ok=true→j < n∧x.testBit j=false∧∀ a,a < j→a+k≤n→∃ i,a≤i∧i < a+k∧x.testBit i=true) ∧
   (ok=false→∀ a,a+k≤n→∃ i,a≤i∧i < a+k∧x.testBit i=true)∧Q0 w (BM p n [x] m::fr)) (m:=if ok then n - j else 0) ⟨rfl,j,ok,rfl,rfl,rfl,rfl,rfl,hok,hno,H⟩ ?_
 clear H hF hok hno;rintro ms σ w q ⟨rfl,j,ok,rfl,g0,g1,g6,g7,hok,hno,H⟩;rw[Q1 g0,Q1 g1,Q1 g6,Q1 g7];refine J8 H ?_;cases ok with
 | true=>
  obtain⟨h1,h2,h3⟩:=hok rfl;refine Xr H ?_;refine Xs H ?_;refine Jc rfl rfl (Hl p n x j m hb (by omega) H) ?_;clear H;rintro v w ⟨⟨e,rfl,e1,e2,e3,e4⟩,H⟩;refine J0 H ?_;refine KF H ?_;rw[Qb (x:=(e:Int) - (j:Int)) (by omega) (by omega)];refine J6 H ?_;refine Qj rfl (fun h=>?_) (fun h=>QD ?_)
  ·refine VX H ?_;exact Q3 (Jy H rfl fun w' H'=>⟨.inl ⟨j,rfl,by omega,fun i h5 h6=>e3 i h5 (by omega)⟩,H'⟩)
  ·have hej:j < e:=by
    rcases Nat.lt_or_ge j e with h|h
    ·exact h
    ·have:e=j:=by omega
     subst this;have:=e4 h1;rw[h2] at this;cases this
   have hF:∀ a,a≤e→a+k≤n→∃ i,a≤i∧i < a+k∧x.testBit i=true:=fun a ha hk'=>by
    rcases Nat.lt_or_ge a j with h'|h'
    ·exact h3 a h' hk'
    ·exact⟨e,ha,by omega,e4 (by omega)⟩
   refine J9 H ?_;refine Jc rfl rfl (Hk p n x e m hb (by omega) H) ?_;clear H;rintro v w ⟨hF2,H⟩
   rcases hF2 with ⟨j2,rfl,f1,f2,f3,f4⟩|⟨rfl,f2⟩
   ·refine HB H ?_;refine⟨_,⟨rfl,j2,true,rfl,rfl,rfl,rfl,rfl,fun _=>⟨f2,f3,fun a ha hk'=>?_⟩,(fun h=>by cases h),H⟩,by simp;omega⟩
    rcases Nat.lt_or_ge e a with h'|h'
    ·exact⟨a,Nat.le_refl _,by omega,f4 a (by omega) ha⟩
    ·exact hF a h' hk'
   ·refine HB H ?_;refine⟨_,⟨rfl,0,false,rfl,rfl,rfl,rfl,rfl,(fun h=>by cases h),fun _ a hk'=>?_,H⟩,by simp;omega⟩
    rcases Nat.lt_or_ge e a with h'|h'
    ·exact⟨a,Nat.le_refl _,by omega,f2 a (by omega) (by omega)⟩
    ·exact hF a h' hk'
 | false=>
  refine KH H ?_;refine J4 H ?_;exact Q3 (Jy H rfl fun w' H'=>⟨.inr ⟨rfl,hno rfl⟩,H'⟩)
open List
def QA (l:List Nat):List Value:=l.map fun x:Nat=>Value.int .i64 (x:Int)
theorem QH (l:List Nat):(QA l).length=l.length*1:=by simp[QA]
theorem WT (a b:List Nat):QA (a++b)=QA a++QA b:=by simp[QA]
theorem Gz {l:List Nat} {spare:List Value} {i x:Nat} (h:l[i]? = some x):(QA l++spare)[0+i*1]? = some (.int .i64 x):=by
 have hi:=(List.getElem?_eq_some_iff.1 h).1;rw[Nat.zero_add,Nat.mul_one,getElem?_append_left (by simpa [QA] using hi)];simp[QA,h]
theorem Em {l:List Nat} {spare:List Value} {i x:Nat} (h:i < l.length):(QA l++spare).set (0+i*1) (.int .i64 x)=QA (l.set i x)++spare:=by
 rw[Nat.zero_add,Nat.mul_one,set_append_left _ _ (by simpa [QA] using h)];simp[QA,map_set]
theorem Mg {l:List Nat} {spare:List Value} {i x:Nat} (h:i < l.length):(Qa l++spare).set (0+i*1) (.int .u64 x)=Qa (l.set i x)++spare:=by
 rw[Nat.zero_add,Nat.mul_one,set_append_left _ _ (by simpa [Qa] using h)];simp[Qa,map_set]
@[reducible] def NL (v:Value) (l:List Nat):Q2:=QX 3 1 v (QA l)
theorem Wa {a b:Nat} (h:a < 9223372036854775808):IntKind.i64.wrap (Int.tdiv (a:Int) (b:Int))=((a / b:Nat):Int):=by
 have hle:a / b≤a:=Nat.div_le_self _ _;rw[Int.tdiv_eq_ediv_of_nonneg (by omega),← Int.natCast_ediv];generalize a / b=q at hle;exact Qb (by omega) (by omega)
structure Rj (size:Nat) (mem own ws:List Nat) (many:Nat):Prop where
 s1:1≤size
 s2:size≤1024
 c1:1≤own.length
 c2:own.length≤1024
 len:mem.length=own.length*size
 many:many=(own.filter (· != 0)).length
 one:own.length≤63→∃ x,ws=[x]∧x < 2 ^ own.length∧∀ c,c < own.length→x.testBit c=decide (own.getD c 0≠0)
theorem En:∀ (own:List Nat) (x:Nat),(∀ c,c < own.length→x.testBit c=decide (own.getD c 0≠0))→Yd own.length x=(own.filter (· != 0)).length
 | own,x,h=>by
  unfold Yd
  have e:(List.range own.length).filter (fun i=>x.testBit i)=(List.range own.length).filter (fun i=>own.getD i 0 != 0):=by
   apply filter_congr;intro i hi;rw[mem_range] at hi;show x.testBit i=(own.getD i 0 != 0);rw[h i hi];generalize own.getD i 0=z;cases z <;> simp
  rw[e];clear e h
  have:∀ (l:List Nat),((List.range l.length).filter (fun i=>l.getD i 0 != 0)).length=(l.filter (· != 0)).length:=by
   intro l
   have e2:l.filter (· != 0)=((List.range l.length).filter (fun i=>l.getD i 0 != 0)).map (fun i=>l.getD i 0):=by
    have e3:l=(List.range l.length).map (fun i=>l.getD i 0):=by
     apply ext_getElem?;intro i;by_cases hi:i < l.length
     ·rw[getElem?_map,getElem?_range hi,getElem?_eq_getElem hi];simp[hi]
     ·rw[getElem?_eq_none (by omega),getElem?_eq_none (by simp;omega)]
    conv=>lhs;rw[e3]
    rw[filter_map];rfl
   rw[e2,length_map]
  exact this own
def ST (p size:Nat) (mem own:List Nat):Q2:=ex fun q:Value×Value×Nat×List Nat×Nat=>
 star [prop (Rj size mem own q.2.2.2.1 q.2.2.2.2),pts p (row 230 [q.1,.int .i64 size,q.2.1,pp q.2.2.1]),UL q.1 mem,NL q.2.1 own,BM q.2.2.1 own.length q.2.2.2.1 q.2.2.2.2]
theorem UZ [Q4] {w:World} {p size:Nat} {mem own:List Nat} {l:List Q2} (H:Q0 w (ST p size mem own::l)):∃ v v2 u ws many,Rj size mem own ws many ∧
  Q0 w (pts p (row 230 [v,.int .i64 size,v2,pp u])::UL v mem::NL v2 own::BM u own.length ws many::l):=by
 obtain⟨⟨v,v2,u,ws,many⟩,H⟩:=Q0.ex.1 H;have H:=Q0.star.1 H;obtain⟨h,H⟩:=Q0.prop.1 H;exact⟨v,v2,u,ws,many,h,H⟩
theorem GN [Q4] {w:World} {p size:Nat} {mem own:List Nat} {l:List Q2} {v v2:Value} {u:Nat} {ws:List Nat} {many:Nat} (h:Rj size mem own ws many)
  (H:Q0 w (pts p (row 230 [v,.int .i64 size,v2,pp u])::UL v mem::NL v2 own::BM u own.length ws many::l)):Q0 w (ST p size mem own::l):=
 Q0.ex.2 ⟨(v,v2,u,ws,many),Q0.star.2 (Q0.prop.2 ⟨h,H⟩)⟩
theorem TT [Q4] (n size:Nat) (h1:1≤n) (h2:n≤1024) (h3:1≤size) (h4:size≤1024) {w:World} {fr:List Q2} (H:Q0 w fr) :
  Calls Tryz.prog 69 #[.int .i64 n,.int .i64 size] w (ret fun v w'=>∃ p,v = .tuple #[pp p,.int .i64 0]∧Q0 w' (ST p size (List.replicate (n*size) 0) (List.replicate n 0)::fr)):=by
 have hns:n*size≤1048576:=Nat.mul_le_mul h2 h4;refine QQ Tryz.func69 rfl (by kernel_rfl) ?_;refine J4 H ?_;refine Vc H ?_;rw[show decide ((n:Int) < 1)=false from decide_eq_false (by omega)];refine Dc H ?_;rw[show decide ((n:Int) > 1024)=false from decide_eq_false (by omega)];refine Dc H ?_;rw[show decide ((size:Int) < 1)=false from decide_eq_false (by omega)];refine Zm H ?_;refine J0 H ?_;rw[show decide ((size:Int) > 1024)=false from decide_eq_false (by omega)];refine AU H ?_;refine Jc rfl rfl (Me n (by omega) (by omega) H) ?_;clear H;rintro v w ⟨u,rfl,H⟩;refine Db H ?_;clear H;intro w H;refine Ja 0 ?_;refine Ja 1 ?_;refine Ja 2 ?_;refine Us H ?_;refine Ja 7 ?_
 have e1:IntKind.i64.wrap ((n:Int)*(size:Int))=((n*size:Nat):Int):=by
  rw[← Int.natCast_mul,Qb (by omega) (by omega)]
 rw[e1]
 have hok:Rj size (List.replicate (n*size) 0) (List.replicate n 0) (List.replicate (((List.replicate n 0).length+63) / 64) 0) 0:=by
  refine⟨h3,h4,by simpa using h1,by simpa using h2,by simp,by simp,fun h=>⟨0,?_,Nat.two_pow_pos _,fun c hc=>?_⟩⟩
  ·have:((List.replicate n 0:List Nat).length+63) / 64=1:=by simp at h ⊢;omega
   rw[this];rfl
  ·have hc':c < n:=by simpa using hc
   simp[Nat.zero_testBit,hc']
 have z1:Y2 (Qv (.int .u64 0)) (n*size)=Qa (List.replicate (n*size) 0):=by
  rw[show Qv (.int .u64 0)=[.int .u64 0] from rfl,WV];simp[Qa]
 have z2:Y2 (Qv (.int .i64 0)) n=QA (List.replicate n 0):=by
  rw[show Qv (.int .i64 0)=[.int .i64 0] from rfl,WV];simp[QA]
 have hl:(List.replicate n 0:List Nat).length=n:=by simp
 rw[hl] at hok;refine Jw 3 6 H rfl rfl (ZR H rfl rfl (by decide) (by omega) rfl ?_) (ZR H rfl rfl (by decide) (by omega) rfl ?_)
 ·clear H;intro b30 w H;rw[z1] at H;refine Jo 6 H ?_;refine ZR H rfl rfl (by decide) (by omega) rfl ?_;clear H;intro b33 w H;rw[z2] at H;refine GF 8 rfl (Q7.none rfl) rfl (by kernel_rfl) ?_;refine Jo 9 H ?_;refine A0 H rfl rfl ?_;clear H;intro b36 w H;refine Dd H ?_;replace H:=Js [0,1,0,0] 0 H;have H:=GN (own:=List.replicate n 0) hok (by rw[hl];exact H);exact Q3 (Jy H rfl fun w' H'=>⟨_,rfl,H'⟩)
 ·clear H;intro b33 w H;rw[z2] at H;refine Jo 3 H ?_;refine ZR H rfl rfl (by decide) (by omega) rfl ?_;clear H;intro b30 w H;rw[z1] at H;refine GF 8 rfl (Q7.none rfl) rfl (by kernel_rfl) ?_;refine Jo 9 H ?_;refine A0 H rfl rfl ?_;clear H;intro b36 w H;refine Dd H ?_;have H:=GN (own:=List.replicate n 0) hok (by rw[hl];exact H);exact Q3 (Jy H rfl fun w' H'=>⟨_,rfl,H'⟩)
theorem Mh [Q4] (p size:Nat) (mem own:List Nat) {w:World} {fr:List Q2} (H:Q0 w (ST p size mem own::fr)):Calls Tryz.prog 242 #[pp p] w (ret fun v w'=>v = .int .i64 own.length∧Q0 w' (ST p size mem own::fr)):=by
 obtain⟨v,v2,u,ws,many,hok,H⟩:=UZ H;obtain⟨a2,c2,rfl⟩:=QE (H.drop.drop) (QH own) (by decide);refine QQ Tryz.func242 rfl (by kernel_rfl) ?_;refine RX H ?_;refine Gx H ?_;exact Q3 (Jy (GN hok H) rfl fun w' H'=>⟨rfl,H'⟩)
theorem Eo [Q4] (p size:Nat) (mem own:List Nat) {w:World} {fr:List Q2} (H:Q0 w (ST p size mem own::fr)):Calls Tryz.prog 54 #[pp p] w (ret fun v w'=>v = .int .i64 size∧Q0 w' (ST p size mem own::fr)):=by
 obtain⟨v,v2,u,ws,many,hok,H⟩:=UZ H;refine QQ Tryz.func54 rfl (by kernel_rfl) ?_;refine RX H ?_;refine J0 H ?_;exact Q3 (Jy (GN hok H) rfl fun w' H'=>⟨rfl,H'⟩)
theorem Ta [Q4] (p size:Nat) (mem own:List Nat) {w:World} {fr:List Q2} (H:Q0 w (ST p size mem own::fr)):Calls Tryz.prog 93 #[pp p] w (ret fun v w'=>v = .int .i64 ((own.length - (own.filter (· != 0)).length:Nat):Int)∧Q0 w' (ST p size mem own::fr)):=by
 obtain⟨v,v2,u,ws,many,hok,H⟩:=UZ H;obtain⟨a2,c2,rfl⟩:=QE (H.drop.drop) (QH own) (by decide);refine QQ Tryz.func93 rfl (by kernel_rfl) ?_;refine Bf H ?_;refine J1 H ?_;clear H;intro w H;refine XA H ?_;refine R5 4 rfl (Q7.none rfl) rfl (by kernel_rfl) ?_;refine De H ?_;refine Jl 8 [9] H ?_;replace H:=Js [3,0,0,0] 0 H;refine Jo 9 H ?_;refine Jk rfl rfl (Mb u _ _ _ H) ?_;clear H;rintro v w ⟨rfl,H⟩;refine Dd H ?_;replace H:=Js [1,1,1,0] 0 H;have hle:=length_filter_le (· != 0) own;have:=hok.many;have h2:=hok.c2;refine Q3 (Jy (GN hok H) rfl fun w' H'=>⟨?_,H'⟩);show Value.int .i64 (IntKind.i64.wrap ((own.length:Int) - (many:Int)))=_;rw[Qb (by omega) (by omega)];congr 1;omega
theorem Tb [Q4] (p size:Nat) (mem own:List Nat) (c:Nat) {w:World} {fr:List Q2} (H:Q0 w (ST p size mem own::fr)) (hc:c < own.length):Calls Tryz.prog 243 #[pp p,.int .i64 c] w (ret fun v w'=>v = .int .i64 (own.getD c 0)∧Q0 w' (ST p size mem own::fr)):=by
 refine QQ Tryz.func243 rfl (by kernel_rfl) ?_;refine WK H ?_;rw[show decide ((c:Int) < 0)=false from decide_eq_false (by omega)];refine Zm H ?_;refine QT rfl rfl rfl (Qy (a:=[]) (b:=[]) rfl rfl (call (Mh p size mem own H) ?_));clear H;rintro v w ⟨rfl,H⟩;refine Df H ?_;rw[show decide ((c:Int)≥(own.length:Int))=false from decide_eq_false (by omega)];refine V4 H ?_;obtain⟨v,v2,u,ws,many,hok,H⟩:=UZ H;replace H:=Js [2,0,0,0] 0 H;obtain⟨a2,c2,rfl⟩:=QE H (QH own) (by decide);obtain⟨b,s,rfl,H,hclose⟩:=V3 H (by omega);have hx:=getElem?_eq_getElem hc;have hg:own.getD c 0=own[c]:=by simp[hc]
 rw[hg];generalize own[c]=x at hx;refine V2 H ?_;refine Jd ?_;refine Q5 rfl (QB H rfl (Gz hx) rfl ?_);refine J0 H ?_;replace H:=hclose _ _ H;replace H:=Js [1,1,0,0] 0 H;exact Q3 (Jy (GN hok H) rfl fun w' H'=>⟨rfl,H'⟩)
def U0 (size:Nat) (own:List Nat) (a n:Nat):Prop:=∀ c,a / size≤c→c≤(a+n - 1) / size→own.getD c 0≠0
theorem Ag [Q4] (p size:Nat) (mem own:List Nat) (a n:Nat) (h1:1≤n) (h2:a+n≤mem.length) (h3:U0 size own a n) {w:World} {fr:List Q2} (H:Q0 w (ST p size mem own::fr)) :
  Calls Tryz.prog 193 #[pp p,.int .i64 a,.int .i64 n] w (ret fun v w'=>v = .int .i64 0∧Q0 w' (ST p size mem own::fr)):=by
 obtain⟨v,v2,u,ws,many,hok,H⟩:=UZ H;have hok':=hok;obtain⟨s1,s2,c1,c2,hlen,_,_⟩:=hok';have hmem:mem.length≤1048576:=by rw[hlen];exact Nat.mul_le_mul c2 s2
 have hdiv:(a+n - 1) / size < own.length:=by
  rw[Nat.div_lt_iff_lt_mul (by omega),← hlen];omega
 have hdd:a / size≤(a+n - 1) / size:=Nat.div_le_div_right (by omega);obtain⟨a1,k1,rfl⟩:=QE (H.drop) (Z3 mem) (by decide);obtain⟨a2,k2,rfl⟩:=QE (H.drop.drop) (QH own) (by decide);refine QQ Tryz.func193 rfl (by kernel_rfl) ?_;refine WK H ?_;rw[show decide ((n:Int) < 0)=false from decide_eq_false (by omega)];refine Dc H ?_;rw[show decide ((a:Int) < 0)=false from decide_eq_false (by omega)];refine Dg H ?_;refine YA H ?_;rw[show decide ((a:Int) > (mem.length:Int))=false from decide_eq_false (by omega)];refine XR H ?_;refine QT rfl rfl rfl (VR rfl rfl ?_);refine QT rfl rfl rfl (QB H rfl rfl rfl ?_);refine QT rfl rfl rfl (ZJ rfl rfl ?_);refine XR H ?_;refine J0 H ?_;rw[show decide ((n:Int) > IntKind.i64.wrap ((mem.length:Int) - (a:Int)))=false from decide_eq_false (by rw[Qb (by omega) (by omega)];omega)];refine Bg H ?_;rw[show ((n:Int) == 0)=false by simp;omega];refine V4 H ?_;refine AG H ?_
 refine UD (v := .int .i64 ((a / size:Nat):Int)) (by
  show (if IntKind.i64=IntKind.i64 then (if (size:Int)=0 then none else some _) else none)=_;rw[if_pos rfl,if_neg (by omega),Wa (by omega)]) rfl ?_
 refine Y8 H ?_;refine QP ?_;refine Ql (fun ms σ w q=>ms=[]∧∃ c:Nat,a / size≤c∧c≤(a+n - 1) / size+1∧q=(a+n - 1) / size+1 - c∧σ 0=pp p∧σ 1 = .int .i64 a∧σ 2 = .int .i64 n∧σ 7 = .int .i64 c∧Q0 w (pts p (row 230 [.slice a1 mem.length k1,.int .i64 size,.slice a2 own.length k2,pp u])::UL (.slice a1 mem.length k1) mem::NL (.slice a2 own.length k2) own::BM u own.length ws many::fr)) (m:=(a+n - 1) / size+1 - a / size) ⟨rfl,a / size,Nat.le_refl _,by omega,rfl,rfl,rfl,rfl,rfl,H⟩ ?_;clear H;rintro ms σ w q ⟨rfl,c,hc1,hc2,rfl,g0,g1,g2,g7,H⟩;rw[Q1 g0,Q1 g1,Q1 g2,Q1 g7];refine J9 H ?_;refine Bh H ?_;refine ZW H ?_;rw[Qb (x:=(a:Int)+(n:Int)) (by omega) (by omega),Qb (x:=(a:Int)+(n:Int) - 1) (by omega) (by omega),show (a:Int)+(n:Int) - 1=((a+n - 1:Nat):Int) by omega]
 refine UD (v := .int .i64 (((a+n - 1) / size:Nat):Int)) (by
  show (if IntKind.i64=IntKind.i64 then (if (size:Int)=0 then none else some _) else none)=_;rw[if_pos rfl,if_neg (by omega),Wa (by omega)]) rfl ?_
 refine Y8 H ?_;refine Qj rfl (fun h=>QD ?_) (fun h=>Qp ?_)
 ·have hcl:c < own.length:=by omega
  have hx:=getElem?_eq_getElem hcl;have hne:(own.getD c 0:Nat)≠0:=h3 c hc1 (by omega);have hg:own.getD c 0=own[c]:=by simp[hcl]
  rw[hg] at hne;generalize own[c]=y at hx hne;replace H:=Js [2,0,0,0] 0 H;obtain⟨b,s,rfl,H,hclose⟩:=V3 H (by omega);refine AX H ?_;refine Jd ?_;refine Q5 rfl (QB H rfl (Gz hx) rfl ?_);refine J0 H ?_;rw[show ((y:Int) == 0)=false by simp;omega];refine V4 H ?_;replace H:=hclose _ _ H;replace H:=Js [1,1,0,0] 0 H;refine VX H ?_;exact⟨_,⟨rfl,c+1,by omega,by omega,rfl,rfl,rfl,rfl,Qc (by omega),H⟩,by omega⟩
 ·refine VF H ?_;exact Q3 (Jy (GN hok H) rfl fun w' H'=>⟨rfl,H'⟩)
theorem Hm [Q4] (p size:Nat) (mem own:List Nat) (a:Nat) (h2:a < mem.length) (h3:U0 size own a 1) {w:World} {fr:List Q2} (H:Q0 w (ST p size mem own::fr)) :
  Calls Tryz.prog 128 #[pp p,.int .i64 a] w (ret fun v w'=>v = .tuple #[.int .u64 (mem.getD a 0),.int .i64 0]∧Q0 w' (ST p size mem own::fr)):=by
 refine QQ Tryz.func128 rfl (by kernel_rfl) ?_;refine Dh H ?_;refine J9 H ?_;refine Jc rfl rfl (Ag p size mem own a 1 (by decide) (by omega) h3 H) ?_;clear H;rintro v w ⟨rfl,H⟩;refine Yl H ?_;obtain⟨v,v2,u,ws,many,hok,H⟩:=UZ H;have H:=H.swap;obtain⟨a1,c1,rfl⟩:=QE H (Z3 mem) (by decide);obtain⟨b,s,rfl,H,hclose⟩:=V3 H (by omega);have hx:=getElem?_eq_getElem h2;have hg:mem.getD a 0=mem[a]:=by simp[h2]
 rw[hg];generalize mem[a]=x at hx;refine V2 H ?_;refine Jd ?_;refine Q5 rfl (QB H rfl (HL hx) rfl ?_);refine J3 H ?_;exact Q3 (Jy (GN hok (hclose _ _ H).swap) rfl fun w' H'=>⟨rfl,H'⟩)
theorem Rj.mem {size:Nat} {mem mem' own ws:List Nat} {many:Nat} (h:Rj size mem own ws many) (e:mem'.length=mem.length):Rj size mem' own ws many:=⟨h.s1,h.s2,h.c1,h.c2,e.trans h.len,h.many,h.one⟩
theorem Ep [Q4] (p size:Nat) (mem own:List Nat) (a x:Nat) (h2:a < mem.length) (h3:U0 size own a 1) {w:World} {fr:List Q2} (H:Q0 w (ST p size mem own::fr)) :
  Calls Tryz.prog 105 #[pp p,.int .i64 a,.int .u64 x] w (ret fun v w'=>v = .int .i64 0∧Q0 w' (ST p size (mem.set a x) own::fr)):=by
 refine QQ Tryz.func105 rfl (by kernel_rfl) ?_;refine Di H ?_;refine Jc rfl rfl (Ag p size mem own a 1 (by decide) (by omega) h3 H) ?_;clear H;rintro v w ⟨rfl,H⟩;refine YY H ?_;obtain⟨v,v2,u,ws,many,hok,H⟩:=UZ H;have H:=H.swap;obtain⟨a1,c1,rfl⟩:=QE H (Z3 mem) (by decide);obtain⟨b,s,rfl,H,_,_,hclose⟩:=Z2 H (by omega);refine J6 H ?_;refine Qk (fun ms σ w=>ms=[]∧σ 7 = .int .i64 0∧Q0 w (pts b (row 94 (Qa (mem.set a x)++s))::pts p (row 230 [.slice (some ⟨b,0,none⟩) mem.length c1,.int .i64 size,v2,pp u])::NL v2 own::BM u own.length ws many::fr)) ?_ ?_
 ·refine Vp rfl ?_;refine GI H ?_;refine Jd ?_;refine Q5 rfl (Yh H rfl rfl inferInstance rfl (by simp only[length_append,Z3];omega) rfl ?_);clear H;intro w H;rw[Mg (by omega)] at H;refine J2 H ?_;exact⟨rfl,rfl,rfl,H⟩
 ·clear H;rintro ms σ w ⟨rfl,g7,H⟩;rw[Q1 g7];refine J4 H ?_;exact Q3 (Jy (GN (hok.mem (by simp)) (hclose _ _ _ (by simp[Qa]) H).swap) rfl fun w' H'=>⟨rfl,H'⟩)
theorem Tc [Q4] (p size:Nat) (mem own:List Nat) (a n:Nat) (h1:1≤n) (h2:a+n≤mem.length) (h3:U0 size own a n) {w:World} {fr:List Q2} (H:Q0 w (ST p size mem own::fr)) :
  Calls Tryz.prog 125 #[pp p,.int .i64 a,.int .i64 a,.int .i64 n] w (ret fun v w'=>v = .int .i64 0∧Q0 w' (ST p size mem own::fr)):=by
 refine QQ Tryz.func125 rfl (by kernel_rfl) ?_;refine Bf H ?_;refine Vc H ?_;refine Jc rfl rfl (Ag p size mem own a n h1 h2 h3 H) ?_;clear H;rintro v w ⟨rfl,H⟩;refine WC H ?_;refine Jc rfl rfl (Ag p size mem own a n h1 h2 h3 H) ?_;clear H;rintro v w ⟨rfl,H⟩;refine KB H ?_;refine Y4 (fun ms σ w=>ms=[]∧σ 0=pp p∧σ 1 = .int .i64 a∧σ 2 = .int .i64 a∧σ 3 = .int .i64 n∧Q0 w (ST p size mem own::fr)) ?_ ?_
 ·refine QP ?_;refine WD H ?_;refine KC H ?_;refine WD H ?_;refine WE H ?_;exact .inl ⟨rfl,rfl,rfl,rfl,rfl,rfl,H⟩
 ·clear H;rintro ms σ w ⟨rfl,g0,g1,g2,g3,H⟩;rw[Q1 g0,Q1 g1,Q1 g2,Q1 g3];obtain⟨v,v2,u,ws,many,hok,H⟩:=UZ H;have H:=H.swap;have hmem:mem.length≤1048576:=by rw[hok.len];exact Nat.mul_le_mul hok.c2 hok.s2
  obtain⟨a1,c1,rfl⟩:=QE H (Z3 mem) (by decide)
  rcases GD H with ⟨h,_⟩|⟨b,len,cap',s,h,e3,e4,e5,H⟩
  ·injection h with h4 h5 h6;omega
  injection h with h4 h5 h6
  subst h4 h5 h6
  have hrd:Q9 (Qa mem++s) (0+a*1) ((a+n - a)*1) (Qa ((mem.drop a).take n)):=by
   have e:(Qa ((mem.drop a).take n)).length=(a+n - a)*1:=by simp[Qa];omega
   rw[← e];refine Q9.of_get fun j v hj=>?_;have hj':j < n:=by have:=(List.getElem?_eq_some_iff.1 hj).1;simp[Qa] at this;omega
   rw[getElem?_append_left (by simp[Qa];omega)];simp only[Qa,getElem?_map,getElem?_take_of_lt hj',getElem?_drop] at hj;simp only[Qa,getElem?_map,Nat.zero_add,Nat.mul_one];exact hj
  have hs1:(Qa ((mem.drop a).take n)).all (·.oneCell')=true:=all_eq_true.2 fun v hv=>by
   simp only[Qa,mem_map] at hv;obtain⟨x,_,rfl⟩:=hv;rfl
  refine J1 H ?_;clear H;intro w H;refine Yu H ?_;refine Jl 3 [18] H ?_;refine Us H ?_;refine Ja 6 ?_;refine Ja 7 ?_;rw[Qb (x:=(a:Int)+(n:Int)) (by omega) (by omega),show (a:Int)+(n:Int)=((a+n:Nat):Int) by omega];refine BH 8 rfl (Q7.none rfl) rfl rfl rfl (by omega) (by omega) (by omega) (by kernel_rfl) ?_;refine Bi H ?_;refine Jl 12 [18] H ?_;refine Ja 13 ?_;refine Ja 14 ?_;refine Ja 15 ?_;refine Ja 16 ?_;rw[Qb (x:=(a:Int)+(n:Int)) (by omega) (by omega),show (a:Int)+(n:Int)=((a+n:Nat):Int) by omega];refine BH 17 rfl (Q7.none rfl) rfl rfl rfl (by omega) (by omega) (by omega) (by kernel_rfl) ?_;refine Jo 18 H ?_;refine Sp H rfl rfl hrd (by simp only[length_append,Z3];omega) hs1 rfl ?_;clear H;intro w H;refine Bj H ?_;exact Q3 (Jy (GN hok (ZK e3 e4 e5 H).swap) rfl fun w' H'=>⟨rfl,H'⟩)
def V7 (l:List Nat) (a n v:Nat):List Nat:=l.take a++List.replicate n v++l.drop (a+n)
theorem Vy {l:List Nat} {a n v:Nat} (h:a+n≤l.length):(V7 l a n v).length=l.length:=by simp[V7];omega
theorem Zq {l:List Nat} {a n v:Nat} (h:a+n≤l.length) (i:Nat):(V7 l a n v)[i]? = if a≤i∧i < a+n then some v else l[i]?:=by
 unfold V7;by_cases h1:i < a
 ·rw[if_neg (by omega),append_assoc,getElem?_append_left (by simp;omega),getElem?_take_of_lt h1]
 ·have e1:(l.take a).length=a:=by simp;omega
  rw[append_assoc,getElem?_append_right (by omega),e1];by_cases h2:i < a+n
  ·rw[if_pos (by omega),getElem?_append_left (by simp;omega),getElem?_replicate,if_pos (by omega)]
  ·rw[if_neg (by omega),getElem?_append_right (by simp;omega),getElem?_drop,length_replicate];congr 1;omega
theorem Rk {l:List Nat} {a n v:Nat} (h:a+n≤l.length) (i:Nat):(V7 l a n v).getD i 0=if a≤i∧i < a+n then v else l.getD i 0:=by
 rw[getD_eq_getElem?_getD,Zq h];split
 ·rfl
 ·rw[getD_eq_getElem?_getD]
theorem Er {l:List Nat} {a v:Nat}:V7 l a 0 v=l:=by simp[V7]
theorem Mi {l:List Nat} {a n v:Nat} (h:a+n < l.length):(V7 l a n v).set (a+n) v=V7 l a (n+1) v:=by
 apply ext_getElem?;intro i;rw[getElem?_set,Zq (by omega),Zq (by omega),Vy (by omega)];by_cases h1:a+n=i
 ·subst h1;rw[if_pos rfl,if_pos (by omega),if_pos (by omega)]
 ·rw[if_neg h1];by_cases h2:a≤i∧i < a+n
  ·rw[if_pos h2,if_pos (by omega)]
  ·rw[if_neg h2,if_neg (by omega)]
theorem Hn {size:Nat} {mem own ws:List Nat} {many:Nat} (h:Rj size mem own ws many) (h63:own.length≤63):∃ x,ws=[x]∧ZB own.length x∧many=Yd own.length x∧∀ c,c < own.length→x.testBit c=decide (own.getD c 0≠0):=by
 obtain⟨x,h1,h2,h3⟩:=h.one h63;exact⟨x,h1,⟨h.c1,h63,h2⟩,by rw[En own x h3];exact h.many,h3⟩
theorem Td [Q4] (p size:Nat) (mem own:List Nat) (o n:Nat) (h63:own.length≤63) (ho:1≤o) (hn:1≤n) (hn2:n < 1000000) {w:World} {fr:List Q2} [hT:YW 0 Lib.deBruijn64tab fr] (H:Q0 w (ST p size mem own::fr)) :
  Calls Tryz.prog 122 #[pp p,.int .i64 o,.int .i64 n] w (ret fun v w'=>
   (∃ a:Nat,v = .tuple #[.int .i64 a,.int .i64 0]∧a+n≤own.length∧(∀ i,a≤i→i < a+n→own.getD i 0=0)∧Q0 w' (ST p size (V7 mem (a*size) (n*size) 0) (V7 own a n o)::fr)) ∨
   (v = .tuple #[.int .i64 0,.int .i64 11]∧(∀ a,a+n≤own.length→∃ i,a≤i∧i < a+n∧own.getD i 0≠0)∧Q0 w' (ST p size mem own::fr))):=by
 obtain⟨v,v2,u,ws,many,hok,H⟩:=UZ H;obtain⟨x,rfl,hb,rfl,hx⟩:=Hn hok h63;refine QQ Tryz.func122 rfl (by kernel_rfl) ?_;refine Bk H ?_;refine Y4 (fun ms σ w=>ms=[]∧σ 0=pp p∧σ 1 = .int .i64 o∧σ 2 = .int .i64 n∧Q0 w (pts p (row 230 [v,.int .i64 size,v2,pp u])::UL v mem::NL v2 own::Z4 u own.length x::fr)) ?_ ?_
 ·refine RK H ?_;refine Vc H ?_;rw[show decide ((o:Int) < 1)=false from decide_eq_false (by omega)];refine Zm H ?_;refine J3 H ?_;rw[show decide ((n:Int) < 1)=false from decide_eq_false (by omega)];refine V4 H ?_;exact .inl ⟨rfl,rfl,rfl,rfl,rfl,H⟩
 ·clear H;rintro ms σ w ⟨rfl,g0,g1,g2,H⟩;rw[Q1 g0,Q1 g1,Q1 g2];refine V2 H ?_;replace H:=Js [3,0,0,0] 0 H;refine Jc rfl rfl (TS u _ x n _ hb hn hn2 H) ?_;clear H;rintro r w ⟨hR,H⟩
  rcases hR with ⟨a,rfl,ha,hfree⟩|⟨rfl,hno⟩
  ·have hlen:=hok.len;have hs1:=hok.s1;have hs2:=hok.s2;have hmem:mem.length≤1048576:=by rw[hok.len];exact Nat.mul_le_mul hok.c2 hok.s2
   have hmul:(a+n)*size≤mem.length:=by rw[hlen];exact Nat.mul_le_mul_right _ ha
   have hmul2:(a+n)*size=a*size+n*size:=Nat.add_mul _ _ _;have hns:1*1≤n*size:=Nat.mul_le_mul hn hs1;refine G2 H ?_;refine GI H ?_;refine Jc rfl rfl (Md u _ x a n true hb ha H) ?_;clear H;rintro v w ⟨rfl,H⟩;refine XB H ?_;obtain⟨a2,c2,rfl⟩:=QE (H.drop.drop.drop) (QH own) (by decide);refine J6 H ?_;refine Y4 (fun ms σ w=>ms=[]∧σ 0=pp p∧σ 2 = .int .i64 n∧σ 8 = .int .i64 a∧Q0 w (NL (.slice a2 own.length c2) (V7 own a n o)::pts p (row 230 [v,.int .i64 size,.slice a2 own.length c2,pp u])::UL v mem::Z4 u own.length (XI x a n true)::fr)) ?_ ?_
   ·refine QP ?_;replace H:=Js [3,1,1,0] 0 H;refine Ql (fun ms σ w q=>ms=[]∧∃ j:Nat,j≤n∧q=n - j∧σ 0=pp p∧σ 1 = .int .i64 o∧σ 2 = .int .i64 n∧σ 8 = .int .i64 a∧σ 10 = .int .i64 ((a+j:Nat):Int)∧Q0 w (NL (.slice a2 own.length c2) (V7 own a j o)::pts p (row 230 [v,.int .i64 size,.slice a2 own.length c2,pp u])::UL v mem::Z4 u own.length (XI x a n true)::fr)) (m:=n) ⟨rfl,0,by omega,rfl,rfl,rfl,rfl,rfl,rfl,by rw[Er];exact H⟩ ?_;clear H;rintro ms σ w q ⟨rfl,j,hj,rfl,g0,g1,g2,g8,g10,H⟩;rw[Q1 g0,Q1 g1,Q1 g2,Q1 g8,Q1 g10];refine KF H ?_;rw[Qb (x:=(a:Int)+(n:Int)) (by omega) (by omega)];refine J6 H ?_;refine Qj rfl (fun h=>QD ?_) (fun h=>Qp ?_)
    ·have hlt:j < n:=by omega
     have hsl:=Vy (l:=own) (a:=a) (n:=j) (v:=o) (by omega);obtain⟨b,s,rfl,H,_,_,hclose⟩:=Z2 H (by omega);refine G1 H ?_;refine GI H ?_;refine Jd ?_;refine Q5 rfl (Yh H rfl rfl inferInstance rfl (by simp only[length_append,QH];omega) rfl ?_);clear H;intro w H;rw[Int.toNat_natCast,Em (by omega),Mi (by omega)] at H;replace H:=hclose _ _ _ (by rw[QH,QH,Vy (by omega),Vy (by omega)]) H;refine WA H ?_;exact⟨_,⟨rfl,j+1,hlt,rfl,rfl,rfl,rfl,rfl,by rw[show ((a+(j+1):Nat):Int)=((a+j:Nat):Int)+1 by omega];exact Qc (i:=a+j) (by omega),H⟩,by omega⟩
    ·have hge:j=n:=by omega
     subst hge;exact .inl ⟨rfl,rfl,rfl,rfl,rfl,H⟩
   ·clear H;rintro ms σ w ⟨rfl,g0,g2,g8,H⟩;rw[Q1 g0,Q1 g2,Q1 g8];replace H:=Js [2,1,0,0] 0 H;obtain⟨a1,c1,rfl⟩:=QE H (Z3 mem) (by decide);obtain⟨b,s,rfl,H,hcap,hsp,hclose⟩:=Z2 H (by omega);refine J1 H ?_;clear H;intro w H;refine Yu H ?_;refine Jl 3 [19] H ?_;refine Dj H ?_;refine Jl 8 [19] H ?_;refine Ja 9 ?_;refine Ja 10 ?_;refine Ja 11 ?_;refine RR H ?_;refine Jf 15 ?_;refine Jl 16 [19] H ?_;refine Ja 17 ?_;rw[Qb (x:=(a:Int)+(n:Int)) (by omega) (by omega),show ((a:Int)+(n:Int))*(size:Int)=(((a+n)*size:Nat):Int) by rw[Int.natCast_mul,Int.natCast_add],Qb (x:=(((a+n)*size:Nat):Int)) (by omega) (by omega),← Int.natCast_mul,Qb (x:=((a*size:Nat):Int)) (by omega) (by omega)];refine BH 18 rfl (Q7.none rfl) rfl rfl rfl (by omega) (by omega) (by omega) (by kernel_rfl) ?_
    have hz:Y2 (Qv (.int .u64 0)) ((a+n)*size - a*size)=Qa (List.replicate (n*size) 0):=by
     rw[show Qv (.int .u64 0)=[.int .u64 0] from rfl,WV,show (a+n)*size - a*size=n*size by omega];simp[Qa]
    refine Jo 19 H ?_;refine Sa H rfl (by omega) (by rw[hz];simp only[length_append,Z3,length_replicate];omega) rfl rfl ?_;clear H;intro w H;rw[hz] at H
    have hw:wr (Qa mem++s) (0+a*size*1) (Qa (List.replicate (n*size) 0))=Qa (V7 mem (a*size) (n*size) 0)++s:=by
     rw[DJ _ _ _ (by simp[Qa];omega)];rw[take_append_of_le_length (by simp[Qa];omega),drop_append_of_le_length (by simp[Qa];omega)];simp only[Nat.zero_add,Nat.mul_one,Qa,V7,map_append,map_take,map_drop,length_map,length_replicate,append_assoc]
    rw[hw] at H;replace H:=hclose _ _ _ (by simp[Qa,Vy (show a*size+n*size≤mem.length by omega)]) H;refine Jx H ?_;refine VX H ?_;replace H:=Js [1,0,0,0] 0 H;have hsl:=Vy (l:=own) (v:=o) ha
    have hx':∀ c,c < (V7 own a n o).length→(XI x a n true).testBit c=decide ((V7 own a n o).getD c 0≠0):=by
     intro c hc;rw[Mc,Rk ha];split
     ·simp;omega
     ·exact hx c (by omega)
    have hbf:=hb.fill (a:=a) (k:=n) (on:=true) ha;refine Q3 (Jy (GN (own:=V7 own a n o) (ws:=[XI x a n true]) (many:=Yd own.length (XI x a n true)) ⟨hs1,hs2,by rw[hsl];exact hok.c1,by rw[hsl];exact hok.c2,by rw[Vy (by omega),hsl,hlen],?_,fun _=>⟨_,rfl,by rw[hsl];exact hbf.lt,hx'⟩⟩ (by rw[hsl];exact H)) rfl fun w' H' => .inl ⟨a,rfl,ha,fun i h1 h2=>?_,H'⟩)
    ·rw[← hsl];exact En _ _ hx'
    ·have:=hx i (by omega);rw[hfree i h1 h2] at this;simpa using this.symm
  ·refine Bl H ?_;refine Yc H ?_;replace H:=Js [1,1,1,0] 0 H;refine Q3 (Jy (GN hok H) rfl fun w' H' => .inr ⟨rfl,fun a ha=>?_,H'⟩);obtain⟨i,h1,h2,h3⟩:=hno a ha;refine⟨i,h1,h2,?_⟩;have:=hx i (by omega);rw[h3] at this;simpa using this.symm
def Vg (w k:Nat):List Nat:=(List.range k).filter fun i=>w.testBit i
theorem Es (w k:Nat):Vg w (k+1)=Vg w k++if w.testBit k then [k] else []:=by
 unfold Vg;rw[range_succ,filter_append];congr 1;by_cases h:w.testBit k <;> simp[h]
theorem Ho {w k:Nat}:∀ {t:Nat},k≤t→(∀ i,k≤i→i < t→w.testBit i=false)→Vg w t=Vg w k
 | 0,h,_=>by rw[show k=0 by omega]
 | t+1,h,hh=>by
  by_cases hk:k=t+1
  ·rw[hk]
  ·rw[Es,hh t (by omega) (by omega),Ho (t:=t) (by omega) (fun i h1 h2=>hh i h1 (by omega))];simp
theorem Ah (w k:Nat):(Vg w k).length≤k:=by
 have:=length_filter_le (fun i=>w.testBit i) (List.range k);simpa [Vg] using this
theorem Te {x t:Nat} (ht:x.testBit t=true) (hl:∀ i,i < t→x.testBit i=false):x=2 ^ (t+1)*(x / 2 ^ (t+1))+2 ^ t:=by
 have e:x % 2 ^ (t+1)=2 ^ t:=by
  apply Nat.eq_of_testBit_eq;intro j;rw[Nat.testBit_mod_two_pow,Nat.testBit_two_pow];by_cases h1:j < t
  ·rw[hl j h1];simp;omega
  ·by_cases h2:j=t
   ·subst h2;simp[ht]
   ·have:¬ j < t+1:=by omega
    simp[this];omega
 have:=Nat.div_add_mod x (2 ^ (t+1));omega
theorem Tf {x t:Nat} (ht:x.testBit t=true) (hl:∀ i,i < t→x.testBit i=false) (j:Nat):(x &&& (x - 1)).testBit j=(x.testBit j && decide (j≠t)):=by
 have e:=Te ht hl;have hp:0 < 2 ^ t:=Nat.two_pow_pos t;have hlt:2 ^ t - 1 < 2 ^ (t+1):=by rw[Nat.pow_succ];omega
 have e1:x - 1=2 ^ (t+1)*(x / 2 ^ (t+1))+(2 ^ t - 1):=by omega
 rw[Nat.testBit_and,e1,Nat.testBit_two_pow_mul_add _ hlt,Nat.testBit_two_pow_sub_one];by_cases h1:j < t
 ·rw[hl j h1];simp
 ·by_cases h2:j=t
  ·subst h2;simp
  ·rw[if_neg (by omega),Nat.testBit_div_two_pow,show j - (t+1)+(t+1)=j by omega];simp[h2]
def X0 (l:List Nat) (size:Nat):Prop:=(∀ p∈l,p < size)∧l.Pairwise (· < ·)
instance (l:List Nat) (size:Nat):Decidable (X0 l size):=inferInstanceAs (Decidable (_∧_))
theorem Mj {l:List Nat} {x:Nat} (h:l.Pairwise (· < ·)) (hx:∀ y,l.getLast? = some y→y < x):(l++[x]).Pairwise (· < ·):=by
 rw[pairwise_append];refine⟨h,by simp,fun a ha b hb=>?_⟩;simp at hb;subst hb
 obtain⟨y,hy⟩:∃ y,l.getLast? = some y:=by
  cases l with
  | nil=>cases ha
  | cons c l=>exact⟨_,getLast?_eq_some_getLast (by simp)⟩
 have h1:=hx y hy
 have h2:a≤y:=by
  obtain⟨l',rfl⟩:=getLast?_eq_some_iff.1 hy;rw[pairwise_append] at h;simp at ha
  rcases ha with ha|rfl
  ·exact Nat.le_of_lt (h.2.2 a ha y (by simp))
  ·exact Nat.le_refl _
 omega
structure QL where
 fixed:Nat
 refs:List Nat
 record:Nat
 recs:List Nat
def Vh (l:QL):Prop:=l.fixed≤64∧l.record≤64∧l.fixed+l.record≠0∧X0 l.refs l.fixed∧X0 l.recs l.record
instance (l:QL):Decidable (Vh l):=inferInstanceAs (Decidable (_∧_))
def VQ (l:QL) (count:Int):Nat×Nat:=
 if count < 0∨count > 1024∨(count > 0∧l.record=0) then (0,3)
 else if l.fixed+count.toNat*l.record≥8192 then (0,10) else (l.fixed+count.toNat*l.record,0)
def VV (l:QL) (p:Nat):Bool:=if p < l.fixed then decide (p∈l.refs) else decide ((p - l.fixed) % l.record∈l.recs)
def Rl (a b c:Nat):QL:=⟨a % 256,Vg b 64,a / 256,Vg c 64⟩
def ZC (ws:List Nat):Option QL:=
 match ws with
 | [a,b,c]=>if a < 65536∧Vh (Rl a b c) then some (Rl a b c) else none
 | _=>none
theorem Tg {ws:List Nat} {l:QL} (h:ZC ws=some l):Vh l:=by
 unfold ZC at h;split at h
 ·split at h
  ·rename_i h1;cases h;exact h1.2
  ·cases h
 ·cases h
theorem Hq {l:QL} {c:Int} {n:Nat} (h:VQ l c=(n,0)):0≤c∧c≤1024∧n=l.fixed+c.toNat*l.record∧n < 8192∧(c > 0→l.record≠0):=by
 unfold VQ at h;split at h
 ·cases h
 ·split at h
  ·cases h
  ·rename_i h1 h2;injection h with h3 h4
   omega
theorem Mk [Q4] (v:Value) (l:List Nat) (size:Nat) (hl:l.length≤1000000) {w:World} {fr:List Q2} (hr:Vt fr v l.length 1 (QA l)) (H:Q0 w fr) :
  Calls Tryz.prog 207 #[v,.int .i64 size] w (ret fun x w'=>(∃ b,x = .bool b∧(b=true↔X0 l size))∧Q0 w' fr):=by
 obtain⟨_,ad,cap,rfl,hr⟩:=hr;refine QQ Tryz.func207 rfl (by kernel_rfl) ?_;refine A5 H ?_;refine Ql (fun ms σ w q=>ms=[]∧∃ i:Nat,i≤l.length∧q=l.length - i∧X0 (l.take i) size∧σ 0 = .slice ad l.length cap∧σ 1 = .int .i64 size∧σ 7 = .slice ad l.length cap∧σ 8 = .int .i64 l.length∧σ 9 = .int .i64 i∧Q0 w fr) (m:=l.length) ⟨rfl,0,by omega,rfl,⟨by simp,by simp⟩,rfl,rfl,rfl,rfl,rfl,H⟩ ?_;clear H;rintro ms σ w q ⟨rfl,i,hi,rfl,hR,g0,g1,g7,g8,g9,H⟩;rw[Q1 g0,Q1 g1,Q1 g7,Q1 g8,Q1 g9];refine J8 H ?_;refine Qj rfl (fun h=>QD ?_) (fun h=>Qp ?_)
 ·have hlt:i < l.length:=by omega
  have hx:=getElem?_eq_getElem hlt;have htk:l.take (i+1)=l.take i++[l[i]]:=by rw[take_add_one,hx];rfl
  have hmem:l[i]∈l:=getElem_mem hlt;generalize l[i]=x at hx htk hmem
  rcases hr with hr|⟨b,o,E,fz,c,rfl,hA,hrd⟩
  ·omega
  haveI:=hA
  have hcell:c[o+i*1]? = some (.int .i64 x):=by
   rw[Nat.mul_one];exact hrd.get i _ (by simp[QA,hx])
  refine BO H ?_;refine Jd ?_;refine Q5 rfl (QB H rfl hcell rfl ?_);refine J3 H ?_;refine Vc H ?_;rw[show decide ((x:Int) < 0)=false from decide_eq_false (by omega)];refine XR H ?_;refine Jv ?_;by_cases hxs:x < size
  ·rw[show decide ((x:Int)≥(size:Int))=false from decide_eq_false (by omega)];refine UQ H ?_;by_cases hi0:0 < i
   ·rw[show decide ((i:Int) > 0)=true from decide_eq_true (by omega)];refine Zm H ?_;refine XR H ?_;rw[Qb (x:=(i:Int) - 1) (by omega) (by omega),show (i:Int) - 1=((i - 1:Nat):Int) by omega];have hy:=getElem?_eq_getElem (l:=l) (i:=i - 1) (by omega)
    have hlast:(l.take i).getLast? = some l[i - 1]:=by
     rw[getLast?_eq_getElem?,length_take,Nat.min_eq_left hi,getElem?_take_of_lt (by omega),hy]
    have hpw:l.Pairwise (· < ·)→l[i - 1] < x:=fun hp=>by
     have:=pairwise_iff_getElem.1 hp (i - 1) i (by omega) hlt (by omega)
     have e:l[i]=x:=by
      have:=getElem?_eq_getElem hlt;rw[hx] at this;exact(Option.some.inj this).symm
     omega
    generalize l[i - 1]'(by omega)=y at hy hlast hpw
    have hcell2:c[o+(i - 1)*1]? = some (.int .i64 y):=by
     rw[Nat.mul_one];exact hrd.get (i - 1) _ (by simp[QA,hy])
    refine QT rfl rfl rfl (GC rfl rfl (by omega) (by omega) rfl ?_);refine QT rfl rfl rfl (QB H rfl hcell2 rfl ?_);refine Zm H ?_;refine Y8 H ?_;refine Qj rfl (fun h=>?_) (fun h=>QD ?_)
    ·refine VF H ?_
     exact Q3 (Jy H rfl fun w' H'=>⟨⟨false,rfl,by
      constructor
      ·intro h';cases h'
      ·rintro⟨_,h2⟩;have:=hpw h2;omega⟩,H'⟩)
    ·refine J4 H ?_;refine⟨_,⟨rfl,i+1,hlt,rfl,?_,rfl,rfl,rfl,rfl,Qc (by omega),H⟩,by omega⟩;rw[htk];refine⟨fun p hp=>?_,Mj hR.2 fun z hz=>?_⟩
     ·simp at hp
      rcases hp with hp|rfl
      ·exact hR.1 p hp
      ·exact hxs
     ·rw[hlast] at hz;cases hz;omega
   ·have hi00:i=0:=by omega
    subst hi00;rw[show decide (((0:Nat):Int) > 0)=false from rfl];refine Yj H ?_;refine Bm H ?_;refine Yj H ?_;refine Uv H ?_;refine⟨_,⟨rfl,1,hlt,rfl,?_,rfl,rfl,rfl,rfl,Qc (i:=0) (by omega),H⟩,by omega⟩;rw[htk];exact⟨by simpa using hxs,by simp⟩
  ·rw[show decide ((x:Int)≥(size:Int))=true from decide_eq_true (by omega)];refine Dk H ?_;refine RW H ?_;refine RW H ?_;refine Dm H ?_;refine UM H ?_
   exact Q3 (Jy H rfl fun w' H'=>⟨⟨false,rfl,by
    constructor
    ·intro h';cases h'
    ·rintro⟨h1,_⟩;have:=h1 x hmem;omega⟩,H'⟩)
 ·have hge:i=l.length:=by omega
  subst hge;rw[take_length] at hR;refine VF H ?_;exact Q3 (Jy H rfl fun w' H'=>⟨⟨true,rfl,by simp[hR]⟩,H'⟩)
@[reducible] def Yx (f:Nat) (vr:Value) (r:Nat) (vq:Value):Value := .agg #[.int .i64 f,vr,.int .i64 r,vq]
structure UT (fr:List Q2) (vr vq:Value) (l:QL):Prop where
 r:Vt fr vr l.refs.length 1 (QA l.refs)
 q:Vt fr vq l.recs.length 1 (QA l.recs)
theorem UT.there {A:Q2} {fr:List Q2} {vr vq:Value} {l:QL} (h:UT fr vr vq l):UT (A::fr) vr vq l:=⟨h.r.there,h.q.there⟩
structure Et (l:QL):Prop where
 f:l.fixed≤1000000
 r:l.record≤1000000
 a:l.refs.length≤1000000
 b:l.recs.length≤1000000
theorem Hr [Q4] (vr vq:Value) (l:QL) (hs:Et l) {w:World} {fr:List Q2} (hr:UT fr vr vq l) (H:Q0 w fr) :
  Calls Tryz.prog 137 #[Yx l.fixed vr l.record vq] w (ret fun x w'=>(∃ b,x = .bool b∧(b=true↔Vh l))∧Q0 w' fr):=by
 obtain⟨s1,s2,s3,s4⟩:=hs;obtain⟨hr1,hr2⟩:=hr;obtain⟨_,ad1,cap1,rfl,hr1'⟩:=id hr1;obtain⟨_,ad2,cap2,rfl,hr2'⟩:=id hr2;refine QQ Tryz.func137 rfl (by kernel_rfl) ?_;refine J7 H ?_;clear H;intro b1 w H;refine Y8 H ?_;refine Y4 (fun ms σ w=>ms=[]∧(l.fixed≤64∧l.record≤64∧l.fixed+l.record≠0)∧σ 1=pp b1∧Q0 w (pts b1 (row 164 [.int .i64 l.fixed,.slice ad1 l.refs.length cap1,.int .i64 l.record,.slice ad2 l.recs.length cap2])::fr)) ?_ ?_
 ·refine QP ?_;refine RY H ?_;rw[show decide ((l.fixed:Int) < 0)=false from decide_eq_false (by omega)];refine A4 H ?_;by_cases h1:l.fixed≤64
  ·rw[show decide ((l.fixed:Int) > 64)=false from decide_eq_false (by omega)];refine KC H ?_;refine RY H ?_;rw[show decide ((l.record:Int) < 0)=false from decide_eq_false (by omega)];refine A4 H ?_;by_cases h2:l.record≤64
   ·rw[show decide ((l.record:Int) > 64)=false from decide_eq_false (by omega)];refine KC H ?_;refine Bn H ?_;refine AK H ?_;rw[Qb (x:=(l.fixed:Int)+(l.record:Int)) (by omega) (by omega)];by_cases h3:l.fixed+l.record=0
    ·rw[show (((l.fixed:Int)+(l.record:Int)) == 0)=true by simp;omega];refine YC H ?_;exact Q3 (.inr ⟨by simp,Jy H.drop rfl fun w' H'=>⟨⟨false,rfl,⟨fun h=>(by cases h),fun h=>by unfold Vh at h;omega⟩⟩,H'⟩⟩)
    ·rw[show (((l.fixed:Int)+(l.record:Int)) == 0)=false by simp;omega];refine V4 H ?_;exact .inl ⟨rfl,rfl,⟨h1,h2,h3⟩,rfl,H⟩
   ·rw[show decide ((l.record:Int) > 64)=true from decide_eq_true (by omega)];refine KB H ?_;refine Xr H ?_;refine YC H ?_;exact Q3 (.inr ⟨by simp,Jy H.drop rfl fun w' H'=>⟨⟨false,rfl,⟨fun h=>(by cases h),fun h=>by unfold Vh at h;omega⟩⟩,H'⟩⟩)
  ·rw[show decide ((l.fixed:Int) > 64)=true from decide_eq_true (by omega)];refine KB H ?_;refine Xr H ?_;refine YC H ?_;exact Q3 (.inr ⟨by simp,Jy H.drop rfl fun w' H'=>⟨⟨false,rfl,⟨fun h=>(by cases h),fun h=>by unfold Vh at h;omega⟩⟩,H'⟩⟩)
 ·clear H;rintro ms σ w ⟨rfl,⟨h1,h2,h3⟩,g1,H⟩;rw[Q1 g1];refine Bn H ?_;refine Jc rfl rfl (Mk _ l.refs l.fixed s3 hr1.there H) ?_;clear H;rintro v w ⟨⟨b,rfl,hb⟩,H⟩;refine Jv ?_;cases b with
  | true=>
   refine Ur H ?_;refine Ur H ?_;refine QT rfl rfl rfl (Qy (a:=[]) (b:=[]) rfl rfl (call (Mk _ l.recs l.record s4 hr2.there H) ?_));clear H;rintro v w ⟨⟨b,rfl,hb2⟩,H⟩;refine J3 H ?_;refine Q3 (Jy H.drop rfl fun w' H'=>⟨⟨b,rfl,?_⟩,H'⟩);rw[hb2];exact⟨fun h=>⟨h1,h2,h3,hb.1 rfl,h⟩,fun h=>h.2.2.2.2⟩
  | false=>
   refine AR H ?_;refine Qw rfl rfl rfl ?_;refine J3 H ?_;refine Q3 (Jy H.drop rfl fun w' H'=>⟨⟨false,rfl,⟨fun h=>(by cases h),fun h=>?_⟩⟩,H'⟩);have:=hb.2 h.2.2.2.1;cases this
end Go.Proofs.YtbnnnljagkjpiaaGreatDoor
