/- Cells: what is proved on the way: every input of the statement; no condition. Texts joined: HdrA HdrB BmpA BmpB StoA StoB LayP LayA LayB. -/
import Derived.Test.YtmjdnljneifpcaaGreatDoorBce
import Derived.Test.YtmjdnljneifpcaaGreatDoorBcc
set_option linter.unusedVariables false
set_option linter.unusedSimpArgs false
set_option linter.unusedSectionVars false
namespace Go.Proofs.YtmjdnljneifpcaaGreatDoor
open List
open Go.SL
def UT:List Fl:=[(0,16),(16,16),(32,8),(40,16),(56,8)]
def Ua:List Fl:=[(0,32),(32,32)]
theorem Hi:Rg UT:=⟨by simp[UT,Re],by simp[UT]⟩
theorem Hj:Rg Ua:=⟨by simp[Ua,Re],by simp[Ua]⟩
theorem Hk [Q4] {w:World} {fr:List Q2} (H:Q0 w fr):Calls Tryz.prog 223 #[] w (ret fun v w'=>Q0 w' (FL v UT::fr)):=by
 refine Q9 Tryz.func223 rfl (by kernel_rfl) ?_;refine Db H ?_;refine XB H ?_;refine XB H ?_;refine XB H ?_;refine Bg H ?_;clear H;intro b6 w H;refine J0 H ?_;exact Q3 (Jy (Ur (by decide) H) rfl fun w' H'=>H')
theorem Hl [Q4] {w:World} {fr:List Q2} (H:Q0 w fr):Calls Tryz.prog 207 #[] w (ret fun v w'=>Q0 w' (FL v Ua::fr)):=by
 refine Q9 Tryz.func207 rfl (by kernel_rfl) ?_;refine Db H ?_;refine Bg H ?_;clear H;intro b3 w H;refine J0 H ?_;exact Q3 (Jy (Ur (by decide) H) rfl fun w' H'=>H')
def Xy (l c s:Nat):Prop:=1≤l∧l≤64∧c≤1024∧s < 4096
@[reducible] def Rh (l c s:Nat):Value := .agg #[.int .i64 l,.int .i64 c,.int .i64 s]
theorem Mg [Q4] (l c s:Nat) (h:Xy l c s) {w:World} {fr:List Q2} (H:Q0 w fr):Calls Tryz.prog 222 #[Rh l c s] w (ret fun v w'=>v = .bool true∧Q0 w' fr):=by
 obtain⟨h1,h2,h3,h4⟩:=h;refine Q9 Tryz.func222 rfl (by kernel_rfl) ?_;refine J8 H ?_;clear H;intro b1 w H;refine WK H ?_;refine YP H ?_;rw[show decide ((l:Int)≥1)=true from decide_eq_true (by omega)];refine UM H ?_;refine Jv ?_;rw[show decide ((l:Int)≤64)=true from decide_eq_true (by omega)];refine AV H ?_;rw[show decide ((c:Int)≥0)=true from decide_eq_true (by omega)];refine AV H ?_;rw[show decide ((c:Int)≤1024)=true from decide_eq_true (by omega)];refine AV H ?_;rw[show decide ((s:Int)≥0)=true from decide_eq_true (by omega)];refine AV H ?_;rw[show decide ((s:Int) < 4096)=true from decide_eq_true (by omega)];refine J0 H ?_;exact Q3 (Jy H.drop rfl fun w' H'=>⟨rfl,H'⟩)
def G7 (l c s:Nat):Nat:=G6 UT [s,c,l,0,165]
theorem Mh (l c s:Nat):G7 l c s=s+c*65536+l*4294967296+165*72057594037927936:=by
 simp[G7,G6,UT];omega
theorem Ta {l c s:Nat} (h:Xy l c s):G7 l c s < 18446744073709551616:=by
 obtain⟨h1,h2,h3,h4⟩:=h;rw[Mh];omega
theorem Tb [Q4] (l c s:Nat) (h:Xy l c s) {w:World} {fr:List Q2} (H:Q0 w fr):Calls Tryz.prog 152 #[Rh l c s] w (ret fun v w'=>v = .tuple #[.int .u64 (G7 l c s),.int .i64 0]∧Q0 w' fr):=by
 have h':=h;obtain⟨h1,h2,h3,h4⟩:=h';refine Q9 Tryz.func152 rfl (by kernel_rfl) ?_;refine J8 H ?_;clear H;intro b1 w H;refine J3 H ?_;refine GJ H ?_;refine Jc rfl rfl (Mg l c s h H) ?_;clear H;rintro v w ⟨rfl,H⟩;refine Y7 H ?_;refine J1 H ?_;clear H;intro w H;refine Jf 1 ?_;refine Jl 2 [10,11] H ?_;refine Dc H ?_;refine Jf 4 ?_;refine Jl 5 [10,11] H ?_;refine U7 6 rfl (Q8.none rfl) rfl (by kernel_rfl) ?_;refine Jf 7 ?_;refine Jl 8 [10,11] H ?_;refine U7 9 rfl (Q8.none rfl) rfl (by kernel_rfl) ?_;rw[UH (a:=l) (by omega),UH (a:=c) (by omega),UH (a:=s) (by omega)];refine Jw 0 10 H rfl rfl (V1 (a:=[]) (b:=[]) rfl rfl (call (Hk H) ?_)) (RY H rfl rfl rfl ?_)
 ·clear H;intro v16 w H;obtain⟨a16,m16,c16,rfl⟩:=Qw H;refine Jo 10 H ?_;refine WU H ?_;clear H;intro b17 w H;replace H:=Q0.swap (Ur (len:=5) (k:=1) rfl H)
  refine BD 11 rfl (by kernel_rfl) (by repeat first|exact .nil|refine .cons (.inr H.at) ?_|refine .cons (.inr H.mp) ?_|refine .cons (.inl (by kernel_rfl)) ?_) (Q8.none rfl) (V1 (a:=[]) (b:=[]) rfl rfl (call (El _ _ UT [s,c,l,0,165] Hi (by decide) rfl (fun i f x hf hx=>by
     rcases i with _|_|_|_|_|i <;> simp[UT] at hf hx <;> subst hf hx <;> simp <;> omega) H) ?_))
  clear H;rintro v w ⟨rfl,H⟩;refine Bh H ?_;exact Q3 (Jy H.drop.drop.drop rfl fun w' H'=>⟨rfl,H'⟩)
 ·clear H;intro b17 w H;refine Jo 0 H ?_;refine Jk rfl rfl (Hk H) ?_;clear H;intro v16 w H;obtain⟨a16,m16,c16,rfl⟩:=Qw H;replace H:=Q0.swap (Ur (len:=5) (k:=1) rfl H.swap)
  refine BD 11 rfl (by kernel_rfl) (by repeat first|exact .nil|refine .cons (.inr H.at) ?_|refine .cons (.inr H.mp) ?_|refine .cons (.inl (by kernel_rfl)) ?_) (Q8.none rfl) (V1 (a:=[]) (b:=[]) rfl rfl (call (El _ _ UT [s,c,l,0,165] Hi (by decide) rfl (fun i f x hf hx=>by
     rcases i with _|_|_|_|_|i <;> simp[UT] at hf hx <;> subst hf hx <;> simp <;> omega) H) ?_))
  clear H;rintro v w ⟨rfl,H⟩;refine Bh H ?_;exact Q3 (Jy H.drop.drop.drop rfl fun w' H'=>⟨rfl,H'⟩)
theorem Tc {l c s:Nat} (h:Xy l c s):UT.map (Yx (G7 l c s))=[s,c,l,0,165]:=by
 obtain⟨h1,h2,h3,h4⟩:=h;simp only[UT,map_cons,map_nil,Yx,Mh,Nat.reducePow];have e1:(s+c*65536+l*4294967296+165*72057594037927936) / 1 % 65536=s:=by omega
 have e2:(s+c*65536+l*4294967296+165*72057594037927936) / 65536 % 65536=c:=by omega
 have e3:(s+c*65536+l*4294967296+165*72057594037927936) / 4294967296 % 256=l:=by omega
 have e4:(s+c*65536+l*4294967296+165*72057594037927936) / 1099511627776 % 65536=0:=by omega
 have e5:(s+c*65536+l*4294967296+165*72057594037927936) / 72057594037927936 % 256=165:=by omega
 rw[e1,e2,e3,e4,e5]
theorem Td [Q4] (l c s:Nat) (h:Xy l c s) {w:World} {fr:List Q2} (H:Q0 w fr):Calls Tryz.prog 183 #[.int .u64 (G7 l c s)] w (ret fun v w'=>v = .tuple #[Rh l c s,.int .i64 0]∧Q0 w' fr):=by
 have h':=h;obtain⟨h1,h2,h3,h4⟩:=h';refine Q9 Tryz.func183 rfl (by kernel_rfl) ?_;refine Vp H ?_;clear H;intro b2 w H;refine AY H ?_;refine Jc rfl rfl (Hk H) ?_;clear H;intro v9 w H
 refine Jc rfl rfl (Hh _ (Ta h) v9 UT Hi (by decide) H) ?_;clear H;rintro v w ⟨u,rfl,H⟩;rw[Tc h] at H;obtain⟨au,cu,rfl⟩:=QF (m:=5) H rfl (by decide);obtain⟨bu,su,rfl,H,hclose⟩:=V5 H (by decide);refine Dd H ?_;clear H;intro w H;refine Ja 0 ?_;refine Ji 1 ?_;refine Jl 2 [14] H ?_;refine Dc H ?_;refine Ja 4 ?_;refine Ji 5 ?_;refine Jl 6 [14] H ?_;refine U7 7 rfl (Q8.none rfl) rfl (by kernel_rfl) ?_;refine Ja 8 ?_;refine Ji 9 ?_;refine Jl 10 [14] H ?_;refine U7 11 rfl (Q8.none rfl) rfl (by kernel_rfl) ?_;refine Zq 12 rfl (Q8.none rfl) rfl (by kernel_rfl) ?_;rw[KC (a:=l) (by omega),KC (a:=c) (by omega),KC (a:=s) (by omega)];refine Jo 13 H ?_;refine Vo H rfl ?_;clear H;intro b6 w H
 refine Jo 14 H ?_;refine U9 H ?_;clear H;intro w H;refine Jx H ?_;refine YY H ?_;refine Jd ?_;refine XC H ?_;refine Bd H ?_;refine QT rfl rfl rfl (GF rfl rfl (by omega) (by omega) rfl ?_);refine QT rfl rfl rfl (QR H rfl rfl rfl ?_);refine Ym H ?_;refine YP H ?_;refine WZ H ?_;refine QT rfl rfl rfl (V1 (a:=[]) (b:=[]) rfl rfl (call (Mg l c s h H) ?_));clear H;rintro v w ⟨rfl,H⟩;refine Xr H ?_;refine KH H ?_;clear H;intro w H;refine J0 H ?_;refine Q3 (BJ (vs:=[Rh l c s,.int .i64 0]) _ (.inr rfl) H (fun w' H' => .cellN H' rfl (by repeat first|exact .nil _|apply QV.cons rfl) (.tmp .nil)) fun w' H'=>⟨rfl,H'.drop.drop.drop.drop⟩)
inductive Y4 where
 | none
 | grave
 | obj (i g:Nat)
 deriving DecidableEq
@[reducible] def Gw (i g:Nat):Value := .agg #[.int .i64 i,.int .i64 g]
@[reducible] def Z5:Y4→Value
 | .none => .agg #[.int .i64 0,.int .i64 0,.int .i64 0]
 | .grave => .agg #[.int .i64 1,.int .i64 0,.int .i64 0]
 | .obj i g => .agg #[.int .i64 2,.int .i64 i,.int .i64 g]
def CR (i g:Nat):Prop:=i < 4096∧1≤g∧g≤255
def Ga:Y4→Prop
 | .obj i g=>CR i g
 | _=>True
def VK:Y4→Nat
 | .none=>0
 | .grave=>1
 | .obj i g=>G6 Ua [i+2,g]
theorem Em (i g:Nat):VK (.obj i g)=i+2+g*4294967296:=by
 simp[VK,G6,Ua]
theorem Mi {l:Y4} (h:Ga l):VK l < 18446744073709551616:=by
 cases l with
 | none=>decide
 | grave=>decide
 | obj i g=>
  obtain⟨h1,h2,h3⟩:=h;rw[Em];omega
theorem Mj [Q4] (i g:Nat) (h:CR i g) {w:World} {fr:List Q2} (H:Q0 w fr):Calls Tryz.prog 205 #[Gw i g] w (ret fun v w'=>v = .bool true∧Q0 w' fr):=by
 obtain⟨h1,h2,h3⟩:=h;refine Q9 Tryz.func205 rfl (by kernel_rfl) ?_;refine J8 H ?_;clear H;intro b1 w H;refine WK H ?_;refine YP H ?_;rw[show decide ((i:Int)≥0)=true from decide_eq_true (by omega)];refine UM H ?_;refine Jv ?_;rw[show decide ((i:Int) < 4096)=true from decide_eq_true (by omega)];refine AV H ?_;rw[show decide ((g:Int)≥1)=true from decide_eq_true (by omega)];refine AV H ?_;rw[show decide ((g:Int)≤255)=true from decide_eq_true (by omega)];refine J0 H ?_;exact Q3 (Jy H.drop rfl fun w' H'=>⟨rfl,H'⟩)
theorem Te [Q4] (l:Y4) (h:Ga l) {w:World} {fr:List Q2} (H:Q0 w fr):Calls Tryz.prog 124 #[Z5 l] w (ret fun v w'=>v = .tuple #[.int .u64 (VK l),.int .i64 0]∧Q0 w' fr):=by
 cases l with
 | none=>
  refine Q9 Tryz.func124 rfl (by kernel_rfl) ?_;refine J8 H ?_;clear H;intro b1 w H;refine J3 H ?_;refine GL H ?_;refine Bi H ?_;refine Bj H ?_;exact Q3 (Jy H.drop rfl fun w' H'=>⟨rfl,H'⟩)
 | grave=>
  refine Q9 Tryz.func124 rfl (by kernel_rfl) ?_;refine J8 H ?_;clear H;intro b1 w H;refine J3 H ?_;refine GL H ?_;refine Bi H ?_;refine Bk H ?_;refine Bi H ?_;refine Bj H ?_;exact Q3 (Jy H.drop rfl fun w' H'=>⟨rfl,H'⟩)
 | obj i g=>
  have h':=h;obtain⟨h1,h2,h3⟩:=h';refine Q9 Tryz.func124 rfl (by kernel_rfl) ?_;refine J8 H ?_;clear H;intro b1 w H;refine KE H ?_;refine Y6 (fun ms σ w=>ms=[]∧σ 1 = .pointer (some ⟨b1,0,none⟩)∧Q0 w (pts b1 (row 88 [.int .i64 2,.int .i64 i,.int .i64 g])::fr)) ?_ ?_
  ·refine QP ?_;refine Bi H ?_;refine Bk H ?_;refine Bi H ?_;refine Bk H ?_;refine De H ?_;refine AZ H ?_;refine WZ H ?_;refine QT rfl rfl rfl (V1 (a:=[]) (b:=[]) rfl rfl (call (Mj i g h H) ?_));clear H;rintro v w ⟨rfl,H⟩;refine Xs H ?_;refine V6 H ?_;exact .inl ⟨rfl,rfl,rfl,H⟩
  ·clear H;rintro ms σ w ⟨rfl,g1,H⟩;rw[Q1 g1];refine J1 H ?_;clear H;intro w H;refine Jf 1 ?_;refine Jf 2 ?_;refine Jl 3 [10,11] H ?_;refine U7 4 rfl (Q8.none rfl) rfl (by kernel_rfl) ?_;refine Ja 5 ?_;refine Jf 6 ?_;refine Jf 7 ?_;refine Jl 8 [10,11] H ?_;refine U7 9 rfl (Q8.none rfl) rfl (by kernel_rfl) ?_
   have e1:IntKind.u64.wrap (IntKind.u64.wrap (i:Int)+2)=((i+2:Nat):Int):=by
    rw[UH (a:=i) (by omega)];exact UH (a:=i+2) (by omega)
   have e2:IntKind.u64.wrap (g:Int)=((g:Nat):Int):=UH (by omega);rw[e1,e2];refine Jw 0 10 H rfl rfl (V1 (a:=[]) (b:=[]) rfl rfl (call (Hl H) ?_)) (RY H rfl rfl rfl ?_)
   ·clear H;intro v16 w H;obtain⟨a16,m16,c16,rfl⟩:=Qw H;refine Jo 10 H ?_;refine WU H ?_;clear H;intro b17 w H;replace H:=Q0.swap (Ur (len:=2) (k:=1) rfl H)
    refine BD 11 rfl (by kernel_rfl) (by repeat first|exact .nil|refine .cons (.inr H.at) ?_|refine .cons (.inr H.mp) ?_|refine .cons (.inl (by kernel_rfl)) ?_) (Q8.none rfl) (V1 (a:=[]) (b:=[]) rfl rfl (call (El _ _ Ua [i+2,g] Hj (by decide) rfl (fun j f x hf hx=>by
         rcases j with _|_|j <;> simp[Ua] at hf hx <;> subst hf hx <;> simp <;> omega) H) ?_))
    clear H;rintro v w ⟨rfl,H⟩;refine Bh H ?_;exact Q3 (Jy H.drop.drop.drop rfl fun w' H'=>⟨rfl,H'⟩)
   ·clear H;intro b17 w H;refine Jo 0 H ?_;refine Jk rfl rfl (Hl H) ?_;clear H;intro v16 w H;obtain⟨a16,m16,c16,rfl⟩:=Qw H;replace H:=Q0.swap (Ur (len:=2) (k:=1) rfl H.swap)
    refine BD 11 rfl (by kernel_rfl) (by repeat first|exact .nil|refine .cons (.inr H.at) ?_|refine .cons (.inr H.mp) ?_|refine .cons (.inl (by kernel_rfl)) ?_) (Q8.none rfl) (V1 (a:=[]) (b:=[]) rfl rfl (call (El _ _ Ua [i+2,g] Hj (by decide) rfl (fun j f x hf hx=>by
         rcases j with _|_|j <;> simp[Ua] at hf hx <;> subst hf hx <;> simp <;> omega) H) ?_))
    clear H;rintro v w ⟨rfl,H⟩;refine Bh H ?_;exact Q3 (Jy H.drop.drop.drop rfl fun w' H'=>⟨rfl,H'⟩)
theorem Tf {i g:Nat} (h:CR i g):Ua.map (Yx (VK (.obj i g)))=[i+2,g]:=by
 obtain⟨h1,h2,h3⟩:=h;simp only[Ua,map_cons,map_nil,Yx,Em,Nat.reducePow];have e1:(i+2+g*4294967296) / 1 % 4294967296=i+2:=by omega
 have e2:(i+2+g*4294967296) / 4294967296 % 4294967296=g:=by omega
 rw[e1,e2]
theorem Tg [Q4] (l:Y4) (h:Ga l) {w:World} {fr:List Q2} (H:Q0 w fr):Calls Tryz.prog 227 #[.int .u64 (VK l)] w (ret fun v w'=>v = .tuple #[Z5 l,.int .i64 0]∧Q0 w' fr):=by
 cases l with
 | none=>
  refine Q9 Tryz.func227 rfl (by kernel_rfl) ?_;refine Vp H ?_;clear H;intro b2 w H;refine J0 H ?_;refine AG H ?_;refine J5 H ?_;refine Bl H ?_;clear H;intro w H;refine J0 H ?_;refine Q3 (BJ (vs:=[Z5 .none,.int .i64 0]) _ (.inr rfl) H (fun w' H' => .cellN H' rfl (by repeat first|exact .nil _|apply QV.cons rfl) (.tmp .nil)) fun w' H'=>⟨rfl,H'.drop⟩)
 | grave=>
  refine Q9 Tryz.func227 rfl (by kernel_rfl) ?_;refine Vp H ?_;clear H;intro b2 w H;refine J0 H ?_;refine AG H ?_;refine J5 H ?_;refine Zk H ?_;refine Bl H ?_;clear H;intro w H;refine J0 H ?_;refine Q3 (BJ (vs:=[Z5 .grave,.int .i64 0]) _ (.inr rfl) H (fun w' H' => .cellN H' rfl (by repeat first|exact .nil _|apply QV.cons rfl) (.tmp .nil)) fun w' H'=>⟨rfl,H'.drop⟩)
 | obj i g=>
  have h':=h;obtain⟨h1,h2,h3⟩:=h';have hw:=Em i g;have n0:((VK (.obj i g):Int) == 0)=false:=beq_eq_false_iff_ne.2 (by omega);have n1:((VK (.obj i g):Int) == 1)=false:=beq_eq_false_iff_ne.2 (by omega);have hlt:=Mi (l := .obj i g) h;have hg:=Tf h;generalize hW:VK (.obj i g)=W at n0 n1 hlt hg hw;refine Q9 Tryz.func227 rfl (by kernel_rfl) ?_;refine Vp H ?_;clear H;intro b2 w H;refine Df H ?_;refine Y6 (fun ms σ w=>ms=[]∧σ 0 = .int .u64 W∧σ 2 = .pointer (some ⟨b2,0,none⟩)∧Q0 w (pts b2 (row 88 [.int .i64 0,.int .i64 0,.int .i64 0])::fr)) ?_ ?_
  ·refine QP ?_;refine J5 H ?_;rw[n0];refine Zk H ?_;rw[n1];refine V6 H ?_;exact .inl ⟨rfl,rfl,rfl,rfl,H⟩
  ·clear H;rintro ms σ w ⟨rfl,g0,g2,H⟩;rw[Q1 g0,Q1 g2];refine YY H ?_;refine Jc rfl rfl (Hl H) ?_;clear H;intro v16 w H
   refine Jc rfl rfl (Hh _ hlt v16 Ua Hj (by decide) H) ?_;clear H;rintro v w ⟨u,rfl,H⟩;rw[hg] at H;obtain⟨au,cu,rfl⟩:=QF (m:=2) H rfl (by decide);obtain⟨bu,su,rfl,H,hclose⟩:=V5 H (by decide);refine Dd H ?_;clear H;intro w H;refine Ja 0 ?_;refine Ji 1 ?_;refine Jl 2 [11] H ?_;refine Dc H ?_;refine Us H ?_;refine Ji 6 ?_;refine Jl 7 [11] H ?_;refine U7 8 rfl (Q8.none rfl) rfl (by kernel_rfl) ?_;refine Zq 9 rfl (Q8.none rfl) rfl (by kernel_rfl) ?_
   have e1:IntKind.i64.wrap (IntKind.i64.wrap ((i+2:Nat):Int) - 2)=((i:Nat):Int):=by
    rw[KC (a:=i+2) (by omega),Qb (by omega) (by omega)];omega
   have e2:IntKind.i64.wrap (g:Int)=((g:Nat):Int):=KC (by omega);rw[e1,e2];refine Jo 10 H ?_;refine Vo H rfl ?_;clear H;intro b6 w H
   refine Ut H ?_;clear H;intro w H;refine Jx H ?_;refine GJ H ?_;refine Jc rfl rfl (Mj i g h H) ?_;clear H;rintro v w ⟨rfl,H⟩;refine Y7 H ?_
   repeat refine Q6 ?_
   refine QZ ?_;refine Q5 rfl (VN H rfl (by repeat first|exact .nil _|apply QV.cons rfl) rfl ?_);refine Q5 rfl (UE rfl rfl ?_);refine J4 H ?_;clear H;intro w H;refine J0 H ?_;refine Q3 (BJ (vs:=[Z5 (.obj i g),.int .i64 0]) _ (.inr rfl) H (fun w' H' => .cellN H' rfl (by repeat first|exact .nil _|apply QV.cons rfl) (.tmp .nil)) fun w' H'=>⟨rfl,H'.drop.drop.drop.drop⟩)
def BM (p n:Nat) (ws:List Nat) (many:Nat):Q2:=ex fun v:Value=>star [pts p (row 228 [.int .i64 n,v,.int .i64 many]),UL v ws]
theorem En [Q4] {w:World} {p n:Nat} {ws:List Nat} {m:Nat} {l:List Q2} (H:Q0 w (BM p n ws m::l)):∃ v,Q0 w (pts p (row 228 [.int .i64 n,v,.int .i64 m])::UL v ws::l):=by
 obtain⟨v,H⟩:=Q0.ex.1 H;exact⟨v,Q0.star.1 H⟩
theorem CW [Q4] {w:World} {p n:Nat} {v:Value} {ws:List Nat} {m:Nat} {l:List Q2} (H:Q0 w (pts p (row 228 [.int .i64 n,v,.int .i64 m])::UL v ws::l)):Q0 w (BM p n ws m::l):=
 Q0.ex.2 ⟨v,Q0.star.2 H⟩
theorem Al [Q4] {w:World} {p n x m:Nat} {l:List Q2} (H:Q0 w (BM p n [x] m::l)):∃ b cap spare,Q0 w (pts p (row 228 [.int .i64 n,.slice (some ⟨b,0,none⟩) 1 cap,.int .i64 m])::pts b (row 83 (.int .u64 x::spare))::l) ∧
  ∀ w' l' (x' m':Nat),Q0 w' (pts p (row 228 [.int .i64 n,.slice (some ⟨b,0,none⟩) 1 cap,.int .i64 m'])::pts b (row 83 (.int .u64 x'::spare))::l')→Q0 w' (BM p n [x'] m'::l'):=by
 obtain⟨v,H⟩:=En H;have H:=H.swap;obtain⟨a,cap,rfl⟩:=QF (m:=1) H rfl (by decide)
 rcases GH H with ⟨h,_⟩|⟨b,len,cap',spare,h,e3,e4,e5,H2⟩
 ·cases h
 ·cases h;exact⟨b,cap,spare,H2.swap,fun w' l' x' m' H'=>CW (Q0.swap (ZW (c:=Qa [x']) rfl e4 e5 H'.swap))⟩
structure ZC (n x:Nat):Prop where
 pos:0 < n
 le:n≤63
 lt:x < 2 ^ n
theorem ZC.lt64 {n x:Nat} (h:ZC n x):x < 18446744073709551616:=Nat.lt_of_lt_of_le h.lt (Ek (by have:=h.le;omega))
theorem CA {i:Nat} (h:i < 64):IntKind.i64.wrap (Int.tdiv (i:Int) 64)=0:=by
 rw[Int.tdiv_eq_ediv_of_nonneg (by omega),show (i:Int) / 64=0 by omega];rfl
theorem Eo {i:Nat} (h:i < 64):Int.tmod (i:Int) 64=i:=by
 rw[Int.tmod_eq_emod_of_nonneg (by omega)];omega
theorem Th (x i:Nat):((x / 2 ^ i) &&& 1=1)↔x.testBit i=true:=by
 rw[Nat.and_one_is_mod,Nat.testBit_eq_decide_div_mod_eq];simp
theorem Hm [Q4] (p n:Nat) (ws:List Nat) (m:Nat) {w:World} {fr:List Q2} (H:Q0 w (BM p n ws m::fr)):Calls Tryz.prog 221 #[pp p] w (ret fun v w'=>v = .int .i64 n∧Q0 w' (BM p n ws m::fr)):=by
 obtain⟨v,H⟩:=En H;refine Q9 Tryz.func221 rfl (by kernel_rfl) ?_;refine Xt H ?_;refine J0 H ?_;exact Q3 (Jy (CW H) rfl fun w' H'=>⟨rfl,H'⟩)
theorem Hn [Q4] (p n:Nat) (ws:List Nat) (m:Nat) {w:World} {fr:List Q2} (H:Q0 w (BM p n ws m::fr)):Calls Tryz.prog 65 #[pp p] w (ret fun v w'=>v = .int .i64 m∧Q0 w' (BM p n ws m::fr)):=by
 obtain⟨v,H⟩:=En H;refine Q9 Tryz.func65 rfl (by kernel_rfl) ?_;refine Xt H ?_;refine J0 H ?_;exact Q3 (Jy (CW H) rfl fun w' H'=>⟨rfl,H'⟩)
theorem Ti [Q4] (p n x m i:Nat) (hb:ZC n x) (hi:i < n) {w:World} {fr:List Q2} (H:Q0 w (BM p n [x] m::fr)):Calls Tryz.prog 260 #[pp p,.int .i64 i] w (ret fun v w'=>v = .bool (x.testBit i)∧Q0 w' (BM p n [x] m::fr)):=by
 have hle:=hb.le;have h64:=hb.lt64;refine Q9 Tryz.func260 rfl (by kernel_rfl) ?_;refine WR H ?_;rw[show decide ((i:Int)≥0)=true from decide_eq_true (by omega)];refine Zr H ?_;refine QT rfl rfl rfl (V1 (a:=[]) (b:=[]) rfl rfl (call (Hm p n _ _ H) ?_));clear H;rintro v w ⟨rfl,H⟩;refine Ym H ?_;refine Jv ?_;rw[show decide ((i:Int) < (n:Int))=true from decide_eq_true (by omega)];obtain⟨b,cap,spare,H,hclose⟩:=Al H;refine Uu H ?_;refine KD H ?_;refine Zr H ?_;rw[CA (show i < 64 by omega)];refine QT rfl rfl rfl (GF rfl rfl (by decide) (by decide) rfl ?_);refine QT rfl rfl rfl (QR H rfl rfl rfl ?_);refine Zr H ?_;rw[Eo (show i < 64 by omega)]
 refine V2 rfl rfl (v := .int .u64 (XX .u64 (x:Int) (i:Int))) (by
  show (if (i:Int) < 0 then none else some _)=_;rw[if_neg (by omega)]) rfl ?_
 rw[BL (k := .u64) (a:=x) (b:=i) (by omega) rfl];have hq:x / 2 ^ i < 18446744073709551616:=Nat.lt_of_le_of_lt (Nat.div_le_self _ _) h64;refine V2 rfl rfl (v := .int .u64 (YN .and .u64 ((x / 2 ^ i:Nat):Int) ((1:Nat):Int))) rfl rfl ?_;rw[DM hq (by decide)];refine Xs H ?_;refine Q3 (Jy (hclose _ _ _ _ H) rfl fun w' H'=>⟨?_,H'⟩);show Value.bool (((x / 2 ^ i &&& 1:Nat):Int) == 1)=_;congr 1;rw[Bool.eq_iff_iff,← Th];simp only[beq_iff_eq];omega
def Yo (x i:Nat) (on:Bool):Nat:=if x.testBit i=on then x else x ^^^ 2 ^ i
theorem WS (x i:Nat) (on:Bool) (j:Nat):(Yo x i on).testBit j=if j=i then on else x.testBit j:=by
 unfold Yo;split
 ·rename_i h;split
  ·rename_i e;subst e;exact h
  ·rfl
 ·rename_i h;rw[Nat.testBit_xor,Nat.testBit_two_pow];split
  ·rename_i e;subst e;simp;cases hx:x.testBit j <;> cases on <;> simp_all
  ·rename_i e;have:decide (i=j)=false:=decide_eq_false (fun e2=>e e2.symm);simp[this]
def Ye (n x:Nat):Nat:=((List.range n).filter fun i=>x.testBit i).length
theorem Tj {n x:Nat} (h:∀ j,n≤j→x.testBit j=false):x < 2 ^ n:=Nat.lt_pow_two_of_testBit x fun j hj=>h j hj
theorem Ho {n x j:Nat} (h:x < 2 ^ n) (hj:n≤j):x.testBit j=false:=Nat.testBit_lt_two_pow (Nat.lt_of_lt_of_le h (Nat.pow_le_pow_right (by decide) hj))
theorem ZC.set {n x i:Nat} {on:Bool} (h:ZC n x) (hi:i < n):ZC n (Yo x i on):=⟨h.pos,h.le,Tj fun j hj=>by
 rw[WS,if_neg (by omega)];exact Ho h.lt hj⟩
theorem Hq (f g:Nat→Bool) (i:Nat):∀ n,i < n→(∀ j,j≠i→f j=g j)→f i=false→g i=true→((List.range n).filter g).length=((List.range n).filter f).length+1
 | 0,h,_,_,_=>by omega
 | n+1,h,hfg,h0,h1=>by
  rw[range_succ,filter_append,filter_append,length_append,length_append];by_cases e:i=n
  ·subst e
   have e2:(List.range i).filter g=(List.range i).filter f:=by
    apply filter_congr;intro j hj;rw[mem_range] at hj;rw[hfg j (by omega)]
   rw[e2];simp[h0,h1]
  ·have:=Hq f g i n (by omega) hfg h0 h1;have e3:[n].filter g=[n].filter f:=by simp[filter_cons,hfg n (fun e'=>e e'.symm)]
   rw[e3];omega
theorem Tk {n x i:Nat} {on:Bool} (hi:i < n) (h:x.testBit i≠on):(on=true→Ye n (Yo x i on)=Ye n x+1)∧(on=false→Ye n x=Ye n (Yo x i on)+1):=by
 have hne:∀ j,j≠i→x.testBit j=(Yo x i on).testBit j:=fun j hj=>by rw[WS,if_neg hj]
 have hat:(Yo x i on).testBit i=on:=by rw[WS,if_pos rfl]
 constructor
 ·rintro rfl;exact Hq _ _ i n hi hne (by simpa using h) hat
 ·rintro rfl;exact Hq _ _ i n hi (fun j hj=>(hne j hj).symm) hat (by simpa using h)
theorem Ep (n x:Nat):Ye n x≤n:=by
 have:=length_filter_le (fun i=>x.testBit i) (List.range n)
 rwa [length_range] at this
@[reducible] def Z6 (p n x:Nat):Q2:=BM p n [x] (Ye n x)
theorem Tl [Q4] (p n x i:Nat) (on:Bool) (hb:ZC n x) (hi:i < n) {w:World} {fr:List Q2} (H:Q0 w (Z6 p n x::fr)):Calls Tryz.prog 249 #[pp p,.int .i64 i,.bool on] w (ret fun v w'=>Q0 w' (Z6 p n (Yo x i on)::fr)):=by
 have hle:=hb.le;have h64:=hb.lt64;have hcl:=Ep n x;have hcl2:=Ep n (Yo x i on);refine Q9 Tryz.func249 rfl (by kernel_rfl) ?_;refine J9 H ?_;refine Jc rfl rfl (Ti p n x _ i hb hi H) ?_;clear H;rintro v w ⟨rfl,H⟩;refine Jv ?_;refine Q5 rfl (WQ rfl rfl (.inl rfl) rfl ?_);refine RR H ?_;refine W4 rfl (fun h=>?_) (fun h=>QB ?_)
 ·have h1:x.testBit i=on:=by simpa [YC] using h
  have e:Yo x i on=x:=if_pos h1;rw[e];exact Q3 (Jy H rfl fun w' H'=>H')
 ·have h1:x.testBit i≠on:=by simpa [YC] using h
  have e:Yo x i on=x ^^^ 2 ^ i:=if_neg h1;obtain⟨c1,c0⟩:=Tk hi h1;obtain⟨b,cap,spare,H,hclose⟩:=Al H;have h2i:2 ^ i < 18446744073709551616:=Nat.lt_of_lt_of_le (Nat.pow_lt_pow_right (by decide) (show i < 64 by omega)) (Nat.le_refl _);have e2:Xk .u64 ((1:Nat):Int) (i:Int)=((2 ^ i:Nat):Int):=by rw[HR (by omega),Nat.one_mul,Nat.mod_eq_of_lt h2i]
  have e3:YN .xor .u64 (x:Int) ((2 ^ i:Nat):Int)=((Yo x i on:Nat):Int):=by rw[MU h64 h2i,e]
  refine J1 H ?_;clear H;intro w H;refine Y3 H ?_;refine Jl 3 [13] H ?_;refine Us H ?_;rw[CA (show i < 64 by omega)];refine R8 6 rfl (Q8.none rfl) rfl rfl (by decide) (by decide) (by kernel_rfl) ?_;refine Jl 7 [13] H ?_;refine Ja 8 ?_;refine Ja 9 ?_;rw[Eo (show i < 64 by omega)]
  refine GC (v := .int .u64 (Xk .u64 ((1:Nat):Int) (i:Int))) 10 rfl (Q8.none rfl) (by
   show (if (i:Int) < 0 then none else some _)=_;rw[if_neg (by omega)];rfl) (by kernel_rfl) ?_
  rw[e2];refine GC (v := .int .u64 (YN .xor .u64 (x:Int) ((2 ^ i:Nat):Int))) 11 rfl (Q8.none rfl) rfl (by kernel_rfl) ?_;rw[e3];refine R8 12 rfl (Q8.none rfl) rfl rfl (by decide) (by decide) (by kernel_rfl) ?_;refine Jo 13 H ?_;refine UQ H ?_;clear H;intro w H;refine Jx H ?_;refine GM H ?_;refine UY H ?_;clear H;intro w H;refine WW H ?_;cases on with
  | true=>
   refine VM H ?_;refine GM H ?_;refine UY H ?_;clear H;intro w H;refine J2 H ?_
   have hc:IntKind.i64.wrap (IntKind.i64.wrap ((Ye n x:Nat) - 1:Int)+2)=((Ye n (Yo x i true):Nat):Int):=by
    have:=c1 rfl;rw[Qb (x:=((Ye n x:Nat):Int) - 1) (by omega) (by omega),Qb (by omega) (by omega)];omega
   rw[hc] at H;exact YV _ (.inl rfl) (hclose _ _ _ _ H) rfl fun w' H'=>H'
  | false=>
   refine V6 H ?_
   have hc:IntKind.i64.wrap ((Ye n x:Nat) - 1:Int)=((Ye n (Yo x i false):Nat):Int):=by
    have:=c0 rfl;rw[Qb (by omega) (by omega)];omega
   rw[hc] at H;exact YV _ (.inl rfl) (hclose _ _ _ _ H) rfl fun w' H'=>H'
def XO (x a:Nat):Nat→Bool→Nat
 | 0,_=>x
 | k+1,on=>Yo (XO x a k on) (a+k) on
theorem Mk (x a:Nat) (on:Bool) (j:Nat):∀ k,(XO x a k on).testBit j=if a≤j∧j < a+k then on else x.testBit j
 | 0=>by simp[XO];omega
 | k+1=>by
  show (Yo _ _ _).testBit j=_;rw[WS,Mk x a on j k];by_cases h1:j=a+k
  ·rw[if_pos h1,if_pos (by omega)]
  ·rw[if_neg h1];by_cases h2:a≤j∧j < a+k
   ·rw[if_pos h2,if_pos (by omega)]
   ·rw[if_neg h2,if_neg (by omega)]
theorem ZC.fill {n x a:Nat} {on:Bool} (h:ZC n x):∀ {k:Nat},a+k≤n→ZC n (XO x a k on)
 | 0,_=>h
 | k+1,hk=>ZC.set (ZC.fill h (by omega)) (by omega)
theorem Ml [Q4] (p n x a k:Nat) (on:Bool) (hb:ZC n x) (hk:a+k≤n) {w:World} {fr:List Q2} (H:Q0 w (Z6 p n x::fr)) :
  Calls Tryz.prog 213 #[pp p,.int .i64 a,.int .i64 k,.bool on] w (ret fun v w'=>v = .int .i64 0∧Q0 w' (Z6 p n (XO x a k on)::fr)):=by
 have hle:=hb.le;refine Q9 Tryz.func213 rfl (by kernel_rfl) ?_;refine J7 H ?_;refine Y6 (fun ms σ w=>ms=[]∧σ 0=pp p∧σ 1 = .int .i64 a∧σ 2 = .int .i64 k∧σ 3 = .bool on∧Q0 w (Z6 p n x::fr)) ?_ ?_
 ·refine QP ?_;obtain⟨b,cap,spare,H,hclose⟩:=Al H;refine AU H ?_;refine Bk H ?_;refine Vq H ?_;rw[show decide ((k:Int) < 0)=false from decide_eq_false (by omega)];refine Dg H ?_;rw[show decide ((a:Int) < 0)=false from decide_eq_false (by omega)];refine XD H ?_;refine UM H ?_;refine YP H ?_;rw[show decide ((a:Int) > (n:Int))=false from decide_eq_false (by omega)];refine XD H ?_;refine KD H ?_;refine XD H ?_;refine J3 H ?_;rw[show decide ((k:Int) > IntKind.i64.wrap ((n:Int) - (a:Int)))=false from decide_eq_false (by rw[Qb (by omega) (by omega)];omega)];refine V6 H ?_;exact .inl ⟨rfl,rfl,rfl,rfl,rfl,rfl,hclose _ _ _ _ H⟩
 ·clear H;rintro ms σ w ⟨rfl,g0,g1,g2,g3,H⟩;rw[Q1 g0,Q1 g1,Q1 g2,Q1 g3];refine J5 H ?_;refine GL H ?_;refine Ql (fun ms σ w q=>ms=[]∧∃ j:Nat,j≤k∧q=k - j∧σ 0=pp p∧σ 1 = .int .i64 a∧σ 2 = .int .i64 k∧σ 3 = .bool on∧σ 9 = .int .i64 ((a+j:Nat):Int)∧Q0 w (Z6 p n (XO x a j on)::fr)) (m:=k) ⟨rfl,0,by omega,rfl,rfl,rfl,rfl,rfl,rfl,H⟩ ?_;clear H;rintro ms σ w q ⟨rfl,j,hj,rfl,g0,g1,g2,g3,g9,H⟩;rw[Q1 g0,Q1 g1,Q1 g2,Q1 g3,Q1 g9];refine KI H ?_;rw[Qb (x:=(a:Int)+(k:Int)) (by omega) (by omega)];refine J6 H ?_;refine Qk rfl (fun h=>QB ?_) (fun h=>Qq ?_)
  ·have hlt:j < k:=by omega
   refine WA H ?_;refine Jc rfl rfl (Tl p n _ (a+j) on (hb.fill (by omega)) (by omega) H) ?_;clear H;intro v w H;refine WB H ?_;exact⟨_,⟨rfl,j+1,hlt,rfl,rfl,rfl,rfl,rfl,by rw[show ((a+(j+1):Nat):Int)=((a+j:Nat):Int)+1 by omega];exact Qc (i:=a+j) (by omega),H⟩,by omega⟩
  ·have hge:j=k:=by omega
   subst hge;refine VB H ?_;exact Q3 (Jy H rfl fun w' H'=>⟨rfl,H'⟩)
theorem Hr [Q4] (p n x i:Nat) (on:Bool) (hb:ZC n x) (hi:i < n) {w:World} {fr:List Q2} (H:Q0 w (Z6 p n x::fr)) :
  Calls Tryz.prog 151 #[pp p,.int .i64 i,.bool on] w (ret fun v w'=>v = .int .i64 0∧Q0 w' (Z6 p n (Yo x i on)::fr)):=by
 refine Q9 Tryz.func151 rfl (by kernel_rfl) ?_;refine WR H ?_;refine Jc rfl rfl (Ml p n x i 1 on hb (by omega) H) ?_;clear H;rintro v w ⟨rfl,H⟩;refine J0 H ?_;exact Q3 (Jy H rfl fun w' H'=>⟨rfl,H'⟩)
theorem Mm [Q4] (n:Nat) (h1:0 < n) (h2:n≤1048576) {w:World} {fr:List Q2} (H:Q0 w fr) :
  Calls Tryz.prog 144 #[.int .i64 n] w (ret fun v w'=>∃ p,v = .tuple #[pp p,.int .i64 0]∧Q0 w' (BM p n (List.replicate ((n+63) / 64) 0) 0::fr)):=by
 refine Q9 Tryz.func144 rfl (by kernel_rfl) ?_;refine J5 H ?_;refine Vq H ?_;rw[show decide ((n:Int) < 1)=false from decide_eq_false (by omega)];refine Zr H ?_;refine J0 H ?_;rw[show decide ((n:Int) > 1048576)=false from decide_eq_false (by omega)];refine V6 H ?_;refine Xu H ?_
 have e1:IntKind.i64.wrap (Int.tdiv (IntKind.i64.wrap ((n:Int)+63)) 64)=(((n+63) / 64:Nat):Int):=by
  rw[Qb (x:=(n:Int)+63) (by omega) (by omega),Int.tdiv_eq_ediv_of_nonneg (by omega),Qb (by omega) (by omega)];omega
 rw[e1];refine Q5 rfl (ZA H rfl rfl (by decide) (by omega) rfl ?_);clear H;intro b14 w H;refine XE H ?_;clear H;intro b16 w H;refine J3 H ?_
 have e:Y2 (Qz (.int .u64 0)) ((n+63) / 64)=Qa (List.replicate ((n+63) / 64) 0):=by
  rw[show Qz (.int .u64 0)=[.int .u64 0] from rfl,WY];simp[Qa]
 rw[e] at H;exact Q3 (Jy (CW H) rfl fun w' H'=>⟨_,rfl,H'⟩)
theorem Hs {y:Nat} (h0:y≠0) (h:y < 18446744073709551616):Lib.ctz 64 y < 64∧y.testBit (Lib.ctz 64 y)=true∧∀ i,i < Lib.ctz 64 y→y.testBit i=false:=by
 obtain⟨m,hm,hk⟩:=Lib.ctzFrom_spec 64 y (by omega) h;have e:Lib.ctz 64 y=Lib.ctzFrom 64 y:=by simp[Lib.ctz,h0]
 rw[e];generalize Lib.ctzFrom 64 y=k at hm hk;subst hm;refine⟨hk,?_,fun i hi=>?_⟩
 ·rw[Nat.testBit_eq_decide_div_mod_eq,Nat.mul_div_cancel_left _ (Nat.two_pow_pos k)];simp
 ·rw[Nat.testBit_eq_decide_div_mod_eq]
  have:2 ^ k*(2*m+1) / 2 ^ i=2*(2 ^ (k - i - 1)*(2*m+1)):=by
   have h2:2 ^ k=2 ^ i*(2*2 ^ (k - i - 1)):=by
    rw[← Nat.pow_succ',← Nat.pow_add];congr 1;omega
   rw[h2,Nat.mul_assoc,Nat.mul_div_cancel_left _ (Nat.two_pow_pos i),Nat.mul_assoc]
  rw[this];simp
theorem Ht [Q4] (x:Nat) (hx:x < 18446744073709551616) {w:World} {fr:List Q2} [hT:YX 0 Lib.deBruijn64tab fr] (H:Q0 w fr):Calls Tryz.prog 219 #[.int .u64 x] w (ret fun v w'=>v = .int .i64 (Lib.ctz 64 x)∧Q0 w' fr):=by
 refine(Any7.bits_TrailingZeros64 Tryz.laysTz x hx w (fun _=>hT.tab w H.1)).mono ?_;rintro e w' ⟨rfl,rfl⟩;exact⟨rfl,H⟩
theorem Tn {x i:Nat} (hx:x < 18446744073709551616):(18446744073709551615 - x).testBit i=(decide (i < 64) && !x.testBit i):=by
 have e:18446744073709551615 - x=2 ^ 64 - (x+1):=by omega
 rw[e,Nat.testBit_two_pow_sub_succ hx]
theorem Mn (x a i:Nat):(x / 2 ^ a).testBit i=x.testBit (a+i):=by
 rw[Nat.testBit_div_two_pow,Nat.add_comm]
def To (n x a:Nat) (v:Value):Prop:=
 (∃ j:Nat,v = .tuple #[.int .i64 j,.bool true]∧a≤j∧j < n∧x.testBit j=false∧∀ i,a≤i→i < j→x.testBit i=true)∨(v = .tuple #[.int .i64 0,.bool false]∧∀ i,a≤i→i < n→x.testBit i=true)
theorem Hu [Q4] (p n x a m:Nat) (hb:ZC n x) (ha:a≤n) {w:World} {fr:List Q2} [hT:YX 0 Lib.deBruijn64tab fr] (H:Q0 w (BM p n [x] m::fr)) :
  Calls Tryz.prog 150 #[pp p,.int .i64 a] w (ret fun v w'=>To n x a v∧Q0 w' (BM p n [x] m::fr)):=by
 have hle:=hb.le;have h64:=hb.lt64;refine Q9 Tryz.func150 rfl (by kernel_rfl) ?_;refine DT H ?_;refine AX H ?_;rw[show (if (0:Int) > (a:Int) then (0:Int) else (a:Int))=(a:Int) from if_neg (by omega)];refine YZ H ?_;refine Y6 (fun ms σ w=>ms=[]∧∃ j:Nat,σ 0=pp p∧σ 1 = .int .i64 j∧a≤j∧j≤64∧(∀ i,a≤i→i < j→x.testBit i=true)∧(j < n→x.testBit j=false)∧Q0 w (BM p n [x] m::fr)) ?_ ?_
 ·refine QP ?_;refine Ql (fun ms σ w q=>ms=[]∧q=0∧σ 0=pp p∧σ 1 = .int .i64 a∧Q0 w (BM p n [x] m::fr)) (m:=0) ⟨rfl,rfl,rfl,rfl,H⟩ ?_;clear H;rintro ms σ w q ⟨rfl,rfl,g0,g1,H⟩;rw[Q1 g0,Q1 g1];refine J9 H ?_;refine Jc rfl rfl (Hm p n _ _ H) ?_;clear H;rintro v w ⟨rfl,H⟩;refine YZ H ?_;refine Qk rfl (fun h=>QB ?_) (fun h=>Qq ?_)
  ·have hlt:a < n:=by omega
   have hq:(18446744073709551615 - x) / 2 ^ a < 18446744073709551616:=Nat.lt_of_le_of_lt (Nat.div_le_self _ _) (by omega);have hbit:∀ i,((18446744073709551615 - x) / 2 ^ a).testBit i=(decide (a+i < 64) && !x.testBit (a+i)):=fun i=>by rw[Mn,Tn h64]
   have hne:(18446744073709551615 - x) / 2 ^ a≠0:=fun e=>by
    have:=hbit (63 - a);rw[e,Nat.zero_testBit,show a+(63 - a)=63 by omega,Ho hb.lt hle] at this;simp at this
   obtain⟨c1,c2,c3⟩:=Hs hne hq;refine GL H ?_;obtain⟨b,cap,spare,H,hclose⟩:=Al H;refine GM H ?_;rw[CA (show a < 64 by omega)];refine Q5 rfl (GF rfl rfl (by decide) (by decide) rfl ?_);refine XC H ?_;refine Q5 rfl (T5 h64 rfl rfl ?_);refine YP H ?_;rw[Eo (show a < 64 by omega)]
   refine UD (v := .int .u64 (XX .u64 ((18446744073709551615 - x:Nat):Int) (a:Int))) (by
    show (if (a:Int) < 0 then none else some _)=_;rw[if_neg (by omega)]) rfl ?_
   rw[BL (k := .u64) (by omega) rfl];refine YA H ?_;generalize (18446744073709551615 - x) / 2 ^ a=y at *;rw[show ((y:Int) != 0)=true by simp;omega];refine VM H ?_;replace H:=hclose _ _ _ _ H;refine J9 H ?_;refine Jc rfl rfl (Ht y hq H) ?_;clear H;rintro v w ⟨rfl,H⟩;refine J3 H ?_;have hk:=hbit (Lib.ctz 64 y);rw[c2] at hk;simp at hk;refine Qq (.inl ⟨rfl,rfl,a+Lib.ctz 64 y,rfl,?_,by omega,by omega,fun i h1 h2=>?_,fun _=>by simpa using hk.2,H⟩)
   ·show Value.int .i64 (IntKind.i64.wrap ((a:Int)+(Lib.ctz 64 y:Nat)))=_;rw[Qb (by omega) (by omega)];congr 1
   ·have:=hbit (i - a);rw[c3 (i - a) (by omega),show a+(i - a)=i by omega] at this;simp at this;exact this (by omega)
  ·have hge:a=n:=by omega
   exact .inl ⟨rfl,rfl,a,rfl,rfl,by omega,by omega,fun i h1 h2=>by omega,fun h=>by omega,H⟩
 ·clear H;rintro ms σ w ⟨rfl,j,g0,g1,h1,h2,h3,h4,H⟩;rw[Q1 g0,Q1 g1];refine J9 H ?_;refine Jc rfl rfl (Hm p n _ _ H) ?_;clear H;rintro v w ⟨rfl,H⟩;refine YZ H ?_;refine Qk rfl (fun h=>?_) (fun h=>QB ?_)
  ·refine J5 H ?_;exact Q3 (Jy H rfl fun w' H'=>⟨.inr ⟨rfl,fun i h5 h6=>h3 i h5 (by omega)⟩,H'⟩)
  ·refine VX H ?_;exact Q3 (Jy H rfl fun w' H'=>⟨.inl ⟨j,rfl,h1,by omega,h4 (by omega),h3⟩,H'⟩)
theorem Hw [Q4] (p n x a m:Nat) (hb:ZC n x) (ha:a≤n) {w:World} {fr:List Q2} [hT:YX 0 Lib.deBruijn64tab fr] (H:Q0 w (BM p n [x] m::fr)) :
  Calls Tryz.prog 182 #[pp p,.int .i64 a] w (ret fun v w'=>(∃ e:Nat,v = .int .i64 e∧a≤e∧e≤n∧(∀ i,a≤i→i < e→x.testBit i=false)∧(e < n→x.testBit e=true))∧Q0 w' (BM p n [x] m::fr)):=by
 have hle:=hb.le;have h64:=hb.lt64;refine Q9 Tryz.func182 rfl (by kernel_rfl) ?_;refine J7 H ?_;refine Y6 (fun ms σ w=>ms=[]∧σ 0=pp p∧(∀ i,a≤i→i < n→x.testBit i=false)∧Q0 w (BM p n [x] m::fr)) ?_ ?_
 ·refine QP ?_
  refine Ql (fun ms σ w q=>ms=[]∧∃ j:Nat,(q=if j < n then 1 else 0)∧(j < n→j=a)∧σ 0=pp p∧σ 1 = .int .i64 j∧(j < n∨∀ i,a≤i→i < n→x.testBit i=false)∧Q0 w (BM p n [x] m::fr)) (m:=if a < n then 1 else 0) ⟨rfl,a,rfl,fun _=>rfl,rfl,rfl,by
   by_cases h:a < n
   ·exact .inl h
   ·exact .inr fun i h1 h2=>by omega,H⟩ ?_
  clear H;rintro ms σ w q ⟨rfl,j,rfl,hj,g0,g1,h5,H⟩;rw[Q1 g0,Q1 g1];obtain⟨b,cap,spare,H,hclose⟩:=Al H;refine AK H ?_;refine YZ H ?_;refine Qk rfl (fun h=>QB ?_) (fun h=>Qq ?_)
  ·have hlt:j < n:=by omega
   have:=hj hlt;subst this;have hq:x / 2 ^ j < 18446744073709551616:=Nat.lt_of_le_of_lt (Nat.div_le_self _ _) (by omega);have hbit:∀ i,(x / 2 ^ j).testBit i=x.testBit (j+i):=fun i=>by rw[Mn]
   refine GL H ?_;refine GM H ?_;rw[CA (show j < 64 by omega)];refine Q5 rfl (GF rfl rfl (by decide) (by decide) rfl ?_);refine XC H ?_;refine YP H ?_;rw[Eo (show j < 64 by omega)]
   refine UD (v := .int .u64 (XX .u64 (x:Int) (j:Int))) (by
    show (if (j:Int) < 0 then none else some _)=_;rw[if_neg (by omega)]) rfl ?_
   rw[BL (k := .u64) (by omega) rfl];refine YA H ?_;replace H:=hclose _ _ _ _ H;generalize x / 2 ^ j=y at *;refine J6 H ?_;by_cases hy:y=0
   ·rw[show ((y:Int) != 0)=false by simp[hy]];refine V6 H ?_;refine KI H ?_;refine⟨_,⟨rfl,64,rfl,fun h=>by omega,rfl,?_,.inr fun i h1 h2=>?_,H⟩,by rw[if_pos hlt,if_neg (by omega)];decide⟩
    ·show Value.int .i64 (IntKind.i64.wrap (IntKind.i64.wrap (IntKind.i64.wrap (Int.tdiv (j:Int) 64)+1)*64))=_;rw[CA (show j < 64 by omega)];rfl
    ·have:=hbit (i - j);rw[hy,Nat.zero_testBit,show j+(i - j)=i by omega] at this;exact this.symm
   ·rw[show ((y:Int) != 0)=true by simp;omega];refine VM H ?_;obtain⟨c1,c2,c3⟩:=Hs hy hq;refine J9 H ?_;refine Jc rfl rfl (Ht y hq H) ?_;clear H;rintro v w ⟨rfl,H⟩;refine J3 H ?_;have hk:=hbit (Lib.ctz 64 y);rw[c2] at hk
    have hn:j+Lib.ctz 64 y < n:=by
     rcases Nat.lt_or_ge (j+Lib.ctz 64 y) n with h|h
     ·exact h
     ·rw[Ho hb.lt h] at hk;cases hk
    refine Q3 (.inr ⟨by simp,Jy H rfl fun w' H'=>⟨⟨j+Lib.ctz 64 y,?_,by omega,by omega,fun i h1 h2=>?_,fun _=>hk.symm⟩,H'⟩⟩)
    ·show Value.int .i64 (IntKind.i64.wrap ((j:Int)+(Lib.ctz 64 y:Nat)))=_;rw[Qb (by omega) (by omega)];congr 1
    ·have:=hbit (i - j);rw[c3 (i - j) (by omega),show j+(i - j)=i by omega] at this;exact this.symm
  ·exact .inl ⟨rfl,rfl,rfl,by
    rcases h5 with h5|h5
    ·omega
    ·exact h5,hclose _ _ _ _ H⟩
 ·clear H;rintro ms σ w ⟨rfl,g0,h1,H⟩;rw[Q1 g0];obtain⟨b,cap,spare,H,hclose⟩:=Al H;refine Yd H ?_;refine J0 H ?_;exact Q3 (Jy (hclose _ _ _ _ H) rfl fun w' H'=>⟨⟨n,rfl,ha,Nat.le_refl _,h1,fun h=>by omega⟩,H'⟩)
def Tp (n x k:Nat) (v:Value):Prop:=
 (∃ a:Nat,v = .tuple #[.int .i64 a,.bool true]∧a+k≤n∧∀ i,a≤i→i < a+k→x.testBit i=false) ∨
 (v = .tuple #[.int .i64 0,.bool false]∧∀ a,a+k≤n→∃ i,a≤i∧i < a+k∧x.testBit i=true)
theorem Tq [Q4] (p n x k m:Nat) (hb:ZC n x) (hk:1≤k) (hk2:k < 1000000) {w:World} {fr:List Q2} [hT:YX 0 Lib.deBruijn64tab fr] (H:Q0 w (BM p n [x] m::fr)) :
  Calls Tryz.prog 212 #[pp p,.int .i64 k] w (ret fun v w'=>Tp n x k v∧Q0 w' (BM p n [x] m::fr)):=by
 have hle:=hb.le;refine Q9 Tryz.func212 rfl (by kernel_rfl) ?_;refine J5 H ?_;refine J5 H ?_;rw[show decide ((k:Int) < 1)=false from decide_eq_false (by omega)];refine AR H ?_;refine Jc rfl rfl (Hu p n x 0 m hb (by omega) H) ?_;clear H;rintro v w ⟨hF,H⟩
 have hI:∃ (j:Nat) (ok:Bool),v = .tuple #[.int .i64 j,.bool ok]∧(ok=true→j < n∧x.testBit j=false∧∀ a,a < j→a+k≤n→∃ i,a≤i∧i < a+k∧x.testBit i=true) ∧
   (ok=false→∀ a,a+k≤n→∃ i,a≤i∧i < a+k∧x.testBit i=true):=by
  rcases hF with ⟨j,rfl,_,h2,h3,h4⟩|⟨rfl,h2⟩
  ·exact⟨j,true,rfl,fun _=>⟨h2,h3,fun a ha _=>⟨a,Nat.le_refl _,by omega,h4 a (by omega) ha⟩⟩,fun h=>by cases h⟩
  ·exact⟨0,false,rfl,(fun h=>by cases h),fun _ a ha=>⟨a,Nat.le_refl _,by omega,h2 a (by omega) (by omega)⟩⟩
 obtain⟨j,ok,rfl,hok,hno⟩:=hI;refine WC H ?_;refine QP ?_
 refine Ql (fun ms σ w q=>ms=[]∧∃ (j:Nat) (ok:Bool),(q=if ok then n - j else 0)∧σ 0=pp p∧σ 1 = .int .i64 k∧σ 6 = .int .i64 j∧σ 7 = .bool ok∧(ok=true→j < n∧x.testBit j=false∧∀ a,a < j→a+k≤n→∃ i,a≤i∧i < a+k∧x.testBit i=true) ∧
   (ok=false→∀ a,a+k≤n→∃ i,a≤i∧i < a+k∧x.testBit i=true)∧Q0 w (BM p n [x] m::fr)) (m:=if ok then n - j else 0) ⟨rfl,j,ok,rfl,rfl,rfl,rfl,rfl,hok,hno,H⟩ ?_
 clear H hF hok hno;rintro ms σ w q ⟨rfl,j,ok,rfl,g0,g1,g6,g7,hok,hno,H⟩;rw[Q1 g0,Q1 g1,Q1 g6,Q1 g7];refine J7 H ?_;cases ok with
 | true=>
  obtain⟨h1,h2,h3⟩:=hok rfl;refine Xv H ?_;refine Xw H ?_;refine Jc rfl rfl (Hw p n x j m hb (by omega) H) ?_;clear H;rintro v w ⟨⟨e,rfl,e1,e2,e3,e4⟩,H⟩;refine J0 H ?_;refine KI H ?_;rw[Qb (x:=(e:Int) - (j:Int)) (by omega) (by omega)];refine J6 H ?_;refine Qk rfl (fun h=>?_) (fun h=>QB ?_)
  ·refine VX H ?_;exact Q3 (Jy H rfl fun w' H'=>⟨.inl ⟨j,rfl,by omega,fun i h5 h6=>e3 i h5 (by omega)⟩,H'⟩)
  ·have hej:j < e:=by
    rcases Nat.lt_or_ge j e with h|h
    ·exact h
    ·have:e=j:=by omega
     subst this;have:=e4 h1;rw[h2] at this;cases this
   have hF:∀ a,a≤e→a+k≤n→∃ i,a≤i∧i < a+k∧x.testBit i=true:=fun a ha hk'=>by
    rcases Nat.lt_or_ge a j with h'|h'
    ·exact h3 a h' hk'
    ·exact⟨e,ha,by omega,e4 (by omega)⟩
   refine J9 H ?_;refine Jc rfl rfl (Hu p n x e m hb (by omega) H) ?_;clear H;rintro v w ⟨hF2,H⟩
   rcases hF2 with ⟨j2,rfl,f1,f2,f3,f4⟩|⟨rfl,f2⟩
   ·refine HJ H ?_;refine⟨_,⟨rfl,j2,true,rfl,rfl,rfl,rfl,rfl,fun _=>⟨f2,f3,fun a ha hk'=>?_⟩,(fun h=>by cases h),H⟩,by simp;omega⟩
    rcases Nat.lt_or_ge e a with h'|h'
    ·exact⟨a,Nat.le_refl _,by omega,f4 a (by omega) ha⟩
    ·exact hF a h' hk'
   ·refine HJ H ?_;refine⟨_,⟨rfl,0,false,rfl,rfl,rfl,rfl,rfl,(fun h=>by cases h),fun _ a hk'=>?_,H⟩,by simp;omega⟩
    rcases Nat.lt_or_ge e a with h'|h'
    ·exact⟨a,Nat.le_refl _,by omega,f2 a (by omega) (by omega)⟩
    ·exact hF a h' hk'
 | false=>
  refine KJ H ?_;refine J5 H ?_;exact Q3 (Jy H rfl fun w' H'=>⟨.inr ⟨rfl,hno rfl⟩,H'⟩)
def QW (l:List Nat):List Value:=l.map fun x:Nat=>Value.int .i64 (x:Int)
theorem QH (l:List Nat):(QW l).length=l.length*1:=by simp[QW]
theorem WT (a b:List Nat):QW (a++b)=QW a++QW b:=by simp[QW]
theorem G8 {l:List Nat} {spare:List Value} {i x:Nat} (h:l[i]? = some x):(QW l++spare)[0+i*1]? = some (.int .i64 x):=by
 have hi:=(List.getElem?_eq_some_iff.1 h).1;rw[Nat.zero_add,Nat.mul_one,getElem?_append_left (by simpa [QW] using hi)];simp[QW,h]
theorem Er {l:List Nat} {spare:List Value} {i x:Nat} (h:i < l.length):(QW l++spare).set (0+i*1) (.int .i64 x)=QW (l.set i x)++spare:=by
 rw[Nat.zero_add,Nat.mul_one,set_append_left _ _ (by simpa [QW] using h)];simp[QW,map_set]
theorem Mo {l:List Nat} {spare:List Value} {i x:Nat} (h:i < l.length):(Qa l++spare).set (0+i*1) (.int .u64 x)=Qa (l.set i x)++spare:=by
 rw[Nat.zero_add,Nat.mul_one,set_append_left _ _ (by simpa [Qa] using h)];simp[Qa,map_set]
@[reducible] def NL (v:Value) (l:List Nat):Q2:=QC 3 1 v (QW l)
theorem Ri {a b:Nat} (h:a < 9223372036854775808):IntKind.i64.wrap (Int.tdiv (a:Int) (b:Int))=((a / b:Nat):Int):=by
 have hle:a / b≤a:=Nat.div_le_self _ _;rw[Int.tdiv_eq_ediv_of_nonneg (by omega),← Int.natCast_ediv];generalize a / b=q at hle;exact Qb (by omega) (by omega)
structure Rj (size:Nat) (mem own ws:List Nat) (many:Nat):Prop where
 s1:1≤size
 s2:size≤1024
 c1:1≤own.length
 c2:own.length≤1024
 len:mem.length=own.length*size
 many:many=(own.filter (· != 0)).length
 one:own.length≤63→∃ x,ws=[x]∧x < 2 ^ own.length∧∀ c,c < own.length→x.testBit c=decide (own.getD c 0≠0)
theorem Es:∀ (own:List Nat) (x:Nat),(∀ c,c < own.length→x.testBit c=decide (own.getD c 0≠0))→Ye own.length x=(own.filter (· != 0)).length
 | own,x,h=>by
  unfold Ye
  have e:(List.range own.length).filter (fun i=>x.testBit i)=(List.range own.length).filter (fun i=>own.getD i 0 != 0):=by
   apply filter_congr;intro i hi;rw[mem_range] at hi;show x.testBit i=(own.getD i 0 != 0);rw[h i hi];generalize own.getD i 0=z;cases z <;> simp
  rw[e];clear e h
  have:∀ (l:List Nat),((List.range l.length).filter (fun i=>l.getD i 0 != 0)).length=(l.filter (· != 0)).length:=by
   intro l
   have e2:l.filter (· != 0)=((List.range l.length).filter (fun i=>l.getD i 0 != 0)).map (fun i=>l.getD i 0):=by
    have e3:l=(List.range l.length).map (fun i=>l.getD i 0):=by
     apply ext_getElem?;intro i;by_cases hi:i < l.length
     ·rw[getElem?_map,getElem?_range hi,getElem?_eq_getElem hi];simp[hi]
     ·rw[getElem?_eq_none (by omega),getElem?_eq_none (by simp;omega)]
    conv=>lhs;rw[e3]
    rw[filter_map];rfl
   rw[e2,length_map]
  exact this own
def ST (p size:Nat) (mem own:List Nat):Q2:=ex fun q:Value×Value×Nat×List Nat×Nat=>
 star [prop (Rj size mem own q.2.2.2.1 q.2.2.2.2),pts p (row 141 [q.1,.int .i64 size,q.2.1,pp q.2.2.1]),UL q.1 mem,NL q.2.1 own,BM q.2.2.1 own.length q.2.2.2.1 q.2.2.2.2]
theorem UZ [Q4] {w:World} {p size:Nat} {mem own:List Nat} {l:List Q2} (H:Q0 w (ST p size mem own::l)):∃ v v2 u ws many,Rj size mem own ws many ∧
  Q0 w (pts p (row 141 [v,.int .i64 size,v2,pp u])::UL v mem::NL v2 own::BM u own.length ws many::l):=by
 obtain⟨⟨v,v2,u,ws,many⟩,H⟩:=Q0.ex.1 H;have H:=Q0.star.1 H;obtain⟨h,H⟩:=Q0.prop.1 H;exact⟨v,v2,u,ws,many,h,H⟩
theorem Gb [Q4] {w:World} {p size:Nat} {mem own:List Nat} {l:List Q2} {v v2:Value} {u:Nat} {ws:List Nat} {many:Nat} (h:Rj size mem own ws many)
  (H:Q0 w (pts p (row 141 [v,.int .i64 size,v2,pp u])::UL v mem::NL v2 own::BM u own.length ws many::l)):Q0 w (ST p size mem own::l):=
 Q0.ex.2 ⟨(v,v2,u,ws,many),Q0.star.2 (Q0.prop.2 ⟨h,H⟩)⟩
theorem Tr [Q4] (n size:Nat) (h1:1≤n) (h2:n≤1024) (h3:1≤size) (h4:size≤1024) {w:World} {fr:List Q2} (H:Q0 w fr) :
  Calls Tryz.prog 80 #[.int .i64 n,.int .i64 size] w (ret fun v w'=>∃ p,v = .tuple #[pp p,.int .i64 0]∧Q0 w' (ST p size (List.replicate (n*size) 0) (List.replicate n 0)::fr)):=by
 have hns:n*size≤1048576:=Nat.mul_le_mul h2 h4;refine Q9 Tryz.func80 rfl (by kernel_rfl) ?_;refine J5 H ?_;refine Vq H ?_;rw[show decide ((n:Int) < 1)=false from decide_eq_false (by omega)];refine Dg H ?_;rw[show decide ((n:Int) > 1024)=false from decide_eq_false (by omega)];refine Dg H ?_;rw[show decide ((size:Int) < 1)=false from decide_eq_false (by omega)];refine Zr H ?_;refine J0 H ?_;rw[show decide ((size:Int) > 1024)=false from decide_eq_false (by omega)];refine AR H ?_;refine Jc rfl rfl (Mm n (by omega) (by omega) H) ?_;clear H;rintro v w ⟨u,rfl,H⟩;refine Dd H ?_;clear H;intro w H;refine Ja 0 ?_;refine Ja 1 ?_;refine Ja 2 ?_;refine Us H ?_;refine Ja 7 ?_
 have e1:IntKind.i64.wrap ((n:Int)*(size:Int))=((n*size:Nat):Int):=by
  rw[← Int.natCast_mul,Qb (by omega) (by omega)]
 rw[e1]
 have hok:Rj size (List.replicate (n*size) 0) (List.replicate n 0) (List.replicate (((List.replicate n 0).length+63) / 64) 0) 0:=by
  refine⟨h3,h4,by simpa using h1,by simpa using h2,by simp,by simp,fun h=>⟨0,?_,Nat.two_pow_pos _,fun c hc=>?_⟩⟩
  ·have:((List.replicate n 0:List Nat).length+63) / 64=1:=by simp at h ⊢;omega
   rw[this];rfl
  ·have hc':c < n:=by simpa using hc
   simp[Nat.zero_testBit,hc']
 have z1:Y2 (Qz (.int .u64 0)) (n*size)=Qa (List.replicate (n*size) 0):=by
  rw[show Qz (.int .u64 0)=[.int .u64 0] from rfl,WY];simp[Qa]
 have z2:Y2 (Qz (.int .i64 0)) n=QW (List.replicate n 0):=by
  rw[show Qz (.int .i64 0)=[.int .i64 0] from rfl,WY];simp[QW]
 have hl:(List.replicate n 0:List Nat).length=n:=by simp
 rw[hl] at hok;refine Jw 3 6 H rfl rfl (ZA H rfl rfl (by decide) (by omega) rfl ?_) (ZA H rfl rfl (by decide) (by omega) rfl ?_)
 ·clear H;intro b30 w H;rw[z1] at H;refine Jo 6 H ?_;refine ZA H rfl rfl (by decide) (by omega) rfl ?_;clear H;intro b33 w H;rw[z2] at H;refine Zq 8 rfl (Q8.none rfl) rfl (by kernel_rfl) ?_;refine Jo 9 H ?_;refine A4 H rfl rfl ?_;clear H;intro b36 w H;refine Dh H ?_;replace H:=Js [0,1,0,0] 0 H;have H:=Gb (own:=List.replicate n 0) hok (by rw[hl];exact H);exact Q3 (Jy H rfl fun w' H'=>⟨_,rfl,H'⟩)
 ·clear H;intro b33 w H;rw[z2] at H;refine Jo 3 H ?_;refine ZA H rfl rfl (by decide) (by omega) rfl ?_;clear H;intro b30 w H;rw[z1] at H;refine Zq 8 rfl (Q8.none rfl) rfl (by kernel_rfl) ?_;refine Jo 9 H ?_;refine A4 H rfl rfl ?_;clear H;intro b36 w H;refine Dh H ?_;have H:=Gb (own:=List.replicate n 0) hok (by rw[hl];exact H);exact Q3 (Jy H rfl fun w' H'=>⟨_,rfl,H'⟩)
theorem Hx [Q4] (p size:Nat) (mem own:List Nat) {w:World} {fr:List Q2} (H:Q0 w (ST p size mem own::fr)):Calls Tryz.prog 16 #[pp p] w (ret fun v w'=>v = .int .i64 own.length∧Q0 w' (ST p size mem own::fr)):=by
 obtain⟨v,v2,u,ws,many,hok,H⟩:=UZ H;obtain⟨a2,c2,rfl⟩:=QF (H.drop.drop) (QH own) (by decide);refine Q9 Tryz.func16 rfl (by kernel_rfl) ?_;refine Xt H ?_;refine UN H ?_;exact Q3 (Jy (Gb hok H) rfl fun w' H'=>⟨rfl,H'⟩)
theorem CB [Q4] (p size:Nat) (mem own:List Nat) {w:World} {fr:List Q2} (H:Q0 w (ST p size mem own::fr)):Calls Tryz.prog 49 #[pp p] w (ret fun v w'=>v = .int .i64 size∧Q0 w' (ST p size mem own::fr)):=by
 obtain⟨v,v2,u,ws,many,hok,H⟩:=UZ H;refine Q9 Tryz.func49 rfl (by kernel_rfl) ?_;refine Xt H ?_;refine J0 H ?_;exact Q3 (Jy (Gb hok H) rfl fun w' H'=>⟨rfl,H'⟩)
theorem Mp [Q4] (p size:Nat) (mem own:List Nat) {w:World} {fr:List Q2} (H:Q0 w (ST p size mem own::fr)):Calls Tryz.prog 15 #[pp p] w (ret fun v w'=>v = .int .i64 ((own.length - (own.filter (· != 0)).length:Nat):Int)∧Q0 w' (ST p size mem own::fr)):=by
 obtain⟨v,v2,u,ws,many,hok,H⟩:=UZ H;obtain⟨a2,c2,rfl⟩:=QF (H.drop.drop) (QH own) (by decide);refine Q9 Tryz.func15 rfl (by kernel_rfl) ?_;refine Di H ?_;clear H;intro w H;refine XF H ?_;refine R9 4 rfl (Q8.none rfl) rfl (by kernel_rfl) ?_;refine Bm H ?_;refine Jl 8 [9] H ?_;replace H:=Js [3,0,0,0] 0 H;refine Jo 9 H ?_;refine Jk rfl rfl (Hn u _ _ _ H) ?_;clear H;rintro v w ⟨rfl,H⟩;refine Dh H ?_;replace H:=Js [1,1,1,0] 0 H;have hle:=length_filter_le (· != 0) own;have:=hok.many;have h2:=hok.c2;refine Q3 (Jy (Gb hok H) rfl fun w' H'=>⟨?_,H'⟩);show Value.int .i64 (IntKind.i64.wrap ((own.length:Int) - (many:Int)))=_;rw[Qb (by omega) (by omega)];congr 1;omega
theorem Hy [Q4] (p size:Nat) (mem own:List Nat) (c:Nat) {w:World} {fr:List Q2} (H:Q0 w (ST p size mem own::fr)) (hc:c < own.length):Calls Tryz.prog 48 #[pp p,.int .i64 c] w (ret fun v w'=>v = .int .i64 (own.getD c 0)∧Q0 w' (ST p size mem own::fr)):=by
 refine Q9 Tryz.func48 rfl (by kernel_rfl) ?_;refine WR H ?_;rw[show decide ((c:Int) < 0)=false from decide_eq_false (by omega)];refine Zr H ?_;refine QT rfl rfl rfl (V1 (a:=[]) (b:=[]) rfl rfl (call (Hx p size mem own H) ?_));clear H;rintro v w ⟨rfl,H⟩;refine Dj H ?_;rw[show decide ((c:Int)≥(own.length:Int))=false from decide_eq_false (by omega)];refine V6 H ?_;obtain⟨v,v2,u,ws,many,hok,H⟩:=UZ H;replace H:=Js [2,0,0,0] 0 H;obtain⟨a2,c2,rfl⟩:=QF H (QH own) (by decide);obtain⟨b,s,rfl,H,hclose⟩:=V5 H (by omega);have hx:=getElem?_eq_getElem hc;have hg:own.getD c 0=own[c]:=by simp[hc]
 rw[hg];generalize own[c]=x at hx;refine VQ H ?_;refine Jd ?_;refine Q5 rfl (QR H rfl (G8 hx) rfl ?_);refine J0 H ?_;replace H:=hclose _ _ H;replace H:=Js [1,1,0,0] 0 H;exact Q3 (Jy (Gb hok H) rfl fun w' H'=>⟨rfl,H'⟩)
def Gx (size:Nat) (own:List Nat) (a n:Nat):Prop:=∀ c,a / size≤c→c≤(a+n - 1) / size→own.getD c 0≠0
theorem Am [Q4] (p size:Nat) (mem own:List Nat) (a n:Nat) (h1:1≤n) (h2:a+n≤mem.length) (h3:Gx size own a n) {w:World} {fr:List Q2} (H:Q0 w (ST p size mem own::fr)) :
  Calls Tryz.prog 208 #[pp p,.int .i64 a,.int .i64 n] w (ret fun v w'=>v = .int .i64 0∧Q0 w' (ST p size mem own::fr)):=by
 obtain⟨v,v2,u,ws,many,hok,H⟩:=UZ H;have hok':=hok;obtain⟨s1,s2,c1,c2,hlen,_,_⟩:=hok';have hmem:mem.length≤1048576:=by rw[hlen];exact Nat.mul_le_mul c2 s2
 have hdiv:(a+n - 1) / size < own.length:=by
  rw[Nat.div_lt_iff_lt_mul (by omega),← hlen];omega
 have hdd:a / size≤(a+n - 1) / size:=Nat.div_le_div_right (by omega);obtain⟨a1,k1,rfl⟩:=QF (H.drop) (Z4 mem) (by decide);obtain⟨a2,k2,rfl⟩:=QF (H.drop.drop) (QH own) (by decide);refine Q9 Tryz.func208 rfl (by kernel_rfl) ?_;refine WR H ?_;rw[show decide ((n:Int) < 0)=false from decide_eq_false (by omega)];refine Dg H ?_;rw[show decide ((a:Int) < 0)=false from decide_eq_false (by omega)];refine Dk H ?_;refine YP H ?_;rw[show decide ((a:Int) > (mem.length:Int))=false from decide_eq_false (by omega)];refine XD H ?_;refine QT rfl rfl rfl (V8 rfl rfl ?_);refine QT rfl rfl rfl (QR H rfl rfl rfl ?_);refine QT rfl rfl rfl (ZO rfl rfl ?_);refine XD H ?_;refine J0 H ?_;rw[show decide ((n:Int) > IntKind.i64.wrap ((mem.length:Int) - (a:Int)))=false from decide_eq_false (by rw[Qb (by omega) (by omega)];omega)];refine WD H ?_;rw[show ((n:Int) == 0)=false by simp;omega];refine V6 H ?_;refine AK H ?_
 refine UD (v := .int .i64 ((a / size:Nat):Int)) (by
  show (if IntKind.i64=IntKind.i64 then (if (size:Int)=0 then none else some _) else none)=_;rw[if_pos rfl,if_neg (by omega),Ri (by omega)]) rfl ?_
 refine YZ H ?_;refine QP ?_;refine Ql (fun ms σ w q=>ms=[]∧∃ c:Nat,a / size≤c∧c≤(a+n - 1) / size+1∧q=(a+n - 1) / size+1 - c∧σ 0=pp p∧σ 1 = .int .i64 a∧σ 2 = .int .i64 n∧σ 7 = .int .i64 c∧Q0 w (pts p (row 141 [.slice a1 mem.length k1,.int .i64 size,.slice a2 own.length k2,pp u])::UL (.slice a1 mem.length k1) mem::NL (.slice a2 own.length k2) own::BM u own.length ws many::fr)) (m:=(a+n - 1) / size+1 - a / size) ⟨rfl,a / size,Nat.le_refl _,by omega,rfl,rfl,rfl,rfl,rfl,H⟩ ?_;clear H;rintro ms σ w q ⟨rfl,c,hc1,hc2,rfl,g0,g1,g2,g7,H⟩;rw[Q1 g0,Q1 g1,Q1 g2,Q1 g7];refine J9 H ?_;refine Bn H ?_;refine ZB H ?_;rw[Qb (x:=(a:Int)+(n:Int)) (by omega) (by omega),Qb (x:=(a:Int)+(n:Int) - 1) (by omega) (by omega),show (a:Int)+(n:Int) - 1=((a+n - 1:Nat):Int) by omega]
 refine UD (v := .int .i64 (((a+n - 1) / size:Nat):Int)) (by
  show (if IntKind.i64=IntKind.i64 then (if (size:Int)=0 then none else some _) else none)=_;rw[if_pos rfl,if_neg (by omega),Ri (by omega)]) rfl ?_
 refine YZ H ?_;refine Qk rfl (fun h=>QB ?_) (fun h=>Qq ?_)
 ·have hcl:c < own.length:=by omega
  have hx:=getElem?_eq_getElem hcl;have hne:(own.getD c 0:Nat)≠0:=h3 c hc1 (by omega);have hg:own.getD c 0=own[c]:=by simp[hcl]
  rw[hg] at hne;generalize own[c]=y at hx hne;replace H:=Js [2,0,0,0] 0 H;obtain⟨b,s,rfl,H,hclose⟩:=V5 H (by omega);refine AW H ?_;refine Jd ?_;refine Q5 rfl (QR H rfl (G8 hx) rfl ?_);refine J0 H ?_;rw[show ((y:Int) == 0)=false by simp;omega];refine V6 H ?_;replace H:=hclose _ _ H;replace H:=Js [1,1,0,0] 0 H;refine VX H ?_;exact⟨_,⟨rfl,c+1,by omega,by omega,rfl,rfl,rfl,rfl,Qc (by omega),H⟩,by omega⟩
 ·refine VB H ?_;exact Q3 (Jy (Gb hok H) rfl fun w' H'=>⟨rfl,H'⟩)
theorem Hz [Q4] (p size:Nat) (mem own:List Nat) (a:Nat) (h2:a < mem.length) (h3:Gx size own a 1) {w:World} {fr:List Q2} (H:Q0 w (ST p size mem own::fr)) :
  Calls Tryz.prog 180 #[pp p,.int .i64 a] w (ret fun v w'=>v = .tuple #[.int .u64 (mem.getD a 0),.int .i64 0]∧Q0 w' (ST p size mem own::fr)):=by
 refine Q9 Tryz.func180 rfl (by kernel_rfl) ?_;refine Dm H ?_;refine J9 H ?_;refine Jc rfl rfl (Am p size mem own a 1 (by decide) (by omega) h3 H) ?_;clear H;rintro v w ⟨rfl,H⟩;refine Yv H ?_;obtain⟨v,v2,u,ws,many,hok,H⟩:=UZ H;have H:=H.swap;obtain⟨a1,c1,rfl⟩:=QF H (Z4 mem) (by decide);obtain⟨b,s,rfl,H,hclose⟩:=V5 H (by omega);have hx:=getElem?_eq_getElem h2;have hg:mem.getD a 0=mem[a]:=by simp[h2]
 rw[hg];generalize mem[a]=x at hx;refine VQ H ?_;refine Jd ?_;refine Q5 rfl (QR H rfl (Hf hx) rfl ?_);refine J3 H ?_;exact Q3 (Jy (Gb hok (hclose _ _ H).swap) rfl fun w' H'=>⟨rfl,H'⟩)
theorem Rj.mem {size:Nat} {mem mem' own ws:List Nat} {many:Nat} (h:Rj size mem own ws many) (e:mem'.length=mem.length):Rj size mem' own ws many:=⟨h.s1,h.s2,h.c1,h.c2,e.trans h.len,h.many,h.one⟩
theorem Et [Q4] (p size:Nat) (mem own:List Nat) (a x:Nat) (h2:a < mem.length) (h3:Gx size own a 1) {w:World} {fr:List Q2} (H:Q0 w (ST p size mem own::fr)) :
  Calls Tryz.prog 125 #[pp p,.int .i64 a,.int .u64 x] w (ret fun v w'=>v = .int .i64 0∧Q0 w' (ST p size (mem.set a x) own::fr)):=by
 refine Q9 Tryz.func125 rfl (by kernel_rfl) ?_;refine Dn H ?_;refine Jc rfl rfl (Am p size mem own a 1 (by decide) (by omega) h3 H) ?_;clear H;rintro v w ⟨rfl,H⟩;refine YA H ?_;obtain⟨v,v2,u,ws,many,hok,H⟩:=UZ H;have H:=H.swap;obtain⟨a1,c1,rfl⟩:=QF H (Z4 mem) (by decide);obtain⟨b,s,rfl,H,_,_,hclose⟩:=Z3 H (by omega);refine J6 H ?_;refine Qo (fun ms σ w=>ms=[]∧σ 7 = .int .i64 0∧Q0 w (pts b (row 83 (Qa (mem.set a x)++s))::pts p (row 141 [.slice (some ⟨b,0,none⟩) mem.length c1,.int .i64 size,v2,pp u])::NL v2 own::BM u own.length ws many::fr)) ?_ ?_
 ·refine Vh rfl ?_;refine GM H ?_;refine Jd ?_;refine Q5 rfl (Yj H rfl rfl inferInstance rfl (by simp only[length_append,Z4];omega) rfl ?_);clear H;intro w H;rw[Mo (by omega)] at H;refine J2 H ?_;exact⟨rfl,rfl,rfl,H⟩
 ·clear H;rintro ms σ w ⟨rfl,g7,H⟩;rw[Q1 g7];refine J5 H ?_;exact Q3 (Jy (Gb (hok.mem (by simp)) (hclose _ _ _ (by simp[Qa]) H).swap) rfl fun w' H'=>⟨rfl,H'⟩)
theorem Ts [Q4] (p size:Nat) (mem own:List Nat) (a n:Nat) (h1:1≤n) (h2:a+n≤mem.length) (h3:Gx size own a n) {w:World} {fr:List Q2} (H:Q0 w (ST p size mem own::fr)) :
  Calls Tryz.prog 139 #[pp p,.int .i64 a,.int .i64 a,.int .i64 n] w (ret fun v w'=>v = .int .i64 0∧Q0 w' (ST p size mem own::fr)):=by
 refine Q9 Tryz.func139 rfl (by kernel_rfl) ?_;refine MP H ?_;refine Vq H ?_;refine Jc rfl rfl (Am p size mem own a n h1 h2 h3 H) ?_;clear H;rintro v w ⟨rfl,H⟩;refine AA H ?_;refine Jc rfl rfl (Am p size mem own a n h1 h2 h3 H) ?_;clear H;rintro v w ⟨rfl,H⟩;refine KE H ?_;refine Y6 (fun ms σ w=>ms=[]∧σ 0=pp p∧σ 1 = .int .i64 a∧σ 2 = .int .i64 a∧σ 3 = .int .i64 n∧Q0 w (ST p size mem own::fr)) ?_ ?_
 ·refine QP ?_;refine WE H ?_;refine KF H ?_;refine WE H ?_;refine WH H ?_;exact .inl ⟨rfl,rfl,rfl,rfl,rfl,rfl,H⟩
 ·clear H;rintro ms σ w ⟨rfl,g0,g1,g2,g3,H⟩;rw[Q1 g0,Q1 g1,Q1 g2,Q1 g3];obtain⟨v,v2,u,ws,many,hok,H⟩:=UZ H;have H:=H.swap;have hmem:mem.length≤1048576:=by rw[hok.len];exact Nat.mul_le_mul hok.c2 hok.s2
  obtain⟨a1,c1,rfl⟩:=QF H (Z4 mem) (by decide)
  rcases GH H with ⟨h,_⟩|⟨b,len,cap',s,h,e3,e4,e5,H⟩
  ·injection h with h4 h5 h6;omega
  injection h with h4 h5 h6
  subst h4 h5 h6
  have hrd:QV (Qa mem++s) (0+a*1) ((a+n - a)*1) (Qa ((mem.drop a).take n)):=by
   have e:(Qa ((mem.drop a).take n)).length=(a+n - a)*1:=by simp[Qa];omega
   rw[← e];refine QV.of_get fun j v hj=>?_;have hj':j < n:=by have:=(List.getElem?_eq_some_iff.1 hj).1;simp[Qa] at this;omega
   rw[getElem?_append_left (by simp[Qa];omega)];simp only[Qa,getElem?_map,getElem?_take_of_lt hj',getElem?_drop] at hj;simp only[Qa,getElem?_map,Nat.zero_add,Nat.mul_one];exact hj
  have hs1:(Qa ((mem.drop a).take n)).all (·.oneCell')=true:=all_eq_true.2 fun v hv=>by
   simp only[Qa,mem_map] at hv;obtain⟨x,_,rfl⟩:=hv;rfl
  refine J1 H ?_;clear H;intro w H;refine Y3 H ?_;refine Jl 3 [18] H ?_;refine Us H ?_;refine Ja 6 ?_;refine Ja 7 ?_;rw[Qb (x:=(a:Int)+(n:Int)) (by omega) (by omega),show (a:Int)+(n:Int)=((a+n:Nat):Int) by omega];refine Ba 8 rfl (Q8.none rfl) rfl rfl rfl (by omega) (by omega) (by omega) (by kernel_rfl) ?_;refine Bo H ?_;refine Jl 12 [18] H ?_;refine Ja 13 ?_;refine Ja 14 ?_;refine Ja 15 ?_;refine Ja 16 ?_;rw[Qb (x:=(a:Int)+(n:Int)) (by omega) (by omega),show (a:Int)+(n:Int)=((a+n:Nat):Int) by omega];refine Ba 17 rfl (Q8.none rfl) rfl rfl rfl (by omega) (by omega) (by omega) (by kernel_rfl) ?_;refine Jo 18 H ?_;refine T9 H rfl rfl hrd (by simp only[length_append,Z4];omega) hs1 rfl ?_;clear H;intro w H;refine Bp H ?_;exact Q3 (Jy (Gb hok (ZW e3 e4 e5 H).swap) rfl fun w' H'=>⟨rfl,H'⟩)
def VV (l:List Nat) (a n v:Nat):List Nat:=l.take a++List.replicate n v++l.drop (a+n)
theorem Vz {l:List Nat} {a n v:Nat} (h:a+n≤l.length):(VV l a n v).length=l.length:=by simp[VV];omega
theorem Zt {l:List Nat} {a n v:Nat} (h:a+n≤l.length) (i:Nat):(VV l a n v)[i]? = if a≤i∧i < a+n then some v else l[i]?:=by
 unfold VV;by_cases h1:i < a
 ·rw[if_neg (by omega),append_assoc,getElem?_append_left (by simp;omega),getElem?_take_of_lt h1]
 ·have e1:(l.take a).length=a:=by simp;omega
  rw[append_assoc,getElem?_append_right (by omega),e1];by_cases h2:i < a+n
  ·rw[if_pos (by omega),getElem?_append_left (by simp;omega),getElem?_replicate,if_pos (by omega)]
  ·rw[if_neg (by omega),getElem?_append_right (by simp;omega),getElem?_drop,length_replicate];congr 1;omega
theorem Rk {l:List Nat} {a n v:Nat} (h:a+n≤l.length) (i:Nat):(VV l a n v).getD i 0=if a≤i∧i < a+n then v else l.getD i 0:=by
 rw[getD_eq_getElem?_getD,Zt h];split
 ·rfl
 ·rw[getD_eq_getElem?_getD]
theorem Eu {l:List Nat} {a v:Nat}:VV l a 0 v=l:=by simp[VV]
theorem Mq {l:List Nat} {a n v:Nat} (h:a+n < l.length):(VV l a n v).set (a+n) v=VV l a (n+1) v:=by
 apply ext_getElem?;intro i;rw[getElem?_set,Zt (by omega),Zt (by omega),Vz (by omega)];by_cases h1:a+n=i
 ·subst h1;rw[if_pos rfl,if_pos (by omega),if_pos (by omega)]
 ·rw[if_neg h1];by_cases h2:a≤i∧i < a+n
  ·rw[if_pos h2,if_pos (by omega)]
  ·rw[if_neg h2,if_neg (by omega)]
theorem I0 {size:Nat} {mem own ws:List Nat} {many:Nat} (h:Rj size mem own ws many) (h63:own.length≤63):∃ x,ws=[x]∧ZC own.length x∧many=Ye own.length x∧∀ c,c < own.length→x.testBit c=decide (own.getD c 0≠0):=by
 obtain⟨x,h1,h2,h3⟩:=h.one h63;exact⟨x,h1,⟨h.c1,h63,h2⟩,by rw[Es own x h3];exact h.many,h3⟩
theorem Tt [Q4] (p size:Nat) (mem own:List Nat) (o n:Nat) (h63:own.length≤63) (ho:1≤o) (hn:1≤n) (hn2:n < 1000000) {w:World} {fr:List Q2} [hT:YX 0 Lib.deBruijn64tab fr] (H:Q0 w (ST p size mem own::fr)) :
  Calls Tryz.prog 134 #[pp p,.int .i64 o,.int .i64 n] w (ret fun v w'=>
   (∃ a:Nat,v = .tuple #[.int .i64 a,.int .i64 0]∧a+n≤own.length∧(∀ i,a≤i→i < a+n→own.getD i 0=0)∧Q0 w' (ST p size (VV mem (a*size) (n*size) 0) (VV own a n o)::fr)) ∨
   (v = .tuple #[.int .i64 0,.int .i64 11]∧(∀ a,a+n≤own.length→∃ i,a≤i∧i < a+n∧own.getD i 0≠0)∧Q0 w' (ST p size mem own::fr))):=by
 obtain⟨v,v2,u,ws,many,hok,H⟩:=UZ H;obtain⟨x,rfl,hb,rfl,hx⟩:=I0 hok h63;refine Q9 Tryz.func134 rfl (by kernel_rfl) ?_;refine Bq H ?_;refine Y6 (fun ms σ w=>ms=[]∧σ 0=pp p∧σ 1 = .int .i64 o∧σ 2 = .int .i64 n∧Q0 w (pts p (row 141 [v,.int .i64 size,v2,pp u])::UL v mem::NL v2 own::Z6 u own.length x::fr)) ?_ ?_
 ·refine RW H ?_;refine Vq H ?_;rw[show decide ((o:Int) < 1)=false from decide_eq_false (by omega)];refine Zr H ?_;refine J3 H ?_;rw[show decide ((n:Int) < 1)=false from decide_eq_false (by omega)];refine V6 H ?_;exact .inl ⟨rfl,rfl,rfl,rfl,rfl,H⟩
 ·clear H;rintro ms σ w ⟨rfl,g0,g1,g2,H⟩;rw[Q1 g0,Q1 g1,Q1 g2];refine VQ H ?_;replace H:=Js [3,0,0,0] 0 H;refine Jc rfl rfl (Tq u _ x n _ hb hn hn2 H) ?_;clear H;rintro r w ⟨hR,H⟩
  rcases hR with ⟨a,rfl,ha,hfree⟩|⟨rfl,hno⟩
  ·have hlen:=hok.len;have hs1:=hok.s1;have hs2:=hok.s2;have hmem:mem.length≤1048576:=by rw[hok.len];exact Nat.mul_le_mul hok.c2 hok.s2
   have hmul:(a+n)*size≤mem.length:=by rw[hlen];exact Nat.mul_le_mul_right _ ha
   have hmul2:(a+n)*size=a*size+n*size:=Nat.add_mul _ _ _;have hns:1*1≤n*size:=Nat.mul_le_mul hn hs1;refine G4 H ?_;refine GM H ?_;refine Jc rfl rfl (Ml u _ x a n true hb ha H) ?_;clear H;rintro v w ⟨rfl,H⟩;refine Uv H ?_;obtain⟨a2,c2,rfl⟩:=QF (H.drop.drop.drop) (QH own) (by decide);refine J6 H ?_;refine Y6 (fun ms σ w=>ms=[]∧σ 0=pp p∧σ 2 = .int .i64 n∧σ 8 = .int .i64 a∧Q0 w (NL (.slice a2 own.length c2) (VV own a n o)::pts p (row 141 [v,.int .i64 size,.slice a2 own.length c2,pp u])::UL v mem::Z6 u own.length (XO x a n true)::fr)) ?_ ?_
   ·refine QP ?_;replace H:=Js [3,1,1,0] 0 H;refine Ql (fun ms σ w q=>ms=[]∧∃ j:Nat,j≤n∧q=n - j∧σ 0=pp p∧σ 1 = .int .i64 o∧σ 2 = .int .i64 n∧σ 8 = .int .i64 a∧σ 10 = .int .i64 ((a+j:Nat):Int)∧Q0 w (NL (.slice a2 own.length c2) (VV own a j o)::pts p (row 141 [v,.int .i64 size,.slice a2 own.length c2,pp u])::UL v mem::Z6 u own.length (XO x a n true)::fr)) (m:=n) ⟨rfl,0,by omega,rfl,rfl,rfl,rfl,rfl,rfl,by rw[Eu];exact H⟩ ?_;clear H;rintro ms σ w q ⟨rfl,j,hj,rfl,g0,g1,g2,g8,g10,H⟩;rw[Q1 g0,Q1 g1,Q1 g2,Q1 g8,Q1 g10];refine KI H ?_;rw[Qb (x:=(a:Int)+(n:Int)) (by omega) (by omega)];refine J6 H ?_;refine Qk rfl (fun h=>QB ?_) (fun h=>Qq ?_)
    ·have hlt:j < n:=by omega
     have hsl:=Vz (l:=own) (a:=a) (n:=j) (v:=o) (by omega);obtain⟨b,s,rfl,H,_,_,hclose⟩:=Z3 H (by omega);refine GL H ?_;refine GM H ?_;refine Jd ?_;refine Q5 rfl (Yj H rfl rfl inferInstance rfl (by simp only[length_append,QH];omega) rfl ?_);clear H;intro w H;rw[Int.toNat_natCast,Er (by omega),Mq (by omega)] at H;replace H:=hclose _ _ _ (by rw[QH,QH,Vz (by omega),Vz (by omega)]) H;refine WB H ?_;exact⟨_,⟨rfl,j+1,hlt,rfl,rfl,rfl,rfl,rfl,by rw[show ((a+(j+1):Nat):Int)=((a+j:Nat):Int)+1 by omega];exact Qc (i:=a+j) (by omega),H⟩,by omega⟩
    ·have hge:j=n:=by omega
     subst hge;exact .inl ⟨rfl,rfl,rfl,rfl,rfl,H⟩
   ·clear H;rintro ms σ w ⟨rfl,g0,g2,g8,H⟩;rw[Q1 g0,Q1 g2,Q1 g8];replace H:=Js [2,1,0,0] 0 H;obtain⟨a1,c1,rfl⟩:=QF H (Z4 mem) (by decide);obtain⟨b,s,rfl,H,hcap,hsp,hclose⟩:=Z3 H (by omega);refine J1 H ?_;clear H;intro w H;refine Y3 H ?_;refine Jl 3 [19] H ?_;refine Dp H ?_;refine Jl 8 [19] H ?_;refine Dq H ?_;refine Ja 14 ?_;refine Jf 15 ?_;refine Jl 16 [19] H ?_;refine Ja 17 ?_;rw[Qb (x:=(a:Int)+(n:Int)) (by omega) (by omega),show ((a:Int)+(n:Int))*(size:Int)=(((a+n)*size:Nat):Int) by rw[Int.natCast_mul,Int.natCast_add],Qb (x:=(((a+n)*size:Nat):Int)) (by omega) (by omega),← Int.natCast_mul,Qb (x:=((a*size:Nat):Int)) (by omega) (by omega)];refine Ba 18 rfl (Q8.none rfl) rfl rfl rfl (by omega) (by omega) (by omega) (by kernel_rfl) ?_
    have hz:Y2 (Qz (.int .u64 0)) ((a+n)*size - a*size)=Qa (List.replicate (n*size) 0):=by
     rw[show Qz (.int .u64 0)=[.int .u64 0] from rfl,WY,show (a+n)*size - a*size=n*size by omega];simp[Qa]
    refine Jo 19 H ?_;refine Ss H rfl (by omega) (by rw[hz];simp only[length_append,Z4,length_replicate];omega) rfl rfl ?_;clear H;intro w H;rw[hz] at H
    have hw:wr (Qa mem++s) (0+a*size*1) (Qa (List.replicate (n*size) 0))=Qa (VV mem (a*size) (n*size) 0)++s:=by
     rw[DN _ _ _ (by simp[Qa];omega)];rw[take_append_of_le_length (by simp[Qa];omega),drop_append_of_le_length (by simp[Qa];omega)];simp only[Nat.zero_add,Nat.mul_one,Qa,VV,map_append,map_take,map_drop,length_map,length_replicate,append_assoc]
    rw[hw] at H;replace H:=hclose _ _ _ (by simp[Qa,Vz (show a*size+n*size≤mem.length by omega)]) H;refine Jx H ?_;refine VX H ?_;replace H:=Js [1,0,0,0] 0 H;have hsl:=Vz (l:=own) (v:=o) ha
    have hx':∀ c,c < (VV own a n o).length→(XO x a n true).testBit c=decide ((VV own a n o).getD c 0≠0):=by
     intro c hc;rw[Mk,Rk ha];split
     ·simp;omega
     ·exact hx c (by omega)
    have hbf:=hb.fill (a:=a) (k:=n) (on:=true) ha;refine Q3 (Jy (Gb (own:=VV own a n o) (ws:=[XO x a n true]) (many:=Ye own.length (XO x a n true)) ⟨hs1,hs2,by rw[hsl];exact hok.c1,by rw[hsl];exact hok.c2,by rw[Vz (by omega),hsl,hlen],?_,fun _=>⟨_,rfl,by rw[hsl];exact hbf.lt,hx'⟩⟩ (by rw[hsl];exact H)) rfl fun w' H' => .inl ⟨a,rfl,ha,fun i h1 h2=>?_,H'⟩)
    ·rw[← hsl];exact Es _ _ hx'
    ·have:=hx i (by omega);rw[hfree i h1 h2] at this;simpa using this.symm
  ·refine Br H ?_;refine Yn H ?_;replace H:=Js [1,1,1,0] 0 H;refine Q3 (Jy (Gb hok H) rfl fun w' H' => .inr ⟨rfl,fun a ha=>?_,H'⟩);obtain⟨i,h1,h2,h3⟩:=hno a ha;refine⟨i,h1,h2,?_⟩;have:=hx i (by omega);rw[h3] at this;simpa using this.symm
def Ve (w k:Nat):List Nat:=(List.range k).filter fun i=>w.testBit i
theorem Ev (w k:Nat):Ve w (k+1)=Ve w k++if w.testBit k then [k] else []:=by
 unfold Ve;rw[range_succ,filter_append];congr 1;by_cases h:w.testBit k <;> simp[h]
theorem I1 {w k:Nat}:∀ {t:Nat},k≤t→(∀ i,k≤i→i < t→w.testBit i=false)→Ve w t=Ve w k
 | 0,h,_=>by rw[show k=0 by omega]
 | t+1,h,hh=>by
  by_cases hk:k=t+1
  ·rw[hk]
  ·rw[Ev,hh t (by omega) (by omega),I1 (t:=t) (by omega) (fun i h1 h2=>hh i h1 (by omega))];simp
theorem Ao (w k:Nat):(Ve w k).length≤k:=by
 have:=length_filter_le (fun i=>w.testBit i) (List.range k);simpa [Ve] using this
theorem Tu {x t:Nat} (ht:x.testBit t=true) (hl:∀ i,i < t→x.testBit i=false):x=2 ^ (t+1)*(x / 2 ^ (t+1))+2 ^ t:=by
 have e:x % 2 ^ (t+1)=2 ^ t:=by
  apply Nat.eq_of_testBit_eq;intro j;rw[Nat.testBit_mod_two_pow,Nat.testBit_two_pow];by_cases h1:j < t
  ·rw[hl j h1];simp;omega
  ·by_cases h2:j=t
   ·subst h2;simp[ht]
   ·have:¬ j < t+1:=by omega
    simp[this];omega
 have:=Nat.div_add_mod x (2 ^ (t+1));omega
theorem Tv {x t:Nat} (ht:x.testBit t=true) (hl:∀ i,i < t→x.testBit i=false) (j:Nat):(x &&& (x - 1)).testBit j=(x.testBit j && decide (j≠t)):=by
 have e:=Tu ht hl;have hp:0 < 2 ^ t:=Nat.two_pow_pos t;have hlt:2 ^ t - 1 < 2 ^ (t+1):=by rw[Nat.pow_succ];omega
 have e1:x - 1=2 ^ (t+1)*(x / 2 ^ (t+1))+(2 ^ t - 1):=by omega
 rw[Nat.testBit_and,e1,Nat.testBit_two_pow_mul_add _ hlt,Nat.testBit_two_pow_sub_one];by_cases h1:j < t
 ·rw[hl j h1];simp
 ·by_cases h2:j=t
  ·subst h2;simp
  ·rw[if_neg (by omega),Nat.testBit_div_two_pow,show j - (t+1)+(t+1)=j by omega];simp[h2]
def X0 (l:List Nat) (size:Nat):Prop:=(∀ p∈l,p < size)∧l.Pairwise (· < ·)
instance (l:List Nat) (size:Nat):Decidable (X0 l size):=inferInstanceAs (Decidable (_∧_))
theorem Mr {l:List Nat} {x:Nat} (h:l.Pairwise (· < ·)) (hx:∀ y,l.getLast? = some y→y < x):(l++[x]).Pairwise (· < ·):=by
 rw[pairwise_append];refine⟨h,by simp,fun a ha b hb=>?_⟩;simp at hb;subst hb
 obtain⟨y,hy⟩:∃ y,l.getLast? = some y:=by
  cases l with
  | nil=>cases ha
  | cons c l=>exact⟨_,getLast?_eq_some_getLast (by simp)⟩
 have h1:=hx y hy
 have h2:a≤y:=by
  obtain⟨l',rfl⟩:=getLast?_eq_some_iff.1 hy;rw[pairwise_append] at h;simp at ha
  rcases ha with ha|rfl
  ·exact Nat.le_of_lt (h.2.2 a ha y (by simp))
  ·exact Nat.le_refl _
 omega
structure QM where
 fixed:Nat
 refs:List Nat
 record:Nat
 recs:List Nat
def Vf (l:QM):Prop:=l.fixed≤64∧l.record≤64∧l.fixed+l.record≠0∧X0 l.refs l.fixed∧X0 l.recs l.record
instance (l:QM):Decidable (Vf l):=inferInstanceAs (Decidable (_∧_))
def VG (l:QM) (count:Int):Nat×Nat:=
 if count < 0∨count > 1024∨(count > 0∧l.record=0) then (0,3)
 else if l.fixed+count.toNat*l.record≥8192 then (0,10) else (l.fixed+count.toNat*l.record,0)
def VU (l:QM) (p:Nat):Bool:=if p < l.fixed then decide (p∈l.refs) else decide ((p - l.fixed) % l.record∈l.recs)
def Rl (a b c:Nat):QM:=⟨a % 256,Ve b 64,a / 256,Ve c 64⟩
def ZD (ws:List Nat):Option QM:=
 match ws with
 | [a,b,c]=>if a < 65536∧Vf (Rl a b c) then some (Rl a b c) else none
 | _=>none
theorem Tw {ws:List Nat} {l:QM} (h:ZD ws=some l):Vf l:=by
 unfold ZD at h;split at h
 ·split at h
  ·rename_i h1;cases h;exact h1.2
  ·cases h
 ·cases h
theorem I2 {l:QM} {c:Int} {n:Nat} (h:VG l c=(n,0)):0≤c∧c≤1024∧n=l.fixed+c.toNat*l.record∧n < 8192∧(c > 0→l.record≠0):=by
 unfold VG at h;split at h
 ·cases h
 ·split at h
  ·cases h
  ·rename_i h1 h2;injection h with h3 h4
   omega
theorem Ms [Q4] (v:Value) (l:List Nat) (size:Nat) (hl:l.length≤1000000) {w:World} {fr:List Q2} (hr:Vu fr v l.length 1 (QW l)) (H:Q0 w fr) :
  Calls Tryz.prog 220 #[v,.int .i64 size] w (ret fun x w'=>(∃ b,x = .bool b∧(b=true↔X0 l size))∧Q0 w' fr):=by
 obtain⟨_,ad,cap,rfl,hr⟩:=hr;refine Q9 Tryz.func220 rfl (by kernel_rfl) ?_;refine A9 H ?_;refine Ql (fun ms σ w q=>ms=[]∧∃ i:Nat,i≤l.length∧q=l.length - i∧X0 (l.take i) size∧σ 0 = .slice ad l.length cap∧σ 1 = .int .i64 size∧σ 7 = .slice ad l.length cap∧σ 8 = .int .i64 l.length∧σ 9 = .int .i64 i∧Q0 w fr) (m:=l.length) ⟨rfl,0,by omega,rfl,⟨by simp,by simp⟩,rfl,rfl,rfl,rfl,rfl,H⟩ ?_;clear H;rintro ms σ w q ⟨rfl,i,hi,rfl,hR,g0,g1,g7,g8,g9,H⟩;rw[Q1 g0,Q1 g1,Q1 g7,Q1 g8,Q1 g9];refine J7 H ?_;refine Qk rfl (fun h=>QB ?_) (fun h=>Qq ?_)
 ·have hlt:i < l.length:=by omega
  have hx:=getElem?_eq_getElem hlt;have htk:l.take (i+1)=l.take i++[l[i]]:=by rw[take_add_one,hx];rfl
  have hmem:l[i]∈l:=getElem_mem hlt;generalize l[i]=x at hx htk hmem
  rcases hr with hr|⟨b,o,E,fz,c,rfl,hA,hrd⟩
  ·omega
  haveI:=hA
  have hcell:c[o+i*1]? = some (.int .i64 x):=by
   rw[Nat.mul_one];exact hrd.get i _ (by simp[QW,hx])
  refine Bf H ?_;refine Jd ?_;refine Q5 rfl (QR H rfl hcell rfl ?_);refine J3 H ?_;refine Vq H ?_;rw[show decide ((x:Int) < 0)=false from decide_eq_false (by omega)];refine XD H ?_;refine Jv ?_;by_cases hxs:x < size
  ·rw[show decide ((x:Int)≥(size:Int))=false from decide_eq_false (by omega)];refine Uu H ?_;by_cases hi0:0 < i
   ·rw[show decide ((i:Int) > 0)=true from decide_eq_true (by omega)];refine Zr H ?_;refine XD H ?_;rw[Qb (x:=(i:Int) - 1) (by omega) (by omega),show (i:Int) - 1=((i - 1:Nat):Int) by omega];have hy:=getElem?_eq_getElem (l:=l) (i:=i - 1) (by omega)
    have hlast:(l.take i).getLast? = some l[i - 1]:=by
     rw[getLast?_eq_getElem?,length_take,Nat.min_eq_left hi,getElem?_take_of_lt (by omega),hy]
    have hpw:l.Pairwise (· < ·)→l[i - 1] < x:=fun hp=>by
     have:=pairwise_iff_getElem.1 hp (i - 1) i (by omega) hlt (by omega)
     have e:l[i]=x:=by
      have:=getElem?_eq_getElem hlt;rw[hx] at this;exact(Option.some.inj this).symm
     omega
    generalize l[i - 1]'(by omega)=y at hy hlast hpw
    have hcell2:c[o+(i - 1)*1]? = some (.int .i64 y):=by
     rw[Nat.mul_one];exact hrd.get (i - 1) _ (by simp[QW,hy])
    refine QT rfl rfl rfl (GF rfl rfl (by omega) (by omega) rfl ?_);refine QT rfl rfl rfl (QR H rfl hcell2 rfl ?_);refine Zr H ?_;refine YZ H ?_;refine Qk rfl (fun h=>?_) (fun h=>QB ?_)
    ·refine VB H ?_
     exact Q3 (Jy H rfl fun w' H'=>⟨⟨false,rfl,by
      constructor
      ·intro h';cases h'
      ·rintro⟨_,h2⟩;have:=hpw h2;omega⟩,H'⟩)
    ·refine J5 H ?_;refine⟨_,⟨rfl,i+1,hlt,rfl,?_,rfl,rfl,rfl,rfl,Qc (by omega),H⟩,by omega⟩;rw[htk];refine⟨fun p hp=>?_,Mr hR.2 fun z hz=>?_⟩
     ·simp at hp
      rcases hp with hp|rfl
      ·exact hR.1 p hp
      ·exact hxs
     ·rw[hlast] at hz;cases hz;omega
   ·have hi00:i=0:=by omega
    subst hi00;rw[show decide (((0:Nat):Int) > 0)=false from rfl];refine Ym H ?_;refine Bs H ?_;refine Xr H ?_;refine J5 H ?_;refine⟨_,⟨rfl,1,hlt,rfl,?_,rfl,rfl,rfl,rfl,Qc (i:=0) (by omega),H⟩,by omega⟩;rw[htk];exact⟨by simpa using hxs,by simp⟩
  ·rw[show decide ((x:Int)≥(size:Int))=true from decide_eq_true (by omega)];refine Dr H ?_;refine RH H ?_;refine RH H ?_;refine Dt H ?_;refine UO H ?_
   exact Q3 (Jy H rfl fun w' H'=>⟨⟨false,rfl,by
    constructor
    ·intro h';cases h'
    ·rintro⟨h1,_⟩;have:=h1 x hmem;omega⟩,H'⟩)
 ·have hge:i=l.length:=by omega
  subst hge;rw[take_length] at hR;refine VB H ?_;exact Q3 (Jy H rfl fun w' H'=>⟨⟨true,rfl,by simp[hR]⟩,H'⟩)
@[reducible] def Yy (f:Nat) (vr:Value) (r:Nat) (vq:Value):Value := .agg #[.int .i64 f,vr,.int .i64 r,vq]
structure Ub (fr:List Q2) (vr vq:Value) (l:QM):Prop where
 r:Vu fr vr l.refs.length 1 (QW l.refs)
 q:Vu fr vq l.recs.length 1 (QW l.recs)
theorem Ub.there {A:Q2} {fr:List Q2} {vr vq:Value} {l:QM} (h:Ub fr vr vq l):Ub (A::fr) vr vq l:=⟨h.r.there,h.q.there⟩
structure Ew (l:QM):Prop where
 f:l.fixed≤1000000
 r:l.record≤1000000
 a:l.refs.length≤1000000
 b:l.recs.length≤1000000
theorem I3 [Q4] (vr vq:Value) (l:QM) (hs:Ew l) {w:World} {fr:List Q2} (hr:Ub fr vr vq l) (H:Q0 w fr) :
  Calls Tryz.prog 148 #[Yy l.fixed vr l.record vq] w (ret fun x w'=>(∃ b,x = .bool b∧(b=true↔Vf l))∧Q0 w' fr):=by
 obtain⟨s1,s2,s3,s4⟩:=hs;obtain⟨hr1,hr2⟩:=hr;obtain⟨_,ad1,cap1,rfl,hr1'⟩:=id hr1;obtain⟨_,ad2,cap2,rfl,hr2'⟩:=id hr2;refine Q9 Tryz.func148 rfl (by kernel_rfl) ?_;refine J8 H ?_;clear H;intro b1 w H;refine YZ H ?_;refine Y6 (fun ms σ w=>ms=[]∧(l.fixed≤64∧l.record≤64∧l.fixed+l.record≠0)∧σ 1=pp b1∧Q0 w (pts b1 (row 102 [.int .i64 l.fixed,.slice ad1 l.refs.length cap1,.int .i64 l.record,.slice ad2 l.recs.length cap2])::fr)) ?_ ?_
 ·refine QP ?_;refine Xq H ?_;rw[show decide ((l.fixed:Int) < 0)=false from decide_eq_false (by omega)];refine A8 H ?_;by_cases h1:l.fixed≤64
  ·rw[show decide ((l.fixed:Int) > 64)=false from decide_eq_false (by omega)];refine KF H ?_;refine Xq H ?_;rw[show decide ((l.record:Int) < 0)=false from decide_eq_false (by omega)];refine A8 H ?_;by_cases h2:l.record≤64
   ·rw[show decide ((l.record:Int) > 64)=false from decide_eq_false (by omega)];refine KF H ?_;refine AB H ?_;refine WI H ?_;refine J0 H ?_;rw[Qb (x:=(l.fixed:Int)+(l.record:Int)) (by omega) (by omega)];by_cases h3:l.fixed+l.record=0
    ·rw[show (((l.fixed:Int)+(l.record:Int)) == 0)=true by simp;omega];refine YD H ?_;exact Q3 (.inr ⟨by simp,Jy H.drop rfl fun w' H'=>⟨⟨false,rfl,⟨fun h=>(by cases h),fun h=>by unfold Vf at h;omega⟩⟩,H'⟩⟩)
    ·rw[show (((l.fixed:Int)+(l.record:Int)) == 0)=false by simp;omega];refine V6 H ?_;exact .inl ⟨rfl,rfl,⟨h1,h2,h3⟩,rfl,H⟩
   ·rw[show decide ((l.record:Int) > 64)=true from decide_eq_true (by omega)];refine KE H ?_;refine Xv H ?_;refine YD H ?_;exact Q3 (.inr ⟨by simp,Jy H.drop rfl fun w' H'=>⟨⟨false,rfl,⟨fun h=>(by cases h),fun h=>by unfold Vf at h;omega⟩⟩,H'⟩⟩)
  ·rw[show decide ((l.fixed:Int) > 64)=true from decide_eq_true (by omega)];refine KE H ?_;refine Xv H ?_;refine YD H ?_;exact Q3 (.inr ⟨by simp,Jy H.drop rfl fun w' H'=>⟨⟨false,rfl,⟨fun h=>(by cases h),fun h=>by unfold Vf at h;omega⟩⟩,H'⟩⟩)
 ·clear H;rintro ms σ w ⟨rfl,⟨h1,h2,h3⟩,g1,H⟩;rw[Q1 g1];refine Du H ?_;refine Jc rfl rfl (Ms _ l.refs l.fixed s3 hr1.there H) ?_;clear H;rintro v w ⟨⟨b,rfl,hb⟩,H⟩;refine Jv ?_;cases b with
  | true=>
   refine KD H ?_;refine KD H ?_;refine QT rfl rfl rfl (V1 (a:=[]) (b:=[]) rfl rfl (call (Ms _ l.recs l.record s4 hr2.there H) ?_));clear H;rintro v w ⟨⟨b,rfl,hb2⟩,H⟩;refine J3 H ?_;refine Q3 (Jy H.drop rfl fun w' H'=>⟨⟨b,rfl,?_⟩,H'⟩);rw[hb2];exact⟨fun h=>⟨h1,h2,h3,hb.1 rfl,h⟩,fun h=>h.2.2.2.2⟩
  | false=>
   refine Bt H ?_;refine J3 H ?_;refine Q3 (Jy H.drop rfl fun w' H'=>⟨⟨false,rfl,⟨fun h=>(by cases h),fun h=>?_⟩⟩,H'⟩);have:=hb.2 h.2.2.2.1;cases this
theorem Kh:∀ (l:List Nat) (lo size:Nat),(∀ p∈l,lo≤p∧p < size)→l.Pairwise (· < ·)→l.length≤size - lo
 | [],_,_,_,_=>Nat.zero_le _
 | a::l,lo,size,h,hp=>by
  rw[pairwise_cons] at hp;have h1:=Kh l (a+1) size (fun p hx=>⟨hp.1 p hx,(h p (mem_cons_of_mem _ hx)).2⟩) hp.2;have h2:=h a (mem_cons_self ..);simp only[length_cons];omega
theorem X0.len {l:List Nat} {n:Nat} (h:X0 l n):l.length≤n:=by
 have:=Kh l 0 n (fun p hp=>⟨Nat.zero_le _,h.1 p hp⟩) h.2;omega
theorem Vf.small {l:QM} (h:Vf l):Ew l:=by
 obtain⟨h1,h2,_,h4,h5⟩:=h;have:=h4.len;have:=h5.len;exact⟨by omega,by omega,by omega,by omega⟩
def Xz:List Fl:=[(0,8),(8,8),(16,48)]
theorem Tx:Rg Xz:=by
 refine⟨?_,?_⟩
 ·intro f hf;simp[Xz] at hf
  rcases hf with rfl|rfl|rfl <;> simp[Re]
 ·simp[Xz]
theorem Tz [Q4] {w:World} {fr:List Q2} (H:Q0 w fr):Calls Tryz.prog 146 #[] w (ret fun v w'=>Q0 w' (FL v Xz::fr)):=by
 refine Q9 Tryz.func146 rfl (by kernel_rfl) ?_;refine Db H ?_;refine XB H ?_;refine Bg H ?_;clear H;intro b4 w H;refine J0 H ?_;exact Q3 (Jy (Ur (len:=3) (by rfl) H) rfl fun w' H'=>H')
theorem CC [Q4] (vr vq:Value) (l:QM) (hR:Vf l) (count:Int) {w:World} {fr:List Q2} (hr:Ub fr vr vq l) (H:Q0 w fr) :
  Calls Tryz.prog 89 #[Yy l.fixed vr l.record vq,.int .i64 count] w (ret fun x w'=>x = .tuple #[.int .i64 ((VG l count).1:Nat),.int .i64 ((VG l count).2:Nat)]∧Q0 w' fr):=by
 have hf:=hR.1;have hc:=hR.2.1;obtain⟨_,ad1,cap1,rfl,hr1⟩:=id hr.r;obtain⟨_,ad2,cap2,rfl,hr2⟩:=id hr.q;refine Q9 Tryz.func89 rfl (by kernel_rfl) ?_;refine J8 H ?_;clear H;intro b2 w H;refine KE H ?_;refine Y6 (fun ms σ w=>ms=[]∧(0≤count∧count≤1024∧(count > 0→l.record≠0))∧σ 1 = .int .i64 count∧σ 2=pp b2∧Q0 w (pts b2 (row 102 [.int .i64 l.fixed,.slice ad1 l.refs.length cap1,.int .i64 l.record,.slice ad2 l.recs.length cap2])::fr)) ?_ ?_
 ·refine QP ?_;refine GJ H ?_;refine Jc rfl rfl (I3 _ _ l hR.small hr.there H) ?_;clear H;rintro v w ⟨⟨b,rfl,hb⟩,H⟩;obtain rfl:=hb.2 hR;refine KF H ?_;refine Vq H ?_;by_cases c0:count < 0
  ·have hs:VG l count=(0,3):=by unfold VG;rw[if_pos (by omega)]
   rw[show decide (count < 0)=true from decide_eq_true (by omega)];refine Bu H ?_;refine Dv H ?_;refine Dw H ?_;refine Yn H ?_;exact Q3 (.inr ⟨by simp,Jy H.drop rfl fun w' H'=>⟨by rw[hs];rfl,H'⟩⟩)
  ·rw[show decide (count < 0)=false from decide_eq_false (by omega)];refine Zr H ?_;by_cases c1:count > 1024
   ·have hs:VG l count=(0,3):=by unfold VG;rw[if_pos (by omega)]
    rw[show decide (count > 1024)=true from decide_eq_true (by omega)];refine Dv H ?_;refine Dw H ?_;refine Yn H ?_;exact Q3 (.inr ⟨by simp,Jy H.drop rfl fun w' H'=>⟨by rw[hs];rfl,H'⟩⟩)
   ·rw[show decide (count > 1024)=false from decide_eq_false (by omega)];refine Jv ?_;refine Jv ?_;refine V2 rfl rfl rfl rfl ?_;refine V2 rfl rfl rfl rfl ?_;by_cases c2:count > 0
    ·rw[show decide (count > 0)=true from decide_eq_true (by omega)];refine Bv H ?_;by_cases c3:l.record=0
     ·have hs:VG l count=(0,3):=by unfold VG;rw[if_pos (by omega)]
      rw[show ((l.record:Int) == 0)=true by simp;omega];refine Xs H ?_;refine Yn H ?_;exact Q3 (.inr ⟨by simp,Jy H.drop rfl fun w' H'=>⟨by rw[hs];rfl,H'⟩⟩)
     ·rw[show ((l.record:Int) == 0)=false by simp;omega];refine Xs H ?_;refine V6 H ?_;exact .inl ⟨rfl,rfl,⟨by omega,by omega,fun _=>c3⟩,rfl,rfl,H⟩
    ·rw[show decide (count > 0)=false from decide_eq_false (by omega)];refine Ym H ?_;refine KL H ?_;refine Xs H ?_;refine V6 H ?_;exact .inl ⟨rfl,rfl,⟨by omega,by omega,fun h=>absurd h c2⟩,rfl,rfl,H⟩
 ·clear H;rintro ms σ w ⟨rfl,⟨c0,c1,c2⟩,g1,g2,H⟩;rw[Q1 g1,Q1 g2];obtain⟨c,rfl⟩:∃ c:Nat,count=c:=⟨count.toNat,by omega⟩;have hcm:c*l.record≤1024*64:=Nat.mul_le_mul (by omega) hc;have hcm2:(c:Int)*(l.record:Int)=((c*l.record:Nat):Int):=(Int.natCast_mul _ _).symm;refine Xq H ?_;refine WI H ?_;refine YA H ?_;rw[hcm2,Qb (x:=((c*l.record:Nat):Int)) (by omega) (by omega),Qb (x:=(l.fixed:Int)+((c*l.record:Nat):Int)) (by omega) (by omega)];by_cases c3:l.fixed+c*l.record≥8192
  ·have hs:VG l (c:Int)=(0,10):=by unfold VG;rw[if_neg (by omega),if_pos (by simpa using c3)]
   rw[show decide ((l.fixed:Int)+((c*l.record:Nat):Int)≥8192)=true from decide_eq_true (by omega)];refine Yn H ?_;exact Q3 (Jy H.drop rfl fun w' H'=>⟨by rw[hs];rfl,H'⟩)
  ·have hs:VG l (c:Int)=(l.fixed+c*l.record,0):=by unfold VG;rw[if_neg (by omega),if_neg (by simpa using c3)];simp
   rw[show decide ((l.fixed:Int)+((c*l.record:Nat):Int)≥8192)=false from decide_eq_false (by omega)];refine AC H ?_;exact Q3 (Jy H.drop rfl fun w' H'=>⟨by rw[hs];show Value.tuple #[.int .i64 ((l.fixed:Int)+((c*l.record:Nat):Int)),_]=_;rw[← Int.natCast_add];rfl,H'⟩)
theorem CD [Q4] (v:Value) (l:List Nat) (hl:l.length≤1000000) {w:World} {fr:List Q2} (hr:Vu fr v l.length 1 (QW l)) (H:Q0 w fr) :
  Calls Tryz.prog 118 #[v] w (ret fun x w'=>Q0 w' (NL x l::fr)):=by
 obtain⟨hr1,ad,cap,rfl,hr'⟩:=id hr;refine Q9 Tryz.func118 rfl (by kernel_rfl) ?_;refine RI H ?_;refine Q5 rfl (Sm rfl rfl (.inl rfl) rfl ?_);refine J2 H ?_;cases ad with
 | none=>
  have h0:l.length=0:=by
   rcases hr' with h|⟨b,o,E,fz,c,h,_⟩
   ·exact h
   ·cases h
  have hn:l=[]:=eq_nil_of_length_eq_zero h0;subst hn;refine YD H ?_;exact Q3 (Jy (Z2 H) rfl fun w' H'=>H')
 | some ad=>
  refine V6 H ?_;refine G5 H ?_;refine Q5 rfl (Sq H rfl ?_);clear H;intro b5 w H;refine Jv ?_;refine Q5 rfl (HA H rfl rfl hr (by simp[QW,all_eq_true,Value.oneCell']) (by rw[QH];simp only[length_nil];omega) rfl rfl ?_);clear H;intro v7 w H;refine UP H ?_;exact Q3 (Jy H rfl fun w' H'=>H')
theorem Mt [Q4] (vr vq:Value) (l:QM) (hs:Ew l) {w:World} {fr:List Q2} (hr:Ub fr vr vq l) (H:Q0 w fr) :
  Calls Tryz.prog 149 #[Yy l.fixed vr l.record vq] w (ret fun x w'=>∃ vr' vq',x=Yy l.fixed vr' l.record vq'∧Q0 w' (NL vr' l.refs::NL vq' l.recs::fr)):=by
 obtain⟨_,ad1,cap1,rfl,hr1⟩:=id hr.r;obtain⟨_,ad2,cap2,rfl,hr2⟩:=id hr.q;refine Q9 Tryz.func149 rfl (by kernel_rfl) ?_;refine J8 H ?_;clear H;intro b1 w H;refine VZ H ?_;clear H;intro b2 w H;refine J2 H ?_;refine J1 H ?_;clear H;intro w H;refine Jf 0 ?_;refine Jl 1 [2,5,7,9] H ?_;refine Jf 3 ?_;refine Jl 4 [5,7,9] H ?_;refine Jo 2 H ?_;refine Jk rfl rfl (CD _ l.refs hs.a hr.r.there.there H) ?_;clear H;rintro v5 w H;obtain⟨a5,m5,c5,rfl⟩:=Qw H;refine Jf 6 ?_;refine Jo 5 H ?_;refine Jk rfl rfl (CD _ l.recs hs.b hr.q.there.there.there H) ?_;clear H;rintro v8 w H;obtain⟨a8,m8,c8,rfl⟩:=Qw H
 refine Jo 7 H ?_;refine UQ H ?_;clear H;intro w H;refine Jf 8 ?_;refine Jo 9 H ?_;refine UQ H ?_;clear H;intro w H;refine Jx H ?_;refine KH H ?_;clear H;intro w H;refine J2 H ?_;replace H:=Js [2,1,0] 1 H;exact Q3 (Jz H (fun w' H' => .cellN H' rfl (by repeat first|exact .nil _|apply QV.cons rfl) .nil) fun w' H'=>⟨_,_,rfl,H'.drop⟩)
theorem CE [Q4] (x:Nat) (hx:x < 18446744073709551616) {w:World} {fr:List Q2} [hT:YX 0 Lib.deBruijn64tab fr] (H:Q0 w fr) :
  Calls Tryz.prog 147 #[.int .u64 x] w (ret fun v w'=>Q0 w' (NL v (Ve x 64)::fr)):=by
 refine Q9 Tryz.func147 rfl (by kernel_rfl) ?_;refine HL H ?_;refine Ql (fun ms σ w n=>ms=[]∧∃ (k y:Nat) (g:Value),k≤64∧n=64 - k∧y < 18446744073709551616∧(∀ i,y.testBit i=(x.testBit i && decide (k≤i)))∧σ 0 = .int .u64 y∧σ 3=g∧Q0 w (NL g (Ve x k)::fr)) (m:=64) ⟨rfl,0,x,_,by omega,rfl,hx,fun i=>by simp,rfl,rfl,Z2 H⟩ ?_;clear H;rintro ms σ w n ⟨rfl,k,y,g,hk,rfl,hy,hbit,g0,g3,H⟩;obtain⟨ag,mg,cg,rfl⟩:=Qw H;rw[Q1 g0,Q1 g3];refine J5 H ?_;by_cases h0:y=0
 ·rw[show ((y:Int) != 0)=false by simp;exact h0];refine J6 H ?_;refine KJ H ?_
  have he:Ve x 64=Ve x k:=I1 (by omega) (fun i h1 h2=>by
   have:=hbit i;rw[h0,Nat.zero_testBit] at this;simpa [h1] using this.symm)
  rw[← he] at H;refine J5 H ?_;exact Q3 (Jy H rfl fun w' H'=>H')
 ·rw[show ((y:Int) != 0)=true by simp;exact h0];refine J6 H ?_;refine Xv H ?_;obtain⟨ht1,ht2,ht3⟩:=Hs h0 hy;refine Xw H ?_;refine Jc rfl rfl (Ht y hy H) ?_;clear H;rintro v w ⟨rfl,H⟩;refine GN H ?_;clear H;intro b13 w H;generalize Lib.ctz 64 y=t at ht1 ht2 ht3 H;replace H:=Js [1,0] 0 H;refine Q5 rfl (YO H rfl rfl (by repeat first|exact .nil _|apply QV.cons rfl) rfl (by decide) (by rw[QH];have:=Ao x k;simp only[length_cons,length_nil];omega) rfl rfl ?_);clear H;intro v14 w H;obtain⟨a14,m14,c14,rfl⟩:=Qw H;refine J0 H ?_;have hb:=hbit t;rw[ht2] at hb;have hb1:x.testBit t=true∧k≤t:=by simpa using hb.symm
  have hcl:=Tv ht2 ht3;have hyl:y &&& (y - 1) < 18446744073709551616:=Nat.lt_of_le_of_lt Nat.and_le_left hy;refine KI H ?_
  have e1:IntKind.u64.wrap ((y:Int) - 1)=((y - 1:Nat):Int):=by
   rw[show (y:Int) - 1=((y - 1:Nat):Int) by omega,UH (by omega)]
  rw[e1,DM hy (by omega)]
  have e2:Ve x (t+1)=Ve x k++[t]:=by
   rw[Ev,hb1.1,if_pos rfl,I1 hb1.2 (fun i h1 h2=>?_)];have h3:=ht3 i h2;rw[hbit i] at h3;simpa [h1] using h3
  refine⟨_,⟨rfl,t+1,y &&& (y - 1),_,by omega,rfl,hyl,fun i=>?_,rfl,rfl,?_⟩,by omega⟩
  ·rw[hcl,hbit i];by_cases h1:i < t
   ·have h3:=ht3 i h1;rw[hbit i] at h3;rw[h3,show decide (t+1≤i)=false by simp;omega];simp
   ·by_cases h2:i=t
    ·subst h2;simp
    ·rw[show decide (t+1≤i)=true by simp;omega,show decide (k≤i)=true by simp;omega];simp[h2]
  ·rw[e2];show Q0 w (QC _ 1 _ (QW (Ve x k++[t]))::_);rw[WT];exact Q0.drop H.swap
end Go.Proofs.YtmjdnljneifpcaaGreatDoor
