/- Cells: what is proved on the way: every input of the statement; no condition. Texts joined: HdrA HdrB BmpA BmpB StoA StoB LayP LayA. -/
import Derived.Test.YtmjdnljneifpcaaGreatDoorBbe
import Derived.Test.YtmjdnljneifpcaaGreatDoorBbc
set_option linter.unusedVariables false
set_option linter.unusedSimpArgs false
set_option linter.unusedSectionVars false
namespace Go.Proofs.YtmjdnljneifpcaaGreatDoor
open Go.SL
def Z6l:List Fl:=[(0,16),(16,16),(32,8),(40,16),(56,8)]
def Z6m:List Fl:=[(0,32),(32,32)]
theorem Z1i:G8r Z6l:=⟨by simp[Z6l,V6w],by simp[Z6l]⟩
theorem Z1j:G8r Z6m:=⟨by simp[Z6m,V6w],by simp[Z6m]⟩
theorem V2m [Q0i] {w:World} {fr:List Q0e} (H:Q0a w fr):Calls Tryz.prog 223 #[] w (ret fun v w'=>Q0a w' (FL v Z6l::fr)):=by
 refine Q0c Tryz.func223 rfl (by kernel_rfl) ?_;refine U6k H ?_;refine J48 H ?_;refine J48 H ?_;refine J48 H ?_;refine U3o H ?_;clear H;intro b6 w H;refine J0 H ?_;exact Q0g (Jy (Q7u (by decide) H) rfl fun w' H'=>H')
theorem V5j [Q0i] {w:World} {fr:List Q0e} (H:Q0a w fr):Calls Tryz.prog 207 #[] w (ret fun v w'=>Q0a w' (FL v Z6m::fr)):=by
 refine Q0c Tryz.func207 rfl (by kernel_rfl) ?_;refine U6k H ?_;refine U3o H ?_;clear H;intro b3 w H;refine J0 H ?_;exact Q0g (Jy (Q7u (by decide) H) rfl fun w' H'=>H')
def G4n (l c s:Nat):Prop:=1≤l∧l≤64∧c≤1024∧s < 4096
@[reducible] def hdv (l c s:Nat):Value := .agg #[.int .i64 l,.int .i64 c,.int .i64 s]
theorem Z4k [Q0i] (l c s:Nat) (h:G4n l c s) {w:World} {fr:List Q0e} (H:Q0a w fr):Calls Tryz.prog 222 #[hdv l c s] w (ret fun v w'=>v = .bool true∧Q0a w' fr):=by
 obtain⟨h1,h2,h3,h4⟩:=h;refine Q0c Tryz.func222 rfl (by kernel_rfl) ?_;refine J8 H ?_;clear H;intro b1 w H;refine G9s H ?_;refine J26 H ?_;rw[show decide ((l:Int)≥1)=true from decide_eq_true (by omega)];refine J34 H ?_;refine Jv ?_;rw[show decide ((l:Int)≤64)=true from decide_eq_true (by omega)];refine U1u H ?_;rw[show decide ((c:Int)≥0)=true from decide_eq_true (by omega)];refine U1u H ?_;rw[show decide ((c:Int)≤1024)=true from decide_eq_true (by omega)];refine U1u H ?_;rw[show decide ((s:Int)≥0)=true from decide_eq_true (by omega)];refine U1u H ?_;rw[show decide ((s:Int) < 4096)=true from decide_eq_true (by omega)];refine J0 H ?_;exact Q0g (Jy H.drop rfl fun w' H'=>⟨rfl,H'⟩)
def Y6z (l c s:Nat):Nat:=V0y Z6l [s,c,l,0,165]
theorem G0k (l c s:Nat):Y6z l c s=s+c*65536+l*4294967296+165*72057594037927936:=by
 simp[Y6z,V0y,Z6l];omega
theorem U0h {l c s:Nat} (h:G4n l c s):Y6z l c s < 18446744073709551616:=by
 obtain⟨h1,h2,h3,h4⟩:=h;rw[G0k];omega
theorem Z1k [Q0i] (l c s:Nat) (h:G4n l c s) {w:World} {fr:List Q0e} (H:Q0a w fr):Calls Tryz.prog 152 #[hdv l c s] w (ret fun v w'=>v = .tuple #[.int .u64 (Y6z l c s),.int .i64 0]∧Q0a w' fr):=by
 have h':=h;obtain⟨h1,h2,h3,h4⟩:=h';refine Q0c Tryz.func152 rfl (by kernel_rfl) ?_;refine J8 H ?_;clear H;intro b1 w H;refine J2 H ?_;refine J36 H ?_;refine Jc rfl rfl (Z4k l c s h H) ?_;clear H;rintro v w ⟨rfl,H⟩;refine J17 H ?_;refine J1 H ?_;clear H;intro w H;refine Jf 1 ?_;refine Jl 2 [10,11] H ?_;refine U6l H ?_;refine Jf 4 ?_;refine Jl 5 [10,11] H ?_;refine Q6n 6 rfl (Q0n.none rfl) rfl (by kernel_rfl) ?_;refine Jf 7 ?_;refine Jl 8 [10,11] H ?_;refine Q6n 9 rfl (Q0n.none rfl) rfl (by kernel_rfl) ?_;rw[Q4o (a:=l) (by omega),Q4o (a:=c) (by omega),Q4o (a:=s) (by omega)];refine Jw 0 10 H rfl rfl (Q1h (a:=[]) (b:=[]) rfl rfl (call (V2m H) ?_)) (Q4g H rfl rfl rfl ?_)
 ·clear H;intro v16 w H;obtain⟨a16,m16,c16,rfl⟩:=Q1d H;refine Jo 10 H ?_;refine G9r H ?_;clear H;intro b17 w H;replace H:=Q0a.swap (Q7u (len:=5) (k:=1) rfl H)
  refine Z9y 11 rfl (by kernel_rfl) (by repeat first|exact .nil|refine .cons (.inr H.at) ?_|refine .cons (.inr H.mp) ?_|refine .cons (.inl (by kernel_rfl)) ?_) (Q0n.none rfl) (Q1h (a:=[]) (b:=[]) rfl rfl (call (V3y _ _ Z6l [s,c,l,0,165] Z1i (by decide) rfl (fun i f x hf hx=>by
     rcases i with _|_|_|_|_|i <;> simp[Z6l] at hf hx <;> subst hf hx <;> simp <;> omega) H) ?_))
  clear H;rintro v w ⟨rfl,H⟩;refine U3p H ?_;exact Q0g (Jy H.drop.drop.drop rfl fun w' H'=>⟨rfl,H'⟩)
 ·clear H;intro b17 w H;refine Jo 0 H ?_;refine Jk rfl rfl (V2m H) ?_;clear H;intro v16 w H;obtain⟨a16,m16,c16,rfl⟩:=Q1d H;replace H:=Q0a.swap (Q7u (len:=5) (k:=1) rfl H.swap)
  refine Z9y 11 rfl (by kernel_rfl) (by repeat first|exact .nil|refine .cons (.inr H.at) ?_|refine .cons (.inr H.mp) ?_|refine .cons (.inl (by kernel_rfl)) ?_) (Q0n.none rfl) (Q1h (a:=[]) (b:=[]) rfl rfl (call (V3y _ _ Z6l [s,c,l,0,165] Z1i (by decide) rfl (fun i f x hf hx=>by
     rcases i with _|_|_|_|_|i <;> simp[Z6l] at hf hx <;> subst hf hx <;> simp <;> omega) H) ?_))
  clear H;rintro v w ⟨rfl,H⟩;refine U3p H ?_;exact Q0g (Jy H.drop.drop.drop rfl fun w' H'=>⟨rfl,H'⟩)
theorem X0a {l c s:Nat} (h:G4n l c s):Z6l.map (V8w (Y6z l c s))=[s,c,l,0,165]:=by
 obtain⟨h1,h2,h3,h4⟩:=h;simp only[Z6l,List.map_cons,List.map_nil,V8w,G0k,Nat.reducePow];have e1:(s+c*65536+l*4294967296+165*72057594037927936) / 1 % 65536=s:=by omega
 have e2:(s+c*65536+l*4294967296+165*72057594037927936) / 65536 % 65536=c:=by omega
 have e3:(s+c*65536+l*4294967296+165*72057594037927936) / 4294967296 % 256=l:=by omega
 have e4:(s+c*65536+l*4294967296+165*72057594037927936) / 1099511627776 % 65536=0:=by omega
 have e5:(s+c*65536+l*4294967296+165*72057594037927936) / 72057594037927936 % 256=165:=by omega
 rw[e1,e2,e3,e4,e5]
theorem Z1l [Q0i] (l c s:Nat) (h:G4n l c s) {w:World} {fr:List Q0e} (H:Q0a w fr):Calls Tryz.prog 183 #[.int .u64 (Y6z l c s)] w (ret fun v w'=>v = .tuple #[hdv l c s,.int .i64 0]∧Q0a w' fr):=by
 have h':=h;obtain⟨h1,h2,h3,h4⟩:=h';refine Q0c Tryz.func183 rfl (by kernel_rfl) ?_;refine J24 H ?_;clear H;intro b2 w H;refine U6m H ?_;refine Jc rfl rfl (V2m H) ?_;clear H;intro v9 w H
 refine Jc rfl rfl (V2l _ (U0h h) v9 Z6l Z1i (by decide) H) ?_;clear H;rintro v w ⟨u,rfl,H⟩;rw[X0a h] at H;obtain⟨au,cu,rfl⟩:=Q0j (m:=5) H rfl (by decide);obtain⟨bu,su,rfl,H,hclose⟩:=Q0y H (by decide);refine U6n H ?_;clear H;intro w H;refine Ja 0 ?_;refine Ji 1 ?_;refine Jl 2 [14] H ?_;refine U6l H ?_;refine Ja 4 ?_;refine Ji 5 ?_;refine Jl 6 [14] H ?_;refine Q6n 7 rfl (Q0n.none rfl) rfl (by kernel_rfl) ?_;refine Ja 8 ?_;refine Ji 9 ?_;refine Jl 10 [14] H ?_;refine Q6n 11 rfl (Q0n.none rfl) rfl (by kernel_rfl) ?_;refine Q5r 12 rfl (Q0n.none rfl) rfl (by kernel_rfl) ?_;rw[Q6o (a:=l) (by omega),Q6o (a:=c) (by omega),Q6o (a:=s) (by omega)];refine Jo 13 H ?_;refine Q1x H rfl ?_;clear H;intro b6 w H
 refine Jo 14 H ?_;refine J49 H ?_;clear H;intro w H;refine Jx H ?_;refine J20 H ?_;refine Jd ?_;refine J86 H ?_;refine U3m H ?_;refine Q4u rfl rfl rfl (Q2k rfl rfl (by omega) (by omega) rfl ?_);refine Q4u rfl rfl rfl (Q0l H rfl rfl rfl ?_);refine J25 H ?_;refine J26 H ?_;refine G9q H ?_;refine Q4u rfl rfl rfl (Q1h (a:=[]) (b:=[]) rfl rfl (call (Z4k l c s h H) ?_));clear H;rintro v w ⟨rfl,H⟩;refine U1r H ?_;refine J87 H ?_;clear H;intro w H;refine J0 H ?_;refine Q0g (V8r (vs:=[hdv l c s,.int .i64 0]) _ (.inr rfl) H (fun w' H' => .cellN H' rfl (by repeat first|exact .nil _|apply Q0o.cons rfl) (.tmp .nil)) fun w' H'=>⟨rfl,H'.drop.drop.drop.drop⟩)
end Go.Proofs.YtmjdnljneifpcaaGreatDoor
namespace Go.Proofs.YtmjdnljneifpcaaGreatDoor
open Go.SL
inductive Lnk where
 | none
 | grave
 | obj (i g:Nat)
 deriving DecidableEq
@[reducible] def tkn (i g:Nat):Value := .agg #[.int .i64 i,.int .i64 g]
@[reducible] def lkv:Lnk→Value
 | .none => .agg #[.int .i64 0,.int .i64 0,.int .i64 0]
 | .grave => .agg #[.int .i64 1,.int .i64 0,.int .i64 0]
 | .obj i g => .agg #[.int .i64 2,.int .i64 i,.int .i64 g]
def okT (i g:Nat):Prop:=i < 4096∧1≤g∧g≤255
def okL:Lnk→Prop
 | .obj i g=>okT i g
 | _=>True
def Q3v:Lnk→Nat
 | .none=>0
 | .grave=>1
 | .obj i g=>V0y Z6m [i+2,g]
theorem V3z (i g:Nat):Q3v (.obj i g)=i+2+g*4294967296:=by
 simp[Q3v,V0y,Z6m]
theorem Z4l {l:Lnk} (h:okL l):Q3v l < 18446744073709551616:=by
 cases l with
 | none=>decide
 | grave=>decide
 | obj i g=>
  obtain⟨h1,h2,h3⟩:=h;rw[V3z];omega
theorem Y2i [Q0i] (i g:Nat) (h:okT i g) {w:World} {fr:List Q0e} (H:Q0a w fr):Calls Tryz.prog 205 #[tkn i g] w (ret fun v w'=>v = .bool true∧Q0a w' fr):=by
 obtain⟨h1,h2,h3⟩:=h;refine Q0c Tryz.func205 rfl (by kernel_rfl) ?_;refine J8 H ?_;clear H;intro b1 w H;refine G9s H ?_;refine J26 H ?_;rw[show decide ((i:Int)≥0)=true from decide_eq_true (by omega)];refine J34 H ?_;refine Jv ?_;rw[show decide ((i:Int) < 4096)=true from decide_eq_true (by omega)];refine U1u H ?_;rw[show decide ((g:Int)≥1)=true from decide_eq_true (by omega)];refine U1u H ?_;rw[show decide ((g:Int)≤255)=true from decide_eq_true (by omega)];refine J0 H ?_;exact Q0g (Jy H.drop rfl fun w' H'=>⟨rfl,H'⟩)
theorem G0l [Q0i] (l:Lnk) (h:okL l) {w:World} {fr:List Q0e} (H:Q0a w fr):Calls Tryz.prog 124 #[lkv l] w (ret fun v w'=>v = .tuple #[.int .u64 (Q3v l),.int .i64 0]∧Q0a w' fr):=by
 cases l with
 | none=>
  refine Q0c Tryz.func124 rfl (by kernel_rfl) ?_;refine J8 H ?_;clear H;intro b1 w H;refine J2 H ?_;refine J43 H ?_;refine U3q H ?_;refine U3r H ?_;exact Q0g (Jy H.drop rfl fun w' H'=>⟨rfl,H'⟩)
 | grave=>
  refine Q0c Tryz.func124 rfl (by kernel_rfl) ?_;refine J8 H ?_;clear H;intro b1 w H;refine J2 H ?_;refine J43 H ?_;refine U3q H ?_;refine U3s H ?_;refine U3q H ?_;refine U3r H ?_;exact Q0g (Jy H.drop rfl fun w' H'=>⟨rfl,H'⟩)
 | obj i g=>
  have h':=h;obtain⟨h1,h2,h3⟩:=h';refine Q0c Tryz.func124 rfl (by kernel_rfl) ?_;refine J8 H ?_;clear H;intro b1 w H;refine J84 H ?_;refine Q2s (fun ms σ w=>ms=[]∧σ 1 = .pointer (some ⟨b1,0,none⟩)∧Q0a w (pts b1 (row 88 [.int .i64 2,.int .i64 i,.int .i64 g])::fr)) ?_ ?_
  ·refine Q0t ?_;refine U3q H ?_;refine U3s H ?_;refine U3q H ?_;refine U3s H ?_;refine J88 H ?_;refine J26 H ?_;refine Q4u rfl rfl rfl (Q0q rfl rfl ?_);refine G9q H ?_;refine Q4u rfl rfl rfl (Q1h (a:=[]) (b:=[]) rfl rfl (call (Y2i i g h H) ?_));clear H;rintro v w ⟨rfl,H⟩;refine J71 H ?_;refine J9 H ?_;exact .inl ⟨rfl,rfl,rfl,H⟩
  ·clear H;rintro ms σ w ⟨rfl,g1,H⟩;rw[Q0b g1];refine J1 H ?_;clear H;intro w H;refine Jf 1 ?_;refine Jf 2 ?_;refine Jl 3 [10,11] H ?_;refine Q6n 4 rfl (Q0n.none rfl) rfl (by kernel_rfl) ?_;refine Ja 5 ?_;refine Jf 6 ?_;refine Jf 7 ?_;refine Jl 8 [10,11] H ?_;refine Q6n 9 rfl (Q0n.none rfl) rfl (by kernel_rfl) ?_
   have e1:IntKind.u64.wrap (IntKind.u64.wrap (i:Int)+2)=((i+2:Nat):Int):=by
    rw[Q4o (a:=i) (by omega)];exact Q4o (a:=i+2) (by omega)
   have e2:IntKind.u64.wrap (g:Int)=((g:Nat):Int):=Q4o (by omega);rw[e1,e2];refine Jw 0 10 H rfl rfl (Q1h (a:=[]) (b:=[]) rfl rfl (call (V5j H) ?_)) (Q4g H rfl rfl rfl ?_)
   ·clear H;intro v16 w H;obtain⟨a16,m16,c16,rfl⟩:=Q1d H;refine Jo 10 H ?_;refine G9r H ?_;clear H;intro b17 w H;replace H:=Q0a.swap (Q7u (len:=2) (k:=1) rfl H)
    refine Z9y 11 rfl (by kernel_rfl) (by repeat first|exact .nil|refine .cons (.inr H.at) ?_|refine .cons (.inr H.mp) ?_|refine .cons (.inl (by kernel_rfl)) ?_) (Q0n.none rfl) (Q1h (a:=[]) (b:=[]) rfl rfl (call (V3y _ _ Z6m [i+2,g] Z1j (by decide) rfl (fun j f x hf hx=>by
         rcases j with _|_|j <;> simp[Z6m] at hf hx <;> subst hf hx <;> simp <;> omega) H) ?_))
    clear H;rintro v w ⟨rfl,H⟩;refine U3p H ?_;exact Q0g (Jy H.drop.drop.drop rfl fun w' H'=>⟨rfl,H'⟩)
   ·clear H;intro b17 w H;refine Jo 0 H ?_;refine Jk rfl rfl (V5j H) ?_;clear H;intro v16 w H;obtain⟨a16,m16,c16,rfl⟩:=Q1d H;replace H:=Q0a.swap (Q7u (len:=2) (k:=1) rfl H.swap)
    refine Z9y 11 rfl (by kernel_rfl) (by repeat first|exact .nil|refine .cons (.inr H.at) ?_|refine .cons (.inr H.mp) ?_|refine .cons (.inl (by kernel_rfl)) ?_) (Q0n.none rfl) (Q1h (a:=[]) (b:=[]) rfl rfl (call (V3y _ _ Z6m [i+2,g] Z1j (by decide) rfl (fun j f x hf hx=>by
         rcases j with _|_|j <;> simp[Z6m] at hf hx <;> subst hf hx <;> simp <;> omega) H) ?_))
    clear H;rintro v w ⟨rfl,H⟩;refine U3p H ?_;exact Q0g (Jy H.drop.drop.drop rfl fun w' H'=>⟨rfl,H'⟩)
theorem X0b {i g:Nat} (h:okT i g):Z6m.map (V8w (Q3v (.obj i g)))=[i+2,g]:=by
 obtain⟨h1,h2,h3⟩:=h;simp only[Z6m,List.map_cons,List.map_nil,V8w,V3z,Nat.reducePow];have e1:(i+2+g*4294967296) / 1 % 4294967296=i+2:=by omega
 have e2:(i+2+g*4294967296) / 4294967296 % 4294967296=g:=by omega
 rw[e1,e2]
theorem G0m [Q0i] (l:Lnk) (h:okL l) {w:World} {fr:List Q0e} (H:Q0a w fr):Calls Tryz.prog 227 #[.int .u64 (Q3v l)] w (ret fun v w'=>v = .tuple #[lkv l,.int .i64 0]∧Q0a w' fr):=by
 cases l with
 | none=>
  refine Q0c Tryz.func227 rfl (by kernel_rfl) ?_;refine J24 H ?_;clear H;intro b2 w H;refine J0 H ?_;refine U1v H ?_;refine J3 H ?_;refine U3t H ?_;clear H;intro w H;refine J0 H ?_;refine Q0g (V8r (vs:=[lkv .none,.int .i64 0]) _ (.inr rfl) H (fun w' H' => .cellN H' rfl (by repeat first|exact .nil _|apply Q0o.cons rfl) (.tmp .nil)) fun w' H'=>⟨rfl,H'.drop⟩)
 | grave=>
  refine Q0c Tryz.func227 rfl (by kernel_rfl) ?_;refine J24 H ?_;clear H;intro b2 w H;refine J0 H ?_;refine U1v H ?_;refine J3 H ?_;refine J31 H ?_;refine U3t H ?_;clear H;intro w H;refine J0 H ?_;refine Q0g (V8r (vs:=[lkv .grave,.int .i64 0]) _ (.inr rfl) H (fun w' H' => .cellN H' rfl (by repeat first|exact .nil _|apply Q0o.cons rfl) (.tmp .nil)) fun w' H'=>⟨rfl,H'.drop⟩)
 | obj i g=>
  have h':=h;obtain⟨h1,h2,h3⟩:=h';have hw:=V3z i g;have n0:((Q3v (.obj i g):Int) == 0)=false:=beq_eq_false_iff_ne.2 (by omega);have n1:((Q3v (.obj i g):Int) == 1)=false:=beq_eq_false_iff_ne.2 (by omega);have hlt:=Z4l (l := .obj i g) h;have hg:=X0b h;generalize hW:Q3v (.obj i g)=W at n0 n1 hlt hg hw;refine Q0c Tryz.func227 rfl (by kernel_rfl) ?_;refine J24 H ?_;clear H;intro b2 w H;refine U3u H ?_;refine Q2s (fun ms σ w=>ms=[]∧σ 0 = .int .u64 W∧σ 2 = .pointer (some ⟨b2,0,none⟩)∧Q0a w (pts b2 (row 88 [.int .i64 0,.int .i64 0,.int .i64 0])::fr)) ?_ ?_
  ·refine Q0t ?_;refine J3 H ?_;rw[n0];refine J31 H ?_;rw[n1];refine J9 H ?_;exact .inl ⟨rfl,rfl,rfl,rfl,H⟩
  ·clear H;rintro ms σ w ⟨rfl,g0,g2,H⟩;rw[Q0b g0,Q0b g2];refine J20 H ?_;refine Jc rfl rfl (V5j H) ?_;clear H;intro v16 w H
   refine Jc rfl rfl (V2l _ hlt v16 Z6m Z1j (by decide) H) ?_;clear H;rintro v w ⟨u,rfl,H⟩;rw[hg] at H;obtain⟨au,cu,rfl⟩:=Q0j (m:=2) H rfl (by decide);obtain⟨bu,su,rfl,H,hclose⟩:=Q0y H (by decide);refine U6n H ?_;clear H;intro w H;refine Ja 0 ?_;refine Ji 1 ?_;refine Jl 2 [11] H ?_;refine U6l H ?_;refine J54 H ?_;refine Ji 6 ?_;refine Jl 7 [11] H ?_;refine Q6n 8 rfl (Q0n.none rfl) rfl (by kernel_rfl) ?_;refine Q5r 9 rfl (Q0n.none rfl) rfl (by kernel_rfl) ?_
   have e1:IntKind.i64.wrap (IntKind.i64.wrap ((i+2:Nat):Int) - 2)=((i:Nat):Int):=by
    rw[Q6o (a:=i+2) (by omega),Q1e (by omega) (by omega)];omega
   have e2:IntKind.i64.wrap (g:Int)=((g:Nat):Int):=Q6o (by omega);rw[e1,e2];refine Jo 10 H ?_;refine Q1x H rfl ?_;clear H;intro b6 w H
   refine G9t H ?_;clear H;intro w H;refine Jx H ?_;refine J36 H ?_;refine Jc rfl rfl (Y2i i g h H) ?_;clear H;rintro v w ⟨rfl,H⟩;refine J17 H ?_
   repeat refine Q0m ?_
   refine Q0f ?_;refine Q0s rfl (Q1j H rfl (by repeat first|exact .nil _|apply Q0o.cons rfl) rfl ?_);refine Q0s rfl (Q6d rfl rfl ?_);refine J4 H ?_;clear H;intro w H;refine J0 H ?_;refine Q0g (V8r (vs:=[lkv (.obj i g),.int .i64 0]) _ (.inr rfl) H (fun w' H' => .cellN H' rfl (by repeat first|exact .nil _|apply Q0o.cons rfl) (.tmp .nil)) fun w' H'=>⟨rfl,H'.drop.drop.drop.drop⟩)
end Go.Proofs.YtmjdnljneifpcaaGreatDoor
namespace Go.Proofs.YtmjdnljneifpcaaGreatDoor
open Go.SL
def BM (p n:Nat) (ws:List Nat) (many:Nat):Q0e:=ex fun v:Value=>star [pts p (row 228 [.int .i64 n,v,.int .i64 many]),UL v ws]
theorem G0n [Q0i] {w:World} {p n:Nat} {ws:List Nat} {m:Nat} {l:List Q0e} (H:Q0a w (BM p n ws m::l)):∃ v,Q0a w (pts p (row 228 [.int .i64 n,v,.int .i64 m])::UL v ws::l):=by
 obtain⟨v,H⟩:=Q0a.ex.1 H;exact⟨v,Q0a.star.1 H⟩
theorem G5l [Q0i] {w:World} {p n:Nat} {v:Value} {ws:List Nat} {m:Nat} {l:List Q0e} (H:Q0a w (pts p (row 228 [.int .i64 n,v,.int .i64 m])::UL v ws::l)):Q0a w (BM p n ws m::l):=
 Q0a.ex.2 ⟨v,Q0a.star.2 H⟩
theorem V5k [Q0i] {w:World} {p n x m:Nat} {l:List Q0e} (H:Q0a w (BM p n [x] m::l)):∃ b cap spare,Q0a w (pts p (row 228 [.int .i64 n,.slice (some ⟨b,0,none⟩) 1 cap,.int .i64 m])::pts b (row 83 (.int .u64 x::spare))::l) ∧
  ∀ w' l' (x' m':Nat),Q0a w' (pts p (row 228 [.int .i64 n,.slice (some ⟨b,0,none⟩) 1 cap,.int .i64 m'])::pts b (row 83 (.int .u64 x'::spare))::l')→Q0a w' (BM p n [x'] m'::l'):=by
 obtain⟨v,H⟩:=G0n H;have H:=H.swap;obtain⟨a,cap,rfl⟩:=Q0j (m:=1) H rfl (by decide)
 rcases Q4n H with ⟨h,_⟩|⟨b,len,cap',spare,h,e3,e4,e5,H2⟩
 ·cases h
 ·cases h;exact⟨b,cap,spare,H2.swap,fun w' l' x' m' H'=>G5l (Q0a.swap (Q5x (c:=Q1b [x']) rfl e4 e5 H'.swap))⟩
structure Y2j (n x:Nat):Prop where
 pos:0 < n
 le:n≤63
 lt:x < 2 ^ n
theorem Y2j.lt64 {n x:Nat} (h:Y2j n x):x < 18446744073709551616:=Nat.lt_of_lt_of_le h.lt (V7u (by have:=h.le;omega))
theorem q64 {i:Nat} (h:i < 64):IntKind.i64.wrap (Int.tdiv (i:Int) 64)=0:=by
 rw[Int.tdiv_eq_ediv_of_nonneg (by omega),show (i:Int) / 64=0 by omega];rfl
theorem r64 {i:Nat} (h:i < 64):Int.tmod (i:Int) 64=i:=by
 rw[Int.tmod_eq_emod_of_nonneg (by omega)];omega
theorem U9h (x i:Nat):((x / 2 ^ i) &&& 1=1)↔x.testBit i=true:=by
 rw[Nat.and_one_is_mod,Nat.testBit_eq_decide_div_mod_eq];simp
theorem Y4w [Q0i] (p n:Nat) (ws:List Nat) (m:Nat) {w:World} {fr:List Q0e} (H:Q0a w (BM p n ws m::fr)):Calls Tryz.prog 221 #[pp p] w (ret fun v w'=>v = .int .i64 n∧Q0a w' (BM p n ws m::fr)):=by
 obtain⟨v,H⟩:=G0n H;refine Q0c Tryz.func221 rfl (by kernel_rfl) ?_;refine G8f H ?_;refine J0 H ?_;exact Q0g (Jy (G5l H) rfl fun w' H'=>⟨rfl,H'⟩)
theorem Y2k [Q0i] (p n:Nat) (ws:List Nat) (m:Nat) {w:World} {fr:List Q0e} (H:Q0a w (BM p n ws m::fr)):Calls Tryz.prog 65 #[pp p] w (ret fun v w'=>v = .int .i64 m∧Q0a w' (BM p n ws m::fr)):=by
 obtain⟨v,H⟩:=G0n H;refine Q0c Tryz.func65 rfl (by kernel_rfl) ?_;refine G8f H ?_;refine J0 H ?_;exact Q0g (Jy (G5l H) rfl fun w' H'=>⟨rfl,H'⟩)
theorem G0o [Q0i] (p n x m i:Nat) (hb:Y2j n x) (hi:i < n) {w:World} {fr:List Q0e} (H:Q0a w (BM p n [x] m::fr)):Calls Tryz.prog 260 #[pp p,.int .i64 i] w (ret fun v w'=>v = .bool (x.testBit i)∧Q0a w' (BM p n [x] m::fr)):=by
 have hle:=hb.le;have h64:=hb.lt64;refine Q0c Tryz.func260 rfl (by kernel_rfl) ?_;refine G9u H ?_;rw[show decide ((i:Int)≥0)=true from decide_eq_true (by omega)];refine J33 H ?_;refine Q4u rfl rfl rfl (Q1h (a:=[]) (b:=[]) rfl rfl (call (Y4w p n _ _ H) ?_));clear H;rintro v w ⟨rfl,H⟩;refine J25 H ?_;refine Jv ?_;rw[show decide ((i:Int) < (n:Int))=true from decide_eq_true (by omega)];obtain⟨b,cap,spare,H,hclose⟩:=V5k H;refine J72 H ?_;refine J53 H ?_;refine J33 H ?_;rw[q64 (show i < 64 by omega)];refine Q4u rfl rfl rfl (Q2k rfl rfl (by decide) (by decide) rfl ?_);refine Q4u rfl rfl rfl (Q0l H rfl rfl rfl ?_);refine J33 H ?_;rw[r64 (show i < 64 by omega)]
 refine Q2q rfl rfl (v := .int .u64 (Z9w .u64 (x:Int) (i:Int))) (by
  show (if (i:Int) < 0 then none else some _)=_;rw[if_neg (by omega)]) rfl ?_
 rw[V8s (k := .u64) (a:=x) (b:=i) (by omega) rfl];have hq:x / 2 ^ i < 18446744073709551616:=Nat.lt_of_le_of_lt (Nat.div_le_self _ _) h64;refine Q2q rfl rfl (v := .int .u64 (V5c .and .u64 ((x / 2 ^ i:Nat):Int) ((1:Nat):Int))) rfl rfl ?_;rw[Y4o hq (by decide)];refine J71 H ?_;refine Q0g (Jy (hclose _ _ _ _ H) rfl fun w' H'=>⟨?_,H'⟩);show Value.bool (((x / 2 ^ i &&& 1:Nat):Int) == 1)=_;congr 1;rw[Bool.eq_iff_iff,← U9h];simp only[beq_iff_eq];omega
def V7v (x i:Nat) (on:Bool):Nat:=if x.testBit i=on then x else x ^^^ 2 ^ i
theorem V0a (x i:Nat) (on:Bool) (j:Nat):(V7v x i on).testBit j=if j=i then on else x.testBit j:=by
 unfold V7v;split
 ·rename_i h;split
  ·rename_i e;subst e;exact h
  ·rfl
 ·rename_i h;rw[Nat.testBit_xor,Nat.testBit_two_pow];split
  ·rename_i e;subst e;simp;cases hx:x.testBit j <;> cases on <;> simp_all
  ·rename_i e;have:decide (i=j)=false:=decide_eq_false (fun e2=>e e2.symm);simp[this]
def V7j (n x:Nat):Nat:=((List.range n).filter fun i=>x.testBit i).length
theorem Y1o {n x:Nat} (h:∀ j,n≤j→x.testBit j=false):x < 2 ^ n:=Nat.lt_pow_two_of_testBit x fun j hj=>h j hj
theorem Y4x {n x j:Nat} (h:x < 2 ^ n) (hj:n≤j):x.testBit j=false:=Nat.testBit_lt_two_pow (Nat.lt_of_lt_of_le h (Nat.pow_le_pow_right (by decide) hj))
theorem Y2j.set {n x i:Nat} {on:Bool} (h:Y2j n x) (hi:i < n):Y2j n (V7v x i on):=⟨h.pos,h.le,Y1o fun j hj=>by
 rw[V0a,if_neg (by omega)];exact Y4x h.lt hj⟩
theorem V2n (f g:Nat→Bool) (i:Nat):∀ n,i < n→(∀ j,j≠i→f j=g j)→f i=false→g i=true→((List.range n).filter g).length=((List.range n).filter f).length+1
 | 0,h,_,_,_=>by omega
 | n+1,h,hfg,h0,h1=>by
  rw[List.range_succ,List.filter_append,List.filter_append,List.length_append,List.length_append];by_cases e:i=n
  ·subst e
   have e2:(List.range i).filter g=(List.range i).filter f:=by
    apply List.filter_congr;intro j hj;rw[List.mem_range] at hj;rw[hfg j (by omega)]
   rw[e2];simp[h0,h1]
  ·have:=V2n f g i n (by omega) hfg h0 h1;have e3:[n].filter g=[n].filter f:=by simp[List.filter_cons,hfg n (fun e'=>e e'.symm)]
   rw[e3];omega
theorem G5m {n x i:Nat} {on:Bool} (hi:i < n) (h:x.testBit i≠on):(on=true→V7j n (V7v x i on)=V7j n x+1)∧(on=false→V7j n x=V7j n (V7v x i on)+1):=by
 have hne:∀ j,j≠i→x.testBit j=(V7v x i on).testBit j:=fun j hj=>by rw[V0a,if_neg hj]
 have hat:(V7v x i on).testBit i=on:=by rw[V0a,if_pos rfl]
 constructor
 ·rintro rfl;exact V2n _ _ i n hi hne (by simpa using h) hat
 ·rintro rfl;exact V2n _ _ i n hi (fun j hj=>(hne j hj).symm) hat (by simpa using h)
theorem Z1m (n x:Nat):V7j n x≤n:=by
 have:=List.length_filter_le (fun i=>x.testBit i) (List.range n)
 rwa [List.length_range] at this
@[reducible] def BM1 (p n x:Nat):Q0e:=BM p n [x] (V7j n x)
theorem G0p [Q0i] (p n x i:Nat) (on:Bool) (hb:Y2j n x) (hi:i < n) {w:World} {fr:List Q0e} (H:Q0a w (BM1 p n x::fr)):Calls Tryz.prog 249 #[pp p,.int .i64 i,.bool on] w (ret fun v w'=>Q0a w' (BM1 p n (V7v x i on)::fr)):=by
 have hle:=hb.le;have h64:=hb.lt64;have hcl:=Z1m n x;have hcl2:=Z1m n (V7v x i on);refine Q0c Tryz.func249 rfl (by kernel_rfl) ?_;refine J6 H ?_;refine Jc rfl rfl (G0o p n x _ i hb hi H) ?_;clear H;rintro v w ⟨rfl,H⟩;refine Jv ?_;refine Q0s rfl (V0t rfl rfl (.inl rfl) rfl ?_);refine U3v H ?_;refine V8i rfl (fun h=>?_) (fun h=>Q0w ?_)
 ·have h1:x.testBit i=on:=by simpa [Q6w] using h
  have e:V7v x i on=x:=if_pos h1;rw[e];exact Q0g (Jy H rfl fun w' H'=>H')
 ·have h1:x.testBit i≠on:=by simpa [Q6w] using h
  have e:V7v x i on=x ^^^ 2 ^ i:=if_neg h1;obtain⟨c1,c0⟩:=G5m hi h1;obtain⟨b,cap,spare,H,hclose⟩:=V5k H;have h2i:2 ^ i < 18446744073709551616:=Nat.lt_of_lt_of_le (Nat.pow_lt_pow_right (by decide) (show i < 64 by omega)) (Nat.le_refl _);have e2:G4l .u64 ((1:Nat):Int) (i:Int)=((2 ^ i:Nat):Int):=by rw[Z1c (by omega),Nat.one_mul,Nat.mod_eq_of_lt h2i]
  have e3:V5c .xor .u64 (x:Int) ((2 ^ i:Nat):Int)=((V7v x i on:Nat):Int):=by rw[G0d h64 h2i,e]
  refine J1 H ?_;clear H;intro w H;refine J27 H ?_;refine Jl 3 [13] H ?_;refine J54 H ?_;rw[q64 (show i < 64 by omega)];refine Q4z 6 rfl (Q0n.none rfl) rfl rfl (by decide) (by decide) (by kernel_rfl) ?_;refine Jl 7 [13] H ?_;refine Ja 8 ?_;refine Ja 9 ?_;rw[r64 (show i < 64 by omega)]
  refine Z0w (v := .int .u64 (G4l .u64 ((1:Nat):Int) (i:Int))) 10 rfl (Q0n.none rfl) (by
   show (if (i:Int) < 0 then none else some _)=_;rw[if_neg (by omega)];rfl) (by kernel_rfl) ?_
  rw[e2];refine Z0w (v := .int .u64 (V5c .xor .u64 (x:Int) ((2 ^ i:Nat):Int))) 11 rfl (Q0n.none rfl) rfl (by kernel_rfl) ?_;rw[e3];refine Q4z 12 rfl (Q0n.none rfl) rfl rfl (by decide) (by decide) (by kernel_rfl) ?_;refine Jo 13 H ?_;refine J55 H ?_;clear H;intro w H;refine Jx H ?_;refine J37 H ?_;refine J56 H ?_;clear H;intro w H;refine G9v H ?_;cases on with
  | true=>
   refine J13 H ?_;refine J37 H ?_;refine J56 H ?_;clear H;intro w H;refine Q0h ?_
   have hc:IntKind.i64.wrap (IntKind.i64.wrap ((V7j n x:Nat) - 1:Int)+2)=((V7j n (V7v x i true):Nat):Int):=by
    have:=c1 rfl;rw[Q1e (x:=((V7j n x:Nat):Int) - 1) (by omega) (by omega),Q1e (by omega) (by omega)];omega
   rw[hc] at H;exact Q2w _ (.inl rfl) (hclose _ _ _ _ H) rfl fun w' H'=>H'
  | false=>
   refine J9 H ?_
   have hc:IntKind.i64.wrap ((V7j n x:Nat) - 1:Int)=((V7j n (V7v x i false):Nat):Int):=by
    have:=c0 rfl;rw[Q1e (by omega) (by omega)];omega
   rw[hc] at H;exact Q2w _ (.inl rfl) (hclose _ _ _ _ H) rfl fun w' H'=>H'
end Go.Proofs.YtmjdnljneifpcaaGreatDoor
namespace Go.Proofs.YtmjdnljneifpcaaGreatDoor
open Go.SL
def V8x (x a:Nat):Nat→Bool→Nat
 | 0,_=>x
 | k+1,on=>V7v (V8x x a k on) (a+k) on
theorem Y7a (x a:Nat) (on:Bool) (j:Nat):∀ k,(V8x x a k on).testBit j=if a≤j∧j < a+k then on else x.testBit j
 | 0=>by simp[V8x];omega
 | k+1=>by
  show (V7v _ _ _).testBit j=_;rw[V0a,Y7a x a on j k];by_cases h1:j=a+k
  ·rw[if_pos h1,if_pos (by omega)]
  ·rw[if_neg h1];by_cases h2:a≤j∧j < a+k
   ·rw[if_pos h2,if_pos (by omega)]
   ·rw[if_neg h2,if_neg (by omega)]
theorem Y2j.fill {n x a:Nat} {on:Bool} (h:Y2j n x):∀ {k:Nat},a+k≤n→Y2j n (V8x x a k on)
 | 0,_=>h
 | k+1,hk=>Y2j.set (Y2j.fill h (by omega)) (by omega)
theorem Y7b [Q0i] (p n x a k:Nat) (on:Bool) (hb:Y2j n x) (hk:a+k≤n) {w:World} {fr:List Q0e} (H:Q0a w (BM1 p n x::fr)) :
  Calls Tryz.prog 213 #[pp p,.int .i64 a,.int .i64 k,.bool on] w (ret fun v w'=>v = .int .i64 0∧Q0a w' (BM1 p n (V8x x a k on)::fr)):=by
 have hle:=hb.le;refine Q0c Tryz.func213 rfl (by kernel_rfl) ?_;refine J5 H ?_;refine Q2s (fun ms σ w=>ms=[]∧σ 0=pp p∧σ 1 = .int .i64 a∧σ 2 = .int .i64 k∧σ 3 = .bool on∧Q0a w (BM1 p n x::fr)) ?_ ?_
 ·refine Q0t ?_;obtain⟨b,cap,spare,H,hclose⟩:=V5k H;refine U6o H ?_;refine U3s H ?_;refine J15 H ?_;rw[show decide ((k:Int) < 0)=false from decide_eq_false (by omega)];refine U6p H ?_;rw[show decide ((a:Int) < 0)=false from decide_eq_false (by omega)];refine J44 H ?_;refine J34 H ?_;refine J26 H ?_;rw[show decide ((a:Int) > (n:Int))=false from decide_eq_false (by omega)];refine J44 H ?_;refine J53 H ?_;refine J44 H ?_;refine J2 H ?_;rw[show decide ((k:Int) > IntKind.i64.wrap ((n:Int) - (a:Int)))=false from decide_eq_false (by rw[Q1e (by omega) (by omega)];omega)];refine J9 H ?_;exact .inl ⟨rfl,rfl,rfl,rfl,rfl,rfl,hclose _ _ _ _ H⟩
 ·clear H;rintro ms σ w ⟨rfl,g0,g1,g2,g3,H⟩;rw[Q0b g0,Q0b g1,Q0b g2,Q0b g3];refine J3 H ?_;refine J43 H ?_;refine Q1l (fun ms σ w q=>ms=[]∧∃ j:Nat,j≤k∧q=k - j∧σ 0=pp p∧σ 1 = .int .i64 a∧σ 2 = .int .i64 k∧σ 3 = .bool on∧σ 9 = .int .i64 ((a+j:Nat):Int)∧Q0a w (BM1 p n (V8x x a j on)::fr)) (m:=k) ⟨rfl,0,by omega,rfl,rfl,rfl,rfl,rfl,rfl,H⟩ ?_;clear H;rintro ms σ w q ⟨rfl,j,hj,rfl,g0,g1,g2,g3,g9,H⟩;rw[Q0b g0,Q0b g1,Q0b g2,Q0b g3,Q0b g9];refine J89 H ?_;rw[Q1e (x:=(a:Int)+(k:Int)) (by omega) (by omega)];refine J7 H ?_;refine Q2d rfl (fun h=>Q0w ?_) (fun h=>Q1n ?_)
  ·have hlt:j < k:=by omega
   refine G9w H ?_;refine Jc rfl rfl (G0p p n _ (a+j) on (hb.fill (by omega)) (by omega) H) ?_;clear H;intro v w H;refine G9x H ?_;exact⟨_,⟨rfl,j+1,hlt,rfl,rfl,rfl,rfl,rfl,by rw[show ((a+(j+1):Nat):Int)=((a+j:Nat):Int)+1 by omega];exact Q2a (i:=a+j) (by omega),H⟩,by omega⟩
  ·have hge:j=k:=by omega
   subst hge;refine J14 H ?_;exact Q0g (Jy H rfl fun w' H'=>⟨rfl,H'⟩)
theorem V8y [Q0i] (p n x i:Nat) (on:Bool) (hb:Y2j n x) (hi:i < n) {w:World} {fr:List Q0e} (H:Q0a w (BM1 p n x::fr)) :
  Calls Tryz.prog 151 #[pp p,.int .i64 i,.bool on] w (ret fun v w'=>v = .int .i64 0∧Q0a w' (BM1 p n (V7v x i on)::fr)):=by
 refine Q0c Tryz.func151 rfl (by kernel_rfl) ?_;refine G9u H ?_;refine Jc rfl rfl (Y7b p n x i 1 on hb (by omega) H) ?_;clear H;rintro v w ⟨rfl,H⟩;refine J0 H ?_;exact Q0g (Jy H rfl fun w' H'=>⟨rfl,H'⟩)
theorem Y7c [Q0i] (n:Nat) (h1:0 < n) (h2:n≤1048576) {w:World} {fr:List Q0e} (H:Q0a w fr) :
  Calls Tryz.prog 144 #[.int .i64 n] w (ret fun v w'=>∃ p,v = .tuple #[pp p,.int .i64 0]∧Q0a w' (BM p n (List.replicate ((n+63) / 64) 0) 0::fr)):=by
 refine Q0c Tryz.func144 rfl (by kernel_rfl) ?_;refine J3 H ?_;refine J15 H ?_;rw[show decide ((n:Int) < 1)=false from decide_eq_false (by omega)];refine J33 H ?_;refine J0 H ?_;rw[show decide ((n:Int) > 1048576)=false from decide_eq_false (by omega)];refine J9 H ?_;refine J73 H ?_
 have e1:IntKind.i64.wrap (Int.tdiv (IntKind.i64.wrap ((n:Int)+63)) 64)=(((n+63) / 64:Nat):Int):=by
  rw[Q1e (x:=(n:Int)+63) (by omega) (by omega),Int.tdiv_eq_ediv_of_nonneg (by omega),Q1e (by omega) (by omega)];omega
 rw[e1];refine Q0s rfl (Q1r H rfl rfl (by decide) (by omega) rfl ?_);clear H;intro b14 w H;refine J60 H ?_;clear H;intro b16 w H;refine J2 H ?_
 have e:Q5q (Q1v (.int .u64 0)) ((n+63) / 64)=Q1b (List.replicate ((n+63) / 64) 0):=by
  rw[show Q1v (.int .u64 0)=[.int .u64 0] from rfl,V8t];simp[Q1b]
 rw[e] at H;exact Q0g (Jy (G5l H) rfl fun w' H'=>⟨_,rfl,H'⟩)
theorem Y4y {y:Nat} (h0:y≠0) (h:y < 18446744073709551616):Lib.ctz 64 y < 64∧y.testBit (Lib.ctz 64 y)=true∧∀ i,i < Lib.ctz 64 y→y.testBit i=false:=by
 obtain⟨m,hm,hk⟩:=Lib.ctzFrom_spec 64 y (by omega) h;have e:Lib.ctz 64 y=Lib.ctzFrom 64 y:=by simp[Lib.ctz,h0]
 rw[e];generalize Lib.ctzFrom 64 y=k at hm hk;subst hm;refine⟨hk,?_,fun i hi=>?_⟩
 ·rw[Nat.testBit_eq_decide_div_mod_eq,Nat.mul_div_cancel_left _ (Nat.two_pow_pos k)];simp
 ·rw[Nat.testBit_eq_decide_div_mod_eq]
  have:2 ^ k*(2*m+1) / 2 ^ i=2*(2 ^ (k - i - 1)*(2*m+1)):=by
   have h2:2 ^ k=2 ^ i*(2*2 ^ (k - i - 1)):=by
    rw[← Nat.pow_succ',← Nat.pow_add];congr 1;omega
   rw[h2,Nat.mul_assoc,Nat.mul_div_cancel_left _ (Nat.two_pow_pos i),Nat.mul_assoc]
  rw[this];simp
theorem Z1n [Q0i] (x:Nat) (hx:x < 18446744073709551616) {w:World} {fr:List Q0e} [hT:Q4t 0 Lib.deBruijn64tab fr] (H:Q0a w fr):Calls Tryz.prog 219 #[.int .u64 x] w (ret fun v w'=>v = .int .i64 (Lib.ctz 64 x)∧Q0a w' fr):=by
 refine(Any7.bits_TrailingZeros64 Tryz.laysTz x hx w (fun _=>hT.tab w H.1)).mono ?_;rintro e w' ⟨rfl,rfl⟩;exact⟨rfl,H⟩
theorem G0q {x i:Nat} (hx:x < 18446744073709551616):(18446744073709551615 - x).testBit i=(decide (i < 64) && !x.testBit i):=by
 have e:18446744073709551615 - x=2 ^ 64 - (x+1):=by omega
 rw[e,Nat.testBit_two_pow_sub_succ hx]
theorem G0r (x a i:Nat):(x / 2 ^ a).testBit i=x.testBit (a+i):=by
 rw[Nat.testBit_div_two_pow,Nat.add_comm]
def U5g (n x a:Nat) (v:Value):Prop:=
 (∃ j:Nat,v = .tuple #[.int .i64 j,.bool true]∧a≤j∧j < n∧x.testBit j=false∧∀ i,a≤i→i < j→x.testBit i=true)∨(v = .tuple #[.int .i64 0,.bool false]∧∀ i,a≤i→i < n→x.testBit i=true)
theorem V5l [Q0i] (p n x a m:Nat) (hb:Y2j n x) (ha:a≤n) {w:World} {fr:List Q0e} [hT:Q4t 0 Lib.deBruijn64tab fr] (H:Q0a w (BM p n [x] m::fr)) :
  Calls Tryz.prog 150 #[pp p,.int .i64 a] w (ret fun v w'=>U5g n x a v∧Q0a w' (BM p n [x] m::fr)):=by
 have hle:=hb.le;have h64:=hb.lt64;refine Q0c Tryz.func150 rfl (by kernel_rfl) ?_;refine U6h H ?_;refine U1w H ?_;rw[show (if (0:Int) > (a:Int) then (0:Int) else (a:Int))=(a:Int) from if_neg (by omega)];refine J18 H ?_;refine Q2s (fun ms σ w=>ms=[]∧∃ j:Nat,σ 0=pp p∧σ 1 = .int .i64 j∧a≤j∧j≤64∧(∀ i,a≤i→i < j→x.testBit i=true)∧(j < n→x.testBit j=false)∧Q0a w (BM p n [x] m::fr)) ?_ ?_
 ·refine Q0t ?_;refine Q1l (fun ms σ w q=>ms=[]∧q=0∧σ 0=pp p∧σ 1 = .int .i64 a∧Q0a w (BM p n [x] m::fr)) (m:=0) ⟨rfl,rfl,rfl,rfl,H⟩ ?_;clear H;rintro ms σ w q ⟨rfl,rfl,g0,g1,H⟩;rw[Q0b g0,Q0b g1];refine J6 H ?_;refine Jc rfl rfl (Y4w p n _ _ H) ?_;clear H;rintro v w ⟨rfl,H⟩;refine J18 H ?_;refine Q2d rfl (fun h=>Q0w ?_) (fun h=>Q1n ?_)
  ·have hlt:a < n:=by omega
   have hq:(18446744073709551615 - x) / 2 ^ a < 18446744073709551616:=Nat.lt_of_le_of_lt (Nat.div_le_self _ _) (by omega);have hbit:∀ i,((18446744073709551615 - x) / 2 ^ a).testBit i=(decide (a+i < 64) && !x.testBit (a+i)):=fun i=>by rw[G0r,G0q h64]
   have hne:(18446744073709551615 - x) / 2 ^ a≠0:=fun e=>by
    have:=hbit (63 - a);rw[e,Nat.zero_testBit,show a+(63 - a)=63 by omega,Y4x hb.lt hle] at this;simp at this
   obtain⟨c1,c2,c3⟩:=Y4y hne hq;refine J43 H ?_;obtain⟨b,cap,spare,H,hclose⟩:=V5k H;refine J37 H ?_;rw[q64 (show a < 64 by omega)];refine Q0s rfl (Q2k rfl rfl (by decide) (by decide) rfl ?_);refine J86 H ?_;refine Q0s rfl (G5f h64 rfl rfl ?_);refine J26 H ?_;rw[r64 (show a < 64 by omega)]
   refine V5d (v := .int .u64 (Z9w .u64 ((18446744073709551615 - x:Nat):Int) (a:Int))) (by
    show (if (a:Int) < 0 then none else some _)=_;rw[if_neg (by omega)]) rfl ?_
   rw[V8s (k := .u64) (by omega) rfl];refine J22 H ?_;generalize (18446744073709551615 - x) / 2 ^ a=y at *;rw[show ((y:Int) != 0)=true by simp;omega];refine J13 H ?_;replace H:=hclose _ _ _ _ H;refine J6 H ?_;refine Jc rfl rfl (Z1n y hq H) ?_;clear H;rintro v w ⟨rfl,H⟩;refine J2 H ?_;have hk:=hbit (Lib.ctz 64 y);rw[c2] at hk;simp at hk;refine Q1n (.inl ⟨rfl,rfl,a+Lib.ctz 64 y,rfl,?_,by omega,by omega,fun i h1 h2=>?_,fun _=>by simpa using hk.2,H⟩)
   ·show Value.int .i64 (IntKind.i64.wrap ((a:Int)+(Lib.ctz 64 y:Nat)))=_;rw[Q1e (by omega) (by omega)];congr 1
   ·have:=hbit (i - a);rw[c3 (i - a) (by omega),show a+(i - a)=i by omega] at this;simp at this;exact this (by omega)
  ·have hge:a=n:=by omega
   exact .inl ⟨rfl,rfl,a,rfl,rfl,by omega,by omega,fun i h1 h2=>by omega,fun h=>by omega,H⟩
 ·clear H;rintro ms σ w ⟨rfl,j,g0,g1,h1,h2,h3,h4,H⟩;rw[Q0b g0,Q0b g1];refine J6 H ?_;refine Jc rfl rfl (Y4w p n _ _ H) ?_;clear H;rintro v w ⟨rfl,H⟩;refine J18 H ?_;refine Q2d rfl (fun h=>?_) (fun h=>Q0w ?_)
  ·refine J3 H ?_;exact Q0g (Jy H rfl fun w' H'=>⟨.inr ⟨rfl,fun i h5 h6=>h3 i h5 (by omega)⟩,H'⟩)
  ·refine J11 H ?_;exact Q0g (Jy H rfl fun w' H'=>⟨.inl ⟨j,rfl,h1,by omega,h4 (by omega),h3⟩,H'⟩)
theorem G0s [Q0i] (p n x a m:Nat) (hb:Y2j n x) (ha:a≤n) {w:World} {fr:List Q0e} [hT:Q4t 0 Lib.deBruijn64tab fr] (H:Q0a w (BM p n [x] m::fr)) :
  Calls Tryz.prog 182 #[pp p,.int .i64 a] w (ret fun v w'=>(∃ e:Nat,v = .int .i64 e∧a≤e∧e≤n∧(∀ i,a≤i→i < e→x.testBit i=false)∧(e < n→x.testBit e=true))∧Q0a w' (BM p n [x] m::fr)):=by
 have hle:=hb.le;have h64:=hb.lt64;refine Q0c Tryz.func182 rfl (by kernel_rfl) ?_;refine J5 H ?_;refine Q2s (fun ms σ w=>ms=[]∧σ 0=pp p∧(∀ i,a≤i→i < n→x.testBit i=false)∧Q0a w (BM p n [x] m::fr)) ?_ ?_
 ·refine Q0t ?_
  refine Q1l (fun ms σ w q=>ms=[]∧∃ j:Nat,(q=if j < n then 1 else 0)∧(j < n→j=a)∧σ 0=pp p∧σ 1 = .int .i64 j∧(j < n∨∀ i,a≤i→i < n→x.testBit i=false)∧Q0a w (BM p n [x] m::fr)) (m:=if a < n then 1 else 0) ⟨rfl,a,rfl,fun _=>rfl,rfl,rfl,by
   by_cases h:a < n
   ·exact .inl h
   ·exact .inr fun i h1 h2=>by omega,H⟩ ?_
  clear H;rintro ms σ w q ⟨rfl,j,rfl,hj,g0,g1,h5,H⟩;rw[Q0b g0,Q0b g1];obtain⟨b,cap,spare,H,hclose⟩:=V5k H;refine U1x H ?_;refine J18 H ?_;refine Q2d rfl (fun h=>Q0w ?_) (fun h=>Q1n ?_)
  ·have hlt:j < n:=by omega
   have:=hj hlt;subst this;have hq:x / 2 ^ j < 18446744073709551616:=Nat.lt_of_le_of_lt (Nat.div_le_self _ _) (by omega);have hbit:∀ i,(x / 2 ^ j).testBit i=x.testBit (j+i):=fun i=>by rw[G0r]
   refine J43 H ?_;refine J37 H ?_;rw[q64 (show j < 64 by omega)];refine Q0s rfl (Q2k rfl rfl (by decide) (by decide) rfl ?_);refine J86 H ?_;refine J26 H ?_;rw[r64 (show j < 64 by omega)]
   refine V5d (v := .int .u64 (Z9w .u64 (x:Int) (j:Int))) (by
    show (if (j:Int) < 0 then none else some _)=_;rw[if_neg (by omega)]) rfl ?_
   rw[V8s (k := .u64) (by omega) rfl];refine J22 H ?_;replace H:=hclose _ _ _ _ H;generalize x / 2 ^ j=y at *;refine J7 H ?_;by_cases hy:y=0
   ·rw[show ((y:Int) != 0)=false by simp[hy]];refine J9 H ?_;refine J89 H ?_;refine⟨_,⟨rfl,64,rfl,fun h=>by omega,rfl,?_,.inr fun i h1 h2=>?_,H⟩,by rw[if_pos hlt,if_neg (by omega)];decide⟩
    ·show Value.int .i64 (IntKind.i64.wrap (IntKind.i64.wrap (IntKind.i64.wrap (Int.tdiv (j:Int) 64)+1)*64))=_;rw[q64 (show j < 64 by omega)];rfl
    ·have:=hbit (i - j);rw[hy,Nat.zero_testBit,show j+(i - j)=i by omega] at this;exact this.symm
   ·rw[show ((y:Int) != 0)=true by simp;omega];refine J13 H ?_;obtain⟨c1,c2,c3⟩:=Y4y hy hq;refine J6 H ?_;refine Jc rfl rfl (Z1n y hq H) ?_;clear H;rintro v w ⟨rfl,H⟩;refine J2 H ?_;have hk:=hbit (Lib.ctz 64 y);rw[c2] at hk
    have hn:j+Lib.ctz 64 y < n:=by
     rcases Nat.lt_or_ge (j+Lib.ctz 64 y) n with h|h
     ·exact h
     ·rw[Y4x hb.lt h] at hk;cases hk
    refine Q0g (.inr ⟨by simp,Jy H rfl fun w' H'=>⟨⟨j+Lib.ctz 64 y,?_,by omega,by omega,fun i h1 h2=>?_,fun _=>hk.symm⟩,H'⟩⟩)
    ·show Value.int .i64 (IntKind.i64.wrap ((j:Int)+(Lib.ctz 64 y:Nat)))=_;rw[Q1e (by omega) (by omega)];congr 1
    ·have:=hbit (i - j);rw[c3 (i - j) (by omega),show j+(i - j)=i by omega] at this;exact this.symm
  ·exact .inl ⟨rfl,rfl,rfl,by
    rcases h5 with h5|h5
    ·omega
    ·exact h5,hclose _ _ _ _ H⟩
 ·clear H;rintro ms σ w ⟨rfl,g0,h1,H⟩;rw[Q0b g0];obtain⟨b,cap,spare,H,hclose⟩:=V5k H;refine J29 H ?_;refine J0 H ?_;exact Q0g (Jy (hclose _ _ _ _ H) rfl fun w' H'=>⟨⟨n,rfl,ha,Nat.le_refl _,h1,fun h=>by omega⟩,H'⟩)
def X0c (n x k:Nat) (v:Value):Prop:=
 (∃ a:Nat,v = .tuple #[.int .i64 a,.bool true]∧a+k≤n∧∀ i,a≤i→i < a+k→x.testBit i=false) ∨
 (v = .tuple #[.int .i64 0,.bool false]∧∀ a,a+k≤n→∃ i,a≤i∧i < a+k∧x.testBit i=true)
theorem G5n [Q0i] (p n x k m:Nat) (hb:Y2j n x) (hk:1≤k) (hk2:k < 1000000) {w:World} {fr:List Q0e} [hT:Q4t 0 Lib.deBruijn64tab fr] (H:Q0a w (BM p n [x] m::fr)) :
  Calls Tryz.prog 212 #[pp p,.int .i64 k] w (ret fun v w'=>X0c n x k v∧Q0a w' (BM p n [x] m::fr)):=by
 have hle:=hb.le;refine Q0c Tryz.func212 rfl (by kernel_rfl) ?_;refine J3 H ?_;refine J3 H ?_;rw[show decide ((k:Int) < 1)=false from decide_eq_false (by omega)];refine U1y H ?_;refine Jc rfl rfl (V5l p n x 0 m hb (by omega) H) ?_;clear H;rintro v w ⟨hF,H⟩
 have hI:∃ (j:Nat) (ok:Bool),v = .tuple #[.int .i64 j,.bool ok]∧(ok=true→j < n∧x.testBit j=false∧∀ a,a < j→a+k≤n→∃ i,a≤i∧i < a+k∧x.testBit i=true) ∧
   (ok=false→∀ a,a+k≤n→∃ i,a≤i∧i < a+k∧x.testBit i=true):=by
  rcases hF with ⟨j,rfl,_,h2,h3,h4⟩|⟨rfl,h2⟩
  ·exact⟨j,true,rfl,fun _=>⟨h2,h3,fun a ha _=>⟨a,Nat.le_refl _,by omega,h4 a (by omega) ha⟩⟩,fun h=>by cases h⟩
  ·exact⟨0,false,rfl,(fun h=>by cases h),fun _ a ha=>⟨a,Nat.le_refl _,by omega,h2 a (by omega) (by omega)⟩⟩
 obtain⟨j,ok,rfl,hok,hno⟩:=hI;refine G9y H ?_;refine Q0t ?_
 refine Q1l (fun ms σ w q=>ms=[]∧∃ (j:Nat) (ok:Bool),(q=if ok then n - j else 0)∧σ 0=pp p∧σ 1 = .int .i64 k∧σ 6 = .int .i64 j∧σ 7 = .bool ok∧(ok=true→j < n∧x.testBit j=false∧∀ a,a < j→a+k≤n→∃ i,a≤i∧i < a+k∧x.testBit i=true) ∧
   (ok=false→∀ a,a+k≤n→∃ i,a≤i∧i < a+k∧x.testBit i=true)∧Q0a w (BM p n [x] m::fr)) (m:=if ok then n - j else 0) ⟨rfl,j,ok,rfl,rfl,rfl,rfl,rfl,hok,hno,H⟩ ?_
 clear H hF hok hno;rintro ms σ w q ⟨rfl,j,ok,rfl,g0,g1,g6,g7,hok,hno,H⟩;rw[Q0b g0,Q0b g1,Q0b g6,Q0b g7];refine J5 H ?_;cases ok with
 | true=>
  obtain⟨h1,h2,h3⟩:=hok rfl;refine J74 H ?_;refine J90 H ?_;refine Jc rfl rfl (G0s p n x j m hb (by omega) H) ?_;clear H;rintro v w ⟨⟨e,rfl,e1,e2,e3,e4⟩,H⟩;refine J0 H ?_;refine J89 H ?_;rw[Q1e (x:=(e:Int) - (j:Int)) (by omega) (by omega)];refine J7 H ?_;refine Q2d rfl (fun h=>?_) (fun h=>Q0w ?_)
  ·refine J11 H ?_;exact Q0g (Jy H rfl fun w' H'=>⟨.inl ⟨j,rfl,by omega,fun i h5 h6=>e3 i h5 (by omega)⟩,H'⟩)
  ·have hej:j < e:=by
    rcases Nat.lt_or_ge j e with h|h
    ·exact h
    ·have:e=j:=by omega
     subst this;have:=e4 h1;rw[h2] at this;cases this
   have hF:∀ a,a≤e→a+k≤n→∃ i,a≤i∧i < a+k∧x.testBit i=true:=fun a ha hk'=>by
    rcases Nat.lt_or_ge a j with h'|h'
    ·exact h3 a h' hk'
    ·exact⟨e,ha,by omega,e4 (by omega)⟩
   refine J6 H ?_;refine Jc rfl rfl (V5l p n x e m hb (by omega) H) ?_;clear H;rintro v w ⟨hF2,H⟩
   rcases hF2 with ⟨j2,rfl,f1,f2,f3,f4⟩|⟨rfl,f2⟩
   ·refine U8w H ?_;refine⟨_,⟨rfl,j2,true,rfl,rfl,rfl,rfl,rfl,fun _=>⟨f2,f3,fun a ha hk'=>?_⟩,(fun h=>by cases h),H⟩,by simp;omega⟩
    rcases Nat.lt_or_ge e a with h'|h'
    ·exact⟨a,Nat.le_refl _,by omega,f4 a (by omega) ha⟩
    ·exact hF a h' hk'
   ·refine U8w H ?_;refine⟨_,⟨rfl,0,false,rfl,rfl,rfl,rfl,rfl,(fun h=>by cases h),fun _ a hk'=>?_,H⟩,by simp;omega⟩
    rcases Nat.lt_or_ge e a with h'|h'
    ·exact⟨a,Nat.le_refl _,by omega,f2 a (by omega) (by omega)⟩
    ·exact hF a h' hk'
 | false=>
  refine J91 H ?_;refine J3 H ?_;exact Q0g (Jy H rfl fun w' H'=>⟨.inr ⟨rfl,hno rfl⟩,H'⟩)
end Go.Proofs.YtmjdnljneifpcaaGreatDoor
namespace Go.Proofs.YtmjdnljneifpcaaGreatDoor
open Go.SL
def Q0u (l:List Nat):List Value:=l.map fun x:Nat=>Value.int .i64 (x:Int)
theorem Q0d (l:List Nat):(Q0u l).length=l.length*1:=by simp[Q0u]
theorem Q3s (a b:List Nat):Q0u (a++b)=Q0u a++Q0u b:=by simp[Q0u]
theorem Q2r {l:List Nat} {spare:List Value} {i x:Nat} (h:l[i]? = some x):(Q0u l++spare)[0+i*1]? = some (.int .i64 x):=by
 have hi:=(List.getElem?_eq_some_iff.1 h).1;rw[Nat.zero_add,Nat.mul_one,List.getElem?_append_left (by simpa [Q0u] using hi)];simp[Q0u,h]
theorem V1p {l:List Nat} {spare:List Value} {i x:Nat} (h:i < l.length):(Q0u l++spare).set (0+i*1) (.int .i64 x)=Q0u (l.set i x)++spare:=by
 rw[Nat.zero_add,Nat.mul_one,List.set_append_left _ _ (by simpa [Q0u] using h)];simp[Q0u,List.map_set]
theorem Y2l {l:List Nat} {spare:List Value} {i x:Nat} (h:i < l.length):(Q1b l++spare).set (0+i*1) (.int .u64 x)=Q1b (l.set i x)++spare:=by
 rw[Nat.zero_add,Nat.mul_one,List.set_append_left _ _ (by simpa [Q1b] using h)];simp[Q1b,List.map_set]
@[reducible] def NL (v:Value) (l:List Nat):Q0e:=sls 3 1 v (Q0u l)
theorem U0i {a b:Nat} (h:a < 9223372036854775808):IntKind.i64.wrap (Int.tdiv (a:Int) (b:Int))=((a / b:Nat):Int):=by
 have hle:a / b≤a:=Nat.div_le_self _ _;rw[Int.tdiv_eq_ediv_of_nonneg (by omega),← Int.natCast_ediv];generalize a / b=q at hle;exact Q1e (by omega) (by omega)
structure G8s (size:Nat) (mem own ws:List Nat) (many:Nat):Prop where
 s1:1≤size
 s2:size≤1024
 c1:1≤own.length
 c2:own.length≤1024
 len:mem.length=own.length*size
 many:many=(own.filter (· != 0)).length
 one:own.length≤63→∃ x,ws=[x]∧x < 2 ^ own.length∧∀ c,c < own.length→x.testBit c=decide (own.getD c 0≠0)
theorem V7w:∀ (own:List Nat) (x:Nat),(∀ c,c < own.length→x.testBit c=decide (own.getD c 0≠0))→V7j own.length x=(own.filter (· != 0)).length
 | own,x,h=>by
  unfold V7j
  have e:(List.range own.length).filter (fun i=>x.testBit i)=(List.range own.length).filter (fun i=>own.getD i 0 != 0):=by
   apply List.filter_congr;intro i hi;rw[List.mem_range] at hi;show x.testBit i=(own.getD i 0 != 0);rw[h i hi];generalize own.getD i 0=z;cases z <;> simp
  rw[e];clear e h
  have:∀ (l:List Nat),((List.range l.length).filter (fun i=>l.getD i 0 != 0)).length=(l.filter (· != 0)).length:=by
   intro l
   have e2:l.filter (· != 0)=((List.range l.length).filter (fun i=>l.getD i 0 != 0)).map (fun i=>l.getD i 0):=by
    have e3:l=(List.range l.length).map (fun i=>l.getD i 0):=by
     apply List.ext_getElem?;intro i;by_cases hi:i < l.length
     ·rw[List.getElem?_map,List.getElem?_range hi,List.getElem?_eq_getElem hi];simp[hi]
     ·rw[List.getElem?_eq_none (by omega),List.getElem?_eq_none (by simp;omega)]
    conv=>lhs;rw[e3]
    rw[List.filter_map];rfl
   rw[e2,List.length_map]
  exact this own
def ST (p size:Nat) (mem own:List Nat):Q0e:=ex fun q:Value×Value×Nat×List Nat×Nat=>
 star [prop (G8s size mem own q.2.2.2.1 q.2.2.2.2),pts p (row 141 [q.1,.int .i64 size,q.2.1,pp q.2.2.1]),UL q.1 mem,NL q.2.1 own,BM q.2.2.1 own.length q.2.2.2.1 q.2.2.2.2]
theorem Q8t [Q0i] {w:World} {p size:Nat} {mem own:List Nat} {l:List Q0e} (H:Q0a w (ST p size mem own::l)):∃ v v2 u ws many,G8s size mem own ws many ∧
  Q0a w (pts p (row 141 [v,.int .i64 size,v2,pp u])::UL v mem::NL v2 own::BM u own.length ws many::l):=by
 obtain⟨⟨v,v2,u,ws,many⟩,H⟩:=Q0a.ex.1 H;have H:=Q0a.star.1 H;obtain⟨h,H⟩:=Q0a.prop.1 H;exact⟨v,v2,u,ws,many,h,H⟩
theorem V1y [Q0i] {w:World} {p size:Nat} {mem own:List Nat} {l:List Q0e} {v v2:Value} {u:Nat} {ws:List Nat} {many:Nat} (h:G8s size mem own ws many)
  (H:Q0a w (pts p (row 141 [v,.int .i64 size,v2,pp u])::UL v mem::NL v2 own::BM u own.length ws many::l)):Q0a w (ST p size mem own::l):=
 Q0a.ex.2 ⟨(v,v2,u,ws,many),Q0a.star.2 (Q0a.prop.2 ⟨h,H⟩)⟩
theorem G0t [Q0i] (n size:Nat) (h1:1≤n) (h2:n≤1024) (h3:1≤size) (h4:size≤1024) {w:World} {fr:List Q0e} (H:Q0a w fr) :
  Calls Tryz.prog 80 #[.int .i64 n,.int .i64 size] w (ret fun v w'=>∃ p,v = .tuple #[pp p,.int .i64 0]∧Q0a w' (ST p size (List.replicate (n*size) 0) (List.replicate n 0)::fr)):=by
 have hns:n*size≤1048576:=Nat.mul_le_mul h2 h4;refine Q0c Tryz.func80 rfl (by kernel_rfl) ?_;refine J3 H ?_;refine J15 H ?_;rw[show decide ((n:Int) < 1)=false from decide_eq_false (by omega)];refine U6p H ?_;rw[show decide ((n:Int) > 1024)=false from decide_eq_false (by omega)];refine U6p H ?_;rw[show decide ((size:Int) < 1)=false from decide_eq_false (by omega)];refine J33 H ?_;refine J0 H ?_;rw[show decide ((size:Int) > 1024)=false from decide_eq_false (by omega)];refine U1y H ?_;refine Jc rfl rfl (Y7c n (by omega) (by omega) H) ?_;clear H;rintro v w ⟨u,rfl,H⟩;refine U6n H ?_;clear H;intro w H;refine Ja 0 ?_;refine Ja 1 ?_;refine Ja 2 ?_;refine J54 H ?_;refine Ja 7 ?_
 have e1:IntKind.i64.wrap ((n:Int)*(size:Int))=((n*size:Nat):Int):=by
  rw[← Int.natCast_mul,Q1e (by omega) (by omega)]
 rw[e1]
 have hok:G8s size (List.replicate (n*size) 0) (List.replicate n 0) (List.replicate (((List.replicate n 0).length+63) / 64) 0) 0:=by
  refine⟨h3,h4,by simpa using h1,by simpa using h2,by simp,by simp,fun h=>⟨0,?_,Nat.two_pow_pos _,fun c hc=>?_⟩⟩
  ·have:((List.replicate n 0:List Nat).length+63) / 64=1:=by simp at h ⊢;omega
   rw[this];rfl
  ·have hc':c < n:=by simpa using hc
   simp[Nat.zero_testBit,hc']
 have z1:Q5q (Q1v (.int .u64 0)) (n*size)=Q1b (List.replicate (n*size) 0):=by
  rw[show Q1v (.int .u64 0)=[.int .u64 0] from rfl,V8t];simp[Q1b]
 have z2:Q5q (Q1v (.int .i64 0)) n=Q0u (List.replicate n 0):=by
  rw[show Q1v (.int .i64 0)=[.int .i64 0] from rfl,V8t];simp[Q0u]
 have hl:(List.replicate n 0:List Nat).length=n:=by simp
 rw[hl] at hok;refine Jw 3 6 H rfl rfl (Q1r H rfl rfl (by decide) (by omega) rfl ?_) (Q1r H rfl rfl (by decide) (by omega) rfl ?_)
 ·clear H;intro b30 w H;rw[z1] at H;refine Jo 6 H ?_;refine Q1r H rfl rfl (by decide) (by omega) rfl ?_;clear H;intro b33 w H;rw[z2] at H;refine Q5r 8 rfl (Q0n.none rfl) rfl (by kernel_rfl) ?_;refine Jo 9 H ?_;refine V5f H rfl rfl ?_;clear H;intro b36 w H;refine U6q H ?_;replace H:=Js [0,1,0,0] 0 H;have H:=V1y (own:=List.replicate n 0) hok (by rw[hl];exact H);exact Q0g (Jy H rfl fun w' H'=>⟨_,rfl,H'⟩)
 ·clear H;intro b33 w H;rw[z2] at H;refine Jo 3 H ?_;refine Q1r H rfl rfl (by decide) (by omega) rfl ?_;clear H;intro b30 w H;rw[z1] at H;refine Q5r 8 rfl (Q0n.none rfl) rfl (by kernel_rfl) ?_;refine Jo 9 H ?_;refine V5f H rfl rfl ?_;clear H;intro b36 w H;refine U6q H ?_;have H:=V1y (own:=List.replicate n 0) hok (by rw[hl];exact H);exact Q0g (Jy H rfl fun w' H'=>⟨_,rfl,H'⟩)
theorem V8z [Q0i] (p size:Nat) (mem own:List Nat) {w:World} {fr:List Q0e} (H:Q0a w (ST p size mem own::fr)):Calls Tryz.prog 16 #[pp p] w (ret fun v w'=>v = .int .i64 own.length∧Q0a w' (ST p size mem own::fr)):=by
 obtain⟨v,v2,u,ws,many,hok,H⟩:=Q8t H;obtain⟨a2,c2,rfl⟩:=Q0j (H.drop.drop) (Q0d own) (by decide);refine Q0c Tryz.func16 rfl (by kernel_rfl) ?_;refine G8f H ?_;refine J57 H ?_;exact Q0g (Jy (V1y hok H) rfl fun w' H'=>⟨rfl,H'⟩)
theorem V1q [Q0i] (p size:Nat) (mem own:List Nat) {w:World} {fr:List Q0e} (H:Q0a w (ST p size mem own::fr)):Calls Tryz.prog 49 #[pp p] w (ret fun v w'=>v = .int .i64 size∧Q0a w' (ST p size mem own::fr)):=by
 obtain⟨v,v2,u,ws,many,hok,H⟩:=Q8t H;refine Q0c Tryz.func49 rfl (by kernel_rfl) ?_;refine G8f H ?_;refine J0 H ?_;exact Q0g (Jy (V1y hok H) rfl fun w' H'=>⟨rfl,H'⟩)
theorem G0u [Q0i] (p size:Nat) (mem own:List Nat) {w:World} {fr:List Q0e} (H:Q0a w (ST p size mem own::fr)):Calls Tryz.prog 15 #[pp p] w (ret fun v w'=>v = .int .i64 ((own.length - (own.filter (· != 0)).length:Nat):Int)∧Q0a w' (ST p size mem own::fr)):=by
 obtain⟨v,v2,u,ws,many,hok,H⟩:=Q8t H;obtain⟨a2,c2,rfl⟩:=Q0j (H.drop.drop) (Q0d own) (by decide);refine Q0c Tryz.func15 rfl (by kernel_rfl) ?_;refine U3w H ?_;refine J1 H ?_;clear H;intro w H;refine J61 H ?_;refine Q5g 4 rfl (Q0n.none rfl) rfl (by kernel_rfl) ?_;refine U3x H ?_;refine Jl 8 [9] H ?_;replace H:=Js [3,0,0,0] 0 H;refine Jo 9 H ?_;refine Jk rfl rfl (Y2k u _ _ _ H) ?_;clear H;rintro v w ⟨rfl,H⟩;refine U6q H ?_;replace H:=Js [1,1,1,0] 0 H;have hle:=List.length_filter_le (· != 0) own;have:=hok.many;have h2:=hok.c2;refine Q0g (Jy (V1y hok H) rfl fun w' H'=>⟨?_,H'⟩);show Value.int .i64 (IntKind.i64.wrap ((own.length:Int) - (many:Int)))=_;rw[Q1e (by omega) (by omega)];congr 1;omega
theorem Z6n [Q0i] (p size:Nat) (mem own:List Nat) (c:Nat) {w:World} {fr:List Q0e} (H:Q0a w (ST p size mem own::fr)) (hc:c < own.length):Calls Tryz.prog 48 #[pp p,.int .i64 c] w (ret fun v w'=>v = .int .i64 (own.getD c 0)∧Q0a w' (ST p size mem own::fr)):=by
 refine Q0c Tryz.func48 rfl (by kernel_rfl) ?_;refine G9u H ?_;rw[show decide ((c:Int) < 0)=false from decide_eq_false (by omega)];refine J33 H ?_;refine Q4u rfl rfl rfl (Q1h (a:=[]) (b:=[]) rfl rfl (call (V8z p size mem own H) ?_));clear H;rintro v w ⟨rfl,H⟩;refine U6r H ?_;rw[show decide ((c:Int)≥(own.length:Int))=false from decide_eq_false (by omega)];refine J9 H ?_;obtain⟨v,v2,u,ws,many,hok,H⟩:=Q8t H;replace H:=Js [2,0,0,0] 0 H;obtain⟨a2,c2,rfl⟩:=Q0j H (Q0d own) (by decide);obtain⟨b,s,rfl,H,hclose⟩:=Q0y H (by omega);have hx:=List.getElem?_eq_getElem hc;have hg:own.getD c 0=own[c]:=by simp[hc]
 rw[hg];generalize own[c]=x at hx;refine J10 H ?_;refine Jd ?_;refine Q0s rfl (Q0l H rfl (Q2r hx) rfl ?_);refine J0 H ?_;replace H:=hclose _ _ H;replace H:=Js [1,1,0,0] 0 H;exact Q0g (Jy (V1y hok H) rfl fun w' H'=>⟨rfl,H'⟩)
def V2o (size:Nat) (own:List Nat) (a n:Nat):Prop:=∀ c,a / size≤c→c≤(a+n - 1) / size→own.getD c 0≠0
theorem V5m [Q0i] (p size:Nat) (mem own:List Nat) (a n:Nat) (h1:1≤n) (h2:a+n≤mem.length) (h3:V2o size own a n) {w:World} {fr:List Q0e} (H:Q0a w (ST p size mem own::fr)) :
  Calls Tryz.prog 208 #[pp p,.int .i64 a,.int .i64 n] w (ret fun v w'=>v = .int .i64 0∧Q0a w' (ST p size mem own::fr)):=by
 obtain⟨v,v2,u,ws,many,hok,H⟩:=Q8t H;have hok':=hok;obtain⟨s1,s2,c1,c2,hlen,_,_⟩:=hok';have hmem:mem.length≤1048576:=by rw[hlen];exact Nat.mul_le_mul c2 s2
 have hdiv:(a+n - 1) / size < own.length:=by
  rw[Nat.div_lt_iff_lt_mul (by omega),← hlen];omega
 have hdd:a / size≤(a+n - 1) / size:=Nat.div_le_div_right (by omega);obtain⟨a1,k1,rfl⟩:=Q0j (H.drop) (Q1f mem) (by decide);obtain⟨a2,k2,rfl⟩:=Q0j (H.drop.drop) (Q0d own) (by decide);refine Q0c Tryz.func208 rfl (by kernel_rfl) ?_;refine G9u H ?_;rw[show decide ((n:Int) < 0)=false from decide_eq_false (by omega)];refine U6p H ?_;rw[show decide ((a:Int) < 0)=false from decide_eq_false (by omega)];refine J44 H ?_;refine U8x H ?_;refine J26 H ?_;rw[show decide ((a:Int) > (mem.length:Int))=false from decide_eq_false (by omega)];refine J44 H ?_;refine Q4u rfl rfl rfl (Q0q rfl rfl ?_);refine Q4u rfl rfl rfl (Q0l H rfl rfl rfl ?_);refine Q4u rfl rfl rfl (Q1z rfl rfl ?_);refine J44 H ?_;refine J0 H ?_;rw[show decide ((n:Int) > IntKind.i64.wrap ((mem.length:Int) - (a:Int)))=false from decide_eq_false (by rw[Q1e (by omega) (by omega)];omega)];refine U3y H ?_;rw[show ((n:Int) == 0)=false by simp;omega];refine J9 H ?_;refine U1x H ?_
 refine V5d (v := .int .i64 ((a / size:Nat):Int)) (by
  show (if IntKind.i64=IntKind.i64 then (if (size:Int)=0 then none else some _) else none)=_;rw[if_pos rfl,if_neg (by omega),U0i (by omega)]) rfl ?_
 refine J18 H ?_;refine Q0t ?_;refine Q1l (fun ms σ w q=>ms=[]∧∃ c:Nat,a / size≤c∧c≤(a+n - 1) / size+1∧q=(a+n - 1) / size+1 - c∧σ 0=pp p∧σ 1 = .int .i64 a∧σ 2 = .int .i64 n∧σ 7 = .int .i64 c∧Q0a w (pts p (row 141 [.slice a1 mem.length k1,.int .i64 size,.slice a2 own.length k2,pp u])::UL (.slice a1 mem.length k1) mem::NL (.slice a2 own.length k2) own::BM u own.length ws many::fr)) (m:=(a+n - 1) / size+1 - a / size) ⟨rfl,a / size,Nat.le_refl _,by omega,rfl,rfl,rfl,rfl,rfl,H⟩ ?_;clear H;rintro ms σ w q ⟨rfl,c,hc1,hc2,rfl,g0,g1,g2,g7,H⟩;rw[Q0b g0,Q0b g1,Q0b g2,Q0b g7];refine J6 H ?_;refine U3z H ?_;refine J45 H ?_;rw[Q1e (x:=(a:Int)+(n:Int)) (by omega) (by omega),Q1e (x:=(a:Int)+(n:Int) - 1) (by omega) (by omega),show (a:Int)+(n:Int) - 1=((a+n - 1:Nat):Int) by omega]
 refine V5d (v := .int .i64 (((a+n - 1) / size:Nat):Int)) (by
  show (if IntKind.i64=IntKind.i64 then (if (size:Int)=0 then none else some _) else none)=_;rw[if_pos rfl,if_neg (by omega),U0i (by omega)]) rfl ?_
 refine J18 H ?_;refine Q2d rfl (fun h=>Q0w ?_) (fun h=>Q1n ?_)
 ·have hcl:c < own.length:=by omega
  have hx:=List.getElem?_eq_getElem hcl;have hne:(own.getD c 0:Nat)≠0:=h3 c hc1 (by omega);have hg:own.getD c 0=own[c]:=by simp[hcl]
  rw[hg] at hne;generalize own[c]=y at hx hne;replace H:=Js [2,0,0,0] 0 H;obtain⟨b,s,rfl,H,hclose⟩:=Q0y H (by omega);refine G9z H ?_;refine Jd ?_;refine Q0s rfl (Q0l H rfl (Q2r hx) rfl ?_);refine J0 H ?_;rw[show ((y:Int) == 0)=false by simp;omega];refine J9 H ?_;replace H:=hclose _ _ H;replace H:=Js [1,1,0,0] 0 H;refine J11 H ?_;exact⟨_,⟨rfl,c+1,by omega,by omega,rfl,rfl,rfl,rfl,Q2a (by omega),H⟩,by omega⟩
 ·refine J14 H ?_;exact Q0g (Jy (V1y hok H) rfl fun w' H'=>⟨rfl,H'⟩)
end Go.Proofs.YtmjdnljneifpcaaGreatDoor
namespace Go.Proofs.YtmjdnljneifpcaaGreatDoor
open Go.SL
theorem V9a [Q0i] (p size:Nat) (mem own:List Nat) (a:Nat) (h2:a < mem.length) (h3:V2o size own a 1) {w:World} {fr:List Q0e} (H:Q0a w (ST p size mem own::fr)) :
  Calls Tryz.prog 180 #[pp p,.int .i64 a] w (ret fun v w'=>v = .tuple #[.int .u64 (mem.getD a 0),.int .i64 0]∧Q0a w' (ST p size mem own::fr)):=by
 refine Q0c Tryz.func180 rfl (by kernel_rfl) ?_;refine U6s H ?_;refine J6 H ?_;refine Jc rfl rfl (V5m p size mem own a 1 (by decide) (by omega) h3 H) ?_;clear H;rintro v w ⟨rfl,H⟩;refine J23 H ?_;obtain⟨v,v2,u,ws,many,hok,H⟩:=Q8t H;have H:=H.swap;obtain⟨a1,c1,rfl⟩:=Q0j H (Q1f mem) (by decide);obtain⟨b,s,rfl,H,hclose⟩:=Q0y H (by omega);have hx:=List.getElem?_eq_getElem h2;have hg:mem.getD a 0=mem[a]:=by simp[h2]
 rw[hg];generalize mem[a]=x at hx;refine J10 H ?_;refine Jd ?_;refine Q0s rfl (Q0l H rfl (V1o hx) rfl ?_);refine J2 H ?_;exact Q0g (Jy (V1y hok (hclose _ _ H).swap) rfl fun w' H'=>⟨rfl,H'⟩)
theorem G8s.mem {size:Nat} {mem mem' own ws:List Nat} {many:Nat} (h:G8s size mem own ws many) (e:mem'.length=mem.length):G8s size mem' own ws many:=⟨h.s1,h.s2,h.c1,h.c2,e.trans h.len,h.many,h.one⟩
theorem V1r [Q0i] (p size:Nat) (mem own:List Nat) (a x:Nat) (h2:a < mem.length) (h3:V2o size own a 1) {w:World} {fr:List Q0e} (H:Q0a w (ST p size mem own::fr)) :
  Calls Tryz.prog 125 #[pp p,.int .i64 a,.int .u64 x] w (ret fun v w'=>v = .int .i64 0∧Q0a w' (ST p size (mem.set a x) own::fr)):=by
 refine Q0c Tryz.func125 rfl (by kernel_rfl) ?_;refine U6t H ?_;refine Jc rfl rfl (V5m p size mem own a 1 (by decide) (by omega) h3 H) ?_;clear H;rintro v w ⟨rfl,H⟩;refine J22 H ?_;obtain⟨v,v2,u,ws,many,hok,H⟩:=Q8t H;have H:=H.swap;obtain⟨a1,c1,rfl⟩:=Q0j H (Q1f mem) (by decide);obtain⟨b,s,rfl,H,_,_,hclose⟩:=Q2n H (by omega);refine J7 H ?_;refine Q1m (fun ms σ w=>ms=[]∧σ 7 = .int .i64 0∧Q0a w (pts b (row 83 (Q1b (mem.set a x)++s))::pts p (row 141 [.slice (some ⟨b,0,none⟩) mem.length c1,.int .i64 size,v2,pp u])::NL v2 own::BM u own.length ws many::fr)) ?_ ?_
 ·refine Q3g rfl ?_;refine J37 H ?_;refine Jd ?_;refine Q0s rfl (Q2e H rfl rfl inferInstance rfl (by simp only[List.length_append,Q1f];omega) rfl ?_);clear H;intro w H;rw[Y2l (by omega)] at H;refine Q0h ?_;exact⟨rfl,rfl,rfl,H⟩
 ·clear H;rintro ms σ w ⟨rfl,g7,H⟩;rw[Q0b g7];refine J3 H ?_;exact Q0g (Jy (V1y (hok.mem (by simp)) (hclose _ _ _ (by simp[Q1b]) H).swap) rfl fun w' H'=>⟨rfl,H'⟩)
theorem Y4z [Q0i] (p size:Nat) (mem own:List Nat) (a n:Nat) (h1:1≤n) (h2:a+n≤mem.length) (h3:V2o size own a n) {w:World} {fr:List Q0e} (H:Q0a w (ST p size mem own::fr)) :
  Calls Tryz.prog 139 #[pp p,.int .i64 a,.int .i64 a,.int .i64 n] w (ret fun v w'=>v = .int .i64 0∧Q0a w' (ST p size mem own::fr)):=by
 refine Q0c Tryz.func139 rfl (by kernel_rfl) ?_;refine U3w H ?_;refine J15 H ?_;refine Jc rfl rfl (V5m p size mem own a n h1 h2 h3 H) ?_;clear H;rintro v w ⟨rfl,H⟩;refine U1z H ?_;refine Jc rfl rfl (V5m p size mem own a n h1 h2 h3 H) ?_;clear H;rintro v w ⟨rfl,H⟩;refine J84 H ?_;refine Q2s (fun ms σ w=>ms=[]∧σ 0=pp p∧σ 1 = .int .i64 a∧σ 2 = .int .i64 a∧σ 3 = .int .i64 n∧Q0a w (ST p size mem own::fr)) ?_ ?_
 ·refine Q0t ?_;refine U0a H ?_;refine J85 H ?_;refine U0a H ?_;refine U0b H ?_;exact .inl ⟨rfl,rfl,rfl,rfl,rfl,rfl,H⟩
 ·clear H;rintro ms σ w ⟨rfl,g0,g1,g2,g3,H⟩;rw[Q0b g0,Q0b g1,Q0b g2,Q0b g3];obtain⟨v,v2,u,ws,many,hok,H⟩:=Q8t H;have H:=H.swap;have hmem:mem.length≤1048576:=by rw[hok.len];exact Nat.mul_le_mul hok.c2 hok.s2
  obtain⟨a1,c1,rfl⟩:=Q0j H (Q1f mem) (by decide)
  rcases Q4n H with ⟨h,_⟩|⟨b,len,cap',s,h,e3,e4,e5,H⟩
  ·injection h with h4 h5 h6;omega
  injection h with h4 h5 h6
  subst h4 h5 h6
  have hrd:Q0o (Q1b mem++s) (0+a*1) ((a+n - a)*1) (Q1b ((mem.drop a).take n)):=by
   have e:(Q1b ((mem.drop a).take n)).length=(a+n - a)*1:=by simp[Q1b];omega
   rw[← e];refine Q0o.of_get fun j v hj=>?_;have hj':j < n:=by have:=(List.getElem?_eq_some_iff.1 hj).1;simp[Q1b] at this;omega
   rw[List.getElem?_append_left (by simp[Q1b];omega)];simp only[Q1b,List.getElem?_map,List.getElem?_take_of_lt hj',List.getElem?_drop] at hj;simp only[Q1b,List.getElem?_map,Nat.zero_add,Nat.mul_one];exact hj
  have hs1:(Q1b ((mem.drop a).take n)).all (·.oneCell')=true:=List.all_eq_true.2 fun v hv=>by
   simp only[Q1b,List.mem_map] at hv;obtain⟨x,_,rfl⟩:=hv;rfl
  refine J1 H ?_;clear H;intro w H;refine J27 H ?_;refine Jl 3 [18] H ?_;refine J54 H ?_;refine J75 H ?_;rw[Q1e (x:=(a:Int)+(n:Int)) (by omega) (by omega),show (a:Int)+(n:Int)=((a+n:Nat):Int) by omega];refine V0w 8 rfl (Q0n.none rfl) rfl rfl rfl (by omega) (by omega) (by omega) (by kernel_rfl) ?_;refine U4a H ?_;refine Jl 12 [18] H ?_;refine Ja 13 ?_;refine Ja 14 ?_;refine Ja 15 ?_;refine Ja 16 ?_;rw[Q1e (x:=(a:Int)+(n:Int)) (by omega) (by omega),show (a:Int)+(n:Int)=((a+n:Nat):Int) by omega];refine V0w 17 rfl (Q0n.none rfl) rfl rfl rfl (by omega) (by omega) (by omega) (by kernel_rfl) ?_;refine Jo 18 H ?_;refine Z1f H rfl rfl hrd (by simp only[List.length_append,Q1f];omega) hs1 rfl ?_;clear H;intro w H;refine U4b H ?_;exact Q0g (Jy (V1y hok (Q5x e3 e4 e5 H).swap) rfl fun w' H'=>⟨rfl,H'⟩)
def Q7v (l:List Nat) (a n v:Nat):List Nat:=l.take a++List.replicate n v++l.drop (a+n)
theorem Q0z {l:List Nat} {a n v:Nat} (h:a+n≤l.length):(Q7v l a n v).length=l.length:=by simp[Q7v];omega
theorem Q4c {l:List Nat} {a n v:Nat} (h:a+n≤l.length) (i:Nat):(Q7v l a n v)[i]? = if a≤i∧i < a+n then some v else l[i]?:=by
 unfold Q7v;by_cases h1:i < a
 ·rw[if_neg (by omega),List.append_assoc,List.getElem?_append_left (by simp;omega),List.getElem?_take_of_lt h1]
 ·have e1:(l.take a).length=a:=by simp;omega
  rw[List.append_assoc,List.getElem?_append_right (by omega),e1];by_cases h2:i < a+n
  ·rw[if_pos (by omega),List.getElem?_append_left (by simp;omega),List.getElem?_replicate,if_pos (by omega)]
  ·rw[if_neg (by omega),List.getElem?_append_right (by simp;omega),List.getElem?_drop,List.length_replicate];congr 1;omega
theorem Q7r {l:List Nat} {a n v:Nat} (h:a+n≤l.length) (i:Nat):(Q7v l a n v).getD i 0=if a≤i∧i < a+n then v else l.getD i 0:=by
 rw[List.getD_eq_getElem?_getD,Q4c h];split
 ·rfl
 ·rw[List.getD_eq_getElem?_getD]
theorem V4a {l:List Nat} {a v:Nat}:Q7v l a 0 v=l:=by simp[Q7v]
theorem Y7d {l:List Nat} {a n v:Nat} (h:a+n < l.length):(Q7v l a n v).set (a+n) v=Q7v l a (n+1) v:=by
 apply List.ext_getElem?;intro i;rw[List.getElem?_set,Q4c (by omega),Q4c (by omega),Q0z (by omega)];by_cases h1:a+n=i
 ·subst h1;rw[if_pos rfl,if_pos (by omega),if_pos (by omega)]
 ·rw[if_neg h1];by_cases h2:a≤i∧i < a+n
  ·rw[if_pos h2,if_pos (by omega)]
  ·rw[if_neg h2,if_neg (by omega)]
theorem V9b {size:Nat} {mem own ws:List Nat} {many:Nat} (h:G8s size mem own ws many) (h63:own.length≤63):∃ x,ws=[x]∧Y2j own.length x∧many=V7j own.length x∧∀ c,c < own.length→x.testBit c=decide (own.getD c 0≠0):=by
 obtain⟨x,h1,h2,h3⟩:=h.one h63;exact⟨x,h1,⟨h.c1,h63,h2⟩,by rw[V7w own x h3];exact h.many,h3⟩
theorem Y7e [Q0i] (p size:Nat) (mem own:List Nat) (o n:Nat) (h63:own.length≤63) (ho:1≤o) (hn:1≤n) (hn2:n < 1000000) {w:World} {fr:List Q0e} [hT:Q4t 0 Lib.deBruijn64tab fr] (H:Q0a w (ST p size mem own::fr)) :
  Calls Tryz.prog 134 #[pp p,.int .i64 o,.int .i64 n] w (ret fun v w'=>
   (∃ a:Nat,v = .tuple #[.int .i64 a,.int .i64 0]∧a+n≤own.length∧(∀ i,a≤i→i < a+n→own.getD i 0=0)∧Q0a w' (ST p size (Q7v mem (a*size) (n*size) 0) (Q7v own a n o)::fr)) ∨
   (v = .tuple #[.int .i64 0,.int .i64 11]∧(∀ a,a+n≤own.length→∃ i,a≤i∧i < a+n∧own.getD i 0≠0)∧Q0a w' (ST p size mem own::fr))):=by
 obtain⟨v,v2,u,ws,many,hok,H⟩:=Q8t H;obtain⟨x,rfl,hb,rfl,hx⟩:=V9b hok h63;refine Q0c Tryz.func134 rfl (by kernel_rfl) ?_;refine U4c H ?_;refine Q2s (fun ms σ w=>ms=[]∧σ 0=pp p∧σ 1 = .int .i64 o∧σ 2 = .int .i64 n∧Q0a w (pts p (row 141 [v,.int .i64 size,v2,pp u])::UL v mem::NL v2 own::BM1 u own.length x::fr)) ?_ ?_
 ·refine G8g H ?_;refine J15 H ?_;rw[show decide ((o:Int) < 1)=false from decide_eq_false (by omega)];refine J33 H ?_;refine J2 H ?_;rw[show decide ((n:Int) < 1)=false from decide_eq_false (by omega)];refine J9 H ?_;exact .inl ⟨rfl,rfl,rfl,rfl,rfl,H⟩
 ·clear H;rintro ms σ w ⟨rfl,g0,g1,g2,H⟩;rw[Q0b g0,Q0b g1,Q0b g2];refine J10 H ?_;replace H:=Js [3,0,0,0] 0 H;refine Jc rfl rfl (G5n u _ x n _ hb hn hn2 H) ?_;clear H;rintro r w ⟨hR,H⟩
  rcases hR with ⟨a,rfl,ha,hfree⟩|⟨rfl,hno⟩
  ·have hlen:=hok.len;have hs1:=hok.s1;have hs2:=hok.s2;have hmem:mem.length≤1048576:=by rw[hok.len];exact Nat.mul_le_mul hok.c2 hok.s2
   have hmul:(a+n)*size≤mem.length:=by rw[hlen];exact Nat.mul_le_mul_right _ ha
   have hmul2:(a+n)*size=a*size+n*size:=Nat.add_mul _ _ _;have hns:1*1≤n*size:=Nat.mul_le_mul hn hs1;refine J38 H ?_;refine J37 H ?_;refine Jc rfl rfl (Y7b u _ x a n true hb ha H) ?_;clear H;rintro v w ⟨rfl,H⟩;refine J62 H ?_;obtain⟨a2,c2,rfl⟩:=Q0j (H.drop.drop.drop) (Q0d own) (by decide);refine J7 H ?_;refine Q2s (fun ms σ w=>ms=[]∧σ 0=pp p∧σ 2 = .int .i64 n∧σ 8 = .int .i64 a∧Q0a w (NL (.slice a2 own.length c2) (Q7v own a n o)::pts p (row 141 [v,.int .i64 size,.slice a2 own.length c2,pp u])::UL v mem::BM1 u own.length (V8x x a n true)::fr)) ?_ ?_
   ·refine Q0t ?_;replace H:=Js [3,1,1,0] 0 H;refine Q1l (fun ms σ w q=>ms=[]∧∃ j:Nat,j≤n∧q=n - j∧σ 0=pp p∧σ 1 = .int .i64 o∧σ 2 = .int .i64 n∧σ 8 = .int .i64 a∧σ 10 = .int .i64 ((a+j:Nat):Int)∧Q0a w (NL (.slice a2 own.length c2) (Q7v own a j o)::pts p (row 141 [v,.int .i64 size,.slice a2 own.length c2,pp u])::UL v mem::BM1 u own.length (V8x x a n true)::fr)) (m:=n) ⟨rfl,0,by omega,rfl,rfl,rfl,rfl,rfl,rfl,by rw[V4a];exact H⟩ ?_;clear H;rintro ms σ w q ⟨rfl,j,hj,rfl,g0,g1,g2,g8,g10,H⟩;rw[Q0b g0,Q0b g1,Q0b g2,Q0b g8,Q0b g10];refine J89 H ?_;rw[Q1e (x:=(a:Int)+(n:Int)) (by omega) (by omega)];refine J7 H ?_;refine Q2d rfl (fun h=>Q0w ?_) (fun h=>Q1n ?_)
    ·have hlt:j < n:=by omega
     have hsl:=Q0z (l:=own) (a:=a) (n:=j) (v:=o) (by omega);obtain⟨b,s,rfl,H,_,_,hclose⟩:=Q2n H (by omega);refine J43 H ?_;refine J37 H ?_;refine Jd ?_;refine Q0s rfl (Q2e H rfl rfl inferInstance rfl (by simp only[List.length_append,Q0d];omega) rfl ?_);clear H;intro w H;rw[Int.toNat_natCast,V1p (by omega),Y7d (by omega)] at H;replace H:=hclose _ _ _ (by rw[Q0d,Q0d,Q0z (by omega),Q0z (by omega)]) H;refine G9x H ?_;exact⟨_,⟨rfl,j+1,hlt,rfl,rfl,rfl,rfl,rfl,by rw[show ((a+(j+1):Nat):Int)=((a+j:Nat):Int)+1 by omega];exact Q2a (i:=a+j) (by omega),H⟩,by omega⟩
    ·have hge:j=n:=by omega
     subst hge;exact .inl ⟨rfl,rfl,rfl,rfl,rfl,H⟩
   ·clear H;rintro ms σ w ⟨rfl,g0,g2,g8,H⟩;rw[Q0b g0,Q0b g2,Q0b g8];replace H:=Js [2,1,0,0] 0 H;obtain⟨a1,c1,rfl⟩:=Q0j H (Q1f mem) (by decide);obtain⟨b,s,rfl,H,hcap,hsp,hclose⟩:=Q2n H (by omega);refine J1 H ?_;clear H;intro w H;refine J27 H ?_;refine Jl 3 [19] H ?_;refine U6u H ?_;refine Jl 8 [19] H ?_;refine Ja 9 ?_;refine Ja 10 ?_;refine Ja 11 ?_;refine U6v H ?_;refine Jf 15 ?_;refine Jl 16 [19] H ?_;refine Ja 17 ?_;rw[Q1e (x:=(a:Int)+(n:Int)) (by omega) (by omega),show ((a:Int)+(n:Int))*(size:Int)=(((a+n)*size:Nat):Int) by rw[Int.natCast_mul,Int.natCast_add],Q1e (x:=(((a+n)*size:Nat):Int)) (by omega) (by omega),← Int.natCast_mul,Q1e (x:=((a*size:Nat):Int)) (by omega) (by omega)];refine V0w 18 rfl (Q0n.none rfl) rfl rfl rfl (by omega) (by omega) (by omega) (by kernel_rfl) ?_
    have hz:Q5q (Q1v (.int .u64 0)) ((a+n)*size - a*size)=Q1b (List.replicate (n*size) 0):=by
     rw[show Q1v (.int .u64 0)=[.int .u64 0] from rfl,V8t,show (a+n)*size - a*size=n*size by omega];simp[Q1b]
    refine Jo 19 H ?_;refine G5d H rfl (by omega) (by rw[hz];simp only[List.length_append,Q1f,List.length_replicate];omega) rfl rfl ?_;clear H;intro w H;rw[hz] at H
    have hw:wr (Q1b mem++s) (0+a*size*1) (Q1b (List.replicate (n*size) 0))=Q1b (Q7v mem (a*size) (n*size) 0)++s:=by
     rw[G5c _ _ _ (by simp[Q1b];omega)];rw[List.take_append_of_le_length (by simp[Q1b];omega),List.drop_append_of_le_length (by simp[Q1b];omega)];simp only[Nat.zero_add,Nat.mul_one,Q1b,Q7v,List.map_append,List.map_take,List.map_drop,List.length_map,List.length_replicate,List.append_assoc]
    rw[hw] at H;replace H:=hclose _ _ _ (by simp[Q1b,Q0z (show a*size+n*size≤mem.length by omega)]) H;refine Jx H ?_;refine J11 H ?_;replace H:=Js [1,0,0,0] 0 H;have hsl:=Q0z (l:=own) (v:=o) ha
    have hx':∀ c,c < (Q7v own a n o).length→(V8x x a n true).testBit c=decide ((Q7v own a n o).getD c 0≠0):=by
     intro c hc;rw[Y7a,Q7r ha];split
     ·simp;omega
     ·exact hx c (by omega)
    have hbf:=hb.fill (a:=a) (k:=n) (on:=true) ha;refine Q0g (Jy (V1y (own:=Q7v own a n o) (ws:=[V8x x a n true]) (many:=V7j own.length (V8x x a n true)) ⟨hs1,hs2,by rw[hsl];exact hok.c1,by rw[hsl];exact hok.c2,by rw[Q0z (by omega),hsl,hlen],?_,fun _=>⟨_,rfl,by rw[hsl];exact hbf.lt,hx'⟩⟩ (by rw[hsl];exact H)) rfl fun w' H' => .inl ⟨a,rfl,ha,fun i h1 h2=>?_,H'⟩)
    ·rw[← hsl];exact V7w _ _ hx'
    ·have:=hx i (by omega);rw[hfree i h1 h2] at this;simpa using this.symm
  ·refine U4d H ?_;refine J28 H ?_;replace H:=Js [1,1,1,0] 0 H;refine Q0g (Jy (V1y hok H) rfl fun w' H' => .inr ⟨rfl,fun a ha=>?_,H'⟩);obtain⟨i,h1,h2,h3⟩:=hno a ha;refine⟨i,h1,h2,?_⟩;have:=hx i (by omega);rw[h3] at this;simpa using this.symm
end Go.Proofs.YtmjdnljneifpcaaGreatDoor
namespace Go.Proofs.YtmjdnljneifpcaaGreatDoor
def Q2x (w k:Nat):List Nat:=(List.range k).filter fun i=>w.testBit i
theorem V0b (w k:Nat):Q2x w (k+1)=Q2x w k++if w.testBit k then [k] else []:=by
 unfold Q2x;rw[List.range_succ,List.filter_append];congr 1;by_cases h:w.testBit k <;> simp[h]
theorem V5n {w k:Nat}:∀ {t:Nat},k≤t→(∀ i,k≤i→i < t→w.testBit i=false)→Q2x w t=Q2x w k
 | 0,h,_=>by rw[show k=0 by omega]
 | t+1,h,hh=>by
  by_cases hk:k=t+1
  ·rw[hk]
  ·rw[V0b,hh t (by omega) (by omega),V5n (t:=t) (by omega) (fun i h1 h2=>hh i h1 (by omega))];simp
theorem Q8i (w k:Nat):(Q2x w k).length≤k:=by
 have:=List.length_filter_le (fun i=>w.testBit i) (List.range k);simpa [Q2x] using this
theorem G5o {x t:Nat} (ht:x.testBit t=true) (hl:∀ i,i < t→x.testBit i=false):x=2 ^ (t+1)*(x / 2 ^ (t+1))+2 ^ t:=by
 have e:x % 2 ^ (t+1)=2 ^ t:=by
  apply Nat.eq_of_testBit_eq;intro j;rw[Nat.testBit_mod_two_pow,Nat.testBit_two_pow];by_cases h1:j < t
  ·rw[hl j h1];simp;omega
  ·by_cases h2:j=t
   ·subst h2;simp[ht]
   ·have:¬ j < t+1:=by omega
    simp[this];omega
 have:=Nat.div_add_mod x (2 ^ (t+1));omega
theorem G0v {x t:Nat} (ht:x.testBit t=true) (hl:∀ i,i < t→x.testBit i=false) (j:Nat):(x &&& (x - 1)).testBit j=(x.testBit j && decide (j≠t)):=by
 have e:=G5o ht hl;have hp:0 < 2 ^ t:=Nat.two_pow_pos t;have hlt:2 ^ t - 1 < 2 ^ (t+1):=by rw[Nat.pow_succ];omega
 have e1:x - 1=2 ^ (t+1)*(x / 2 ^ (t+1))+(2 ^ t - 1):=by omega
 rw[Nat.testBit_and,e1,Nat.testBit_two_pow_mul_add _ hlt,Nat.testBit_two_pow_sub_one];by_cases h1:j < t
 ·rw[hl j h1];simp
 ·by_cases h2:j=t
  ·subst h2;simp
  ·rw[if_neg (by omega),Nat.testBit_div_two_pow,show j - (t+1)+(t+1)=j by omega];simp[h2]
def Z9s (l:List Nat) (size:Nat):Prop:=(∀ p∈l,p < size)∧l.Pairwise (· < ·)
instance (l:List Nat) (size:Nat):Decidable (Z9s l size):=inferInstanceAs (Decidable (_∧_))
theorem Z4m {l:List Nat} {x:Nat} (h:l.Pairwise (· < ·)) (hx:∀ y,l.getLast? = some y→y < x):(l++[x]).Pairwise (· < ·):=by
 rw[List.pairwise_append];refine⟨h,by simp,fun a ha b hb=>?_⟩;simp at hb;subst hb
 obtain⟨y,hy⟩:∃ y,l.getLast? = some y:=by
  cases l with
  | nil=>cases ha
  | cons c l=>exact⟨_,List.getLast?_eq_some_getLast (by simp)⟩
 have h1:=hx y hy
 have h2:a≤y:=by
  obtain⟨l',rfl⟩:=List.getLast?_eq_some_iff.1 hy;rw[List.pairwise_append] at h;simp at ha
  rcases ha with ha|rfl
  ·exact Nat.le_of_lt (h.2.2 a ha y (by simp))
  ·exact Nat.le_refl _
 omega
structure Lay where
 fixed:Nat
 refs:List Nat
 record:Nat
 recs:List Nat
def Q2y (l:Lay):Prop:=l.fixed≤64∧l.record≤64∧l.fixed+l.record≠0∧Z9s l.refs l.fixed∧Z9s l.recs l.record
instance (l:Lay):Decidable (Q2y l):=inferInstanceAs (Decidable (_∧_))
def Q3q (l:Lay) (count:Int):Nat×Nat:=
 if count < 0∨count > 1024∨(count > 0∧l.record=0) then (0,3)
 else if l.fixed+count.toNat*l.record≥8192 then (0,10) else (l.fixed+count.toNat*l.record,0)
def Q2h (l:Lay) (p:Nat):Bool:=if p < l.fixed then decide (p∈l.refs) else decide ((p - l.fixed) % l.record∈l.recs)
def Y7f (a b c:Nat):Lay:=⟨a % 256,Q2x b 64,a / 256,Q2x c 64⟩
def Q4k (ws:List Nat):Option Lay:=
 match ws with
 | [a,b,c]=>if a < 65536∧Q2y (Y7f a b c) then some (Y7f a b c) else none
 | _=>none
theorem Y5a {ws:List Nat} {l:Lay} (h:Q4k ws=some l):Q2y l:=by
 unfold Q4k at h;split at h
 ·split at h
  ·rename_i h1;cases h;exact h1.2
  ·cases h
 ·cases h
theorem Y5b {l:Lay} {c:Int} {n:Nat} (h:Q3q l c=(n,0)):0≤c∧c≤1024∧n=l.fixed+c.toNat*l.record∧n < 8192∧(c > 0→l.record≠0):=by
 unfold Q3q at h;split at h
 ·cases h
 ·split at h
  ·cases h
  ·rename_i h1 h2;injection h with h3 h4
   omega
end Go.Proofs.YtmjdnljneifpcaaGreatDoor
namespace Go.Proofs.YtmjdnljneifpcaaGreatDoor
open Go.SL
theorem Y2m [Q0i] (v:Value) (l:List Nat) (size:Nat) (hl:l.length≤1000000) {w:World} {fr:List Q0e} (hr:RdS fr v l.length 1 (Q0u l)) (H:Q0a w fr) :
  Calls Tryz.prog 220 #[v,.int .i64 size] w (ret fun x w'=>(∃ b,x = .bool b∧(b=true↔Z9s l size))∧Q0a w' fr):=by
 obtain⟨_,ad,cap,rfl,hr⟩:=hr;refine Q0c Tryz.func220 rfl (by kernel_rfl) ?_;refine U1q H ?_;refine Q1l (fun ms σ w q=>ms=[]∧∃ i:Nat,i≤l.length∧q=l.length - i∧Z9s (l.take i) size∧σ 0 = .slice ad l.length cap∧σ 1 = .int .i64 size∧σ 7 = .slice ad l.length cap∧σ 8 = .int .i64 l.length∧σ 9 = .int .i64 i∧Q0a w fr) (m:=l.length) ⟨rfl,0,by omega,rfl,⟨by simp,by simp⟩,rfl,rfl,rfl,rfl,rfl,H⟩ ?_;clear H;rintro ms σ w q ⟨rfl,i,hi,rfl,hR,g0,g1,g7,g8,g9,H⟩;rw[Q0b g0,Q0b g1,Q0b g7,Q0b g8,Q0b g9];refine J5 H ?_;refine Q2d rfl (fun h=>Q0w ?_) (fun h=>Q1n ?_)
 ·have hlt:i < l.length:=by omega
  have hx:=List.getElem?_eq_getElem hlt;have htk:l.take (i+1)=l.take i++[l[i]]:=by rw[List.take_add_one,hx];rfl
  have hmem:l[i]∈l:=List.getElem_mem hlt;generalize l[i]=x at hx htk hmem
  rcases hr with hr|⟨b,o,E,fz,c,rfl,hA,hrd⟩
  ·omega
  haveI:=hA
  have hcell:c[o+i*1]? = some (.int .i64 x):=by
   rw[Nat.mul_one];exact hrd.get i _ (by simp[Q0u,hx])
  refine U1t H ?_;refine Jd ?_;refine Q0s rfl (Q0l H rfl hcell rfl ?_);refine J2 H ?_;refine J15 H ?_;rw[show decide ((x:Int) < 0)=false from decide_eq_false (by omega)];refine J44 H ?_;refine Jv ?_;by_cases hxs:x < size
  ·rw[show decide ((x:Int)≥(size:Int))=false from decide_eq_false (by omega)];refine J72 H ?_;by_cases hi0:0 < i
   ·rw[show decide ((i:Int) > 0)=true from decide_eq_true (by omega)];refine J33 H ?_;refine J44 H ?_;rw[Q1e (x:=(i:Int) - 1) (by omega) (by omega),show (i:Int) - 1=((i - 1:Nat):Int) by omega];have hy:=List.getElem?_eq_getElem (l:=l) (i:=i - 1) (by omega)
    have hlast:(l.take i).getLast? = some l[i - 1]:=by
     rw[List.getLast?_eq_getElem?,List.length_take,Nat.min_eq_left hi,List.getElem?_take_of_lt (by omega),hy]
    have hpw:l.Pairwise (· < ·)→l[i - 1] < x:=fun hp=>by
     have:=List.pairwise_iff_getElem.1 hp (i - 1) i (by omega) hlt (by omega)
     have e:l[i]=x:=by
      have:=List.getElem?_eq_getElem hlt;rw[hx] at this;exact(Option.some.inj this).symm
     omega
    generalize l[i - 1]'(by omega)=y at hy hlast hpw
    have hcell2:c[o+(i - 1)*1]? = some (.int .i64 y):=by
     rw[Nat.mul_one];exact hrd.get (i - 1) _ (by simp[Q0u,hy])
    refine Q4u rfl rfl rfl (Q2k rfl rfl (by omega) (by omega) rfl ?_);refine Q4u rfl rfl rfl (Q0l H rfl hcell2 rfl ?_);refine J33 H ?_;refine J18 H ?_;refine Q2d rfl (fun h=>?_) (fun h=>Q0w ?_)
    ·refine J14 H ?_
     exact Q0g (Jy H rfl fun w' H'=>⟨⟨false,rfl,by
      constructor
      ·intro h';cases h'
      ·rintro⟨_,h2⟩;have:=hpw h2;omega⟩,H'⟩)
    ·refine J3 H ?_;refine⟨_,⟨rfl,i+1,hlt,rfl,?_,rfl,rfl,rfl,rfl,Q2a (by omega),H⟩,by omega⟩;rw[htk];refine⟨fun p hp=>?_,Z4m hR.2 fun z hz=>?_⟩
     ·simp at hp
      rcases hp with hp|rfl
      ·exact hR.1 p hp
      ·exact hxs
     ·rw[hlast] at hz;cases hz;omega
   ·have hi00:i=0:=by omega
    subst hi00;rw[show decide (((0:Nat):Int) > 0)=false from rfl];refine J25 H ?_;refine U4e H ?_;refine J25 H ?_;refine J76 H ?_;refine⟨_,⟨rfl,1,hlt,rfl,?_,rfl,rfl,rfl,rfl,Q2a (i:=0) (by omega),H⟩,by omega⟩;rw[htk];exact⟨by simpa using hxs,by simp⟩
  ·rw[show decide ((x:Int)≥(size:Int))=true from decide_eq_true (by omega)];refine U6w H ?_;refine G8h H ?_;refine G8h H ?_;refine U6x H ?_;refine J51 H ?_
   exact Q0g (Jy H rfl fun w' H'=>⟨⟨false,rfl,by
    constructor
    ·intro h';cases h'
    ·rintro⟨h1,_⟩;have:=h1 x hmem;omega⟩,H'⟩)
 ·have hge:i=l.length:=by omega
  subst hge;rw[List.take_length] at hR;refine J14 H ?_;exact Q0g (Jy H rfl fun w' H'=>⟨⟨true,rfl,by simp[hR]⟩,H'⟩)
@[reducible] def V9c (f:Nat) (vr:Value) (r:Nat) (vq:Value):Value := .agg #[.int .i64 f,vr,.int .i64 r,vq]
structure RdL (fr:List Q0e) (vr vq:Value) (l:Lay):Prop where
 r:RdS fr vr l.refs.length 1 (Q0u l.refs)
 q:RdS fr vq l.recs.length 1 (Q0u l.recs)
theorem RdL.there {A:Q0e} {fr:List Q0e} {vr vq:Value} {l:Lay} (h:RdL fr vr vq l):RdL (A::fr) vr vq l:=⟨h.r.there,h.q.there⟩
structure Z4n (l:Lay):Prop where
 f:l.fixed≤1000000
 r:l.record≤1000000
 a:l.refs.length≤1000000
 b:l.recs.length≤1000000
theorem V2p [Q0i] (vr vq:Value) (l:Lay) (hs:Z4n l) {w:World} {fr:List Q0e} (hr:RdL fr vr vq l) (H:Q0a w fr) :
  Calls Tryz.prog 148 #[V9c l.fixed vr l.record vq] w (ret fun x w'=>(∃ b,x = .bool b∧(b=true↔Q2y l))∧Q0a w' fr):=by
 obtain⟨s1,s2,s3,s4⟩:=hs;obtain⟨hr1,hr2⟩:=hr;obtain⟨_,ad1,cap1,rfl,hr1'⟩:=id hr1;obtain⟨_,ad2,cap2,rfl,hr2'⟩:=id hr2;refine Q0c Tryz.func148 rfl (by kernel_rfl) ?_;refine J8 H ?_;clear H;intro b1 w H;refine J18 H ?_;refine Q2s (fun ms σ w=>ms=[]∧(l.fixed≤64∧l.record≤64∧l.fixed+l.record≠0)∧σ 1=pp b1∧Q0a w (pts b1 (row 102 [.int .i64 l.fixed,.slice ad1 l.refs.length cap1,.int .i64 l.record,.slice ad2 l.recs.length cap2])::fr)) ?_ ?_
 ·refine Q0t ?_;refine G8c H ?_;rw[show decide ((l.fixed:Int) < 0)=false from decide_eq_false (by omega)];refine U1p H ?_;by_cases h1:l.fixed≤64
  ·rw[show decide ((l.fixed:Int) > 64)=false from decide_eq_false (by omega)];refine J85 H ?_;refine G8c H ?_;rw[show decide ((l.record:Int) < 0)=false from decide_eq_false (by omega)];refine U1p H ?_;by_cases h2:l.record≤64
   ·rw[show decide ((l.record:Int) > 64)=false from decide_eq_false (by omega)];refine J85 H ?_;refine U4f H ?_;refine U2a H ?_;rw[Q1e (x:=(l.fixed:Int)+(l.record:Int)) (by omega) (by omega)];by_cases h3:l.fixed+l.record=0
    ·rw[show (((l.fixed:Int)+(l.record:Int)) == 0)=true by simp;omega];refine J21 H ?_;exact Q0g (.inr ⟨by simp,Jy H.drop rfl fun w' H'=>⟨⟨false,rfl,⟨fun h=>(by cases h),fun h=>by unfold Q2y at h;omega⟩⟩,H'⟩⟩)
    ·rw[show (((l.fixed:Int)+(l.record:Int)) == 0)=false by simp;omega];refine J9 H ?_;exact .inl ⟨rfl,rfl,⟨h1,h2,h3⟩,rfl,H⟩
   ·rw[show decide ((l.record:Int) > 64)=true from decide_eq_true (by omega)];refine J84 H ?_;refine J74 H ?_;refine J21 H ?_;exact Q0g (.inr ⟨by simp,Jy H.drop rfl fun w' H'=>⟨⟨false,rfl,⟨fun h=>(by cases h),fun h=>by unfold Q2y at h;omega⟩⟩,H'⟩⟩)
  ·rw[show decide ((l.fixed:Int) > 64)=true from decide_eq_true (by omega)];refine J84 H ?_;refine J74 H ?_;refine J21 H ?_;exact Q0g (.inr ⟨by simp,Jy H.drop rfl fun w' H'=>⟨⟨false,rfl,⟨fun h=>(by cases h),fun h=>by unfold Q2y at h;omega⟩⟩,H'⟩⟩)
 ·clear H;rintro ms σ w ⟨rfl,⟨h1,h2,h3⟩,g1,H⟩;rw[Q0b g1];refine U4f H ?_;refine Jc rfl rfl (Y2m _ l.refs l.fixed s3 hr1.there H) ?_;clear H;rintro v w ⟨⟨b,rfl,hb⟩,H⟩;refine Jv ?_;cases b with
  | true=>
   refine J53 H ?_;refine J53 H ?_;refine Q4u rfl rfl rfl (Q1h (a:=[]) (b:=[]) rfl rfl (call (Y2m _ l.recs l.record s4 hr2.there H) ?_));clear H;rintro v w ⟨⟨b,rfl,hb2⟩,H⟩;refine J2 H ?_;refine Q0g (Jy H.drop rfl fun w' H'=>⟨⟨b,rfl,?_⟩,H'⟩);rw[hb2];exact⟨fun h=>⟨h1,h2,h3,hb.1 rfl,h⟩,fun h=>h.2.2.2.2⟩
  | false=>
   refine U2b H ?_;refine Q3h rfl rfl rfl ?_;refine J2 H ?_;refine Q0g (Jy H.drop rfl fun w' H'=>⟨⟨false,rfl,⟨fun h=>(by cases h),fun h=>?_⟩⟩,H'⟩);have:=hb.2 h.2.2.2.1;cases this
end Go.Proofs.YtmjdnljneifpcaaGreatDoor
