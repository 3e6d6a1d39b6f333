/- Cells: what is proved on the way: every input of the statement; no condition. Texts joined: HdrA HdrB BmpA BmpB StoA StoB LayP LayA LayB. -/
import Derived.Test.YtmjdnljneifpcaaGreatDoorBfe
import Derived.Test.YtmjdnljneifpcaaGreatDoorBfc
set_option linter.unusedVariables false
set_option linter.unusedSimpArgs false
set_option linter.unusedSectionVars false
namespace Go.Proofs.YtmjdnljneifpcaaGreatDoor
open List
open Go.SL
def Kz:List Fl:=[(0,16),(16,16),(32,8),(40,16),(56,8)]
def R3:List Fl:=[(0,32),(32,32)]
theorem SD:CF Kz:=⟨by simp[Kz,CE],by simp[Kz]⟩
theorem SE:CF R3:=⟨by simp[R3,CE],by simp[R3]⟩
theorem SF [Q4] {w:World} {fr:List Q2} (H:Q0 w fr):Calls Tryz.prog 223 #[] w (ret fun v w'=>Q0 w' (FL v Kz::fr)):=by
 refine QQ Tryz.func223 rfl (by kernel_rfl) ?_;refine Md H ?_;refine WV H ?_;refine WV H ?_;refine WV H ?_;refine IR H ?_;intro b6 w H;refine J0 H ?_;exact Q3 (Jy (Rd (by decide) H) rfl fun w' H'=>H')
theorem SH [Q4] {w:World} {fr:List Q2} (H:Q0 w fr):Calls Tryz.prog 207 #[] w (ret fun v w'=>Q0 w' (FL v R3::fr)):=by
 refine QQ Tryz.func207 rfl (by kernel_rfl) ?_;refine Md H ?_;refine IR H ?_;intro b3 w H;refine J0 H ?_;exact Q3 (Jy (Rd (by decide) H) rfl fun w' H'=>H')
def A9 (l c s:Nat):Prop:=1≤l∧l≤64∧c≤1024∧s < 4096
@[reducible] def CL (l c s:Nat):Value := .agg #[.int .i64 l,.int .i64 c,.int .i64 s]
theorem fN [Q4] (l c s:Nat) (h:A9 l c s) {w:World} {fr:List Q2} (H:Q0 w fr):Calls Tryz.prog 222 #[CL l c s] w (ret fun v w'=>v = .bool true∧Q0 w' fr):=by
 obtain⟨h1,h2,h3,h4⟩:=h;refine QQ Tryz.func222 rfl (by kernel_rfl) ?_;refine J8 H ?_;intro b1 w H;refine DE H ?_;refine ZT H ?_;rw[show decide ((l:Int)≥1)=true from decide_eq_true (by omega)];refine Ug H ?_;refine Jv ?_;rw[show decide ((l:Int)≤64)=true from decide_eq_true (by omega)];refine F1 H ?_;rw[show decide ((c:Int)≥0)=true from decide_eq_true (by omega)];refine F1 H ?_;rw[show decide ((c:Int)≤1024)=true from decide_eq_true (by omega)];refine F1 H ?_;rw[show decide ((s:Int)≥0)=true from decide_eq_true (by omega)];refine F1 H ?_;rw[show decide ((s:Int) < 4096)=true from decide_eq_true (by omega)];refine J0 H ?_;exact Q3 (Jy H.drop rfl fun w' H'=>⟨rfl,H'⟩)
def X9 (l c s:Nat):Nat:=X8 Kz [s,c,l,0,165]
theorem fO (l c s:Nat):X9 l c s=s+c*65536+l*4294967296+165*72057594037927936:=by
 simp[X9,X8,Kz];omega
theorem pX {l c s:Nat} (h:A9 l c s):X9 l c s < 18446744073709551616:=by
 obtain⟨h1,h2,h3,h4⟩:=h;rw[fO];omega
theorem pK [Q4] (l c s:Nat) (h:A9 l c s) {w:World} {fr:List Q2} (H:Q0 w fr):Calls Tryz.prog 152 #[CL l c s] w (ret fun v w'=>v = .tuple #[.int .u64 (X9 l c s),.int .i64 0]∧Q0 w' fr):=by
 have h':=h;obtain⟨h1,h2,h3,h4⟩:=h';refine QQ Tryz.func152 rfl (by kernel_rfl) ?_;refine J8 H ?_;intro b1 w H;refine J4 H ?_;refine XL H ?_;refine Jc rfl rfl (fN l c s h H) ?_;rintro v w ⟨rfl,H⟩;refine YT H ?_;refine J1 H ?_;intro w H;refine Jf 1 ?_;refine Jl 2 [10,11] H ?_;refine Me H ?_;refine Jf 4 ?_;refine Jl 5 [10,11] H ?_;refine KI 6 rfl (Q8.none rfl) rfl (by kernel_rfl) ?_;refine Jf 7 ?_;refine Jl 8 [10,11] H ?_;refine KI 9 rfl (Q8.none rfl) rfl (by kernel_rfl) ?_;rw[Kr (a:=l) (by omega),Kr (a:=c) (by omega),Kr (a:=s) (by omega)];refine Jw 0 10 H rfl rfl (V3 (a:=[]) (b:=[]) rfl rfl (call (SF H) ?_)) (C3 H rfl rfl rfl ?_)
 ·intro v16 w H;obtain⟨a16,m16,c16,rfl⟩:=VZ H;refine Jo 10 H ?_;refine DC H ?_;intro b17 w H;replace H:=Q0.swap (Rd (len:=5) (k:=1) rfl H)
  refine Hu 11 rfl (by kernel_rfl) (by repeat first|exact .nil|refine .cons (.inr H.at) ?_|refine .cons (.inr H.mp) ?_|refine .cons (.inl (by kernel_rfl)) ?_) (Q8.none rfl) (V3 (a:=[]) (b:=[]) rfl rfl (call (Nk _ _ Kz [s,c,l,0,165] SD (by decide) rfl (fun i f x hf hx=>by
     rcases i with _|_|_|_|_|i <;> simp[Kz] at hf hx <;> subst hf hx <;> simp <;> omega) H) ?_))
  rintro v w ⟨rfl,H⟩;refine IW H ?_;exact Q3 (Jy H.drop.drop.drop rfl fun w' H'=>⟨rfl,H'⟩)
 ·intro b17 w H;refine Jo 0 H ?_;refine Jk rfl rfl (SF H) ?_;intro v16 w H;obtain⟨a16,m16,c16,rfl⟩:=VZ H;replace H:=Q0.swap (Rd (len:=5) (k:=1) rfl H.swap)
  refine Hu 11 rfl (by kernel_rfl) (by repeat first|exact .nil|refine .cons (.inr H.at) ?_|refine .cons (.inr H.mp) ?_|refine .cons (.inl (by kernel_rfl)) ?_) (Q8.none rfl) (V3 (a:=[]) (b:=[]) rfl rfl (call (Nk _ _ Kz [s,c,l,0,165] SD (by decide) rfl (fun i f x hf hx=>by
     rcases i with _|_|_|_|_|i <;> simp[Kz] at hf hx <;> subst hf hx <;> simp <;> omega) H) ?_))
  rintro v w ⟨rfl,H⟩;refine IW H ?_;exact Q3 (Jy H.drop.drop.drop rfl fun w' H'=>⟨rfl,H'⟩)
theorem pR {l c s:Nat} (h:A9 l c s):Kz.map (GB (X9 l c s))=[s,c,l,0,165]:=by
 obtain⟨h1,h2,h3,h4⟩:=h;simp only[Kz,map_cons,map_nil,GB,fO,Nat.reducePow];have e1:(s+c*65536+l*4294967296+165*72057594037927936) / 1 % 65536=s:=by omega
 have e2:(s+c*65536+l*4294967296+165*72057594037927936) / 65536 % 65536=c:=by omega
 have e3:(s+c*65536+l*4294967296+165*72057594037927936) / 4294967296 % 256=l:=by omega
 have e4:(s+c*65536+l*4294967296+165*72057594037927936) / 1099511627776 % 65536=0:=by omega
 have e5:(s+c*65536+l*4294967296+165*72057594037927936) / 72057594037927936 % 256=165:=by omega
 rw[e1,e2,e3,e4,e5]
theorem pW [Q4] (l c s:Nat) (h:A9 l c s) {w:World} {fr:List Q2} (H:Q0 w fr):Calls Tryz.prog 183 #[.int .u64 (X9 l c s)] w (ret fun v w'=>v = .tuple #[CL l c s,.int .i64 0]∧Q0 w' fr):=by
 have h':=h;obtain⟨h1,h2,h3,h4⟩:=h';refine QQ Tryz.func183 rfl (by kernel_rfl) ?_;refine YN H ?_;intro b2 w H;refine F2 H ?_;refine Jc rfl rfl (SF H) ?_;intro v9 w H
 refine Jc rfl rfl (SB _ (pX h) v9 Kz SD (by decide) H) ?_;rintro v w ⟨u,rfl,H⟩;rw[pR h] at H;obtain⟨au,cu,rfl⟩:=QI (m:=5) H rfl (by decide);obtain⟨bu,su,rfl,H,QU⟩:=VY H (by decide);refine Mf H ?_;intro w H;refine Ja 0 ?_;refine Ji 1 ?_;refine Jl 2 [14] H ?_;refine Me H ?_;refine Ja 4 ?_;refine Ji 5 ?_;refine Jl 6 [14] H ?_;refine KI 7 rfl (Q8.none rfl) rfl (by kernel_rfl) ?_;refine Ja 8 ?_;refine Ji 9 ?_;refine Jl 10 [14] H ?_;refine KI 11 rfl (Q8.none rfl) rfl (by kernel_rfl) ?_;refine Uf 12 rfl (Q8.none rfl) rfl (by kernel_rfl) ?_;rw[As (a:=l) (by omega),As (a:=c) (by omega),As (a:=s) (by omega)];refine Jo 13 H ?_;refine YW H rfl ?_;intro b6 w H
 refine Jo 14 H ?_;refine KM H ?_;intro w H;refine Jx H ?_;refine Z6 H ?_;refine Jd ?_;refine WY H ?_;refine Wz H ?_;refine Qe rfl rfl rfl (X4 rfl rfl (by omega) (by omega) rfl ?_);refine Qe rfl rfl rfl (QC H rfl rfl rfl ?_);refine Zq H ?_;refine ZT H ?_;refine DA H ?_;refine Qe rfl rfl rfl (V3 (a:=[]) (b:=[]) rfl rfl (call (fN l c s h H) ?_));rintro v w ⟨rfl,H⟩;refine WQ H ?_;refine Ay H ?_;intro w H;refine J0 H ?_;refine Q3 (I7 (vs:=[CL l c s,.int .i64 0]) _ (.inr rfl) H (fun w' H' => .cellN H' rfl (by repeat first|exact .nil _|apply QY.cons rfl) (.tmp .nil)) fun w' H'=>⟨rfl,H'.drop.drop.drop.drop⟩)
inductive Yo where
 | none
 | grave
 | obj (i g:Nat)
 deriving DecidableEq
@[reducible] def Xz (i g:Nat):Value := .agg #[.int .i64 i,.int .i64 g]
@[reducible] def GS:Yo→Value
 | .none => .agg #[.int .i64 0,.int .i64 0,.int .i64 0]
 | .grave => .agg #[.int .i64 1,.int .i64 0,.int .i64 0]
 | .obj i g => .agg #[.int .i64 2,.int .i64 i,.int .i64 g]
def JY (i g:Nat):Prop:=i < 4096∧1≤g∧g≤255
def XS:Yo→Prop
 | .obj i g=>JY i g
 | _=>True
def Vm:Yo→Nat
 | .none=>0
 | .grave=>1
 | .obj i g=>X8 R3 [i+2,g]
theorem Nl (i g:Nat):Vm (.obj i g)=i+2+g*4294967296:=by
 simp[Vm,X8,R3]
theorem fP {l:Yo} (h:XS l):Vm l < 18446744073709551616:=by
 cases l with
 | none=>decide
 | grave=>decide
 | obj i g=>
  obtain⟨h1,h2,h3⟩:=h;rw[Nl];omega
theorem fS [Q4] (i g:Nat) (h:JY i g) {w:World} {fr:List Q2} (H:Q0 w fr):Calls Tryz.prog 205 #[Xz i g] w (ret fun v w'=>v = .bool true∧Q0 w' fr):=by
 obtain⟨h1,h2,h3⟩:=h;refine QQ Tryz.func205 rfl (by kernel_rfl) ?_;refine J8 H ?_;intro b1 w H;refine DE H ?_;refine ZT H ?_;rw[show decide ((i:Int)≥0)=true from decide_eq_true (by omega)];refine Ug H ?_;refine Jv ?_;rw[show decide ((i:Int) < 4096)=true from decide_eq_true (by omega)];refine F1 H ?_;rw[show decide ((g:Int)≥1)=true from decide_eq_true (by omega)];refine F1 H ?_;rw[show decide ((g:Int)≤255)=true from decide_eq_true (by omega)];refine J0 H ?_;exact Q3 (Jy H.drop rfl fun w' H'=>⟨rfl,H'⟩)
theorem pA [Q4] (l:Yo) (h:XS l) {w:World} {fr:List Q2} (H:Q0 w fr):Calls Tryz.prog 124 #[GS l] w (ret fun v w'=>v = .tuple #[.int .u64 (Vm l),.int .i64 0]∧Q0 w' fr):=by
 cases l with
 | none=>
  refine QQ Tryz.func124 rfl (by kernel_rfl) ?_;refine J8 H ?_;intro b1 w H;refine J4 H ?_;refine Uh H ?_;refine IA H ?_;refine IB H ?_;exact Q3 (Jy H.drop rfl fun w' H'=>⟨rfl,H'⟩)
 | grave=>
  refine QQ Tryz.func124 rfl (by kernel_rfl) ?_;refine J8 H ?_;intro b1 w H;refine J4 H ?_;refine Uh H ?_;refine IA H ?_;refine IC H ?_;refine IA H ?_;refine IB H ?_;exact Q3 (Jy H.drop rfl fun w' H'=>⟨rfl,H'⟩)
 | obj i g=>
  have h':=h;obtain⟨h1,h2,h3⟩:=h';refine QQ Tryz.func124 rfl (by kernel_rfl) ?_;refine J8 H ?_;intro b1 w H;refine Av H ?_;refine Z0 (fun ms σ w=>ms=[]∧σ 1 = .pointer (some ⟨b1,0,none⟩)∧Q0 w (pts b1 (row 88 [.int .i64 2,.int .i64 i,.int .i64 g])::fr)) ?_ ?_
  ·refine Qd ?_;refine IA H ?_;refine IC H ?_;refine IA H ?_;refine IC H ?_;refine Mg H ?_;refine F3 H ?_;refine DA H ?_;refine Qe rfl rfl rfl (V3 (a:=[]) (b:=[]) rfl rfl (call (fS i g h H) ?_));rintro v w ⟨rfl,H⟩;refine A0 H ?_;refine Vk H ?_;exact .inl ⟨rfl,rfl,rfl,H⟩
  ·rintro ms σ w ⟨rfl,g1,H⟩;rw[Q1 g1];refine J1 H ?_;intro w H;refine Jf 1 ?_;refine Jf 2 ?_;refine Jl 3 [10,11] H ?_;refine KI 4 rfl (Q8.none rfl) rfl (by kernel_rfl) ?_;refine Ja 5 ?_;refine Jf 6 ?_;refine Jf 7 ?_;refine Jl 8 [10,11] H ?_;refine KI 9 rfl (Q8.none rfl) rfl (by kernel_rfl) ?_
   have e1:IntKind.u64.wrap (IntKind.u64.wrap (i:Int)+2)=((i+2:Nat):Int):=by
    rw[Kr (a:=i) (by omega)];exact Kr (a:=i+2) (by omega)
   have e2:IntKind.u64.wrap (g:Int)=((g:Nat):Int):=Kr (by omega);rw[e1,e2];refine Jw 0 10 H rfl rfl (V3 (a:=[]) (b:=[]) rfl rfl (call (SH H) ?_)) (C3 H rfl rfl rfl ?_)
   ·intro v16 w H;obtain⟨a16,m16,c16,rfl⟩:=VZ H;refine Jo 10 H ?_;refine DC H ?_;intro b17 w H;replace H:=Q0.swap (Rd (len:=2) (k:=1) rfl H)
    refine Hu 11 rfl (by kernel_rfl) (by repeat first|exact .nil|refine .cons (.inr H.at) ?_|refine .cons (.inr H.mp) ?_|refine .cons (.inl (by kernel_rfl)) ?_) (Q8.none rfl) (V3 (a:=[]) (b:=[]) rfl rfl (call (Nk _ _ R3 [i+2,g] SE (by decide) rfl (fun j f x hf hx=>by
         rcases j with _|_|j <;> simp[R3] at hf hx <;> subst hf hx <;> simp <;> omega) H) ?_))
    rintro v w ⟨rfl,H⟩;refine IW H ?_;exact Q3 (Jy H.drop.drop.drop rfl fun w' H'=>⟨rfl,H'⟩)
   ·intro b17 w H;refine Jo 0 H ?_;refine Jk rfl rfl (SH H) ?_;intro v16 w H;obtain⟨a16,m16,c16,rfl⟩:=VZ H;replace H:=Q0.swap (Rd (len:=2) (k:=1) rfl H.swap)
    refine Hu 11 rfl (by kernel_rfl) (by repeat first|exact .nil|refine .cons (.inr H.at) ?_|refine .cons (.inr H.mp) ?_|refine .cons (.inl (by kernel_rfl)) ?_) (Q8.none rfl) (V3 (a:=[]) (b:=[]) rfl rfl (call (Nk _ _ R3 [i+2,g] SE (by decide) rfl (fun j f x hf hx=>by
         rcases j with _|_|j <;> simp[R3] at hf hx <;> subst hf hx <;> simp <;> omega) H) ?_))
    rintro v w ⟨rfl,H⟩;refine IW H ?_;exact Q3 (Jy H.drop.drop.drop rfl fun w' H'=>⟨rfl,H'⟩)
theorem pB {i g:Nat} (h:JY i g):R3.map (GB (Vm (.obj i g)))=[i+2,g]:=by
 obtain⟨h1,h2,h3⟩:=h;simp only[R3,map_cons,map_nil,GB,Nl,Nat.reducePow];have e1:(i+2+g*4294967296) / 1 % 4294967296=i+2:=by omega
 have e2:(i+2+g*4294967296) / 4294967296 % 4294967296=g:=by omega
 rw[e1,e2]
theorem pC [Q4] (l:Yo) (h:XS l) {w:World} {fr:List Q2} (H:Q0 w fr):Calls Tryz.prog 227 #[.int .u64 (Vm l)] w (ret fun v w'=>v = .tuple #[GS l,.int .i64 0]∧Q0 w' fr):=by
 cases l with
 | none=>
  refine QQ Tryz.func227 rfl (by kernel_rfl) ?_;refine YN H ?_;intro b2 w H;refine J0 H ?_;refine F4 H ?_;refine J3 H ?_;refine ID H ?_;intro w H;refine J0 H ?_;refine Q3 (I7 (vs:=[GS .none,.int .i64 0]) _ (.inr rfl) H (fun w' H' => .cellN H' rfl (by repeat first|exact .nil _|apply QY.cons rfl) (.tmp .nil)) fun w' H'=>⟨rfl,H'.drop⟩)
 | grave=>
  refine QQ Tryz.func227 rfl (by kernel_rfl) ?_;refine YN H ?_;intro b2 w H;refine J0 H ?_;refine F4 H ?_;refine J3 H ?_;refine UH H ?_;refine ID H ?_;intro w H;refine J0 H ?_;refine Q3 (I7 (vs:=[GS .grave,.int .i64 0]) _ (.inr rfl) H (fun w' H' => .cellN H' rfl (by repeat first|exact .nil _|apply QY.cons rfl) (.tmp .nil)) fun w' H'=>⟨rfl,H'.drop⟩)
 | obj i g=>
  have h':=h;obtain⟨h1,h2,h3⟩:=h';have hw:=Nl i g;have n0:((Vm (.obj i g):Int) == 0)=false:=beq_eq_false_iff_ne.2 (by omega);have n1:((Vm (.obj i g):Int) == 1)=false:=beq_eq_false_iff_ne.2 (by omega);have Q6:=fP (l := .obj i g) h;have hg:=pB h;generalize hW:Vm (.obj i g)=W at n0 n1 Q6 hg hw;refine QQ Tryz.func227 rfl (by kernel_rfl) ?_;refine YN H ?_;intro b2 w H;refine Mh H ?_;refine Z0 (fun ms σ w=>ms=[]∧σ 0 = .int .u64 W∧σ 2 = .pointer (some ⟨b2,0,none⟩)∧Q0 w (pts b2 (row 88 [.int .i64 0,.int .i64 0,.int .i64 0])::fr)) ?_ ?_
  ·refine Qd ?_;refine J3 H ?_;rw[n0];refine UH H ?_;rw[n1];refine Vk H ?_;exact .inl ⟨rfl,rfl,rfl,rfl,H⟩
  ·rintro ms σ w ⟨rfl,g0,g2,H⟩;rw[Q1 g0,Q1 g2];refine Z6 H ?_;refine Jc rfl rfl (SH H) ?_;intro v16 w H
   refine Jc rfl rfl (SB _ Q6 v16 R3 SE (by decide) H) ?_;rintro v w ⟨u,rfl,H⟩;rw[hg] at H;obtain⟨au,cu,rfl⟩:=QI (m:=2) H rfl (by decide);obtain⟨bu,su,rfl,H,QU⟩:=VY H (by decide);refine Mf H ?_;intro w H;refine Ja 0 ?_;refine Ji 1 ?_;refine Jl 2 [11] H ?_;refine Me H ?_;refine Ku H ?_;refine Ji 6 ?_;refine Jl 7 [11] H ?_;refine KI 8 rfl (Q8.none rfl) rfl (by kernel_rfl) ?_;refine Uf 9 rfl (Q8.none rfl) rfl (by kernel_rfl) ?_
   have e1:IntKind.i64.wrap (IntKind.i64.wrap ((i+2:Nat):Int) - 2)=((i:Nat):Int):=by
    rw[As (a:=i+2) (by omega),Qh (by omega) (by omega)];omega
   have e2:IntKind.i64.wrap (g:Int)=((g:Nat):Int):=As (by omega);rw[e1,e2];refine Jo 10 H ?_;refine YW H rfl ?_;intro b6 w H
   refine Kv H ?_;intro w H;refine Jx H ?_;refine XL H ?_;refine Jc rfl rfl (fS i g h H) ?_;rintro v w ⟨rfl,H⟩;refine YT H ?_
   repeat refine Q7 ?_
   refine QG ?_;refine Q5 rfl (Vy H rfl (by repeat first|exact .nil _|apply QY.cons rfl) rfl ?_);refine Q5 rfl (Ko rfl rfl ?_);refine J5 H ?_;intro w H;refine J0 H ?_;refine Q3 (I7 (vs:=[GS (.obj i g),.int .i64 0]) _ (.inr rfl) H (fun w' H' => .cellN H' rfl (by repeat first|exact .nil _|apply QY.cons rfl) (.tmp .nil)) fun w' H'=>⟨rfl,H'.drop.drop.drop.drop⟩)
def BM (p n:Nat) (ws:List Nat) (many:Nat):Q2:=ex fun v:Value=>star [pts p (row 228 [.int .i64 n,v,.int .i64 many]),UL v ws]
theorem Nm [Q4] {w:World} {p n:Nat} {ws:List Nat} {m:Nat} {l:List Q2} (H:Q0 w (BM p n ws m::l)):∃ v,Q0 w (pts p (row 228 [.int .i64 n,v,.int .i64 m])::UL v ws::l):=by
 obtain⟨v,H⟩:=Q0.ex.1 H;exact⟨v,Q0.star.1 H⟩
theorem JZ [Q4] {w:World} {p n:Nat} {v:Value} {ws:List Nat} {m:Nat} {l:List Q2} (H:Q0 w (pts p (row 228 [.int .i64 n,v,.int .i64 m])::UL v ws::l)):Q0 w (BM p n ws m::l):=
 Q0.ex.2 ⟨v,Q0.star.2 H⟩
theorem Fj [Q4] {w:World} {p n x m:Nat} {l:List Q2} (H:Q0 w (BM p n [x] m::l)):∃ b cap spare,Q0 w (pts p (row 228 [.int .i64 n,.slice (some ⟨b,0,none⟩) 1 cap,.int .i64 m])::pts b (row 83 (.int .u64 x::spare))::l) ∧
  ∀ w' l' (x' m':Nat),Q0 w' (pts p (row 228 [.int .i64 n,.slice (some ⟨b,0,none⟩) 1 cap,.int .i64 m'])::pts b (row 83 (.int .u64 x'::spare))::l')→Q0 w' (BM p n [x'] m'::l'):=by
 obtain⟨v,H⟩:=Nm H;have H:=H.swap;obtain⟨a,cap,rfl⟩:=QI (m:=1) H rfl (by decide)
 rcases XI H with ⟨h,_⟩|⟨b,len,cap',spare,h,e3,e4,e5,H2⟩
 ·cases h
 ·cases h;exact⟨b,cap,spare,H2.swap,fun w' l' x' m' H'=>JZ (Q0.swap (Gn (c:=Qj [x']) rfl e4 e5 H'.swap))⟩
structure Gu (n x:Nat):Prop where
 pos:0 < n
 le:n≤63
 lt:x < 2 ^ n
theorem Gu.lt64 {n x:Nat} (h:Gu n x):x < 18446744073709551616:=Nat.lt_of_lt_of_le h.lt (Nj (by have:=h.le;omega))
theorem JG {i:Nat} (h:i < 64):IntKind.i64.wrap (Int.tdiv (i:Int) 64)=0:=by
 rw[Int.tdiv_eq_ediv_of_nonneg (by omega),show (i:Int) / 64=0 by omega];rfl
theorem Nn {i:Nat} (h:i < 64):Int.tmod (i:Int) 64=i:=by
 rw[Int.tmod_eq_emod_of_nonneg (by omega)];omega
theorem pD (x i:Nat):((x / 2 ^ i) &&& 1=1)↔x.testBit i=true:=by
 rw[Nat.and_one_is_mod,Nat.testBit_eq_decide_div_mod_eq];simp
theorem SI [Q4] (p n:Nat) (ws:List Nat) (m:Nat) {w:World} {fr:List Q2} (H:Q0 w (BM p n ws m::fr)):Calls Tryz.prog 221 #[pp p] w (ret fun v w'=>v = .int .i64 n∧Q0 w' (BM p n ws m::fr)):=by
 obtain⟨v,H⟩:=Nm H;refine QQ Tryz.func221 rfl (by kernel_rfl) ?_;refine A1 H ?_;refine J0 H ?_;exact Q3 (Jy (JZ H) rfl fun w' H'=>⟨rfl,H'⟩)
theorem SJ [Q4] (p n:Nat) (ws:List Nat) (m:Nat) {w:World} {fr:List Q2} (H:Q0 w (BM p n ws m::fr)):Calls Tryz.prog 65 #[pp p] w (ret fun v w'=>v = .int .i64 m∧Q0 w' (BM p n ws m::fr)):=by
 obtain⟨v,H⟩:=Nm H;refine QQ Tryz.func65 rfl (by kernel_rfl) ?_;refine A1 H ?_;refine J0 H ?_;exact Q3 (Jy (JZ H) rfl fun w' H'=>⟨rfl,H'⟩)
theorem pE [Q4] (p n x m i:Nat) (hb:Gu n x) (hi:i < n) {w:World} {fr:List Q2} (H:Q0 w (BM p n [x] m::fr)):Calls Tryz.prog 260 #[pp p,.int .i64 i] w (ret fun v w'=>v = .bool (x.testBit i)∧Q0 w' (BM p n [x] m::fr)):=by
 have VS:=hb.le;have Y3:=hb.lt64;refine QQ Tryz.func260 rfl (by kernel_rfl) ?_;refine DF H ?_;rw[show decide ((i:Int)≥0)=true from decide_eq_true (by omega)];refine Gq H ?_;refine Qe rfl rfl rfl (V3 (a:=[]) (b:=[]) rfl rfl (call (SI p n _ _ H) ?_));rintro v w ⟨rfl,H⟩;refine Zq H ?_;refine Jv ?_;rw[show decide ((i:Int) < (n:Int))=true from decide_eq_true (by omega)];obtain⟨b,cap,spare,H,QU⟩:=Fj H;refine KO H ?_;refine Kt H ?_;refine Gq H ?_;rw[JG (show i < 64 by omega)];refine Qe rfl rfl rfl (X4 rfl rfl (by decide) (by decide) rfl ?_);refine Qe rfl rfl rfl (QC H rfl rfl rfl ?_);refine Gq H ?_;rw[Nn (show i < 64 by omega)]
 refine VW rfl rfl (v := .int .u64 (W4 .u64 (x:Int) (i:Int))) (by
  show (if (i:Int) < 0 then none else some _)=_;rw[if_neg (by omega)]) rfl ?_
 rw[I8 (k := .u64) (a:=x) (b:=i) (by omega) rfl];have hq:x / 2 ^ i < 18446744073709551616:=Nat.lt_of_le_of_lt (Nat.div_le_self _ _) Y3;refine VW rfl rfl (v := .int .u64 (ZP .and .u64 ((x / 2 ^ i:Nat):Int) ((1:Nat):Int))) rfl rfl ?_;rw[MN hq (by decide)];refine A0 H ?_;refine Q3 (Jy (QU _ _ _ _ H) rfl fun w' H'=>⟨?_,H'⟩);show Value.bool (((x / 2 ^ i &&& 1:Nat):Int) == 1)=_;congr 1;rw[Bool.eq_iff_iff,← pD];simp only[beq_iff_eq];omega
def G8 (x i:Nat) (on:Bool):Nat:=if x.testBit i=on then x else x ^^^ 2 ^ i
theorem Dj (x i:Nat) (on:Bool) (j:Nat):(G8 x i on).testBit j=if j=i then on else x.testBit j:=by
 unfold G8;split
 ·rename_i h;split
  ·rename_i e;subst e;exact h
  ·rfl
 ·rename_i h;rw[Nat.testBit_xor,Nat.testBit_two_pow];split
  ·rename_i e;subst e;simp;cases hx:x.testBit j <;> cases on <;> simp_all
  ·rename_i e;have:decide (i=j)=false:=decide_eq_false (fun e2=>e e2.symm);simp[this]
def Zk (n x:Nat):Nat:=((List.range n).filter fun i=>x.testBit i).length
theorem pF {n x:Nat} (h:∀ j,n≤j→x.testBit j=false):x < 2 ^ n:=Nat.lt_pow_two_of_testBit x fun j hj=>h j hj
theorem SM {n x j:Nat} (h:x < 2 ^ n) (hj:n≤j):x.testBit j=false:=Nat.testBit_lt_two_pow (Nat.lt_of_lt_of_le h (Nat.pow_le_pow_right (by decide) hj))
theorem Gu.set {n x i:Nat} {on:Bool} (h:Gu n x) (hi:i < n):Gu n (G8 x i on):=⟨h.pos,h.le,pF fun j hj=>by
 rw[Dj,if_neg (by omega)];exact SM h.lt hj⟩
theorem SN (f g:Nat→Bool) (i:Nat):∀ n,i < n→(∀ j,j≠i→f j=g j)→f i=false→g i=true→((List.range n).filter g).length=((List.range n).filter f).length+1
 | 0,h,_,_,_=>by omega
 | n+1,h,hfg,h0,h1=>by
  rw[range_succ,filter_append,filter_append,length_append,length_append];by_cases e:i=n
  ·subst e
   have e2:(List.range i).filter g=(List.range i).filter f:=by
    apply filter_congr;intro j hj;rw[mem_range] at hj;rw[hfg j (by omega)]
   rw[e2];simp[h0,h1]
  ·have:=SN f g i n (by omega) hfg h0 h1;have e3:[n].filter g=[n].filter f:=by simp[filter_cons,hfg n (fun e'=>e e'.symm)]
   rw[e3];omega
theorem pH {n x i:Nat} {on:Bool} (hi:i < n) (h:x.testBit i≠on):(on=true→Zk n (G8 x i on)=Zk n x+1)∧(on=false→Zk n x=Zk n (G8 x i on)+1):=by
 have QA:∀ j,j≠i→x.testBit j=(G8 x i on).testBit j:=fun j hj=>by rw[Dj,if_neg hj]
 have GC:(G8 x i on).testBit i=on:=by rw[Dj,if_pos rfl]
 constructor
 ·rintro rfl;exact SN _ _ i n hi QA (by simpa using h) GC
 ·rintro rfl;exact SN _ _ i n hi (fun j hj=>(QA j hj).symm) GC (by simpa using h)
theorem Np (n x:Nat):Zk n x≤n:=by
 have:=length_filter_le (fun i=>x.testBit i) (List.range n)
 rwa [length_range] at this
@[reducible] def Ga (p n x:Nat):Q2:=BM p n [x] (Zk n x)
theorem pI [Q4] (p n x i:Nat) (on:Bool) (hb:Gu n x) (hi:i < n) {w:World} {fr:List Q2} (H:Q0 w (Ga p n x::fr)):Calls Tryz.prog 249 #[pp p,.int .i64 i,.bool on] w (ret fun v w'=>Q0 w' (Ga p n (G8 x i on)::fr)):=by
 have VS:=hb.le;have Y3:=hb.lt64;have QJ:=Np n x;have WB:=Np n (G8 x i on);refine QQ Tryz.func249 rfl (by kernel_rfl) ?_;refine J9 H ?_;refine Jc rfl rfl (pE p n x _ i hb hi H) ?_;rintro v w ⟨rfl,H⟩;refine Jv ?_;refine Q5 rfl (DY rfl rfl (.inl rfl) rfl ?_);refine CV H ?_;refine D4 rfl (fun h=>?_) (fun h=>QE ?_)
 ·have h1:x.testBit i=on:=by simpa [ZA] using h
  have e:G8 x i on=x:=if_pos h1;rw[e];exact Q3 (Jy H rfl fun w' H'=>H')
 ·have h1:x.testBit i≠on:=by simpa [ZA] using h
  have e:G8 x i on=x ^^^ 2 ^ i:=if_neg h1;obtain⟨c1,c0⟩:=pH hi h1;obtain⟨b,cap,spare,H,QU⟩:=Fj H;have fT:2 ^ i < 18446744073709551616:=Nat.lt_of_lt_of_le (Nat.pow_lt_pow_right (by decide) (show i < 64 by omega)) (Nat.le_refl _);have e2:Wo .u64 ((1:Nat):Int) (i:Int)=((2 ^ i:Nat):Int):=by rw[Ps (by omega),Nat.one_mul,Nat.mod_eq_of_lt fT]
  have e3:ZP .xor .u64 (x:Int) ((2 ^ i:Nat):Int)=((G8 x i on:Nat):Int):=by rw[eo Y3 fT,e]
  refine J1 H ?_;intro w H;refine YI H ?_;refine Jl 3 [13] H ?_;refine Ku H ?_;rw[JG (show i < 64 by omega)];refine C1 6 rfl (Q8.none rfl) rfl rfl (by decide) (by decide) (by kernel_rfl) ?_;refine Jl 7 [13] H ?_;refine Ja 8 ?_;refine Ja 9 ?_;rw[Nn (show i < 64 by omega)]
  refine XF (v := .int .u64 (Wo .u64 ((1:Nat):Int) (i:Int))) 10 rfl (Q8.none rfl) (by
   show (if (i:Int) < 0 then none else some _)=_;rw[if_neg (by omega)];rfl) (by kernel_rfl) ?_
  rw[e2];refine XF (v := .int .u64 (ZP .xor .u64 (x:Int) ((2 ^ i:Nat):Int))) 11 rfl (Q8.none rfl) rfl (by kernel_rfl) ?_;rw[e3];refine C1 12 rfl (Q8.none rfl) rfl rfl (by decide) (by decide) (by kernel_rfl) ?_;refine Jo 13 H ?_;refine XM H ?_;intro w H;refine Jx H ?_;refine X6 H ?_;refine Rh H ?_;intro w H;refine DH H ?_;cases on with
  | true=>
   refine Vt H ?_;refine X6 H ?_;refine Rh H ?_;intro w H;refine J2 H ?_
   have hc:IntKind.i64.wrap (IntKind.i64.wrap ((Zk n x:Nat) - 1:Int)+2)=((Zk n (G8 x i true):Nat):Int):=by
    have:=c1 rfl;rw[Qh (x:=((Zk n x:Nat):Int) - 1) (by omega) (by omega),Qh (by omega) (by omega)];omega
   rw[hc] at H;exact Z2 _ (.inl rfl) (QU _ _ _ _ H) rfl fun w' H'=>H'
  | false=>
   refine Vk H ?_
   have hc:IntKind.i64.wrap ((Zk n x:Nat) - 1:Int)=((Zk n (G8 x i false):Nat):Int):=by
    have:=c0 rfl;rw[Qh (by omega) (by omega)];omega
   rw[hc] at H;exact Z2 _ (.inl rfl) (QU _ _ _ _ H) rfl fun w' H'=>H'
def WC (x a:Nat):Nat→Bool→Nat
 | 0,_=>x
 | k+1,on=>G8 (WC x a k on) (a+k) on
theorem fa (x a:Nat) (on:Bool) (j:Nat):∀ k,(WC x a k on).testBit j=if a≤j∧j < a+k then on else x.testBit j
 | 0=>by simp[WC];omega
 | k+1=>by
  show (G8 _ _ _).testBit j=_;rw[Dj,fa x a on j k];by_cases h1:j=a+k
  ·rw[if_pos h1,if_pos (by omega)]
  ·rw[if_neg h1];by_cases h2:a≤j∧j < a+k
   ·rw[if_pos h2,if_pos (by omega)]
   ·rw[if_neg h2,if_neg (by omega)]
theorem Gu.fill {n x a:Nat} {on:Bool} (h:Gu n x):∀ {k:Nat},a+k≤n→Gu n (WC x a k on)
 | 0,_=>h
 | k+1,hk=>Gu.set (Gu.fill h (by omega)) (by omega)
theorem fb [Q4] (p n x a k:Nat) (on:Bool) (hb:Gu n x) (hk:a+k≤n) {w:World} {fr:List Q2} (H:Q0 w (Ga p n x::fr)) :
  Calls Tryz.prog 213 #[pp p,.int .i64 a,.int .i64 k,.bool on] w (ret fun v w'=>v = .int .i64 0∧Q0 w' (Ga p n (WC x a k on)::fr)):=by
 have VS:=hb.le;refine QQ Tryz.func213 rfl (by kernel_rfl) ?_;refine J7 H ?_;refine Z0 (fun ms σ w=>ms=[]∧σ 0=pp p∧σ 1 = .int .i64 a∧σ 2 = .int .i64 k∧σ 3 = .bool on∧Q0 w (Ga p n x::fr)) ?_ ?_
 ·refine Qd ?_;obtain⟨b,cap,spare,H,QU⟩:=Fj H;refine F5 H ?_;refine IC H ?_;refine YJ H ?_;rw[show decide ((k:Int) < 0)=false from decide_eq_false (by omega)];refine Mi H ?_;rw[show decide ((a:Int) < 0)=false from decide_eq_false (by omega)];refine WZ H ?_;refine Ug H ?_;refine ZT H ?_;rw[show decide ((a:Int) > (n:Int))=false from decide_eq_false (by omega)];refine WZ H ?_;refine Kt H ?_;refine WZ H ?_;refine J4 H ?_;rw[show decide ((k:Int) > IntKind.i64.wrap ((n:Int) - (a:Int)))=false from decide_eq_false (by rw[Qh (by omega) (by omega)];omega)];refine Vk H ?_;exact .inl ⟨rfl,rfl,rfl,rfl,rfl,rfl,QU _ _ _ _ H⟩
 ·rintro ms σ w ⟨rfl,g0,g1,g2,g3,H⟩;rw[Q1 g0,Q1 g1,Q1 g2,Q1 g3];refine J3 H ?_;refine Uh H ?_;refine Qp (fun ms σ w q=>ms=[]∧∃ j:Nat,j≤k∧q=k - j∧σ 0=pp p∧σ 1 = .int .i64 a∧σ 2 = .int .i64 k∧σ 3 = .bool on∧σ 9 = .int .i64 ((a+j:Nat):Int)∧Q0 w (Ga p n (WC x a j on)::fr)) (m:=k) ⟨rfl,0,by omega,rfl,rfl,rfl,rfl,rfl,rfl,H⟩ ?_;rintro ms σ w q ⟨rfl,j,hj,rfl,g0,g1,g2,g3,g9,H⟩;rw[Q1 g0,Q1 g1,Q1 g2,Q1 g3,Q1 g9];refine Az H ?_;rw[Qh (x:=(a:Int)+(k:Int)) (by omega) (by omega)];refine J6 H ?_;refine Qk rfl (fun h=>QE ?_) (fun h=>Qu ?_)
  ·have Q6:j < k:=by omega
   refine DI H ?_;refine Jc rfl rfl (pI p n _ (a+j) on (hb.fill (by omega)) (by omega) H) ?_;intro v w H;refine DJ H ?_;exact⟨_,⟨rfl,j+1,Q6,rfl,rfl,rfl,rfl,rfl,by rw[show ((a+(j+1):Nat):Int)=((a+j:Nat):Int)+1 by omega];exact Qg (i:=a+j) (by omega),H⟩,by omega⟩
  ·have V0:j=k:=by omega
   subst V0;refine Vg H ?_;exact Q3 (Jy H rfl fun w' H'=>⟨rfl,H'⟩)
theorem SO [Q4] (p n x i:Nat) (on:Bool) (hb:Gu n x) (hi:i < n) {w:World} {fr:List Q2} (H:Q0 w (Ga p n x::fr)) :
  Calls Tryz.prog 151 #[pp p,.int .i64 i,.bool on] w (ret fun v w'=>v = .int .i64 0∧Q0 w' (Ga p n (G8 x i on)::fr)):=by
 refine QQ Tryz.func151 rfl (by kernel_rfl) ?_;refine DF H ?_;refine Jc rfl rfl (fb p n x i 1 on hb (by omega) H) ?_;rintro v w ⟨rfl,H⟩;refine J0 H ?_;exact Q3 (Jy H rfl fun w' H'=>⟨rfl,H'⟩)
theorem fe [Q4] (n:Nat) (h1:0 < n) (h2:n≤1048576) {w:World} {fr:List Q2} (H:Q0 w fr) :
  Calls Tryz.prog 144 #[.int .i64 n] w (ret fun v w'=>∃ p,v = .tuple #[pp p,.int .i64 0]∧Q0 w' (BM p n (List.replicate ((n+63) / 64) 0) 0::fr)):=by
 refine QQ Tryz.func144 rfl (by kernel_rfl) ?_;refine J3 H ?_;refine YJ H ?_;rw[show decide ((n:Int) < 1)=false from decide_eq_false (by omega)];refine Gq H ?_;refine J0 H ?_;rw[show decide ((n:Int) > 1048576)=false from decide_eq_false (by omega)];refine Vk H ?_;refine A2 H ?_
 have e1:IntKind.i64.wrap (Int.tdiv (IntKind.i64.wrap ((n:Int)+63)) 64)=(((n+63) / 64:Nat):Int):=by
  rw[Qh (x:=(n:Int)+63) (by omega) (by omega),Int.tdiv_eq_ediv_of_nonneg (by omega),Qh (by omega) (by omega)];omega
 rw[e1];refine Q5 rfl (Gp H rfl rfl (by decide) (by omega) rfl ?_);intro b14 w H;refine WG H ?_;intro b16 w H;refine J4 H ?_
 have e:Yl (VA (.int .u64 0)) ((n+63) / 64)=Qj (List.replicate ((n+63) / 64) 0):=by
  rw[show VA (.int .u64 0)=[.int .u64 0] from rfl,DR];simp[Qj]
 rw[e] at H;exact Q3 (Jy (JZ H) rfl fun w' H'=>⟨_,rfl,H'⟩)
theorem SS {y:Nat} (h0:y≠0) (h:y < 18446744073709551616):Lib.ctz 64 y < 64∧y.testBit (Lib.ctz 64 y)=true∧∀ i,i < Lib.ctz 64 y→y.testBit i=false:=by
 obtain⟨m,hm,hk⟩:=Lib.ctzFrom_spec 64 y (by omega) h;have e:Lib.ctz 64 y=Lib.ctzFrom 64 y:=by simp[Lib.ctz,h0]
 rw[e];generalize Lib.ctzFrom 64 y=k at hm hk;subst hm;refine⟨hk,?_,fun i hi=>?_⟩
 ·rw[Nat.testBit_eq_decide_div_mod_eq,Nat.mul_div_cancel_left _ (Nat.two_pow_pos k)];simp
 ·rw[Nat.testBit_eq_decide_div_mod_eq]
  have:2 ^ k*(2*m+1) / 2 ^ i=2*(2 ^ (k - i - 1)*(2*m+1)):=by
   have h2:2 ^ k=2 ^ i*(2*2 ^ (k - i - 1)):=by
    rw[← Nat.pow_succ',← Nat.pow_add];congr 1;omega
   rw[h2,Nat.mul_assoc,Nat.mul_div_cancel_left _ (Nat.two_pow_pos i),Nat.mul_assoc]
  rw[this];simp
theorem Sa [Q4] (x:Nat) (hx:x < 18446744073709551616) {w:World} {fr:List Q2} [hT:Z5 0 Lib.deBruijn64tab fr] (H:Q0 w fr):Calls Tryz.prog 219 #[.int .u64 x] w (ret fun v w'=>v = .int .i64 (Lib.ctz 64 x)∧Q0 w' fr):=by
 refine(Any7.bits_TrailingZeros64 Tryz.laysTz x hx w (fun _=>hT.tab w H.1)).mono ?_;rintro e w' ⟨rfl,rfl⟩;exact⟨rfl,H⟩
theorem pJ {x i:Nat} (hx:x < 18446744073709551616):(18446744073709551615 - x).testBit i=(decide (i < 64) && !x.testBit i):=by
 have e:18446744073709551615 - x=2 ^ 64 - (x+1):=by omega
 rw[e,Nat.testBit_two_pow_sub_succ hx]
theorem ff (x a i:Nat):(x / 2 ^ a).testBit i=x.testBit (a+i):=by
 rw[Nat.testBit_div_two_pow,Nat.add_comm]
def pL (n x a:Nat) (v:Value):Prop:=
 (∃ j:Nat,v = .tuple #[.int .i64 j,.bool true]∧a≤j∧j < n∧x.testBit j=false∧∀ i,a≤i→i < j→x.testBit i=true)∨(v = .tuple #[.int .i64 0,.bool false]∧∀ i,a≤i→i < n→x.testBit i=true)
theorem Sb [Q4] (p n x a m:Nat) (hb:Gu n x) (ha:a≤n) {w:World} {fr:List Q2} [hT:Z5 0 Lib.deBruijn64tab fr] (H:Q0 w (BM p n [x] m::fr)) :
  Calls Tryz.prog 150 #[pp p,.int .i64 a] w (ret fun v w'=>pL n x a v∧Q0 w' (BM p n [x] m::fr)):=by
 have VS:=hb.le;have Y3:=hb.lt64;refine QQ Tryz.func150 rfl (by kernel_rfl) ?_;refine Mc H ?_;refine F6 H ?_;rw[show (if (0:Int) > (a:Int) then (0:Int) else (a:Int))=(a:Int) from if_neg (by omega)];refine Yn H ?_;refine Z0 (fun ms σ w=>ms=[]∧∃ j:Nat,σ 0=pp p∧σ 1 = .int .i64 j∧a≤j∧j≤64∧(∀ i,a≤i→i < j→x.testBit i=true)∧(j < n→x.testBit j=false)∧Q0 w (BM p n [x] m::fr)) ?_ ?_
 ·refine Qd ?_;refine Qp (fun ms σ w q=>ms=[]∧q=0∧σ 0=pp p∧σ 1 = .int .i64 a∧Q0 w (BM p n [x] m::fr)) (m:=0) ⟨rfl,rfl,rfl,rfl,H⟩ ?_;rintro ms σ w q ⟨rfl,rfl,g0,g1,H⟩;rw[Q1 g0,Q1 g1];refine J9 H ?_;refine Jc rfl rfl (SI p n _ _ H) ?_;rintro v w ⟨rfl,H⟩;refine Yn H ?_;refine Qk rfl (fun h=>QE ?_) (fun h=>Qu ?_)
  ·have Q6:a < n:=by omega
   have hq:(18446744073709551615 - x) / 2 ^ a < 18446744073709551616:=Nat.lt_of_le_of_lt (Nat.div_le_self _ _) (by omega);have Uk:∀ i,((18446744073709551615 - x) / 2 ^ a).testBit i=(decide (a+i < 64) && !x.testBit (a+i)):=fun i=>by rw[ff,pJ Y3]
   have QA:(18446744073709551615 - x) / 2 ^ a≠0:=fun e=>by
    have:=Uk (63 - a);rw[e,Nat.zero_testBit,show a+(63 - a)=63 by omega,SM hb.lt VS] at this;simp at this
   obtain⟨c1,c2,c3⟩:=SS QA hq;refine Uh H ?_;obtain⟨b,cap,spare,H,QU⟩:=Fj H;refine X6 H ?_;rw[JG (show a < 64 by omega)];refine Q5 rfl (X4 rfl rfl (by decide) (by decide) rfl ?_);refine WY H ?_;refine Q5 rfl (oI Y3 rfl rfl ?_);refine ZT H ?_;rw[Nn (show a < 64 by omega)]
   refine Kn (v := .int .u64 (W4 .u64 ((18446744073709551615 - x:Nat):Int) (a:Int))) (by
    show (if (a:Int) < 0 then none else some _)=_;rw[if_neg (by omega)]) rfl ?_
   rw[I8 (k := .u64) (by omega) rfl];refine ZZ H ?_;generalize (18446744073709551615 - x) / 2 ^ a=y at *;rw[show ((y:Int) != 0)=true by simp;omega];refine Vt H ?_;replace H:=QU _ _ _ _ H;refine J9 H ?_;refine Jc rfl rfl (Sa y hq H) ?_;rintro v w ⟨rfl,H⟩;refine J4 H ?_;have hk:=Uk (Lib.ctz 64 y);rw[c2] at hk;simp at hk;refine Qu (.inl ⟨rfl,rfl,a+Lib.ctz 64 y,rfl,?_,by omega,by omega,fun i h1 h2=>?_,fun _=>by simpa using hk.2,H⟩)
   ·show Value.int .i64 (IntKind.i64.wrap ((a:Int)+(Lib.ctz 64 y:Nat)))=_;rw[Qh (by omega) (by omega)];congr 1
   ·have:=Uk (i - a);rw[c3 (i - a) (by omega),show a+(i - a)=i by omega] at this;simp at this;exact this (by omega)
  ·have V0:a=n:=by omega
   exact .inl ⟨rfl,rfl,a,rfl,rfl,by omega,by omega,fun i h1 h2=>by omega,fun h=>by omega,H⟩
 ·rintro ms σ w ⟨rfl,j,g0,g1,h1,h2,h3,h4,H⟩;rw[Q1 g0,Q1 g1];refine J9 H ?_;refine Jc rfl rfl (SI p n _ _ H) ?_;rintro v w ⟨rfl,H⟩;refine Yn H ?_;refine Qk rfl (fun h=>?_) (fun h=>QE ?_)
  ·refine J3 H ?_;exact Q3 (Jy H rfl fun w' H'=>⟨.inr ⟨rfl,fun i h5 h6=>h3 i h5 (by omega)⟩,H'⟩)
  ·refine Vj H ?_;exact Q3 (Jy H rfl fun w' H'=>⟨.inl ⟨j,rfl,h1,by omega,h4 (by omega),h3⟩,H'⟩)
theorem Sc [Q4] (p n x a m:Nat) (hb:Gu n x) (ha:a≤n) {w:World} {fr:List Q2} [hT:Z5 0 Lib.deBruijn64tab fr] (H:Q0 w (BM p n [x] m::fr)) :
  Calls Tryz.prog 182 #[pp p,.int .i64 a] w (ret fun v w'=>(∃ e:Nat,v = .int .i64 e∧a≤e∧e≤n∧(∀ i,a≤i→i < e→x.testBit i=false)∧(e < n→x.testBit e=true))∧Q0 w' (BM p n [x] m::fr)):=by
 have VS:=hb.le;have Y3:=hb.lt64;refine QQ Tryz.func182 rfl (by kernel_rfl) ?_;refine J7 H ?_;refine Z0 (fun ms σ w=>ms=[]∧σ 0=pp p∧(∀ i,a≤i→i < n→x.testBit i=false)∧Q0 w (BM p n [x] m::fr)) ?_ ?_
 ·refine Qd ?_
  refine Qp (fun ms σ w q=>ms=[]∧∃ j:Nat,(q=if j < n then 1 else 0)∧(j < n→j=a)∧σ 0=pp p∧σ 1 = .int .i64 j∧(j < n∨∀ i,a≤i→i < n→x.testBit i=false)∧Q0 w (BM p n [x] m::fr)) (m:=if a < n then 1 else 0) ⟨rfl,a,rfl,fun _=>rfl,rfl,rfl,by
   by_cases h:a < n
   ·exact .inl h
   ·exact .inr fun i h1 h2=>by omega,H⟩ ?_
  rintro ms σ w q ⟨rfl,j,rfl,hj,g0,g1,h5,H⟩;rw[Q1 g0,Q1 g1];obtain⟨b,cap,spare,H,QU⟩:=Fj H;refine F7 H ?_;refine Yn H ?_;refine Qk rfl (fun h=>QE ?_) (fun h=>Qu ?_)
  ·have Q6:j < n:=by omega
   have:=hj Q6;subst this;have hq:x / 2 ^ j < 18446744073709551616:=Nat.lt_of_le_of_lt (Nat.div_le_self _ _) (by omega);have Uk:∀ i,(x / 2 ^ j).testBit i=x.testBit (j+i):=fun i=>by rw[ff]
   refine Uh H ?_;refine X6 H ?_;rw[JG (show j < 64 by omega)];refine Q5 rfl (X4 rfl rfl (by decide) (by decide) rfl ?_);refine WY H ?_;refine ZT H ?_;rw[Nn (show j < 64 by omega)]
   refine Kn (v := .int .u64 (W4 .u64 (x:Int) (j:Int))) (by
    show (if (j:Int) < 0 then none else some _)=_;rw[if_neg (by omega)]) rfl ?_
   rw[I8 (k := .u64) (by omega) rfl];refine ZZ H ?_;replace H:=QU _ _ _ _ H;generalize x / 2 ^ j=y at *;refine J6 H ?_;by_cases hy:y=0
   ·rw[show ((y:Int) != 0)=false by simp[hy]];refine Vk H ?_;refine Az H ?_;refine⟨_,⟨rfl,64,rfl,fun h=>by omega,rfl,?_,.inr fun i h1 h2=>?_,H⟩,by rw[if_pos Q6,if_neg (by omega)];decide⟩
    ·show Value.int .i64 (IntKind.i64.wrap (IntKind.i64.wrap (IntKind.i64.wrap (Int.tdiv (j:Int) 64)+1)*64))=_;rw[JG (show j < 64 by omega)];rfl
    ·have:=Uk (i - j);rw[hy,Nat.zero_testBit,show j+(i - j)=i by omega] at this;exact this.symm
   ·rw[show ((y:Int) != 0)=true by simp;omega];refine Vt H ?_;obtain⟨c1,c2,c3⟩:=SS hy hq;refine J9 H ?_;refine Jc rfl rfl (Sa y hq H) ?_;rintro v w ⟨rfl,H⟩;refine J4 H ?_;have hk:=Uk (Lib.ctz 64 y);rw[c2] at hk
    have hn:j+Lib.ctz 64 y < n:=by
     rcases Nat.lt_or_ge (j+Lib.ctz 64 y) n with h|h
     ·exact h
     ·rw[SM hb.lt h] at hk;cases hk
    refine Q3 (.inr ⟨by simp,Jy H rfl fun w' H'=>⟨⟨j+Lib.ctz 64 y,?_,by omega,by omega,fun i h1 h2=>?_,fun _=>hk.symm⟩,H'⟩⟩)
    ·show Value.int .i64 (IntKind.i64.wrap ((j:Int)+(Lib.ctz 64 y:Nat)))=_;rw[Qh (by omega) (by omega)];congr 1
    ·have:=Uk (i - j);rw[c3 (i - j) (by omega),show j+(i - j)=i by omega] at this;exact this.symm
  ·exact .inl ⟨rfl,rfl,rfl,by
    rcases h5 with h5|h5
    ·omega
    ·exact h5,QU _ _ _ _ H⟩
 ·rintro ms σ w ⟨rfl,g0,h1,H⟩;rw[Q1 g0];obtain⟨b,cap,spare,H,QU⟩:=Fj H;refine G6 H ?_;refine J0 H ?_;exact Q3 (Jy (QU _ _ _ _ H) rfl fun w' H'=>⟨⟨n,rfl,ha,Nat.le_refl _,h1,fun h=>by omega⟩,H'⟩)
def pM (n x k:Nat) (v:Value):Prop:=
 (∃ a:Nat,v = .tuple #[.int .i64 a,.bool true]∧a+k≤n∧∀ i,a≤i→i < a+k→x.testBit i=false) ∨
 (v = .tuple #[.int .i64 0,.bool false]∧∀ a,a+k≤n→∃ i,a≤i∧i < a+k∧x.testBit i=true)
theorem pN [Q4] (p n x k m:Nat) (hb:Gu n x) (hk:1≤k) (VP:k < 1000000) {w:World} {fr:List Q2} [hT:Z5 0 Lib.deBruijn64tab fr] (H:Q0 w (BM p n [x] m::fr)) :
  Calls Tryz.prog 212 #[pp p,.int .i64 k] w (ret fun v w'=>pM n x k v∧Q0 w' (BM p n [x] m::fr)):=by
 have VS:=hb.le;refine QQ Tryz.func212 rfl (by kernel_rfl) ?_;refine J3 H ?_;refine J3 H ?_;rw[show decide ((k:Int) < 1)=false from decide_eq_false (by omega)];refine F8 H ?_;refine Jc rfl rfl (Sb p n x 0 m hb (by omega) H) ?_;rintro v w ⟨hF,H⟩
 have hI:∃ (j:Nat) (ok:Bool),v = .tuple #[.int .i64 j,.bool ok]∧(ok=true→j < n∧x.testBit j=false∧∀ a,a < j→a+k≤n→∃ i,a≤i∧i < a+k∧x.testBit i=true) ∧
   (ok=false→∀ a,a+k≤n→∃ i,a≤i∧i < a+k∧x.testBit i=true):=by
  rcases hF with ⟨j,rfl,_,h2,h3,h4⟩|⟨rfl,h2⟩
  ·exact⟨j,true,rfl,fun _=>⟨h2,h3,fun a ha _=>⟨a,Nat.le_refl _,by omega,h4 a (by omega) ha⟩⟩,fun h=>by cases h⟩
  ·exact⟨0,false,rfl,(fun h=>by cases h),fun _ a ha=>⟨a,Nat.le_refl _,by omega,h2 a (by omega) (by omega)⟩⟩
 obtain⟨j,ok,rfl,QK,VK⟩:=hI;refine DL H ?_;refine Qd ?_
 refine Qp (fun ms σ w q=>ms=[]∧∃ (j:Nat) (ok:Bool),(q=if ok then n - j else 0)∧σ 0=pp p∧σ 1 = .int .i64 k∧σ 6 = .int .i64 j∧σ 7 = .bool ok∧(ok=true→j < n∧x.testBit j=false∧∀ a,a < j→a+k≤n→∃ i,a≤i∧i < a+k∧x.testBit i=true) ∧
   (ok=false→∀ a,a+k≤n→∃ i,a≤i∧i < a+k∧x.testBit i=true)∧Q0 w (BM p n [x] m::fr)) (m:=if ok then n - j else 0) ⟨rfl,j,ok,rfl,rfl,rfl,rfl,rfl,QK,VK,H⟩ ?_
 clear H hF QK VK;rintro ms σ w q ⟨rfl,j,ok,rfl,g0,g1,g6,g7,QK,VK,H⟩;rw[Q1 g0,Q1 g1,Q1 g6,Q1 g7];refine J7 H ?_;cases ok with
 | true=>
  obtain⟨h1,h2,h3⟩:=QK rfl;refine A3 H ?_;refine A4 H ?_;refine Jc rfl rfl (Sc p n x j m hb (by omega) H) ?_;rintro v w ⟨⟨e,rfl,e1,e2,e3,e4⟩,H⟩;refine J0 H ?_;refine Az H ?_;rw[Qh (x:=(e:Int) - (j:Int)) (by omega) (by omega)];refine J6 H ?_;refine Qk rfl (fun h=>?_) (fun h=>QE ?_)
  ·refine Vj H ?_;exact Q3 (Jy H rfl fun w' H'=>⟨.inl ⟨j,rfl,by omega,fun i h5 h6=>e3 i h5 (by omega)⟩,H'⟩)
  ·have hej:j < e:=by
    rcases Nat.lt_or_ge j e with h|h
    ·exact h
    ·have:e=j:=by omega
     subst this;have:=e4 h1;rw[h2] at this;cases this
   have hF:∀ a,a≤e→a+k≤n→∃ i,a≤i∧i < a+k∧x.testBit i=true:=fun a ha Yb=>by
    rcases Nat.lt_or_ge a j with h'|h'
    ·exact h3 a h' Yb
    ·exact⟨e,ha,by omega,e4 (by omega)⟩
   refine J9 H ?_;refine Jc rfl rfl (Sb p n x e m hb (by omega) H) ?_;rintro v w ⟨pO,H⟩
   rcases pO with ⟨j2,rfl,f1,f2,f3,f4⟩|⟨rfl,f2⟩
   ·refine S7 H ?_;refine⟨_,⟨rfl,j2,true,rfl,rfl,rfl,rfl,rfl,fun _=>⟨f2,f3,fun a ha Yb=>?_⟩,(fun h=>by cases h),H⟩,by simp;omega⟩
    rcases Nat.lt_or_ge e a with h'|h'
    ·exact⟨a,Nat.le_refl _,by omega,f4 a (by omega) ha⟩
    ·exact hF a h' Yb
   ·refine S7 H ?_;refine⟨_,⟨rfl,0,false,rfl,rfl,rfl,rfl,rfl,(fun h=>by cases h),fun _ a Yb=>?_,H⟩,by simp;omega⟩
    rcases Nat.lt_or_ge e a with h'|h'
    ·exact⟨a,Nat.le_refl _,by omega,f2 a (by omega) (by omega)⟩
    ·exact hF a h' Yb
 | false=>
  refine B0 H ?_;refine J3 H ?_;exact Q3 (Jy H rfl fun w' H'=>⟨.inr ⟨rfl,VK rfl⟩,H'⟩)
def QH (l:List Nat):List Value:=l.map fun x:Nat=>Value.int .i64 (x:Int)
theorem QM (l:List Nat):(QH l).length=l.length*1:=by simp[QH]
theorem BU (a b:List Nat):QH (a++b)=QH a++QH b:=by simp[QH]
theorem Gb {l:List Nat} {spare:List Value} {i x:Nat} (h:l[i]? = some x):(QH l++spare)[0+i*1]? = some (.int .i64 x):=by
 have hi:=(List.getElem?_eq_some_iff.1 h).1;rw[Nat.zero_add,Nat.mul_one,getElem?_append_left (by simpa [QH] using hi)];simp[QH,h]
theorem Nq {l:List Nat} {spare:List Value} {i x:Nat} (h:i < l.length):(QH l++spare).set (0+i*1) (.int .i64 x)=QH (l.set i x)++spare:=by
 rw[Nat.zero_add,Nat.mul_one,set_append_left _ _ (by simpa [QH] using h)];simp[QH,map_set]
theorem fg {l:List Nat} {spare:List Value} {i x:Nat} (h:i < l.length):(Qj l++spare).set (0+i*1) (.int .u64 x)=Qj (l.set i x)++spare:=by
 rw[Nat.zero_add,Nat.mul_one,set_append_left _ _ (by simpa [Qj] using h)];simp[Qj,map_set]
@[reducible] def NL (v:Value) (l:List Nat):Q2:=QF 3 1 v (QH l)
theorem CM {a b:Nat} (h:a < 9223372036854775808):IntKind.i64.wrap (Int.tdiv (a:Int) (b:Int))=((a / b:Nat):Int):=by
 have VS:a / b≤a:=Nat.div_le_self _ _;rw[Int.tdiv_eq_ediv_of_nonneg (by omega),← Int.natCast_ediv];generalize a / b=q at VS;exact Qh (by omega) (by omega)
structure CN (size:Nat) (mem own ws:List Nat) (many:Nat):Prop where
 s1:1≤size
 s2:size≤1024
 c1:1≤own.length
 c2:own.length≤1024
 len:mem.length=own.length*size
 many:many=(own.filter (· != 0)).length
 one:own.length≤63→∃ x,ws=[x]∧x < 2 ^ own.length∧∀ c,c < own.length→x.testBit c=decide (own.getD c 0≠0)
theorem Nr:∀ (own:List Nat) (x:Nat),(∀ c,c < own.length→x.testBit c=decide (own.getD c 0≠0))→Zk own.length x=(own.filter (· != 0)).length
 | own,x,h=>by
  unfold Zk
  have e:(List.range own.length).filter (fun i=>x.testBit i)=(List.range own.length).filter (fun i=>own.getD i 0 != 0):=by
   apply filter_congr;intro i hi;rw[mem_range] at hi;show x.testBit i=(own.getD i 0 != 0);rw[h i hi];generalize own.getD i 0=z;cases z <;> simp
  rw[e];clear e h
  have:∀ (l:List Nat),((List.range l.length).filter (fun i=>l.getD i 0 != 0)).length=(l.filter (· != 0)).length:=by
   intro l
   have e2:l.filter (· != 0)=((List.range l.length).filter (fun i=>l.getD i 0 != 0)).map (fun i=>l.getD i 0):=by
    have e3:l=(List.range l.length).map (fun i=>l.getD i 0):=by
     apply ext_getElem?;intro i;by_cases hi:i < l.length
     ·rw[getElem?_map,getElem?_range hi,getElem?_eq_getElem hi];simp[hi]
     ·rw[getElem?_eq_none (by omega),getElem?_eq_none (by simp;omega)]
    conv=>lhs;rw[e3]
    rw[filter_map];rfl
   rw[e2,length_map]
  exact this own
def ST (p size:Nat) (mem own:List Nat):Q2:=ex fun q:Value×Value×Nat×List Nat×Nat=>
 star [prop (CN size mem own q.2.2.2.1 q.2.2.2.2),pts p (row 141 [q.1,.int .i64 size,q.2.1,pp q.2.2.1]),UL q.1 mem,NL q.2.1 own,BM q.2.2.1 own.length q.2.2.2.1 q.2.2.2.2]
theorem KP [Q4] {w:World} {p size:Nat} {mem own:List Nat} {l:List Q2} (H:Q0 w (ST p size mem own::l)):∃ v v2 u ws many,CN size mem own ws many ∧
  Q0 w (pts p (row 141 [v,.int .i64 size,v2,pp u])::UL v mem::NL v2 own::BM u own.length ws many::l):=by
 obtain⟨⟨v,v2,u,ws,many⟩,H⟩:=Q0.ex.1 H;have H:=Q0.star.1 H;obtain⟨h,H⟩:=Q0.prop.1 H;exact⟨v,v2,u,ws,many,h,H⟩
theorem XT [Q4] {w:World} {p size:Nat} {mem own:List Nat} {l:List Q2} {v v2:Value} {u:Nat} {ws:List Nat} {many:Nat} (h:CN size mem own ws many)
  (H:Q0 w (pts p (row 141 [v,.int .i64 size,v2,pp u])::UL v mem::NL v2 own::BM u own.length ws many::l)):Q0 w (ST p size mem own::l):=
 Q0.ex.2 ⟨(v,v2,u,ws,many),Q0.star.2 (Q0.prop.2 ⟨h,H⟩)⟩
theorem pP [Q4] (n size:Nat) (h1:1≤n) (h2:n≤1024) (h3:1≤size) (h4:size≤1024) {w:World} {fr:List Q2} (H:Q0 w fr) :
  Calls Tryz.prog 80 #[.int .i64 n,.int .i64 size] w (ret fun v w'=>∃ p,v = .tuple #[pp p,.int .i64 0]∧Q0 w' (ST p size (List.replicate (n*size) 0) (List.replicate n 0)::fr)):=by
 have pS:n*size≤1048576:=Nat.mul_le_mul h2 h4;refine QQ Tryz.func80 rfl (by kernel_rfl) ?_;refine J3 H ?_;refine YJ H ?_;rw[show decide ((n:Int) < 1)=false from decide_eq_false (by omega)];refine Mi H ?_;rw[show decide ((n:Int) > 1024)=false from decide_eq_false (by omega)];refine Mi H ?_;rw[show decide ((size:Int) < 1)=false from decide_eq_false (by omega)];refine Gq H ?_;refine J0 H ?_;rw[show decide ((size:Int) > 1024)=false from decide_eq_false (by omega)];refine F8 H ?_;refine Jc rfl rfl (fe n (by omega) (by omega) H) ?_;rintro v w ⟨u,rfl,H⟩;refine Mf H ?_;intro w H;refine Ja 0 ?_;refine Ja 1 ?_;refine Ja 2 ?_;refine Ku H ?_;refine Ja 7 ?_
 have e1:IntKind.i64.wrap ((n:Int)*(size:Int))=((n*size:Nat):Int):=by
  rw[← Int.natCast_mul,Qh (by omega) (by omega)]
 rw[e1]
 have QK:CN size (List.replicate (n*size) 0) (List.replicate n 0) (List.replicate (((List.replicate n 0).length+63) / 64) 0) 0:=by
  refine⟨h3,h4,by simpa using h1,by simpa using h2,by simp,by simp,fun h=>⟨0,?_,Nat.two_pow_pos _,fun c hc=>?_⟩⟩
  ·have:((List.replicate n 0:List Nat).length+63) / 64=1:=by simp at h ⊢;omega
   rw[this];rfl
  ·have G0:c < n:=by simpa using hc
   simp[Nat.zero_testBit,G0]
 have z1:Yl (VA (.int .u64 0)) (n*size)=Qj (List.replicate (n*size) 0):=by
  rw[show VA (.int .u64 0)=[.int .u64 0] from rfl,DR];simp[Qj]
 have z2:Yl (VA (.int .i64 0)) n=QH (List.replicate n 0):=by
  rw[show VA (.int .i64 0)=[.int .i64 0] from rfl,DR];simp[QH]
 have hl:(List.replicate n 0:List Nat).length=n:=by simp
 rw[hl] at QK;refine Jw 3 6 H rfl rfl (Gp H rfl rfl (by decide) (by omega) rfl ?_) (Gp H rfl rfl (by decide) (by omega) rfl ?_)
 ·intro b30 w H;rw[z1] at H;refine Jo 6 H ?_;refine Gp H rfl rfl (by decide) (by omega) rfl ?_;intro b33 w H;rw[z2] at H;refine Uf 8 rfl (Q8.none rfl) rfl (by kernel_rfl) ?_;refine Jo 9 H ?_;refine En H rfl rfl ?_;intro b36 w H;refine Mj H ?_;replace H:=Js [0,1,0,0] 0 H;have H:=XT (own:=List.replicate n 0) QK (by rw[hl];exact H);exact Q3 (Jy H rfl fun w' H'=>⟨_,rfl,H'⟩)
 ·intro b33 w H;rw[z2] at H;refine Jo 3 H ?_;refine Gp H rfl rfl (by decide) (by omega) rfl ?_;intro b30 w H;rw[z1] at H;refine Uf 8 rfl (Q8.none rfl) rfl (by kernel_rfl) ?_;refine Jo 9 H ?_;refine En H rfl rfl ?_;intro b36 w H;refine Mj H ?_;have H:=XT (own:=List.replicate n 0) QK (by rw[hl];exact H);exact Q3 (Jy H rfl fun w' H'=>⟨_,rfl,H'⟩)
theorem Sd [Q4] (p size:Nat) (mem own:List Nat) {w:World} {fr:List Q2} (H:Q0 w (ST p size mem own::fr)):Calls Tryz.prog 16 #[pp p] w (ret fun v w'=>v = .int .i64 own.length∧Q0 w' (ST p size mem own::fr)):=by
 obtain⟨v,v2,u,ws,many,QK,H⟩:=KP H;obtain⟨a2,c2,rfl⟩:=QI (H.drop.drop) (QM own) (by decide);refine QQ Tryz.func16 rfl (by kernel_rfl) ?_;refine A1 H ?_;refine WU H ?_;exact Q3 (Jy (XT QK H) rfl fun w' H'=>⟨rfl,H'⟩)
theorem JU [Q4] (p size:Nat) (mem own:List Nat) {w:World} {fr:List Q2} (H:Q0 w (ST p size mem own::fr)):Calls Tryz.prog 49 #[pp p] w (ret fun v w'=>v = .int .i64 size∧Q0 w' (ST p size mem own::fr)):=by
 obtain⟨v,v2,u,ws,many,QK,H⟩:=KP H;refine QQ Tryz.func49 rfl (by kernel_rfl) ?_;refine A1 H ?_;refine J0 H ?_;exact Q3 (Jy (XT QK H) rfl fun w' H'=>⟨rfl,H'⟩)
theorem fh [Q4] (p size:Nat) (mem own:List Nat) {w:World} {fr:List Q2} (H:Q0 w (ST p size mem own::fr)):Calls Tryz.prog 15 #[pp p] w (ret fun v w'=>v = .int .i64 ((own.length - (own.filter (· != 0)).length:Nat):Int)∧Q0 w' (ST p size mem own::fr)):=by
 obtain⟨v,v2,u,ws,many,QK,H⟩:=KP H;obtain⟨a2,c2,rfl⟩:=QI (H.drop.drop) (QM own) (by decide);refine QQ Tryz.func15 rfl (by kernel_rfl) ?_;refine Mk H ?_;intro w H;refine WX H ?_;refine Ap 4 rfl (Q8.none rfl) rfl (by kernel_rfl) ?_;refine F9 H ?_;refine Jl 8 [9] H ?_;replace H:=Js [3,0,0,0] 0 H;refine Jo 9 H ?_;refine Jk rfl rfl (SJ u _ _ _ H) ?_;rintro v w ⟨rfl,H⟩;refine Mj H ?_;replace H:=Js [1,1,1,0] 0 H;have VS:=length_filter_le (· != 0) own;have:=QK.many;have h2:=QK.c2;refine Q3 (Jy (XT QK H) rfl fun w' H'=>⟨?_,H'⟩);show Value.int .i64 (IntKind.i64.wrap ((own.length:Int) - (many:Int)))=_;rw[Qh (by omega) (by omega)];congr 1;omega
theorem Se [Q4] (p size:Nat) (mem own:List Nat) (c:Nat) {w:World} {fr:List Q2} (H:Q0 w (ST p size mem own::fr)) (hc:c < own.length):Calls Tryz.prog 48 #[pp p,.int .i64 c] w (ret fun v w'=>v = .int .i64 (own.getD c 0)∧Q0 w' (ST p size mem own::fr)):=by
 refine QQ Tryz.func48 rfl (by kernel_rfl) ?_;refine DF H ?_;rw[show decide ((c:Int) < 0)=false from decide_eq_false (by omega)];refine Gq H ?_;refine Qe rfl rfl rfl (V3 (a:=[]) (b:=[]) rfl rfl (call (Sd p size mem own H) ?_));rintro v w ⟨rfl,H⟩;refine Ml H ?_;rw[show decide ((c:Int)≥(own.length:Int))=false from decide_eq_false (by omega)];refine Vk H ?_;obtain⟨v,v2,u,ws,many,QK,H⟩:=KP H;replace H:=Js [2,0,0,0] 0 H;obtain⟨a2,c2,rfl⟩:=QI H (QM own) (by decide);obtain⟨b,s,rfl,H,QU⟩:=VY H (by omega);have hx:=getElem?_eq_getElem hc;have hg:own.getD c 0=own[c]:=by simp[hc]
 rw[hg];generalize own[c]=x at hx;refine Vb H ?_;refine Jd ?_;refine Q5 rfl (QC H rfl (Gb hx) rfl ?_);refine J0 H ?_;replace H:=QU _ _ H;replace H:=Js [1,1,0,0] 0 H;exact Q3 (Jy (XT QK H) rfl fun w' H'=>⟨rfl,H'⟩)
def K1 (size:Nat) (own:List Nat) (a n:Nat):Prop:=∀ c,a / size≤c→c≤(a+n - 1) / size→own.getD c 0≠0
theorem Fk [Q4] (p size:Nat) (mem own:List Nat) (a n:Nat) (h1:1≤n) (h2:a+n≤mem.length) (h3:K1 size own a n) {w:World} {fr:List Q2} (H:Q0 w (ST p size mem own::fr)) :
  Calls Tryz.prog 208 #[pp p,.int .i64 a,.int .i64 n] w (ret fun v w'=>v = .int .i64 0∧Q0 w' (ST p size mem own::fr)):=by
 obtain⟨v,v2,u,ws,many,QK,H⟩:=KP H;have Sf:=QK;obtain⟨s1,s2,c1,c2,Qw,_,_⟩:=Sf;have VR:mem.length≤1048576:=by rw[Qw];exact Nat.mul_le_mul c2 s2
 have Q1c:(a+n - 1) / size < own.length:=by
  rw[Nat.div_lt_iff_lt_mul (by omega),← Qw];omega
 have WD:a / size≤(a+n - 1) / size:=Nat.div_le_div_right (by omega);obtain⟨a1,k1,rfl⟩:=QI (H.drop) (GA mem) (by decide);obtain⟨a2,k2,rfl⟩:=QI (H.drop.drop) (QM own) (by decide);refine QQ Tryz.func208 rfl (by kernel_rfl) ?_;refine DF H ?_;rw[show decide ((n:Int) < 0)=false from decide_eq_false (by omega)];refine Mi H ?_;rw[show decide ((a:Int) < 0)=false from decide_eq_false (by omega)];refine Mm H ?_;refine ZT H ?_;rw[show decide ((a:Int) > (mem.length:Int))=false from decide_eq_false (by omega)];refine WZ H ?_;refine Kt H ?_;refine Qe rfl rfl rfl (Gm rfl rfl ?_);refine WZ H ?_;refine J0 H ?_;rw[show decide ((n:Int) > IntKind.i64.wrap ((mem.length:Int) - (a:Int)))=false from decide_eq_false (by rw[Qh (by omega) (by omega)];omega)];refine FQ H ?_;rw[show ((n:Int) == 0)=false by simp;omega];refine Vk H ?_;refine F7 H ?_
 refine Kn (v := .int .i64 ((a / size:Nat):Int)) (by
  show (if IntKind.i64=IntKind.i64 then (if (size:Int)=0 then none else some _) else none)=_;rw[if_pos rfl,if_neg (by omega),CM (by omega)]) rfl ?_
 refine Yn H ?_;refine Qd ?_;refine Qp (fun ms σ w q=>ms=[]∧∃ c:Nat,a / size≤c∧c≤(a+n - 1) / size+1∧q=(a+n - 1) / size+1 - c∧σ 0=pp p∧σ 1 = .int .i64 a∧σ 2 = .int .i64 n∧σ 7 = .int .i64 c∧Q0 w (pts p (row 141 [.slice a1 mem.length k1,.int .i64 size,.slice a2 own.length k2,pp u])::UL (.slice a1 mem.length k1) mem::NL (.slice a2 own.length k2) own::BM u own.length ws many::fr)) (m:=(a+n - 1) / size+1 - a / size) ⟨rfl,a / size,Nat.le_refl _,by omega,rfl,rfl,rfl,rfl,rfl,H⟩ ?_;rintro ms σ w q ⟨rfl,c,Zs,UM,rfl,g0,g1,g2,g7,H⟩;rw[Q1 g0,Q1 g1,Q1 g2,Q1 g7];refine J9 H ?_;refine IF H ?_;refine Gs H ?_;rw[Qh (x:=(a:Int)+(n:Int)) (by omega) (by omega),Qh (x:=(a:Int)+(n:Int) - 1) (by omega) (by omega),show (a:Int)+(n:Int) - 1=((a+n - 1:Nat):Int) by omega]
 refine Kn (v := .int .i64 (((a+n - 1) / size:Nat):Int)) (by
  show (if IntKind.i64=IntKind.i64 then (if (size:Int)=0 then none else some _) else none)=_;rw[if_pos rfl,if_neg (by omega),CM (by omega)]) rfl ?_
 refine Yn H ?_;refine Qk rfl (fun h=>QE ?_) (fun h=>Qu ?_)
 ·have QJ:c < own.length:=by omega
  have hx:=getElem?_eq_getElem QJ;have QA:(own.getD c 0:Nat)≠0:=h3 c Zs (by omega);have hg:own.getD c 0=own[c]:=by simp[QJ]
  rw[hg] at QA;generalize own[c]=y at hx QA;replace H:=Js [2,0,0,0] 0 H;obtain⟨b,s,rfl,H,QU⟩:=VY H (by omega);refine DM H ?_;refine Jd ?_;refine Q5 rfl (QC H rfl (Gb hx) rfl ?_);refine J0 H ?_;rw[show ((y:Int) == 0)=false by simp;omega];refine Vk H ?_;replace H:=QU _ _ H;replace H:=Js [1,1,0,0] 0 H;refine Vj H ?_;exact⟨_,⟨rfl,c+1,by omega,by omega,rfl,rfl,rfl,rfl,Qg (by omega),H⟩,by omega⟩
 ·refine Vg H ?_;exact Q3 (Jy (XT QK H) rfl fun w' H'=>⟨rfl,H'⟩)
theorem Sg [Q4] (p size:Nat) (mem own:List Nat) (a:Nat) (h2:a < mem.length) (h3:K1 size own a 1) {w:World} {fr:List Q2} (H:Q0 w (ST p size mem own::fr)) :
  Calls Tryz.prog 180 #[pp p,.int .i64 a] w (ret fun v w'=>v = .tuple #[.int .u64 (mem.getD a 0),.int .i64 0]∧Q0 w' (ST p size mem own::fr)):=by
 refine QQ Tryz.func180 rfl (by kernel_rfl) ?_;refine Mn H ?_;refine J9 H ?_;refine Jc rfl rfl (Fk p size mem own a 1 (by decide) (by omega) h3 H) ?_;rintro v w ⟨rfl,H⟩;refine Za H ?_;obtain⟨v,v2,u,ws,many,QK,H⟩:=KP H;have H:=H.swap;obtain⟨a1,c1,rfl⟩:=QI H (GA mem) (by decide);obtain⟨b,s,rfl,H,QU⟩:=VY H (by omega);have hx:=getElem?_eq_getElem h2;have hg:mem.getD a 0=mem[a]:=by simp[h2]
 rw[hg];generalize mem[a]=x at hx;refine Vb H ?_;refine Jd ?_;refine Q5 rfl (QC H rfl (Ng hx) rfl ?_);refine J4 H ?_;exact Q3 (Jy (XT QK (QU _ _ H).swap) rfl fun w' H'=>⟨rfl,H'⟩)
theorem CN.mem {size:Nat} {mem mem' own ws:List Nat} {many:Nat} (h:CN size mem own ws many) (e:mem'.length=mem.length):CN size mem' own ws many:=⟨h.s1,h.s2,h.c1,h.c2,e.trans h.len,h.many,h.one⟩
theorem Ns [Q4] (p size:Nat) (mem own:List Nat) (a x:Nat) (h2:a < mem.length) (h3:K1 size own a 1) {w:World} {fr:List Q2} (H:Q0 w (ST p size mem own::fr)) :
  Calls Tryz.prog 125 #[pp p,.int .i64 a,.int .u64 x] w (ret fun v w'=>v = .int .i64 0∧Q0 w' (ST p size (mem.set a x) own::fr)):=by
 refine QQ Tryz.func125 rfl (by kernel_rfl) ?_;refine Mo H ?_;refine Jc rfl rfl (Fk p size mem own a 1 (by decide) (by omega) h3 H) ?_;rintro v w ⟨rfl,H⟩;refine ZZ H ?_;obtain⟨v,v2,u,ws,many,QK,H⟩:=KP H;have H:=H.swap;obtain⟨a1,c1,rfl⟩:=QI H (GA mem) (by decide);obtain⟨b,s,rfl,H,_,_,QU⟩:=GP H (by omega);refine J6 H ?_;refine Qt (fun ms σ w=>ms=[]∧σ 7 = .int .i64 0∧Q0 w (pts b (row 83 (Qj (mem.set a x)++s))::pts p (row 141 [.slice (some ⟨b,0,none⟩) mem.length c1,.int .i64 size,v2,pp u])::NL v2 own::BM u own.length ws many::fr)) ?_ ?_
 ·refine YU rfl ?_;refine X6 H ?_;refine Jd ?_;refine Q5 rfl (G1 H rfl rfl inferInstance rfl (by simp only[length_append,GA];omega) rfl ?_);intro w H;rw[fg (by omega)] at H;refine J2 H ?_;exact⟨rfl,rfl,rfl,H⟩
 ·rintro ms σ w ⟨rfl,g7,H⟩;rw[Q1 g7];refine J3 H ?_;exact Q3 (Jy (XT (QK.mem (by simp)) (QU _ _ _ (by simp[Qj]) H).swap) rfl fun w' H'=>⟨rfl,H'⟩)
theorem pT [Q4] (p size:Nat) (mem own:List Nat) (a n:Nat) (h1:1≤n) (h2:a+n≤mem.length) (h3:K1 size own a n) {w:World} {fr:List Q2} (H:Q0 w (ST p size mem own::fr)) :
  Calls Tryz.prog 139 #[pp p,.int .i64 a,.int .i64 a,.int .i64 n] w (ret fun v w'=>v = .int .i64 0∧Q0 w' (ST p size mem own::fr)):=by
 refine QQ Tryz.func139 rfl (by kernel_rfl) ?_;refine fB H ?_;refine YJ H ?_;refine Jc rfl rfl (Fk p size mem own a n h1 h2 h3 H) ?_;rintro v w ⟨rfl,H⟩;refine FV H ?_;refine Jc rfl rfl (Fk p size mem own a n h1 h2 h3 H) ?_;rintro v w ⟨rfl,H⟩;refine Av H ?_;refine Z0 (fun ms σ w=>ms=[]∧σ 0=pp p∧σ 1 = .int .i64 a∧σ 2 = .int .i64 a∧σ 3 = .int .i64 n∧Q0 w (ST p size mem own::fr)) ?_ ?_
 ·refine Qd ?_;refine CY H ?_;refine Aw H ?_;refine CY H ?_;refine DN H ?_;exact .inl ⟨rfl,rfl,rfl,rfl,rfl,rfl,H⟩
 ·rintro ms σ w ⟨rfl,g0,g1,g2,g3,H⟩;rw[Q1 g0,Q1 g1,Q1 g2,Q1 g3];obtain⟨v,v2,u,ws,many,QK,H⟩:=KP H;have H:=H.swap;have VR:mem.length≤1048576:=by rw[QK.len];exact Nat.mul_le_mul QK.c2 QK.s2
  obtain⟨a1,c1,rfl⟩:=QI H (GA mem) (by decide)
  rcases XI H with ⟨h,_⟩|⟨b,len,cap',s,h,e3,e4,e5,H⟩
  ·injection h with h4 h5 h6;omega
  injection h with h4 h5 h6
  subst h4 h5 h6
  have Qv:QY (Qj mem++s) (0+a*1) ((a+n - a)*1) (Qj ((mem.drop a).take n)):=by
   have e:(Qj ((mem.drop a).take n)).length=(a+n - a)*1:=by simp[Qj];omega
   rw[← e];refine QY.of_get fun j v hj=>?_;have G4:j < n:=by have:=(List.getElem?_eq_some_iff.1 hj).1;simp[Qj] at this;omega
   rw[getElem?_append_left (by simp[Qj];omega)];simp only[Qj,getElem?_map,getElem?_take_of_lt G4,getElem?_drop] at hj;simp only[Qj,getElem?_map,Nat.zero_add,Nat.mul_one];exact hj
  have Vn:(Qj ((mem.drop a).take n)).all (·.oneCell')=true:=all_eq_true.2 fun v hv=>by
   simp only[Qj,mem_map] at hv;obtain⟨x,_,rfl⟩:=hv;rfl
  refine J1 H ?_;intro w H;refine YI H ?_;refine Jl 3 [18] H ?_;refine Ku H ?_;refine Ja 6 ?_;refine Ja 7 ?_;rw[Qh (x:=(a:Int)+(n:Int)) (by omega) (by omega),show (a:Int)+(n:Int)=((a+n:Nat):Int) by omega];refine IG 8 rfl (Q8.none rfl) rfl rfl rfl (by omega) (by omega) (by omega) (by kernel_rfl) ?_;refine IH H ?_;refine Jl 12 [18] H ?_;refine Ja 13 ?_;refine Ja 14 ?_;refine Ja 15 ?_;refine Ja 16 ?_;rw[Qh (x:=(a:Int)+(n:Int)) (by omega) (by omega),show (a:Int)+(n:Int)=((a+n:Nat):Int) by omega];refine IG 17 rfl (Q8.none rfl) rfl rfl rfl (by omega) (by omega) (by omega) (by kernel_rfl) ?_;refine Jo 18 H ?_;refine oN H rfl rfl Qv (by simp only[length_append,GA];omega) Vn rfl ?_;intro w H;refine II H ?_;exact Q3 (Jy (XT QK (Gn e3 e4 e5 H).swap) rfl fun w' H'=>⟨rfl,H'⟩)
def Vc (l:List Nat) (a n v:Nat):List Nat:=l.take a++List.replicate n v++l.drop (a+n)
theorem Yi {l:List Nat} {a n v:Nat} (h:a+n≤l.length):(Vc l a n v).length=l.length:=by simp[Vc];omega
theorem Ul {l:List Nat} {a n v:Nat} (h:a+n≤l.length) (i:Nat):(Vc l a n v)[i]? = if a≤i∧i < a+n then some v else l[i]?:=by
 unfold Vc;by_cases h1:i < a
 ·rw[if_neg (by omega),append_assoc,getElem?_append_left (by simp;omega),getElem?_take_of_lt h1]
 ·have e1:(l.take a).length=a:=by simp;omega
  rw[append_assoc,getElem?_append_right (by omega),e1];by_cases h2:i < a+n
  ·rw[if_pos (by omega),getElem?_append_left (by simp;omega),getElem?_replicate,if_pos (by omega)]
  ·rw[if_neg (by omega),getElem?_append_right (by simp;omega),getElem?_drop,length_replicate];congr 1;omega
theorem CO {l:List Nat} {a n v:Nat} (h:a+n≤l.length) (i:Nat):(Vc l a n v).getD i 0=if a≤i∧i < a+n then v else l.getD i 0:=by
 rw[getD_eq_getElem?_getD,Ul h];split
 ·rfl
 ·rw[getD_eq_getElem?_getD]
theorem Nt {l:List Nat} {a v:Nat}:Vc l a 0 v=l:=by simp[Vc]
theorem fj {l:List Nat} {a n v:Nat} (h:a+n < l.length):(Vc l a n v).set (a+n) v=Vc l a (n+1) v:=by
 apply ext_getElem?;intro i;rw[getElem?_set,Ul (by omega),Ul (by omega),Yi (by omega)];by_cases h1:a+n=i
 ·subst h1;rw[if_pos rfl,if_pos (by omega),if_pos (by omega)]
 ·rw[if_neg h1];by_cases h2:a≤i∧i < a+n
  ·rw[if_pos h2,if_pos (by omega)]
  ·rw[if_neg h2,if_neg (by omega)]
theorem Sh {size:Nat} {mem own ws:List Nat} {many:Nat} (h:CN size mem own ws many) (Xa:own.length≤63):∃ x,ws=[x]∧Gu own.length x∧many=Zk own.length x∧∀ c,c < own.length→x.testBit c=decide (own.getD c 0≠0):=by
 obtain⟨x,h1,h2,h3⟩:=h.one Xa;exact⟨x,h1,⟨h.c1,Xa,h2⟩,by rw[Nr own x h3];exact h.many,h3⟩
theorem pa [Q4] (p size:Nat) (mem own:List Nat) (o n:Nat) (Xa:own.length≤63) (ho:1≤o) (hn:1≤n) (Gv:n < 1000000) {w:World} {fr:List Q2} [hT:Z5 0 Lib.deBruijn64tab fr] (H:Q0 w (ST p size mem own::fr)) :
  Calls Tryz.prog 134 #[pp p,.int .i64 o,.int .i64 n] w (ret fun v w'=>
   (∃ a:Nat,v = .tuple #[.int .i64 a,.int .i64 0]∧a+n≤own.length∧(∀ i,a≤i→i < a+n→own.getD i 0=0)∧Q0 w' (ST p size (Vc mem (a*size) (n*size) 0) (Vc own a n o)::fr)) ∨
   (v = .tuple #[.int .i64 0,.int .i64 11]∧(∀ a,a+n≤own.length→∃ i,a≤i∧i < a+n∧own.getD i 0≠0)∧Q0 w' (ST p size mem own::fr))):=by
 obtain⟨v,v2,u,ws,many,QK,H⟩:=KP H;obtain⟨x,rfl,hb,rfl,hx⟩:=Sh QK Xa;refine QQ Tryz.func134 rfl (by kernel_rfl) ?_;refine IJ H ?_;refine Z0 (fun ms σ w=>ms=[]∧σ 0=pp p∧σ 1 = .int .i64 o∧σ 2 = .int .i64 n∧Q0 w (pts p (row 141 [v,.int .i64 size,v2,pp u])::UL v mem::NL v2 own::Ga u own.length x::fr)) ?_ ?_
 ·refine CZ H ?_;refine YJ H ?_;rw[show decide ((o:Int) < 1)=false from decide_eq_false (by omega)];refine Gq H ?_;refine J4 H ?_;rw[show decide ((n:Int) < 1)=false from decide_eq_false (by omega)];refine Vk H ?_;exact .inl ⟨rfl,rfl,rfl,rfl,rfl,H⟩
 ·rintro ms σ w ⟨rfl,g0,g1,g2,H⟩;rw[Q1 g0,Q1 g1,Q1 g2];refine Vb H ?_;replace H:=Js [3,0,0,0] 0 H;refine Jc rfl rfl (pN u _ x n _ hb hn Gv H) ?_;rintro r w ⟨hR,H⟩
  rcases hR with ⟨a,rfl,ha,G2⟩|⟨rfl,VK⟩
  ·have Qw:=QK.len;have Vn:=QK.s1;have Yp:=QK.s2;have VR:mem.length≤1048576:=by rw[QK.len];exact Nat.mul_le_mul QK.c2 QK.s2
   have Q1d:(a+n)*size≤mem.length:=by rw[Qw];exact Nat.mul_le_mul_right _ ha
   have Q1e:(a+n)*size=a*size+n*size:=Nat.add_mul _ _ _;have pS:1*1≤n*size:=Nat.mul_le_mul hn Vn;refine UI H ?_;refine X6 H ?_;refine Jc rfl rfl (fb u _ x a n true hb ha H) ?_;rintro v w ⟨rfl,H⟩;refine Ri H ?_;obtain⟨a2,c2,rfl⟩:=QI (H.drop.drop.drop) (QM own) (by decide);refine J6 H ?_;refine Z0 (fun ms σ w=>ms=[]∧σ 0=pp p∧σ 2 = .int .i64 n∧σ 8 = .int .i64 a∧Q0 w (NL (.slice a2 own.length c2) (Vc own a n o)::pts p (row 141 [v,.int .i64 size,.slice a2 own.length c2,pp u])::UL v mem::Ga u own.length (WC x a n true)::fr)) ?_ ?_
   ·refine Qd ?_;replace H:=Js [3,1,1,0] 0 H;refine Qp (fun ms σ w q=>ms=[]∧∃ j:Nat,j≤n∧q=n - j∧σ 0=pp p∧σ 1 = .int .i64 o∧σ 2 = .int .i64 n∧σ 8 = .int .i64 a∧σ 10 = .int .i64 ((a+j:Nat):Int)∧Q0 w (NL (.slice a2 own.length c2) (Vc own a j o)::pts p (row 141 [v,.int .i64 size,.slice a2 own.length c2,pp u])::UL v mem::Ga u own.length (WC x a n true)::fr)) (m:=n) ⟨rfl,0,by omega,rfl,rfl,rfl,rfl,rfl,rfl,by rw[Nt];exact H⟩ ?_;rintro ms σ w q ⟨rfl,j,hj,rfl,g0,g1,g2,g8,g10,H⟩;rw[Q1 g0,Q1 g1,Q1 g2,Q1 g8,Q1 g10];refine Az H ?_;rw[Qh (x:=(a:Int)+(n:Int)) (by omega) (by omega)];refine J6 H ?_;refine Qk rfl (fun h=>QE ?_) (fun h=>Qu ?_)
    ·have Q6:j < n:=by omega
     have AQ:=Yi (l:=own) (a:=a) (n:=j) (v:=o) (by omega);obtain⟨b,s,rfl,H,_,_,QU⟩:=GP H (by omega);refine Uh H ?_;refine X6 H ?_;refine Jd ?_;refine Q5 rfl (G1 H rfl rfl inferInstance rfl (by simp only[length_append,QM];omega) rfl ?_);intro w H;rw[Int.toNat_natCast,Nq (by omega),fj (by omega)] at H;replace H:=QU _ _ _ (by rw[QM,QM,Yi (by omega),Yi (by omega)]) H;refine DJ H ?_;exact⟨_,⟨rfl,j+1,Q6,rfl,rfl,rfl,rfl,rfl,by rw[show ((a+(j+1):Nat):Int)=((a+j:Nat):Int)+1 by omega];exact Qg (i:=a+j) (by omega),H⟩,by omega⟩
    ·have V0:j=n:=by omega
     subst V0;exact .inl ⟨rfl,rfl,rfl,rfl,rfl,H⟩
   ·rintro ms σ w ⟨rfl,g0,g2,g8,H⟩;rw[Q1 g0,Q1 g2,Q1 g8];replace H:=Js [2,1,0,0] 0 H;obtain⟨a1,c1,rfl⟩:=QI H (GA mem) (by decide);obtain⟨b,s,rfl,H,Dk,Yz,QU⟩:=GP H (by omega);refine J1 H ?_;intro w H;refine YI H ?_;refine Jl 3 [19] H ?_;refine Mp H ?_;refine Jl 8 [19] H ?_;refine CQ H ?_;refine Ja 11 ?_;refine Ja 12 ?_;refine Mq H ?_;refine Jl 16 [19] H ?_;refine Ja 17 ?_;rw[Qh (x:=(a:Int)+(n:Int)) (by omega) (by omega),show ((a:Int)+(n:Int))*(size:Int)=(((a+n)*size:Nat):Int) by rw[Int.natCast_mul,Int.natCast_add],Qh (x:=(((a+n)*size:Nat):Int)) (by omega) (by omega),← Int.natCast_mul,Qh (x:=((a*size:Nat):Int)) (by omega) (by omega)];refine IG 18 rfl (Q8.none rfl) rfl rfl rfl (by omega) (by omega) (by omega) (by kernel_rfl) ?_
    have hz:Yl (VA (.int .u64 0)) ((a+n)*size - a*size)=Qj (List.replicate (n*size) 0):=by
     rw[show VA (.int .u64 0)=[.int .u64 0] from rfl,DR,show (a+n)*size - a*size=n*size by omega];simp[Qj]
    refine Jo 19 H ?_;refine oX H rfl (by omega) (by rw[hz];simp only[length_append,GA,length_replicate];omega) rfl rfl ?_;intro w H;rw[hz] at H
    have hw:wr (Qj mem++s) (0+a*size*1) (Qj (List.replicate (n*size) 0))=Qj (Vc mem (a*size) (n*size) 0)++s:=by
     rw[MO _ _ _ (by simp[Qj];omega)];rw[take_append_of_le_length (by simp[Qj];omega),drop_append_of_le_length (by simp[Qj];omega)];simp only[Nat.zero_add,Nat.mul_one,Qj,Vc,map_append,map_take,map_drop,length_map,length_replicate,append_assoc]
    rw[hw] at H;replace H:=QU _ _ _ (by simp[Qj,Yi (show a*size+n*size≤mem.length by omega)]) H;refine Jx H ?_;refine Vj H ?_;replace H:=Js [1,0,0,0] 0 H;have AQ:=Yi (l:=own) (v:=o) ha
    have V9:∀ c,c < (Vc own a n o).length→(WC x a n true).testBit c=decide ((Vc own a n o).getD c 0≠0):=by
     intro c hc;rw[fa,CO ha];split
     ·simp;omega
     ·exact hx c (by omega)
    have pb:=hb.fill (a:=a) (k:=n) (on:=true) ha;refine Q3 (Jy (XT (own:=Vc own a n o) (ws:=[WC x a n true]) (many:=Zk own.length (WC x a n true)) ⟨Vn,Yp,by rw[AQ];exact QK.c1,by rw[AQ];exact QK.c2,by rw[Yi (by omega),AQ,Qw],?_,fun _=>⟨_,rfl,by rw[AQ];exact pb.lt,V9⟩⟩ (by rw[AQ];exact H)) rfl fun w' H' => .inl ⟨a,rfl,ha,fun i h1 h2=>?_,H'⟩)
    ·rw[← AQ];exact Nr _ _ V9
    ·have:=hx i (by omega);rw[G2 i h1 h2] at this;simpa using this.symm
  ·refine FY H ?_;refine G7 H ?_;replace H:=Js [1,1,1,0] 0 H;refine Q3 (Jy (XT QK H) rfl fun w' H' => .inr ⟨rfl,fun a ha=>?_,H'⟩);obtain⟨i,h1,h2,h3⟩:=VK a ha;refine⟨i,h1,h2,?_⟩;have:=hx i (by omega);rw[h3] at this;simpa using this.symm
def YX (w k:Nat):List Nat:=(List.range k).filter fun i=>w.testBit i
theorem Nu (w k:Nat):YX w (k+1)=YX w k++if w.testBit k then [k] else []:=by
 unfold YX;rw[range_succ,filter_append];congr 1;by_cases h:w.testBit k <;> simp[h]
theorem Si {w k:Nat}:∀ {t:Nat},k≤t→(∀ i,k≤i→i < t→w.testBit i=false)→YX w t=YX w k
 | 0,h,_=>by rw[show k=0 by omega]
 | t+1,h,hh=>by
  by_cases hk:k=t+1
  ·rw[hk]
  ·rw[Nu,hh t (by omega) (by omega),Si (t:=t) (by omega) (fun i h1 h2=>hh i h1 (by omega))];simp
theorem Fm (w k:Nat):(YX w k).length≤k:=by
 have:=length_filter_le (fun i=>w.testBit i) (List.range k);simpa [YX] using this
theorem pc {x t:Nat} (ht:x.testBit t=true) (hl:∀ i,i < t→x.testBit i=false):x=2 ^ (t+1)*(x / 2 ^ (t+1))+2 ^ t:=by
 have e:x % 2 ^ (t+1)=2 ^ t:=by
  apply Nat.eq_of_testBit_eq;intro j;rw[Nat.testBit_mod_two_pow,Nat.testBit_two_pow];by_cases h1:j < t
  ·rw[hl j h1];simp;omega
  ·by_cases h2:j=t
   ·subst h2;simp[ht]
   ·have:¬ j < t+1:=by omega
    simp[this];omega
 have:=Nat.div_add_mod x (2 ^ (t+1));omega
theorem pd {x t:Nat} (ht:x.testBit t=true) (hl:∀ i,i < t→x.testBit i=false) (j:Nat):(x &&& (x - 1)).testBit j=(x.testBit j && decide (j≠t)):=by
 have e:=pc ht hl;have hp:0 < 2 ^ t:=Nat.two_pow_pos t;have Q6:2 ^ t - 1 < 2 ^ (t+1):=by rw[Nat.pow_succ];omega
 have e1:x - 1=2 ^ (t+1)*(x / 2 ^ (t+1))+(2 ^ t - 1):=by omega
 rw[Nat.testBit_and,e1,Nat.testBit_two_pow_mul_add _ Q6,Nat.testBit_two_pow_sub_one];by_cases h1:j < t
 ·rw[hl j h1];simp
 ·by_cases h2:j=t
  ·subst h2;simp
  ·rw[if_neg (by omega),Nat.testBit_div_two_pow,show j - (t+1)+(t+1)=j by omega];simp[h2]
def Rp (l:List Nat) (size:Nat):Prop:=(∀ p∈l,p < size)∧l.Pairwise (· < ·)
instance (l:List Nat) (size:Nat):Decidable (Rp l size):=inferInstanceAs (Decidable (_∧_))
theorem fk {l:List Nat} {x:Nat} (h:l.Pairwise (· < ·)) (hx:∀ y,l.getLast? = some y→y < x):(l++[x]).Pairwise (· < ·):=by
 rw[pairwise_append];refine⟨h,by simp,fun a ha b hb=>?_⟩;simp at hb;subst hb
 obtain⟨y,hy⟩:∃ y,l.getLast? = some y:=by
  cases l with
  | nil=>cases ha
  | cons c l=>exact⟨_,getLast?_eq_some_getLast (by simp)⟩
 have h1:=hx y hy
 have h2:a≤y:=by
  obtain⟨l',rfl⟩:=getLast?_eq_some_iff.1 hy;rw[pairwise_append] at h;simp at ha
  rcases ha with ha|rfl
  ·exact Nat.le_of_lt (h.2.2 a ha y (by simp))
  ·exact Nat.le_refl _
 omega
structure Qa where
 fixed:Nat
 refs:List Nat
 record:Nat
 recs:List Nat
def YK (l:Qa):Prop:=l.fixed≤64∧l.record≤64∧l.fixed+l.record≠0∧Rp l.refs l.fixed∧Rp l.recs l.record
instance (l:Qa):Decidable (YK l):=inferInstanceAs (Decidable (_∧_))
def Vh (l:Qa) (count:Int):Nat×Nat:=
 if count < 0∨count > 1024∨(count > 0∧l.record=0) then (0,3)
 else if l.fixed+count.toNat*l.record≥8192 then (0,10) else (l.fixed+count.toNat*l.record,0)
def Ve (l:Qa) (p:Nat):Bool:=if p < l.fixed then decide (p∈l.refs) else decide ((p - l.fixed) % l.record∈l.recs)
def CP (a b c:Nat):Qa:=⟨a % 256,YX b 64,a / 256,YX c 64⟩
def Gw (ws:List Nat):Option Qa:=
 match ws with
 | [a,b,c]=>if a < 65536∧YK (CP a b c) then some (CP a b c) else none
 | _=>none
theorem pe {ws:List Nat} {l:Qa} (h:Gw ws=some l):YK l:=by
 unfold Gw at h;split at h
 ·split at h
  ·rename_i h1;cases h;exact h1.2
  ·cases h
 ·cases h
theorem Sj {l:Qa} {c:Int} {n:Nat} (h:Vh l c=(n,0)):0≤c∧c≤1024∧n=l.fixed+c.toNat*l.record∧n < 8192∧(c > 0→l.record≠0):=by
 unfold Vh at h;split at h
 ·cases h
 ·split at h
  ·cases h
  ·rename_i h1 h2;injection h with h3 h4
   omega
theorem fl [Q4] (v:Value) (l:List Nat) (size:Nat) (hl:l.length≤1000000) {w:World} {fr:List Q2} (hr:YM fr v l.length 1 (QH l)) (H:Q0 w fr) :
  Calls Tryz.prog 220 #[v,.int .i64 size] w (ret fun x w'=>(∃ b,x = .bool b∧(b=true↔Rp l size))∧Q0 w' fr):=by
 obtain⟨_,ad,cap,rfl,hr⟩:=hr;refine QQ Tryz.func220 rfl (by kernel_rfl) ?_;refine Ey H ?_;refine Qp (fun ms σ w q=>ms=[]∧∃ i:Nat,i≤l.length∧q=l.length - i∧Rp (l.take i) size∧σ 0 = .slice ad l.length cap∧σ 1 = .int .i64 size∧σ 7 = .slice ad l.length cap∧σ 8 = .int .i64 l.length∧σ 9 = .int .i64 i∧Q0 w fr) (m:=l.length) ⟨rfl,0,by omega,rfl,⟨by simp,by simp⟩,rfl,rfl,rfl,rfl,rfl,H⟩ ?_;rintro ms σ w q ⟨rfl,i,hi,rfl,hR,g0,g1,g7,g8,g9,H⟩;rw[Q1 g0,Q1 g1,Q1 g7,Q1 g8,Q1 g9];refine J7 H ?_;refine Qk rfl (fun h=>QE ?_) (fun h=>Qu ?_)
 ·have Q6:i < l.length:=by omega
  have hx:=getElem?_eq_getElem Q6;have Qi:l.take (i+1)=l.take i++[l[i]]:=by rw[take_add_one,hx];rfl
  have VR:l[i]∈l:=getElem_mem Q6;generalize l[i]=x at hx Qi VR
  rcases hr with hr|⟨b,o,E,fz,c,rfl,hA,Qv⟩
  ·omega
  haveI:=hA
  have BX:c[o+i*1]? = some (.int .i64 x):=by
   rw[Nat.mul_one];exact Qv.get i _ (by simp[QH,hx])
  refine DD H ?_;refine Jd ?_;refine Q5 rfl (QC H rfl BX rfl ?_);refine J4 H ?_;refine YJ H ?_;rw[show decide ((x:Int) < 0)=false from decide_eq_false (by omega)];refine WZ H ?_;refine Jv ?_;by_cases Nv:x < size
  ·rw[show decide ((x:Int)≥(size:Int))=false from decide_eq_false (by omega)];refine KO H ?_;by_cases pf:0 < i
   ·rw[show decide ((i:Int) > 0)=true from decide_eq_true (by omega)];refine Gq H ?_;refine WZ H ?_;rw[Qh (x:=(i:Int) - 1) (by omega) (by omega),show (i:Int) - 1=((i - 1:Nat):Int) by omega];have hy:=getElem?_eq_getElem (l:=l) (i:=i - 1) (by omega)
    have Gc:(l.take i).getLast? = some l[i - 1]:=by
     rw[getLast?_eq_getElem?,length_take,Nat.min_eq_left hi,getElem?_take_of_lt (by omega),hy]
    have CH:l.Pairwise (· < ·)→l[i - 1] < x:=fun hp=>by
     have:=pairwise_iff_getElem.1 hp (i - 1) i (by omega) Q6 (by omega)
     have e:l[i]=x:=by
      have:=getElem?_eq_getElem Q6;rw[hx] at this;exact(Option.some.inj this).symm
     omega
    generalize l[i - 1]'(by omega)=y at hy Gc CH
    have pg:c[o+(i - 1)*1]? = some (.int .i64 y):=by
     rw[Nat.mul_one];exact Qv.get (i - 1) _ (by simp[QH,hy])
    refine Qe rfl rfl rfl (X4 rfl rfl (by omega) (by omega) rfl ?_);refine Qe rfl rfl rfl (QC H rfl pg rfl ?_);refine Gq H ?_;refine Yn H ?_;refine Qk rfl (fun h=>?_) (fun h=>QE ?_)
    ·refine Vg H ?_
     exact Q3 (Jy H rfl fun w' H'=>⟨⟨false,rfl,by
      constructor
      ·intro h';cases h'
      ·rintro⟨_,h2⟩;have:=CH h2;omega⟩,H'⟩)
    ·refine J3 H ?_;refine⟨_,⟨rfl,i+1,Q6,rfl,?_,rfl,rfl,rfl,rfl,Qg (by omega),H⟩,by omega⟩;rw[Qi];refine⟨fun p hp=>?_,fk hR.2 fun z hz=>?_⟩
     ·simp at hp
      rcases hp with hp|rfl
      ·exact hR.1 p hp
      ·exact Nv
     ·rw[Gc] at hz;cases hz;omega
   ·have ph:i=0:=by omega
    subst ph;rw[show decide (((0:Nat):Int) > 0)=false from rfl];refine Zq H ?_;refine IM H ?_;refine WQ H ?_;refine J3 H ?_;refine⟨_,⟨rfl,1,Q6,rfl,?_,rfl,rfl,rfl,rfl,Qg (i:=0) (by omega),H⟩,by omega⟩;rw[Qi];exact⟨by simpa using Nv,by simp⟩
  ·rw[show decide ((x:Int)≥(size:Int))=true from decide_eq_true (by omega)];refine Mr H ?_;refine CG H ?_;refine CG H ?_;refine Ms H ?_;refine Kw H ?_
   exact Q3 (Jy H rfl fun w' H'=>⟨⟨false,rfl,by
    constructor
    ·intro h';cases h'
    ·rintro⟨h1,_⟩;have:=h1 x VR;omega⟩,H'⟩)
 ·have V0:i=l.length:=by omega
  subst V0;rw[take_length] at hR;refine Vg H ?_;exact Q3 (Jy H rfl fun w' H'=>⟨⟨true,rfl,by simp[hR]⟩,H'⟩)
@[reducible] def GD (f:Nat) (vr:Value) (r:Nat) (vq:Value):Value := .agg #[.int .i64 f,vr,.int .i64 r,vq]
structure R4 (fr:List Q2) (vr vq:Value) (l:Qa):Prop where
 r:YM fr vr l.refs.length 1 (QH l.refs)
 q:YM fr vq l.recs.length 1 (QH l.recs)
theorem R4.there {A:Q2} {fr:List Q2} {vr vq:Value} {l:Qa} (h:R4 fr vr vq l):R4 (A::fr) vr vq l:=⟨h.r.there,h.q.there⟩
structure Nw (l:Qa):Prop where
 f:l.fixed≤1000000
 r:l.record≤1000000
 a:l.refs.length≤1000000
 b:l.recs.length≤1000000
theorem Sk [Q4] (vr vq:Value) (l:Qa) (hs:Nw l) {w:World} {fr:List Q2} (hr:R4 fr vr vq l) (H:Q0 w fr) :
  Calls Tryz.prog 148 #[GD l.fixed vr l.record vq] w (ret fun x w'=>(∃ b,x = .bool b∧(b=true↔YK l))∧Q0 w' fr):=by
 obtain⟨s1,s2,s3,s4⟩:=hs;obtain⟨ZG,KS⟩:=hr;obtain⟨_,ad1,cap1,rfl,pi⟩:=id ZG;obtain⟨_,ad2,cap2,rfl,pj⟩:=id KS;refine QQ Tryz.func148 rfl (by kernel_rfl) ?_;refine J8 H ?_;intro b1 w H;refine Yn H ?_;refine Z0 (fun ms σ w=>ms=[]∧(l.fixed≤64∧l.record≤64∧l.fixed+l.record≠0)∧σ 1=pp b1∧Q0 w (pts b1 (row 102 [.int .i64 l.fixed,.slice ad1 l.refs.length cap1,.int .i64 l.record,.slice ad2 l.recs.length cap2])::fr)) ?_ ?_
 ·refine Qd ?_;refine Wy H ?_;rw[show decide ((l.fixed:Int) < 0)=false from decide_eq_false (by omega)];refine Ex H ?_;by_cases h1:l.fixed≤64
  ·rw[show decide ((l.fixed:Int) > 64)=false from decide_eq_false (by omega)];refine Aw H ?_;refine Wy H ?_;rw[show decide ((l.record:Int) < 0)=false from decide_eq_false (by omega)];refine Ex H ?_;by_cases h2:l.record≤64
   ·rw[show decide ((l.record:Int) > 64)=false from decide_eq_false (by omega)];refine Aw H ?_;refine FZ H ?_;refine DO H ?_;refine J0 H ?_;rw[Qh (x:=(l.fixed:Int)+(l.record:Int)) (by omega) (by omega)];by_cases h3:l.fixed+l.record=0
    ·rw[show (((l.fixed:Int)+(l.record:Int)) == 0)=true by simp;omega];refine ZB H ?_;exact Q3 (.inr ⟨by simp,Jy H.drop rfl fun w' H'=>⟨⟨false,rfl,⟨fun h=>(by cases h),fun h=>by unfold YK at h;omega⟩⟩,H'⟩⟩)
    ·rw[show (((l.fixed:Int)+(l.record:Int)) == 0)=false by simp;omega];refine Vk H ?_;exact .inl ⟨rfl,rfl,⟨h1,h2,h3⟩,rfl,H⟩
   ·rw[show decide ((l.record:Int) > 64)=true from decide_eq_true (by omega)];refine Av H ?_;refine A3 H ?_;refine ZB H ?_;exact Q3 (.inr ⟨by simp,Jy H.drop rfl fun w' H'=>⟨⟨false,rfl,⟨fun h=>(by cases h),fun h=>by unfold YK at h;omega⟩⟩,H'⟩⟩)
  ·rw[show decide ((l.fixed:Int) > 64)=true from decide_eq_true (by omega)];refine Av H ?_;refine A3 H ?_;refine ZB H ?_;exact Q3 (.inr ⟨by simp,Jy H.drop rfl fun w' H'=>⟨⟨false,rfl,⟨fun h=>(by cases h),fun h=>by unfold YK at h;omega⟩⟩,H'⟩⟩)
 ·rintro ms σ w ⟨rfl,⟨h1,h2,h3⟩,g1,H⟩;rw[Q1 g1];refine Mt H ?_;refine Jc rfl rfl (fl _ l.refs l.fixed s3 ZG.there H) ?_;rintro v w ⟨⟨b,rfl,hb⟩,H⟩;refine Jv ?_;cases b with
  | true=>
   refine Kt H ?_;refine Kt H ?_;refine Qe rfl rfl rfl (V3 (a:=[]) (b:=[]) rfl rfl (call (fl _ l.recs l.record s4 KS.there H) ?_));rintro v w ⟨⟨b,rfl,DU⟩,H⟩;refine J4 H ?_;refine Q3 (Jy H.drop rfl fun w' H'=>⟨⟨b,rfl,?_⟩,H'⟩);rw[DU];exact⟨fun h=>⟨h1,h2,h3,hb.1 rfl,h⟩,fun h=>h.2.2.2.2⟩
  | false=>
   refine IP H ?_;refine J4 H ?_;refine Q3 (Jy H.drop rfl fun w' H'=>⟨⟨false,rfl,⟨fun h=>(by cases h),fun h=>?_⟩⟩,H'⟩);have:=hb.2 h.2.2.2.1;cases this
theorem BK:∀ (l:List Nat) (lo size:Nat),(∀ p∈l,lo≤p∧p < size)→l.Pairwise (· < ·)→l.length≤size - lo
 | [],_,_,_,_=>Nat.zero_le _
 | a::l,lo,size,h,hp=>by
  rw[pairwise_cons] at hp;have h1:=BK l (a+1) size (fun p hx=>⟨hp.1 p hx,(h p (mem_cons_of_mem _ hx)).2⟩) hp.2;have h2:=h a (mem_cons_self ..);simp only[length_cons];omega
theorem Rp.len {l:List Nat} {n:Nat} (h:Rp l n):l.length≤n:=by
 have:=BK l 0 n (fun p hp=>⟨Nat.zero_le _,h.1 p hp⟩) h.2;omega
theorem YK.small {l:Qa} (h:YK l):Nw l:=by
 obtain⟨h1,h2,_,h4,h5⟩:=h;have:=h4.len;have:=h5.len;exact⟨by omega,by omega,by omega,by omega⟩
def AV:List Fl:=[(0,8),(8,8),(16,48)]
theorem pk:CF AV:=by
 refine⟨?_,?_⟩
 ·intro f hf;simp[AV] at hf
  rcases hf with rfl|rfl|rfl <;> simp[CE]
 ·simp[AV]
theorem pm [Q4] {w:World} {fr:List Q2} (H:Q0 w fr):Calls Tryz.prog 146 #[] w (ret fun v w'=>Q0 w' (FL v AV::fr)):=by
 refine QQ Tryz.func146 rfl (by kernel_rfl) ?_;refine Md H ?_;refine WV H ?_;refine IR H ?_;intro b4 w H;refine J0 H ?_;exact Q3 (Jy (Rd (len:=3) (by rfl) H) rfl fun w' H'=>H')
theorem JX [Q4] (vr vq:Value) (l:Qa) (hR:YK l) (count:Int) {w:World} {fr:List Q2} (hr:R4 fr vr vq l) (H:Q0 w fr) :
  Calls Tryz.prog 89 #[GD l.fixed vr l.record vq,.int .i64 count] w (ret fun x w'=>x = .tuple #[.int .i64 ((Vh l count).1:Nat),.int .i64 ((Vh l count).2:Nat)]∧Q0 w' fr):=by
 have hf:=hR.1;have hc:=hR.2.1;obtain⟨_,ad1,cap1,rfl,ZG⟩:=id hr.r;obtain⟨_,ad2,cap2,rfl,KS⟩:=id hr.q;refine QQ Tryz.func89 rfl (by kernel_rfl) ?_;refine J8 H ?_;intro b2 w H;refine Av H ?_;refine Z0 (fun ms σ w=>ms=[]∧(0≤count∧count≤1024∧(count > 0→l.record≠0))∧σ 1 = .int .i64 count∧σ 2=pp b2∧Q0 w (pts b2 (row 102 [.int .i64 l.fixed,.slice ad1 l.refs.length cap1,.int .i64 l.record,.slice ad2 l.recs.length cap2])::fr)) ?_ ?_
 ·refine Qd ?_;refine XL H ?_;refine Jc rfl rfl (Sk _ _ l hR.small hr.there H) ?_;rintro v w ⟨⟨b,rfl,hb⟩,H⟩;obtain rfl:=hb.2 hR;refine Aw H ?_;refine YJ H ?_;by_cases c0:count < 0
  ·have hs:Vh l count=(0,3):=by unfold Vh;rw[if_pos (by omega)]
   rw[show decide (count < 0)=true from decide_eq_true (by omega)];refine IS H ?_;refine IT H ?_;refine Mu H ?_;refine G7 H ?_;exact Q3 (.inr ⟨by simp,Jy H.drop rfl fun w' H'=>⟨by rw[hs];rfl,H'⟩⟩)
  ·rw[show decide (count < 0)=false from decide_eq_false (by omega)];refine Gq H ?_;by_cases c1:count > 1024
   ·have hs:Vh l count=(0,3):=by unfold Vh;rw[if_pos (by omega)]
    rw[show decide (count > 1024)=true from decide_eq_true (by omega)];refine IT H ?_;refine Mu H ?_;refine G7 H ?_;exact Q3 (.inr ⟨by simp,Jy H.drop rfl fun w' H'=>⟨by rw[hs];rfl,H'⟩⟩)
   ·rw[show decide (count > 1024)=false from decide_eq_false (by omega)];refine Jv ?_;refine Jv ?_;refine VW rfl rfl rfl rfl ?_;refine VW rfl rfl rfl rfl ?_;by_cases c2:count > 0
    ·rw[show decide (count > 0)=true from decide_eq_true (by omega)];refine Ia H ?_;by_cases c3:l.record=0
     ·have hs:Vh l count=(0,3):=by unfold Vh;rw[if_pos (by omega)]
      rw[show ((l.record:Int) == 0)=true by simp;omega];refine A0 H ?_;refine G7 H ?_;exact Q3 (.inr ⟨by simp,Jy H.drop rfl fun w' H'=>⟨by rw[hs];rfl,H'⟩⟩)
     ·rw[show ((l.record:Int) == 0)=false by simp;omega];refine A0 H ?_;refine Vk H ?_;exact .inl ⟨rfl,rfl,⟨by omega,by omega,fun _=>c3⟩,rfl,rfl,H⟩
    ·rw[show decide (count > 0)=false from decide_eq_false (by omega)];refine Zq H ?_;refine B1 H ?_;refine A0 H ?_;refine Vk H ?_;exact .inl ⟨rfl,rfl,⟨by omega,by omega,fun h=>absurd h c2⟩,rfl,rfl,H⟩
 ·rintro ms σ w ⟨rfl,⟨c0,c1,c2⟩,g1,g2,H⟩;rw[Q1 g1,Q1 g2];obtain⟨c,rfl⟩:∃ c:Nat,count=c:=⟨count.toNat,by omega⟩;have BR:c*l.record≤1024*64:=Nat.mul_le_mul (by omega) hc;have Sl:(c:Int)*(l.record:Int)=((c*l.record:Nat):Int):=(Int.natCast_mul _ _).symm;refine Wy H ?_;refine DO H ?_;refine ZZ H ?_;rw[Sl,Qh (x:=((c*l.record:Nat):Int)) (by omega) (by omega),Qh (x:=(l.fixed:Int)+((c*l.record:Nat):Int)) (by omega) (by omega)];by_cases c3:l.fixed+c*l.record≥8192
  ·have hs:Vh l (c:Int)=(0,10):=by unfold Vh;rw[if_neg (by omega),if_pos (by simpa using c3)]
   rw[show decide ((l.fixed:Int)+((c*l.record:Nat):Int)≥8192)=true from decide_eq_true (by omega)];refine G7 H ?_;exact Q3 (Jy H.drop rfl fun w' H'=>⟨by rw[hs];rfl,H'⟩)
  ·have hs:Vh l (c:Int)=(l.fixed+c*l.record,0):=by unfold Vh;rw[if_neg (by omega),if_neg (by simpa using c3)];simp
   rw[show decide ((l.fixed:Int)+((c*l.record:Nat):Int)≥8192)=false from decide_eq_false (by omega)];refine FG H ?_;exact Q3 (Jy H.drop rfl fun w' H'=>⟨by rw[hs];show Value.tuple #[.int .i64 ((l.fixed:Int)+((c*l.record:Nat):Int)),_]=_;rw[← Int.natCast_add];rfl,H'⟩)
theorem JK [Q4] (v:Value) (l:List Nat) (hl:l.length≤1000000) {w:World} {fr:List Q2} (hr:YM fr v l.length 1 (QH l)) (H:Q0 w fr) :
  Calls Tryz.prog 118 #[v] w (ret fun x w'=>Q0 w' (NL x l::fr)):=by
 obtain⟨ZG,ad,cap,rfl,Ym⟩:=id hr;refine QQ Tryz.func118 rfl (by kernel_rfl) ?_;refine CU H ?_;refine Q5 rfl (o9 rfl rfl (.inl rfl) rfl ?_);refine J2 H ?_;cases ad with
 | none=>
  have h0:l.length=0:=by
   rcases Ym with h|⟨b,o,E,fz,c,h,_⟩
   ·exact h
   ·cases h
  have hn:l=[]:=eq_nil_of_length_eq_zero h0;subst hn;refine ZB H ?_;exact Q3 (Jy (GK H) rfl fun w' H'=>H')
 | some ad=>
  refine Vk H ?_;refine Ui H ?_;refine Q5 rfl (oG H rfl ?_);intro b5 w H;refine Jv ?_;refine Q5 rfl (Pu H rfl rfl hr (by simp[QH,all_eq_true,Value.oneCell']) (by rw[QM];simp only[length_nil];omega) rfl rfl ?_);intro v7 w H;refine Kx H ?_;exact Q3 (Jy H rfl fun w' H'=>H')
theorem fm [Q4] (vr vq:Value) (l:Qa) (hs:Nw l) {w:World} {fr:List Q2} (hr:R4 fr vr vq l) (H:Q0 w fr) :
  Calls Tryz.prog 149 #[GD l.fixed vr l.record vq] w (ret fun x w'=>∃ vr' vq',x=GD l.fixed vr' l.record vq'∧Q0 w' (NL vr' l.refs::NL vq' l.recs::fr)):=by
 obtain⟨_,ad1,cap1,rfl,ZG⟩:=id hr.r;obtain⟨_,ad2,cap2,rfl,KS⟩:=id hr.q;refine QQ Tryz.func149 rfl (by kernel_rfl) ?_;refine J8 H ?_;intro b1 w H;refine VO H ?_;intro b2 w H;refine J2 H ?_;refine J1 H ?_;intro w H;refine Jf 0 ?_;refine Jl 1 [2,5,7,9] H ?_;refine Jf 3 ?_;refine Jl 4 [5,7,9] H ?_;refine Jo 2 H ?_;refine Jk rfl rfl (JK _ l.refs hs.a hr.r.there.there H) ?_;rintro v5 w H;obtain⟨a5,m5,c5,rfl⟩:=VZ H;refine Jf 6 ?_;refine Jo 5 H ?_;refine Jk rfl rfl (JK _ l.recs hs.b hr.q.there.there.there H) ?_;rintro v8 w H;obtain⟨a8,m8,c8,rfl⟩:=VZ H
 refine Jo 7 H ?_;refine XM H ?_;intro w H;refine Jf 8 ?_;refine Jo 9 H ?_;refine XM H ?_;intro w H;refine Jx H ?_;refine Ay H ?_;intro w H;refine J2 H ?_;replace H:=Js [2,1,0] 1 H;exact Q3 (Jz H (fun w' H' => .cellN H' rfl (by repeat first|exact .nil _|apply QY.cons rfl) .nil) fun w' H'=>⟨_,_,rfl,H'.drop⟩)
theorem JR [Q4] (x:Nat) (hx:x < 18446744073709551616) {w:World} {fr:List Q2} [hT:Z5 0 Lib.deBruijn64tab fr] (H:Q0 w fr) :
  Calls Tryz.prog 147 #[.int .u64 x] w (ret fun v w'=>Q0 w' (NL v (YX x 64)::fr)):=by
 refine QQ Tryz.func147 rfl (by kernel_rfl) ?_;refine S8 H ?_;refine Qp (fun ms σ w n=>ms=[]∧∃ (k y:Nat) (g:Value),k≤64∧n=64 - k∧y < 18446744073709551616∧(∀ i,y.testBit i=(x.testBit i && decide (k≤i)))∧σ 0 = .int .u64 y∧σ 3=g∧Q0 w (NL g (YX x k)::fr)) (m:=64) ⟨rfl,0,x,_,by omega,rfl,hx,fun i=>by simp,rfl,rfl,GK H⟩ ?_;rintro ms σ w n ⟨rfl,k,y,g,hk,rfl,hy,Uk,g0,g3,H⟩;obtain⟨ag,mg,cg,rfl⟩:=VZ H;rw[Q1 g0,Q1 g3];refine J3 H ?_;by_cases h0:y=0
 ·rw[show ((y:Int) != 0)=false by simp;exact h0];refine J6 H ?_;refine B0 H ?_
  have he:YX x 64=YX x k:=Si (by omega) (fun i h1 h2=>by
   have:=Uk i;rw[h0,Nat.zero_testBit] at this;simpa [h1] using this.symm)
  rw[← he] at H;refine J3 H ?_;exact Q3 (Jy H rfl fun w' H'=>H')
 ·rw[show ((y:Int) != 0)=true by simp;exact h0];refine J6 H ?_;refine A3 H ?_;obtain⟨Nx,Fo,Fp⟩:=SS h0 hy;refine A4 H ?_;refine Jc rfl rfl (Sa y hy H) ?_;rintro v w ⟨rfl,H⟩;refine X7 H ?_;intro b13 w H;generalize Lib.ctz 64 y=t at Nx Fo Fp H;replace H:=Js [1,0] 0 H;refine Q5 rfl (ZY H rfl rfl (by repeat first|exact .nil _|apply QY.cons rfl) rfl (by decide) (by rw[QM];have:=Fm x k;simp only[length_cons,length_nil];omega) rfl rfl ?_);intro v14 w H;obtain⟨a14,m14,c14,rfl⟩:=VZ H;refine J0 H ?_;have hb:=Uk t;rw[Fo] at hb;have DG:x.testBit t=true∧k≤t:=by simpa using hb.symm
  have QJ:=pd Fo Fp;have CT:y &&& (y - 1) < 18446744073709551616:=Nat.lt_of_le_of_lt Nat.and_le_left hy;refine Az H ?_
  have e1:IntKind.u64.wrap ((y:Int) - 1)=((y - 1:Nat):Int):=by
   rw[show (y:Int) - 1=((y - 1:Nat):Int) by omega,Kr (by omega)]
  rw[e1,MN hy (by omega)]
  have e2:YX x (t+1)=YX x k++[t]:=by
   rw[Nu,DG.1,if_pos rfl,Si DG.2 (fun i h1 h2=>?_)];have h3:=Fp i h2;rw[Uk i] at h3;simpa [h1] using h3
  refine⟨_,⟨rfl,t+1,y &&& (y - 1),_,by omega,rfl,CT,fun i=>?_,rfl,rfl,?_⟩,by omega⟩
  ·rw[QJ,Uk i];by_cases h1:i < t
   ·have h3:=Fp i h1;rw[Uk i] at h3;rw[h3,show decide (t+1≤i)=false by simp;omega];simp
   ·by_cases h2:i=t
    ·subst h2;simp
    ·rw[show decide (t+1≤i)=true by simp;omega,show decide (k≤i)=true by simp;omega];simp[h2]
  ·rw[e2];show Q0 w (QF _ 1 _ (QH (YX x k++[t]))::_);rw[BU];exact Q0.drop H.swap
end Go.Proofs.YtmjdnljneifpcaaGreatDoor
