/- Cells: what is proved on the way: every input of the statement; no condition. Texts joined: HdrA HdrB BmpA BmpB StoA StoB LayP LayA LayB. -/
import Derived.Test.YtmjdnljneifpcaaGreatDoorBee
import Derived.Test.YtmjdnljneifpcaaGreatDoorBec
set_option linter.unusedVariables false
set_option linter.unusedSimpArgs false
set_option linter.unusedSectionVars false
namespace Go.Proofs.YtmjdnljneifpcaaGreatDoor
open List
open Go.SL
def Kq:List Fl:=[(0,16),(16,16),(32,8),(40,16),(56,8)]
def Kr:List Fl:=[(0,32),(32,32)]
theorem SY:CZ Kq:=⟨by simp[Kq,CY],by simp[Kq]⟩
theorem SZ:CZ Kr:=⟨by simp[Kr,CY],by simp[Kr]⟩
theorem SG [Q4] {w:World} {fr:List Q2} (H:Q0 w fr):Calls Tryz.prog 223 #[] w (ret fun v w'=>Q0 w' (FL v Kq::fr)):=by
 refine QQ Tryz.func223 rfl (by kernel_rfl) ?_;refine MF H ?_;refine W3 H ?_;refine W3 H ?_;refine W3 H ?_;refine Hz H ?_;clear H;intro b6 w H;refine J0 H ?_;exact Q3 (Jy (RN (by decide) H) rfl fun w' H'=>H')
theorem SU [Q4] {w:World} {fr:List Q2} (H:Q0 w fr):Calls Tryz.prog 207 #[] w (ret fun v w'=>Q0 w' (FL v Kr::fr)):=by
 refine QQ Tryz.func207 rfl (by kernel_rfl) ?_;refine MF H ?_;refine Hz H ?_;clear H;intro b3 w H;refine J0 H ?_;exact Q3 (Jy (RN (by decide) H) rfl fun w' H'=>H')
def Wy (l c s:Nat):Prop:=1≤l∧l≤64∧c≤1024∧s < 4096
@[reducible] def CX (l c s:Nat):Value := .agg #[.int .i64 l,.int .i64 c,.int .i64 s]
theorem fG [Q4] (l c s:Nat) (h:Wy l c s) {w:World} {fr:List Q2} (H:Q0 w fr):Calls Tryz.prog 222 #[CX l c s] w (ret fun v w'=>v = .bool true∧Q0 w' fr):=by
 obtain⟨h1,h2,h3,h4⟩:=h;refine QQ Tryz.func222 rfl (by kernel_rfl) ?_;refine J8 H ?_;clear H;intro b1 w H;refine DW H ?_;refine ZS H ?_;rw[show decide ((l:Int)≥1)=true from decide_eq_true (by omega)];refine Xu H ?_;refine Jv ?_;rw[show decide ((l:Int)≤64)=true from decide_eq_true (by omega)];refine El H ?_;rw[show decide ((c:Int)≥0)=true from decide_eq_true (by omega)];refine El H ?_;rw[show decide ((c:Int)≤1024)=true from decide_eq_true (by omega)];refine El H ?_;rw[show decide ((s:Int)≥0)=true from decide_eq_true (by omega)];refine El H ?_;rw[show decide ((s:Int) < 4096)=true from decide_eq_true (by omega)];refine J0 H ?_;exact Q3 (Jy H.drop rfl fun w' H'=>⟨rfl,H'⟩)
def Uy (l c s:Nat):Nat:=Ux Kq [s,c,l,0,165]
theorem fU (l c s:Nat):Uy l c s=s+c*65536+l*4294967296+165*72057594037927936:=by
 simp[Uy,Ux,Kq];omega
theorem od {l c s:Nat} (h:Wy l c s):Uy l c s < 18446744073709551616:=by
 obtain⟨h1,h2,h3,h4⟩:=h;rw[fU];omega
theorem oe [Q4] (l c s:Nat) (h:Wy l c s) {w:World} {fr:List Q2} (H:Q0 w fr):Calls Tryz.prog 152 #[CX l c s] w (ret fun v w'=>v = .tuple #[.int .u64 (Uy l c s),.int .i64 0]∧Q0 w' fr):=by
 have h':=h;obtain⟨h1,h2,h3,h4⟩:=h';refine QQ Tryz.func152 rfl (by kernel_rfl) ?_;refine J8 H ?_;clear H;intro b1 w H;refine J4 H ?_;refine XD H ?_;refine Jc rfl rfl (fG l c s h H) ?_;clear H;rintro v w ⟨rfl,H⟩;refine YS H ?_;refine J1 H ?_;clear H;intro w H;refine Jf 1 ?_;refine Jl 2 [10,11] H ?_;refine MH H ?_;refine Jf 4 ?_;refine Jl 5 [10,11] H ?_;refine KA 6 rfl (Q9.none rfl) rfl (by kernel_rfl) ?_;refine Jf 7 ?_;refine Jl 8 [10,11] H ?_;refine KA 9 rfl (Q9.none rfl) rfl (by kernel_rfl) ?_;rw[Kk (a:=l) (by omega),Kk (a:=c) (by omega),Kk (a:=s) (by omega)];refine Jw 0 10 H rfl rfl (V1 (a:=[]) (b:=[]) rfl rfl (call (SG H) ?_)) (Ad H rfl rfl rfl ?_)
 ·clear H;intro v16 w H;obtain⟨a16,m16,c16,rfl⟩:=V8 H;refine Jo 10 H ?_;refine DX H ?_;clear H;intro b17 w H;replace H:=Q0.swap (RN (len:=5) (k:=1) rfl H)
  refine HS 11 rfl (by kernel_rfl) (by repeat first|exact .nil|refine .cons (.inr H.at) ?_|refine .cons (.inr H.mp) ?_|refine .cons (.inl (by kernel_rfl)) ?_) (Q9.none rfl) (V1 (a:=[]) (b:=[]) rfl rfl (call (NO _ _ Kq [s,c,l,0,165] SY (by decide) rfl (fun i f x hf hx=>by
     rcases i with _|_|_|_|_|i <;> simp[Kq] at hf hx <;> subst hf hx <;> simp <;> omega) H) ?_))
  clear H;rintro v w ⟨rfl,H⟩;refine I0 H ?_;exact Q3 (Jy H.drop.drop.drop rfl fun w' H'=>⟨rfl,H'⟩)
 ·clear H;intro b17 w H;refine Jo 0 H ?_;refine Jk rfl rfl (SG H) ?_;clear H;intro v16 w H;obtain⟨a16,m16,c16,rfl⟩:=V8 H;replace H:=Q0.swap (RN (len:=5) (k:=1) rfl H.swap)
  refine HS 11 rfl (by kernel_rfl) (by repeat first|exact .nil|refine .cons (.inr H.at) ?_|refine .cons (.inr H.mp) ?_|refine .cons (.inl (by kernel_rfl)) ?_) (Q9.none rfl) (V1 (a:=[]) (b:=[]) rfl rfl (call (NO _ _ Kq [s,c,l,0,165] SY (by decide) rfl (fun i f x hf hx=>by
     rcases i with _|_|_|_|_|i <;> simp[Kq] at hf hx <;> subst hf hx <;> simp <;> omega) H) ?_))
  clear H;rintro v w ⟨rfl,H⟩;refine I0 H ?_;exact Q3 (Jy H.drop.drop.drop rfl fun w' H'=>⟨rfl,H'⟩)
theorem oh {l c s:Nat} (h:Wy l c s):Kq.map (GZ (Uy l c s))=[s,c,l,0,165]:=by
 obtain⟨h1,h2,h3,h4⟩:=h;simp only[Kq,map_cons,map_nil,GZ,fU,Nat.reducePow];have e1:(s+c*65536+l*4294967296+165*72057594037927936) / 1 % 65536=s:=by omega
 have e2:(s+c*65536+l*4294967296+165*72057594037927936) / 65536 % 65536=c:=by omega
 have e3:(s+c*65536+l*4294967296+165*72057594037927936) / 4294967296 % 256=l:=by omega
 have e4:(s+c*65536+l*4294967296+165*72057594037927936) / 1099511627776 % 65536=0:=by omega
 have e5:(s+c*65536+l*4294967296+165*72057594037927936) / 72057594037927936 % 256=165:=by omega
 rw[e1,e2,e3,e4,e5]
theorem om [Q4] (l c s:Nat) (h:Wy l c s) {w:World} {fr:List Q2} (H:Q0 w fr):Calls Tryz.prog 183 #[.int .u64 (Uy l c s)] w (ret fun v w'=>v = .tuple #[CX l c s,.int .i64 0]∧Q0 w' fr):=by
 have h':=h;obtain⟨h1,h2,h3,h4⟩:=h';refine QQ Tryz.func183 rfl (by kernel_rfl) ?_;refine YM H ?_;clear H;intro b2 w H;refine Em H ?_;refine Jc rfl rfl (SG H) ?_;clear H;intro v9 w H
 refine Jc rfl rfl (SQ _ (od h) v9 Kq SY (by decide) H) ?_;clear H;rintro v w ⟨u,rfl,H⟩;rw[oh h] at H;obtain⟨au,cu,rfl⟩:=QI (m:=5) H rfl (by decide);obtain⟨bu,su,rfl,H,QK⟩:=VX H (by decide);refine MI H ?_;clear H;intro w H;refine Ja 0 ?_;refine Ji 1 ?_;refine Jl 2 [14] H ?_;refine MH H ?_;refine Ja 4 ?_;refine Ji 5 ?_;refine Jl 6 [14] H ?_;refine KA 7 rfl (Q9.none rfl) rfl (by kernel_rfl) ?_;refine Ja 8 ?_;refine Ji 9 ?_;refine Jl 10 [14] H ?_;refine KA 11 rfl (Q9.none rfl) rfl (by kernel_rfl) ?_;refine Uc 12 rfl (Q9.none rfl) rfl (by kernel_rfl) ?_;rw[Ag (a:=l) (by omega),Ag (a:=c) (by omega),Ag (a:=s) (by omega)];refine Jo 13 H ?_;refine YH H rfl ?_;clear H;intro b6 w H
 refine Jo 14 H ?_;refine KD H ?_;clear H;intro w H;refine Jx H ?_;refine Z4 H ?_;refine Jd ?_;refine W4 H ?_;refine DZ H ?_;refine QS rfl rfl rfl (Ut rfl rfl (by omega) (by omega) rfl ?_);refine QS rfl rfl rfl (QA H rfl rfl rfl ?_);refine Zm H ?_;refine ZS H ?_;refine DG H ?_;refine QS rfl rfl rfl (V1 (a:=[]) (b:=[]) rfl rfl (call (fG l c s h H) ?_));clear H;rintro v w ⟨rfl,H⟩;refine W2 H ?_;refine Ak H ?_;clear H;intro w H;refine J0 H ?_;refine Q3 (Hl (vs:=[CX l c s,.int .i64 0]) _ (.inr rfl) H (fun w' H' => .cellN H' rfl (by repeat first|exact .nil _|apply QY.cons rfl) (.tmp .nil)) fun w' H'=>⟨rfl,H'.drop.drop.drop.drop⟩)
inductive Yn where
 | none
 | grave
 | obj (i g:Nat)
 deriving DecidableEq
@[reducible] def Xv (i g:Nat):Value := .agg #[.int .i64 i,.int .i64 g]
@[reducible] def GN:Yn→Value
 | .none => .agg #[.int .i64 0,.int .i64 0,.int .i64 0]
 | .grave => .agg #[.int .i64 1,.int .i64 0,.int .i64 0]
 | .obj i g => .agg #[.int .i64 2,.int .i64 i,.int .i64 g]
def Ik (i g:Nat):Prop:=i < 4096∧1≤g∧g≤255
def XL:Yn→Prop
 | .obj i g=>Ik i g
 | _=>True
def Vm:Yn→Nat
 | .none=>0
 | .grave=>1
 | .obj i g=>Ux Kr [i+2,g]
theorem NP (i g:Nat):Vm (.obj i g)=i+2+g*4294967296:=by
 simp[Vm,Ux,Kr]
theorem fX {l:Yn} (h:XL l):Vm l < 18446744073709551616:=by
 cases l with
 | none=>decide
 | grave=>decide
 | obj i g=>
  obtain⟨h1,h2,h3⟩:=h;rw[NP];omega
theorem fK [Q4] (i g:Nat) (h:Ik i g) {w:World} {fr:List Q2} (H:Q0 w fr):Calls Tryz.prog 205 #[Xv i g] w (ret fun v w'=>v = .bool true∧Q0 w' fr):=by
 obtain⟨h1,h2,h3⟩:=h;refine QQ Tryz.func205 rfl (by kernel_rfl) ?_;refine J8 H ?_;clear H;intro b1 w H;refine DW H ?_;refine ZS H ?_;rw[show decide ((i:Int)≥0)=true from decide_eq_true (by omega)];refine Xu H ?_;refine Jv ?_;rw[show decide ((i:Int) < 4096)=true from decide_eq_true (by omega)];refine El H ?_;rw[show decide ((g:Int)≥1)=true from decide_eq_true (by omega)];refine El H ?_;rw[show decide ((g:Int)≤255)=true from decide_eq_true (by omega)];refine J0 H ?_;exact Q3 (Jy H.drop rfl fun w' H'=>⟨rfl,H'⟩)
theorem oo [Q4] (l:Yn) (h:XL l) {w:World} {fr:List Q2} (H:Q0 w fr):Calls Tryz.prog 124 #[GN l] w (ret fun v w'=>v = .tuple #[.int .u64 (Vm l),.int .i64 0]∧Q0 w' fr):=by
 cases l with
 | none=>
  refine QQ Tryz.func124 rfl (by kernel_rfl) ?_;refine J8 H ?_;clear H;intro b1 w H;refine J4 H ?_;refine XE H ?_;refine I1 H ?_;refine I2 H ?_;exact Q3 (Jy H.drop rfl fun w' H'=>⟨rfl,H'⟩)
 | grave=>
  refine QQ Tryz.func124 rfl (by kernel_rfl) ?_;refine J8 H ?_;clear H;intro b1 w H;refine J4 H ?_;refine XE H ?_;refine I1 H ?_;refine I3 H ?_;refine I1 H ?_;refine I2 H ?_;exact Q3 (Jy H.drop rfl fun w' H'=>⟨rfl,H'⟩)
 | obj i g=>
  have h':=h;obtain⟨h1,h2,h3⟩:=h';refine QQ Tryz.func124 rfl (by kernel_rfl) ?_;refine J8 H ?_;clear H;intro b1 w H;refine Ai H ?_;refine Yx (fun ms σ w=>ms=[]∧σ 1 = .pointer (some ⟨b1,0,none⟩)∧Q0 w (pts b1 (row 88 [.int .i64 2,.int .i64 i,.int .i64 g])::fr)) ?_ ?_
  ·refine Qe ?_;refine I1 H ?_;refine I3 H ?_;refine I1 H ?_;refine I3 H ?_;refine MJ H ?_;refine En H ?_;refine DG H ?_;refine QS rfl rfl rfl (V1 (a:=[]) (b:=[]) rfl rfl (call (fK i g h H) ?_));clear H;rintro v w ⟨rfl,H⟩;refine W5 H ?_;refine Vf H ?_;exact .inl ⟨rfl,rfl,rfl,H⟩
  ·clear H;rintro ms σ w ⟨rfl,g1,H⟩;rw[Q1 g1];refine J1 H ?_;clear H;intro w H;refine Jf 1 ?_;refine Jf 2 ?_;refine Jl 3 [10,11] H ?_;refine KA 4 rfl (Q9.none rfl) rfl (by kernel_rfl) ?_;refine Ja 5 ?_;refine Jf 6 ?_;refine Jf 7 ?_;refine Jl 8 [10,11] H ?_;refine KA 9 rfl (Q9.none rfl) rfl (by kernel_rfl) ?_
   have e1:IntKind.u64.wrap (IntKind.u64.wrap (i:Int)+2)=((i+2:Nat):Int):=by
    rw[Kk (a:=i) (by omega)];exact Kk (a:=i+2) (by omega)
   have e2:IntKind.u64.wrap (g:Int)=((g:Nat):Int):=Kk (by omega);rw[e1,e2];refine Jw 0 10 H rfl rfl (V1 (a:=[]) (b:=[]) rfl rfl (call (SU H) ?_)) (Ad H rfl rfl rfl ?_)
   ·clear H;intro v16 w H;obtain⟨a16,m16,c16,rfl⟩:=V8 H;refine Jo 10 H ?_;refine DX H ?_;clear H;intro b17 w H;replace H:=Q0.swap (RN (len:=2) (k:=1) rfl H)
    refine HS 11 rfl (by kernel_rfl) (by repeat first|exact .nil|refine .cons (.inr H.at) ?_|refine .cons (.inr H.mp) ?_|refine .cons (.inl (by kernel_rfl)) ?_) (Q9.none rfl) (V1 (a:=[]) (b:=[]) rfl rfl (call (NO _ _ Kr [i+2,g] SZ (by decide) rfl (fun j f x hf hx=>by
         rcases j with _|_|j <;> simp[Kr] at hf hx <;> subst hf hx <;> simp <;> omega) H) ?_))
    clear H;rintro v w ⟨rfl,H⟩;refine I0 H ?_;exact Q3 (Jy H.drop.drop.drop rfl fun w' H'=>⟨rfl,H'⟩)
   ·clear H;intro b17 w H;refine Jo 0 H ?_;refine Jk rfl rfl (SU H) ?_;clear H;intro v16 w H;obtain⟨a16,m16,c16,rfl⟩:=V8 H;replace H:=Q0.swap (RN (len:=2) (k:=1) rfl H.swap)
    refine HS 11 rfl (by kernel_rfl) (by repeat first|exact .nil|refine .cons (.inr H.at) ?_|refine .cons (.inr H.mp) ?_|refine .cons (.inl (by kernel_rfl)) ?_) (Q9.none rfl) (V1 (a:=[]) (b:=[]) rfl rfl (call (NO _ _ Kr [i+2,g] SZ (by decide) rfl (fun j f x hf hx=>by
         rcases j with _|_|j <;> simp[Kr] at hf hx <;> subst hf hx <;> simp <;> omega) H) ?_))
    clear H;rintro v w ⟨rfl,H⟩;refine I0 H ?_;exact Q3 (Jy H.drop.drop.drop rfl fun w' H'=>⟨rfl,H'⟩)
theorem oq {i g:Nat} (h:Ik i g):Kr.map (GZ (Vm (.obj i g)))=[i+2,g]:=by
 obtain⟨h1,h2,h3⟩:=h;simp only[Kr,map_cons,map_nil,GZ,NP,Nat.reducePow];have e1:(i+2+g*4294967296) / 1 % 4294967296=i+2:=by omega
 have e2:(i+2+g*4294967296) / 4294967296 % 4294967296=g:=by omega
 rw[e1,e2]
theorem ot [Q4] (l:Yn) (h:XL l) {w:World} {fr:List Q2} (H:Q0 w fr):Calls Tryz.prog 227 #[.int .u64 (Vm l)] w (ret fun v w'=>v = .tuple #[GN l,.int .i64 0]∧Q0 w' fr):=by
 cases l with
 | none=>
  refine QQ Tryz.func227 rfl (by kernel_rfl) ?_;refine YM H ?_;clear H;intro b2 w H;refine J0 H ?_;refine Eo H ?_;refine J3 H ?_;refine I4 H ?_;clear H;intro w H;refine J0 H ?_;refine Q3 (Hl (vs:=[GN .none,.int .i64 0]) _ (.inr rfl) H (fun w' H' => .cellN H' rfl (by repeat first|exact .nil _|apply QY.cons rfl) (.tmp .nil)) fun w' H'=>⟨rfl,H'.drop⟩)
 | grave=>
  refine QQ Tryz.func227 rfl (by kernel_rfl) ?_;refine YM H ?_;clear H;intro b2 w H;refine J0 H ?_;refine Eo H ?_;refine J3 H ?_;refine UW H ?_;refine I4 H ?_;clear H;intro w H;refine J0 H ?_;refine Q3 (Hl (vs:=[GN .grave,.int .i64 0]) _ (.inr rfl) H (fun w' H' => .cellN H' rfl (by repeat first|exact .nil _|apply QY.cons rfl) (.tmp .nil)) fun w' H'=>⟨rfl,H'.drop⟩)
 | obj i g=>
  have h':=h;obtain⟨h1,h2,h3⟩:=h';have hw:=NP i g;have n0:((Vm (.obj i g):Int) == 0)=false:=beq_eq_false_iff_ne.2 (by omega);have n1:((Vm (.obj i g):Int) == 1)=false:=beq_eq_false_iff_ne.2 (by omega);have Q6:=fX (l := .obj i g) h;have hg:=oq h;generalize hW:Vm (.obj i g)=W at n0 n1 Q6 hg hw;refine QQ Tryz.func227 rfl (by kernel_rfl) ?_;refine YM H ?_;clear H;intro b2 w H;refine ML H ?_;refine Yx (fun ms σ w=>ms=[]∧σ 0 = .int .u64 W∧σ 2 = .pointer (some ⟨b2,0,none⟩)∧Q0 w (pts b2 (row 88 [.int .i64 0,.int .i64 0,.int .i64 0])::fr)) ?_ ?_
  ·refine Qe ?_;refine J3 H ?_;rw[n0];refine UW H ?_;rw[n1];refine Vf H ?_;exact .inl ⟨rfl,rfl,rfl,rfl,H⟩
  ·clear H;rintro ms σ w ⟨rfl,g0,g2,H⟩;rw[Q1 g0,Q1 g2];refine Z4 H ?_;refine Jc rfl rfl (SU H) ?_;clear H;intro v16 w H
   refine Jc rfl rfl (SQ _ Q6 v16 Kr SZ (by decide) H) ?_;clear H;rintro v w ⟨u,rfl,H⟩;rw[hg] at H;obtain⟨au,cu,rfl⟩:=QI (m:=2) H rfl (by decide);obtain⟨bu,su,rfl,H,QK⟩:=VX H (by decide);refine MI H ?_;clear H;intro w H;refine Ja 0 ?_;refine Ji 1 ?_;refine Jl 2 [11] H ?_;refine MH H ?_;refine KI H ?_;refine Ji 6 ?_;refine Jl 7 [11] H ?_;refine KA 8 rfl (Q9.none rfl) rfl (by kernel_rfl) ?_;refine Uc 9 rfl (Q9.none rfl) rfl (by kernel_rfl) ?_
   have e1:IntKind.i64.wrap (IntKind.i64.wrap ((i+2:Nat):Int) - 2)=((i:Nat):Int):=by
    rw[Ag (a:=i+2) (by omega),Qg (by omega) (by omega)];omega
   have e2:IntKind.i64.wrap (g:Int)=((g:Nat):Int):=Ag (by omega);rw[e1,e2];refine Jo 10 H ?_;refine YH H rfl ?_;clear H;intro b6 w H
   refine Km H ?_;clear H;intro w H;refine Jx H ?_;refine XD H ?_;refine Jc rfl rfl (fK i g h H) ?_;clear H;rintro v w ⟨rfl,H⟩;refine YS H ?_
   repeat refine Q7 ?_
   refine QG ?_;refine Q5 rfl (Vz H rfl (by repeat first|exact .nil _|apply QY.cons rfl) rfl ?_);refine Q5 rfl (Ki rfl rfl ?_);refine J5 H ?_;clear H;intro w H;refine J0 H ?_;refine Q3 (Hl (vs:=[GN (.obj i g),.int .i64 0]) _ (.inr rfl) H (fun w' H' => .cellN H' rfl (by repeat first|exact .nil _|apply QY.cons rfl) (.tmp .nil)) fun w' H'=>⟨rfl,H'.drop.drop.drop.drop⟩)
def BM (p n:Nat) (ws:List Nat) (many:Nat):Q2:=ex fun v:Value=>star [pts p (row 228 [.int .i64 n,v,.int .i64 many]),UL v ws]
theorem NS [Q4] {w:World} {p n:Nat} {ws:List Nat} {m:Nat} {l:List Q2} (H:Q0 w (BM p n ws m::l)):∃ v,Q0 w (pts p (row 228 [.int .i64 n,v,.int .i64 m])::UL v ws::l):=by
 obtain⟨v,H⟩:=Q0.ex.1 H;exact⟨v,Q0.star.1 H⟩
theorem Il [Q4] {w:World} {p n:Nat} {v:Value} {ws:List Nat} {m:Nat} {l:List Q2} (H:Q0 w (pts p (row 228 [.int .i64 n,v,.int .i64 m])::UL v ws::l)):Q0 w (BM p n ws m::l):=
 Q0.ex.2 ⟨v,Q0.star.2 H⟩
theorem FI [Q4] {w:World} {p n x m:Nat} {l:List Q2} (H:Q0 w (BM p n [x] m::l)):∃ b cap spare,Q0 w (pts p (row 228 [.int .i64 n,.slice (some ⟨b,0,none⟩) 1 cap,.int .i64 m])::pts b (row 83 (.int .u64 x::spare))::l) ∧
  ∀ w' l' (x' m':Nat),Q0 w' (pts p (row 228 [.int .i64 n,.slice (some ⟨b,0,none⟩) 1 cap,.int .i64 m'])::pts b (row 83 (.int .u64 x'::spare))::l')→Q0 w' (BM p n [x'] m'::l'):=by
 obtain⟨v,H⟩:=NS H;have H:=H.swap;obtain⟨a,cap,rfl⟩:=QI (m:=1) H rfl (by decide)
 rcases XB H with ⟨h,_⟩|⟨b,len,cap',spare,h,e3,e4,e5,H2⟩
 ·cases h
 ·cases h;exact⟨b,cap,spare,H2.swap,fun w' l' x' m' H'=>Il (Q0.swap (GI (c:=Qi [x']) rfl e4 e5 H'.swap))⟩
structure Gn (n x:Nat):Prop where
 pos:0 < n
 le:n≤63
 lt:x < 2 ^ n
theorem Gn.lt64 {n x:Nat} (h:Gn n x):x < 18446744073709551616:=Nat.lt_of_lt_of_le h.lt (NN (by have:=h.le;omega))
theorem Im {i:Nat} (h:i < 64):IntKind.i64.wrap (Int.tdiv (i:Int) 64)=0:=by
 rw[Int.tdiv_eq_ediv_of_nonneg (by omega),show (i:Int) / 64=0 by omega];rfl
theorem NT {i:Nat} (h:i < 64):Int.tmod (i:Int) 64=i:=by
 rw[Int.tmod_eq_emod_of_nonneg (by omega)];omega
theorem ou (x i:Nat):((x / 2 ^ i) &&& 1=1)↔x.testBit i=true:=by
 rw[Nat.and_one_is_mod,Nat.testBit_eq_decide_div_mod_eq];simp
theorem SX [Q4] (p n:Nat) (ws:List Nat) (m:Nat) {w:World} {fr:List Q2} (H:Q0 w (BM p n ws m::fr)):Calls Tryz.prog 221 #[pp p] w (ret fun v w'=>v = .int .i64 n∧Q0 w' (BM p n ws m::fr)):=by
 obtain⟨v,H⟩:=NS H;refine QQ Tryz.func221 rfl (by kernel_rfl) ?_;refine Wp H ?_;refine J0 H ?_;exact Q3 (Jy (Il H) rfl fun w' H'=>⟨rfl,H'⟩)
theorem SR [Q4] (p n:Nat) (ws:List Nat) (m:Nat) {w:World} {fr:List Q2} (H:Q0 w (BM p n ws m::fr)):Calls Tryz.prog 65 #[pp p] w (ret fun v w'=>v = .int .i64 m∧Q0 w' (BM p n ws m::fr)):=by
 obtain⟨v,H⟩:=NS H;refine QQ Tryz.func65 rfl (by kernel_rfl) ?_;refine Wp H ?_;refine J0 H ?_;exact Q3 (Jy (Il H) rfl fun w' H'=>⟨rfl,H'⟩)
theorem ov [Q4] (p n x m i:Nat) (hb:Gn n x) (hi:i < n) {w:World} {fr:List Q2} (H:Q0 w (BM p n [x] m::fr)):Calls Tryz.prog 260 #[pp p,.int .i64 i] w (ret fun v w'=>v = .bool (x.testBit i)∧Q0 w' (BM p n [x] m::fr)):=by
 have VO:=hb.le;have Y0:=hb.lt64;refine QQ Tryz.func260 rfl (by kernel_rfl) ?_;refine DA H ?_;rw[show decide ((i:Int)≥0)=true from decide_eq_true (by omega)];refine GL H ?_;refine QS rfl rfl rfl (V1 (a:=[]) (b:=[]) rfl rfl (call (SX p n _ _ H) ?_));clear H;rintro v w ⟨rfl,H⟩;refine Zm H ?_;refine Jv ?_;rw[show decide ((i:Int) < (n:Int))=true from decide_eq_true (by omega)];obtain⟨b,cap,spare,H,QK⟩:=FI H;refine Rb H ?_;refine Ra H ?_;refine GL H ?_;rw[Im (show i < 64 by omega)];refine QS rfl rfl rfl (Ut rfl rfl (by decide) (by decide) rfl ?_);refine QS rfl rfl rfl (QA H rfl rfl rfl ?_);refine GL H ?_;rw[NT (show i < 64 by omega)]
 refine VG rfl rfl (v := .int .u64 (Rv .u64 (x:Int) (i:Int))) (by
  show (if (i:Int) < 0 then none else some _)=_;rw[if_neg (by omega)]) rfl ?_
 rw[Hm (k := .u64) (a:=x) (b:=i) (by omega) rfl];have hq:x / 2 ^ i < 18446744073709551616:=Nat.lt_of_le_of_lt (Nat.div_le_self _ _) Y0;refine VG rfl rfl (v := .int .u64 (ZO .and .u64 ((x / 2 ^ i:Nat):Int) ((1:Nat):Int))) rfl rfl ?_;rw[MX hq (by decide)];refine W5 H ?_;refine Q3 (Jy (QK _ _ _ _ H) rfl fun w' H'=>⟨?_,H'⟩);show Value.bool (((x / 2 ^ i &&& 1:Nat):Int) == 1)=_;congr 1;rw[Bool.eq_iff_iff,← ou];simp only[beq_iff_eq];omega
def G3 (x i:Nat) (on:Bool):Nat:=if x.testBit i=on then x else x ^^^ 2 ^ i
theorem Da (x i:Nat) (on:Bool) (j:Nat):(G3 x i on).testBit j=if j=i then on else x.testBit j:=by
 unfold G3;split
 ·rename_i h;split
  ·rename_i e;subst e;exact h
  ·rfl
 ·rename_i h;rw[Nat.testBit_xor,Nat.testBit_two_pow];split
  ·rename_i e;subst e;simp;cases hx:x.testBit j <;> cases on <;> simp_all
  ·rename_i e;have:decide (i=j)=false:=decide_eq_false (fun e2=>e e2.symm);simp[this]
def Zi (n x:Nat):Nat:=((List.range n).filter fun i=>x.testBit i).length
theorem ow {n x:Nat} (h:∀ j,n≤j→x.testBit j=false):x < 2 ^ n:=Nat.lt_pow_two_of_testBit x fun j hj=>h j hj
theorem SA {n x j:Nat} (h:x < 2 ^ n) (hj:n≤j):x.testBit j=false:=Nat.testBit_lt_two_pow (Nat.lt_of_lt_of_le h (Nat.pow_le_pow_right (by decide) hj))
theorem Gn.set {n x i:Nat} {on:Bool} (h:Gn n x) (hi:i < n):Gn n (G3 x i on):=⟨h.pos,h.le,ow fun j hj=>by
 rw[Da,if_neg (by omega)];exact SA h.lt hj⟩
theorem SB (f g:Nat→Bool) (i:Nat):∀ n,i < n→(∀ j,j≠i→f j=g j)→f i=false→g i=true→((List.range n).filter g).length=((List.range n).filter f).length+1
 | 0,h,_,_,_=>by omega
 | n+1,h,hfg,h0,h1=>by
  rw[range_succ,filter_append,filter_append,length_append,length_append];by_cases e:i=n
  ·subst e
   have e2:(List.range i).filter g=(List.range i).filter f:=by
    apply filter_congr;intro j hj;rw[mem_range] at hj;rw[hfg j (by omega)]
   rw[e2];simp[h0,h1]
  ·have:=SB f g i n (by omega) hfg h0 h1;have e3:[n].filter g=[n].filter f:=by simp[filter_cons,hfg n (fun e'=>e e'.symm)]
   rw[e3];omega
theorem ox {n x i:Nat} {on:Bool} (hi:i < n) (h:x.testBit i≠on):(on=true→Zi n (G3 x i on)=Zi n x+1)∧(on=false→Zi n x=Zi n (G3 x i on)+1):=by
 have QB:∀ j,j≠i→x.testBit j=(G3 x i on).testBit j:=fun j hj=>by rw[Da,if_neg hj]
 have GG:(G3 x i on).testBit i=on:=by rw[Da,if_pos rfl]
 constructor
 ·rintro rfl;exact SB _ _ i n hi QB (by simpa using h) GG
 ·rintro rfl;exact SB _ _ i n hi (fun j hj=>(QB j hj).symm) GG (by simpa using h)
theorem Na (n x:Nat):Zi n x≤n:=by
 have:=length_filter_le (fun i=>x.testBit i) (List.range n)
 rwa [length_range] at this
@[reducible] def GO (p n x:Nat):Q2:=BM p n [x] (Zi n x)
theorem oy [Q4] (p n x i:Nat) (on:Bool) (hb:Gn n x) (hi:i < n) {w:World} {fr:List Q2} (H:Q0 w (GO p n x::fr)):Calls Tryz.prog 249 #[pp p,.int .i64 i,.bool on] w (ret fun v w'=>Q0 w' (GO p n (G3 x i on)::fr)):=by
 have VO:=hb.le;have Y0:=hb.lt64;have QM:=Na n x;have Db:=Na n (G3 x i on);refine QQ Tryz.func249 rfl (by kernel_rfl) ?_;refine J9 H ?_;refine Jc rfl rfl (ov p n x _ i hb hi H) ?_;clear H;rintro v w ⟨rfl,H⟩;refine Jv ?_;refine Q5 rfl (D6 rfl rfl (.inl rfl) rfl ?_);refine Bw H ?_;refine Cw rfl (fun h=>?_) (fun h=>QF ?_)
 ·have h1:x.testBit i=on:=by simpa [ZC] using h
  have e:G3 x i on=x:=if_pos h1;rw[e];exact Q3 (Jy H rfl fun w' H'=>H')
 ·have h1:x.testBit i≠on:=by simpa [ZC] using h
  have e:G3 x i on=x ^^^ 2 ^ i:=if_neg h1;obtain⟨c1,c0⟩:=ox hi h1;obtain⟨b,cap,spare,H,QK⟩:=FI H;have fR:2 ^ i < 18446744073709551616:=Nat.lt_of_lt_of_le (Nat.pow_lt_pow_right (by decide) (show i < 64 by omega)) (Nat.le_refl _);have e2:Wg .u64 ((1:Nat):Int) (i:Int)=((2 ^ i:Nat):Int):=by rw[Pj (by omega),Nat.one_mul,Nat.mod_eq_of_lt fR]
  have e3:ZO .xor .u64 (x:Int) ((2 ^ i:Nat):Int)=((G3 x i on:Nat):Int):=by rw[eC Y0 fR,e]
  refine J1 H ?_;clear H;intro w H;refine YN H ?_;refine Jl 3 [13] H ?_;refine KI H ?_;rw[Im (show i < 64 by omega)];refine Bn 6 rfl (Q9.none rfl) rfl rfl (by decide) (by decide) (by kernel_rfl) ?_;refine Jl 7 [13] H ?_;refine Ja 8 ?_;refine Ja 9 ?_;rw[NT (show i < 64 by omega)]
  refine XW (v := .int .u64 (Wg .u64 ((1:Nat):Int) (i:Int))) 10 rfl (Q9.none rfl) (by
   show (if (i:Int) < 0 then none else some _)=_;rw[if_neg (by omega)];rfl) (by kernel_rfl) ?_
  rw[e2];refine XW (v := .int .u64 (ZO .xor .u64 (x:Int) ((2 ^ i:Nat):Int))) 11 rfl (Q9.none rfl) rfl (by kernel_rfl) ?_;rw[e3];refine Bn 12 rfl (Q9.none rfl) rfl rfl (by decide) (by decide) (by kernel_rfl) ?_;refine Jo 13 H ?_;refine KE H ?_;clear H;intro w H;refine Jx H ?_;refine XF H ?_;refine Rc H ?_;clear H;intro w H;refine DB H ?_;cases on with
  | true=>
   refine Vr H ?_;refine XF H ?_;refine Rc H ?_;clear H;intro w H;refine J2 H ?_
   have hc:IntKind.i64.wrap (IntKind.i64.wrap ((Zi n x:Nat) - 1:Int)+2)=((Zi n (G3 x i true):Nat):Int):=by
    have:=c1 rfl;rw[Qg (x:=((Zi n x:Nat):Int) - 1) (by omega) (by omega),Qg (by omega) (by omega)];omega
   rw[hc] at H;exact Z2 _ (.inl rfl) (QK _ _ _ _ H) rfl fun w' H'=>H'
  | false=>
   refine Vf H ?_
   have hc:IntKind.i64.wrap ((Zi n x:Nat) - 1:Int)=((Zi n (G3 x i false):Nat):Int):=by
    have:=c0 rfl;rw[Qg (by omega) (by omega)];omega
   rw[hc] at H;exact Z2 _ (.inl rfl) (QK _ _ _ _ H) rfl fun w' H'=>H'
def WU (x a:Nat):Nat→Bool→Nat
 | 0,_=>x
 | k+1,on=>G3 (WU x a k on) (a+k) on
theorem fW (x a:Nat) (on:Bool) (j:Nat):∀ k,(WU x a k on).testBit j=if a≤j∧j < a+k then on else x.testBit j
 | 0=>by simp[WU];omega
 | k+1=>by
  show (G3 _ _ _).testBit j=_;rw[Da,fW x a on j k];by_cases h1:j=a+k
  ·rw[if_pos h1,if_pos (by omega)]
  ·rw[if_neg h1];by_cases h2:a≤j∧j < a+k
   ·rw[if_pos h2,if_pos (by omega)]
   ·rw[if_neg h2,if_neg (by omega)]
theorem Gn.fill {n x a:Nat} {on:Bool} (h:Gn n x):∀ {k:Nat},a+k≤n→Gn n (WU x a k on)
 | 0,_=>h
 | k+1,hk=>Gn.set (Gn.fill h (by omega)) (by omega)
theorem fA [Q4] (p n x a k:Nat) (on:Bool) (hb:Gn n x) (hk:a+k≤n) {w:World} {fr:List Q2} (H:Q0 w (GO p n x::fr)) :
  Calls Tryz.prog 213 #[pp p,.int .i64 a,.int .i64 k,.bool on] w (ret fun v w'=>v = .int .i64 0∧Q0 w' (GO p n (WU x a k on)::fr)):=by
 have VO:=hb.le;refine QQ Tryz.func213 rfl (by kernel_rfl) ?_;refine J7 H ?_;refine Yx (fun ms σ w=>ms=[]∧σ 0=pp p∧σ 1 = .int .i64 a∧σ 2 = .int .i64 k∧σ 3 = .bool on∧Q0 w (GO p n x::fr)) ?_ ?_
 ·refine Qe ?_;obtain⟨b,cap,spare,H,QK⟩:=FI H;refine Ep H ?_;refine I3 H ?_;refine Y7 H ?_;rw[show decide ((k:Int) < 0)=false from decide_eq_false (by omega)];refine MM H ?_;rw[show decide ((a:Int) < 0)=false from decide_eq_false (by omega)];refine MN H ?_;refine ZS H ?_;rw[show decide ((a:Int) > (n:Int))=false from decide_eq_false (by omega)];refine Wq H ?_;refine Ra H ?_;refine MO H ?_;rw[show decide ((k:Int) > IntKind.i64.wrap ((n:Int) - (a:Int)))=false from decide_eq_false (by rw[Qg (by omega) (by omega)];omega)];refine Vf H ?_;exact .inl ⟨rfl,rfl,rfl,rfl,rfl,rfl,QK _ _ _ _ H⟩
 ·clear H;rintro ms σ w ⟨rfl,g0,g1,g2,g3,H⟩;rw[Q1 g0,Q1 g1,Q1 g2,Q1 g3];refine J3 H ?_;refine XE H ?_;refine Qq (fun ms σ w q=>ms=[]∧∃ j:Nat,j≤k∧q=k - j∧σ 0=pp p∧σ 1 = .int .i64 a∧σ 2 = .int .i64 k∧σ 3 = .bool on∧σ 9 = .int .i64 ((a+j:Nat):Int)∧Q0 w (GO p n (WU x a j on)::fr)) (m:=k) ⟨rfl,0,by omega,rfl,rfl,rfl,rfl,rfl,rfl,H⟩ ?_;clear H;rintro ms σ w q ⟨rfl,j,hj,rfl,g0,g1,g2,g3,g9,H⟩;rw[Q1 g0,Q1 g1,Q1 g2,Q1 g3,Q1 g9];refine Al H ?_;rw[Qg (x:=(a:Int)+(k:Int)) (by omega) (by omega)];refine J6 H ?_;refine Qm rfl (fun h=>QF ?_) (fun h=>Qv ?_)
  ·have Q6:j < k:=by omega
   refine DC H ?_;refine Jc rfl rfl (oy p n _ (a+j) on (hb.fill (by omega)) (by omega) H) ?_;clear H;intro v w H;refine DD H ?_;exact⟨_,⟨rfl,j+1,Q6,rfl,rfl,rfl,rfl,rfl,by rw[show ((a+(j+1):Nat):Int)=((a+j:Nat):Int)+1 by omega];exact Qh (i:=a+j) (by omega),H⟩,by omega⟩
  ·have V2:j=k:=by omega
   subst V2;refine Vl H ?_;exact Q3 (Jy H rfl fun w' H'=>⟨rfl,H'⟩)
theorem SC [Q4] (p n x i:Nat) (on:Bool) (hb:Gn n x) (hi:i < n) {w:World} {fr:List Q2} (H:Q0 w (GO p n x::fr)) :
  Calls Tryz.prog 151 #[pp p,.int .i64 i,.bool on] w (ret fun v w'=>v = .int .i64 0∧Q0 w' (GO p n (G3 x i on)::fr)):=by
 refine QQ Tryz.func151 rfl (by kernel_rfl) ?_;refine DA H ?_;refine Jc rfl rfl (fA p n x i 1 on hb (by omega) H) ?_;clear H;rintro v w ⟨rfl,H⟩;refine J0 H ?_;exact Q3 (Jy H rfl fun w' H'=>⟨rfl,H'⟩)
theorem fB [Q4] (n:Nat) (h1:0 < n) (h2:n≤1048576) {w:World} {fr:List Q2} (H:Q0 w fr) :
  Calls Tryz.prog 144 #[.int .i64 n] w (ret fun v w'=>∃ p,v = .tuple #[pp p,.int .i64 0]∧Q0 w' (BM p n (List.replicate ((n+63) / 64) 0) 0::fr)):=by
 refine QQ Tryz.func144 rfl (by kernel_rfl) ?_;refine J3 H ?_;refine Y7 H ?_;rw[show decide ((n:Int) < 1)=false from decide_eq_false (by omega)];refine GL H ?_;refine J0 H ?_;rw[show decide ((n:Int) > 1048576)=false from decide_eq_false (by omega)];refine Vf H ?_;refine Wr H ?_
 have e1:IntKind.i64.wrap (Int.tdiv (IntKind.i64.wrap ((n:Int)+63)) 64)=(((n+63) / 64:Nat):Int):=by
  rw[Qg (x:=(n:Int)+63) (by omega) (by omega),Int.tdiv_eq_ediv_of_nonneg (by omega),Qg (by omega) (by omega)];omega
 rw[e1];refine Q5 rfl (Gl H rfl rfl (by decide) (by omega) rfl ?_);clear H;intro b14 w H;refine W6 H ?_;clear H;intro b16 w H;refine J4 H ?_
 have e:Yl (VK (.int .u64 0)) ((n+63) / 64)=Qi (List.replicate ((n+63) / 64) 0):=by
  rw[show VK (.int .u64 0)=[.int .u64 0] from rfl,DV];simp[Qi]
 rw[e] at H;exact Q3 (Jy (Il H) rfl fun w' H'=>⟨_,rfl,H'⟩)
theorem SD {y:Nat} (h0:y≠0) (h:y < 18446744073709551616):Lib.ctz 64 y < 64∧y.testBit (Lib.ctz 64 y)=true∧∀ i,i < Lib.ctz 64 y→y.testBit i=false:=by
 obtain⟨m,hm,hk⟩:=Lib.ctzFrom_spec 64 y (by omega) h;have e:Lib.ctz 64 y=Lib.ctzFrom 64 y:=by simp[Lib.ctz,h0]
 rw[e];generalize Lib.ctzFrom 64 y=k at hm hk;subst hm;refine⟨hk,?_,fun i hi=>?_⟩
 ·rw[Nat.testBit_eq_decide_div_mod_eq,Nat.mul_div_cancel_left _ (Nat.two_pow_pos k)];simp
 ·rw[Nat.testBit_eq_decide_div_mod_eq]
  have:2 ^ k*(2*m+1) / 2 ^ i=2*(2 ^ (k - i - 1)*(2*m+1)):=by
   have h2:2 ^ k=2 ^ i*(2*2 ^ (k - i - 1)):=by
    rw[← Nat.pow_succ',← Nat.pow_add];congr 1;omega
   rw[h2,Nat.mul_assoc,Nat.mul_div_cancel_left _ (Nat.two_pow_pos i),Nat.mul_assoc]
  rw[this];simp
theorem SE [Q4] (x:Nat) (hx:x < 18446744073709551616) {w:World} {fr:List Q2} [hT:Z6 0 Lib.deBruijn64tab fr] (H:Q0 w fr):Calls Tryz.prog 219 #[.int .u64 x] w (ret fun v w'=>v = .int .i64 (Lib.ctz 64 x)∧Q0 w' fr):=by
 refine(Any7.bits_TrailingZeros64 Tryz.laysTz x hx w (fun _=>hT.tab w H.1)).mono ?_;rintro e w' ⟨rfl,rfl⟩;exact⟨rfl,H⟩
theorem oz {x i:Nat} (hx:x < 18446744073709551616):(18446744073709551615 - x).testBit i=(decide (i < 64) && !x.testBit i):=by
 have e:18446744073709551615 - x=2 ^ 64 - (x+1):=by omega
 rw[e,Nat.testBit_two_pow_sub_succ hx]
theorem fC (x a i:Nat):(x / 2 ^ a).testBit i=x.testBit (a+i):=by
 rw[Nat.testBit_div_two_pow,Nat.add_comm]
def p3 (n x a:Nat) (v:Value):Prop:=
 (∃ j:Nat,v = .tuple #[.int .i64 j,.bool true]∧a≤j∧j < n∧x.testBit j=false∧∀ i,a≤i→i < j→x.testBit i=true)∨(v = .tuple #[.int .i64 0,.bool false]∧∀ i,a≤i→i < n→x.testBit i=true)
theorem SF [Q4] (p n x a m:Nat) (hb:Gn n x) (ha:a≤n) {w:World} {fr:List Q2} [hT:Z6 0 Lib.deBruijn64tab fr] (H:Q0 w (BM p n [x] m::fr)) :
  Calls Tryz.prog 150 #[pp p,.int .i64 a] w (ret fun v w'=>p3 n x a v∧Q0 w' (BM p n [x] m::fr)):=by
 have VO:=hb.le;have Y0:=hb.lt64;refine QQ Tryz.func150 rfl (by kernel_rfl) ?_;refine MC H ?_;refine Er H ?_;rw[show (if (0:Int) > (a:Int) then (0:Int) else (a:Int))=(a:Int) from if_neg (by omega)];refine Yy H ?_;refine Yx (fun ms σ w=>ms=[]∧∃ j:Nat,σ 0=pp p∧σ 1 = .int .i64 j∧a≤j∧j≤64∧(∀ i,a≤i→i < j→x.testBit i=true)∧(j < n→x.testBit j=false)∧Q0 w (BM p n [x] m::fr)) ?_ ?_
 ·refine Qe ?_;refine Qq (fun ms σ w q=>ms=[]∧q=0∧σ 0=pp p∧σ 1 = .int .i64 a∧Q0 w (BM p n [x] m::fr)) (m:=0) ⟨rfl,rfl,rfl,rfl,H⟩ ?_;clear H;rintro ms σ w q ⟨rfl,rfl,g0,g1,H⟩;rw[Q1 g0,Q1 g1];refine J9 H ?_;refine Jc rfl rfl (SX p n _ _ H) ?_;clear H;rintro v w ⟨rfl,H⟩;refine Yy H ?_;refine Qm rfl (fun h=>QF ?_) (fun h=>Qv ?_)
  ·have Q6:a < n:=by omega
   have hq:(18446744073709551615 - x) / 2 ^ a < 18446744073709551616:=Nat.lt_of_le_of_lt (Nat.div_le_self _ _) (by omega);have Ud:∀ i,((18446744073709551615 - x) / 2 ^ a).testBit i=(decide (a+i < 64) && !x.testBit (a+i)):=fun i=>by rw[fC,oz Y0]
   have QB:(18446744073709551615 - x) / 2 ^ a≠0:=fun e=>by
    have:=Ud (63 - a);rw[e,Nat.zero_testBit,show a+(63 - a)=63 by omega,SA hb.lt VO] at this;simp at this
   obtain⟨c1,c2,c3⟩:=SD QB hq;refine XE H ?_;obtain⟨b,cap,spare,H,QK⟩:=FI H;refine XF H ?_;rw[Im (show a < 64 by omega)];refine Q5 rfl (Ut rfl rfl (by decide) (by decide) rfl ?_);refine W4 H ?_;refine Q5 rfl (ny Y0 rfl rfl ?_);refine ZS H ?_;rw[NT (show a < 64 by omega)]
   refine Kh (v := .int .u64 (Rv .u64 ((18446744073709551615 - x:Nat):Int) (a:Int))) (by
    show (if (a:Int) < 0 then none else some _)=_;rw[if_neg (by omega)]) rfl ?_
   rw[Hm (k := .u64) (by omega) rfl];refine ZX H ?_;generalize (18446744073709551615 - x) / 2 ^ a=y at *;rw[show ((y:Int) != 0)=true by simp;omega];refine Vr H ?_;replace H:=QK _ _ _ _ H;refine J9 H ?_;refine Jc rfl rfl (SE y hq H) ?_;clear H;rintro v w ⟨rfl,H⟩;refine J4 H ?_;have hk:=Ud (Lib.ctz 64 y);rw[c2] at hk;simp at hk;refine Qv (.inl ⟨rfl,rfl,a+Lib.ctz 64 y,rfl,?_,by omega,by omega,fun i h1 h2=>?_,fun _=>by simpa using hk.2,H⟩)
   ·show Value.int .i64 (IntKind.i64.wrap ((a:Int)+(Lib.ctz 64 y:Nat)))=_;rw[Qg (by omega) (by omega)];congr 1
   ·have:=Ud (i - a);rw[c3 (i - a) (by omega),show a+(i - a)=i by omega] at this;simp at this;exact this (by omega)
  ·have V2:a=n:=by omega
   exact .inl ⟨rfl,rfl,a,rfl,rfl,by omega,by omega,fun i h1 h2=>by omega,fun h=>by omega,H⟩
 ·clear H;rintro ms σ w ⟨rfl,j,g0,g1,h1,h2,h3,h4,H⟩;rw[Q1 g0,Q1 g1];refine J9 H ?_;refine Jc rfl rfl (SX p n _ _ H) ?_;clear H;rintro v w ⟨rfl,H⟩;refine Yy H ?_;refine Qm rfl (fun h=>?_) (fun h=>QF ?_)
  ·refine J3 H ?_;exact Q3 (Jy H rfl fun w' H'=>⟨.inr ⟨rfl,fun i h5 h6=>h3 i h5 (by omega)⟩,H'⟩)
  ·refine Vj H ?_;exact Q3 (Jy H rfl fun w' H'=>⟨.inl ⟨j,rfl,h1,by omega,h4 (by omega),h3⟩,H'⟩)
theorem SH [Q4] (p n x a m:Nat) (hb:Gn n x) (ha:a≤n) {w:World} {fr:List Q2} [hT:Z6 0 Lib.deBruijn64tab fr] (H:Q0 w (BM p n [x] m::fr)) :
  Calls Tryz.prog 182 #[pp p,.int .i64 a] w (ret fun v w'=>(∃ e:Nat,v = .int .i64 e∧a≤e∧e≤n∧(∀ i,a≤i→i < e→x.testBit i=false)∧(e < n→x.testBit e=true))∧Q0 w' (BM p n [x] m::fr)):=by
 have VO:=hb.le;have Y0:=hb.lt64;refine QQ Tryz.func182 rfl (by kernel_rfl) ?_;refine J7 H ?_;refine Yx (fun ms σ w=>ms=[]∧σ 0=pp p∧(∀ i,a≤i→i < n→x.testBit i=false)∧Q0 w (BM p n [x] m::fr)) ?_ ?_
 ·refine Qe ?_
  refine Qq (fun ms σ w q=>ms=[]∧∃ j:Nat,(q=if j < n then 1 else 0)∧(j < n→j=a)∧σ 0=pp p∧σ 1 = .int .i64 j∧(j < n∨∀ i,a≤i→i < n→x.testBit i=false)∧Q0 w (BM p n [x] m::fr)) (m:=if a < n then 1 else 0) ⟨rfl,a,rfl,fun _=>rfl,rfl,rfl,by
   by_cases h:a < n
   ·exact .inl h
   ·exact .inr fun i h1 h2=>by omega,H⟩ ?_
  clear H;rintro ms σ w q ⟨rfl,j,rfl,hj,g0,g1,h5,H⟩;rw[Q1 g0,Q1 g1];obtain⟨b,cap,spare,H,QK⟩:=FI H;refine Es H ?_;refine Yy H ?_;refine Qm rfl (fun h=>QF ?_) (fun h=>Qv ?_)
  ·have Q6:j < n:=by omega
   have:=hj Q6;subst this;have hq:x / 2 ^ j < 18446744073709551616:=Nat.lt_of_le_of_lt (Nat.div_le_self _ _) (by omega);have Ud:∀ i,(x / 2 ^ j).testBit i=x.testBit (j+i):=fun i=>by rw[fC]
   refine XE H ?_;refine XF H ?_;rw[Im (show j < 64 by omega)];refine Q5 rfl (Ut rfl rfl (by decide) (by decide) rfl ?_);refine W4 H ?_;refine ZS H ?_;rw[NT (show j < 64 by omega)]
   refine Kh (v := .int .u64 (Rv .u64 (x:Int) (j:Int))) (by
    show (if (j:Int) < 0 then none else some _)=_;rw[if_neg (by omega)]) rfl ?_
   rw[Hm (k := .u64) (by omega) rfl];refine ZX H ?_;replace H:=QK _ _ _ _ H;generalize x / 2 ^ j=y at *;refine J6 H ?_;by_cases hy:y=0
   ·rw[show ((y:Int) != 0)=false by simp[hy]];refine Vf H ?_;refine Al H ?_;refine⟨_,⟨rfl,64,rfl,fun h=>by omega,rfl,?_,.inr fun i h1 h2=>?_,H⟩,by rw[if_pos Q6,if_neg (by omega)];decide⟩
    ·show Value.int .i64 (IntKind.i64.wrap (IntKind.i64.wrap (IntKind.i64.wrap (Int.tdiv (j:Int) 64)+1)*64))=_;rw[Im (show j < 64 by omega)];rfl
    ·have:=Ud (i - j);rw[hy,Nat.zero_testBit,show j+(i - j)=i by omega] at this;exact this.symm
   ·rw[show ((y:Int) != 0)=true by simp;omega];refine Vr H ?_;obtain⟨c1,c2,c3⟩:=SD hy hq;refine J9 H ?_;refine Jc rfl rfl (SE y hq H) ?_;clear H;rintro v w ⟨rfl,H⟩;refine J4 H ?_;have hk:=Ud (Lib.ctz 64 y);rw[c2] at hk
    have hn:j+Lib.ctz 64 y < n:=by
     rcases Nat.lt_or_ge (j+Lib.ctz 64 y) n with h|h
     ·exact h
     ·rw[SA hb.lt h] at hk;cases hk
    refine Q3 (.inr ⟨by simp,Jy H rfl fun w' H'=>⟨⟨j+Lib.ctz 64 y,?_,by omega,by omega,fun i h1 h2=>?_,fun _=>hk.symm⟩,H'⟩⟩)
    ·show Value.int .i64 (IntKind.i64.wrap ((j:Int)+(Lib.ctz 64 y:Nat)))=_;rw[Qg (by omega) (by omega)];congr 1
    ·have:=Ud (i - j);rw[c3 (i - j) (by omega),show j+(i - j)=i by omega] at this;exact this.symm
  ·exact .inl ⟨rfl,rfl,rfl,by
    rcases h5 with h5|h5
    ·omega
    ·exact h5,QK _ _ _ _ H⟩
 ·clear H;rintro ms σ w ⟨rfl,g0,h1,H⟩;rw[Q1 g0];obtain⟨b,cap,spare,H,QK⟩:=FI H;refine G1 H ?_;refine J0 H ?_;exact Q3 (Jy (QK _ _ _ _ H) rfl fun w' H'=>⟨⟨n,rfl,ha,Nat.le_refl _,h1,fun h=>by omega⟩,H'⟩)
def p4 (n x k:Nat) (v:Value):Prop:=
 (∃ a:Nat,v = .tuple #[.int .i64 a,.bool true]∧a+k≤n∧∀ i,a≤i→i < a+k→x.testBit i=false) ∨
 (v = .tuple #[.int .i64 0,.bool false]∧∀ a,a+k≤n→∃ i,a≤i∧i < a+k∧x.testBit i=true)
theorem p5 [Q4] (p n x k m:Nat) (hb:Gn n x) (hk:1≤k) (VN:k < 1000000) {w:World} {fr:List Q2} [hT:Z6 0 Lib.deBruijn64tab fr] (H:Q0 w (BM p n [x] m::fr)) :
  Calls Tryz.prog 212 #[pp p,.int .i64 k] w (ret fun v w'=>p4 n x k v∧Q0 w' (BM p n [x] m::fr)):=by
 have VO:=hb.le;refine QQ Tryz.func212 rfl (by kernel_rfl) ?_;refine J3 H ?_;refine J3 H ?_;rw[show decide ((k:Int) < 1)=false from decide_eq_false (by omega)];refine Et H ?_;refine Jc rfl rfl (SF p n x 0 m hb (by omega) H) ?_;clear H;rintro v w ⟨hF,H⟩
 have hI:∃ (j:Nat) (ok:Bool),v = .tuple #[.int .i64 j,.bool ok]∧(ok=true→j < n∧x.testBit j=false∧∀ a,a < j→a+k≤n→∃ i,a≤i∧i < a+k∧x.testBit i=true) ∧
   (ok=false→∀ a,a+k≤n→∃ i,a≤i∧i < a+k∧x.testBit i=true):=by
  rcases hF with ⟨j,rfl,_,h2,h3,h4⟩|⟨rfl,h2⟩
  ·exact⟨j,true,rfl,fun _=>⟨h2,h3,fun a ha _=>⟨a,Nat.le_refl _,by omega,h4 a (by omega) ha⟩⟩,fun h=>by cases h⟩
  ·exact⟨0,false,rfl,(fun h=>by cases h),fun _ a ha=>⟨a,Nat.le_refl _,by omega,h2 a (by omega) (by omega)⟩⟩
 obtain⟨j,ok,rfl,QX,VZ⟩:=hI;refine DE H ?_;refine Qe ?_
 refine Qq (fun ms σ w q=>ms=[]∧∃ (j:Nat) (ok:Bool),(q=if ok then n - j else 0)∧σ 0=pp p∧σ 1 = .int .i64 k∧σ 6 = .int .i64 j∧σ 7 = .bool ok∧(ok=true→j < n∧x.testBit j=false∧∀ a,a < j→a+k≤n→∃ i,a≤i∧i < a+k∧x.testBit i=true) ∧
   (ok=false→∀ a,a+k≤n→∃ i,a≤i∧i < a+k∧x.testBit i=true)∧Q0 w (BM p n [x] m::fr)) (m:=if ok then n - j else 0) ⟨rfl,j,ok,rfl,rfl,rfl,rfl,rfl,QX,VZ,H⟩ ?_
 clear H hF QX VZ;rintro ms σ w q ⟨rfl,j,ok,rfl,g0,g1,g6,g7,QX,VZ,H⟩;rw[Q1 g0,Q1 g1,Q1 g6,Q1 g7];refine J7 H ?_;cases ok with
 | true=>
  obtain⟨h1,h2,h3⟩:=QX rfl;refine Ws H ?_;refine Wt H ?_;refine Jc rfl rfl (SH p n x j m hb (by omega) H) ?_;clear H;rintro v w ⟨⟨e,rfl,e1,e2,e3,e4⟩,H⟩;refine J0 H ?_;refine Al H ?_;rw[Qg (x:=(e:Int) - (j:Int)) (by omega) (by omega)];refine J6 H ?_;refine Qm rfl (fun h=>?_) (fun h=>QF ?_)
  ·refine Vj H ?_;exact Q3 (Jy H rfl fun w' H'=>⟨.inl ⟨j,rfl,by omega,fun i h5 h6=>e3 i h5 (by omega)⟩,H'⟩)
  ·have zz:j < e:=by
    rcases Nat.lt_or_ge j e with h|h
    ·exact h
    ·have:e=j:=by omega
     subst this;have:=e4 h1;rw[h2] at this;cases this
   have hF:∀ a,a≤e→a+k≤n→∃ i,a≤i∧i < a+k∧x.testBit i=true:=fun a ha Yk=>by
    rcases Nat.lt_or_ge a j with h'|h'
    ·exact h3 a h' Yk
    ·exact⟨e,ha,by omega,e4 (by omega)⟩
   refine J9 H ?_;refine Jc rfl rfl (SF p n x e m hb (by omega) H) ?_;clear H;rintro v w ⟨p6,H⟩
   rcases p6 with ⟨j2,rfl,f1,f2,f3,f4⟩|⟨rfl,f2⟩
   ·refine Px H ?_;refine⟨_,⟨rfl,j2,true,rfl,rfl,rfl,rfl,rfl,fun _=>⟨f2,f3,fun a ha Yk=>?_⟩,(fun h=>by cases h),H⟩,by simp;omega⟩
    rcases Nat.lt_or_ge e a with h'|h'
    ·exact⟨a,Nat.le_refl _,by omega,f4 a (by omega) ha⟩
    ·exact hF a h' Yk
   ·refine Px H ?_;refine⟨_,⟨rfl,0,false,rfl,rfl,rfl,rfl,rfl,(fun h=>by cases h),fun _ a Yk=>?_,H⟩,by simp;omega⟩
    rcases Nat.lt_or_ge e a with h'|h'
    ·exact⟨a,Nat.le_refl _,by omega,f2 a (by omega) (by omega)⟩
    ·exact hF a h' Yk
 | false=>
  refine Am H ?_;refine J3 H ?_;exact Q3 (Jy H rfl fun w' H'=>⟨.inr ⟨rfl,VZ rfl⟩,H'⟩)
def QH (l:List Nat):List Value:=l.map fun x:Nat=>Value.int .i64 (x:Int)
theorem QJ (l:List Nat):(QH l).length=l.length*1:=by simp[QH]
theorem B4 (a b:List Nat):QH (a++b)=QH a++QH b:=by simp[QH]
theorem U4 {l:List Nat} {spare:List Value} {i x:Nat} (h:l[i]? = some x):(QH l++spare)[0+i*1]? = some (.int .i64 x):=by
 have hi:=(List.getElem?_eq_some_iff.1 h).1;rw[Nat.zero_add,Nat.mul_one,getElem?_append_left (by simpa [QH] using hi)];simp[QH,h]
theorem Nb {l:List Nat} {spare:List Value} {i x:Nat} (h:i < l.length):(QH l++spare).set (0+i*1) (.int .i64 x)=QH (l.set i x)++spare:=by
 rw[Nat.zero_add,Nat.mul_one,set_append_left _ _ (by simpa [QH] using h)];simp[QH,map_set]
theorem fD {l:List Nat} {spare:List Value} {i x:Nat} (h:i < l.length):(Qi l++spare).set (0+i*1) (.int .u64 x)=Qi (l.set i x)++spare:=by
 rw[Nat.zero_add,Nat.mul_one,set_append_left _ _ (by simpa [Qi] using h)];simp[Qi,map_set]
@[reducible] def NL (v:Value) (l:List Nat):Q2:=QE 3 1 v (QH l)
theorem CK {a b:Nat} (h:a < 9223372036854775808):IntKind.i64.wrap (Int.tdiv (a:Int) (b:Int))=((a / b:Nat):Int):=by
 have VO:a / b≤a:=Nat.div_le_self _ _;rw[Int.tdiv_eq_ediv_of_nonneg (by omega),← Int.natCast_ediv];generalize a / b=q at VO;exact Qg (by omega) (by omega)
structure CR (size:Nat) (mem own ws:List Nat) (many:Nat):Prop where
 s1:1≤size
 s2:size≤1024
 c1:1≤own.length
 c2:own.length≤1024
 len:mem.length=own.length*size
 many:many=(own.filter (· != 0)).length
 one:own.length≤63→∃ x,ws=[x]∧x < 2 ^ own.length∧∀ c,c < own.length→x.testBit c=decide (own.getD c 0≠0)
theorem Nc:∀ (own:List Nat) (x:Nat),(∀ c,c < own.length→x.testBit c=decide (own.getD c 0≠0))→Zi own.length x=(own.filter (· != 0)).length
 | own,x,h=>by
  unfold Zi
  have e:(List.range own.length).filter (fun i=>x.testBit i)=(List.range own.length).filter (fun i=>own.getD i 0 != 0):=by
   apply filter_congr;intro i hi;rw[mem_range] at hi;show x.testBit i=(own.getD i 0 != 0);rw[h i hi];generalize own.getD i 0=z;cases z <;> simp
  rw[e];clear e h
  have:∀ (l:List Nat),((List.range l.length).filter (fun i=>l.getD i 0 != 0)).length=(l.filter (· != 0)).length:=by
   intro l
   have e2:l.filter (· != 0)=((List.range l.length).filter (fun i=>l.getD i 0 != 0)).map (fun i=>l.getD i 0):=by
    have e3:l=(List.range l.length).map (fun i=>l.getD i 0):=by
     apply ext_getElem?;intro i;by_cases hi:i < l.length
     ·rw[getElem?_map,getElem?_range hi,getElem?_eq_getElem hi];simp[hi]
     ·rw[getElem?_eq_none (by omega),getElem?_eq_none (by simp;omega)]
    conv=>lhs;rw[e3]
    rw[filter_map];rfl
   rw[e2,length_map]
  exact this own
def ST (p size:Nat) (mem own:List Nat):Q2:=ex fun q:Value×Value×Nat×List Nat×Nat=>
 star [prop (CR size mem own q.2.2.2.1 q.2.2.2.2),pts p (row 141 [q.1,.int .i64 size,q.2.1,pp q.2.2.1]),UL q.1 mem,NL q.2.1 own,BM q.2.2.1 own.length q.2.2.2.1 q.2.2.2.2]
theorem KJ [Q4] {w:World} {p size:Nat} {mem own:List Nat} {l:List Q2} (H:Q0 w (ST p size mem own::l)):∃ v v2 u ws many,CR size mem own ws many ∧
  Q0 w (pts p (row 141 [v,.int .i64 size,v2,pp u])::UL v mem::NL v2 own::BM u own.length ws many::l):=by
 obtain⟨⟨v,v2,u,ws,many⟩,H⟩:=Q0.ex.1 H;have H:=Q0.star.1 H;obtain⟨h,H⟩:=Q0.prop.1 H;exact⟨v,v2,u,ws,many,h,H⟩
theorem XM [Q4] {w:World} {p size:Nat} {mem own:List Nat} {l:List Q2} {v v2:Value} {u:Nat} {ws:List Nat} {many:Nat} (h:CR size mem own ws many)
  (H:Q0 w (pts p (row 141 [v,.int .i64 size,v2,pp u])::UL v mem::NL v2 own::BM u own.length ws many::l)):Q0 w (ST p size mem own::l):=
 Q0.ex.2 ⟨(v,v2,u,ws,many),Q0.star.2 (Q0.prop.2 ⟨h,H⟩)⟩
theorem p7 [Q4] (n size:Nat) (h1:1≤n) (h2:n≤1024) (h3:1≤size) (h4:size≤1024) {w:World} {fr:List Q2} (H:Q0 w fr) :
  Calls Tryz.prog 80 #[.int .i64 n,.int .i64 size] w (ret fun v w'=>∃ p,v = .tuple #[pp p,.int .i64 0]∧Q0 w' (ST p size (List.replicate (n*size) 0) (List.replicate n 0)::fr)):=by
 have p8:n*size≤1048576:=Nat.mul_le_mul h2 h4;refine QQ Tryz.func80 rfl (by kernel_rfl) ?_;refine J3 H ?_;refine Y7 H ?_;rw[show decide ((n:Int) < 1)=false from decide_eq_false (by omega)];refine MM H ?_;rw[show decide ((n:Int) > 1024)=false from decide_eq_false (by omega)];refine MM H ?_;rw[show decide ((size:Int) < 1)=false from decide_eq_false (by omega)];refine GL H ?_;refine J0 H ?_;rw[show decide ((size:Int) > 1024)=false from decide_eq_false (by omega)];refine Et H ?_;refine Jc rfl rfl (fB n (by omega) (by omega) H) ?_;clear H;rintro v w ⟨u,rfl,H⟩;refine MI H ?_;clear H;intro w H;refine Ja 0 ?_;refine Ja 1 ?_;refine Ja 2 ?_;refine KI H ?_;refine Ja 7 ?_
 have e1:IntKind.i64.wrap ((n:Int)*(size:Int))=((n*size:Nat):Int):=by
  rw[← Int.natCast_mul,Qg (by omega) (by omega)]
 rw[e1]
 have QX:CR size (List.replicate (n*size) 0) (List.replicate n 0) (List.replicate (((List.replicate n 0).length+63) / 64) 0) 0:=by
  refine⟨h3,h4,by simpa using h1,by simpa using h2,by simp,by simp,fun h=>⟨0,?_,Nat.two_pow_pos _,fun c hc=>?_⟩⟩
  ·have:((List.replicate n 0:List Nat).length+63) / 64=1:=by simp at h ⊢;omega
   rw[this];rfl
  ·have Zu:c < n:=by simpa using hc
   simp[Nat.zero_testBit,Zu]
 have z1:Yl (VK (.int .u64 0)) (n*size)=Qi (List.replicate (n*size) 0):=by
  rw[show VK (.int .u64 0)=[.int .u64 0] from rfl,DV];simp[Qi]
 have z2:Yl (VK (.int .i64 0)) n=QH (List.replicate n 0):=by
  rw[show VK (.int .i64 0)=[.int .i64 0] from rfl,DV];simp[QH]
 have hl:(List.replicate n 0:List Nat).length=n:=by simp
 rw[hl] at QX;refine Jw 3 6 H rfl rfl (Gl H rfl rfl (by decide) (by omega) rfl ?_) (Gl H rfl rfl (by decide) (by omega) rfl ?_)
 ·clear H;intro b30 w H;rw[z1] at H;refine Jo 6 H ?_;refine Gl H rfl rfl (by decide) (by omega) rfl ?_;clear H;intro b33 w H;rw[z2] at H;refine Uc 8 rfl (Q9.none rfl) rfl (by kernel_rfl) ?_;refine Jo 9 H ?_;refine ES H rfl rfl ?_;clear H;intro b36 w H;refine MP H ?_;replace H:=Js [0,1,0,0] 0 H;have H:=XM (own:=List.replicate n 0) QX (by rw[hl];exact H);exact Q3 (Jy H rfl fun w' H'=>⟨_,rfl,H'⟩)
 ·clear H;intro b33 w H;rw[z2] at H;refine Jo 3 H ?_;refine Gl H rfl rfl (by decide) (by omega) rfl ?_;clear H;intro b30 w H;rw[z1] at H;refine Uc 8 rfl (Q9.none rfl) rfl (by kernel_rfl) ?_;refine Jo 9 H ?_;refine ES H rfl rfl ?_;clear H;intro b36 w H;refine MP H ?_;have H:=XM (own:=List.replicate n 0) QX (by rw[hl];exact H);exact Q3 (Jy H rfl fun w' H'=>⟨_,rfl,H'⟩)
theorem SI [Q4] (p size:Nat) (mem own:List Nat) {w:World} {fr:List Q2} (H:Q0 w (ST p size mem own::fr)):Calls Tryz.prog 16 #[pp p] w (ret fun v w'=>v = .int .i64 own.length∧Q0 w' (ST p size mem own::fr)):=by
 obtain⟨v,v2,u,ws,many,QX,H⟩:=KJ H;obtain⟨a2,c2,rfl⟩:=QI (H.drop.drop) (QJ own) (by decide);refine QQ Tryz.func16 rfl (by kernel_rfl) ?_;refine Wp H ?_;refine W7 H ?_;exact Q3 (Jy (XM QX H) rfl fun w' H'=>⟨rfl,H'⟩)
theorem Io [Q4] (p size:Nat) (mem own:List Nat) {w:World} {fr:List Q2} (H:Q0 w (ST p size mem own::fr)):Calls Tryz.prog 49 #[pp p] w (ret fun v w'=>v = .int .i64 size∧Q0 w' (ST p size mem own::fr)):=by
 obtain⟨v,v2,u,ws,many,QX,H⟩:=KJ H;refine QQ Tryz.func49 rfl (by kernel_rfl) ?_;refine Wp H ?_;refine J0 H ?_;exact Q3 (Jy (XM QX H) rfl fun w' H'=>⟨rfl,H'⟩)
theorem Ip [Q4] (p size:Nat) (mem own:List Nat) {w:World} {fr:List Q2} (H:Q0 w (ST p size mem own::fr)):Calls Tryz.prog 15 #[pp p] w (ret fun v w'=>v = .int .i64 ((own.length - (own.filter (· != 0)).length:Nat):Int)∧Q0 w' (ST p size mem own::fr)):=by
 obtain⟨v,v2,u,ws,many,QX,H⟩:=KJ H;obtain⟨a2,c2,rfl⟩:=QI (H.drop.drop) (QJ own) (by decide);refine QQ Tryz.func15 rfl (by kernel_rfl) ?_;refine MT H ?_;clear H;intro w H;refine W8 H ?_;refine Aa 4 rfl (Q9.none rfl) rfl (by kernel_rfl) ?_;refine Eu H ?_;refine Jl 8 [9] H ?_;replace H:=Js [3,0,0,0] 0 H;refine Jo 9 H ?_;refine Jk rfl rfl (SR u _ _ _ H) ?_;clear H;rintro v w ⟨rfl,H⟩;refine MP H ?_;replace H:=Js [1,1,1,0] 0 H;have VO:=length_filter_le (· != 0) own;have:=QX.many;have h2:=QX.c2;refine Q3 (Jy (XM QX H) rfl fun w' H'=>⟨?_,H'⟩);show Value.int .i64 (IntKind.i64.wrap ((own.length:Int) - (many:Int)))=_;rw[Qg (by omega) (by omega)];congr 1;omega
theorem SJ [Q4] (p size:Nat) (mem own:List Nat) (c:Nat) {w:World} {fr:List Q2} (H:Q0 w (ST p size mem own::fr)) (hc:c < own.length):Calls Tryz.prog 48 #[pp p,.int .i64 c] w (ret fun v w'=>v = .int .i64 (own.getD c 0)∧Q0 w' (ST p size mem own::fr)):=by
 refine QQ Tryz.func48 rfl (by kernel_rfl) ?_;refine DA H ?_;rw[show decide ((c:Int) < 0)=false from decide_eq_false (by omega)];refine GL H ?_;refine QS rfl rfl rfl (V1 (a:=[]) (b:=[]) rfl rfl (call (SI p size mem own H) ?_));clear H;rintro v w ⟨rfl,H⟩;refine Ma H ?_;rw[show decide ((c:Int)≥(own.length:Int))=false from decide_eq_false (by omega)];refine Vf H ?_;obtain⟨v,v2,u,ws,many,QX,H⟩:=KJ H;replace H:=Js [2,0,0,0] 0 H;obtain⟨a2,c2,rfl⟩:=QI H (QJ own) (by decide);obtain⟨b,s,rfl,H,QK⟩:=VX H (by omega);have hx:=getElem?_eq_getElem hc;have hg:own.getD c 0=own[c]:=by simp[hc]
 rw[hg];generalize own[c]=x at hx;refine VM H ?_;refine Jd ?_;refine Q5 rfl (QA H rfl (U4 hx) rfl ?_);refine J0 H ?_;replace H:=QK _ _ H;replace H:=Js [1,1,0,0] 0 H;exact Q3 (Jy (XM QX H) rfl fun w' H'=>⟨rfl,H'⟩)
def Xw (size:Nat) (own:List Nat) (a n:Nat):Prop:=∀ c,a / size≤c→c≤(a+n - 1) / size→own.getD c 0≠0
theorem FJ [Q4] (p size:Nat) (mem own:List Nat) (a n:Nat) (h1:1≤n) (h2:a+n≤mem.length) (h3:Xw size own a n) {w:World} {fr:List Q2} (H:Q0 w (ST p size mem own::fr)) :
  Calls Tryz.prog 208 #[pp p,.int .i64 a,.int .i64 n] w (ret fun v w'=>v = .int .i64 0∧Q0 w' (ST p size mem own::fr)):=by
 obtain⟨v,v2,u,ws,many,QX,H⟩:=KJ H;have SM:=QX;obtain⟨s1,s2,c1,c2,Qw,_,_⟩:=SM;have VR:mem.length≤1048576:=by rw[Qw];exact Nat.mul_le_mul c2 s2
 have Q0a:(a+n - 1) / size < own.length:=by
  rw[Nat.div_lt_iff_lt_mul (by omega),← Qw];omega
 have WX:a / size≤(a+n - 1) / size:=Nat.div_le_div_right (by omega);obtain⟨a1,k1,rfl⟩:=QI (H.drop) (GY mem) (by decide);obtain⟨a2,k2,rfl⟩:=QI (H.drop.drop) (QJ own) (by decide);refine QQ Tryz.func208 rfl (by kernel_rfl) ?_;refine DA H ?_;rw[show decide ((n:Int) < 0)=false from decide_eq_false (by omega)];refine MM H ?_;rw[show decide ((a:Int) < 0)=false from decide_eq_false (by omega)];refine Mb H ?_;refine ZS H ?_;rw[show decide ((a:Int) > (mem.length:Int))=false from decide_eq_false (by omega)];refine Wq H ?_;refine QS rfl rfl rfl (VW rfl rfl ?_);refine QS rfl rfl rfl (QA H rfl rfl rfl ?_);refine QS rfl rfl rfl (Gk rfl rfl ?_);refine Wq H ?_;refine J0 H ?_;rw[show decide ((n:Int) > IntKind.i64.wrap ((mem.length:Int) - (a:Int)))=false from decide_eq_false (by rw[Qg (by omega) (by omega)];omega)];refine DF H ?_;rw[show ((n:Int) == 0)=false by simp;omega];refine Vf H ?_;refine Es H ?_
 refine Kh (v := .int .i64 ((a / size:Nat):Int)) (by
  show (if IntKind.i64=IntKind.i64 then (if (size:Int)=0 then none else some _) else none)=_;rw[if_pos rfl,if_neg (by omega),CK (by omega)]) rfl ?_
 refine Yy H ?_;refine Qe ?_;refine Qq (fun ms σ w q=>ms=[]∧∃ c:Nat,a / size≤c∧c≤(a+n - 1) / size+1∧q=(a+n - 1) / size+1 - c∧σ 0=pp p∧σ 1 = .int .i64 a∧σ 2 = .int .i64 n∧σ 7 = .int .i64 c∧Q0 w (pts p (row 141 [.slice a1 mem.length k1,.int .i64 size,.slice a2 own.length k2,pp u])::UL (.slice a1 mem.length k1) mem::NL (.slice a2 own.length k2) own::BM u own.length ws many::fr)) (m:=(a+n - 1) / size+1 - a / size) ⟨rfl,a / size,Nat.le_refl _,by omega,rfl,rfl,rfl,rfl,rfl,H⟩ ?_;clear H;rintro ms σ w q ⟨rfl,c,Zn,UC,rfl,g0,g1,g2,g7,H⟩;rw[Q1 g0,Q1 g1,Q1 g2,Q1 g7];refine J9 H ?_;refine I5 H ?_;refine Gm H ?_;rw[Qg (x:=(a:Int)+(n:Int)) (by omega) (by omega),Qg (x:=(a:Int)+(n:Int) - 1) (by omega) (by omega),show (a:Int)+(n:Int) - 1=((a+n - 1:Nat):Int) by omega]
 refine Kh (v := .int .i64 (((a+n - 1) / size:Nat):Int)) (by
  show (if IntKind.i64=IntKind.i64 then (if (size:Int)=0 then none else some _) else none)=_;rw[if_pos rfl,if_neg (by omega),CK (by omega)]) rfl ?_
 refine Yy H ?_;refine Qm rfl (fun h=>QF ?_) (fun h=>Qv ?_)
 ·have QM:c < own.length:=by omega
  have hx:=getElem?_eq_getElem QM;have QB:(own.getD c 0:Nat)≠0:=h3 c Zn (by omega);have hg:own.getD c 0=own[c]:=by simp[QM]
  rw[hg] at QB;generalize own[c]=y at hx QB;replace H:=Js [2,0,0,0] 0 H;obtain⟨b,s,rfl,H,QK⟩:=VX H (by omega);refine DH H ?_;refine Jd ?_;refine Q5 rfl (QA H rfl (U4 hx) rfl ?_);refine J0 H ?_;rw[show ((y:Int) == 0)=false by simp;omega];refine Vf H ?_;replace H:=QK _ _ H;replace H:=Js [1,1,0,0] 0 H;refine Vj H ?_;exact⟨_,⟨rfl,c+1,by omega,by omega,rfl,rfl,rfl,rfl,Qh (by omega),H⟩,by omega⟩
 ·refine Vl H ?_;exact Q3 (Jy (XM QX H) rfl fun w' H'=>⟨rfl,H'⟩)
theorem SN [Q4] (p size:Nat) (mem own:List Nat) (a:Nat) (h2:a < mem.length) (h3:Xw size own a 1) {w:World} {fr:List Q2} (H:Q0 w (ST p size mem own::fr)) :
  Calls Tryz.prog 180 #[pp p,.int .i64 a] w (ret fun v w'=>v = .tuple #[.int .u64 (mem.getD a 0),.int .i64 0]∧Q0 w' (ST p size mem own::fr)):=by
 refine QQ Tryz.func180 rfl (by kernel_rfl) ?_;refine Mc H ?_;refine J9 H ?_;refine Jc rfl rfl (FJ p size mem own a 1 (by decide) (by omega) h3 H) ?_;clear H;rintro v w ⟨rfl,H⟩;refine ZT H ?_;obtain⟨v,v2,u,ws,many,QX,H⟩:=KJ H;have H:=H.swap;obtain⟨a1,c1,rfl⟩:=QI H (GY mem) (by decide);obtain⟨b,s,rfl,H,QK⟩:=VX H (by omega);have hx:=getElem?_eq_getElem h2;have hg:mem.getD a 0=mem[a]:=by simp[h2]
 rw[hg];generalize mem[a]=x at hx;refine VM H ?_;refine Jd ?_;refine Q5 rfl (QA H rfl (NI hx) rfl ?_);refine J4 H ?_;exact Q3 (Jy (XM QX (QK _ _ H).swap) rfl fun w' H'=>⟨rfl,H'⟩)
theorem CR.mem {size:Nat} {mem mem' own ws:List Nat} {many:Nat} (h:CR size mem own ws many) (e:mem'.length=mem.length):CR size mem' own ws many:=⟨h.s1,h.s2,h.c1,h.c2,e.trans h.len,h.many,h.one⟩
theorem Nd [Q4] (p size:Nat) (mem own:List Nat) (a x:Nat) (h2:a < mem.length) (h3:Xw size own a 1) {w:World} {fr:List Q2} (H:Q0 w (ST p size mem own::fr)) :
  Calls Tryz.prog 125 #[pp p,.int .i64 a,.int .u64 x] w (ret fun v w'=>v = .int .i64 0∧Q0 w' (ST p size (mem.set a x) own::fr)):=by
 refine QQ Tryz.func125 rfl (by kernel_rfl) ?_;refine Md H ?_;refine Jc rfl rfl (FJ p size mem own a 1 (by decide) (by omega) h3 H) ?_;clear H;rintro v w ⟨rfl,H⟩;refine ZX H ?_;obtain⟨v,v2,u,ws,many,QX,H⟩:=KJ H;have H:=H.swap;obtain⟨a1,c1,rfl⟩:=QI H (GY mem) (by decide);obtain⟨b,s,rfl,H,_,_,QK⟩:=GJ H (by omega);refine J6 H ?_;refine Qt (fun ms σ w=>ms=[]∧σ 7 = .int .i64 0∧Q0 w (pts b (row 83 (Qi (mem.set a x)++s))::pts p (row 141 [.slice (some ⟨b,0,none⟩) mem.length c1,.int .i64 size,v2,pp u])::NL v2 own::BM u own.length ws many::fr)) ?_ ?_
 ·refine YY rfl ?_;refine XF H ?_;refine Jd ?_;refine Q5 rfl (Zv H rfl rfl inferInstance rfl (by simp only[length_append,GY];omega) rfl ?_);clear H;intro w H;rw[fD (by omega)] at H;refine J2 H ?_;exact⟨rfl,rfl,rfl,H⟩
 ·clear H;rintro ms σ w ⟨rfl,g7,H⟩;rw[Q1 g7];refine J3 H ?_;exact Q3 (Jy (XM (QX.mem (by simp)) (QK _ _ _ (by simp[Qi]) H).swap) rfl fun w' H'=>⟨rfl,H'⟩)
theorem p9 [Q4] (p size:Nat) (mem own:List Nat) (a n:Nat) (h1:1≤n) (h2:a+n≤mem.length) (h3:Xw size own a n) {w:World} {fr:List Q2} (H:Q0 w (ST p size mem own::fr)) :
  Calls Tryz.prog 139 #[pp p,.int .i64 a,.int .i64 a,.int .i64 n] w (ret fun v w'=>v = .int .i64 0∧Q0 w' (ST p size mem own::fr)):=by
 refine QQ Tryz.func139 rfl (by kernel_rfl) ?_;refine eu H ?_;refine Y7 H ?_;refine Jc rfl rfl (FJ p size mem own a n h1 h2 h3 H) ?_;clear H;rintro v w ⟨rfl,H⟩;refine Ev H ?_;refine Jc rfl rfl (FJ p size mem own a n h1 h2 h3 H) ?_;clear H;rintro v w ⟨rfl,H⟩;refine Ai H ?_;refine Yx (fun ms σ w=>ms=[]∧σ 0=pp p∧σ 1 = .int .i64 a∧σ 2 = .int .i64 a∧σ 3 = .int .i64 n∧Q0 w (ST p size mem own::fr)) ?_ ?_
 ·refine Qe ?_;refine Ao H ?_;refine Aj H ?_;refine Ao H ?_;refine DI H ?_;exact .inl ⟨rfl,rfl,rfl,rfl,rfl,rfl,H⟩
 ·clear H;rintro ms σ w ⟨rfl,g0,g1,g2,g3,H⟩;rw[Q1 g0,Q1 g1,Q1 g2,Q1 g3];obtain⟨v,v2,u,ws,many,QX,H⟩:=KJ H;have H:=H.swap;have VR:mem.length≤1048576:=by rw[QX.len];exact Nat.mul_le_mul QX.c2 QX.s2
  obtain⟨a1,c1,rfl⟩:=QI H (GY mem) (by decide)
  rcases XB H with ⟨h,_⟩|⟨b,len,cap',s,h,e3,e4,e5,H⟩
  ·injection h with h4 h5 h6;omega
  injection h with h4 h5 h6
  subst h4 h5 h6
  have Qu:QY (Qi mem++s) (0+a*1) ((a+n - a)*1) (Qi ((mem.drop a).take n)):=by
   have e:(Qi ((mem.drop a).take n)).length=(a+n - a)*1:=by simp[Qi];omega
   rw[← e];refine QY.of_get fun j v hj=>?_;have Zz:j < n:=by have:=(List.getElem?_eq_some_iff.1 hj).1;simp[Qi] at this;omega
   rw[getElem?_append_left (by simp[Qi];omega)];simp only[Qi,getElem?_map,getElem?_take_of_lt Zz,getElem?_drop] at hj;simp only[Qi,getElem?_map,Nat.zero_add,Nat.mul_one];exact hj
  have Vn:(Qi ((mem.drop a).take n)).all (·.oneCell')=true:=all_eq_true.2 fun v hv=>by
   simp only[Qi,mem_map] at hv;obtain⟨x,_,rfl⟩:=hv;rfl
  refine J1 H ?_;clear H;intro w H;refine YN H ?_;refine Jl 3 [18] H ?_;refine KI H ?_;refine Ja 6 ?_;refine Ja 7 ?_;rw[Qg (x:=(a:Int)+(n:Int)) (by omega) (by omega),show (a:Int)+(n:Int)=((a+n:Nat):Int) by omega];refine Ht 8 rfl (Q9.none rfl) rfl rfl rfl (by omega) (by omega) (by omega) (by kernel_rfl) ?_;refine I6 H ?_;refine Jl 12 [18] H ?_;refine Ja 13 ?_;refine Ja 14 ?_;refine Ja 15 ?_;refine Ja 16 ?_;rw[Qg (x:=(a:Int)+(n:Int)) (by omega) (by omega),show (a:Int)+(n:Int)=((a+n:Nat):Int) by omega];refine Ht 17 rfl (Q9.none rfl) rfl rfl rfl (by omega) (by omega) (by omega) (by kernel_rfl) ?_;refine Jo 18 H ?_;refine o5 H rfl rfl Qu (by simp only[length_append,GY];omega) Vn rfl ?_;clear H;intro w H;refine I7 H ?_;exact Q3 (Jy (XM QX (GI e3 e4 e5 H).swap) rfl fun w' H'=>⟨rfl,H'⟩)
def VT (l:List Nat) (a n v:Nat):List Nat:=l.take a++List.replicate n v++l.drop (a+n)
theorem Yh {l:List Nat} {a n v:Nat} (h:a+n≤l.length):(VT l a n v).length=l.length:=by simp[VT];omega
theorem Ue {l:List Nat} {a n v:Nat} (h:a+n≤l.length) (i:Nat):(VT l a n v)[i]? = if a≤i∧i < a+n then some v else l[i]?:=by
 unfold VT;by_cases h1:i < a
 ·rw[if_neg (by omega),append_assoc,getElem?_append_left (by simp;omega),getElem?_take_of_lt h1]
 ·have e1:(l.take a).length=a:=by simp;omega
  rw[append_assoc,getElem?_append_right (by omega),e1];by_cases h2:i < a+n
  ·rw[if_pos (by omega),getElem?_append_left (by simp;omega),getElem?_replicate,if_pos (by omega)]
  ·rw[if_neg (by omega),getElem?_append_right (by simp;omega),getElem?_drop,length_replicate];congr 1;omega
theorem CW {l:List Nat} {a n v:Nat} (h:a+n≤l.length) (i:Nat):(VT l a n v).getD i 0=if a≤i∧i < a+n then v else l.getD i 0:=by
 rw[getD_eq_getElem?_getD,Ue h];split
 ·rfl
 ·rw[getD_eq_getElem?_getD]
theorem Nf {l:List Nat} {a v:Nat}:VT l a 0 v=l:=by simp[VT]
theorem fE {l:List Nat} {a n v:Nat} (h:a+n < l.length):(VT l a n v).set (a+n) v=VT l a (n+1) v:=by
 apply ext_getElem?;intro i;rw[getElem?_set,Ue (by omega),Ue (by omega),Yh (by omega)];by_cases h1:a+n=i
 ·subst h1;rw[if_pos rfl,if_pos (by omega),if_pos (by omega)]
 ·rw[if_neg h1];by_cases h2:a≤i∧i < a+n
  ·rw[if_pos h2,if_pos (by omega)]
  ·rw[if_neg h2,if_neg (by omega)]
theorem SO {size:Nat} {mem own ws:List Nat} {many:Nat} (h:CR size mem own ws many) (XN:own.length≤63):∃ x,ws=[x]∧Gn own.length x∧many=Zi own.length x∧∀ c,c < own.length→x.testBit c=decide (own.getD c 0≠0):=by
 obtain⟨x,h1,h2,h3⟩:=h.one XN;exact⟨x,h1,⟨h.c1,XN,h2⟩,by rw[Nc own x h3];exact h.many,h3⟩
theorem pQ [Q4] (p size:Nat) (mem own:List Nat) (o n:Nat) (XN:own.length≤63) (ho:1≤o) (hn:1≤n) (Gp:n < 1000000) {w:World} {fr:List Q2} [hT:Z6 0 Lib.deBruijn64tab fr] (H:Q0 w (ST p size mem own::fr)) :
  Calls Tryz.prog 134 #[pp p,.int .i64 o,.int .i64 n] w (ret fun v w'=>
   (∃ a:Nat,v = .tuple #[.int .i64 a,.int .i64 0]∧a+n≤own.length∧(∀ i,a≤i→i < a+n→own.getD i 0=0)∧Q0 w' (ST p size (VT mem (a*size) (n*size) 0) (VT own a n o)::fr)) ∨
   (v = .tuple #[.int .i64 0,.int .i64 11]∧(∀ a,a+n≤own.length→∃ i,a≤i∧i < a+n∧own.getD i 0≠0)∧Q0 w' (ST p size mem own::fr))):=by
 obtain⟨v,v2,u,ws,many,QX,H⟩:=KJ H;obtain⟨x,rfl,hb,rfl,hx⟩:=SO QX XN;refine QQ Tryz.func134 rfl (by kernel_rfl) ?_;refine I8 H ?_;refine Yx (fun ms σ w=>ms=[]∧σ 0=pp p∧σ 1 = .int .i64 o∧σ 2 = .int .i64 n∧Q0 w (pts p (row 141 [v,.int .i64 size,v2,pp u])::UL v mem::NL v2 own::GO u own.length x::fr)) ?_ ?_
 ·refine Bx H ?_;refine Y7 H ?_;rw[show decide ((o:Int) < 1)=false from decide_eq_false (by omega)];refine GL H ?_;refine J4 H ?_;rw[show decide ((n:Int) < 1)=false from decide_eq_false (by omega)];refine Vf H ?_;exact .inl ⟨rfl,rfl,rfl,rfl,rfl,H⟩
 ·clear H;rintro ms σ w ⟨rfl,g0,g1,g2,H⟩;rw[Q1 g0,Q1 g1,Q1 g2];refine VM H ?_;replace H:=Js [3,0,0,0] 0 H;refine Jc rfl rfl (p5 u _ x n _ hb hn Gp H) ?_;clear H;rintro r w ⟨hR,H⟩
  rcases hR with ⟨a,rfl,ha,Zw⟩|⟨rfl,VZ⟩
  ·have Qw:=QX.len;have Vn:=QX.s1;have Yo:=QX.s2;have VR:mem.length≤1048576:=by rw[QX.len];exact Nat.mul_le_mul QX.c2 QX.s2
   have Q0b:(a+n)*size≤mem.length:=by rw[Qw];exact Nat.mul_le_mul_right _ ha
   have Q0c:(a+n)*size=a*size+n*size:=Nat.add_mul _ _ _;have p8:1*1≤n*size:=Nat.mul_le_mul hn Vn;refine UA H ?_;refine XF H ?_;refine Jc rfl rfl (fA u _ x a n true hb ha H) ?_;clear H;rintro v w ⟨rfl,H⟩;refine Rd H ?_;obtain⟨a2,c2,rfl⟩:=QI (H.drop.drop.drop) (QJ own) (by decide);refine J6 H ?_;refine Yx (fun ms σ w=>ms=[]∧σ 0=pp p∧σ 2 = .int .i64 n∧σ 8 = .int .i64 a∧Q0 w (NL (.slice a2 own.length c2) (VT own a n o)::pts p (row 141 [v,.int .i64 size,.slice a2 own.length c2,pp u])::UL v mem::GO u own.length (WU x a n true)::fr)) ?_ ?_
   ·refine Qe ?_;replace H:=Js [3,1,1,0] 0 H;refine Qq (fun ms σ w q=>ms=[]∧∃ j:Nat,j≤n∧q=n - j∧σ 0=pp p∧σ 1 = .int .i64 o∧σ 2 = .int .i64 n∧σ 8 = .int .i64 a∧σ 10 = .int .i64 ((a+j:Nat):Int)∧Q0 w (NL (.slice a2 own.length c2) (VT own a j o)::pts p (row 141 [v,.int .i64 size,.slice a2 own.length c2,pp u])::UL v mem::GO u own.length (WU x a n true)::fr)) (m:=n) ⟨rfl,0,by omega,rfl,rfl,rfl,rfl,rfl,rfl,by rw[Nf];exact H⟩ ?_;clear H;rintro ms σ w q ⟨rfl,j,hj,rfl,g0,g1,g2,g8,g10,H⟩;rw[Q1 g0,Q1 g1,Q1 g2,Q1 g8,Q1 g10];refine Al H ?_;rw[Qg (x:=(a:Int)+(n:Int)) (by omega) (by omega)];refine J6 H ?_;refine Qm rfl (fun h=>QF ?_) (fun h=>Qv ?_)
    ·have Q6:j < n:=by omega
     have Wz:=Yh (l:=own) (a:=a) (n:=j) (v:=o) (by omega);obtain⟨b,s,rfl,H,_,_,QK⟩:=GJ H (by omega);refine XE H ?_;refine XF H ?_;refine Jd ?_;refine Q5 rfl (Zv H rfl rfl inferInstance rfl (by simp only[length_append,QJ];omega) rfl ?_);clear H;intro w H;rw[Int.toNat_natCast,Nb (by omega),fE (by omega)] at H;replace H:=QK _ _ _ (by rw[QJ,QJ,Yh (by omega),Yh (by omega)]) H;refine DD H ?_;exact⟨_,⟨rfl,j+1,Q6,rfl,rfl,rfl,rfl,rfl,by rw[show ((a+(j+1):Nat):Int)=((a+j:Nat):Int)+1 by omega];exact Qh (i:=a+j) (by omega),H⟩,by omega⟩
    ·have V2:j=n:=by omega
     subst V2;exact .inl ⟨rfl,rfl,rfl,rfl,rfl,H⟩
   ·clear H;rintro ms σ w ⟨rfl,g0,g2,g8,H⟩;rw[Q1 g0,Q1 g2,Q1 g8];replace H:=Js [2,1,0,0] 0 H;obtain⟨a1,c1,rfl⟩:=QI H (GY mem) (by decide);obtain⟨b,s,rfl,H,Dc,Yw,QK⟩:=GJ H (by omega);refine J1 H ?_;clear H;intro w H;refine YN H ?_;refine Jl 3 [19] H ?_;refine Me H ?_;refine Jl 8 [19] H ?_;refine Mf H ?_;refine Ja 14 ?_;refine Jf 15 ?_;refine Jl 16 [19] H ?_;refine Ja 17 ?_;rw[Qg (x:=(a:Int)+(n:Int)) (by omega) (by omega),show ((a:Int)+(n:Int))*(size:Int)=(((a+n)*size:Nat):Int) by rw[Int.natCast_mul,Int.natCast_add],Qg (x:=(((a+n)*size:Nat):Int)) (by omega) (by omega),← Int.natCast_mul,Qg (x:=((a*size:Nat):Int)) (by omega) (by omega)];refine Ht 18 rfl (Q9.none rfl) rfl rfl rfl (by omega) (by omega) (by omega) (by kernel_rfl) ?_
    have hz:Yl (VK (.int .u64 0)) ((a+n)*size - a*size)=Qi (List.replicate (n*size) 0):=by
     rw[show VK (.int .u64 0)=[.int .u64 0] from rfl,DV,show (a+n)*size - a*size=n*size by omega];simp[Qi]
    refine Jo 19 H ?_;refine nk H rfl (by omega) (by rw[hz];simp only[length_append,GY,length_replicate];omega) rfl rfl ?_;clear H;intro w H;rw[hz] at H
    have hw:wr (Qi mem++s) (0+a*size*1) (Qi (List.replicate (n*size) 0))=Qi (VT mem (a*size) (n*size) 0)++s:=by
     rw[MK _ _ _ (by simp[Qi];omega)];rw[take_append_of_le_length (by simp[Qi];omega),drop_append_of_le_length (by simp[Qi];omega)];simp only[Nat.zero_add,Nat.mul_one,Qi,VT,map_append,map_take,map_drop,length_map,length_replicate,append_assoc]
    rw[hw] at H;replace H:=QK _ _ _ (by simp[Qi,Yh (show a*size+n*size≤mem.length by omega)]) H;refine Jx H ?_;refine Vj H ?_;replace H:=Js [1,0,0,0] 0 H;have Wz:=Yh (l:=own) (v:=o) ha
    have VA:∀ c,c < (VT own a n o).length→(WU x a n true).testBit c=decide ((VT own a n o).getD c 0≠0):=by
     intro c hc;rw[fW,CW ha];split
     ·simp;omega
     ·exact hx c (by omega)
    have pV:=hb.fill (a:=a) (k:=n) (on:=true) ha;refine Q3 (Jy (XM (own:=VT own a n o) (ws:=[WU x a n true]) (many:=Zi own.length (WU x a n true)) ⟨Vn,Yo,by rw[Wz];exact QX.c1,by rw[Wz];exact QX.c2,by rw[Yh (by omega),Wz,Qw],?_,fun _=>⟨_,rfl,by rw[Wz];exact pV.lt,VA⟩⟩ (by rw[Wz];exact H)) rfl fun w' H' => .inl ⟨a,rfl,ha,fun i h1 h2=>?_,H'⟩)
    ·rw[← Wz];exact Nc _ _ VA
    ·have:=hx i (by omega);rw[Zw i h1 h2] at this;simpa using this.symm
  ·refine I9 H ?_;refine G2 H ?_;replace H:=Js [1,1,1,0] 0 H;refine Q3 (Jy (XM QX H) rfl fun w' H' => .inr ⟨rfl,fun a ha=>?_,H'⟩);obtain⟨i,h1,h2,h3⟩:=VZ a ha;refine⟨i,h1,h2,?_⟩;have:=hx i (by omega);rw[h3] at this;simpa using this.symm
def YG (w k:Nat):List Nat:=(List.range k).filter fun i=>w.testBit i
theorem Ng (w k:Nat):YG w (k+1)=YG w k++if w.testBit k then [k] else []:=by
 unfold YG;rw[range_succ,filter_append];congr 1;by_cases h:w.testBit k <;> simp[h]
theorem SS {w k:Nat}:∀ {t:Nat},k≤t→(∀ i,k≤i→i < t→w.testBit i=false)→YG w t=YG w k
 | 0,h,_=>by rw[show k=0 by omega]
 | t+1,h,hh=>by
  by_cases hk:k=t+1
  ·rw[hk]
  ·rw[Ng,hh t (by omega) (by omega),SS (t:=t) (by omega) (fun i h1 h2=>hh i h1 (by omega))];simp
theorem FM (w k:Nat):(YG w k).length≤k:=by
 have:=length_filter_le (fun i=>w.testBit i) (List.range k);simpa [YG] using this
theorem pY {x t:Nat} (ht:x.testBit t=true) (hl:∀ i,i < t→x.testBit i=false):x=2 ^ (t+1)*(x / 2 ^ (t+1))+2 ^ t:=by
 have e:x % 2 ^ (t+1)=2 ^ t:=by
  apply Nat.eq_of_testBit_eq;intro j;rw[Nat.testBit_mod_two_pow,Nat.testBit_two_pow];by_cases h1:j < t
  ·rw[hl j h1];simp;omega
  ·by_cases h2:j=t
   ·subst h2;simp[ht]
   ·have:¬ j < t+1:=by omega
    simp[this];omega
 have:=Nat.div_add_mod x (2 ^ (t+1));omega
theorem pZ {x t:Nat} (ht:x.testBit t=true) (hl:∀ i,i < t→x.testBit i=false) (j:Nat):(x &&& (x - 1)).testBit j=(x.testBit j && decide (j≠t)):=by
 have e:=pY ht hl;have hp:0 < 2 ^ t:=Nat.two_pow_pos t;have Q6:2 ^ t - 1 < 2 ^ (t+1):=by rw[Nat.pow_succ];omega
 have e1:x - 1=2 ^ (t+1)*(x / 2 ^ (t+1))+(2 ^ t - 1):=by omega
 rw[Nat.testBit_and,e1,Nat.testBit_two_pow_mul_add _ Q6,Nat.testBit_two_pow_sub_one];by_cases h1:j < t
 ·rw[hl j h1];simp
 ·by_cases h2:j=t
  ·subst h2;simp
  ·rw[if_neg (by omega),Nat.testBit_div_two_pow,show j - (t+1)+(t+1)=j by omega];simp[h2]
def Rh (l:List Nat) (size:Nat):Prop:=(∀ p∈l,p < size)∧l.Pairwise (· < ·)
instance (l:List Nat) (size:Nat):Decidable (Rh l size):=inferInstanceAs (Decidable (_∧_))
theorem fF {l:List Nat} {x:Nat} (h:l.Pairwise (· < ·)) (hx:∀ y,l.getLast? = some y→y < x):(l++[x]).Pairwise (· < ·):=by
 rw[pairwise_append];refine⟨h,by simp,fun a ha b hb=>?_⟩;simp at hb;subst hb
 obtain⟨y,hy⟩:∃ y,l.getLast? = some y:=by
  cases l with
  | nil=>cases ha
  | cons c l=>exact⟨_,getLast?_eq_some_getLast (by simp)⟩
 have h1:=hx y hy
 have h2:a≤y:=by
  obtain⟨l',rfl⟩:=getLast?_eq_some_iff.1 hy;rw[pairwise_append] at h;simp at ha
  rcases ha with ha|rfl
  ·exact Nat.le_of_lt (h.2.2 a ha y (by simp))
  ·exact Nat.le_refl _
 omega
structure Qb where
 fixed:Nat
 refs:List Nat
 record:Nat
 recs:List Nat
def YU (l:Qb):Prop:=l.fixed≤64∧l.record≤64∧l.fixed+l.record≠0∧Rh l.refs l.fixed∧Rh l.recs l.record
instance (l:Qb):Decidable (YU l):=inferInstanceAs (Decidable (_∧_))
def Vg (l:Qb) (count:Int):Nat×Nat:=
 if count < 0∨count > 1024∨(count > 0∧l.record=0) then (0,3)
 else if l.fixed+count.toNat*l.record≥8192 then (0,10) else (l.fixed+count.toNat*l.record,0)
def Va (l:Qb) (p:Nat):Bool:=if p < l.fixed then decide (p∈l.refs) else decide ((p - l.fixed) % l.record∈l.recs)
def CA (a b c:Nat):Qb:=⟨a % 256,YG b 64,a / 256,YG c 64⟩
def Gq (ws:List Nat):Option Qb:=
 match ws with
 | [a,b,c]=>if a < 65536∧YU (CA a b c) then some (CA a b c) else none
 | _=>none
theorem pG {ws:List Nat} {l:Qb} (h:Gq ws=some l):YU l:=by
 unfold Gq at h;split at h
 ·split at h
  ·rename_i h1;cases h;exact h1.2
  ·cases h
 ·cases h
theorem Sa {l:Qb} {c:Int} {n:Nat} (h:Vg l c=(n,0)):0≤c∧c≤1024∧n=l.fixed+c.toNat*l.record∧n < 8192∧(c > 0→l.record≠0):=by
 unfold Vg at h;split at h
 ·cases h
 ·split at h
  ·cases h
  ·rename_i h1 h2;injection h with h3 h4
   omega
theorem fH [Q4] (v:Value) (l:List Nat) (size:Nat) (hl:l.length≤1000000) {w:World} {fr:List Q2} (hr:Ya fr v l.length 1 (QH l)) (H:Q0 w fr) :
  Calls Tryz.prog 220 #[v,.int .i64 size] w (ret fun x w'=>(∃ b,x = .bool b∧(b=true↔Rh l size))∧Q0 w' fr):=by
 obtain⟨_,ad,cap,rfl,hr⟩:=hr;refine QQ Tryz.func220 rfl (by kernel_rfl) ?_;refine Ei H ?_;refine Qq (fun ms σ w q=>ms=[]∧∃ i:Nat,i≤l.length∧q=l.length - i∧Rh (l.take i) size∧σ 0 = .slice ad l.length cap∧σ 1 = .int .i64 size∧σ 7 = .slice ad l.length cap∧σ 8 = .int .i64 l.length∧σ 9 = .int .i64 i∧Q0 w fr) (m:=l.length) ⟨rfl,0,by omega,rfl,⟨by simp,by simp⟩,rfl,rfl,rfl,rfl,rfl,H⟩ ?_;clear H;rintro ms σ w q ⟨rfl,i,hi,rfl,hR,g0,g1,g7,g8,g9,H⟩;rw[Q1 g0,Q1 g1,Q1 g7,Q1 g8,Q1 g9];refine J7 H ?_;refine Qm rfl (fun h=>QF ?_) (fun h=>Qv ?_)
 ·have Q6:i < l.length:=by omega
  have hx:=getElem?_eq_getElem Q6;have Qj:l.take (i+1)=l.take i++[l[i]]:=by rw[take_add_one,hx];rfl
  have VR:l[i]∈l:=getElem_mem Q6;generalize l[i]=x at hx Qj VR
  rcases hr with hr|⟨b,o,E,fz,c,rfl,hA,Qu⟩
  ·omega
  haveI:=hA
  have B5:c[o+i*1]? = some (.int .i64 x):=by
   rw[Nat.mul_one];exact Qu.get i _ (by simp[QH,hx])
  refine Ek H ?_;refine Jd ?_;refine Q5 rfl (QA H rfl B5 rfl ?_);refine J4 H ?_;refine Y7 H ?_;rw[show decide ((x:Int) < 0)=false from decide_eq_false (by omega)];refine Wq H ?_;refine Jv ?_;by_cases Nh:x < size
  ·rw[show decide ((x:Int)≥(size:Int))=false from decide_eq_false (by omega)];refine Rb H ?_;by_cases pU:0 < i
   ·rw[show decide ((i:Int) > 0)=true from decide_eq_true (by omega)];refine GL H ?_;refine Wq H ?_;rw[Qg (x:=(i:Int) - 1) (by omega) (by omega),show (i:Int) - 1=((i - 1:Nat):Int) by omega];have hy:=getElem?_eq_getElem (l:=l) (i:=i - 1) (by omega)
    have UD:(l.take i).getLast? = some l[i - 1]:=by
     rw[getLast?_eq_getElem?,length_take,Nat.min_eq_left hi,getElem?_take_of_lt (by omega),hy]
    have CG:l.Pairwise (· < ·)→l[i - 1] < x:=fun hp=>by
     have:=pairwise_iff_getElem.1 hp (i - 1) i (by omega) Q6 (by omega)
     have e:l[i]=x:=by
      have:=getElem?_eq_getElem Q6;rw[hx] at this;exact(Option.some.inj this).symm
     omega
    generalize l[i - 1]'(by omega)=y at hy UD CG
    have pX:c[o+(i - 1)*1]? = some (.int .i64 y):=by
     rw[Nat.mul_one];exact Qu.get (i - 1) _ (by simp[QH,hy])
    refine QS rfl rfl rfl (Ut rfl rfl (by omega) (by omega) rfl ?_);refine QS rfl rfl rfl (QA H rfl pX rfl ?_);refine GL H ?_;refine Yy H ?_;refine Qm rfl (fun h=>?_) (fun h=>QF ?_)
    ·refine Vl H ?_
     exact Q3 (Jy H rfl fun w' H'=>⟨⟨false,rfl,by
      constructor
      ·intro h';cases h'
      ·rintro⟨_,h2⟩;have:=CG h2;omega⟩,H'⟩)
    ·refine J3 H ?_;refine⟨_,⟨rfl,i+1,Q6,rfl,?_,rfl,rfl,rfl,rfl,Qh (by omega),H⟩,by omega⟩;rw[Qj];refine⟨fun p hp=>?_,fF hR.2 fun z hz=>?_⟩
     ·simp at hp
      rcases hp with hp|rfl
      ·exact hR.1 p hp
      ·exact Nh
     ·rw[UD] at hz;cases hz;omega
   ·have pK:i=0:=by omega
    subst pK;rw[show decide (((0:Nat):Int) > 0)=false from rfl];refine Zm H ?_;refine IQ H ?_;refine W2 H ?_;refine J3 H ?_;refine⟨_,⟨rfl,1,Q6,rfl,?_,rfl,rfl,rfl,rfl,Qh (i:=0) (by omega),H⟩,by omega⟩;rw[Qj];exact⟨by simpa using Nh,by simp⟩
  ·rw[show decide ((x:Int)≥(size:Int))=true from decide_eq_true (by omega)];refine Mg H ?_;refine By H ?_;refine By H ?_;refine Mh H ?_;refine Kn H ?_
   exact Q3 (Jy H rfl fun w' H'=>⟨⟨false,rfl,by
    constructor
    ·intro h';cases h'
    ·rintro⟨h1,_⟩;have:=h1 x VR;omega⟩,H'⟩)
 ·have V2:i=l.length:=by omega
  subst V2;rw[take_length] at hR;refine Vl H ?_;exact Q3 (Jy H rfl fun w' H'=>⟨⟨true,rfl,by simp[hR]⟩,H'⟩)
@[reducible] def GU (f:Nat) (vr:Value) (r:Nat) (vq:Value):Value := .agg #[.int .i64 f,vr,.int .i64 r,vq]
structure Ks (fr:List Q2) (vr vq:Value) (l:Qb):Prop where
 r:Ya fr vr l.refs.length 1 (QH l.refs)
 q:Ya fr vq l.recs.length 1 (QH l.recs)
theorem Ks.there {A:Q2} {fr:List Q2} {vr vq:Value} {l:Qb} (h:Ks fr vr vq l):Ks (A::fr) vr vq l:=⟨h.r.there,h.q.there⟩
structure Ni (l:Qb):Prop where
 f:l.fixed≤1000000
 r:l.record≤1000000
 a:l.refs.length≤1000000
 b:l.recs.length≤1000000
theorem Sb [Q4] (vr vq:Value) (l:Qb) (hs:Ni l) {w:World} {fr:List Q2} (hr:Ks fr vr vq l) (H:Q0 w fr) :
  Calls Tryz.prog 148 #[GU l.fixed vr l.record vq] w (ret fun x w'=>(∃ b,x = .bool b∧(b=true↔YU l))∧Q0 w' fr):=by
 obtain⟨s1,s2,s3,s4⟩:=hs;obtain⟨ZK,KL⟩:=hr;obtain⟨_,ad1,cap1,rfl,pR⟩:=id ZK;obtain⟨_,ad2,cap2,rfl,pW⟩:=id KL;refine QQ Tryz.func148 rfl (by kernel_rfl) ?_;refine J8 H ?_;clear H;intro b1 w H;refine Yy H ?_;refine Yx (fun ms σ w=>ms=[]∧(l.fixed≤64∧l.record≤64∧l.fixed+l.record≠0)∧σ 1=pp b1∧Q0 w (pts b1 (row 102 [.int .i64 l.fixed,.slice ad1 l.refs.length cap1,.int .i64 l.record,.slice ad2 l.recs.length cap2])::fr)) ?_ ?_
 ·refine Qe ?_;refine Wo H ?_;rw[show decide ((l.fixed:Int) < 0)=false from decide_eq_false (by omega)];refine Eh H ?_;by_cases h1:l.fixed≤64
  ·rw[show decide ((l.fixed:Int) > 64)=false from decide_eq_false (by omega)];refine Aj H ?_;refine Wo H ?_;rw[show decide ((l.record:Int) < 0)=false from decide_eq_false (by omega)];refine Eh H ?_;by_cases h2:l.record≤64
   ·rw[show decide ((l.record:Int) > 64)=false from decide_eq_false (by omega)];refine Aj H ?_;refine Ew H ?_;refine DJ H ?_;refine J0 H ?_;rw[Qg (x:=(l.fixed:Int)+(l.record:Int)) (by omega) (by omega)];by_cases h3:l.fixed+l.record=0
    ·rw[show (((l.fixed:Int)+(l.record:Int)) == 0)=true by simp;omega];refine ZD H ?_;exact Q3 (.inr ⟨by simp,Jy H.drop rfl fun w' H'=>⟨⟨false,rfl,⟨fun h=>(by cases h),fun h=>by unfold YU at h;omega⟩⟩,H'⟩⟩)
    ·rw[show (((l.fixed:Int)+(l.record:Int)) == 0)=false by simp;omega];refine Vf H ?_;exact .inl ⟨rfl,rfl,⟨h1,h2,h3⟩,rfl,H⟩
   ·rw[show decide ((l.record:Int) > 64)=true from decide_eq_true (by omega)];refine Ai H ?_;refine Ws H ?_;refine ZD H ?_;exact Q3 (.inr ⟨by simp,Jy H.drop rfl fun w' H'=>⟨⟨false,rfl,⟨fun h=>(by cases h),fun h=>by unfold YU at h;omega⟩⟩,H'⟩⟩)
  ·rw[show decide ((l.fixed:Int) > 64)=true from decide_eq_true (by omega)];refine Ai H ?_;refine Ws H ?_;refine ZD H ?_;exact Q3 (.inr ⟨by simp,Jy H.drop rfl fun w' H'=>⟨⟨false,rfl,⟨fun h=>(by cases h),fun h=>by unfold YU at h;omega⟩⟩,H'⟩⟩)
 ·clear H;rintro ms σ w ⟨rfl,⟨h1,h2,h3⟩,g1,H⟩;rw[Q1 g1];refine Mi H ?_;refine Jc rfl rfl (fH _ l.refs l.fixed s3 ZK.there H) ?_;clear H;rintro v w ⟨⟨b,rfl,hb⟩,H⟩;refine Jv ?_;cases b with
  | true=>
   refine Ra H ?_;refine Ra H ?_;refine QS rfl rfl rfl (V1 (a:=[]) (b:=[]) rfl rfl (call (fH _ l.recs l.record s4 KL.there H) ?_));clear H;rintro v w ⟨⟨b,rfl,D9⟩,H⟩;refine J4 H ?_;refine Q3 (Jy H.drop rfl fun w' H'=>⟨⟨b,rfl,?_⟩,H'⟩);rw[D9];exact⟨fun h=>⟨h1,h2,h3,hb.1 rfl,h⟩,fun h=>h.2.2.2.2⟩
  | false=>
   refine IV H ?_;refine J4 H ?_;refine Q3 (Jy H.drop rfl fun w' H'=>⟨⟨false,rfl,⟨fun h=>(by cases h),fun h=>?_⟩⟩,H'⟩);have:=hb.2 h.2.2.2.1;cases this
theorem B6:∀ (l:List Nat) (lo size:Nat),(∀ p∈l,lo≤p∧p < size)→l.Pairwise (· < ·)→l.length≤size - lo
 | [],_,_,_,_=>Nat.zero_le _
 | a::l,lo,size,h,hp=>by
  rw[pairwise_cons] at hp;have h1:=B6 l (a+1) size (fun p hx=>⟨hp.1 p hx,(h p (mem_cons_of_mem _ hx)).2⟩) hp.2;have h2:=h a (mem_cons_self ..);simp only[length_cons];omega
theorem Rh.len {l:List Nat} {n:Nat} (h:Rh l n):l.length≤n:=by
 have:=B6 l 0 n (fun p hp=>⟨Nat.zero_le _,h.1 p hp⟩) h.2;omega
theorem YU.small {l:Qb} (h:YU l):Ni l:=by
 obtain⟨h1,h2,_,h4,h5⟩:=h;have:=h4.len;have:=h5.len;exact⟨by omega,by omega,by omega,by omega⟩
def A0:List Fl:=[(0,8),(8,8),(16,48)]
theorem pA:CZ A0:=by
 refine⟨?_,?_⟩
 ·intro f hf;simp[A0] at hf
  rcases hf with rfl|rfl|rfl <;> simp[CY]
 ·simp[A0]
theorem pB [Q4] {w:World} {fr:List Q2} (H:Q0 w fr):Calls Tryz.prog 146 #[] w (ret fun v w'=>Q0 w' (FL v A0::fr)):=by
 refine QQ Tryz.func146 rfl (by kernel_rfl) ?_;refine MF H ?_;refine W3 H ?_;refine Hz H ?_;clear H;intro b4 w H;refine J0 H ?_;exact Q3 (Jy (RN (len:=3) (by rfl) H) rfl fun w' H'=>H')
theorem Iq [Q4] (vr vq:Value) (l:Qb) (hR:YU l) (count:Int) {w:World} {fr:List Q2} (hr:Ks fr vr vq l) (H:Q0 w fr) :
  Calls Tryz.prog 89 #[GU l.fixed vr l.record vq,.int .i64 count] w (ret fun x w'=>x = .tuple #[.int .i64 ((Vg l count).1:Nat),.int .i64 ((Vg l count).2:Nat)]∧Q0 w' fr):=by
 have hf:=hR.1;have hc:=hR.2.1;obtain⟨_,ad1,cap1,rfl,ZK⟩:=id hr.r;obtain⟨_,ad2,cap2,rfl,KL⟩:=id hr.q;refine QQ Tryz.func89 rfl (by kernel_rfl) ?_;refine J8 H ?_;clear H;intro b2 w H;refine Ai H ?_;refine Yx (fun ms σ w=>ms=[]∧(0≤count∧count≤1024∧(count > 0→l.record≠0))∧σ 1 = .int .i64 count∧σ 2=pp b2∧Q0 w (pts b2 (row 102 [.int .i64 l.fixed,.slice ad1 l.refs.length cap1,.int .i64 l.record,.slice ad2 l.recs.length cap2])::fr)) ?_ ?_
 ·refine Qe ?_;refine XD H ?_;refine Jc rfl rfl (Sb _ _ l hR.small hr.there H) ?_;clear H;rintro v w ⟨⟨b,rfl,hb⟩,H⟩;obtain rfl:=hb.2 hR;refine Aj H ?_;refine Y7 H ?_;by_cases c0:count < 0
  ·have hs:Vg l count=(0,3):=by unfold Vg;rw[if_pos (by omega)]
   rw[show decide (count < 0)=true from decide_eq_true (by omega)];refine V5 rfl rfl rfl ?_;refine V5 rfl rfl rfl ?_;refine Mj H ?_;refine Mk H ?_;refine G2 H ?_;exact Q3 (.inr ⟨by simp,Jy H.drop rfl fun w' H'=>⟨by rw[hs];rfl,H'⟩⟩)
  ·rw[show decide (count < 0)=false from decide_eq_false (by omega)];refine GL H ?_;by_cases c1:count > 1024
   ·have hs:Vg l count=(0,3):=by unfold Vg;rw[if_pos (by omega)]
    rw[show decide (count > 1024)=true from decide_eq_true (by omega)];refine Mj H ?_;refine Mk H ?_;refine G2 H ?_;exact Q3 (.inr ⟨by simp,Jy H.drop rfl fun w' H'=>⟨by rw[hs];rfl,H'⟩⟩)
   ·rw[show decide (count > 1024)=false from decide_eq_false (by omega)];refine Jv ?_;refine Jv ?_;refine VG rfl rfl rfl rfl ?_;refine VG rfl rfl rfl rfl ?_;by_cases c2:count > 0
    ·rw[show decide (count > 0)=true from decide_eq_true (by omega)];refine IY H ?_;by_cases c3:l.record=0
     ·have hs:Vg l count=(0,3):=by unfold Vg;rw[if_pos (by omega)]
      rw[show ((l.record:Int) == 0)=true by simp;omega];refine W5 H ?_;refine G2 H ?_;exact Q3 (.inr ⟨by simp,Jy H.drop rfl fun w' H'=>⟨by rw[hs];rfl,H'⟩⟩)
     ·rw[show ((l.record:Int) == 0)=false by simp;omega];refine W5 H ?_;refine Vf H ?_;exact .inl ⟨rfl,rfl,⟨by omega,by omega,fun _=>c3⟩,rfl,rfl,H⟩
    ·rw[show decide (count > 0)=false from decide_eq_false (by omega)];refine Zm H ?_;refine Ap H ?_;refine W5 H ?_;refine Vf H ?_;exact .inl ⟨rfl,rfl,⟨by omega,by omega,fun h=>absurd h c2⟩,rfl,rfl,H⟩
 ·clear H;rintro ms σ w ⟨rfl,⟨c0,c1,c2⟩,g1,g2,H⟩;rw[Q1 g1,Q1 g2];obtain⟨c,rfl⟩:∃ c:Nat,count=c:=⟨count.toNat,by omega⟩;have B7:c*l.record≤1024*64:=Nat.mul_le_mul (by omega) hc;have Sc:(c:Int)*(l.record:Int)=((c*l.record:Nat):Int):=(Int.natCast_mul _ _).symm;refine Wo H ?_;refine DJ H ?_;refine ZX H ?_;rw[Sc,Qg (x:=((c*l.record:Nat):Int)) (by omega) (by omega),Qg (x:=(l.fixed:Int)+((c*l.record:Nat):Int)) (by omega) (by omega)];by_cases c3:l.fixed+c*l.record≥8192
  ·have hs:Vg l (c:Int)=(0,10):=by unfold Vg;rw[if_neg (by omega),if_pos (by simpa using c3)]
   rw[show decide ((l.fixed:Int)+((c*l.record:Nat):Int)≥8192)=true from decide_eq_true (by omega)];refine G2 H ?_;exact Q3 (Jy H.drop rfl fun w' H'=>⟨by rw[hs];rfl,H'⟩)
  ·have hs:Vg l (c:Int)=(l.fixed+c*l.record,0):=by unfold Vg;rw[if_neg (by omega),if_neg (by simpa using c3)];simp
   rw[show decide ((l.fixed:Int)+((c*l.record:Nat):Int)≥8192)=false from decide_eq_false (by omega)];refine Ex H ?_;exact Q3 (Jy H.drop rfl fun w' H'=>⟨by rw[hs];show Value.tuple #[.int .i64 ((l.fixed:Int)+((c*l.record:Nat):Int)),_]=_;rw[← Int.natCast_add];rfl,H'⟩)
theorem Ir [Q4] (v:Value) (l:List Nat) (hl:l.length≤1000000) {w:World} {fr:List Q2} (hr:Ya fr v l.length 1 (QH l)) (H:Q0 w fr) :
  Calls Tryz.prog 118 #[v] w (ret fun x w'=>Q0 w' (NL x l::fr)):=by
 obtain⟨ZK,ad,cap,rfl,Ym⟩:=id hr;refine QQ Tryz.func118 rfl (by kernel_rfl) ?_;refine Bz H ?_;refine Q5 rfl (nb rfl rfl (.inl rfl) rfl ?_);refine J2 H ?_;cases ad with
 | none=>
  have h0:l.length=0:=by
   rcases Ym with h|⟨b,o,E,fz,c,h,_⟩
   ·exact h
   ·cases h
  have hn:l=[]:=eq_nil_of_length_eq_zero h0;subst hn;refine ZD H ?_;exact Q3 (Jy (Zy H) rfl fun w' H'=>H')
 | some ad=>
  refine Vf H ?_;refine Uv H ?_;refine Q5 rfl (ni H rfl ?_);clear H;intro b5 w H;refine Jv ?_;refine Q5 rfl (Pm H rfl rfl hr (by simp[QH,all_eq_true,Value.oneCell']) (by rw[QJ];simp only[length_nil];omega) rfl rfl ?_);clear H;intro v7 w H;refine Ko H ?_;exact Q3 (Jy H rfl fun w' H'=>H')
theorem fI [Q4] (vr vq:Value) (l:Qb) (hs:Ni l) {w:World} {fr:List Q2} (hr:Ks fr vr vq l) (H:Q0 w fr) :
  Calls Tryz.prog 149 #[GU l.fixed vr l.record vq] w (ret fun x w'=>∃ vr' vq',x=GU l.fixed vr' l.record vq'∧Q0 w' (NL vr' l.refs::NL vq' l.recs::fr)):=by
 obtain⟨_,ad1,cap1,rfl,ZK⟩:=id hr.r;obtain⟨_,ad2,cap2,rfl,KL⟩:=id hr.q;refine QQ Tryz.func149 rfl (by kernel_rfl) ?_;refine J8 H ?_;clear H;intro b1 w H;refine VS H ?_;clear H;intro b2 w H;refine J2 H ?_;refine J1 H ?_;clear H;intro w H;refine Jf 0 ?_;refine Jl 1 [2,5,7,9] H ?_;refine Jf 3 ?_;refine Jl 4 [5,7,9] H ?_;refine Jo 2 H ?_;refine Jk rfl rfl (Ir _ l.refs hs.a hr.r.there.there H) ?_;clear H;rintro v5 w H;obtain⟨a5,m5,c5,rfl⟩:=V8 H;refine Jf 6 ?_;refine Jo 5 H ?_;refine Jk rfl rfl (Ir _ l.recs hs.b hr.q.there.there.there H) ?_;clear H;rintro v8 w H;obtain⟨a8,m8,c8,rfl⟩:=V8 H
 refine Jo 7 H ?_;refine KE H ?_;clear H;intro w H;refine Jf 8 ?_;refine Jo 9 H ?_;refine KE H ?_;clear H;intro w H;refine Jx H ?_;refine Ak H ?_;clear H;intro w H;refine J2 H ?_;replace H:=Js [2,1,0] 1 H;exact Q3 (Jz H (fun w' H' => .cellN H' rfl (by repeat first|exact .nil _|apply QY.cons rfl) .nil) fun w' H'=>⟨_,_,rfl,H'.drop⟩)
theorem Is [Q4] (x:Nat) (hx:x < 18446744073709551616) {w:World} {fr:List Q2} [hT:Z6 0 Lib.deBruijn64tab fr] (H:Q0 w fr) :
  Calls Tryz.prog 147 #[.int .u64 x] w (ret fun v w'=>Q0 w' (NL v (YG x 64)::fr)):=by
 refine QQ Tryz.func147 rfl (by kernel_rfl) ?_;refine Py H ?_;refine Qq (fun ms σ w n=>ms=[]∧∃ (k y:Nat) (g:Value),k≤64∧n=64 - k∧y < 18446744073709551616∧(∀ i,y.testBit i=(x.testBit i && decide (k≤i)))∧σ 0 = .int .u64 y∧σ 3=g∧Q0 w (NL g (YG x k)::fr)) (m:=64) ⟨rfl,0,x,_,by omega,rfl,hx,fun i=>by simp,rfl,rfl,Zy H⟩ ?_;clear H;rintro ms σ w n ⟨rfl,k,y,g,hk,rfl,hy,Ud,g0,g3,H⟩;obtain⟨ag,mg,cg,rfl⟩:=V8 H;rw[Q1 g0,Q1 g3];refine J3 H ?_;by_cases h0:y=0
 ·rw[show ((y:Int) != 0)=false by simp;exact h0];refine J6 H ?_;refine Am H ?_
  have he:YG x 64=YG x k:=SS (by omega) (fun i h1 h2=>by
   have:=Ud i;rw[h0,Nat.zero_testBit] at this;simpa [h1] using this.symm)
  rw[← he] at H;refine J3 H ?_;exact Q3 (Jy H rfl fun w' H'=>H')
 ·rw[show ((y:Int) != 0)=true by simp;exact h0];refine J6 H ?_;refine Ws H ?_;obtain⟨Nj,FN,FO⟩:=SD h0 hy;refine Wt H ?_;refine Jc rfl rfl (SE y hy H) ?_;clear H;rintro v w ⟨rfl,H⟩;refine Uw H ?_;clear H;intro b13 w H;generalize Lib.ctz 64 y=t at Nj FN FO H;replace H:=Js [1,0] 0 H;refine Q5 rfl (ZU H rfl rfl (by repeat first|exact .nil _|apply QY.cons rfl) rfl (by decide) (by rw[QJ];have:=FM x k;simp only[length_cons,length_nil];omega) rfl rfl ?_);clear H;intro v14 w H;obtain⟨a14,m14,c14,rfl⟩:=V8 H;refine J0 H ?_;have hb:=Ud t;rw[FN] at hb;have D8:x.testBit t=true∧k≤t:=by simpa using hb.symm
  have QM:=pZ FN FO;have CB:y &&& (y - 1) < 18446744073709551616:=Nat.lt_of_le_of_lt Nat.and_le_left hy;refine Al H ?_
  have e1:IntKind.u64.wrap ((y:Int) - 1)=((y - 1:Nat):Int):=by
   rw[show (y:Int) - 1=((y - 1:Nat):Int) by omega,Kk (by omega)]
  rw[e1,MX hy (by omega)]
  have e2:YG x (t+1)=YG x k++[t]:=by
   rw[Ng,D8.1,if_pos rfl,SS D8.2 (fun i h1 h2=>?_)];have h3:=FO i h2;rw[Ud i] at h3;simpa [h1] using h3
  refine⟨_,⟨rfl,t+1,y &&& (y - 1),_,by omega,rfl,CB,fun i=>?_,rfl,rfl,?_⟩,by omega⟩
  ·rw[QM,Ud i];by_cases h1:i < t
   ·have h3:=FO i h1;rw[Ud i] at h3;rw[h3,show decide (t+1≤i)=false by simp;omega];simp
   ·by_cases h2:i=t
    ·subst h2;simp
    ·rw[show decide (t+1≤i)=true by simp;omega,show decide (k≤i)=true by simp;omega];simp[h2]
  ·rw[e2];show Q0 w (QE _ 1 _ (QH (YG x k++[t]))::_);rw[B4];exact Q0.drop H.swap
end Go.Proofs.YtmjdnljneifpcaaGreatDoor
