/- Cells: what is proved on the way: every input of the statement; no condition. Texts joined: FldA FldB FldC HdrA HdrB BmpA BmpB StoA StoB. -/
import Derived.Test.YtmjdnljneifpcaaGreatDoorBdd
import Derived.Test.YtmjdnljneifpcaaGreatDoorBdc
set_option linter.unusedVariables false
set_option linter.unusedSimpArgs false
set_option linter.unusedSectionVars false
namespace Go.Proofs.YtmjdnljneifpcaaGreatDoor
open Go.SL
@[reducible] def pp (b:Nat):Value := .pointer (some ⟨b,0,none⟩)
theorem QT {x:Int} (h1 : -9223372036854775808≤x) (h2:x≤9223372036854775807):IntKind.i64.wrap x=x:=by
 simp[IntKind.wrap,IntKind.bits,IntKind.signed];omega
theorem Qb {i:Nat} (h:i < 1000000000):Value.int .i64 (IntKind.i64.wrap ((i:Int)+1)) = .int .i64 ((i+1:Nat):Int):=by
 rw[QT (by omega) (by omega)];rfl
abbrev Fl:=Nat×Nat
def RV (f:Fl):Prop:=0 < f.2∧f.1+f.2≤64
@[reducible] def fv (f:Fl):Value := .agg #[.int .i64 f.1,.int .i64 f.2]
def Lo (f:Fl):List Value:=[.int .i64 f.1,.int .i64 f.2]
def AR (l:List Fl):List Value:=l.flatMap Lo
def QP (l:List Nat):List Value:=l.map fun x:Nat=>Value.int .u64 (x:Int)
theorem EG (l:List Fl):(AR l).length=l.length*2:=by
 induction l with
 | nil=>rfl
 | cons p L ih=>simp only[AR,Lo,List.flatMap_cons,List.length_append,List.length_cons,List.length_nil] at ih ⊢;omega
theorem Yw (l:List Nat):(QP l).length=l.length*1:=by simp[QP]
theorem SF (a b:List Nat):QP (a++b)=QP a++QP b:=by simp[QP]
theorem Fv {l:List Nat} {spare:List Value} {i x:Nat} (h:l[i]? = some x):(QP l++spare)[0+i*1]? = some (.int .u64 x):=by
 have hi:=(List.getElem?_eq_some_iff.1 h).1;rw[Nat.zero_add,Nat.mul_one,List.getElem?_append_left (by simpa [QP] using hi)];simp[QP,h]
theorem SH {L:List Fl} {i:Nat} {p:Fl} (h:L[i]? = some p):(AR L)[i*2]? = some (.int .i64 p.1)∧(AR L)[i*2+1]? = some (.int .i64 p.2):=by
 induction L generalizing i with
 | nil=>simp at h
 | cons x L ih=>
  cases i with
  | zero=>
   simp at h;subst h;exact⟨rfl,rfl⟩
  | succ i=>
   have:=ih (i:=i) (by simpa using h);rw[show (i+1)*2=i*2+2 by omega];exact this
theorem Fw {L:List Fl} {spare:List Value} {i:Nat} {p:Fl} (h:L[i]? = some p):QY (AR L++spare) (0+i*2) 2 [.int .i64 p.1,.int .i64 p.2]:=by
 obtain⟨h1,h2⟩:=SH h;have hi:=(List.getElem?_eq_some_iff.1 h).1;have hl:=EG L;rw[Nat.zero_add];refine .cons ?_ (.cons ?_ (.nil _))
 ·rw[List.getElem?_append_left (by omega)];exact h1
 ·rw[List.getElem?_append_left (by omega)];exact h2
@[reducible] def FL (v:Value) (l:List Fl):Q2:=QC 307 2 v (AR l)
@[reducible] def UL (v:Value) (l:List Nat):Q2:=QC 83 1 v (QP l)
theorem Lq [Q4] (f:Fl) (hf:RV f) {w:World} {fr:List Q2} (H:Q0 w fr):Calls Tryz.prog 250 #[fv f] w (ret fun v w'=>v = .bool true∧Q0 w' fr):=by
 obtain⟨a,d⟩:=f;obtain⟨h1,h2⟩:=hf;dsimp only at h1 h2;refine QQ Tryz.func250 rfl (by kernel_rfl) ?_;refine J6 H ?_;clear H;intro b1 w H;refine J0 H ?_;refine Kr H ?_;rw[show decide ((a:Int)≥0)=true from decide_eq_true (by omega)];refine Wm H ?_;rw[show decide ((a:Int) < 64)=true from decide_eq_true (by omega)];refine B9 H ?_;rw[show decide ((d:Int) > 0)=true from decide_eq_true (by omega)];refine YS H ?_;refine Uf H ?_;refine Uf H ?_;refine Zg H ?_;rw[show decide ((d:Int)≤IntKind.i64.wrap (64 - (a:Int)))=true from decide_eq_true (by rw[QT (by omega) (by omega)];omega)];refine J2 H ?_;exact Q3 (Jy H.drop rfl fun w' H'=>⟨rfl,H'⟩)
theorem EU [Q4] (f:Fl) (hf:RV f) {w:World} {fr:List Q2} (H:Q0 w fr):Calls Tryz.prog 218 #[fv f] w (ret fun v w'=>v = .int .u64 (YM f.1 f.2)∧Q0 w' fr):=by
 obtain⟨a,d⟩:=f;obtain⟨h1,h2⟩:=hf;dsimp only at h1 h2;refine QQ Tryz.func218 rfl (by kernel_rfl) ?_;refine J6 H ?_;clear H;intro b1 w H;refine J0 H ?_;have e64:IntKind.i64.wrap (64 - (d:Int))=((64 - d:Nat):Int):=by rw[QT (by omega) (by omega)];omega
 have e1:Ut .u64 18446744073709551615 ((64 - d:Nat):Int)=((2 ^ d - 1:Nat):Int):=by
  rw[show (18446744073709551615:Int)=((18446744073709551615:Nat):Int) from rfl,B2 (by omega) rfl];congr 1;have hp:(18446744073709551615:Nat)=2 ^ d*2 ^ (64 - d) - 1:=by rw[← Nat.pow_add,show d+(64 - d)=64 by omega]
  rw[hp];have hd:=Nat.two_pow_pos (64 - d);have hd2:=Nat.two_pow_pos d
  rw[show 2 ^ d*2 ^ (64 - d) - 1=(2 ^ (64 - d) - 1)+2 ^ (64 - d)*(2 ^ d - 1) by
   rw[Nat.mul_sub,Nat.mul_comm (2 ^ d),Nat.mul_one];have:2 ^ (64 - d)≤2 ^ (64 - d)*2 ^ d:=Nat.le_mul_of_pos_right _ hd2;omega]
  rw[Nat.add_mul_div_left _ _ hd,Nat.div_eq_of_lt (by omega),Nat.zero_add]
 have e2:XD .u64 ((2 ^ d - 1:Nat):Int) (a:Int)=(YM a d:Nat):=by
  rw[Fa (by omega)];have:=B3 (a:=a) (wd:=d) h2;unfold YM at this ⊢;rw[Nat.mod_eq_of_lt this]
 refine J1 H ?_;clear H;intro w H;refine Ks H ?_;rw[e64]
 refine Gb (v := .int .u64 (Ut .u64 18446744073709551615 ((64 - d:Nat):Int))) 3 rfl (Q8.none rfl) (by
  show (if ((64 - d:Nat):Int) < 0 then none else some _)=_;rw[if_neg (by omega)]) (by kernel_rfl) ?_
 rw[e1];refine Kt H ?_
 refine Gb (v := .int .u64 (XD .u64 ((2 ^ d - 1:Nat):Int) (a:Int))) 6 rfl (Q8.none rfl) (by
  show (if (a:Int) < 0 then none else some _)=_;rw[if_neg (by omega)]) (by kernel_rfl) ?_
 rw[e2];refine Ja 7 ?_;refine Jx H ?_;exact Q3 (Jy H.drop rfl fun w' H'=>⟨rfl,H'⟩)
end Go.Proofs.YtmjdnljneifpcaaGreatDoor
namespace Go.Proofs.YtmjdnljneifpcaaGreatDoor
open Go.SL
def RY (fs:List Fl):Prop:=(∀ f∈fs,RV f)∧fs.Pairwise (fun f g=>f.1+f.2≤g.1)
theorem RY.at {fs:List Fl} (h:RY fs) {i:Nat} {f:Fl} (hf:fs[i]? = some f):RV f:=h.1 f (List.mem_of_getElem? hf)
theorem Lr [Q4] (v:Value) (fs:List Fl) (hfs:RY fs) (hl:fs.length≤1000000) {w:World} {fr:List Q2} (H:Q0 w (FL v fs::fr)) :
  Calls Tryz.prog 217 #[v] w (ret fun x w'=>x = .bool true∧Q0 w' (FL v fs::fr)):=by
 obtain⟨a,c,rfl⟩:=QD H (EG fs) (by decide);refine QQ Tryz.func217 rfl (by kernel_rfl) ?_;refine VC H ?_;refine Wn H ?_;refine Qj (fun ms σ w n=>ms=[]∧∃ (i A:Nat),i≤fs.length∧n=fs.length - i∧(∀ f∈fs.drop i,A < 2 ^ f.1)∧σ 3 = .int .u64 A∧σ 6 = .slice a fs.length c∧σ 7 = .int .i64 fs.length∧σ 8 = .int .i64 i∧Q0 w (FL (.slice a fs.length c) fs::fr)) (m:=fs.length) ⟨rfl,0,0,by omega,rfl,fun f _=>Nat.two_pow_pos _,rfl,rfl,rfl,rfl,H⟩ ?_;clear H;rintro ms σ w n ⟨rfl,i,A,hi,rfl,hA,g3,g6,g7,g8,H⟩;rw[Q1 g3,Q1 g6,Q1 g7,Q1 g8];refine J7 H ?_;refine Qf rfl (fun h=>QW ?_) (fun h=>Qp ?_)
 ·have hlt:i < fs.length:=by omega
  have hx:=List.getElem?_eq_getElem hlt;have hdr:fs.drop i=fs[i]::fs.drop (i+1):=List.drop_eq_getElem_cons hlt;have hpw:=hfs.2;rw[← List.take_append_drop i fs,hdr] at hpw;have hpw2:=(List.pairwise_cons.1 (List.pairwise_append.1 hpw).2.1).1;rw[hdr] at hA;generalize fs[i]=f at hx hpw2 hA;have hf:=hfs.at hx;have hAf:=hA f (by simp);have hA64:A < 18446744073709551616:=Nat.lt_of_lt_of_le hAf (Nat.le_trans (Nat.pow_le_pow_right (by decide) (show f.1≤64 by have:=hf.2;omega)) (by decide));have hm64:=B3 (a:=f.1) (wd:=f.2) hf.2
  have hand:YB .and .u64 (A:Int) (YM f.1 f.2:Nat)=0:=by
   rw[Cz hA64 hm64,LP,Nat.div_eq_of_lt hAf];simp
  have hor:YB .or .u64 (A:Int) (YM f.1 f.2:Nat)=((A+YM f.1 f.2:Nat):Int):=by
   rw[LM hA64 hm64];unfold YM;rw[LS hAf]
  obtain⟨b,s,rfl,H,hclose⟩:=Qx H (by omega);refine YY H ?_;refine Jd ?_;refine Q5 rfl (VH H rfl (Fw hx) rfl ?_);refine VZ H ?_;clear H;intro b5 w H;refine J3 H ?_;clear H;intro w H;refine Q6 ?_
  repeat refine Q7 ?_
  refine QG ?_;refine Q5 rfl (VH H rfl (by repeat first|exact .nil _|apply QY.cons rfl) rfl ?_);refine Jc rfl rfl (Lq f hf H) ?_;clear H;rintro v w ⟨rfl,H⟩;refine BQ H ?_;refine Rs H ?_;refine Qe rfl rfl rfl (V2 (a:=[]) (b:=[]) rfl rfl (call (EU f hf H) ?_));clear H;rintro v w ⟨rfl,H⟩;refine VB rfl rfl (v := .int .u64 (YB .and .u64 (A:Int) (YM f.1 f.2:Nat))) rfl rfl ?_;rw[hand];refine Wo H ?_;refine Ge H ?_;refine Jc rfl rfl (EU f hf H) ?_;clear H;rintro v w ⟨rfl,H⟩;refine UQ (v := .int .u64 (YB .or .u64 (A:Int) (YM f.1 f.2:Nat))) rfl rfl ?_;rw[hor];refine YD H ?_;replace H:=hclose _ _ H.drop;refine⟨_,⟨rfl,i+1,A+YM f.1 f.2,hlt,rfl,fun g hg=>?_,rfl,rfl,rfl,Qb (by omega),H⟩,by omega⟩;have h1:=hpw2 g hg
  have h2:A+YM f.1 f.2 < 2 ^ (f.1+f.2):=by
   unfold YM;rw[Nat.pow_add,Nat.sub_mul,Nat.one_mul,Nat.mul_comm (2 ^ f.2)];have:2 ^ f.1≤2 ^ f.1*2 ^ f.2:=Nat.le_mul_of_pos_right _ (Nat.two_pow_pos _);omega
  exact Nat.lt_of_lt_of_le h2 (Nat.pow_le_pow_right (by decide) h1)
 ·refine VC H ?_;exact Q3 (Jy H rfl fun w' H'=>⟨rfl,H'⟩)
def Yq (x:Nat) (f:Fl):Nat:=x / 2 ^ f.1 % 2 ^ f.2
theorem Fx [Q4] (x:Nat) (hx64:x < 18446744073709551616) (v:Value) (fs:List Fl) (hfs:RY fs) (hl:fs.length≤1000) {w:World} {fr:List Q2} (H:Q0 w (FL v fs::fr)) :
  Calls Tryz.prog 145 #[.int .u64 x,v] w (ret fun r w'=>∃ u,r = .tuple #[u,.int .i64 0]∧Q0 w' (UL u (fs.map (Yq x))::FL v fs::fr)):=by
 obtain⟨a,c,rfl⟩:=QD H (EG fs) (by decide);refine QQ Tryz.func145 rfl (by kernel_rfl) ?_;refine D5 H ?_;refine Jc rfl rfl (Lr _ fs hfs (by omega) H) ?_;clear H;rintro v w ⟨rfl,H⟩;refine Y0 H ?_;refine Wn H ?_;refine Qj (fun ms σ w n=>ms=[]∧∃ (i:Nat) (g:Value),i≤fs.length∧n=fs.length - i∧σ 0 = .int .u64 x∧σ 6=g∧σ 12 = .slice a fs.length c∧σ 13 = .int .i64 fs.length∧σ 14 = .int .i64 i∧Q0 w (UL g ((fs.take i).map (Yq x))::FL (.slice a fs.length c) fs::fr)) (m:=fs.length) ⟨rfl,0,_,by omega,rfl,rfl,rfl,rfl,rfl,rfl,Yu H⟩ ?_;clear H;rintro ms σ w n ⟨rfl,i,g,hi,rfl,g0,g6,g12,g13,g14,H⟩;obtain⟨ag,cg,rfl⟩:=QD H (Yw _) (by decide);rw[Q1 g0,Q1 g6,Q1 g12,Q1 g13,Q1 g14];refine J7 H ?_;refine Qf rfl (fun h=>QW ?_) (fun h=>Qp ?_)
 ·have hlt:i < fs.length:=by omega
  have hx:=List.getElem?_eq_getElem hlt;generalize fs[i]=f at hx;have hf:=hfs.at hx;have hm64:=B3 (a:=f.1) (wd:=f.2) hf.2;have hf1:f.1 < 64:=by have:=hf.1;have:=hf.2;omega
  have hsh:Ut .u64 (YB .and .u64 (x:Int) (YM f.1 f.2:Nat)) (f.1:Int)=(Yq x f:Nat):=by
   rw[Cz hx64 hm64,B2 hf1 rfl,Pm];rfl
  replace H:=Js [1,0] 0 H;obtain⟨b,s,rfl,H,hclose⟩:=Qx H (by omega);refine YY H ?_;refine Jd ?_;refine Q5 rfl (VH H rfl (Fw hx) rfl ?_);refine VZ H ?_;clear H;intro b8 w H;refine J3 H ?_;clear H;intro w H;refine Q6 ?_;replace H:=hclose _ _ H.swap;replace H:=Js [2,1,0] 0 H;refine J1 H ?_;clear H;intro w H;refine Ja 0 ?_;refine Ja 1 ?_;refine VM 2 [3,8,9] H rfl (Q8.none rfl) rfl (by repeat first|exact .nil _|apply QY.cons rfl) (by kernel_rfl) ?_;refine Jf 5 ?_;refine Jl 6 [8,9] H ?_;refine Jo 3 H ?_;refine Jk rfl rfl (EU f hf H) ?_;clear H;rintro v w ⟨rfl,H⟩;refine Gb (v := .int .u64 (YB .and .u64 (x:Int) (YM f.1 f.2:Nat))) 4 rfl (Q8.none rfl) rfl (by kernel_rfl) ?_
  refine Gb (v := .int .u64 (Ut .u64 (YB .and .u64 (x:Int) (YM f.1 f.2:Nat)) (f.1:Int))) 7 rfl (Q8.none rfl) (by
   show (if (f.1:Int) < 0 then none else some _)=_;rw[if_neg (by omega)]) (by kernel_rfl) ?_
  rw[hsh];refine Jo 8 H ?_;refine Rt H ?_;clear H;intro b26 w H;replace H:=Js [1,0,1] 1 H;refine Jo 9 H ?_;refine YC H rfl rfl (by repeat first|exact .nil _|apply QY.cons rfl) rfl (by decide) (by rw[Yw,List.length_map,List.length_take];simp only[List.length_cons,List.length_nil];omega) rfl rfl ?_;clear H;intro v27 w H;obtain⟨a27,m27,c27,rfl⟩:=Qq H;refine Ja 10 ?_;refine D6 H ?_;replace H:=Js [0,1] 1 H;refine⟨_,⟨rfl,i+1,_,hlt,rfl,rfl,rfl,rfl,rfl,Qb (by omega),?_⟩,by omega⟩
  have ht:(fs.take (i+1)).map (Yq x)=(fs.take i).map (Yq x)++[Yq x f]:=by
   rw[List.take_add_one,hx,List.map_append];rfl
  rw[ht];show Q0 w (QC _ 1 _ (QP ((fs.take i).map (Yq x)++[Yq x f]))::_);rw[SF];exact H
 ·have hge:i=fs.length:=by omega
  subst hge;rw[List.take_length] at H;refine V8 H ?_;exact Q3 (Y4 (vs:=[.slice ag (List.map (Yq x) fs).length cg,.int .i64 0]) _ (.inr rfl) H (by rw[List.take_length];rfl) fun w' H'=>⟨_,rfl,H'⟩)
end Go.Proofs.YtmjdnljneifpcaaGreatDoor
namespace Go.Proofs.YtmjdnljneifpcaaGreatDoor
open Go.SL
theorem Ls:∀ (f x:Nat),Lib.bitLenAux f x≤f
 | 0,_=>Nat.le_refl _
 | f+1,x=>by
  unfold Lib.bitLenAux;split
  ·omega
  ·have:=Ls f (x / 2);omega
theorem SI {x k:Nat} (h:x < 2 ^ k) (hk:k≤64):Lib.bitLen x≤k:=by
 unfold Lib.bitLen;rw[Lib.bitLenAux_fuel k x h 64 hk];exact Ls k x
theorem SJ [Q4] (x:Nat) (hx:x < 18446744073709551616) {w:World} {fr:List Q2} (H:Q0 w fr):Calls Tryz.prog 197 #[.int .u64 x] w (ret fun v w'=>v = .int .i64 (Lib.bitLen x)∧Q0 w' fr):=by
 refine(Any.bits_Len64 Tryz.laysLen (x:Int) w (by omega) (by omega)).mono ?_;rintro e w' ⟨rfl,rfl⟩;exact⟨by rw[Int.toNat_natCast],H⟩
theorem EK {k:Nat} (h:k≤64):2 ^ k≤18446744073709551616:=Nat.le_trans (Nat.pow_le_pow_right (by decide) h) (by decide)
theorem SM [Q4] (x:Nat) (f:Fl) (y:Nat) (hf:RV f) (hx:x < 2 ^ f.1) (hy:y < 2 ^ f.2) {w:World} {fr:List Q2} (H:Q0 w fr) :
  Calls Tryz.prog 247 #[.int .u64 x,fv f,.int .u64 y] w (ret fun v w'=>v = .tuple #[.int .u64 ((x+y*2 ^ f.1:Nat):Int),.int .i64 0]∧Q0 w' fr):=by
 have h1:=hf.1;have h2:=hf.2;have hx64:x < 18446744073709551616:=Nat.lt_of_lt_of_le hx (EK (by omega));have hy64:y < 18446744073709551616:=Nat.lt_of_lt_of_le hy (EK (by omega));have hm64:=B3 (a:=f.1) (wd:=f.2) hf.2;have hbl:=SI hy (by omega);have e1:YB .andNot .u64 (x:Int) (YM f.1 f.2:Nat)=(x:Nat):=by rw[Pk hx64 hm64,Pn hx hf.2]
 have hyy:y*2 ^ f.1 < 18446744073709551616:=by
  have:y*2 ^ f.1 < 2 ^ f.2*2 ^ f.1:=(Nat.mul_lt_mul_right (Nat.two_pow_pos _)).2 hy;rw[← Nat.pow_add] at this;exact Nat.lt_of_lt_of_le this (EK (by omega))
 have e2:XD .u64 (y:Int) (f.1:Int)=((y*2 ^ f.1:Nat):Int):=by rw[Fa (by omega),Nat.mod_eq_of_lt hyy]
 have e3:YB .or .u64 (x:Int) ((y*2 ^ f.1:Nat):Int)=((x+y*2 ^ f.1:Nat):Int):=by rw[LM hx64 hyy,LS hx]
 obtain⟨a,d⟩:=f;dsimp only at h1 h2 hx hy hm64 hbl e1 e2 e3 hyy;refine QQ Tryz.func247 rfl (by kernel_rfl) ?_;refine J6 H ?_;clear H;intro b4 w H;refine K2 H ?_;refine Qn (fun ms σ w=>ms=[]∧σ 0 = .int .u64 x∧σ 2 = .int .u64 y∧σ 4=pp b4∧Q0 w (pts b4 (row 307 [.int .i64 a,.int .i64 d])::fr)) ?_ ?_
 ·refine QS ?_;refine GQ H ?_;refine Jc rfl rfl (Lq (a,d) hf H) ?_;clear H;rintro v w ⟨rfl,H⟩;refine K3 H ?_;refine J1 H ?_;clear H;intro w H;refine Ja 0 ?_;refine Jf 2 ?_;refine Jl 3 [] H ?_;refine Jo 1 H ?_;refine Jk rfl rfl (SJ y hy64 H) ?_;clear H;rintro v w ⟨rfl,H⟩;refine Ja 4 ?_;rw[show decide (((Lib.bitLen y:Nat):Int) > (d:Int))=false from decide_eq_false (by omega)];refine Ja 5 ?_;refine Jx H ?_;refine V5 H ?_;exact⟨rfl,rfl,rfl,rfl,rfl,H⟩
 ·clear H;rintro ms σ w ⟨rfl,g0,g2,g4,H⟩;rw[Q1 g0,Q1 g2,Q1 g4];refine J1 H ?_;clear H;intro w H;refine Ja 0 ?_;refine VM 1 [2] H rfl (Q8.none rfl) rfl (by repeat first|exact .nil _|apply QY.cons rfl) (by kernel_rfl) ?_;refine Ja 4 ?_;refine Jf 5 ?_;refine Jl 6 [] H ?_
  refine Gb (v := .int .u64 (XD .u64 (y:Int) (a:Int))) 7 rfl (Q8.none rfl) (by
   show (if (a:Int) < 0 then none else some _)=_;rw[if_neg (by omega)]) (by kernel_rfl) ?_
  rw[e2];refine Jo 2 H ?_;refine Jk rfl rfl (EU (a,d) hf H) ?_;clear H;rintro v w ⟨rfl,H⟩;refine Gb (v := .int .u64 (YB .andNot .u64 (x:Int) (YM a d:Nat))) 3 rfl (Q8.none rfl) rfl (by kernel_rfl) ?_;rw[e1];refine Gb (v := .int .u64 (YB .or .u64 (x:Int) ((y*2 ^ a:Nat):Int))) 8 rfl (Q8.none rfl) rfl (by kernel_rfl) ?_;rw[e3];refine Ja 9 ?_;refine Ja 10 ?_;refine Jx H ?_;exact Q3 (Jy H.drop rfl fun w' H'=>⟨rfl,H'⟩)
def Zv:List Fl→List Nat→Nat
 | f::fs,x::xs=>x*2 ^ f.1+Zv fs xs
 | _,_=>0
theorem Lt:∀ (fs:List Fl) (xs:List Nat) (f:Fl) (x:Nat),fs.length=xs.length→Zv (fs++[f]) (xs++[x])=Zv fs xs+x*2 ^ f.1
 | [],[],f,x,_=>by simp[Zv]
 | [],_::_,_,_,h=>by simp at h
 | _::_,[],_,_,h=>by simp at h
 | g::fs,y::xs,f,x,h=>by
  have ih:=Lt fs xs f x (by simpa using h);show y*2 ^ g.1+Zv (fs++[f]) (xs++[x])=y*2 ^ g.1+Zv fs xs+x*2 ^ f.1;rw[ih];omega
theorem ER [Q4] (vf vx:Value) (fs:List Fl) (xs:List Nat) (hfs:RY fs) (hl:fs.length≤1000) (hlen:fs.length=xs.length) (hb:∀ (i:Nat) (f:Fl) (x:Nat),fs[i]? = some f→xs[i]? = some x→x < 2 ^ f.2) {w:World} {fr:List Q2} (H:Q0 w (FL vf fs::UL vx xs::fr)) :
  Calls Tryz.prog 206 #[vf,vx] w (ret fun v w'=>v = .tuple #[.int .u64 (Zv fs xs),.int .i64 0]∧Q0 w' (FL vf fs::UL vx xs::fr)):=by
 obtain⟨a,c,rfl⟩:=QD H (EG fs) (by decide);obtain⟨a1,c1,rfl⟩:=QD H.drop (Yw xs) (by decide);refine QQ Tryz.func206 rfl (by kernel_rfl) ?_;refine D5 H ?_;refine D7 H ?_;refine D7 H ?_;rw[show ((fs.length:Int) != (xs.length:Int))=false by rw[hlen];simp];refine Wp H ?_;refine Qe rfl rfl rfl (V2 (a:=[]) (b:=[]) rfl rfl (call (Lr _ fs hfs (by omega) H) ?_));clear H;rintro v w ⟨rfl,H⟩;refine Wo H ?_;refine Wn H ?_;refine Qj (fun ms σ w n=>ms=[]∧∃ i:Nat,i≤fs.length∧n=fs.length - i∧(∀ f∈fs.drop i,Zv (fs.take i) (xs.take i) < 2 ^ f.1)∧σ 1 = .slice a1 xs.length c1∧σ 6 = .int .u64 (Zv (fs.take i) (xs.take i))∧σ 20 = .slice a fs.length c∧σ 21 = .int .i64 fs.length∧σ 22 = .int .i64 i∧Q0 w (FL (.slice a fs.length c) fs::UL (.slice a1 xs.length c1) xs::fr)) (m:=fs.length) ⟨rfl,0,by omega,rfl,fun f _=>by simp only[List.take_zero,Zv];exact Nat.two_pow_pos _,rfl,rfl,rfl,rfl,rfl,H⟩ ?_;clear H;rintro ms σ w n ⟨rfl,i,hi,rfl,hW,g1,g6,g20,g21,g22,H⟩;rw[Q1 g1,Q1 g6,Q1 g20,Q1 g21,Q1 g22];refine J7 H ?_;refine Qf rfl (fun h=>QW ?_) (fun h=>Qp ?_)
 ·have hlt:i < fs.length:=by omega
  have hx:=List.getElem?_eq_getElem hlt;have hy:=List.getElem?_eq_getElem (l:=xs) (i:=i) (by omega);have hdr:fs.drop i=fs[i]::fs.drop (i+1):=List.drop_eq_getElem_cons hlt;have hpw:=hfs.2;rw[← List.take_append_drop i fs,hdr] at hpw;have hpw2:=(List.pairwise_cons.1 (List.pairwise_append.1 hpw).2.1).1;rw[hdr] at hW;generalize fs[i]=f at hx hpw2 hW;generalize xs[i]'(by omega)=y at hy;have hf:=hfs.at hx;have hWf:=hW f (by simp);have hyb:=hb i f y hx hy
  have hsn:Zv (fs.take (i+1)) (xs.take (i+1))=Zv (fs.take i) (xs.take i)+y*2 ^ f.1:=by
   rw[List.take_add_one,List.take_add_one,hx,hy];exact Lt _ _ f y (by rw[List.length_take,List.length_take,hlen])
  obtain⟨b,s,rfl,H,hclose⟩:=Qx H (by omega);obtain⟨b2,s2,rfl,H,hclose2⟩:=Qx H.swap (by omega);refine BV H ?_;refine Jd ?_;refine Q5 rfl (VH H rfl (Fw hx) rfl ?_);refine VZ H ?_;clear H;intro b8 w H;refine D8 H ?_;clear H;intro w H;refine Q6 ?_;refine J7 H ?_;refine Kn H mixed ?_;clear H;intro w H;refine Ja 0 ?_;refine VM 1 [6] H rfl (Q8.none rfl) rfl (by repeat first|exact .nil _|apply QY.cons rfl) (by kernel_rfl) ?_;refine Ja 2 ?_;refine Ja 3 ?_;refine Ji 4 ?_;refine Vf 5 [6] H rfl (Q8.none rfl) rfl (Fv hy) (by kernel_rfl) ?_
  refine Jo 6 H ?_;refine Jk rfl rfl (SM _ f y hf hWf hyb H) ?_;clear H;rintro v w ⟨rfl,H⟩;refine UZ H ?_;refine Gu H ?_;refine J4 H ?_;replace H:=Js [1,1] 1 H;replace H:=hclose2 _ _ H;replace H:=hclose _ _ H.swap;refine⟨_,⟨rfl,i+1,hlt,rfl,fun g hg=>?_,rfl,?_,rfl,rfl,Qb (by omega),H⟩,by omega⟩
  ·have h1:=hpw2 g hg;rw[hsn]
   have h2:Zv (fs.take i) (xs.take i)+y*2 ^ f.1 < 2 ^ (f.1+f.2):=by
    rw[Nat.pow_add];have:(y+1)*2 ^ f.1≤2 ^ f.2*2 ^ f.1:=Nat.mul_le_mul_right _ hyb;rw[Nat.add_mul,Nat.one_mul] at this;rw[Nat.mul_comm (2 ^ f.1)];omega
   exact Nat.lt_of_lt_of_le h2 (Nat.pow_le_pow_right (by decide) h1)
  ·rw[hsn];rfl
 ·have hge:i=fs.length:=by omega
  subst hge;refine V8 H ?_;refine Q3 (Jy H rfl fun w' H'=>⟨?_,H'⟩);have e:xs.take fs.length=xs:=by rw[hlen,List.take_length]
  rw[List.take_length,e];rfl
end Go.Proofs.YtmjdnljneifpcaaGreatDoor
namespace Go.Proofs.YtmjdnljneifpcaaGreatDoor
open Go.SL
def UR:List Fl:=[(0,16),(16,16),(32,8),(40,16),(56,8)]
def UW:List Fl:=[(0,32),(32,32)]
theorem Fy:RY UR:=⟨by simp[UR,RV],by simp[UR]⟩
theorem Fz:RY UW:=⟨by simp[UW,RV],by simp[UW]⟩
theorem H0 [Q4] {w:World} {fr:List Q2} (H:Q0 w fr):Calls Tryz.prog 223 #[] w (ret fun v w'=>Q0 w' (FL v UR::fr)):=by
 refine QQ Tryz.func223 rfl (by kernel_rfl) ?_;refine D9 H ?_;refine Gv H ?_;refine Gv H ?_;refine Gv H ?_;refine BY H ?_;clear H;intro b6 w H;refine J0 H ?_;exact Q3 (Jy (Ue (by decide) H) rfl fun w' H'=>H')
theorem H8 [Q4] {w:World} {fr:List Q2} (H:Q0 w fr):Calls Tryz.prog 207 #[] w (ret fun v w'=>Q0 w' (FL v UW::fr)):=by
 refine QQ Tryz.func207 rfl (by kernel_rfl) ?_;refine D9 H ?_;refine BY H ?_;clear H;intro b3 w H;refine J0 H ?_;exact Q3 (Jy (Ue (by decide) H) rfl fun w' H'=>H')
def Xh (l c s:Nat):Prop:=1≤l∧l≤64∧c≤1024∧s < 4096
@[reducible] def RZ (l c s:Nat):Value := .agg #[.int .i64 l,.int .i64 c,.int .i64 s]
theorem Lu [Q4] (l c s:Nat) (h:Xh l c s) {w:World} {fr:List Q2} (H:Q0 w fr):Calls Tryz.prog 222 #[RZ l c s] w (ret fun v w'=>v = .bool true∧Q0 w' fr):=by
 obtain⟨h1,h2,h3,h4⟩:=h;refine QQ Tryz.func222 rfl (by kernel_rfl) ?_;refine J6 H ?_;clear H;intro b1 w H;refine Ru H ?_;refine YS H ?_;rw[show decide ((l:Int)≥1)=true from decide_eq_true (by omega)];refine Gw H ?_;refine Jv ?_;rw[show decide ((l:Int)≤64)=true from decide_eq_true (by omega)];refine Wq H ?_;rw[show decide ((c:Int)≥0)=true from decide_eq_true (by omega)];refine Wq H ?_;rw[show decide ((c:Int)≤1024)=true from decide_eq_true (by omega)];refine Wq H ?_;rw[show decide ((s:Int)≥0)=true from decide_eq_true (by omega)];refine Wq H ?_;rw[show decide ((s:Int) < 4096)=true from decide_eq_true (by omega)];refine J0 H ?_;exact Q3 (Jy H.drop rfl fun w' H'=>⟨rfl,H'⟩)
def Zw (l c s:Nat):Nat:=Zv UR [s,c,l,0,165]
theorem Lv (l c s:Nat):Zw l c s=s+c*65536+l*4294967296+165*72057594037927936:=by
 simp[Zw,Zv,UR];omega
theorem SN {l c s:Nat} (h:Xh l c s):Zw l c s < 18446744073709551616:=by
 obtain⟨h1,h2,h3,h4⟩:=h;rw[Lv];omega
theorem SO [Q4] (l c s:Nat) (h:Xh l c s) {w:World} {fr:List Q2} (H:Q0 w fr):Calls Tryz.prog 152 #[RZ l c s] w (ret fun v w'=>v = .tuple #[.int .u64 (Zw l c s),.int .i64 0]∧Q0 w' fr):=by
 have h':=h;obtain⟨h1,h2,h3,h4⟩:=h';refine QQ Tryz.func152 rfl (by kernel_rfl) ?_;refine J6 H ?_;clear H;intro b1 w H;refine J2 H ?_;refine GQ H ?_;refine Jc rfl rfl (Lu l c s h H) ?_;clear H;rintro v w ⟨rfl,H⟩;refine Y0 H ?_;refine J1 H ?_;clear H;intro w H;refine Jf 1 ?_;refine Jl 2 [10,11] H ?_;refine DQ H ?_;refine Jf 4 ?_;refine Jl 5 [10,11] H ?_;refine Gt 6 rfl (Q8.none rfl) rfl (by kernel_rfl) ?_;refine Jf 7 ?_;refine Jl 8 [10,11] H ?_;refine Gt 9 rfl (Q8.none rfl) rfl (by kernel_rfl) ?_;rw[UY (a:=l) (by omega),UY (a:=c) (by omega),UY (a:=s) (by omega)];refine Jw 0 10 H rfl rfl (V2 (a:=[]) (b:=[]) rfl rfl (call (H0 H) ?_)) (Km H rfl rfl rfl ?_)
 ·clear H;intro v16 w H;obtain⟨a16,m16,c16,rfl⟩:=Qq H;refine Jo 10 H ?_;refine Rt H ?_;clear H;intro b17 w H;replace H:=Q0.swap (Ue (len:=5) (k:=1) rfl H)
  refine Aw 11 rfl (by kernel_rfl) (by repeat first|exact .nil|refine .cons (.inr H.at) ?_|refine .cons (.inr H.mp) ?_|refine .cons (.inl (by kernel_rfl)) ?_) (Q8.none rfl) (V2 (a:=[]) (b:=[]) rfl rfl (call (ER _ _ UR [s,c,l,0,165] Fy (by decide) rfl (fun i f x hf hx=>by
     rcases i with _|_|_|_|_|i <;> simp[UR] at hf hx <;> subst hf hx <;> simp <;> omega) H) ?_))
  clear H;rintro v w ⟨rfl,H⟩;refine BZ H ?_;exact Q3 (Jy H.drop.drop.drop rfl fun w' H'=>⟨rfl,H'⟩)
 ·clear H;intro b17 w H;refine Jo 0 H ?_;refine Jk rfl rfl (H0 H) ?_;clear H;intro v16 w H;obtain⟨a16,m16,c16,rfl⟩:=Qq H;replace H:=Q0.swap (Ue (len:=5) (k:=1) rfl H.swap)
  refine Aw 11 rfl (by kernel_rfl) (by repeat first|exact .nil|refine .cons (.inr H.at) ?_|refine .cons (.inr H.mp) ?_|refine .cons (.inl (by kernel_rfl)) ?_) (Q8.none rfl) (V2 (a:=[]) (b:=[]) rfl rfl (call (ER _ _ UR [s,c,l,0,165] Fy (by decide) rfl (fun i f x hf hx=>by
     rcases i with _|_|_|_|_|i <;> simp[UR] at hf hx <;> subst hf hx <;> simp <;> omega) H) ?_))
  clear H;rintro v w ⟨rfl,H⟩;refine BZ H ?_;exact Q3 (Jy H.drop.drop.drop rfl fun w' H'=>⟨rfl,H'⟩)
theorem SS {l c s:Nat} (h:Xh l c s):UR.map (Yq (Zw l c s))=[s,c,l,0,165]:=by
 obtain⟨h1,h2,h3,h4⟩:=h;simp only[UR,List.map_cons,List.map_nil,Yq,Lv,Nat.reducePow];have e1:(s+c*65536+l*4294967296+165*72057594037927936) / 1 % 65536=s:=by omega
 have e2:(s+c*65536+l*4294967296+165*72057594037927936) / 65536 % 65536=c:=by omega
 have e3:(s+c*65536+l*4294967296+165*72057594037927936) / 4294967296 % 256=l:=by omega
 have e4:(s+c*65536+l*4294967296+165*72057594037927936) / 1099511627776 % 65536=0:=by omega
 have e5:(s+c*65536+l*4294967296+165*72057594037927936) / 72057594037927936 % 256=165:=by omega
 rw[e1,e2,e3,e4,e5]
theorem Sa [Q4] (l c s:Nat) (h:Xh l c s) {w:World} {fr:List Q2} (H:Q0 w fr):Calls Tryz.prog 183 #[.int .u64 (Zw l c s)] w (ret fun v w'=>v = .tuple #[RZ l c s,.int .i64 0]∧Q0 w' fr):=by
 have h':=h;obtain⟨h1,h2,h3,h4⟩:=h';refine QQ Tryz.func183 rfl (by kernel_rfl) ?_;refine YO H ?_;clear H;intro b2 w H;refine DV H ?_;refine Jc rfl rfl (H0 H) ?_;clear H;intro v9 w H
 refine Jc rfl rfl (Fx _ (SN h) v9 UR Fy (by decide) H) ?_;clear H;rintro v w ⟨u,rfl,H⟩;rw[SS h] at H;obtain⟨au,cu,rfl⟩:=QD (m:=5) H rfl (by decide);obtain⟨bu,su,rfl,H,hclose⟩:=Qx H (by decide);refine DY H ?_;clear H;intro w H;refine Ja 0 ?_;refine Ji 1 ?_;refine Jl 2 [14] H ?_;refine DQ H ?_;refine Ja 4 ?_;refine Ji 5 ?_;refine Jl 6 [14] H ?_;refine Gt 7 rfl (Q8.none rfl) rfl (by kernel_rfl) ?_;refine Ja 8 ?_;refine Ji 9 ?_;refine Jl 10 [14] H ?_;refine Gt 11 rfl (Q8.none rfl) rfl (by kernel_rfl) ?_;refine G9 12 rfl (Q8.none rfl) rfl (by kernel_rfl) ?_;rw[K1 (a:=l) (by omega),K1 (a:=c) (by omega),K1 (a:=s) (by omega)];refine Jo 13 H ?_;refine Vu H rfl ?_;clear H;intro b6 w H
 refine Jo 14 H ?_;refine Gx H ?_;clear H;intro w H;refine Jx H ?_;refine YZ H ?_;refine Jd ?_;refine K4 H ?_;refine BQ H ?_;refine Qe rfl rfl rfl (Gs rfl rfl (by omega) (by omega) rfl ?_);refine Qe rfl rfl rfl (QA H rfl rfl rfl ?_);refine Yp H ?_;refine YS H ?_;refine Rs H ?_;refine Qe rfl rfl rfl (V2 (a:=[]) (b:=[]) rfl rfl (call (Lu l c s h H) ?_));clear H;rintro v w ⟨rfl,H⟩;refine Wo H ?_;refine K5 H ?_;clear H;intro w H;refine J0 H ?_;refine Q3 (B1 (vs:=[RZ l c s,.int .i64 0]) _ (.inr rfl) H (fun w' H' => .cellN H' rfl (by repeat first|exact .nil _|apply QY.cons rfl) (.tmp .nil)) fun w' H'=>⟨rfl,H'.drop.drop.drop.drop⟩)
end Go.Proofs.YtmjdnljneifpcaaGreatDoor
namespace Go.Proofs.YtmjdnljneifpcaaGreatDoor
open Go.SL
inductive Vw where
 | none
 | grave
 | obj (i g:Nat)
 deriving DecidableEq
@[reducible] def X8 (i g:Nat):Value := .agg #[.int .i64 i,.int .i64 g]
@[reducible] def ZA:Vw→Value
 | .none => .agg #[.int .i64 0,.int .i64 0,.int .i64 0]
 | .grave => .agg #[.int .i64 1,.int .i64 0,.int .i64 0]
 | .obj i g => .agg #[.int .i64 2,.int .i64 i,.int .i64 g]
def Bs (i g:Nat):Prop:=i < 4096∧1≤g∧g≤255
def GK:Vw→Prop
 | .obj i g=>Bs i g
 | _=>True
def V9:Vw→Nat
 | .none=>0
 | .grave=>1
 | .obj i g=>Zv UW [i+2,g]
theorem EW (i g:Nat):V9 (.obj i g)=i+2+g*4294967296:=by
 simp[V9,Zv,UW]
theorem Lw {l:Vw} (h:GK l):V9 l < 18446744073709551616:=by
 cases l with
 | none=>decide
 | grave=>decide
 | obj i g=>
  obtain⟨h1,h2,h3⟩:=h;rw[EW];omega
theorem Lx [Q4] (i g:Nat) (h:Bs i g) {w:World} {fr:List Q2} (H:Q0 w fr):Calls Tryz.prog 205 #[X8 i g] w (ret fun v w'=>v = .bool true∧Q0 w' fr):=by
 obtain⟨h1,h2,h3⟩:=h;refine QQ Tryz.func205 rfl (by kernel_rfl) ?_;refine J6 H ?_;clear H;intro b1 w H;refine Ru H ?_;refine YS H ?_;rw[show decide ((i:Int)≥0)=true from decide_eq_true (by omega)];refine Gw H ?_;refine Jv ?_;rw[show decide ((i:Int) < 4096)=true from decide_eq_true (by omega)];refine Wq H ?_;rw[show decide ((g:Int)≥1)=true from decide_eq_true (by omega)];refine Wq H ?_;rw[show decide ((g:Int)≤255)=true from decide_eq_true (by omega)];refine J0 H ?_;exact Q3 (Jy H.drop rfl fun w' H'=>⟨rfl,H'⟩)
theorem Sb [Q4] (l:Vw) (h:GK l) {w:World} {fr:List Q2} (H:Q0 w fr):Calls Tryz.prog 124 #[ZA l] w (ret fun v w'=>v = .tuple #[.int .u64 (V9 l),.int .i64 0]∧Q0 w' fr):=by
 cases l with
 | none=>
  refine QQ Tryz.func124 rfl (by kernel_rfl) ?_;refine J6 H ?_;clear H;intro b1 w H;refine J2 H ?_;refine GV H ?_;refine BG H ?_;refine BU H ?_;exact Q3 (Jy H.drop rfl fun w' H'=>⟨rfl,H'⟩)
 | grave=>
  refine QQ Tryz.func124 rfl (by kernel_rfl) ?_;refine J6 H ?_;clear H;intro b1 w H;refine J2 H ?_;refine GV H ?_;refine BG H ?_;refine BX H ?_;refine BG H ?_;refine BU H ?_;exact Q3 (Jy H.drop rfl fun w' H'=>⟨rfl,H'⟩)
 | obj i g=>
  have h':=h;obtain⟨h1,h2,h3⟩:=h';refine QQ Tryz.func124 rfl (by kernel_rfl) ?_;refine J6 H ?_;clear H;intro b1 w H;refine K2 H ?_;refine Vy (fun ms σ w=>ms=[]∧σ 1 = .pointer (some ⟨b1,0,none⟩)∧Q0 w (pts b1 (row 88 [.int .i64 2,.int .i64 i,.int .i64 g])::fr)) ?_ ?_
  ·refine QS ?_;refine BG H ?_;refine BX H ?_;refine BG H ?_;refine BX H ?_;refine K6 H ?_;refine YS H ?_;refine Qe rfl rfl rfl (VK rfl rfl ?_);refine Rs H ?_;refine Qe rfl rfl rfl (V2 (a:=[]) (b:=[]) rfl rfl (call (Lx i g h H) ?_));clear H;rintro v w ⟨rfl,H⟩;refine XO H ?_;refine V5 H ?_;exact .inl ⟨rfl,rfl,rfl,H⟩
  ·clear H;rintro ms σ w ⟨rfl,g1,H⟩;rw[Q1 g1];refine J1 H ?_;clear H;intro w H;refine Jf 1 ?_;refine Jf 2 ?_;refine Jl 3 [10,11] H ?_;refine Gt 4 rfl (Q8.none rfl) rfl (by kernel_rfl) ?_;refine Ja 5 ?_;refine Jf 6 ?_;refine Jf 7 ?_;refine Jl 8 [10,11] H ?_;refine Gt 9 rfl (Q8.none rfl) rfl (by kernel_rfl) ?_
   have e1:IntKind.u64.wrap (IntKind.u64.wrap (i:Int)+2)=((i+2:Nat):Int):=by
    rw[UY (a:=i) (by omega)];exact UY (a:=i+2) (by omega)
   have e2:IntKind.u64.wrap (g:Int)=((g:Nat):Int):=UY (by omega);rw[e1,e2];refine Jw 0 10 H rfl rfl (V2 (a:=[]) (b:=[]) rfl rfl (call (H8 H) ?_)) (Km H rfl rfl rfl ?_)
   ·clear H;intro v16 w H;obtain⟨a16,m16,c16,rfl⟩:=Qq H;refine Jo 10 H ?_;refine Rt H ?_;clear H;intro b17 w H;replace H:=Q0.swap (Ue (len:=2) (k:=1) rfl H)
    refine Aw 11 rfl (by kernel_rfl) (by repeat first|exact .nil|refine .cons (.inr H.at) ?_|refine .cons (.inr H.mp) ?_|refine .cons (.inl (by kernel_rfl)) ?_) (Q8.none rfl) (V2 (a:=[]) (b:=[]) rfl rfl (call (ER _ _ UW [i+2,g] Fz (by decide) rfl (fun j f x hf hx=>by
         rcases j with _|_|j <;> simp[UW] at hf hx <;> subst hf hx <;> simp <;> omega) H) ?_))
    clear H;rintro v w ⟨rfl,H⟩;refine BZ H ?_;exact Q3 (Jy H.drop.drop.drop rfl fun w' H'=>⟨rfl,H'⟩)
   ·clear H;intro b17 w H;refine Jo 0 H ?_;refine Jk rfl rfl (H8 H) ?_;clear H;intro v16 w H;obtain⟨a16,m16,c16,rfl⟩:=Qq H;replace H:=Q0.swap (Ue (len:=2) (k:=1) rfl H.swap)
    refine Aw 11 rfl (by kernel_rfl) (by repeat first|exact .nil|refine .cons (.inr H.at) ?_|refine .cons (.inr H.mp) ?_|refine .cons (.inl (by kernel_rfl)) ?_) (Q8.none rfl) (V2 (a:=[]) (b:=[]) rfl rfl (call (ER _ _ UW [i+2,g] Fz (by decide) rfl (fun j f x hf hx=>by
         rcases j with _|_|j <;> simp[UW] at hf hx <;> subst hf hx <;> simp <;> omega) H) ?_))
    clear H;rintro v w ⟨rfl,H⟩;refine BZ H ?_;exact Q3 (Jy H.drop.drop.drop rfl fun w' H'=>⟨rfl,H'⟩)
theorem Sc {i g:Nat} (h:Bs i g):UW.map (Yq (V9 (.obj i g)))=[i+2,g]:=by
 obtain⟨h1,h2,h3⟩:=h;simp only[UW,List.map_cons,List.map_nil,Yq,EW,Nat.reducePow];have e1:(i+2+g*4294967296) / 1 % 4294967296=i+2:=by omega
 have e2:(i+2+g*4294967296) / 4294967296 % 4294967296=g:=by omega
 rw[e1,e2]
theorem Sd [Q4] (l:Vw) (h:GK l) {w:World} {fr:List Q2} (H:Q0 w fr):Calls Tryz.prog 227 #[.int .u64 (V9 l)] w (ret fun v w'=>v = .tuple #[ZA l,.int .i64 0]∧Q0 w' fr):=by
 cases l with
 | none=>
  refine QQ Tryz.func227 rfl (by kernel_rfl) ?_;refine YO H ?_;clear H;intro b2 w H;refine J0 H ?_;refine Wr H ?_;refine J4 H ?_;refine BK H ?_;clear H;intro w H;refine J0 H ?_;refine Q3 (B1 (vs:=[ZA .none,.int .i64 0]) _ (.inr rfl) H (fun w' H' => .cellN H' rfl (by repeat first|exact .nil _|apply QY.cons rfl) (.tmp .nil)) fun w' H'=>⟨rfl,H'.drop⟩)
 | grave=>
  refine QQ Tryz.func227 rfl (by kernel_rfl) ?_;refine YO H ?_;clear H;intro b2 w H;refine J0 H ?_;refine Wr H ?_;refine J4 H ?_;refine ZS H ?_;refine BK H ?_;clear H;intro w H;refine J0 H ?_;refine Q3 (B1 (vs:=[ZA .grave,.int .i64 0]) _ (.inr rfl) H (fun w' H' => .cellN H' rfl (by repeat first|exact .nil _|apply QY.cons rfl) (.tmp .nil)) fun w' H'=>⟨rfl,H'.drop⟩)
 | obj i g=>
  have h':=h;obtain⟨h1,h2,h3⟩:=h';have hw:=EW i g;have n0:((V9 (.obj i g):Int) == 0)=false:=beq_eq_false_iff_ne.2 (by omega);have n1:((V9 (.obj i g):Int) == 1)=false:=beq_eq_false_iff_ne.2 (by omega);have hlt:=Lw (l := .obj i g) h;have hg:=Sc h;generalize hW:V9 (.obj i g)=W at n0 n1 hlt hg hw;refine QQ Tryz.func227 rfl (by kernel_rfl) ?_;refine YO H ?_;clear H;intro b2 w H;refine BR H ?_;refine Vy (fun ms σ w=>ms=[]∧σ 0 = .int .u64 W∧σ 2 = .pointer (some ⟨b2,0,none⟩)∧Q0 w (pts b2 (row 88 [.int .i64 0,.int .i64 0,.int .i64 0])::fr)) ?_ ?_
  ·refine QS ?_;refine J4 H ?_;rw[n0];refine ZS H ?_;rw[n1];refine V5 H ?_;exact .inl ⟨rfl,rfl,rfl,rfl,H⟩
  ·clear H;rintro ms σ w ⟨rfl,g0,g2,H⟩;rw[Q1 g0,Q1 g2];refine YZ H ?_;refine Jc rfl rfl (H8 H) ?_;clear H;intro v16 w H
   refine Jc rfl rfl (Fx _ hlt v16 UW Fz (by decide) H) ?_;clear H;rintro v w ⟨u,rfl,H⟩;rw[hg] at H;obtain⟨au,cu,rfl⟩:=QD (m:=2) H rfl (by decide);obtain⟨bu,su,rfl,H,hclose⟩:=Qx H (by decide);refine DY H ?_;clear H;intro w H;refine Ja 0 ?_;refine Ji 1 ?_;refine Jl 2 [11] H ?_;refine DQ H ?_;refine Ug H ?_;refine Ji 6 ?_;refine Jl 7 [11] H ?_;refine Gt 8 rfl (Q8.none rfl) rfl (by kernel_rfl) ?_;refine G9 9 rfl (Q8.none rfl) rfl (by kernel_rfl) ?_
   have e1:IntKind.i64.wrap (IntKind.i64.wrap ((i+2:Nat):Int) - 2)=((i:Nat):Int):=by
    rw[K1 (a:=i+2) (by omega),QT (by omega) (by omega)];omega
   have e2:IntKind.i64.wrap (g:Int)=((g:Nat):Int):=K1 (by omega);rw[e1,e2];refine Jo 10 H ?_;refine Vu H rfl ?_;clear H;intro b6 w H
   refine Ws H ?_;clear H;intro w H;refine Jx H ?_;refine GQ H ?_;refine Jc rfl rfl (Lx i g h H) ?_;clear H;rintro v w ⟨rfl,H⟩;refine Y0 H ?_
   repeat refine Q7 ?_
   refine QG ?_;refine Q5 rfl (VH H rfl (by repeat first|exact .nil _|apply QY.cons rfl) rfl ?_);refine Q5 rfl (Ud rfl rfl ?_);refine J3 H ?_;clear H;intro w H;refine J0 H ?_;refine Q3 (B1 (vs:=[ZA (.obj i g),.int .i64 0]) _ (.inr rfl) H (fun w' H' => .cellN H' rfl (by repeat first|exact .nil _|apply QY.cons rfl) (.tmp .nil)) fun w' H'=>⟨rfl,H'.drop.drop.drop.drop⟩)
end Go.Proofs.YtmjdnljneifpcaaGreatDoor
namespace Go.Proofs.YtmjdnljneifpcaaGreatDoor
open Go.SL
def BM (p n:Nat) (ws:List Nat) (many:Nat):Q2:=ex fun v:Value=>star [pts p (row 228 [.int .i64 n,v,.int .i64 many]),UL v ws]
theorem H9 [Q4] {w:World} {p n:Nat} {ws:List Nat} {m:Nat} {l:List Q2} (H:Q0 w (BM p n ws m::l)):∃ v,Q0 w (pts p (row 228 [.int .i64 n,v,.int .i64 m])::UL v ws::l):=by
 obtain⟨v,H⟩:=Q0.ex.1 H;exact⟨v,Q0.star.1 H⟩
theorem EA [Q4] {w:World} {p n:Nat} {v:Value} {ws:List Nat} {m:Nat} {l:List Q2} (H:Q0 w (pts p (row 228 [.int .i64 n,v,.int .i64 m])::UL v ws::l)):Q0 w (BM p n ws m::l):=
 Q0.ex.2 ⟨v,Q0.star.2 H⟩
theorem AW [Q4] {w:World} {p n x m:Nat} {l:List Q2} (H:Q0 w (BM p n [x] m::l)):∃ b cap spare,Q0 w (pts p (row 228 [.int .i64 n,.slice (some ⟨b,0,none⟩) 1 cap,.int .i64 m])::pts b (row 83 (.int .u64 x::spare))::l) ∧
  ∀ w' l' (x' m':Nat),Q0 w' (pts p (row 228 [.int .i64 n,.slice (some ⟨b,0,none⟩) 1 cap,.int .i64 m'])::pts b (row 83 (.int .u64 x'::spare))::l')→Q0 w' (BM p n [x'] m'::l'):=by
 obtain⟨v,H⟩:=H9 H;have H:=H.swap;obtain⟨a,cap,rfl⟩:=QD (m:=1) H rfl (by decide)
 rcases G8 H with ⟨h,_⟩|⟨b,len,cap',spare,h,e3,e4,e5,H2⟩
 ·cases h
 ·cases h;exact⟨b,cap,spare,H2.swap,fun w' l' x' m' H'=>EA (Q0.swap (Z9 (c:=QP [x']) rfl e4 e5 H'.swap))⟩
structure ZB (n x:Nat):Prop where
 pos:0 < n
 le:n≤63
 lt:x < 2 ^ n
theorem ZB.lt64 {n x:Nat} (h:ZB n x):x < 18446744073709551616:=Nat.lt_of_lt_of_le h.lt (EK (by have:=h.le;omega))
theorem Bt {i:Nat} (h:i < 64):IntKind.i64.wrap (Int.tdiv (i:Int) 64)=0:=by
 rw[Int.tdiv_eq_ediv_of_nonneg (by omega),show (i:Int) / 64=0 by omega];rfl
theorem EB {i:Nat} (h:i < 64):Int.tmod (i:Int) 64=i:=by
 rw[Int.tmod_eq_emod_of_nonneg (by omega)];omega
theorem Se (x i:Nat):((x / 2 ^ i) &&& 1=1)↔x.testBit i=true:=by
 rw[Nat.and_one_is_mod,Nat.testBit_eq_decide_div_mod_eq];simp
theorem HQ [Q4] (p n:Nat) (ws:List Nat) (m:Nat) {w:World} {fr:List Q2} (H:Q0 w (BM p n ws m::fr)):Calls Tryz.prog 221 #[pp p] w (ret fun v w'=>v = .int .i64 n∧Q0 w' (BM p n ws m::fr)):=by
 obtain⟨v,H⟩:=H9 H;refine QQ Tryz.func221 rfl (by kernel_rfl) ?_;refine K7 H ?_;refine J0 H ?_;exact Q3 (Jy (EA H) rfl fun w' H'=>⟨rfl,H'⟩)
theorem HV [Q4] (p n:Nat) (ws:List Nat) (m:Nat) {w:World} {fr:List Q2} (H:Q0 w (BM p n ws m::fr)):Calls Tryz.prog 65 #[pp p] w (ret fun v w'=>v = .int .i64 m∧Q0 w' (BM p n ws m::fr)):=by
 obtain⟨v,H⟩:=H9 H;refine QQ Tryz.func65 rfl (by kernel_rfl) ?_;refine K7 H ?_;refine J0 H ?_;exact Q3 (Jy (EA H) rfl fun w' H'=>⟨rfl,H'⟩)
theorem Sf [Q4] (p n x m i:Nat) (hb:ZB n x) (hi:i < n) {w:World} {fr:List Q2} (H:Q0 w (BM p n [x] m::fr)):Calls Tryz.prog 260 #[pp p,.int .i64 i] w (ret fun v w'=>v = .bool (x.testBit i)∧Q0 w' (BM p n [x] m::fr)):=by
 have hle:=hb.le;have h64:=hb.lt64;refine QQ Tryz.func260 rfl (by kernel_rfl) ?_;refine Rv H ?_;rw[show decide ((i:Int)≥0)=true from decide_eq_true (by omega)];refine Zg H ?_;refine Qe rfl rfl rfl (V2 (a:=[]) (b:=[]) rfl rfl (call (HQ p n _ _ H) ?_));clear H;rintro v w ⟨rfl,H⟩;refine Yp H ?_;refine Jv ?_;rw[show decide ((i:Int) < (n:Int))=true from decide_eq_true (by omega)];obtain⟨b,cap,spare,H,hclose⟩:=AW H;refine XP H ?_;refine Uf H ?_;refine Zg H ?_;rw[Bt (show i < 64 by omega)];refine Qe rfl rfl rfl (Gs rfl rfl (by decide) (by decide) rfl ?_);refine Qe rfl rfl rfl (QA H rfl rfl rfl ?_);refine Zg H ?_;rw[EB (show i < 64 by omega)]
 refine VB rfl rfl (v := .int .u64 (Ut .u64 (x:Int) (i:Int))) (by
  show (if (i:Int) < 0 then none else some _)=_;rw[if_neg (by omega)]) rfl ?_
 rw[B2 (k := .u64) (a:=x) (b:=i) (by omega) rfl];have hq:x / 2 ^ i < 18446744073709551616:=Nat.lt_of_le_of_lt (Nat.div_le_self _ _) h64;refine VB rfl rfl (v := .int .u64 (YB .and .u64 ((x / 2 ^ i:Nat):Int) ((1:Nat):Int))) rfl rfl ?_;rw[Cz hq (by decide)];refine XO H ?_;refine Q3 (Jy (hclose _ _ _ _ H) rfl fun w' H'=>⟨?_,H'⟩);show Value.bool (((x / 2 ^ i &&& 1:Nat):Int) == 1)=_;congr 1;rw[Bool.eq_iff_iff,← Se];simp only[beq_iff_eq];omega
def Yk (x i:Nat) (on:Bool):Nat:=if x.testBit i=on then x else x ^^^ 2 ^ i
theorem W8 (x i:Nat) (on:Bool) (j:Nat):(Yk x i on).testBit j=if j=i then on else x.testBit j:=by
 unfold Yk;split
 ·rename_i h;split
  ·rename_i e;subst e;exact h
  ·rfl
 ·rename_i h;rw[Nat.testBit_xor,Nat.testBit_two_pow];split
  ·rename_i e;subst e;simp;cases hx:x.testBit j <;> cases on <;> simp_all
  ·rename_i e;have:decide (i=j)=false:=decide_eq_false (fun e2=>e e2.symm);simp[this]
def YP (n x:Nat):Nat:=((List.range n).filter fun i=>x.testBit i).length
theorem Sg {n x:Nat} (h:∀ j,n≤j→x.testBit j=false):x < 2 ^ n:=Nat.lt_pow_two_of_testBit x fun j hj=>h j hj
theorem HY {n x j:Nat} (h:x < 2 ^ n) (hj:n≤j):x.testBit j=false:=Nat.testBit_lt_two_pow (Nat.lt_of_lt_of_le h (Nat.pow_le_pow_right (by decide) hj))
theorem ZB.set {n x i:Nat} {on:Bool} (h:ZB n x) (hi:i < n):ZB n (Yk x i on):=⟨h.pos,h.le,Sg fun j hj=>by
 rw[W8,if_neg (by omega)];exact HY h.lt hj⟩
theorem HZ (f g:Nat→Bool) (i:Nat):∀ n,i < n→(∀ j,j≠i→f j=g j)→f i=false→g i=true→((List.range n).filter g).length=((List.range n).filter f).length+1
 | 0,h,_,_,_=>by omega
 | n+1,h,hfg,h0,h1=>by
  rw[List.range_succ,List.filter_append,List.filter_append,List.length_append,List.length_append];by_cases e:i=n
  ·subst e
   have e2:(List.range i).filter g=(List.range i).filter f:=by
    apply List.filter_congr;intro j hj;rw[List.mem_range] at hj;rw[hfg j (by omega)]
   rw[e2];simp[h0,h1]
  ·have:=HZ f g i n (by omega) hfg h0 h1;have e3:[n].filter g=[n].filter f:=by simp[List.filter_cons,hfg n (fun e'=>e e'.symm)]
   rw[e3];omega
theorem Sh {n x i:Nat} {on:Bool} (hi:i < n) (h:x.testBit i≠on):(on=true→YP n (Yk x i on)=YP n x+1)∧(on=false→YP n x=YP n (Yk x i on)+1):=by
 have hne:∀ j,j≠i→x.testBit j=(Yk x i on).testBit j:=fun j hj=>by rw[W8,if_neg hj]
 have hat:(Yk x i on).testBit i=on:=by rw[W8,if_pos rfl]
 constructor
 ·rintro rfl;exact HZ _ _ i n hi hne (by simpa using h) hat
 ·rintro rfl;exact HZ _ _ i n hi (fun j hj=>(hne j hj).symm) hat (by simpa using h)
theorem EC (n x:Nat):YP n x≤n:=by
 have:=List.length_filter_le (fun i=>x.testBit i) (List.range n)
 rwa [List.length_range] at this
@[reducible] def ZT (p n x:Nat):Q2:=BM p n [x] (YP n x)
theorem Si [Q4] (p n x i:Nat) (on:Bool) (hb:ZB n x) (hi:i < n) {w:World} {fr:List Q2} (H:Q0 w (ZT p n x::fr)):Calls Tryz.prog 249 #[pp p,.int .i64 i,.bool on] w (ret fun v w'=>Q0 w' (ZT p n (Yk x i on)::fr)):=by
 have hle:=hb.le;have h64:=hb.lt64;have hcl:=EC n x;have hcl2:=EC n (Yk x i on);refine QQ Tryz.func249 rfl (by kernel_rfl) ?_;refine J5 H ?_;refine Jc rfl rfl (Sf p n x _ i hb hi H) ?_;clear H;rintro v w ⟨rfl,H⟩;refine Jv ?_;refine Q5 rfl (Az rfl rfl (.inl rfl) rfl ?_);refine BW H ?_;refine Rj rfl (fun h=>?_) (fun h=>QW ?_)
 ·have h1:x.testBit i=on:=by simpa [YV] using h
  have e:Yk x i on=x:=if_pos h1;rw[e];exact Q3 (Jy H rfl fun w' H'=>H')
 ·have h1:x.testBit i≠on:=by simpa [YV] using h
  have e:Yk x i on=x ^^^ 2 ^ i:=if_neg h1;obtain⟨c1,c0⟩:=Sh hi h1;obtain⟨b,cap,spare,H,hclose⟩:=AW H;have h2i:2 ^ i < 18446744073709551616:=Nat.lt_of_lt_of_le (Nat.pow_lt_pow_right (by decide) (show i < 64 by omega)) (Nat.le_refl _);have e2:XD .u64 ((1:Nat):Int) (i:Int)=((2 ^ i:Nat):Int):=by rw[Fa (by omega),Nat.one_mul,Nat.mod_eq_of_lt h2i]
  have e3:YB .xor .u64 (x:Int) ((2 ^ i:Nat):Int)=((Yk x i on:Nat):Int):=by rw[LN h64 h2i,e]
  refine J1 H ?_;clear H;intro w H;refine YT H ?_;refine Jl 3 [13] H ?_;refine Ug H ?_;rw[Bt (show i < 64 by omega)];refine Kj 6 rfl (Q8.none rfl) rfl rfl (by decide) (by decide) (by kernel_rfl) ?_;refine Jl 7 [13] H ?_;refine Ja 8 ?_;refine Ja 9 ?_;rw[EB (show i < 64 by omega)]
  refine Gb (v := .int .u64 (XD .u64 ((1:Nat):Int) (i:Int))) 10 rfl (Q8.none rfl) (by
   show (if (i:Int) < 0 then none else some _)=_;rw[if_neg (by omega)];rfl) (by kernel_rfl) ?_
  rw[e2];refine Gb (v := .int .u64 (YB .xor .u64 (x:Int) ((2 ^ i:Nat):Int))) 11 rfl (Q8.none rfl) rfl (by kernel_rfl) ?_;rw[e3];refine Kj 12 rfl (Q8.none rfl) rfl rfl (by decide) (by decide) (by kernel_rfl) ?_;refine Jo 13 H ?_;refine Uh H ?_;clear H;intro w H;refine Jx H ?_;refine GY H ?_;refine Ui H ?_;clear H;intro w H;refine Rw H ?_;cases on with
  | true=>
   refine VD H ?_;refine GY H ?_;refine Ui H ?_;clear H;intro w H;refine Q6 ?_
   have hc:IntKind.i64.wrap (IntKind.i64.wrap ((YP n x:Nat) - 1:Int)+2)=((YP n (Yk x i true):Nat):Int):=by
    have:=c1 rfl;rw[QT (x:=((YP n x:Nat):Int) - 1) (by omega) (by omega),QT (by omega) (by omega)];omega
   rw[hc] at H;exact Y4 _ (.inl rfl) (hclose _ _ _ _ H) rfl fun w' H'=>H'
  | false=>
   refine V5 H ?_
   have hc:IntKind.i64.wrap ((YP n x:Nat) - 1:Int)=((YP n (Yk x i false):Nat):Int):=by
    have:=c0 rfl;rw[QT (by omega) (by omega)];omega
   rw[hc] at H;exact Y4 _ (.inl rfl) (hclose _ _ _ _ H) rfl fun w' H'=>H'
end Go.Proofs.YtmjdnljneifpcaaGreatDoor
namespace Go.Proofs.YtmjdnljneifpcaaGreatDoor
open Go.SL
def X9 (x a:Nat):Nat→Bool→Nat
 | 0,_=>x
 | k+1,on=>Yk (X9 x a k on) (a+k) on
theorem Ly (x a:Nat) (on:Bool) (j:Nat):∀ k,(X9 x a k on).testBit j=if a≤j∧j < a+k then on else x.testBit j
 | 0=>by simp[X9];omega
 | k+1=>by
  show (Yk _ _ _).testBit j=_;rw[W8,Ly x a on j k];by_cases h1:j=a+k
  ·rw[if_pos h1,if_pos (by omega)]
  ·rw[if_neg h1];by_cases h2:a≤j∧j < a+k
   ·rw[if_pos h2,if_pos (by omega)]
   ·rw[if_neg h2,if_neg (by omega)]
theorem ZB.fill {n x a:Nat} {on:Bool} (h:ZB n x):∀ {k:Nat},a+k≤n→ZB n (X9 x a k on)
 | 0,_=>h
 | k+1,hk=>ZB.set (ZB.fill h (by omega)) (by omega)
theorem Lz [Q4] (p n x a k:Nat) (on:Bool) (hb:ZB n x) (hk:a+k≤n) {w:World} {fr:List Q2} (H:Q0 w (ZT p n x::fr)) :
  Calls Tryz.prog 213 #[pp p,.int .i64 a,.int .i64 k,.bool on] w (ret fun v w'=>v = .int .i64 0∧Q0 w' (ZT p n (X9 x a k on)::fr)):=by
 have hle:=hb.le;refine QQ Tryz.func213 rfl (by kernel_rfl) ?_;refine J7 H ?_;refine Vy (fun ms σ w=>ms=[]∧σ 0=pp p∧σ 1 = .int .i64 a∧σ 2 = .int .i64 k∧σ 3 = .bool on∧Q0 w (ZT p n x::fr)) ?_ ?_
 ·refine QS ?_;obtain⟨b,cap,spare,H,hclose⟩:=AW H;refine DZ H ?_;refine BX H ?_;refine Vh H ?_;rw[show decide ((k:Int) < 0)=false from decide_eq_false (by omega)];refine DG H ?_;rw[show decide ((a:Int) < 0)=false from decide_eq_false (by omega)];refine UG H ?_;refine Gw H ?_;refine YS H ?_;rw[show decide ((a:Int) > (n:Int))=false from decide_eq_false (by omega)];refine UG H ?_;refine Uf H ?_;refine UG H ?_;refine J2 H ?_;rw[show decide ((k:Int) > IntKind.i64.wrap ((n:Int) - (a:Int)))=false from decide_eq_false (by rw[QT (by omega) (by omega)];omega)];refine V5 H ?_;exact .inl ⟨rfl,rfl,rfl,rfl,rfl,rfl,hclose _ _ _ _ H⟩
 ·clear H;rintro ms σ w ⟨rfl,g0,g1,g2,g3,H⟩;rw[Q1 g0,Q1 g1,Q1 g2,Q1 g3];refine J4 H ?_;refine GV H ?_;refine Qj (fun ms σ w q=>ms=[]∧∃ j:Nat,j≤k∧q=k - j∧σ 0=pp p∧σ 1 = .int .i64 a∧σ 2 = .int .i64 k∧σ 3 = .bool on∧σ 9 = .int .i64 ((a+j:Nat):Int)∧Q0 w (ZT p n (X9 x a j on)::fr)) (m:=k) ⟨rfl,0,by omega,rfl,rfl,rfl,rfl,rfl,rfl,H⟩ ?_;clear H;rintro ms σ w q ⟨rfl,j,hj,rfl,g0,g1,g2,g3,g9,H⟩;rw[Q1 g0,Q1 g1,Q1 g2,Q1 g3,Q1 g9];refine K8 H ?_;rw[QT (x:=(a:Int)+(k:Int)) (by omega) (by omega)];refine J8 H ?_;refine Qf rfl (fun h=>QW ?_) (fun h=>Qp ?_)
  ·have hlt:j < k:=by omega
   refine Rx H ?_;refine Jc rfl rfl (Si p n _ (a+j) on (hb.fill (by omega)) (by omega) H) ?_;clear H;intro v w H;refine Ry H ?_;exact⟨_,⟨rfl,j+1,hlt,rfl,rfl,rfl,rfl,rfl,by rw[show ((a+(j+1):Nat):Int)=((a+j:Nat):Int)+1 by omega];exact Qb (i:=a+j) (by omega),H⟩,by omega⟩
  ·have hge:j=k:=by omega
   subst hge;refine VC H ?_;exact Q3 (Jy H rfl fun w' H'=>⟨rfl,H'⟩)
theorem HG [Q4] (p n x i:Nat) (on:Bool) (hb:ZB n x) (hi:i < n) {w:World} {fr:List Q2} (H:Q0 w (ZT p n x::fr)) :
  Calls Tryz.prog 151 #[pp p,.int .i64 i,.bool on] w (ret fun v w'=>v = .int .i64 0∧Q0 w' (ZT p n (Yk x i on)::fr)):=by
 refine QQ Tryz.func151 rfl (by kernel_rfl) ?_;refine Rv H ?_;refine Jc rfl rfl (Lz p n x i 1 on hb (by omega) H) ?_;clear H;rintro v w ⟨rfl,H⟩;refine J0 H ?_;exact Q3 (Jy H rfl fun w' H'=>⟨rfl,H'⟩)
theorem M0 [Q4] (n:Nat) (h1:0 < n) (h2:n≤1048576) {w:World} {fr:List Q2} (H:Q0 w fr) :
  Calls Tryz.prog 144 #[.int .i64 n] w (ret fun v w'=>∃ p,v = .tuple #[pp p,.int .i64 0]∧Q0 w' (BM p n (List.replicate ((n+63) / 64) 0) 0::fr)):=by
 refine QQ Tryz.func144 rfl (by kernel_rfl) ?_;refine J4 H ?_;refine Vh H ?_;rw[show decide ((n:Int) < 1)=false from decide_eq_false (by omega)];refine Zg H ?_;refine J0 H ?_;rw[show decide ((n:Int) > 1048576)=false from decide_eq_false (by omega)];refine V5 H ?_;refine XS H ?_
 have e1:IntKind.i64.wrap (Int.tdiv (IntKind.i64.wrap ((n:Int)+63)) 64)=(((n+63) / 64:Nat):Int):=by
  rw[QT (x:=(n:Int)+63) (by omega) (by omega),Int.tdiv_eq_ediv_of_nonneg (by omega),QT (by omega) (by omega)];omega
 rw[e1];refine Q5 rfl (ZQ H rfl rfl (by decide) (by omega) rfl ?_);clear H;intro b14 w H;refine Uv H ?_;clear H;intro b16 w H;refine J2 H ?_
 have e:Vv (Qt (.int .u64 0)) ((n+63) / 64)=QP (List.replicate ((n+63) / 64) 0):=by
  rw[show Qt (.int .u64 0)=[.int .u64 0] from rfl,Rr];simp[QP]
 rw[e] at H;exact Q3 (Jy (EA H) rfl fun w' H'=>⟨_,rfl,H'⟩)
theorem HU {y:Nat} (h0:y≠0) (h:y < 18446744073709551616):Lib.ctz 64 y < 64∧y.testBit (Lib.ctz 64 y)=true∧∀ i,i < Lib.ctz 64 y→y.testBit i=false:=by
 obtain⟨m,hm,hk⟩:=Lib.ctzFrom_spec 64 y (by omega) h;have e:Lib.ctz 64 y=Lib.ctzFrom 64 y:=by simp[Lib.ctz,h0]
 rw[e];generalize Lib.ctzFrom 64 y=k at hm hk;subst hm;refine⟨hk,?_,fun i hi=>?_⟩
 ·rw[Nat.testBit_eq_decide_div_mod_eq,Nat.mul_div_cancel_left _ (Nat.two_pow_pos k)];simp
 ·rw[Nat.testBit_eq_decide_div_mod_eq]
  have:2 ^ k*(2*m+1) / 2 ^ i=2*(2 ^ (k - i - 1)*(2*m+1)):=by
   have h2:2 ^ k=2 ^ i*(2*2 ^ (k - i - 1)):=by
    rw[← Nat.pow_succ',← Nat.pow_add];congr 1;omega
   rw[h2,Nat.mul_assoc,Nat.mul_div_cancel_left _ (Nat.two_pow_pos i),Nat.mul_assoc]
  rw[this];simp
theorem HX [Q4] (x:Nat) (hx:x < 18446744073709551616) {w:World} {fr:List Q2} [hT:YN 0 Lib.deBruijn64tab fr] (H:Q0 w fr):Calls Tryz.prog 219 #[.int .u64 x] w (ret fun v w'=>v = .int .i64 (Lib.ctz 64 x)∧Q0 w' fr):=by
 refine(Any7.bits_TrailingZeros64 Tryz.laysTz x hx w (fun _=>hT.tab w H.1)).mono ?_;rintro e w' ⟨rfl,rfl⟩;exact⟨rfl,H⟩
theorem Sj {x i:Nat} (hx:x < 18446744073709551616):(18446744073709551615 - x).testBit i=(decide (i < 64) && !x.testBit i):=by
 have e:18446744073709551615 - x=2 ^ 64 - (x+1):=by omega
 rw[e,Nat.testBit_two_pow_sub_succ hx]
theorem M3 (x a i:Nat):(x / 2 ^ a).testBit i=x.testBit (a+i):=by
 rw[Nat.testBit_div_two_pow,Nat.add_comm]
def Sk (n x a:Nat) (v:Value):Prop:=
 (∃ j:Nat,v = .tuple #[.int .i64 j,.bool true]∧a≤j∧j < n∧x.testBit j=false∧∀ i,a≤i→i < j→x.testBit i=true)∨(v = .tuple #[.int .i64 0,.bool false]∧∀ i,a≤i→i < n→x.testBit i=true)
theorem HK [Q4] (p n x a m:Nat) (hb:ZB n x) (ha:a≤n) {w:World} {fr:List Q2} [hT:YN 0 Lib.deBruijn64tab fr] (H:Q0 w (BM p n [x] m::fr)) :
  Calls Tryz.prog 150 #[pp p,.int .i64 a] w (ret fun v w'=>Sk n x a v∧Q0 w' (BM p n [x] m::fr)):=by
 have hle:=hb.le;have h64:=hb.lt64;refine QQ Tryz.func150 rfl (by kernel_rfl) ?_;refine D5 H ?_;refine Wt H ?_;rw[show (if (0:Int) > (a:Int) then (0:Int) else (a:Int))=(a:Int) from if_neg (by omega)];refine Y1 H ?_;refine Vy (fun ms σ w=>ms=[]∧∃ j:Nat,σ 0=pp p∧σ 1 = .int .i64 j∧a≤j∧j≤64∧(∀ i,a≤i→i < j→x.testBit i=true)∧(j < n→x.testBit j=false)∧Q0 w (BM p n [x] m::fr)) ?_ ?_
 ·refine QS ?_;refine Qj (fun ms σ w q=>ms=[]∧q=0∧σ 0=pp p∧σ 1 = .int .i64 a∧Q0 w (BM p n [x] m::fr)) (m:=0) ⟨rfl,rfl,rfl,rfl,H⟩ ?_;clear H;rintro ms σ w q ⟨rfl,rfl,g0,g1,H⟩;rw[Q1 g0,Q1 g1];refine J5 H ?_;refine Jc rfl rfl (HQ p n _ _ H) ?_;clear H;rintro v w ⟨rfl,H⟩;refine Y1 H ?_;refine Qf rfl (fun h=>QW ?_) (fun h=>Qp ?_)
  ·have hlt:a < n:=by omega
   have hq:(18446744073709551615 - x) / 2 ^ a < 18446744073709551616:=Nat.lt_of_le_of_lt (Nat.div_le_self _ _) (by omega);have hbit:∀ i,((18446744073709551615 - x) / 2 ^ a).testBit i=(decide (a+i < 64) && !x.testBit (a+i)):=fun i=>by rw[M3,Sj h64]
   have hne:(18446744073709551615 - x) / 2 ^ a≠0:=fun e=>by
    have:=hbit (63 - a);rw[e,Nat.zero_testBit,show a+(63 - a)=63 by omega,HY hb.lt hle] at this;simp at this
   obtain⟨c1,c2,c3⟩:=HU hne hq;refine GV H ?_;obtain⟨b,cap,spare,H,hclose⟩:=AW H;refine GY H ?_;rw[Bt (show a < 64 by omega)];refine Q5 rfl (Gs rfl rfl (by decide) (by decide) rfl ?_);refine K4 H ?_;refine Q5 rfl (S0 h64 rfl rfl ?_);refine YS H ?_;rw[EB (show a < 64 by omega)]
   refine UQ (v := .int .u64 (Ut .u64 ((18446744073709551615 - x:Nat):Int) (a:Int))) (by
    show (if (a:Int) < 0 then none else some _)=_;rw[if_neg (by omega)]) rfl ?_
   rw[B2 (k := .u64) (by omega) rfl];refine YD H ?_;generalize (18446744073709551615 - x) / 2 ^ a=y at *;rw[show ((y:Int) != 0)=true by simp;omega];refine VD H ?_;replace H:=hclose _ _ _ _ H;refine J5 H ?_;refine Jc rfl rfl (HX y hq H) ?_;clear H;rintro v w ⟨rfl,H⟩;refine J2 H ?_;have hk:=hbit (Lib.ctz 64 y);rw[c2] at hk;simp at hk;refine Qp (.inl ⟨rfl,rfl,a+Lib.ctz 64 y,rfl,?_,by omega,by omega,fun i h1 h2=>?_,fun _=>by simpa using hk.2,H⟩)
   ·show Value.int .i64 (IntKind.i64.wrap ((a:Int)+(Lib.ctz 64 y:Nat)))=_;rw[QT (by omega) (by omega)];congr 1
   ·have:=hbit (i - a);rw[c3 (i - a) (by omega),show a+(i - a)=i by omega] at this;simp at this;exact this (by omega)
  ·have hge:a=n:=by omega
   exact .inl ⟨rfl,rfl,a,rfl,rfl,by omega,by omega,fun i h1 h2=>by omega,fun h=>by omega,H⟩
 ·clear H;rintro ms σ w ⟨rfl,j,g0,g1,h1,h2,h3,h4,H⟩;rw[Q1 g0,Q1 g1];refine J5 H ?_;refine Jc rfl rfl (HQ p n _ _ H) ?_;clear H;rintro v w ⟨rfl,H⟩;refine Y1 H ?_;refine Qf rfl (fun h=>?_) (fun h=>QW ?_)
  ·refine J4 H ?_;exact Q3 (Jy H rfl fun w' H'=>⟨.inr ⟨rfl,fun i h5 h6=>h3 i h5 (by omega)⟩,H'⟩)
  ·refine V8 H ?_;exact Q3 (Jy H rfl fun w' H'=>⟨.inl ⟨j,rfl,h1,by omega,h4 (by omega),h3⟩,H'⟩)
theorem Sl [Q4] (p n x a m:Nat) (hb:ZB n x) (ha:a≤n) {w:World} {fr:List Q2} [hT:YN 0 Lib.deBruijn64tab fr] (H:Q0 w (BM p n [x] m::fr)) :
  Calls Tryz.prog 182 #[pp p,.int .i64 a] w (ret fun v w'=>(∃ e:Nat,v = .int .i64 e∧a≤e∧e≤n∧(∀ i,a≤i→i < e→x.testBit i=false)∧(e < n→x.testBit e=true))∧Q0 w' (BM p n [x] m::fr)):=by
 have hle:=hb.le;have h64:=hb.lt64;refine QQ Tryz.func182 rfl (by kernel_rfl) ?_;refine J7 H ?_;refine Vy (fun ms σ w=>ms=[]∧σ 0=pp p∧(∀ i,a≤i→i < n→x.testBit i=false)∧Q0 w (BM p n [x] m::fr)) ?_ ?_
 ·refine QS ?_
  refine Qj (fun ms σ w q=>ms=[]∧∃ j:Nat,(q=if j < n then 1 else 0)∧(j < n→j=a)∧σ 0=pp p∧σ 1 = .int .i64 j∧(j < n∨∀ i,a≤i→i < n→x.testBit i=false)∧Q0 w (BM p n [x] m::fr)) (m:=if a < n then 1 else 0) ⟨rfl,a,rfl,fun _=>rfl,rfl,rfl,by
   by_cases h:a < n
   ·exact .inl h
   ·exact .inr fun i h1 h2=>by omega,H⟩ ?_
  clear H;rintro ms σ w q ⟨rfl,j,rfl,hj,g0,g1,h5,H⟩;rw[Q1 g0,Q1 g1];obtain⟨b,cap,spare,H,hclose⟩:=AW H;refine Wu H ?_;refine Y1 H ?_;refine Qf rfl (fun h=>QW ?_) (fun h=>Qp ?_)
  ·have hlt:j < n:=by omega
   have:=hj hlt;subst this;have hq:x / 2 ^ j < 18446744073709551616:=Nat.lt_of_le_of_lt (Nat.div_le_self _ _) (by omega);have hbit:∀ i,(x / 2 ^ j).testBit i=x.testBit (j+i):=fun i=>by rw[M3]
   refine GV H ?_;refine GY H ?_;rw[Bt (show j < 64 by omega)];refine Q5 rfl (Gs rfl rfl (by decide) (by decide) rfl ?_);refine K4 H ?_;refine YS H ?_;rw[EB (show j < 64 by omega)]
   refine UQ (v := .int .u64 (Ut .u64 (x:Int) (j:Int))) (by
    show (if (j:Int) < 0 then none else some _)=_;rw[if_neg (by omega)]) rfl ?_
   rw[B2 (k := .u64) (by omega) rfl];refine YD H ?_;replace H:=hclose _ _ _ _ H;generalize x / 2 ^ j=y at *;refine J8 H ?_;by_cases hy:y=0
   ·rw[show ((y:Int) != 0)=false by simp[hy]];refine V5 H ?_;refine K8 H ?_;refine⟨_,⟨rfl,64,rfl,fun h=>by omega,rfl,?_,.inr fun i h1 h2=>?_,H⟩,by rw[if_pos hlt,if_neg (by omega)];decide⟩
    ·show Value.int .i64 (IntKind.i64.wrap (IntKind.i64.wrap (IntKind.i64.wrap (Int.tdiv (j:Int) 64)+1)*64))=_;rw[Bt (show j < 64 by omega)];rfl
    ·have:=hbit (i - j);rw[hy,Nat.zero_testBit,show j+(i - j)=i by omega] at this;exact this.symm
   ·rw[show ((y:Int) != 0)=true by simp;omega];refine VD H ?_;obtain⟨c1,c2,c3⟩:=HU hy hq;refine J5 H ?_;refine Jc rfl rfl (HX y hq H) ?_;clear H;rintro v w ⟨rfl,H⟩;refine J2 H ?_;have hk:=hbit (Lib.ctz 64 y);rw[c2] at hk
    have hn:j+Lib.ctz 64 y < n:=by
     rcases Nat.lt_or_ge (j+Lib.ctz 64 y) n with h|h
     ·exact h
     ·rw[HY hb.lt h] at hk;cases hk
    refine Q3 (.inr ⟨by simp,Jy H rfl fun w' H'=>⟨⟨j+Lib.ctz 64 y,?_,by omega,by omega,fun i h1 h2=>?_,fun _=>hk.symm⟩,H'⟩⟩)
    ·show Value.int .i64 (IntKind.i64.wrap ((j:Int)+(Lib.ctz 64 y:Nat)))=_;rw[QT (by omega) (by omega)];congr 1
    ·have:=hbit (i - j);rw[c3 (i - j) (by omega),show j+(i - j)=i by omega] at this;exact this.symm
  ·exact .inl ⟨rfl,rfl,rfl,by
    rcases h5 with h5|h5
    ·omega
    ·exact h5,hclose _ _ _ _ H⟩
 ·clear H;rintro ms σ w ⟨rfl,g0,h1,H⟩;rw[Q1 g0];obtain⟨b,cap,spare,H,hclose⟩:=AW H;refine Ya H ?_;refine J0 H ?_;exact Q3 (Jy (hclose _ _ _ _ H) rfl fun w' H'=>⟨⟨n,rfl,ha,Nat.le_refl _,h1,fun h=>by omega⟩,H'⟩)
def Sm (n x k:Nat) (v:Value):Prop:=
 (∃ a:Nat,v = .tuple #[.int .i64 a,.bool true]∧a+k≤n∧∀ i,a≤i→i < a+k→x.testBit i=false) ∨
 (v = .tuple #[.int .i64 0,.bool false]∧∀ a,a+k≤n→∃ i,a≤i∧i < a+k∧x.testBit i=true)
theorem Sn [Q4] (p n x k m:Nat) (hb:ZB n x) (hk:1≤k) (hk2:k < 1000000) {w:World} {fr:List Q2} [hT:YN 0 Lib.deBruijn64tab fr] (H:Q0 w (BM p n [x] m::fr)) :
  Calls Tryz.prog 212 #[pp p,.int .i64 k] w (ret fun v w'=>Sm n x k v∧Q0 w' (BM p n [x] m::fr)):=by
 have hle:=hb.le;refine QQ Tryz.func212 rfl (by kernel_rfl) ?_;refine J4 H ?_;refine J4 H ?_;rw[show decide ((k:Int) < 1)=false from decide_eq_false (by omega)];refine Wv H ?_;refine Jc rfl rfl (HK p n x 0 m hb (by omega) H) ?_;clear H;rintro v w ⟨hF,H⟩
 have hI:∃ (j:Nat) (ok:Bool),v = .tuple #[.int .i64 j,.bool ok]∧(ok=true→j < n∧x.testBit j=false∧∀ a,a < j→a+k≤n→∃ i,a≤i∧i < a+k∧x.testBit i=true) ∧
   (ok=false→∀ a,a+k≤n→∃ i,a≤i∧i < a+k∧x.testBit i=true):=by
  rcases hF with ⟨j,rfl,_,h2,h3,h4⟩|⟨rfl,h2⟩
  ·exact⟨j,true,rfl,fun _=>⟨h2,h3,fun a ha _=>⟨a,Nat.le_refl _,by omega,h4 a (by omega) ha⟩⟩,fun h=>by cases h⟩
  ·exact⟨0,false,rfl,(fun h=>by cases h),fun _ a ha=>⟨a,Nat.le_refl _,by omega,h2 a (by omega) (by omega)⟩⟩
 obtain⟨j,ok,rfl,hok,hno⟩:=hI;refine Rz H ?_;refine QS ?_
 refine Qj (fun ms σ w q=>ms=[]∧∃ (j:Nat) (ok:Bool),(q=if ok then n - j else 0)∧σ 0=pp p∧σ 1 = .int .i64 k∧σ 6 = .int .i64 j∧σ 7 = .bool ok∧(ok=true→j < n∧x.testBit j=false∧∀ a,a < j→a+k≤n→∃ i,a≤i∧i < a+k∧x.testBit i=true) ∧
   (ok=false→∀ a,a+k≤n→∃ i,a≤i∧i < a+k∧x.testBit i=true)∧Q0 w (BM p n [x] m::fr)) (m:=if ok then n - j else 0) ⟨rfl,j,ok,rfl,rfl,rfl,rfl,rfl,hok,hno,H⟩ ?_
 clear H hF hok hno;rintro ms σ w q ⟨rfl,j,ok,rfl,g0,g1,g6,g7,hok,hno,H⟩;rw[Q1 g0,Q1 g1,Q1 g6,Q1 g7];refine J7 H ?_;cases ok with
 | true=>
  obtain⟨h1,h2,h3⟩:=hok rfl;refine XT H ?_;refine K9 H ?_;refine Jc rfl rfl (Sl p n x j m hb (by omega) H) ?_;clear H;rintro v w ⟨⟨e,rfl,e1,e2,e3,e4⟩,H⟩;refine J0 H ?_;refine K8 H ?_;rw[QT (x:=(e:Int) - (j:Int)) (by omega) (by omega)];refine J8 H ?_;refine Qf rfl (fun h=>?_) (fun h=>QW ?_)
  ·refine V8 H ?_;exact Q3 (Jy H rfl fun w' H'=>⟨.inl ⟨j,rfl,by omega,fun i h5 h6=>e3 i h5 (by omega)⟩,H'⟩)
  ·have hej:j < e:=by
    rcases Nat.lt_or_ge j e with h|h
    ·exact h
    ·have:e=j:=by omega
     subst this;have:=e4 h1;rw[h2] at this;cases this
   have hF:∀ a,a≤e→a+k≤n→∃ i,a≤i∧i < a+k∧x.testBit i=true:=fun a ha hk'=>by
    rcases Nat.lt_or_ge a j with h'|h'
    ·exact h3 a h' hk'
    ·exact⟨e,ha,by omega,e4 (by omega)⟩
   refine J5 H ?_;refine Jc rfl rfl (HK p n x e m hb (by omega) H) ?_;clear H;rintro v w ⟨hF2,H⟩
   rcases hF2 with ⟨j2,rfl,f1,f2,f3,f4⟩|⟨rfl,f2⟩
   ·refine Fj H ?_;refine⟨_,⟨rfl,j2,true,rfl,rfl,rfl,rfl,rfl,fun _=>⟨f2,f3,fun a ha hk'=>?_⟩,(fun h=>by cases h),H⟩,by simp;omega⟩
    rcases Nat.lt_or_ge e a with h'|h'
    ·exact⟨a,Nat.le_refl _,by omega,f4 a (by omega) ha⟩
    ·exact hF a h' hk'
   ·refine Fj H ?_;refine⟨_,⟨rfl,0,false,rfl,rfl,rfl,rfl,rfl,(fun h=>by cases h),fun _ a hk'=>?_,H⟩,by simp;omega⟩
    rcases Nat.lt_or_ge e a with h'|h'
    ·exact⟨a,Nat.le_refl _,by omega,f2 a (by omega) (by omega)⟩
    ·exact hF a h' hk'
 | false=>
  refine KQ H ?_;refine J4 H ?_;exact Q3 (Jy H rfl fun w' H'=>⟨.inr ⟨rfl,hno rfl⟩,H'⟩)
end Go.Proofs.YtmjdnljneifpcaaGreatDoor
namespace Go.Proofs.YtmjdnljneifpcaaGreatDoor
open Go.SL
def QK (l:List Nat):List Value:=l.map fun x:Nat=>Value.int .i64 (x:Int)
theorem QF (l:List Nat):(QK l).length=l.length*1:=by simp[QK]
theorem W9 (a b:List Nat):QK (a++b)=QK a++QK b:=by simp[QK]
theorem Gg {l:List Nat} {spare:List Value} {i x:Nat} (h:l[i]? = some x):(QK l++spare)[0+i*1]? = some (.int .i64 x):=by
 have hi:=(List.getElem?_eq_some_iff.1 h).1;rw[Nat.zero_add,Nat.mul_one,List.getElem?_append_left (by simpa [QK] using hi)];simp[QK,h]
theorem ED {l:List Nat} {spare:List Value} {i x:Nat} (h:i < l.length):(QK l++spare).set (0+i*1) (.int .i64 x)=QK (l.set i x)++spare:=by
 rw[Nat.zero_add,Nat.mul_one,List.set_append_left _ _ (by simpa [QK] using h)];simp[QK,List.map_set]
theorem M4 {l:List Nat} {spare:List Value} {i x:Nat} (h:i < l.length):(QP l++spare).set (0+i*1) (.int .u64 x)=QP (l.set i x)++spare:=by
 rw[Nat.zero_add,Nat.mul_one,List.set_append_left _ _ (by simpa [QP] using h)];simp[QP,List.map_set]
@[reducible] def NL (v:Value) (l:List Nat):Q2:=QC 3 1 v (QK l)
theorem WQ {a b:Nat} (h:a < 9223372036854775808):IntKind.i64.wrap (Int.tdiv (a:Int) (b:Int))=((a / b:Nat):Int):=by
 have hle:a / b≤a:=Nat.div_le_self _ _;rw[Int.tdiv_eq_ediv_of_nonneg (by omega),← Int.natCast_ediv];generalize a / b=q at hle;exact QT (by omega) (by omega)
structure RG (size:Nat) (mem own ws:List Nat) (many:Nat):Prop where
 s1:1≤size
 s2:size≤1024
 c1:1≤own.length
 c2:own.length≤1024
 len:mem.length=own.length*size
 many:many=(own.filter (· != 0)).length
 one:own.length≤63→∃ x,ws=[x]∧x < 2 ^ own.length∧∀ c,c < own.length→x.testBit c=decide (own.getD c 0≠0)
theorem EE:∀ (own:List Nat) (x:Nat),(∀ c,c < own.length→x.testBit c=decide (own.getD c 0≠0))→YP own.length x=(own.filter (· != 0)).length
 | own,x,h=>by
  unfold YP
  have e:(List.range own.length).filter (fun i=>x.testBit i)=(List.range own.length).filter (fun i=>own.getD i 0 != 0):=by
   apply List.filter_congr;intro i hi;rw[List.mem_range] at hi;show x.testBit i=(own.getD i 0 != 0);rw[h i hi];generalize own.getD i 0=z;cases z <;> simp
  rw[e];clear e h
  have:∀ (l:List Nat),((List.range l.length).filter (fun i=>l.getD i 0 != 0)).length=(l.filter (· != 0)).length:=by
   intro l
   have e2:l.filter (· != 0)=((List.range l.length).filter (fun i=>l.getD i 0 != 0)).map (fun i=>l.getD i 0):=by
    have e3:l=(List.range l.length).map (fun i=>l.getD i 0):=by
     apply List.ext_getElem?;intro i;by_cases hi:i < l.length
     ·rw[List.getElem?_map,List.getElem?_range hi,List.getElem?_eq_getElem hi];simp[hi]
     ·rw[List.getElem?_eq_none (by omega),List.getElem?_eq_none (by simp;omega)]
    conv=>lhs;rw[e3]
    rw[List.filter_map];rfl
   rw[e2,List.length_map]
  exact this own
def ST (p size:Nat) (mem own:List Nat):Q2:=ex fun q:Value×Value×Nat×List Nat×Nat=>
 star [prop (RG size mem own q.2.2.2.1 q.2.2.2.2),pts p (row 141 [q.1,.int .i64 size,q.2.1,pp q.2.2.1]),UL q.1 mem,NL q.2.1 own,BM q.2.2.1 own.length q.2.2.2.1 q.2.2.2.2]
theorem U0 [Q4] {w:World} {p size:Nat} {mem own:List Nat} {l:List Q2} (H:Q0 w (ST p size mem own::l)):∃ v v2 u ws many,RG size mem own ws many ∧
  Q0 w (pts p (row 141 [v,.int .i64 size,v2,pp u])::UL v mem::NL v2 own::BM u own.length ws many::l):=by
 obtain⟨⟨v,v2,u,ws,many⟩,H⟩:=Q0.ex.1 H;have H:=Q0.star.1 H;obtain⟨h,H⟩:=Q0.prop.1 H;exact⟨v,v2,u,ws,many,h,H⟩
theorem GR [Q4] {w:World} {p size:Nat} {mem own:List Nat} {l:List Q2} {v v2:Value} {u:Nat} {ws:List Nat} {many:Nat} (h:RG size mem own ws many)
  (H:Q0 w (pts p (row 141 [v,.int .i64 size,v2,pp u])::UL v mem::NL v2 own::BM u own.length ws many::l)):Q0 w (ST p size mem own::l):=
 Q0.ex.2 ⟨(v,v2,u,ws,many),Q0.star.2 (Q0.prop.2 ⟨h,H⟩)⟩
theorem So [Q4] (n size:Nat) (h1:1≤n) (h2:n≤1024) (h3:1≤size) (h4:size≤1024) {w:World} {fr:List Q2} (H:Q0 w fr) :
  Calls Tryz.prog 80 #[.int .i64 n,.int .i64 size] w (ret fun v w'=>∃ p,v = .tuple #[pp p,.int .i64 0]∧Q0 w' (ST p size (List.replicate (n*size) 0) (List.replicate n 0)::fr)):=by
 have hns:n*size≤1048576:=Nat.mul_le_mul h2 h4;refine QQ Tryz.func80 rfl (by kernel_rfl) ?_;refine J4 H ?_;refine Vh H ?_;rw[show decide ((n:Int) < 1)=false from decide_eq_false (by omega)];refine DG H ?_;rw[show decide ((n:Int) > 1024)=false from decide_eq_false (by omega)];refine DG H ?_;rw[show decide ((size:Int) < 1)=false from decide_eq_false (by omega)];refine Zg H ?_;refine J0 H ?_;rw[show decide ((size:Int) > 1024)=false from decide_eq_false (by omega)];refine Wv H ?_;refine Jc rfl rfl (M0 n (by omega) (by omega) H) ?_;clear H;rintro v w ⟨u,rfl,H⟩;refine DY H ?_;clear H;intro w H;refine Ja 0 ?_;refine Ja 1 ?_;refine Ja 2 ?_;refine Ug H ?_;refine Ja 7 ?_
 have e1:IntKind.i64.wrap ((n:Int)*(size:Int))=((n*size:Nat):Int):=by
  rw[← Int.natCast_mul,QT (by omega) (by omega)]
 rw[e1]
 have hok:RG size (List.replicate (n*size) 0) (List.replicate n 0) (List.replicate (((List.replicate n 0).length+63) / 64) 0) 0:=by
  refine⟨h3,h4,by simpa using h1,by simpa using h2,by simp,by simp,fun h=>⟨0,?_,Nat.two_pow_pos _,fun c hc=>?_⟩⟩
  ·have:((List.replicate n 0:List Nat).length+63) / 64=1:=by simp at h ⊢;omega
   rw[this];rfl
  ·have hc':c < n:=by simpa using hc
   simp[Nat.zero_testBit,hc']
 have z1:Vv (Qt (.int .u64 0)) (n*size)=QP (List.replicate (n*size) 0):=by
  rw[show Qt (.int .u64 0)=[.int .u64 0] from rfl,Rr];simp[QP]
 have z2:Vv (Qt (.int .i64 0)) n=QK (List.replicate n 0):=by
  rw[show Qt (.int .i64 0)=[.int .i64 0] from rfl,Rr];simp[QK]
 have hl:(List.replicate n 0:List Nat).length=n:=by simp
 rw[hl] at hok;refine Jw 3 6 H rfl rfl (ZQ H rfl rfl (by decide) (by omega) rfl ?_) (ZQ H rfl rfl (by decide) (by omega) rfl ?_)
 ·clear H;intro b30 w H;rw[z1] at H;refine Jo 6 H ?_;refine ZQ H rfl rfl (by decide) (by omega) rfl ?_;clear H;intro b33 w H;rw[z2] at H;refine G9 8 rfl (Q8.none rfl) rfl (by kernel_rfl) ?_;refine Jo 9 H ?_;refine Wi H rfl rfl ?_;clear H;intro b36 w H;refine DU H ?_;replace H:=Js [0,1,0,0] 0 H;have H:=GR (own:=List.replicate n 0) hok (by rw[hl];exact H);exact Q3 (Jy H rfl fun w' H'=>⟨_,rfl,H'⟩)
 ·clear H;intro b33 w H;rw[z2] at H;refine Jo 3 H ?_;refine ZQ H rfl rfl (by decide) (by omega) rfl ?_;clear H;intro b30 w H;rw[z1] at H;refine G9 8 rfl (Q8.none rfl) rfl (by kernel_rfl) ?_;refine Jo 9 H ?_;refine Wi H rfl rfl ?_;clear H;intro b36 w H;refine DU H ?_;have H:=GR (own:=List.replicate n 0) hok (by rw[hl];exact H);exact Q3 (Jy H rfl fun w' H'=>⟨_,rfl,H'⟩)
theorem HR [Q4] (p size:Nat) (mem own:List Nat) {w:World} {fr:List Q2} (H:Q0 w (ST p size mem own::fr)):Calls Tryz.prog 16 #[pp p] w (ret fun v w'=>v = .int .i64 own.length∧Q0 w' (ST p size mem own::fr)):=by
 obtain⟨v,v2,u,ws,many,hok,H⟩:=U0 H;obtain⟨a2,c2,rfl⟩:=QD (H.drop.drop) (QF own) (by decide);refine QQ Tryz.func16 rfl (by kernel_rfl) ?_;refine K7 H ?_;refine UK H ?_;exact Q3 (Jy (GR hok H) rfl fun w' H'=>⟨rfl,H'⟩)
theorem EF [Q4] (p size:Nat) (mem own:List Nat) {w:World} {fr:List Q2} (H:Q0 w (ST p size mem own::fr)):Calls Tryz.prog 49 #[pp p] w (ret fun v w'=>v = .int .i64 size∧Q0 w' (ST p size mem own::fr)):=by
 obtain⟨v,v2,u,ws,many,hok,H⟩:=U0 H;refine QQ Tryz.func49 rfl (by kernel_rfl) ?_;refine K7 H ?_;refine J0 H ?_;exact Q3 (Jy (GR hok H) rfl fun w' H'=>⟨rfl,H'⟩)
theorem M5 [Q4] (p size:Nat) (mem own:List Nat) {w:World} {fr:List Q2} (H:Q0 w (ST p size mem own::fr)):Calls Tryz.prog 15 #[pp p] w (ret fun v w'=>v = .int .i64 ((own.length - (own.filter (· != 0)).length:Nat):Int)∧Q0 w' (ST p size mem own::fr)):=by
 obtain⟨v,v2,u,ws,many,hok,H⟩:=U0 H;obtain⟨a2,c2,rfl⟩:=QD (H.drop.drop) (QF own) (by decide);refine QQ Tryz.func15 rfl (by kernel_rfl) ?_;refine DX H ?_;clear H;intro w H;refine Uw H ?_;refine Kk 4 rfl (Q8.none rfl) rfl (by kernel_rfl) ?_;refine Ww H ?_;refine Jl 8 [9] H ?_;replace H:=Js [3,0,0,0] 0 H;refine Jo 9 H ?_;refine Jk rfl rfl (HV u _ _ _ H) ?_;clear H;rintro v w ⟨rfl,H⟩;refine DU H ?_;replace H:=Js [1,1,1,0] 0 H;have hle:=List.length_filter_le (· != 0) own;have:=hok.many;have h2:=hok.c2;refine Q3 (Jy (GR hok H) rfl fun w' H'=>⟨?_,H'⟩);show Value.int .i64 (IntKind.i64.wrap ((own.length:Int) - (many:Int)))=_;rw[QT (by omega) (by omega)];congr 1;omega
theorem Sp [Q4] (p size:Nat) (mem own:List Nat) (c:Nat) {w:World} {fr:List Q2} (H:Q0 w (ST p size mem own::fr)) (hc:c < own.length):Calls Tryz.prog 48 #[pp p,.int .i64 c] w (ret fun v w'=>v = .int .i64 (own.getD c 0)∧Q0 w' (ST p size mem own::fr)):=by
 refine QQ Tryz.func48 rfl (by kernel_rfl) ?_;refine Rv H ?_;rw[show decide ((c:Int) < 0)=false from decide_eq_false (by omega)];refine Zg H ?_;refine Qe rfl rfl rfl (V2 (a:=[]) (b:=[]) rfl rfl (call (HR p size mem own H) ?_));clear H;rintro v w ⟨rfl,H⟩;refine DR H ?_;rw[show decide ((c:Int)≥(own.length:Int))=false from decide_eq_false (by omega)];refine V5 H ?_;obtain⟨v,v2,u,ws,many,hok,H⟩:=U0 H;replace H:=Js [2,0,0,0] 0 H;obtain⟨a2,c2,rfl⟩:=QD H (QF own) (by decide);obtain⟨b,s,rfl,H,hclose⟩:=Qx H (by omega);have hx:=List.getElem?_eq_getElem hc;have hg:own.getD c 0=own[c]:=by simp[hc]
 rw[hg];generalize own[c]=x at hx;refine J9 H ?_;refine Jd ?_;refine Q5 rfl (QA H rfl (Gg hx) rfl ?_);refine J0 H ?_;replace H:=hclose _ _ H;replace H:=Js [1,1,0,0] 0 H;exact Q3 (Jy (GR hok H) rfl fun w' H'=>⟨rfl,H'⟩)
def Gh (size:Nat) (own:List Nat) (a n:Nat):Prop:=∀ c,a / size≤c→c≤(a+n - 1) / size→own.getD c 0≠0
theorem AA [Q4] (p size:Nat) (mem own:List Nat) (a n:Nat) (h1:1≤n) (h2:a+n≤mem.length) (h3:Gh size own a n) {w:World} {fr:List Q2} (H:Q0 w (ST p size mem own::fr)) :
  Calls Tryz.prog 208 #[pp p,.int .i64 a,.int .i64 n] w (ret fun v w'=>v = .int .i64 0∧Q0 w' (ST p size mem own::fr)):=by
 obtain⟨v,v2,u,ws,many,hok,H⟩:=U0 H;have hok':=hok;obtain⟨s1,s2,c1,c2,hlen,_,_⟩:=hok';have hmem:mem.length≤1048576:=by rw[hlen];exact Nat.mul_le_mul c2 s2
 have hdiv:(a+n - 1) / size < own.length:=by
  rw[Nat.div_lt_iff_lt_mul (by omega),← hlen];omega
 have hdd:a / size≤(a+n - 1) / size:=Nat.div_le_div_right (by omega);obtain⟨a1,k1,rfl⟩:=QD (H.drop) (Yw mem) (by decide);obtain⟨a2,k2,rfl⟩:=QD (H.drop.drop) (QF own) (by decide);refine QQ Tryz.func208 rfl (by kernel_rfl) ?_;refine Rv H ?_;rw[show decide ((n:Int) < 0)=false from decide_eq_false (by omega)];refine DG H ?_;rw[show decide ((a:Int) < 0)=false from decide_eq_false (by omega)];refine UG H ?_;refine Fk H ?_;refine YS H ?_;rw[show decide ((a:Int) > (mem.length:Int))=false from decide_eq_false (by omega)];refine UG H ?_;refine Qe rfl rfl rfl (VK rfl rfl ?_);refine Qe rfl rfl rfl (QA H rfl rfl rfl ?_);refine Qe rfl rfl rfl (ZO rfl rfl ?_);refine UG H ?_;refine J0 H ?_;rw[show decide ((n:Int) > IntKind.i64.wrap ((mem.length:Int) - (a:Int)))=false from decide_eq_false (by rw[QT (by omega) (by omega)];omega)];refine BA H ?_;rw[show ((n:Int) == 0)=false by simp;omega];refine V5 H ?_;refine Wu H ?_
 refine UQ (v := .int .i64 ((a / size:Nat):Int)) (by
  show (if IntKind.i64=IntKind.i64 then (if (size:Int)=0 then none else some _) else none)=_;rw[if_pos rfl,if_neg (by omega),WQ (by omega)]) rfl ?_
 refine Y1 H ?_;refine QS ?_;refine Qj (fun ms σ w q=>ms=[]∧∃ c:Nat,a / size≤c∧c≤(a+n - 1) / size+1∧q=(a+n - 1) / size+1 - c∧σ 0=pp p∧σ 1 = .int .i64 a∧σ 2 = .int .i64 n∧σ 7 = .int .i64 c∧Q0 w (pts p (row 141 [.slice a1 mem.length k1,.int .i64 size,.slice a2 own.length k2,pp u])::UL (.slice a1 mem.length k1) mem::NL (.slice a2 own.length k2) own::BM u own.length ws many::fr)) (m:=(a+n - 1) / size+1 - a / size) ⟨rfl,a / size,Nat.le_refl _,by omega,rfl,rfl,rfl,rfl,rfl,H⟩ ?_;clear H;rintro ms σ w q ⟨rfl,c,hc1,hc2,rfl,g0,g1,g2,g7,H⟩;rw[Q1 g0,Q1 g1,Q1 g2,Q1 g7];refine J5 H ?_;refine BB H ?_;refine Gf H ?_;rw[QT (x:=(a:Int)+(n:Int)) (by omega) (by omega),QT (x:=(a:Int)+(n:Int) - 1) (by omega) (by omega),show (a:Int)+(n:Int) - 1=((a+n - 1:Nat):Int) by omega]
 refine UQ (v := .int .i64 (((a+n - 1) / size:Nat):Int)) (by
  show (if IntKind.i64=IntKind.i64 then (if (size:Int)=0 then none else some _) else none)=_;rw[if_pos rfl,if_neg (by omega),WQ (by omega)]) rfl ?_
 refine Y1 H ?_;refine Qf rfl (fun h=>QW ?_) (fun h=>Qp ?_)
 ·have hcl:c < own.length:=by omega
  have hx:=List.getElem?_eq_getElem hcl;have hne:(own.getD c 0:Nat)≠0:=h3 c hc1 (by omega);have hg:own.getD c 0=own[c]:=by simp[hcl]
  rw[hg] at hne;generalize own[c]=y at hx hne;replace H:=Js [2,0,0,0] 0 H;obtain⟨b,s,rfl,H,hclose⟩:=Qx H (by omega);refine Wx H ?_;refine Jd ?_;refine Q5 rfl (QA H rfl (Gg hx) rfl ?_);refine J0 H ?_;rw[show ((y:Int) == 0)=false by simp;omega];refine V5 H ?_;replace H:=hclose _ _ H;replace H:=Js [1,1,0,0] 0 H;refine V8 H ?_;exact⟨_,⟨rfl,c+1,by omega,by omega,rfl,rfl,rfl,rfl,Qb (by omega),H⟩,by omega⟩
 ·refine VC H ?_;exact Q3 (Jy (GR hok H) rfl fun w' H'=>⟨rfl,H'⟩)
end Go.Proofs.YtmjdnljneifpcaaGreatDoor
namespace Go.Proofs.YtmjdnljneifpcaaGreatDoor
open Go.SL
theorem HW [Q4] (p size:Nat) (mem own:List Nat) (a:Nat) (h2:a < mem.length) (h3:Gh size own a 1) {w:World} {fr:List Q2} (H:Q0 w (ST p size mem own::fr)) :
  Calls Tryz.prog 180 #[pp p,.int .i64 a] w (ret fun v w'=>v = .tuple #[.int .u64 (mem.getD a 0),.int .i64 0]∧Q0 w' (ST p size mem own::fr)):=by
 refine QQ Tryz.func180 rfl (by kernel_rfl) ?_;refine DW H ?_;refine J5 H ?_;refine Jc rfl rfl (AA p size mem own a 1 (by decide) (by omega) h3 H) ?_;clear H;rintro v w ⟨rfl,H⟩;refine Yi H ?_;obtain⟨v,v2,u,ws,many,hok,H⟩:=U0 H;have H:=H.swap;obtain⟨a1,c1,rfl⟩:=QD H (Yw mem) (by decide);obtain⟨b,s,rfl,H,hclose⟩:=Qx H (by omega);have hx:=List.getElem?_eq_getElem h2;have hg:mem.getD a 0=mem[a]:=by simp[h2]
 rw[hg];generalize mem[a]=x at hx;refine J9 H ?_;refine Jd ?_;refine Q5 rfl (QA H rfl (Fv hx) rfl ?_);refine J2 H ?_;exact Q3 (Jy (GR hok (hclose _ _ H).swap) rfl fun w' H'=>⟨rfl,H'⟩)
theorem RG.mem {size:Nat} {mem mem' own ws:List Nat} {many:Nat} (h:RG size mem own ws many) (e:mem'.length=mem.length):RG size mem' own ws many:=⟨h.s1,h.s2,h.c1,h.c2,e.trans h.len,h.many,h.one⟩
theorem EH [Q4] (p size:Nat) (mem own:List Nat) (a x:Nat) (h2:a < mem.length) (h3:Gh size own a 1) {w:World} {fr:List Q2} (H:Q0 w (ST p size mem own::fr)) :
  Calls Tryz.prog 125 #[pp p,.int .i64 a,.int .u64 x] w (ret fun v w'=>v = .int .i64 0∧Q0 w' (ST p size (mem.set a x) own::fr)):=by
 refine QQ Tryz.func125 rfl (by kernel_rfl) ?_;refine DA H ?_;refine Jc rfl rfl (AA p size mem own a 1 (by decide) (by omega) h3 H) ?_;clear H;rintro v w ⟨rfl,H⟩;refine YD H ?_;obtain⟨v,v2,u,ws,many,hok,H⟩:=U0 H;have H:=H.swap;obtain⟨a1,c1,rfl⟩:=QD H (Yw mem) (by decide);obtain⟨b,s,rfl,H,_,_,hclose⟩:=Yv H (by omega);refine J8 H ?_;refine Qn (fun ms σ w=>ms=[]∧σ 7 = .int .i64 0∧Q0 w (pts b (row 83 (QP (mem.set a x)++s))::pts p (row 141 [.slice (some ⟨b,0,none⟩) mem.length c1,.int .i64 size,v2,pp u])::NL v2 own::BM u own.length ws many::fr)) ?_ ?_
 ·refine Vg rfl ?_;refine GY H ?_;refine Jd ?_;refine Q5 rfl (Yf H rfl rfl inferInstance rfl (by simp only[List.length_append,Yw];omega) rfl ?_);clear H;intro w H;rw[M4 (by omega)] at H;refine Q6 ?_;exact⟨rfl,rfl,rfl,H⟩
 ·clear H;rintro ms σ w ⟨rfl,g7,H⟩;rw[Q1 g7];refine J4 H ?_;exact Q3 (Jy (GR (hok.mem (by simp)) (hclose _ _ _ (by simp[QP]) H).swap) rfl fun w' H'=>⟨rfl,H'⟩)
theorem Sq [Q4] (p size:Nat) (mem own:List Nat) (a n:Nat) (h1:1≤n) (h2:a+n≤mem.length) (h3:Gh size own a n) {w:World} {fr:List Q2} (H:Q0 w (ST p size mem own::fr)) :
  Calls Tryz.prog 139 #[pp p,.int .i64 a,.int .i64 a,.int .i64 n] w (ret fun v w'=>v = .int .i64 0∧Q0 w' (ST p size mem own::fr)):=by
 refine QQ Tryz.func139 rfl (by kernel_rfl) ?_;refine Ln H ?_;refine Vh H ?_;refine Jc rfl rfl (AA p size mem own a n h1 h2 h3 H) ?_;clear H;rintro v w ⟨rfl,H⟩;refine W0 H ?_;refine Jc rfl rfl (AA p size mem own a n h1 h2 h3 H) ?_;clear H;rintro v w ⟨rfl,H⟩;refine K2 H ?_;refine Vy (fun ms σ w=>ms=[]∧σ 0=pp p∧σ 1 = .int .i64 a∧σ 2 = .int .i64 a∧σ 3 = .int .i64 n∧Q0 w (ST p size mem own::fr)) ?_ ?_
 ·refine QS ?_;refine W1 H ?_;refine K3 H ?_;refine W1 H ?_;refine W2 H ?_;exact .inl ⟨rfl,rfl,rfl,rfl,rfl,rfl,H⟩
 ·clear H;rintro ms σ w ⟨rfl,g0,g1,g2,g3,H⟩;rw[Q1 g0,Q1 g1,Q1 g2,Q1 g3];obtain⟨v,v2,u,ws,many,hok,H⟩:=U0 H;have H:=H.swap;have hmem:mem.length≤1048576:=by rw[hok.len];exact Nat.mul_le_mul hok.c2 hok.s2
  obtain⟨a1,c1,rfl⟩:=QD H (Yw mem) (by decide)
  rcases G8 H with ⟨h,_⟩|⟨b,len,cap',s,h,e3,e4,e5,H⟩
  ·injection h with h4 h5 h6;omega
  injection h with h4 h5 h6
  subst h4 h5 h6
  have hrd:QY (QP mem++s) (0+a*1) ((a+n - a)*1) (QP ((mem.drop a).take n)):=by
   have e:(QP ((mem.drop a).take n)).length=(a+n - a)*1:=by simp[QP];omega
   rw[← e];refine QY.of_get fun j v hj=>?_;have hj':j < n:=by have:=(List.getElem?_eq_some_iff.1 hj).1;simp[QP] at this;omega
   rw[List.getElem?_append_left (by simp[QP];omega)];simp only[QP,List.getElem?_map,List.getElem?_take_of_lt hj',List.getElem?_drop] at hj;simp only[QP,List.getElem?_map,Nat.zero_add,Nat.mul_one];exact hj
  have hs1:(QP ((mem.drop a).take n)).all (·.oneCell')=true:=List.all_eq_true.2 fun v hv=>by
   simp only[QP,List.mem_map] at hv;obtain⟨x,_,rfl⟩:=hv;rfl
  refine J1 H ?_;clear H;intro w H;refine YT H ?_;refine Jl 3 [18] H ?_;refine Ug H ?_;refine Xa H ?_;rw[QT (x:=(a:Int)+(n:Int)) (by omega) (by omega),show (a:Int)+(n:Int)=((a+n:Nat):Int) by omega];refine B7 8 rfl (Q8.none rfl) rfl rfl rfl (by omega) (by omega) (by omega) (by kernel_rfl) ?_;refine BC H ?_;refine Jl 12 [18] H ?_;refine Ja 13 ?_;refine Ja 14 ?_;refine Ja 15 ?_;refine Ja 16 ?_;rw[QT (x:=(a:Int)+(n:Int)) (by omega) (by omega),show (a:Int)+(n:Int)=((a+n:Nat):Int) by omega];refine B7 17 rfl (Q8.none rfl) rfl rfl rfl (by omega) (by omega) (by omega) (by kernel_rfl) ?_;refine Jo 18 H ?_;refine S6 H rfl rfl hrd (by simp only[List.length_append,Yw];omega) hs1 rfl ?_;clear H;intro w H;refine BD H ?_;exact Q3 (Jy (GR hok (Z9 e3 e4 e5 H).swap) rfl fun w' H'=>⟨rfl,H'⟩)
def V3 (l:List Nat) (a n v:Nat):List Nat:=l.take a++List.replicate n v++l.drop (a+n)
theorem Vq {l:List Nat} {a n v:Nat} (h:a+n≤l.length):(V3 l a n v).length=l.length:=by simp[V3];omega
theorem Zi {l:List Nat} {a n v:Nat} (h:a+n≤l.length) (i:Nat):(V3 l a n v)[i]? = if a≤i∧i < a+n then some v else l[i]?:=by
 unfold V3;by_cases h1:i < a
 ·rw[if_neg (by omega),List.append_assoc,List.getElem?_append_left (by simp;omega),List.getElem?_take_of_lt h1]
 ·have e1:(l.take a).length=a:=by simp;omega
  rw[List.append_assoc,List.getElem?_append_right (by omega),e1];by_cases h2:i < a+n
  ·rw[if_pos (by omega),List.getElem?_append_left (by simp;omega),List.getElem?_replicate,if_pos (by omega)]
  ·rw[if_neg (by omega),List.getElem?_append_right (by simp;omega),List.getElem?_drop,List.length_replicate];congr 1;omega
theorem RU {l:List Nat} {a n v:Nat} (h:a+n≤l.length) (i:Nat):(V3 l a n v).getD i 0=if a≤i∧i < a+n then v else l.getD i 0:=by
 rw[List.getD_eq_getElem?_getD,Zi h];split
 ·rfl
 ·rw[List.getD_eq_getElem?_getD]
theorem EI {l:List Nat} {a v:Nat}:V3 l a 0 v=l:=by simp[V3]
theorem M6 {l:List Nat} {a n v:Nat} (h:a+n < l.length):(V3 l a n v).set (a+n) v=V3 l a (n+1) v:=by
 apply List.ext_getElem?;intro i;rw[List.getElem?_set,Zi (by omega),Zi (by omega),Vq (by omega)];by_cases h1:a+n=i
 ·subst h1;rw[if_pos rfl,if_pos (by omega),if_pos (by omega)]
 ·rw[if_neg h1];by_cases h2:a≤i∧i < a+n
  ·rw[if_pos h2,if_pos (by omega)]
  ·rw[if_neg h2,if_neg (by omega)]
theorem HA {size:Nat} {mem own ws:List Nat} {many:Nat} (h:RG size mem own ws many) (h63:own.length≤63):∃ x,ws=[x]∧ZB own.length x∧many=YP own.length x∧∀ c,c < own.length→x.testBit c=decide (own.getD c 0≠0):=by
 obtain⟨x,h1,h2,h3⟩:=h.one h63;exact⟨x,h1,⟨h.c1,h63,h2⟩,by rw[EE own x h3];exact h.many,h3⟩
theorem Sr [Q4] (p size:Nat) (mem own:List Nat) (o n:Nat) (h63:own.length≤63) (ho:1≤o) (hn:1≤n) (hn2:n < 1000000) {w:World} {fr:List Q2} [hT:YN 0 Lib.deBruijn64tab fr] (H:Q0 w (ST p size mem own::fr)) :
  Calls Tryz.prog 134 #[pp p,.int .i64 o,.int .i64 n] w (ret fun v w'=>
   (∃ a:Nat,v = .tuple #[.int .i64 a,.int .i64 0]∧a+n≤own.length∧(∀ i,a≤i→i < a+n→own.getD i 0=0)∧Q0 w' (ST p size (V3 mem (a*size) (n*size) 0) (V3 own a n o)::fr)) ∨
   (v = .tuple #[.int .i64 0,.int .i64 11]∧(∀ a,a+n≤own.length→∃ i,a≤i∧i < a+n∧own.getD i 0≠0)∧Q0 w' (ST p size mem own::fr))):=by
 obtain⟨v,v2,u,ws,many,hok,H⟩:=U0 H;obtain⟨x,rfl,hb,rfl,hx⟩:=HA hok h63;refine QQ Tryz.func134 rfl (by kernel_rfl) ?_;refine BE H ?_;refine Vy (fun ms σ w=>ms=[]∧σ 0=pp p∧σ 1 = .int .i64 o∧σ 2 = .int .i64 n∧Q0 w (pts p (row 141 [v,.int .i64 size,v2,pp u])::UL v mem::NL v2 own::ZT u own.length x::fr)) ?_ ?_
 ·refine Ku H ?_;refine Vh H ?_;rw[show decide ((o:Int) < 1)=false from decide_eq_false (by omega)];refine Zg H ?_;refine J2 H ?_;rw[show decide ((n:Int) < 1)=false from decide_eq_false (by omega)];refine V5 H ?_;exact .inl ⟨rfl,rfl,rfl,rfl,rfl,H⟩
 ·clear H;rintro ms σ w ⟨rfl,g0,g1,g2,H⟩;rw[Q1 g0,Q1 g1,Q1 g2];refine J9 H ?_;replace H:=Js [3,0,0,0] 0 H;refine Jc rfl rfl (Sn u _ x n _ hb hn hn2 H) ?_;clear H;rintro r w ⟨hR,H⟩
  rcases hR with ⟨a,rfl,ha,hfree⟩|⟨rfl,hno⟩
  ·have hlen:=hok.len;have hs1:=hok.s1;have hs2:=hok.s2;have hmem:mem.length≤1048576:=by rw[hok.len];exact Nat.mul_le_mul hok.c2 hok.s2
   have hmul:(a+n)*size≤mem.length:=by rw[hlen];exact Nat.mul_le_mul_right _ ha
   have hmul2:(a+n)*size=a*size+n*size:=Nat.add_mul _ _ _;have hns:1*1≤n*size:=Nat.mul_le_mul hn hs1;refine Zu H ?_;refine GY H ?_;refine Jc rfl rfl (Lz u _ x a n true hb ha H) ?_;clear H;rintro v w ⟨rfl,H⟩;refine Ux H ?_;obtain⟨a2,c2,rfl⟩:=QD (H.drop.drop.drop) (QF own) (by decide);refine J8 H ?_;refine Vy (fun ms σ w=>ms=[]∧σ 0=pp p∧σ 2 = .int .i64 n∧σ 8 = .int .i64 a∧Q0 w (NL (.slice a2 own.length c2) (V3 own a n o)::pts p (row 141 [v,.int .i64 size,.slice a2 own.length c2,pp u])::UL v mem::ZT u own.length (X9 x a n true)::fr)) ?_ ?_
   ·refine QS ?_;replace H:=Js [3,1,1,0] 0 H;refine Qj (fun ms σ w q=>ms=[]∧∃ j:Nat,j≤n∧q=n - j∧σ 0=pp p∧σ 1 = .int .i64 o∧σ 2 = .int .i64 n∧σ 8 = .int .i64 a∧σ 10 = .int .i64 ((a+j:Nat):Int)∧Q0 w (NL (.slice a2 own.length c2) (V3 own a j o)::pts p (row 141 [v,.int .i64 size,.slice a2 own.length c2,pp u])::UL v mem::ZT u own.length (X9 x a n true)::fr)) (m:=n) ⟨rfl,0,by omega,rfl,rfl,rfl,rfl,rfl,rfl,by rw[EI];exact H⟩ ?_;clear H;rintro ms σ w q ⟨rfl,j,hj,rfl,g0,g1,g2,g8,g10,H⟩;rw[Q1 g0,Q1 g1,Q1 g2,Q1 g8,Q1 g10];refine K8 H ?_;rw[QT (x:=(a:Int)+(n:Int)) (by omega) (by omega)];refine J8 H ?_;refine Qf rfl (fun h=>QW ?_) (fun h=>Qp ?_)
    ·have hlt:j < n:=by omega
     have hsl:=Vq (l:=own) (a:=a) (n:=j) (v:=o) (by omega);obtain⟨b,s,rfl,H,_,_,hclose⟩:=Yv H (by omega);refine GV H ?_;refine GY H ?_;refine Jd ?_;refine Q5 rfl (Yf H rfl rfl inferInstance rfl (by simp only[List.length_append,QF];omega) rfl ?_);clear H;intro w H;rw[Int.toNat_natCast,ED (by omega),M6 (by omega)] at H;replace H:=hclose _ _ _ (by rw[QF,QF,Vq (by omega),Vq (by omega)]) H;refine Ry H ?_;exact⟨_,⟨rfl,j+1,hlt,rfl,rfl,rfl,rfl,rfl,by rw[show ((a+(j+1):Nat):Int)=((a+j:Nat):Int)+1 by omega];exact Qb (i:=a+j) (by omega),H⟩,by omega⟩
    ·have hge:j=n:=by omega
     subst hge;exact .inl ⟨rfl,rfl,rfl,rfl,rfl,H⟩
   ·clear H;rintro ms σ w ⟨rfl,g0,g2,g8,H⟩;rw[Q1 g0,Q1 g2,Q1 g8];replace H:=Js [2,1,0,0] 0 H;obtain⟨a1,c1,rfl⟩:=QD H (Yw mem) (by decide);obtain⟨b,s,rfl,H,hcap,hsp,hclose⟩:=Yv H (by omega);refine J1 H ?_;clear H;intro w H;refine YT H ?_;refine Jl 3 [19] H ?_;refine DB H ?_;refine Jl 8 [19] H ?_;refine Ja 9 ?_;refine Ja 10 ?_;refine Ja 11 ?_;refine DC H ?_;refine Jf 15 ?_;refine Jl 16 [19] H ?_;refine Ja 17 ?_;rw[QT (x:=(a:Int)+(n:Int)) (by omega) (by omega),show ((a:Int)+(n:Int))*(size:Int)=(((a+n)*size:Nat):Int) by rw[Int.natCast_mul,Int.natCast_add],QT (x:=(((a+n)*size:Nat):Int)) (by omega) (by omega),← Int.natCast_mul,QT (x:=((a*size:Nat):Int)) (by omega) (by omega)];refine B7 18 rfl (Q8.none rfl) rfl rfl rfl (by omega) (by omega) (by omega) (by kernel_rfl) ?_
    have hz:Vv (Qt (.int .u64 0)) ((a+n)*size - a*size)=QP (List.replicate (n*size) 0):=by
     rw[show Qt (.int .u64 0)=[.int .u64 0] from rfl,Rr,show (a+n)*size - a*size=n*size by omega];simp[QP]
    refine Jo 19 H ?_;refine Pq H rfl (by omega) (by rw[hz];simp only[List.length_append,Yw,List.length_replicate];omega) rfl rfl ?_;clear H;intro w H;rw[hz] at H
    have hw:wr (QP mem++s) (0+a*size*1) (QP (List.replicate (n*size) 0))=QP (V3 mem (a*size) (n*size) 0)++s:=by
     rw[D0 _ _ _ (by simp[QP];omega)];rw[List.take_append_of_le_length (by simp[QP];omega),List.drop_append_of_le_length (by simp[QP];omega)];simp only[Nat.zero_add,Nat.mul_one,QP,V3,List.map_append,List.map_take,List.map_drop,List.length_map,List.length_replicate,List.append_assoc]
    rw[hw] at H;replace H:=hclose _ _ _ (by simp[QP,Vq (show a*size+n*size≤mem.length by omega)]) H;refine Jx H ?_;refine V8 H ?_;replace H:=Js [1,0,0,0] 0 H;have hsl:=Vq (l:=own) (v:=o) ha
    have hx':∀ c,c < (V3 own a n o).length→(X9 x a n true).testBit c=decide ((V3 own a n o).getD c 0≠0):=by
     intro c hc;rw[Ly,RU ha];split
     ·simp;omega
     ·exact hx c (by omega)
    have hbf:=hb.fill (a:=a) (k:=n) (on:=true) ha;refine Q3 (Jy (GR (own:=V3 own a n o) (ws:=[X9 x a n true]) (many:=YP own.length (X9 x a n true)) ⟨hs1,hs2,by rw[hsl];exact hok.c1,by rw[hsl];exact hok.c2,by rw[Vq (by omega),hsl,hlen],?_,fun _=>⟨_,rfl,by rw[hsl];exact hbf.lt,hx'⟩⟩ (by rw[hsl];exact H)) rfl fun w' H' => .inl ⟨a,rfl,ha,fun i h1 h2=>?_,H'⟩)
    ·rw[← hsl];exact EE _ _ hx'
    ·have:=hx i (by omega);rw[hfree i h1 h2] at this;simpa using this.symm
  ·refine BF H ?_;refine Yj H ?_;replace H:=Js [1,1,1,0] 0 H;refine Q3 (Jy (GR hok H) rfl fun w' H' => .inr ⟨rfl,fun a ha=>?_,H'⟩);obtain⟨i,h1,h2,h3⟩:=hno a ha;refine⟨i,h1,h2,?_⟩;have:=hx i (by omega);rw[h3] at this;simpa using this.symm
end Go.Proofs.YtmjdnljneifpcaaGreatDoor
