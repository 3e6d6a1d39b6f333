/- Cells: what is proved on the way: every input of the statement; no condition. Texts joined: RemA FldA FldB FldC HdrA HdrB BmpA BmpB StoA. -/
import Derived.Test.YtbnnnljagkjpiaaGreatDoorBhd
import Derived.Test.YtbnnnljagkjpiaaGreatDoorBhc
set_option linter.unusedVariables false
set_option linter.unusedSimpArgs false
set_option linter.unusedSectionVars false
namespace Go.Proofs.YtbnnnljagkjpiaaGreatDoor
open List
open Go.SL
abbrev Rf:=Int×Int
theorem RV:GQ Tryz.prog 132 kp:=LS inferInstance
theorem VL:GQ Tryz.prog 3 (ki .i64):=Ps inferInstance
@[reducible] def vm:Nat→Value:=fun b => .map (some b)
@[reducible] def v1:Int→Value:=fun x => .int .i64 x
@[reducible] def rf (r:Rf):Value := .agg #[.int .i64 r.1,.int .i64 r.2]
structure Gr where
 key:Int
 blk:Nat
 m:List (Rf×Int)
@[reducible] def RY (g:Gr):Q2:=mp kp v1 g.blk g.m
@[reducible] def Zl (g:Gr):Int×Nat:=(g.key,g.blk)
def mem (G:List Gr) (k:Int) (r:Rf):Prop:=∃ g∈G,g.key=k∧r∈g.m.map (·.1)
def UW (bo:Nat) (S:Int→Rf→Prop):Q2:=ex fun G=>star [prop (∀ k r,mem G k r↔S k r),mp (ki .i64) vm bo (G.map Zl),star (G.map RY)]
theorem EL [Q4] {w:World} {bo:Nat} {S:Int→Rf→Prop} {l:List Q2} (H:Q0 w (UW bo S::l)) :
  ∃ G,(∀ k r,mem G k r↔S k r)∧Q0 w (mp (ki .i64) vm bo (G.map Zl)::star (G.map RY)::l):=by
 obtain⟨G,H⟩:=Q0.ex.1 H;have H:=Q0.star.1 H;obtain⟨h1,H⟩:=Q0.prop.1 H;exact⟨G,h1,H⟩
theorem Xk [Q4] {w:World} {bo:Nat} {S:Int→Rf→Prop} {l:List Q2} (G:List Gr) (h:∀ k r,mem G k r↔S k r) (H:Q0 w (mp (ki .i64) vm bo (G.map Zl)::star (G.map RY)::l)):Q0 w (UW bo S::l):=
 Q0.ex.2 ⟨G,Q0.star.2 (Q0.prop.2 ⟨h,H⟩)⟩
theorem XQ [Q4] {w:World} {K V:Type} {ek:K→Value} {vv:V→Value} (b:Nat) {m:List (K×V)} {l:List Q2} (H:Q0 w l) [Ue ek vv b m l]:(m.map (·.1)).Nodup:=by
 obtain⟨es,c,_,h⟩:=Q0.mp H (ek:=ek) (vv:=vv) (b:=b) (m:=m);exact h.nodup
theorem WU (G:List Gr):(G.map Zl).map (·.1)=G.map (·.key):=by simp[Zl,Function.comp_def]
theorem EM {G:List Gr} {k:Int} {b:Nat} (h:Q8 (G.map Zl) k=some b):∃ g g1 g2,G=g1++g::g2∧g.key=k∧g.blk=b:=by
 have h1:=Ud h;obtain⟨g,hg,e⟩:=mem_map.1 h1;obtain⟨g1,g2,rfl⟩:=append_of_mem hg;simp only[Zl,Prod.mk.injEq] at e;exact⟨g,g1,g2,rfl,e.1,e.2⟩
theorem WX {K V:Type} [DecidableEq K] {l1 l2:List (K×V)} {p:K×V} (h:((l1++p::l2).map (·.1)).Nodup):QB (l1++p::l2) p.1=l1++l2:=by
 induction l1 with
 | nil=>simp[QB]
 | cons q l1 ih=>
  simp only[cons_append,map_cons,nodup_cons] at h;have hne:q.1≠p.1:=fun e=>h.1 (by rw[e];simp);simp[QB,hne,ih h.2]
theorem WK {g1 g2:List Gr} {g:Gr} {k:Int} {r:Rf}:mem (g1++g::g2) k r↔(g.key=k∧r∈g.m.map (·.1))∨mem (g1++g2) k r:=by
 unfold mem;simp only[mem_append,mem_cons];constructor
 ·rintro⟨x,hx|rfl|hx,h⟩
  ·exact .inr ⟨x,.inl hx,h⟩
  ·exact .inl h
  ·exact .inr ⟨x,.inr hx,h⟩
 ·rintro(h|⟨x,hx|hx,h⟩)
  ·exact⟨g,.inr (.inl rfl),h⟩
  ·exact⟨x,.inl hx,h⟩
  ·exact⟨x,.inr (.inr hx),h⟩
theorem RZ {G:List Gr} {k:Int} {r:Rf} (h:mem G k r):k∈G.map (·.key):=by
 obtain⟨g,hg,rfl,_⟩:=h;exact mem_map_of_mem hg
theorem CV {g1 g2:List Gr} {g:Gr} (h:((g1++g::g2).map (·.key)).Nodup):g.key∉(g1++g2).map (·.key):=by
 rw[((perm_middle (a:=g) (l₁:=g1) (l₂:=g2)).map (·.key)).nodup_iff] at h;exact(nodup_cons.1 h).1
theorem MZ {g1 g2:List Gr} {g g':Gr} (hk:g'.key=g.key) (hn:((g1++g::g2).map (·.key)).Nodup) {k:Int} {r:Rf}:mem (g1++g'::g2) k r↔if k=g.key then r∈g'.m.map (·.1) else mem (g1++g::g2) k r:=by
 have hr:=CV hn;rw[WK,WK,hk];by_cases h:k=g.key
 ·subst h;simp only[if_true,true_and];exact⟨fun h=>h.elim id fun h=>absurd (RZ h) hr,.inl⟩
 ·rw[if_neg h];constructor
  ·rintro(⟨e,_⟩|h')
   ·exact absurd e.symm h
   ·exact .inr h'
  ·rintro(⟨e,_⟩|h')
   ·exact absurd e.symm h
   ·exact .inr h'
theorem MG [Q4] (bo:Nat) (S:Int→Rf→Prop) (k:Int) (r:Rf) {w:World} {fr:List Q2} (H:Q0 w (UW bo S::fr)) :
  Calls Tryz.prog 107 #[.map (some bo),.int .i64 k,rf r] w (ret fun v w'=>Q0 w' (UW bo (fun k' r'=>S k' r'∧¬ (k'=k∧r'=r))::fr)):=by
 obtain⟨a,b⟩:=r;refine QV Tryz.func107 rfl (by kernel_rfl) ?_;obtain⟨G,hG,H⟩:=EL H;refine J8 H ?_;clear H;intro b5 w H;refine Rs H ?_;refine Q5 rfl (Zv (key:=k) H rfl rfl VL rfl ?_);have hn0:=XQ bo H;have hn:(G.map (·.key)).Nodup:=by rw[← WU];exact hn0
 cases hf:Q8 (G.map Zl) k with
 | none=>
  refine K7 H ?_;refine Q5 rfl (Pw (key:=(a,b)) rfl rfl RV rfl ?_);refine Rs H ?_;refine Q5 rfl (Zv (key:=k) H rfl rfl VL rfl ?_);rw[hf];refine Q5 rfl (Px rfl rfl ?_);refine J0 H ?_;refine VE rfl ?_;refine J5 H ?_;refine Q5 rfl (XL (key:=k) H rfl rfl VL rfl ?_);clear H;intro w H;refine Q6 ?_;have hk:=Rm.1 hf;rw[B6 hk] at H;refine Y7 _ (.inl rfl) (Xk G (fun k' r'=>?_) H.drop) rfl (fun w' H'=>H');rw[← hG k' r'];exact⟨fun h=>⟨h,fun e=>hk (by rw[WU,← e.1];exact RZ h)⟩,(·.1)⟩
 | some bi=>
  obtain⟨g,g1,g2,rfl,rfl,rfl⟩:=EM hf;have H:=(Q0.pick rfl).1 (H.pull 2);refine K7 H ?_;have hi:=XQ g.blk H;refine Q5 rfl (XL (key:=(a,b)) H rfl rfl RV rfl ?_);clear H;intro w H;refine Rs H ?_;refine Q5 rfl (Zv (key:=g.key) H rfl rfl VL rfl ?_);rw[hf];refine Q5 rfl (Fq kp v1 H rfl rfl ?_);refine J0 H ?_;refine Ri rfl (fun ht=>?_) (fun ht=>?_)
  ·refine J5 H ?_;refine Q5 rfl (XL (key:=g.key) H rfl rfl VL rfl ?_);clear H;intro w H;refine Q6 ?_
   have e:QB ((g1++g::g2).map Zl) g.key=(g1++g2).map Zl:=by
    simp only[map_append,map_cons] at hn0 ⊢;exact WX (p:=Zl g) (by simpa using hn0)
   rw[e] at H;refine Y7 _ (.inl rfl) (Xk (g1++g2) (fun k' r'=>?_) (l:=fr) ?_) rfl (fun w' H'=>H')
   ·have hr:=CV hn;have hz:QB g.m (a,b)=[]:=eq_nil_of_length_eq_zero (by simpa using ht);rw[← hG k' r',WK];constructor
    ·intro h;exact⟨.inr h,fun e=>hr (by rw[← e.1];exact RZ h)⟩
    ·rintro⟨⟨rfl,h⟩|h,h2⟩
     ·have:=(B7 (m:=g.m) (x:=(a,b)) (y:=r') hi).2 ⟨fun e=>h2 ⟨rfl,e⟩,h⟩;rw[hz] at this;simp at this
     ·exact h
   ·replace H:=Js [3,1] 2 H;exact H
  ·refine QR ?_;replace H:=Js [0,0,1] 1 H;refine Y7 _ (.inl rfl) (Xk (g1++{ g with m:=QB g.m (a,b) }::g2) (fun k' r'=>?_) (l:=fr) ?_) rfl (fun w' H'=>H')
   ·rw[MZ (g:=g) (g':={ g with m:=QB g.m (a,b) }) rfl hn,← hG k' r'];split
    ·rename_i e;subst e;rw[B7 hi,WK];have hr:=CV hn;constructor
     ·rintro⟨h1,h2⟩;exact⟨.inl ⟨rfl,h2⟩,fun e=>h1 e.2⟩
     ·rintro⟨⟨_,h⟩|h,h2⟩
      ·exact⟨fun e=>h2 ⟨rfl,e⟩,h⟩
      ·exact absurd (RZ h) hr
    ·rename_i e;exact⟨fun h=>⟨h,fun e'=>e e'.1⟩,(·.1)⟩
   ·have H:=((Q0.pick (R:=RY) (gs:=g1++{ g with m:=QB g.m (a,b) }::g2) rfl).2 H).swap;simpa only[map_append,map_cons,map_nil,Zl] using H
theorem MU [Q4] (bo:Nat) (S:Int→Rf→Prop) (k:Int) (r:Rf) {w:World} {fr:List Q2} (H:Q0 w (UW bo S::fr)) :
  Calls Tryz.prog 238 #[.map (some bo),.int .i64 k,rf r] w (ret fun v w'=>Q0 w' (UW bo (fun k' r'=>S k' r'∨(k'=k∧r'=r))::fr)):=by
 obtain⟨a,b⟩:=r;refine QV Tryz.func238 rfl (by kernel_rfl) ?_;obtain⟨G,hG,H⟩:=EL H;refine J8 H ?_;clear H;intro b5 w H;refine Rs H ?_;refine Q5 rfl (Zv (key:=k) H rfl rfl VL rfl ?_);have hn0:=XQ bo H;have hn:(G.map (·.key)).Nodup:=by rw[← WU];exact hn0
 cases hf:Q8 (G.map Zl) k with
 | none=>
  refine Q5 rfl (Lc rfl rfl (.inl rfl) rfl ?_);refine Q6 ?_;refine VE rfl ?_;refine J5 H ?_;refine Q5 rfl (XJ v1 kp H rfl ?_);clear H;intro b12 w H;refine Q5 rfl (Uf (key:=k) (v:=b12) H rfl rfl rfl VL rfl ?_);clear H;intro w H;refine Rs H ?_;have hk:=Rm.1 hf;refine Q5 rfl (Zv (key:=k) H rfl rfl VL rfl ?_);have hf2:Q8 (Vm (G.map Zl) k b12) k=some b12:=by rw[Gd,if_pos rfl]
  rw[hf2];refine K7 H ?_;refine Q5 rfl (Uf (key:=(a,b)) (v:=1) H rfl rfl rfl RV rfl ?_);clear H;intro w H;refine Q6 ?_;rw[XF hk] at H;replace H:=Js [0,2,1] 1 H;refine Y7 _ (.inl rfl) (Xk (G++{ key:=k,blk:=b12,m:=[((a,b),1)] }::[]) (fun k' r'=>?_) (l:=fr) ?_) rfl (fun w' H'=>H')
  ·rw[WK,append_nil,hG k' r'];constructor
   ·rintro(⟨rfl,h⟩|h)
    ·exact .inr ⟨rfl,by simpa using h⟩
    ·exact .inl h
   ·rintro(h|⟨rfl,rfl⟩)
    ·exact .inr h
    ·exact .inl ⟨rfl,by simp⟩
  ·have H:=((Q0.pick (R:=RY) (gs:=G++{ key:=k,blk:=b12,m:=[((a,b),1)] }::[]) rfl).2 (by rw[append_nil];exact H)).swap;simpa only[map_append,map_cons,map_nil,Zl] using H
 | some bi=>
  obtain⟨g,g1,g2,rfl,rfl,rfl⟩:=EM hf;have H:=(Q0.pick rfl).1 (H.pull 2);refine Q5 rfl (Lc rfl rfl (.inl rfl) rfl ?_);refine Q6 ?_;refine VY rfl (QR ?_);refine J5 H ?_;refine Q5 rfl (Zv (key:=g.key) H rfl rfl VL rfl ?_);rw[hf];refine K7 H ?_;refine Q5 rfl (Uf (key:=(a,b)) (v:=1) H rfl rfl rfl RV rfl ?_);clear H;intro w H;refine Q6 ?_;replace H:=Js [0,0,1] 1 H;refine Y7 _ (.inl rfl) (Xk (g1++{ g with m:=Vm g.m (a,b) 1 }::g2) (fun k' r'=>?_) (l:=fr) ?_) rfl (fun w' H'=>H')
  ·rw[MZ (g:=g) (g':={ g with m:=Vm g.m (a,b) 1 }) rfl hn,← hG k' r'];split
   ·rename_i e;subst e;rw[LH,WK];have hr:=CV hn;constructor
    ·rintro(h|h)
     ·exact .inr ⟨rfl,h⟩
     ·exact .inl (.inl ⟨rfl,h⟩)
    ·rintro((⟨_,h⟩|h)|⟨_,h⟩)
     ·exact .inr h
     ·exact absurd (RZ h) hr
     ·exact .inl h
   ·rename_i e;exact⟨.inl,fun h=>h.elim id fun e'=>absurd e'.1 e⟩
  ·have H:=((Q0.pick (R:=RY) (gs:=g1++{ g with m:=Vm g.m (a,b) 1 }::g2) rfl).2 H).swap;simpa only[map_append,map_cons,map_nil,Zl] using H
@[reducible] def pp (b:Nat):Value := .pointer (some ⟨b,0,none⟩)
theorem Qb {x:Int} (h1 : -9223372036854775808≤x) (h2:x≤9223372036854775807):IntKind.i64.wrap x=x:=by
 simp[IntKind.wrap,IntKind.bits,IntKind.signed];omega
theorem Qa {i:Nat} (h:i < 1000000000):Value.int .i64 (IntKind.i64.wrap ((i:Int)+1)) = .int .i64 ((i+1:Nat):Int):=by
 rw[Qb (by omega) (by omega)];rfl
abbrev Fl:=Nat×Nat
def RG (f:Fl):Prop:=0 < f.2∧f.1+f.2≤64
@[reducible] def fv (f:Fl):Value := .agg #[.int .i64 f.1,.int .i64 f.2]
def MX (f:Fl):List Value:=[.int .i64 f.1,.int .i64 f.2]
def AI (l:List Fl):List Value:=l.flatMap MX
def QP (l:List Nat):List Value:=l.map fun x:Nat=>Value.int .u64 (x:Int)
theorem EN (l:List Fl):(AI l).length=l.length*2:=by
 induction l with
 | nil=>rfl
 | cons p L ih=>simp only[AI,MX,flatMap_cons,length_append,length_cons,length_nil] at ih ⊢;omega
theorem Yz (l:List Nat):(QP l).length=l.length*1:=by simp[QP]
theorem Sp (a b:List Nat):QP (a++b)=QP a++QP b:=by simp[QP]
theorem HC {l:List Nat} {spare:List Value} {i x:Nat} (h:l[i]? = some x):(QP l++spare)[0+i*1]? = some (.int .u64 x):=by
 have hi:=(List.getElem?_eq_some_iff.1 h).1;rw[Nat.zero_add,Nat.mul_one,getElem?_append_left (by simpa [QP] using hi)];simp[QP,h]
theorem Sq {L:List Fl} {i:Nat} {p:Fl} (h:L[i]? = some p):(AI L)[i*2]? = some (.int .i64 p.1)∧(AI L)[i*2+1]? = some (.int .i64 p.2):=by
 induction L generalizing i with
 | nil=>simp at h
 | cons x L ih=>
  cases i with
  | zero=>
   simp at h;subst h;exact⟨rfl,rfl⟩
  | succ i=>
   have:=ih (i:=i) (by simpa using h);rw[show (i+1)*2=i*2+2 by omega];exact this
theorem HD {L:List Fl} {spare:List Value} {i:Nat} {p:Fl} (h:L[i]? = some p):QZ (AI L++spare) (0+i*2) 2 [.int .i64 p.1,.int .i64 p.2]:=by
 obtain⟨h1,h2⟩:=Sq h;have hi:=(List.getElem?_eq_some_iff.1 h).1;have hl:=EN L;rw[Nat.zero_add];refine .cons ?_ (.cons ?_ (.nil _))
 ·rw[getElem?_append_left (by omega)];exact h1
 ·rw[getElem?_append_left (by omega)];exact h2
@[reducible] def FL (v:Value) (l:List Fl):Q2:=QC 308 2 v (AI l)
@[reducible] def UL (v:Value) (l:List Nat):Q2:=QC 94 1 v (QP l)
theorem MK [Q4] (f:Fl) (hf:RG f) {w:World} {fr:List Q2} (H:Q0 w fr):Calls Tryz.prog 236 #[fv f] w (ret fun v w'=>v = .bool true∧Q0 w' fr):=by
 obtain⟨a,d⟩:=f;obtain⟨h1,h2⟩:=hf;dsimp only at h1 h2;refine QV Tryz.func236 rfl (by kernel_rfl) ?_;refine J8 H ?_;clear H;intro b1 w H;refine J0 H ?_;refine Kv H ?_;rw[show decide ((a:Int)≥0)=true from decide_eq_true (by omega)];refine Wy H ?_;rw[show decide ((a:Int) < 64)=true from decide_eq_true (by omega)];refine BW H ?_;rw[show decide ((d:Int) > 0)=true from decide_eq_true (by omega)];refine YP H ?_;refine DC H ?_;refine Yy H ?_;rw[show decide ((d:Int)≤IntKind.i64.wrap (64 - (a:Int)))=true from decide_eq_true (by rw[Qb (by omega) (by omega)];omega)];refine J2 H ?_;exact Q3 (Jy H.drop rfl fun w' H'=>⟨rfl,H'⟩)
theorem EO [Q4] (f:Fl) (hf:RG f) {w:World} {fr:List Q2} (H:Q0 w fr):Calls Tryz.prog 206 #[fv f] w (ret fun v w'=>v = .int .u64 (YO f.1 f.2)∧Q0 w' fr):=by
 obtain⟨a,d⟩:=f;obtain⟨h1,h2⟩:=hf;dsimp only at h1 h2;refine QV Tryz.func206 rfl (by kernel_rfl) ?_;refine J8 H ?_;clear H;intro b1 w H;refine J0 H ?_;have e64:IntKind.i64.wrap (64 - (d:Int))=((64 - d:Nat):Int):=by rw[Qb (by omega) (by omega)];omega
 have e1:Uz .u64 18446744073709551615 ((64 - d:Nat):Int)=((2 ^ d - 1:Nat):Int):=by
  rw[show (18446744073709551615:Int)=((18446744073709551615:Nat):Int) from rfl,BZ (by omega) rfl];congr 1;have hp:(18446744073709551615:Nat)=2 ^ d*2 ^ (64 - d) - 1:=by rw[← Nat.pow_add,show d+(64 - d)=64 by omega]
  rw[hp];have hd:=Nat.two_pow_pos (64 - d);have hd2:=Nat.two_pow_pos d
  rw[show 2 ^ d*2 ^ (64 - d) - 1=(2 ^ (64 - d) - 1)+2 ^ (64 - d)*(2 ^ d - 1) by
   rw[Nat.mul_sub,Nat.mul_comm (2 ^ d),Nat.mul_one];have:2 ^ (64 - d)≤2 ^ (64 - d)*2 ^ d:=Nat.le_mul_of_pos_right _ hd2;omega]
  rw[Nat.add_mul_div_left _ _ hd,Nat.div_eq_of_lt (by omega),Nat.zero_add]
 have e2:XE .u64 ((2 ^ d - 1:Nat):Int) (a:Int)=(YO a d:Nat):=by
  rw[Fw (by omega)];have:=BG (a:=a) (wd:=d) h2;unfold YO at this ⊢;rw[Nat.mod_eq_of_lt this]
 refine J1 H ?_;clear H;intro w H;refine Kw H ?_;rw[e64]
 refine Gc (v := .int .u64 (Uz .u64 18446744073709551615 ((64 - d:Nat):Int))) 3 rfl (Q9.none rfl) (by
  show (if ((64 - d:Nat):Int) < 0 then none else some _)=_;rw[if_neg (by omega)]) (by kernel_rfl) ?_
 rw[e1];refine Kx H ?_
 refine Gc (v := .int .u64 (XE .u64 ((2 ^ d - 1:Nat):Int) (a:Int))) 6 rfl (Q9.none rfl) (by
  show (if (a:Int) < 0 then none else some _)=_;rw[if_neg (by omega)]) (by kernel_rfl) ?_
 rw[e2];refine Ja 7 ?_;refine Jx H ?_;exact Q3 (Jy H.drop rfl fun w' H'=>⟨rfl,H'⟩)
def RU (fs:List Fl):Prop:=(∀ f∈fs,RG f)∧fs.Pairwise (fun f g=>f.1+f.2≤g.1)
theorem RU.at {fs:List Fl} (h:RU fs) {i:Nat} {f:Fl} (hf:fs[i]? = some f):RG f:=h.1 f (mem_of_getElem? hf)
theorem MR [Q4] (v:Value) (fs:List Fl) (hfs:RU fs) (hl:fs.length≤1000000) {w:World} {fr:List Q2} (H:Q0 w (FL v fs::fr)) :
  Calls Tryz.prog 205 #[v] w (ret fun x w'=>x = .bool true∧Q0 w' (FL v fs::fr)):=by
 obtain⟨a,c,rfl⟩:=QD H (EN fs) (by decide);refine QV Tryz.func205 rfl (by kernel_rfl) ?_;refine VJ H ?_;refine Wz H ?_;refine Qi (fun ms σ w n=>ms=[]∧∃ (i A:Nat),i≤fs.length∧n=fs.length - i∧(∀ f∈fs.drop i,A < 2 ^ f.1)∧σ 3 = .int .u64 A∧σ 6 = .slice a fs.length c∧σ 7 = .int .i64 fs.length∧σ 8 = .int .i64 i∧Q0 w (FL (.slice a fs.length c) fs::fr)) (m:=fs.length) ⟨rfl,0,0,by omega,rfl,fun f _=>Nat.two_pow_pos _,rfl,rfl,rfl,rfl,H⟩ ?_;clear H;rintro ms σ w n ⟨rfl,i,A,hi,rfl,hA,g3,g6,g7,g8,H⟩;rw[Q1 g3,Q1 g6,Q1 g7,Q1 g8];refine J6 H ?_;refine Qh rfl (fun h=>QR ?_) (fun h=>Qj ?_)
 ·have hlt:i < fs.length:=by omega
  have hx:=getElem?_eq_getElem hlt;have hdr:fs.drop i=fs[i]::fs.drop (i+1):=drop_eq_getElem_cons hlt;have hpw:=hfs.2;rw[← take_append_drop i fs,hdr] at hpw;have hpw2:=(pairwise_cons.1 (pairwise_append.1 hpw).2.1).1;rw[hdr] at hA;generalize fs[i]=f at hx hpw2 hA;have hf:=hfs.at hx;have hAf:=hA f (by simp);have hA64:A < 18446744073709551616:=Nat.lt_of_lt_of_le hAf (Nat.le_trans (Nat.pow_le_pow_right (by decide) (show f.1≤64 by have:=hf.2;omega)) (by decide));have hm64:=BG (a:=f.1) (wd:=f.2) hf.2
  have hand:YG .and .u64 (A:Int) (YO f.1 f.2:Nat)=0:=by
   rw[DR hA64 hm64,Lv,Nat.div_eq_of_lt hAf];simp
  have hor:YG .or .u64 (A:Int) (YO f.1 f.2:Nat)=((A+YO f.1 f.2:Nat):Int):=by
   rw[Ls hA64 hm64];unfold YO;rw[Lw hAf]
  obtain⟨b,s,rfl,H,hclose⟩:=Qw H (by omega);refine Y9 H ?_;refine Jd ?_;refine Q5 rfl (VH H rfl (HD hx) rfl ?_);refine VQ H ?_;clear H;intro b5 w H;refine J4 H ?_;clear H;intro w H;refine Q6 ?_
  repeat refine Q7 ?_
  refine QG ?_;refine Q5 rfl (VH H rfl (by repeat first|exact .nil _|apply QZ.cons rfl) rfl ?_);refine Jc rfl rfl (MK f hf H) ?_;clear H;rintro v w ⟨rfl,H⟩;refine BA H ?_;refine K8 H ?_;refine QT rfl rfl rfl (V0 (a:=[]) (b:=[]) rfl rfl (call (EO f hf H) ?_));clear H;rintro v w ⟨rfl,H⟩;refine VZ rfl rfl (v := .int .u64 (YG .and .u64 (A:Int) (YO f.1 f.2:Nat))) rfl rfl ?_;rw[hand];refine Rt H ?_;refine GZ H ?_;refine Jc rfl rfl (EO f hf H) ?_;clear H;rintro v w ⟨rfl,H⟩;refine UV (v := .int .u64 (YG .or .u64 (A:Int) (YO f.1 f.2:Nat))) rfl rfl ?_;rw[hor];refine YI H ?_;replace H:=hclose _ _ H.drop;refine⟨_,⟨rfl,i+1,A+YO f.1 f.2,hlt,rfl,fun g hg=>?_,rfl,rfl,rfl,Qa (by omega),H⟩,by omega⟩;have h1:=hpw2 g hg
  have h2:A+YO f.1 f.2 < 2 ^ (f.1+f.2):=by
   unfold YO;rw[Nat.pow_add,Nat.sub_mul,Nat.one_mul,Nat.mul_comm (2 ^ f.2)];have:2 ^ f.1≤2 ^ f.1*2 ^ f.2:=Nat.le_mul_of_pos_right _ (Nat.two_pow_pos _);omega
  exact Nat.lt_of_lt_of_le h2 (Nat.pow_le_pow_right (by decide) h1)
 ·refine VJ H ?_;exact Q3 (Jy H rfl fun w' H'=>⟨rfl,H'⟩)
def Yr (x:Nat) (f:Fl):Nat:=x / 2 ^ f.1 % 2 ^ f.2
theorem HE [Q4] (x:Nat) (hx64:x < 18446744073709551616) (v:Value) (fs:List Fl) (hfs:RU fs) (hl:fs.length≤1000) {w:World} {fr:List Q2} (H:Q0 w (FL v fs::fr)) :
  Calls Tryz.prog 134 #[.int .u64 x,v] w (ret fun r w'=>∃ u,r = .tuple #[u,.int .i64 0]∧Q0 w' (UL u (fs.map (Yr x))::FL v fs::fr)):=by
 obtain⟨a,c,rfl⟩:=QD H (EN fs) (by decide);refine QV Tryz.func134 rfl (by kernel_rfl) ?_;refine DD H ?_;refine Jc rfl rfl (MR _ fs hfs (by omega) H) ?_;clear H;rintro v w ⟨rfl,H⟩;refine Vo H ?_;refine Wz H ?_;refine Qi (fun ms σ w n=>ms=[]∧∃ (i:Nat) (g:Value),i≤fs.length∧n=fs.length - i∧σ 0 = .int .u64 x∧σ 6=g∧σ 12 = .slice a fs.length c∧σ 13 = .int .i64 fs.length∧σ 14 = .int .i64 i∧Q0 w (UL g ((fs.take i).map (Yr x))::FL (.slice a fs.length c) fs::fr)) (m:=fs.length) ⟨rfl,0,_,by omega,rfl,rfl,rfl,rfl,rfl,rfl,Yn H⟩ ?_;clear H;rintro ms σ w n ⟨rfl,i,g,hi,rfl,g0,g6,g12,g13,g14,H⟩;obtain⟨ag,cg,rfl⟩:=QD H (Yz _) (by decide);rw[Q1 g0,Q1 g6,Q1 g12,Q1 g13,Q1 g14];refine J6 H ?_;refine Qh rfl (fun h=>QR ?_) (fun h=>Qj ?_)
 ·have hlt:i < fs.length:=by omega
  have hx:=getElem?_eq_getElem hlt;generalize fs[i]=f at hx;have hf:=hfs.at hx;have hm64:=BG (a:=f.1) (wd:=f.2) hf.2;have hf1:f.1 < 64:=by have:=hf.1;have:=hf.2;omega
  have hsh:Uz .u64 (YG .and .u64 (x:Int) (YO f.1 f.2:Nat)) (f.1:Int)=(Yr x f:Nat):=by
   rw[DR hx64 hm64,BZ hf1 rfl,SQ];rfl
  replace H:=Js [1,0] 0 H;obtain⟨b,s,rfl,H,hclose⟩:=Qw H (by omega);refine Y9 H ?_;refine Jd ?_;refine Q5 rfl (VH H rfl (HD hx) rfl ?_);refine VQ H ?_;clear H;intro b8 w H;refine J4 H ?_;clear H;intro w H;refine Q6 ?_;replace H:=hclose _ _ H.swap;replace H:=Js [2,1,0] 0 H;refine J1 H ?_;clear H;intro w H;refine Ja 0 ?_;refine Ja 1 ?_;refine VP 2 [3,8,9] H rfl (Q9.none rfl) rfl (by repeat first|exact .nil _|apply QZ.cons rfl) (by kernel_rfl) ?_;refine Jf 5 ?_;refine Jl 6 [8,9] H ?_;refine Jo 3 H ?_;refine Jk rfl rfl (EO f hf H) ?_;clear H;rintro v w ⟨rfl,H⟩;refine Gc (v := .int .u64 (YG .and .u64 (x:Int) (YO f.1 f.2:Nat))) 4 rfl (Q9.none rfl) rfl (by kernel_rfl) ?_
  refine Gc (v := .int .u64 (Uz .u64 (YG .and .u64 (x:Int) (YO f.1 f.2:Nat)) (f.1:Int))) 7 rfl (Q9.none rfl) (by
   show (if (f.1:Int) < 0 then none else some _)=_;rw[if_neg (by omega)]) (by kernel_rfl) ?_
  rw[hsh];refine Jo 8 H ?_;refine Ru H ?_;clear H;intro b26 w H;replace H:=Js [1,0,1] 1 H;refine Jo 9 H ?_;refine YF H rfl rfl (by repeat first|exact .nil _|apply QZ.cons rfl) rfl (by decide) (by rw[Yz,length_map,length_take];simp only[length_cons,length_nil];omega) rfl rfl ?_;clear H;intro v27 w H;obtain⟨a27,m27,c27,rfl⟩:=Qq H;refine Ja 10 ?_;refine DE H ?_;replace H:=Js [0,1] 1 H;refine⟨_,⟨rfl,i+1,_,hlt,rfl,rfl,rfl,rfl,rfl,Qa (by omega),?_⟩,by omega⟩
  have ht:(fs.take (i+1)).map (Yr x)=(fs.take i).map (Yr x)++[Yr x f]:=by
   rw[take_add_one,hx,map_append];rfl
  rw[ht];show Q0 w (QC _ 1 _ (QP ((fs.take i).map (Yr x)++[Yr x f]))::_);rw[Sp];exact H
 ·have hge:i=fs.length:=by omega
  subst hge;rw[take_length] at H;refine VG H ?_;exact Q3 (Y7 (vs:=[.slice ag (List.map (Yr x) fs).length cg,.int .i64 0]) _ (.inr rfl) H (by rw[take_length];rfl) fun w' H'=>⟨_,rfl,H'⟩)
theorem MW:∀ (f x:Nat),Lib.bitLenAux f x≤f
 | 0,_=>Nat.le_refl _
 | f+1,x=>by
  unfold Lib.bitLenAux;split
  ·omega
  ·have:=MW f (x / 2);omega
theorem Sr {x k:Nat} (h:x < 2 ^ k) (hk:k≤64):Lib.bitLen x≤k:=by
 unfold Lib.bitLen;rw[Lib.bitLenAux_fuel k x h 64 hk];exact MW k x
theorem Ss [Q4] (x:Nat) (hx:x < 18446744073709551616) {w:World} {fr:List Q2} (H:Q0 w fr):Calls Tryz.prog 181 #[.int .u64 x] w (ret fun v w'=>v = .int .i64 (Lib.bitLen x)∧Q0 w' fr):=by
 refine(Any.bits_Len64 Tryz.laysLen (x:Int) w (by omega) (by omega)).mono ?_;rintro e w' ⟨rfl,rfl⟩;exact⟨by rw[Int.toNat_natCast],H⟩
theorem EP {k:Nat} (h:k≤64):2 ^ k≤18446744073709551616:=Nat.le_trans (Nat.pow_le_pow_right (by decide) h) (by decide)
theorem Su [Q4] (x:Nat) (f:Fl) (y:Nat) (hf:RG f) (hx:x < 2 ^ f.1) (hy:y < 2 ^ f.2) {w:World} {fr:List Q2} (H:Q0 w fr) :
  Calls Tryz.prog 233 #[.int .u64 x,fv f,.int .u64 y] w (ret fun v w'=>v = .tuple #[.int .u64 ((x+y*2 ^ f.1:Nat):Int),.int .i64 0]∧Q0 w' fr):=by
 have h1:=hf.1;have h2:=hf.2;have hx64:x < 18446744073709551616:=Nat.lt_of_lt_of_le hx (EP (by omega));have hy64:y < 18446744073709551616:=Nat.lt_of_lt_of_le hy (EP (by omega));have hm64:=BG (a:=f.1) (wd:=f.2) hf.2;have hbl:=Sr hy (by omega);have e1:YG .andNot .u64 (x:Int) (YO f.1 f.2:Nat)=(x:Nat):=by rw[S9 hx64 hm64,SV hx hf.2]
 have hyy:y*2 ^ f.1 < 18446744073709551616:=by
  have:y*2 ^ f.1 < 2 ^ f.2*2 ^ f.1:=(Nat.mul_lt_mul_right (Nat.two_pow_pos _)).2 hy;rw[← Nat.pow_add] at this;exact Nat.lt_of_lt_of_le this (EP (by omega))
 have e2:XE .u64 (y:Int) (f.1:Int)=((y*2 ^ f.1:Nat):Int):=by rw[Fw (by omega),Nat.mod_eq_of_lt hyy]
 have e3:YG .or .u64 (x:Int) ((y*2 ^ f.1:Nat):Int)=((x+y*2 ^ f.1:Nat):Int):=by rw[Ls hx64 hyy,Lw hx]
 obtain⟨a,d⟩:=f;dsimp only at h1 h2 hx hy hm64 hbl e1 e2 e3 hyy;refine QV Tryz.func233 rfl (by kernel_rfl) ?_;refine J8 H ?_;clear H;intro b4 w H;refine K9 H ?_;refine Qm (fun ms σ w=>ms=[]∧σ 0 = .int .u64 x∧σ 2 = .int .u64 y∧σ 4=pp b4∧Q0 w (pts b4 (row 308 [.int .i64 a,.int .i64 d])::fr)) ?_ ?_
 ·refine QS ?_;refine GG H ?_;refine Jc rfl rfl (MK (a,d) hf H) ?_;clear H;rintro v w ⟨rfl,H⟩;refine KQ H ?_;refine J1 H ?_;clear H;intro w H;refine Ja 0 ?_;refine Jf 2 ?_;refine Jl 3 [] H ?_;refine Jo 1 H ?_;refine Jk rfl rfl (Ss y hy64 H) ?_;clear H;rintro v w ⟨rfl,H⟩;refine Ja 4 ?_;rw[show decide (((Lib.bitLen y:Nat):Int) > (d:Int))=false from decide_eq_false (by omega)];refine Ja 5 ?_;refine Jx H ?_;refine V8 H ?_;exact⟨rfl,rfl,rfl,rfl,rfl,H⟩
 ·clear H;rintro ms σ w ⟨rfl,g0,g2,g4,H⟩;rw[Q1 g0,Q1 g2,Q1 g4];refine J1 H ?_;clear H;intro w H;refine Ja 0 ?_;refine VP 1 [2] H rfl (Q9.none rfl) rfl (by repeat first|exact .nil _|apply QZ.cons rfl) (by kernel_rfl) ?_;refine Ja 4 ?_;refine Jf 5 ?_;refine Jl 6 [] H ?_
  refine Gc (v := .int .u64 (XE .u64 (y:Int) (a:Int))) 7 rfl (Q9.none rfl) (by
   show (if (a:Int) < 0 then none else some _)=_;rw[if_neg (by omega)]) (by kernel_rfl) ?_
  rw[e2];refine Jo 2 H ?_;refine Jk rfl rfl (EO (a,d) hf H) ?_;clear H;rintro v w ⟨rfl,H⟩;refine Gc (v := .int .u64 (YG .andNot .u64 (x:Int) (YO a d:Nat))) 3 rfl (Q9.none rfl) rfl (by kernel_rfl) ?_;rw[e1];refine Gc (v := .int .u64 (YG .or .u64 (x:Int) ((y*2 ^ a:Nat):Int))) 8 rfl (Q9.none rfl) rfl (by kernel_rfl) ?_;rw[e3];refine Ja 9 ?_;refine Ja 10 ?_;refine Jx H ?_;exact Q3 (Jy H.drop rfl fun w' H'=>⟨rfl,H'⟩)
def Zx:List Fl→List Nat→Nat
 | f::fs,x::xs=>x*2 ^ f.1+Zx fs xs
 | _,_=>0
theorem MA:∀ (fs:List Fl) (xs:List Nat) (f:Fl) (x:Nat),fs.length=xs.length→Zx (fs++[f]) (xs++[x])=Zx fs xs+x*2 ^ f.1
 | [],[],f,x,_=>by simp[Zx]
 | [],_::_,_,_,h=>by simp at h
 | _::_,[],_,_,h=>by simp at h
 | g::fs,y::xs,f,x,h=>by
  have ih:=MA fs xs f x (by simpa using h);show y*2 ^ g.1+Zx (fs++[f]) (xs++[x])=y*2 ^ g.1+Zx fs xs+x*2 ^ f.1;rw[ih];omega
theorem ES [Q4] (vf vx:Value) (fs:List Fl) (xs:List Nat) (hfs:RU fs) (hl:fs.length≤1000) (hlen:fs.length=xs.length) (hb:∀ (i:Nat) (f:Fl) (x:Nat),fs[i]? = some f→xs[i]? = some x→x < 2 ^ f.2) {w:World} {fr:List Q2} (H:Q0 w (FL vf fs::UL vx xs::fr)) :
  Calls Tryz.prog 191 #[vf,vx] w (ret fun v w'=>v = .tuple #[.int .u64 (Zx fs xs),.int .i64 0]∧Q0 w' (FL vf fs::UL vx xs::fr)):=by
 obtain⟨a,c,rfl⟩:=QD H (EN fs) (by decide);obtain⟨a1,c1,rfl⟩:=QD H.drop (Yz xs) (by decide);refine QV Tryz.func191 rfl (by kernel_rfl) ?_;refine DD H ?_;refine DF H ?_;refine DF H ?_;rw[show ((fs.length:Int) != (xs.length:Int))=false by rw[hlen];simp];refine BB H ?_;refine QT rfl rfl rfl (V0 (a:=[]) (b:=[]) rfl rfl (call (MR _ fs hfs (by omega) H) ?_));clear H;rintro v w ⟨rfl,H⟩;refine Rt H ?_;refine Wz H ?_;refine Qi (fun ms σ w n=>ms=[]∧∃ i:Nat,i≤fs.length∧n=fs.length - i∧(∀ f∈fs.drop i,Zx (fs.take i) (xs.take i) < 2 ^ f.1)∧σ 1 = .slice a1 xs.length c1∧σ 6 = .int .u64 (Zx (fs.take i) (xs.take i))∧σ 20 = .slice a fs.length c∧σ 21 = .int .i64 fs.length∧σ 22 = .int .i64 i∧Q0 w (FL (.slice a fs.length c) fs::UL (.slice a1 xs.length c1) xs::fr)) (m:=fs.length) ⟨rfl,0,by omega,rfl,fun f _=>by simp only[take_zero,Zx];exact Nat.two_pow_pos _,rfl,rfl,rfl,rfl,rfl,H⟩ ?_;clear H;rintro ms σ w n ⟨rfl,i,hi,rfl,hW,g1,g6,g20,g21,g22,H⟩;rw[Q1 g1,Q1 g6,Q1 g20,Q1 g21,Q1 g22];refine J6 H ?_;refine Qh rfl (fun h=>QR ?_) (fun h=>Qj ?_)
 ·have hlt:i < fs.length:=by omega
  have hx:=getElem?_eq_getElem hlt;have hy:=getElem?_eq_getElem (l:=xs) (i:=i) (by omega);have hdr:fs.drop i=fs[i]::fs.drop (i+1):=drop_eq_getElem_cons hlt;have hpw:=hfs.2;rw[← take_append_drop i fs,hdr] at hpw;have hpw2:=(pairwise_cons.1 (pairwise_append.1 hpw).2.1).1;rw[hdr] at hW;generalize fs[i]=f at hx hpw2 hW;generalize xs[i]'(by omega)=y at hy;have hf:=hfs.at hx;have hWf:=hW f (by simp);have hyb:=hb i f y hx hy
  have hsn:Zx (fs.take (i+1)) (xs.take (i+1))=Zx (fs.take i) (xs.take i)+y*2 ^ f.1:=by
   rw[take_add_one,take_add_one,hx,hy];exact MA _ _ f y (by rw[length_take,length_take,hlen])
  obtain⟨b,s,rfl,H,hclose⟩:=Qw H (by omega);obtain⟨b2,s2,rfl,H,hclose2⟩:=Qw H.swap (by omega);refine BC H ?_;refine Jd ?_;refine Q5 rfl (VH H rfl (HD hx) rfl ?_);refine VQ H ?_;clear H;intro b8 w H;refine DH H ?_;clear H;intro w H;refine Q6 ?_;refine J6 H ?_;refine Wr H mixed ?_;clear H;intro w H;refine Ja 0 ?_;refine VP 1 [6] H rfl (Q9.none rfl) rfl (by repeat first|exact .nil _|apply QZ.cons rfl) (by kernel_rfl) ?_;refine Ja 2 ?_;refine Ja 3 ?_;refine Ji 4 ?_;refine Vg 5 [6] H rfl (Q9.none rfl) rfl (HC hy) (by kernel_rfl) ?_
  refine Jo 6 H ?_;refine Jk rfl rfl (Su _ f y hf hWf hyb H) ?_;clear H;rintro v w ⟨rfl,H⟩;refine UU H ?_;refine Gf H ?_;refine J3 H ?_;replace H:=Js [1,1] 1 H;replace H:=hclose2 _ _ H;replace H:=hclose _ _ H.swap;refine⟨_,⟨rfl,i+1,hlt,rfl,fun g hg=>?_,rfl,?_,rfl,rfl,Qa (by omega),H⟩,by omega⟩
  ·have h1:=hpw2 g hg;rw[hsn]
   have h2:Zx (fs.take i) (xs.take i)+y*2 ^ f.1 < 2 ^ (f.1+f.2):=by
    rw[Nat.pow_add];have:(y+1)*2 ^ f.1≤2 ^ f.2*2 ^ f.1:=Nat.mul_le_mul_right _ hyb;rw[Nat.add_mul,Nat.one_mul] at this;rw[Nat.mul_comm (2 ^ f.1)];omega
   exact Nat.lt_of_lt_of_le h2 (Nat.pow_le_pow_right (by decide) h1)
  ·rw[hsn];rfl
 ·have hge:i=fs.length:=by omega
  subst hge;refine VG H ?_;refine Q3 (Jy H rfl fun w' H'=>⟨?_,H'⟩);have e:xs.take fs.length=xs:=by rw[hlen,take_length]
  rw[take_length,e];rfl
def UA:List Fl:=[(0,16),(16,16),(32,8),(40,16),(56,8)]
def UB:List Fl:=[(0,32),(32,32)]
theorem HF:RU UA:=⟨by simp[UA,RG],by simp[UA]⟩
theorem HI:RU UB:=⟨by simp[UB,RG],by simp[UB]⟩
theorem HJ [Q4] {w:World} {fr:List Q2} (H:Q0 w fr):Calls Tryz.prog 203 #[] w (ret fun v w'=>Q0 w' (FL v UA::fr)):=by
 refine QV Tryz.func203 rfl (by kernel_rfl) ?_;refine DI H ?_;refine Gu H ?_;refine Gu H ?_;refine Gu H ?_;refine BD H ?_;clear H;intro b6 w H;refine J0 H ?_;exact Q3 (Jy (Uh (by decide) H) rfl fun w' H'=>H')
theorem HL [Q4] {w:World} {fr:List Q2} (H:Q0 w fr):Calls Tryz.prog 192 #[] w (ret fun v w'=>Q0 w' (FL v UB::fr)):=by
 refine QV Tryz.func192 rfl (by kernel_rfl) ?_;refine DI H ?_;refine BD H ?_;clear H;intro b3 w H;refine J0 H ?_;exact Q3 (Jy (Uh (by decide) H) rfl fun w' H'=>H')
def Xl (l c s:Nat):Prop:=1≤l∧l≤64∧c≤1024∧s < 4096
@[reducible] def RX (l c s:Nat):Value := .agg #[.int .i64 l,.int .i64 c,.int .i64 s]
theorem MB [Q4] (l c s:Nat) (h:Xl l c s) {w:World} {fr:List Q2} (H:Q0 w fr):Calls Tryz.prog 204 #[RX l c s] w (ret fun v w'=>v = .bool true∧Q0 w' fr):=by
 obtain⟨h1,h2,h3,h4⟩:=h;refine QV Tryz.func204 rfl (by kernel_rfl) ?_;refine J8 H ?_;clear H;intro b1 w H;refine Rv H ?_;refine YP H ?_;rw[show decide ((l:Int)≥1)=true from decide_eq_true (by omega)];refine XO H ?_;refine Jv ?_;rw[show decide ((l:Int)≤64)=true from decide_eq_true (by omega)];refine A0 H ?_;rw[show decide ((c:Int)≥0)=true from decide_eq_true (by omega)];refine A0 H ?_;rw[show decide ((c:Int)≤1024)=true from decide_eq_true (by omega)];refine A0 H ?_;rw[show decide ((s:Int)≥0)=true from decide_eq_true (by omega)];refine A0 H ?_;rw[show decide ((s:Int) < 4096)=true from decide_eq_true (by omega)];refine J0 H ?_;exact Q3 (Jy H.drop rfl fun w' H'=>⟨rfl,H'⟩)
def Zy (l c s:Nat):Nat:=Zx UA [s,c,l,0,165]
theorem MC (l c s:Nat):Zy l c s=s+c*65536+l*4294967296+165*72057594037927936:=by
 simp[Zy,Zx,UA];omega
theorem Sv {l c s:Nat} (h:Xl l c s):Zy l c s < 18446744073709551616:=by
 obtain⟨h1,h2,h3,h4⟩:=h;rw[MC];omega
theorem Sw [Q4] (l c s:Nat) (h:Xl l c s) {w:World} {fr:List Q2} (H:Q0 w fr):Calls Tryz.prog 142 #[RX l c s] w (ret fun v w'=>v = .tuple #[.int .u64 (Zy l c s),.int .i64 0]∧Q0 w' fr):=by
 have h':=h;obtain⟨h1,h2,h3,h4⟩:=h';refine QV Tryz.func142 rfl (by kernel_rfl) ?_;refine J8 H ?_;clear H;intro b1 w H;refine J2 H ?_;refine GG H ?_;refine Jc rfl rfl (MB l c s h H) ?_;clear H;rintro v w ⟨rfl,H⟩;refine Vo H ?_;refine J1 H ?_;clear H;intro w H;refine Jf 1 ?_;refine Jl 2 [10,11] H ?_;refine DJ H ?_;refine Jf 4 ?_;refine Jl 5 [10,11] H ?_;refine Gt 6 rfl (Q9.none rfl) rfl (by kernel_rfl) ?_;refine Jf 7 ?_;refine Jl 8 [10,11] H ?_;refine Gt 9 rfl (Q9.none rfl) rfl (by kernel_rfl) ?_;rw[UG (a:=l) (by omega),UG (a:=c) (by omega),UG (a:=s) (by omega)];refine Jw 0 10 H rfl rfl (V0 (a:=[]) (b:=[]) rfl rfl (call (HJ H) ?_)) (Kr H rfl rfl rfl ?_)
 ·clear H;intro v16 w H;obtain⟨a16,m16,c16,rfl⟩:=Qq H;refine Jo 10 H ?_;refine Ru H ?_;clear H;intro b17 w H;replace H:=Q0.swap (Uh (len:=5) (k:=1) rfl H)
  refine B5 11 rfl (by kernel_rfl) (by repeat first|exact .nil|refine .cons (.inr H.at) ?_|refine .cons (.inr H.mp) ?_|refine .cons (.inl (by kernel_rfl)) ?_) (Q9.none rfl) (V0 (a:=[]) (b:=[]) rfl rfl (call (ES _ _ UA [s,c,l,0,165] HF (by decide) rfl (fun i f x hf hx=>by
     rcases i with _|_|_|_|_|i <;> simp[UA] at hf hx <;> subst hf hx <;> simp <;> omega) H) ?_))
  clear H;rintro v w ⟨rfl,H⟩;refine BE H ?_;exact Q3 (Jy H.drop.drop.drop rfl fun w' H'=>⟨rfl,H'⟩)
 ·clear H;intro b17 w H;refine Jo 0 H ?_;refine Jk rfl rfl (HJ H) ?_;clear H;intro v16 w H;obtain⟨a16,m16,c16,rfl⟩:=Qq H;replace H:=Q0.swap (Uh (len:=5) (k:=1) rfl H.swap)
  refine B5 11 rfl (by kernel_rfl) (by repeat first|exact .nil|refine .cons (.inr H.at) ?_|refine .cons (.inr H.mp) ?_|refine .cons (.inl (by kernel_rfl)) ?_) (Q9.none rfl) (V0 (a:=[]) (b:=[]) rfl rfl (call (ES _ _ UA [s,c,l,0,165] HF (by decide) rfl (fun i f x hf hx=>by
     rcases i with _|_|_|_|_|i <;> simp[UA] at hf hx <;> subst hf hx <;> simp <;> omega) H) ?_))
  clear H;rintro v w ⟨rfl,H⟩;refine BE H ?_;exact Q3 (Jy H.drop.drop.drop rfl fun w' H'=>⟨rfl,H'⟩)
theorem Sx {l c s:Nat} (h:Xl l c s):UA.map (Yr (Zy l c s))=[s,c,l,0,165]:=by
 obtain⟨h1,h2,h3,h4⟩:=h;simp only[UA,map_cons,map_nil,Yr,MC,Nat.reducePow];have e1:(s+c*65536+l*4294967296+165*72057594037927936) / 1 % 65536=s:=by omega
 have e2:(s+c*65536+l*4294967296+165*72057594037927936) / 65536 % 65536=c:=by omega
 have e3:(s+c*65536+l*4294967296+165*72057594037927936) / 4294967296 % 256=l:=by omega
 have e4:(s+c*65536+l*4294967296+165*72057594037927936) / 1099511627776 % 65536=0:=by omega
 have e5:(s+c*65536+l*4294967296+165*72057594037927936) / 72057594037927936 % 256=165:=by omega
 rw[e1,e2,e3,e4,e5]
theorem Sy [Q4] (l c s:Nat) (h:Xl l c s) {w:World} {fr:List Q2} (H:Q0 w fr):Calls Tryz.prog 129 #[.int .u64 (Zy l c s)] w (ret fun v w'=>v = .tuple #[RX l c s,.int .i64 0]∧Q0 w' fr):=by
 have h':=h;obtain⟨h1,h2,h3,h4⟩:=h';refine QV Tryz.func129 rfl (by kernel_rfl) ?_;refine YS H ?_;clear H;intro b2 w H;refine DL H ?_;refine Jc rfl rfl (HJ H) ?_;clear H;intro v9 w H
 refine Jc rfl rfl (HE _ (Sv h) v9 UA HF (by decide) H) ?_;clear H;rintro v w ⟨u,rfl,H⟩;rw[Sx h] at H;obtain⟨au,cu,rfl⟩:=QD (m:=5) H rfl (by decide);obtain⟨bu,su,rfl,H,hclose⟩:=Qw H (by decide);refine DM H ?_;clear H;intro w H;refine Ja 0 ?_;refine Ji 1 ?_;refine Jl 2 [14] H ?_;refine DJ H ?_;refine Ja 4 ?_;refine Ji 5 ?_;refine Jl 6 [14] H ?_;refine Gt 7 rfl (Q9.none rfl) rfl (by kernel_rfl) ?_;refine Ja 8 ?_;refine Ji 9 ?_;refine Jl 10 [14] H ?_;refine Gt 11 rfl (Q9.none rfl) rfl (by kernel_rfl) ?_;refine GY 12 rfl (Q9.none rfl) rfl (by kernel_rfl) ?_;rw[K6 (a:=l) (by omega),K6 (a:=c) (by omega),K6 (a:=s) (by omega)];refine Jo 13 H ?_;refine Vr H rfl ?_;clear H;intro b6 w H
 refine Jo 14 H ?_;refine Gv H ?_;clear H;intro w H;refine Jx H ?_;refine YQ H ?_;refine Jd ?_;refine KY H ?_;refine BA H ?_;refine QT rfl rfl rfl (Gq rfl rfl (by omega) (by omega) rfl ?_);refine QT rfl rfl rfl (QW H rfl rfl rfl ?_);refine YT H ?_;refine YP H ?_;refine K8 H ?_;refine QT rfl rfl rfl (V0 (a:=[]) (b:=[]) rfl rfl (call (MB l c s h H) ?_));clear H;rintro v w ⟨rfl,H⟩;refine Rt H ?_;refine KZ H ?_;clear H;intro w H;refine J0 H ?_;refine Q3 (BY (vs:=[RX l c s,.int .i64 0]) _ (.inr rfl) H (fun w' H' => .cellN H' rfl (by repeat first|exact .nil _|apply QZ.cons rfl) (.tmp .nil)) fun w' H'=>⟨rfl,H'.drop.drop.drop.drop⟩)
inductive Vy where
 | none
 | grave
 | obj (i g:Nat)
 deriving DecidableEq
@[reducible] def XV (i g:Nat):Value := .agg #[.int .i64 i,.int .i64 g]
@[reducible] def ZI:Vy→Value
 | .none => .agg #[.int .i64 0,.int .i64 0,.int .i64 0]
 | .grave => .agg #[.int .i64 1,.int .i64 0,.int .i64 0]
 | .obj i g => .agg #[.int .i64 2,.int .i64 i,.int .i64 g]
def CY (i g:Nat):Prop:=i < 4096∧1≤g∧g≤255
def GR:Vy→Prop
 | .obj i g=>CY i g
 | _=>True
def VU:Vy→Nat
 | .none=>0
 | .grave=>1
 | .obj i g=>Zx UB [i+2,g]
theorem ET (i g:Nat):VU (.obj i g)=i+2+g*4294967296:=by
 simp[VU,Zx,UB]
theorem ME {l:Vy} (h:GR l):VU l < 18446744073709551616:=by
 cases l with
 | none=>decide
 | grave=>decide
 | obj i g=>
  obtain⟨h1,h2,h3⟩:=h;rw[ET];omega
theorem MF [Q4] (i g:Nat) (h:CY i g) {w:World} {fr:List Q2} (H:Q0 w fr):Calls Tryz.prog 190 #[XV i g] w (ret fun v w'=>v = .bool true∧Q0 w' fr):=by
 obtain⟨h1,h2,h3⟩:=h;refine QV Tryz.func190 rfl (by kernel_rfl) ?_;refine J8 H ?_;clear H;intro b1 w H;refine Rv H ?_;refine YP H ?_;rw[show decide ((i:Int)≥0)=true from decide_eq_true (by omega)];refine XO H ?_;refine Jv ?_;rw[show decide ((i:Int) < 4096)=true from decide_eq_true (by omega)];refine A0 H ?_;rw[show decide ((g:Int)≥1)=true from decide_eq_true (by omega)];refine A0 H ?_;rw[show decide ((g:Int)≤255)=true from decide_eq_true (by omega)];refine J0 H ?_;exact Q3 (Jy H.drop rfl fun w' H'=>⟨rfl,H'⟩)
theorem Sz [Q4] (l:Vy) (h:GR l) {w:World} {fr:List Q2} (H:Q0 w fr):Calls Tryz.prog 104 #[ZI l] w (ret fun v w'=>v = .tuple #[.int .u64 (VU l),.int .i64 0]∧Q0 w' fr):=by
 cases l with
 | none=>
  refine QV Tryz.func104 rfl (by kernel_rfl) ?_;refine J8 H ?_;clear H;intro b1 w H;refine J2 H ?_;refine Zf H ?_;refine BF H ?_;refine BH H ?_;exact Q3 (Jy H.drop rfl fun w' H'=>⟨rfl,H'⟩)
 | grave=>
  refine QV Tryz.func104 rfl (by kernel_rfl) ?_;refine J8 H ?_;clear H;intro b1 w H;refine J2 H ?_;refine Zf H ?_;refine BF H ?_;refine BI H ?_;refine BF H ?_;refine BH H ?_;exact Q3 (Jy H.drop rfl fun w' H'=>⟨rfl,H'⟩)
 | obj i g=>
  have h':=h;obtain⟨h1,h2,h3⟩:=h';refine QV Tryz.func104 rfl (by kernel_rfl) ?_;refine J8 H ?_;clear H;intro b1 w H;refine K9 H ?_;refine Y1 (fun ms σ w=>ms=[]∧σ 1 = .pointer (some ⟨b1,0,none⟩)∧Q0 w (pts b1 (row 85 [.int .i64 2,.int .i64 i,.int .i64 g])::fr)) ?_ ?_
  ·refine QS ?_;refine BF H ?_;refine BI H ?_;refine BF H ?_;refine BI H ?_;refine KG H ?_;refine YP H ?_;refine QT rfl rfl rfl (V7 rfl rfl ?_);refine K8 H ?_;refine QT rfl rfl rfl (V0 (a:=[]) (b:=[]) rfl rfl (call (MF i g h H) ?_));clear H;rintro v w ⟨rfl,H⟩;refine XP H ?_;refine V8 H ?_;exact .inl ⟨rfl,rfl,rfl,H⟩
  ·clear H;rintro ms σ w ⟨rfl,g1,H⟩;rw[Q1 g1];refine J1 H ?_;clear H;intro w H;refine Jf 1 ?_;refine Jf 2 ?_;refine Jl 3 [10,11] H ?_;refine Gt 4 rfl (Q9.none rfl) rfl (by kernel_rfl) ?_;refine Ja 5 ?_;refine Jf 6 ?_;refine Jf 7 ?_;refine Jl 8 [10,11] H ?_;refine Gt 9 rfl (Q9.none rfl) rfl (by kernel_rfl) ?_
   have e1:IntKind.u64.wrap (IntKind.u64.wrap (i:Int)+2)=((i+2:Nat):Int):=by
    rw[UG (a:=i) (by omega)];exact UG (a:=i+2) (by omega)
   have e2:IntKind.u64.wrap (g:Int)=((g:Nat):Int):=UG (by omega);rw[e1,e2];refine Jw 0 10 H rfl rfl (V0 (a:=[]) (b:=[]) rfl rfl (call (HL H) ?_)) (Kr H rfl rfl rfl ?_)
   ·clear H;intro v16 w H;obtain⟨a16,m16,c16,rfl⟩:=Qq H;refine Jo 10 H ?_;refine Ru H ?_;clear H;intro b17 w H;replace H:=Q0.swap (Uh (len:=2) (k:=1) rfl H)
    refine B5 11 rfl (by kernel_rfl) (by repeat first|exact .nil|refine .cons (.inr H.at) ?_|refine .cons (.inr H.mp) ?_|refine .cons (.inl (by kernel_rfl)) ?_) (Q9.none rfl) (V0 (a:=[]) (b:=[]) rfl rfl (call (ES _ _ UB [i+2,g] HI (by decide) rfl (fun j f x hf hx=>by
         rcases j with _|_|j <;> simp[UB] at hf hx <;> subst hf hx <;> simp <;> omega) H) ?_))
    clear H;rintro v w ⟨rfl,H⟩;refine BE H ?_;exact Q3 (Jy H.drop.drop.drop rfl fun w' H'=>⟨rfl,H'⟩)
   ·clear H;intro b17 w H;refine Jo 0 H ?_;refine Jk rfl rfl (HL H) ?_;clear H;intro v16 w H;obtain⟨a16,m16,c16,rfl⟩:=Qq H;replace H:=Q0.swap (Uh (len:=2) (k:=1) rfl H.swap)
    refine B5 11 rfl (by kernel_rfl) (by repeat first|exact .nil|refine .cons (.inr H.at) ?_|refine .cons (.inr H.mp) ?_|refine .cons (.inl (by kernel_rfl)) ?_) (Q9.none rfl) (V0 (a:=[]) (b:=[]) rfl rfl (call (ES _ _ UB [i+2,g] HI (by decide) rfl (fun j f x hf hx=>by
         rcases j with _|_|j <;> simp[UB] at hf hx <;> subst hf hx <;> simp <;> omega) H) ?_))
    clear H;rintro v w ⟨rfl,H⟩;refine BE H ?_;exact Q3 (Jy H.drop.drop.drop rfl fun w' H'=>⟨rfl,H'⟩)
theorem T0 {i g:Nat} (h:CY i g):UB.map (Yr (VU (.obj i g)))=[i+2,g]:=by
 obtain⟨h1,h2,h3⟩:=h;simp only[UB,map_cons,map_nil,Yr,ET,Nat.reducePow];have e1:(i+2+g*4294967296) / 1 % 4294967296=i+2:=by omega
 have e2:(i+2+g*4294967296) / 4294967296 % 4294967296=g:=by omega
 rw[e1,e2]
theorem T3 [Q4] (l:Vy) (h:GR l) {w:World} {fr:List Q2} (H:Q0 w fr):Calls Tryz.prog 132 #[.int .u64 (VU l)] w (ret fun v w'=>v = .tuple #[ZI l,.int .i64 0]∧Q0 w' fr):=by
 cases l with
 | none=>
  refine QV Tryz.func132 rfl (by kernel_rfl) ?_;refine YS H ?_;clear H;intro b2 w H;refine J0 H ?_;refine A1 H ?_;refine J3 H ?_;refine BJ H ?_;clear H;intro w H;refine J0 H ?_;refine Q3 (BY (vs:=[ZI .none,.int .i64 0]) _ (.inr rfl) H (fun w' H' => .cellN H' rfl (by repeat first|exact .nil _|apply QZ.cons rfl) (.tmp .nil)) fun w' H'=>⟨rfl,H'.drop⟩)
 | grave=>
  refine QV Tryz.func132 rfl (by kernel_rfl) ?_;refine YS H ?_;clear H;intro b2 w H;refine J0 H ?_;refine A1 H ?_;refine J3 H ?_;refine ZD H ?_;refine BJ H ?_;clear H;intro w H;refine J0 H ?_;refine Q3 (BY (vs:=[ZI .grave,.int .i64 0]) _ (.inr rfl) H (fun w' H' => .cellN H' rfl (by repeat first|exact .nil _|apply QZ.cons rfl) (.tmp .nil)) fun w' H'=>⟨rfl,H'.drop⟩)
 | obj i g=>
  have h':=h;obtain⟨h1,h2,h3⟩:=h';have hw:=ET i g;have n0:((VU (.obj i g):Int) == 0)=false:=beq_eq_false_iff_ne.2 (by omega);have n1:((VU (.obj i g):Int) == 1)=false:=beq_eq_false_iff_ne.2 (by omega);have hlt:=ME (l := .obj i g) h;have hg:=T0 h;generalize hW:VU (.obj i g)=W at n0 n1 hlt hg hw;refine QV Tryz.func132 rfl (by kernel_rfl) ?_;refine YS H ?_;clear H;intro b2 w H;refine BL H ?_;refine Y1 (fun ms σ w=>ms=[]∧σ 0 = .int .u64 W∧σ 2 = .pointer (some ⟨b2,0,none⟩)∧Q0 w (pts b2 (row 85 [.int .i64 0,.int .i64 0,.int .i64 0])::fr)) ?_ ?_
  ·refine QS ?_;refine J3 H ?_;rw[n0];refine ZD H ?_;rw[n1];refine V8 H ?_;exact .inl ⟨rfl,rfl,rfl,rfl,H⟩
  ·clear H;rintro ms σ w ⟨rfl,g0,g2,H⟩;rw[Q1 g0,Q1 g2];refine YQ H ?_;refine Jc rfl rfl (HL H) ?_;clear H;intro v16 w H
   refine Jc rfl rfl (HE _ hlt v16 UB HI (by decide) H) ?_;clear H;rintro v w ⟨u,rfl,H⟩;rw[hg] at H;obtain⟨au,cu,rfl⟩:=QD (m:=2) H rfl (by decide);obtain⟨bu,su,rfl,H,hclose⟩:=Qw H (by decide);refine DM H ?_;clear H;intro w H;refine Ja 0 ?_;refine Ji 1 ?_;refine Jl 2 [11] H ?_;refine DJ H ?_;refine Ui H ?_;refine Ji 6 ?_;refine Jl 7 [11] H ?_;refine Gt 8 rfl (Q9.none rfl) rfl (by kernel_rfl) ?_;refine GY 9 rfl (Q9.none rfl) rfl (by kernel_rfl) ?_
   have e1:IntKind.i64.wrap (IntKind.i64.wrap ((i+2:Nat):Int) - 2)=((i:Nat):Int):=by
    rw[K6 (a:=i+2) (by omega),Qb (by omega) (by omega)];omega
   have e2:IntKind.i64.wrap (g:Int)=((g:Nat):Int):=K6 (by omega);rw[e1,e2];refine Jo 10 H ?_;refine Vr H rfl ?_;clear H;intro b6 w H
   refine A2 H ?_;clear H;intro w H;refine Jx H ?_;refine GG H ?_;refine Jc rfl rfl (MF i g h H) ?_;clear H;rintro v w ⟨rfl,H⟩;refine Vo H ?_
   repeat refine Q7 ?_
   refine QG ?_;refine Q5 rfl (VH H rfl (by repeat first|exact .nil _|apply QZ.cons rfl) rfl ?_);refine Q5 rfl (Ug rfl rfl ?_);refine J4 H ?_;clear H;intro w H;refine J0 H ?_;refine Q3 (BY (vs:=[ZI (.obj i g),.int .i64 0]) _ (.inr rfl) H (fun w' H' => .cellN H' rfl (by repeat first|exact .nil _|apply QZ.cons rfl) (.tmp .nil)) fun w' H'=>⟨rfl,H'.drop.drop.drop.drop⟩)
def BM (p n:Nat) (ws:List Nat) (many:Nat):Q2:=ex fun v:Value=>star [pts p (row 235 [.int .i64 n,v,.int .i64 many]),UL v ws]
theorem HM [Q4] {w:World} {p n:Nat} {ws:List Nat} {m:Nat} {l:List Q2} (H:Q0 w (BM p n ws m::l)):∃ v,Q0 w (pts p (row 235 [.int .i64 n,v,.int .i64 m])::UL v ws::l):=by
 obtain⟨v,H⟩:=Q0.ex.1 H;exact⟨v,Q0.star.1 H⟩
theorem Ea [Q4] {w:World} {p n:Nat} {v:Value} {ws:List Nat} {m:Nat} {l:List Q2} (H:Q0 w (pts p (row 235 [.int .i64 n,v,.int .i64 m])::UL v ws::l)):Q0 w (BM p n ws m::l):=
 Q0.ex.2 ⟨v,Q0.star.2 H⟩
theorem AJ [Q4] {w:World} {p n x m:Nat} {l:List Q2} (H:Q0 w (BM p n [x] m::l)):∃ b cap spare,Q0 w (pts p (row 235 [.int .i64 n,.slice (some ⟨b,0,none⟩) 1 cap,.int .i64 m])::pts b (row 94 (.int .u64 x::spare))::l) ∧
  ∀ w' l' (x' m':Nat),Q0 w' (pts p (row 235 [.int .i64 n,.slice (some ⟨b,0,none⟩) 1 cap,.int .i64 m'])::pts b (row 94 (.int .u64 x'::spare))::l')→Q0 w' (BM p n [x'] m'::l'):=by
 obtain⟨v,H⟩:=HM H;have H:=H.swap;obtain⟨a,cap,rfl⟩:=QD (m:=1) H rfl (by decide)
 rcases GV H with ⟨h,_⟩|⟨b,len,cap',spare,h,e3,e4,e5,H2⟩
 ·cases h
 ·cases h;exact⟨b,cap,spare,H2.swap,fun w' l' x' m' H'=>Ea (Q0.swap (ZZ (c:=QP [x']) rfl e4 e5 H'.swap))⟩
structure ZJ (n x:Nat):Prop where
 pos:0 < n
 le:n≤63
 lt:x < 2 ^ n
theorem ZJ.lt64 {n x:Nat} (h:ZJ n x):x < 18446744073709551616:=Nat.lt_of_lt_of_le h.lt (EP (by have:=h.le;omega))
theorem CZ {i:Nat} (h:i < 64):IntKind.i64.wrap (Int.tdiv (i:Int) 64)=0:=by
 rw[Int.tdiv_eq_ediv_of_nonneg (by omega),show (i:Int) / 64=0 by omega];rfl
theorem Eb {i:Nat} (h:i < 64):Int.tmod (i:Int) 64=i:=by
 rw[Int.tmod_eq_emod_of_nonneg (by omega)];omega
theorem T4 (x i:Nat):((x / 2 ^ i) &&& 1=1)↔x.testBit i=true:=by
 rw[Nat.and_one_is_mod,Nat.testBit_eq_decide_div_mod_eq];simp
theorem HN [Q4] (p n:Nat) (ws:List Nat) (m:Nat) {w:World} {fr:List Q2} (H:Q0 w (BM p n ws m::fr)):Calls Tryz.prog 208 #[pp p] w (ret fun v w'=>v = .int .i64 n∧Q0 w' (BM p n ws m::fr)):=by
 obtain⟨v,H⟩:=HM H;refine QV Tryz.func208 rfl (by kernel_rfl) ?_;refine Ky H ?_;refine J0 H ?_;exact Q3 (Jy (Ea H) rfl fun w' H'=>⟨rfl,H'⟩)
theorem MH [Q4] (p n:Nat) (ws:List Nat) (m:Nat) {w:World} {fr:List Q2} (H:Q0 w (BM p n ws m::fr)):Calls Tryz.prog 139 #[pp p] w (ret fun v w'=>v = .int .i64 m∧Q0 w' (BM p n ws m::fr)):=by
 obtain⟨v,H⟩:=HM H;refine QV Tryz.func139 rfl (by kernel_rfl) ?_;refine Ky H ?_;refine J0 H ?_;exact Q3 (Jy (Ea H) rfl fun w' H'=>⟨rfl,H'⟩)
theorem T5 [Q4] (p n x m i:Nat) (hb:ZJ n x) (hi:i < n) {w:World} {fr:List Q2} (H:Q0 w (BM p n [x] m::fr)):Calls Tryz.prog 250 #[pp p,.int .i64 i] w (ret fun v w'=>v = .bool (x.testBit i)∧Q0 w' (BM p n [x] m::fr)):=by
 have hle:=hb.le;have h64:=hb.lt64;refine QV Tryz.func250 rfl (by kernel_rfl) ?_;refine Rw H ?_;rw[show decide ((i:Int)≥0)=true from decide_eq_true (by omega)];refine Yy H ?_;refine QT rfl rfl rfl (V0 (a:=[]) (b:=[]) rfl rfl (call (HN p n _ _ H) ?_));clear H;rintro v w ⟨rfl,H⟩;refine YT H ?_;refine Jv ?_;rw[show decide ((i:Int) < (n:Int))=true from decide_eq_true (by omega)];obtain⟨b,cap,spare,H,hclose⟩:=AJ H;refine XS H ?_;refine BN H ?_;refine Yy H ?_;rw[CZ (show i < 64 by omega)];refine QT rfl rfl rfl (Gq rfl rfl (by decide) (by decide) rfl ?_);refine QT rfl rfl rfl (QW H rfl rfl rfl ?_);refine Yy H ?_;rw[Eb (show i < 64 by omega)]
 refine VZ rfl rfl (v := .int .u64 (Uz .u64 (x:Int) (i:Int))) (by
  show (if (i:Int) < 0 then none else some _)=_;rw[if_neg (by omega)]) rfl ?_
 rw[BZ (k := .u64) (a:=x) (b:=i) (by omega) rfl];have hq:x / 2 ^ i < 18446744073709551616:=Nat.lt_of_le_of_lt (Nat.div_le_self _ _) h64;refine VZ rfl rfl (v := .int .u64 (YG .and .u64 ((x / 2 ^ i:Nat):Int) ((1:Nat):Int))) rfl rfl ?_;rw[DR hq (by decide)];refine XP H ?_;refine Q3 (Jy (hclose _ _ _ _ H) rfl fun w' H'=>⟨?_,H'⟩);show Value.bool (((x / 2 ^ i &&& 1:Nat):Int) == 1)=_;congr 1;rw[Bool.eq_iff_iff,← T4];simp only[beq_iff_eq];omega
def Yj (x i:Nat) (on:Bool):Nat:=if x.testBit i=on then x else x ^^^ 2 ^ i
theorem WR (x i:Nat) (on:Bool) (j:Nat):(Yj x i on).testBit j=if j=i then on else x.testBit j:=by
 unfold Yj;split
 ·rename_i h;split
  ·rename_i e;subst e;exact h
  ·rfl
 ·rename_i h;rw[Nat.testBit_xor,Nat.testBit_two_pow];split
  ·rename_i e;subst e;simp;cases hx:x.testBit j <;> cases on <;> simp_all
  ·rename_i e;have:decide (i=j)=false:=decide_eq_false (fun e2=>e e2.symm);simp[this]
def Yd (n x:Nat):Nat:=((List.range n).filter fun i=>x.testBit i).length
theorem T6 {n x:Nat} (h:∀ j,n≤j→x.testBit j=false):x < 2 ^ n:=Nat.lt_pow_two_of_testBit x fun j hj=>h j hj
theorem HP {n x j:Nat} (h:x < 2 ^ n) (hj:n≤j):x.testBit j=false:=Nat.testBit_lt_two_pow (Nat.lt_of_lt_of_le h (Nat.pow_le_pow_right (by decide) hj))
theorem ZJ.set {n x i:Nat} {on:Bool} (h:ZJ n x) (hi:i < n):ZJ n (Yj x i on):=⟨h.pos,h.le,T6 fun j hj=>by
 rw[WR,if_neg (by omega)];exact HP h.lt hj⟩
theorem HS (f g:Nat→Bool) (i:Nat):∀ n,i < n→(∀ j,j≠i→f j=g j)→f i=false→g i=true→((List.range n).filter g).length=((List.range n).filter f).length+1
 | 0,h,_,_,_=>by omega
 | n+1,h,hfg,h0,h1=>by
  rw[range_succ,filter_append,filter_append,length_append,length_append];by_cases e:i=n
  ·subst e
   have e2:(List.range i).filter g=(List.range i).filter f:=by
    apply filter_congr;intro j hj;rw[mem_range] at hj;rw[hfg j (by omega)]
   rw[e2];simp[h0,h1]
  ·have:=HS f g i n (by omega) hfg h0 h1;have e3:[n].filter g=[n].filter f:=by simp[filter_cons,hfg n (fun e'=>e e'.symm)]
   rw[e3];omega
theorem T7 {n x i:Nat} {on:Bool} (hi:i < n) (h:x.testBit i≠on):(on=true→Yd n (Yj x i on)=Yd n x+1)∧(on=false→Yd n x=Yd n (Yj x i on)+1):=by
 have hne:∀ j,j≠i→x.testBit j=(Yj x i on).testBit j:=fun j hj=>by rw[WR,if_neg hj]
 have hat:(Yj x i on).testBit i=on:=by rw[WR,if_pos rfl]
 constructor
 ·rintro rfl;exact HS _ _ i n hi hne (by simpa using h) hat
 ·rintro rfl;exact HS _ _ i n hi (fun j hj=>(hne j hj).symm) hat (by simpa using h)
theorem HT (n x:Nat):Yd n x≤n:=by
 have:=length_filter_le (fun i=>x.testBit i) (List.range n)
 rwa [length_range] at this
@[reducible] def Zg (p n x:Nat):Q2:=BM p n [x] (Yd n x)
theorem T8 [Q4] (p n x i:Nat) (on:Bool) (hb:ZJ n x) (hi:i < n) {w:World} {fr:List Q2} (H:Q0 w (Zg p n x::fr)):Calls Tryz.prog 235 #[pp p,.int .i64 i,.bool on] w (ret fun v w'=>Q0 w' (Zg p n (Yj x i on)::fr)):=by
 have hle:=hb.le;have h64:=hb.lt64;have hcl:=HT n x;have hcl2:=HT n (Yj x i on);refine QV Tryz.func235 rfl (by kernel_rfl) ?_;refine J5 H ?_;refine Jc rfl rfl (T5 p n x _ i hb hi H) ?_;clear H;rintro v w ⟨rfl,H⟩;refine Jv ?_;refine Q5 rfl (Rp rfl rfl (.inl rfl) rfl ?_);refine BO H ?_;refine Ri rfl (fun h=>?_) (fun h=>QR ?_)
 ·have h1:x.testBit i=on:=by simpa [Y8] using h
  have e:Yj x i on=x:=if_pos h1;rw[e];exact Q3 (Jy H rfl fun w' H'=>H')
 ·have h1:x.testBit i≠on:=by simpa [Y8] using h
  have e:Yj x i on=x ^^^ 2 ^ i:=if_neg h1;obtain⟨c1,c0⟩:=T7 hi h1;obtain⟨b,cap,spare,H,hclose⟩:=AJ H;have h2i:2 ^ i < 18446744073709551616:=Nat.lt_of_lt_of_le (Nat.pow_lt_pow_right (by decide) (show i < 64 by omega)) (Nat.le_refl _);have e2:XE .u64 ((1:Nat):Int) (i:Int)=((2 ^ i:Nat):Int):=by rw[Fw (by omega),Nat.one_mul,Nat.mod_eq_of_lt h2i]
  have e3:YG .xor .u64 (x:Int) ((2 ^ i:Nat):Int)=((Yj x i on:Nat):Int):=by rw[Lt h64 h2i,e]
  refine J1 H ?_;clear H;intro w H;refine Yo H ?_;refine Jl 3 [13] H ?_;refine Ui H ?_;rw[CZ (show i < 64 by omega)];refine Ko 6 rfl (Q9.none rfl) rfl rfl (by decide) (by decide) (by kernel_rfl) ?_;refine Jl 7 [13] H ?_;refine Ja 8 ?_;refine Ja 9 ?_;rw[Eb (show i < 64 by omega)]
  refine Gc (v := .int .u64 (XE .u64 ((1:Nat):Int) (i:Int))) 10 rfl (Q9.none rfl) (by
   show (if (i:Int) < 0 then none else some _)=_;rw[if_neg (by omega)];rfl) (by kernel_rfl) ?_
  rw[e2];refine Gc (v := .int .u64 (YG .xor .u64 (x:Int) ((2 ^ i:Nat):Int))) 11 rfl (Q9.none rfl) rfl (by kernel_rfl) ?_;rw[e3];refine Ko 12 rfl (Q9.none rfl) rfl rfl (by decide) (by decide) (by kernel_rfl) ?_;refine Jo 13 H ?_;refine Uj H ?_;clear H;intro w H;refine Jx H ?_;refine GU H ?_;refine Uk H ?_;clear H;intro w H;refine Rx H ?_;cases on with
  | true=>
   refine VR H ?_;refine GU H ?_;refine Uk H ?_;clear H;intro w H;refine Q6 ?_
   have hc:IntKind.i64.wrap (IntKind.i64.wrap ((Yd n x:Nat) - 1:Int)+2)=((Yd n (Yj x i true):Nat):Int):=by
    have:=c1 rfl;rw[Qb (x:=((Yd n x:Nat):Int) - 1) (by omega) (by omega),Qb (by omega) (by omega)];omega
   rw[hc] at H;exact Y7 _ (.inl rfl) (hclose _ _ _ _ H) rfl fun w' H'=>H'
  | false=>
   refine V8 H ?_
   have hc:IntKind.i64.wrap ((Yd n x:Nat) - 1:Int)=((Yd n (Yj x i false):Nat):Int):=by
    have:=c0 rfl;rw[Qb (by omega) (by omega)];omega
   rw[hc] at H;exact Y7 _ (.inl rfl) (hclose _ _ _ _ H) rfl fun w' H'=>H'
def XY (x a:Nat):Nat→Bool→Nat
 | 0,_=>x
 | k+1,on=>Yj (XY x a k on) (a+k) on
theorem MI (x a:Nat) (on:Bool) (j:Nat):∀ k,(XY x a k on).testBit j=if a≤j∧j < a+k then on else x.testBit j
 | 0=>by simp[XY];omega
 | k+1=>by
  show (Yj _ _ _).testBit j=_;rw[WR,MI x a on j k];by_cases h1:j=a+k
  ·rw[if_pos h1,if_pos (by omega)]
  ·rw[if_neg h1];by_cases h2:a≤j∧j < a+k
   ·rw[if_pos h2,if_pos (by omega)]
   ·rw[if_neg h2,if_neg (by omega)]
theorem ZJ.fill {n x a:Nat} {on:Bool} (h:ZJ n x):∀ {k:Nat},a+k≤n→ZJ n (XY x a k on)
 | 0,_=>h
 | k+1,hk=>ZJ.set (ZJ.fill h (by omega)) (by omega)
theorem MJ [Q4] (p n x a k:Nat) (on:Bool) (hb:ZJ n x) (hk:a+k≤n) {w:World} {fr:List Q2} (H:Q0 w (Zg p n x::fr)) :
  Calls Tryz.prog 201 #[pp p,.int .i64 a,.int .i64 k,.bool on] w (ret fun v w'=>v = .int .i64 0∧Q0 w' (Zg p n (XY x a k on)::fr)):=by
 have hle:=hb.le;refine QV Tryz.func201 rfl (by kernel_rfl) ?_;refine J6 H ?_;refine Y1 (fun ms σ w=>ms=[]∧σ 0=pp p∧σ 1 = .int .i64 a∧σ 2 = .int .i64 k∧σ 3 = .bool on∧Q0 w (Zg p n x::fr)) ?_ ?_
 ·refine QS ?_;obtain⟨b,cap,spare,H,hclose⟩:=AJ H;refine DN H ?_;refine BI H ?_;refine Vi H ?_;rw[show decide ((k:Int) < 0)=false from decide_eq_false (by omega)];refine DO H ?_;rw[show decide ((a:Int) < 0)=false from decide_eq_false (by omega)];refine Gw H ?_;refine XO H ?_;refine YP H ?_;rw[show decide ((a:Int) > (n:Int))=false from decide_eq_false (by omega)];refine Gw H ?_;refine BN H ?_;refine Gw H ?_;refine J2 H ?_;rw[show decide ((k:Int) > IntKind.i64.wrap ((n:Int) - (a:Int)))=false from decide_eq_false (by rw[Qb (by omega) (by omega)];omega)];refine V8 H ?_;exact .inl ⟨rfl,rfl,rfl,rfl,rfl,rfl,hclose _ _ _ _ H⟩
 ·clear H;rintro ms σ w ⟨rfl,g0,g1,g2,g3,H⟩;rw[Q1 g0,Q1 g1,Q1 g2,Q1 g3];refine J3 H ?_;refine Zf H ?_;refine Qi (fun ms σ w q=>ms=[]∧∃ j:Nat,j≤k∧q=k - j∧σ 0=pp p∧σ 1 = .int .i64 a∧σ 2 = .int .i64 k∧σ 3 = .bool on∧σ 9 = .int .i64 ((a+j:Nat):Int)∧Q0 w (Zg p n (XY x a j on)::fr)) (m:=k) ⟨rfl,0,by omega,rfl,rfl,rfl,rfl,rfl,rfl,H⟩ ?_;clear H;rintro ms σ w q ⟨rfl,j,hj,rfl,g0,g1,g2,g3,g9,H⟩;rw[Q1 g0,Q1 g1,Q1 g2,Q1 g3,Q1 g9];refine KU H ?_;rw[Qb (x:=(a:Int)+(k:Int)) (by omega) (by omega)];refine J7 H ?_;refine Qh rfl (fun h=>QR ?_) (fun h=>Qj ?_)
  ·have hlt:j < k:=by omega
   refine Ry H ?_;refine Jc rfl rfl (T8 p n _ (a+j) on (hb.fill (by omega)) (by omega) H) ?_;clear H;intro v w H;refine Rz H ?_;exact⟨_,⟨rfl,j+1,hlt,rfl,rfl,rfl,rfl,rfl,by rw[show ((a+(j+1):Nat):Int)=((a+j:Nat):Int)+1 by omega];exact Qa (i:=a+j) (by omega),H⟩,by omega⟩
  ·have hge:j=k:=by omega
   subst hge;refine VJ H ?_;exact Q3 (Jy H rfl fun w' H'=>⟨rfl,H'⟩)
theorem Ha [Q4] (p n x i:Nat) (on:Bool) (hb:ZJ n x) (hi:i < n) {w:World} {fr:List Q2} (H:Q0 w (Zg p n x::fr)) :
  Calls Tryz.prog 141 #[pp p,.int .i64 i,.bool on] w (ret fun v w'=>v = .int .i64 0∧Q0 w' (Zg p n (Yj x i on)::fr)):=by
 refine QV Tryz.func141 rfl (by kernel_rfl) ?_;refine Rw H ?_;refine Jc rfl rfl (MJ p n x i 1 on hb (by omega) H) ?_;clear H;rintro v w ⟨rfl,H⟩;refine J0 H ?_;exact Q3 (Jy H rfl fun w' H'=>⟨rfl,H'⟩)
theorem ML [Q4] (n:Nat) (h1:0 < n) (h2:n≤1048576) {w:World} {fr:List Q2} (H:Q0 w fr) :
  Calls Tryz.prog 133 #[.int .i64 n] w (ret fun v w'=>∃ p,v = .tuple #[pp p,.int .i64 0]∧Q0 w' (BM p n (List.replicate ((n+63) / 64) 0) 0::fr)):=by
 refine QV Tryz.func133 rfl (by kernel_rfl) ?_;refine J3 H ?_;refine Vi H ?_;rw[show decide ((n:Int) < 1)=false from decide_eq_false (by omega)];refine Yy H ?_;refine J0 H ?_;rw[show decide ((n:Int) > 1048576)=false from decide_eq_false (by omega)];refine V8 H ?_;refine X5 H ?_
 have e1:IntKind.i64.wrap (Int.tdiv (IntKind.i64.wrap ((n:Int)+63)) 64)=(((n+63) / 64:Nat):Int):=by
  rw[Qb (x:=(n:Int)+63) (by omega) (by omega),Int.tdiv_eq_ediv_of_nonneg (by omega),Qb (by omega) (by omega)];omega
 rw[e1];refine Q5 rfl (ZG H rfl rfl (by decide) (by omega) rfl ?_);clear H;intro b14 w H;refine X6 H ?_;clear H;intro b16 w H;refine J2 H ?_
 have e:Vx (Qt (.int .u64 0)) ((n+63) / 64)=QP (List.replicate ((n+63) / 64) 0):=by
  rw[show Qt (.int .u64 0)=[.int .u64 0] from rfl,Rr];simp[QP]
 rw[e] at H;exact Q3 (Jy (Ea H) rfl fun w' H'=>⟨_,rfl,H'⟩)
theorem Hd {y:Nat} (h0:y≠0) (h:y < 18446744073709551616):Lib.ctz 64 y < 64∧y.testBit (Lib.ctz 64 y)=true∧∀ i,i < Lib.ctz 64 y→y.testBit i=false:=by
 obtain⟨m,hm,hk⟩:=Lib.ctzFrom_spec 64 y (by omega) h;have e:Lib.ctz 64 y=Lib.ctzFrom 64 y:=by simp[Lib.ctz,h0]
 rw[e];generalize Lib.ctzFrom 64 y=k at hm hk;subst hm;refine⟨hk,?_,fun i hi=>?_⟩
 ·rw[Nat.testBit_eq_decide_div_mod_eq,Nat.mul_div_cancel_left _ (Nat.two_pow_pos k)];simp
 ·rw[Nat.testBit_eq_decide_div_mod_eq]
  have:2 ^ k*(2*m+1) / 2 ^ i=2*(2 ^ (k - i - 1)*(2*m+1)):=by
   have h2:2 ^ k=2 ^ i*(2*2 ^ (k - i - 1)):=by
    rw[← Nat.pow_succ',← Nat.pow_add];congr 1;omega
   rw[h2,Nat.mul_assoc,Nat.mul_div_cancel_left _ (Nat.two_pow_pos i),Nat.mul_assoc]
  rw[this];simp
theorem He [Q4] (x:Nat) (hx:x < 18446744073709551616) {w:World} {fr:List Q2} [hT:YX 0 Lib.deBruijn64tab fr] (H:Q0 w fr):Calls Tryz.prog 202 #[.int .u64 x] w (ret fun v w'=>v = .int .i64 (Lib.ctz 64 x)∧Q0 w' fr):=by
 refine(Any7.bits_TrailingZeros64 Tryz.laysTz x hx w (fun _=>hT.tab w H.1)).mono ?_;rintro e w' ⟨rfl,rfl⟩;exact⟨rfl,H⟩
theorem T9 {x i:Nat} (hx:x < 18446744073709551616):(18446744073709551615 - x).testBit i=(decide (i < 64) && !x.testBit i):=by
 have e:18446744073709551615 - x=2 ^ 64 - (x+1):=by omega
 rw[e,Nat.testBit_two_pow_sub_succ hx]
theorem MM (x a i:Nat):(x / 2 ^ a).testBit i=x.testBit (a+i):=by
 rw[Nat.testBit_div_two_pow,Nat.add_comm]
def TQ (n x a:Nat) (v:Value):Prop:=
 (∃ j:Nat,v = .tuple #[.int .i64 j,.bool true]∧a≤j∧j < n∧x.testBit j=false∧∀ i,a≤i→i < j→x.testBit i=true)∨(v = .tuple #[.int .i64 0,.bool false]∧∀ i,a≤i→i < n→x.testBit i=true)
theorem Hf [Q4] (p n x a m:Nat) (hb:ZJ n x) (ha:a≤n) {w:World} {fr:List Q2} [hT:YX 0 Lib.deBruijn64tab fr] (H:Q0 w (BM p n [x] m::fr)) :
  Calls Tryz.prog 140 #[pp p,.int .i64 a] w (ret fun v w'=>TQ n x a v∧Q0 w' (BM p n [x] m::fr)):=by
 have hle:=hb.le;have h64:=hb.lt64;refine QV Tryz.func140 rfl (by kernel_rfl) ?_;refine DD H ?_;refine A3 H ?_;rw[show (if (0:Int) > (a:Int) then (0:Int) else (a:Int))=(a:Int) from if_neg (by omega)];refine YK H ?_;refine Y1 (fun ms σ w=>ms=[]∧∃ j:Nat,σ 0=pp p∧σ 1 = .int .i64 j∧a≤j∧j≤64∧(∀ i,a≤i→i < j→x.testBit i=true)∧(j < n→x.testBit j=false)∧Q0 w (BM p n [x] m::fr)) ?_ ?_
 ·refine QS ?_;refine Qi (fun ms σ w q=>ms=[]∧q=0∧σ 0=pp p∧σ 1 = .int .i64 a∧Q0 w (BM p n [x] m::fr)) (m:=0) ⟨rfl,rfl,rfl,rfl,H⟩ ?_;clear H;rintro ms σ w q ⟨rfl,rfl,g0,g1,H⟩;rw[Q1 g0,Q1 g1];refine J5 H ?_;refine Jc rfl rfl (HN p n _ _ H) ?_;clear H;rintro v w ⟨rfl,H⟩;refine YK H ?_;refine Qh rfl (fun h=>QR ?_) (fun h=>Qj ?_)
  ·have hlt:a < n:=by omega
   have hq:(18446744073709551615 - x) / 2 ^ a < 18446744073709551616:=Nat.lt_of_le_of_lt (Nat.div_le_self _ _) (by omega);have hbit:∀ i,((18446744073709551615 - x) / 2 ^ a).testBit i=(decide (a+i < 64) && !x.testBit (a+i)):=fun i=>by rw[MM,T9 h64]
   have hne:(18446744073709551615 - x) / 2 ^ a≠0:=fun e=>by
    have:=hbit (63 - a);rw[e,Nat.zero_testBit,show a+(63 - a)=63 by omega,HP hb.lt hle] at this;simp at this
   obtain⟨c1,c2,c3⟩:=Hd hne hq;refine Zf H ?_;obtain⟨b,cap,spare,H,hclose⟩:=AJ H;refine GU H ?_;rw[CZ (show a < 64 by omega)];refine Q5 rfl (Gq rfl rfl (by decide) (by decide) rfl ?_);refine KY H ?_;refine Q5 rfl (SH h64 rfl rfl ?_);refine YP H ?_;rw[Eb (show a < 64 by omega)]
   refine UV (v := .int .u64 (Uz .u64 ((18446744073709551615 - x:Nat):Int) (a:Int))) (by
    show (if (a:Int) < 0 then none else some _)=_;rw[if_neg (by omega)]) rfl ?_
   rw[BZ (k := .u64) (by omega) rfl];refine YI H ?_;generalize (18446744073709551615 - x) / 2 ^ a=y at *;rw[show ((y:Int) != 0)=true by simp;omega];refine VR H ?_;replace H:=hclose _ _ _ _ H;refine J5 H ?_;refine Jc rfl rfl (He y hq H) ?_;clear H;rintro v w ⟨rfl,H⟩;refine J2 H ?_;have hk:=hbit (Lib.ctz 64 y);rw[c2] at hk;simp at hk;refine Qj (.inl ⟨rfl,rfl,a+Lib.ctz 64 y,rfl,?_,by omega,by omega,fun i h1 h2=>?_,fun _=>by simpa using hk.2,H⟩)
   ·show Value.int .i64 (IntKind.i64.wrap ((a:Int)+(Lib.ctz 64 y:Nat)))=_;rw[Qb (by omega) (by omega)];congr 1
   ·have:=hbit (i - a);rw[c3 (i - a) (by omega),show a+(i - a)=i by omega] at this;simp at this;exact this (by omega)
  ·have hge:a=n:=by omega
   exact .inl ⟨rfl,rfl,a,rfl,rfl,by omega,by omega,fun i h1 h2=>by omega,fun h=>by omega,H⟩
 ·clear H;rintro ms σ w ⟨rfl,j,g0,g1,h1,h2,h3,h4,H⟩;rw[Q1 g0,Q1 g1];refine J5 H ?_;refine Jc rfl rfl (HN p n _ _ H) ?_;clear H;rintro v w ⟨rfl,H⟩;refine YK H ?_;refine Qh rfl (fun h=>?_) (fun h=>QR ?_)
  ·refine J3 H ?_;exact Q3 (Jy H rfl fun w' H'=>⟨.inr ⟨rfl,fun i h5 h6=>h3 i h5 (by omega)⟩,H'⟩)
  ·refine VG H ?_;exact Q3 (Jy H rfl fun w' H'=>⟨.inl ⟨j,rfl,h1,by omega,h4 (by omega),h3⟩,H'⟩)
theorem TV [Q4] (p n x a m:Nat) (hb:ZJ n x) (ha:a≤n) {w:World} {fr:List Q2} [hT:YX 0 Lib.deBruijn64tab fr] (H:Q0 w (BM p n [x] m::fr)) :
  Calls Tryz.prog 127 #[pp p,.int .i64 a] w (ret fun v w'=>(∃ e:Nat,v = .int .i64 e∧a≤e∧e≤n∧(∀ i,a≤i→i < e→x.testBit i=false)∧(e < n→x.testBit e=true))∧Q0 w' (BM p n [x] m::fr)):=by
 have hle:=hb.le;have h64:=hb.lt64;refine QV Tryz.func127 rfl (by kernel_rfl) ?_;refine J6 H ?_;refine Y1 (fun ms σ w=>ms=[]∧σ 0=pp p∧(∀ i,a≤i→i < n→x.testBit i=false)∧Q0 w (BM p n [x] m::fr)) ?_ ?_
 ·refine QS ?_
  refine Qi (fun ms σ w q=>ms=[]∧∃ j:Nat,(q=if j < n then 1 else 0)∧(j < n→j=a)∧σ 0=pp p∧σ 1 = .int .i64 j∧(j < n∨∀ i,a≤i→i < n→x.testBit i=false)∧Q0 w (BM p n [x] m::fr)) (m:=if a < n then 1 else 0) ⟨rfl,a,rfl,fun _=>rfl,rfl,rfl,by
   by_cases h:a < n
   ·exact .inl h
   ·exact .inr fun i h1 h2=>by omega,H⟩ ?_
  clear H;rintro ms σ w q ⟨rfl,j,rfl,hj,g0,g1,h5,H⟩;rw[Q1 g0,Q1 g1];obtain⟨b,cap,spare,H,hclose⟩:=AJ H;refine A4 H ?_;refine YK H ?_;refine Qh rfl (fun h=>QR ?_) (fun h=>Qj ?_)
  ·have hlt:j < n:=by omega
   have:=hj hlt;subst this;have hq:x / 2 ^ j < 18446744073709551616:=Nat.lt_of_le_of_lt (Nat.div_le_self _ _) (by omega);have hbit:∀ i,(x / 2 ^ j).testBit i=x.testBit (j+i):=fun i=>by rw[MM]
   refine Zf H ?_;refine GU H ?_;rw[CZ (show j < 64 by omega)];refine Q5 rfl (Gq rfl rfl (by decide) (by decide) rfl ?_);refine KY H ?_;refine YP H ?_;rw[Eb (show j < 64 by omega)]
   refine UV (v := .int .u64 (Uz .u64 (x:Int) (j:Int))) (by
    show (if (j:Int) < 0 then none else some _)=_;rw[if_neg (by omega)]) rfl ?_
   rw[BZ (k := .u64) (by omega) rfl];refine YI H ?_;replace H:=hclose _ _ _ _ H;generalize x / 2 ^ j=y at *;refine J7 H ?_;by_cases hy:y=0
   ·rw[show ((y:Int) != 0)=false by simp[hy]];refine V8 H ?_;refine KU H ?_;refine⟨_,⟨rfl,64,rfl,fun h=>by omega,rfl,?_,.inr fun i h1 h2=>?_,H⟩,by rw[if_pos hlt,if_neg (by omega)];decide⟩
    ·show Value.int .i64 (IntKind.i64.wrap (IntKind.i64.wrap (IntKind.i64.wrap (Int.tdiv (j:Int) 64)+1)*64))=_;rw[CZ (show j < 64 by omega)];rfl
    ·have:=hbit (i - j);rw[hy,Nat.zero_testBit,show j+(i - j)=i by omega] at this;exact this.symm
   ·rw[show ((y:Int) != 0)=true by simp;omega];refine VR H ?_;obtain⟨c1,c2,c3⟩:=Hd hy hq;refine J5 H ?_;refine Jc rfl rfl (He y hq H) ?_;clear H;rintro v w ⟨rfl,H⟩;refine J2 H ?_;have hk:=hbit (Lib.ctz 64 y);rw[c2] at hk
    have hn:j+Lib.ctz 64 y < n:=by
     rcases Nat.lt_or_ge (j+Lib.ctz 64 y) n with h|h
     ·exact h
     ·rw[HP hb.lt h] at hk;cases hk
    refine Q3 (.inr ⟨by simp,Jy H rfl fun w' H'=>⟨⟨j+Lib.ctz 64 y,?_,by omega,by omega,fun i h1 h2=>?_,fun _=>hk.symm⟩,H'⟩⟩)
    ·show Value.int .i64 (IntKind.i64.wrap ((j:Int)+(Lib.ctz 64 y:Nat)))=_;rw[Qb (by omega) (by omega)];congr 1
    ·have:=hbit (i - j);rw[c3 (i - j) (by omega),show j+(i - j)=i by omega] at this;exact this.symm
  ·exact .inl ⟨rfl,rfl,rfl,by
    rcases h5 with h5|h5
    ·omega
    ·exact h5,hclose _ _ _ _ H⟩
 ·clear H;rintro ms σ w ⟨rfl,g0,h1,H⟩;rw[Q1 g0];obtain⟨b,cap,spare,H,hclose⟩:=AJ H;refine ZU H ?_;refine J0 H ?_;exact Q3 (Jy (hclose _ _ _ _ H) rfl fun w' H'=>⟨⟨n,rfl,ha,Nat.le_refl _,h1,fun h=>by omega⟩,H'⟩)
def TY (n x k:Nat) (v:Value):Prop:=
 (∃ a:Nat,v = .tuple #[.int .i64 a,.bool true]∧a+k≤n∧∀ i,a≤i→i < a+k→x.testBit i=false) ∨
 (v = .tuple #[.int .i64 0,.bool false]∧∀ a,a+k≤n→∃ i,a≤i∧i < a+k∧x.testBit i=true)
theorem TZ [Q4] (p n x k m:Nat) (hb:ZJ n x) (hk:1≤k) (hk2:k < 1000000) {w:World} {fr:List Q2} [hT:YX 0 Lib.deBruijn64tab fr] (H:Q0 w (BM p n [x] m::fr)) :
  Calls Tryz.prog 200 #[pp p,.int .i64 k] w (ret fun v w'=>TY n x k v∧Q0 w' (BM p n [x] m::fr)):=by
 have hle:=hb.le;refine QV Tryz.func200 rfl (by kernel_rfl) ?_;refine J3 H ?_;refine J3 H ?_;rw[show decide ((k:Int) < 1)=false from decide_eq_false (by omega)];refine A5 H ?_;refine Jc rfl rfl (Hf p n x 0 m hb (by omega) H) ?_;clear H;rintro v w ⟨hF,H⟩
 have hI:∃ (j:Nat) (ok:Bool),v = .tuple #[.int .i64 j,.bool ok]∧(ok=true→j < n∧x.testBit j=false∧∀ a,a < j→a+k≤n→∃ i,a≤i∧i < a+k∧x.testBit i=true) ∧
   (ok=false→∀ a,a+k≤n→∃ i,a≤i∧i < a+k∧x.testBit i=true):=by
  rcases hF with ⟨j,rfl,_,h2,h3,h4⟩|⟨rfl,h2⟩
  ·exact⟨j,true,rfl,fun _=>⟨h2,h3,fun a ha _=>⟨a,Nat.le_refl _,by omega,h4 a (by omega) ha⟩⟩,fun h=>by cases h⟩
  ·exact⟨0,false,rfl,(fun h=>by cases h),fun _ a ha=>⟨a,Nat.le_refl _,by omega,h2 a (by omega) (by omega)⟩⟩
 obtain⟨j,ok,rfl,hok,hno⟩:=hI;refine W0 H ?_;refine QS ?_
 refine Qi (fun ms σ w q=>ms=[]∧∃ (j:Nat) (ok:Bool),(q=if ok then n - j else 0)∧σ 0=pp p∧σ 1 = .int .i64 k∧σ 6 = .int .i64 j∧σ 7 = .bool ok∧(ok=true→j < n∧x.testBit j=false∧∀ a,a < j→a+k≤n→∃ i,a≤i∧i < a+k∧x.testBit i=true) ∧
   (ok=false→∀ a,a+k≤n→∃ i,a≤i∧i < a+k∧x.testBit i=true)∧Q0 w (BM p n [x] m::fr)) (m:=if ok then n - j else 0) ⟨rfl,j,ok,rfl,rfl,rfl,rfl,rfl,hok,hno,H⟩ ?_
 clear H hF hok hno;rintro ms σ w q ⟨rfl,j,ok,rfl,g0,g1,g6,g7,hok,hno,H⟩;rw[Q1 g0,Q1 g1,Q1 g6,Q1 g7];refine J6 H ?_;cases ok with
 | true=>
  obtain⟨h1,h2,h3⟩:=hok rfl;refine VE rfl (QR ?_);refine KX H ?_;refine Jc rfl rfl (TV p n x j m hb (by omega) H) ?_;clear H;rintro v w ⟨⟨e,rfl,e1,e2,e3,e4⟩,H⟩;refine J0 H ?_;refine KU H ?_;rw[Qb (x:=(e:Int) - (j:Int)) (by omega) (by omega)];refine J7 H ?_;refine Qh rfl (fun h=>?_) (fun h=>QR ?_)
  ·refine VG H ?_;exact Q3 (Jy H rfl fun w' H'=>⟨.inl ⟨j,rfl,by omega,fun i h5 h6=>e3 i h5 (by omega)⟩,H'⟩)
  ·have hej:j < e:=by
    rcases Nat.lt_or_ge j e with h|h
    ·exact h
    ·have:e=j:=by omega
     subst this;have:=e4 h1;rw[h2] at this;cases this
   have hF:∀ a,a≤e→a+k≤n→∃ i,a≤i∧i < a+k∧x.testBit i=true:=fun a ha hk'=>by
    rcases Nat.lt_or_ge a j with h'|h'
    ·exact h3 a h' hk'
    ·exact⟨e,ha,by omega,e4 (by omega)⟩
   refine J5 H ?_;refine Jc rfl rfl (Hf p n x e m hb (by omega) H) ?_;clear H;rintro v w ⟨hF2,H⟩
   rcases hF2 with ⟨j2,rfl,f1,f2,f3,f4⟩|⟨rfl,f2⟩
   ·refine HY H ?_;refine⟨_,⟨rfl,j2,true,rfl,rfl,rfl,rfl,rfl,fun _=>⟨f2,f3,fun a ha hk'=>?_⟩,(fun h=>by cases h),H⟩,by simp;omega⟩
    rcases Nat.lt_or_ge e a with h'|h'
    ·exact⟨a,Nat.le_refl _,by omega,f4 a (by omega) ha⟩
    ·exact hF a h' hk'
   ·refine HY H ?_;refine⟨_,⟨rfl,0,false,rfl,rfl,rfl,rfl,rfl,(fun h=>by cases h),fun _ a hk'=>?_,H⟩,by simp;omega⟩
    rcases Nat.lt_or_ge e a with h'|h'
    ·exact⟨a,Nat.le_refl _,by omega,f2 a (by omega) (by omega)⟩
    ·exact hF a h' hk'
 | false=>
  refine VY rfl (Qj ?_);refine J3 H ?_;exact Q3 (Jy H rfl fun w' H'=>⟨.inr ⟨rfl,hno rfl⟩,H'⟩)
def QA (l:List Nat):List Value:=l.map fun x:Nat=>Value.int .i64 (x:Int)
theorem QE (l:List Nat):(QA l).length=l.length*1:=by simp[QA]
theorem WW (a b:List Nat):QA (a++b)=QA a++QA b:=by simp[QA]
theorem GW {l:List Nat} {spare:List Value} {i x:Nat} (h:l[i]? = some x):(QA l++spare)[0+i*1]? = some (.int .i64 x):=by
 have hi:=(List.getElem?_eq_some_iff.1 h).1;rw[Nat.zero_add,Nat.mul_one,getElem?_append_left (by simpa [QA] using hi)];simp[QA,h]
theorem Ec {l:List Nat} {spare:List Value} {i x:Nat} (h:i < l.length):(QA l++spare).set (0+i*1) (.int .i64 x)=QA (l.set i x)++spare:=by
 rw[Nat.zero_add,Nat.mul_one,set_append_left _ _ (by simpa [QA] using h)];simp[QA,map_set]
theorem MN {l:List Nat} {spare:List Value} {i x:Nat} (h:i < l.length):(QP l++spare).set (0+i*1) (.int .u64 x)=QP (l.set i x)++spare:=by
 rw[Nat.zero_add,Nat.mul_one,set_append_left _ _ (by simpa [QP] using h)];simp[QP,map_set]
@[reducible] def NL (v:Value) (l:List Nat):Q2:=QC 3 1 v (QA l)
theorem WA {a b:Nat} (h:a < 9223372036854775808):IntKind.i64.wrap (Int.tdiv (a:Int) (b:Int))=((a / b:Nat):Int):=by
 have hle:a / b≤a:=Nat.div_le_self _ _;rw[Int.tdiv_eq_ediv_of_nonneg (by omega),← Int.natCast_ediv];generalize a / b=q at hle;exact Qb (by omega) (by omega)
structure RK (size:Nat) (mem own ws:List Nat) (many:Nat):Prop where
 s1:1≤size
 s2:size≤1024
 c1:1≤own.length
 c2:own.length≤1024
 len:mem.length=own.length*size
 many:many=(own.filter (· != 0)).length
 one:own.length≤63→∃ x,ws=[x]∧x < 2 ^ own.length∧∀ c,c < own.length→x.testBit c=decide (own.getD c 0≠0)
theorem Ed:∀ (own:List Nat) (x:Nat),(∀ c,c < own.length→x.testBit c=decide (own.getD c 0≠0))→Yd own.length x=(own.filter (· != 0)).length
 | own,x,h=>by
  unfold Yd
  have e:(List.range own.length).filter (fun i=>x.testBit i)=(List.range own.length).filter (fun i=>own.getD i 0 != 0):=by
   apply filter_congr;intro i hi;rw[mem_range] at hi;show x.testBit i=(own.getD i 0 != 0);rw[h i hi];generalize own.getD i 0=z;cases z <;> simp
  rw[e];clear e h
  have:∀ (l:List Nat),((List.range l.length).filter (fun i=>l.getD i 0 != 0)).length=(l.filter (· != 0)).length:=by
   intro l
   have e2:l.filter (· != 0)=((List.range l.length).filter (fun i=>l.getD i 0 != 0)).map (fun i=>l.getD i 0):=by
    have e3:l=(List.range l.length).map (fun i=>l.getD i 0):=by
     apply ext_getElem?;intro i;by_cases hi:i < l.length
     ·rw[getElem?_map,getElem?_range hi,getElem?_eq_getElem hi];simp[hi]
     ·rw[getElem?_eq_none (by omega),getElem?_eq_none (by simp;omega)]
    conv=>lhs;rw[e3]
    rw[filter_map];rfl
   rw[e2,length_map]
  exact this own
def ST (p size:Nat) (mem own:List Nat):Q2:=ex fun q:Value×Value×Nat×List Nat×Nat=>
 star [prop (RK size mem own q.2.2.2.1 q.2.2.2.2),pts p (row 230 [q.1,.int .i64 size,q.2.1,pp q.2.2.1]),UL q.1 mem,NL q.2.1 own,BM q.2.2.1 own.length q.2.2.2.1 q.2.2.2.2]
theorem Gz [Q4] {w:World} {p size:Nat} {mem own:List Nat} {l:List Q2} (H:Q0 w (ST p size mem own::l)):∃ v v2 u ws many,RK size mem own ws many ∧
  Q0 w (pts p (row 230 [v,.int .i64 size,v2,pp u])::UL v mem::NL v2 own::BM u own.length ws many::l):=by
 obtain⟨⟨v,v2,u,ws,many⟩,H⟩:=Q0.ex.1 H;have H:=Q0.star.1 H;obtain⟨h,H⟩:=Q0.prop.1 H;exact⟨v,v2,u,ws,many,h,H⟩
theorem GA [Q4] {w:World} {p size:Nat} {mem own:List Nat} {l:List Q2} {v v2:Value} {u:Nat} {ws:List Nat} {many:Nat} (h:RK size mem own ws many)
  (H:Q0 w (pts p (row 230 [v,.int .i64 size,v2,pp u])::UL v mem::NL v2 own::BM u own.length ws many::l)):Q0 w (ST p size mem own::l):=
 Q0.ex.2 ⟨(v,v2,u,ws,many),Q0.star.2 (Q0.prop.2 ⟨h,H⟩)⟩
theorem TG [Q4] (n size:Nat) (h1:1≤n) (h2:n≤1024) (h3:1≤size) (h4:size≤1024) {w:World} {fr:List Q2} (H:Q0 w fr) :
  Calls Tryz.prog 69 #[.int .i64 n,.int .i64 size] w (ret fun v w'=>∃ p,v = .tuple #[pp p,.int .i64 0]∧Q0 w' (ST p size (List.replicate (n*size) 0) (List.replicate n 0)::fr)):=by
 have hns:n*size≤1048576:=Nat.mul_le_mul h2 h4;refine QV Tryz.func69 rfl (by kernel_rfl) ?_;refine J3 H ?_;refine Vi H ?_;rw[show decide ((n:Int) < 1)=false from decide_eq_false (by omega)];refine DO H ?_;rw[show decide ((n:Int) > 1024)=false from decide_eq_false (by omega)];refine DO H ?_;rw[show decide ((size:Int) < 1)=false from decide_eq_false (by omega)];refine Yy H ?_;refine J0 H ?_;rw[show decide ((size:Int) > 1024)=false from decide_eq_false (by omega)];refine A5 H ?_;refine Jc rfl rfl (ML n (by omega) (by omega) H) ?_;clear H;rintro v w ⟨u,rfl,H⟩;refine DM H ?_;clear H;intro w H;refine Ja 0 ?_;refine Ja 1 ?_;refine Ja 2 ?_;refine Ui H ?_;refine Ja 7 ?_
 have e1:IntKind.i64.wrap ((n:Int)*(size:Int))=((n*size:Nat):Int):=by
  rw[← Int.natCast_mul,Qb (by omega) (by omega)]
 rw[e1]
 have hok:RK size (List.replicate (n*size) 0) (List.replicate n 0) (List.replicate (((List.replicate n 0).length+63) / 64) 0) 0:=by
  refine⟨h3,h4,by simpa using h1,by simpa using h2,by simp,by simp,fun h=>⟨0,?_,Nat.two_pow_pos _,fun c hc=>?_⟩⟩
  ·have:((List.replicate n 0:List Nat).length+63) / 64=1:=by simp at h ⊢;omega
   rw[this];rfl
  ·have hc':c < n:=by simpa using hc
   simp[Nat.zero_testBit,hc']
 have z1:Vx (Qt (.int .u64 0)) (n*size)=QP (List.replicate (n*size) 0):=by
  rw[show Qt (.int .u64 0)=[.int .u64 0] from rfl,Rr];simp[QP]
 have z2:Vx (Qt (.int .i64 0)) n=QA (List.replicate n 0):=by
  rw[show Qt (.int .i64 0)=[.int .i64 0] from rfl,Rr];simp[QA]
 have hl:(List.replicate n 0:List Nat).length=n:=by simp
 rw[hl] at hok;refine Jw 3 6 H rfl rfl (ZG H rfl rfl (by decide) (by omega) rfl ?_) (ZG H rfl rfl (by decide) (by omega) rfl ?_)
 ·clear H;intro b30 w H;rw[z1] at H;refine Jo 6 H ?_;refine ZG H rfl rfl (by decide) (by omega) rfl ?_;clear H;intro b33 w H;rw[z2] at H;refine GY 8 rfl (Q9.none rfl) rfl (by kernel_rfl) ?_;refine Jo 9 H ?_;refine Ws H rfl rfl ?_;clear H;intro b36 w H;refine DP H ?_;replace H:=Js [0,1,0,0] 0 H;have H:=GA (own:=List.replicate n 0) hok (by rw[hl];exact H);exact Q3 (Jy H rfl fun w' H'=>⟨_,rfl,H'⟩)
 ·clear H;intro b33 w H;rw[z2] at H;refine Jo 3 H ?_;refine ZG H rfl rfl (by decide) (by omega) rfl ?_;clear H;intro b30 w H;rw[z1] at H;refine GY 8 rfl (Q9.none rfl) rfl (by kernel_rfl) ?_;refine Jo 9 H ?_;refine Ws H rfl rfl ?_;clear H;intro b36 w H;refine DP H ?_;have H:=GA (own:=List.replicate n 0) hok (by rw[hl];exact H);exact Q3 (Jy H rfl fun w' H'=>⟨_,rfl,H'⟩)
theorem MO [Q4] (p size:Nat) (mem own:List Nat) {w:World} {fr:List Q2} (H:Q0 w (ST p size mem own::fr)):Calls Tryz.prog 242 #[pp p] w (ret fun v w'=>v = .int .i64 own.length∧Q0 w' (ST p size mem own::fr)):=by
 obtain⟨v,v2,u,ws,many,hok,H⟩:=Gz H;obtain⟨a2,c2,rfl⟩:=QD (H.drop.drop) (QE own) (by decide);refine QV Tryz.func242 rfl (by kernel_rfl) ?_;refine Ky H ?_;refine Ul H ?_;exact Q3 (Jy (GA hok H) rfl fun w' H'=>⟨rfl,H'⟩)
theorem Ee [Q4] (p size:Nat) (mem own:List Nat) {w:World} {fr:List Q2} (H:Q0 w (ST p size mem own::fr)):Calls Tryz.prog 54 #[pp p] w (ret fun v w'=>v = .int .i64 size∧Q0 w' (ST p size mem own::fr)):=by
 obtain⟨v,v2,u,ws,many,hok,H⟩:=Gz H;refine QV Tryz.func54 rfl (by kernel_rfl) ?_;refine Ky H ?_;refine J0 H ?_;exact Q3 (Jy (GA hok H) rfl fun w' H'=>⟨rfl,H'⟩)
theorem TU [Q4] (p size:Nat) (mem own:List Nat) {w:World} {fr:List Q2} (H:Q0 w (ST p size mem own::fr)):Calls Tryz.prog 93 #[pp p] w (ret fun v w'=>v = .int .i64 ((own.length - (own.filter (· != 0)).length:Nat):Int)∧Q0 w' (ST p size mem own::fr)):=by
 obtain⟨v,v2,u,ws,many,hok,H⟩:=Gz H;obtain⟨a2,c2,rfl⟩:=QD (H.drop.drop) (QE own) (by decide);refine QV Tryz.func93 rfl (by kernel_rfl) ?_;refine BP H ?_;refine J1 H ?_;clear H;intro w H;refine X7 H ?_;refine Kp 4 rfl (Q9.none rfl) rfl (by kernel_rfl) ?_;refine DS H ?_;refine Jl 8 [9] H ?_;replace H:=Js [3,0,0,0] 0 H;refine Jo 9 H ?_;refine Jk rfl rfl (MH u _ _ _ H) ?_;clear H;rintro v w ⟨rfl,H⟩;refine DP H ?_;replace H:=Js [1,1,1,0] 0 H;have hle:=length_filter_le (· != 0) own;have:=hok.many;have h2:=hok.c2;refine Q3 (Jy (GA hok H) rfl fun w' H'=>⟨?_,H'⟩);show Value.int .i64 (IntKind.i64.wrap ((own.length:Int) - (many:Int)))=_;rw[Qb (by omega) (by omega)];congr 1;omega
theorem TX [Q4] (p size:Nat) (mem own:List Nat) (c:Nat) {w:World} {fr:List Q2} (H:Q0 w (ST p size mem own::fr)) (hc:c < own.length):Calls Tryz.prog 243 #[pp p,.int .i64 c] w (ret fun v w'=>v = .int .i64 (own.getD c 0)∧Q0 w' (ST p size mem own::fr)):=by
 refine QV Tryz.func243 rfl (by kernel_rfl) ?_;refine Rw H ?_;rw[show decide ((c:Int) < 0)=false from decide_eq_false (by omega)];refine Yy H ?_;refine QT rfl rfl rfl (V0 (a:=[]) (b:=[]) rfl rfl (call (MO p size mem own H) ?_));clear H;rintro v w ⟨rfl,H⟩;refine DT H ?_;rw[show decide ((c:Int)≥(own.length:Int))=false from decide_eq_false (by omega)];refine V8 H ?_;obtain⟨v,v2,u,ws,many,hok,H⟩:=Gz H;replace H:=Js [2,0,0,0] 0 H;obtain⟨a2,c2,rfl⟩:=QD H (QE own) (by decide);obtain⟨b,s,rfl,H,hclose⟩:=Qw H (by omega);have hx:=getElem?_eq_getElem hc;have hg:own.getD c 0=own[c]:=by simp[hc]
 rw[hg];generalize own[c]=x at hx;refine J9 H ?_;refine Jd ?_;refine Q5 rfl (QW H rfl (GW hx) rfl ?_);refine J0 H ?_;replace H:=hclose _ _ H;replace H:=Js [1,1,0,0] 0 H;exact Q3 (Jy (GA hok H) rfl fun w' H'=>⟨rfl,H'⟩)
def Gh (size:Nat) (own:List Nat) (a n:Nat):Prop:=∀ c,a / size≤c→c≤(a+n - 1) / size→own.getD c 0≠0
theorem AL [Q4] (p size:Nat) (mem own:List Nat) (a n:Nat) (h1:1≤n) (h2:a+n≤mem.length) (h3:Gh size own a n) {w:World} {fr:List Q2} (H:Q0 w (ST p size mem own::fr)) :
  Calls Tryz.prog 193 #[pp p,.int .i64 a,.int .i64 n] w (ret fun v w'=>v = .int .i64 0∧Q0 w' (ST p size mem own::fr)):=by
 obtain⟨v,v2,u,ws,many,hok,H⟩:=Gz H;have hok':=hok;obtain⟨s1,s2,c1,c2,hlen,_,_⟩:=hok';have hmem:mem.length≤1048576:=by rw[hlen];exact Nat.mul_le_mul c2 s2
 have hdiv:(a+n - 1) / size < own.length:=by
  rw[Nat.div_lt_iff_lt_mul (by omega),← hlen];omega
 have hdd:a / size≤(a+n - 1) / size:=Nat.div_le_div_right (by omega);obtain⟨a1,k1,rfl⟩:=QD (H.drop) (Yz mem) (by decide);obtain⟨a2,k2,rfl⟩:=QD (H.drop.drop) (QE own) (by decide);refine QV Tryz.func193 rfl (by kernel_rfl) ?_;refine Rw H ?_;rw[show decide ((n:Int) < 0)=false from decide_eq_false (by omega)];refine DO H ?_;rw[show decide ((a:Int) < 0)=false from decide_eq_false (by omega)];refine Gw H ?_;refine HZ H ?_;refine YP H ?_;rw[show decide ((a:Int) > (mem.length:Int))=false from decide_eq_false (by omega)];refine Gw H ?_;refine QT rfl rfl rfl (V7 rfl rfl ?_);refine QT rfl rfl rfl (QW H rfl rfl rfl ?_);refine QT rfl rfl rfl (ZY rfl rfl ?_);refine Gw H ?_;refine J0 H ?_;rw[show decide ((n:Int) > IntKind.i64.wrap ((mem.length:Int) - (a:Int)))=false from decide_eq_false (by rw[Qb (by omega) (by omega)];omega)];refine BS H ?_;rw[show ((n:Int) == 0)=false by simp;omega];refine V8 H ?_;refine A4 H ?_
 refine UV (v := .int .i64 ((a / size:Nat):Int)) (by
  show (if IntKind.i64=IntKind.i64 then (if (size:Int)=0 then none else some _) else none)=_;rw[if_pos rfl,if_neg (by omega),WA (by omega)]) rfl ?_
 refine YK H ?_;refine QS ?_;refine Qi (fun ms σ w q=>ms=[]∧∃ c:Nat,a / size≤c∧c≤(a+n - 1) / size+1∧q=(a+n - 1) / size+1 - c∧σ 0=pp p∧σ 1 = .int .i64 a∧σ 2 = .int .i64 n∧σ 7 = .int .i64 c∧Q0 w (pts p (row 230 [.slice a1 mem.length k1,.int .i64 size,.slice a2 own.length k2,pp u])::UL (.slice a1 mem.length k1) mem::NL (.slice a2 own.length k2) own::BM u own.length ws many::fr)) (m:=(a+n - 1) / size+1 - a / size) ⟨rfl,a / size,Nat.le_refl _,by omega,rfl,rfl,rfl,rfl,rfl,H⟩ ?_;clear H;rintro ms σ w q ⟨rfl,c,hc1,hc2,rfl,g0,g1,g2,g7,H⟩;rw[Q1 g0,Q1 g1,Q1 g2,Q1 g7];refine J5 H ?_;refine Ba H ?_;refine Gg H ?_;rw[Qb (x:=(a:Int)+(n:Int)) (by omega) (by omega),Qb (x:=(a:Int)+(n:Int) - 1) (by omega) (by omega),show (a:Int)+(n:Int) - 1=((a+n - 1:Nat):Int) by omega]
 refine UV (v := .int .i64 (((a+n - 1) / size:Nat):Int)) (by
  show (if IntKind.i64=IntKind.i64 then (if (size:Int)=0 then none else some _) else none)=_;rw[if_pos rfl,if_neg (by omega),WA (by omega)]) rfl ?_
 refine YK H ?_;refine Qh rfl (fun h=>QR ?_) (fun h=>Qj ?_)
 ·have hcl:c < own.length:=by omega
  have hx:=getElem?_eq_getElem hcl;have hne:(own.getD c 0:Nat)≠0:=h3 c hc1 (by omega);have hg:own.getD c 0=own[c]:=by simp[hcl]
  rw[hg] at hne;generalize own[c]=y at hx hne;replace H:=Js [2,0,0,0] 0 H;obtain⟨b,s,rfl,H,hclose⟩:=Qw H (by omega);refine A6 H ?_;refine Jd ?_;refine Q5 rfl (QW H rfl (GW hx) rfl ?_);refine J0 H ?_;rw[show ((y:Int) == 0)=false by simp;omega];refine V8 H ?_;replace H:=hclose _ _ H;replace H:=Js [1,1,0,0] 0 H;refine VG H ?_;exact⟨_,⟨rfl,c+1,by omega,by omega,rfl,rfl,rfl,rfl,Qa (by omega),H⟩,by omega⟩
 ·refine VJ H ?_;exact Q3 (Jy (GA hok H) rfl fun w' H'=>⟨rfl,H'⟩)
end Go.Proofs.YtbnnnljagkjpiaaGreatDoor
