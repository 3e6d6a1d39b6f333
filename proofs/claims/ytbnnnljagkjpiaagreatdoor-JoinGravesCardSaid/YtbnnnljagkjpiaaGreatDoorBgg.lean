/- Cells: what is proved on the way: every input of the statement; no condition. Texts joined: RemA FldA FldB FldC HdrA HdrB BmpA. -/
import Derived.Test.YtbnnnljagkjpiaaGreatDoorBgf
import Derived.Test.YtbnnnljagkjpiaaGreatDoorBgd
set_option linter.unusedVariables false
set_option linter.unusedSimpArgs false
set_option linter.unusedSectionVars false
namespace Go.Proofs.YtbnnnljagkjpiaaGreatDoor
open List
open Go.SL
abbrev Rf:=Int×Int
theorem Rc:GB Tryz.prog 132 kp:=Lh inferInstance
theorem Vf:GB Tryz.prog 3 (ki .i64):=SV inferInstance
@[reducible] def vm:Nat→Value:=fun b => .map (some b)
@[reducible] def v1:Int→Value:=fun x => .int .i64 x
@[reducible] def rf (r:Rf):Value := .agg #[.int .i64 r.1,.int .i64 r.2]
structure Gr where
 key:Int
 blk:Nat
 m:List (Rf×Int)
@[reducible] def Rd (g:Gr):Q2:=mp kp v1 g.blk g.m
@[reducible] def Zo (g:Gr):Int×Nat:=(g.key,g.blk)
def mem (G:List Gr) (k:Int) (r:Rf):Prop:=∃ g∈G,g.key=k∧r∈g.m.map (·.1)
def UO (bo:Nat) (S:Int→Rf→Prop):Q2:=ex fun G=>star [prop (∀ k r,mem G k r↔S k r),mp (ki .i64) vm bo (G.map Zo),star (G.map Rd)]
theorem Ed [Q4] {w:World} {bo:Nat} {S:Int→Rf→Prop} {l:List Q2} (H:Q0 w (UO bo S::l)) :
  ∃ G,(∀ k r,mem G k r↔S k r)∧Q0 w (mp (ki .i64) vm bo (G.map Zo)::star (G.map Rd)::l):=by
 obtain⟨G,H⟩:=Q0.ex.1 H;have H:=Q0.star.1 H;obtain⟨h1,H⟩:=Q0.prop.1 H;exact⟨G,h1,H⟩
theorem Xy [Q4] {w:World} {bo:Nat} {S:Int→Rf→Prop} {l:List Q2} (G:List Gr) (h:∀ k r,mem G k r↔S k r) (H:Q0 w (mp (ki .i64) vm bo (G.map Zo)::star (G.map Rd)::l)):Q0 w (UO bo S::l):=
 Q0.ex.2 ⟨G,Q0.star.2 (Q0.prop.2 ⟨h,H⟩)⟩
theorem Kb [Q4] {w:World} {K V:Type} {ek:K→Value} {vv:V→Value} (b:Nat) {m:List (K×V)} {l:List Q2} (H:Q0 w l) [Uo ek vv b m l]:(m.map (·.1)).Nodup:=by
 obtain⟨es,c,_,h⟩:=Q0.mp H (ek:=ek) (vv:=vv) (b:=b) (m:=m);exact h.nodup
theorem WN (G:List Gr):(G.map Zo).map (·.1)=G.map (·.key):=by simp[Zo,Function.comp_def]
theorem Ee {G:List Gr} {k:Int} {b:Nat} (h:QY (G.map Zo) k=some b):∃ g g1 g2,G=g1++g::g2∧g.key=k∧g.blk=b:=by
 have h1:=Un h;obtain⟨g,hg,e⟩:=mem_map.1 h1;obtain⟨g1,g2,rfl⟩:=append_of_mem hg;simp only[Zo,Prod.mk.injEq] at e;exact⟨g,g1,g2,rfl,e.1,e.2⟩
theorem WO {K V:Type} [DecidableEq K] {l1 l2:List (K×V)} {p:K×V} (h:((l1++p::l2).map (·.1)).Nodup):QC (l1++p::l2) p.1=l1++l2:=by
 induction l1 with
 | nil=>simp[QC]
 | cons q l1 ih=>
  simp only[cons_append,map_cons,nodup_cons] at h;have hne:q.1≠p.1:=fun e=>h.1 (by rw[e];simp);simp[QC,hne,ih h.2]
theorem WP {g1 g2:List Gr} {g:Gr} {k:Int} {r:Rf}:mem (g1++g::g2) k r↔(g.key=k∧r∈g.m.map (·.1))∨mem (g1++g2) k r:=by
 unfold mem;simp only[mem_append,mem_cons];constructor
 ·rintro⟨x,hx|rfl|hx,h⟩
  ·exact .inr ⟨x,.inl hx,h⟩
  ·exact .inl h
  ·exact .inr ⟨x,.inr hx,h⟩
 ·rintro(h|⟨x,hx|hx,h⟩)
  ·exact⟨g,.inr (.inl rfl),h⟩
  ·exact⟨x,.inl hx,h⟩
  ·exact⟨x,.inr (.inr hx),h⟩
theorem Re {G:List Gr} {k:Int} {r:Rf} (h:mem G k r):k∈G.map (·.key):=by
 obtain⟨g,hg,rfl,_⟩:=h;exact mem_map_of_mem hg
theorem CU {g1 g2:List Gr} {g:Gr} (h:((g1++g::g2).map (·.key)).Nodup):g.key∉(g1++g2).map (·.key):=by
 rw[((perm_middle (a:=g) (l₁:=g1) (l₂:=g2)).map (·.key)).nodup_iff] at h;exact(nodup_cons.1 h).1
theorem ME {g1 g2:List Gr} {g g':Gr} (hk:g'.key=g.key) (hn:((g1++g::g2).map (·.key)).Nodup) {k:Int} {r:Rf}:mem (g1++g'::g2) k r↔if k=g.key then r∈g'.m.map (·.1) else mem (g1++g::g2) k r:=by
 have hr:=CU hn;rw[WP,WP,hk];by_cases h:k=g.key
 ·subst h;simp only[if_true,true_and];exact⟨fun h=>h.elim id fun h=>absurd (Re h) hr,.inl⟩
 ·rw[if_neg h];constructor
  ·rintro(⟨e,_⟩|h')
   ·exact absurd e.symm h
   ·exact .inr h'
  ·rintro(⟨e,_⟩|h')
   ·exact absurd e.symm h
   ·exact .inr h'
theorem MF [Q4] (bo:Nat) (S:Int→Rf→Prop) (k:Int) (r:Rf) {w:World} {fr:List Q2} (H:Q0 w (UO bo S::fr)) :
  Calls Tryz.prog 107 #[.map (some bo),.int .i64 k,rf r] w (ret fun v w'=>Q0 w' (UO bo (fun k' r'=>S k' r'∧¬ (k'=k∧r'=r))::fr)):=by
 obtain⟨a,b⟩:=r;refine QQ Tryz.func107 rfl (by kernel_rfl) ?_;obtain⟨G,hG,H⟩:=Ed H;refine J7 H ?_;clear H;intro b5 w H;refine WY H ?_;refine Q5 rfl (G0 (key:=k) H rfl rfl Vf rfl ?_);have hn0:=Kb bo H;have hn:(G.map (·.key)).Nodup:=by rw[← WN];exact hn0
 cases hf:QY (G.map Zo) k with
 | none=>
  refine KA H ?_;refine Q5 rfl (SU (key:=(a,b)) rfl rfl Rc rfl ?_);refine WY H ?_;refine Q5 rfl (G0 (key:=k) H rfl rfl Vf rfl ?_);rw[hf];refine Q5 rfl (SX rfl rfl ?_);refine J0 H ?_;refine Vp rfl ?_;refine J9 H ?_;refine Q5 rfl (Xk (key:=k) H rfl rfl Vf rfl ?_);clear H;intro w H;refine J2 H ?_;have hk:=W6.1 hf;rw[BX hk] at H;refine Y6 _ (.inl rfl) (Xy G (fun k' r'=>?_) H.drop) rfl (fun w' H'=>H');rw[← hG k' r'];exact⟨fun h=>⟨h,fun e=>hk (by rw[WN,← e.1];exact Re h)⟩,(·.1)⟩
 | some bi=>
  obtain⟨g,g1,g2,rfl,rfl,rfl⟩:=Ee hf;have H:=(Q0.pick rfl).1 (H.pull 2);refine KA H ?_;have hi:=Kb g.blk H;refine Q5 rfl (Xk (key:=(a,b)) H rfl rfl Rc rfl ?_);clear H;intro w H;refine WY H ?_;refine Q5 rfl (G0 (key:=g.key) H rfl rfl Vf rfl ?_);rw[hf];refine Q5 rfl (Fw kp v1 H rfl rfl ?_);refine J0 H ?_;refine W3 rfl (fun ht=>?_) (fun ht=>?_)
  ·refine J9 H ?_;refine Q5 rfl (Xk (key:=g.key) H rfl rfl Vf rfl ?_);clear H;intro w H;refine J2 H ?_
   have e:QC ((g1++g::g2).map Zo) g.key=(g1++g2).map Zo:=by
    simp only[map_append,map_cons] at hn0 ⊢;exact WO (p:=Zo g) (by simpa using hn0)
   rw[e] at H;refine Y6 _ (.inl rfl) (Xy (g1++g2) (fun k' r'=>?_) (l:=fr) ?_) rfl (fun w' H'=>H')
   ·have hr:=CU hn;have hz:QC g.m (a,b)=[]:=eq_nil_of_length_eq_zero (by simpa using ht);rw[← hG k' r',WP];constructor
    ·intro h;exact⟨.inr h,fun e=>hr (by rw[← e.1];exact Re h)⟩
    ·rintro⟨⟨rfl,h⟩|h,h2⟩
     ·have:=(BK (m:=g.m) (x:=(a,b)) (y:=r') hi).2 ⟨fun e=>h2 ⟨rfl,e⟩,h⟩;rw[hz] at this;simp at this
     ·exact h
   ·replace H:=Js [3,1] 2 H;exact H
  ·refine QD ?_;replace H:=Js [0,0,1] 1 H;refine Y6 _ (.inl rfl) (Xy (g1++{ g with m:=QC g.m (a,b) }::g2) (fun k' r'=>?_) (l:=fr) ?_) rfl (fun w' H'=>H')
   ·rw[ME (g:=g) (g':={ g with m:=QC g.m (a,b) }) rfl hn,← hG k' r'];split
    ·rename_i e;subst e;rw[BK hi,WP];have hr:=CU hn;constructor
     ·rintro⟨h1,h2⟩;exact⟨.inl ⟨rfl,h2⟩,fun e=>h1 e.2⟩
     ·rintro⟨⟨_,h⟩|h,h2⟩
      ·exact⟨fun e=>h2 ⟨rfl,e⟩,h⟩
      ·exact absurd (Re h) hr
    ·rename_i e;exact⟨fun h=>⟨h,fun e'=>e e'.1⟩,(·.1)⟩
   ·have H:=((Q0.pick (R:=Rd) (gs:=g1++{ g with m:=QC g.m (a,b) }::g2) rfl).2 H).swap;simpa only[map_append,map_cons,map_nil,Zo] using H
theorem MH [Q4] (bo:Nat) (S:Int→Rf→Prop) (k:Int) (r:Rf) {w:World} {fr:List Q2} (H:Q0 w (UO bo S::fr)) :
  Calls Tryz.prog 238 #[.map (some bo),.int .i64 k,rf r] w (ret fun v w'=>Q0 w' (UO bo (fun k' r'=>S k' r'∨(k'=k∧r'=r))::fr)):=by
 obtain⟨a,b⟩:=r;refine QQ Tryz.func238 rfl (by kernel_rfl) ?_;obtain⟨G,hG,H⟩:=Ed H;refine J7 H ?_;clear H;intro b5 w H;refine WY H ?_;refine Q5 rfl (G0 (key:=k) H rfl rfl Vf rfl ?_);have hn0:=Kb bo H;have hn:(G.map (·.key)).Nodup:=by rw[← WN];exact hn0
 cases hf:QY (G.map Zo) k with
 | none=>
  refine Q5 rfl (Lk rfl rfl (.inl rfl) rfl ?_);refine J2 H ?_;refine Vp rfl ?_;refine J9 H ?_;refine Q5 rfl (R3 v1 kp H rfl ?_);clear H;intro b12 w H;refine Q5 rfl (Xj (key:=k) (v:=b12) H rfl rfl rfl Vf rfl ?_);clear H;intro w H;refine WY H ?_;have hk:=W6.1 hf;refine Q5 rfl (G0 (key:=k) H rfl rfl Vf rfl ?_);have hf2:QY (Vw (G.map Zo) k b12) k=some b12:=by rw[UC,if_pos rfl]
  rw[hf2];refine KA H ?_;refine Q5 rfl (Xj (key:=(a,b)) (v:=1) H rfl rfl rfl Rc rfl ?_);clear H;intro w H;refine J2 H ?_;rw[Xg hk] at H;replace H:=Js [0,2,1] 1 H;refine Y6 _ (.inl rfl) (Xy (G++{ key:=k,blk:=b12,m:=[((a,b),1)] }::[]) (fun k' r'=>?_) (l:=fr) ?_) rfl (fun w' H'=>H')
  ·rw[WP,append_nil,hG k' r'];constructor
   ·rintro(⟨rfl,h⟩|h)
    ·exact .inr ⟨rfl,by simpa using h⟩
    ·exact .inl h
   ·rintro(h|⟨rfl,rfl⟩)
    ·exact .inr h
    ·exact .inl ⟨rfl,by simp⟩
  ·have H:=((Q0.pick (R:=Rd) (gs:=G++{ key:=k,blk:=b12,m:=[((a,b),1)] }::[]) rfl).2 (by rw[append_nil];exact H)).swap;simpa only[map_append,map_cons,map_nil,Zo] using H
 | some bi=>
  obtain⟨g,g1,g2,rfl,rfl,rfl⟩:=Ee hf;have H:=(Q0.pick rfl).1 (H.pull 2);refine Q5 rfl (Lk rfl rfl (.inl rfl) rfl ?_);refine J2 H ?_;refine VM rfl (QD ?_);refine J9 H ?_;refine Q5 rfl (G0 (key:=g.key) H rfl rfl Vf rfl ?_);rw[hf];refine KA H ?_;refine Q5 rfl (Xj (key:=(a,b)) (v:=1) H rfl rfl rfl Rc rfl ?_);clear H;intro w H;refine J2 H ?_;replace H:=Js [0,0,1] 1 H;refine Y6 _ (.inl rfl) (Xy (g1++{ g with m:=Vw g.m (a,b) 1 }::g2) (fun k' r'=>?_) (l:=fr) ?_) rfl (fun w' H'=>H')
  ·rw[ME (g:=g) (g':={ g with m:=Vw g.m (a,b) 1 }) rfl hn,← hG k' r'];split
   ·rename_i e;subst e;rw[LS,WP];have hr:=CU hn;constructor
    ·rintro(h|h)
     ·exact .inr ⟨rfl,h⟩
     ·exact .inl (.inl ⟨rfl,h⟩)
    ·rintro((⟨_,h⟩|h)|⟨_,h⟩)
     ·exact .inr h
     ·exact absurd (Re h) hr
     ·exact .inl h
   ·rename_i e;exact⟨.inl,fun h=>h.elim id fun e'=>absurd e'.1 e⟩
  ·have H:=((Q0.pick (R:=Rd) (gs:=g1++{ g with m:=Vw g.m (a,b) 1 }::g2) rfl).2 H).swap;simpa only[map_append,map_cons,map_nil,Zo] using H
@[reducible] def pp (b:Nat):Value := .pointer (some ⟨b,0,none⟩)
theorem Qb {x:Int} (h1 : -9223372036854775808≤x) (h2:x≤9223372036854775807):IntKind.i64.wrap x=x:=by
 simp[IntKind.wrap,IntKind.bits,IntKind.signed];omega
theorem Qc {i:Nat} (h:i < 1000000000):Value.int .i64 (IntKind.i64.wrap ((i:Int)+1)) = .int .i64 ((i+1:Nat):Int):=by
 rw[Qb (by omega) (by omega)];rfl
abbrev Fl:=Nat×Nat
def Rg (f:Fl):Prop:=0 < f.2∧f.1+f.2≤64
@[reducible] def fv (f:Fl):Value := .agg #[.int .i64 f.1,.int .i64 f.2]
def MI (f:Fl):List Value:=[.int .i64 f.1,.int .i64 f.2]
def Ae (l:List Fl):List Value:=l.flatMap MI
def Qa (l:List Nat):List Value:=l.map fun x:Nat=>Value.int .u64 (x:Int)
theorem Ef (l:List Fl):(Ae l).length=l.length*2:=by
 induction l with
 | nil=>rfl
 | cons p L ih=>simp only[Ae,MI,flatMap_cons,length_append,length_cons,length_nil] at ih ⊢;omega
theorem Z3 (l:List Nat):(Qa l).length=l.length*1:=by simp[Qa]
theorem TV (a b:List Nat):Qa (a++b)=Qa a++Qa b:=by simp[Qa]
theorem HL {l:List Nat} {spare:List Value} {i x:Nat} (h:l[i]? = some x):(Qa l++spare)[0+i*1]? = some (.int .u64 x):=by
 have hi:=(List.getElem?_eq_some_iff.1 h).1;rw[Nat.zero_add,Nat.mul_one,getElem?_append_left (by simpa [Qa] using hi)];simp[Qa,h]
theorem TY {L:List Fl} {i:Nat} {p:Fl} (h:L[i]? = some p):(Ae L)[i*2]? = some (.int .i64 p.1)∧(Ae L)[i*2+1]? = some (.int .i64 p.2):=by
 induction L generalizing i with
 | nil=>simp at h
 | cons x L ih=>
  cases i with
  | zero=>
   simp at h;subst h;exact⟨rfl,rfl⟩
  | succ i=>
   have:=ih (i:=i) (by simpa using h);rw[show (i+1)*2=i*2+2 by omega];exact this
theorem HM {L:List Fl} {spare:List Value} {i:Nat} {p:Fl} (h:L[i]? = some p):Q9 (Ae L++spare) (0+i*2) 2 [.int .i64 p.1,.int .i64 p.2]:=by
 obtain⟨h1,h2⟩:=TY h;have hi:=(List.getElem?_eq_some_iff.1 h).1;have hl:=Ef L;rw[Nat.zero_add];refine .cons ?_ (.cons ?_ (.nil _))
 ·rw[getElem?_append_left (by omega)];exact h1
 ·rw[getElem?_append_left (by omega)];exact h2
@[reducible] def FL (v:Value) (l:List Fl):Q2:=QX 308 2 v (Ae l)
@[reducible] def UL (v:Value) (l:List Nat):Q2:=QX 94 1 v (Qa l)
theorem MJ [Q4] (f:Fl) (hf:Rg f) {w:World} {fr:List Q2} (H:Q0 w fr):Calls Tryz.prog 236 #[fv f] w (ret fun v w'=>v = .bool true∧Q0 w' fr):=by
 obtain⟨a,d⟩:=f;obtain⟨h1,h2⟩:=hf;dsimp only at h1 h2;refine QQ Tryz.func236 rfl (by kernel_rfl) ?_;refine J7 H ?_;clear H;intro b1 w H;refine J0 H ?_;refine RY H ?_;rw[show decide ((a:Int)≥0)=true from decide_eq_true (by omega)];refine A4 H ?_;rw[show decide ((a:Int) < 64)=true from decide_eq_true (by omega)];refine BJ H ?_;rw[show decide ((d:Int) > 0)=true from decide_eq_true (by omega)];refine YA H ?_;refine Ur H ?_;refine Ur H ?_;refine Zm H ?_;rw[show decide ((d:Int)≤IntKind.i64.wrap (64 - (a:Int)))=true from decide_eq_true (by rw[Qb (by omega) (by omega)];omega)];refine J3 H ?_;exact Q3 (Jy H.drop rfl fun w' H'=>⟨rfl,H'⟩)
theorem Eg [Q4] (f:Fl) (hf:Rg f) {w:World} {fr:List Q2} (H:Q0 w fr):Calls Tryz.prog 206 #[fv f] w (ret fun v w'=>v = .int .u64 (YT f.1 f.2)∧Q0 w' fr):=by
 obtain⟨a,d⟩:=f;obtain⟨h1,h2⟩:=hf;dsimp only at h1 h2;refine QQ Tryz.func206 rfl (by kernel_rfl) ?_;refine J7 H ?_;clear H;intro b1 w H;refine J0 H ?_;have e64:IntKind.i64.wrap (64 - (d:Int))=((64 - d:Nat):Int):=by rw[Qb (by omega) (by omega)];omega
 have e1:XG .u64 18446744073709551615 ((64 - d:Nat):Int)=((2 ^ d - 1:Nat):Int):=by
  rw[show (18446744073709551615:Int)=((18446744073709551615:Nat):Int) from rfl,BC (by omega) rfl];congr 1;have hp:(18446744073709551615:Nat)=2 ^ d*2 ^ (64 - d) - 1:=by rw[← Nat.pow_add,show d+(64 - d)=64 by omega]
  rw[hp];have hd:=Nat.two_pow_pos (64 - d);have hd2:=Nat.two_pow_pos d
  rw[show 2 ^ d*2 ^ (64 - d) - 1=(2 ^ (64 - d) - 1)+2 ^ (64 - d)*(2 ^ d - 1) by
   rw[Nat.mul_sub,Nat.mul_comm (2 ^ d),Nat.mul_one];have:2 ^ (64 - d)≤2 ^ (64 - d)*2 ^ d:=Nat.le_mul_of_pos_right _ hd2;omega]
  rw[Nat.add_mul_div_left _ _ hd,Nat.div_eq_of_lt (by omega),Nat.zero_add]
 have e2:Xf .u64 ((2 ^ d - 1:Nat):Int) (a:Int)=(YT a d:Nat):=by
  rw[HY (by omega)];have:=BD (a:=a) (wd:=d) h2;unfold YT at this ⊢;rw[Nat.mod_eq_of_lt this]
 refine J1 H ?_;clear H;intro w H;refine RZ H ?_;rw[e64]
 refine Gs (v := .int .u64 (XG .u64 18446744073709551615 ((64 - d:Nat):Int))) 3 rfl (Q7.none rfl) (by
  show (if ((64 - d:Nat):Int) < 0 then none else some _)=_;rw[if_neg (by omega)]) (by kernel_rfl) ?_
 rw[e1];refine RG H ?_
 refine Gs (v := .int .u64 (Xf .u64 ((2 ^ d - 1:Nat):Int) (a:Int))) 6 rfl (Q7.none rfl) (by
  show (if (a:Int) < 0 then none else some _)=_;rw[if_neg (by omega)]) (by kernel_rfl) ?_
 rw[e2];refine Ja 7 ?_;refine Jx H ?_;exact Q3 (Jy H.drop rfl fun w' H'=>⟨rfl,H'⟩)
def Rh (fs:List Fl):Prop:=(∀ f∈fs,Rg f)∧fs.Pairwise (fun f g=>f.1+f.2≤g.1)
theorem Rh.at {fs:List Fl} (h:Rh fs) {i:Nat} {f:Fl} (hf:fs[i]? = some f):Rg f:=h.1 f (mem_of_getElem? hf)
theorem ML [Q4] (v:Value) (fs:List Fl) (hfs:Rh fs) (hl:fs.length≤1000000) {w:World} {fr:List Q2} (H:Q0 w (FL v fs::fr)) :
  Calls Tryz.prog 205 #[v] w (ret fun x w'=>x = .bool true∧Q0 w' (FL v fs::fr)):=by
 obtain⟨a,c,rfl⟩:=QE H (Ef fs) (by decide);refine QQ Tryz.func205 rfl (by kernel_rfl) ?_;refine VF H ?_;refine A5 H ?_;refine Ql (fun ms σ w n=>ms=[]∧∃ (i A:Nat),i≤fs.length∧n=fs.length - i∧(∀ f∈fs.drop i,A < 2 ^ f.1)∧σ 3 = .int .u64 A∧σ 6 = .slice a fs.length c∧σ 7 = .int .i64 fs.length∧σ 8 = .int .i64 i∧Q0 w (FL (.slice a fs.length c) fs::fr)) (m:=fs.length) ⟨rfl,0,0,by omega,rfl,fun f _=>Nat.two_pow_pos _,rfl,rfl,rfl,rfl,H⟩ ?_;clear H;rintro ms σ w n ⟨rfl,i,A,hi,rfl,hA,g3,g6,g7,g8,H⟩;rw[Q1 g3,Q1 g6,Q1 g7,Q1 g8];refine J8 H ?_;refine Qj rfl (fun h=>QD ?_) (fun h=>Qp ?_)
 ·have hlt:i < fs.length:=by omega
  have hx:=getElem?_eq_getElem hlt;have hdr:fs.drop i=fs[i]::fs.drop (i+1):=drop_eq_getElem_cons hlt;have hpw:=hfs.2;rw[← take_append_drop i fs,hdr] at hpw;have hpw2:=(pairwise_cons.1 (pairwise_append.1 hpw).2.1).1;rw[hdr] at hA;generalize fs[i]=f at hx hpw2 hA;have hf:=hfs.at hx;have hAf:=hA f (by simp);have hA64:A < 18446744073709551616:=Nat.lt_of_lt_of_le hAf (Nat.le_trans (Nat.pow_le_pow_right (by decide) (show f.1≤64 by have:=hf.2;omega)) (by decide));have hm64:=BD (a:=f.1) (wd:=f.2) hf.2
  have hand:YM .and .u64 (A:Int) (YT f.1 f.2:Nat)=0:=by
   rw[DI hA64 hm64,M5,Nat.div_eq_of_lt hAf];simp
  have hor:YM .or .u64 (A:Int) (YT f.1 f.2:Nat)=((A+YT f.1 f.2:Nat):Int):=by
   rw[M0 hA64 hm64];unfold YT;rw[M6 hAf]
  obtain⟨b,s,rfl,H,hclose⟩:=V3 H (by omega);refine YB H ?_;refine Jd ?_;refine Q5 rfl (VA H rfl (HM hx) rfl ?_);refine VZ H ?_;clear H;intro b5 w H;refine J5 H ?_;clear H;intro w H;refine QG ?_
  repeat refine Q6 ?_
  refine QZ ?_;refine Q5 rfl (VA H rfl (by repeat first|exact .nil _|apply Q9.cons rfl) rfl ?_);refine Jc rfl rfl (MJ f hf H) ?_;clear H;rintro v w ⟨rfl,H⟩;refine BL H ?_;refine BN H ?_;refine QT rfl rfl rfl (Qy (a:=[]) (b:=[]) rfl rfl (call (Eg f hf H) ?_));clear H;rintro v w ⟨rfl,H⟩;refine VU rfl rfl (v := .int .u64 (YM .and .u64 (A:Int) (YT f.1 f.2:Nat))) rfl rfl ?_;rw[hand];refine WZ H ?_;refine Gv H ?_;refine Jc rfl rfl (Eg f hf H) ?_;clear H;rintro v w ⟨rfl,H⟩;refine UD (v := .int .u64 (YM .or .u64 (A:Int) (YT f.1 f.2:Nat))) rfl rfl ?_;rw[hor];refine YY H ?_;replace H:=hclose _ _ H.drop;refine⟨_,⟨rfl,i+1,A+YT f.1 f.2,hlt,rfl,fun g hg=>?_,rfl,rfl,rfl,Qc (by omega),H⟩,by omega⟩;have h1:=hpw2 g hg
  have h2:A+YT f.1 f.2 < 2 ^ (f.1+f.2):=by
   unfold YT;rw[Nat.pow_add,Nat.sub_mul,Nat.one_mul,Nat.mul_comm (2 ^ f.2)];have:2 ^ f.1≤2 ^ f.1*2 ^ f.2:=Nat.le_mul_of_pos_right _ (Nat.two_pow_pos _);omega
  exact Nat.lt_of_lt_of_le h2 (Nat.pow_le_pow_right (by decide) h1)
 ·refine VF H ?_;exact Q3 (Jy H rfl fun w' H'=>⟨rfl,H'⟩)
def Yw (x:Nat) (f:Fl):Nat:=x / 2 ^ f.1 % 2 ^ f.2
theorem HN [Q4] (x:Nat) (hx64:x < 18446744073709551616) (v:Value) (fs:List Fl) (hfs:Rh fs) (hl:fs.length≤1000) {w:World} {fr:List Q2} (H:Q0 w (FL v fs::fr)) :
  Calls Tryz.prog 134 #[.int .u64 x,v] w (ret fun r w'=>∃ u,r = .tuple #[u,.int .i64 0]∧Q0 w' (UL u (fs.map (Yw x))::FL v fs::fr)):=by
 obtain⟨a,c,rfl⟩:=QE H (Ef fs) (by decide);refine QQ Tryz.func134 rfl (by kernel_rfl) ?_;refine DN H ?_;refine Jc rfl rfl (ML _ fs hfs (by omega) H) ?_;clear H;rintro v w ⟨rfl,H⟩;refine Vx H ?_;refine A5 H ?_;refine Ql (fun ms σ w n=>ms=[]∧∃ (i:Nat) (g:Value),i≤fs.length∧n=fs.length - i∧σ 0 = .int .u64 x∧σ 6=g∧σ 12 = .slice a fs.length c∧σ 13 = .int .i64 fs.length∧σ 14 = .int .i64 i∧Q0 w (UL g ((fs.take i).map (Yw x))::FL (.slice a fs.length c) fs::fr)) (m:=fs.length) ⟨rfl,0,_,by omega,rfl,rfl,rfl,rfl,rfl,rfl,Yt H⟩ ?_;clear H;rintro ms σ w n ⟨rfl,i,g,hi,rfl,g0,g6,g12,g13,g14,H⟩;obtain⟨ag,cg,rfl⟩:=QE H (Z3 _) (by decide);rw[Q1 g0,Q1 g6,Q1 g12,Q1 g13,Q1 g14];refine J8 H ?_;refine Qj rfl (fun h=>QD ?_) (fun h=>Qp ?_)
 ·have hlt:i < fs.length:=by omega
  have hx:=getElem?_eq_getElem hlt;generalize fs[i]=f at hx;have hf:=hfs.at hx;have hm64:=BD (a:=f.1) (wd:=f.2) hf.2;have hf1:f.1 < 64:=by have:=hf.1;have:=hf.2;omega
  have hsh:XG .u64 (YM .and .u64 (x:Int) (YT f.1 f.2:Nat)) (f.1:Int)=(Yw x f:Nat):=by
   rw[DI hx64 hm64,BC hf1 rfl,SM];rfl
  replace H:=Js [1,0] 0 H;obtain⟨b,s,rfl,H,hclose⟩:=V3 H (by omega);refine YB H ?_;refine Jd ?_;refine Q5 rfl (VA H rfl (HM hx) rfl ?_);refine VZ H ?_;clear H;intro b8 w H;refine J5 H ?_;clear H;intro w H;refine J2 H ?_;replace H:=hclose _ _ H.swap;replace H:=Js [2,1,0] 0 H;refine J1 H ?_;clear H;intro w H;refine WG H ?_;refine VB 2 [3,8,9] H rfl (Q7.none rfl) rfl (by repeat first|exact .nil _|apply Q9.cons rfl) (by kernel_rfl) ?_;refine Jf 5 ?_;refine Jl 6 [8,9] H ?_;refine Jo 3 H ?_;refine Jk rfl rfl (Eg f hf H) ?_;clear H;rintro v w ⟨rfl,H⟩;refine Gs (v := .int .u64 (YM .and .u64 (x:Int) (YT f.1 f.2:Nat))) 4 rfl (Q7.none rfl) rfl (by kernel_rfl) ?_
  refine Gs (v := .int .u64 (XG .u64 (YM .and .u64 (x:Int) (YT f.1 f.2:Nat)) (f.1:Int))) 7 rfl (Q7.none rfl) (by
   show (if (f.1:Int) < 0 then none else some _)=_;rw[if_neg (by omega)]) (by kernel_rfl) ?_
  rw[hsh];refine Jo 8 H ?_;refine WU H ?_;clear H;intro b26 w H;replace H:=Js [1,0,1] 1 H;refine Jo 9 H ?_;refine YR H rfl rfl (by repeat first|exact .nil _|apply Q9.cons rfl) rfl (by decide) (by rw[Z3,length_map,length_take];simp only[length_cons,length_nil];omega) rfl rfl ?_;clear H;intro v27 w H;obtain⟨a27,m27,c27,rfl⟩:=Qs H;refine Ja 10 ?_;refine Jx H ?_;refine J4 H ?_;replace H:=Js [0,1] 1 H;refine⟨_,⟨rfl,i+1,_,hlt,rfl,rfl,rfl,rfl,rfl,Qc (by omega),?_⟩,by omega⟩
  have ht:(fs.take (i+1)).map (Yw x)=(fs.take i).map (Yw x)++[Yw x f]:=by
   rw[take_add_one,hx,map_append];rfl
  rw[ht];show Q0 w (QX _ 1 _ (Qa ((fs.take i).map (Yw x)++[Yw x f]))::_);rw[TV];exact H
 ·have hge:i=fs.length:=by omega
  subst hge;rw[take_length] at H;refine VX H ?_;exact Q3 (Y6 (vs:=[.slice ag (List.map (Yw x) fs).length cg,.int .i64 0]) _ (.inr rfl) H (by rw[take_length];rfl) fun w' H'=>⟨_,rfl,H'⟩)
theorem MM:∀ (f x:Nat),Lib.bitLenAux f x≤f
 | 0,_=>Nat.le_refl _
 | f+1,x=>by
  unfold Lib.bitLenAux;split
  ·omega
  ·have:=MM f (x / 2);omega
theorem TZ {x k:Nat} (h:x < 2 ^ k) (hk:k≤64):Lib.bitLen x≤k:=by
 unfold Lib.bitLen;rw[Lib.bitLenAux_fuel k x h 64 hk];exact MM k x
theorem TG [Q4] (x:Nat) (hx:x < 18446744073709551616) {w:World} {fr:List Q2} (H:Q0 w fr):Calls Tryz.prog 181 #[.int .u64 x] w (ret fun v w'=>v = .int .i64 (Lib.bitLen x)∧Q0 w' fr):=by
 refine(Any.bits_Len64 Tryz.laysLen (x:Int) w (by omega) (by omega)).mono ?_;rintro e w' ⟨rfl,rfl⟩;exact⟨by rw[Int.toNat_natCast],H⟩
theorem Eh {k:Nat} (h:k≤64):2 ^ k≤18446744073709551616:=Nat.le_trans (Nat.pow_le_pow_right (by decide) h) (by decide)
theorem TU [Q4] (x:Nat) (f:Fl) (y:Nat) (hf:Rg f) (hx:x < 2 ^ f.1) (hy:y < 2 ^ f.2) {w:World} {fr:List Q2} (H:Q0 w fr) :
  Calls Tryz.prog 233 #[.int .u64 x,fv f,.int .u64 y] w (ret fun v w'=>v = .tuple #[.int .u64 ((x+y*2 ^ f.1:Nat):Int),.int .i64 0]∧Q0 w' fr):=by
 have h1:=hf.1;have h2:=hf.2;have hx64:x < 18446744073709551616:=Nat.lt_of_lt_of_le hx (Eh (by omega));have hy64:y < 18446744073709551616:=Nat.lt_of_lt_of_le hy (Eh (by omega));have hm64:=BD (a:=f.1) (wd:=f.2) hf.2;have hbl:=TZ hy (by omega);have e1:YM .andNot .u64 (x:Int) (YT f.1 f.2:Nat)=(x:Nat):=by rw[SJ hx64 hm64,SN hx hf.2]
 have hyy:y*2 ^ f.1 < 18446744073709551616:=by
  have:y*2 ^ f.1 < 2 ^ f.2*2 ^ f.1:=(Nat.mul_lt_mul_right (Nat.two_pow_pos _)).2 hy;rw[← Nat.pow_add] at this;exact Nat.lt_of_lt_of_le this (Eh (by omega))
 have e2:Xf .u64 (y:Int) (f.1:Int)=((y*2 ^ f.1:Nat):Int):=by rw[HY (by omega),Nat.mod_eq_of_lt hyy]
 have e3:YM .or .u64 (x:Int) ((y*2 ^ f.1:Nat):Int)=((x+y*2 ^ f.1:Nat):Int):=by rw[M0 hx64 hyy,M6 hx]
 obtain⟨a,d⟩:=f;dsimp only at h1 h2 hx hy hm64 hbl e1 e2 e3 hyy;refine QQ Tryz.func233 rfl (by kernel_rfl) ?_;refine J7 H ?_;clear H;intro b4 w H;refine KB H ?_;refine Qk (fun ms σ w=>ms=[]∧σ 0 = .int .u64 x∧σ 2 = .int .u64 y∧σ 4=pp b4∧Q0 w (pts b4 (row 308 [.int .i64 a,.int .i64 d])::fr)) ?_ ?_
 ·refine QP ?_;refine GH H ?_;refine Jc rfl rfl (MJ (a,d) hf H) ?_;clear H;rintro v w ⟨rfl,H⟩;refine KC H ?_;refine J1 H ?_;clear H;intro w H;refine Ja 0 ?_;refine Jf 2 ?_;refine Jl 3 [] H ?_;refine Jo 1 H ?_;refine Jk rfl rfl (TG y hy64 H) ?_;clear H;rintro v w ⟨rfl,H⟩;refine Ja 4 ?_;rw[show decide (((Lib.bitLen y:Nat):Int) > (d:Int))=false from decide_eq_false (by omega)];refine Ja 5 ?_;refine Jx H ?_;refine V4 H ?_;exact⟨rfl,rfl,rfl,rfl,rfl,H⟩
 ·clear H;rintro ms σ w ⟨rfl,g0,g2,g4,H⟩;rw[Q1 g0,Q1 g2,Q1 g4];refine J1 H ?_;clear H;intro w H;refine Ja 0 ?_;refine VB 1 [2] H rfl (Q7.none rfl) rfl (by repeat first|exact .nil _|apply Q9.cons rfl) (by kernel_rfl) ?_;refine RU H ?_;refine Jl 6 [] H ?_
  refine Gs (v := .int .u64 (Xf .u64 (y:Int) (a:Int))) 7 rfl (Q7.none rfl) (by
   show (if (a:Int) < 0 then none else some _)=_;rw[if_neg (by omega)]) (by kernel_rfl) ?_
  rw[e2];refine Jo 2 H ?_;refine Jk rfl rfl (Eg (a,d) hf H) ?_;clear H;rintro v w ⟨rfl,H⟩;refine Gs (v := .int .u64 (YM .andNot .u64 (x:Int) (YT a d:Nat))) 3 rfl (Q7.none rfl) rfl (by kernel_rfl) ?_;rw[e1];refine Gs (v := .int .u64 (YM .or .u64 (x:Int) ((y*2 ^ a:Nat):Int))) 8 rfl (Q7.none rfl) rfl (by kernel_rfl) ?_;rw[e3];refine Ja 9 ?_;refine Ja 10 ?_;refine Jx H ?_;exact Q3 (Jy H.drop rfl fun w' H'=>⟨rfl,H'⟩)
def G5:List Fl→List Nat→Nat
 | f::fs,x::xs=>x*2 ^ f.1+G5 fs xs
 | _,_=>0
theorem MN:∀ (fs:List Fl) (xs:List Nat) (f:Fl) (x:Nat),fs.length=xs.length→G5 (fs++[f]) (xs++[x])=G5 fs xs+x*2 ^ f.1
 | [],[],f,x,_=>by simp[G5]
 | [],_::_,_,_,h=>by simp at h
 | _::_,[],_,_,h=>by simp at h
 | g::fs,y::xs,f,x,h=>by
  have ih:=MN fs xs f x (by simpa using h);show y*2 ^ g.1+G5 (fs++[f]) (xs++[x])=y*2 ^ g.1+G5 fs xs+x*2 ^ f.1;rw[ih];omega
theorem Ei [Q4] (vf vx:Value) (fs:List Fl) (xs:List Nat) (hfs:Rh fs) (hl:fs.length≤1000) (hlen:fs.length=xs.length) (hb:∀ (i:Nat) (f:Fl) (x:Nat),fs[i]? = some f→xs[i]? = some x→x < 2 ^ f.2) {w:World} {fr:List Q2} (H:Q0 w (FL vf fs::UL vx xs::fr)) :
  Calls Tryz.prog 191 #[vf,vx] w (ret fun v w'=>v = .tuple #[.int .u64 (G5 fs xs),.int .i64 0]∧Q0 w' (FL vf fs::UL vx xs::fr)):=by
 obtain⟨a,c,rfl⟩:=QE H (Ef fs) (by decide);obtain⟨a1,c1,rfl⟩:=QE H.drop (Z3 xs) (by decide);refine QQ Tryz.func191 rfl (by kernel_rfl) ?_;refine DN H ?_;refine DO H ?_;refine DO H ?_;rw[show ((fs.length:Int) != (xs.length:Int))=false by rw[hlen];simp];refine A6 H ?_;refine QT rfl rfl rfl (Qy (a:=[]) (b:=[]) rfl rfl (call (ML _ fs hfs (by omega) H) ?_));clear H;rintro v w ⟨rfl,H⟩;refine WZ H ?_;refine A5 H ?_;refine Ql (fun ms σ w n=>ms=[]∧∃ i:Nat,i≤fs.length∧n=fs.length - i∧(∀ f∈fs.drop i,G5 (fs.take i) (xs.take i) < 2 ^ f.1)∧σ 1 = .slice a1 xs.length c1∧σ 6 = .int .u64 (G5 (fs.take i) (xs.take i))∧σ 20 = .slice a fs.length c∧σ 21 = .int .i64 fs.length∧σ 22 = .int .i64 i∧Q0 w (FL (.slice a fs.length c) fs::UL (.slice a1 xs.length c1) xs::fr)) (m:=fs.length) ⟨rfl,0,by omega,rfl,fun f _=>by simp only[take_zero,G5];exact Nat.two_pow_pos _,rfl,rfl,rfl,rfl,rfl,H⟩ ?_;clear H;rintro ms σ w n ⟨rfl,i,hi,rfl,hW,g1,g6,g20,g21,g22,H⟩;rw[Q1 g1,Q1 g6,Q1 g20,Q1 g21,Q1 g22];refine J8 H ?_;refine Qj rfl (fun h=>QD ?_) (fun h=>Qp ?_)
 ·have hlt:i < fs.length:=by omega
  have hx:=getElem?_eq_getElem hlt;have hy:=getElem?_eq_getElem (l:=xs) (i:=i) (by omega);have hdr:fs.drop i=fs[i]::fs.drop (i+1):=drop_eq_getElem_cons hlt;have hpw:=hfs.2;rw[← take_append_drop i fs,hdr] at hpw;have hpw2:=(pairwise_cons.1 (pairwise_append.1 hpw).2.1).1;rw[hdr] at hW;generalize fs[i]=f at hx hpw2 hW;generalize xs[i]'(by omega)=y at hy;have hf:=hfs.at hx;have hWf:=hW f (by simp);have hyb:=hb i f y hx hy
  have hsn:G5 (fs.take (i+1)) (xs.take (i+1))=G5 (fs.take i) (xs.take i)+y*2 ^ f.1:=by
   rw[take_add_one,take_add_one,hx,hy];exact MN _ _ f y (by rw[length_take,length_take,hlen])
  obtain⟨b,s,rfl,H,hclose⟩:=V3 H (by omega);obtain⟨b2,s2,rfl,H,hclose2⟩:=V3 H.swap (by omega);refine BO H ?_;refine Jd ?_;refine Q5 rfl (VA H rfl (HM hx) rfl ?_);refine VZ H ?_;clear H;intro b8 w H;refine DP H ?_;clear H;intro w H;refine J2 H ?_;refine J8 H ?_;refine W9 H mixed ?_;clear H;intro w H;refine Ja 0 ?_;refine VB 1 [6] H rfl (Q7.none rfl) rfl (by repeat first|exact .nil _|apply Q9.cons rfl) (by kernel_rfl) ?_;refine Ja 2 ?_;refine Ja 3 ?_;refine Ji 4 ?_;refine Vn 5 [6] H rfl (Q7.none rfl) rfl (HL hy) (by kernel_rfl) ?_
  refine Jo 6 H ?_;refine Jk rfl rfl (TU _ f y hf hWf hyb H) ?_;clear H;rintro v w ⟨rfl,H⟩;refine UJ H ?_;refine Gw H ?_;refine J4 H ?_;replace H:=Js [1,1] 1 H;replace H:=hclose2 _ _ H;replace H:=hclose _ _ H.swap;refine⟨_,⟨rfl,i+1,hlt,rfl,fun g hg=>?_,rfl,?_,rfl,rfl,Qc (by omega),H⟩,by omega⟩
  ·have h1:=hpw2 g hg;rw[hsn]
   have h2:G5 (fs.take i) (xs.take i)+y*2 ^ f.1 < 2 ^ (f.1+f.2):=by
    rw[Nat.pow_add];have:(y+1)*2 ^ f.1≤2 ^ f.2*2 ^ f.1:=Nat.mul_le_mul_right _ hyb;rw[Nat.add_mul,Nat.one_mul] at this;rw[Nat.mul_comm (2 ^ f.1)];omega
   exact Nat.lt_of_lt_of_le h2 (Nat.pow_le_pow_right (by decide) h1)
  ·rw[hsn];rfl
 ·have hge:i=fs.length:=by omega
  subst hge;refine VX H ?_;refine Q3 (Jy H rfl fun w' H'=>⟨?_,H'⟩);have e:xs.take fs.length=xs:=by rw[hlen,take_length]
  rw[take_length,e];rfl
def UP:List Fl:=[(0,16),(16,16),(32,8),(40,16),(56,8)]
def US:List Fl:=[(0,32),(32,32)]
theorem HP:Rh UP:=⟨by simp[UP,Rg],by simp[UP]⟩
theorem HS:Rh US:=⟨by simp[US,Rg],by simp[US]⟩
theorem HT [Q4] {w:World} {fr:List Q2} (H:Q0 w fr):Calls Tryz.prog 203 #[] w (ret fun v w'=>Q0 w' (FL v UP::fr)):=by
 refine QQ Tryz.func203 rfl (by kernel_rfl) ?_;refine DS H ?_;refine XK H ?_;refine XK H ?_;refine XK H ?_;refine A7 H ?_;clear H;intro b6 w H;refine J0 H ?_;exact Q3 (Jy (Uq (by decide) H) rfl fun w' H'=>H')
theorem Ha [Q4] {w:World} {fr:List Q2} (H:Q0 w fr):Calls Tryz.prog 192 #[] w (ret fun v w'=>Q0 w' (FL v US::fr)):=by
 refine QQ Tryz.func192 rfl (by kernel_rfl) ?_;refine DS H ?_;refine A7 H ?_;clear H;intro b3 w H;refine J0 H ?_;exact Q3 (Jy (Uq (by decide) H) rfl fun w' H'=>H')
def Xz (l c s:Nat):Prop:=1≤l∧l≤64∧c≤1024∧s < 4096
@[reducible] def Ri (l c s:Nat):Value := .agg #[.int .i64 l,.int .i64 c,.int .i64 s]
theorem MO [Q4] (l c s:Nat) (h:Xz l c s) {w:World} {fr:List Q2} (H:Q0 w fr):Calls Tryz.prog 204 #[Ri l c s] w (ret fun v w'=>v = .bool true∧Q0 w' fr):=by
 obtain⟨h1,h2,h3,h4⟩:=h;refine QQ Tryz.func204 rfl (by kernel_rfl) ?_;refine J7 H ?_;clear H;intro b1 w H;refine WX H ?_;refine YA H ?_;rw[show decide ((l:Int)≥1)=true from decide_eq_true (by omega)];refine U9 H ?_;refine Jv ?_;rw[show decide ((l:Int)≤64)=true from decide_eq_true (by omega)];refine A8 H ?_;rw[show decide ((c:Int)≥0)=true from decide_eq_true (by omega)];refine A8 H ?_;rw[show decide ((c:Int)≤1024)=true from decide_eq_true (by omega)];refine A8 H ?_;rw[show decide ((s:Int)≥0)=true from decide_eq_true (by omega)];refine A8 H ?_;rw[show decide ((s:Int) < 4096)=true from decide_eq_true (by omega)];refine J0 H ?_;exact Q3 (Jy H.drop rfl fun w' H'=>⟨rfl,H'⟩)
def G6 (l c s:Nat):Nat:=G5 UP [s,c,l,0,165]
theorem MP (l c s:Nat):G6 l c s=s+c*65536+l*4294967296+165*72057594037927936:=by
 simp[G6,G5,UP];omega
theorem TX {l c s:Nat} (h:Xz l c s):G6 l c s < 18446744073709551616:=by
 obtain⟨h1,h2,h3,h4⟩:=h;rw[MP];omega
theorem TR [Q4] (l c s:Nat) (h:Xz l c s) {w:World} {fr:List Q2} (H:Q0 w fr):Calls Tryz.prog 142 #[Ri l c s] w (ret fun v w'=>v = .tuple #[.int .u64 (G6 l c s),.int .i64 0]∧Q0 w' fr):=by
 have h':=h;obtain⟨h1,h2,h3,h4⟩:=h';refine QQ Tryz.func142 rfl (by kernel_rfl) ?_;refine J7 H ?_;clear H;intro b1 w H;refine J3 H ?_;refine GH H ?_;refine Jc rfl rfl (MO l c s h H) ?_;clear H;rintro v w ⟨rfl,H⟩;refine Vx H ?_;refine J1 H ?_;clear H;intro w H;refine Jf 1 ?_;refine Jl 2 [10,11] H ?_;refine DT H ?_;refine Jf 4 ?_;refine Jl 5 [10,11] H ?_;refine U8 6 rfl (Q7.none rfl) rfl (by kernel_rfl) ?_;refine Jf 7 ?_;refine Jl 8 [10,11] H ?_;refine U8 9 rfl (Q7.none rfl) rfl (by kernel_rfl) ?_;rw[UH (a:=l) (by omega),UH (a:=c) (by omega),UH (a:=s) (by omega)];refine Jw 0 10 H rfl rfl (Qy (a:=[]) (b:=[]) rfl rfl (call (HT H) ?_)) (R7 H rfl rfl rfl ?_)
 ·clear H;intro v16 w H;obtain⟨a16,m16,c16,rfl⟩:=Qs H;refine Jo 10 H ?_;refine WU H ?_;clear H;intro b17 w H;replace H:=Q0.swap (Uq (len:=5) (k:=1) rfl H)
  refine BU 11 rfl (by kernel_rfl) (by repeat first|exact .nil|refine .cons (.inr H.at) ?_|refine .cons (.inr H.mp) ?_|refine .cons (.inl (by kernel_rfl)) ?_) (Q7.none rfl) (Qy (a:=[]) (b:=[]) rfl rfl (call (Ei _ _ UP [s,c,l,0,165] HP (by decide) rfl (fun i f x hf hx=>by
     rcases i with _|_|_|_|_|i <;> simp[UP] at hf hx <;> subst hf hx <;> simp <;> omega) H) ?_))
  clear H;rintro v w ⟨rfl,H⟩;refine BP H ?_;exact Q3 (Jy H.drop.drop.drop rfl fun w' H'=>⟨rfl,H'⟩)
 ·clear H;intro b17 w H;refine Jo 0 H ?_;refine Jk rfl rfl (HT H) ?_;clear H;intro v16 w H;obtain⟨a16,m16,c16,rfl⟩:=Qs H;replace H:=Q0.swap (Uq (len:=5) (k:=1) rfl H.swap)
  refine BU 11 rfl (by kernel_rfl) (by repeat first|exact .nil|refine .cons (.inr H.at) ?_|refine .cons (.inr H.mp) ?_|refine .cons (.inl (by kernel_rfl)) ?_) (Q7.none rfl) (Qy (a:=[]) (b:=[]) rfl rfl (call (Ei _ _ UP [s,c,l,0,165] HP (by decide) rfl (fun i f x hf hx=>by
     rcases i with _|_|_|_|_|i <;> simp[UP] at hf hx <;> subst hf hx <;> simp <;> omega) H) ?_))
  clear H;rintro v w ⟨rfl,H⟩;refine BP H ?_;exact Q3 (Jy H.drop.drop.drop rfl fun w' H'=>⟨rfl,H'⟩)
theorem TW {l c s:Nat} (h:Xz l c s):UP.map (Yw (G6 l c s))=[s,c,l,0,165]:=by
 obtain⟨h1,h2,h3,h4⟩:=h;simp only[UP,map_cons,map_nil,Yw,MP,Nat.reducePow];have e1:(s+c*65536+l*4294967296+165*72057594037927936) / 1 % 65536=s:=by omega
 have e2:(s+c*65536+l*4294967296+165*72057594037927936) / 65536 % 65536=c:=by omega
 have e3:(s+c*65536+l*4294967296+165*72057594037927936) / 4294967296 % 256=l:=by omega
 have e4:(s+c*65536+l*4294967296+165*72057594037927936) / 1099511627776 % 65536=0:=by omega
 have e5:(s+c*65536+l*4294967296+165*72057594037927936) / 72057594037927936 % 256=165:=by omega
 rw[e1,e2,e3,e4,e5]
theorem TA [Q4] (l c s:Nat) (h:Xz l c s) {w:World} {fr:List Q2} (H:Q0 w fr):Calls Tryz.prog 129 #[.int .u64 (G6 l c s)] w (ret fun v w'=>v = .tuple #[Ri l c s,.int .i64 0]∧Q0 w' fr):=by
 have h':=h;obtain⟨h1,h2,h3,h4⟩:=h';refine QQ Tryz.func129 rfl (by kernel_rfl) ?_;refine Y7 H ?_;clear H;intro b2 w H;refine Da H ?_;refine Jc rfl rfl (HT H) ?_;clear H;intro v9 w H
 refine Jc rfl rfl (HN _ (TX h) v9 UP HP (by decide) H) ?_;clear H;rintro v w ⟨u,rfl,H⟩;rw[TW h] at H;obtain⟨au,cu,rfl⟩:=QE (m:=5) H rfl (by decide);obtain⟨bu,su,rfl,H,hclose⟩:=V3 H (by decide);refine Db H ?_;clear H;intro w H;refine Ja 0 ?_;refine Ji 1 ?_;refine Jl 2 [14] H ?_;refine DT H ?_;refine Ja 4 ?_;refine Ji 5 ?_;refine Jl 6 [14] H ?_;refine U8 7 rfl (Q7.none rfl) rfl (by kernel_rfl) ?_;refine Ja 8 ?_;refine Ji 9 ?_;refine Jl 10 [14] H ?_;refine U8 11 rfl (Q7.none rfl) rfl (by kernel_rfl) ?_;refine GF 12 rfl (Q7.none rfl) rfl (by kernel_rfl) ?_;rw[KW (a:=l) (by omega),KW (a:=c) (by omega),KW (a:=s) (by omega)];refine Jo 13 H ?_;refine VN H rfl ?_;clear H;intro b6 w H
 refine BS H ?_;clear H;intro w H;refine Jx H ?_;refine YZ H ?_;refine Jd ?_;refine Xo H ?_;refine BL H ?_;refine QT rfl rfl rfl (GC rfl rfl (by omega) (by omega) rfl ?_);refine QT rfl rfl rfl (QB H rfl rfl rfl ?_);refine Yj H ?_;refine YA H ?_;refine BN H ?_;refine QT rfl rfl rfl (Qy (a:=[]) (b:=[]) rfl rfl (call (MO l c s h H) ?_));clear H;rintro v w ⟨rfl,H⟩;refine WZ H ?_;refine KD H ?_;clear H;intro w H;refine J0 H ?_;refine Q3 (BB (vs:=[Ri l c s,.int .i64 0]) _ (.inr rfl) H (fun w' H' => .cellN H' rfl (by repeat first|exact .nil _|apply Q9.cons rfl) (.tmp .nil)) fun w' H'=>⟨rfl,H'.drop.drop.drop.drop⟩)
inductive VP where
 | none
 | grave
 | obj (i g:Nat)
 deriving DecidableEq
@[reducible] def UY (i g:Nat):Value := .agg #[.int .i64 i,.int .i64 g]
@[reducible] def ZA:VP→Value
 | .none => .agg #[.int .i64 0,.int .i64 0,.int .i64 0]
 | .grave => .agg #[.int .i64 1,.int .i64 0,.int .i64 0]
 | .obj i g => .agg #[.int .i64 2,.int .i64 i,.int .i64 g]
def CX (i g:Nat):Prop:=i < 4096∧1≤g∧g≤255
def G7:VP→Prop
 | .obj i g=>CX i g
 | _=>True
def VG:VP→Nat
 | .none=>0
 | .grave=>1
 | .obj i g=>G5 US [i+2,g]
theorem Ej (i g:Nat):VG (.obj i g)=i+2+g*4294967296:=by
 simp[VG,G5,US]
theorem MT {l:VP} (h:G7 l):VG l < 18446744073709551616:=by
 cases l with
 | none=>decide
 | grave=>decide
 | obj i g=>
  obtain⟨h1,h2,h3⟩:=h;rw[Ej];omega
theorem Ma [Q4] (i g:Nat) (h:CX i g) {w:World} {fr:List Q2} (H:Q0 w fr):Calls Tryz.prog 190 #[UY i g] w (ret fun v w'=>v = .bool true∧Q0 w' fr):=by
 obtain⟨h1,h2,h3⟩:=h;refine QQ Tryz.func190 rfl (by kernel_rfl) ?_;refine J7 H ?_;clear H;intro b1 w H;refine WX H ?_;refine YA H ?_;rw[show decide ((i:Int)≥0)=true from decide_eq_true (by omega)];refine U9 H ?_;refine Jv ?_;rw[show decide ((i:Int) < 4096)=true from decide_eq_true (by omega)];refine A8 H ?_;rw[show decide ((g:Int)≥1)=true from decide_eq_true (by omega)];refine A8 H ?_;rw[show decide ((g:Int)≤255)=true from decide_eq_true (by omega)];refine J0 H ?_;exact Q3 (Jy H.drop rfl fun w' H'=>⟨rfl,H'⟩)
theorem TB [Q4] (l:VP) (h:G7 l) {w:World} {fr:List Q2} (H:Q0 w fr):Calls Tryz.prog 104 #[ZA l] w (ret fun v w'=>v = .tuple #[.int .u64 (VG l),.int .i64 0]∧Q0 w' fr):=by
 cases l with
 | none=>
  refine QQ Tryz.func104 rfl (by kernel_rfl) ?_;refine J7 H ?_;clear H;intro b1 w H;refine J3 H ?_;refine G1 H ?_;refine Ba H ?_;refine Bb H ?_;exact Q3 (Jy H.drop rfl fun w' H'=>⟨rfl,H'⟩)
 | grave=>
  refine QQ Tryz.func104 rfl (by kernel_rfl) ?_;refine J7 H ?_;clear H;intro b1 w H;refine J3 H ?_;refine G1 H ?_;refine Ba H ?_;refine Bc H ?_;refine Ba H ?_;refine Bb H ?_;exact Q3 (Jy H.drop rfl fun w' H'=>⟨rfl,H'⟩)
 | obj i g=>
  have h':=h;obtain⟨h1,h2,h3⟩:=h';refine QQ Tryz.func104 rfl (by kernel_rfl) ?_;refine J7 H ?_;clear H;intro b1 w H;refine KB H ?_;refine Y4 (fun ms σ w=>ms=[]∧σ 1 = .pointer (some ⟨b1,0,none⟩)∧Q0 w (pts b1 (row 85 [.int .i64 2,.int .i64 i,.int .i64 g])::fr)) ?_ ?_
  ·refine QP ?_;refine Ba H ?_;refine Bc H ?_;refine Ba H ?_;refine Bc H ?_;refine KE H ?_;refine YA H ?_;refine QT rfl rfl rfl (VR rfl rfl ?_);refine BN H ?_;refine QT rfl rfl rfl (Qy (a:=[]) (b:=[]) rfl rfl (call (Ma i g h H) ?_));clear H;rintro v w ⟨rfl,H⟩;refine Xp H ?_;refine V4 H ?_;exact .inl ⟨rfl,rfl,rfl,H⟩
  ·clear H;rintro ms σ w ⟨rfl,g1,H⟩;rw[Q1 g1];refine J1 H ?_;clear H;intro w H;refine Jf 1 ?_;refine Jf 2 ?_;refine Jl 3 [10,11] H ?_;refine U8 4 rfl (Q7.none rfl) rfl (by kernel_rfl) ?_;refine Ja 5 ?_;refine Jf 6 ?_;refine Jf 7 ?_;refine Jl 8 [10,11] H ?_;refine U8 9 rfl (Q7.none rfl) rfl (by kernel_rfl) ?_
   have e1:IntKind.u64.wrap (IntKind.u64.wrap (i:Int)+2)=((i+2:Nat):Int):=by
    rw[UH (a:=i) (by omega)];exact UH (a:=i+2) (by omega)
   have e2:IntKind.u64.wrap (g:Int)=((g:Nat):Int):=UH (by omega);rw[e1,e2];refine Jw 0 10 H rfl rfl (Qy (a:=[]) (b:=[]) rfl rfl (call (Ha H) ?_)) (R7 H rfl rfl rfl ?_)
   ·clear H;intro v16 w H;obtain⟨a16,m16,c16,rfl⟩:=Qs H;refine Jo 10 H ?_;refine WU H ?_;clear H;intro b17 w H;replace H:=Q0.swap (Uq (len:=2) (k:=1) rfl H)
    refine BU 11 rfl (by kernel_rfl) (by repeat first|exact .nil|refine .cons (.inr H.at) ?_|refine .cons (.inr H.mp) ?_|refine .cons (.inl (by kernel_rfl)) ?_) (Q7.none rfl) (Qy (a:=[]) (b:=[]) rfl rfl (call (Ei _ _ US [i+2,g] HS (by decide) rfl (fun j f x hf hx=>by
         rcases j with _|_|j <;> simp[US] at hf hx <;> subst hf hx <;> simp <;> omega) H) ?_))
    clear H;rintro v w ⟨rfl,H⟩;refine BP H ?_;exact Q3 (Jy H.drop.drop.drop rfl fun w' H'=>⟨rfl,H'⟩)
   ·clear H;intro b17 w H;refine Jo 0 H ?_;refine Jk rfl rfl (Ha H) ?_;clear H;intro v16 w H;obtain⟨a16,m16,c16,rfl⟩:=Qs H;replace H:=Q0.swap (Uq (len:=2) (k:=1) rfl H.swap)
    refine BU 11 rfl (by kernel_rfl) (by repeat first|exact .nil|refine .cons (.inr H.at) ?_|refine .cons (.inr H.mp) ?_|refine .cons (.inl (by kernel_rfl)) ?_) (Q7.none rfl) (Qy (a:=[]) (b:=[]) rfl rfl (call (Ei _ _ US [i+2,g] HS (by decide) rfl (fun j f x hf hx=>by
         rcases j with _|_|j <;> simp[US] at hf hx <;> subst hf hx <;> simp <;> omega) H) ?_))
    clear H;rintro v w ⟨rfl,H⟩;refine BP H ?_;exact Q3 (Jy H.drop.drop.drop rfl fun w' H'=>⟨rfl,H'⟩)
theorem TC {i g:Nat} (h:CX i g):US.map (Yw (VG (.obj i g)))=[i+2,g]:=by
 obtain⟨h1,h2,h3⟩:=h;simp only[US,map_cons,map_nil,Yw,Ej,Nat.reducePow];have e1:(i+2+g*4294967296) / 1 % 4294967296=i+2:=by omega
 have e2:(i+2+g*4294967296) / 4294967296 % 4294967296=g:=by omega
 rw[e1,e2]
theorem TD [Q4] (l:VP) (h:G7 l) {w:World} {fr:List Q2} (H:Q0 w fr):Calls Tryz.prog 132 #[.int .u64 (VG l)] w (ret fun v w'=>v = .tuple #[ZA l,.int .i64 0]∧Q0 w' fr):=by
 cases l with
 | none=>
  refine QQ Tryz.func132 rfl (by kernel_rfl) ?_;refine Y7 H ?_;clear H;intro b2 w H;refine J0 H ?_;refine A9 H ?_;refine J4 H ?_;refine Bd H ?_;clear H;intro w H;refine J0 H ?_;refine Q3 (BB (vs:=[ZA .none,.int .i64 0]) _ (.inr rfl) H (fun w' H' => .cellN H' rfl (by repeat first|exact .nil _|apply Q9.cons rfl) (.tmp .nil)) fun w' H'=>⟨rfl,H'.drop⟩)
 | grave=>
  refine QQ Tryz.func132 rfl (by kernel_rfl) ?_;refine Y7 H ?_;clear H;intro b2 w H;refine J0 H ?_;refine A9 H ?_;refine J4 H ?_;refine Zf H ?_;refine Bd H ?_;clear H;intro w H;refine J0 H ?_;refine Q3 (BB (vs:=[ZA .grave,.int .i64 0]) _ (.inr rfl) H (fun w' H' => .cellN H' rfl (by repeat first|exact .nil _|apply Q9.cons rfl) (.tmp .nil)) fun w' H'=>⟨rfl,H'.drop⟩)
 | obj i g=>
  have h':=h;obtain⟨h1,h2,h3⟩:=h';have hw:=Ej i g;have n0:((VG (.obj i g):Int) == 0)=false:=beq_eq_false_iff_ne.2 (by omega);have n1:((VG (.obj i g):Int) == 1)=false:=beq_eq_false_iff_ne.2 (by omega);have hlt:=MT (l := .obj i g) h;have hg:=TC h;generalize hW:VG (.obj i g)=W at n0 n1 hlt hg hw;refine QQ Tryz.func132 rfl (by kernel_rfl) ?_;refine Y7 H ?_;clear H;intro b2 w H;refine Be H ?_;refine Y4 (fun ms σ w=>ms=[]∧σ 0 = .int .u64 W∧σ 2 = .pointer (some ⟨b2,0,none⟩)∧Q0 w (pts b2 (row 85 [.int .i64 0,.int .i64 0,.int .i64 0])::fr)) ?_ ?_
  ·refine QP ?_;refine J4 H ?_;rw[n0];refine Zf H ?_;rw[n1];refine V4 H ?_;exact .inl ⟨rfl,rfl,rfl,rfl,H⟩
  ·clear H;rintro ms σ w ⟨rfl,g0,g2,H⟩;rw[Q1 g0,Q1 g2];refine YZ H ?_;refine Jc rfl rfl (Ha H) ?_;clear H;intro v16 w H
   refine Jc rfl rfl (HN _ hlt v16 US HS (by decide) H) ?_;clear H;rintro v w ⟨u,rfl,H⟩;rw[hg] at H;obtain⟨au,cu,rfl⟩:=QE (m:=2) H rfl (by decide);obtain⟨bu,su,rfl,H,hclose⟩:=V3 H (by decide);refine Db H ?_;clear H;intro w H;refine Ja 0 ?_;refine Ji 1 ?_;refine Jl 2 [11] H ?_;refine DT H ?_;refine Us H ?_;refine Ji 6 ?_;refine Jl 7 [11] H ?_;refine U8 8 rfl (Q7.none rfl) rfl (by kernel_rfl) ?_;refine GF 9 rfl (Q7.none rfl) rfl (by kernel_rfl) ?_
   have e1:IntKind.i64.wrap (IntKind.i64.wrap ((i+2:Nat):Int) - 2)=((i:Nat):Int):=by
    rw[KW (a:=i+2) (by omega),Qb (by omega) (by omega)];omega
   have e2:IntKind.i64.wrap (g:Int)=((g:Nat):Int):=KW (by omega);rw[e1,e2];refine Jo 10 H ?_;refine VN H rfl ?_;clear H;intro b6 w H
   refine AQ H ?_;clear H;intro w H;refine Jx H ?_;refine GH H ?_;refine Jc rfl rfl (Ma i g h H) ?_;clear H;rintro v w ⟨rfl,H⟩;refine Vx H ?_
   repeat refine Q6 ?_
   refine QZ ?_;refine Q5 rfl (VA H rfl (by repeat first|exact .nil _|apply Q9.cons rfl) rfl ?_);refine Q5 rfl (UE rfl rfl ?_);refine J5 H ?_;clear H;intro w H;refine J0 H ?_;refine Q3 (BB (vs:=[ZA (.obj i g),.int .i64 0]) _ (.inr rfl) H (fun w' H' => .cellN H' rfl (by repeat first|exact .nil _|apply Q9.cons rfl) (.tmp .nil)) fun w' H'=>⟨rfl,H'.drop.drop.drop.drop⟩)
def BM (p n:Nat) (ws:List Nat) (many:Nat):Q2:=ex fun v:Value=>star [pts p (row 235 [.int .i64 n,v,.int .i64 many]),UL v ws]
theorem Ek [Q4] {w:World} {p n:Nat} {ws:List Nat} {m:Nat} {l:List Q2} (H:Q0 w (BM p n ws m::l)):∃ v,Q0 w (pts p (row 235 [.int .i64 n,v,.int .i64 m])::UL v ws::l):=by
 obtain⟨v,H⟩:=Q0.ex.1 H;exact⟨v,Q0.star.1 H⟩
theorem CK [Q4] {w:World} {p n:Nat} {v:Value} {ws:List Nat} {m:Nat} {l:List Q2} (H:Q0 w (pts p (row 235 [.int .i64 n,v,.int .i64 m])::UL v ws::l)):Q0 w (BM p n ws m::l):=
 Q0.ex.2 ⟨v,Q0.star.2 H⟩
theorem Af [Q4] {w:World} {p n x m:Nat} {l:List Q2} (H:Q0 w (BM p n [x] m::l)):∃ b cap spare,Q0 w (pts p (row 235 [.int .i64 n,.slice (some ⟨b,0,none⟩) 1 cap,.int .i64 m])::pts b (row 94 (.int .u64 x::spare))::l) ∧
  ∀ w' l' (x' m':Nat),Q0 w' (pts p (row 235 [.int .i64 n,.slice (some ⟨b,0,none⟩) 1 cap,.int .i64 m'])::pts b (row 94 (.int .u64 x'::spare))::l')→Q0 w' (BM p n [x'] m'::l'):=by
 obtain⟨v,H⟩:=Ek H;have H:=H.swap;obtain⟨a,cap,rfl⟩:=QE (m:=1) H rfl (by decide)
 rcases GD H with ⟨h,_⟩|⟨b,len,cap',spare,h,e3,e4,e5,H2⟩
 ·cases h
 ·cases h;exact⟨b,cap,spare,H2.swap,fun w' l' x' m' H'=>CK (Q0.swap (ZK (c:=Qa [x']) rfl e4 e5 H'.swap))⟩
structure ZB (n x:Nat):Prop where
 pos:0 < n
 le:n≤63
 lt:x < 2 ^ n
theorem ZB.lt64 {n x:Nat} (h:ZB n x):x < 18446744073709551616:=Nat.lt_of_lt_of_le h.lt (Eh (by have:=h.le;omega))
theorem CR {i:Nat} (h:i < 64):IntKind.i64.wrap (Int.tdiv (i:Int) 64)=0:=by
 rw[Int.tdiv_eq_ediv_of_nonneg (by omega),show (i:Int) / 64=0 by omega];rfl
theorem El {i:Nat} (h:i < 64):Int.tmod (i:Int) 64=i:=by
 rw[Int.tmod_eq_emod_of_nonneg (by omega)];omega
theorem TE (x i:Nat):((x / 2 ^ i) &&& 1=1)↔x.testBit i=true:=by
 rw[Nat.and_one_is_mod,Nat.testBit_eq_decide_div_mod_eq];simp
theorem Hd [Q4] (p n:Nat) (ws:List Nat) (m:Nat) {w:World} {fr:List Q2} (H:Q0 w (BM p n ws m::fr)):Calls Tryz.prog 208 #[pp p] w (ret fun v w'=>v = .int .i64 n∧Q0 w' (BM p n ws m::fr)):=by
 obtain⟨v,H⟩:=Ek H;refine QQ Tryz.func208 rfl (by kernel_rfl) ?_;refine RX H ?_;refine J0 H ?_;exact Q3 (Jy (CK H) rfl fun w' H'=>⟨rfl,H'⟩)
theorem Mb [Q4] (p n:Nat) (ws:List Nat) (m:Nat) {w:World} {fr:List Q2} (H:Q0 w (BM p n ws m::fr)):Calls Tryz.prog 139 #[pp p] w (ret fun v w'=>v = .int .i64 m∧Q0 w' (BM p n ws m::fr)):=by
 obtain⟨v,H⟩:=Ek H;refine QQ Tryz.func139 rfl (by kernel_rfl) ?_;refine RX H ?_;refine J0 H ?_;exact Q3 (Jy (CK H) rfl fun w' H'=>⟨rfl,H'⟩)
theorem TF [Q4] (p n x m i:Nat) (hb:ZB n x) (hi:i < n) {w:World} {fr:List Q2} (H:Q0 w (BM p n [x] m::fr)):Calls Tryz.prog 250 #[pp p,.int .i64 i] w (ret fun v w'=>v = .bool (x.testBit i)∧Q0 w' (BM p n [x] m::fr)):=by
 have hle:=hb.le;have h64:=hb.lt64;refine QQ Tryz.func250 rfl (by kernel_rfl) ?_;refine WK H ?_;rw[show decide ((i:Int)≥0)=true from decide_eq_true (by omega)];refine Zm H ?_;refine QT rfl rfl rfl (Qy (a:=[]) (b:=[]) rfl rfl (call (Hd p n _ _ H) ?_));clear H;rintro v w ⟨rfl,H⟩;refine Yj H ?_;refine Jv ?_;rw[show decide ((i:Int) < (n:Int))=true from decide_eq_true (by omega)];obtain⟨b,cap,spare,H,hclose⟩:=Af H;refine UQ H ?_;refine Ur H ?_;refine Zm H ?_;rw[CR (show i < 64 by omega)];refine QT rfl rfl rfl (GC rfl rfl (by decide) (by decide) rfl ?_);refine QT rfl rfl rfl (QB H rfl rfl rfl ?_);refine Zm H ?_;rw[El (show i < 64 by omega)]
 refine VU rfl rfl (v := .int .u64 (XG .u64 (x:Int) (i:Int))) (by
  show (if (i:Int) < 0 then none else some _)=_;rw[if_neg (by omega)]) rfl ?_
 rw[BC (k := .u64) (a:=x) (b:=i) (by omega) rfl];have hq:x / 2 ^ i < 18446744073709551616:=Nat.lt_of_le_of_lt (Nat.div_le_self _ _) h64;refine VU rfl rfl (v := .int .u64 (YM .and .u64 ((x / 2 ^ i:Nat):Int) ((1:Nat):Int))) rfl rfl ?_;rw[DI hq (by decide)];refine Xp H ?_;refine Q3 (Jy (hclose _ _ _ _ H) rfl fun w' H'=>⟨?_,H'⟩);show Value.bool (((x / 2 ^ i &&& 1:Nat):Int) == 1)=_;congr 1;rw[Bool.eq_iff_iff,← TE];simp only[beq_iff_eq];omega
def Ym (x i:Nat) (on:Bool):Nat:=if x.testBit i=on then x else x ^^^ 2 ^ i
theorem WS (x i:Nat) (on:Bool) (j:Nat):(Ym x i on).testBit j=if j=i then on else x.testBit j:=by
 unfold Ym;split
 ·rename_i h;split
  ·rename_i e;subst e;exact h
  ·rfl
 ·rename_i h;rw[Nat.testBit_xor,Nat.testBit_two_pow];split
  ·rename_i e;subst e;simp;cases hx:x.testBit j <;> cases on <;> simp_all
  ·rename_i e;have:decide (i=j)=false:=decide_eq_false (fun e2=>e e2.symm);simp[this]
def Yd (n x:Nat):Nat:=((List.range n).filter fun i=>x.testBit i).length
theorem TH {n x:Nat} (h:∀ j,n≤j→x.testBit j=false):x < 2 ^ n:=Nat.lt_pow_two_of_testBit x fun j hj=>h j hj
theorem He {n x j:Nat} (h:x < 2 ^ n) (hj:n≤j):x.testBit j=false:=Nat.testBit_lt_two_pow (Nat.lt_of_lt_of_le h (Nat.pow_le_pow_right (by decide) hj))
theorem ZB.set {n x i:Nat} {on:Bool} (h:ZB n x) (hi:i < n):ZB n (Ym x i on):=⟨h.pos,h.le,TH fun j hj=>by
 rw[WS,if_neg (by omega)];exact He h.lt hj⟩
theorem Hf (f g:Nat→Bool) (i:Nat):∀ n,i < n→(∀ j,j≠i→f j=g j)→f i=false→g i=true→((List.range n).filter g).length=((List.range n).filter f).length+1
 | 0,h,_,_,_=>by omega
 | n+1,h,hfg,h0,h1=>by
  rw[range_succ,filter_append,filter_append,length_append,length_append];by_cases e:i=n
  ·subst e
   have e2:(List.range i).filter g=(List.range i).filter f:=by
    apply filter_congr;intro j hj;rw[mem_range] at hj;rw[hfg j (by omega)]
   rw[e2];simp[h0,h1]
  ·have:=Hf f g i n (by omega) hfg h0 h1;have e3:[n].filter g=[n].filter f:=by simp[filter_cons,hfg n (fun e'=>e e'.symm)]
   rw[e3];omega
theorem TI {n x i:Nat} {on:Bool} (hi:i < n) (h:x.testBit i≠on):(on=true→Yd n (Ym x i on)=Yd n x+1)∧(on=false→Yd n x=Yd n (Ym x i on)+1):=by
 have hne:∀ j,j≠i→x.testBit j=(Ym x i on).testBit j:=fun j hj=>by rw[WS,if_neg hj]
 have hat:(Ym x i on).testBit i=on:=by rw[WS,if_pos rfl]
 constructor
 ·rintro rfl;exact Hf _ _ i n hi hne (by simpa using h) hat
 ·rintro rfl;exact Hf _ _ i n hi (fun j hj=>(hne j hj).symm) hat (by simpa using h)
theorem Hg (n x:Nat):Yd n x≤n:=by
 have:=length_filter_le (fun i=>x.testBit i) (List.range n)
 rwa [length_range] at this
@[reducible] def Z4 (p n x:Nat):Q2:=BM p n [x] (Yd n x)
theorem TJ [Q4] (p n x i:Nat) (on:Bool) (hb:ZB n x) (hi:i < n) {w:World} {fr:List Q2} (H:Q0 w (Z4 p n x::fr)):Calls Tryz.prog 235 #[pp p,.int .i64 i,.bool on] w (ret fun v w'=>Q0 w' (Z4 p n (Ym x i on)::fr)):=by
 have hle:=hb.le;have h64:=hb.lt64;have hcl:=Hg n x;have hcl2:=Hg n (Ym x i on);refine QQ Tryz.func235 rfl (by kernel_rfl) ?_;refine J9 H ?_;refine Jc rfl rfl (TF p n x _ i hb hi H) ?_;clear H;rintro v w ⟨rfl,H⟩;refine Jv ?_;refine Q5 rfl (BR rfl rfl (.inl rfl) rfl ?_);refine AV H ?_;refine W3 rfl (fun h=>?_) (fun h=>QD ?_)
 ·have h1:x.testBit i=on:=by simpa [YK] using h
  have e:Ym x i on=x:=if_pos h1;rw[e];exact Q3 (Jy H rfl fun w' H'=>H')
 ·have h1:x.testBit i≠on:=by simpa [YK] using h
  have e:Ym x i on=x ^^^ 2 ^ i:=if_neg h1;obtain⟨c1,c0⟩:=TI hi h1;obtain⟨b,cap,spare,H,hclose⟩:=Af H;have h2i:2 ^ i < 18446744073709551616:=Nat.lt_of_lt_of_le (Nat.pow_lt_pow_right (by decide) (show i < 64 by omega)) (Nat.le_refl _);have e2:Xf .u64 ((1:Nat):Int) (i:Int)=((2 ^ i:Nat):Int):=by rw[HY (by omega),Nat.one_mul,Nat.mod_eq_of_lt h2i]
  have e3:YM .xor .u64 (x:Int) ((2 ^ i:Nat):Int)=((Ym x i on:Nat):Int):=by rw[M3 h64 h2i,e]
  refine J1 H ?_;clear H;intro w H;refine Yu H ?_;refine Jl 3 [13] H ?_;refine Us H ?_;rw[CR (show i < 64 by omega)];refine R4 6 rfl (Q7.none rfl) rfl rfl (by decide) (by decide) (by kernel_rfl) ?_;refine Jl 7 [13] H ?_;refine Ja 8 ?_;refine Ja 9 ?_;rw[El (show i < 64 by omega)]
  refine Gs (v := .int .u64 (Xf .u64 ((1:Nat):Int) (i:Int))) 10 rfl (Q7.none rfl) (by
   show (if (i:Int) < 0 then none else some _)=_;rw[if_neg (by omega)];rfl) (by kernel_rfl) ?_
  rw[e2];refine Gs (v := .int .u64 (YM .xor .u64 (x:Int) ((2 ^ i:Nat):Int))) 11 rfl (Q7.none rfl) rfl (by kernel_rfl) ?_;rw[e3];refine R4 12 rfl (Q7.none rfl) rfl rfl (by decide) (by decide) (by kernel_rfl) ?_;refine Jo 13 H ?_;refine Ut H ?_;clear H;intro w H;refine Jx H ?_;refine GI H ?_;refine Uu H ?_;clear H;intro w H;refine WR H ?_;cases on with
  | true=>
   refine VH H ?_;refine GI H ?_;refine Uu H ?_;clear H;intro w H;refine J2 H ?_
   have hc:IntKind.i64.wrap (IntKind.i64.wrap ((Yd n x:Nat) - 1:Int)+2)=((Yd n (Ym x i true):Nat):Int):=by
    have:=c1 rfl;rw[Qb (x:=((Yd n x:Nat):Int) - 1) (by omega) (by omega),Qb (by omega) (by omega)];omega
   rw[hc] at H;exact Y6 _ (.inl rfl) (hclose _ _ _ _ H) rfl fun w' H'=>H'
  | false=>
   refine V4 H ?_
   have hc:IntKind.i64.wrap ((Yd n x:Nat) - 1:Int)=((Yd n (Ym x i false):Nat):Int):=by
    have:=c0 rfl;rw[Qb (by omega) (by omega)];omega
   rw[hc] at H;exact Y6 _ (.inl rfl) (hclose _ _ _ _ H) rfl fun w' H'=>H'
end Go.Proofs.YtbnnnljagkjpiaaGreatDoor
