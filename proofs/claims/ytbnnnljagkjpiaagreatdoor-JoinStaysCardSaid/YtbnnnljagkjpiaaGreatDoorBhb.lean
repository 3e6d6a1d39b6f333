/- Cells: what is proved on the way: every input of the statement; no condition. Texts joined: SlF SlG SlH SlK SlL. -/
import Derived.Test.YtbnnnljagkjpiaaGreatDoorBha
import Derived.Laws.AppendOwn
import Derived.Laws.Tables
import Derived.Great.BuildSlice
import Derived.RangeFuncIn
import Derived.RangeFuncRecord
import Derived.Laws.IdiomRangeMap
import Derived.Laws.IdiomStrings
import Derived.Lib.Bytealg
import Derived.Laws.Externs
import Derived.Laws.Slices
set_option linter.unusedVariables false
set_option linter.unusedSimpArgs false
set_option linter.unusedSectionVars false
namespace Go.SL
open List
section
variable {P:Program} {k:TypeId}
class XI (P:Program) (t:TypeId) (q:outParam IntKind):Prop where
 und:P.underlying t=some (.int q)
@[reducible] def ki (q:IntKind):Int→Value:=fun x => .int q x
@[reducible] def kp:Int×Int→Value:=fun x => .agg #[.int .i64 x.1,.int .i64 x.2]
@[reducible] def ks:ByteArray→Value:=fun x => .string x
theorem LM {q:IntKind} (x:Int):∀ (es:List MapEntry) (ks:List Int) (i:Nat),es.map (·.key)=ks.map (ki q) →
  (Instr.findNow (.int q) (ki q x) es i=some none∧x∉ks)∨∃ j e,Instr.findNow (.int q) (ki q x) es i=some (some (i+j,e.val))∧es[j]? = some e∧ks[j]? = some x
 | [],[],_,_ => .inl ⟨rfl,by simp⟩
 | [],_::_,_,h=>by simp at h
 | _::_,[],_,h=>by simp at h
 | e::es,y::ks,i,h=>by
  simp only[map_cons,List.cons.injEq] at h;by_cases hxy:x=y
  ·subst hxy;exact .inr ⟨0,e,by simp[Instr.findNow,Instr.sameNow,h.1],rfl,rfl⟩
  ·have hb:(x == y)=false:=by simpa using hxy
   rcases LM x es ks (i+1) h.2 with ⟨h1,h2⟩|⟨j,e',h1,h2,h3⟩
   ·exact .inl ⟨by simp[Instr.findNow,Instr.sameNow,h.1,hb,h1],by simp[hxy,h2]⟩
   ·exact .inr ⟨j+1,e',by simp[Instr.findNow,Instr.sameNow,h.1,hb,h1];omega,by simpa using h2,by simpa using h3⟩
theorem Ps {q:IntKind} (h:XI P k q):GQ P k (ki q) where
 inj:=fun a b e=>by simpa using e
 check:=fun w em x=>by
  unfold Instr.checkKey;simp only[Sem.run_bind,Vn h.und,Result.andThen_ok,ki];rfl
 stays:=fun w x=>by simp[Instr.keyThatStays,Instr.sameBits]
 find:=fun w x es l hl=>by
  unfold Instr.findKey;simp only[Sem.run_bind,Vn h.und,Result.andThen_ok]
  rcases LM x es l 0 hl with ⟨h1,h2⟩|⟨j,e,h1,h2,h3⟩
  ·exact .inl ⟨by rw[h1];rfl,h2⟩
  ·exact .inr ⟨j,e,by rw[h1];simp,h2,h3⟩
structure LN (P:Program) (t:TypeId) {A:Type} (enc:A→Value) (eq:A→A→Bool):Prop where
 run:∀ (d:Nat) (w:World) (x y:A),(Op.equalIn (d+3) t (enc x) (enc y)).run P w = .ok (eq x y) w
class Kn (P:Program) (t:TypeId):Prop where
 und:∃ f g a b,P.underlying t=some (.struct #[f,g])∧f.name ≠ "_" ∧ g.name ≠ "_" ∧ f.offset=0∧g.offset=1∧P.underlying f.type=some (.int a)∧P.underlying g.type=some (.int b)
 one:∀ f g,P.underlying t=some (.struct #[f,g])→T1 P f.type∧T1 P g.type
 held:P.stoodInHeld t=false
 guard:P.eqGuardType P.depth t=false
theorem LO {t:TypeId} (h:Kn P t):LN P t kp (fun x y=>x.1 == y.1 && x.2 == y.2) where
 run:=fun d w x y=>by
  obtain⟨f,g,a,b,h1,h2,h3,h4,h5,h6,h7⟩:=h.und;obtain⟨o1,o2⟩:=h.one f g h1;have hf:P.fieldsOf t=#[f,g]:=by simp[Program.fieldsOf,h1]
  rw[run_equalIn_struct w (d+2) t _ _ (by rw[hf];exact h1) h.held,hf];have p1:∀ (u v:Int),(part f.type #[.int .i64 u,.int .i64 v] f.offset).run P w = .ok (.int .i64 u) w:=fun u v=>Wk o1 (c:=[.int .i64 u,.int .i64 v]) (by rw[h4];rfl);have p2:∀ (u v:Int),(part g.type #[.int .i64 u,.int .i64 v] g.offset).run P w = .ok (.int .i64 v) w:=fun u v=>Wk o2 (c:=[.int .i64 u,.int .i64 v]) (by rw[h5];rfl);simp only[Op.eqFields,h2,h3,ne_eq,not_false_eq_true,if_true,Sem.run_bind,p1,p2,Result.andThen_ok,run_equalIn_int w (d+1) f.type .i64 a _ _ h6,run_equalIn_int w (d+1) g.type .i64 b _ _ h7];cases h8:(x.1 == y.1)
  ·simp
  ·cases h9:(x.2 == y.2) <;> simp[p2,run_equalIn_int w (d+1) g.type .i64 b _ _ h7,h9]
theorem Pt {fs:Array Field} (x:Int×Int) (e:MapEntry) (es:List MapEntry) (i:Nat):Instr.findNow (.struct fs) (kp x) (e::es) i=none:=by
 simp[Instr.findNow,Instr.sameNow]
theorem LP {A:Type} {enc:A→Value} {eq:A→A→Bool} (E:LN P k enc eq) (he:∀ a b,eq a b=true↔a=b) (w:World) (x:A):∀ (es:List MapEntry) (l:List A) (i:Nat),es.map (·.key)=l.map enc →
  ((Instr.findAsking k (enc x) es i).run P w = .ok none w∧x∉l)∨∃ j e,(Instr.findAsking k (enc x) es i).run P w = .ok (some (i+j,e.val)) w∧es[j]? = some e∧l[j]? = some x
 | [],[],_,_ => .inl ⟨rfl,by simp⟩
 | [],_::_,_,h=>by simp at h
 | _::_,[],_,h=>by simp at h
 | e::es,y::l,i,h=>by
  simp only[map_cons,List.cons.injEq] at h;have hr:(Op.equal k (enc x) e.key).run P w = .ok (eq x y) w:=by rw[h.1];exact E.run 9997 w x y
  unfold Instr.findAsking;simp only[Sem.run_bind,hr,Result.andThen_ok];by_cases hxy:x=y
  ·subst hxy;rw[(he x x).2 rfl];exact .inr ⟨0,e,by simp,rfl,rfl⟩
  ·have hb:eq x y=false:=by
    cases hq:eq x y with
    | false=>rfl
    | true=>exact absurd ((he x y).1 hq) hxy
   rw[hb];simp only[Bool.false_eq_true,if_false]
   rcases LP E he w x es l (i+1) h.2 with ⟨h1,h2⟩|⟨j,e',h1,h2,h3⟩
   ·exact .inl ⟨h1,by simp[hxy,h2]⟩
   ·exact .inr ⟨j+1,e',by rw[h1];congr 3;omega,by simpa using h2,by simpa using h3⟩
theorem LS (h:Kn P k):GQ P k kp where
 inj:=fun a b e=>by
  obtain⟨a1,a2⟩:=a;obtain⟨b1,b2⟩:=b;simpa using e
 check:=fun w em x=>by
  obtain⟨f,g,a,b,h1,h2,h3,h4,h5,h6,h7⟩:=h.und;obtain⟨o1,o2⟩:=h.one f g h1;have p1:(part f.type #[.int .i64 x.1,.int .i64 x.2] f.offset).run P w = .ok (.int .i64 x.1) w:=Wk o1 (c:=[.int .i64 x.1,.int .i64 x.2]) (by rw[h4];rfl);have p2:(part g.type #[.int .i64 x.1,.int .i64 x.2] g.offset).run P w = .ok (.int .i64 x.2) w:=Wk o2 (c:=[.int .i64 x.1,.int .i64 x.2]) (by rw[h5];rfl)
  have c1:∀ (t:TypeId) (q:IntKind) (u:Int),P.underlying t=some (.int q)→(Instr.checkKey em 9999 t (.int .i64 u)).run P w = .ok () w:=fun t q u ht=>by
   unfold Instr.checkKey;simp only[Sem.run_bind,Vn ht,Result.andThen_ok];rfl
  unfold Instr.checkKey;simp only[Sem.run_bind,Vn h1,Result.andThen_ok,kp];simp[h2,h3,p1,p2,c1 _ _ _ h6,c1 _ _ _ h7]
 stays:=fun w x=>by simp[Instr.keyThatStays,Instr.sameBits]
 find:=fun w x es l hl=>by
  obtain⟨f,g,a,b,h1,_⟩:=h.und;unfold Instr.findKey;simp only[Sem.run_bind,Vn h1,Result.andThen_ok]
  have key:=LP (LO h) (fun a b=>by
   obtain⟨a1,a2⟩:=a;obtain⟨b1,b2⟩:=b;simp) w x es l 0 hl
  cases es with
  | nil=>
   cases l with
   | nil=>exact .inl ⟨by simp[Instr.findNow],by simp⟩
   | cons y l=>simp at hl
  | cons e es=>
   rw[Pt];simpa using key
end
section
variable {P:Program} {w:World}
def Y8:BinOp→Bool
 | .eql=>true
 | _=>false
theorem La {t:TypeId} (h:Gn P t) (op:BinOp) (a:Option Addr) (X Y:Operand) (u:TypeId) (ho:op = .eql∨op = .neq) :
  (do eqGuard op t X Y (.pointer a) (.pointer none);binOp op t (.pointer a) (.pointer none):Sem Value).run P w = .ok (.bool (if Y8 op then a.isNone else a.isSome)) w:=by
 obtain⟨e,h⟩:=h.und
 have h1:(Op.equal t (.pointer a) (.pointer none)).run P w = .ok a.isNone w:=by
  unfold Op.equal Op.maxDepth Op.equalIn;simp only[Sem.run_bind,Vn h,Result.andThen_ok];cases a <;> rfl
 rcases ho with rfl|rfl
 ·simp[eqGuard,binOp,h1,Y8]
 ·simp[eqGuard,binOp,h1,Y8]
theorem Pu {t k e:TypeId} (h:Yc P t k e) (op:BinOp) (a:Option Nat) (X Y:Operand) (ho:op = .eql∨op = .neq) :
  (do eqGuard op t X Y (.map a) (.map none);binOp op t (.map a) (.map none):Sem Value).run P w = .ok (.bool (if Y8 op then a.isNone else a.isSome)) w:=by
 have h1:(Op.equal t (.map a) (.map none)).run P w = .ok a.isNone w:=by
  unfold Op.equal Op.maxDepth Op.equalIn;simp only[Sem.run_bind,Vn h.und,Result.andThen_ok];cases a <;> rfl
 rcases ho with rfl|rfl
 ·simp[eqGuard,binOp,h1,Y8]
 ·simp[eqGuard,binOp,h1,Y8]
class Fo (P:Program) (t:TypeId):Prop where
 und:P.underlying t=some .bool
theorem Pv {t:TypeId} (h:Fo P t) (op:BinOp) (a b:Bool) (X Y:Operand) (ho:op = .eql∨op = .neq) :
  (do eqGuard op t X Y (.bool a) (.bool b);binOp op t (.bool a) (.bool b):Sem Value).run P w = .ok (.bool (if Y8 op then a == b else !(a == b))) w:=by
 have h1:(Op.equal t (.bool a) (.bool b)).run P w = .ok (a == b) w:=by
  unfold Op.equal Op.maxDepth Op.equalIn;simp only[Sem.run_bind,Vn h.und,Result.andThen_ok];rfl
 rcases ho with rfl|rfl
 ·simp[eqGuard,binOp,h1,Y8]
 ·simp[eqGuard,binOp,h1,Y8]
theorem Lb {t:TypeId} (h:Kn P t) (op:BinOp) (a b c d:Int) (X Y:Operand) (ho:op = .eql∨op = .neq) :
  (do eqGuard op t X Y (.agg #[.int .i64 a,.int .i64 b]) (.agg #[.int .i64 c,.int .i64 d]);binOp op t (.agg #[.int .i64 a,.int .i64 b]) (.agg #[.int .i64 c,.int .i64 d]):Sem Value).run P w =
   .ok (.bool (if Y8 op then decide ((a,b)=(c,d)) else !decide ((a,b)=(c,d)))) w:=by
 have h0:=run_eqGuard_agg (P:=P) w op t X Y #[.int .i64 a,.int .i64 b] #[.int .i64 c,.int .i64 d] h.guard;have h1:=(LO h).run 9997 w (a,b) (c,d)
 have e:(a == c && b == d)=decide ((a,b)=(c,d)):=by
  rw[Bool.eq_iff_iff];simp
 simp only[e] at h1;simp only[Sem.run_bind,h0,Result.andThen_ok]
 rcases ho with rfl|rfl
 ·rw[run_eql_struct,h1];rfl
 ·rw[run_neq_struct,h1];rfl
end
section
variable {P:Program} {n:Nat} {r:Option Nat} {ops:Array Oper} {Q:Y6} {ms:List Nat} {σ:QX} {w:World} {rest:List Oper} {o:Oper} {K:QX→World→Prop} {l l':List Q2}
variable {ivs:List (List Nat×(World→Prop))} {T:QX→World→Prop} {f:Nat} {L:Array Bool}
variable {u t:TypeId} {p:String} {af:Array Edge} {g:Option (Nat×Bool)} {d:Option Tmp} {x y z:Operand}
theorem UQ {op:BinOp} {yt:TypeId} {a:Option Addr} [h:Gn P t] (hx:ev σ x = .pointer a) (hy:ev σ y = .pointer none) (ho:op = .eql∨op = .neq) (hd:Qf n d=true)
  (k:K (put σ d (.bool (if Y8 op then a.isNone else a.isSome))) w):St P n r ⟨d,.binOp op t x y yt,u,p,af,g⟩ σ w K:=
 V3 hd (fun c e=>by cases e) (by simp only[execOp,hx,hy,Sem.run_bind];rw[← Sem.run_bind,La h op a x y yt ho];rfl) k
theorem Lc {op:BinOp} {yt k e:TypeId} {a:Option Nat} [h:Yc P t k e] (hx:ev σ x = .map a) (hy:ev σ y = .map none) (ho:op = .eql∨op = .neq) (hd:Qf n d=true)
  (k:K (put σ d (.bool (if Y8 op then a.isNone else a.isSome))) w):St P n r ⟨d,.binOp op t x y yt,u,p,af,g⟩ σ w K:=
 V3 hd (fun c e=>by cases e) (by simp only[execOp,hx,hy,Sem.run_bind];rw[← Sem.run_bind,Pu h op a x y ho];rfl) k
theorem Rp {op:BinOp} {yt:TypeId} {a b:Bool} [h:Fo P t] (hx:ev σ x = .bool a) (hy:ev σ y = .bool b) (ho:op = .eql∨op = .neq) (hd:Qf n d=true)
  (k:K (put σ d (.bool (if Y8 op then a == b else !(a == b)))) w):St P n r ⟨d,.binOp op t x y yt,u,p,af,g⟩ σ w K:=
 V3 hd (fun c e=>by cases e) (by simp only[execOp,hx,hy,Sem.run_bind];rw[← Sem.run_bind,Pv h op a b x y ho];rfl) k
theorem Fp {op:BinOp} {yt:TypeId} {a b c e:Int} [h:Kn P t] (hx:ev σ x = .agg #[.int .i64 a,.int .i64 b]) (hy:ev σ y = .agg #[.int .i64 c,.int .i64 e]) (ho:op = .eql∨op = .neq) (hd:Qf n d=true)
  (k:K (put σ d (.bool (if Y8 op then decide ((a,b)=(c,e)) else !decide ((a,b)=(c,e))))) w):St P n r ⟨d,.binOp op t x y yt,u,p,af,g⟩ σ w K:=
 V3 hd (fun c e=>by cases e) (by simp only[execOp,hx,hy,Sem.run_bind];rw[← Sem.run_bind,Lb h op a b c e x y ho];rfl) k
theorem UV {op:Op} {v:Value} (h:pv σ op=some v) (hd:Qf n d=true) (k:Lp P n r ops Q rest ms (put σ d v) w):Lp P n r ops Q (⟨d,op,u,p,af,none⟩::rest) ms σ w:=
 B3 (Q9.none rfl) (L8 (o:=⟨d,op,u,p,af,none⟩) h hd k)
def Ld (σ:QX):Op→Option Value
 | .move x | .assign x=>some (ev σ x)
 | _=>none
theorem X4 {op:Op} {v:Value} (h:Ld σ op=some v) (hd:Qf n d=true) (k:Lp P n r ops Q rest ms (put σ d v) w):Lp P n r ops Q (⟨d,op,u,p,af,none⟩::rest) ms σ w:=by
 refine B3 (Q9.none rfl) (V3 hd (fun c e=>?_) ?_ k)
 ·have e:op = .defer c:=e;subst e;cases h
 ·cases op <;> simp only[Ld] at h <;> first|(cases h;rfl)|cases h
theorem Q5 (hg:o.guard=none) (h:St P n r o σ w (fun σ' w'=>Lp P n r ops Q rest ms σ' w')):Lp P n r ops Q (o::rest) ms σ w:=B3 (Q9.none hg) h
theorem Q0.pick [Q4] {G:Type} {R:G→Q2} {gs g1 g2:List G} {x:G} (e:gs=g1++x::g2):Q0 w (SL.star (gs.map R)::l)↔Q0 w (R x::SL.star ((g1++g2).map R)::l):=by
 subst e
 have p:((g1++x::g2).map R++l).Perm (R x::((g1++g2).map R++l)):=by
  simp only[map_append,map_cons,append_assoc,cons_append];exact perm_middle
 constructor
 ·exact fun h=>⟨Cx (fun _=>D4.2) ((Q0.star.1 h).perm p).1,h.2⟩
 ·exact fun h=>Q0.star.2 (Q0.perm ⟨Cx (fun _=>D4.1) h.1,h.2⟩ p.symm)
variable {A B:Type} [DecidableEq A] {ek:A→Value} {vv:B→Value} {b:Nat} {m:List (A×B)} {kt et:TypeId}
theorem XJ [Q4] (vv:B→Value) (ek:A→Value) (H:Q0 w l) [hM:Yc P t kt et] (hd:Qf n d=true) (k:∀ b w',Q0 w' (mp ek vv b []::l)→K (put σ d (.map (some b))) w') :
  St P n r ⟨d,.makeMap t none,u,p,af,g⟩ σ w K:=by
 refine V3 (v := .map (some w.heap.size)) (w':={ w with heap:=w.heap.push (.map #[] 0) }) hd (fun c e=>by cases e) ?_ (k _ _ ((H.new (.map #[] 0)).head fun h e=>⟨#[],0,e,?_⟩))
 ·simp[execOp,Instr.makeMap]
 ·exact⟨rfl,by simp,by simp,by simp⟩
theorem Zv [Q4] {ix:Operand} {ok:Bool} {key:A} {zv:Value} (H:Q0 w l) (hx:ev σ x = .map (some b)) (hk:ev σ ix=ek key) (TK:GQ P kt ek) [hM:Yc P t kt et] [hz:Qy P et zv] [i:Ue ek vv b m l] (hd:Qf n d=true)
  (k:K (put σ d (if ok then .tuple #[Ro zv vv (Q8 m key),.bool (Q8 m key).isSome] else Ro zv vv (Q8 m key))) w):St P n r ⟨d,.lookup t x ix ok,u,p,af,g⟩ σ w K:=
 V3 hd (fun c e=>by cases e) (by simp only[execOp,hx,hk,Sem.run_bind];rw[LL hM TK hz (i.get _ H.1) key ok];rfl) k
theorem Uf [Q4] {ix:Operand} {key:A} {v:B} (H:Q0 w l) (hx:ev σ x = .map (some b)) (hk:ev σ ix=ek key) (hv:ev σ y=vv v) (TK:GQ P kt ek) [hM:Yc P t kt et] [i0:Ue ek vv b m l] [i:Rn ek vv b m l (Vm m key v) l'] (hd:Qf n d=true)
  (k:∀ w',Q0 w' l'→K (put σ d undef) w'):St P n r ⟨d,.mapUpdate t x ix y,u,p,af,g⟩ σ w K:=by
 obtain⟨w',es,c,h1,h2,h3,h4,h5⟩:=Pn hM TK (i.get _ H.1) key v;exact D5 (w':=w') hd (fun c e=>by cases e) (by simp only[execOp,hx,hk,hv,Sem.run_bind,h1,Result.andThen_ok];rfl) (k w' ⟨i.set _ _ H.1 ⟨es,c,h2,h3⟩ h4,H.2.same h5⟩)
theorem XL [Q4] {ix:Operand} {key:A} {t2:TypeId} (H:Q0 w l) (hx:ev σ x = .map (some b)) (hk:ev σ ix=ek key) (TK:GQ P kt ek) [hM:Yc P t kt et] [i0:Ue ek vv b m l] [i:Rn ek vv b m l (QB m key) l'] (hd:Qf n d=true)
  (k:∀ w',Q0 w' l'→K (put σ d (.tuple #[])) w'):St P n r ⟨d,.call { callee := .builtin .delete,args:=#[x,ix],argTypes:=#[t,t2] },u,p,af,g⟩ σ w K:=by
 obtain⟨w',es,c,h1,h2,h3,h4,h5⟩:=Po hM TK (i.get _ H.1) key u t2;refine V3 (v := .tuple #[]) (w':=w') hd (fun c e=>by cases e) ?_ (k w' ⟨i.set _ _ H.1 ⟨es,c,h2,h3⟩ h4,H.2.same h5⟩);simp[execOp,resolve,invoke,builtin,hx,hk,h1]
theorem Pw {ix:Operand} {key:A} {t2:TypeId} (hx:ev σ x = .map none) (hk:ev σ ix=ek key) (TK:GQ P kt ek) [hM:Yc P t kt et] (hd:Qf n d=true)
  (k:K (put σ d (.tuple #[])) w):St P n r ⟨d,.call { callee := .builtin .delete,args:=#[x,ix],argTypes:=#[t,t2] },u,p,af,g⟩ σ w K:=by
 refine V3 (v := .tuple #[]) (w':=w) hd (fun c e=>by cases e) ?_ k;simp[execOp,resolve,invoke,builtin,hx,hk,Pp (P:=P) (w:=w) hM TK key u t2]
theorem Fq [Q4] (ek:A→Value) (vv:B→Value) (H:Q0 w l) (hx:ev σ x = .map (some b)) [hM:Yc P t kt et] [i:Ue ek vv b m l] (hd:Qf n d=true)
  (k:K (put σ d (.int .i64 m.length)) w):St P n r ⟨d,.call { callee := .builtin .len,args:=#[x],argTypes:=#[t] },u,p,af,g⟩ σ w K:=by
 refine V3 (v := .int .i64 m.length) (w':=w) hd (fun c e=>by cases e) ?_ k;simp[execOp,resolve,invoke,builtin,hx,Pq (P:=P) hM (i.get _ H.1) u]
theorem Px (hx:ev σ x = .map none) [hM:Yc P t kt et] (hd:Qf n d=true)
  (k:K (put σ d (.int .i64 0)) w):St P n r ⟨d,.call { callee := .builtin .len,args:=#[x],argTypes:=#[t] },u,p,af,g⟩ σ w K:=by
 refine V3 (v := .int .i64 0) (w':=w) hd (fun c e=>by cases e) ?_ k;simp[execOp,resolve,invoke,builtin,hx,Pr (P:=P) (w:=w) hM u]
theorem Py {s:TypeId} {fi off b i₀:Nat} (i:Nat) (hi:ops[i]? = some ⟨d,.fieldAddr s x fi,u,p,af,g⟩) (hg:Q9 ops σ ⟨d,.fieldAddr s x fi,u,p,af,g⟩ true) [hf:QL P s fi off] (hx:ev σ x = .pointer (some ⟨b,i₀,none⟩)) (hs:YU n ops (ivs.map (·.1)) L i []=true)
  (h:Any P n r ops ivs T f (L.setIfInBounds i true) (put σ d (.pointer (some ⟨b,i₀+off,none⟩))) w):Any P n r ops ivs T (f+1) L σ w:=by
 refine Gp (v := .pointer (some ⟨b,i₀+off,none⟩)) i hi hg (fun c e=>by cases e) (fun w=>?_) hs h;obtain⟨fs,fd,h1,h2,h3,i',h4,h5⟩:=hf.field;simp only[execOp,hx,Instr.fieldAt,Sem.run_bind,underlying,run_program,Result.andThen_ok,h1,Sem.run_pure,h2,Instr.sureAddr,fieldPlace];have hs:(sizeOf fd.type).run P w = .ok i' w:=Zu h4;simp only[hs,Result.andThen_ok,if_neg h5,ZV,h3,Sem.run_pure]
theorem Vg [Q4] {b i₀ E:Nat} {fz:Nat×Nat} {c:List Value} {v:Value} (i:Nat) (D:List Nat) (H:Q0 w l) (hi:ops[i]? = some ⟨d,.load t x,u,p,af,g⟩) (hg:Q9 ops σ ⟨d,.load t x,u,p,af,g⟩ true) (hx:ev σ x = .pointer (some ⟨b,i₀,none⟩)) [h1:T1 P t] [ha:At b (.cells c.toArray E fz) l] (hv:c[i₀]? = some v)
  (hs:YU n ops (ivs.map (·.1)) L i D=true) (h:Any P n r ops ((D,fun w=>w.heap[b]? = some (.cells c.toArray E fz))::ivs) T f (L.setIfInBounds i true) (put σ d v) w):Any P n r ops ivs T (f+1) L σ w:=
 LA i D hi hg (fun c e=>by cases e) (fun w hw=>by simp only[execOp,hx,Instr.loadAt,Instr.sureAddr,Sem.run_bind,Sem.run_pure,Result.andThen_ok,L4 (P:=P) h1 hw hv]) hs h
theorem VP [Q4] {b i₀ E k:Nat} {fz:Nat×Nat} {c vs:List Value} (i:Nat) (D:List Nat) (H:Q0 w l) (hi:ops[i]? = some ⟨d,.load t x,u,p,af,g⟩) (hg:Q9 ops σ ⟨d,.load t x,u,p,af,g⟩ true) (hx:ev σ x = .pointer (some ⟨b,i₀,none⟩)) [h1:TN P t k] [ha:At b (.cells c.toArray E fz) l] (hv:QZ c i₀ k vs)
  (hs:YU n ops (ivs.map (·.1)) L i D=true) (h:Any P n r ops ((D,fun w=>w.heap[b]? = some (.cells c.toArray E fz))::ivs) T f (L.setIfInBounds i true) (put σ d (.agg vs.toArray)) w):Any P n r ops ivs T (f+1) L σ w:=
 LA i D hi hg (fun c e=>by cases e) (fun w hw=>by simp only[execOp,hx,Instr.loadAt,Instr.sureAddr,Sem.run_bind,Sem.run_pure,Result.andThen_ok,Fg (P:=P) h1 hw hv]) hs h
theorem XM [Q4] {ix:Operand} {ok:Bool} {key:A} {zv:Value} (i:Nat) (D:List Nat) (H:Q0 w l) (hi:ops[i]? = some ⟨d,.lookup t x ix ok,u,p,af,g⟩) (hg:Q9 ops σ ⟨d,.lookup t x ix ok,u,p,af,g⟩ true) (hx:ev σ x = .map (some b)) (hk:ev σ ix=ek key) (TK:GQ P kt ek) [hM:Yc P t kt et] [hz:Qy P et zv] [ha:Ue ek vv b m l]
  (hs:YU n ops (ivs.map (·.1)) L i D=true) (h:Any P n r ops ((D,fun w=>mp ek vv b m (hp w))::ivs) T f (L.setIfInBounds i true) (put σ d (if ok then .tuple #[Ro zv vv (Q8 m key),.bool (Q8 m key).isSome] else Ro zv vv (Q8 m key))) w):Any P n r ops ivs T (f+1) L σ w:=
 B4 i D hi ⟨_,hi,fun c e=>(by cases e),.inl ⟨hg,fun w hw=>by simp only[execOp,hx,hk,Sem.run_bind];rw[LL hM TK hz hw key ok];rfl⟩⟩ hs h
end
end Go.SL
namespace Go.SL
open List
section
variable {P:Program} {n:Nat} {r:Option Nat} {ops:Array Oper} {Q:Y6} {ms:List Nat} {σ:QX} {w:World} {rest:List Oper} {o:Oper} {K:QX→World→Prop} {l l':List Q2}
variable {ivs:List (List Nat×(World→Prop))} {T:QX→World→Prop} {f:Nat} {L:Array Bool}
variable {u t:TypeId} {p:String} {af:Array Edge} {g:Option (Nat×Bool)} {d:Option Tmp} {x y z:Operand}
theorem Le {e size bytes b o len cap:Nat} {q:IntKind} {i:Int} (hT:VB P t e size bytes) (h0:0≤i) (h1:i < len) :
  (Instr.indexAt t (.slice (some ⟨b,o,none⟩) len cap) (.int q i)).run P w = .ok (.pointer (some ⟨b,o+i.toNat*size,none⟩)) w:=by
 have hs:(sizeOf e).run P w = .ok size w:=by
  obtain⟨k,hk,e2⟩:=Option.map_eq_some_iff.1 hT.info;simp only[Prod.mk.injEq] at e2;exact Zu (by rw[hk];simp[e2.1])
 unfold Instr.indexAt;simp only[asIntOf,Sem.run_bind,Sem.run_pure,Result.andThen_ok,Vn hT.und];simp[h0,h1,hs,ZV]
theorem Gq {e size bytes b o len cap:Nat} {q:IntKind} {i:Int} {ix:Operand} [hT:VB P t e size bytes] (hx:ev σ x = .slice (some ⟨b,o,none⟩) len cap) (hi:ev σ ix = .int q i) (h0:0≤i) (h1:i < len) (hd:Qf n d=true)
  (k:K (put σ d (.pointer (some ⟨b,o+i.toNat*size,none⟩))) w):St P n r ⟨d,.indexAddr t x ix,u,p,af,g⟩ σ w K:=
 V3 hd (fun c e=>by cases e) (by simp only[execOp,hx,hi,Sem.run_bind,Le hT h0 h1,Result.andThen_ok,Sem.run_pure]) k
theorem Ko {e size bytes b o len cap:Nat} {q:IntKind} {i:Int} {ix:Operand} (j:Nat) (hj:ops[j]? = some ⟨d,.indexAddr t x ix,u,p,af,g⟩) (hg:Q9 ops σ ⟨d,.indexAddr t x ix,u,p,af,g⟩ true) [hT:VB P t e size bytes] (hx:ev σ x = .slice (some ⟨b,o,none⟩) len cap) (hi:ev σ ix = .int q i) (h0:0≤i) (h1:i < len)
  (hs:YU n ops (ivs.map (·.1)) L j []=true) (h:Any P n r ops ivs T f (L.setIfInBounds j true) (put σ d (.pointer (some ⟨b,o+i.toNat*size,none⟩))) w):Any P n r ops ivs T (f+1) L σ w:=
 Gp j hj hg (fun c e=>by cases e) (fun w=>by simp only[execOp,hx,hi,Sem.run_bind,Le hT h0 h1,Result.andThen_ok,Sem.run_pure]) hs h
theorem Lf {e size bytes len cap:Nat} {a:Option Addr} (hT:VB P t e size bytes) (ty:TypeId):(Builtin.len_ #[t] ty #[.slice a len cap]).run P w = .ok (.int .i64 len) w:=by
 unfold Builtin.len_;simp only[Sem.run_bind,Vn hT.und,Result.andThen_ok,Sem.run_pure,getElem?_toArray,getElem?_cons_zero,goInt]
theorem ZY {e size bytes len cap:Nat} {a:Option Addr} [hT:VB P t e size bytes] (hx:ev σ x = .slice a len cap) (hd:Qf n d=true) (k:K (put σ d (.int .i64 len)) w) :
  St P n r ⟨d,.call { callee := .builtin .len,args:=#[x],argTypes:=#[t] },u,p,af,g⟩ σ w K:=by
 refine V3 (v := .int .i64 len) (w':=w) hd (fun c e=>by cases e) ?_ k;simp[execOp,resolve,invoke,builtin,hx,Lf (P:=P) (w:=w) hT u]
theorem Kp {e size bytes len cap:Nat} {a:Option Addr} (j:Nat) (hj:ops[j]? = some ⟨d,.call { callee := .builtin .len,args:=#[x],argTypes:=#[t] },u,p,af,g⟩) (hg:Q9 ops σ ⟨d,.call { callee := .builtin .len,args:=#[x],argTypes:=#[t] },u,p,af,g⟩ true) [hT:VB P t e size bytes] (hx:ev σ x = .slice a len cap)
  (hs:YU n ops (ivs.map (·.1)) L j []=true) (h:Any P n r ops ivs T f (L.setIfInBounds j true) (put σ d (.int .i64 len)) w):Any P n r ops ivs T (f+1) L σ w:=
 Gp (v := .int .i64 len) j hj hg (fun c e=>by cases e) (fun w=>by simp[execOp,resolve,invoke,builtin,hx,Lf (P:=P) (w:=w) hT u]) hs h
def QC (E k:Nat) (v:Value) (c:List Value):Q2:=fun h=>
 (v = .slice none 0 0∧c=[])∨∃ b len cap spare,v = .slice (some ⟨b,0,none⟩) len cap∧h b=some (row E (c++spare))∧c.length=len*k∧(len≤cap∧cap≤9223372036854775807)∧(cap - len)*k≤spare.length
theorem DQ (v:Value):v.cells.size=(Qt v).length:=by rw[K4];simp
theorem GV [Q4] {E k:Nat} {v:Value} {c:List Value} (H:Q0 w (QC E k v c::l)) :
  (v = .slice none 0 0∧c=[]∧Q0 w l)∨∃ b len cap spare,v = .slice (some ⟨b,0,none⟩) len cap∧c.length=len*k∧(len≤cap∧cap≤9223372036854775807)∧(cap - len)*k≤spare.length∧Q0 w (pts b (row E (c++spare))::l):=by
 obtain⟨⟨f,g,a,b,d,x,y⟩,ok⟩:=H
 rcases x with ⟨e1,e2⟩|⟨bb,len,cap,spare,e1,e2,e3,e4,e5⟩
 ·exact .inl ⟨e1,e2,Wi b y,ok⟩
 ·exact .inr ⟨bb,len,cap,spare,e1,e3,e4,e5,⟨f,g,a,b,d,e2,y⟩,ok⟩
theorem Yn [Q4] {E k:Nat} (H:Q0 w l):Q0 w (QC E k (.slice none 0 0) []::l):=
 ⟨⟨fun _=>none,hp w,fun _ _ e=>(by cases e),Vt.rfl' _,fun _ _ _ e=>(by cases e),.inl ⟨rfl,rfl⟩,H.1⟩,H.2⟩
theorem ZZ [Q4] {E k b len cap:Nat} {c spare:List Value} (h1:c.length=len*k) (h2:len≤cap∧cap≤9223372036854775807) (h3:(cap - len)*k≤spare.length) (H:Q0 w (pts b (row E (c++spare))::l)):Q0 w (QC E k (.slice (some ⟨b,0,none⟩) len cap) c::l):=
 H.head fun h e => .inr ⟨b,len,cap,spare,rfl,e,h1,h2,h3⟩
theorem Pz [Q4] {e size bytes:Nat} {zv:Value} (hT:VB P t e size bytes) (hz:Qy P e zv) (hzl:(Qt zv).length=size) (hsz:0 < size) (hby:0 < bytes) {s:Value} {cs new:List Value} {m c:Nat} {a:Addr} {l:List Q2} (H:Q0 w (QC e size s cs::l))
  (ty:TypeId) (hm:0 < m) (hnl:new.length=m*size) (hnews:∀ j v,new[j]? = some v→w.cell? (a.add j)=some v) (h1:∀ v∈new,v.oneCell'=true)
  (hb:(cs.length+new.length)*bytes≤140737488355328) :
  ∃ v' w',(Builtin.append_ #[t,t] ty #[s,.slice (some a) m c]).run P w = .ok v' w'∧Q0 w' (QC e size v' (cs++new)::l):=by
 obtain⟨i,hi,e2⟩:=Option.map_eq_some_iff.1 hT.info;simp only[Prod.mk.injEq] at e2;obtain⟨i1,i2⟩:=e2;obtain⟨i',hi',hz'⟩:=Option.map_eq_some_iff.1 hz.zero;have:i'=i:=by rw[hi] at hi';cases hi';rfl
 subst this;have hzc:zv.cells.size=size:=by rw[DQ,hzl]
 have mb:∀ k,k≤k*size:=fun k=>Nat.le_mul_of_pos_right k hsz;have bb:∀ k,k≤k*bytes:=fun k=>Nat.le_mul_of_pos_right k hby;have hnb:m*bytes≤new.length*bytes:=Nat.mul_le_mul_right _ (by rw[hnl];exact mb m);have hspl:(cs.length+new.length)*bytes=cs.length*bytes+new.length*bytes:=Nat.add_mul _ _ _
 rcases GV H with ⟨rfl,rfl,H2⟩|⟨b,len,cap,spare,rfl,e3,e4,e5,H2⟩
 ·have hr:=run_append_nil (P:=P) w t ty e i' zv hT.und hi hz' a m c new (by rw[i1];exact hnl) hnews hm (by have:=bb m;omega) (by rw[i2];omega);refine⟨_,_,hr,?_⟩;have hg:m≤grownCap w m 0 e∧grownCap w m 0 e≤9223372036854775807:=⟨grownCap_ge w m 0 e,grownCap_le_maxLen w m 0 e (by have:=bb m;unfold maxLen;omega)⟩;refine ZZ (spare:=(Builtin.zeroCells zv.cells (grownCap w m 0 e - m)).toList) (by simpa using hnl) hg (by simp[size_zeroCells,hzc]) ?_;have H':Q0 w.drew l:=H2.heap rfl;have:=H'.new (.cells (new.toArray++Builtin.zeroCells zv.cells (grownCap w m 0 e - m)) e (0,0));refine this.head fun h x=>?_;have e:new.toArray++Builtin.zeroCells zv.cells (grownCap w m 0 e - m)=([]++new++(Builtin.zeroCells zv.cells (grownCap w m 0 e - m)).toList).toArray:=by apply Array.ext';simp
  rw[e] at x;exact x
 ·have hbk:=H2.pts;have hlen:len*bytes≤cs.length*bytes:=Nat.mul_le_mul_right _ (by rw[e3];exact mb len);by_cases hroom:len+m≤cap
  ·have hsp:m*size≤spare.length:=Nat.le_trans (Nat.mul_le_mul_right _ (by omega)) e5
   have hr:=run_append_room (P:=P) w t ty e i' hT.und hi b len cap (cs++spare).toArray hbk a m c new (by rw[i1];exact hnl) hnews h1 hroom (by
    simp only[size_toArray,length_append,i1,e3,hnl];omega)
   refine⟨_,_,hr,?_⟩;refine ZZ (spare:=spare.drop new.length) (by simp[e3,hnl,Nat.add_mul]) ⟨hroom,e4.2⟩ ?_ ?_
   ·have e6:(cap - (len+m))*size=(cap - len)*size - m*size:=by rw[← Nat.sub_mul,Nat.sub_sub]
    rw[length_drop,hnl,e6];omega
   ·have hh:=setRow_heap w b (cs++spare).toArray ((cs++spare).toArray.toList.take (len*i'.size)++new++(cs++spare).toArray.toList.drop (len*i'.size+new.length)).toArray e _ hbk;refine(H2.set hh (fun k hk=>setRow_other w b k _ hk)).head fun h x=>?_
    have e:(cs++spare).toArray.toList.take (len*i'.size)++new++(cs++spare).toArray.toList.drop (len*i'.size+new.length)=cs++new++spare.drop new.length:=by
     rw[i1,← e3];show (cs++spare).take cs.length++new++(cs++spare).drop (cs.length+new.length)=_;rw[take_left,← drop_drop,drop_left]
    rw[e] at x;exact x
  ·have holds:∀ j u,cs[j]? = some u→w.cell? ((⟨b,0,none⟩:Addr).add j)=some u:=fun j u hj=>by
    rw[ZV];refine Zj hbk ?_;rw[Nat.zero_add,getElem?_append_left ((List.getElem?_eq_some_iff.1 hj).1)];exact hj
   have hadd:(len+m)*bytes=len*bytes+m*bytes:=Nat.add_mul _ _ _
   have hr:=run_append_grow (P:=P) w t ty e i' zv hT.und hi hz' ⟨b,0,none⟩ len cap cs (by rw[i1];exact e3) holds a m c new (by rw[i1];exact hnl) hnews (by omega) (by have:=bb (len+m);omega)
    (growslice_fits (by omega) (by rw[i2];omega))
   refine⟨_,_,hr,?_⟩;have hg:len+m≤grownCap w (len+m) cap e∧grownCap w (len+m) cap e≤9223372036854775807:=⟨grownCap_ge w (len+m) cap e,grownCap_le_maxLen w (len+m) cap e (by have:=bb (len+m);unfold maxLen;omega)⟩;refine ZZ (spare:=(Builtin.zeroCells zv.cells (grownCap w (len+m) cap e - (len+m))).toList) (by simp[e3,hnl,Nat.add_mul]) hg (by simp[size_zeroCells,hzc]) ?_;have H':Q0 w.drew l:=H2.drop.heap rfl;have:=H'.new (.cells (cs.toArray++new.toArray++Builtin.zeroCells zv.cells (grownCap w (len+m) cap e - (len+m))) e (0,0));refine this.head fun h x=>?_;have e:cs.toArray++new.toArray++Builtin.zeroCells zv.cells (grownCap w (len+m) cap e - (len+m))=(cs++new++(Builtin.zeroCells zv.cells (grownCap w (len+m) cap e - (len+m))).toList).toArray:=by apply Array.ext';simp
   rw[e] at x;exact x
theorem YF [Q4] {e size bytes:Nat} {zv:Value} [hT:VB P t e size bytes] [hz:Qy P e zv] {s:Value} {cs new c2:List Value} {m cap b o E:Nat} {fz:Nat×Nat} (H:Q0 w (QC e size s cs::l))
  (hx:ev σ x=s) (hy:ev σ y = .slice (some ⟨b,o,none⟩) m cap) [ha:At b (.cells c2.toArray E fz) l] (hn:QZ c2 o (m*size) new) (h1:new.all (·.oneCell')=true) (hm:0 < m)
  (hb:(cs.length+new.length)*bytes≤140737488355328) (hd:Qf n d=true) (hq:(decide ((Qt zv).length=size) && decide (0 < size) && decide (0 < bytes))=true)
  (k:∀ v' w',Q0 w' (QC e size v' (cs++new)::l)→K (put σ d v') w'):St P n r ⟨d,.call { callee := .builtin .append,args:=#[x,y],argTypes:=#[t,t] },u,p,af,g⟩ σ w K:=by
 simp only[Bool.and_eq_true,decide_eq_true_eq] at hq;have hbk:w.heap[b]? = some (.cells c2.toArray E fz):=ha.get _ H.drop.1;obtain⟨v',w',hr,H'⟩:=Pz (w:=w) (c:=cap) (a:=⟨b,o,none⟩) (m:=m) hT hz hq.1.1 hq.1.2 hq.2 H u hm hn.len (fun j v hj=>by rw[ZV];exact Zj hbk (hn.get j v hj)) (all_eq_true.1 h1) hb;refine V3 (v:=v') (w':=w') hd (fun c e=>by cases e) ?_ (k v' w' H');simp[execOp,resolve,invoke,builtin,hx,hy,hr]
def Wp:List Value→Option (List Value)
 | []=>some []
 | a::l=>match fo a,Wp l with
  | some b,some m=>some (b::m)
  | _,_=>none
theorem Lg:∀ {l m:List Value},Wp l=some m→l=m
 | [],m,h=>by simp only[Wp,Option.some.injEq] at h;exact h
 | a::l,m,h=>by
  simp only[Wp] at h;split at h
  ·rename_i b m' h1 h2;cases h;rw[Wj h1,Lg h2]
  ·cases h
def Kq (pl:Nat→Option (Nat×Nat)) (c:List Value):List (Nat×Value)→Option (List Value)
 | []=>some c
 | (i,v)::r=>match pl i with
  | none=>none
  | some (off,size)=>if Nat.beq (Qt v).length size && Nat.ble (off+size) c.length then Kq pl (wr c off (Qt v)) r else none
theorem Lh:∀ (vs:List Value) (c:List Value) (o j:Nat),(vs.zipIdx j).foldl (fun (cs:Array Value) (p:Value×Nat)=>cs.setIfInBounds (o+p.2) p.1) c.toArray=(wr c (o+j) vs).toArray
 | [],c,o,j=>rfl
 | v::vs,c,o,j=>by
  simp only[zipIdx_cons,foldl_cons,setIfInBounds_toArray];rw[Lh vs _ o (j+1)];rfl
def Wq (pl:Nat→Option (Nat×Nat)) (c:List Value) (ps:List (Nat×Value)):Option (List Value):=(Kq pl c ps).bind Wp
theorem DV {pl:Nat→Option (Nat×Nat)} {c c':List Value} {ps:List (Nat×Value)} (h:Wq pl c ps=some c'):Kq pl c ps=some c':=by
 unfold Wq at h;cases hf:Kq pl c ps with
 | none=>rw[hf] at h;cases h
 | some m=>
  rw[hf] at h;rw[Lg (show Wp m=some c' from h)]
theorem DY {pl:Nat→Option (Nat×Nat)}:∀ (ps:List (Nat×Value)) (c c':List Value),Kq pl c ps=some c'→Instr.fill pl c.toArray ps=some c'.toArray
 | [],c,c',h=>by simp only[Kq,Option.some.injEq] at h;subst h;rfl
 | (i,v)::r,c,c',h=>by
  simp only[Kq] at h;unfold Instr.fill;cases hp:pl i with
  | none=>rw[hp] at h;cases h
  | some q=>
   obtain⟨off,size⟩:=q;rw[hp] at h;simp only at h ⊢;split at h
   ·rename_i hc;simp only[Bool.and_eq_true,Nat.ble_eq] at hc;have e1:v.cells.size=size:=by rw[DQ];exact Nat.eq_of_beq_eq_true hc.1
    rw[if_neg (by simp[e1];omega)];have e2:=Lh (Qt v) c off 0;rw[Nat.add_zero] at e2
    have e3:v.cells.zipIdx.foldl (fun (cs:Array Value) (p:Value×Nat)=>cs.setIfInBounds (off+p.2) p.1) c.toArray=(wr c off (Qt v)).toArray:=by
     rw[← e2,K4,← Array.foldl_toList,Array.toList_zipIdx]
    have:=DY r _ _ h;rw[← e3] at this;exact this
   ·cases h
class YH (P:Program) (t:TypeId) (places:outParam (List (Nat×Nat))):Prop where
 und:∃ fs,P.underlying t=some (.struct fs)∧fs.toList.mapM (fun f=>(P.info? f.type).map fun i=>(f.offset,i.size))=some places
theorem Li {places:List (Nat×Nat)} {zv:Value} (hB:YH P t places) (hz:Qy P t zv) (ps:List (Nat×Value)) {c:List Value} (hf:Kq (places[·]?) (Qt zv) ps=some c):(Instr.build t ps.toArray).run P w = .ok (.agg c.toArray) w:=by
 obtain⟨fs,h1,h2⟩:=hB.und;obtain⟨it,h3,h4⟩:=Option.map_eq_some_iff.1 hz.zero;refine run_build w t _ _ ?_;unfold Program.built;simp only[h1,h3,h4,h2,K4];have:=DY ps _ _ hf;simpa using this
theorem Ug {places:List (Nat×Nat)} {zv:Value} {xs:List (Nat×Operand)} {c:List Value} [hB:YH P t places] [hz:Qy P t zv] (hf':Wq (places[·]?) (Qt zv) (xs.map fun q=>(q.1,ev σ q.2))=some c) (hd:Qf n d=true)
  (k:K (put σ d (.agg c.toArray)) w):St P n r ⟨d,.build t xs.toArray,u,p,af,g⟩ σ w K:=by
 have hf:=DV hf';refine V3 (v := .agg c.toArray) (w':=w) hd (fun c e=>by cases e) ?_ k;have:=Li (w:=w) hB hz _ hf;simp only[execOp,Sem.run_bind];have e:(xs.toArray.map fun x=>(x.1,ev σ x.2))=(xs.map fun q=>(q.1,ev σ q.2)).toArray:=by simp
 rw[e,this];rfl
def Vx (z:List Value):Nat→List Value
 | 0=>[]
 | k+1=>z++Vx z k
theorem Fr (z:List Value):∀ k,(Vx z k).length=k*z.length
 | 0=>by simp[Vx]
 | k+1=>by simp[Vx,Fr z k,Nat.succ_mul];omega
theorem Lj (z:List Value):∀ (k i:Nat),i < k*z.length→(Vx z k)[i]? = z[i % z.length]?
 | 0,i,h=>by simp at h
 | k+1,i,h=>by
  simp only[Vx];rw[Nat.succ_mul] at h;by_cases hi:i < z.length
  ·rw[getElem?_append_left hi,Nat.mod_eq_of_lt hi]
  ·rw[getElem?_append_right (by omega),Lj z k (i - z.length) (by omega)];congr 1;rw[Nat.mod_eq_sub_mod (by omega:z.length≤i)]
theorem DZ (z:List Value) (k:Nat):(Array.range (k*z.length)).map (fun i=>z.toArray[i % z.toArray.size]!)=(Vx z k).toArray:=by
  apply Array.ext';apply ext_getElem?;intro i;by_cases hi:i < k*z.length
  · have hz : 0 < z.length := by rcases Nat.eq_zero_or_pos z.length with h | h; · rw [h] at hi; omega
                                 · exact h
    have hm:=Nat.mod_lt i hz;simp only[Array.toList_map,getElem?_map,Array.toList_range,getElem?_range hi,Option.map_some,Lj z k i hi,size_toArray];simp[hm]
  · have:=Fr z k;rw[getElem?_eq_none (by simp;omega),getElem?_eq_none (by show (Vx z k).length≤i;omega)]
theorem Kr [Q4] {e size bytes len:Nat} {zv:Value} {xs:List (Nat×Operand)} {c:List Value} (H:Q0 w l) [hT:VB P t e size bytes] [hz:Qy P e zv]
  (hf':Wq (fun i=>some (i*size,size)) (Vx (Qt zv) len) (xs.map fun q=>(q.1,ev σ q.2))=some c) (hq:(decide ((Qt zv).length=size) && decide (0 < len*size) && decide (len*size≤16777216))=true) (hd:Qf n d=true)
  (k:∀ b w',Q0 w' (pts b (row e c)::l)→K (put σ d (.slice (some ⟨b,0,none⟩) len len)) w'):St P n r ⟨d,.buildSlice t len xs.toArray,u,p,af,g⟩ σ w K:=by
 have hf:=DV hf';simp only[Bool.and_eq_true,decide_eq_true_eq] at hq;obtain⟨i,hi,e2⟩:=Option.map_eq_some_iff.1 hT.info;simp only[Prod.mk.injEq] at e2;obtain⟨i1,i2⟩:=e2;obtain⟨i',hi',hz'⟩:=Option.map_eq_some_iff.1 hz.zero;have:i'=i:=by rw[hi] at hi';cases hi';rfl
 subst this
 have hr:=run_buildSlice (P:=P) w t e len (xs.map fun q=>(q.1,ev σ q.2)).toArray c.toArray i' zv hT.und hi hz' (by rw[i1];omega) (by rw[i1];omega) (by
  have:=DY _ _ _ hf;rw[← DZ,hq.1.1] at this;rw[i1,K4];exact this)
 refine V3 (v := .slice (some ⟨w.heap.size,0,none⟩) len len) (w':=w.alloc (.cells c.toArray e)) hd (fun c e=>by cases e) ?_ (k _ _ (H.new (row e c)));simp only[execOp,Sem.run_bind];have e:(xs.toArray.map fun x=>(x.1,ev σ x.2))=(xs.map fun q=>(q.1,ev σ q.2)).toArray:=by simp
 rw[e,hr];rfl
theorem Uh [Q4] {E k b len:Nat} {c:List Value} (h1:c.length=len*k) (H:Q0 w (pts b (row E c)::l)) (h2:len≤9223372036854775807:=by first|decide|omega):Q0 w (QC E k (.slice (some ⟨b,0,none⟩) len len) c::l):=
 ZZ (spare:=[]) h1 ⟨Nat.le_refl _,h2⟩ (by simp) (by simpa using H)
theorem Wr [Q4] {id:Nat} {o:List Oper} (H:Q0 w l) (hm:P.follows .mixedOrders=true)
  (h:∀ w',Q0 w' l→Any P n r o.toArray [] (fun σ w=>Q .normal ms σ w) o.length (Array.replicate o.length false) σ w'):C P n r (.region id o.toArray true) Q ms σ w:=
 LY hm (h _ (H.heap rfl))
theorem Lk [Q4] {E:TypeId} {v:Value} (H:Q0 w l) (hx:fo (ev σ x)=some v) (ho:v.oneCell'=true) (hd:Qf n d=true)
  (k:∀ b w',Q0 w' (pts b (row E [v])::l)→K (put σ d (.pointer (some ⟨b,0,none⟩))) w'):St P n r ⟨d,.box E x,u,p,af,g⟩ σ w K:=
 LV H (Wj hx) hd (by
  have hc:Qt v=[v]:=by cases v <;> first|rfl|(simp[Value.oneCell'] at ho)
  rw[hc];exact k)
theorem Ws [Q4] {E:TypeId} {c:List Value} (H:Q0 w l) (hx:ev σ x = .agg c.toArray) (hd:Qf n d=true)
  (k:∀ b w',Q0 w' (pts b (row E c)::l)→K (put σ d (.pointer (some ⟨b,0,none⟩))) w'):St P n r ⟨d,.box E x,u,p,af,g⟩ σ w K:=
 LV H hx hd (by
  have hc:Qt (.agg c.toArray)=c:=by simp[Qt]
  rw[hc];exact k)
def sel {α:Type}:List Nat→Nat→List α→List α
 | [],d,l=>l.drop d
 | i::is,d,l=>match pull i l with
  | []=>[]
  | b::r=>b::sel is d r
theorem Fs:∀ (is:List Nat) (d:Nat) {l:List Q2} {h:Hp},VK l h→VK (sel is d l) h
 | [],0,l,h,s=>s
 | [],d+1,[],h,s=>s
 | [],d+1,_::l,h,s=>Fs [] d (Rh s)
 | i::is,d,l,h,s=>by
  have s':=FT (Fa i l) s;simp only[sel];cases hp:pull i l with
  | nil=>exact trivial
  | cons b r=>rw[hp] at s';exact Cx (fun _=>Fs is d) s'
theorem Q0.sel [Q4] (is:List Nat) (d:Nat) (H:Q0 w l):Q0 w (SL.sel is d l):=⟨Fs is d H.1,H.2⟩
theorem S0 {op:BinOp} {yt:TypeId} {a b c e:Int} (i:Nat) (hi:ops[i]? = some ⟨d,.binOp op t x y yt,u,p,af,g⟩) (hg:Q9 ops σ ⟨d,.binOp op t x y yt,u,p,af,g⟩ true) [h:Kn P t] (hx:ev σ x = .agg #[.int .i64 a,.int .i64 b]) (hy:ev σ y = .agg #[.int .i64 c,.int .i64 e]) (ho:op = .eql∨op = .neq)
  (hs:YU n ops (ivs.map (·.1)) L i []=true) (k:Any P n r ops ivs T f (L.setIfInBounds i true) (put σ d (.bool (if Y8 op then decide ((a,b)=(c,e)) else !decide ((a,b)=(c,e))))) w):Any P n r ops ivs T (f+1) L σ w:=
 Gp i hi hg (fun c e=>by cases e) (fun w=>by simp only[execOp,hx,hy,Sem.run_bind];rw[← Sem.run_bind,Lb h op a b c e x y ho];rfl) hs k
theorem S3 {op:BinOp} {yt:TypeId} {a:Option Addr} (i:Nat) (hi:ops[i]? = some ⟨d,.binOp op t x y yt,u,p,af,g⟩) (hg:Q9 ops σ ⟨d,.binOp op t x y yt,u,p,af,g⟩ true) [h:Gn P t] (hx:ev σ x = .pointer a) (hy:ev σ y = .pointer none) (ho:op = .eql∨op = .neq)
  (hs:YU n ops (ivs.map (·.1)) L i []=true) (k:Any P n r ops ivs T f (L.setIfInBounds i true) (put σ d (.bool (if Y8 op then a.isNone else a.isSome))) w):Any P n r ops ivs T (f+1) L σ w:=
 Gp i hi hg (fun c e=>by cases e) (fun w=>by simp only[execOp,hx,hy,Sem.run_bind];rw[← Sem.run_bind,La h op a x y yt ho];rfl) hs k
theorem GY {places:List (Nat×Nat)} {zv:Value} {xs:List (Nat×Operand)} {c:List Value} (i:Nat) (hi:ops[i]? = some ⟨d,.build t xs.toArray,u,p,af,g⟩) (hg:Q9 ops σ ⟨d,.build t xs.toArray,u,p,af,g⟩ true) [hB:YH P t places] [hz:Qy P t zv] (hf':Wq (places[·]?) (Qt zv) (xs.map fun q=>(q.1,ev σ q.2))=some c)
  (hs:YU n ops (ivs.map (·.1)) L i []=true) (k:Any P n r ops ivs T f (L.setIfInBounds i true) (put σ d (.agg c.toArray)) w):Any P n r ops ivs T (f+1) L σ w:=
 Gp i hi hg (fun c e=>by cases e) (fun w=>by
  have hf:=DV hf';have:=Li (w:=w) hB hz _ hf;simp only[execOp,Sem.run_bind];have e:(xs.toArray.map fun x=>(x.1,ev σ x.2))=(xs.map fun q=>(q.1,ev σ q.2)).toArray:=by simp
  rw[e,this];rfl) hs k
theorem QD [Q4] {E k m:Nat} {v:Value} {c:List Value} (H:Q0 w (QC E k v c::l)) (hc:c.length=m*k) (k0:0 < k):∃ a cap,v = .slice a m cap:=by
 rcases GV H with ⟨rfl,h0,_⟩|⟨b,len,cap,spare,rfl,e3,_⟩
 ·rw[h0] at hc
  have:m=0:=by
   rcases Nat.mul_eq_zero.1 hc.symm with h|h
   ·exact h
   ·omega
  subst this;exact⟨none,0,rfl⟩
 ·rw[e3] at hc;have:=Nat.eq_of_mul_eq_mul_right k0 hc;subst this;exact⟨_,_,rfl⟩
theorem Qw [Q4] {E k m cap:Nat} {a:Option Addr} {c:List Value} (H:Q0 w (QC E k (.slice a m cap) c::l)) (h0:0 < m) :
  ∃ b spare,a=some ⟨b,0,none⟩∧Q0 w (pts b (row E (c++spare))::l)∧∀ w' l',Q0 w' (pts b (row E (c++spare))::l')→Q0 w' (QC E k (.slice a m cap) c::l'):=by
 rcases GV H with ⟨h,_⟩|⟨b,len,cap',spare,h,e3,e4,e5,H2⟩
 ·injection h with h1 h2;omega
 ·injection h with h1 h2 h3
  subst h1 h2 h3;exact⟨b,spare,rfl,H2,fun w' l' H'=>ZZ e3 e4 e5 H'⟩
theorem Ll [Q4] {E:TypeId} {c:List Value} (H:Q0 w l) (hx:ev σ x = .agg c.toArray) (hd:Qf n d=true)
  (k:∀ b w',w'=w.alloc (row E c)→Q0 w' (pts b (row E c)::l)→K (put σ d (.pointer (some ⟨b,0,none⟩))) w'):St P n r ⟨d,.box E x,u,p,af,g⟩ σ w K:=by
 refine V3 (v := .pointer (some ⟨w.heap.size,0,none⟩)) (w':=w.alloc (row E c)) hd (fun c e=>by cases e) ?_ (k _ _ rfl (H.new _));simp only[execOp,hx,Instr.box,newVar,newRow,Sem.run_bind,run_newObj,Result.andThen_ok,Sem.run_pure];rfl
theorem S4 [Q4] {e size bytes len:Nat} {zv:Value} {xs:List (Nat×Operand)} {c:List Value} (H:Q0 w l) [hT:VB P t e size bytes] [hz:Qy P e zv]
  (hf':Wq (fun i=>some (i*size,size)) (Vx (Qt zv) len) (xs.map fun q=>(q.1,ev σ q.2))=some c) (hq:(decide ((Qt zv).length=size) && decide (0 < len*size) && decide (len*size≤16777216))=true) (hd:Qf n d=true)
  (k:∀ b w',w'=w.alloc (row e c)→Q0 w' (pts b (row e c)::l)→K (put σ d (.slice (some ⟨b,0,none⟩) len len)) w'):St P n r ⟨d,.buildSlice t len xs.toArray,u,p,af,g⟩ σ w K:=by
 have hf:=DV hf';simp only[Bool.and_eq_true,decide_eq_true_eq] at hq;obtain⟨i,hi,e2⟩:=Option.map_eq_some_iff.1 hT.info;simp only[Prod.mk.injEq] at e2;obtain⟨i1,i2⟩:=e2;obtain⟨i',hi',hz'⟩:=Option.map_eq_some_iff.1 hz.zero;have:i'=i:=by rw[hi] at hi';cases hi';rfl
 subst this
 have hr:=run_buildSlice (P:=P) w t e len (xs.map fun q=>(q.1,ev σ q.2)).toArray c.toArray i' zv hT.und hi hz' (by rw[i1];omega) (by rw[i1];omega) (by
  have:=DY _ _ _ hf;rw[← DZ,hq.1.1] at this;rw[i1,K4];exact this)
 refine V3 (v := .slice (some ⟨w.heap.size,0,none⟩) len len) (w':=w.alloc (.cells c.toArray e)) hd (fun c e=>by cases e) ?_ (k _ _ rfl (H.new (row e c)));simp only[execOp,Sem.run_bind];have e:(xs.toArray.map fun x=>(x.1,ev σ x.2))=(xs.map fun q=>(q.1,ev σ q.2)).toArray:=by simp
 rw[e,hr];rfl
theorem S5 [Q4] {id:Nat} {o:List Oper} (H:Q0 w l) (hm:P.follows .mixedOrders=true)
  (h:∀ w',w'=w.drew→Q0 w' l→Any P n r o.toArray [] (fun σ w=>Q .normal ms σ w) o.length (Array.replicate o.length false) σ w'):C P n r (.region id o.toArray true) Q ms σ w:=
 LY hm (h _ rfl (H.heap rfl))
theorem Q9.of {o:Oper} {j:Nat} {want b t:Bool} (h:o.guard=some (j,want)) (hg:gv ops σ j=some b) (ht:(b == want)=t):Q9 ops σ o t:=by
 unfold Q9;rw[h];exact⟨some b,hg,by rw[← ht];cases b <;> cases want <;> rfl⟩
theorem Q9.skip {o:Oper} {j:Nat} {want:Bool} (h:o.guard=some (j,want)) (hg:gv ops σ j=Option.none):Q9 ops σ o false:=by
 unfold Q9;rw[h];exact⟨Option.none,hg,rfl⟩
theorem QT {j:Nat} {want b:Bool} (h:o.guard=some (j,want)) (hg:gv ops σ j=some b) (ht:(b == want)=true) (k:St P n r o σ w (fun σ' w'=>Lp P n r ops Q rest ms σ' w')):Lp P n r ops Q (o::rest) ms σ w:=B3 (Q9.of h hg ht) k
theorem VZ {op:Op} {j:Nat} {want b:Bool} {v:Value} (hg:gv ops σ j=some b) (ht:(b == want)=true) (hv:pv σ op=some v) (hd:Qf n d=true) (k:Lp P n r ops Q rest ms (put σ d v) w):Lp P n r ops Q (⟨d,op,u,p,af,some (j,want)⟩::rest) ms σ w:=B3 (Q9.of rfl hg ht) (L8 (o:=⟨d,op,u,p,af,some (j,want)⟩) hv hd k)
theorem Qu {op:Op} {j:Nat} {want b:Bool} (hg:gv ops σ j=some b) (ht:(b == want)=false) (hd:Qf n d=true) (k:Lp P n r ops Q rest ms (put σ d undef) w):Lp P n r ops Q (⟨d,op,u,p,af,some (j,want)⟩::rest) ms σ w:=JS (Q9.of rfl hg ht) hd k
theorem UY {op:Op} {j:Nat} {want:Bool} (hg:gv ops σ j=none) (hd:Qf n d=true) (k:Lp P n r ops Q rest ms (put σ d undef) w):Lp P n r ops Q (⟨d,op,u,p,af,some (j,want)⟩::rest) ms σ w:=JS (Q9.skip rfl hg) hd k
end
end Go.SL
namespace Go.SL
open List
def LR (n l:Nat) (ps:List Tmp) (assign body:Code) (σ:QX) (D:Nat) (st:LoopState):Q2:=fun h=>
 ∃ fn tmps,tmps.size=n∧(∀ i,tmps.getD i undef=σ i)∧h l=some (.loop { state:=st,pending:=none,fn,tmps,params:=ps.toArray,assign,body,defers:=D })
def B8:QX→List Tmp→List Value→QX
 | σ,p::ps,a::as=>B8 (XD σ p a) ps as
 | σ,_,_=>σ
section
variable {P:Program} {n:Nat} {r:Option Nat} {Q:Y6} {ms:List Nat} {σ:QX} {w:World} {l:List Q2}
theorem DG [Q4] {m:Nat} {lb:Nat} {ps:List Tmp} {assign body:Code} {D:Nat} {st:LoopState} (H:Q0 w (LR m lb ps assign body σ D st::l)) :
  ∃ fn tmps,tmps.size=m∧(∀ i,tmps.getD i undef=σ i)∧Q0 w (pts lb (.loop { state:=st,pending:=none,fn,tmps,params:=ps.toArray,assign,body,defers:=D })::l):=by
 obtain⟨⟨f,g,a,b,d,⟨fn,tmps,h1,h2,h3⟩,y⟩,ok⟩:=H;exact⟨fn,tmps,h1,h2,⟨f,g,a,b,d,h3,y⟩,ok⟩
theorem Ft [Q4] {m:Nat} {lb:Nat} {ps:List Tmp} {assign body:Code} {D:Nat} {st:LoopState} {fn:FuncId} {tmps:Array Value} (h1:tmps.size=m) (h2:∀ i,tmps.getD i undef=σ i)
  (H:Q0 w (pts lb (.loop { state:=st,pending:=none,fn,tmps,params:=ps.toArray,assign,body,defers:=D })::l)):Q0 w (LR m lb ps assign body σ D st::l):=
 H.head fun h e=>⟨fn,tmps,h1,h2,e⟩
theorem Lm {m:Nat}:∀ (ps:List Tmp) (args:List Value) (σ:QX) (tmps:Array Value),(ps.all (fun p=>Nat.blt p m))=true→Rel m [] σ { tmps:=tmps,defers:=[] } →
  Rel m [] (B8 σ ps args) { tmps:=(ps.zip args).foldl (fun tmps x=>tmps.setIfInBounds x.1 x.2) tmps,defers:=[] }
 | [],args,σ,tmps,_,h=>by simpa [B8] using h
 | p::ps,[],σ,tmps,_,h=>by simpa [B8] using h
 | p::ps,a::args,σ,tmps,hp,h=>by
  simp only[all_cons,Bool.and_eq_true] at hp;have h1:=h.put (d:=some p) a (by simpa [Qf] using hp.1);exact Lm ps args _ _ hp.2 h1
theorem Ks [Q4] {m yl D:Nat} {ps:List Tmp} {args:List Value} {assign body:Code} {R:Value→World→Prop} (H:Q0 w (LR m yl ps assign body σ D .ready::l)) (hl:args.length=ps.length) (hp:(ps.all (fun p=>Nat.blt p m))=true)
  (h : C P m (some yl) assign (fun e ms σ1 w1 => e = .normal ∧ ∃ l1, Q0 w1 (LR m yl ps assign body σ D .ready :: l1) ∧ ∀ w2, Q0 w2 (LR m yl ps assign body σ D .busy :: l1) →
   C P m (some yl) body (fun e ms' σ2 w3=>e = .normal∧∃ l3,Q0 w3 (LR m yl ps assign body σ D .busy::l3)∧∀ w4,Q0 w4 (LR m yl ps assign body σ D .ready::l3)→R (.bool true) w4) ms σ1 w2) [] (B8 σ ps args) w) :
  Yields P yl args.toArray w R:=by
 obtain⟨fn,tmps,h1,h2,H1⟩:=DG H;have hb:=H1.pts;refine⟨_,_,_,_,run_yield hb (by simpa using hl),roundIn_of_wpIn (F:=Fence.wide) trivial ?_⟩;have ra:Rel m [] σ { tmps:=tmps,defers:=[] }:=⟨h1,rfl,h2⟩;have rb:=Lm ps args σ tmps hp ra
 have e0:((ps.toArray.zip args.toArray).foldl (fun tmps x=>tmps.setIfInBounds x.1 x.2) tmps)=(ps.zip args).foldl (fun tmps x=>tmps.setIfInBounds x.1 x.2) tmps:=by
  rw[← Array.foldl_toList];simp
 have hw:=h _ rb;rw[JL] at hw;show assign.wpIn (Fence.wide.inRound yl) 0 P _ { tmps:=(ps.toArray.zip args.toArray).foldl (fun tmps x=>tmps.setIfInBounds x.1 x.2) tmps,defers:=[] } w;rw[e0];refine wpIn_mono hw ?_;intro e a w1 q;cases e with
 | outgrown=>exact q.elim
 | ret=>obtain⟨_,_,_,q,_⟩:=q;cases q
 | exit id=>obtain⟨_,_,_,q,_⟩:=q;cases q
 | goto t=>obtain⟨_,_,_,q,_⟩:=q;cases q
 | panic c=>obtain⟨_,_,_,q,_⟩:=q;cases q
 | normal=>
  obtain⟨ms1,σ1,r1,_,l1,H1,k⟩:=q;obtain⟨fn',tmps',h1',h2',H2⟩:=DG H1;have hb1:=H2.pts;refine⟨_,run_beginRound hb1 rfl,?_⟩;have H3:Q0 _ (LR m yl ps assign body σ D .busy::l1):=Ft (fn:=fn') (tmps:=tmps') h1' h2' (H2.set (World.putObj_heap_same H2.fresh) (fun c hc=>World.putObj_heap_other hc));have hw2:=k _ H3 a r1;rw[JL] at hw2;refine wpIn_mono hw2 ?_;intro e a w3 q;cases e with
  | outgrown=>exact q.elim
  | ret=>obtain⟨_,_,_,q,_⟩:=q;cases q
  | exit id=>obtain⟨_,_,_,q,_⟩:=q;cases q
  | goto t=>obtain⟨_,_,_,q,_⟩:=q;cases q
  | panic c=>obtain⟨_,_,_,q,_⟩:=q;cases q
  | normal=>
   obtain⟨ms3,σ3,r3,_,l3,H4,k4⟩:=q;obtain⟨fn3,tmps3,h13,h23,H5⟩:=DG H4;refine⟨_,_,run_endRound none H5.pts,?_⟩;exact k4 _ (Ft (fn:=fn3) (tmps:=tmps3) h13 h23 (H5.set (World.putObj_heap_same H5.fresh) (fun c hc=>World.putObj_heap_other hc)))
theorem Kt [Q4] {g:Operand} {ps:List Tmp} {assign body:Code} {f:FuncId} {a b:List Value} (H:Q0 w l) (hg:ev σ g = .func (.func f) a.toArray b.toArray) [hB:QY P f]
  (k : ∀ yl D w1, Q0 w1 (LR n yl ps assign body σ D .ready :: pts D (.deferred (some [])) :: l) →
   Calls P f ((a++[Value.func (.yield yl) #[] #[]])++b).toArray w1 (ret fun _ w2=>∃ l2,Q0 w2 (LR n yl ps assign body σ D .ready::l2)∧∀ w3,Q0 w3 l2→Q .normal (D::ms) σ w3)) :
  C P n none (.rangeFunc g ps.toArray assign body) Q ms σ w:=by
 intro act ra;refine wpIn_rangeFunc ?_;intro fn _;have H1:=H.new (.deferred (some []));have H2:=H1.new (.loop { state := .ready,pending:=none,fn,tmps:=act.tmps,params:=ps.toArray,assign,body,defers:=w.heap.size });have hsz:({ w with heap:=w.heap.push (.deferred (some [])) }:World).heap.size=w.heap.size+1:=by simp
 rw[hsz] at H2;have H3:=Ft (m:=n) ra.size ra.val H2;have hc:=k _ _ _ H3
 refine⟨w.heap.size+1,[{ target := .collected w.heap.size,args:=#[] }],(w.alloc (.deferred (some []))).alloc (.loop { state := .ready,pending:=none,fn,tmps:=act.tmps,params:=ps.toArray,assign,body,defers:=w.heap.size }),
  { target := .fn (.func f) b.toArray,args:=(a++[Value.func (.yield (w.heap.size+1)) #[] #[]]).toArray },(w.alloc (.deferred (some []))).alloc (.loop { state := .ready,pending:=none,fn,tmps:=act.tmps,params:=ps.toArray,assign,body,defers:=w.heap.size }),f,
  ((a++[Value.func (.yield (w.heap.size+1)) #[] #[]])++b).toArray,(w.alloc (.deferred (some []))).alloc (.loop { state := .ready,pending:=none,fn,tmps:=act.tmps,params:=ps.toArray,assign,body,defers:=w.heap.size }),run_enterLoop_outer fn act.tmps ps.toArray assign body,?_,fun _ _=>trivial,?_,fun hs=>by simp[F] at hs,JT (r:=none) ?_⟩
 ·rw[ra.eval];simp only[rangeCall,resolve,hg,Deferred.ofValue,Sem.run_bind,Sem.run_pure,Result.andThen_ok];simp[ev]
 ·simp only[invoke];rw[Fi hB];simp
 ·refine hc.mono fun e w2 q=>?_;cases e with
  | panicked c=>exact q.elim
  | outgrown=>exact q.elim
  | returned v=>
   obtain⟨l2,H4,kq⟩:=q;obtain⟨fn3,tmps3,h13,h23,H5⟩:=DG H4;refine⟨none,_,run_endLoop H5.pts (by simp),?_⟩;have H6:=(H5.set (w':=w2.putObj (w.heap.size+1) (.loop { state := .exhausted,pending:=none,fn:=fn3,tmps:=tmps3,params:=ps.toArray,assign,body,defers:=w.heap.size })) (World.putObj_heap_same H5.fresh) (fun c hc=>World.putObj_heap_other hc)).drop;refine⟨w.heap.size::ms,σ,⟨ra.size,?_,ra.val⟩,kq _ H6⟩;show [({ target := .collected w.heap.size,args:=#[] }:Deferred)]++act.defers=_;rw[ra.defs];rfl
end
def YN {K V:Type} (ek:K→Value) (vv:V→Value) (v:Value) (m:List (K×V)):Q2:=fun h=>(v = .map none∧m=[])∨∃ b,v = .map (some b)∧mp ek vv b m h
def Gs {K V:Type} (ek:K→Value) (vv:V→Value) (v:Value) (m:List (K×V)) (bi:Nat) (ks:List K):Q2:=fun h=>
 (v = .map none∧m=[]∧ks=[]∧h bi=some (.mapIter none 0 #[] 0)) ∨
 ∃ (b:Nat) (es:Array MapEntry) (clock since:Nat) (seen:Array Nat),v = .map (some b)∧h b=some (.map es clock)∧Ym ek vv es clock m∧h bi=some (.mapIter (some b) since seen clock)∧since≤clock∧(∀ e∈es.toList,e.born < since) ∧
  ks.Nodup∧(∀ y∈ks,y∈m.map (·.1))∧(∀ e∈es.toList,∀ y,e.key=ek y→(y∈ks↔e.born∈seen))∧(∀ y,ks.getLast? = some y→∃ e∈es.toList,seen.back? = some e.born∧e.key=ek y)
theorem DU {α β:Type} {f:α→β}:∀ {l:List α},(l.map f).Nodup→∀ {a b:α},a∈l→b∈l→f a=f b→a=b
 | c::l,hn,a,b,ha,hb,e=>by
  simp only[map_cons,nodup_cons] at hn
  rcases mem_cons.1 ha with rfl|ha2 <;> rcases mem_cons.1 hb with rfl|hb2
  ·rfl
  ·exact absurd (by rw[e];exact mem_map_of_mem hb2) hn.1
  ·exact absurd (by rw[← e];exact mem_map_of_mem ha2) hn.1
  ·exact DU hn.2 ha2 hb2 e
theorem Ln {α β:Type} {f:α→β} (hf:∀ a b,f a=f b→a=b):∀ {l:List α},l.Nodup→(l.map f).Nodup
 | [],_=>by simp
 | c::l,hn=>by
  simp only[map_cons,nodup_cons] at hn ⊢;refine⟨fun hm=>?_,Ln hf hn.2⟩;obtain⟨d,hd,e⟩:=mem_map.1 hm;exact hn.1 (hf _ _ e▸hd)
section
variable {P:Program} {n:Nat} {r:Option Nat} {σ:QX} {w:World} {K':QX→World→Prop} {l:List Q2}
variable {K V:Type} [DecidableEq K] {ek:K→Value} {vv:V→Value} {m:List (K×V)} {t k e:TypeId}
variable {u ut:TypeId} {p:String} {af:Array Edge} {g:Option (Nat×Bool)} {d:Option Tmp} {x:Operand}
theorem Wt [Q4] {b:Nat} (H:Q0 w (mp ek vv b m::l)):Q0 w (YN ek vv (.map (some b)) m::l):=H.head fun h hm => .inr ⟨b,rfl,hm⟩
theorem Lo [Q4] (ek:K→Value) (vv:V→Value) (H:Q0 w l):Q0 w (YN ek vv (.map none) []::l):=⟨⟨fun _=>none,hp w,fun _ _ e=>(by cases e),Vt.rfl' _,fun _ _ _ e=>(by cases e),.inl ⟨rfl,rfl⟩,H.1⟩,H.2⟩
theorem DX [Q4] {v:Value} {bi:Nat} {ks:List K} (H:Q0 w (Gs ek vv v m bi ks::l)):Q0 w (YN ek vv v m::l):=H.head fun h hm=>by
 rcases hm with ⟨h1,h2,_⟩|⟨b,es,clock,since,seen,h1,h2,h3,_⟩
 ·exact .inl ⟨h1,h2⟩
 ·exact .inr ⟨b,h1,es,clock,h2,h3⟩
theorem B9 [Q4] {v:Value} (ek:K→Value) (vv:V→Value) {m:List (K×V)} (H:Q0 w (YN ek vv v m::l)) (hx:ev σ x=v) [hM:Yc P t k e] (hd:Qf n d=true)
  (kk:∀ bi w',Q0 w' (Gs ek vv v m bi []::l)→K' (put σ d (.pointer (some ⟨bi,0,none⟩))) w'):St P n r ⟨d,.range t x,u,p,af,g⟩ σ w K':=by
 obtain⟨⟨f,g',a,b',dd,hm,y⟩,okw⟩:=H
 rcases hm with ⟨rfl,rfl⟩|⟨b,rfl,es,clock,h2,h3⟩
 ·refine V3 (v := .pointer (some ⟨w.heap.size,0,none⟩)) (w':=w.alloc (.mapIter none 0 #[] 0)) hd (fun c e=>by cases e) ?_ (kk _ _ ?_)
  ·simp only[execOp,hx,Sem.run_bind,run_range_nilMap w t k e hM.und,Result.andThen_ok];rfl
  ·have H':Q0 w l:=⟨Wi b' y,okw⟩;exact(H'.new (.mapIter none 0 #[] 0)).head fun h e => .inl ⟨rfl,rfl,rfl,e⟩
 ·have hb:=a _ _ h2;refine V3 (v := .pointer (some ⟨w.heap.size,0,none⟩)) (w':=w.alloc (.mapIter (some b) clock #[] clock)) hd (fun c e=>by cases e) ?_ (kk _ _ ?_)
  ·simp only[execOp,hx,Sem.run_bind,run_range_map w t k e b es clock hM.und hb,Result.andThen_ok];rfl
  ·have hne:b≠w.heap.size:=by
    have:=(Array.getElem?_eq_some_iff.1 hb).1;omega
   have H':Q0 w (pts b (.map es clock)::l):=⟨⟨f,g',a,b',dd,h2,y⟩,okw⟩;have H2:=H'.new (.mapIter (some b) clock #[] clock);obtain⟨⟨f1,g1,a1,b1,d1,x1,f2,g2,a2,b2,d2,x2,y2⟩,ok2⟩:=H2;refine⟨⟨G9 f1 f2,g2,D0 a1 (a2.trans b1),b2.trans b1,D3 (d1.mono (Vt.rfl' _) b2) d2,?_,y2⟩,ok2⟩;refine .inr ⟨b,es,clock,clock,#[],rfl,Cz (d1.mono (Vt.rfl' _) a2) _ _ x2,h3,Cy _ _ x1,Nat.le_refl _,h3.born,by simp,by simp,by simp,by simp⟩
theorem S6 {ty:TypeId} {b bi since clock:Nat} {seen:Array Nat} {es:Array MapEntry} (hbi:w.heap[bi]? = some (.mapIter (some b) since seen clock)) (hb:w.heap[b]? = some (.map es clock)) (hold:∀ x∈es.toList,x.born < since) (hsc:since≤clock) :
  ((leftOf es seen).size=0∧∃ w',(Instr.next (.pointer (some ⟨bi,0,none⟩)) false ty).run P w = .ok (.tuple #[.bool false]) w'∧w'.heap=w.heap∧Zb w w') ∨
  ∃ e∈(leftOf es seen).toList,∃ w':World,(Instr.next (.pointer (some ⟨bi,0,none⟩)) false ty).run P w = .ok (.tuple #[.bool true,e.key,e.val]) w' ∧
   w'.heap[bi]? = some (.mapIter (some b) since (seen.push e.born) clock)∧(∀ c,c≠bi→w'.heap[c]? = w.heap[c]?)∧Zb w w':=by
 have hlt:bi < w.heap.size:=(Array.getElem?_eq_some_iff.1 hbi).1;simp only[Instr.next,getObj,Sem.run_bind,Sem.run,hbi,hb,Result.andThen,next_test_false seen es since clock hold hsc,Bool.false_eq_true,if_false];unfold leftOf;have hmem:∀ x∈(Array.filter (fun e => !seen.contains e.born) es).toList,x.born < since:=fun x hx=>hold x (by simp at hx ⊢;exact hx.1);generalize Array.filter (fun e => !seen.contains e.born) es=L at hmem ⊢;have e1:L.filter (fun x=>decide (x.born < since))=L:=Array.filter_eq_self.2 (fun x hx=>by simpa using hmem x (by simpa using hx))
 have e2:L.filter (fun x=>decide (x.born≥since))=#[]:=by
  rw[Array.filter_eq_empty_iff];intro x hx;have:=hmem x (by simpa using hx);simp;omega
 simp only[e1,e2,Array.append_empty];by_cases h0:L.size=0
 ·left;have:L=#[]:=Array.eq_empty_of_size_eq_zero h0;subst this;refine⟨rfl,w,?_,rfl,Zb.refl w⟩;simp[choose,Sem.run,Question.forced]
 ·right;have hne:L.isEmpty=false:=by simp[Array.isEmpty,h0]
  simp only[hne,Bool.false_eq_true,if_false,Array.empty_append,Array.size_map]
  have hch:∃ (j:Nat) (w1:World),j < L.size∧(w1.heap=w.heap∧Zb w w1)∧(choose (Question.mapNext L.size)).run P w = .ok j w1:=by
   by_cases hf:L.size≤1
   ·exact⟨0,w,by omega,⟨rfl,rfl,rfl⟩,by simp[choose,Sem.run,Question.forced,hf]⟩
   ·exact⟨_,w.drew,Nat.mod_lt _ (by omega),⟨rfl,rfl,rfl⟩,by
     simp only[choose,Sem.run,Question.forced,decide_eq_true_eq,hf,if_false,Question.cut];rfl⟩
  obtain⟨j,w1,hj,⟨hal,hsm⟩,hrun⟩:=hch;have hbi1:w1.heap[bi]? = some (.mapIter (some b) since seen clock):=by rw[hal];exact hbi
  refine⟨L[j],by simp,w1.putObj bi (.mapIter (some b) since (seen.push L[j].born) clock),?_,World.putObj_heap_same (by rw[hal];exact hlt),fun c hc=>by rw[World.putObj_heap_other hc,hal],hsm⟩;simp only[hrun,Array.getElem?_map,Array.getElem?_eq_getElem hj,Option.map_some,Sem.run_bind,Result.andThen]
  have hset:(setObj bi (.mapIter (some b) since (seen.push L[j].born) clock)).run P w1 = .ok () (w1.putObj bi (.mapIter (some b) since (seen.push L[j].born) clock)):=by
   simp[setObj,Sem.run,hbi1,World.putObj]
  simp only[hset];rfl
theorem BQ [Q4] {v:Value} {bi:Nat} {ks:List K} (H:Q0 w (Gs ek vv v m bi ks::l)) (hi:∀ a b,ek a=ek b→a=b) (hx:ev σ x = .pointer (some ⟨bi,0,none⟩)) (hd:Qf n d=true)
  (kend:ks.Perm (m.map (·.1))→∀ w',Q0 w' (Gs ek vv v m bi ks::l)→K' (put σ d (.tuple #[.bool false])) w')
  (kstep:∀ q∈m,q.1∉ks→ks.Nodup→(∀ y∈ks,y∈m.map (·.1))→∀ w',Q0 w' (Gs ek vv v m bi (ks++[q.1])::l)→K' (put σ d (.tuple #[.bool true,ek q.1,vv q.2])) w'):St P n r ⟨d,.next x false,u,p,af,g⟩ σ w K':=by
 obtain⟨⟨f,g',a,b',dd,hm,y⟩,okw⟩:=H
 rcases hm with ⟨rfl,rfl,rfl,h0⟩|⟨b,es,clock,since,seen,rfl,h1,h2,h3,h4,h5,h6,h7,h8,h9⟩
 ·have hb:w.heap[bi]? = some (.mapIter none 0 #[] 0):=a _ _ h0;refine V3 (v := .tuple #[.bool false]) (w':=w) hd (fun c e=>by cases e) ?_ (kend (by simp) w ⟨⟨f,g',a,b',dd,.inl ⟨rfl,rfl,rfl,h0⟩,y⟩,okw⟩);simp only[execOp,hx,Instr.next,getObj,Sem.run_bind,Sem.run,hb,Result.andThen];rfl
 ·have hb:w.heap[b]? = some (.map es clock):=a _ _ h1;have hbi:w.heap[bi]? = some (.mapIter (some b) since seen clock):=a _ _ h3;have bn:(es.toList.map (·.born)).Nodup:=h2.rise.imp fun h=>Nat.ne_of_lt h;have kn:(es.toList.map (·.key)).Nodup:=by rw[h2.keys];exact Ln hi h2.nodup
  rcases S6 (P:=P) (ty:=u) hbi hb h5 h4 with ⟨h0,w',hr,hw,hsm⟩|⟨e,he,w',hr,hbi',hoth,hsm⟩
  ·refine V3 (v := .tuple #[.bool false]) (w':=w') hd (fun c e=>by cases e) ?_ (kend ?_ w' ?_)
   ·simp only[execOp,hx,Sem.run_bind,hr,Result.andThen_ok];rfl
   ·refine(perm_ext_iff_of_nodup h6 h2.nodup).2 fun z=>⟨h7 z,fun hz=>?_⟩;have:ek z∈es.toList.map (·.key):=by rw[h2.keys];exact mem_map_of_mem hz
    obtain⟨e,he,ee⟩:=mem_map.1 this;refine(h8 e he z ee).2 ?_;have hl:leftOf es seen=#[]:=Array.eq_empty_of_size_eq_zero h0;unfold leftOf at hl;rw[Array.filter_eq_empty_iff] at hl;have:=hl e (by simpa using he);simpa using this
   ·exact Q0.heap (w:=w) ⟨⟨f,g',a,b',dd,.inr ⟨b,es,clock,since,seen,rfl,h1,h2,h3,h4,h5,h6,h7,h8,h9⟩,y⟩,okw⟩ hw hsm
  ·have he':e∈es.toList∧e.born∉seen:=by
    have:=mem_left he;refine⟨this.1,?_⟩;simpa using this.2
   obtain⟨j,hj⟩:=getElem?_of_mem he'.1;obtain⟨q,hq,ek1,ev1⟩:=h2.at hj;have hqm:q∈m:=mem_of_getElem? hq;have hqn:q.1∉ks:=fun hk=>he'.2 ((h8 e he'.1 q.1 ek1).1 hk);refine V3 (v := .tuple #[.bool true,ek q.1,vv q.2]) (w':=w') hd (fun c e=>by cases e) ?_ (kstep q hqm hqn h6 h7 w' ?_)
   ·simp only[execOp,hx,Sem.run_bind,hr,Result.andThen_ok,ek1,ev1];rfl
   ·have hne:b≠bi:=fun e0=>by rw[e0,hbi] at hb;cases hb
    refine⟨⟨fun c=>if c=bi then some (.mapIter (some b) since (seen.push e.born) clock) else f c,g',?_,?_,?_,.inr ⟨b,es,clock,since,seen.push e.born,rfl,?_,h2,?_,h4,h5,?_,?_,?_,?_⟩,y⟩,okw.same hsm⟩
    ·intro c o hc;by_cases hcb:c=bi
     ·subst hcb;simp at hc;subst hc;exact hbi'
     ·simp[hcb] at hc;exact(hoth c hcb).trans (a c o hc)
    ·intro c o hc;have hcb:c≠bi:=fun e0=>by subst e0;exact dd _ _ _ h3 hc
     exact(hoth c hcb).trans (b' c o hc)
    ·intro c o o' hc hc';by_cases hcb:c=bi
     ·subst hcb;exact dd _ _ _ h3 hc'
     ·simp[hcb] at hc;exact dd _ _ _ hc hc'
    ·simp[hne,h1]
    ·simp
    ·rw[nodup_append];exact⟨h6,by simp,fun c hc c' hc' e0=>by simp at hc';subst hc';subst e0;exact hqn hc⟩
    ·intro z hz
     rcases mem_append.1 hz with hz|hz
     ·exact h7 z hz
     ·simp at hz;subst hz;exact mem_map_of_mem hqm
    ·intro e2 he2 z hz;rw[mem_append,Array.mem_push,h8 e2 he2 z hz];simp only[mem_singleton];constructor
     ·rintro(h|rfl)
      ·exact .inl h
      ·exact .inr (by rw[DU kn he2 he'.1 (hz.trans ek1.symm)])
     ·rintro(h|h)
      ·exact .inl h
      ·have:=DU bn he2 he'.1 h;subst this;exact .inr (hi _ _ (hz.symm.trans ek1))
    ·intro z hz;simp at hz;subst hz;exact⟨e,he'.1,by simp,ek1⟩
theorem BV [Q4] {v:Value} {bi:Nat} {ks:List K} {q:K×V} (H:Q0 w (Gs ek vv v m bi (ks++[q.1])::l)) (hi:∀ a b,ek a=ek b→a=b) (hq:q∈m) (hx:ev σ x = .pointer (some ⟨bi,0,none⟩)) (hd:Qf n d=true)
  (kk:K' (put σ d (.tuple #[ek q.1,vv q.2])) w):St P n r ⟨d,.entry x,u,p,af,g⟩ σ w K':=by
 obtain⟨⟨f,g',a,b',dd,hm,y⟩,okw⟩:=H
 rcases hm with ⟨rfl,rfl,hk,h0⟩|⟨b,es,clock,since,seen,rfl,h1,h2,h3,h4,h5,h6,h7,h8,h9⟩
 ·simp at hk
 ·have hb:w.heap[b]? = some (.map es clock):=a _ _ h1;have hbi:w.heap[bi]? = some (.mapIter (some b) since seen clock):=a _ _ h3;have bn:(es.toList.map (·.born)).Nodup:=h2.rise.imp fun h=>Nat.ne_of_lt h;obtain⟨e,he,hs,ek1⟩:=h9 q.1 (by simp);obtain⟨j,hj⟩:=getElem?_of_mem he;obtain⟨q',hq',ek2,ev2⟩:=h2.at hj;have hqq:q'=q:=DU h2.nodup (mem_of_getElem? hq') hq (hi _ _ (ek2.symm.trans ek1));subst hqq;refine V3 (v := .tuple #[ek q'.1,vv q'.2]) (w':=w) hd (fun c e=>by cases e) ?_ kk;have hf:es.find? (·.born == e.born)=some e:=by rw[← Array.find?_toList];exact find_born e es.toList bn he
  simp only[execOp,hx,Instr.entry,getObj,Sem.run_bind,Sem.run,hbi,hb,Result.andThen,hs,bne_self_eq_false,Bool.false_eq_true,if_false,hf,ek2,ev2];rfl
end
end Go.SL
namespace Go.SL
section
variable {P:Program} {n:Nat} {r:Option Nat} {σ:QX} {w:World} {K:QX→World→Prop}
variable {u t:TypeId} {p:String} {af:Array Edge} {g:Option (Nat×Bool)} {d:Option Tmp} {x y z:Operand}
end
end Go.SL
namespace Go.SL
open List
section
variable {P:Program} {n:Nat} {r:Option Nat} {ops:Array Oper} {Q:Y6} {ms:List Nat} {σ:QX} {w:World} {rest:List Oper} {o:Oper} {K:QX→World→Prop} {l l':List Q2}
variable {ivs:List (List Nat×(World→Prop))} {T:QX→World→Prop} {f:Nat} {L:Array Bool}
variable {u t s:TypeId} {p:String} {af:Array Edge} {g:Option (Nat×Bool)} {d:Option Tmp} {x y z:Operand}
theorem Y1 {c:Code} {Q:Y6} (I:List Nat→QX→World→Prop) (h:C P n r c (fun e ms σ w=>(e = .normal∧I ms σ w)∨(e ≠ .normal∧Q e ms σ w)) ms σ w) (k:∀ ms σ w,I ms σ w→Q .normal ms σ w):C P n r c Q ms σ w:=
 JO h fun e ms σ w q=>by
  rcases q with ⟨rfl,q⟩|⟨_,q⟩
  ·exact k _ _ _ q
  ·exact q
theorem Lq {k k' q:IntKind} {i:Int} (hs:XI P s k') (ht:XI P t k):(convert s t (.int q i)).run P w = .ok (.int k (k.wrap i)) w:=by
 unfold convert;simp only[Sem.run_bind,Vn hs.und,Vn ht.und,Result.andThen_ok,Conv.intToInt,Sem.run_pure]
theorem Fu {k k' q:IntKind} {i:Int} [hs:XI P s k'] [ht:XI P t k] (hx:ev σ x = .int q i) (hd:Qf n d=true) (h:K (put σ d (.int k (k.wrap i))) w):St P n r ⟨d,.convert s t x,u,p,af,g⟩ σ w K:=
 V3 hd (fun c e=>by cases e) (by simp only[execOp,hx,Sem.run_bind,Lq hs ht,Result.andThen_ok,Sem.run_pure]) h
theorem Gt {k k' q:IntKind} {i:Int} (j:Nat) (hj:ops[j]? = some ⟨d,.convert s t x,u,p,af,g⟩) (hg:Q9 ops σ ⟨d,.convert s t x,u,p,af,g⟩ true) [hs:XI P s k'] [ht:XI P t k] (hx:ev σ x = .int q i)
  (hb:YU n ops (ivs.map (·.1)) L j []=true) (h:Any P n r ops ivs T f (L.setIfInBounds j true) (put σ d (.int k (k.wrap i))) w):Any P n r ops ivs T (f+1) L σ w:=
 Gp j hj hg (fun c e=>by cases e) (fun w=>by simp only[execOp,hx,Sem.run_bind,Lq hs ht,Result.andThen_ok,Sem.run_pure]) hb h
theorem S7 {e size bytes len cap:Nat} {a:Option Addr} (hT:VB P t e size bytes) (op:BinOp) (X Y:Operand) (ho:op = .eql∨op = .neq) :
  (do eqGuard op t X Y (.slice a len cap) (.slice none 0 0);binOp op t (.slice a len cap) (.slice none 0 0):Sem Value).run P w = .ok (.bool (if Y8 op then a.isNone else a.isSome)) w:=by
 have h1:(Op.equal t (.slice a len cap) (.slice none 0 0)).run P w = .ok a.isNone w:=by
  unfold Op.equal Op.maxDepth Op.equalIn;simp only[Sem.run_bind,Vn hT.und,Result.andThen_ok];cases a <;> rfl
 rcases ho with rfl|rfl
 ·simp[eqGuard,binOp,h1,Y8]
 ·simp[eqGuard,binOp,h1,Y8]
theorem S8 {op:BinOp} {yt:TypeId} {e size bytes len cap:Nat} {a:Option Addr} [hT:VB P t e size bytes] (hx:ev σ x = .slice a len cap) (hy:ev σ y = .slice none 0 0) (ho:op = .eql∨op = .neq) (hd:Qf n d=true)
  (k:K (put σ d (.bool (if Y8 op then a.isNone else a.isSome))) w):St P n r ⟨d,.binOp op t x y yt,u,p,af,g⟩ σ w K:=
 V3 hd (fun c e=>by cases e) (by simp only[execOp,hx,hy,Sem.run_bind];rw[← Sem.run_bind,S7 hT op x y ho];rfl) k
inductive UZ (P:Program) (σ:QX) (w:World):List ResultVar→List Value→Prop
 | nil:UZ P σ w [] []
 | tmp {t:Tmp} {rs:List ResultVar} {vs:List Value} (h:UZ P σ w rs vs):UZ P σ w (.tmp t::rs) (σ t::vs)
 | cell {a:Tmp} {t:TypeId} {b i:Nat} {v:Value} {rs:List ResultVar} {vs:List Value} (ha:σ a = .pointer (some ⟨b,i,none⟩)) (hv:(loadVar t ⟨b,i,none⟩).run P w = .ok v w) (h:UZ P σ w rs vs):UZ P σ w (.cell a t::rs) (v::vs)
theorem Fv {G:ResultVar→Sem Value} (h1:∀ t,G (.tmp t)=pure (σ t)) (h2:∀ a t,G (.cell a t)=(do loadVar t (← asAddr (σ a)))):∀ {rs:List ResultVar} {vs:List Value},UZ P σ w rs vs→(rs.mapM G).run P w = .ok vs w
 | _,_,.nil=>rfl
 | _,_,.tmp h=>by
  rw[mapM_cons,h1];have ih:=Fv h1 h2 h;simp only[Sem.run_bind,ih,Result.andThen,Sem.run_pure]
 | _,_,.cell ha hv h=>by
  rw[mapM_cons,h2,ha];have ih:=Fv h1 h2 h;simp only[asAddr,Sem.run_bind,Sem.run_pure,Result.andThen,hv,ih]
theorem Lr {fn:Func} {a:Act} {vs:List Value} (ra:Rel n ms σ a) (h:UZ P σ w fn.results.toList vs):(results fn a.tmps).run P w = .ok (K2 vs) w:=by
 unfold results;rw[← Array.toArray_toList (xs:=fn.results),mapM_toArray];simp only[Sem.run_bind,Sem.run_map];rw[Fv (σ:=σ) (fun t=>by simp only[ra.val]) (fun a t=>by simp only[ra.val]) h];simp only[Result.andThen];cases vs with
 | nil=>rfl
 | cons v vs=>cases vs <;> rfl
theorem BY [Q4] {fn:Func} {R:Value→World→Prop} {e:Exit} {vs:List Value} (l:List Q2) (he:e = .normal∨e = .ret) (H:Q0 w l)
  (hv:∀ w',Q0 w' l→UZ P σ w' fn.results.toList vs) (hR:∀ w',Q0 w' l→R (K2 vs) w'):Km P n fn R e [] σ w:=
 ⟨he,.inl ⟨l,mk_nil H,fun w' H' a ra=>⟨_,Lr ra (hv w' H'),hR w' H'⟩⟩⟩
theorem UZ.cellN [Q4] {a:Tmp} {t:TypeId} {b i E m:Nat} {fz:Nat×Nat} {c vs:List Value} {rs:List ResultVar} {us:List Value} (H:Q0 w l) (ha:σ a = .pointer (some ⟨b,i,none⟩)) [h1:TN P t m] [hA:At b (.cells c.toArray E fz) l] (hv:QZ c i m vs) (h:UZ P σ w rs us):UZ P σ w (.cell a t::rs) (.agg vs.toArray::us):=
 .cell ha (Fg (P:=P) h1 (hA.get _ H.1) hv) h
end
end Go.SL
