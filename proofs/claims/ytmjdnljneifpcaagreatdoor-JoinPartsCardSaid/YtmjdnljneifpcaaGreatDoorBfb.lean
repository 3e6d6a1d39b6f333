/- Cells: what is proved on the way: every input of the statement; no condition. Texts joined: SlF SlG SlH SlK SlL. -/
import Derived.Test.YtmjdnljneifpcaaGreatDoorBfa
import Derived.Laws.AppendOwn
import Derived.Laws.Tables
import Derived.Great.BuildSlice
import Derived.RangeFuncIn
import Derived.RangeFuncRecord
import Derived.Laws.IdiomRangeMap
import Derived.Laws.IdiomStrings
import Derived.Lib.Bytealg
import Derived.Laws.Externs
import Derived.Laws.Slices
set_option linter.unusedVariables false
set_option linter.unusedSimpArgs false
set_option linter.unusedSectionVars false
namespace Go.SL
open List
section
variable {P:Program} {k:TypeId}
class Wr (P:Program) (t:TypeId) (q:outParam IntKind):Prop where
 und:P.underlying t=some (.int q)
@[reducible] def ki (q:IntKind):Int→Value:=fun x => .int q x
@[reducible] def kp:Int×Int→Value:=fun x => .agg #[.int .i64 x.1,.int .i64 x.2]
@[reducible] def ks:ByteArray→Value:=fun x => .string x
theorem eZ {q:IntKind} (x:Int):∀ (es:List MapEntry) (ks:List Int) (i:Nat),es.map (·.key)=ks.map (ki q) →
  (Instr.findNow (.int q) (ki q x) es i=some none∧x∉ks)∨∃ j e,Instr.findNow (.int q) (ki q x) es i=some (some (i+j,e.val))∧es[j]? = some e∧ks[j]? = some x
 | [],[],_,_ => .inl ⟨rfl,by simp⟩
 | [],_::_,_,h=>by simp at h
 | _::_,[],_,h=>by simp at h
 | e::es,y::ks,i,h=>by
  simp only[map_cons,List.cons.injEq] at h;by_cases Yy:x=y
  ·subst Yy;exact .inr ⟨0,e,by simp[Instr.findNow,Instr.sameNow,h.1],rfl,rfl⟩
  ·have hb:(x == y)=false:=by simpa using Yy
   rcases eZ x es ks (i+1) h.2 with ⟨h1,h2⟩|⟨j,e',h1,h2,h3⟩
   ·exact .inl ⟨by simp[Instr.findNow,Instr.sameNow,h.1,hb,h1],by simp[Yy,h2]⟩
   ·exact .inr ⟨j+1,e',by simp[Instr.findNow,Instr.sameNow,h.1,hb,h1];omega,by simpa using h2,by simpa using h3⟩
theorem np {q:IntKind} (h:Wr P k q):XH P k (ki q) where
 inj:=fun a b e=>by simpa using e
 check:=fun w em x=>by
  unfold Instr.checkKey;simp only[Sem.run_bind,YS h.und,Result.andThen_ok,ki];rfl
 stays:=fun w x=>by simp[Instr.keyThatStays,Instr.sameBits]
 find:=fun w x es l hl=>by
  unfold Instr.findKey;simp only[Sem.run_bind,YS h.und,Result.andThen_ok]
  rcases eZ x es l 0 hl with ⟨h1,h2⟩|⟨j,e,h1,h2,h3⟩
  ·exact .inl ⟨by rw[h1];rfl,h2⟩
  ·exact .inr ⟨j,e,by rw[h1];simp,h2,h3⟩
structure eG (P:Program) (t:TypeId) {A:Type} (enc:A→Value) (eq:A→A→Bool):Prop where
 run:∀ (d:Nat) (w:World) (x y:A),(Op.equalIn (d+3) t (enc x) (enc y)).run P w = .ok (eq x y) w
class C0 (P:Program) (t:TypeId):Prop where
 und:∃ f g a b,P.underlying t=some (.struct #[f,g])∧f.name ≠ "_" ∧ g.name ≠ "_" ∧ f.offset=0∧g.offset=1∧P.underlying f.type=some (.int a)∧P.underlying g.type=some (.int b)
 one:∀ f g,P.underlying t=some (.struct #[f,g])→T1 P f.type∧T1 P g.type
 held:P.stoodInHeld t=false
 guard:P.eqGuardType P.depth t=false
theorem eU {t:TypeId} (h:C0 P t):eG P t kp (fun x y=>x.1 == y.1 && x.2 == y.2) where
 run:=fun d w x y=>by
  obtain⟨f,g,a,b,h1,h2,h3,h4,h5,h6,h7⟩:=h.und;obtain⟨o1,o2⟩:=h.one f g h1;have hf:P.fieldsOf t=#[f,g]:=by simp[Program.fieldsOf,h1]
  rw[run_equalIn_struct w (d+2) t _ _ (by rw[hf];exact h1) h.held,hf];have p1:∀ (u v:Int),(part f.type #[.int .i64 u,.int .i64 v] f.offset).run P w = .ok (.int .i64 u) w:=fun u v=>Eg o1 (c:=[.int .i64 u,.int .i64 v]) (by rw[h4];rfl);have p2:∀ (u v:Int),(part g.type #[.int .i64 u,.int .i64 v] g.offset).run P w = .ok (.int .i64 v) w:=fun u v=>Eg o2 (c:=[.int .i64 u,.int .i64 v]) (by rw[h5];rfl);simp only[Op.eqFields,h2,h3,ne_eq,not_false_eq_true,if_true,Sem.run_bind,p1,p2,Result.andThen_ok,run_equalIn_int w (d+1) f.type .i64 a _ _ h6,run_equalIn_int w (d+1) g.type .i64 b _ _ h7];cases h8:(x.1 == y.1)
  ·simp
  ·cases h9:(x.2 == y.2) <;> simp[p2,run_equalIn_int w (d+1) g.type .i64 b _ _ h7,h9]
theorem nq {fs:Array Field} (x:Int×Int) (e:MapEntry) (es:List MapEntry) (i:Nat):Instr.findNow (.struct fs) (kp x) (e::es) i=none:=by
 simp[Instr.findNow,Instr.sameNow]
theorem eX {A:Type} {enc:A→Value} {eq:A→A→Bool} (E:eG P k enc eq) (he:∀ a b,eq a b=true↔a=b) (w:World) (x:A):∀ (es:List MapEntry) (l:List A) (i:Nat),es.map (·.key)=l.map enc →
  ((Instr.findAsking k (enc x) es i).run P w = .ok none w∧x∉l)∨∃ j e,(Instr.findAsking k (enc x) es i).run P w = .ok (some (i+j,e.val)) w∧es[j]? = some e∧l[j]? = some x
 | [],[],_,_ => .inl ⟨rfl,by simp⟩
 | [],_::_,_,h=>by simp at h
 | _::_,[],_,h=>by simp at h
 | e::es,y::l,i,h=>by
  simp only[map_cons,List.cons.injEq] at h;have hr:(Op.equal k (enc x) e.key).run P w = .ok (eq x y) w:=by rw[h.1];exact E.run 9997 w x y
  unfold Instr.findAsking;simp only[Sem.run_bind,hr,Result.andThen_ok];by_cases Yy:x=y
  ·subst Yy;rw[(he x x).2 rfl];exact .inr ⟨0,e,by simp,rfl,rfl⟩
  ·have hb:eq x y=false:=by
    cases hq:eq x y with
    | false=>rfl
    | true=>exact absurd ((he x y).1 hq) Yy
   rw[hb];simp only[Bool.false_eq_true,if_false]
   rcases eX E he w x es l (i+1) h.2 with ⟨h1,h2⟩|⟨j,e',h1,h2,h3⟩
   ·exact .inl ⟨h1,by simp[Yy,h2]⟩
   ·exact .inr ⟨j+1,e',by rw[h1];congr 3;omega,by simpa using h2,by simpa using h3⟩
theorem eK (h:C0 P k):XH P k kp where
 inj:=fun a b e=>by
  obtain⟨a1,a2⟩:=a;obtain⟨b1,b2⟩:=b;simpa using e
 check:=fun w em x=>by
  obtain⟨f,g,a,b,h1,h2,h3,h4,h5,h6,h7⟩:=h.und;obtain⟨o1,o2⟩:=h.one f g h1;have p1:(part f.type #[.int .i64 x.1,.int .i64 x.2] f.offset).run P w = .ok (.int .i64 x.1) w:=Eg o1 (c:=[.int .i64 x.1,.int .i64 x.2]) (by rw[h4];rfl);have p2:(part g.type #[.int .i64 x.1,.int .i64 x.2] g.offset).run P w = .ok (.int .i64 x.2) w:=Eg o2 (c:=[.int .i64 x.1,.int .i64 x.2]) (by rw[h5];rfl)
  have c1:∀ (t:TypeId) (q:IntKind) (u:Int),P.underlying t=some (.int q)→(Instr.checkKey em 9999 t (.int .i64 u)).run P w = .ok () w:=fun t q u ht=>by
   unfold Instr.checkKey;simp only[Sem.run_bind,YS ht,Result.andThen_ok];rfl
  unfold Instr.checkKey;simp only[Sem.run_bind,YS h1,Result.andThen_ok,kp];simp[h2,h3,p1,p2,c1 _ _ _ h6,c1 _ _ _ h7]
 stays:=fun w x=>by simp[Instr.keyThatStays,Instr.sameBits]
 find:=fun w x es l hl=>by
  obtain⟨f,g,a,b,h1,_⟩:=h.und;unfold Instr.findKey;simp only[Sem.run_bind,YS h1,Result.andThen_ok]
  have key:=eX (eU h) (fun a b=>by
   obtain⟨a1,a2⟩:=a;obtain⟨b1,b2⟩:=b;simp) w x es l 0 hl
  cases es with
  | nil=>
   cases l with
   | nil=>exact .inl ⟨by simp[Instr.findNow],by simp⟩
   | cons y l=>simp at hl
  | cons e es=>
   rw[nq];simpa using key
end
section
variable {P:Program} {w:World}
def ZA:BinOp→Bool
 | .eql=>true
 | _=>false
theorem eR {t:TypeId} (h:KA P t) (op:BinOp) (a:Option Addr) (X Y:Operand) (u:TypeId) (ho:op = .eql∨op = .neq) :
  (do eqGuard op t X Y (.pointer a) (.pointer none);binOp op t (.pointer a) (.pointer none):Sem Value).run P w = .ok (.bool (if ZA op then a.isNone else a.isSome)) w:=by
 obtain⟨e,h⟩:=h.und
 have h1:(Op.equal t (.pointer a) (.pointer none)).run P w = .ok a.isNone w:=by
  unfold Op.equal Op.maxDepth Op.equalIn;simp only[Sem.run_bind,YS h,Result.andThen_ok];cases a <;> rfl
 rcases ho with rfl|rfl
 ·simp[eqGuard,binOp,h1,ZA]
 ·simp[eqGuard,binOp,h1,ZA]
theorem nr {t k e:TypeId} (h:G3 P t k e) (op:BinOp) (a:Option Nat) (X Y:Operand) (ho:op = .eql∨op = .neq) :
  (do eqGuard op t X Y (.map a) (.map none);binOp op t (.map a) (.map none):Sem Value).run P w = .ok (.bool (if ZA op then a.isNone else a.isSome)) w:=by
 have h1:(Op.equal t (.map a) (.map none)).run P w = .ok a.isNone w:=by
  unfold Op.equal Op.maxDepth Op.equalIn;simp only[Sem.run_bind,YS h.und,Result.andThen_ok];cases a <;> rfl
 rcases ho with rfl|rfl
 ·simp[eqGuard,binOp,h1,ZA]
 ·simp[eqGuard,binOp,h1,ZA]
class Pd (P:Program) (t:TypeId):Prop where
 und:P.underlying t=some .bool
theorem ns {t:TypeId} (h:Pd P t) (op:BinOp) (a b:Bool) (X Y:Operand) (ho:op = .eql∨op = .neq) :
  (do eqGuard op t X Y (.bool a) (.bool b);binOp op t (.bool a) (.bool b):Sem Value).run P w = .ok (.bool (if ZA op then a == b else !(a == b))) w:=by
 have h1:(Op.equal t (.bool a) (.bool b)).run P w = .ok (a == b) w:=by
  unfold Op.equal Op.maxDepth Op.equalIn;simp only[Sem.run_bind,YS h.und,Result.andThen_ok];rfl
 rcases ho with rfl|rfl
 ·simp[eqGuard,binOp,h1,ZA]
 ·simp[eqGuard,binOp,h1,ZA]
theorem eW {t:TypeId} (h:C0 P t) (op:BinOp) (a b c d:Int) (X Y:Operand) (ho:op = .eql∨op = .neq) :
  (do eqGuard op t X Y (.agg #[.int .i64 a,.int .i64 b]) (.agg #[.int .i64 c,.int .i64 d]);binOp op t (.agg #[.int .i64 a,.int .i64 b]) (.agg #[.int .i64 c,.int .i64 d]):Sem Value).run P w =
   .ok (.bool (if ZA op then decide ((a,b)=(c,d)) else !decide ((a,b)=(c,d)))) w:=by
 have h0:=run_eqGuard_agg (P:=P) w op t X Y #[.int .i64 a,.int .i64 b] #[.int .i64 c,.int .i64 d] h.guard;have h1:=(eU h).run 9997 w (a,b) (c,d)
 have e:(a == c && b == d)=decide ((a,b)=(c,d)):=by
  rw[Bool.eq_iff_iff];simp
 simp only[e] at h1;simp only[Sem.run_bind,h0,Result.andThen_ok]
 rcases ho with rfl|rfl
 ·rw[run_eql_struct,h1];rfl
 ·rw[run_neq_struct,h1];rfl
end
section
variable {P:Program} {n:Nat} {r:Option Nat} {ops:Array Oper} {Q:Z7} {ms:List Nat} {σ:QB} {w:World} {rest:List Oper} {o:Oper} {K:QB→World→Prop} {l l':List Q2}
variable {ivs:List (List Nat×(World→Prop))} {T:QB→World→Prop} {f:Nat} {L:Array Bool}
variable {u t:TypeId} {p:String} {af:Array Edge} {g:Option (Nat×Bool)} {d:Option Tmp} {x y z:Operand}
theorem KF {op:BinOp} {yt:TypeId} {a:Option Addr} [h:KA P t] (hx:ev σ x = .pointer a) (hy:ev σ y = .pointer none) (ho:op = .eql∨op = .neq) (hd:Qs n d=true)
  (k:K (put σ d (.bool (if ZA op then a.isNone else a.isSome))) w):St P n r ⟨d,.binOp op t x y yt,u,p,af,g⟩ σ w K:=
 VT hd (fun c e=>by cases e) (by simp only[execOp,hx,hy,Sem.run_bind];rw[← Sem.run_bind,eR h op a x y yt ho];rfl) k
theorem eA {op:BinOp} {yt k e:TypeId} {a:Option Nat} [h:G3 P t k e] (hx:ev σ x = .map a) (hy:ev σ y = .map none) (ho:op = .eql∨op = .neq) (hd:Qs n d=true)
  (k:K (put σ d (.bool (if ZA op then a.isNone else a.isSome))) w):St P n r ⟨d,.binOp op t x y yt,u,p,af,g⟩ σ w K:=
 VT hd (fun c e=>by cases e) (by simp only[execOp,hx,hy,Sem.run_bind];rw[← Sem.run_bind,nr h op a x y ho];rfl) k
theorem DY {op:BinOp} {yt:TypeId} {a b:Bool} [h:Pd P t] (hx:ev σ x = .bool a) (hy:ev σ y = .bool b) (ho:op = .eql∨op = .neq) (hd:Qs n d=true)
  (k:K (put σ d (.bool (if ZA op then a == b else !(a == b)))) w):St P n r ⟨d,.binOp op t x y yt,u,p,af,g⟩ σ w K:=
 VT hd (fun c e=>by cases e) (by simp only[execOp,hx,hy,Sem.run_bind];rw[← Sem.run_bind,ns h op a b x y ho];rfl) k
theorem Pe {op:BinOp} {yt:TypeId} {a b c e:Int} [h:C0 P t] (hx:ev σ x = .agg #[.int .i64 a,.int .i64 b]) (hy:ev σ y = .agg #[.int .i64 c,.int .i64 e]) (ho:op = .eql∨op = .neq) (hd:Qs n d=true)
  (k:K (put σ d (.bool (if ZA op then decide ((a,b)=(c,e)) else !decide ((a,b)=(c,e))))) w):St P n r ⟨d,.binOp op t x y yt,u,p,af,g⟩ σ w K:=
 VT hd (fun c e=>by cases e) (by simp only[execOp,hx,hy,Sem.run_bind];rw[← Sem.run_bind,eW h op a b c e x y ho];rfl) k
theorem Kn {op:Op} {v:Value} (h:pv σ op=some v) (hd:Qs n d=true) (k:Lp P n r ops Q rest ms (put σ d v) w):Lp P n r ops Q (⟨d,op,u,p,af,none⟩::rest) ms σ w:=
 Hr (Q8.none rfl) (df (o:=⟨d,op,u,p,af,none⟩) h hd k)
def eB (σ:QB):Op→Option Value
 | .move x | .assign x=>some (ev σ x)
 | _=>none
theorem W6 {op:Op} {v:Value} (h:eB σ op=some v) (hd:Qs n d=true) (k:Lp P n r ops Q rest ms (put σ d v) w):Lp P n r ops Q (⟨d,op,u,p,af,none⟩::rest) ms σ w:=by
 refine Hr (Q8.none rfl) (VT hd (fun c e=>?_) ?_ k)
 ·have e:op = .defer c:=e;subst e;cases h
 ·cases op <;> simp only[eB] at h <;> first|(cases h;rfl)|cases h
theorem Q5 (hg:o.guard=none) (h:St P n r o σ w (fun σ' w'=>Lp P n r ops Q rest ms σ' w')):Lp P n r ops Q (o::rest) ms σ w:=Hr (Q8.none hg) h
theorem Q0.pick [Q4] {G:Type} {R:G→Q2} {gs g1 g2:List G} {x:G} (e:gs=g1++x::g2):Q0 w (SL.star (gs.map R)::l)↔Q0 w (R x::SL.star ((g1++g2).map R)::l):=by
 subst e
 have p:((g1++x::g2).map R++l).Perm (R x::((g1++g2).map R++l)):=by
  simp only[map_append,map_cons,append_assoc,cons_append];exact perm_middle
 constructor
 ·exact fun h=>⟨M7 (fun _=>MZ.2) ((Q0.star.1 h).perm p).1,h.2⟩
 ·exact fun h=>Q0.star.2 (Q0.perm ⟨M7 (fun _=>MZ.1) h.1,h.2⟩ p.symm)
variable {A B:Type} [DecidableEq A] {ek:A→Value} {vv:B→Value} {b:Nat} {m:List (A×B)} {kt et:TypeId}
theorem Ao [Q4] (vv:B→Value) (ek:A→Value) (H:Q0 w l) [hM:G3 P t kt et] (hd:Qs n d=true) (k:∀ b w',Q0 w' (mp ek vv b []::l)→K (put σ d (.map (some b))) w') :
  St P n r ⟨d,.makeMap t none,u,p,af,g⟩ σ w K:=by
 refine VT (v := .map (some w.heap.size)) (w':={ w with heap:=w.heap.push (.map #[] 0) }) hd (fun c e=>by cases e) ?_ (k _ _ ((H.new (.map #[] 0)).head fun h e=>⟨#[],0,e,?_⟩))
 ·simp[execOp,Instr.makeMap]
 ·exact⟨rfl,by simp,by simp,by simp⟩
theorem GO [Q4] {ix:Operand} {ok:Bool} {key:A} {zv:Value} (H:Q0 w l) (hx:ev σ x = .map (some b)) (hk:ev σ ix=ek key) (TK:XH P kt ek) [hM:G3 P t kt et] [hz:VI P et zv] [i:Rb ek vv b m l] (hd:Qs n d=true)
  (k:K (put σ d (if ok then .tuple #[DV zv vv (QV m key),.bool (QV m key).isSome] else DV zv vv (QV m key))) w):St P n r ⟨d,.lookup t x ix ok,u,p,af,g⟩ σ w K:=
 VT hd (fun c e=>by cases e) (by simp only[execOp,hx,hk,Sem.run_bind];rw[eY hM TK hz (i.get _ H.1) key ok];rfl) k
theorem W7 [Q4] {ix:Operand} {key:A} {v:B} (H:Q0 w l) (hx:ev σ x = .map (some b)) (hk:ev σ ix=ek key) (hv:ev σ y=vv v) (TK:XH P kt ek) [hM:G3 P t kt et] [i0:Rb ek vv b m l] [i:DQ ek vv b m l (Yh m key v) l'] (hd:Qs n d=true)
  (k:∀ w',Q0 w' l'→K (put σ d undef) w'):St P n r ⟨d,.mapUpdate t x ix y,u,p,af,g⟩ σ w K:=by
 obtain⟨w',es,c,h1,h2,h3,h4,h5⟩:=ni hM TK (i.get _ H.1) key v;exact MU (w':=w') hd (fun c e=>by cases e) (by simp only[execOp,hx,hk,hv,Sem.run_bind,h1,Result.andThen_ok];rfl) (k w' ⟨i.set _ _ H.1 ⟨es,c,h2,h3⟩ h4,H.2.same h5⟩)
theorem Ws [Q4] {ix:Operand} {key:A} {t2:TypeId} (H:Q0 w l) (hx:ev σ x = .map (some b)) (hk:ev σ ix=ek key) (TK:XH P kt ek) [hM:G3 P t kt et] [i0:Rb ek vv b m l] [i:DQ ek vv b m l (QO m key) l'] (hd:Qs n d=true)
  (k:∀ w',Q0 w' l'→K (put σ d (.tuple #[])) w'):St P n r ⟨d,.call { callee := .builtin .delete,args:=#[x,ix],argTypes:=#[t,t2] },u,p,af,g⟩ σ w K:=by
 obtain⟨w',es,c,h1,h2,h3,h4,h5⟩:=nj hM TK (i.get _ H.1) key u t2;refine VT (v := .tuple #[]) (w':=w') hd (fun c e=>by cases e) ?_ (k w' ⟨i.set _ _ H.1 ⟨es,c,h2,h3⟩ h4,H.2.same h5⟩);simp[execOp,resolve,invoke,builtin,hx,hk,h1]
theorem nt {ix:Operand} {key:A} {t2:TypeId} (hx:ev σ x = .map none) (hk:ev σ ix=ek key) (TK:XH P kt ek) [hM:G3 P t kt et] (hd:Qs n d=true)
  (k:K (put σ d (.tuple #[])) w):St P n r ⟨d,.call { callee := .builtin .delete,args:=#[x,ix],argTypes:=#[t,t2] },u,p,af,g⟩ σ w K:=by
 refine VT (v := .tuple #[]) (w':=w) hd (fun c e=>by cases e) ?_ k;simp[execOp,resolve,invoke,builtin,hx,hk,nk (P:=P) (w:=w) hM TK key u t2]
theorem Ek [Q4] (ek:A→Value) (vv:B→Value) (H:Q0 w l) (hx:ev σ x = .map (some b)) [hM:G3 P t kt et] [i:Rb ek vv b m l] (hd:Qs n d=true)
  (k:K (put σ d (.int .i64 m.length)) w):St P n r ⟨d,.call { callee := .builtin .len,args:=#[x],argTypes:=#[t] },u,p,af,g⟩ σ w K:=by
 refine VT (v := .int .i64 m.length) (w':=w) hd (fun c e=>by cases e) ?_ k;simp[execOp,resolve,invoke,builtin,hx,nl (P:=P) hM (i.get _ H.1) u]
theorem nu (hx:ev σ x = .map none) [hM:G3 P t kt et] (hd:Qs n d=true)
  (k:K (put σ d (.int .i64 0)) w):St P n r ⟨d,.call { callee := .builtin .len,args:=#[x],argTypes:=#[t] },u,p,af,g⟩ σ w K:=by
 refine VT (v := .int .i64 0) (w':=w) hd (fun c e=>by cases e) ?_ k;simp[execOp,resolve,invoke,builtin,hx,nm (P:=P) (w:=w) hM u]
theorem nv {s:TypeId} {fi off b i₀:Nat} (i:Nat) (hi:ops[i]? = some ⟨d,.fieldAddr s x fi,u,p,af,g⟩) (hg:Q8 ops σ ⟨d,.fieldAddr s x fi,u,p,af,g⟩ true) [hf:Qf P s fi off] (hx:ev σ x = .pointer (some ⟨b,i₀,none⟩)) (hs:ZW n ops (ivs.map (·.1)) L i []=true)
  (h:Any P n r ops ivs T f (L.setIfInBounds i true) (put σ d (.pointer (some ⟨b,i₀+off,none⟩))) w):Any P n r ops ivs T (f+1) L σ w:=by
 refine KC (v := .pointer (some ⟨b,i₀+off,none⟩)) i hi hg (fun c e=>by cases e) (fun w=>?_) hs h;obtain⟨fs,fd,h1,h2,h3,i',h4,h5⟩:=hf.field;simp only[execOp,hx,Instr.fieldAt,Sem.run_bind,underlying,run_program,Result.andThen_ok,h1,Sem.run_pure,h2,Instr.sureAddr,fieldPlace];have hs:(sizeOf fd.type).run P w = .ok i' w:=Uz h4;simp only[hs,Result.andThen_ok,if_neg h5,Gl,h3,Sem.run_pure]
theorem Y2 [Q4] {b i₀ E:Nat} {fz:Nat×Nat} {c:List Value} {v:Value} (i:Nat) (D:List Nat) (H:Q0 w l) (hi:ops[i]? = some ⟨d,.load t x,u,p,af,g⟩) (hg:Q8 ops σ ⟨d,.load t x,u,p,af,g⟩ true) (hx:ev σ x = .pointer (some ⟨b,i₀,none⟩)) [h1:T1 P t] [ha:At b (.cells c.toArray E fz) l] (hv:c[i₀]? = some v)
  (hs:ZW n ops (ivs.map (·.1)) L i D=true) (h:Any P n r ops ((D,fun w=>w.heap[b]? = some (.cells c.toArray E fz))::ivs) T f (L.setIfInBounds i true) (put σ d v) w):Any P n r ops ivs T (f+1) L σ w:=
 dw i D hi hg (fun c e=>by cases e) (fun w hw=>by simp only[execOp,hx,Instr.loadAt,Instr.sureAddr,Sem.run_bind,Sem.run_pure,Result.andThen_ok,PN (P:=P) h1 hw hv]) hs h
theorem Vz [Q4] {b i₀ E k:Nat} {fz:Nat×Nat} {c vs:List Value} (i:Nat) (D:List Nat) (H:Q0 w l) (hi:ops[i]? = some ⟨d,.load t x,u,p,af,g⟩) (hg:Q8 ops σ ⟨d,.load t x,u,p,af,g⟩ true) (hx:ev σ x = .pointer (some ⟨b,i₀,none⟩)) [h1:TN P t k] [ha:At b (.cells c.toArray E fz) l] (hv:QY c i₀ k vs)
  (hs:ZW n ops (ivs.map (·.1)) L i D=true) (h:Any P n r ops ((D,fun w=>w.heap[b]? = some (.cells c.toArray E fz))::ivs) T f (L.setIfInBounds i true) (put σ d (.agg vs.toArray)) w):Any P n r ops ivs T (f+1) L σ w:=
 dw i D hi hg (fun c e=>by cases e) (fun w hw=>by simp only[execOp,hx,Instr.loadAt,Instr.sureAddr,Sem.run_bind,Sem.run_pure,Result.andThen_ok,PO (P:=P) h1 hw hv]) hs h
theorem Rc [Q4] {ix:Operand} {ok:Bool} {key:A} {zv:Value} (i:Nat) (D:List Nat) (H:Q0 w l) (hi:ops[i]? = some ⟨d,.lookup t x ix ok,u,p,af,g⟩) (hg:Q8 ops σ ⟨d,.lookup t x ix ok,u,p,af,g⟩ true) (hx:ev σ x = .map (some b)) (hk:ev σ ix=ek key) (TK:XH P kt ek) [hM:G3 P t kt et] [hz:VI P et zv] [ha:Rb ek vv b m l]
  (hs:ZW n ops (ivs.map (·.1)) L i D=true) (h:Any P n r ops ((D,fun w=>mp ek vv b m (hp w))::ivs) T f (L.setIfInBounds i true) (put σ d (if ok then .tuple #[DV zv vv (QV m key),.bool (QV m key).isSome] else DV zv vv (QV m key))) w):Any P n r ops ivs T (f+1) L σ w:=
 Ht i D hi ⟨_,hi,fun c e=>(by cases e),.inl ⟨hg,fun w hw=>by simp only[execOp,hx,hk,Sem.run_bind];rw[eY hM TK hz hw key ok];rfl⟩⟩ hs h
end
end Go.SL
namespace Go.SL
open List
section
variable {P:Program} {n:Nat} {r:Option Nat} {ops:Array Oper} {Q:Z7} {ms:List Nat} {σ:QB} {w:World} {rest:List Oper} {o:Oper} {K:QB→World→Prop} {l l':List Q2}
variable {ivs:List (List Nat×(World→Prop))} {T:QB→World→Prop} {f:Nat} {L:Array Bool}
variable {u t:TypeId} {p:String} {af:Array Edge} {g:Option (Nat×Bool)} {d:Option Tmp} {x y z:Operand}
theorem eC {e size bytes b o len cap:Nat} {q:IntKind} {i:Int} (hT:Vx P t e size bytes) (h0:0≤i) (h1:i < len) :
  (Instr.indexAt t (.slice (some ⟨b,o,none⟩) len cap) (.int q i)).run P w = .ok (.pointer (some ⟨b,o+i.toNat*size,none⟩)) w:=by
 have hs:(sizeOf e).run P w = .ok size w:=by
  obtain⟨k,hk,e2⟩:=Option.map_eq_some_iff.1 hT.info;simp only[Prod.mk.injEq] at e2;exact Uz (by rw[hk];simp[e2.1])
 unfold Instr.indexAt;simp only[asIntOf,Sem.run_bind,Sem.run_pure,Result.andThen_ok,YS hT.und];simp[h0,h1,hs,Gl]
theorem X4 {e size bytes b o len cap:Nat} {q:IntKind} {i:Int} {ix:Operand} [hT:Vx P t e size bytes] (hx:ev σ x = .slice (some ⟨b,o,none⟩) len cap) (hi:ev σ ix = .int q i) (h0:0≤i) (h1:i < len) (hd:Qs n d=true)
  (k:K (put σ d (.pointer (some ⟨b,o+i.toNat*size,none⟩))) w):St P n r ⟨d,.indexAddr t x ix,u,p,af,g⟩ σ w K:=
 VT hd (fun c e=>by cases e) (by simp only[execOp,hx,hi,Sem.run_bind,eC hT h0 h1,Result.andThen_ok,Sem.run_pure]) k
theorem C1 {e size bytes b o len cap:Nat} {q:IntKind} {i:Int} {ix:Operand} (j:Nat) (hj:ops[j]? = some ⟨d,.indexAddr t x ix,u,p,af,g⟩) (hg:Q8 ops σ ⟨d,.indexAddr t x ix,u,p,af,g⟩ true) [hT:Vx P t e size bytes] (hx:ev σ x = .slice (some ⟨b,o,none⟩) len cap) (hi:ev σ ix = .int q i) (h0:0≤i) (h1:i < len)
  (hs:ZW n ops (ivs.map (·.1)) L j []=true) (h:Any P n r ops ivs T f (L.setIfInBounds j true) (put σ d (.pointer (some ⟨b,o+i.toNat*size,none⟩))) w):Any P n r ops ivs T (f+1) L σ w:=
 KC j hj hg (fun c e=>by cases e) (fun w=>by simp only[execOp,hx,hi,Sem.run_bind,eC hT h0 h1,Result.andThen_ok,Sem.run_pure]) hs h
theorem eD {e size bytes len cap:Nat} {a:Option Addr} (hT:Vx P t e size bytes) (ty:TypeId):(Builtin.len_ #[t] ty #[.slice a len cap]).run P w = .ok (.int .i64 len) w:=by
 unfold Builtin.len_;simp only[Sem.run_bind,YS hT.und,Result.andThen_ok,Sem.run_pure,getElem?_toArray,getElem?_cons_zero,goInt]
theorem Gm {e size bytes len cap:Nat} {a:Option Addr} [hT:Vx P t e size bytes] (hx:ev σ x = .slice a len cap) (hd:Qs n d=true) (k:K (put σ d (.int .i64 len)) w) :
  St P n r ⟨d,.call { callee := .builtin .len,args:=#[x],argTypes:=#[t] },u,p,af,g⟩ σ w K:=by
 refine VT (v := .int .i64 len) (w':=w) hd (fun c e=>by cases e) ?_ k;simp[execOp,resolve,invoke,builtin,hx,eD (P:=P) (w:=w) hT u]
theorem Ap {e size bytes len cap:Nat} {a:Option Addr} (j:Nat) (hj:ops[j]? = some ⟨d,.call { callee := .builtin .len,args:=#[x],argTypes:=#[t] },u,p,af,g⟩) (hg:Q8 ops σ ⟨d,.call { callee := .builtin .len,args:=#[x],argTypes:=#[t] },u,p,af,g⟩ true) [hT:Vx P t e size bytes] (hx:ev σ x = .slice a len cap)
  (hs:ZW n ops (ivs.map (·.1)) L j []=true) (h:Any P n r ops ivs T f (L.setIfInBounds j true) (put σ d (.int .i64 len)) w):Any P n r ops ivs T (f+1) L σ w:=
 KC (v := .int .i64 len) j hj hg (fun c e=>by cases e) (fun w=>by simp[execOp,resolve,invoke,builtin,hx,eD (P:=P) (w:=w) hT u]) hs h
def QF (E k:Nat) (v:Value) (c:List Value):Q2:=fun h=>
 (v = .slice none 0 0∧c=[])∨∃ b len cap spare,v = .slice (some ⟨b,0,none⟩) len cap∧h b=some (row E (c++spare))∧c.length=len*k∧(len≤cap∧cap≤9223372036854775807)∧(cap - len)*k≤spare.length
theorem ME (v:Value):v.cells.size=(VA v).length:=by rw[Al];simp
theorem XI [Q4] {E k:Nat} {v:Value} {c:List Value} (H:Q0 w (QF E k v c::l)) :
  (v = .slice none 0 0∧c=[]∧Q0 w l)∨∃ b len cap spare,v = .slice (some ⟨b,0,none⟩) len cap∧c.length=len*k∧(len≤cap∧cap≤9223372036854775807)∧(cap - len)*k≤spare.length∧Q0 w (pts b (row E (c++spare))::l):=by
 obtain⟨⟨f,g,a,b,d,x,y⟩,ok⟩:=H
 rcases x with ⟨e1,e2⟩|⟨bb,len,cap,spare,e1,e2,e3,e4,e5⟩
 ·exact .inl ⟨e1,e2,Ee b y,ok⟩
 ·exact .inr ⟨bb,len,cap,spare,e1,e3,e4,e5,⟨f,g,a,b,d,e2,y⟩,ok⟩
theorem GK [Q4] {E k:Nat} (H:Q0 w l):Q0 w (QF E k (.slice none 0 0) []::l):=
 ⟨⟨fun _=>none,hp w,fun _ _ e=>(by cases e),Yf.rfl' _,fun _ _ _ e=>(by cases e),.inl ⟨rfl,rfl⟩,H.1⟩,H.2⟩
theorem Gn [Q4] {E k b len cap:Nat} {c spare:List Value} (h1:c.length=len*k) (h2:len≤cap∧cap≤9223372036854775807) (h3:(cap - len)*k≤spare.length) (H:Q0 w (pts b (row E (c++spare))::l)):Q0 w (QF E k (.slice (some ⟨b,0,none⟩) len cap) c::l):=
 H.head fun h e => .inr ⟨b,len,cap,spare,rfl,e,h1,h2,h3⟩
theorem nw [Q4] {e size bytes:Nat} {zv:Value} (hT:Vx P t e size bytes) (hz:VI P e zv) (DZ:(VA zv).length=size) (Va:0 < size) (Hz:0 < bytes) {s:Value} {cs new:List Value} {m c:Nat} {a:Addr} {l:List Q2} (H:Q0 w (QF e size s cs::l))
  (ty:TypeId) (hm:0 < m) (Z4:new.length=m*size) (Aq:∀ j v,new[j]? = some v→w.cell? (a.add j)=some v) (h1:∀ v∈new,v.oneCell'=true)
  (hb:(cs.length+new.length)*bytes≤140737488355328) :
  ∃ v' w',(Builtin.append_ #[t,t] ty #[s,.slice (some a) m c]).run P w = .ok v' w'∧Q0 w' (QF e size v' (cs++new)::l):=by
 obtain⟨i,hi,e2⟩:=Option.map_eq_some_iff.1 hT.info;simp only[Prod.mk.injEq] at e2;obtain⟨i1,i2⟩:=e2;obtain⟨i',Ue,UD⟩:=Option.map_eq_some_iff.1 hz.zero;have:i'=i:=by rw[hi] at Ue;cases Ue;rfl
 subst this;have W8:zv.cells.size=size:=by rw[ME,DZ]
 have mb:∀ k,k≤k*size:=fun k=>Nat.le_mul_of_pos_right k Va;have bb:∀ k,k≤k*bytes:=fun k=>Nat.le_mul_of_pos_right k Hz;have Pf:m*bytes≤new.length*bytes:=Nat.mul_le_mul_right _ (by rw[Z4];exact mb m);have Q0y:(cs.length+new.length)*bytes=cs.length*bytes+new.length*bytes:=Nat.add_mul _ _ _
 rcases XI H with ⟨rfl,rfl,H2⟩|⟨b,len,cap,spare,rfl,e3,e4,e5,H2⟩
 ·have hr:=run_append_nil (P:=P) w t ty e i' zv hT.und hi UD a m c new (by rw[i1];exact Z4) Aq hm (by have:=bb m;omega) (by rw[i2];omega);refine⟨_,_,hr,?_⟩;have hg:m≤grownCap w m 0 e∧grownCap w m 0 e≤9223372036854775807:=⟨grownCap_ge w m 0 e,grownCap_le_maxLen w m 0 e (by have:=bb m;unfold maxLen;omega)⟩;refine Gn (spare:=(Builtin.zeroCells zv.cells (grownCap w m 0 e - m)).toList) (by simpa using Z4) hg (by simp[size_zeroCells,W8]) ?_;have H':Q0 w.drew l:=H2.heap rfl;have:=H'.new (.cells (new.toArray++Builtin.zeroCells zv.cells (grownCap w m 0 e - m)) e (0,0));refine this.head fun h x=>?_;have e:new.toArray++Builtin.zeroCells zv.cells (grownCap w m 0 e - m)=([]++new++(Builtin.zeroCells zv.cells (grownCap w m 0 e - m)).toList).toArray:=by apply Array.ext';simp
  rw[e] at x;exact x
 ·have GR:=H2.pts;have Qw:len*bytes≤cs.length*bytes:=Nat.mul_le_mul_right _ (by rw[e3];exact mb len);by_cases Wt:len+m≤cap
  ·have Yz:m*size≤spare.length:=Nat.le_trans (Nat.mul_le_mul_right _ (by omega)) e5
   have hr:=run_append_room (P:=P) w t ty e i' hT.und hi b len cap (cs++spare).toArray GR a m c new (by rw[i1];exact Z4) Aq h1 Wt (by
    simp only[size_toArray,length_append,i1,e3,Z4];omega)
   refine⟨_,_,hr,?_⟩;refine Gn (spare:=spare.drop new.length) (by simp[e3,Z4,Nat.add_mul]) ⟨Wt,e4.2⟩ ?_ ?_
   ·have e6:(cap - (len+m))*size=(cap - len)*size - m*size:=by rw[← Nat.sub_mul,Nat.sub_sub]
    rw[length_drop,Z4,e6];omega
   ·have hh:=setRow_heap w b (cs++spare).toArray ((cs++spare).toArray.toList.take (len*i'.size)++new++(cs++spare).toArray.toList.drop (len*i'.size+new.length)).toArray e _ GR;refine(H2.set hh (fun k hk=>setRow_other w b k _ hk)).head fun h x=>?_
    have e:(cs++spare).toArray.toList.take (len*i'.size)++new++(cs++spare).toArray.toList.drop (len*i'.size+new.length)=cs++new++spare.drop new.length:=by
     rw[i1,← e3];show (cs++spare).take cs.length++new++(cs++spare).drop (cs.length+new.length)=_;rw[take_left,← drop_drop,drop_left]
    rw[e] at x;exact x
  ·have I0:∀ j u,cs[j]? = some u→w.cell? ((⟨b,0,none⟩:Addr).add j)=some u:=fun j u hj=>by
    rw[Gl];refine Ud GR ?_;rw[Nat.zero_add,getElem?_append_left ((List.getElem?_eq_some_iff.1 hj).1)];exact hj
   have Pg:(len+m)*bytes=len*bytes+m*bytes:=Nat.add_mul _ _ _
   have hr:=run_append_grow (P:=P) w t ty e i' zv hT.und hi UD ⟨b,0,none⟩ len cap cs (by rw[i1];exact e3) I0 a m c new (by rw[i1];exact Z4) Aq (by omega) (by have:=bb (len+m);omega)
    (growslice_fits (by omega) (by rw[i2];omega))
   refine⟨_,_,hr,?_⟩;have hg:len+m≤grownCap w (len+m) cap e∧grownCap w (len+m) cap e≤9223372036854775807:=⟨grownCap_ge w (len+m) cap e,grownCap_le_maxLen w (len+m) cap e (by have:=bb (len+m);unfold maxLen;omega)⟩;refine Gn (spare:=(Builtin.zeroCells zv.cells (grownCap w (len+m) cap e - (len+m))).toList) (by simp[e3,Z4,Nat.add_mul]) hg (by simp[size_zeroCells,W8]) ?_;have H':Q0 w.drew l:=H2.drop.heap rfl;have:=H'.new (.cells (cs.toArray++new.toArray++Builtin.zeroCells zv.cells (grownCap w (len+m) cap e - (len+m))) e (0,0));refine this.head fun h x=>?_;have e:cs.toArray++new.toArray++Builtin.zeroCells zv.cells (grownCap w (len+m) cap e - (len+m))=(cs++new++(Builtin.zeroCells zv.cells (grownCap w (len+m) cap e - (len+m))).toList).toArray:=by apply Array.ext';simp
   rw[e] at x;exact x
theorem ZY [Q4] {e size bytes:Nat} {zv:Value} [hT:Vx P t e size bytes] [hz:VI P e zv] {s:Value} {cs new c2:List Value} {m cap b o E:Nat} {fz:Nat×Nat} (H:Q0 w (QF e size s cs::l))
  (hx:ev σ x=s) (hy:ev σ y = .slice (some ⟨b,o,none⟩) m cap) [ha:At b (.cells c2.toArray E fz) l] (hn:QY c2 o (m*size) new) (h1:new.all (·.oneCell')=true) (hm:0 < m)
  (hb:(cs.length+new.length)*bytes≤140737488355328) (hd:Qs n d=true) (hq:(decide ((VA zv).length=size) && decide (0 < size) && decide (0 < bytes))=true)
  (k:∀ v' w',Q0 w' (QF e size v' (cs++new)::l)→K (put σ d v') w'):St P n r ⟨d,.call { callee := .builtin .append,args:=#[x,y],argTypes:=#[t,t] },u,p,af,g⟩ σ w K:=by
 simp only[Bool.and_eq_true,decide_eq_true_eq] at hq;have GR:w.heap[b]? = some (.cells c2.toArray E fz):=ha.get _ H.drop.1;obtain⟨v',w',hr,H'⟩:=nw (w:=w) (c:=cap) (a:=⟨b,o,none⟩) (m:=m) hT hz hq.1.1 hq.1.2 hq.2 H u hm hn.len (fun j v hj=>by rw[Gl];exact Ud GR (hn.get j v hj)) (all_eq_true.1 h1) hb;refine VT (v:=v') (w':=w') hd (fun c e=>by cases e) ?_ (k v' w' H');simp[execOp,resolve,invoke,builtin,hx,hy,hr]
def El:List Value→Option (List Value)
 | []=>some []
 | a::l=>match fo a,El l with
  | some b,some m=>some (b::m)
  | _,_=>none
theorem eE:∀ {l m:List Value},El l=some m→l=m
 | [],m,h=>by simp only[El,Option.some.injEq] at h;exact h
 | a::l,m,h=>by
  simp only[El] at h;split at h
  ·rename_i b m' h1 h2;cases h;rw[Ef h1,eE h2]
  ·cases h
def C2 (pl:Nat→Option (Nat×Nat)) (c:List Value):List (Nat×Value)→Option (List Value)
 | []=>some c
 | (i,v)::r=>match pl i with
  | none=>none
  | some (off,size)=>if Nat.beq (VA v).length size && Nat.ble (off+size) c.length then C2 pl (wr c off (VA v)) r else none
theorem eF:∀ (vs:List Value) (c:List Value) (o j:Nat),(vs.zipIdx j).foldl (fun (cs:Array Value) (p:Value×Nat)=>cs.setIfInBounds (o+p.2) p.1) c.toArray=(wr c (o+j) vs).toArray
 | [],c,o,j=>rfl
 | v::vs,c,o,j=>by
  simp only[zipIdx_cons,foldl_cons,setIfInBounds_toArray];rw[eF vs _ o (j+1)];rfl
def Em (pl:Nat→Option (Nat×Nat)) (c:List Value) (ps:List (Nat×Value)):Option (List Value):=(C2 pl c ps).bind El
theorem MF {pl:Nat→Option (Nat×Nat)} {c c':List Value} {ps:List (Nat×Value)} (h:Em pl c ps=some c'):C2 pl c ps=some c':=by
 unfold Em at h;cases hf:C2 pl c ps with
 | none=>rw[hf] at h;cases h
 | some m=>
  rw[hf] at h;rw[eE (show El m=some c' from h)]
theorem MH {pl:Nat→Option (Nat×Nat)}:∀ (ps:List (Nat×Value)) (c c':List Value),C2 pl c ps=some c'→Instr.fill pl c.toArray ps=some c'.toArray
 | [],c,c',h=>by simp only[C2,Option.some.injEq] at h;subst h;rfl
 | (i,v)::r,c,c',h=>by
  simp only[C2] at h;unfold Instr.fill;cases hp:pl i with
  | none=>rw[hp] at h;cases h
  | some q=>
   obtain⟨off,size⟩:=q;rw[hp] at h;simp only at h ⊢;split at h
   ·rename_i hc;simp only[Bool.and_eq_true,Nat.ble_eq] at hc;have e1:v.cells.size=size:=by rw[ME];exact Nat.eq_of_beq_eq_true hc.1
    rw[if_neg (by simp[e1];omega)];have e2:=eF (VA v) c off 0;rw[Nat.add_zero] at e2
    have e3:v.cells.zipIdx.foldl (fun (cs:Array Value) (p:Value×Nat)=>cs.setIfInBounds (off+p.2) p.1) c.toArray=(wr c off (VA v)).toArray:=by
     rw[← e2,Al,← Array.foldl_toList,Array.toList_zipIdx]
    have:=MH r _ _ h;rw[← e3] at this;exact this
   ·cases h
class Zf (P:Program) (t:TypeId) (places:outParam (List (Nat×Nat))):Prop where
 und:∃ fs,P.underlying t=some (.struct fs)∧fs.toList.mapM (fun f=>(P.info? f.type).map fun i=>(f.offset,i.size))=some places
theorem eH {places:List (Nat×Nat)} {zv:Value} (hB:Zf P t places) (hz:VI P t zv) (ps:List (Nat×Value)) {c:List Value} (hf:C2 (places[·]?) (VA zv) ps=some c):(Instr.build t ps.toArray).run P w = .ok (.agg c.toArray) w:=by
 obtain⟨fs,h1,h2⟩:=hB.und;obtain⟨it,h3,h4⟩:=Option.map_eq_some_iff.1 hz.zero;refine run_build w t _ _ ?_;unfold Program.built;simp only[h1,h3,h4,h2,Al];have:=MH ps _ _ hf;simpa using this
theorem Ko {places:List (Nat×Nat)} {zv:Value} {xs:List (Nat×Operand)} {c:List Value} [hB:Zf P t places] [hz:VI P t zv] (Zg:Em (places[·]?) (VA zv) (xs.map fun q=>(q.1,ev σ q.2))=some c) (hd:Qs n d=true)
  (k:K (put σ d (.agg c.toArray)) w):St P n r ⟨d,.build t xs.toArray,u,p,af,g⟩ σ w K:=by
 have hf:=MF Zg;refine VT (v := .agg c.toArray) (w':=w) hd (fun c e=>by cases e) ?_ k;have:=eH (w:=w) hB hz _ hf;simp only[execOp,Sem.run_bind];have e:(xs.toArray.map fun x=>(x.1,ev σ x.2))=(xs.map fun q=>(q.1,ev σ q.2)).toArray:=by simp
 rw[e,this];rfl
def Yl (z:List Value):Nat→List Value
 | 0=>[]
 | k+1=>z++Yl z k
theorem Ph (z:List Value):∀ k,(Yl z k).length=k*z.length
 | 0=>by simp[Yl]
 | k+1=>by simp[Yl,Ph z k,Nat.succ_mul];omega
theorem eI (z:List Value):∀ (k i:Nat),i < k*z.length→(Yl z k)[i]? = z[i % z.length]?
 | 0,i,h=>by simp at h
 | k+1,i,h=>by
  simp only[Yl];rw[Nat.succ_mul] at h;by_cases hi:i < z.length
  ·rw[getElem?_append_left hi,Nat.mod_eq_of_lt hi]
  ·rw[getElem?_append_right (by omega),eI z k (i - z.length) (by omega)];congr 1;rw[Nat.mod_eq_sub_mod (by omega:z.length≤i)]
theorem MI (z:List Value) (k:Nat):(Array.range (k*z.length)).map (fun i=>z.toArray[i % z.toArray.size]!)=(Yl z k).toArray:=by
  apply Array.ext';apply ext_getElem?;intro i;by_cases hi:i < k*z.length
  · have hz : 0 < z.length := by rcases Nat.eq_zero_or_pos z.length with h | h; · rw [h] at hi; omega
                                 · exact h
    have hm:=Nat.mod_lt i hz;simp only[Array.toList_map,getElem?_map,Array.toList_range,getElem?_range hi,Option.map_some,eI z k i hi,size_toArray];simp[hm]
  · have:=Ph z k;rw[getElem?_eq_none (by simp;omega),getElem?_eq_none (by show (Yl z k).length≤i;omega)]
theorem C3 [Q4] {e size bytes len:Nat} {zv:Value} {xs:List (Nat×Operand)} {c:List Value} (H:Q0 w l) [hT:Vx P t e size bytes] [hz:VI P e zv]
  (Zg:Em (fun i=>some (i*size,size)) (Yl (VA zv) len) (xs.map fun q=>(q.1,ev σ q.2))=some c) (hq:(decide ((VA zv).length=size) && decide (0 < len*size) && decide (len*size≤16777216))=true) (hd:Qs n d=true)
  (k:∀ b w',Q0 w' (pts b (row e c)::l)→K (put σ d (.slice (some ⟨b,0,none⟩) len len)) w'):St P n r ⟨d,.buildSlice t len xs.toArray,u,p,af,g⟩ σ w K:=by
 have hf:=MF Zg;simp only[Bool.and_eq_true,decide_eq_true_eq] at hq;obtain⟨i,hi,e2⟩:=Option.map_eq_some_iff.1 hT.info;simp only[Prod.mk.injEq] at e2;obtain⟨i1,i2⟩:=e2;obtain⟨i',Ue,UD⟩:=Option.map_eq_some_iff.1 hz.zero;have:i'=i:=by rw[hi] at Ue;cases Ue;rfl
 subst this
 have hr:=run_buildSlice (P:=P) w t e len (xs.map fun q=>(q.1,ev σ q.2)).toArray c.toArray i' zv hT.und hi UD (by rw[i1];omega) (by rw[i1];omega) (by
  have:=MH _ _ _ hf;rw[← MI,hq.1.1] at this;rw[i1,Al];exact this)
 refine VT (v := .slice (some ⟨w.heap.size,0,none⟩) len len) (w':=w.alloc (.cells c.toArray e)) hd (fun c e=>by cases e) ?_ (k _ _ (H.new (row e c)));simp only[execOp,Sem.run_bind];have e:(xs.toArray.map fun x=>(x.1,ev σ x.2))=(xs.map fun q=>(q.1,ev σ q.2)).toArray:=by simp
 rw[e,hr];rfl
theorem Rd [Q4] {E k b len:Nat} {c:List Value} (h1:c.length=len*k) (H:Q0 w (pts b (row E c)::l)) (h2:len≤9223372036854775807:=by first|decide|omega):Q0 w (QF E k (.slice (some ⟨b,0,none⟩) len len) c::l):=
 Gn (spare:=[]) h1 ⟨Nat.le_refl _,h2⟩ (by simp) (by simpa using H)
theorem Wu [Q4] {id:Nat} {o:List Oper} (H:Q0 w l) (hm:P.follows .mixedOrders=true)
  (h:∀ w',Q0 w' l→Any P n r o.toArray [] (fun σ w=>Q .normal ms σ w) o.length (Array.replicate o.length false) σ w'):C P n r (.region id o.toArray true) Q ms σ w:=
 dl hm (h _ (H.heap rfl))
theorem eJ [Q4] {E:TypeId} {v:Value} (H:Q0 w l) (hx:fo (ev σ x)=some v) (ho:v.oneCell'=true) (hd:Qs n d=true)
  (k:∀ b w',Q0 w' (pts b (row E [v])::l)→K (put σ d (.pointer (some ⟨b,0,none⟩))) w'):St P n r ⟨d,.box E x,u,p,af,g⟩ σ w K:=
 dj H (Ef hx) hd (by
  have hc:VA v=[v]:=by cases v <;> first|rfl|(simp[Value.oneCell'] at ho)
  rw[hc];exact k)
theorem En [Q4] {E:TypeId} {c:List Value} (H:Q0 w l) (hx:ev σ x = .agg c.toArray) (hd:Qs n d=true)
  (k:∀ b w',Q0 w' (pts b (row E c)::l)→K (put σ d (.pointer (some ⟨b,0,none⟩))) w'):St P n r ⟨d,.box E x,u,p,af,g⟩ σ w K:=
 dj H hx hd (by
  have hc:VA (.agg c.toArray)=c:=by simp[VA]
  rw[hc];exact k)
def sel {α:Type}:List Nat→Nat→List α→List α
 | [],d,l=>l.drop d
 | i::is,d,l=>match pull i l with
  | []=>[]
  | b::r=>b::sel is d r
theorem Pj:∀ (is:List Nat) (d:Nat) {l:List Q2} {h:Hp},Vq l h→Vq (sel is d l) h
 | [],0,l,h,s=>s
 | [],d+1,[],h,s=>s
 | [],d+1,_::l,h,s=>Pj [] d (D3 s)
 | i::is,d,l,h,s=>by
  have s':=PE (PF i l) s;simp only[sel];cases hp:pull i l with
  | nil=>exact trivial
  | cons b r=>rw[hp] at s';exact M7 (fun _=>Pj is d) s'
theorem Q0.sel [Q4] (is:List Nat) (d:Nat) (H:Q0 w l):Q0 w (SL.sel is d l):=⟨Pj is d H.1,H.2⟩
theorem ny {op:BinOp} {yt:TypeId} {a b c e:Int} (i:Nat) (hi:ops[i]? = some ⟨d,.binOp op t x y yt,u,p,af,g⟩) (hg:Q8 ops σ ⟨d,.binOp op t x y yt,u,p,af,g⟩ true) [h:C0 P t] (hx:ev σ x = .agg #[.int .i64 a,.int .i64 b]) (hy:ev σ y = .agg #[.int .i64 c,.int .i64 e]) (ho:op = .eql∨op = .neq)
  (hs:ZW n ops (ivs.map (·.1)) L i []=true) (k:Any P n r ops ivs T f (L.setIfInBounds i true) (put σ d (.bool (if ZA op then decide ((a,b)=(c,e)) else !decide ((a,b)=(c,e))))) w):Any P n r ops ivs T (f+1) L σ w:=
 KC i hi hg (fun c e=>by cases e) (fun w=>by simp only[execOp,hx,hy,Sem.run_bind];rw[← Sem.run_bind,eW h op a b c e x y ho];rfl) hs k
theorem nz {op:BinOp} {yt:TypeId} {a:Option Addr} (i:Nat) (hi:ops[i]? = some ⟨d,.binOp op t x y yt,u,p,af,g⟩) (hg:Q8 ops σ ⟨d,.binOp op t x y yt,u,p,af,g⟩ true) [h:KA P t] (hx:ev σ x = .pointer a) (hy:ev σ y = .pointer none) (ho:op = .eql∨op = .neq)
  (hs:ZW n ops (ivs.map (·.1)) L i []=true) (k:Any P n r ops ivs T f (L.setIfInBounds i true) (put σ d (.bool (if ZA op then a.isNone else a.isSome))) w):Any P n r ops ivs T (f+1) L σ w:=
 KC i hi hg (fun c e=>by cases e) (fun w=>by simp only[execOp,hx,hy,Sem.run_bind];rw[← Sem.run_bind,eR h op a x y yt ho];rfl) hs k
theorem Uf {places:List (Nat×Nat)} {zv:Value} {xs:List (Nat×Operand)} {c:List Value} (i:Nat) (hi:ops[i]? = some ⟨d,.build t xs.toArray,u,p,af,g⟩) (hg:Q8 ops σ ⟨d,.build t xs.toArray,u,p,af,g⟩ true) [hB:Zf P t places] [hz:VI P t zv] (Zg:Em (places[·]?) (VA zv) (xs.map fun q=>(q.1,ev σ q.2))=some c)
  (hs:ZW n ops (ivs.map (·.1)) L i []=true) (k:Any P n r ops ivs T f (L.setIfInBounds i true) (put σ d (.agg c.toArray)) w):Any P n r ops ivs T (f+1) L σ w:=
 KC i hi hg (fun c e=>by cases e) (fun w=>by
  have hf:=MF Zg;have:=eH (w:=w) hB hz _ hf;simp only[execOp,Sem.run_bind];have e:(xs.toArray.map fun x=>(x.1,ev σ x.2))=(xs.map fun q=>(q.1,ev σ q.2)).toArray:=by simp
  rw[e,this];rfl) hs k
theorem QI [Q4] {E k m:Nat} {v:Value} {c:List Value} (H:Q0 w (QF E k v c::l)) (hc:c.length=m*k) (k0:0 < k):∃ a cap,v = .slice a m cap:=by
 rcases XI H with ⟨rfl,h0,_⟩|⟨b,len,cap,spare,rfl,e3,_⟩
 ·rw[h0] at hc
  have:m=0:=by
   rcases Nat.mul_eq_zero.1 hc.symm with h|h
   ·exact h
   ·omega
  subst this;exact⟨none,0,rfl⟩
 ·rw[e3] at hc;have:=Nat.eq_of_mul_eq_mul_right k0 hc;subst this;exact⟨_,_,rfl⟩
theorem VY [Q4] {E k m cap:Nat} {a:Option Addr} {c:List Value} (H:Q0 w (QF E k (.slice a m cap) c::l)) (h0:0 < m) :
  ∃ b spare,a=some ⟨b,0,none⟩∧Q0 w (pts b (row E (c++spare))::l)∧∀ w' l',Q0 w' (pts b (row E (c++spare))::l')→Q0 w' (QF E k (.slice a m cap) c::l'):=by
 rcases XI H with ⟨h,_⟩|⟨b,len,cap',spare,h,e3,e4,e5,H2⟩
 ·injection h with h1 h2;omega
 ·injection h with h1 h2 h3
  subst h1 h2 h3;exact⟨b,spare,rfl,H2,fun w' l' H'=>Gn e3 e4 e5 H'⟩
theorem eL [Q4] {E:TypeId} {c:List Value} (H:Q0 w l) (hx:ev σ x = .agg c.toArray) (hd:Qs n d=true)
  (k:∀ b w',w'=w.alloc (row E c)→Q0 w' (pts b (row E c)::l)→K (put σ d (.pointer (some ⟨b,0,none⟩))) w'):St P n r ⟨d,.box E x,u,p,af,g⟩ σ w K:=by
 refine VT (v := .pointer (some ⟨w.heap.size,0,none⟩)) (w':=w.alloc (row E c)) hd (fun c e=>by cases e) ?_ (k _ _ rfl (H.new _));simp only[execOp,hx,Instr.box,newVar,newRow,Sem.run_bind,run_newObj,Result.andThen_ok,Sem.run_pure];rfl
theorem o0 [Q4] {e size bytes len:Nat} {zv:Value} {xs:List (Nat×Operand)} {c:List Value} (H:Q0 w l) [hT:Vx P t e size bytes] [hz:VI P e zv]
  (Zg:Em (fun i=>some (i*size,size)) (Yl (VA zv) len) (xs.map fun q=>(q.1,ev σ q.2))=some c) (hq:(decide ((VA zv).length=size) && decide (0 < len*size) && decide (len*size≤16777216))=true) (hd:Qs n d=true)
  (k:∀ b w',w'=w.alloc (row e c)→Q0 w' (pts b (row e c)::l)→K (put σ d (.slice (some ⟨b,0,none⟩) len len)) w'):St P n r ⟨d,.buildSlice t len xs.toArray,u,p,af,g⟩ σ w K:=by
 have hf:=MF Zg;simp only[Bool.and_eq_true,decide_eq_true_eq] at hq;obtain⟨i,hi,e2⟩:=Option.map_eq_some_iff.1 hT.info;simp only[Prod.mk.injEq] at e2;obtain⟨i1,i2⟩:=e2;obtain⟨i',Ue,UD⟩:=Option.map_eq_some_iff.1 hz.zero;have:i'=i:=by rw[hi] at Ue;cases Ue;rfl
 subst this
 have hr:=run_buildSlice (P:=P) w t e len (xs.map fun q=>(q.1,ev σ q.2)).toArray c.toArray i' zv hT.und hi UD (by rw[i1];omega) (by rw[i1];omega) (by
  have:=MH _ _ _ hf;rw[← MI,hq.1.1] at this;rw[i1,Al];exact this)
 refine VT (v := .slice (some ⟨w.heap.size,0,none⟩) len len) (w':=w.alloc (.cells c.toArray e)) hd (fun c e=>by cases e) ?_ (k _ _ rfl (H.new (row e c)));simp only[execOp,Sem.run_bind];have e:(xs.toArray.map fun x=>(x.1,ev σ x.2))=(xs.map fun q=>(q.1,ev σ q.2)).toArray:=by simp
 rw[e,hr];rfl
theorem o4 [Q4] {id:Nat} {o:List Oper} (H:Q0 w l) (hm:P.follows .mixedOrders=true)
  (h:∀ w',w'=w.drew→Q0 w' l→Any P n r o.toArray [] (fun σ w=>Q .normal ms σ w) o.length (Array.replicate o.length false) σ w'):C P n r (.region id o.toArray true) Q ms σ w:=
 dl hm (h _ rfl (H.heap rfl))
theorem Q8.of {o:Oper} {j:Nat} {want b t:Bool} (h:o.guard=some (j,want)) (hg:gv ops σ j=some b) (ht:(b == want)=t):Q8 ops σ o t:=by
 unfold Q8;rw[h];exact⟨some b,hg,by rw[← ht];cases b <;> cases want <;> rfl⟩
theorem Q8.skip {o:Oper} {j:Nat} {want:Bool} (h:o.guard=some (j,want)) (hg:gv ops σ j=Option.none):Q8 ops σ o false:=by
 unfold Q8;rw[h];exact⟨Option.none,hg,rfl⟩
theorem Qe {j:Nat} {want b:Bool} (h:o.guard=some (j,want)) (hg:gv ops σ j=some b) (ht:(b == want)=true) (k:St P n r o σ w (fun σ' w'=>Lp P n r ops Q rest ms σ' w')):Lp P n r ops Q (o::rest) ms σ w:=Hr (Q8.of h hg ht) k
theorem VW {op:Op} {j:Nat} {want b:Bool} {v:Value} (hg:gv ops σ j=some b) (ht:(b == want)=true) (hv:pv σ op=some v) (hd:Qs n d=true) (k:Lp P n r ops Q rest ms (put σ d v) w):Lp P n r ops Q (⟨d,op,u,p,af,some (j,want)⟩::rest) ms σ w:=Hr (Q8.of rfl hg ht) (df (o:=⟨d,op,u,p,af,some (j,want)⟩) hv hd k)
theorem Qz {op:Op} {j:Nat} {want b:Bool} (hg:gv ops σ j=some b) (ht:(b == want)=false) (hd:Qs n d=true) (k:Lp P n r ops Q rest ms (put σ d undef) w):Lp P n r ops Q (⟨d,op,u,p,af,some (j,want)⟩::rest) ms σ w:=dP (Q8.of rfl hg ht) hd k
theorem Wv {op:Op} {j:Nat} {want:Bool} (hg:gv ops σ j=none) (hd:Qs n d=true) (k:Lp P n r ops Q rest ms (put σ d undef) w):Lp P n r ops Q (⟨d,op,u,p,af,some (j,want)⟩::rest) ms σ w:=dP (Q8.skip rfl hg) hd k
end
end Go.SL
namespace Go.SL
open List
def LR (n l:Nat) (ps:List Tmp) (assign body:Code) (σ:QB) (D:Nat) (st:LoopState):Q2:=fun h=>
 ∃ fn tmps,tmps.size=n∧(∀ i,tmps.getD i undef=σ i)∧h l=some (.loop { state:=st,pending:=none,fn,tmps,params:=ps.toArray,assign,body,defers:=D })
def I1:QB→List Tmp→List Value→QB
 | σ,p::ps,a::as=>I1 (Wn σ p a) ps as
 | σ,_,_=>σ
section
variable {P:Program} {n:Nat} {r:Option Nat} {Q:Z7} {ms:List Nat} {σ:QB} {w:World} {l:List Q2}
theorem Eo [Q4] {m:Nat} {lb:Nat} {ps:List Tmp} {assign body:Code} {D:Nat} {st:LoopState} (H:Q0 w (LR m lb ps assign body σ D st::l)) :
  ∃ fn tmps,tmps.size=m∧(∀ i,tmps.getD i undef=σ i)∧Q0 w (pts lb (.loop { state:=st,pending:=none,fn,tmps,params:=ps.toArray,assign,body,defers:=D })::l):=by
 obtain⟨⟨f,g,a,b,d,⟨fn,tmps,h1,h2,h3⟩,y⟩,ok⟩:=H;exact⟨fn,tmps,h1,h2,⟨f,g,a,b,d,h3,y⟩,ok⟩
theorem I3 [Q4] {m:Nat} {lb:Nat} {ps:List Tmp} {assign body:Code} {D:Nat} {st:LoopState} {fn:FuncId} {tmps:Array Value} (h1:tmps.size=m) (h2:∀ i,tmps.getD i undef=σ i)
  (H:Q0 w (pts lb (.loop { state:=st,pending:=none,fn,tmps,params:=ps.toArray,assign,body,defers:=D })::l)):Q0 w (LR m lb ps assign body σ D st::l):=
 H.head fun h e=>⟨fn,tmps,h1,h2,e⟩
theorem eM {m:Nat}:∀ (ps:List Tmp) (args:List Value) (σ:QB) (tmps:Array Value),(ps.all (fun p=>Nat.blt p m))=true→Rel m [] σ { tmps:=tmps,defers:=[] } →
  Rel m [] (I1 σ ps args) { tmps:=(ps.zip args).foldl (fun tmps x=>tmps.setIfInBounds x.1 x.2) tmps,defers:=[] }
 | [],args,σ,tmps,_,h=>by simpa [I1] using h
 | p::ps,[],σ,tmps,_,h=>by simpa [I1] using h
 | p::ps,a::args,σ,tmps,hp,h=>by
  simp only[all_cons,Bool.and_eq_true] at hp;have h1:=h.put (d:=some p) a (by simpa [Qs] using hp.1);exact eM ps args _ _ hp.2 h1
theorem Kp [Q4] {m yl D:Nat} {ps:List Tmp} {args:List Value} {assign body:Code} {R:Value→World→Prop} (H:Q0 w (LR m yl ps assign body σ D .ready::l)) (hl:args.length=ps.length) (hp:(ps.all (fun p=>Nat.blt p m))=true)
  (h : C P m (some yl) assign (fun e ms σ1 w1 => e = .normal ∧ ∃ l1, Q0 w1 (LR m yl ps assign body σ D .ready :: l1) ∧ ∀ w2, Q0 w2 (LR m yl ps assign body σ D .busy :: l1) →
   C P m (some yl) body (fun e ms' σ2 w3=>e = .normal∧∃ l3,Q0 w3 (LR m yl ps assign body σ D .busy::l3)∧∀ w4,Q0 w4 (LR m yl ps assign body σ D .ready::l3)→R (.bool true) w4) ms σ1 w2) [] (I1 σ ps args) w) :
  Yields P yl args.toArray w R:=by
 obtain⟨fn,tmps,h1,h2,H1⟩:=Eo H;have hb:=H1.pts;refine⟨_,_,_,_,run_yield hb (by simpa using hl),roundIn_of_wpIn (F:=Fence.wide) trivial ?_⟩;have ra:Rel m [] σ { tmps:=tmps,defers:=[] }:=⟨h1,rfl,h2⟩;have rb:=eM ps args σ tmps hp ra
 have e0:((ps.toArray.zip args.toArray).foldl (fun tmps x=>tmps.setIfInBounds x.1 x.2) tmps)=(ps.zip args).foldl (fun tmps x=>tmps.setIfInBounds x.1 x.2) tmps:=by
  rw[← Array.foldl_toList];simp
 have hw:=h _ rb;rw[dH] at hw;show assign.wpIn (Fence.wide.inRound yl) 0 P _ { tmps:=(ps.toArray.zip args.toArray).foldl (fun tmps x=>tmps.setIfInBounds x.1 x.2) tmps,defers:=[] } w;rw[e0];refine wpIn_mono hw ?_;intro e a w1 q;cases e with
 | outgrown=>exact q.elim
 | ret=>obtain⟨_,_,_,q,_⟩:=q;cases q
 | exit id=>obtain⟨_,_,_,q,_⟩:=q;cases q
 | goto t=>obtain⟨_,_,_,q,_⟩:=q;cases q
 | panic c=>obtain⟨_,_,_,q,_⟩:=q;cases q
 | normal=>
  obtain⟨ms1,σ1,r1,_,l1,H1,k⟩:=q;obtain⟨fn',tmps',I4,Yk,H2⟩:=Eo H1;have DG:=H2.pts;refine⟨_,run_beginRound DG rfl,?_⟩;have H3:Q0 _ (LR m yl ps assign body σ D .busy::l1):=I3 (fn:=fn') (tmps:=tmps') I4 Yk (H2.set (World.putObj_heap_same H2.fresh) (fun c hc=>World.putObj_heap_other hc));have UE:=k _ H3 a r1;rw[dH] at UE;refine wpIn_mono UE ?_;intro e a w3 q;cases e with
  | outgrown=>exact q.elim
  | ret=>obtain⟨_,_,_,q,_⟩:=q;cases q
  | exit id=>obtain⟨_,_,_,q,_⟩:=q;cases q
  | goto t=>obtain⟨_,_,_,q,_⟩:=q;cases q
  | panic c=>obtain⟨_,_,_,q,_⟩:=q;cases q
  | normal=>
   obtain⟨ms3,σ3,r3,_,l3,H4,k4⟩:=q;obtain⟨fn3,tmps3,KH,Pk,H5⟩:=Eo H4;refine⟨_,_,run_endRound none H5.pts,?_⟩;exact k4 _ (I3 (fn:=fn3) (tmps:=tmps3) KH Pk (H5.set (World.putObj_heap_same H5.fresh) (fun c hc=>World.putObj_heap_other hc)))
theorem W9 [Q4] {g:Operand} {ps:List Tmp} {assign body:Code} {f:FuncId} {a b:List Value} (H:Q0 w l) (hg:ev σ g = .func (.func f) a.toArray b.toArray) [hB:QZ P f]
  (k : ∀ yl D w1, Q0 w1 (LR n yl ps assign body σ D .ready :: pts D (.deferred (some [])) :: l) →
   Calls P f ((a++[Value.func (.yield yl) #[] #[]])++b).toArray w1 (ret fun _ w2=>∃ l2,Q0 w2 (LR n yl ps assign body σ D .ready::l2)∧∀ w3,Q0 w3 l2→Q .normal (D::ms) σ w3)) :
  C P n none (.rangeFunc g ps.toArray assign body) Q ms σ w:=by
 intro act ra;refine wpIn_rangeFunc ?_;intro fn _;have H1:=H.new (.deferred (some []));have H2:=H1.new (.loop { state := .ready,pending:=none,fn,tmps:=act.tmps,params:=ps.toArray,assign,body,defers:=w.heap.size });have Va:({ w with heap:=w.heap.push (.deferred (some [])) }:World).heap.size=w.heap.size+1:=by simp
 rw[Va] at H2;have H3:=I3 (m:=n) ra.size ra.val H2;have hc:=k _ _ _ H3
 refine⟨w.heap.size+1,[{ target := .collected w.heap.size,args:=#[] }],(w.alloc (.deferred (some []))).alloc (.loop { state := .ready,pending:=none,fn,tmps:=act.tmps,params:=ps.toArray,assign,body,defers:=w.heap.size }),
  { target := .fn (.func f) b.toArray,args:=(a++[Value.func (.yield (w.heap.size+1)) #[] #[]]).toArray },(w.alloc (.deferred (some []))).alloc (.loop { state := .ready,pending:=none,fn,tmps:=act.tmps,params:=ps.toArray,assign,body,defers:=w.heap.size }),f,
  ((a++[Value.func (.yield (w.heap.size+1)) #[] #[]])++b).toArray,(w.alloc (.deferred (some []))).alloc (.loop { state := .ready,pending:=none,fn,tmps:=act.tmps,params:=ps.toArray,assign,body,defers:=w.heap.size }),run_enterLoop_outer fn act.tmps ps.toArray assign body,?_,fun _ _=>trivial,?_,fun hs=>by simp[F] at hs,PJ (r:=none) ?_⟩
 ·rw[ra.eval];simp only[rangeCall,resolve,hg,Deferred.ofValue,Sem.run_bind,Sem.run_pure,Result.andThen_ok];simp[ev]
 ·simp only[invoke];rw[MX hB];simp
 ·refine hc.mono fun e w2 q=>?_;cases e with
  | panicked c=>exact q.elim
  | outgrown=>exact q.elim
  | returned v=>
   obtain⟨l2,H4,kq⟩:=q;obtain⟨fn3,tmps3,KH,Pk,H5⟩:=Eo H4;refine⟨none,_,run_endLoop H5.pts (by simp),?_⟩;have H6:=(H5.set (w':=w2.putObj (w.heap.size+1) (.loop { state := .exhausted,pending:=none,fn:=fn3,tmps:=tmps3,params:=ps.toArray,assign,body,defers:=w.heap.size })) (World.putObj_heap_same H5.fresh) (fun c hc=>World.putObj_heap_other hc)).drop;refine⟨w.heap.size::ms,σ,⟨ra.size,?_,ra.val⟩,kq _ H6⟩;show [({ target := .collected w.heap.size,args:=#[] }:Deferred)]++act.defers=_;rw[ra.defs];rfl
end
def Zh {K V:Type} (ek:K→Value) (vv:V→Value) (v:Value) (m:List (K×V)):Q2:=fun h=>(v = .map none∧m=[])∨∃ b,v = .map (some b)∧mp ek vv b m h
def Ar {K V:Type} (ek:K→Value) (vv:V→Value) (v:Value) (m:List (K×V)) (bi:Nat) (ks:List K):Q2:=fun h=>
 (v = .map none∧m=[]∧ks=[]∧h bi=some (.mapIter none 0 #[] 0)) ∨
 ∃ (b:Nat) (es:Array MapEntry) (clock since:Nat) (seen:Array Nat),v = .map (some b)∧h b=some (.map es clock)∧GX ek vv es clock m∧h bi=some (.mapIter (some b) since seen clock)∧since≤clock∧(∀ e∈es.toList,e.born < since) ∧
  ks.Nodup∧(∀ y∈ks,y∈m.map (·.1))∧(∀ e∈es.toList,∀ y,e.key=ek y→(y∈ks↔e.born∈seen))∧(∀ y,ks.getLast? = some y→∃ e∈es.toList,seen.back? = some e.born∧e.key=ek y)
theorem MJ {α β:Type} {f:α→β}:∀ {l:List α},(l.map f).Nodup→∀ {a b:α},a∈l→b∈l→f a=f b→a=b
 | c::l,hn,a,b,ha,hb,e=>by
  simp only[map_cons,nodup_cons] at hn
  rcases mem_cons.1 ha with rfl|ML <;> rcases mem_cons.1 hb with rfl|DU
  ·rfl
  ·exact absurd (by rw[e];exact mem_map_of_mem DU) hn.1
  ·exact absurd (by rw[← e];exact mem_map_of_mem ML) hn.1
  ·exact MJ hn.2 ML DU e
theorem eN {α β:Type} {f:α→β} (hf:∀ a b,f a=f b→a=b):∀ {l:List α},l.Nodup→(l.map f).Nodup
 | [],_=>by simp
 | c::l,hn=>by
  simp only[map_cons,nodup_cons] at hn ⊢;refine⟨fun hm=>?_,eN hf hn.2⟩;obtain⟨d,hd,e⟩:=mem_map.1 hm;exact hn.1 (hf _ _ e▸hd)
section
variable {P:Program} {n:Nat} {r:Option Nat} {σ:QB} {w:World} {K':QB→World→Prop} {l:List Q2}
variable {K V:Type} [DecidableEq K] {ek:K→Value} {vv:V→Value} {m:List (K×V)} {t k e:TypeId}
variable {u ut:TypeId} {p:String} {af:Array Edge} {g:Option (Nat×Bool)} {d:Option Tmp} {x:Operand}
theorem MM [Q4] {b:Nat} (H:Q0 w (mp ek vv b m::l)):Q0 w (Zh ek vv (.map (some b)) m::l):=H.head fun h hm => .inr ⟨b,rfl,hm⟩
theorem eO [Q4] (ek:K→Value) (vv:V→Value) (H:Q0 w l):Q0 w (Zh ek vv (.map none) []::l):=⟨⟨fun _=>none,hp w,fun _ _ e=>(by cases e),Yf.rfl' _,fun _ _ _ e=>(by cases e),.inl ⟨rfl,rfl⟩,H.1⟩,H.2⟩
theorem Pm [Q4] {v:Value} {bi:Nat} {ks:List K} (H:Q0 w (Ar ek vv v m bi ks::l)):Q0 w (Zh ek vv v m::l):=H.head fun h hm=>by
 rcases hm with ⟨h1,h2,_⟩|⟨b,es,clock,since,seen,h1,h2,h3,_⟩
 ·exact .inl ⟨h1,h2⟩
 ·exact .inr ⟨b,h1,es,clock,h2,h3⟩
theorem Pn [Q4] {v:Value} (ek:K→Value) (vv:V→Value) {m:List (K×V)} (H:Q0 w (Zh ek vv v m::l)) (hx:ev σ x=v) [hM:G3 P t k e] (hd:Qs n d=true)
  (kk:∀ bi w',Q0 w' (Ar ek vv v m bi []::l)→K' (put σ d (.pointer (some ⟨bi,0,none⟩))) w'):St P n r ⟨d,.range t x,u,p,af,g⟩ σ w K':=by
 obtain⟨⟨f,g',a,b',dd,hm,y⟩,okw⟩:=H
 rcases hm with ⟨rfl,rfl⟩|⟨b,rfl,es,clock,h2,h3⟩
 ·refine VT (v := .pointer (some ⟨w.heap.size,0,none⟩)) (w':=w.alloc (.mapIter none 0 #[] 0)) hd (fun c e=>by cases e) ?_ (kk _ _ ?_)
  ·simp only[execOp,hx,Sem.run_bind,run_range_nilMap w t k e hM.und,Result.andThen_ok];rfl
  ·have H':Q0 w l:=⟨Ee b' y,okw⟩;exact(H'.new (.mapIter none 0 #[] 0)).head fun h e => .inl ⟨rfl,rfl,rfl,e⟩
 ·have hb:=a _ _ h2;refine VT (v := .pointer (some ⟨w.heap.size,0,none⟩)) (w':=w.alloc (.mapIter (some b) clock #[] clock)) hd (fun c e=>by cases e) ?_ (kk _ _ ?_)
  ·simp only[execOp,hx,Sem.run_bind,run_range_map w t k e b es clock hM.und hb,Result.andThen_ok];rfl
  ·have QA:b≠w.heap.size:=by
    have:=(Array.getElem?_eq_some_iff.1 hb).1;omega
   have H':Q0 w (pts b (.map es clock)::l):=⟨⟨f,g',a,b',dd,h2,y⟩,okw⟩;have H2:=H'.new (.mapIter (some b) clock #[] clock);obtain⟨⟨f1,g1,a1,b1,d1,x1,f2,g2,a2,b2,d2,x2,y2⟩,ok2⟩:=H2;refine⟨⟨XE f1 f2,g2,MV a1 (a2.trans b1),b2.trans b1,MY (d1.mono (Yf.rfl' _) b2) d2,?_,y2⟩,ok2⟩;refine .inr ⟨b,es,clock,clock,#[],rfl,M9 (d1.mono (Yf.rfl' _) a2) _ _ x2,h3,M8 _ _ x1,Nat.le_refl _,h3.born,by simp,by simp,by simp,by simp⟩
theorem o5 {ty:TypeId} {b bi since clock:Nat} {seen:Array Nat} {es:Array MapEntry} (C4:w.heap[bi]? = some (.mapIter (some b) since seen clock)) (hb:w.heap[b]? = some (.map es clock)) (PD:∀ x∈es.toList,x.born < since) (eP:since≤clock) :
  ((leftOf es seen).size=0∧∃ w',(Instr.next (.pointer (some ⟨bi,0,none⟩)) false ty).run P w = .ok (.tuple #[.bool false]) w'∧w'.heap=w.heap∧UB w w') ∨
  ∃ e∈(leftOf es seen).toList,∃ w':World,(Instr.next (.pointer (some ⟨bi,0,none⟩)) false ty).run P w = .ok (.tuple #[.bool true,e.key,e.val]) w' ∧
   w'.heap[bi]? = some (.mapIter (some b) since (seen.push e.born) clock)∧(∀ c,c≠bi→w'.heap[c]? = w.heap[c]?)∧UB w w':=by
 have Q6:bi < w.heap.size:=(Array.getElem?_eq_some_iff.1 C4).1;simp only[Instr.next,getObj,Sem.run_bind,Sem.run,C4,hb,Result.andThen,next_test_false seen es since clock PD eP,Bool.false_eq_true,if_false];unfold leftOf;have VR:∀ x∈(Array.filter (fun e => !seen.contains e.born) es).toList,x.born < since:=fun x hx=>PD x (by simp at hx ⊢;exact hx.1);generalize Array.filter (fun e => !seen.contains e.born) es=L at VR ⊢;have e1:L.filter (fun x=>decide (x.born < since))=L:=Array.filter_eq_self.2 (fun x hx=>by simpa using VR x (by simpa using hx))
 have e2:L.filter (fun x=>decide (x.born≥since))=#[]:=by
  rw[Array.filter_eq_empty_iff];intro x hx;have:=VR x (by simpa using hx);simp;omega
 simp only[e1,e2,Array.append_empty];by_cases h0:L.size=0
 ·left;have:L=#[]:=Array.eq_empty_of_size_eq_zero h0;subst this;refine⟨rfl,w,?_,rfl,UB.refl w⟩;simp[choose,Sem.run,Question.forced]
 ·right;have QA:L.isEmpty=false:=by simp[Array.isEmpty,h0]
  simp only[QA,Bool.false_eq_true,if_false,Array.empty_append,Array.size_map]
  have YV:∃ (j:Nat) (w1:World),j < L.size∧(w1.heap=w.heap∧UB w w1)∧(choose (Question.mapNext L.size)).run P w = .ok j w1:=by
   by_cases hf:L.size≤1
   ·exact⟨0,w,by omega,⟨rfl,rfl,rfl⟩,by simp[choose,Sem.run,Question.forced,hf]⟩
   ·exact⟨_,w.drew,Nat.mod_lt _ (by omega),⟨rfl,rfl,rfl⟩,by
     simp only[choose,Sem.run,Question.forced,decide_eq_true_eq,hf,if_false,Question.cut];rfl⟩
  obtain⟨j,w1,hj,⟨I5,Zi⟩,X0⟩:=YV;have o6:w1.heap[bi]? = some (.mapIter (some b) since seen clock):=by rw[I5];exact C4
  refine⟨L[j],by simp,w1.putObj bi (.mapIter (some b) since (seen.push L[j].born) clock),?_,World.putObj_heap_same (by rw[I5];exact Q6),fun c hc=>by rw[World.putObj_heap_other hc,I5],Zi⟩;simp only[X0,Array.getElem?_map,Array.getElem?_eq_getElem hj,Option.map_some,Sem.run_bind,Result.andThen]
  have Zo:(setObj bi (.mapIter (some b) since (seen.push L[j].born) clock)).run P w1 = .ok () (w1.putObj bi (.mapIter (some b) since (seen.push L[j].born) clock)):=by
   simp[setObj,Sem.run,o6,World.putObj]
  simp only[Zo];rfl
theorem Po [Q4] {v:Value} {bi:Nat} {ks:List K} (H:Q0 w (Ar ek vv v m bi ks::l)) (hi:∀ a b,ek a=ek b→a=b) (hx:ev σ x = .pointer (some ⟨bi,0,none⟩)) (hd:Qs n d=true)
  (kend:ks.Perm (m.map (·.1))→∀ w',Q0 w' (Ar ek vv v m bi ks::l)→K' (put σ d (.tuple #[.bool false])) w')
  (kstep:∀ q∈m,q.1∉ks→ks.Nodup→(∀ y∈ks,y∈m.map (·.1))→∀ w',Q0 w' (Ar ek vv v m bi (ks++[q.1])::l)→K' (put σ d (.tuple #[.bool true,ek q.1,vv q.2])) w'):St P n r ⟨d,.next x false,u,p,af,g⟩ σ w K':=by
 obtain⟨⟨f,g',a,b',dd,hm,y⟩,okw⟩:=H
 rcases hm with ⟨rfl,rfl,rfl,h0⟩|⟨b,es,clock,since,seen,rfl,h1,h2,h3,h4,h5,h6,h7,h8,h9⟩
 ·have hb:w.heap[bi]? = some (.mapIter none 0 #[] 0):=a _ _ h0;refine VT (v := .tuple #[.bool false]) (w':=w) hd (fun c e=>by cases e) ?_ (kend (by simp) w ⟨⟨f,g',a,b',dd,.inl ⟨rfl,rfl,rfl,h0⟩,y⟩,okw⟩);simp only[execOp,hx,Instr.next,getObj,Sem.run_bind,Sem.run,hb,Result.andThen];rfl
 ·have hb:w.heap[b]? = some (.map es clock):=a _ _ h1;have C4:w.heap[bi]? = some (.mapIter (some b) since seen clock):=a _ _ h3;have bn:(es.toList.map (·.born)).Nodup:=h2.rise.imp fun h=>Nat.ne_of_lt h;have kn:(es.toList.map (·.key)).Nodup:=by rw[h2.keys];exact eN hi h2.nodup
  rcases o5 (P:=P) (ty:=u) C4 hb h5 h4 with ⟨h0,w',hr,hw,Zi⟩|⟨e,he,w',hr,hbi',C5,Zi⟩
  ·refine VT (v := .tuple #[.bool false]) (w':=w') hd (fun c e=>by cases e) ?_ (kend ?_ w' ?_)
   ·simp only[execOp,hx,Sem.run_bind,hr,Result.andThen_ok];rfl
   ·refine(perm_ext_iff_of_nodup h6 h2.nodup).2 fun z=>⟨h7 z,fun hz=>?_⟩;have:ek z∈es.toList.map (·.key):=by rw[h2.keys];exact mem_map_of_mem hz
    obtain⟨e,he,ee⟩:=mem_map.1 this;refine(h8 e he z ee).2 ?_;have hl:leftOf es seen=#[]:=Array.eq_empty_of_size_eq_zero h0;unfold leftOf at hl;rw[Array.filter_eq_empty_iff] at hl;have:=hl e (by simpa using he);simpa using this
   ·exact Q0.heap (w:=w) ⟨⟨f,g',a,b',dd,.inr ⟨b,es,clock,since,seen,rfl,h1,h2,h3,h4,h5,h6,h7,h8,h9⟩,y⟩,okw⟩ hw Zi
  ·have Kq:e∈es.toList∧e.born∉seen:=by
    have:=mem_left he;refine⟨this.1,?_⟩;simpa using this.2
   obtain⟨j,hj⟩:=getElem?_of_mem Kq.1;obtain⟨q,hq,ek1,ev1⟩:=h2.at hj;have eS:q∈m:=mem_of_getElem? hq;have eT:q.1∉ks:=fun hk=>Kq.2 ((h8 e Kq.1 q.1 ek1).1 hk);refine VT (v := .tuple #[.bool true,ek q.1,vv q.2]) (w':=w') hd (fun c e=>by cases e) ?_ (kstep q eS eT h6 h7 w' ?_)
   ·simp only[execOp,hx,Sem.run_bind,hr,Result.andThen_ok,ek1,ev1];rfl
   ·have QA:b≠bi:=fun e0=>by rw[e0,C4] at hb;cases hb
    refine⟨⟨fun c=>if c=bi then some (.mapIter (some b) since (seen.push e.born) clock) else f c,g',?_,?_,?_,.inr ⟨b,es,clock,since,seen.push e.born,rfl,?_,h2,?_,h4,h5,?_,?_,?_,?_⟩,y⟩,okw.same Zi⟩
    ·intro c o hc;by_cases YL:c=bi
     ·subst YL;simp at hc;subst hc;exact hbi'
     ·simp[YL] at hc;exact(C5 c YL).trans (a c o hc)
    ·intro c o hc;have YL:c≠bi:=fun e0=>by subst e0;exact dd _ _ _ h3 hc
     exact(C5 c YL).trans (b' c o hc)
    ·intro c o o' hc G0;by_cases YL:c=bi
     ·subst YL;exact dd _ _ _ h3 G0
     ·simp[YL] at hc;exact dd _ _ _ hc G0
    ·simp[QA,h1]
    ·simp
    ·rw[nodup_append];exact⟨h6,by simp,fun c hc c' G0 e0=>by simp at G0;subst G0;subst e0;exact eT hc⟩
    ·intro z hz
     rcases mem_append.1 hz with hz|hz
     ·exact h7 z hz
     ·simp at hz;subst hz;exact mem_map_of_mem eS
    ·intro e2 I6 z hz;rw[mem_append,Array.mem_push,h8 e2 I6 z hz];simp only[mem_singleton];constructor
     ·rintro(h|rfl)
      ·exact .inl h
      ·exact .inr (by rw[MJ kn I6 Kq.1 (hz.trans ek1.symm)])
     ·rintro(h|h)
      ·exact .inl h
      ·have:=MJ bn I6 Kq.1 h;subst this;exact .inr (hi _ _ (hz.symm.trans ek1))
    ·intro z hz;simp at hz;subst hz;exact⟨e,Kq.1,by simp,ek1⟩
theorem Pp [Q4] {v:Value} {bi:Nat} {ks:List K} {q:K×V} (H:Q0 w (Ar ek vv v m bi (ks++[q.1])::l)) (hi:∀ a b,ek a=ek b→a=b) (hq:q∈m) (hx:ev σ x = .pointer (some ⟨bi,0,none⟩)) (hd:Qs n d=true)
  (kk:K' (put σ d (.tuple #[ek q.1,vv q.2])) w):St P n r ⟨d,.entry x,u,p,af,g⟩ σ w K':=by
 obtain⟨⟨f,g',a,b',dd,hm,y⟩,okw⟩:=H
 rcases hm with ⟨rfl,rfl,hk,h0⟩|⟨b,es,clock,since,seen,rfl,h1,h2,h3,h4,h5,h6,h7,h8,h9⟩
 ·simp at hk
 ·have hb:w.heap[b]? = some (.map es clock):=a _ _ h1;have C4:w.heap[bi]? = some (.mapIter (some b) since seen clock):=a _ _ h3;have bn:(es.toList.map (·.born)).Nodup:=h2.rise.imp fun h=>Nat.ne_of_lt h;obtain⟨e,he,hs,ek1⟩:=h9 q.1 (by simp);obtain⟨j,hj⟩:=getElem?_of_mem he;obtain⟨q',Ww,ek2,ev2⟩:=h2.at hj;have o7:q'=q:=MJ h2.nodup (mem_of_getElem? Ww) hq (hi _ _ (ek2.symm.trans ek1));subst o7;refine VT (v := .tuple #[ek q'.1,vv q'.2]) (w':=w) hd (fun c e=>by cases e) ?_ kk;have hf:es.find? (·.born == e.born)=some e:=by rw[← Array.find?_toList];exact find_born e es.toList bn he
  simp only[execOp,hx,Instr.entry,getObj,Sem.run_bind,Sem.run,C4,hb,Result.andThen,hs,bne_self_eq_false,Bool.false_eq_true,if_false,hf,ek2,ev2];rfl
end
end Go.SL
namespace Go.SL
section
variable {P:Program} {n:Nat} {r:Option Nat} {σ:QB} {w:World} {K:QB→World→Prop}
variable {u t:TypeId} {p:String} {af:Array Edge} {g:Option (Nat×Bool)} {d:Option Tmp} {x y z:Operand}
end
end Go.SL
namespace Go.SL
open List
section
variable {P:Program} {n:Nat} {r:Option Nat} {ops:Array Oper} {Q:Z7} {ms:List Nat} {σ:QB} {w:World} {rest:List Oper} {o:Oper} {K:QB→World→Prop} {l l':List Q2}
variable {ivs:List (List Nat×(World→Prop))} {T:QB→World→Prop} {f:Nat} {L:Array Bool}
variable {u t s:TypeId} {p:String} {af:Array Edge} {g:Option (Nat×Bool)} {d:Option Tmp} {x y z:Operand}
theorem Z0 {c:Code} {Q:Z7} (I:List Nat→QB→World→Prop) (h:C P n r c (fun e ms σ w=>(e = .normal∧I ms σ w)∨(e ≠ .normal∧Q e ms σ w)) ms σ w) (k:∀ ms σ w,I ms σ w→Q .normal ms σ w):C P n r c Q ms σ w:=
 dL h fun e ms σ w q=>by
  rcases q with ⟨rfl,q⟩|⟨_,q⟩
  ·exact k _ _ _ q
  ·exact q
theorem eb {k k' q:IntKind} {i:Int} (hs:Wr P s k') (ht:Wr P t k):(convert s t (.int q i)).run P w = .ok (.int k (k.wrap i)) w:=by
 unfold convert;simp only[Sem.run_bind,YS hs.und,YS ht.und,Result.andThen_ok,Conv.intToInt,Sem.run_pure]
theorem Pq {k k' q:IntKind} {i:Int} [hs:Wr P s k'] [ht:Wr P t k] (hx:ev σ x = .int q i) (hd:Qs n d=true) (h:K (put σ d (.int k (k.wrap i))) w):St P n r ⟨d,.convert s t x,u,p,af,g⟩ σ w K:=
 VT hd (fun c e=>by cases e) (by simp only[execOp,hx,Sem.run_bind,eb hs ht,Result.andThen_ok,Sem.run_pure]) h
theorem KI {k k' q:IntKind} {i:Int} (j:Nat) (hj:ops[j]? = some ⟨d,.convert s t x,u,p,af,g⟩) (hg:Q8 ops σ ⟨d,.convert s t x,u,p,af,g⟩ true) [hs:Wr P s k'] [ht:Wr P t k] (hx:ev σ x = .int q i)
  (hb:ZW n ops (ivs.map (·.1)) L j []=true) (h:Any P n r ops ivs T f (L.setIfInBounds j true) (put σ d (.int k (k.wrap i))) w):Any P n r ops ivs T (f+1) L σ w:=
 KC j hj hg (fun c e=>by cases e) (fun w=>by simp only[execOp,hx,Sem.run_bind,eb hs ht,Result.andThen_ok,Sem.run_pure]) hb h
theorem o8 {e size bytes len cap:Nat} {a:Option Addr} (hT:Vx P t e size bytes) (op:BinOp) (X Y:Operand) (ho:op = .eql∨op = .neq) :
  (do eqGuard op t X Y (.slice a len cap) (.slice none 0 0);binOp op t (.slice a len cap) (.slice none 0 0):Sem Value).run P w = .ok (.bool (if ZA op then a.isNone else a.isSome)) w:=by
 have h1:(Op.equal t (.slice a len cap) (.slice none 0 0)).run P w = .ok a.isNone w:=by
  unfold Op.equal Op.maxDepth Op.equalIn;simp only[Sem.run_bind,YS hT.und,Result.andThen_ok];cases a <;> rfl
 rcases ho with rfl|rfl
 ·simp[eqGuard,binOp,h1,ZA]
 ·simp[eqGuard,binOp,h1,ZA]
theorem o9 {op:BinOp} {yt:TypeId} {e size bytes len cap:Nat} {a:Option Addr} [hT:Vx P t e size bytes] (hx:ev σ x = .slice a len cap) (hy:ev σ y = .slice none 0 0) (ho:op = .eql∨op = .neq) (hd:Qs n d=true)
  (k:K (put σ d (.bool (if ZA op then a.isNone else a.isSome))) w):St P n r ⟨d,.binOp op t x y yt,u,p,af,g⟩ σ w K:=
 VT hd (fun c e=>by cases e) (by simp only[execOp,hx,hy,Sem.run_bind];rw[← Sem.run_bind,o8 hT op x y ho];rfl) k
inductive XJ (P:Program) (σ:QB) (w:World):List ResultVar→List Value→Prop
 | nil:XJ P σ w [] []
 | tmp {t:Tmp} {rs:List ResultVar} {vs:List Value} (h:XJ P σ w rs vs):XJ P σ w (.tmp t::rs) (σ t::vs)
 | cell {a:Tmp} {t:TypeId} {b i:Nat} {v:Value} {rs:List ResultVar} {vs:List Value} (ha:σ a = .pointer (some ⟨b,i,none⟩)) (hv:(loadVar t ⟨b,i,none⟩).run P w = .ok v w) (h:XJ P σ w rs vs):XJ P σ w (.cell a t::rs) (v::vs)
theorem Pr {G:ResultVar→Sem Value} (h1:∀ t,G (.tmp t)=pure (σ t)) (h2:∀ a t,G (.cell a t)=(do loadVar t (← asAddr (σ a)))):∀ {rs:List ResultVar} {vs:List Value},XJ P σ w rs vs→(rs.mapM G).run P w = .ok vs w
 | _,_,.nil=>rfl
 | _,_,.tmp h=>by
  rw[mapM_cons,h1];have ih:=Pr h1 h2 h;simp only[Sem.run_bind,ih,Result.andThen,Sem.run_pure]
 | _,_,.cell ha hv h=>by
  rw[mapM_cons,h2,ha];have ih:=Pr h1 h2 h;simp only[asAddr,Sem.run_bind,Sem.run_pure,Result.andThen,hv,ih]
theorem ef {fn:Func} {a:Act} {vs:List Value} (ra:Rel n ms σ a) (h:XJ P σ w fn.results.toList vs):(results fn a.tmps).run P w = .ok (Aj vs) w:=by
 unfold results;rw[← Array.toArray_toList (xs:=fn.results),mapM_toArray];simp only[Sem.run_bind,Sem.run_map];rw[Pr (σ:=σ) (fun t=>by simp only[ra.val]) (fun a t=>by simp only[ra.val]) h];simp only[Result.andThen];cases vs with
 | nil=>rfl
 | cons v vs=>cases vs <;> rfl
theorem I7 [Q4] {fn:Func} {R:Value→World→Prop} {e:Exit} {vs:List Value} (l:List Q2) (he:e = .normal∨e = .ret) (H:Q0 w l)
  (hv:∀ w',Q0 w' l→XJ P σ w' fn.results.toList vs) (hR:∀ w',Q0 w' l→R (Aj vs) w'):Bw P n fn R e [] σ w:=
 ⟨he,.inl ⟨l,mk_nil H,fun w' H' a ra=>⟨_,ef ra (hv w' H'),hR w' H'⟩⟩⟩
theorem XJ.cellN [Q4] {a:Tmp} {t:TypeId} {b i E m:Nat} {fz:Nat×Nat} {c vs:List Value} {rs:List ResultVar} {us:List Value} (H:Q0 w l) (ha:σ a = .pointer (some ⟨b,i,none⟩)) [h1:TN P t m] [hA:At b (.cells c.toArray E fz) l] (hv:QY c i m vs) (h:XJ P σ w rs us):XJ P σ w (.cell a t::rs) (.agg vs.toArray::us):=
 .cell ha (PO (P:=P) h1 (hA.get _ H.1) hv) h
theorem XJ.cell1 [Q4] {a:Tmp} {t:TypeId} {b i E:Nat} {fz:Nat×Nat} {c:List Value} {v:Value} {rs:List ResultVar} {us:List Value} (H:Q0 w l) (ha:σ a = .pointer (some ⟨b,i,none⟩)) [h1:T1 P t] [hA:At b (.cells c.toArray E fz) l] (hv:c[i]? = some v) (h:XJ P σ w rs us):XJ P σ w (.cell a t::rs) (v::us):=
 .cell ha (PN (P:=P) h1 (hA.get _ H.1) hv) h
end
end Go.SL
