/- Cells: what is proved on the way: every input of the statement; no condition. Texts joined: SlF SlG SlH SlK SlL. -/
import Derived.Test.YtmjdnljneifpcaaGreatDoorBea
import Derived.Laws.AppendOwn
import Derived.Laws.Tables
import Derived.Great.BuildSlice
import Derived.RangeFuncIn
import Derived.RangeFuncRecord
import Derived.Laws.IdiomRangeMap
import Derived.Laws.IdiomStrings
import Derived.Lib.Bytealg
import Derived.Laws.Externs
import Derived.Laws.Slices
set_option linter.unusedVariables false
set_option linter.unusedSimpArgs false
set_option linter.unusedSectionVars false
namespace Go.SL
open List
section
variable {P:Program} {k:TypeId}
class Wj (P:Program) (t:TypeId) (q:outParam IntKind):Prop where
 und:P.underlying t=some (.int q)
@[reducible] def ki (q:IntKind):Int→Value:=fun x => .int q x
@[reducible] def kp:Int×Int→Value:=fun x => .agg #[.int .i64 x.1,.int .i64 x.2]
@[reducible] def ks:ByteArray→Value:=fun x => .string x
theorem dl {q:IntKind} (x:Int):∀ (es:List MapEntry) (ks:List Int) (i:Nat),es.map (·.key)=ks.map (ki q) →
  (Instr.findNow (.int q) (ki q x) es i=some none∧x∉ks)∨∃ j e,Instr.findNow (.int q) (ki q x) es i=some (some (i+j,e.val))∧es[j]? = some e∧ks[j]? = some x
 | [],[],_,_ => .inl ⟨rfl,by simp⟩
 | [],_::_,_,h=>by simp at h
 | _::_,[],_,h=>by simp at h
 | e::es,y::ks,i,h=>by
  simp only[map_cons,List.cons.injEq] at h;by_cases Yv:x=y
  ·subst Yv;exact .inr ⟨0,e,by simp[Instr.findNow,Instr.sameNow,h.1],rfl,rfl⟩
  ·have hb:(x == y)=false:=by simpa using Yv
   rcases dl x es ks (i+1) h.2 with ⟨h1,h2⟩|⟨j,e',h1,h2,h3⟩
   ·exact .inl ⟨by simp[Instr.findNow,Instr.sameNow,h.1,hb,h1],by simp[Yv,h2]⟩
   ·exact .inr ⟨j+1,e',by simp[Instr.findNow,Instr.sameNow,h.1,hb,h1];omega,by simpa using h2,by simpa using h3⟩
theorem nB {q:IntKind} (h:Wj P k q):XA P k (ki q) where
 inj:=fun a b e=>by simpa using e
 check:=fun w em x=>by
  unfold Instr.checkKey;simp only[Sem.run_bind,YP h.und,Result.andThen_ok,ki];rfl
 stays:=fun w x=>by simp[Instr.keyThatStays,Instr.sameBits]
 find:=fun w x es l hl=>by
  unfold Instr.findKey;simp only[Sem.run_bind,YP h.und,Result.andThen_ok]
  rcases dl x es l 0 hl with ⟨h1,h2⟩|⟨j,e,h1,h2,h3⟩
  ·exact .inl ⟨by rw[h1];rfl,h2⟩
  ·exact .inr ⟨j,e,by rw[h1];simp,h2,h3⟩
structure dm (P:Program) (t:TypeId) {A:Type} (enc:A→Value) (eq:A→A→Bool):Prop where
 run:∀ (d:Nat) (w:World) (x y:A),(Op.equalIn (d+3) t (enc x) (enc y)).run P w = .ok (eq x y) w
class Bm (P:Program) (t:TypeId):Prop where
 und:∃ f g a b,P.underlying t=some (.struct #[f,g])∧f.name ≠ "_" ∧ g.name ≠ "_" ∧ f.offset=0∧g.offset=1∧P.underlying f.type=some (.int a)∧P.underlying g.type=some (.int b)
 one:∀ f g,P.underlying t=some (.struct #[f,g])→T1 P f.type∧T1 P g.type
 held:P.stoodInHeld t=false
 guard:P.eqGuardType P.depth t=false
theorem dn {t:TypeId} (h:Bm P t):dm P t kp (fun x y=>x.1 == y.1 && x.2 == y.2) where
 run:=fun d w x y=>by
  obtain⟨f,g,a,b,h1,h2,h3,h4,h5,h6,h7⟩:=h.und;obtain⟨o1,o2⟩:=h.one f g h1;have hf:P.fieldsOf t=#[f,g]:=by simp[Program.fieldsOf,h1]
  rw[run_equalIn_struct w (d+2) t _ _ (by rw[hf];exact h1) h.held,hf];have p1:∀ (u v:Int),(part f.type #[.int .i64 u,.int .i64 v] f.offset).run P w = .ok (.int .i64 u) w:=fun u v=>EI o1 (c:=[.int .i64 u,.int .i64 v]) (by rw[h4];rfl);have p2:∀ (u v:Int),(part g.type #[.int .i64 u,.int .i64 v] g.offset).run P w = .ok (.int .i64 v) w:=fun u v=>EI o2 (c:=[.int .i64 u,.int .i64 v]) (by rw[h5];rfl);simp only[Op.eqFields,h2,h3,ne_eq,not_false_eq_true,if_true,Sem.run_bind,p1,p2,Result.andThen_ok,run_equalIn_int w (d+1) f.type .i64 a _ _ h6,run_equalIn_int w (d+1) g.type .i64 b _ _ h7];cases h8:(x.1 == y.1)
  ·simp
  ·cases h9:(x.2 == y.2) <;> simp[p2,run_equalIn_int w (d+1) g.type .i64 b _ _ h7,h9]
theorem nC {fs:Array Field} (x:Int×Int) (e:MapEntry) (es:List MapEntry) (i:Nat):Instr.findNow (.struct fs) (kp x) (e::es) i=none:=by
 simp[Instr.findNow,Instr.sameNow]
theorem dp {A:Type} {enc:A→Value} {eq:A→A→Bool} (E:dm P k enc eq) (he:∀ a b,eq a b=true↔a=b) (w:World) (x:A):∀ (es:List MapEntry) (l:List A) (i:Nat),es.map (·.key)=l.map enc →
  ((Instr.findAsking k (enc x) es i).run P w = .ok none w∧x∉l)∨∃ j e,(Instr.findAsking k (enc x) es i).run P w = .ok (some (i+j,e.val)) w∧es[j]? = some e∧l[j]? = some x
 | [],[],_,_ => .inl ⟨rfl,by simp⟩
 | [],_::_,_,h=>by simp at h
 | _::_,[],_,h=>by simp at h
 | e::es,y::l,i,h=>by
  simp only[map_cons,List.cons.injEq] at h;have hr:(Op.equal k (enc x) e.key).run P w = .ok (eq x y) w:=by rw[h.1];exact E.run 9997 w x y
  unfold Instr.findAsking;simp only[Sem.run_bind,hr,Result.andThen_ok];by_cases Yv:x=y
  ·subst Yv;rw[(he x x).2 rfl];exact .inr ⟨0,e,by simp,rfl,rfl⟩
  ·have hb:eq x y=false:=by
    cases hq:eq x y with
    | false=>rfl
    | true=>exact absurd ((he x y).1 hq) Yv
   rw[hb];simp only[Bool.false_eq_true,if_false]
   rcases dp E he w x es l (i+1) h.2 with ⟨h1,h2⟩|⟨j,e',h1,h2,h3⟩
   ·exact .inl ⟨h1,by simp[Yv,h2]⟩
   ·exact .inr ⟨j+1,e',by rw[h1];congr 3;omega,by simpa using h2,by simpa using h3⟩
theorem dq (h:Bm P k):XA P k kp where
 inj:=fun a b e=>by
  obtain⟨a1,a2⟩:=a;obtain⟨b1,b2⟩:=b;simpa using e
 check:=fun w em x=>by
  obtain⟨f,g,a,b,h1,h2,h3,h4,h5,h6,h7⟩:=h.und;obtain⟨o1,o2⟩:=h.one f g h1;have p1:(part f.type #[.int .i64 x.1,.int .i64 x.2] f.offset).run P w = .ok (.int .i64 x.1) w:=EI o1 (c:=[.int .i64 x.1,.int .i64 x.2]) (by rw[h4];rfl);have p2:(part g.type #[.int .i64 x.1,.int .i64 x.2] g.offset).run P w = .ok (.int .i64 x.2) w:=EI o2 (c:=[.int .i64 x.1,.int .i64 x.2]) (by rw[h5];rfl)
  have c1:∀ (t:TypeId) (q:IntKind) (u:Int),P.underlying t=some (.int q)→(Instr.checkKey em 9999 t (.int .i64 u)).run P w = .ok () w:=fun t q u ht=>by
   unfold Instr.checkKey;simp only[Sem.run_bind,YP ht,Result.andThen_ok];rfl
  unfold Instr.checkKey;simp only[Sem.run_bind,YP h1,Result.andThen_ok,kp];simp[h2,h3,p1,p2,c1 _ _ _ h6,c1 _ _ _ h7]
 stays:=fun w x=>by simp[Instr.keyThatStays,Instr.sameBits]
 find:=fun w x es l hl=>by
  obtain⟨f,g,a,b,h1,_⟩:=h.und;unfold Instr.findKey;simp only[Sem.run_bind,YP h1,Result.andThen_ok]
  have key:=dp (dn h) (fun a b=>by
   obtain⟨a1,a2⟩:=a;obtain⟨b1,b2⟩:=b;simp) w x es l 0 hl
  cases es with
  | nil=>
   cases l with
   | nil=>exact .inl ⟨by simp[Instr.findNow],by simp⟩
   | cons y l=>simp at hl
  | cons e es=>
   rw[nC];simpa using key
end
section
variable {P:Program} {w:World}
def ZC:BinOp→Bool
 | .eql=>true
 | _=>false
theorem dr {t:TypeId} (h:KZ P t) (op:BinOp) (a:Option Addr) (X Y:Operand) (u:TypeId) (ho:op = .eql∨op = .neq) :
  (do eqGuard op t X Y (.pointer a) (.pointer none);binOp op t (.pointer a) (.pointer none):Sem Value).run P w = .ok (.bool (if ZC op then a.isNone else a.isSome)) w:=by
 obtain⟨e,h⟩:=h.und
 have h1:(Op.equal t (.pointer a) (.pointer none)).run P w = .ok a.isNone w:=by
  unfold Op.equal Op.maxDepth Op.equalIn;simp only[Sem.run_bind,YP h,Result.andThen_ok];cases a <;> rfl
 rcases ho with rfl|rfl
 ·simp[eqGuard,binOp,h1,ZC]
 ·simp[eqGuard,binOp,h1,ZC]
theorem nD {t k e:TypeId} (h:Zx P t k e) (op:BinOp) (a:Option Nat) (X Y:Operand) (ho:op = .eql∨op = .neq) :
  (do eqGuard op t X Y (.map a) (.map none);binOp op t (.map a) (.map none):Sem Value).run P w = .ok (.bool (if ZC op then a.isNone else a.isSome)) w:=by
 have h1:(Op.equal t (.map a) (.map none)).run P w = .ok a.isNone w:=by
  unfold Op.equal Op.maxDepth Op.equalIn;simp only[Sem.run_bind,YP h.und,Result.andThen_ok];cases a <;> rfl
 rcases ho with rfl|rfl
 ·simp[eqGuard,binOp,h1,ZC]
 ·simp[eqGuard,binOp,h1,ZC]
class PN (P:Program) (t:TypeId):Prop where
 und:P.underlying t=some .bool
theorem nE {t:TypeId} (h:PN P t) (op:BinOp) (a b:Bool) (X Y:Operand) (ho:op = .eql∨op = .neq) :
  (do eqGuard op t X Y (.bool a) (.bool b);binOp op t (.bool a) (.bool b):Sem Value).run P w = .ok (.bool (if ZC op then a == b else !(a == b))) w:=by
 have h1:(Op.equal t (.bool a) (.bool b)).run P w = .ok (a == b) w:=by
  unfold Op.equal Op.maxDepth Op.equalIn;simp only[Sem.run_bind,YP h.und,Result.andThen_ok];rfl
 rcases ho with rfl|rfl
 ·simp[eqGuard,binOp,h1,ZC]
 ·simp[eqGuard,binOp,h1,ZC]
theorem dt {t:TypeId} (h:Bm P t) (op:BinOp) (a b c d:Int) (X Y:Operand) (ho:op = .eql∨op = .neq) :
  (do eqGuard op t X Y (.agg #[.int .i64 a,.int .i64 b]) (.agg #[.int .i64 c,.int .i64 d]);binOp op t (.agg #[.int .i64 a,.int .i64 b]) (.agg #[.int .i64 c,.int .i64 d]):Sem Value).run P w =
   .ok (.bool (if ZC op then decide ((a,b)=(c,d)) else !decide ((a,b)=(c,d)))) w:=by
 have h0:=run_eqGuard_agg (P:=P) w op t X Y #[.int .i64 a,.int .i64 b] #[.int .i64 c,.int .i64 d] h.guard;have h1:=(dn h).run 9997 w (a,b) (c,d)
 have e:(a == c && b == d)=decide ((a,b)=(c,d)):=by
  rw[Bool.eq_iff_iff];simp
 simp only[e] at h1;simp only[Sem.run_bind,h0,Result.andThen_ok]
 rcases ho with rfl|rfl
 ·rw[run_eql_struct,h1];rfl
 ·rw[run_neq_struct,h1];rfl
end
section
variable {P:Program} {n:Nat} {r:Option Nat} {ops:Array Oper} {Q:Z5} {ms:List Nat} {σ:QC} {w:World} {rest:List Oper} {o:Oper} {K:QC→World→Prop} {l l':List Q2}
variable {ivs:List (List Nat×(World→Prop))} {T:QC→World→Prop} {f:Nat} {L:Array Bool}
variable {u t:TypeId} {p:String} {af:Array Edge} {g:Option (Nat×Bool)} {d:Option Tmp} {x y z:Operand}
theorem KR {op:BinOp} {yt:TypeId} {a:Option Addr} [h:KZ P t] (hx:ev σ x = .pointer a) (hy:ev σ y = .pointer none) (ho:op = .eql∨op = .neq) (hd:Qs n d=true)
  (k:K (put σ d (.bool (if ZC op then a.isNone else a.isSome))) w):St P n r ⟨d,.binOp op t x y yt,u,p,af,g⟩ σ w K:=
 VP hd (fun c e=>by cases e) (by simp only[execOp,hx,hy,Sem.run_bind];rw[← Sem.run_bind,dr h op a x y yt ho];rfl) k
theorem du {op:BinOp} {yt k e:TypeId} {a:Option Nat} [h:Zx P t k e] (hx:ev σ x = .map a) (hy:ev σ y = .map none) (ho:op = .eql∨op = .neq) (hd:Qs n d=true)
  (k:K (put σ d (.bool (if ZC op then a.isNone else a.isSome))) w):St P n r ⟨d,.binOp op t x y yt,u,p,af,g⟩ σ w K:=
 VP hd (fun c e=>by cases e) (by simp only[execOp,hx,hy,Sem.run_bind];rw[← Sem.run_bind,nD h op a x y ho];rfl) k
theorem D6 {op:BinOp} {yt:TypeId} {a b:Bool} [h:PN P t] (hx:ev σ x = .bool a) (hy:ev σ y = .bool b) (ho:op = .eql∨op = .neq) (hd:Qs n d=true)
  (k:K (put σ d (.bool (if ZC op then a == b else !(a == b)))) w):St P n r ⟨d,.binOp op t x y yt,u,p,af,g⟩ σ w K:=
 VP hd (fun c e=>by cases e) (by simp only[execOp,hx,hy,Sem.run_bind];rw[← Sem.run_bind,nE h op a b x y ho];rfl) k
theorem PO {op:BinOp} {yt:TypeId} {a b c e:Int} [h:Bm P t] (hx:ev σ x = .agg #[.int .i64 a,.int .i64 b]) (hy:ev σ y = .agg #[.int .i64 c,.int .i64 e]) (ho:op = .eql∨op = .neq) (hd:Qs n d=true)
  (k:K (put σ d (.bool (if ZC op then decide ((a,b)=(c,e)) else !decide ((a,b)=(c,e))))) w):St P n r ⟨d,.binOp op t x y yt,u,p,af,g⟩ σ w K:=
 VP hd (fun c e=>by cases e) (by simp only[execOp,hx,hy,Sem.run_bind];rw[← Sem.run_bind,dt h op a b c e x y ho];rfl) k
theorem Kh {op:Op} {v:Value} (h:pv σ op=some v) (hd:Qs n d=true) (k:Lp P n r ops Q rest ms (put σ d v) w):Lp P n r ops Q (⟨d,op,u,p,af,none⟩::rest) ms σ w:=
 HM (Q9.none rfl) (dD (o:=⟨d,op,u,p,af,none⟩) h hd k)
def dv (σ:QC):Op→Option Value
 | .move x | .assign x=>some (ev σ x)
 | _=>none
theorem Rx {op:Op} {v:Value} (h:dv σ op=some v) (hd:Qs n d=true) (k:Lp P n r ops Q rest ms (put σ d v) w):Lp P n r ops Q (⟨d,op,u,p,af,none⟩::rest) ms σ w:=by
 refine HM (Q9.none rfl) (VP hd (fun c e=>?_) ?_ k)
 ·have e:op = .defer c:=e;subst e;cases h
 ·cases op <;> simp only[dv] at h <;> first|(cases h;rfl)|cases h
theorem Q5 (hg:o.guard=none) (h:St P n r o σ w (fun σ' w'=>Lp P n r ops Q rest ms σ' w')):Lp P n r ops Q (o::rest) ms σ w:=HM (Q9.none hg) h
theorem Q0.pick [Q4] {G:Type} {R:G→Q2} {gs g1 g2:List G} {x:G} (e:gs=g1++x::g2):Q0 w (SL.star (gs.map R)::l)↔Q0 w (R x::SL.star ((g1++g2).map R)::l):=by
 subst e
 have p:((g1++x::g2).map R++l).Perm (R x::((g1++g2).map R++l)):=by
  simp only[map_append,map_cons,append_assoc,cons_append];exact perm_middle
 constructor
 ·exact fun h=>⟨Lq (fun _=>Lv.2) ((Q0.star.1 h).perm p).1,h.2⟩
 ·exact fun h=>Q0.star.2 (Q0.perm ⟨Lq (fun _=>Lv.1) h.1,h.2⟩ p.symm)
variable {A B:Type} [DecidableEq A] {ek:A→Value} {vv:B→Value} {b:Nat} {m:List (A×B)} {kt et:TypeId}
theorem AS [Q4] (vv:B→Value) (ek:A→Value) (H:Q0 w l) [hM:Zx P t kt et] (hd:Qs n d=true) (k:∀ b w',Q0 w' (mp ek vv b []::l)→K (put σ d (.map (some b))) w') :
  St P n r ⟨d,.makeMap t none,u,p,af,g⟩ σ w K:=by
 refine VP (v := .map (some w.heap.size)) (w':={ w with heap:=w.heap.push (.map #[] 0) }) hd (fun c e=>by cases e) ?_ (k _ _ ((H.new (.map #[] 0)).head fun h e=>⟨#[],0,e,?_⟩))
 ·simp[execOp,Instr.makeMap]
 ·exact⟨rfl,by simp,by simp,by simp⟩
theorem GH [Q4] {ix:Operand} {ok:Bool} {key:A} {zv:Value} (H:Q0 w l) (hx:ev σ x = .map (some b)) (hk:ev σ ix=ek key) (TK:XA P kt ek) [hM:Zx P t kt et] [hz:VF P et zv] [i:RJ ek vv b m l] (hd:Qs n d=true)
  (k:K (put σ d (if ok then .tuple #[D5 zv vv (QV m key),.bool (QV m key).isSome] else D5 zv vv (QV m key))) w):St P n r ⟨d,.lookup t x ix ok,u,p,af,g⟩ σ w K:=
 VP hd (fun c e=>by cases e) (by simp only[execOp,hx,hk,Sem.run_bind];rw[dj hM TK hz (i.get _ H.1) key ok];rfl) k
theorem Ry [Q4] {ix:Operand} {key:A} {v:B} (H:Q0 w l) (hx:ev σ x = .map (some b)) (hk:ev σ ix=ek key) (hv:ev σ y=vv v) (TK:XA P kt ek) [hM:Zx P t kt et] [i0:RJ ek vv b m l] [i:D4 ek vv b m l (Yg m key v) l'] (hd:Qs n d=true)
  (k:∀ w',Q0 w' l'→K (put σ d undef) w'):St P n r ⟨d,.mapUpdate t x ix y,u,p,af,g⟩ σ w K:=by
 obtain⟨w',es,c,h1,h2,h3,h4,h5⟩:=nX hM TK (i.get _ H.1) key v;exact Ly (w':=w') hd (fun c e=>by cases e) (by simp only[execOp,hx,hk,hv,Sem.run_bind,h1,Result.andThen_ok];rfl) (k w' ⟨i.set _ _ H.1 ⟨es,c,h2,h3⟩ h4,H.2.same h5⟩)
theorem Wk [Q4] {ix:Operand} {key:A} {t2:TypeId} (H:Q0 w l) (hx:ev σ x = .map (some b)) (hk:ev σ ix=ek key) (TK:XA P kt ek) [hM:Zx P t kt et] [i0:RJ ek vv b m l] [i:D4 ek vv b m l (QN m key) l'] (hd:Qs n d=true)
  (k:∀ w',Q0 w' l'→K (put σ d (.tuple #[])) w'):St P n r ⟨d,.call { callee := .builtin .delete,args:=#[x,ix],argTypes:=#[t,t2] },u,p,af,g⟩ σ w K:=by
 obtain⟨w',es,c,h1,h2,h3,h4,h5⟩:=nK hM TK (i.get _ H.1) key u t2;refine VP (v := .tuple #[]) (w':=w') hd (fun c e=>by cases e) ?_ (k w' ⟨i.set _ _ H.1 ⟨es,c,h2,h3⟩ h4,H.2.same h5⟩);simp[execOp,resolve,invoke,builtin,hx,hk,h1]
theorem nF {ix:Operand} {key:A} {t2:TypeId} (hx:ev σ x = .map none) (hk:ev σ ix=ek key) (TK:XA P kt ek) [hM:Zx P t kt et] (hd:Qs n d=true)
  (k:K (put σ d (.tuple #[])) w):St P n r ⟨d,.call { callee := .builtin .delete,args:=#[x,ix],argTypes:=#[t,t2] },u,p,af,g⟩ σ w K:=by
 refine VP (v := .tuple #[]) (w':=w) hd (fun c e=>by cases e) ?_ k;simp[execOp,resolve,invoke,builtin,hx,hk,nR (P:=P) (w:=w) hM TK key u t2]
theorem EN [Q4] (ek:A→Value) (vv:B→Value) (H:Q0 w l) (hx:ev σ x = .map (some b)) [hM:Zx P t kt et] [i:RJ ek vv b m l] (hd:Qs n d=true)
  (k:K (put σ d (.int .i64 m.length)) w):St P n r ⟨d,.call { callee := .builtin .len,args:=#[x],argTypes:=#[t] },u,p,af,g⟩ σ w K:=by
 refine VP (v := .int .i64 m.length) (w':=w) hd (fun c e=>by cases e) ?_ k;simp[execOp,resolve,invoke,builtin,hx,nW (P:=P) hM (i.get _ H.1) u]
theorem nH (hx:ev σ x = .map none) [hM:Zx P t kt et] (hd:Qs n d=true)
  (k:K (put σ d (.int .i64 0)) w):St P n r ⟨d,.call { callee := .builtin .len,args:=#[x],argTypes:=#[t] },u,p,af,g⟩ σ w K:=by
 refine VP (v := .int .i64 0) (w':=w) hd (fun c e=>by cases e) ?_ k;simp[execOp,resolve,invoke,builtin,hx,nA (P:=P) (w:=w) hM u]
theorem nI {s:TypeId} {fi off b i₀:Nat} (i:Nat) (hi:ops[i]? = some ⟨d,.fieldAddr s x fi,u,p,af,g⟩) (hg:Q9 ops σ ⟨d,.fieldAddr s x fi,u,p,af,g⟩ true) [hf:Qf P s fi off] (hx:ev σ x = .pointer (some ⟨b,i₀,none⟩)) (hs:ZB n ops (ivs.map (·.1)) L i []=true)
  (h:Any P n r ops ivs T f (L.setIfInBounds i true) (put σ d (.pointer (some ⟨b,i₀+off,none⟩))) w):Any P n r ops ivs T (f+1) L σ w:=by
 refine KU (v := .pointer (some ⟨b,i₀+off,none⟩)) i hi hg (fun c e=>by cases e) (fun w=>?_) hs h;obtain⟨fs,fd,h1,h2,h3,i',h4,h5⟩:=hf.field;simp only[execOp,hx,Instr.fieldAt,Sem.run_bind,underlying,run_program,Result.andThen_ok,h1,Sem.run_pure,h2,Instr.sureAddr,fieldPlace];have hs:(sizeOf fd.type).run P w = .ok i' w:=Ur h4;simp only[hs,Result.andThen_ok,if_neg h5,Gj,h3,Sem.run_pure]
theorem YZ [Q4] {b i₀ E:Nat} {fz:Nat×Nat} {c:List Value} {v:Value} (i:Nat) (D:List Nat) (H:Q0 w l) (hi:ops[i]? = some ⟨d,.load t x,u,p,af,g⟩) (hg:Q9 ops σ ⟨d,.load t x,u,p,af,g⟩ true) (hx:ev σ x = .pointer (some ⟨b,i₀,none⟩)) [h1:T1 P t] [ha:At b (.cells c.toArray E fz) l] (hv:c[i₀]? = some v)
  (hs:ZB n ops (ivs.map (·.1)) L i D=true) (h:Any P n r ops ((D,fun w=>w.heap[b]? = some (.cells c.toArray E fz))::ivs) T f (L.setIfInBounds i true) (put σ d v) w):Any P n r ops ivs T (f+1) L σ w:=
 da i D hi hg (fun c e=>by cases e) (fun w hw=>by simp only[execOp,hx,Instr.loadAt,Instr.sureAddr,Sem.run_bind,Sem.run_pure,Result.andThen_ok,PD (P:=P) h1 hw hv]) hs h
theorem Vw [Q4] {b i₀ E k:Nat} {fz:Nat×Nat} {c vs:List Value} (i:Nat) (D:List Nat) (H:Q0 w l) (hi:ops[i]? = some ⟨d,.load t x,u,p,af,g⟩) (hg:Q9 ops σ ⟨d,.load t x,u,p,af,g⟩ true) (hx:ev σ x = .pointer (some ⟨b,i₀,none⟩)) [h1:TN P t k] [ha:At b (.cells c.toArray E fz) l] (hv:QY c i₀ k vs)
  (hs:ZB n ops (ivs.map (·.1)) L i D=true) (h:Any P n r ops ((D,fun w=>w.heap[b]? = some (.cells c.toArray E fz))::ivs) T f (L.setIfInBounds i true) (put σ d (.agg vs.toArray)) w):Any P n r ops ivs T (f+1) L σ w:=
 da i D hi hg (fun c e=>by cases e) (fun w hw=>by simp only[execOp,hx,Instr.loadAt,Instr.sureAddr,Sem.run_bind,Sem.run_pure,Result.andThen_ok,PE (P:=P) h1 hw hv]) hs h
theorem RL [Q4] {ix:Operand} {ok:Bool} {key:A} {zv:Value} (i:Nat) (D:List Nat) (H:Q0 w l) (hi:ops[i]? = some ⟨d,.lookup t x ix ok,u,p,af,g⟩) (hg:Q9 ops σ ⟨d,.lookup t x ix ok,u,p,af,g⟩ true) (hx:ev σ x = .map (some b)) (hk:ev σ ix=ek key) (TK:XA P kt ek) [hM:Zx P t kt et] [hz:VF P et zv] [ha:RJ ek vv b m l]
  (hs:ZB n ops (ivs.map (·.1)) L i D=true) (h:Any P n r ops ((D,fun w=>mp ek vv b m (hp w))::ivs) T f (L.setIfInBounds i true) (put σ d (if ok then .tuple #[D5 zv vv (QV m key),.bool (QV m key).isSome] else D5 zv vv (QV m key))) w):Any P n r ops ivs T (f+1) L σ w:=
 HP i D hi ⟨_,hi,fun c e=>(by cases e),.inl ⟨hg,fun w hw=>by simp only[execOp,hx,hk,Sem.run_bind];rw[dj hM TK hz hw key ok];rfl⟩⟩ hs h
end
end Go.SL
namespace Go.SL
open List
section
variable {P:Program} {n:Nat} {r:Option Nat} {ops:Array Oper} {Q:Z5} {ms:List Nat} {σ:QC} {w:World} {rest:List Oper} {o:Oper} {K:QC→World→Prop} {l l':List Q2}
variable {ivs:List (List Nat×(World→Prop))} {T:QC→World→Prop} {f:Nat} {L:Array Bool}
variable {u t:TypeId} {p:String} {af:Array Edge} {g:Option (Nat×Bool)} {d:Option Tmp} {x y z:Operand}
theorem dw {e size bytes b o len cap:Nat} {q:IntKind} {i:Int} (hT:Vv P t e size bytes) (h0:0≤i) (h1:i < len) :
  (Instr.indexAt t (.slice (some ⟨b,o,none⟩) len cap) (.int q i)).run P w = .ok (.pointer (some ⟨b,o+i.toNat*size,none⟩)) w:=by
 have hs:(sizeOf e).run P w = .ok size w:=by
  obtain⟨k,hk,e2⟩:=Option.map_eq_some_iff.1 hT.info;simp only[Prod.mk.injEq] at e2;exact Ur (by rw[hk];simp[e2.1])
 unfold Instr.indexAt;simp only[asIntOf,Sem.run_bind,Sem.run_pure,Result.andThen_ok,YP hT.und];simp[h0,h1,hs,Gj]
theorem Ut {e size bytes b o len cap:Nat} {q:IntKind} {i:Int} {ix:Operand} [hT:Vv P t e size bytes] (hx:ev σ x = .slice (some ⟨b,o,none⟩) len cap) (hi:ev σ ix = .int q i) (h0:0≤i) (h1:i < len) (hd:Qs n d=true)
  (k:K (put σ d (.pointer (some ⟨b,o+i.toNat*size,none⟩))) w):St P n r ⟨d,.indexAddr t x ix,u,p,af,g⟩ σ w K:=
 VP hd (fun c e=>by cases e) (by simp only[execOp,hx,hi,Sem.run_bind,dw hT h0 h1,Result.andThen_ok,Sem.run_pure]) k
theorem Bn {e size bytes b o len cap:Nat} {q:IntKind} {i:Int} {ix:Operand} (j:Nat) (hj:ops[j]? = some ⟨d,.indexAddr t x ix,u,p,af,g⟩) (hg:Q9 ops σ ⟨d,.indexAddr t x ix,u,p,af,g⟩ true) [hT:Vv P t e size bytes] (hx:ev σ x = .slice (some ⟨b,o,none⟩) len cap) (hi:ev σ ix = .int q i) (h0:0≤i) (h1:i < len)
  (hs:ZB n ops (ivs.map (·.1)) L j []=true) (h:Any P n r ops ivs T f (L.setIfInBounds j true) (put σ d (.pointer (some ⟨b,o+i.toNat*size,none⟩))) w):Any P n r ops ivs T (f+1) L σ w:=
 KU j hj hg (fun c e=>by cases e) (fun w=>by simp only[execOp,hx,hi,Sem.run_bind,dw hT h0 h1,Result.andThen_ok,Sem.run_pure]) hs h
theorem dx {e size bytes len cap:Nat} {a:Option Addr} (hT:Vv P t e size bytes) (ty:TypeId):(Builtin.len_ #[t] ty #[.slice a len cap]).run P w = .ok (.int .i64 len) w:=by
 unfold Builtin.len_;simp only[Sem.run_bind,YP hT.und,Result.andThen_ok,Sem.run_pure,getElem?_toArray,getElem?_cons_zero,goInt]
theorem Gk {e size bytes len cap:Nat} {a:Option Addr} [hT:Vv P t e size bytes] (hx:ev σ x = .slice a len cap) (hd:Qs n d=true) (k:K (put σ d (.int .i64 len)) w) :
  St P n r ⟨d,.call { callee := .builtin .len,args:=#[x],argTypes:=#[t] },u,p,af,g⟩ σ w K:=by
 refine VP (v := .int .i64 len) (w':=w) hd (fun c e=>by cases e) ?_ k;simp[execOp,resolve,invoke,builtin,hx,dx (P:=P) (w:=w) hT u]
theorem Aa {e size bytes len cap:Nat} {a:Option Addr} (j:Nat) (hj:ops[j]? = some ⟨d,.call { callee := .builtin .len,args:=#[x],argTypes:=#[t] },u,p,af,g⟩) (hg:Q9 ops σ ⟨d,.call { callee := .builtin .len,args:=#[x],argTypes:=#[t] },u,p,af,g⟩ true) [hT:Vv P t e size bytes] (hx:ev σ x = .slice a len cap)
  (hs:ZB n ops (ivs.map (·.1)) L j []=true) (h:Any P n r ops ivs T f (L.setIfInBounds j true) (put σ d (.int .i64 len)) w):Any P n r ops ivs T (f+1) L σ w:=
 KU (v := .int .i64 len) j hj hg (fun c e=>by cases e) (fun w=>by simp[execOp,resolve,invoke,builtin,hx,dx (P:=P) (w:=w) hT u]) hs h
def QE (E k:Nat) (v:Value) (c:List Value):Q2:=fun h=>
 (v = .slice none 0 0∧c=[])∨∃ b len cap spare,v = .slice (some ⟨b,0,none⟩) len cap∧h b=some (row E (c++spare))∧c.length=len*k∧(len≤cap∧cap≤9223372036854775807)∧(cap - len)*k≤spare.length
theorem M8 (v:Value):v.cells.size=(VK v).length:=by rw[AO];simp
theorem XB [Q4] {E k:Nat} {v:Value} {c:List Value} (H:Q0 w (QE E k v c::l)) :
  (v = .slice none 0 0∧c=[]∧Q0 w l)∨∃ b len cap spare,v = .slice (some ⟨b,0,none⟩) len cap∧c.length=len*k∧(len≤cap∧cap≤9223372036854775807)∧(cap - len)*k≤spare.length∧Q0 w (pts b (row E (c++spare))::l):=by
 obtain⟨⟨f,g,a,b,d,x,y⟩,ok⟩:=H
 rcases x with ⟨e1,e2⟩|⟨bb,len,cap,spare,e1,e2,e3,e4,e5⟩
 ·exact .inl ⟨e1,e2,EF b y,ok⟩
 ·exact .inr ⟨bb,len,cap,spare,e1,e3,e4,e5,⟨f,g,a,b,d,e2,y⟩,ok⟩
theorem Zy [Q4] {E k:Nat} (H:Q0 w l):Q0 w (QE E k (.slice none 0 0) []::l):=
 ⟨⟨fun _=>none,hp w,fun _ _ e=>(by cases e),Ye.rfl' _,fun _ _ _ e=>(by cases e),.inl ⟨rfl,rfl⟩,H.1⟩,H.2⟩
theorem GI [Q4] {E k b len cap:Nat} {c spare:List Value} (h1:c.length=len*k) (h2:len≤cap∧cap≤9223372036854775807) (h3:(cap - len)*k≤spare.length) (H:Q0 w (pts b (row E (c++spare))::l)):Q0 w (QE E k (.slice (some ⟨b,0,none⟩) len cap) c::l):=
 H.head fun h e => .inr ⟨b,len,cap,spare,rfl,e,h1,h2,h3⟩
theorem nJ [Q4] {e size bytes:Nat} {zv:Value} (hT:Vv P t e size bytes) (hz:VF P e zv) (D7:(VK zv).length=size) (Ve:0 < size) (He:0 < bytes) {s:Value} {cs new:List Value} {m c:Nat} {a:Addr} {l:List Q2} (H:Q0 w (QE e size s cs::l))
  (ty:TypeId) (hm:0 < m) (Z3:new.length=m*size) (Ab:∀ j v,new[j]? = some v→w.cell? (a.add j)=some v) (h1:∀ v∈new,v.oneCell'=true)
  (hb:(cs.length+new.length)*bytes≤140737488355328) :
  ∃ v' w',(Builtin.append_ #[t,t] ty #[s,.slice (some a) m c]).run P w = .ok v' w'∧Q0 w' (QE e size v' (cs++new)::l):=by
 obtain⟨i,hi,e2⟩:=Option.map_eq_some_iff.1 hT.info;simp only[Prod.mk.injEq] at e2;obtain⟨i1,i2⟩:=e2;obtain⟨i',Ub,UX⟩:=Option.map_eq_some_iff.1 hz.zero;have:i'=i:=by rw[hi] at Ub;cases Ub;rfl
 subst this;have Rz:zv.cells.size=size:=by rw[M8,D7]
 have mb:∀ k,k≤k*size:=fun k=>Nat.le_mul_of_pos_right k Ve;have bb:∀ k,k≤k*bytes:=fun k=>Nat.le_mul_of_pos_right k He;have PP:m*bytes≤new.length*bytes:=Nat.mul_le_mul_right _ (by rw[Z3];exact mb m);have zw:(cs.length+new.length)*bytes=cs.length*bytes+new.length*bytes:=Nat.add_mul _ _ _
 rcases XB H with ⟨rfl,rfl,H2⟩|⟨b,len,cap,spare,rfl,e3,e4,e5,H2⟩
 ·have hr:=run_append_nil (P:=P) w t ty e i' zv hT.und hi UX a m c new (by rw[i1];exact Z3) Ab hm (by have:=bb m;omega) (by rw[i2];omega);refine⟨_,_,hr,?_⟩;have hg:m≤grownCap w m 0 e∧grownCap w m 0 e≤9223372036854775807:=⟨grownCap_ge w m 0 e,grownCap_le_maxLen w m 0 e (by have:=bb m;unfold maxLen;omega)⟩;refine GI (spare:=(Builtin.zeroCells zv.cells (grownCap w m 0 e - m)).toList) (by simpa using Z3) hg (by simp[size_zeroCells,Rz]) ?_;have H':Q0 w.drew l:=H2.heap rfl;have:=H'.new (.cells (new.toArray++Builtin.zeroCells zv.cells (grownCap w m 0 e - m)) e (0,0));refine this.head fun h x=>?_;have e:new.toArray++Builtin.zeroCells zv.cells (grownCap w m 0 e - m)=([]++new++(Builtin.zeroCells zv.cells (grownCap w m 0 e - m)).toList).toArray:=by apply Array.ext';simp
  rw[e] at x;exact x
 ·have GQ:=H2.pts;have Qw:len*bytes≤cs.length*bytes:=Nat.mul_le_mul_right _ (by rw[e3];exact mb len);by_cases RM:len+m≤cap
  ·have Yw:m*size≤spare.length:=Nat.le_trans (Nat.mul_le_mul_right _ (by omega)) e5
   have hr:=run_append_room (P:=P) w t ty e i' hT.und hi b len cap (cs++spare).toArray GQ a m c new (by rw[i1];exact Z3) Ab h1 RM (by
    simp only[size_toArray,length_append,i1,e3,Z3];omega)
   refine⟨_,_,hr,?_⟩;refine GI (spare:=spare.drop new.length) (by simp[e3,Z3,Nat.add_mul]) ⟨RM,e4.2⟩ ?_ ?_
   ·have e6:(cap - (len+m))*size=(cap - len)*size - m*size:=by rw[← Nat.sub_mul,Nat.sub_sub]
    rw[length_drop,Z3,e6];omega
   ·have hh:=setRow_heap w b (cs++spare).toArray ((cs++spare).toArray.toList.take (len*i'.size)++new++(cs++spare).toArray.toList.drop (len*i'.size+new.length)).toArray e _ GQ;refine(H2.set hh (fun k hk=>setRow_other w b k _ hk)).head fun h x=>?_
    have e:(cs++spare).toArray.toList.take (len*i'.size)++new++(cs++spare).toArray.toList.drop (len*i'.size+new.length)=cs++new++spare.drop new.length:=by
     rw[i1,← e3];show (cs++spare).take cs.length++new++(cs++spare).drop (cs.length+new.length)=_;rw[take_left,← drop_drop,drop_left]
    rw[e] at x;exact x
  ·have Hf:∀ j u,cs[j]? = some u→w.cell? ((⟨b,0,none⟩:Addr).add j)=some u:=fun j u hj=>by
    rw[Gj];refine Ua GQ ?_;rw[Nat.zero_add,getElem?_append_left ((List.getElem?_eq_some_iff.1 hj).1)];exact hj
   have PS:(len+m)*bytes=len*bytes+m*bytes:=Nat.add_mul _ _ _
   have hr:=run_append_grow (P:=P) w t ty e i' zv hT.und hi UX ⟨b,0,none⟩ len cap cs (by rw[i1];exact e3) Hf a m c new (by rw[i1];exact Z3) Ab (by omega) (by have:=bb (len+m);omega)
    (growslice_fits (by omega) (by rw[i2];omega))
   refine⟨_,_,hr,?_⟩;have hg:len+m≤grownCap w (len+m) cap e∧grownCap w (len+m) cap e≤9223372036854775807:=⟨grownCap_ge w (len+m) cap e,grownCap_le_maxLen w (len+m) cap e (by have:=bb (len+m);unfold maxLen;omega)⟩;refine GI (spare:=(Builtin.zeroCells zv.cells (grownCap w (len+m) cap e - (len+m))).toList) (by simp[e3,Z3,Nat.add_mul]) hg (by simp[size_zeroCells,Rz]) ?_;have H':Q0 w.drew l:=H2.drop.heap rfl;have:=H'.new (.cells (cs.toArray++new.toArray++Builtin.zeroCells zv.cells (grownCap w (len+m) cap e - (len+m))) e (0,0));refine this.head fun h x=>?_;have e:cs.toArray++new.toArray++Builtin.zeroCells zv.cells (grownCap w (len+m) cap e - (len+m))=(cs++new++(Builtin.zeroCells zv.cells (grownCap w (len+m) cap e - (len+m))).toList).toArray:=by apply Array.ext';simp
   rw[e] at x;exact x
theorem ZU [Q4] {e size bytes:Nat} {zv:Value} [hT:Vv P t e size bytes] [hz:VF P e zv] {s:Value} {cs new c2:List Value} {m cap b o E:Nat} {fz:Nat×Nat} (H:Q0 w (QE e size s cs::l))
  (hx:ev σ x=s) (hy:ev σ y = .slice (some ⟨b,o,none⟩) m cap) [ha:At b (.cells c2.toArray E fz) l] (hn:QY c2 o (m*size) new) (h1:new.all (·.oneCell')=true) (hm:0 < m)
  (hb:(cs.length+new.length)*bytes≤140737488355328) (hd:Qs n d=true) (hq:(decide ((VK zv).length=size) && decide (0 < size) && decide (0 < bytes))=true)
  (k:∀ v' w',Q0 w' (QE e size v' (cs++new)::l)→K (put σ d v') w'):St P n r ⟨d,.call { callee := .builtin .append,args:=#[x,y],argTypes:=#[t,t] },u,p,af,g⟩ σ w K:=by
 simp only[Bool.and_eq_true,decide_eq_true_eq] at hq;have GQ:w.heap[b]? = some (.cells c2.toArray E fz):=ha.get _ H.drop.1;obtain⟨v',w',hr,H'⟩:=nJ (w:=w) (c:=cap) (a:=⟨b,o,none⟩) (m:=m) hT hz hq.1.1 hq.1.2 hq.2 H u hm hn.len (fun j v hj=>by rw[Gj];exact Ua GQ (hn.get j v hj)) (all_eq_true.1 h1) hb;refine VP (v:=v') (w':=w') hd (fun c e=>by cases e) ?_ (k v' w' H');simp[execOp,resolve,invoke,builtin,hx,hy,hr]
def EO:List Value→Option (List Value)
 | []=>some []
 | a::l=>match fo a,EO l with
  | some b,some m=>some (b::m)
  | _,_=>none
theorem dy:∀ {l m:List Value},EO l=some m→l=m
 | [],m,h=>by simp only[EO,Option.some.injEq] at h;exact h
 | a::l,m,h=>by
  simp only[EO] at h;split at h
  ·rename_i b m' h1 h2;cases h;rw[EH h1,dy h2]
  ·cases h
def Bo (pl:Nat→Option (Nat×Nat)) (c:List Value):List (Nat×Value)→Option (List Value)
 | []=>some c
 | (i,v)::r=>match pl i with
  | none=>none
  | some (off,size)=>if Nat.beq (VK v).length size && Nat.ble (off+size) c.length then Bo pl (wr c off (VK v)) r else none
theorem dz:∀ (vs:List Value) (c:List Value) (o j:Nat),(vs.zipIdx j).foldl (fun (cs:Array Value) (p:Value×Nat)=>cs.setIfInBounds (o+p.2) p.1) c.toArray=(wr c (o+j) vs).toArray
 | [],c,o,j=>rfl
 | v::vs,c,o,j=>by
  simp only[zipIdx_cons,foldl_cons,setIfInBounds_toArray];rw[dz vs _ o (j+1)];rfl
def EP (pl:Nat→Option (Nat×Nat)) (c:List Value) (ps:List (Nat×Value)):Option (List Value):=(Bo pl c ps).bind EO
theorem M9 {pl:Nat→Option (Nat×Nat)} {c c':List Value} {ps:List (Nat×Value)} (h:EP pl c ps=some c'):Bo pl c ps=some c':=by
 unfold EP at h;cases hf:Bo pl c ps with
 | none=>rw[hf] at h;cases h
 | some m=>
  rw[hf] at h;rw[dy (show EO m=some c' from h)]
theorem MV {pl:Nat→Option (Nat×Nat)}:∀ (ps:List (Nat×Value)) (c c':List Value),Bo pl c ps=some c'→Instr.fill pl c.toArray ps=some c'.toArray
 | [],c,c',h=>by simp only[Bo,Option.some.injEq] at h;subst h;rfl
 | (i,v)::r,c,c',h=>by
  simp only[Bo] at h;unfold Instr.fill;cases hp:pl i with
  | none=>rw[hp] at h;cases h
  | some q=>
   obtain⟨off,size⟩:=q;rw[hp] at h;simp only at h ⊢;split at h
   ·rename_i hc;simp only[Bool.and_eq_true,Nat.ble_eq] at hc;have e1:v.cells.size=size:=by rw[M8];exact Nat.eq_of_beq_eq_true hc.1
    rw[if_neg (by simp[e1];omega)];have e2:=dz (VK v) c off 0;rw[Nat.add_zero] at e2
    have e3:v.cells.zipIdx.foldl (fun (cs:Array Value) (p:Value×Nat)=>cs.setIfInBounds (off+p.2) p.1) c.toArray=(wr c off (VK v)).toArray:=by
     rw[← e2,AO,← Array.foldl_toList,Array.toList_zipIdx]
    have:=MV r _ _ h;rw[← e3] at this;exact this
   ·cases h
class Zc (P:Program) (t:TypeId) (places:outParam (List (Nat×Nat))):Prop where
 und:∃ fs,P.underlying t=some (.struct fs)∧fs.toList.mapM (fun f=>(P.info? f.type).map fun i=>(f.offset,i.size))=some places
theorem e9 {places:List (Nat×Nat)} {zv:Value} (hB:Zc P t places) (hz:VF P t zv) (ps:List (Nat×Value)) {c:List Value} (hf:Bo (places[·]?) (VK zv) ps=some c):(Instr.build t ps.toArray).run P w = .ok (.agg c.toArray) w:=by
 obtain⟨fs,h1,h2⟩:=hB.und;obtain⟨it,h3,h4⟩:=Option.map_eq_some_iff.1 hz.zero;refine run_build w t _ _ ?_;unfold Program.built;simp only[h1,h3,h4,h2,AO];have:=MV ps _ _ hf;simpa using this
theorem Ki {places:List (Nat×Nat)} {zv:Value} {xs:List (Nat×Operand)} {c:List Value} [hB:Zc P t places] [hz:VF P t zv] (Ze:EP (places[·]?) (VK zv) (xs.map fun q=>(q.1,ev σ q.2))=some c) (hd:Qs n d=true)
  (k:K (put σ d (.agg c.toArray)) w):St P n r ⟨d,.build t xs.toArray,u,p,af,g⟩ σ w K:=by
 have hf:=M9 Ze;refine VP (v := .agg c.toArray) (w':=w) hd (fun c e=>by cases e) ?_ k;have:=e9 (w:=w) hB hz _ hf;simp only[execOp,Sem.run_bind];have e:(xs.toArray.map fun x=>(x.1,ev σ x.2))=(xs.map fun q=>(q.1,ev σ q.2)).toArray:=by simp
 rw[e,this];rfl
def Yl (z:List Value):Nat→List Value
 | 0=>[]
 | k+1=>z++Yl z k
theorem PT (z:List Value):∀ k,(Yl z k).length=k*z.length
 | 0=>by simp[Yl]
 | k+1=>by simp[Yl,PT z k,Nat.succ_mul];omega
theorem eQ (z:List Value):∀ (k i:Nat),i < k*z.length→(Yl z k)[i]? = z[i % z.length]?
 | 0,i,h=>by simp at h
 | k+1,i,h=>by
  simp only[Yl];rw[Nat.succ_mul] at h;by_cases hi:i < z.length
  ·rw[getElem?_append_left hi,Nat.mod_eq_of_lt hi]
  ·rw[getElem?_append_right (by omega),eQ z k (i - z.length) (by omega)];congr 1;rw[Nat.mod_eq_sub_mod (by omega:z.length≤i)]
theorem MY (z:List Value) (k:Nat):(Array.range (k*z.length)).map (fun i=>z.toArray[i % z.toArray.size]!)=(Yl z k).toArray:=by
  apply Array.ext';apply ext_getElem?;intro i;by_cases hi:i < k*z.length
  · have hz : 0 < z.length := by rcases Nat.eq_zero_or_pos z.length with h | h; · rw [h] at hi; omega
                                 · exact h
    have hm:=Nat.mod_lt i hz;simp only[Array.toList_map,getElem?_map,Array.toList_range,getElem?_range hi,Option.map_some,eQ z k i hi,size_toArray];simp[hm]
  · have:=PT z k;rw[getElem?_eq_none (by simp;omega),getElem?_eq_none (by show (Yl z k).length≤i;omega)]
theorem Ad [Q4] {e size bytes len:Nat} {zv:Value} {xs:List (Nat×Operand)} {c:List Value} (H:Q0 w l) [hT:Vv P t e size bytes] [hz:VF P e zv]
  (Ze:EP (fun i=>some (i*size,size)) (Yl (VK zv) len) (xs.map fun q=>(q.1,ev σ q.2))=some c) (hq:(decide ((VK zv).length=size) && decide (0 < len*size) && decide (len*size≤16777216))=true) (hd:Qs n d=true)
  (k:∀ b w',Q0 w' (pts b (row e c)::l)→K (put σ d (.slice (some ⟨b,0,none⟩) len len)) w'):St P n r ⟨d,.buildSlice t len xs.toArray,u,p,af,g⟩ σ w K:=by
 have hf:=M9 Ze;simp only[Bool.and_eq_true,decide_eq_true_eq] at hq;obtain⟨i,hi,e2⟩:=Option.map_eq_some_iff.1 hT.info;simp only[Prod.mk.injEq] at e2;obtain⟨i1,i2⟩:=e2;obtain⟨i',Ub,UX⟩:=Option.map_eq_some_iff.1 hz.zero;have:i'=i:=by rw[hi] at Ub;cases Ub;rfl
 subst this
 have hr:=run_buildSlice (P:=P) w t e len (xs.map fun q=>(q.1,ev σ q.2)).toArray c.toArray i' zv hT.und hi UX (by rw[i1];omega) (by rw[i1];omega) (by
  have:=MV _ _ _ hf;rw[← MY,hq.1.1] at this;rw[i1,AO];exact this)
 refine VP (v := .slice (some ⟨w.heap.size,0,none⟩) len len) (w':=w.alloc (.cells c.toArray e)) hd (fun c e=>by cases e) ?_ (k _ _ (H.new (row e c)));simp only[execOp,Sem.run_bind];have e:(xs.toArray.map fun x=>(x.1,ev σ x.2))=(xs.map fun q=>(q.1,ev σ q.2)).toArray:=by simp
 rw[e,hr];rfl
theorem RN [Q4] {E k b len:Nat} {c:List Value} (h1:c.length=len*k) (H:Q0 w (pts b (row E c)::l)) (h2:len≤9223372036854775807:=by first|decide|omega):Q0 w (QE E k (.slice (some ⟨b,0,none⟩) len len) c::l):=
 GI (spare:=[]) h1 ⟨Nat.le_refl _,h2⟩ (by simp) (by simpa using H)
theorem Ae [Q4] {id:Nat} {o:List Oper} (H:Q0 w l) (hm:P.follows .mixedOrders=true)
  (h:∀ w',Q0 w' l→Any P n r o.toArray [] (fun σ w=>Q .normal ms σ w) o.length (Array.replicate o.length false) σ w'):C P n r (.region id o.toArray true) Q ms σ w:=
 dI hm (h _ (H.heap rfl))
theorem eV [Q4] {E:TypeId} {v:Value} (H:Q0 w l) (hx:fo (ev σ x)=some v) (ho:v.oneCell'=true) (hd:Qs n d=true)
  (k:∀ b w',Q0 w' (pts b (row E [v])::l)→K (put σ d (.pointer (some ⟨b,0,none⟩))) w'):St P n r ⟨d,.box E x,u,p,af,g⟩ σ w K:=
 dH H (EH hx) hd (by
  have hc:VK v=[v]:=by cases v <;> first|rfl|(simp[Value.oneCell'] at ho)
  rw[hc];exact k)
theorem ES [Q4] {E:TypeId} {c:List Value} (H:Q0 w l) (hx:ev σ x = .agg c.toArray) (hd:Qs n d=true)
  (k:∀ b w',Q0 w' (pts b (row E c)::l)→K (put σ d (.pointer (some ⟨b,0,none⟩))) w'):St P n r ⟨d,.box E x,u,p,af,g⟩ σ w K:=
 dH H hx hd (by
  have hc:VK (.agg c.toArray)=c:=by simp[VK]
  rw[hc];exact k)
def sel {α:Type}:List Nat→Nat→List α→List α
 | [],d,l=>l.drop d
 | i::is,d,l=>match pull i l with
  | []=>[]
  | b::r=>b::sel is d r
theorem Pa:∀ (is:List Nat) (d:Nat) {l:List Q2} {h:Hp},Vq l h→Vq (sel is d l) h
 | [],0,l,h,s=>s
 | [],d+1,[],h,s=>s
 | [],d+1,_::l,h,s=>Pa [] d (Cv s)
 | i::is,d,l,h,s=>by
  have s':=PX (PK i l) s;simp only[sel];cases hp:pull i l with
  | nil=>exact trivial
  | cons b r=>rw[hp] at s';exact Lq (fun _=>Pa is d) s'
theorem Q0.sel [Q4] (is:List Nat) (d:Nat) (H:Q0 w l):Q0 w (SL.sel is d l):=⟨Pa is d H.1,H.2⟩
theorem nL {op:BinOp} {yt:TypeId} {a b c e:Int} (i:Nat) (hi:ops[i]? = some ⟨d,.binOp op t x y yt,u,p,af,g⟩) (hg:Q9 ops σ ⟨d,.binOp op t x y yt,u,p,af,g⟩ true) [h:Bm P t] (hx:ev σ x = .agg #[.int .i64 a,.int .i64 b]) (hy:ev σ y = .agg #[.int .i64 c,.int .i64 e]) (ho:op = .eql∨op = .neq)
  (hs:ZB n ops (ivs.map (·.1)) L i []=true) (k:Any P n r ops ivs T f (L.setIfInBounds i true) (put σ d (.bool (if ZC op then decide ((a,b)=(c,e)) else !decide ((a,b)=(c,e))))) w):Any P n r ops ivs T (f+1) L σ w:=
 KU i hi hg (fun c e=>by cases e) (fun w=>by simp only[execOp,hx,hy,Sem.run_bind];rw[← Sem.run_bind,dt h op a b c e x y ho];rfl) hs k
theorem nM {op:BinOp} {yt:TypeId} {a:Option Addr} (i:Nat) (hi:ops[i]? = some ⟨d,.binOp op t x y yt,u,p,af,g⟩) (hg:Q9 ops σ ⟨d,.binOp op t x y yt,u,p,af,g⟩ true) [h:KZ P t] (hx:ev σ x = .pointer a) (hy:ev σ y = .pointer none) (ho:op = .eql∨op = .neq)
  (hs:ZB n ops (ivs.map (·.1)) L i []=true) (k:Any P n r ops ivs T f (L.setIfInBounds i true) (put σ d (.bool (if ZC op then a.isNone else a.isSome))) w):Any P n r ops ivs T (f+1) L σ w:=
 KU i hi hg (fun c e=>by cases e) (fun w=>by simp only[execOp,hx,hy,Sem.run_bind];rw[← Sem.run_bind,dr h op a x y yt ho];rfl) hs k
theorem Uc {places:List (Nat×Nat)} {zv:Value} {xs:List (Nat×Operand)} {c:List Value} (i:Nat) (hi:ops[i]? = some ⟨d,.build t xs.toArray,u,p,af,g⟩) (hg:Q9 ops σ ⟨d,.build t xs.toArray,u,p,af,g⟩ true) [hB:Zc P t places] [hz:VF P t zv] (Ze:EP (places[·]?) (VK zv) (xs.map fun q=>(q.1,ev σ q.2))=some c)
  (hs:ZB n ops (ivs.map (·.1)) L i []=true) (k:Any P n r ops ivs T f (L.setIfInBounds i true) (put σ d (.agg c.toArray)) w):Any P n r ops ivs T (f+1) L σ w:=
 KU i hi hg (fun c e=>by cases e) (fun w=>by
  have hf:=M9 Ze;have:=e9 (w:=w) hB hz _ hf;simp only[execOp,Sem.run_bind];have e:(xs.toArray.map fun x=>(x.1,ev σ x.2))=(xs.map fun q=>(q.1,ev σ q.2)).toArray:=by simp
  rw[e,this];rfl) hs k
theorem QI [Q4] {E k m:Nat} {v:Value} {c:List Value} (H:Q0 w (QE E k v c::l)) (hc:c.length=m*k) (k0:0 < k):∃ a cap,v = .slice a m cap:=by
 rcases XB H with ⟨rfl,h0,_⟩|⟨b,len,cap,spare,rfl,e3,_⟩
 ·rw[h0] at hc
  have:m=0:=by
   rcases Nat.mul_eq_zero.1 hc.symm with h|h
   ·exact h
   ·omega
  subst this;exact⟨none,0,rfl⟩
 ·rw[e3] at hc;have:=Nat.eq_of_mul_eq_mul_right k0 hc;subst this;exact⟨_,_,rfl⟩
theorem VX [Q4] {E k m cap:Nat} {a:Option Addr} {c:List Value} (H:Q0 w (QE E k (.slice a m cap) c::l)) (h0:0 < m) :
  ∃ b spare,a=some ⟨b,0,none⟩∧Q0 w (pts b (row E (c++spare))::l)∧∀ w' l',Q0 w' (pts b (row E (c++spare))::l')→Q0 w' (QE E k (.slice a m cap) c::l'):=by
 rcases XB H with ⟨h,_⟩|⟨b,len,cap',spare,h,e3,e4,e5,H2⟩
 ·injection h with h1 h2;omega
 ·injection h with h1 h2 h3
  subst h1 h2 h3;exact⟨b,spare,rfl,H2,fun w' l' H'=>GI e3 e4 e5 H'⟩
theorem eY [Q4] {E:TypeId} {c:List Value} (H:Q0 w l) (hx:ev σ x = .agg c.toArray) (hd:Qs n d=true)
  (k:∀ b w',w'=w.alloc (row E c)→Q0 w' (pts b (row E c)::l)→K (put σ d (.pointer (some ⟨b,0,none⟩))) w'):St P n r ⟨d,.box E x,u,p,af,g⟩ σ w K:=by
 refine VP (v := .pointer (some ⟨w.heap.size,0,none⟩)) (w':=w.alloc (row E c)) hd (fun c e=>by cases e) ?_ (k _ _ rfl (H.new _));simp only[execOp,hx,Instr.box,newVar,newRow,Sem.run_bind,run_newObj,Result.andThen_ok,Sem.run_pure];rfl
theorem nN [Q4] {e size bytes len:Nat} {zv:Value} {xs:List (Nat×Operand)} {c:List Value} (H:Q0 w l) [hT:Vv P t e size bytes] [hz:VF P e zv]
  (Ze:EP (fun i=>some (i*size,size)) (Yl (VK zv) len) (xs.map fun q=>(q.1,ev σ q.2))=some c) (hq:(decide ((VK zv).length=size) && decide (0 < len*size) && decide (len*size≤16777216))=true) (hd:Qs n d=true)
  (k:∀ b w',w'=w.alloc (row e c)→Q0 w' (pts b (row e c)::l)→K (put σ d (.slice (some ⟨b,0,none⟩) len len)) w'):St P n r ⟨d,.buildSlice t len xs.toArray,u,p,af,g⟩ σ w K:=by
 have hf:=M9 Ze;simp only[Bool.and_eq_true,decide_eq_true_eq] at hq;obtain⟨i,hi,e2⟩:=Option.map_eq_some_iff.1 hT.info;simp only[Prod.mk.injEq] at e2;obtain⟨i1,i2⟩:=e2;obtain⟨i',Ub,UX⟩:=Option.map_eq_some_iff.1 hz.zero;have:i'=i:=by rw[hi] at Ub;cases Ub;rfl
 subst this
 have hr:=run_buildSlice (P:=P) w t e len (xs.map fun q=>(q.1,ev σ q.2)).toArray c.toArray i' zv hT.und hi UX (by rw[i1];omega) (by rw[i1];omega) (by
  have:=MV _ _ _ hf;rw[← MY,hq.1.1] at this;rw[i1,AO];exact this)
 refine VP (v := .slice (some ⟨w.heap.size,0,none⟩) len len) (w':=w.alloc (.cells c.toArray e)) hd (fun c e=>by cases e) ?_ (k _ _ rfl (H.new (row e c)));simp only[execOp,Sem.run_bind];have e:(xs.toArray.map fun x=>(x.1,ev σ x.2))=(xs.map fun q=>(q.1,ev σ q.2)).toArray:=by simp
 rw[e,hr];rfl
theorem nO [Q4] {id:Nat} {o:List Oper} (H:Q0 w l) (hm:P.follows .mixedOrders=true)
  (h:∀ w',w'=w.drew→Q0 w' l→Any P n r o.toArray [] (fun σ w=>Q .normal ms σ w) o.length (Array.replicate o.length false) σ w'):C P n r (.region id o.toArray true) Q ms σ w:=
 dI hm (h _ rfl (H.heap rfl))
theorem Q9.of {o:Oper} {j:Nat} {want b t:Bool} (h:o.guard=some (j,want)) (hg:gv ops σ j=some b) (ht:(b == want)=t):Q9 ops σ o t:=by
 unfold Q9;rw[h];exact⟨some b,hg,by rw[← ht];cases b <;> cases want <;> rfl⟩
theorem Q9.skip {o:Oper} {j:Nat} {want:Bool} (h:o.guard=some (j,want)) (hg:gv ops σ j=Option.none):Q9 ops σ o false:=by
 unfold Q9;rw[h];exact⟨Option.none,hg,rfl⟩
theorem QS {j:Nat} {want b:Bool} (h:o.guard=some (j,want)) (hg:gv ops σ j=some b) (ht:(b == want)=true) (k:St P n r o σ w (fun σ' w'=>Lp P n r ops Q rest ms σ' w')):Lp P n r ops Q (o::rest) ms σ w:=HM (Q9.of h hg ht) k
theorem VG {op:Op} {j:Nat} {want b:Bool} {v:Value} (hg:gv ops σ j=some b) (ht:(b == want)=true) (hv:pv σ op=some v) (hd:Qs n d=true) (k:Lp P n r ops Q rest ms (put σ d v) w):Lp P n r ops Q (⟨d,op,u,p,af,some (j,want)⟩::rest) ms σ w:=HM (Q9.of rfl hg ht) (dD (o:=⟨d,op,u,p,af,some (j,want)⟩) hv hd k)
theorem V5 {op:Op} {j:Nat} {want b:Bool} (hg:gv ops σ j=some b) (ht:(b == want)=false) (hd:Qs n d=true) (k:Lp P n r ops Q rest ms (put σ d undef) w):Lp P n r ops Q (⟨d,op,u,p,af,some (j,want)⟩::rest) ms σ w:=dX (Q9.of rfl hg ht) hd k
theorem Wl {op:Op} {j:Nat} {want:Bool} (hg:gv ops σ j=none) (hd:Qs n d=true) (k:Lp P n r ops Q rest ms (put σ d undef) w):Lp P n r ops Q (⟨d,op,u,p,af,some (j,want)⟩::rest) ms σ w:=dX (Q9.skip rfl hg) hd k
end
end Go.SL
namespace Go.SL
open List
def LR (n l:Nat) (ps:List Tmp) (assign body:Code) (σ:QC) (D:Nat) (st:LoopState):Q2:=fun h=>
 ∃ fn tmps,tmps.size=n∧(∀ i,tmps.getD i undef=σ i)∧h l=some (.loop { state:=st,pending:=none,fn,tmps,params:=ps.toArray,assign,body,defers:=D })
def Hg:QC→List Tmp→List Value→QC
 | σ,p::ps,a::as=>Hg (Wf σ p a) ps as
 | σ,_,_=>σ
section
variable {P:Program} {n:Nat} {r:Option Nat} {Q:Z5} {ms:List Nat} {σ:QC} {w:World} {l:List Q2}
theorem ET [Q4] {m:Nat} {lb:Nat} {ps:List Tmp} {assign body:Code} {D:Nat} {st:LoopState} (H:Q0 w (LR m lb ps assign body σ D st::l)) :
  ∃ fn tmps,tmps.size=m∧(∀ i,tmps.getD i undef=σ i)∧Q0 w (pts lb (.loop { state:=st,pending:=none,fn,tmps,params:=ps.toArray,assign,body,defers:=D })::l):=by
 obtain⟨⟨f,g,a,b,d,⟨fn,tmps,h1,h2,h3⟩,y⟩,ok⟩:=H;exact⟨fn,tmps,h1,h2,⟨f,g,a,b,d,h3,y⟩,ok⟩
theorem Hh [Q4] {m:Nat} {lb:Nat} {ps:List Tmp} {assign body:Code} {D:Nat} {st:LoopState} {fn:FuncId} {tmps:Array Value} (h1:tmps.size=m) (h2:∀ i,tmps.getD i undef=σ i)
  (H:Q0 w (pts lb (.loop { state:=st,pending:=none,fn,tmps,params:=ps.toArray,assign,body,defers:=D })::l)):Q0 w (LR m lb ps assign body σ D st::l):=
 H.head fun h e=>⟨fn,tmps,h1,h2,e⟩
theorem eZ {m:Nat}:∀ (ps:List Tmp) (args:List Value) (σ:QC) (tmps:Array Value),(ps.all (fun p=>Nat.blt p m))=true→Rel m [] σ { tmps:=tmps,defers:=[] } →
  Rel m [] (Hg σ ps args) { tmps:=(ps.zip args).foldl (fun tmps x=>tmps.setIfInBounds x.1 x.2) tmps,defers:=[] }
 | [],args,σ,tmps,_,h=>by simpa [Hg] using h
 | p::ps,[],σ,tmps,_,h=>by simpa [Hg] using h
 | p::ps,a::args,σ,tmps,hp,h=>by
  simp only[all_cons,Bool.and_eq_true] at hp;have h1:=h.put (d:=some p) a (by simpa [Qs] using hp.1);exact eZ ps args _ _ hp.2 h1
theorem Kj [Q4] {m yl D:Nat} {ps:List Tmp} {args:List Value} {assign body:Code} {R:Value→World→Prop} (H:Q0 w (LR m yl ps assign body σ D .ready::l)) (hl:args.length=ps.length) (hp:(ps.all (fun p=>Nat.blt p m))=true)
  (h : C P m (some yl) assign (fun e ms σ1 w1 => e = .normal ∧ ∃ l1, Q0 w1 (LR m yl ps assign body σ D .ready :: l1) ∧ ∀ w2, Q0 w2 (LR m yl ps assign body σ D .busy :: l1) →
   C P m (some yl) body (fun e ms' σ2 w3=>e = .normal∧∃ l3,Q0 w3 (LR m yl ps assign body σ D .busy::l3)∧∀ w4,Q0 w4 (LR m yl ps assign body σ D .ready::l3)→R (.bool true) w4) ms σ1 w2) [] (Hg σ ps args) w) :
  Yields P yl args.toArray w R:=by
 obtain⟨fn,tmps,h1,h2,H1⟩:=ET H;have hb:=H1.pts;refine⟨_,_,_,_,run_yield hb (by simpa using hl),roundIn_of_wpIn (F:=Fence.wide) trivial ?_⟩;have ra:Rel m [] σ { tmps:=tmps,defers:=[] }:=⟨h1,rfl,h2⟩;have rb:=eZ ps args σ tmps hp ra
 have e0:((ps.toArray.zip args.toArray).foldl (fun tmps x=>tmps.setIfInBounds x.1 x.2) tmps)=(ps.zip args).foldl (fun tmps x=>tmps.setIfInBounds x.1 x.2) tmps:=by
  rw[← Array.foldl_toList];simp
 have hw:=h _ rb;rw[dQ] at hw;show assign.wpIn (Fence.wide.inRound yl) 0 P _ { tmps:=(ps.toArray.zip args.toArray).foldl (fun tmps x=>tmps.setIfInBounds x.1 x.2) tmps,defers:=[] } w;rw[e0];refine wpIn_mono hw ?_;intro e a w1 q;cases e with
 | outgrown=>exact q.elim
 | ret=>obtain⟨_,_,_,q,_⟩:=q;cases q
 | exit id=>obtain⟨_,_,_,q,_⟩:=q;cases q
 | goto t=>obtain⟨_,_,_,q,_⟩:=q;cases q
 | panic c=>obtain⟨_,_,_,q,_⟩:=q;cases q
 | normal=>
  obtain⟨ms1,σ1,r1,_,l1,H1,k⟩:=q;obtain⟨fn',tmps',Hi,Yj,H2⟩:=ET H1;have D8:=H2.pts;refine⟨_,run_beginRound D8 rfl,?_⟩;have H3:Q0 _ (LR m yl ps assign body σ D .busy::l1):=Hh (fn:=fn') (tmps:=tmps') Hi Yj (H2.set (World.putObj_heap_same H2.fresh) (fun c hc=>World.putObj_heap_other hc));have UK:=k _ H3 a r1;rw[dQ] at UK;refine wpIn_mono UK ?_;intro e a w3 q;cases e with
  | outgrown=>exact q.elim
  | ret=>obtain⟨_,_,_,q,_⟩:=q;cases q
  | exit id=>obtain⟨_,_,_,q,_⟩:=q;cases q
  | goto t=>obtain⟨_,_,_,q,_⟩:=q;cases q
  | panic c=>obtain⟨_,_,_,q,_⟩:=q;cases q
  | normal=>
   obtain⟨ms3,σ3,r3,_,l3,H4,k4⟩:=q;obtain⟨fn3,tmps3,KW,Pb,H5⟩:=ET H4;refine⟨_,_,run_endRound none H5.pts,?_⟩;exact k4 _ (Hh (fn:=fn3) (tmps:=tmps3) KW Pb (H5.set (World.putObj_heap_same H5.fresh) (fun c hc=>World.putObj_heap_other hc)))
theorem W0 [Q4] {g:Operand} {ps:List Tmp} {assign body:Code} {f:FuncId} {a b:List Value} (H:Q0 w l) (hg:ev σ g = .func (.func f) a.toArray b.toArray) [hB:QZ P f]
  (k : ∀ yl D w1, Q0 w1 (LR n yl ps assign body σ D .ready :: pts D (.deferred (some [])) :: l) →
   Calls P f ((a++[Value.func (.yield yl) #[] #[]])++b).toArray w1 (ret fun _ w2=>∃ l2,Q0 w2 (LR n yl ps assign body σ D .ready::l2)∧∀ w3,Q0 w3 l2→Q .normal (D::ms) σ w3)) :
  C P n none (.rangeFunc g ps.toArray assign body) Q ms σ w:=by
 intro act ra;refine wpIn_rangeFunc ?_;intro fn _;have H1:=H.new (.deferred (some []));have H2:=H1.new (.loop { state := .ready,pending:=none,fn,tmps:=act.tmps,params:=ps.toArray,assign,body,defers:=w.heap.size });have Ve:({ w with heap:=w.heap.push (.deferred (some [])) }:World).heap.size=w.heap.size+1:=by simp
 rw[Ve] at H2;have H3:=Hh (m:=n) ra.size ra.val H2;have hc:=k _ _ _ H3
 refine⟨w.heap.size+1,[{ target := .collected w.heap.size,args:=#[] }],(w.alloc (.deferred (some []))).alloc (.loop { state := .ready,pending:=none,fn,tmps:=act.tmps,params:=ps.toArray,assign,body,defers:=w.heap.size }),
  { target := .fn (.func f) b.toArray,args:=(a++[Value.func (.yield (w.heap.size+1)) #[] #[]]).toArray },(w.alloc (.deferred (some []))).alloc (.loop { state := .ready,pending:=none,fn,tmps:=act.tmps,params:=ps.toArray,assign,body,defers:=w.heap.size }),f,
  ((a++[Value.func (.yield (w.heap.size+1)) #[] #[]])++b).toArray,(w.alloc (.deferred (some []))).alloc (.loop { state := .ready,pending:=none,fn,tmps:=act.tmps,params:=ps.toArray,assign,body,defers:=w.heap.size }),run_enterLoop_outer fn act.tmps ps.toArray assign body,?_,fun _ _=>trivial,?_,fun hs=>by simp[F] at hs,PA (r:=none) ?_⟩
 ·rw[ra.eval];simp only[rangeCall,resolve,hg,Deferred.ofValue,Sem.run_bind,Sem.run_pure,Result.andThen_ok];simp[ev]
 ·simp only[invoke];rw[Lz hB];simp
 ·refine hc.mono fun e w2 q=>?_;cases e with
  | panicked c=>exact q.elim
  | outgrown=>exact q.elim
  | returned v=>
   obtain⟨l2,H4,kq⟩:=q;obtain⟨fn3,tmps3,KW,Pb,H5⟩:=ET H4;refine⟨none,_,run_endLoop H5.pts (by simp),?_⟩;have H6:=(H5.set (w':=w2.putObj (w.heap.size+1) (.loop { state := .exhausted,pending:=none,fn:=fn3,tmps:=tmps3,params:=ps.toArray,assign,body,defers:=w.heap.size })) (World.putObj_heap_same H5.fresh) (fun c hc=>World.putObj_heap_other hc)).drop;refine⟨w.heap.size::ms,σ,⟨ra.size,?_,ra.val⟩,kq _ H6⟩;show [({ target := .collected w.heap.size,args:=#[] }:Deferred)]++act.defers=_;rw[ra.defs];rfl
end
def Zf {K V:Type} (ek:K→Value) (vv:V→Value) (v:Value) (m:List (K×V)):Q2:=fun h=>(v = .map none∧m=[])∨∃ b,v = .map (some b)∧mp ek vv b m h
def Af {K V:Type} (ek:K→Value) (vv:V→Value) (v:Value) (m:List (K×V)) (bi:Nat) (ks:List K):Q2:=fun h=>
 (v = .map none∧m=[]∧ks=[]∧h bi=some (.mapIter none 0 #[] 0)) ∨
 ∃ (b:Nat) (es:Array MapEntry) (clock since:Nat) (seen:Array Nat),v = .map (some b)∧h b=some (.map es clock)∧G9 ek vv es clock m∧h bi=some (.mapIter (some b) since seen clock)∧since≤clock∧(∀ e∈es.toList,e.born < since) ∧
  ks.Nodup∧(∀ y∈ks,y∈m.map (·.1))∧(∀ e∈es.toList,∀ y,e.key=ek y→(y∈ks↔e.born∈seen))∧(∀ y,ks.getLast? = some y→∃ e∈es.toList,seen.back? = some e.born∧e.key=ek y)
theorem MZ {α β:Type} {f:α→β}:∀ {l:List α},(l.map f).Nodup→∀ {a b:α},a∈l→b∈l→f a=f b→a=b
 | c::l,hn,a,b,ha,hb,e=>by
  simp only[map_cons,nodup_cons] at hn
  rcases mem_cons.1 ha with rfl|MG <;> rcases mem_cons.1 hb with rfl|D9
  ·rfl
  ·exact absurd (by rw[e];exact mem_map_of_mem D9) hn.1
  ·exact absurd (by rw[← e];exact mem_map_of_mem MG) hn.1
  ·exact MZ hn.2 MG D9 e
theorem eG {α β:Type} {f:α→β} (hf:∀ a b,f a=f b→a=b):∀ {l:List α},l.Nodup→(l.map f).Nodup
 | [],_=>by simp
 | c::l,hn=>by
  simp only[map_cons,nodup_cons] at hn ⊢;refine⟨fun hm=>?_,eG hf hn.2⟩;obtain⟨d,hd,e⟩:=mem_map.1 hm;exact hn.1 (hf _ _ e▸hd)
section
variable {P:Program} {n:Nat} {r:Option Nat} {σ:QC} {w:World} {K':QC→World→Prop} {l:List Q2}
variable {K V:Type} [DecidableEq K] {ek:K→Value} {vv:V→Value} {m:List (K×V)} {t k e:TypeId}
variable {u ut:TypeId} {p:String} {af:Array Edge} {g:Option (Nat×Bool)} {d:Option Tmp} {x:Operand}
theorem MU [Q4] {b:Nat} (H:Q0 w (mp ek vv b m::l)):Q0 w (Zf ek vv (.map (some b)) m::l):=H.head fun h hm => .inr ⟨b,rfl,hm⟩
theorem eU [Q4] (ek:K→Value) (vv:V→Value) (H:Q0 w l):Q0 w (Zf ek vv (.map none) []::l):=⟨⟨fun _=>none,hp w,fun _ _ e=>(by cases e),Ye.rfl' _,fun _ _ _ e=>(by cases e),.inl ⟨rfl,rfl⟩,H.1⟩,H.2⟩
theorem Pc [Q4] {v:Value} {bi:Nat} {ks:List K} (H:Q0 w (Af ek vv v m bi ks::l)):Q0 w (Zf ek vv v m::l):=H.head fun h hm=>by
 rcases hm with ⟨h1,h2,_⟩|⟨b,es,clock,since,seen,h1,h2,h3,_⟩
 ·exact .inl ⟨h1,h2⟩
 ·exact .inr ⟨b,h1,es,clock,h2,h3⟩
theorem Pd [Q4] {v:Value} (ek:K→Value) (vv:V→Value) {m:List (K×V)} (H:Q0 w (Zf ek vv v m::l)) (hx:ev σ x=v) [hM:Zx P t k e] (hd:Qs n d=true)
  (kk:∀ bi w',Q0 w' (Af ek vv v m bi []::l)→K' (put σ d (.pointer (some ⟨bi,0,none⟩))) w'):St P n r ⟨d,.range t x,u,p,af,g⟩ σ w K':=by
 obtain⟨⟨f,g',a,b',dd,hm,y⟩,okw⟩:=H
 rcases hm with ⟨rfl,rfl⟩|⟨b,rfl,es,clock,h2,h3⟩
 ·refine VP (v := .pointer (some ⟨w.heap.size,0,none⟩)) (w':=w.alloc (.mapIter none 0 #[] 0)) hd (fun c e=>by cases e) ?_ (kk _ _ ?_)
  ·simp only[execOp,hx,Sem.run_bind,run_range_nilMap w t k e hM.und,Result.andThen_ok];rfl
  ·have H':Q0 w l:=⟨EF b' y,okw⟩;exact(H'.new (.mapIter none 0 #[] 0)).head fun h e => .inl ⟨rfl,rfl,rfl,e⟩
 ·have hb:=a _ _ h2;refine VP (v := .pointer (some ⟨w.heap.size,0,none⟩)) (w':=w.alloc (.mapIter (some b) clock #[] clock)) hd (fun c e=>by cases e) ?_ (kk _ _ ?_)
  ·simp only[execOp,hx,Sem.run_bind,run_range_map w t k e b es clock hM.und hb,Result.andThen_ok];rfl
  ·have QB:b≠w.heap.size:=by
    have:=(Array.getElem?_eq_some_iff.1 hb).1;omega
   have H':Q0 w (pts b (.map es clock)::l):=⟨⟨f,g',a,b',dd,h2,y⟩,okw⟩;have H2:=H'.new (.mapIter (some b) clock #[] clock);obtain⟨⟨f1,g1,a1,b1,d1,x1,f2,g2,a2,b2,d2,x2,y2⟩,ok2⟩:=H2;refine⟨⟨XR f1 f2,g2,Lt a1 (a2.trans b1),b2.trans b1,Lu (d1.mono (Ye.rfl' _) b2) d2,?_,y2⟩,ok2⟩;refine .inr ⟨b,es,clock,clock,#[],rfl,Ls (d1.mono (Ye.rfl' _) a2) _ _ x2,h3,Lr _ _ x1,Nat.le_refl _,h3.born,by simp,by simp,by simp,by simp⟩
theorem nP {ty:TypeId} {b bi since clock:Nat} {seen:Array Nat} {es:Array MapEntry} (Bp:w.heap[bi]? = some (.mapIter (some b) since seen clock)) (hb:w.heap[b]? = some (.map es clock)) (PU:∀ x∈es.toList,x.born < since) (eX:since≤clock) :
  ((leftOf es seen).size=0∧∃ w',(Instr.next (.pointer (some ⟨bi,0,none⟩)) false ty).run P w = .ok (.tuple #[.bool false]) w'∧w'.heap=w.heap∧UG w w') ∨
  ∃ e∈(leftOf es seen).toList,∃ w':World,(Instr.next (.pointer (some ⟨bi,0,none⟩)) false ty).run P w = .ok (.tuple #[.bool true,e.key,e.val]) w' ∧
   w'.heap[bi]? = some (.mapIter (some b) since (seen.push e.born) clock)∧(∀ c,c≠bi→w'.heap[c]? = w.heap[c]?)∧UG w w':=by
 have Q6:bi < w.heap.size:=(Array.getElem?_eq_some_iff.1 Bp).1;simp only[Instr.next,getObj,Sem.run_bind,Sem.run,Bp,hb,Result.andThen,next_test_false seen es since clock PU eX,Bool.false_eq_true,if_false];unfold leftOf;have VR:∀ x∈(Array.filter (fun e => !seen.contains e.born) es).toList,x.born < since:=fun x hx=>PU x (by simp at hx ⊢;exact hx.1);generalize Array.filter (fun e => !seen.contains e.born) es=L at VR ⊢;have e1:L.filter (fun x=>decide (x.born < since))=L:=Array.filter_eq_self.2 (fun x hx=>by simpa using VR x (by simpa using hx))
 have e2:L.filter (fun x=>decide (x.born≥since))=#[]:=by
  rw[Array.filter_eq_empty_iff];intro x hx;have:=VR x (by simpa using hx);simp;omega
 simp only[e1,e2,Array.append_empty];by_cases h0:L.size=0
 ·left;have:L=#[]:=Array.eq_empty_of_size_eq_zero h0;subst this;refine⟨rfl,w,?_,rfl,UG.refl w⟩;simp[choose,Sem.run,Question.forced]
 ·right;have QB:L.isEmpty=false:=by simp[Array.isEmpty,h0]
  simp only[QB,Bool.false_eq_true,if_false,Array.empty_append,Array.size_map]
  have YJ:∃ (j:Nat) (w1:World),j < L.size∧(w1.heap=w.heap∧UG w w1)∧(choose (Question.mapNext L.size)).run P w = .ok j w1:=by
   by_cases hf:L.size≤1
   ·exact⟨0,w,by omega,⟨rfl,rfl,rfl⟩,by simp[choose,Sem.run,Question.forced,hf]⟩
   ·exact⟨_,w.drew,Nat.mod_lt _ (by omega),⟨rfl,rfl,rfl⟩,by
     simp only[choose,Sem.run,Question.forced,decide_eq_true_eq,hf,if_false,Question.cut];rfl⟩
  obtain⟨j,w1,hj,⟨Hj,Zg⟩,Us⟩:=YJ;have nS:w1.heap[bi]? = some (.mapIter (some b) since seen clock):=by rw[Hj];exact Bp
  refine⟨L[j],by simp,w1.putObj bi (.mapIter (some b) since (seen.push L[j].born) clock),?_,World.putObj_heap_same (by rw[Hj];exact Q6),fun c hc=>by rw[World.putObj_heap_other hc,Hj],Zg⟩;simp only[Us,Array.getElem?_map,Array.getElem?_eq_getElem hj,Option.map_some,Sem.run_bind,Result.andThen]
  have Uu:(setObj bi (.mapIter (some b) since (seen.push L[j].born) clock)).run P w1 = .ok () (w1.putObj bi (.mapIter (some b) since (seen.push L[j].born) clock)):=by
   simp[setObj,Sem.run,nS,World.putObj]
  simp only[Uu];rfl
theorem Pe [Q4] {v:Value} {bi:Nat} {ks:List K} (H:Q0 w (Af ek vv v m bi ks::l)) (hi:∀ a b,ek a=ek b→a=b) (hx:ev σ x = .pointer (some ⟨bi,0,none⟩)) (hd:Qs n d=true)
  (kend:ks.Perm (m.map (·.1))→∀ w',Q0 w' (Af ek vv v m bi ks::l)→K' (put σ d (.tuple #[.bool false])) w')
  (kstep:∀ q∈m,q.1∉ks→ks.Nodup→(∀ y∈ks,y∈m.map (·.1))→∀ w',Q0 w' (Af ek vv v m bi (ks++[q.1])::l)→K' (put σ d (.tuple #[.bool true,ek q.1,vv q.2])) w'):St P n r ⟨d,.next x false,u,p,af,g⟩ σ w K':=by
 obtain⟨⟨f,g',a,b',dd,hm,y⟩,okw⟩:=H
 rcases hm with ⟨rfl,rfl,rfl,h0⟩|⟨b,es,clock,since,seen,rfl,h1,h2,h3,h4,h5,h6,h7,h8,h9⟩
 ·have hb:w.heap[bi]? = some (.mapIter none 0 #[] 0):=a _ _ h0;refine VP (v := .tuple #[.bool false]) (w':=w) hd (fun c e=>by cases e) ?_ (kend (by simp) w ⟨⟨f,g',a,b',dd,.inl ⟨rfl,rfl,rfl,h0⟩,y⟩,okw⟩);simp only[execOp,hx,Instr.next,getObj,Sem.run_bind,Sem.run,hb,Result.andThen];rfl
 ·have hb:w.heap[b]? = some (.map es clock):=a _ _ h1;have Bp:w.heap[bi]? = some (.mapIter (some b) since seen clock):=a _ _ h3;have bn:(es.toList.map (·.born)).Nodup:=h2.rise.imp fun h=>Nat.ne_of_lt h;have kn:(es.toList.map (·.key)).Nodup:=by rw[h2.keys];exact eG hi h2.nodup
  rcases nP (P:=P) (ty:=u) Bp hb h5 h4 with ⟨h0,w',hr,hw,Zg⟩|⟨e,he,w',hr,hbi',Bq,Zg⟩
  ·refine VP (v := .tuple #[.bool false]) (w':=w') hd (fun c e=>by cases e) ?_ (kend ?_ w' ?_)
   ·simp only[execOp,hx,Sem.run_bind,hr,Result.andThen_ok];rfl
   ·refine(perm_ext_iff_of_nodup h6 h2.nodup).2 fun z=>⟨h7 z,fun hz=>?_⟩;have:ek z∈es.toList.map (·.key):=by rw[h2.keys];exact mem_map_of_mem hz
    obtain⟨e,he,ee⟩:=mem_map.1 this;refine(h8 e he z ee).2 ?_;have hl:leftOf es seen=#[]:=Array.eq_empty_of_size_eq_zero h0;unfold leftOf at hl;rw[Array.filter_eq_empty_iff] at hl;have:=hl e (by simpa using he);simpa using this
   ·exact Q0.heap (w:=w) ⟨⟨f,g',a,b',dd,.inr ⟨b,es,clock,since,seen,rfl,h1,h2,h3,h4,h5,h6,h7,h8,h9⟩,y⟩,okw⟩ hw Zg
  ·have W1:e∈es.toList∧e.born∉seen:=by
    have:=mem_left he;refine⟨this.1,?_⟩;simpa using this.2
   obtain⟨j,hj⟩:=getElem?_of_mem W1.1;obtain⟨q,hq,ek1,ev1⟩:=h2.at hj;have eK:q∈m:=mem_of_getElem? hq;have eR:q.1∉ks:=fun hk=>W1.2 ((h8 e W1.1 q.1 ek1).1 hk);refine VP (v := .tuple #[.bool true,ek q.1,vv q.2]) (w':=w') hd (fun c e=>by cases e) ?_ (kstep q eK eR h6 h7 w' ?_)
   ·simp only[execOp,hx,Sem.run_bind,hr,Result.andThen_ok,ek1,ev1];rfl
   ·have QB:b≠bi:=fun e0=>by rw[e0,Bp] at hb;cases hb
    refine⟨⟨fun c=>if c=bi then some (.mapIter (some b) since (seen.push e.born) clock) else f c,g',?_,?_,?_,.inr ⟨b,es,clock,since,seen.push e.born,rfl,?_,h2,?_,h4,h5,?_,?_,?_,?_⟩,y⟩,okw.same Zg⟩
    ·intro c o hc;by_cases YL:c=bi
     ·subst YL;simp at hc;subst hc;exact hbi'
     ·simp[YL] at hc;exact(Bq c YL).trans (a c o hc)
    ·intro c o hc;have YL:c≠bi:=fun e0=>by subst e0;exact dd _ _ _ h3 hc
     exact(Bq c YL).trans (b' c o hc)
    ·intro c o o' hc Zu;by_cases YL:c=bi
     ·subst YL;exact dd _ _ _ h3 Zu
     ·simp[YL] at hc;exact dd _ _ _ hc Zu
    ·simp[QB,h1]
    ·simp
    ·rw[nodup_append];exact⟨h6,by simp,fun c hc c' Zu e0=>by simp at Zu;subst Zu;subst e0;exact eR hc⟩
    ·intro z hz
     rcases mem_append.1 hz with hz|hz
     ·exact h7 z hz
     ·simp at hz;subst hz;exact mem_map_of_mem eK
    ·intro e2 Hk z hz;rw[mem_append,Array.mem_push,h8 e2 Hk z hz];simp only[mem_singleton];constructor
     ·rintro(h|rfl)
      ·exact .inl h
      ·exact .inr (by rw[MZ kn Hk W1.1 (hz.trans ek1.symm)])
     ·rintro(h|h)
      ·exact .inl h
      ·have:=MZ bn Hk W1.1 h;subst this;exact .inr (hi _ _ (hz.symm.trans ek1))
    ·intro z hz;simp at hz;subst hz;exact⟨e,W1.1,by simp,ek1⟩
theorem Pf [Q4] {v:Value} {bi:Nat} {ks:List K} {q:K×V} (H:Q0 w (Af ek vv v m bi (ks++[q.1])::l)) (hi:∀ a b,ek a=ek b→a=b) (hq:q∈m) (hx:ev σ x = .pointer (some ⟨bi,0,none⟩)) (hd:Qs n d=true)
  (kk:K' (put σ d (.tuple #[ek q.1,vv q.2])) w):St P n r ⟨d,.entry x,u,p,af,g⟩ σ w K':=by
 obtain⟨⟨f,g',a,b',dd,hm,y⟩,okw⟩:=H
 rcases hm with ⟨rfl,rfl,hk,h0⟩|⟨b,es,clock,since,seen,rfl,h1,h2,h3,h4,h5,h6,h7,h8,h9⟩
 ·simp at hk
 ·have hb:w.heap[b]? = some (.map es clock):=a _ _ h1;have Bp:w.heap[bi]? = some (.mapIter (some b) since seen clock):=a _ _ h3;have bn:(es.toList.map (·.born)).Nodup:=h2.rise.imp fun h=>Nat.ne_of_lt h;obtain⟨e,he,hs,ek1⟩:=h9 q.1 (by simp);obtain⟨j,hj⟩:=getElem?_of_mem he;obtain⟨q',Wm,ek2,ev2⟩:=h2.at hj;have nT:q'=q:=MZ h2.nodup (mem_of_getElem? Wm) hq (hi _ _ (ek2.symm.trans ek1));subst nT;refine VP (v := .tuple #[ek q'.1,vv q'.2]) (w':=w) hd (fun c e=>by cases e) ?_ kk;have hf:es.find? (·.born == e.born)=some e:=by rw[← Array.find?_toList];exact find_born e es.toList bn he
  simp only[execOp,hx,Instr.entry,getObj,Sem.run_bind,Sem.run,Bp,hb,Result.andThen,hs,bne_self_eq_false,Bool.false_eq_true,if_false,hf,ek2,ev2];rfl
end
end Go.SL
namespace Go.SL
section
variable {P:Program} {n:Nat} {r:Option Nat} {σ:QC} {w:World} {K:QC→World→Prop}
variable {u t:TypeId} {p:String} {af:Array Edge} {g:Option (Nat×Bool)} {d:Option Tmp} {x y z:Operand}
end
end Go.SL
namespace Go.SL
open List
section
variable {P:Program} {n:Nat} {r:Option Nat} {ops:Array Oper} {Q:Z5} {ms:List Nat} {σ:QC} {w:World} {rest:List Oper} {o:Oper} {K:QC→World→Prop} {l l':List Q2}
variable {ivs:List (List Nat×(World→Prop))} {T:QC→World→Prop} {f:Nat} {L:Array Bool}
variable {u t s:TypeId} {p:String} {af:Array Edge} {g:Option (Nat×Bool)} {d:Option Tmp} {x y z:Operand}
theorem Yx {c:Code} {Q:Z5} (I:List Nat→QC→World→Prop) (h:C P n r c (fun e ms σ w=>(e = .normal∧I ms σ w)∨(e ≠ .normal∧Q e ms σ w)) ms σ w) (k:∀ ms σ w,I ms σ w→Q .normal ms σ w):C P n r c Q ms σ w:=
 dZ h fun e ms σ w q=>by
  rcases q with ⟨rfl,q⟩|⟨_,q⟩
  ·exact k _ _ _ q
  ·exact q
theorem eW {k k' q:IntKind} {i:Int} (hs:Wj P s k') (ht:Wj P t k):(convert s t (.int q i)).run P w = .ok (.int k (k.wrap i)) w:=by
 unfold convert;simp only[Sem.run_bind,YP hs.und,YP ht.und,Result.andThen_ok,Conv.intToInt,Sem.run_pure]
theorem Pg {k k' q:IntKind} {i:Int} [hs:Wj P s k'] [ht:Wj P t k] (hx:ev σ x = .int q i) (hd:Qs n d=true) (h:K (put σ d (.int k (k.wrap i))) w):St P n r ⟨d,.convert s t x,u,p,af,g⟩ σ w K:=
 VP hd (fun c e=>by cases e) (by simp only[execOp,hx,Sem.run_bind,eW hs ht,Result.andThen_ok,Sem.run_pure]) h
theorem KA {k k' q:IntKind} {i:Int} (j:Nat) (hj:ops[j]? = some ⟨d,.convert s t x,u,p,af,g⟩) (hg:Q9 ops σ ⟨d,.convert s t x,u,p,af,g⟩ true) [hs:Wj P s k'] [ht:Wj P t k] (hx:ev σ x = .int q i)
  (hb:ZB n ops (ivs.map (·.1)) L j []=true) (h:Any P n r ops ivs T f (L.setIfInBounds j true) (put σ d (.int k (k.wrap i))) w):Any P n r ops ivs T (f+1) L σ w:=
 KU j hj hg (fun c e=>by cases e) (fun w=>by simp only[execOp,hx,Sem.run_bind,eW hs ht,Result.andThen_ok,Sem.run_pure]) hb h
theorem na {e size bytes len cap:Nat} {a:Option Addr} (hT:Vv P t e size bytes) (op:BinOp) (X Y:Operand) (ho:op = .eql∨op = .neq) :
  (do eqGuard op t X Y (.slice a len cap) (.slice none 0 0);binOp op t (.slice a len cap) (.slice none 0 0):Sem Value).run P w = .ok (.bool (if ZC op then a.isNone else a.isSome)) w:=by
 have h1:(Op.equal t (.slice a len cap) (.slice none 0 0)).run P w = .ok a.isNone w:=by
  unfold Op.equal Op.maxDepth Op.equalIn;simp only[Sem.run_bind,YP hT.und,Result.andThen_ok];cases a <;> rfl
 rcases ho with rfl|rfl
 ·simp[eqGuard,binOp,h1,ZC]
 ·simp[eqGuard,binOp,h1,ZC]
theorem nb {op:BinOp} {yt:TypeId} {e size bytes len cap:Nat} {a:Option Addr} [hT:Vv P t e size bytes] (hx:ev σ x = .slice a len cap) (hy:ev σ y = .slice none 0 0) (ho:op = .eql∨op = .neq) (hd:Qs n d=true)
  (k:K (put σ d (.bool (if ZC op then a.isNone else a.isSome))) w):St P n r ⟨d,.binOp op t x y yt,u,p,af,g⟩ σ w K:=
 VP hd (fun c e=>by cases e) (by simp only[execOp,hx,hy,Sem.run_bind];rw[← Sem.run_bind,na hT op x y ho];rfl) k
inductive XC (P:Program) (σ:QC) (w:World):List ResultVar→List Value→Prop
 | nil:XC P σ w [] []
 | tmp {t:Tmp} {rs:List ResultVar} {vs:List Value} (h:XC P σ w rs vs):XC P σ w (.tmp t::rs) (σ t::vs)
 | cell {a:Tmp} {t:TypeId} {b i:Nat} {v:Value} {rs:List ResultVar} {vs:List Value} (ha:σ a = .pointer (some ⟨b,i,none⟩)) (hv:(loadVar t ⟨b,i,none⟩).run P w = .ok v w) (h:XC P σ w rs vs):XC P σ w (.cell a t::rs) (v::vs)
theorem Ph {G:ResultVar→Sem Value} (h1:∀ t,G (.tmp t)=pure (σ t)) (h2:∀ a t,G (.cell a t)=(do loadVar t (← asAddr (σ a)))):∀ {rs:List ResultVar} {vs:List Value},XC P σ w rs vs→(rs.mapM G).run P w = .ok vs w
 | _,_,.nil=>rfl
 | _,_,.tmp h=>by
  rw[mapM_cons,h1];have ih:=Ph h1 h2 h;simp only[Sem.run_bind,ih,Result.andThen,Sem.run_pure]
 | _,_,.cell ha hv h=>by
  rw[mapM_cons,h2,ha];have ih:=Ph h1 h2 h;simp only[asAddr,Sem.run_bind,Sem.run_pure,Result.andThen,hv,ih]
theorem eA {fn:Func} {a:Act} {vs:List Value} (ra:Rel n ms σ a) (h:XC P σ w fn.results.toList vs):(results fn a.tmps).run P w = .ok (AM vs) w:=by
 unfold results;rw[← Array.toArray_toList (xs:=fn.results),mapM_toArray];simp only[Sem.run_bind,Sem.run_map];rw[Ph (σ:=σ) (fun t=>by simp only[ra.val]) (fun a t=>by simp only[ra.val]) h];simp only[Result.andThen];cases vs with
 | nil=>rfl
 | cons v vs=>cases vs <;> rfl
theorem Hl [Q4] {fn:Func} {R:Value→World→Prop} {e:Exit} {vs:List Value} (l:List Q2) (he:e = .normal∨e = .ret) (H:Q0 w l)
  (hv:∀ w',Q0 w' l→XC P σ w' fn.results.toList vs) (hR:∀ w',Q0 w' l→R (AM vs) w'):Bi P n fn R e [] σ w:=
 ⟨he,.inl ⟨l,mk_nil H,fun w' H' a ra=>⟨_,eA ra (hv w' H'),hR w' H'⟩⟩⟩
theorem XC.cellN [Q4] {a:Tmp} {t:TypeId} {b i E m:Nat} {fz:Nat×Nat} {c vs:List Value} {rs:List ResultVar} {us:List Value} (H:Q0 w l) (ha:σ a = .pointer (some ⟨b,i,none⟩)) [h1:TN P t m] [hA:At b (.cells c.toArray E fz) l] (hv:QY c i m vs) (h:XC P σ w rs us):XC P σ w (.cell a t::rs) (.agg vs.toArray::us):=
 .cell ha (PE (P:=P) h1 (hA.get _ H.1) hv) h
theorem XC.cell1 [Q4] {a:Tmp} {t:TypeId} {b i E:Nat} {fz:Nat×Nat} {c:List Value} {v:Value} {rs:List ResultVar} {us:List Value} (H:Q0 w l) (ha:σ a = .pointer (some ⟨b,i,none⟩)) [h1:T1 P t] [hA:At b (.cells c.toArray E fz) l] (hv:c[i]? = some v) (h:XC P σ w rs us):XC P σ w (.cell a t::rs) (v::us):=
 .cell ha (PD (P:=P) h1 (hA.get _ H.1) hv) h
end
end Go.SL
