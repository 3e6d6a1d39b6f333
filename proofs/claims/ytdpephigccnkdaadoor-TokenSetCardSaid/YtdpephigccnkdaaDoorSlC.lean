/- The walk's own rules, operation by operation. No condition. -/
import Derived.Test.YtdpephigccnkdaaDoorSlB
import Derived.Laws.Cells
set_option linter.unusedVariables false
set_option linter.unusedSimpArgs false
namespace Go.SL

/-! ### 1. What is asked of the program's types -/

/-- One cell. -/
class T1 (P : Program) (t : TypeId) : Prop where
  und : ∃ d, P.underlying t = some d ∧ (∀ fs, d ≠ .struct fs) ∧ (∀ k e, d ≠ .array k e)
  size : (P.info? t).map (·.size) = some 1
/-- A struct or array of n cells. -/
class TN (P : Program) (t : TypeId) (n : outParam Nat) : Prop where
  und : (∃ fs, P.underlying t = some (.struct fs)) ∨ (∃ k e, P.underlying t = some (.array k e))
  size : (P.info? t).map (·.size) = some n
class TField (P : Program) (s : TypeId) (f : Nat) (off : outParam Nat) : Prop where
  field : ∃ fs fd, P.underlying s = some (.struct fs) ∧ fs[f]? = some fd ∧ fd.offset = off ∧ ∃ k, (P.info? fd.type).map (·.size) = some k ∧ k ≠ 0
/-- A slice's element: its type, cells and bytes. -/
class TSlice (P : Program) (t : TypeId) (e : outParam TypeId) (size bytes : outParam Nat) : Prop where
  und : P.underlying t = some (.slice e)
  info : (P.info? e).map (fun i => (i.size, i.bytes)) = some (size, bytes)
class TArr (P : Program) (t : TypeId) (len : outParam Nat) (e : outParam TypeId) (size : outParam Nat) : Prop where
  und : P.underlying t = some (.array len e)
  info : (P.info? e).map (·.size) = some size
class TZero (P : Program) (t : TypeId) (v : outParam Value) : Prop where
  zero : (P.info? t).map (·.zero) = some (some v)
class TString (P : Program) (t : TypeId) : Prop where
  und : P.underlying t = some .string
class TPtr (P : Program) (t : TypeId) : Prop where
  und : ∃ e, P.underlying t = some (.pointer e)
class TBody (P : Program) (f : FuncId) : Prop where
  body : ∃ fn, P.funcs[f]? = some fn ∧ fn.body.isNone = false ∧ (fn.name == "runtime.NumGoroutine") = false

/-! ### 2. Rows of cells -/

@[reducible] def row (E : TypeId) (c : List Value) : Obj := .cells c.toArray E (0, 0)

inductive Reads (c : List Value) : Nat → Nat → List Value → Prop
  | nil (o : Nat) : Reads c o 0 []
  | cons {o n : Nat} {v : Value} {l : List Value} (h : c[o]? = some v) (t : Reads c (o + 1) n l) : Reads c o (n + 1) (v :: l)

theorem Reads.len {c : List Value} {o n : Nat} {l : List Value} (h : Reads c o n l) : l.length = n := by
  induction h with
  | nil o => rfl
  | cons _ _ ih => simp [ih]

theorem Reads.get {c : List Value} {o n : Nat} {l : List Value} (h : Reads c o n l) : ∀ (j : Nat) (v : Value), l[j]? = some v → c[o + j]? = some v := by
  induction h with
  | nil o => intro j v e; simp at e
  | @cons o n u l h t ih =>
    intro j v e
    cases j with
    | zero => simp at e; subst e; exact h
    | succ j =>
      have := ih j v (by simpa using e)
      rw [show o + (j + 1) = o + 1 + j by omega]
      exact this

/-- The cells from o on are others. -/
def wr (c : List Value) (o : Nat) : List Value → List Value
  | [] => c
  | v :: l => wr (c.set o v) (o + 1) l

section
variable {P : Program} {w : World}

theorem cell_row {b o E : Nat} {fz : Nat × Nat} {c : List Value} {v : Value} (h : w.heap[b]? = some (.cells c.toArray E fz)) (hv : c[o]? = some v) : w.cell? ⟨b, o, none⟩ = some v := by
  simp [World.cell?, h, hv]

theorem add_lit' (b o i : Nat) : (Addr.mk b o none).add i = ⟨b, o + i, none⟩ := by
  unfold Addr.add
  split
  · rename_i e; subst e; rfl
  · rfl

theorem frozen_row {b o E : Nat} {c : List Value} (h : w.heap[b]? = some (row E c)) : w.frozen? ⟨b, o, none⟩ = false := by
  simp [World.frozen?, h]

theorem run_isAgg1 {t : TypeId} (h : T1 P t) : (isAgg t).run P w = .ok false w := by
  obtain ⟨d, hd, h1, h2⟩ := h.und
  unfold isAgg underlying
  simp only [Sem.run_bind, run_program, Result.andThen_ok, hd, Sem.run_pure]

theorem run_isAggN {t : TypeId} {n : Nat} (h : TN P t n) : (isAgg t).run P w = .ok true w := by
  unfold isAgg underlying
  rcases h.und with ⟨fs, hd⟩ | ⟨k, e, hd⟩ <;> simp only [Sem.run_bind, run_program, Result.andThen_ok, hd, Sem.run_pure]

theorem run_sizeOf' {t : TypeId} {n : Nat} (h : (P.info? t).map (·.size) = some n) : (sizeOf t).run P w = .ok n w := by
  obtain ⟨i, hi, rfl⟩ := Option.map_eq_some_iff.1 h
  unfold sizeOf typeInfo
  simp only [Sem.run_bind, run_program, Result.andThen_ok, hi, Sem.run_pure]

theorem run_loadVar1 {t : TypeId} (h : T1 P t) {b o E : Nat} {fz : Nat × Nat} {c : List Value} {v : Value} (hb : w.heap[b]? = some (.cells c.toArray E fz)) (hv : c[o]? = some v) : (loadVar t ⟨b, o, none⟩).run P w = .ok v w := by
  unfold loadVar
  simp only [Sem.run_bind, run_isAgg1 h, Result.andThen_ok]
  simp only [Bool.false_eq_true, if_false]
  unfold load
  simp only [Sem.run, cell_row hb hv]

theorem run_loadVarN {t : TypeId} {n : Nat} (h : TN P t n) {b o E : Nat} {fz : Nat × Nat} {c vs : List Value} (hb : w.heap[b]? = some (.cells c.toArray E fz)) (hv : Reads c o n vs) : (loadVar t ⟨b, o, none⟩).run P w = .ok (.agg vs.toArray) w := by
  unfold loadVar
  simp only [Sem.run_bind, run_isAggN h, Result.andThen_ok, if_true, run_sizeOf' h.size]
  have hl := run_loadCells_list (P := P) (w := w) ⟨b, o, none⟩ vs (fun j v hj => by rw [add_lit']; exact cell_row hb (hv.get j v hj))
  rw [hv.len] at hl
  rw [hl]
  rfl

theorem setCell_row {b o E : Nat} {c : List Value} {v : Value} (h : w.heap[b]? = some (row E c)) : (w.setCell ⟨b, o, none⟩ v).heap[b]? = some (row E (c.set o v)) := by
  have hlt := (Array.getElem?_eq_some_iff.1 h).1
  have he : w.heap[b] = row E c := by simpa [Array.getElem?_eq_getElem hlt] using h
  simp only [World.setCell]
  rw [Array.getElem?_eq_getElem (by simpa using hlt), Array.getElem_modify_self, he]
  simp

theorem setCell_else {a : Addr} {v : Value} {k : Nat} (hk : k ≠ a.block) : (w.setCell a v).heap[k]? = w.heap[k]? := by
  simp only [World.setCell]
  rw [Array.getElem?_modify]
  rw [if_neg (fun e => hk e.symm)]

theorem run_storeCells_row : ∀ (vs : List Value) (w : World) (b o E : Nat) (c : List Value) (i : Nat), w.heap[b]? = some (row E c) → o + i + vs.length ≤ c.length → (∀ v ∈ vs, v.oneCell' = true) →
    ∃ w', (storeCells ⟨b, o, none⟩ vs i).run P w = .ok () w' ∧ w'.heap[b]? = some (row E (wr c (o + i) vs)) ∧ (∀ k, k ≠ b → w'.heap[k]? = w.heap[k]?) ∧ Same w w'
  | [], w, b, o, E, c, i, h, _, _ => ⟨w, by rw [storeCells.eq_def]; rfl, h, fun _ _ => rfl, Same.refl w⟩
  | v :: vs, w, b, o, E, c, i, h, hl, h1 => by
    rw [storeCells.eq_def]
    simp only [List.length_cons] at hl
    have hv := h1 v (by simp)
    have hc : w.cell? ⟨b, o + i, none⟩ = some c[o + i] := cell_row h (by simp)
    obtain ⟨w', r, h2, h3, h4⟩ := run_storeCells_row vs (w.setCell ⟨b, o + i, none⟩ v) b o E (c.set (o + i) v) (i + 1) (setCell_row h) (by simp; omega) (fun u hu => h1 u (by simp [hu]))
    refine ⟨w', ?_, ?_, fun k hk => (h3 k hk).trans (setCell_else hk), h4⟩
    · simp only [Sem.run_bind, add_lit']
      have hs : (store ⟨b, o + i, none⟩ v).run P w = .ok () (w.setCell ⟨b, o + i, none⟩ v) := by
        rw [run_store P w _ v .plain hv]
        simp only [hc, frozen_row h]
        rfl
      rw [hs]
      exact r
    · rw [h2]; rw [show o + (i + 1) = o + i + 1 by omega]; rfl
end

/-! ### 3. Where a resource stands in the list -/

/-- Block b's object is o; with another one the list is l'. -/
class At (b : Nat) (o : outParam Obj) (l : List HProp) : Prop where
  get : ∀ h, sat l h → h b = some o
class Put (b : Nat) (o : outParam Obj) (l : List HProp) (o' : Obj) (l' : outParam (List HProp)) : Prop where
  get : ∀ h, sat l h → h b = some o
  set : ∀ h h', sat l h → h' b = some o' → (∀ c, c ≠ b → h' c = h c) → sat l' h'

instance (priority := high) At.here {b : Nat} {o : Obj} {l : List HProp} : At b o (pts b o :: l) := ⟨fun _ ⟨_, _, a, _, _, x, _⟩ => a b o x⟩
instance At.there {b : Nat} {o : Obj} {A : HProp} {l : List HProp} [i : At b o l] : At b o (A :: l) := ⟨fun _ s => i.get _ (sat_drop s)⟩
instance (priority := high) Put.here {b : Nat} {o o' : Obj} {l : List HProp} : Put b o (pts b o :: l) o' (pts b o' :: l) :=
  ⟨fun _ ⟨_, _, a, _, _, x, _⟩ => a b o x, fun _ _ s e1 e2 => sat_set s e1 e2⟩

theorem part_set {A : HProp} {l l' : List HProp} {b : Nat} {o o' : Obj} {h h' : Hp} (i : Put b o l o' l') (s : sat (A :: l) h) (e1 : h' b = some o') (e2 : ∀ c, c ≠ b → h' c = h c) : sat (A :: l') h' := by
  obtain ⟨f, g, a, e, d, x, y⟩ := s
  have hg := i.get g y
  refine ⟨f, fun c => if c = b then some o' else g c, ?_, ?_, ?_, x, i.set g _ y (by simp) (fun c hc => by simp [hc])⟩
  · intro c p hc
    have hcb : c ≠ b := fun h0 => by subst h0; exact d c p o hc hg
    rw [e2 c hcb]; exact a c p hc
  · intro c p hc
    by_cases hcb : c = b
    · subst hcb; simp at hc; subst hc; exact e1
    · simp [hcb] at hc; rw [e2 c hcb]; exact e c p hc
  · intro c p p' hc hc'
    by_cases hcb : c = b
    · subst hcb; exact d c p o hc hg
    · simp [hcb] at hc'; exact d c p p' hc hc'

instance Put.there {b : Nat} {o o' : Obj} {A : HProp} {l l' : List HProp} [i : Put b o l o' l'] : Put b o (A :: l) o' (A :: l') :=
  ⟨fun _ s => i.get _ (sat_drop s), fun _ _ s e1 e2 => part_set i s e1 e2⟩

theorem Holds.at [Extra] {w : World} {l : List HProp} {b : Nat} {o : Obj} [i : At b o l] (h : Holds w l) : w.heap[b]? = some o := i.get _ h.1
theorem Holds.put [Extra] {w w' : World} {l l' : List HProp} {b : Nat} {o o' : Obj} [i : Put b o l o' l'] (h : Holds w l) (e1 : w'.heap[b]? = some o') (e2 : ∀ c, c ≠ b → w'.heap[c]? = w.heap[c]?) (e : Same w w') : Holds w' l' := ⟨i.set _ _ h.1 e1 e2, h.2.same e⟩

/-- A block of the heap as it was. -/
class InOld (w : World) (b : Nat) (o : outParam Obj) : Prop where
  h : w.heap[b]? = some o
instance At.old {b : Nat} {o : Obj} {w₀ : World} {l : List HProp} [i : InOld w₀ b o] : At b o (SL.old w₀ :: l) := ⟨fun h ⟨f, _, a, _, _, x, _⟩ => by
  have hb := (Array.getElem?_eq_some_iff.1 i.h).1
  exact a b o ((x b hb).trans i.h)⟩

/-! ### 4. One operation -/

/-- The operation, from here, leads to K: it does not panic. -/
def St (P : Program) (n : Nat) (r : Option Nat) (o : Oper) (σ : Env) (w : World) (K : Env → World → Prop) : Prop :=
  ∀ ms a (Q : Exit → Act → World → Prop), Rel n ms σ a → o.wpIn (F r) 0 P a w (fun a' w' => ∃ σ', Rel n ms σ' a' ∧ K σ' w') Q

section
variable {P : Program} {n : Nat} {r : Option Nat} {ops : Array Oper} {Q : Post} {ms : List Nat} {σ : Env} {w : World} {rest : List Oper} {o : Oper} {K : Env → World → Prop}

theorem wpIn_mono2 {F : Fence} {n : Nat} {o : Oper} {a : Act} {w : World} {K K' : Act → World → Prop} {Q : Exit → Act → World → Prop} (h : o.wpIn F n P a w K Q) (hk : ∀ a w, K a w → K' a w) : o.wpIn F n P a w K' Q :=
  Oper.wpIn_mono hk h

theorem Lp_st (hw : Wants ops σ o true) (h : St P n r o σ w (fun σ' w' => Lp P n r ops Q rest ms σ' w')) : Lp P n r ops Q (o :: rest) ms σ w := fun a ra => by
  unfold wpListIn
  rw [if_pos (hw.wanted ra)]
  exact Oper.wpIn_mono (fun a' w' ⟨σ', ra', h'⟩ => h' a' ra') (h ms a (lift n Q) ra)

theorem St_mono {K' : Env → World → Prop} (h : St P n r o σ w K) (hk : ∀ σ w, K σ w → K' σ w) : St P n r o σ w K' := fun ms a Q ra =>
  Oper.wpIn_mono (fun a' w' ⟨σ', ra', h'⟩ => ⟨σ', ra', hk _ _ h'⟩) (h ms a Q ra)

theorem St_value {v : Value} {w' : World} (hd : okd n o.dst = true) (hdf : ∀ c, o.op ≠ .defer c) (hrun : (execOp (ev σ) o).run P w = .ok (.value v) w') (h : K (put σ o.dst v) w') : St P n r o σ w K := fun ms a Q ra => by
  refine ⟨fun _ _ => trivial, ?_⟩
  rw [Oper.semAt_eq _ _ _ hdf, ra.eval, hrun]
  exact ⟨_, ra.put v hd, h⟩

theorem St_skip {w' : World} (hd : okd n o.dst = true) (hdf : ∀ c, o.op ≠ .defer c) (hrun : (execOp (ev σ) o).run P w = .ok .skip w') (h : K (put σ o.dst undef) w') : St P n r o σ w K := fun ms a Q ra => by
  refine ⟨fun _ _ => trivial, ?_⟩
  rw [Oper.semAt_eq _ _ _ hdf, ra.eval, hrun]
  exact ⟨_, ra.put undef hd, h⟩

theorem St_enter {f : FuncId} {args : Array Value} {w' : World} (hd : okd n o.dst = true) (hdf : ∀ c, o.op ≠ .defer c) (hrun : (execOp (ev σ) o).run P w = .ok (.enter f args) w')
    (h : Calls P f args w' (ret fun v w'' => K (put σ o.dst v) w'')) : St P n r o σ w K := fun ms a Q ra => by
  refine ⟨fun _ _ => trivial, ?_⟩
  rw [Oper.semAt_eq _ _ _ hdf, ra.eval, hrun]
  refine ⟨fun hs => by simp [F] at hs, callsIn_F (h.mono fun e w'' q => ?_)⟩
  cases e with
  | returned v => exact ⟨_, ra.put v hd, q⟩
  | panicked c => exact q.elim
  | outgrown => exact q.elim

theorem St_round {yl : Nat} {args : Array Value} (hd : okd n o.dst = true) (hdf : ∀ c, o.op ≠ .defer c) (hrun : ∀ nx, (Instr.yield yl args).run P w = .ok nx w → (execOp (ev σ) o).run P w = .ok nx w)
    (h : Yields P yl args w (fun v w'' => K (put σ o.dst v) w'')) : St P n r o σ w K := fun ms a Q ra => by
  obtain ⟨fn, tmps, assign, body, h1, h2⟩ := h
  refine ⟨fun _ _ => trivial, ?_⟩
  rw [Oper.semAt_eq _ _ _ hdf, ra.eval, hrun _ h1]
  refine ⟨fun hs => by simp [F] at hs, ?_⟩
  have h3 : RoundIn (F r) 0 P yl fn tmps assign body w (ret (fun v w'' => K (put σ o.dst v) w'')) := by
    cases r with
    | none => exact h2
    | some l => exact h2
  refine RoundIn.mono h3 fun e w'' q => ?_
  cases e with
  | returned v => exact ⟨_, ra.put v hd, q⟩
  | panicked c => exact q.elim
  | outgrown => exact q.elim

/-! #### what looks at no memory -/

/-- Numbers, truths, texts. -/
def bitI (op : BinOp) (k : IntKind) (a b : Int) : Int :=
  let x := BitVec.ofInt k.bits a
  let y := BitVec.ofInt k.bits b
  k.wrap (match op with | .and => (x &&& y).toNat | .or => (x ||| y).toNat | .xor => (x ^^^ y).toNat | _ => (x &&& ~~~y).toNat)
def shlI (k : IntKind) (a b : Int) : Int := k.wrap (a * 2 ^ min b.toNat k.bits)
def shrI (k : IntKind) (a b : Int) : Int := a.fdiv (2 ^ min b.toNat k.bits)

def bo : BinOp → Value → Value → Option Value
  | .add, .int k a, .int k' b => if k = k' then some (.int k (k.wrap (a + b))) else none
  | .sub, .int k a, .int k' b => if k = k' then some (.int k (k.wrap (a - b))) else none
  | .mul, .int k a, .int k' b => if k = k' then some (.int k (k.wrap (a * b))) else none
  | .eql, .int k a, .int k' b => if k = k' then some (.bool (a == b)) else none
  | .neq, .int k a, .int k' b => if k = k' then some (.bool (a != b)) else none
  | .lss, .int k a, .int k' b => if k = k' then some (.bool (decide (a < b))) else none
  | .leq, .int k a, .int k' b => if k = k' then some (.bool (decide (a ≤ b))) else none
  | .gtr, .int k a, .int k' b => if k = k' then some (.bool (decide (a > b))) else none
  | .geq, .int k a, .int k' b => if k = k' then some (.bool (decide (a ≥ b))) else none
  | .quo, .int k a, .int k' b => if k = k' then (if b = 0 then none else some (.int k (k.wrap (a.tdiv b)))) else none
  | .rem, .int k a, .int k' b => if k = k' then (if b = 0 then none else some (.int k (a.tmod b))) else none
  | .and, .int k a, .int k' b => if k = k' then some (.int k (bitI .and k a b)) else none
  | .or, .int k a, .int k' b => if k = k' then some (.int k (bitI .or k a b)) else none
  | .xor, .int k a, .int k' b => if k = k' then some (.int k (bitI .xor k a b)) else none
  | .andNot, .int k a, .int k' b => if k = k' then some (.int k (bitI .andNot k a b)) else none
  | .shl, .int k a, .int _ b => if b < 0 then none else some (.int k (shlI k a b))
  | .shr, .int k a, .int _ b => if b < 0 then none else some (.int k (shrI k a b))
  | _, _, _ => none

theorem run_bo {op : BinOp} {t : TypeId} {x y v : Value} (h : bo op x y = some v) (u : TypeId) (X Y : Operand) : (do eqGuard op t X Y x y; binOp op t x y : Sem Value).run P w = .ok v w := by
  unfold bo at h
  split at h <;> first
    | (split at h
       · rename_i hk
         cases hk
         cases h
         simp [eqGuard, binOp, Op.intArith, Op.intCmp]
       · cases h)
    | (split at h
       · rename_i hk
         cases hk
         split at h
         · cases h
         · rename_i hz
           cases h
           simp [eqGuard, binOp, Op.intDiv, hz]
       · cases h)
    | (split at h
       · rename_i hk
         cases hk
         cases h
         simp [eqGuard, binOp, Op.intBits, bitI]
       · cases h)
    | (split at h
       · cases h
       · rename_i hz
         cases h
         simp [eqGuard, binOp, Op.shift, hz, shlI, shrI])
    | cases h

/-- A value, its constructor laid open: what is kept of it is small. -/
def fo : Value → Option Value
  | .int k a => some (.int k a)
  | .bool b => some (.bool b)
  | .string x => some (.string x)
  | .pointer a => some (.pointer a)
  | .map a => some (.map a)
  | .slice a l c => some (.slice a l c)
  | .agg c => some (.agg c)
  | .tuple c => some (.tuple c)
  | .func f a b => some (.func f a b)
  | .nilFunc => some .nilFunc
  | .nilIface => some .nilIface
  | .iface t v => some (.iface t v)
  | _ => none
theorem fo_eq {v u : Value} (h : fo v = some u) : v = u := by
  cases v <;> simp [fo] at h <;> exact h

/-- .. and what is only handed on. -/
def pv (σ : Env) : Op → Option Value
  | .move x | .assign x => fo (ev σ x)
  | .extract t i => match ev σ t with
    | .tuple vs => vs.toList[i]?
    | _ => none
  | .makeFunc f first captured => some (.func f (first.toList.map (ev σ)).toArray (captured.toList.map (ev σ)).toArray)
  | .nilCheck x => match ev σ x with
    | .pointer (some a) => some (.pointer (some a))
    | .func (.func f) a b => some (.func (.func f) a b)
    | .func (.yield f) a b => some (.func (.yield f) a b)
    | _ => none
  | .unOp .not _ x => match ev σ x with
    | .bool b => some (.bool (!b))
    | _ => none
  | .unOp .neg _ x => match ev σ x with
    | .int k a => some (.int k (k.wrap (0 - a)))
    | _ => none
  | .pick c a b => match ev σ c with
    | .bool true => fo (ev σ a)
    | .bool false => fo (ev σ b)
    | _ => none
  | .binOp op _ x y _ => bo op (ev σ x) (ev σ y)
  | _ => none

theorem map_list (σ : Env) (a : Array Operand) : a.map (ev σ) = (a.toList.map (ev σ)).toArray := by
  apply Array.ext'
  simp

theorem run_pv {v : Value} (h : pv σ o.op = some v) : (execOp (ev σ) o).run P w = .ok (.value v) w := by
  unfold execOp
  cases ho : o.op <;> rw [ho] at h <;> simp only [pv] at h <;> try (cases h; done)
  case move x => rw [← fo_eq h]; rfl
  case assign x => rw [← fo_eq h]; rfl
  case pick c a b =>
    cases hc : ev σ c <;> rw [hc] at h <;> try simp only at h
    all_goals try cases h
    rename_i t
    cases t <;> simp only at h <;> rw [← fo_eq h] <;> simp [asBool, hc]
  case nilCheck x =>
    cases hx : ev σ x <;> rw [hx] at h <;> try simp only at h
    all_goals try cases h
    case pointer p =>
      cases p
      · cases h
      · cases h; simp only [hx]; rfl
    case func f a b => cases f <;> cases h <;> simp only [hx] <;> rfl
  case binOp op t x y u => simp only [Sem.run_bind, run_bo (P := P) (w := w) h u x y, Result.andThen_ok]; rfl
  case unOp op t x =>
    cases op <;> try simp only at h
    all_goals try cases h
    all_goals (cases hx : ev σ x <;> rw [hx] at h <;> cases h; simp [Op.unary, Op.intArith, hx])
  case makeFunc f a b => cases h; simp [Instr.makeFunc, map_list]
  case extract t i =>
    cases hx : ev σ t <;> rw [hx] at h <;> try simp only at h
    all_goals try cases h
    rename_i vs
    have h' : vs[i]? = some v := by simpa using h
    simp [Instr.extract, hx, h']

theorem pv_defer {v : Value} (h : pv σ o.op = some v) : ∀ c, o.op ≠ .defer c := fun c e => by rw [e] at h; simp [pv] at h

theorem St_pv {v : Value} (h : pv σ o.op = some v) (hd : okd n o.dst = true) (k : K (put σ o.dst v) w) : St P n r o σ w K := St_value hd (pv_defer h) (run_pv h) k

theorem St_fieldAddr {s : TypeId} {x : Operand} {f off b i : Nat} {t : TypeId} {p : String} {af : Array Edge} {g : Option (Nat × Bool)} {d : Option Tmp} [hf : TField P s f off] (hx : ev σ x = .pointer (some ⟨b, i, none⟩)) (hd : okd n d = true)
    (k : K (put σ d (.pointer (some ⟨b, i + off, none⟩))) w) : St P n r ⟨d, .fieldAddr s x f, t, p, af, g⟩ σ w K := by
  obtain ⟨fs, fd, h1, h2, h3, i', h4, h5⟩ := hf.field
  refine St_value (v := .pointer (some ⟨b, i + off, none⟩)) (w' := w) hd (fun c e => by cases e) ?_ k
  simp only [execOp, hx, Instr.fieldAt, Sem.run_bind, underlying, run_program, Result.andThen_ok, h1, Sem.run_pure, h2, Instr.sureAddr, fieldPlace]
  have hs : (sizeOf fd.type).run P w = .ok i' w := run_sizeOf' h4
  simp only [hs, Result.andThen_ok, if_neg h5, add_lit', h3, Sem.run_pure]

theorem part1 {t : TypeId} (h : T1 P t) {c : List Value} {o : Nat} {v : Value} (hv : c[o]? = some v) : (part t c.toArray o).run P w = .ok v w := by
  unfold part
  simp only [Sem.run_bind, run_isAgg1 h, Result.andThen_ok, Bool.false_eq_true, if_false]
  simp [hv]

theorem Reads.extract {c : List Value} {o n : Nat} {l : List Value} (h : Reads c o n l) : c.toArray.extract o (o + n) = l.toArray := by
  apply Array.ext'
  simp only [Array.toList_extract, List.extract_eq_take_drop]
  apply List.ext_getElem?
  intro j
  have hl := h.len
  by_cases hj : j < n
  · have hlt : j < l.length := by omega
    rw [List.getElem?_take_of_lt (by omega), List.getElem?_drop, List.getElem?_eq_getElem hlt]
    exact h.get j _ (List.getElem?_eq_getElem hlt)
  · rw [List.getElem?_eq_none (by simp; omega), List.getElem?_eq_none (by omega)]

theorem partN {t : TypeId} {n : Nat} (h : TN P t n) {c vs : List Value} {o : Nat} (hv : Reads c o n vs) : (part t c.toArray o).run P w = .ok (.agg vs.toArray) w := by
  unfold part
  simp only [Sem.run_bind, run_isAggN h, Result.andThen_ok, if_true, run_sizeOf' h.size, hv.extract, Sem.run_pure]

/-- The field of a struct's value. -/
class TPart (P : Program) (s : TypeId) (f : Nat) (off : outParam Nat) (n : outParam (Option Nat)) : Prop where
  field : ∃ fs fd, P.underlying s = some (.struct fs) ∧ fs[f]? = some fd ∧ fd.offset = off ∧ (match n with | none => T1 P fd.type | some k => TN P fd.type k)

theorem St_field1 {s : TypeId} {x : Operand} {f off : Nat} {c : List Value} {v : Value} {t : TypeId} {p : String} {af : Array Edge} {g : Option (Nat × Bool)} {d : Option Tmp} [hf : TPart P s f off none] (hx : ev σ x = .agg c.toArray) (hv : c[off]? = some v) (hd : okd n d = true)
    (k : K (put σ d v) w) : St P n r ⟨d, .field s x f, t, p, af, g⟩ σ w K := by
  obtain ⟨fs, fd, h1, h2, rfl, h3⟩ := hf.field
  refine St_value (v := v) (w' := w) hd (fun c e => by cases e) ?_ k
  simp only [execOp, hx, Instr.field, Sem.run_bind, underlying, run_program, Result.andThen_ok, h1, Sem.run_pure, h2, asAgg, part1 (P := P) (w := w) h3 hv]

theorem St_fieldN {s : TypeId} {x : Operand} {f off m : Nat} {c vs : List Value} {t : TypeId} {p : String} {af : Array Edge} {g : Option (Nat × Bool)} {d : Option Tmp} [hf : TPart P s f off (some m)] (hx : ev σ x = .agg c.toArray) (hv : Reads c off m vs) (hd : okd n d = true)
    (k : K (put σ d (.agg vs.toArray)) w) : St P n r ⟨d, .field s x f, t, p, af, g⟩ σ w K := by
  obtain ⟨fs, fd, h1, h2, rfl, h3⟩ := hf.field
  refine St_value (v := .agg vs.toArray) (w' := w) hd (fun c e => by cases e) ?_ k
  simp only [execOp, hx, Instr.field, Sem.run_bind, underlying, run_program, Result.andThen_ok, h1, Sem.run_pure, h2, asAgg, partN (P := P) (w := w) h3 hv]

/-! #### memory -/

theorem St_load1 [Extra] {l : List HProp} {t : TypeId} {x : Operand} {b i E : Nat} {fz : Nat × Nat} {c : List Value} {v : Value} {u : TypeId} {p : String} {af : Array Edge} {g : Option (Nat × Bool)} {d : Option Tmp} (H : Holds w l) (hx : ev σ x = .pointer (some ⟨b, i, none⟩)) [h1 : T1 P t] [ha : At b (.cells c.toArray E fz) l] (hv : c[i]? = some v) (hd : okd n d = true)
    (k : K (put σ d v) w) : St P n r ⟨d, .load t x, u, p, af, g⟩ σ w K := by
  refine St_value (v := v) (w' := w) hd (fun c e => by cases e) ?_ k
  simp only [execOp, hx, Instr.loadAt, Instr.sureAddr, Sem.run_bind, Sem.run_pure, Result.andThen_ok, run_loadVar1 (P := P) h1 H.at hv]

theorem St_loadN [Extra] {l : List HProp} {t : TypeId} {x : Operand} {b i E m : Nat} {fz : Nat × Nat} {c vs : List Value} {u : TypeId} {p : String} {af : Array Edge} {g : Option (Nat × Bool)} {d : Option Tmp} (H : Holds w l) (hx : ev σ x = .pointer (some ⟨b, i, none⟩)) [h1 : TN P t m] [ha : At b (.cells c.toArray E fz) l] (hv : Reads c i m vs) (hd : okd n d = true)
    (k : K (put σ d (.agg vs.toArray)) w) : St P n r ⟨d, .load t x, u, p, af, g⟩ σ w K := by
  refine St_value (v := .agg vs.toArray) (w' := w) hd (fun c e => by cases e) ?_ k
  simp only [execOp, hx, Instr.loadAt, Instr.sureAddr, Sem.run_bind, Sem.run_pure, Result.andThen_ok, run_loadVarN (P := P) h1 H.at hv]

theorem run_storeVar {t : TypeId} {m : Nat} {b i E : Nat} {c : List Value} {v : Value} (hs : (P.info? t).map (·.size) = some m) (hb : w.heap[b]? = some (row E c)) (hl : v.cells.toList.length = m) (hle : i + m ≤ c.length) (h1 : ∀ u ∈ v.cells.toList, u.oneCell' = true) :
    ∃ w', (storeVar t ⟨b, i, none⟩ v).run P w = .ok () w' ∧ w'.heap[b]? = some (row E (wr c i v.cells.toList)) ∧ (∀ k, k ≠ b → w'.heap[k]? = w.heap[k]?) ∧ Same w w' := by
  obtain ⟨w', r, h2, h3, h4⟩ := run_storeCells_row (P := P) v.cells.toList w b i E c 0 hb (by omega) h1
  refine ⟨w', ?_, h2, h3, h4⟩
  unfold storeVar
  have hz : v.cells.size = m := by simpa using hl
  simp only [Sem.run_bind, run_sizeOf' hs, Result.andThen_ok, hz]
  simp [r]

/-- A value of one cell is stored. -/
theorem St_store1 [Extra] {l l' : List HProp} {t : TypeId} {x y : Operand} {b i E : Nat} {c : List Value} {v : Value} {u : TypeId} {p : String} {af : Array Edge} {g : Option (Nat × Bool)} {d : Option Tmp} (H : Holds w l) (hx : ev σ x = .pointer (some ⟨b, i, none⟩)) (hy' : fo (ev σ y) = some v) (h1 : T1 P t) (ho : v.oneCell' = true)
    [ha : Put b (row E c) l (row E (c.set i v)) l'] (hi : i < c.length) (hd : okd n d = true)
    (k : ∀ w', Holds w' l' → K (put σ d undef) w') : St P n r ⟨d, .store t x y, u, p, af, g⟩ σ w K := by
  have hy : ev σ y = v := fo_eq hy'
  have hc : v.cells.toList = [v] := by cases v <;> first | rfl | (simp [Value.oneCell'] at ho)
  obtain ⟨w', hr, h2, h3, h4⟩ := run_storeVar (P := P) (t := t) (m := 1) (i := i) (v := v) h1.size (ha.get _ H.1) (by rw [hc]; rfl) (by omega) (by rw [hc]; simpa using ho)
  rw [hc] at h2
  have h2' : w'.heap[b]? = some (row E (c.set i v)) := h2
  refine St_skip (w' := w') hd (fun c e => by cases e) ?_ (k w' ⟨ha.set _ _ H.1 h2' h3, H.2.same h4⟩)
  simp only [execOp, hx, hy, Instr.storeAt, Instr.sureAddr, Sem.run_bind, Sem.run_pure, Result.andThen_ok, hr]

theorem St_storeN [Extra] {l l' : List HProp} {t : TypeId} {x y : Operand} {b i E m : Nat} {c vs : List Value} {u : TypeId} {p : String} {af : Array Edge} {g : Option (Nat × Bool)} {d : Option Tmp} (H : Holds w l) (hx : ev σ x = .pointer (some ⟨b, i, none⟩)) (hy : ev σ y = .agg vs.toArray) (h1 : TN P t m) (hm : vs.length = m) (ho : vs.all (·.oneCell') = true)
    [ha : Put b (row E c) l (row E (wr c i vs)) l'] (hi : i + m ≤ c.length) (hd : okd n d = true)
    (k : ∀ w', Holds w' l' → K (put σ d undef) w') : St P n r ⟨d, .store t x y, u, p, af, g⟩ σ w K := by
  have hc : (Value.agg vs.toArray).cells.toList = vs := by simp [Value.cells]
  obtain ⟨w', hr, h2, h3, h4⟩ := run_storeVar (P := P) (t := t) (m := m) (i := i) (v := .agg vs.toArray) h1.size (ha.get _ H.1) (by rw [hc]; exact hm) hi (by rw [hc]; exact List.all_eq_true.1 ho)
  rw [hc] at h2
  refine St_skip (w' := w') hd (fun c e => by cases e) ?_ (k w' (H.put h2 h3 h4))
  simp only [execOp, hx, hy, Instr.storeAt, Instr.sureAddr, Sem.run_bind, Sem.run_pure, Result.andThen_ok, hr]

def cellsL : Value → List Value
  | .agg cs => cs.toList
  | v => [v]
theorem cells_eq (v : Value) : v.cells = (cellsL v).toArray := by cases v <;> simp [Value.cells, cellsL]

theorem St_box [Extra] {l : List HProp} {E : TypeId} {x : Operand} {v : Value} {u : TypeId} {p : String} {af : Array Edge} {g : Option (Nat × Bool)} {d : Option Tmp} (H : Holds w l) (hx : ev σ x = v) (hd : okd n d = true)
    (k : ∀ b w', Holds w' (pts b (row E (cellsL v)) :: l) → K (put σ d (.pointer (some ⟨b, 0, none⟩))) w') : St P n r ⟨d, .box E x, u, p, af, g⟩ σ w K := by
  refine St_value (v := .pointer (some ⟨w.heap.size, 0, none⟩)) (w' := { w with heap := w.heap.push (row E (cellsL v)) }) hd (fun c e => by cases e) ?_ (k _ _ (H.new _))
  simp only [execOp, hx, Instr.box, newVar, newRow, Sem.run_bind, run_newObj, Result.andThen_ok, Sem.run_pure, cells_eq]

theorem run_zeroValue {t : TypeId} {v : Value} (h : TZero P t v) : (zeroValue t).run P w = .ok v w := by
  obtain ⟨i, hi, hz⟩ := Option.map_eq_some_iff.1 h.zero
  unfold zeroValue typeInfo
  simp only [Sem.run_bind, run_program, Result.andThen_ok, hi, Sem.run_pure, hz]

theorem St_alloc [Extra] {l : List HProp} {E : TypeId} {v : Value} {u : TypeId} {p : String} {af : Array Edge} {g : Option (Nat × Bool)} {d : Option Tmp} (H : Holds w l) [hz : TZero P E v] (hd : okd n d = true)
    (k : ∀ b w', Holds w' (pts b (row E (cellsL v)) :: l) → K (put σ d (.pointer (some ⟨b, 0, none⟩))) w') : St P n r ⟨d, .alloc E, u, p, af, g⟩ σ w K := by
  refine St_value (v := .pointer (some ⟨w.heap.size, 0, none⟩)) (w' := { w with heap := w.heap.push (row E (cellsL v)) }) hd (fun c e => by cases e) ?_ (k _ _ (H.new _))
  simp only [execOp, Instr.alloc, newVar, newRow, Sem.run_bind, run_newObj, Result.andThen_ok, Sem.run_pure, cells_eq, run_zeroValue (P := P) (w := w) hz]

/-! #### calls -/

theorem run_callFunc {f : FuncId} (h : TBody P f) (args : Array Value) : (callFunc f args).run P w = .ok (.enter f args) w := by
  obtain ⟨fn, h1, h2, h3⟩ := h.body
  unfold callFunc
  simp only [Sem.run_bind, run_program, Result.andThen_ok, h1, h3, h2]
  simp

theorem St_call {f : FuncId} {x : Operand} {xs : List Operand} {ts : Array TypeId} {a b : List Value} {u : TypeId} {p : String} {af : Array Edge} {g : Option (Nat × Bool)} {d : Option Tmp} (hx : ev σ x = .func (.func f) a.toArray b.toArray) [hb : TBody P f] (hd : okd n d = true)
    (k : Calls P f ((a ++ xs.map (ev σ)) ++ b).toArray w (ret fun v w' => K (put σ d v) w')) : St P n r ⟨d, .call { callee := .value x, args := xs.toArray, argTypes := ts }, u, p, af, g⟩ σ w K := by
  refine St_enter (f := f) (args := ((a ++ xs.map (ev σ)) ++ b).toArray) (w' := w) hd (fun c e => by cases e) ?_ k
  simp only [execOp, resolve, hx, Deferred.ofValue, Sem.run_bind, Sem.run_pure, Result.andThen_ok, invoke]
  rw [run_callFunc hb]
  simp

/-- A call of yield. -/
theorem St_yield {yl : Nat} {x : Operand} {xs : List Operand} {ts : Array TypeId} {u : TypeId} {p : String} {af : Array Edge} {g : Option (Nat × Bool)} {d : Option Tmp} (hx : ev σ x = .func (.yield yl) #[] #[]) (hd : okd n d = true)
    (k : Yields P yl (xs.map (ev σ)).toArray w (fun v w' => K (put σ d v) w')) : St P n r ⟨d, .call { callee := .value x, args := xs.toArray, argTypes := ts }, u, p, af, g⟩ σ w K := by
  refine St_round (yl := yl) (args := (xs.map (ev σ)).toArray) hd (fun c e => by cases e) ?_ k
  intro nx hn
  simp only [execOp, resolve, hx, Deferred.ofValue, Sem.run_bind, Sem.run_pure, Result.andThen_ok, invoke]
  simpa using hn
end
end Go.SL
