/- The walk's own rules: the temporaries as a function, the world by its resources. No condition. -/
import Derived.Test.YtdpephigccnkdaaDoorSlA
set_option linter.unusedVariables false
set_option linter.unusedSimpArgs false
namespace Go.SL

/-! ### 1. The state -/

abbrev Env := Nat → Value
def upd (σ : Env) (i : Nat) (v : Value) : Env := fun j => bif Nat.beq j i then v else σ j
@[reducible] def put (σ : Env) : Option Tmp → Value → Env
  | none, _ => σ
  | some d, v => upd σ d v

def ev (σ : Env) : Operand → Value
  | .tmp t => σ t
  | .const v => v
  | .global g => .pointer (some ⟨g, 0, none⟩)
  | .func f => .func (.func f) #[] #[]

theorem upd_self {σ : Env} {i : Nat} {v : Value} (h : σ i = v) : σ = upd σ i v := by
  funext j
  unfold upd
  cases e : Nat.beq j i with
  | false => rfl
  | true => rw [Nat.eq_of_beq_eq_true e]; exact h

def mark (D : Nat) : Deferred := { target := .collected D, args := #[] }
def marks (ms : List Nat) : List Deferred := ms.map mark

structure Rel (n : Nat) (ms : List Nat) (σ : Env) (a : Act) : Prop where
  size : a.tmps.size = n
  defs : a.defers = marks ms
  val : ∀ i, a.tmps.getD i undef = σ i

theorem Rel.eval {n : Nat} {ms : List Nat} {σ : Env} {a : Act} (r : Rel n ms σ a) : a.eval = ev σ := by
  funext x
  cases x with
  | tmp t => exact r.val t
  | const v => rfl
  | global g => rfl
  | func f => rfl

/-- The place is there. -/
def okd (n : Nat) : Option Tmp → Bool
  | none => true
  | some d => Nat.blt d n

theorem Rel.put {n : Nat} {ms : List Nat} {σ : Env} {a : Act} (r : Rel n ms σ a) {d : Option Tmp} (v : Value) (hd : okd n d = true) : Rel n ms (put σ d v) (a.put d v) := by
  cases d with
  | none => exact r
  | some d =>
    have hd' : d < n := by simpa [okd, Nat.blt_eq] using hd
    refine ⟨by simp [Act.put, r.size], by simp [Act.put, r.defs], fun i => ?_⟩
    simp only [Act.put, SL.put, upd]
    have hs := r.size
    by_cases e : i = d
    · subst e
      simp [hs, hd']
    · have e' : Nat.beq i d = false := by
        cases hb : Nat.beq i d with
        | false => rfl
        | true => exact absurd (Nat.eq_of_beq_eq_true hb) e
      rw [e']
      show (a.tmps.setIfInBounds d v).getD i undef = σ i
      rw [← r.val i]
      simp only [Array.getD_eq_getD_getElem?]
      rw [Array.getElem?_setIfInBounds_ne (by omega)]

/-- No fence; within a round, or not. -/
def F (r : Option Nat) : Fence := { fn := fun _ => True, depth := none, alive := false, round := r }
theorem F_none : F none = Fence.wide := rfl
theorem F_some (l : Nat) : F (some l) = Fence.wide.inRound l := rfl

abbrev Post := Exit → List Nat → Env → World → Prop

def lift (n : Nat) (Q : Post) : Exit → Act → World → Prop
  | .outgrown, _, _ => False
  | e, a, w => ∃ ms σ, Rel n ms σ a ∧ Q e ms σ w

theorem lift_mk {n : Nat} {Q : Post} {e : Exit} {ms : List Nat} {σ : Env} {a : Act} {w : World} (he : e ≠ .outgrown) (r : Rel n ms σ a) (q : Q e ms σ w) : lift n Q e a w := by
  cases e with
  | outgrown => exact absurd rfl he
  | _ => exact ⟨ms, σ, r, q⟩

/-- What a piece of code does. -/
def C (P : Program) (n : Nat) (r : Option Nat) (c : Code) (Q : Post) (ms : List Nat) (σ : Env) (w : World) : Prop :=
  ∀ a, Rel n ms σ a → c.wpIn (F r) 0 P (lift n Q) a w

def Then (K : List Nat → Env → World → Prop) (Q : Post) : Post
  | .normal, ms, σ, w => K ms σ w
  | e, ms, σ, w => Q e ms σ w

def inBlk (id : Nat) (Q : Post) : Post
  | .exit id', ms, σ, w => if id' = id then Q .normal ms σ w else Q (.exit id') ms σ w
  | e, ms, σ, w => Q e ms σ w

section
variable {P : Program} {n : Nat} {r : Option Nat} {Q : Post} {ms : List Nat} {σ : Env} {w : World}

theorem C_mono {c : Code} {Q' : Post} (h : C P n r c Q ms σ w) (hq : ∀ e ms σ w, Q e ms σ w → Q' e ms σ w) : C P n r c Q' ms σ w :=
  fun a ra => wpIn_mono (h a ra) fun e a w q => by
    cases e with
    | outgrown => exact q
    | _ => obtain ⟨ms, σ, r, q⟩ := q; exact ⟨ms, σ, r, hq _ _ _ _ q⟩

/-- Where roads come together. -/
theorem C_join {c : Code} (I : List Nat → Env → World → Prop) (h : C P n r c (fun e ms σ w => e = .normal ∧ I ms σ w) ms σ w) (k : ∀ ms σ w, I ms σ w → Q .normal ms σ w) : C P n r c Q ms σ w :=
  C_mono h fun e ms σ w q => by obtain ⟨rfl, q⟩ := q; exact k _ _ _ q

theorem C_skip (h : Q .normal ms σ w) : C P n r .skip Q ms σ w := fun _ ra => wpIn_skip ⟨ms, σ, ra, h⟩
theorem C_label {l : Nat} (h : Q .normal ms σ w) : C P n r (.label l) Q ms σ w := fun _ ra => wpIn_label ⟨ms, σ, ra, h⟩
theorem C_exit {id : Nat} (h : Q (.exit id) ms σ w) : C P n r (.exit id) Q ms σ w := fun _ ra => wpIn_exit ⟨ms, σ, ra, h⟩
theorem C_ret (h : Q .ret ms σ w) : C P n r .ret Q ms σ w := fun _ ra => wpIn_ret ⟨ms, σ, ra, h⟩

theorem C_seq {x y : Code} (h : C P n r x (Then (C P n r y Q) Q) ms σ w) : C P n r (.seq x y) Q ms σ w := fun a ra =>
  wpIn_seq (wpIn_mono (h a ra) fun e a w q => by
    cases e with
    | outgrown => exact q
    | normal => obtain ⟨ms, σ, r, q⟩ := q; exact q a r
    | exit id => obtain ⟨ms, σ, r, q⟩ := q; exact ⟨ms, σ, r, q⟩
    | goto l => obtain ⟨ms, σ, r, q⟩ := q; exact ⟨ms, σ, r, q⟩
    | ret => obtain ⟨ms, σ, r, q⟩ := q; exact ⟨ms, σ, r, q⟩
    | panic c => obtain ⟨ms, σ, r, q⟩ := q; exact ⟨ms, σ, r, q⟩)

theorem C_seqk {x y : Code} (h : ∀ K : List Nat → Env → World → Prop, (∀ ms σ w, C P n r y Q ms σ w → K ms σ w) → C P n r x (Then K Q) ms σ w) : C P n r (.seq x y) Q ms σ w :=
  C_seq (h _ fun _ _ _ h => h)

theorem C_cond {c : Operand} {x y : Code} {t : Bool} (hc : ev σ c = .bool t) (ht : t = true → C P n r x Q ms σ w) (hf : t = false → C P n r y Q ms σ w) : C P n r (.cond c x y) Q ms σ w :=
  fun a ra => wpIn_cond_split (t := t) (by rw [ra.eval]; exact hc) (fun e => ht e a ra) (fun e => hf e a ra)

theorem C_true {c : Operand} {x y : Code} (hc : ev σ c = .bool true) (ht : C P n r x Q ms σ w) : C P n r (.cond c x y) Q ms σ w := C_cond hc (fun _ => ht) (fun e => by cases e)
theorem C_false {c : Operand} {x y : Code} (hc : ev σ c = .bool false) (hf : C P n r y Q ms σ w) : C P n r (.cond c x y) Q ms σ w := C_cond hc (fun e => by cases e) (fun _ => hf)
/-- A test by a proposition. -/
theorem C_dec {c : Operand} {x y : Code} {p : Prop} [Decidable p] (hc : ev σ c = .bool (decide p)) (ht : p → C P n r x Q ms σ w) (hf : ¬ p → C P n r y Q ms σ w) : C P n r (.cond c x y) Q ms σ w :=
  C_cond hc (fun e => ht (of_decide_eq_true e)) (fun e => hf (of_decide_eq_false e))

theorem C_block {id : Nat} {c : Code} (h : C P n r c (inBlk id Q) ms σ w) : C P n r (.block id c) Q ms σ w := fun a ra =>
  wpIn_block (wpIn_mono (h a ra) fun e a w q => by
    cases e with
    | outgrown => exact q
    | normal => obtain ⟨ms, σ, r, q⟩ := q; exact ⟨ms, σ, r, q⟩
    | exit id' =>
      obtain ⟨ms, σ, r, q⟩ := q
      simp only [inBlk] at q
      simp only [Exit.inBlock]
      split at q
      · rename_i e; rw [if_pos e]; exact ⟨ms, σ, r, q⟩
      · rename_i e; rw [if_neg e]; exact ⟨ms, σ, r, q⟩
    | goto l => obtain ⟨ms, σ, r, q⟩ := q; exact ⟨ms, σ, r, q⟩
    | ret => obtain ⟨ms, σ, r, q⟩ := q; exact ⟨ms, σ, r, q⟩
    | panic c => obtain ⟨ms, σ, r, q⟩ := q; exact ⟨ms, σ, r, q⟩)

/-- A loop: what holds at each round's head, and what gets less. -/
theorem C_loop {c : Code} (I : List Nat → Env → World → Nat → Prop) {m : Nat} (h₀ : I ms σ w m)
    (round : ∀ ms σ w m, I ms σ w m → C P n r c (Then (fun ms' σ' w' => ∃ m', I ms' σ' w' m' ∧ m' < m) Q) ms σ w) : C P n r (.loop c) Q ms σ w := by
  have key : ∀ m, ∀ ms σ w, I ms σ w m → C P n r (.loop c) Q ms σ w := by
    intro m ms σ w hI a ra
    refine wpIn_loop (I := fun a w => ∃ k ms σ, Rel n ms σ a ∧ I ms σ w k) (μ := fun a w => Classical.epsilon (fun k => (∃ ms σ, Rel n ms σ a ∧ I ms σ w k) ∧ ∀ j, (∃ ms σ, Rel n ms σ a ∧ I ms σ w j) → k ≤ j)) ⟨m, ms, σ, ra, hI⟩ ?_
    intro a w hI
    have hmin : ∃ k, (∃ ms σ, Rel n ms σ a ∧ I ms σ w k) ∧ ∀ j, (∃ ms σ, Rel n ms σ a ∧ I ms σ w j) → k ≤ j := by
      obtain ⟨k, h⟩ := hI
      induction k using Nat.strongRecOn with
      | _ k ih =>
        by_cases hx : ∃ j, j < k ∧ ∃ ms σ, Rel n ms σ a ∧ I ms σ w j
        · obtain ⟨j, hj, h'⟩ := hx; exact ih j hj h'
        · exact ⟨k, h, fun j hj => Nat.le_of_not_lt fun hlt => hx ⟨j, hlt, hj⟩⟩
    have hs := Classical.epsilon_spec hmin
    obtain ⟨⟨ms, σ, ra, hI⟩, _⟩ := hs
    refine wpIn_mono (round _ _ _ _ hI a ra) ?_
    intro e a' w' q
    cases e with
    | outgrown => exact q
    | normal =>
      obtain ⟨ms', σ', ra', m', hI', hlt⟩ := q
      have hex : ∃ k ms σ, Rel n ms σ a' ∧ I ms σ w' k := ⟨m', ms', σ', ra', hI'⟩
      refine ⟨hex, ?_⟩
      have hmin' : ∃ k, (∃ ms σ, Rel n ms σ a' ∧ I ms σ w' k) ∧ ∀ j, (∃ ms σ, Rel n ms σ a' ∧ I ms σ w' j) → k ≤ j := by
        obtain ⟨k, h⟩ := hex
        induction k using Nat.strongRecOn with
        | _ k ih =>
          by_cases hx : ∃ j, j < k ∧ ∃ ms σ, Rel n ms σ a' ∧ I ms σ w' j
          · obtain ⟨j, hj, h'⟩ := hx; exact ih j hj h'
          · exact ⟨k, h, fun j hj => Nat.le_of_not_lt fun hlt => hx ⟨j, hlt, hj⟩⟩
      exact Nat.lt_of_le_of_lt ((Classical.epsilon_spec hmin').2 m' ⟨ms', σ', ra', hI'⟩) hlt
    | exit id => obtain ⟨ms, σ, r, q⟩ := q; exact ⟨ms, σ, r, q⟩
    | goto l => obtain ⟨ms, σ, r, q⟩ := q; exact ⟨ms, σ, r, q⟩
    | ret => obtain ⟨ms, σ, r, q⟩ := q; exact ⟨ms, σ, r, q⟩
    | panic c => obtain ⟨ms, σ, r, q⟩ := q; exact ⟨ms, σ, r, q⟩
  exact key m ms σ w h₀
end

/-! ### 2. The operations of a region, one behind the other -/

def Lp (P : Program) (n : Nat) (r : Option Nat) (ops : Array Oper) (Q : Post) (l : List Oper) (ms : List Nat) (σ : Env) (w : World) : Prop :=
  ∀ a, Rel n ms σ a → wpListIn (F r) 0 P ops (lift n Q) l a w

/-- What a call is to come to: it returns, and this holds. -/
def ret (R : Value → World → Prop) : Ending → World → Prop
  | .returned v, w => R v w
  | _, _ => False

theorem ret_mono {R R' : Value → World → Prop} (h : ∀ v w, R v w → R' v w) : ∀ e w, ret R e w → ret R' e w := fun e w q => by
  cases e with
  | returned v => exact h v w q
  | _ => exact q

section
variable {P : Program} {n : Nat} {r : Option Nat} {ops : Array Oper} {Q : Post} {ms : List Nat} {σ : Env} {w : World} {rest : List Oper} {o : Oper}

theorem C_region {id : Nat} {l : List Oper} (h : Lp P n r l.toArray Q l ms σ w) : C P n r (.region id l.toArray false) Q ms σ w := fun a ra =>
  wpIn_region_lit (h a ra)

theorem Lp_nil (h : Q .normal ms σ w) : Lp P n r ops Q [] ms σ w := fun _ ra => ⟨ms, σ, ra, h⟩

def gv (ops : Array Oper) (σ : Env) (j : Nat) : Option Bool :=
  match ((ops[j]?).bind (·.dst)).map σ with
  | some (.bool b) => some b
  | _ => none

theorem yielded_gv {a : Act} (ra : Rel n ms σ a) (j : Nat) : yielded ops a.tmps j = gv ops σ j := by
  unfold gv yielded
  cases hd : (ops[j]?).bind (·.dst) with
  | none => rfl
  | some d =>
    have e2 := ra.val d
    rw [Array.getD_eq_getD_getElem?] at e2
    simp only [Option.bind_some, Option.map_some]
    rw [← e2]
    cases ht : a.tmps[d]? with
    | none => rfl
    | some v => cases v <;> rfl

/-- The next operation is carried out. -/
def Wants (ops : Array Oper) (σ : Env) (o : Oper) (t : Bool) : Prop :=
  match o.guard with
  | none => t = true
  | some (j, want) => ∃ b, gv ops σ j = b ∧ (b == some want) = t

theorem Wants.wanted {a : Act} {t : Bool} (h : Wants ops σ o t) (ra : Rel n ms σ a) : Region.wanted o (yielded ops a.tmps) = t := by
  unfold Wants at h
  unfold Region.wanted
  split at h
  · rename_i e; simp [e, h]
  · rename_i j want e
    obtain ⟨b, hb, ht⟩ := h
    rw [e]
    simp only
    rw [yielded_gv ra j, hb, ← ht]

theorem Wants.none (h : o.guard = none) : Wants ops σ o true := by unfold Wants; rw [h]

/-- An operation that yields a value. -/
theorem Lp_value {v : Value} {w' : World} (hw : Wants ops σ o true) (hdf : ∀ c, o.op ≠ .defer c) (hd : okd n o.dst = true)
    (hrun : (execOp (ev σ) o).run P w = .ok (.value v) w') (h : Lp P n r ops Q rest ms (put σ o.dst v) w') : Lp P n r ops Q (o :: rest) ms σ w := fun a ra => by
  unfold wpListIn
  rw [if_pos (hw.wanted ra)]
  refine ⟨fun _ _ => trivial, ?_⟩
  rw [Oper.semAt_eq _ _ _ hdf, ra.eval, hrun]
  exact h _ (ra.put v hd)

/-- An operation that yields nothing. -/
theorem Lp_skip {w' : World} (hw : Wants ops σ o true) (hdf : ∀ c, o.op ≠ .defer c) (hd : okd n o.dst = true)
    (hrun : (execOp (ev σ) o).run P w = .ok .skip w') (h : Lp P n r ops Q rest ms (put σ o.dst undef) w') : Lp P n r ops Q (o :: rest) ms σ w := fun a ra => by
  unfold wpListIn
  rw [if_pos (hw.wanted ra)]
  refine ⟨fun _ _ => trivial, ?_⟩
  rw [Oper.semAt_eq _ _ _ hdf, ra.eval, hrun]
  exact h _ (ra.put undef hd)

/-- An operation that is passed over. -/
theorem Lp_pass (hw : Wants ops σ o false) (hd : okd n o.dst = true) (h : Lp P n r ops Q rest ms (put σ o.dst undef) w) : Lp P n r ops Q (o :: rest) ms σ w := fun a ra => by
  unfold wpListIn
  rw [if_neg (by rw [hw.wanted ra]; simp)]
  exact ⟨fun _ _ => trivial, h _ (ra.put undef hd)⟩

theorem callsIn_F {f : FuncId} {args : Array Value} {R : Ending → World → Prop} (h : Calls P f args w R) : CallsIn (F r) 0 P f args w R := by
  have h' := (callsIn_wide (n := 0)).2 h
  cases r with
  | none => exact h'
  | some l => exact h'

/-- A call. -/
theorem Lp_call {f : FuncId} {args : Array Value} {w' : World} (hw : Wants ops σ o true) (hdf : ∀ c, o.op ≠ .defer c) (hd : okd n o.dst = true)
    (hrun : (execOp (ev σ) o).run P w = .ok (.enter f args) w') (h : Calls P f args w' (ret fun v w'' => Lp P n r ops Q rest ms (put σ o.dst v) w'')) : Lp P n r ops Q (o :: rest) ms σ w := fun a ra => by
  unfold wpListIn
  rw [if_pos (hw.wanted ra)]
  refine ⟨fun _ _ => trivial, ?_⟩
  rw [Oper.semAt_eq _ _ _ hdf, ra.eval, hrun]
  refine ⟨fun hs => by simp [F] at hs, callsIn_F ?_⟩
  refine h.mono fun e w'' q => ?_
  cases e with
  | returned v => exact q _ (ra.put v hd)
  | panicked c => exact q.elim
  | outgrown => exact q.elim

/-- A call of yield. -/
def Yields (P : Program) (yl : Nat) (args : Array Value) (w : World) (R : Value → World → Prop) : Prop :=
  ∃ fn tmps assign body, (Instr.yield yl args).run P w = .ok (.round yl fn tmps assign body) w ∧ RoundIn Fence.wide 0 P yl fn tmps assign body w (ret R)

theorem Yields.mono {yl : Nat} {args : Array Value} {R R' : Value → World → Prop} (h : Yields P yl args w R) (hr : ∀ v w, R v w → R' v w) : Yields P yl args w R' :=
  let ⟨fn, tmps, assign, body, h1, h2⟩ := h
  ⟨fn, tmps, assign, body, h1, RoundIn.mono h2 (ret_mono hr)⟩

theorem Lp_yield {yl : Nat} {args : Array Value} (hw : Wants ops σ o true) (hdf : ∀ c, o.op ≠ .defer c) (hd : okd n o.dst = true)
    (hrun : ∀ nx, (Instr.yield yl args).run P w = .ok nx w → (execOp (ev σ) o).run P w = .ok nx w) (h : Yields P yl args w (fun v w'' => Lp P n r ops Q rest ms (put σ o.dst v) w'')) : Lp P n r ops Q (o :: rest) ms σ w := fun a ra => by
  obtain ⟨fn, tmps, assign, body, h1, h2⟩ := h
  unfold wpListIn
  rw [if_pos (hw.wanted ra)]
  refine ⟨fun _ _ => trivial, ?_⟩
  rw [Oper.semAt_eq _ _ _ hdf, ra.eval, hrun _ h1]
  refine ⟨fun hs => by simp [F] at hs, ?_⟩
  have h3 : RoundIn (F r) 0 P yl fn tmps assign body w (ret (fun v w'' => Lp P n r ops Q rest ms (put σ o.dst v) w'')) := by
    cases r with
    | none => exact h2
    | some l => exact h2
  refine RoundIn.mono h3 fun e w'' q => ?_
  cases e with
  | returned v => exact q _ (ra.put v hd)
  | panicked c => exact q.elim
  | outgrown => exact q.elim
end

/-! ### 3. A function, from its body -/

/-- The blocks that ranges over functions have laid for deferred calls: all empty. -/
def mk (ms : List Nat) : HProp := star (ms.map fun D => pts D (.deferred (some [])))

theorem Holds.take [Extra] {P : Program} {fn : Func} {tmps : Array Value} {R : Ending → World → Prop} : ∀ {ms : List Nat} {w : World} {l : List HProp}, Holds w (mk ms :: l) →
    (∀ w', Holds w' l → LeavesInM Fence.wide 0 P fn tmps R [] .returning w') → LeavesInM Fence.wide 0 P fn tmps R (marks ms) .returning w
  | [], _, _, H, k => k _ (by simpa using Holds.star.1 H)
  | D :: ms, w, l, H, k => by
    have H1 : Holds w (SL.pts D (.deferred (some [])) :: (ms.map (fun D => SL.pts D (.deferred (some []))) ++ l)) := Holds.star.1 H
    have hD := H1.pts
    have H2 : Holds (w.putObj D (.deferred none)) (SL.pts D (.deferred none) :: (ms.map (fun D => SL.pts D (.deferred (some []))) ++ l)) :=
      H1.set (World.putObj_heap_same H1.fresh) (fun c hc => World.putObj_heap_other hc)
    refine ⟨by simp, .inl ⟨D, _, rfl, run_takeDeferred hD, ?_⟩⟩
    exact Holds.take (ms := ms) (Holds.star.2 H2.drop) k

/-- The results, off the temporaries alone. -/
def res (σ : Env) : List ResultVar → Option (List Value)
  | [] => some []
  | .tmp t :: l => (res σ l).map (σ t :: ·)
  | .cell _ _ :: _ => none

def resV : List Value → Value
  | [v] => v
  | l => .tuple l.toArray

def fnPost [Extra] (P : Program) (n : Nat) (fn : Func) (R : Value → World → Prop) : Post := fun e ms σ w =>
  (e = .normal ∨ e = .ret) ∧ ((∃ l, Holds w (mk ms :: l) ∧ ∀ w', Holds w' l → ∀ a, Rel n ms σ a → ∃ v, (results fn a.tmps).run P w' = .ok v w' ∧ R v w') ∨
    (ms = [] ∧ ∀ a, Rel n ms σ a → ∃ v, (results fn a.tmps).run P w = .ok v w ∧ R v w))

theorem run_mapM_res {P : Program} {σ : Env} {g : ResultVar → Sem Value} (hg : ∀ t, g (.tmp t) = pure (σ t)) : ∀ (l : List ResultVar) (vs : List Value), res σ l = some vs → ∀ w, (l.mapM g).run P w = .ok vs w
  | [], _, h, w => by cases h; rfl
  | .cell _ _ :: _, _, h, _ => by simp [res] at h
  | .tmp t :: l, vs, h, w => by
    simp only [res, Option.map_eq_some_iff] at h
    obtain ⟨us, h1, rfl⟩ := h
    rw [List.mapM_cons, hg]
    have ih := run_mapM_res (P := P) hg l us h1 w
    simp only [Sem.run_bind, ih, Result.andThen, Sem.run_pure]

theorem results_res {P : Program} {n : Nat} {ms : List Nat} {fn : Func} {σ : Env} {a : Act} {vs : List Value} (w : World) (ra : Rel n ms σ a) (h : res σ fn.results.toList = some vs) : (results fn a.tmps).run P w = .ok (resV vs) w := by
  unfold results
  rw [← Array.toArray_toList (xs := fn.results), List.mapM_toArray]
  simp only [Sem.run_bind, Sem.run_map]
  rw [run_mapM_res (P := P) (σ := σ) (fun t => by simp only [ra.val]) fn.results.toList vs h w]
  simp only [Result.andThen]
  cases vs with
  | nil => rfl
  | cons v vs => cases vs <;> rfl

/-- The end of a function whose results are temporaries. -/
theorem fn_end [Extra] {P : Program} {n : Nat} {fn : Func} {R : Value → World → Prop} {e : Exit} {ms : List Nat} {σ : Env} {w : World} {vs : List Value} (l : List HProp) (he : e = .normal ∨ e = .ret) (H : Holds w (mk ms :: l))
    (hv : res σ fn.results.toList = some vs) (hR : ∀ w', Holds w' l → R (resV vs) w') : fnPost P n fn R e ms σ w :=
  ⟨he, .inl ⟨l, H, fun w' H' a ra => ⟨_, results_res w' ra hv, hR w' H'⟩⟩⟩

/-- .. the world to the letter. -/
theorem fn_endX [Extra] {P : Program} {n : Nat} {fn : Func} {R : Value → World → Prop} {e : Exit} {σ : Env} {w : World} {vs : List Value} (he : e = .normal ∨ e = .ret)
    (hv : res σ fn.results.toList = some vs) (hR : R (resV vs) w) : fnPost P n fn R e [] σ w :=
  ⟨he, .inr ⟨rfl, fun a ra => ⟨_, results_res w ra hv, hR⟩⟩⟩

theorem mk_nil [Extra] {w : World} {l : List HProp} (H : Holds w l) : Holds w (mk [] :: l) := Holds.star.2 H

/-- .. and that holds no range over a function. -/
theorem fn_end0 [Extra] {P : Program} {n : Nat} {fn : Func} {R : Value → World → Prop} {e : Exit} {σ : Env} {w : World} {vs : List Value} (l : List HProp) (he : e = .normal ∨ e = .ret) (H : Holds w l)
    (hv : res σ fn.results.toList = some vs) (hR : ∀ w', Holds w' l → R (resV vs) w') : fnPost P n fn R e [] σ w :=
  fn_end l he (mk_nil H) hv hR

def args₀ (args : List Value) : Env := fun j => args.getD j undef

theorem calls_of [Extra] {P : Program} {f : FuncId} {fn : Func} {c : Code} {args : List Value} {w : World} {R : Value → World → Prop} (hf : P.funcs[f]? = some fn) (hb : fn.body = some c) (ha : Nat.ble args.length fn.ntmps = true)
    (h : C P fn.ntmps none c (fnPost P fn.ntmps fn R) [] (args₀ args) w) : Calls P f args.toArray w (ret R) := by
  refine (callsIn_wide (n := 0)).1 (callsIn_of_wp_marks hf hb trivial ?_)
  have hle : args.length ≤ fn.ntmps := Nat.le_of_ble_eq_true ha
  have ra : Rel fn.ntmps [] (args₀ args) { tmps := args.toArray ++ Array.replicate (fn.ntmps - args.toArray.size) undef, defers := [] } := by
    refine ⟨by simp; omega, rfl, fun i => ?_⟩
    simp only [args₀, Array.getD_eq_getD_getElem?, List.getD_eq_getElem?_getD]
    rw [Array.getElem?_append]
    split
    · simp
    · rename_i hi
      have : args[i]? = none := by simpa using hi
      rw [this]
      simp only [Array.getElem?_replicate]
      split <;> rfl
  refine wpIn_mono (h _ ra) ?_
  intro e a w q
  cases e with
  | outgrown => exact q.elim
  | normal =>
    obtain ⟨ms, σ, ra, _, q⟩ := q
    show LeavesInM Fence.wide 0 P fn a.tmps (ret R) a.defers .returning w
    rw [ra.defs]
    rcases q with ⟨l, H, k⟩ | ⟨rfl, k⟩
    · exact Holds.take H fun w' H' => let ⟨v, h1, h2⟩ := k w' H' a ra; ⟨v, h1, h2⟩
    · exact let ⟨v, h1, h2⟩ := k a ra; ⟨v, h1, h2⟩
  | ret =>
    obtain ⟨ms, σ, ra, _, q⟩ := q
    show LeavesInM Fence.wide 0 P fn a.tmps (ret R) a.defers .returning w
    rw [ra.defs]
    rcases q with ⟨l, H, k⟩ | ⟨rfl, k⟩
    · exact Holds.take H fun w' H' => let ⟨v, h1, h2⟩ := k w' H' a ra; ⟨v, h1, h2⟩
    · exact let ⟨v, h1, h2⟩ := k a ra; ⟨v, h1, h2⟩
  | exit id => obtain ⟨ms, σ, ra, he, _⟩ := q; rcases he with he | he <;> cases he
  | goto l => obtain ⟨ms, σ, ra, he, _⟩ := q; rcases he with he | he <;> cases he
  | panic c => obtain ⟨ms, σ, ra, he, _⟩ := q; rcases he with he | he <;> cases he

theorem call {P : Program} {f : FuncId} {args : Array Value} {w : World} {R R' : Value → World → Prop} (h : Calls P f args w (ret R)) (hr : ∀ v w, R v w → R' v w) : Calls P f args w (ret R') :=
  h.mono (ret_mono hr)

end Go.SL
