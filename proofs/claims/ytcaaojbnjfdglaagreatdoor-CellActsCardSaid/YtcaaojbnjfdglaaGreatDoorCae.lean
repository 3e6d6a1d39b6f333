/- Cells: what is proved on the way: every input of the statement; no condition. Texts joined: SlU SlM SlN FldA FldB Srl FldC SlV InE. -/
import Derived.Test.YtcaaojbnjfdglaaGreatDoorCaa
import Derived.Test.YtcaaojbnjfdglaaGreatDoorCac
import Derived.Test.YtcaaojbnjfdglaaGreatDoorCad
import Derived.Shelf.Strconv.Itoa0
import Derived.Shelf.Spec.TrailingZeros
import Derived.Ground.Names7Prog
import Derived.Ground.NamesProg
import Derived.Test.YtcaaojbnjfdglaaGreatDoorProg
set_option linter.unusedVariables false
set_option linter.unusedSimpArgs false
set_option linter.unusedSectionVars false
namespace Go.SL

theorem wrapU_nat {a : Nat} (h : a < 18446744073709551616) : IntKind.u64.wrap (a : Int) = a := by
  simp [IntKind.wrap, IntKind.bits, IntKind.signed]; omega
theorem wrapI_nat {a : Nat} (h : a < 9223372036854775808) : IntKind.i64.wrap (a : Int) = a := by
  simp [IntKind.wrap, IntKind.bits, IntKind.signed]; omega

theorem ofInt_nat {a : Nat} : BitVec.ofInt 64 (a : Int) = BitVec.ofNat 64 a := by
  apply BitVec.eq_of_toNat_eq
  simp [BitVec.toNat_ofInt]

theorem bit_and {a b : Nat} (ha : a < 18446744073709551616) (hb : b < 18446744073709551616) : bitI .and .u64 a b = ((a &&& b : Nat) : Int) := by
  show IntKind.u64.wrap (((BitVec.ofInt 64 (a : Int)) &&& (BitVec.ofInt 64 (b : Int))).toNat : Int) = _
  have hl : a &&& b < 18446744073709551616 := Nat.lt_of_le_of_lt Nat.and_le_left ha
  rw [ofInt_nat, ofInt_nat, BitVec.toNat_and, BitVec.toNat_ofNat, BitVec.toNat_ofNat, Nat.mod_eq_of_lt ha, Nat.mod_eq_of_lt hb, wrapU_nat hl]
theorem bit_or {a b : Nat} (ha : a < 18446744073709551616) (hb : b < 18446744073709551616) : bitI .or .u64 a b = ((a ||| b : Nat) : Int) := by
  show IntKind.u64.wrap (((BitVec.ofInt 64 (a : Int)) ||| (BitVec.ofInt 64 (b : Int))).toNat : Int) = _
  have hl : a ||| b < 18446744073709551616 := Nat.or_lt_two_pow (n := 64) ha hb
  rw [ofInt_nat, ofInt_nat, BitVec.toNat_or, BitVec.toNat_ofNat, BitVec.toNat_ofNat, Nat.mod_eq_of_lt ha, Nat.mod_eq_of_lt hb, wrapU_nat hl]
theorem bit_xor {a b : Nat} (ha : a < 18446744073709551616) (hb : b < 18446744073709551616) : bitI .xor .u64 a b = ((a ^^^ b : Nat) : Int) := by
  show IntKind.u64.wrap (((BitVec.ofInt 64 (a : Int)) ^^^ (BitVec.ofInt 64 (b : Int))).toNat : Int) = _
  have hl : a ^^^ b < 18446744073709551616 := Nat.xor_lt_two_pow (n := 64) ha hb
  rw [ofInt_nat, ofInt_nat, BitVec.toNat_xor, BitVec.toNat_ofNat, BitVec.toNat_ofNat, Nat.mod_eq_of_lt ha, Nat.mod_eq_of_lt hb, wrapU_nat hl]
theorem bit_andNot {a b : Nat} (ha : a < 18446744073709551616) (hb : b < 18446744073709551616) : bitI .andNot .u64 a b = ((a &&& (18446744073709551615 - b) : Nat) : Int) := by
  show IntKind.u64.wrap (((BitVec.ofInt 64 (a : Int)) &&& ~~~(BitVec.ofInt 64 (b : Int))).toNat : Int) = _
  have hl : a &&& (18446744073709551615 - b) < 18446744073709551616 := Nat.lt_of_le_of_lt Nat.and_le_left ha
  rw [ofInt_nat, ofInt_nat, BitVec.toNat_and, BitVec.toNat_not, BitVec.toNat_ofNat, BitVec.toNat_ofNat, Nat.mod_eq_of_lt ha, Nat.mod_eq_of_lt hb]
  exact wrapU_nat hl
theorem shl_nat {a b : Nat} (hb : b < 64) : shlI .u64 a b = ((a * 2 ^ b % 18446744073709551616 : Nat) : Int) := by
  unfold shlI
  have hm : min (b : Int).toNat IntKind.u64.bits = b := by simp [IntKind.bits]; omega
  rw [hm]
  have : ((a : Int) * 2 ^ b) = ((a * 2 ^ b : Nat) : Int) := by simp
  rw [this]
  generalize a * 2 ^ b = x
  simp [IntKind.wrap, IntKind.bits, IntKind.signed]
theorem shr_nat {k : IntKind} {a b : Nat} (hb : b < 64) (hk : IntKind.bits k = 64) : shrI k a b = ((a / 2 ^ b : Nat) : Int) := by
  unfold shrI
  have hm : min (b : Int).toNat (IntKind.bits k) = b := by rw [hk]; simp; omega
  rw [hm, Int.fdiv_eq_ediv_of_nonneg _ (by exact_mod_cast Nat.zero_le _)]
  simp

/-! ### A part of a word -/

/-- The bits from 'at' on, 'wd' of them. -/
def maskN (a wd : Nat) : Nat := (2 ^ wd - 1) * 2 ^ a
theorem maskN_lt {a wd : Nat} (h : a + wd ≤ 64) : maskN a wd < 18446744073709551616 := by
  unfold maskN
  have h1 : (2 ^ wd - 1) * 2 ^ a < 2 ^ wd * 2 ^ a := (Nat.mul_lt_mul_right (Nat.two_pow_pos a)).2 (Nat.sub_lt (Nat.two_pow_pos wd) (by decide))
  rw [← Nat.pow_add] at h1
  have h2 : 2 ^ (wd + a) ≤ 2 ^ 64 := Nat.pow_le_pow_right (by decide) (by omega)
  exact Nat.lt_of_lt_of_le h1 h2

theorem mask_bit {a wd i : Nat} : (maskN a wd).testBit i = (decide (a ≤ i) && decide (i < a + wd)) := by
  unfold maskN
  rw [← Nat.shiftLeft_eq, Nat.testBit_shiftLeft, Nat.testBit_two_pow_sub_one]
  by_cases h : a ≤ i
  · simp [h]; omega
  · simp [h]

theorem part_and {w a wd : Nat} : w &&& maskN a wd = (w / 2 ^ a % 2 ^ wd) * 2 ^ a := by
  apply Nat.eq_of_testBit_eq
  intro i
  rw [Nat.testBit_and, mask_bit, ← Nat.shiftLeft_eq, Nat.testBit_shiftLeft, Nat.testBit_mod_two_pow, Nat.testBit_div_two_pow]
  by_cases h : a ≤ i
  · simp only [h, decide_true, Bool.true_and, ge_iff_le]
    rw [show i - a + a = i by omega, Bool.and_comm]
    congr 1
    exact decide_eq_decide.2 (by omega)
  · simp [h]

theorem part_get {w a wd : Nat} : (w &&& maskN a wd) / 2 ^ a = w / 2 ^ a % 2 ^ wd := by
  rw [part_and, Nat.mul_div_cancel _ (Nat.two_pow_pos a)]

/-- A word whose bits lie below: nothing is there yet. -/
theorem part_clear {w a wd : Nat} (hw : w < 2 ^ a) (h : a + wd ≤ 64) : w &&& (18446744073709551615 - maskN a wd) = w := by
  apply Nat.eq_of_testBit_eq
  intro i
  have hm := maskN_lt h
  have e : 18446744073709551615 - maskN a wd = 2 ^ 64 - (maskN a wd + 1) := by omega
  rw [Nat.testBit_and, e, Nat.testBit_two_pow_sub_succ hm, mask_bit]
  by_cases hi : a ≤ i
  · have : w.testBit i = false := Nat.testBit_lt_two_pow (Nat.lt_of_lt_of_le hw (Nat.pow_le_pow_right (by decide) hi))
    simp [this]
  · by_cases h64 : i < 64
    · simp [hi, h64]
    · omega
theorem part_put {w a x : Nat} (hw : w < 2 ^ a) : w ||| x * 2 ^ a = w + x * 2 ^ a := by
  have := Nat.shiftLeft_add_eq_or_of_lt hw x
  rw [Nat.shiftLeft_eq] at this
  rw [Nat.or_comm, ← this, Nat.add_comm]
end Go.SL
namespace Go.SL

theorem Reads.of_get {c : List Value} : ∀ {vs : List Value} {o : Nat}, (∀ j v, vs[j]? = some v → c[o + j]? = some v) → Reads c o vs.length vs
  | [], o, _ => .nil o
  | v :: vs, o, h => .cons (by simpa using h 0 v rfl) (Reads.of_get fun j u hj => by
    have := h (j + 1) u (by simpa using hj)
    rw [show o + 1 + j = o + (j + 1) by omega]
    exact this)
theorem Reads.part {c cs es : List Value} {o n i : Nat} (h : Reads c o n cs) (he : ∀ j v, es[j]? = some v → cs[i + j]? = some v) : Reads c (o + i) es.length es :=
  Reads.of_get fun j v hj => by
    have := h.get (i + j) v (he j v hj)
    rw [Nat.add_assoc]
    exact this

theorem wr_eq : ∀ (vs : List Value) (c : List Value) (o : Nat), o + vs.length ≤ c.length → wr c o vs = c.take o ++ vs ++ c.drop (o + vs.length)
  | [], c, o, h => by simp [wr]
  | v :: vs, c, o, h => by
    rw [List.length_cons] at h
    have ih := wr_eq vs (c.set o v) (o + 1) (by simp; omega)
    show wr (c.set o v) (o + 1) vs = _
    rw [ih]
    have h1 : (c.set o v).take (o + 1) = c.take o ++ [v] := by
      rw [List.take_add_one, List.take_set_of_le (Nat.le_refl _)]
      simp [List.getElem?_set, show o < c.length by omega]
    have h2 : (c.set o v).drop (o + 1 + vs.length) = c.drop (o + (v :: vs).length) := by
      rw [List.drop_set_of_lt (by omega)]
      simp [Nat.add_assoc, Nat.add_comm, Nat.add_left_comm]
    rw [h1, h2]
    simp

/-- A slice that can be read: of m elements of k cells each, these. -/
def RdS (l : List HProp) (v : Value) (m k : Nat) (cs : List Value) : Prop :=
  cs.length = m * k ∧ ∃ ad cap, v = .slice ad m cap ∧ (m = 0 ∨ ∃ b o E fz c, ad = some ⟨b, o, none⟩ ∧ At b (.cells (List.toArray c) E fz) l ∧ Reads c o (m * k) cs)

theorem RdS.there {A : HProp} {l : List HProp} {v : Value} {m k : Nat} {cs : List Value} (h : RdS l v m k cs) : RdS (A :: l) v m k cs := by
  obtain ⟨h0, ad, cap, rfl, h⟩ := h
  refine ⟨h0, ad, cap, rfl, ?_⟩
  rcases h with h | ⟨b, o, E, fz, c, h1, h2, h3⟩
  · exact .inl h
  · exact .inr ⟨b, o, E, fz, c, h1, At.there (i := h2), h3⟩

section
variable {P : Program} {n : Nat} {r : Option Nat} {ops : Array Oper} {Q : Post} {ms : List Nat} {σ : Env} {w : World} {rest : List Oper} {o : Oper} {K : Env → World → Prop} {l l' : List HProp}
variable {u t s : TypeId} {p : String} {af : Array Edge} {g : Option (Nat × Bool)} {d : Option Tmp} {x y z : Operand}

theorem sls_rd [Extra] {E k m : Nat} {v : Value} {cs : List Value} (H : Holds w (sls E k v cs :: l)) (hm : cs.length = m * k) (k0 : 0 < k) :
    ∃ D, Holds w (D :: l) ∧ (∀ l', RdS (D :: l') v m k cs) ∧ ∀ w' l', Holds w' (D :: l') → Holds w' (sls E k v cs :: l') := by
  rcases sls_case H with ⟨rfl, rfl, H'⟩ | ⟨b, len, cap, spare, rfl, e3, e4, e5, H'⟩
  · have m0 : m = 0 := by
      rcases Nat.mul_eq_zero.1 (show m * k = 0 from hm.symm) with h | h
      · exact h
      · omega
    subst m0
    exact ⟨_, H, fun l' => ⟨hm, none, 0, rfl, .inl rfl⟩, fun _ _ h => h⟩
  · have e : len = m := Nat.eq_of_mul_eq_mul_right k0 (e3.symm.trans hm)
    subst e
    refine ⟨_, H', fun l' => ⟨hm, _, cap, rfl, .inr ⟨b, 0, E, (0, 0), cs ++ spare, rfl, At.here, ?_⟩⟩, fun w' l' h => sls_of e3 e4 e5 h⟩
    rw [← hm]
    refine Reads.of_get fun j v hj => ?_
    rw [Nat.zero_add, List.getElem?_append_left (List.getElem?_eq_some_iff.1 hj).1]
    exact hj

/-! ### append of such a slice; '[]T{}' -/

theorem run_append0 {e size bytes len cap c2 : Nat} {a a2 : Option Addr} (hT : TSlice P t e size bytes) (ty : TypeId) (h : len ≤ cap) : (Builtin.append_ #[t, t] ty #[.slice a len cap, .slice a2 0 c2]).run P w = .ok (.slice a len cap) w := by
  obtain ⟨i, hi, e2⟩ := Option.map_eq_some_iff.1 hT.info
  simp only [Prod.mk.injEq] at e2
  have hs : (sizeOf e).run P w = .ok size w := run_sizeOf' (by rw [hi]; simp [e2.1])
  have hf : (Builtin.firstCells size 0 (.slice a2 0 c2)).run P w = .ok #[] w := by
    cases a2 with
    | none => rfl
    | some a2 =>
      have := run_loadCells_list (P := P) (w := w) a2 [] (by simp)
      simpa [Builtin.firstCells] using this
  have hst : ∀ a', (storeCells a' []).run P w = .ok () w := fun a' => by rw [storeCells.eq_def]; rfl
  cases a with
  | none => simp [Builtin.append_, run_und hT.und, hs, Builtin.lenOf, h, hf]
  | some a => simp [Builtin.append_, run_und hT.und, hs, Builtin.lenOf, h, hf, hst]

theorem St_appendS [Extra] {e size bytes : Nat} {zv v2 : Value} [hT : TSlice P t e size bytes] [hz : TZero P e zv] {s : Value} {cs new : List Value} {m : Nat} (H : Holds w (sls e size s cs :: l))
    (hx : ev σ x = s) (hy : ev σ y = v2) (hr : RdS l v2 m size new) (h1 : new.all (·.oneCell') = true)
    (hb : (cs.length + new.length) * bytes ≤ 140737488355328) (hd : okd n d = true) (hq : (decide ((cellsL zv).length = size) && decide (0 < size) && decide (0 < bytes)) = true)
    (k : ∀ v' w', Holds w' (sls e size v' (cs ++ new) :: l) → K (put σ d v') w') : St P n r ⟨d, .call { callee := .builtin .append, args := #[x, y], argTypes := #[t, t] }, u, p, af, g⟩ σ w K := by
  obtain ⟨h0, ad, cap, rfl, h⟩ := hr
  rcases Nat.eq_zero_or_pos m with rfl | hm
  · have hn : new = [] := List.eq_nil_of_length_eq_zero (by omega)
    subst hn
    have H2 := H
    rw [← List.append_nil cs] at H
    rcases sls_case H2 with ⟨rfl, _, _⟩ | ⟨b, len, cap', spare, rfl, _, e4, _, _⟩
    · refine St_value (v := .slice none 0 0) (w' := w) hd (fun c e => by cases e) ?_ (k _ _ H)
      simp [execOp, resolve, invoke, builtin, hx, hy, run_append0 (w := w) hT u (Nat.le_refl 0)]
    · refine St_value (v := .slice (some ⟨b, 0, none⟩) len cap') (w' := w) hd (fun c e => by cases e) ?_ (k _ _ H)
      simp [execOp, resolve, invoke, builtin, hx, hy, run_append0 (w := w) hT u e4]
  · rcases h with rfl | ⟨b, o2, E, fz, c, rfl, hA, hrd⟩
    · omega
    · haveI := hA
      exact St_append H hx hy hrd h1 hm hb hd hq k

theorem St_buildSlice0 [Extra] {e size bytes : Nat} (H : Holds w l) [hT : TSlice P t e size bytes] (hd : okd n d = true)
    (k : ∀ b w', Holds w' (sls e size (.slice (some ⟨b, 0, none⟩) 0 0) [] :: l) → K (put σ d (.slice (some ⟨b, 0, none⟩) 0 0)) w') : St P n r ⟨d, .buildSlice t 0 #[], u, p, af, g⟩ σ w K := by
  obtain ⟨i, hi, e2⟩ := Option.map_eq_some_iff.1 hT.info
  simp only [Prod.mk.injEq] at e2
  have hs : (sizeOf e).run P w = .ok size w := run_sizeOf' (by rw [hi]; simp [e2.1])
  have hn := H.new (row e [])
  refine St_value (v := .slice (some ⟨w.heap.size, 0, none⟩) 0 0) (w' := w.alloc (.cells #[] e)) hd (fun c e => by cases e) ?_ (k _ _ (sls_lit (by simp) hn))
  have e0 : (Array.range 0).map (fun _ : Nat => (default : Value)) = #[] := by apply Array.ext <;> simp
  simp [execOp, Instr.buildSlice, run_und hT.und, hs, Instr.fill, newRow, e0]

/-! ### Parts of a slice; clear -/

theorem zeroCells_eq (z : Value) (k : Nat) : (Builtin.zeroCells z.cells k).toList = zeros (cellsL z) k := by
  have := zeros_range (cellsL z) k
  unfold Builtin.zeroCells
  rw [cells_eq]
  have e : (cellsL z).toArray.size = (cellsL z).length := by simp
  rw [e]
  rw [show (cellsL z).length = (cellsL z).toArray.size by simp] at this
  rw [e] at this
  rw [this]

theorem St_clear [Extra] {e size bytes b o2 m cap E : Nat} {zv : Value} {c : List Value} [hT : TSlice P t e size bytes] [hz : TZero P e zv] (H : Holds w (pts b (row E c) :: l)) (hx : ev σ x = .slice (some ⟨b, o2, none⟩) m cap) (hm : 0 < m)
    (hl : o2 + (zeros (cellsL zv) m).length ≤ c.length) (h1 : (cellsL zv).all (·.oneCell') = true) (hd : okd n d = true)
    (k : ∀ w', Holds w' (pts b (row E (wr c o2 (zeros (cellsL zv) m))) :: l) → K (put σ d (.tuple #[])) w') : St P n r ⟨d, .call { callee := .builtin .clear, args := #[x], argTypes := #[t] }, u, p, af, g⟩ σ w K := by
  obtain ⟨i', hi', hz'⟩ := Option.map_eq_some_iff.1 hz.zero
  have hzv : (zeroValue e).run P w = .ok zv w := by simp [zeroValue, typeInfo, hi', hz']
  have hone : ∀ v ∈ zeros (cellsL zv) m, v.oneCell' = true := by
    have : ∀ m, ∀ v ∈ zeros (cellsL zv) m, v.oneCell' = true := by
      intro m
      induction m with
      | zero => intro v hv; simp [zeros] at hv
      | succ m ih =>
        intro v hv
        simp only [zeros, List.mem_append] at hv
        rcases hv with hv | hv
        · exact List.all_eq_true.1 h1 v hv
        · exact ih v hv
    exact this m
  obtain ⟨w', hr, h2, h3, h4⟩ := run_storeCells_row (P := P) (zeros (cellsL zv) m) w b o2 E c 0 H.pts (by omega) hone
  have H' := H.set (o' := row E (wr c (o2 + 0) (zeros (cellsL zv) m))) h2 h3 h4
  refine St_value (v := .tuple #[]) (w' := w') hd (fun c e => by cases e) ?_ (k w' H')
  obtain ⟨m', rfl⟩ : ∃ m', m = m' + 1 := ⟨m - 1, by omega⟩
  simp [execOp, resolve, invoke, builtin, hx, Builtin.clear_, run_und hT.und, hzv, zeroCells_eq, hr]
end
end Go.SL
namespace Go.SL
section
variable {P : Program} {n : Nat} {r : Option Nat} {σ : Env} {w : World} {K : Env → World → Prop} {l : List HProp}
variable {u t : TypeId} {p : String} {af : Array Edge} {g : Option (Nat × Bool)} {d : Option Tmp} {x y : Operand}

/-- An owned slice is a slice. -/
theorem sls_any [Extra] {E k : Nat} {v : Value} {c : List Value} (H : Holds w (sls E k v c :: l)) : ∃ a m cap, v = .slice a m cap := by
  rcases sls_case H with ⟨rfl, _, _⟩ | ⟨b, len, cap, spare, rfl, _⟩
  · exact ⟨none, 0, 0, rfl⟩
  · exact ⟨_, _, _, rfl⟩

end
end Go.SL
namespace Go.Proofs.YtcaaojbnjfdglaaGreatDoor
open Go.SL

@[reducible] def pp (b : Nat) : Value := .pointer (some ⟨b, 0, none⟩)
theorem wrap64 {x : Int} (h1 : -9223372036854775808 ≤ x) (h2 : x ≤ 9223372036854775807) : IntKind.i64.wrap x = x := by
  simp [IntKind.wrap, IntKind.bits, IntKind.signed]; omega
theorem inc64 {i : Nat} (h : i < 1000000000) : Value.int .i64 (IntKind.i64.wrap ((i : Int) + 1)) = .int .i64 ((i + 1 : Nat) : Int) := by
  rw [wrap64 (by omega) (by omega)]; rfl

/-- A field: from where on, how many bits. -/
abbrev Fl := Nat × Nat
def RightF (f : Fl) : Prop := 0 < f.2 ∧ f.1 + f.2 ≤ 64
@[reducible] def fv (f : Fl) : Value := .agg #[.int .i64 f.1, .int .i64 f.2]
def encF (f : Fl) : List Value := [.int .i64 f.1, .int .i64 f.2]
def fcells (l : List Fl) : List Value := l.flatMap encF
def ucells (l : List Nat) : List Value := l.map fun x : Nat => Value.int .u64 (x : Int)
theorem fcells_length (l : List Fl) : (fcells l).length = l.length * 2 := by
  induction l with
  | nil => rfl
  | cons p L ih => simp only [fcells, encF, List.flatMap_cons, List.length_append, List.length_cons, List.length_nil] at ih ⊢; omega
theorem ucells_length (l : List Nat) : (ucells l).length = l.length * 1 := by simp [ucells]
theorem ucells_append (a b : List Nat) : ucells (a ++ b) = ucells a ++ ucells b := by simp [ucells]
theorem ucells_get {l : List Nat} {spare : List Value} {i x : Nat} (h : l[i]? = some x) : (ucells l ++ spare)[0 + i * 1]? = some (.int .u64 x) := by
  have hi := (List.getElem?_eq_some_iff.1 h).1
  rw [Nat.zero_add, Nat.mul_one, List.getElem?_append_left (by simpa [ucells] using hi)]
  simp [ucells, h]
theorem fcells_get {L : List Fl} {i : Nat} {p : Fl} (h : L[i]? = some p) : (fcells L)[i * 2]? = some (.int .i64 p.1) ∧ (fcells L)[i * 2 + 1]? = some (.int .i64 p.2) := by
  induction L generalizing i with
  | nil => simp at h
  | cons x L ih =>
    cases i with
    | zero =>
      simp at h
      subst h
      exact ⟨rfl, rfl⟩
    | succ i =>
      have := ih (i := i) (by simpa using h)
      rw [show (i + 1) * 2 = i * 2 + 2 by omega]
      exact this
theorem fcells_reads {L : List Fl} {spare : List Value} {i : Nat} {p : Fl} (h : L[i]? = some p) : Reads (fcells L ++ spare) (0 + i * 2) 2 [.int .i64 p.1, .int .i64 p.2] := by
  obtain ⟨h1, h2⟩ := fcells_get h
  have hi := (List.getElem?_eq_some_iff.1 h).1
  have hl := fcells_length L
  rw [Nat.zero_add]
  refine .cons ?_ (.cons ?_ (.nil _))
  · rw [List.getElem?_append_left (by omega)]; exact h1
  · rw [List.getElem?_append_left (by omega)]; exact h2

@[reducible] def FL (v : Value) (l : List Fl) : HProp := sls 277 2 v (fcells l)
@[reducible] def UL (v : Value) (l : List Nat) : HProp := sls 29 1 v (ucells l)

theorem fRight_spec [Extra] (f : Fl) (hf : RightF f) {w : World} {fr : List HProp} (H : Holds w fr) : Calls Tryz.prog 208 #[fv f] w (ret fun v w' => v = .bool true ∧ Holds w' fr) := by
  obtain ⟨a, d⟩ := f
  obtain ⟨h1, h2⟩ := hf
  dsimp only at h1 h2
  refine calls_of Tryz.func208 rfl (by kernel_rfl) ?_
  repeat refine C_seq ?_
  refine C_region ?_
  (refine Lp_s rfl (St_boxN H rfl rfl ?_); clear H; intro b1 w H)
  refine Lp_pv rfl rfl ?_
  refine Lp_nil ?_
  repeat refine C_seq ?_
  refine C_region ?_
  refine Lp_s rfl (St_fieldAddr rfl rfl ?_)
  refine Lp_s rfl (St_load1 H rfl rfl rfl ?_)
  refine Lp_pv rfl rfl ?_
  rw [show decide ((a : Int) ≥ 0) = true from decide_eq_true (by omega)]
  refine Lp_pv rfl rfl ?_
  refine Lp_g rfl rfl rfl (St_fieldAddr rfl rfl ?_)
  refine Lp_g rfl rfl rfl (St_load1 H rfl rfl rfl ?_)
  refine Lp_gpv rfl rfl rfl rfl ?_
  rw [show decide ((a : Int) < 64) = true from decide_eq_true (by omega)]
  refine Lp_pv rfl rfl ?_
  refine Lp_pv rfl rfl ?_
  refine Lp_g rfl rfl rfl (St_fieldAddr rfl rfl ?_)
  refine Lp_g rfl rfl rfl (St_load1 H rfl rfl rfl ?_)
  refine Lp_gpv rfl rfl rfl rfl ?_
  rw [show decide ((d : Int) > 0) = true from decide_eq_true (by omega)]
  refine Lp_pv rfl rfl ?_
  refine Lp_pv rfl rfl ?_
  refine Lp_g rfl rfl rfl (St_fieldAddr rfl rfl ?_)
  refine Lp_g rfl rfl rfl (St_load1 H rfl rfl rfl ?_)
  refine Lp_g rfl rfl rfl (St_fieldAddr rfl rfl ?_)
  refine Lp_g rfl rfl rfl (St_load1 H rfl rfl rfl ?_)
  refine Lp_gpv rfl rfl rfl rfl ?_
  refine Lp_gpv rfl rfl rfl rfl ?_
  rw [show decide ((d : Int) ≤ IntKind.i64.wrap (64 - (a : Int))) = true from decide_eq_true (by rw [wrap64 (by omega) (by omega)]; omega)]
  refine Lp_pv rfl rfl ?_
  refine Lp_pv rfl rfl ?_
  refine Lp_nil ?_
  exact C_ret (fn_end0 _ (.inr rfl) H.drop rfl fun w' H' => ⟨rfl, H'⟩)

theorem mask_spec [Extra] (f : Fl) (hf : RightF f) {w : World} {fr : List HProp} (H : Holds w fr) : Calls Tryz.prog 187 #[fv f] w (ret fun v w' => v = .int .u64 (maskN f.1 f.2) ∧ Holds w' fr) := by
  obtain ⟨a, d⟩ := f
  obtain ⟨h1, h2⟩ := hf
  dsimp only at h1 h2
  refine calls_of Tryz.func187 rfl (by kernel_rfl) ?_
  repeat refine C_seq ?_
  refine C_region ?_
  (refine Lp_s rfl (St_boxN H rfl rfl ?_); clear H; intro b1 w H)
  refine Lp_pv rfl rfl ?_
  refine Lp_nil ?_
  have e64 : IntKind.i64.wrap (64 - (d : Int)) = ((64 - d : Nat) : Int) := by rw [wrap64 (by omega) (by omega)]; omega
  have e1 : shrI .u64 18446744073709551615 ((64 - d : Nat) : Int) = ((2 ^ d - 1 : Nat) : Int) := by
    rw [show (18446744073709551615 : Int) = ((18446744073709551615 : Nat) : Int) from rfl, shr_nat (by omega) rfl]
    congr 1
    have hp : (18446744073709551615 : Nat) = 2 ^ d * 2 ^ (64 - d) - 1 := by rw [← Nat.pow_add, show d + (64 - d) = 64 by omega]
    rw [hp]
    have hd := Nat.two_pow_pos (64 - d)
    have hd2 := Nat.two_pow_pos d
    rw [show 2 ^ d * 2 ^ (64 - d) - 1 = (2 ^ (64 - d) - 1) + 2 ^ (64 - d) * (2 ^ d - 1) by
      rw [Nat.mul_sub, Nat.mul_comm (2 ^ d), Nat.mul_one]
      have : 2 ^ (64 - d) ≤ 2 ^ (64 - d) * 2 ^ d := Nat.le_mul_of_pos_right _ hd2
      omega]
    rw [Nat.add_mul_div_left _ _ hd, Nat.div_eq_of_lt (by omega), Nat.zero_add]
  have e2 : shlI .u64 ((2 ^ d - 1 : Nat) : Int) (a : Int) = (maskN a d : Nat) := by
    rw [shl_nat (by omega)]
    have := maskN_lt (a := a) (wd := d) h2
    unfold maskN at this ⊢
    rw [Nat.mod_eq_of_lt this]
  repeat refine C_seq ?_
  refine C_drawH H mixed ?_
  clear H; intro w H
  refine A_fieldAddr 0 rfl (Wants.none rfl) rfl (by kernel_rfl) ?_
  refine A_load1 1 [] H rfl (Wants.none rfl) rfl rfl (by kernel_rfl) ?_
  refine A_pv 2 rfl (Wants.none rfl) rfl (by kernel_rfl) ?_
  rw [e64]
  refine A_pv (v := .int .u64 (shrI .u64 18446744073709551615 ((64 - d : Nat) : Int))) 3 rfl (Wants.none rfl) (by
    show (if ((64 - d : Nat) : Int) < 0 then none else some _) = _
    rw [if_neg (by omega)]) (by kernel_rfl) ?_
  rw [e1]
  refine A_fieldAddr 4 rfl (Wants.none rfl) rfl (by kernel_rfl) ?_
  refine A_load1 5 [] H rfl (Wants.none rfl) rfl rfl (by kernel_rfl) ?_
  refine A_pv (v := .int .u64 (shlI .u64 ((2 ^ d - 1 : Nat) : Int) (a : Int))) 6 rfl (Wants.none rfl) (by
    show (if (a : Int) < 0 then none else some _) = _
    rw [if_neg (by omega)]) (by kernel_rfl) ?_
  rw [e2]
  refine A_pv 7 rfl (Wants.none rfl) rfl (by kernel_rfl) ?_
  refine A_end (by kernel_rfl) (by repeat first | exact .nil | refine .cons (.inr H.at) ?_ | refine .cons (.inr H.mp) ?_ | refine .cons (.inl (by kernel_rfl)) ?_) ?_
  exact C_ret (fn_end0 _ (.inr rfl) H.drop rfl fun w' H' => ⟨rfl, H'⟩)
end Go.Proofs.YtcaaojbnjfdglaaGreatDoor
namespace Go.Proofs.YtcaaojbnjfdglaaGreatDoor
open Go.SL

/-- Fields that are right, one above the other. -/
def RisF (fs : List Fl) : Prop := (∀ f ∈ fs, RightF f) ∧ fs.Pairwise (fun f g => f.1 + f.2 ≤ g.1)

theorem RisF.at {fs : List Fl} (h : RisF fs) {i : Nat} {f : Fl} (hf : fs[i]? = some f) : RightF f := h.1 f (List.mem_of_getElem? hf)

theorem Apart_spec [Extra] (v : Value) (fs : List Fl) (hfs : RisF fs) (hl : fs.length ≤ 1000000) {w : World} {fr : List HProp} (H : Holds w (FL v fs :: fr)) :
    Calls Tryz.prog 186 #[v] w (ret fun x w' => x = .bool true ∧ Holds w' (FL v fs :: fr)) := by
  obtain ⟨a, c, rfl⟩ := sls_slice H (fcells_length fs) (by decide)
  refine calls_of Tryz.func186 rfl (by kernel_rfl) ?_
  repeat refine C_seq ?_
  refine C_region ?_
  refine Lp_pv rfl rfl ?_
  refine Lp_nil ?_
  repeat refine C_seq ?_
  refine C_region ?_
  refine Lp_pv rfl rfl ?_
  refine Lp_nil ?_
  repeat refine C_seq ?_
  refine C_region ?_
  refine Lp_pv rfl rfl ?_
  refine Lp_s rfl (St_lenSlice rfl rfl ?_)
  refine Lp_pv rfl rfl ?_
  refine Lp_nil ?_
  repeat refine C_seq ?_
  refine C_block ?_
  refine C_loop (fun ms σ w n => ms = [] ∧ ∃ (i A : Nat), i ≤ fs.length ∧ n = fs.length - i ∧ (∀ f ∈ fs.drop i, A < 2 ^ f.1) ∧ σ 3 = .int .u64 A ∧ σ 6 = .slice a fs.length c ∧ σ 7 = .int .i64 fs.length ∧ σ 8 = .int .i64 i ∧ Holds w (FL (.slice a fs.length c) fs :: fr)) (m := fs.length) ⟨rfl, 0, 0, by omega, rfl, fun f _ => Nat.two_pow_pos _, rfl, rfl, rfl, rfl, H⟩ ?_
  clear H
  rintro ms σ w n ⟨rfl, i, A, hi, rfl, hA, g3, g6, g7, g8, H⟩
  rw [upd_self g3, upd_self g6, upd_self g7, upd_self g8]
  repeat refine C_seq ?_
  refine C_region ?_
  refine Lp_pv rfl rfl ?_
  refine Lp_nil ?_
  repeat refine C_seq ?_
  refine C_dec rfl (fun h => C_skip ?_) (fun h => C_exit ?_)
  · have hlt : i < fs.length := by omega
    have hx := List.getElem?_eq_getElem hlt
    have hdr : fs.drop i = fs[i] :: fs.drop (i + 1) := List.drop_eq_getElem_cons hlt
    have hpw := hfs.2
    rw [← List.take_append_drop i fs, hdr] at hpw
    have hpw2 := (List.pairwise_cons.1 (List.pairwise_append.1 hpw).2.1).1
    rw [hdr] at hA
    generalize fs[i] = f at hx hpw2 hA
    have hf := hfs.at hx
    have hAf := hA f (by simp)
    have hA64 : A < 18446744073709551616 := Nat.lt_of_lt_of_le hAf (Nat.le_trans (Nat.pow_le_pow_right (by decide) (show f.1 ≤ 64 by have := hf.2; omega)) (by decide))
    have hm64 := maskN_lt (a := f.1) (wd := f.2) hf.2
    have hand : bitI .and .u64 (A : Int) (maskN f.1 f.2 : Nat) = 0 := by
      rw [bit_and hA64 hm64, part_and, Nat.div_eq_of_lt hAf]
      simp
    have hor : bitI .or .u64 (A : Int) (maskN f.1 f.2 : Nat) = ((A + maskN f.1 f.2 : Nat) : Int) := by
      rw [bit_or hA64 hm64]
      unfold maskN
      rw [part_put hAf]
    obtain ⟨b, s, rfl, H, hclose⟩ := sls_open H (by omega)
    repeat refine C_seq ?_
    refine C_block ?_
    repeat refine C_seq ?_
    refine C_region ?_
    refine Lp_s rfl (St_indexAddr rfl rfl (by omega) (by omega) rfl ?_)
    refine Lp_s rfl (St_loadN H rfl (fcells_reads hx) rfl ?_)
    (refine Lp_s rfl (St_alloc H rfl ?_); clear H; intro b5 w H)
    (refine Lp_s rfl (St_storeN H rfl rfl inferInstance rfl rfl (Nat.le_of_ble_eq_true rfl) rfl ?_); clear H; intro w H)
    refine Lp_nil ?_
    repeat refine C_seq ?_
    refine C_region ?_
    refine Lp_s rfl (St_loadN H rfl (by repeat (first | exact Reads.nil _ | apply Reads.cons rfl)) rfl ?_)
    refine Lp_s rfl (St_call (a := []) (b := []) rfl rfl (call (fRight_spec f hf H) ?_))
    clear H; rintro v w ⟨rfl, H⟩
    refine Lp_pv rfl rfl ?_
    refine Lp_pv rfl rfl ?_
    refine Lp_gpv rfl rfl rfl rfl ?_
    refine Lp_g rfl rfl rfl (St_loadN H rfl (by repeat (first | exact Reads.nil _ | apply Reads.cons rfl)) rfl ?_)
    refine Lp_g rfl rfl rfl (St_call (a := []) (b := []) rfl rfl (call (mask_spec f hf H) ?_))
    clear H; rintro v w ⟨rfl, H⟩
    refine Lp_gpv rfl rfl (v := .int .u64 (bitI .and .u64 (A : Int) (maskN f.1 f.2 : Nat))) rfl rfl ?_
    rw [hand]
    refine Lp_gpv rfl rfl rfl rfl ?_
    refine Lp_pv rfl rfl ?_
    refine Lp_nil ?_
    repeat refine C_seq ?_
    refine C_false rfl (C_skip ?_)
    repeat refine C_seq ?_
    refine C_region ?_
    refine Lp_pv rfl rfl ?_
    refine Lp_s rfl (St_loadN H rfl (by repeat (first | exact Reads.nil _ | apply Reads.cons rfl)) rfl ?_)
    refine Lp_s rfl (St_call (a := []) (b := []) rfl rfl (call (mask_spec f hf H) ?_))
    clear H; rintro v w ⟨rfl, H⟩
    refine Lp_pv (v := .int .u64 (bitI .or .u64 (A : Int) (maskN f.1 f.2 : Nat))) rfl rfl ?_
    rw [hor]
    refine Lp_pv rfl rfl ?_
    refine Lp_nil ?_
    repeat refine C_seq ?_
    refine C_region ?_
    refine Lp_pv rfl rfl ?_
    refine Lp_pv rfl rfl ?_
    refine Lp_nil ?_
    replace H := hclose _ _ H.drop
    refine ⟨_, ⟨rfl, i + 1, A + maskN f.1 f.2, hlt, rfl, fun g hg => ?_, rfl, rfl, rfl, inc64 (by omega), H⟩, by omega⟩
    have h1 := hpw2 g hg
    have h2 : A + maskN f.1 f.2 < 2 ^ (f.1 + f.2) := by
      unfold maskN
      rw [Nat.pow_add, Nat.sub_mul, Nat.one_mul, Nat.mul_comm (2 ^ f.2)]
      have : 2 ^ f.1 ≤ 2 ^ f.1 * 2 ^ f.2 := Nat.le_mul_of_pos_right _ (Nat.two_pow_pos _)
      omega
    exact Nat.lt_of_lt_of_le h2 (Nat.pow_le_pow_right (by decide) h1)
  · repeat refine C_seq ?_
    refine C_region ?_
    refine Lp_pv rfl rfl ?_
    refine Lp_nil ?_
    exact C_ret (fn_end0 _ (.inr rfl) H rfl fun w' H' => ⟨rfl, H'⟩)

def getF (x : Nat) (f : Fl) : Nat := x / 2 ^ f.1 % 2 ^ f.2
theorem Unpack_spec [Extra] (x : Nat) (hx64 : x < 18446744073709551616) (v : Value) (fs : List Fl) (hfs : RisF fs) (hl : fs.length ≤ 1000) {w : World} {fr : List HProp} (H : Holds w (FL v fs :: fr)) :
    Calls Tryz.prog 148 #[.int .u64 x, v] w (ret fun r w' => ∃ u, r = .tuple #[u, .int .i64 0] ∧ Holds w' (UL u (fs.map (getF x)) :: FL v fs :: fr)) := by
  obtain ⟨a, c, rfl⟩ := sls_slice H (fcells_length fs) (by decide)
  refine calls_of Tryz.func148 rfl (by kernel_rfl) ?_
  repeat refine C_seq ?_
  refine C_region ?_
  refine Lp_pv rfl rfl ?_
  refine Lp_pv rfl rfl ?_
  refine Lp_nil ?_
  repeat refine C_seq ?_
  refine C_region ?_
  refine Lp_pv rfl rfl ?_
  refine Lp_s rfl (St_call (a := []) (b := []) rfl rfl (call (Apart_spec _ fs hfs (by omega) H) ?_))
  clear H; rintro v w ⟨rfl, H⟩
  refine Lp_pv rfl rfl ?_
  refine Lp_nil ?_
  repeat refine C_seq ?_
  refine C_false rfl (C_skip ?_)
  repeat refine C_seq ?_
  refine C_region ?_
  refine Lp_pv rfl rfl ?_
  refine Lp_nil ?_
  repeat refine C_seq ?_
  refine C_region ?_
  refine Lp_pv rfl rfl ?_
  refine Lp_s rfl (St_lenSlice rfl rfl ?_)
  refine Lp_pv rfl rfl ?_
  refine Lp_nil ?_
  repeat refine C_seq ?_
  refine C_block ?_
  refine C_loop (fun ms σ w n => ms = [] ∧ ∃ (i : Nat) (g : Value), i ≤ fs.length ∧ n = fs.length - i ∧ σ 0 = .int .u64 x ∧ σ 6 = g ∧ σ 12 = .slice a fs.length c ∧ σ 13 = .int .i64 fs.length ∧ σ 14 = .int .i64 i ∧ Holds w (UL g ((fs.take i).map (getF x)) :: FL (.slice a fs.length c) fs :: fr)) (m := fs.length) ⟨rfl, 0, _, by omega, rfl, rfl, rfl, rfl, rfl, rfl, sls_nil H⟩ ?_
  clear H
  rintro ms σ w n ⟨rfl, i, g, hi, rfl, g0, g6, g12, g13, g14, H⟩
  obtain ⟨ag, cg, rfl⟩ := sls_slice H (ucells_length _) (by decide)
  rw [upd_self g0, upd_self g6, upd_self g12, upd_self g13, upd_self g14]
  repeat refine C_seq ?_
  refine C_region ?_
  refine Lp_pv rfl rfl ?_
  refine Lp_nil ?_
  repeat refine C_seq ?_
  refine C_dec rfl (fun h => C_skip ?_) (fun h => C_exit ?_)
  · have hlt : i < fs.length := by omega
    have hx := List.getElem?_eq_getElem hlt
    generalize fs[i] = f at hx
    have hf := hfs.at hx
    have hm64 := maskN_lt (a := f.1) (wd := f.2) hf.2
    have hf1 : f.1 < 64 := by have := hf.1; have := hf.2; omega
    have hsh : shrI .u64 (bitI .and .u64 (x : Int) (maskN f.1 f.2 : Nat)) (f.1 : Int) = (getF x f : Nat) := by
      rw [bit_and hx64 hm64, shr_nat hf1 rfl, part_get]; rfl
    replace H := Holds.sel [1, 0] 0 H; dsimp only [SL.sel, SL.pull, List.drop] at H
    obtain ⟨b, s, rfl, H, hclose⟩ := sls_open H (by omega)
    repeat refine C_seq ?_
    refine C_block ?_
    repeat refine C_seq ?_
    refine C_region ?_
    refine Lp_s rfl (St_indexAddr rfl rfl (by omega) (by omega) rfl ?_)
    refine Lp_s rfl (St_loadN H rfl (fcells_reads hx) rfl ?_)
    (refine Lp_s rfl (St_alloc H rfl ?_); clear H; intro b8 w H)
    (refine Lp_s rfl (St_storeN H rfl rfl inferInstance rfl rfl (Nat.le_of_ble_eq_true rfl) rfl ?_); clear H; intro w H)
    refine Lp_nil ?_
    replace H := hclose _ _ H.swap
    replace H := Holds.sel [2, 1, 0] 0 H; dsimp only [SL.sel, SL.pull, List.drop] at H
    repeat refine C_seq ?_
    refine C_drawH H mixed ?_
    clear H; intro w H
    refine A_pv 0 rfl (Wants.none rfl) rfl (by kernel_rfl) ?_
    refine A_pv 1 rfl (Wants.none rfl) rfl (by kernel_rfl) ?_
    refine A_loadN 2 [3, 8, 9] H rfl (Wants.none rfl) rfl (by repeat (first | exact Reads.nil _ | apply Reads.cons rfl)) (by kernel_rfl) ?_
    refine A_fieldAddr 5 rfl (Wants.none rfl) rfl (by kernel_rfl) ?_
    refine A_load1 6 [8, 9] H rfl (Wants.none rfl) rfl rfl (by kernel_rfl) ?_
    refine A_one 3 rfl (by kernel_rfl) (by repeat first | exact .nil | refine .cons (.inr H.at) ?_ | refine .cons (.inr H.mp) ?_ | refine .cons (.inl (by kernel_rfl)) ?_) (Wants.none rfl) (St_call (a := []) (b := []) rfl rfl (call (mask_spec f hf H) ?_))
    clear H; rintro v w ⟨rfl, H⟩
    refine A_pv (v := .int .u64 (bitI .and .u64 (x : Int) (maskN f.1 f.2 : Nat))) 4 rfl (Wants.none rfl) rfl (by kernel_rfl) ?_
    refine A_pv (v := .int .u64 (shrI .u64 (bitI .and .u64 (x : Int) (maskN f.1 f.2 : Nat)) (f.1 : Int))) 7 rfl (Wants.none rfl) (by
      show (if (f.1 : Int) < 0 then none else some _) = _
      rw [if_neg (by omega)]) (by kernel_rfl) ?_
    rw [hsh]
    refine A_one 8 rfl (by kernel_rfl) (by repeat first | exact .nil | refine .cons (.inr H.at) ?_ | refine .cons (.inr H.mp) ?_ | refine .cons (.inl (by kernel_rfl)) ?_) (Wants.none rfl) (St_buildSlice H rfl rfl rfl ?_); clear H; intro b26 w H
    replace H := Holds.sel [1, 0, 1] 1 H; dsimp only [SL.sel, SL.pull, List.drop] at H
    refine A_one 9 rfl (by kernel_rfl) (by repeat first | exact .nil | refine .cons (.inr H.at) ?_ | refine .cons (.inr H.mp) ?_ | refine .cons (.inl (by kernel_rfl)) ?_) (Wants.none rfl) (St_append H rfl rfl (by repeat (first | exact Reads.nil _ | apply Reads.cons rfl)) rfl (by decide) (by rw [ucells_length, List.length_map, List.length_take]; simp only [List.length_cons, List.length_nil]; omega) rfl rfl ?_); clear H; intro v27 w H
    obtain ⟨a27, m27, c27, rfl⟩ := sls_any H
    refine A_pv 10 rfl (Wants.none rfl) rfl (by kernel_rfl) ?_
    refine A_end (by kernel_rfl) (by repeat first | exact .nil | refine .cons (.inr H.at) ?_ | refine .cons (.inr H.mp) ?_ | refine .cons (.inl (by kernel_rfl)) ?_) ?_
    repeat refine C_seq ?_
    refine C_region ?_
    refine Lp_pv rfl rfl ?_
    refine Lp_pv rfl rfl ?_
    refine Lp_nil ?_
    replace H := Holds.sel [0, 1] 1 H; dsimp only [SL.sel, SL.pull, List.drop] at H
    refine ⟨_, ⟨rfl, i + 1, _, hlt, rfl, rfl, rfl, rfl, rfl, inc64 (by omega), ?_⟩, by omega⟩
    have ht : (fs.take (i + 1)).map (getF x) = (fs.take i).map (getF x) ++ [getF x f] := by
      rw [List.take_add_one, hx, List.map_append]; rfl
    rw [ht]
    show Holds w (sls _ 1 _ (ucells ((fs.take i).map (getF x) ++ [getF x f])) :: _)
    rw [ucells_append]
    exact H
  · have hge : i = fs.length := by omega
    subst hge
    rw [List.take_length] at H
    repeat refine C_seq ?_
    refine C_region ?_
    refine Lp_pv rfl rfl ?_
    refine Lp_pv rfl rfl ?_
    refine Lp_pv rfl rfl ?_
    refine Lp_nil ?_
    exact C_ret (fn_end0 (vs := [.slice ag (List.map (getF x) fs).length cg, .int .i64 0]) _ (.inr rfl) H (by rw [List.take_length]; rfl) fun w' H' => ⟨_, rfl, H'⟩)
end Go.Proofs.YtcaaojbnjfdglaaGreatDoor
namespace Go.Proofs
open Go.Shelf
def Tryz.laysLen_ren : Go.Shelf.Ren := ⟨fun | 129 => 204 | n => n, fun | 53 => 29 | 3 => 3 | 4 => 4 | 46 => 124 | 5 => 5 | 9 => 9 | n => n, fun | n => n⟩
theorem Tryz.laysLen : Go.Proofs.Lays.n129 Tryz.prog Tryz.laysLen_ren := {
  mixed := by kernel_rfl
  f129 := Tryz.func204.trans (congrArg some (by kernel_rfl))
  t3 := Tryz.underlying3
  a3 := Tryz.isAgg3
  z3 := Tryz.sizeOf3
  v3 := Tryz.zeroValue3
  t4 := Tryz.underlying4
  a4 := Tryz.isAgg4
  z4 := Tryz.sizeOf4
  v4 := Tryz.zeroValue4
  t5 := Tryz.underlying5
  a5 := Tryz.isAgg5
  z5 := Tryz.sizeOf5
  v5 := Tryz.zeroValue5
  t9 := Tryz.underlying9
  a9 := Tryz.isAgg9
  z9 := Tryz.sizeOf9
  v9 := Tryz.zeroValue9
  t46 := Tryz.underlying124
  a46 := Tryz.isAgg124
  z46 := Tryz.sizeOf124
  v46 := Tryz.zeroValue124
  t53 := Tryz.underlying29
  a53 := Tryz.isAgg29
  z53 := Tryz.sizeOf29
  v53 := Tryz.zeroValue29 }
def Tryz.laysTz_ren : Go.Shelf.Ren := ⟨fun | 29 => 176 | n => n, fun | 22 => 29 | 3 => 3 | 4 => 4 | 25 => 124 | 54 => 293 | 0 => 0 | 5 => 5 | n => n, fun | 1 => 0 | n => n⟩
theorem Tryz.laysTz : Go.Proofs.Lays7.n29 Tryz.prog Tryz.laysTz_ren := {
  mixed := by kernel_rfl
  f29 := Tryz.func176.trans (congrArg some (by kernel_rfl))
  t0 := Tryz.underlying0
  a0 := Tryz.isAgg0
  z0 := Tryz.sizeOf0
  v0 := Tryz.zeroValue0
  i0 := by kernel_rfl
  t3 := Tryz.underlying3
  a3 := Tryz.isAgg3
  z3 := Tryz.sizeOf3
  v3 := Tryz.zeroValue3
  i3 := by kernel_rfl
  t4 := Tryz.underlying4
  a4 := Tryz.isAgg4
  z4 := Tryz.sizeOf4
  v4 := Tryz.zeroValue4
  i4 := by kernel_rfl
  t5 := Tryz.underlying5
  a5 := Tryz.isAgg5
  z5 := Tryz.sizeOf5
  v5 := Tryz.zeroValue5
  i5 := by kernel_rfl
  t22 := Tryz.underlying29
  a22 := Tryz.isAgg29
  z22 := Tryz.sizeOf29
  v22 := Tryz.zeroValue29
  i22 := by kernel_rfl
  t25 := Tryz.underlying124
  a25 := Tryz.isAgg124
  z25 := Tryz.sizeOf124
  v25 := Tryz.zeroValue124
  i25 := by kernel_rfl
  t54 := Tryz.underlying293
  a54 := Tryz.isAgg293
  z54 := Tryz.sizeOf293
  g1 := by kernel_rfl }
end Go.Proofs
namespace Go.Proofs.YtcaaojbnjfdglaaGreatDoor
open Go.SL

theorem bitLenAux_le : ∀ (f x : Nat), Lib.bitLenAux f x ≤ f
  | 0, _ => Nat.le_refl _
  | f + 1, x => by
    unfold Lib.bitLenAux
    split
    · omega
    · have := bitLenAux_le f (x / 2)
      omega
theorem bitLen_le {x k : Nat} (h : x < 2 ^ k) (hk : k ≤ 64) : Lib.bitLen x ≤ k := by
  unfold Lib.bitLen
  rw [Lib.bitLenAux_fuel k x h 64 hk]
  exact bitLenAux_le k x

theorem Len64_spec [Extra] (x : Nat) (hx : x < 18446744073709551616) {w : World} {fr : List HProp} (H : Holds w fr) : Calls Tryz.prog 204 #[.int .u64 x] w (ret fun v w' => v = .int .i64 (Lib.bitLen x) ∧ Holds w' fr) := by
  refine (Any.bits_Len64 Tryz.laysLen (x : Int) w (by omega) (by omega)).mono ?_
  rintro e w' ⟨rfl, rfl⟩
  exact ⟨by rw [Int.toNat_natCast], H⟩

theorem pow_le64 {k : Nat} (h : k ≤ 64) : 2 ^ k ≤ 18446744073709551616 := Nat.le_trans (Nat.pow_le_pow_right (by decide) h) (by decide)

theorem Put_spec [Extra] (x : Nat) (f : Fl) (y : Nat) (hf : RightF f) (hx : x < 2 ^ f.1) (hy : y < 2 ^ f.2) {w : World} {fr : List HProp} (H : Holds w fr) :
    Calls Tryz.prog 206 #[.int .u64 x, fv f, .int .u64 y] w (ret fun v w' => v = .tuple #[.int .u64 ((x + y * 2 ^ f.1 : Nat) : Int), .int .i64 0] ∧ Holds w' fr) := by
  have h1 := hf.1
  have h2 := hf.2
  have hx64 : x < 18446744073709551616 := Nat.lt_of_lt_of_le hx (pow_le64 (by omega))
  have hy64 : y < 18446744073709551616 := Nat.lt_of_lt_of_le hy (pow_le64 (by omega))
  have hm64 := maskN_lt (a := f.1) (wd := f.2) hf.2
  have hbl := bitLen_le hy (by omega)
  have e1 : bitI .andNot .u64 (x : Int) (maskN f.1 f.2 : Nat) = (x : Nat) := by rw [bit_andNot hx64 hm64, part_clear hx hf.2]
  have hyy : y * 2 ^ f.1 < 18446744073709551616 := by
    have : y * 2 ^ f.1 < 2 ^ f.2 * 2 ^ f.1 := (Nat.mul_lt_mul_right (Nat.two_pow_pos _)).2 hy
    rw [← Nat.pow_add] at this
    exact Nat.lt_of_lt_of_le this (pow_le64 (by omega))
  have e2 : shlI .u64 (y : Int) (f.1 : Int) = ((y * 2 ^ f.1 : Nat) : Int) := by rw [shl_nat (by omega), Nat.mod_eq_of_lt hyy]
  have e3 : bitI .or .u64 (x : Int) ((y * 2 ^ f.1 : Nat) : Int) = ((x + y * 2 ^ f.1 : Nat) : Int) := by rw [bit_or hx64 hyy, part_put hx]
  obtain ⟨a, d⟩ := f
  dsimp only at h1 h2 hx hy hm64 hbl e1 e2 e3 hyy
  refine calls_of Tryz.func206 rfl (by kernel_rfl) ?_
  repeat refine C_seq ?_
  refine C_region ?_
  (refine Lp_s rfl (St_boxN H rfl rfl ?_); clear H; intro b4 w H)
  refine Lp_pv rfl rfl ?_
  refine Lp_pv rfl rfl ?_
  refine Lp_nil ?_
  repeat refine C_seq ?_
  refine C_join (fun ms σ w => ms = [] ∧ σ 0 = .int .u64 x ∧ σ 2 = .int .u64 y ∧ σ 4 = pp b4 ∧ Holds w (pts b4 (row 277 [.int .i64 a, .int .i64 d]) :: fr)) ?_ ?_
  · refine C_block ?_
    repeat refine C_seq ?_
    refine C_region ?_
    refine Lp_s rfl (St_loadN H rfl (by repeat (first | exact Reads.nil _ | apply Reads.cons rfl)) rfl ?_)
    refine Lp_s rfl (St_call (a := []) (b := []) rfl rfl (call (fRight_spec (a, d) hf H) ?_))
    clear H; rintro v w ⟨rfl, H⟩
    refine Lp_pv rfl rfl ?_
    refine Lp_pv rfl rfl ?_
    refine Lp_nil ?_
    repeat refine C_seq ?_
    refine C_false rfl ?_
    repeat refine C_seq ?_
    refine C_drawH H mixed ?_
    clear H; intro w H
    refine A_pv 0 rfl (Wants.none rfl) rfl (by kernel_rfl) ?_
    refine A_fieldAddr 2 rfl (Wants.none rfl) rfl (by kernel_rfl) ?_
    refine A_load1 3 [] H rfl (Wants.none rfl) rfl rfl (by kernel_rfl) ?_
    refine A_one 1 rfl (by kernel_rfl) (by repeat first | exact .nil | refine .cons (.inr H.at) ?_ | refine .cons (.inr H.mp) ?_ | refine .cons (.inl (by kernel_rfl)) ?_) (Wants.none rfl) (St_call (a := []) (b := []) rfl rfl (call (Len64_spec y hy64 H) ?_))
    clear H; rintro v w ⟨rfl, H⟩
    refine A_pv 4 rfl (Wants.none rfl) rfl (by kernel_rfl) ?_
    rw [show decide (((Lib.bitLen y : Nat) : Int) > (d : Int)) = false from decide_eq_false (by omega)]
    refine A_pv 5 rfl (Wants.none rfl) rfl (by kernel_rfl) ?_
    refine A_end (by kernel_rfl) (by repeat first | exact .nil | refine .cons (.inr H.at) ?_ | refine .cons (.inr H.mp) ?_ | refine .cons (.inl (by kernel_rfl)) ?_) ?_
    repeat refine C_seq ?_
    refine C_false rfl (C_skip ?_)
    exact ⟨rfl, rfl, rfl, rfl, rfl, H⟩
  · clear H
    rintro ms σ w ⟨rfl, g0, g2, g4, H⟩
    rw [upd_self g0, upd_self g2, upd_self g4]
    repeat refine C_seq ?_
    refine C_drawH H mixed ?_
    clear H; intro w H
    refine A_pv 0 rfl (Wants.none rfl) rfl (by kernel_rfl) ?_
    refine A_loadN 1 [2] H rfl (Wants.none rfl) rfl (by repeat (first | exact Reads.nil _ | apply Reads.cons rfl)) (by kernel_rfl) ?_
    refine A_pv 4 rfl (Wants.none rfl) rfl (by kernel_rfl) ?_
    refine A_fieldAddr 5 rfl (Wants.none rfl) rfl (by kernel_rfl) ?_
    refine A_load1 6 [] H rfl (Wants.none rfl) rfl rfl (by kernel_rfl) ?_
    refine A_pv (v := .int .u64 (shlI .u64 (y : Int) (a : Int))) 7 rfl (Wants.none rfl) (by
      show (if (a : Int) < 0 then none else some _) = _
      rw [if_neg (by omega)]) (by kernel_rfl) ?_
    rw [e2]
    refine A_one 2 rfl (by kernel_rfl) (by repeat first | exact .nil | refine .cons (.inr H.at) ?_ | refine .cons (.inr H.mp) ?_ | refine .cons (.inl (by kernel_rfl)) ?_) (Wants.none rfl) (St_call (a := []) (b := []) rfl rfl (call (mask_spec (a, d) hf H) ?_))
    clear H; rintro v w ⟨rfl, H⟩
    refine A_pv (v := .int .u64 (bitI .andNot .u64 (x : Int) (maskN a d : Nat))) 3 rfl (Wants.none rfl) rfl (by kernel_rfl) ?_
    rw [e1]
    refine A_pv (v := .int .u64 (bitI .or .u64 (x : Int) ((y * 2 ^ a : Nat) : Int))) 8 rfl (Wants.none rfl) rfl (by kernel_rfl) ?_
    rw [e3]
    refine A_pv 9 rfl (Wants.none rfl) rfl (by kernel_rfl) ?_
    refine A_pv 10 rfl (Wants.none rfl) rfl (by kernel_rfl) ?_
    refine A_end (by kernel_rfl) (by repeat first | exact .nil | refine .cons (.inr H.at) ?_ | refine .cons (.inr H.mp) ?_ | refine .cons (.inl (by kernel_rfl)) ?_) ?_
    exact C_ret (fn_end0 _ (.inr rfl) H.drop rfl fun w' H' => ⟨rfl, H'⟩)

/-- A word of some fields' numbers. -/
def packN : List Fl → List Nat → Nat
  | f :: fs, x :: xs => x * 2 ^ f.1 + packN fs xs
  | _, _ => 0
theorem packN_snoc : ∀ (fs : List Fl) (xs : List Nat) (f : Fl) (x : Nat), fs.length = xs.length → packN (fs ++ [f]) (xs ++ [x]) = packN fs xs + x * 2 ^ f.1
  | [], [], f, x, _ => by simp [packN]
  | [], _ :: _, _, _, h => by simp at h
  | _ :: _, [], _, _, h => by simp at h
  | g :: fs, y :: xs, f, x, h => by
    have ih := packN_snoc fs xs f x (by simpa using h)
    show y * 2 ^ g.1 + packN (fs ++ [f]) (xs ++ [x]) = y * 2 ^ g.1 + packN fs xs + x * 2 ^ f.1
    rw [ih]
    omega

theorem Pack_spec [Extra] (vf vx : Value) (fs : List Fl) (xs : List Nat) (hfs : RisF fs) (hl : fs.length ≤ 1000) (hlen : fs.length = xs.length) (hb : ∀ (i : Nat) (f : Fl) (x : Nat), fs[i]? = some f → xs[i]? = some x → x < 2 ^ f.2) {w : World} {fr : List HProp} (H : Holds w (FL vf fs :: UL vx xs :: fr)) :
    Calls Tryz.prog 178 #[vf, vx] w (ret fun v w' => v = .tuple #[.int .u64 (packN fs xs), .int .i64 0] ∧ Holds w' (FL vf fs :: UL vx xs :: fr)) := by
  obtain ⟨a, c, rfl⟩ := sls_slice H (fcells_length fs) (by decide)
  obtain ⟨a1, c1, rfl⟩ := sls_slice H.drop (ucells_length xs) (by decide)
  refine calls_of Tryz.func178 rfl (by kernel_rfl) ?_
  repeat refine C_seq ?_
  refine C_region ?_
  refine Lp_pv rfl rfl ?_
  refine Lp_pv rfl rfl ?_
  refine Lp_nil ?_
  repeat refine C_seq ?_
  refine C_region ?_
  refine Lp_pv rfl rfl ?_
  refine Lp_s rfl (St_lenSlice rfl rfl ?_)
  refine Lp_pv rfl rfl ?_
  refine Lp_s rfl (St_lenSlice rfl rfl ?_)
  refine Lp_pv rfl rfl ?_
  rw [show ((fs.length : Int) != (xs.length : Int)) = false by rw [hlen]; simp]
  refine Lp_pv rfl rfl ?_
  refine Lp_gpv rfl rfl rfl rfl ?_
  refine Lp_g rfl rfl rfl (St_call (a := []) (b := []) rfl rfl (call (Apart_spec _ fs hfs (by omega) H) ?_))
  clear H; rintro v w ⟨rfl, H⟩
  refine Lp_gpv rfl rfl rfl rfl ?_
  refine Lp_pv rfl rfl ?_
  refine Lp_nil ?_
  repeat refine C_seq ?_
  refine C_false rfl (C_skip ?_)
  repeat refine C_seq ?_
  refine C_region ?_
  refine Lp_pv rfl rfl ?_
  refine Lp_nil ?_
  repeat refine C_seq ?_
  refine C_region ?_
  refine Lp_pv rfl rfl ?_
  refine Lp_s rfl (St_lenSlice rfl rfl ?_)
  refine Lp_pv rfl rfl ?_
  refine Lp_nil ?_
  repeat refine C_seq ?_
  refine C_block ?_
  refine C_loop (fun ms σ w n => ms = [] ∧ ∃ i : Nat, i ≤ fs.length ∧ n = fs.length - i ∧ (∀ f ∈ fs.drop i, packN (fs.take i) (xs.take i) < 2 ^ f.1) ∧ σ 1 = .slice a1 xs.length c1 ∧ σ 6 = .int .u64 (packN (fs.take i) (xs.take i)) ∧ σ 20 = .slice a fs.length c ∧ σ 21 = .int .i64 fs.length ∧ σ 22 = .int .i64 i ∧ Holds w (FL (.slice a fs.length c) fs :: UL (.slice a1 xs.length c1) xs :: fr)) (m := fs.length) ⟨rfl, 0, by omega, rfl, fun f _ => by simp only [List.take_zero, packN]; exact Nat.two_pow_pos _, rfl, rfl, rfl, rfl, rfl, H⟩ ?_
  clear H
  rintro ms σ w n ⟨rfl, i, hi, rfl, hW, g1, g6, g20, g21, g22, H⟩
  rw [upd_self g1, upd_self g6, upd_self g20, upd_self g21, upd_self g22]
  repeat refine C_seq ?_
  refine C_region ?_
  refine Lp_pv rfl rfl ?_
  refine Lp_nil ?_
  repeat refine C_seq ?_
  refine C_dec rfl (fun h => C_skip ?_) (fun h => C_exit ?_)
  · have hlt : i < fs.length := by omega
    have hx := List.getElem?_eq_getElem hlt
    have hy := List.getElem?_eq_getElem (l := xs) (i := i) (by omega)
    have hdr : fs.drop i = fs[i] :: fs.drop (i + 1) := List.drop_eq_getElem_cons hlt
    have hpw := hfs.2
    rw [← List.take_append_drop i fs, hdr] at hpw
    have hpw2 := (List.pairwise_cons.1 (List.pairwise_append.1 hpw).2.1).1
    rw [hdr] at hW
    generalize fs[i] = f at hx hpw2 hW
    generalize xs[i]'(by omega) = y at hy
    have hf := hfs.at hx
    have hWf := hW f (by simp)
    have hyb := hb i f y hx hy
    have hsn : packN (fs.take (i + 1)) (xs.take (i + 1)) = packN (fs.take i) (xs.take i) + y * 2 ^ f.1 := by
      rw [List.take_add_one, List.take_add_one, hx, hy]
      exact packN_snoc _ _ f y (by rw [List.length_take, List.length_take, hlen])
    obtain ⟨b, s, rfl, H, hclose⟩ := sls_open H (by omega)
    obtain ⟨b2, s2, rfl, H, hclose2⟩ := sls_open H.swap (by omega)
    repeat refine C_seq ?_
    refine C_block ?_
    repeat refine C_seq ?_
    refine C_region ?_
    refine Lp_pv rfl rfl ?_
    refine Lp_s rfl (St_indexAddr rfl rfl (by omega) (by omega) rfl ?_)
    refine Lp_s rfl (St_loadN H rfl (fcells_reads hx) rfl ?_)
    (refine Lp_s rfl (St_alloc H rfl ?_); clear H; intro b8 w H)
    refine Lp_pv rfl rfl ?_
    (refine Lp_s rfl (St_storeN H rfl rfl inferInstance rfl rfl (Nat.le_of_ble_eq_true rfl) rfl ?_); clear H; intro w H)
    refine Lp_nil ?_
    repeat refine C_seq ?_
    refine C_region ?_
    refine Lp_pv rfl rfl ?_
    refine Lp_nil ?_
    repeat refine C_seq ?_
    refine C_drawH H mixed ?_
    clear H; intro w H
    refine A_pv 0 rfl (Wants.none rfl) rfl (by kernel_rfl) ?_
    refine A_loadN 1 [6] H rfl (Wants.none rfl) rfl (by repeat (first | exact Reads.nil _ | apply Reads.cons rfl)) (by kernel_rfl) ?_
    refine A_pv 2 rfl (Wants.none rfl) rfl (by kernel_rfl) ?_
    refine A_pv 3 rfl (Wants.none rfl) rfl (by kernel_rfl) ?_
    refine A_indexAddr 4 rfl (Wants.none rfl) rfl rfl (by omega) (by omega) (by kernel_rfl) ?_
    refine A_load1 5 [6] H rfl (Wants.none rfl) rfl (ucells_get hy) (by kernel_rfl) ?_
    
    refine A_one 6 rfl (by kernel_rfl) (by repeat first | exact .nil | refine .cons (.inr H.at) ?_ | refine .cons (.inr H.mp) ?_ | refine .cons (.inl (by kernel_rfl)) ?_) (Wants.none rfl) (St_call (a := []) (b := []) rfl rfl (call (Put_spec _ f y hf hWf hyb H) ?_))
    clear H; rintro v w ⟨rfl, H⟩
    refine A_pv 7 rfl (Wants.none rfl) rfl (by kernel_rfl) ?_
    refine A_pv 8 rfl (Wants.none rfl) rfl (by kernel_rfl) ?_
    refine A_pv 9 rfl (Wants.none rfl) rfl (by kernel_rfl) ?_
    refine A_pv 10 rfl (Wants.none rfl) rfl (by kernel_rfl) ?_
    refine A_pv 11 rfl (Wants.none rfl) rfl (by kernel_rfl) ?_
    refine A_end (by kernel_rfl) (by repeat first | exact .nil | refine .cons (.inr H.at) ?_ | refine .cons (.inr H.mp) ?_ | refine .cons (.inl (by kernel_rfl)) ?_) ?_
    repeat refine C_seq ?_
    refine C_region ?_
    refine Lp_pv rfl rfl ?_
    refine Lp_pv rfl rfl ?_
    refine Lp_nil ?_
    repeat refine C_seq ?_
    refine C_false rfl (C_skip ?_)
    repeat refine C_seq ?_
    refine C_region ?_
    refine Lp_pv rfl rfl ?_
    refine Lp_pv rfl rfl ?_
    refine Lp_nil ?_
    replace H := Holds.sel [1, 1] 1 H; dsimp only [SL.sel, SL.pull, List.drop] at H
    replace H := hclose2 _ _ H
    replace H := hclose _ _ H.swap
    refine ⟨_, ⟨rfl, i + 1, hlt, rfl, fun g hg => ?_, rfl, ?_, rfl, rfl, inc64 (by omega), H⟩, by omega⟩
    · have h1 := hpw2 g hg
      rw [hsn]
      have h2 : packN (fs.take i) (xs.take i) + y * 2 ^ f.1 < 2 ^ (f.1 + f.2) := by
        rw [Nat.pow_add]
        have : (y + 1) * 2 ^ f.1 ≤ 2 ^ f.2 * 2 ^ f.1 := Nat.mul_le_mul_right _ hyb
        rw [Nat.add_mul, Nat.one_mul] at this
        rw [Nat.mul_comm (2 ^ f.1)]
        omega
      exact Nat.lt_of_lt_of_le h2 (Nat.pow_le_pow_right (by decide) h1)
    · rw [hsn]; rfl
  · have hge : i = fs.length := by omega
    subst hge
    repeat refine C_seq ?_
    refine C_region ?_
    refine Lp_pv rfl rfl ?_
    refine Lp_pv rfl rfl ?_
    refine Lp_pv rfl rfl ?_
    refine Lp_nil ?_
    refine C_ret (fn_end0 _ (.inr rfl) H rfl fun w' H' => ⟨?_, H'⟩)
    have e : xs.take fs.length = xs := by rw [hlen, List.take_length]
    rw [List.take_length, e]
    rfl
end Go.Proofs.YtcaaojbnjfdglaaGreatDoor
namespace Go.SL

inductive SK where
  | i
  | b
def sfit : SK → Value → Bool
  | .i, .int .i64 _ => true
  | .b, .bool _ => true
  | _, _ => false
def fits : List SK → List Value → Bool
  | [], [] => true
  | k :: ks, v :: vs => sfit k v && fits ks vs
  | _, _ => false
@[reducible] def seq1 : Value → Value → Bool
  | .int _ a, .int _ b => a == b
  | .bool a, .bool b => a == b
  | _, _ => false
@[reducible] def veq : List Value → List Value → Bool
  | [], [] => true
  | x :: xs, y :: ys => seq1 x y && veq xs ys
  | _, _ => false

theorem fits_length : ∀ {ks : List SK} {vs : List Value}, fits ks vs = true → vs.length = ks.length
  | [], [], _ => rfl
  | [], _ :: _, h => by cases h
  | _ :: _, [], h => by cases h
  | _ :: ks, _ :: vs, h => by
    simp only [fits, Bool.and_eq_true] at h
    simp [fits_length h.2]

theorem fits_split : ∀ {ks : List SK} {ks' : List SK} {vs : List Value}, fits (ks ++ ks') vs = true → fits ks (vs.take ks.length) = true ∧ fits ks' (vs.drop ks.length) = true
  | [], ks', vs, h => by simpa [fits] using h
  | k :: ks, ks', [], h => by cases h
  | k :: ks, ks', v :: vs, h => by
    simp only [List.cons_append, fits, Bool.and_eq_true] at h
    have := fits_split h.2
    simp [fits, h.1, this]

theorem veq_split : ∀ (n : Nat) (xs ys : List Value), n ≤ xs.length → n ≤ ys.length → veq xs ys = (veq (xs.take n) (ys.take n) && veq (xs.drop n) (ys.drop n))
  | 0, xs, ys, _, _ => by simp [veq]
  | n + 1, [], ys, h, _ => by simp at h
  | n + 1, _ :: _, [], _, h => by simp at h
  | n + 1, x :: xs, y :: ys, h, h' => by
    have := veq_split n xs ys (by simpa using h) (by simpa using h')
    simp [veq, this, Bool.and_assoc]

/-- Two such structs are compared cell by cell. -/
def SemEq (P : Program) (t : TypeId) (ks : List SK) (d : Nat) : Prop :=
  ∀ k, d ≤ k → ∀ (w : World) (xs ys : List Value), fits ks xs = true → fits ks ys = true → (Op.equalIn k t (.agg xs.toArray) (.agg ys.toArray)).run P w = .ok (veq xs ys) w
def ScEq (P : Program) (t : TypeId) : SK → Prop
  | .i => ∃ q, P.underlying t = some (.int q)
  | .b => P.underlying t = some .bool

inductive FsEq (P : Program) : List Field → Nat → List SK → Nat → Prop where
  | nil {off d : Nat} : FsEq P [] off [] d
  | one {f : Field} {fs : List Field} {off d : Nat} {k : SK} {ks : List SK} (h1 : f.name ≠ "_") (h2 : f.offset = off) (h3 : T1 P f.type) (h4 : ScEq P f.type k) (h5 : 1 ≤ d) (h : FsEq P fs (off + 1) ks d) : FsEq P (f :: fs) off (k :: ks) d
  | agg {f : Field} {fs : List Field} {off d d' n : Nat} {ks ks' kk : List SK} (h1 : f.name ≠ "_") (h2 : f.offset = off) (h3 : TN P f.type n) (h4 : SemEq P f.type ks d') (h5 : d' ≤ d) (h6 : ks.length = n) (h7 : kk = ks ++ ks') (h : FsEq P fs (off + n) ks' d) : FsEq P (f :: fs) off kk d

theorem Reads.take' {c : List Value} {o n m : Nat} {l : List Value} (h : Reads c o n l) (hm : m ≤ n) : Reads c o m (l.take m) := by
  have hl := h.len
  have e : (l.take m).length = m := by simp; omega
  have := Reads.of_get (c := c) (vs := l.take m) (o := o) fun j v hj => by
    have : l[j]? = some v := by
      rw [List.getElem?_take] at hj
      split at hj
      · exact hj
      · cases hj
    exact h.get j v this
  rw [e] at this
  exact this
theorem Reads.drop' {c : List Value} {o n m : Nat} {l : List Value} (h : Reads c o n l) (hm : m ≤ n) : Reads c (o + m) (n - m) (l.drop m) := by
  have hl := h.len
  have e : (l.drop m).length = n - m := by simp; omega
  have := Reads.of_get (c := c) (vs := l.drop m) (o := o + m) fun j v hj => by
    rw [List.getElem?_drop] at hj
    have := h.get (m + j) v hj
    rw [Nat.add_assoc]
    exact this
  rw [e] at this
  exact this

theorem run_eqFs {P : Program} {fs : List Field} {off d : Nat} {ks : List SK} (h : FsEq P fs off ks d) : ∀ (k : Nat), d ≤ k → ∀ (w : World) (cx cy xs ys : List Value), Reads cx off ks.length xs → Reads cy off ks.length ys → fits ks xs = true → fits ks ys = true →
    (Op.eqFields k cx.toArray cy.toArray fs).run P w = .ok (veq xs ys) w := by
  induction h with
  | nil =>
    intro k hk w cx cy xs ys hx hy fx fy
    have e1 := fits_length fx
    have e2 := fits_length fy
    have : xs = [] := List.eq_nil_of_length_eq_zero e1
    have : ys = [] := List.eq_nil_of_length_eq_zero e2
    subst xs ys
    rfl
  | @one f fs off d q ks h1 h2 h3 h4 h5 h ih =>
    intro k hk w cx cy xs ys hx hy fx fy
    cases xs with
    | nil => cases fx
    | cons x xs =>
    cases ys with
    | nil => cases fy
    | cons y ys =>
    have gx := hx.get 0 x rfl
    have gy := hy.get 0 y rfl
    rw [Nat.add_zero] at gx gy
    have rx := hx.drop' (m := 1) (by simp)
    have ry := hy.drop' (m := 1) (by simp)
    simp only [List.length_cons, Nat.add_sub_cancel, List.drop_succ_cons, List.drop_zero] at rx ry
    simp only [fits, Bool.and_eq_true] at fx fy
    have e1 : (Op.equalIn k f.type x y).run P w = .ok (seq1 x y) w := by
      obtain ⟨k, rfl⟩ : ∃ j, k = j + 1 := ⟨k - 1, by omega⟩
      cases q with
      | i =>
        obtain ⟨q, hq⟩ := h4
        obtain ⟨a, rfl⟩ : ∃ a, x = .int .i64 a := by
          have := fx.1
          unfold sfit at this
          split at this <;> simp_all
        obtain ⟨b, rfl⟩ : ∃ a, y = .int .i64 a := by
          have := fy.1
          unfold sfit at this
          split at this <;> simp_all
        exact run_equalIn_int w k _ _ _ _ _ hq
      | b =>
        obtain ⟨a, rfl⟩ : ∃ a, x = .bool a := by
          have := fx.1
          unfold sfit at this
          split at this <;> simp_all
        obtain ⟨b, rfl⟩ : ∃ a, y = .bool a := by
          have := fy.1
          unfold sfit at this
          split at this <;> simp_all
        exact run_equalIn_bool w k _ _ _ h4
    have e2 := ih k hk w cx cy xs ys rx ry fx.2 fy.2
    simp only [Op.eqFields, h1, ne_eq, not_false_eq_true, if_true, Sem.run_bind, h2, part1 h3 gx, part1 h3 gy, Result.andThen_ok, e1, veq]
    cases hs : seq1 x y
    · simp
    · simp [e2]
  | @agg f fs off d d' n ks ks' kk h1 h2 h3 h4 h5 h6 h7 h ih =>
    subst h7
    intro k hk w cx cy xs ys hx hy fx fy
    have lx := fits_length fx
    have ly := fits_length fy
    rw [List.length_append] at lx ly hx hy
    have sx := fits_split fx
    have sy := fits_split fy
    rw [h6] at sx sy lx ly hx hy
    have px := partN (w := w) h3 (hx.take' (m := n) (by omega))
    have py := partN (w := w) h3 (hy.take' (m := n) (by omega))
    have e1 := h4 k (by omega) w _ _ sx.1 sy.1
    have rx := hx.drop' (m := n) (by omega)
    have ry := hy.drop' (m := n) (by omega)
    rw [show n + ks'.length - n = ks'.length by omega] at rx ry
    have e2 := ih k hk w cx cy _ _ rx ry sx.2 sy.2
    rw [veq_split n xs ys (by omega) (by omega)]
    simp only [Op.eqFields, h1, ne_eq, not_false_eq_true, if_true, Sem.run_bind, h2, px, py, Result.andThen_ok, e1]
    cases hs : veq (xs.take n) (ys.take n)
    · simp
    · simp [e2]

theorem semEq_of {P : Program} {t : TypeId} {fs : Array Field} {ks : List SK} {d : Nat} (h1 : P.underlying t = some (.struct fs)) (h2 : P.stoodInHeld t = false) (h : FsEq P fs.toList 0 ks d) : SemEq P t ks (d + 1) := by
  intro k hk w xs ys fx fy
  obtain ⟨k, rfl⟩ : ∃ j, k = j + 1 := ⟨k - 1, by omega⟩
  have hf : P.fieldsOf t = fs := by simp [Program.fieldsOf, h1]
  rw [run_equalIn_struct w k t _ _ (by rw [hf]; exact h1) h2, hf]
  have whole : ∀ (c : List Value), c.length = ks.length → Reads c 0 ks.length c := fun c hc => by
    rw [← hc]
    exact Reads.of_get fun j v hj => by rw [Nat.zero_add]; exact hj
  exact run_eqFs h k (by omega) w xs ys xs ys (whole _ (fits_length fx)) (whole _ (fits_length fy)) fx fy

class TAgg (P : Program) (t : TypeId) (ks : outParam (List SK)) : Prop where
  sem : ∃ d, d ≤ 10000 ∧ SemEq P t ks d
  guard : P.eqGuardType P.depth t = false

section
variable {P : Program} {n : Nat} {r : Option Nat} {ops : Array Oper} {Q : Post} {ms : List Nat} {σ : Env} {w : World} {rest : List Oper} {o : Oper} {K : Env → World → Prop} {l l' : List HProp}
variable {ivs : List (List Nat × (World → Prop))} {T : Env → World → Prop} {f : Nat} {L : Array Bool}
variable {u t s : TypeId} {p : String} {af : Array Edge} {g : Option (Nat × Bool)} {d : Option Tmp} {x y z : Operand} {ks : List SK}

theorem run_eqAgg (h : TAgg P t ks) (op : BinOp) (xs ys : List Value) (X Y : Operand) (ho : op = .eql ∨ op = .neq) (fx : fits ks xs = true) (fy : fits ks ys = true) :
    (do eqGuard op t X Y (.agg xs.toArray) (.agg ys.toArray); binOp op t (.agg xs.toArray) (.agg ys.toArray) : Sem Value).run P w = .ok (.bool (if isEql op then veq xs ys else !veq xs ys)) w := by
  have h0 := run_eqGuard_agg (P := P) w op t X Y xs.toArray ys.toArray h.guard
  obtain ⟨d, hd, hs⟩ := h.sem
  have h1 := hs 10000 hd w xs ys fx fy
  simp only [Sem.run_bind, h0, Result.andThen_ok]
  rcases ho with rfl | rfl
  · rw [run_eql_struct, h1]; rfl
  · rw [run_neq_struct, h1]; rfl

theorem St_eqAgg {op : BinOp} {yt : TypeId} {xs ys : List Value} [h : TAgg P t ks] (hx : ev σ x = .agg xs.toArray) (hy : ev σ y = .agg ys.toArray) (fx : fits ks xs = true) (fy : fits ks ys = true) (ho : op = .eql ∨ op = .neq) (hd : okd n d = true)
    (k : K (put σ d (.bool (if isEql op then veq xs ys else !veq xs ys))) w) : St P n r ⟨d, .binOp op t x y yt, u, p, af, g⟩ σ w K :=
  St_value hd (fun c e => by cases e) (by simp only [execOp, hx, hy, Sem.run_bind]; rw [← Sem.run_bind, run_eqAgg h op xs ys x y ho fx fy]; rfl) k

theorem A_eqAgg {op : BinOp} {yt : TypeId} {xs ys : List Value} (j : Nat) (hj : ops[j]? = some ⟨d, .binOp op t x y yt, u, p, af, g⟩) (hg : Wants ops σ ⟨d, .binOp op t x y yt, u, p, af, g⟩ true) [h : TAgg P t ks] (hx : ev σ x = .agg xs.toArray) (hy : ev σ y = .agg ys.toArray) (fx : fits ks xs = true) (fy : fits ks ys = true) (ho : op = .eql ∨ op = .neq)
    (hb : stB n ops (ivs.map (·.1)) L j [] = true) (k : Any P n r ops ivs T f (L.setIfInBounds j true) (put σ d (.bool (if isEql op then veq xs ys else !veq xs ys))) w) : Any P n r ops ivs T (f + 1) L σ w :=
  A_val j hj hg (fun c e => by cases e) (fun w => by simp only [execOp, hx, hy, Sem.run_bind]; rw [← Sem.run_bind, run_eqAgg h op xs ys x y ho fx fy]; rfl) hb k

/-- Two are ready, in either order. -/
theorem A_two {o o' : Oper} (i j : Nat) (hi : ops[i]? = some o) (hj : ops[j]? = some o') (hr : Region.ready .any ops L = [i, j]) (hI : InvL ivs L w) (hg : Wants ops σ o true) (hg' : Wants ops σ o' true)
    (h : St P n r o σ w (Any P n r ops ivs T f (L.setIfInBounds i true))) (h' : St P n r o' σ w (Any P n r ops ivs T f (L.setIfInBounds j true))) : Any P n r ops ivs T (f + 1) L σ w :=
  ⟨hI, fun h0 => (by rw [hr] at h0; cases h0), fun k hk => by
    rw [hr] at hk
    have : k = i ∨ k = j := by simpa using hk
    rcases this with rfl | rfl
    · exact ⟨o, hi, .inl ⟨hg, h⟩⟩
    · exact ⟨o', hj, .inl ⟨hg', h'⟩⟩⟩
/-- Three are. -/
theorem A_three {o o' o2 : Oper} (i j m : Nat) (hi : ops[i]? = some o) (hj : ops[j]? = some o') (hm : ops[m]? = some o2) (hr : Region.ready .any ops L = [i, j, m]) (hI : InvL ivs L w) (hg : Wants ops σ o true) (hg' : Wants ops σ o' true) (hg2 : Wants ops σ o2 true)
    (h : St P n r o σ w (Any P n r ops ivs T f (L.setIfInBounds i true))) (h' : St P n r o' σ w (Any P n r ops ivs T f (L.setIfInBounds j true))) (h2 : St P n r o2 σ w (Any P n r ops ivs T f (L.setIfInBounds m true))) : Any P n r ops ivs T (f + 1) L σ w :=
  ⟨hI, fun h0 => (by rw [hr] at h0; cases h0), fun k hk => by
    rw [hr] at hk
    have : k = i ∨ k = j ∨ k = m := by simpa using hk
    rcases this with rfl | rfl | rfl
    · exact ⟨o, hi, .inl ⟨hg, h⟩⟩
    · exact ⟨o', hj, .inl ⟨hg', h'⟩⟩
    · exact ⟨o2, hm, .inl ⟨hg2, h2⟩⟩⟩
end
end Go.SL
namespace Go.Proofs.YtcaaojbnjfdglaaGreatDoor
open Go.SL
theorem semEq22 : SemEq Tryz.prog 22 [.i, .i, .i] 2 := semEq_of Tryz.underlying22 (by kernel_rfl) (FsEq.one (by decide) rfl (inferInstance : T1 Tryz.prog 3) ⟨_, Tryz.underlying3⟩ (by decide) (FsEq.one (by decide) rfl (inferInstance : T1 Tryz.prog 3) ⟨_, Tryz.underlying3⟩ (by decide) (FsEq.one (by decide) rfl (inferInstance : T1 Tryz.prog 3) ⟨_, Tryz.underlying3⟩ (by decide) FsEq.nil)))
instance : TAgg Tryz.prog 22 [.i, .i, .i] := ⟨⟨2, by decide, semEq22⟩, by kernel_rfl⟩
theorem semEq23 : SemEq Tryz.prog 23 [.i, .i, .i] 2 := semEq_of Tryz.underlying23 (by kernel_rfl) (FsEq.one (by decide) rfl (inferInstance : T1 Tryz.prog 3) ⟨_, Tryz.underlying3⟩ (by decide) (FsEq.one (by decide) rfl (inferInstance : T1 Tryz.prog 3) ⟨_, Tryz.underlying3⟩ (by decide) (FsEq.one (by decide) rfl (inferInstance : T1 Tryz.prog 3) ⟨_, Tryz.underlying3⟩ (by decide) FsEq.nil)))
instance : TAgg Tryz.prog 23 [.i, .i, .i] := ⟨⟨2, by decide, semEq23⟩, by kernel_rfl⟩
theorem semEq31 : SemEq Tryz.prog 31 [.i, .i] 2 := semEq_of Tryz.underlying31 (by kernel_rfl) (FsEq.one (by decide) rfl (inferInstance : T1 Tryz.prog 3) ⟨_, Tryz.underlying3⟩ (by decide) (FsEq.one (by decide) rfl (inferInstance : T1 Tryz.prog 3) ⟨_, Tryz.underlying3⟩ (by decide) FsEq.nil))
instance : TAgg Tryz.prog 31 [.i, .i] := ⟨⟨2, by decide, semEq31⟩, by kernel_rfl⟩
theorem semEq32 : SemEq Tryz.prog 32 [.i, .i] 2 := semEq_of Tryz.underlying32 (by kernel_rfl) (FsEq.one (by decide) rfl (inferInstance : T1 Tryz.prog 3) ⟨_, Tryz.underlying3⟩ (by decide) (FsEq.one (by decide) rfl (inferInstance : T1 Tryz.prog 3) ⟨_, Tryz.underlying3⟩ (by decide) FsEq.nil))
instance : TAgg Tryz.prog 32 [.i, .i] := ⟨⟨2, by decide, semEq32⟩, by kernel_rfl⟩
theorem semEq44 : SemEq Tryz.prog 44 [.i, .i, .i, .i, .b] 2 := semEq_of Tryz.underlying44 (by kernel_rfl) (FsEq.one (by decide) rfl (inferInstance : T1 Tryz.prog 3) ⟨_, Tryz.underlying3⟩ (by decide) (FsEq.one (by decide) rfl (inferInstance : T1 Tryz.prog 3) ⟨_, Tryz.underlying3⟩ (by decide) (FsEq.one (by decide) rfl (inferInstance : T1 Tryz.prog 3) ⟨_, Tryz.underlying3⟩ (by decide) (FsEq.one (by decide) rfl (inferInstance : T1 Tryz.prog 3) ⟨_, Tryz.underlying3⟩ (by decide) (FsEq.one (by decide) rfl (inferInstance : T1 Tryz.prog 4) Tryz.underlying4 (by decide) FsEq.nil)))))
instance : TAgg Tryz.prog 44 [.i, .i, .i, .i, .b] := ⟨⟨2, by decide, semEq44⟩, by kernel_rfl⟩
theorem semEq60 : SemEq Tryz.prog 60 [.i, .i, .i] 3 := semEq_of Tryz.underlying60 (by kernel_rfl) (FsEq.one (by decide) rfl (inferInstance : T1 Tryz.prog 3) ⟨_, Tryz.underlying3⟩ (by decide) (FsEq.agg (by decide) rfl (inferInstance : TN Tryz.prog 32 2) semEq32 (by decide) rfl rfl FsEq.nil))
instance : TAgg Tryz.prog 60 [.i, .i, .i] := ⟨⟨3, by decide, semEq60⟩, by kernel_rfl⟩
theorem semEq61 : SemEq Tryz.prog 61 [.i, .i, .i] 3 := semEq_of Tryz.underlying61 (by kernel_rfl) (FsEq.one (by decide) rfl (inferInstance : T1 Tryz.prog 3) ⟨_, Tryz.underlying3⟩ (by decide) (FsEq.agg (by decide) rfl (inferInstance : TN Tryz.prog 32 2) semEq32 (by decide) rfl rfl FsEq.nil))
instance : TAgg Tryz.prog 61 [.i, .i, .i] := ⟨⟨3, by decide, semEq61⟩, by kernel_rfl⟩
theorem semEq108 : SemEq Tryz.prog 108 [.i, .i, .b, .b] 2 := semEq_of Tryz.underlying108 (by kernel_rfl) (FsEq.one (by decide) rfl (inferInstance : T1 Tryz.prog 3) ⟨_, Tryz.underlying3⟩ (by decide) (FsEq.one (by decide) rfl (inferInstance : T1 Tryz.prog 3) ⟨_, Tryz.underlying3⟩ (by decide) (FsEq.one (by decide) rfl (inferInstance : T1 Tryz.prog 4) Tryz.underlying4 (by decide) (FsEq.one (by decide) rfl (inferInstance : T1 Tryz.prog 4) Tryz.underlying4 (by decide) FsEq.nil))))
instance : TAgg Tryz.prog 108 [.i, .i, .b, .b] := ⟨⟨2, by decide, semEq108⟩, by kernel_rfl⟩
theorem semEq109 : SemEq Tryz.prog 109 [.i, .i, .b, .b] 2 := semEq_of Tryz.underlying109 (by kernel_rfl) (FsEq.one (by decide) rfl (inferInstance : T1 Tryz.prog 3) ⟨_, Tryz.underlying3⟩ (by decide) (FsEq.one (by decide) rfl (inferInstance : T1 Tryz.prog 3) ⟨_, Tryz.underlying3⟩ (by decide) (FsEq.one (by decide) rfl (inferInstance : T1 Tryz.prog 4) Tryz.underlying4 (by decide) (FsEq.one (by decide) rfl (inferInstance : T1 Tryz.prog 4) Tryz.underlying4 (by decide) FsEq.nil))))
instance : TAgg Tryz.prog 109 [.i, .i, .b, .b] := ⟨⟨2, by decide, semEq109⟩, by kernel_rfl⟩
theorem semEq126 : SemEq Tryz.prog 126 [.i, .i, .i] 2 := semEq_of Tryz.underlying126 (by kernel_rfl) (FsEq.one (by decide) rfl (inferInstance : T1 Tryz.prog 3) ⟨_, Tryz.underlying3⟩ (by decide) (FsEq.one (by decide) rfl (inferInstance : T1 Tryz.prog 3) ⟨_, Tryz.underlying3⟩ (by decide) (FsEq.one (by decide) rfl (inferInstance : T1 Tryz.prog 3) ⟨_, Tryz.underlying3⟩ (by decide) FsEq.nil)))
instance : TAgg Tryz.prog 126 [.i, .i, .i] := ⟨⟨2, by decide, semEq126⟩, by kernel_rfl⟩
theorem semEq127 : SemEq Tryz.prog 127 [.i, .i, .i] 2 := semEq_of Tryz.underlying127 (by kernel_rfl) (FsEq.one (by decide) rfl (inferInstance : T1 Tryz.prog 3) ⟨_, Tryz.underlying3⟩ (by decide) (FsEq.one (by decide) rfl (inferInstance : T1 Tryz.prog 3) ⟨_, Tryz.underlying3⟩ (by decide) (FsEq.one (by decide) rfl (inferInstance : T1 Tryz.prog 3) ⟨_, Tryz.underlying3⟩ (by decide) FsEq.nil)))
instance : TAgg Tryz.prog 127 [.i, .i, .i] := ⟨⟨2, by decide, semEq127⟩, by kernel_rfl⟩
theorem semEq193 : SemEq Tryz.prog 193 [.i, .b, .i, .i, .b, .b] 3 := semEq_of Tryz.underlying193 (by kernel_rfl) (FsEq.one (by decide) rfl (inferInstance : T1 Tryz.prog 3) ⟨_, Tryz.underlying3⟩ (by decide) (FsEq.one (by decide) rfl (inferInstance : T1 Tryz.prog 4) Tryz.underlying4 (by decide) (FsEq.agg (by decide) rfl (inferInstance : TN Tryz.prog 109 4) semEq109 (by decide) rfl rfl FsEq.nil)))
instance : TAgg Tryz.prog 193 [.i, .b, .i, .i, .b, .b] := ⟨⟨3, by decide, semEq193⟩, by kernel_rfl⟩
theorem semEq224 : SemEq Tryz.prog 224 [.i, .i] 2 := semEq_of Tryz.underlying224 (by kernel_rfl) (FsEq.one (by decide) rfl (inferInstance : T1 Tryz.prog 3) ⟨_, Tryz.underlying3⟩ (by decide) (FsEq.one (by decide) rfl (inferInstance : T1 Tryz.prog 3) ⟨_, Tryz.underlying3⟩ (by decide) FsEq.nil))
instance : TAgg Tryz.prog 224 [.i, .i] := ⟨⟨2, by decide, semEq224⟩, by kernel_rfl⟩
theorem semEq241 : SemEq Tryz.prog 241 [.i, .i] 2 := semEq_of Tryz.underlying241 (by kernel_rfl) (FsEq.one (by decide) rfl (inferInstance : T1 Tryz.prog 3) ⟨_, Tryz.underlying3⟩ (by decide) (FsEq.one (by decide) rfl (inferInstance : T1 Tryz.prog 3) ⟨_, Tryz.underlying3⟩ (by decide) FsEq.nil))
instance : TAgg Tryz.prog 241 [.i, .i] := ⟨⟨2, by decide, semEq241⟩, by kernel_rfl⟩
theorem semEq277 : SemEq Tryz.prog 277 [.i, .i] 2 := semEq_of Tryz.underlying277 (by kernel_rfl) (FsEq.one (by decide) rfl (inferInstance : T1 Tryz.prog 3) ⟨_, Tryz.underlying3⟩ (by decide) (FsEq.one (by decide) rfl (inferInstance : T1 Tryz.prog 3) ⟨_, Tryz.underlying3⟩ (by decide) FsEq.nil))
instance : TAgg Tryz.prog 277 [.i, .i] := ⟨⟨2, by decide, semEq277⟩, by kernel_rfl⟩
end Go.Proofs.YtcaaojbnjfdglaaGreatDoor
