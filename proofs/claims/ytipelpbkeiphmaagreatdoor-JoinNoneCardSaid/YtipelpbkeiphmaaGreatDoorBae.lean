/- Cells: what is proved on the way: every input of the statement; no condition. Texts joined: SlU SlM SlN Srl SlV InE SlW SlX SlY SlT Sri Srs SlS Srt. -/
import Derived.Test.YtipelpbkeiphmaaGreatDoorBaa
import Derived.Test.YtipelpbkeiphmaaGreatDoorBac
import Derived.Shelf.SlGeneric
import Derived.Shelf.Strconv.Itoa0
import Derived.Shelf.Spec.TrailingZeros
import Derived.Ground.Names7Prog
import Derived.Ground.NamesProg
import Derived.Test.YtipelpbkeiphmaaGreatDoorProg
import Derived.Test.YtipelpbkeiphmaaGreatDoorBad
import Derived.Laws.MakeOwn
import Derived.Shelf.Spec.SlicesInsert
import Derived.Shelf.Spec.SlicesInsertGrow
import Derived.Shelf.Slices.SearchI
import Derived.Shelf.Slices.Empties
import Derived.Ground.Names2Prog
import Derived.Shelf.Sort.Plain
import Derived.Shelf.Slices.In.SortNone
import Derived.Shelf.SlSortCmp.NoneTotal
import Derived.Ground.SlsfProg
set_option linter.unusedVariables false
set_option linter.unusedSimpArgs false
set_option linter.unusedSectionVars false
namespace Go.SL

theorem wrapU_nat {a : Nat} (h : a < 18446744073709551616) : IntKind.u64.wrap (a : Int) = a := by
  simp [IntKind.wrap, IntKind.bits, IntKind.signed]; omega
theorem wrapI_nat {a : Nat} (h : a < 9223372036854775808) : IntKind.i64.wrap (a : Int) = a := by
  simp [IntKind.wrap, IntKind.bits, IntKind.signed]; omega

theorem ofInt_nat {a : Nat} : BitVec.ofInt 64 (a : Int) = BitVec.ofNat 64 a := by
  apply BitVec.eq_of_toNat_eq
  simp [BitVec.toNat_ofInt]

theorem bit_and {a b : Nat} (ha : a < 18446744073709551616) (hb : b < 18446744073709551616) : bitI .and .u64 a b = ((a &&& b : Nat) : Int) := by
  show IntKind.u64.wrap (((BitVec.ofInt 64 (a : Int)) &&& (BitVec.ofInt 64 (b : Int))).toNat : Int) = _
  have hl : a &&& b < 18446744073709551616 := Nat.lt_of_le_of_lt Nat.and_le_left ha
  rw [ofInt_nat, ofInt_nat, BitVec.toNat_and, BitVec.toNat_ofNat, BitVec.toNat_ofNat, Nat.mod_eq_of_lt ha, Nat.mod_eq_of_lt hb, wrapU_nat hl]
theorem bit_or {a b : Nat} (ha : a < 18446744073709551616) (hb : b < 18446744073709551616) : bitI .or .u64 a b = ((a ||| b : Nat) : Int) := by
  show IntKind.u64.wrap (((BitVec.ofInt 64 (a : Int)) ||| (BitVec.ofInt 64 (b : Int))).toNat : Int) = _
  have hl : a ||| b < 18446744073709551616 := Nat.or_lt_two_pow (n := 64) ha hb
  rw [ofInt_nat, ofInt_nat, BitVec.toNat_or, BitVec.toNat_ofNat, BitVec.toNat_ofNat, Nat.mod_eq_of_lt ha, Nat.mod_eq_of_lt hb, wrapU_nat hl]
theorem bit_xor {a b : Nat} (ha : a < 18446744073709551616) (hb : b < 18446744073709551616) : bitI .xor .u64 a b = ((a ^^^ b : Nat) : Int) := by
  show IntKind.u64.wrap (((BitVec.ofInt 64 (a : Int)) ^^^ (BitVec.ofInt 64 (b : Int))).toNat : Int) = _
  have hl : a ^^^ b < 18446744073709551616 := Nat.xor_lt_two_pow (n := 64) ha hb
  rw [ofInt_nat, ofInt_nat, BitVec.toNat_xor, BitVec.toNat_ofNat, BitVec.toNat_ofNat, Nat.mod_eq_of_lt ha, Nat.mod_eq_of_lt hb, wrapU_nat hl]
theorem bit_andNot {a b : Nat} (ha : a < 18446744073709551616) (hb : b < 18446744073709551616) : bitI .andNot .u64 a b = ((a &&& (18446744073709551615 - b) : Nat) : Int) := by
  show IntKind.u64.wrap (((BitVec.ofInt 64 (a : Int)) &&& ~~~(BitVec.ofInt 64 (b : Int))).toNat : Int) = _
  have hl : a &&& (18446744073709551615 - b) < 18446744073709551616 := Nat.lt_of_le_of_lt Nat.and_le_left ha
  rw [ofInt_nat, ofInt_nat, BitVec.toNat_and, BitVec.toNat_not, BitVec.toNat_ofNat, BitVec.toNat_ofNat, Nat.mod_eq_of_lt ha, Nat.mod_eq_of_lt hb]
  exact wrapU_nat hl
theorem shl_nat {a b : Nat} (hb : b < 64) : shlI .u64 a b = ((a * 2 ^ b % 18446744073709551616 : Nat) : Int) := by
  unfold shlI
  have hm : min (b : Int).toNat IntKind.u64.bits = b := by simp [IntKind.bits]; omega
  rw [hm]
  have : ((a : Int) * 2 ^ b) = ((a * 2 ^ b : Nat) : Int) := by simp
  rw [this]
  generalize a * 2 ^ b = x
  simp [IntKind.wrap, IntKind.bits, IntKind.signed]
theorem shr_nat {k : IntKind} {a b : Nat} (hb : b < 64) (hk : IntKind.bits k = 64) : shrI k a b = ((a / 2 ^ b : Nat) : Int) := by
  unfold shrI
  have hm : min (b : Int).toNat (IntKind.bits k) = b := by rw [hk]; simp; omega
  rw [hm, Int.fdiv_eq_ediv_of_nonneg _ (by exact_mod_cast Nat.zero_le _)]
  simp

/-! ### A part of a word -/

/-- The bits from 'at' on, 'wd' of them. -/
def maskN (a wd : Nat) : Nat := (2 ^ wd - 1) * 2 ^ a
theorem maskN_lt {a wd : Nat} (h : a + wd ≤ 64) : maskN a wd < 18446744073709551616 := by
  unfold maskN
  have h1 : (2 ^ wd - 1) * 2 ^ a < 2 ^ wd * 2 ^ a := (Nat.mul_lt_mul_right (Nat.two_pow_pos a)).2 (Nat.sub_lt (Nat.two_pow_pos wd) (by decide))
  rw [← Nat.pow_add] at h1
  have h2 : 2 ^ (wd + a) ≤ 2 ^ 64 := Nat.pow_le_pow_right (by decide) (by omega)
  exact Nat.lt_of_lt_of_le h1 h2

theorem mask_bit {a wd i : Nat} : (maskN a wd).testBit i = (decide (a ≤ i) && decide (i < a + wd)) := by
  unfold maskN
  rw [← Nat.shiftLeft_eq, Nat.testBit_shiftLeft, Nat.testBit_two_pow_sub_one]
  by_cases h : a ≤ i
  · simp [h]; omega
  · simp [h]

theorem part_and {w a wd : Nat} : w &&& maskN a wd = (w / 2 ^ a % 2 ^ wd) * 2 ^ a := by
  apply Nat.eq_of_testBit_eq
  intro i
  rw [Nat.testBit_and, mask_bit, ← Nat.shiftLeft_eq, Nat.testBit_shiftLeft, Nat.testBit_mod_two_pow, Nat.testBit_div_two_pow]
  by_cases h : a ≤ i
  · simp only [h, decide_true, Bool.true_and, ge_iff_le]
    rw [show i - a + a = i by omega, Bool.and_comm]
    congr 1
    exact decide_eq_decide.2 (by omega)
  · simp [h]

theorem part_get {w a wd : Nat} : (w &&& maskN a wd) / 2 ^ a = w / 2 ^ a % 2 ^ wd := by
  rw [part_and, Nat.mul_div_cancel _ (Nat.two_pow_pos a)]

/-- A word whose bits lie below: nothing is there yet. -/
theorem part_clear {w a wd : Nat} (hw : w < 2 ^ a) (h : a + wd ≤ 64) : w &&& (18446744073709551615 - maskN a wd) = w := by
  apply Nat.eq_of_testBit_eq
  intro i
  have hm := maskN_lt h
  have e : 18446744073709551615 - maskN a wd = 2 ^ 64 - (maskN a wd + 1) := by omega
  rw [Nat.testBit_and, e, Nat.testBit_two_pow_sub_succ hm, mask_bit]
  by_cases hi : a ≤ i
  · have : w.testBit i = false := Nat.testBit_lt_two_pow (Nat.lt_of_lt_of_le hw (Nat.pow_le_pow_right (by decide) hi))
    simp [this]
  · by_cases h64 : i < 64
    · simp [hi, h64]
    · omega
theorem part_put {w a x : Nat} (hw : w < 2 ^ a) : w ||| x * 2 ^ a = w + x * 2 ^ a := by
  have := Nat.shiftLeft_add_eq_or_of_lt hw x
  rw [Nat.shiftLeft_eq] at this
  rw [Nat.or_comm, ← this, Nat.add_comm]
end Go.SL
namespace Go.SL

theorem Reads.of_get {c : List Value} : ∀ {vs : List Value} {o : Nat}, (∀ j v, vs[j]? = some v → c[o + j]? = some v) → Reads c o vs.length vs
  | [], o, _ => .nil o
  | v :: vs, o, h => .cons (by simpa using h 0 v rfl) (Reads.of_get fun j u hj => by
    have := h (j + 1) u (by simpa using hj)
    rw [show o + 1 + j = o + (j + 1) by omega]
    exact this)
theorem Reads.part {c cs es : List Value} {o n i : Nat} (h : Reads c o n cs) (he : ∀ j v, es[j]? = some v → cs[i + j]? = some v) : Reads c (o + i) es.length es :=
  Reads.of_get fun j v hj => by
    have := h.get (i + j) v (he j v hj)
    rw [Nat.add_assoc]
    exact this

theorem wr_eq : ∀ (vs : List Value) (c : List Value) (o : Nat), o + vs.length ≤ c.length → wr c o vs = c.take o ++ vs ++ c.drop (o + vs.length)
  | [], c, o, h => by simp [wr]
  | v :: vs, c, o, h => by
    rw [List.length_cons] at h
    have ih := wr_eq vs (c.set o v) (o + 1) (by simp; omega)
    show wr (c.set o v) (o + 1) vs = _
    rw [ih]
    have h1 : (c.set o v).take (o + 1) = c.take o ++ [v] := by
      rw [List.take_add_one, List.take_set_of_le (Nat.le_refl _)]
      simp [List.getElem?_set, show o < c.length by omega]
    have h2 : (c.set o v).drop (o + 1 + vs.length) = c.drop (o + (v :: vs).length) := by
      rw [List.drop_set_of_lt (by omega)]
      simp [Nat.add_assoc, Nat.add_comm, Nat.add_left_comm]
    rw [h1, h2]
    simp

/-- A slice that can be read: of m elements of k cells each, these. -/
def RdS (l : List HProp) (v : Value) (m k : Nat) (cs : List Value) : Prop :=
  cs.length = m * k ∧ ∃ ad cap, v = .slice ad m cap ∧ (m = 0 ∨ ∃ b o E fz c, ad = some ⟨b, o, none⟩ ∧ At b (.cells (List.toArray c) E fz) l ∧ Reads c o (m * k) cs)

theorem RdS.there {A : HProp} {l : List HProp} {v : Value} {m k : Nat} {cs : List Value} (h : RdS l v m k cs) : RdS (A :: l) v m k cs := by
  obtain ⟨h0, ad, cap, rfl, h⟩ := h
  refine ⟨h0, ad, cap, rfl, ?_⟩
  rcases h with h | ⟨b, o, E, fz, c, h1, h2, h3⟩
  · exact .inl h
  · exact .inr ⟨b, o, E, fz, c, h1, At.there (i := h2), h3⟩

section
variable {P : Program} {n : Nat} {r : Option Nat} {ops : Array Oper} {Q : Post} {ms : List Nat} {σ : Env} {w : World} {rest : List Oper} {o : Oper} {K : Env → World → Prop} {l l' : List HProp}
variable {u t s : TypeId} {p : String} {af : Array Edge} {g : Option (Nat × Bool)} {d : Option Tmp} {x y z : Operand}

theorem sls_rd [Extra] {E k m : Nat} {v : Value} {cs : List Value} (H : Holds w (sls E k v cs :: l)) (hm : cs.length = m * k) (k0 : 0 < k) :
    ∃ D, Holds w (D :: l) ∧ (∀ l', RdS (D :: l') v m k cs) ∧ ∀ w' l', Holds w' (D :: l') → Holds w' (sls E k v cs :: l') := by
  rcases sls_case H with ⟨rfl, rfl, H'⟩ | ⟨b, len, cap, spare, rfl, e3, e4, e5, H'⟩
  · have m0 : m = 0 := by
      rcases Nat.mul_eq_zero.1 (show m * k = 0 from hm.symm) with h | h
      · exact h
      · omega
    subst m0
    exact ⟨_, H, fun l' => ⟨hm, none, 0, rfl, .inl rfl⟩, fun _ _ h => h⟩
  · have e : len = m := Nat.eq_of_mul_eq_mul_right k0 (e3.symm.trans hm)
    subst e
    refine ⟨_, H', fun l' => ⟨hm, _, cap, rfl, .inr ⟨b, 0, E, (0, 0), cs ++ spare, rfl, At.here, ?_⟩⟩, fun w' l' h => sls_of e3 e4 e5 h⟩
    rw [← hm]
    refine Reads.of_get fun j v hj => ?_
    rw [Nat.zero_add, List.getElem?_append_left (List.getElem?_eq_some_iff.1 hj).1]
    exact hj

/-! ### append of such a slice; '[]T{}' -/

theorem run_append0 {e size bytes len cap c2 : Nat} {a a2 : Option Addr} (hT : TSlice P t e size bytes) (ty : TypeId) (h : len ≤ cap) : (Builtin.append_ #[t, t] ty #[.slice a len cap, .slice a2 0 c2]).run P w = .ok (.slice a len cap) w := by
  obtain ⟨i, hi, e2⟩ := Option.map_eq_some_iff.1 hT.info
  simp only [Prod.mk.injEq] at e2
  have hs : (sizeOf e).run P w = .ok size w := run_sizeOf' (by rw [hi]; simp [e2.1])
  have hf : (Builtin.firstCells size 0 (.slice a2 0 c2)).run P w = .ok #[] w := by
    cases a2 with
    | none => rfl
    | some a2 =>
      have := run_loadCells_list (P := P) (w := w) a2 [] (by simp)
      simpa [Builtin.firstCells] using this
  have hst : ∀ a', (storeCells a' []).run P w = .ok () w := fun a' => by rw [storeCells.eq_def]; rfl
  cases a with
  | none => simp [Builtin.append_, run_und hT.und, hs, Builtin.lenOf, h, hf]
  | some a => simp [Builtin.append_, run_und hT.und, hs, Builtin.lenOf, h, hf, hst]

theorem St_appendS [Extra] {e size bytes : Nat} {zv v2 : Value} [hT : TSlice P t e size bytes] [hz : TZero P e zv] {s : Value} {cs new : List Value} {m : Nat} (H : Holds w (sls e size s cs :: l))
    (hx : ev σ x = s) (hy : ev σ y = v2) (hr : RdS l v2 m size new) (h1 : new.all (·.oneCell') = true)
    (hb : (cs.length + new.length) * bytes ≤ 140737488355328) (hd : okd n d = true) (hq : (decide ((cellsL zv).length = size) && decide (0 < size) && decide (0 < bytes)) = true)
    (k : ∀ v' w', Holds w' (sls e size v' (cs ++ new) :: l) → K (put σ d v') w') : St P n r ⟨d, .call { callee := .builtin .append, args := #[x, y], argTypes := #[t, t] }, u, p, af, g⟩ σ w K := by
  obtain ⟨h0, ad, cap, rfl, h⟩ := hr
  rcases Nat.eq_zero_or_pos m with rfl | hm
  · have hn : new = [] := List.eq_nil_of_length_eq_zero (by omega)
    subst hn
    have H2 := H
    rw [← List.append_nil cs] at H
    rcases sls_case H2 with ⟨rfl, _, _⟩ | ⟨b, len, cap', spare, rfl, _, e4, _, _⟩
    · refine St_value (v := .slice none 0 0) (w' := w) hd (fun c e => by cases e) ?_ (k _ _ H)
      simp [execOp, resolve, invoke, builtin, hx, hy, run_append0 (w := w) hT u (Nat.le_refl 0)]
    · refine St_value (v := .slice (some ⟨b, 0, none⟩) len cap') (w' := w) hd (fun c e => by cases e) ?_ (k _ _ H)
      simp [execOp, resolve, invoke, builtin, hx, hy, run_append0 (w := w) hT u e4.1]
  · rcases h with rfl | ⟨b, o2, E, fz, c, rfl, hA, hrd⟩
    · omega
    · haveI := hA
      exact St_append H hx hy hrd h1 hm hb hd hq k

theorem St_buildSlice0 [Extra] {e size bytes : Nat} (H : Holds w l) [hT : TSlice P t e size bytes] (hd : okd n d = true)
    (k : ∀ b w', Holds w' (sls e size (.slice (some ⟨b, 0, none⟩) 0 0) [] :: l) → K (put σ d (.slice (some ⟨b, 0, none⟩) 0 0)) w') : St P n r ⟨d, .buildSlice t 0 #[], u, p, af, g⟩ σ w K := by
  obtain ⟨i, hi, e2⟩ := Option.map_eq_some_iff.1 hT.info
  simp only [Prod.mk.injEq] at e2
  have hs : (sizeOf e).run P w = .ok size w := run_sizeOf' (by rw [hi]; simp [e2.1])
  have hn := H.new (row e [])
  refine St_value (v := .slice (some ⟨w.heap.size, 0, none⟩) 0 0) (w' := w.alloc (.cells #[] e)) hd (fun c e => by cases e) ?_ (k _ _ (sls_lit (by simp) hn))
  have e0 : (Array.range 0).map (fun _ : Nat => (default : Value)) = #[] := by apply Array.ext <;> simp
  simp [execOp, Instr.buildSlice, run_und hT.und, hs, Instr.fill, newRow, e0]

/-! ### Parts of a slice; clear -/

theorem zeroCells_eq (z : Value) (k : Nat) : (Builtin.zeroCells z.cells k).toList = zeros (cellsL z) k := by
  have := zeros_range (cellsL z) k
  unfold Builtin.zeroCells
  rw [cells_eq]
  have e : (cellsL z).toArray.size = (cellsL z).length := by simp
  rw [e]
  rw [show (cellsL z).length = (cellsL z).toArray.size by simp] at this
  rw [e] at this
  rw [this]

theorem St_clear [Extra] {e size bytes b o2 m cap E : Nat} {zv : Value} {c : List Value} [hT : TSlice P t e size bytes] [hz : TZero P e zv] (H : Holds w (pts b (row E c) :: l)) (hx : ev σ x = .slice (some ⟨b, o2, none⟩) m cap) (hm : 0 < m)
    (hl : o2 + (zeros (cellsL zv) m).length ≤ c.length) (h1 : (cellsL zv).all (·.oneCell') = true) (hd : okd n d = true)
    (k : ∀ w', Holds w' (pts b (row E (wr c o2 (zeros (cellsL zv) m))) :: l) → K (put σ d (.tuple #[])) w') : St P n r ⟨d, .call { callee := .builtin .clear, args := #[x], argTypes := #[t] }, u, p, af, g⟩ σ w K := by
  obtain ⟨i', hi', hz'⟩ := Option.map_eq_some_iff.1 hz.zero
  have hzv : (zeroValue e).run P w = .ok zv w := by simp [zeroValue, typeInfo, hi', hz']
  have hone : ∀ v ∈ zeros (cellsL zv) m, v.oneCell' = true := by
    have : ∀ m, ∀ v ∈ zeros (cellsL zv) m, v.oneCell' = true := by
      intro m
      induction m with
      | zero => intro v hv; simp [zeros] at hv
      | succ m ih =>
        intro v hv
        simp only [zeros, List.mem_append] at hv
        rcases hv with hv | hv
        · exact List.all_eq_true.1 h1 v hv
        · exact ih v hv
    exact this m
  obtain ⟨w', hr, h2, h3, h4⟩ := run_storeCells_row (P := P) (zeros (cellsL zv) m) w b o2 E c 0 H.pts (by omega) hone
  have H' := H.set (o' := row E (wr c (o2 + 0) (zeros (cellsL zv) m))) h2 h3 h4
  refine St_value (v := .tuple #[]) (w' := w') hd (fun c e => by cases e) ?_ (k w' H')
  obtain ⟨m', rfl⟩ : ∃ m', m = m' + 1 := ⟨m - 1, by omega⟩
  simp [execOp, resolve, invoke, builtin, hx, Builtin.clear_, run_und hT.und, hzv, zeroCells_eq, hr]
end
end Go.SL
namespace Go.SL
section
variable {P : Program} {n : Nat} {r : Option Nat} {σ : Env} {w : World} {K : Env → World → Prop} {l : List HProp}
variable {u t : TypeId} {p : String} {af : Array Edge} {g : Option (Nat × Bool)} {d : Option Tmp} {x y : Operand}

theorem St_min {k q : IntKind} {a b : Int} {ts : Array TypeId} (hx : ev σ x = .int k a) (hy : ev σ y = .int q b) (hd : okd n d = true) (h : K (put σ d (.int k (if b < a then b else a))) w) :
    St P n r ⟨d, .call { callee := .builtin .min, args := #[x, y], argTypes := ts }, u, p, af, g⟩ σ w K := by
  refine St_value (v := .int k (if b < a then b else a)) (w' := w) hd (fun c e => by cases e) ?_ h
  simp [execOp, resolve, invoke, builtin, hx, hy, Builtin.min_, Builtin.min2]

/-- An owned slice is a slice. -/
theorem sls_any [Extra] {E k : Nat} {v : Value} {c : List Value} (H : Holds w (sls E k v c :: l)) : ∃ a m cap, v = .slice a m cap := by
  rcases sls_case H with ⟨rfl, _, _⟩ | ⟨b, len, cap, spare, rfl, _⟩
  · exact ⟨none, 0, 0, rfl⟩
  · exact ⟨_, _, _, rfl⟩

theorem add0 (a : Addr) : a.add 0 = a := by simp [Addr.add]

/-- 'x[:i]', whatever the slice. -/
theorem St_sliceToA {e size bytes len cap : Nat} {ad : Option Addr} {q : IntKind} {i : Int} [hT : TSlice P t e size bytes] (hx : ev σ x = .slice ad len cap) (hy : ev σ y = .int q i) (h0 : 0 ≤ i) (h1 : i ≤ cap) (hd : okd n d = true)
    (k : K (put σ d (.slice ad i.toNat cap)) w) : St P n r ⟨d, .slice t x none (some y) none, u, p, af, g⟩ σ w K := by
  have hs : (sizeOf e).run P w = .ok size w := by
    obtain ⟨k, hk, e2⟩ := Option.map_eq_some_iff.1 hT.info
    simp only [Prod.mk.injEq] at e2
    exact run_sizeOf' (by rw [hk]; simp [e2.1])
  refine St_value (v := .slice ad i.toNat cap) (w' := w) hd (fun c e => by cases e) ?_ k
  cases ad with
  | none => simp [execOp, hx, hy, Instr.sliceAt, Instr.slice, run_und hT.und, Instr.sliceBounds, Instr.sliceBound, asIntOf, h0, h1, hs]
  | some a => simp [execOp, hx, hy, Instr.sliceAt, Instr.slice, run_und hT.und, Instr.sliceBounds, Instr.sliceBound, asIntOf, h0, h1, hs, add0]
end
end Go.SL
namespace Go.Proofs
open Go.Shelf
def Tryz.laysLen_ren : Go.Shelf.Ren := ⟨fun | 129 => 239 | n => n, fun | 53 => 127 | 3 => 3 | 4 => 4 | 46 => 210 | 5 => 5 | 9 => 9 | n => n, fun | n => n⟩
theorem Tryz.laysLen : Go.Proofs.Lays.n129 Tryz.prog Tryz.laysLen_ren := {
  mixed := by kernel_rfl
  f129 := Tryz.func239.trans (congrArg some (by kernel_rfl))
  t3 := Tryz.underlying3
  a3 := Tryz.isAgg3
  z3 := Tryz.sizeOf3
  v3 := Tryz.zeroValue3
  t4 := Tryz.underlying4
  a4 := Tryz.isAgg4
  z4 := Tryz.sizeOf4
  v4 := Tryz.zeroValue4
  t5 := Tryz.underlying5
  a5 := Tryz.isAgg5
  z5 := Tryz.sizeOf5
  v5 := Tryz.zeroValue5
  t9 := Tryz.underlying9
  a9 := Tryz.isAgg9
  z9 := Tryz.sizeOf9
  v9 := Tryz.zeroValue9
  t46 := Tryz.underlying210
  a46 := Tryz.isAgg210
  z46 := Tryz.sizeOf210
  v46 := Tryz.zeroValue210
  t53 := Tryz.underlying127
  a53 := Tryz.isAgg127
  z53 := Tryz.sizeOf127
  v53 := Tryz.zeroValue127 }
def Tryz.laysTz_ren : Go.Shelf.Ren := ⟨fun | 29 => 288 | n => n, fun | 22 => 127 | 3 => 3 | 4 => 4 | 25 => 210 | 54 => 402 | 0 => 0 | 5 => 5 | n => n, fun | 1 => 0 | n => n⟩
theorem Tryz.laysTz : Go.Proofs.Lays7.n29 Tryz.prog Tryz.laysTz_ren := {
  mixed := by kernel_rfl
  f29 := Tryz.func288.trans (congrArg some (by kernel_rfl))
  t0 := Tryz.underlying0
  a0 := Tryz.isAgg0
  z0 := Tryz.sizeOf0
  v0 := Tryz.zeroValue0
  i0 := by kernel_rfl
  t3 := Tryz.underlying3
  a3 := Tryz.isAgg3
  z3 := Tryz.sizeOf3
  v3 := Tryz.zeroValue3
  i3 := by kernel_rfl
  t4 := Tryz.underlying4
  a4 := Tryz.isAgg4
  z4 := Tryz.sizeOf4
  v4 := Tryz.zeroValue4
  i4 := by kernel_rfl
  t5 := Tryz.underlying5
  a5 := Tryz.isAgg5
  z5 := Tryz.sizeOf5
  v5 := Tryz.zeroValue5
  i5 := by kernel_rfl
  t22 := Tryz.underlying127
  a22 := Tryz.isAgg127
  z22 := Tryz.sizeOf127
  v22 := Tryz.zeroValue127
  i22 := by kernel_rfl
  t25 := Tryz.underlying210
  a25 := Tryz.isAgg210
  z25 := Tryz.sizeOf210
  v25 := Tryz.zeroValue210
  i25 := by kernel_rfl
  t54 := Tryz.underlying402
  a54 := Tryz.isAgg402
  z54 := Tryz.sizeOf402
  g1 := by kernel_rfl }
end Go.Proofs
namespace Go.SL

inductive SK where
  | i
  | b
def sfit : SK → Value → Bool
  | .i, .int .i64 _ => true
  | .b, .bool _ => true
  | _, _ => false
def fits : List SK → List Value → Bool
  | [], [] => true
  | k :: ks, v :: vs => sfit k v && fits ks vs
  | _, _ => false
@[reducible] def seq1 : Value → Value → Bool
  | .int _ a, .int _ b => a == b
  | .bool a, .bool b => a == b
  | _, _ => false
@[reducible] def veq : List Value → List Value → Bool
  | [], [] => true
  | x :: xs, y :: ys => seq1 x y && veq xs ys
  | _, _ => false

theorem fits_length : ∀ {ks : List SK} {vs : List Value}, fits ks vs = true → vs.length = ks.length
  | [], [], _ => rfl
  | [], _ :: _, h => by cases h
  | _ :: _, [], h => by cases h
  | _ :: ks, _ :: vs, h => by
    simp only [fits, Bool.and_eq_true] at h
    simp [fits_length h.2]

theorem fits_split : ∀ {ks : List SK} {ks' : List SK} {vs : List Value}, fits (ks ++ ks') vs = true → fits ks (vs.take ks.length) = true ∧ fits ks' (vs.drop ks.length) = true
  | [], ks', vs, h => by simpa [fits] using h
  | k :: ks, ks', [], h => by cases h
  | k :: ks, ks', v :: vs, h => by
    simp only [List.cons_append, fits, Bool.and_eq_true] at h
    have := fits_split h.2
    simp [fits, h.1, this]

theorem veq_split : ∀ (n : Nat) (xs ys : List Value), n ≤ xs.length → n ≤ ys.length → veq xs ys = (veq (xs.take n) (ys.take n) && veq (xs.drop n) (ys.drop n))
  | 0, xs, ys, _, _ => by simp [veq]
  | n + 1, [], ys, h, _ => by simp at h
  | n + 1, _ :: _, [], _, h => by simp at h
  | n + 1, x :: xs, y :: ys, h, h' => by
    have := veq_split n xs ys (by simpa using h) (by simpa using h')
    simp [veq, this, Bool.and_assoc]

/-- Two such structs are compared cell by cell. -/
def SemEq (P : Program) (t : TypeId) (ks : List SK) (d : Nat) : Prop :=
  ∀ k, d ≤ k → ∀ (w : World) (xs ys : List Value), fits ks xs = true → fits ks ys = true → (Op.equalIn k t (.agg xs.toArray) (.agg ys.toArray)).run P w = .ok (veq xs ys) w
def ScEq (P : Program) (t : TypeId) : SK → Prop
  | .i => ∃ q, P.underlying t = some (.int q)
  | .b => P.underlying t = some .bool

inductive FsEq (P : Program) : List Field → Nat → List SK → Nat → Prop where
  | nil {off d : Nat} : FsEq P [] off [] d
  | one {f : Field} {fs : List Field} {off d : Nat} {k : SK} {ks : List SK} (h1 : f.name ≠ "_") (h2 : f.offset = off) (h3 : T1 P f.type) (h4 : ScEq P f.type k) (h5 : 1 ≤ d) (h : FsEq P fs (off + 1) ks d) : FsEq P (f :: fs) off (k :: ks) d
  | agg {f : Field} {fs : List Field} {off d d' n : Nat} {ks ks' kk : List SK} (h1 : f.name ≠ "_") (h2 : f.offset = off) (h3 : TN P f.type n) (h4 : SemEq P f.type ks d') (h5 : d' ≤ d) (h6 : ks.length = n) (h7 : kk = ks ++ ks') (h : FsEq P fs (off + n) ks' d) : FsEq P (f :: fs) off kk d

theorem Reads.take' {c : List Value} {o n m : Nat} {l : List Value} (h : Reads c o n l) (hm : m ≤ n) : Reads c o m (l.take m) := by
  have hl := h.len
  have e : (l.take m).length = m := by simp; omega
  have := Reads.of_get (c := c) (vs := l.take m) (o := o) fun j v hj => by
    have : l[j]? = some v := by
      rw [List.getElem?_take] at hj
      split at hj
      · exact hj
      · cases hj
    exact h.get j v this
  rw [e] at this
  exact this
theorem Reads.drop' {c : List Value} {o n m : Nat} {l : List Value} (h : Reads c o n l) (hm : m ≤ n) : Reads c (o + m) (n - m) (l.drop m) := by
  have hl := h.len
  have e : (l.drop m).length = n - m := by simp; omega
  have := Reads.of_get (c := c) (vs := l.drop m) (o := o + m) fun j v hj => by
    rw [List.getElem?_drop] at hj
    have := h.get (m + j) v hj
    rw [Nat.add_assoc]
    exact this
  rw [e] at this
  exact this

theorem run_eqFs {P : Program} {fs : List Field} {off d : Nat} {ks : List SK} (h : FsEq P fs off ks d) : ∀ (k : Nat), d ≤ k → ∀ (w : World) (cx cy xs ys : List Value), Reads cx off ks.length xs → Reads cy off ks.length ys → fits ks xs = true → fits ks ys = true →
    (Op.eqFields k cx.toArray cy.toArray fs).run P w = .ok (veq xs ys) w := by
  induction h with
  | nil =>
    intro k hk w cx cy xs ys hx hy fx fy
    have e1 := fits_length fx
    have e2 := fits_length fy
    have : xs = [] := List.eq_nil_of_length_eq_zero e1
    have : ys = [] := List.eq_nil_of_length_eq_zero e2
    subst xs ys
    rfl
  | @one f fs off d q ks h1 h2 h3 h4 h5 h ih =>
    intro k hk w cx cy xs ys hx hy fx fy
    cases xs with
    | nil => cases fx
    | cons x xs =>
    cases ys with
    | nil => cases fy
    | cons y ys =>
    have gx := hx.get 0 x rfl
    have gy := hy.get 0 y rfl
    rw [Nat.add_zero] at gx gy
    have rx := hx.drop' (m := 1) (by simp)
    have ry := hy.drop' (m := 1) (by simp)
    simp only [List.length_cons, Nat.add_sub_cancel, List.drop_succ_cons, List.drop_zero] at rx ry
    simp only [fits, Bool.and_eq_true] at fx fy
    have e1 : (Op.equalIn k f.type x y).run P w = .ok (seq1 x y) w := by
      obtain ⟨k, rfl⟩ : ∃ j, k = j + 1 := ⟨k - 1, by omega⟩
      cases q with
      | i =>
        obtain ⟨q, hq⟩ := h4
        obtain ⟨a, rfl⟩ : ∃ a, x = .int .i64 a := by
          have := fx.1
          unfold sfit at this
          split at this <;> simp_all
        obtain ⟨b, rfl⟩ : ∃ a, y = .int .i64 a := by
          have := fy.1
          unfold sfit at this
          split at this <;> simp_all
        exact run_equalIn_int w k _ _ _ _ _ hq
      | b =>
        obtain ⟨a, rfl⟩ : ∃ a, x = .bool a := by
          have := fx.1
          unfold sfit at this
          split at this <;> simp_all
        obtain ⟨b, rfl⟩ : ∃ a, y = .bool a := by
          have := fy.1
          unfold sfit at this
          split at this <;> simp_all
        exact run_equalIn_bool w k _ _ _ h4
    have e2 := ih k hk w cx cy xs ys rx ry fx.2 fy.2
    simp only [Op.eqFields, h1, ne_eq, not_false_eq_true, if_true, Sem.run_bind, h2, part1 h3 gx, part1 h3 gy, Result.andThen_ok, e1, veq]
    cases hs : seq1 x y
    · simp
    · simp [e2]
  | @agg f fs off d d' n ks ks' kk h1 h2 h3 h4 h5 h6 h7 h ih =>
    subst h7
    intro k hk w cx cy xs ys hx hy fx fy
    have lx := fits_length fx
    have ly := fits_length fy
    rw [List.length_append] at lx ly hx hy
    have sx := fits_split fx
    have sy := fits_split fy
    rw [h6] at sx sy lx ly hx hy
    have px := partN (w := w) h3 (hx.take' (m := n) (by omega))
    have py := partN (w := w) h3 (hy.take' (m := n) (by omega))
    have e1 := h4 k (by omega) w _ _ sx.1 sy.1
    have rx := hx.drop' (m := n) (by omega)
    have ry := hy.drop' (m := n) (by omega)
    rw [show n + ks'.length - n = ks'.length by omega] at rx ry
    have e2 := ih k hk w cx cy _ _ rx ry sx.2 sy.2
    rw [veq_split n xs ys (by omega) (by omega)]
    simp only [Op.eqFields, h1, ne_eq, not_false_eq_true, if_true, Sem.run_bind, h2, px, py, Result.andThen_ok, e1]
    cases hs : veq (xs.take n) (ys.take n)
    · simp
    · simp [e2]

theorem semEq_of {P : Program} {t : TypeId} {fs : Array Field} {ks : List SK} {d : Nat} (h1 : P.underlying t = some (.struct fs)) (h2 : P.stoodInHeld t = false) (h : FsEq P fs.toList 0 ks d) : SemEq P t ks (d + 1) := by
  intro k hk w xs ys fx fy
  obtain ⟨k, rfl⟩ : ∃ j, k = j + 1 := ⟨k - 1, by omega⟩
  have hf : P.fieldsOf t = fs := by simp [Program.fieldsOf, h1]
  rw [run_equalIn_struct w k t _ _ (by rw [hf]; exact h1) h2, hf]
  have whole : ∀ (c : List Value), c.length = ks.length → Reads c 0 ks.length c := fun c hc => by
    rw [← hc]
    exact Reads.of_get fun j v hj => by rw [Nat.zero_add]; exact hj
  exact run_eqFs h k (by omega) w xs ys xs ys (whole _ (fits_length fx)) (whole _ (fits_length fy)) fx fy

class TAgg (P : Program) (t : TypeId) (ks : outParam (List SK)) : Prop where
  sem : ∃ d, d ≤ 10000 ∧ SemEq P t ks d
  guard : P.eqGuardType P.depth t = false

section
variable {P : Program} {n : Nat} {r : Option Nat} {ops : Array Oper} {Q : Post} {ms : List Nat} {σ : Env} {w : World} {rest : List Oper} {o : Oper} {K : Env → World → Prop} {l l' : List HProp}
variable {ivs : List (List Nat × (World → Prop))} {T : Env → World → Prop} {f : Nat} {L : Array Bool}
variable {u t s : TypeId} {p : String} {af : Array Edge} {g : Option (Nat × Bool)} {d : Option Tmp} {x y z : Operand} {ks : List SK}

theorem run_eqAgg (h : TAgg P t ks) (op : BinOp) (xs ys : List Value) (X Y : Operand) (ho : op = .eql ∨ op = .neq) (fx : fits ks xs = true) (fy : fits ks ys = true) :
    (do eqGuard op t X Y (.agg xs.toArray) (.agg ys.toArray); binOp op t (.agg xs.toArray) (.agg ys.toArray) : Sem Value).run P w = .ok (.bool (if isEql op then veq xs ys else !veq xs ys)) w := by
  have h0 := run_eqGuard_agg (P := P) w op t X Y xs.toArray ys.toArray h.guard
  obtain ⟨d, hd, hs⟩ := h.sem
  have h1 := hs 10000 hd w xs ys fx fy
  simp only [Sem.run_bind, h0, Result.andThen_ok]
  rcases ho with rfl | rfl
  · rw [run_eql_struct, h1]; rfl
  · rw [run_neq_struct, h1]; rfl

theorem St_eqAgg {op : BinOp} {yt : TypeId} {xs ys : List Value} [h : TAgg P t ks] (hx : ev σ x = .agg xs.toArray) (hy : ev σ y = .agg ys.toArray) (fx : fits ks xs = true) (fy : fits ks ys = true) (ho : op = .eql ∨ op = .neq) (hd : okd n d = true)
    (k : K (put σ d (.bool (if isEql op then veq xs ys else !veq xs ys))) w) : St P n r ⟨d, .binOp op t x y yt, u, p, af, g⟩ σ w K :=
  St_value hd (fun c e => by cases e) (by simp only [execOp, hx, hy, Sem.run_bind]; rw [← Sem.run_bind, run_eqAgg h op xs ys x y ho fx fy]; rfl) k

/-- Two are ready, in either order. -/
theorem A_two {o o' : Oper} (i j : Nat) (hi : ops[i]? = some o) (hj : ops[j]? = some o') (hr : Region.ready .any ops L = [i, j]) (hI : InvL ivs L w) (hg : Wants ops σ o true) (hg' : Wants ops σ o' true)
    (h : St P n r o σ w (Any P n r ops ivs T f (L.setIfInBounds i true))) (h' : St P n r o' σ w (Any P n r ops ivs T f (L.setIfInBounds j true))) : Any P n r ops ivs T (f + 1) L σ w :=
  ⟨hI, fun h0 => (by rw [hr] at h0; cases h0), fun k hk => by
    rw [hr] at hk
    have : k = i ∨ k = j := by simpa using hk
    rcases this with rfl | rfl
    · exact ⟨o, hi, .inl ⟨hg, h⟩⟩
    · exact ⟨o', hj, .inl ⟨hg', h'⟩⟩⟩
end
end Go.SL
namespace Go.Proofs.YtipelpbkeiphmaaGreatDoor
open Go.SL
theorem semEq29 : SemEq Tryz.prog 29 [.i, .i, .i, .i, .i, .i, .i] 2 := semEq_of Tryz.underlying29 (by kernel_rfl) (FsEq.one (by decide) rfl (inferInstance : T1 Tryz.prog 3) ⟨_, Tryz.underlying3⟩ (by decide) (FsEq.one (by decide) rfl (inferInstance : T1 Tryz.prog 3) ⟨_, Tryz.underlying3⟩ (by decide) (FsEq.one (by decide) rfl (inferInstance : T1 Tryz.prog 3) ⟨_, Tryz.underlying3⟩ (by decide) (FsEq.one (by decide) rfl (inferInstance : T1 Tryz.prog 3) ⟨_, Tryz.underlying3⟩ (by decide) (FsEq.one (by decide) rfl (inferInstance : T1 Tryz.prog 3) ⟨_, Tryz.underlying3⟩ (by decide) (FsEq.one (by decide) rfl (inferInstance : T1 Tryz.prog 3) ⟨_, Tryz.underlying3⟩ (by decide) (FsEq.one (by decide) rfl (inferInstance : T1 Tryz.prog 3) ⟨_, Tryz.underlying3⟩ (by decide) FsEq.nil)))))))
instance : TAgg Tryz.prog 29 [.i, .i, .i, .i, .i, .i, .i] := ⟨⟨2, by decide, semEq29⟩, by kernel_rfl⟩
theorem semEq30 : SemEq Tryz.prog 30 [.i, .i, .i, .i, .i, .i, .i] 2 := semEq_of Tryz.underlying30 (by kernel_rfl) (FsEq.one (by decide) rfl (inferInstance : T1 Tryz.prog 3) ⟨_, Tryz.underlying3⟩ (by decide) (FsEq.one (by decide) rfl (inferInstance : T1 Tryz.prog 3) ⟨_, Tryz.underlying3⟩ (by decide) (FsEq.one (by decide) rfl (inferInstance : T1 Tryz.prog 3) ⟨_, Tryz.underlying3⟩ (by decide) (FsEq.one (by decide) rfl (inferInstance : T1 Tryz.prog 3) ⟨_, Tryz.underlying3⟩ (by decide) (FsEq.one (by decide) rfl (inferInstance : T1 Tryz.prog 3) ⟨_, Tryz.underlying3⟩ (by decide) (FsEq.one (by decide) rfl (inferInstance : T1 Tryz.prog 3) ⟨_, Tryz.underlying3⟩ (by decide) (FsEq.one (by decide) rfl (inferInstance : T1 Tryz.prog 3) ⟨_, Tryz.underlying3⟩ (by decide) FsEq.nil)))))))
instance : TAgg Tryz.prog 30 [.i, .i, .i, .i, .i, .i, .i] := ⟨⟨2, by decide, semEq30⟩, by kernel_rfl⟩
theorem semEq35 : SemEq Tryz.prog 35 [.i, .i, .i, .i, .i, .i] 2 := semEq_of Tryz.underlying35 (by kernel_rfl) (FsEq.one (by decide) rfl (inferInstance : T1 Tryz.prog 3) ⟨_, Tryz.underlying3⟩ (by decide) (FsEq.one (by decide) rfl (inferInstance : T1 Tryz.prog 3) ⟨_, Tryz.underlying3⟩ (by decide) (FsEq.one (by decide) rfl (inferInstance : T1 Tryz.prog 3) ⟨_, Tryz.underlying3⟩ (by decide) (FsEq.one (by decide) rfl (inferInstance : T1 Tryz.prog 3) ⟨_, Tryz.underlying3⟩ (by decide) (FsEq.one (by decide) rfl (inferInstance : T1 Tryz.prog 3) ⟨_, Tryz.underlying3⟩ (by decide) (FsEq.one (by decide) rfl (inferInstance : T1 Tryz.prog 3) ⟨_, Tryz.underlying3⟩ (by decide) FsEq.nil))))))
instance : TAgg Tryz.prog 35 [.i, .i, .i, .i, .i, .i] := ⟨⟨2, by decide, semEq35⟩, by kernel_rfl⟩
theorem semEq44 : SemEq Tryz.prog 44 [.i, .i, .i] 2 := semEq_of Tryz.underlying44 (by kernel_rfl) (FsEq.one (by decide) rfl (inferInstance : T1 Tryz.prog 3) ⟨_, Tryz.underlying3⟩ (by decide) (FsEq.one (by decide) rfl (inferInstance : T1 Tryz.prog 3) ⟨_, Tryz.underlying3⟩ (by decide) (FsEq.one (by decide) rfl (inferInstance : T1 Tryz.prog 3) ⟨_, Tryz.underlying3⟩ (by decide) FsEq.nil)))
instance : TAgg Tryz.prog 44 [.i, .i, .i] := ⟨⟨2, by decide, semEq44⟩, by kernel_rfl⟩
theorem semEq87 : SemEq Tryz.prog 87 [.i, .i] 2 := semEq_of Tryz.underlying87 (by kernel_rfl) (FsEq.one (by decide) rfl (inferInstance : T1 Tryz.prog 3) ⟨_, Tryz.underlying3⟩ (by decide) (FsEq.one (by decide) rfl (inferInstance : T1 Tryz.prog 3) ⟨_, Tryz.underlying3⟩ (by decide) FsEq.nil))
instance : TAgg Tryz.prog 87 [.i, .i] := ⟨⟨2, by decide, semEq87⟩, by kernel_rfl⟩
theorem semEq88 : SemEq Tryz.prog 88 [.i, .i] 2 := semEq_of Tryz.underlying88 (by kernel_rfl) (FsEq.one (by decide) rfl (inferInstance : T1 Tryz.prog 3) ⟨_, Tryz.underlying3⟩ (by decide) (FsEq.one (by decide) rfl (inferInstance : T1 Tryz.prog 3) ⟨_, Tryz.underlying3⟩ (by decide) FsEq.nil))
instance : TAgg Tryz.prog 88 [.i, .i] := ⟨⟨2, by decide, semEq88⟩, by kernel_rfl⟩
theorem semEq89 : SemEq Tryz.prog 89 [.i, .i, .i, .i, .b] 2 := semEq_of Tryz.underlying89 (by kernel_rfl) (FsEq.one (by decide) rfl (inferInstance : T1 Tryz.prog 3) ⟨_, Tryz.underlying3⟩ (by decide) (FsEq.one (by decide) rfl (inferInstance : T1 Tryz.prog 3) ⟨_, Tryz.underlying3⟩ (by decide) (FsEq.one (by decide) rfl (inferInstance : T1 Tryz.prog 3) ⟨_, Tryz.underlying3⟩ (by decide) (FsEq.one (by decide) rfl (inferInstance : T1 Tryz.prog 3) ⟨_, Tryz.underlying3⟩ (by decide) (FsEq.one (by decide) rfl (inferInstance : T1 Tryz.prog 4) Tryz.underlying4 (by decide) FsEq.nil)))))
instance : TAgg Tryz.prog 89 [.i, .i, .i, .i, .b] := ⟨⟨2, by decide, semEq89⟩, by kernel_rfl⟩
theorem semEq90 : SemEq Tryz.prog 90 [.i, .i, .i, .i, .b] 2 := semEq_of Tryz.underlying90 (by kernel_rfl) (FsEq.one (by decide) rfl (inferInstance : T1 Tryz.prog 3) ⟨_, Tryz.underlying3⟩ (by decide) (FsEq.one (by decide) rfl (inferInstance : T1 Tryz.prog 3) ⟨_, Tryz.underlying3⟩ (by decide) (FsEq.one (by decide) rfl (inferInstance : T1 Tryz.prog 3) ⟨_, Tryz.underlying3⟩ (by decide) (FsEq.one (by decide) rfl (inferInstance : T1 Tryz.prog 3) ⟨_, Tryz.underlying3⟩ (by decide) (FsEq.one (by decide) rfl (inferInstance : T1 Tryz.prog 4) Tryz.underlying4 (by decide) FsEq.nil)))))
instance : TAgg Tryz.prog 90 [.i, .i, .i, .i, .b] := ⟨⟨2, by decide, semEq90⟩, by kernel_rfl⟩
theorem semEq102 : SemEq Tryz.prog 102 [.i, .i, .b, .b] 2 := semEq_of Tryz.underlying102 (by kernel_rfl) (FsEq.one (by decide) rfl (inferInstance : T1 Tryz.prog 3) ⟨_, Tryz.underlying3⟩ (by decide) (FsEq.one (by decide) rfl (inferInstance : T1 Tryz.prog 3) ⟨_, Tryz.underlying3⟩ (by decide) (FsEq.one (by decide) rfl (inferInstance : T1 Tryz.prog 4) Tryz.underlying4 (by decide) (FsEq.one (by decide) rfl (inferInstance : T1 Tryz.prog 4) Tryz.underlying4 (by decide) FsEq.nil))))
instance : TAgg Tryz.prog 102 [.i, .i, .b, .b] := ⟨⟨2, by decide, semEq102⟩, by kernel_rfl⟩
theorem semEq108 : SemEq Tryz.prog 108 [.i, .i, .i] 3 := semEq_of Tryz.underlying108 (by kernel_rfl) (FsEq.one (by decide) rfl (inferInstance : T1 Tryz.prog 3) ⟨_, Tryz.underlying3⟩ (by decide) (FsEq.agg (by decide) rfl (inferInstance : TN Tryz.prog 88 2) semEq88 (by decide) rfl rfl FsEq.nil))
instance : TAgg Tryz.prog 108 [.i, .i, .i] := ⟨⟨3, by decide, semEq108⟩, by kernel_rfl⟩
theorem semEq109 : SemEq Tryz.prog 109 [.i, .i, .i] 3 := semEq_of Tryz.underlying109 (by kernel_rfl) (FsEq.one (by decide) rfl (inferInstance : T1 Tryz.prog 3) ⟨_, Tryz.underlying3⟩ (by decide) (FsEq.agg (by decide) rfl (inferInstance : TN Tryz.prog 88 2) semEq88 (by decide) rfl rfl FsEq.nil))
instance : TAgg Tryz.prog 109 [.i, .i, .i] := ⟨⟨3, by decide, semEq109⟩, by kernel_rfl⟩
theorem semEq111 : SemEq Tryz.prog 111 [.i, .i, .i, .i, .i, .i] 4 := semEq_of Tryz.underlying111 (by kernel_rfl) (FsEq.agg (by decide) rfl (inferInstance : TN Tryz.prog 88 2) semEq88 (by decide) rfl rfl (FsEq.one (by decide) rfl (inferInstance : T1 Tryz.prog 3) ⟨_, Tryz.underlying3⟩ (by decide) (FsEq.agg (by decide) rfl (inferInstance : TN Tryz.prog 109 3) semEq109 (by decide) rfl rfl FsEq.nil)))
instance : TAgg Tryz.prog 111 [.i, .i, .i, .i, .i, .i] := ⟨⟨4, by decide, semEq111⟩, by kernel_rfl⟩
theorem semEq146 : SemEq Tryz.prog 146 [.i, .i] 2 := semEq_of Tryz.underlying146 (by kernel_rfl) (FsEq.one (by decide) rfl (inferInstance : T1 Tryz.prog 3) ⟨_, Tryz.underlying3⟩ (by decide) (FsEq.one (by decide) rfl (inferInstance : T1 Tryz.prog 3) ⟨_, Tryz.underlying3⟩ (by decide) FsEq.nil))
instance : TAgg Tryz.prog 146 [.i, .i] := ⟨⟨2, by decide, semEq146⟩, by kernel_rfl⟩
theorem semEq155 : SemEq Tryz.prog 155 [.i, .i] 2 := semEq_of Tryz.underlying155 (by kernel_rfl) (FsEq.one (by decide) rfl (inferInstance : T1 Tryz.prog 3) ⟨_, Tryz.underlying3⟩ (by decide) (FsEq.one (by decide) rfl (inferInstance : T1 Tryz.prog 3) ⟨_, Tryz.underlying3⟩ (by decide) FsEq.nil))
instance : TAgg Tryz.prog 155 [.i, .i] := ⟨⟨2, by decide, semEq155⟩, by kernel_rfl⟩
theorem semEq165 : SemEq Tryz.prog 165 [.i, .i] 2 := semEq_of Tryz.underlying165 (by kernel_rfl) (FsEq.one (by decide) rfl (inferInstance : T1 Tryz.prog 3) ⟨_, Tryz.underlying3⟩ (by decide) (FsEq.one (by decide) rfl (inferInstance : T1 Tryz.prog 3) ⟨_, Tryz.underlying3⟩ (by decide) FsEq.nil))
instance : TAgg Tryz.prog 165 [.i, .i] := ⟨⟨2, by decide, semEq165⟩, by kernel_rfl⟩
theorem semEq166 : SemEq Tryz.prog 166 [.i, .i] 2 := semEq_of Tryz.underlying166 (by kernel_rfl) (FsEq.one (by decide) rfl (inferInstance : T1 Tryz.prog 3) ⟨_, Tryz.underlying3⟩ (by decide) (FsEq.one (by decide) rfl (inferInstance : T1 Tryz.prog 3) ⟨_, Tryz.underlying3⟩ (by decide) FsEq.nil))
instance : TAgg Tryz.prog 166 [.i, .i] := ⟨⟨2, by decide, semEq166⟩, by kernel_rfl⟩
theorem semEq179 : SemEq Tryz.prog 179 [.i, .i, .i] 2 := semEq_of Tryz.underlying179 (by kernel_rfl) (FsEq.one (by decide) rfl (inferInstance : T1 Tryz.prog 3) ⟨_, Tryz.underlying3⟩ (by decide) (FsEq.one (by decide) rfl (inferInstance : T1 Tryz.prog 3) ⟨_, Tryz.underlying3⟩ (by decide) (FsEq.one (by decide) rfl (inferInstance : T1 Tryz.prog 3) ⟨_, Tryz.underlying3⟩ (by decide) FsEq.nil)))
instance : TAgg Tryz.prog 179 [.i, .i, .i] := ⟨⟨2, by decide, semEq179⟩, by kernel_rfl⟩
theorem semEq180 : SemEq Tryz.prog 180 [.i, .i, .i] 2 := semEq_of Tryz.underlying180 (by kernel_rfl) (FsEq.one (by decide) rfl (inferInstance : T1 Tryz.prog 3) ⟨_, Tryz.underlying3⟩ (by decide) (FsEq.one (by decide) rfl (inferInstance : T1 Tryz.prog 3) ⟨_, Tryz.underlying3⟩ (by decide) (FsEq.one (by decide) rfl (inferInstance : T1 Tryz.prog 3) ⟨_, Tryz.underlying3⟩ (by decide) FsEq.nil)))
instance : TAgg Tryz.prog 180 [.i, .i, .i] := ⟨⟨2, by decide, semEq180⟩, by kernel_rfl⟩
theorem semEq222 : SemEq Tryz.prog 222 [.i, .b, .i, .i, .b, .b] 3 := semEq_of Tryz.underlying222 (by kernel_rfl) (FsEq.one (by decide) rfl (inferInstance : T1 Tryz.prog 3) ⟨_, Tryz.underlying3⟩ (by decide) (FsEq.one (by decide) rfl (inferInstance : T1 Tryz.prog 4) Tryz.underlying4 (by decide) (FsEq.agg (by decide) rfl (inferInstance : TN Tryz.prog 102 4) semEq102 (by decide) rfl rfl FsEq.nil)))
instance : TAgg Tryz.prog 222 [.i, .b, .i, .i, .b, .b] := ⟨⟨3, by decide, semEq222⟩, by kernel_rfl⟩
theorem semEq223 : SemEq Tryz.prog 223 [.i, .b, .i, .i, .b, .b] 3 := semEq_of Tryz.underlying223 (by kernel_rfl) (FsEq.one (by decide) rfl (inferInstance : T1 Tryz.prog 3) ⟨_, Tryz.underlying3⟩ (by decide) (FsEq.one (by decide) rfl (inferInstance : T1 Tryz.prog 4) Tryz.underlying4 (by decide) (FsEq.agg (by decide) rfl (inferInstance : TN Tryz.prog 102 4) semEq102 (by decide) rfl rfl FsEq.nil)))
instance : TAgg Tryz.prog 223 [.i, .b, .i, .i, .b, .b] := ⟨⟨3, by decide, semEq223⟩, by kernel_rfl⟩
theorem semEq271 : SemEq Tryz.prog 271 [.i, .i] 2 := semEq_of Tryz.underlying271 (by kernel_rfl) (FsEq.one (by decide) rfl (inferInstance : T1 Tryz.prog 3) ⟨_, Tryz.underlying3⟩ (by decide) (FsEq.one (by decide) rfl (inferInstance : T1 Tryz.prog 3) ⟨_, Tryz.underlying3⟩ (by decide) FsEq.nil))
instance : TAgg Tryz.prog 271 [.i, .i] := ⟨⟨2, by decide, semEq271⟩, by kernel_rfl⟩
theorem semEq314 : SemEq Tryz.prog 314 [.i, .i] 2 := semEq_of Tryz.underlying314 (by kernel_rfl) (FsEq.one (by decide) rfl (inferInstance : T1 Tryz.prog 3) ⟨_, Tryz.underlying3⟩ (by decide) (FsEq.one (by decide) rfl (inferInstance : T1 Tryz.prog 3) ⟨_, Tryz.underlying3⟩ (by decide) FsEq.nil))
instance : TAgg Tryz.prog 314 [.i, .i] := ⟨⟨2, by decide, semEq314⟩, by kernel_rfl⟩
theorem semEq315 : SemEq Tryz.prog 315 [.i, .i] 2 := semEq_of Tryz.underlying315 (by kernel_rfl) (FsEq.one (by decide) rfl (inferInstance : T1 Tryz.prog 3) ⟨_, Tryz.underlying3⟩ (by decide) (FsEq.one (by decide) rfl (inferInstance : T1 Tryz.prog 3) ⟨_, Tryz.underlying3⟩ (by decide) FsEq.nil))
instance : TAgg Tryz.prog 315 [.i, .i] := ⟨⟨2, by decide, semEq315⟩, by kernel_rfl⟩
theorem semEq316 : SemEq Tryz.prog 316 [.i, .i] 2 := semEq_of Tryz.underlying316 (by kernel_rfl) (FsEq.one (by decide) rfl (inferInstance : T1 Tryz.prog 237) ⟨_, Tryz.underlying237⟩ (by decide) (FsEq.one (by decide) rfl (inferInstance : T1 Tryz.prog 3) ⟨_, Tryz.underlying3⟩ (by decide) FsEq.nil))
instance : TAgg Tryz.prog 316 [.i, .i] := ⟨⟨2, by decide, semEq316⟩, by kernel_rfl⟩
theorem semEq317 : SemEq Tryz.prog 317 [.i, .i] 2 := semEq_of Tryz.underlying317 (by kernel_rfl) (FsEq.one (by decide) rfl (inferInstance : T1 Tryz.prog 237) ⟨_, Tryz.underlying237⟩ (by decide) (FsEq.one (by decide) rfl (inferInstance : T1 Tryz.prog 3) ⟨_, Tryz.underlying3⟩ (by decide) FsEq.nil))
instance : TAgg Tryz.prog 317 [.i, .i] := ⟨⟨2, by decide, semEq317⟩, by kernel_rfl⟩
theorem semEq390 : SemEq Tryz.prog 390 [.i, .i] 2 := semEq_of Tryz.underlying390 (by kernel_rfl) (FsEq.one (by decide) rfl (inferInstance : T1 Tryz.prog 3) ⟨_, Tryz.underlying3⟩ (by decide) (FsEq.one (by decide) rfl (inferInstance : T1 Tryz.prog 3) ⟨_, Tryz.underlying3⟩ (by decide) FsEq.nil))
instance : TAgg Tryz.prog 390 [.i, .i] := ⟨⟨2, by decide, semEq390⟩, by kernel_rfl⟩
end Go.Proofs.YtipelpbkeiphmaaGreatDoor
namespace Go.SL
section
variable {P : Program} {n : Nat} {r : Option Nat} {σ : Env} {w : World} {K : Env → World → Prop} {l : List HProp}
variable {u t : TypeId} {p : String} {af : Array Edge} {g : Option (Nat × Bool)} {d : Option Tmp} {x y : Operand}

theorem St_max {k q : IntKind} {a b : Int} {ts : Array TypeId} (hx : ev σ x = .int k a) (hy : ev σ y = .int q b) (hd : okd n d = true) (h : K (put σ d (.int k (if b > a then b else a))) w) :
    St P n r ⟨d, .call { callee := .builtin .max, args := #[x, y], argTypes := ts }, u, p, af, g⟩ σ w K := by
  refine St_value (v := .int k (if b > a then b else a)) (w' := w) hd (fun c e => by cases e) ?_ h
  simp [execOp, resolve, invoke, builtin, hx, hy, Builtin.max_, Builtin.max2]

theorem zeros1 (z : Value) : ∀ n, zeros [z] n = List.replicate n z
  | 0 => rfl
  | n + 1 => by simp [zeros, zeros1 z n, List.replicate_succ]

/-- 'make([]T, m)'. -/
theorem St_makeSlice [Extra] {e size bytes m : Nat} {zv : Value} {kl kc : IntKind} (H : Holds w l) [hT : TSlice P t e size bytes] [hz : TZero P e zv] (hx : ev σ x = .int kl (m : Int)) (hy : ev σ y = .int kc (m : Int)) (hq : (decide ((cellsL zv).length = size) && decide (bytes ≤ 1000000)) = true) (hm : m ≤ 100000000) (hd : okd n d = true)
    (k : ∀ b w', Holds w' (sls e size (.slice (some ⟨b, 0, none⟩) m m) (zeros (cellsL zv) m) :: l) → K (put σ d (.slice (some ⟨b, 0, none⟩) m m)) w') : St P n r ⟨d, .makeSlice t x y, u, p, af, g⟩ σ w K := by
  obtain ⟨i, hi, e2⟩ := Option.map_eq_some_iff.1 hT.info
  obtain ⟨i', hi', hz'⟩ := Option.map_eq_some_iff.1 hz.zero
  rw [hi] at hi'
  cases hi'
  simp only [Prod.mk.injEq] at e2
  simp only [Bool.and_eq_true, decide_eq_true_eq] at hq
  have hb : (i.bytes : Int) * (m : Int) ≤ 281474976710656 := by
    have : i.bytes * m ≤ 1000000 * 100000000 := Nat.mul_le_mul (by omega) hm
    have h : ((i.bytes * m : Nat) : Int) ≤ 281474976710656 := by omega
    rwa [Int.natCast_mul] at h
  have hr := run_make (P := P) w t e i zv hT.und hi hz' kl kc m m (by omega) (Int.le_refl _) hb (by omega)
  have hc : madeCells zv.cells (m * i.size) = (zeros (cellsL zv) m).toArray := by
    unfold madeCells
    rw [← zeros_range, cells_eq, hq.1, e2.1]
  rw [Int.toNat_natCast, hc] at hr
  have hn := H.new (row e (zeros (cellsL zv) m))
  refine St_value (v := .slice (some ⟨w.heap.size, 0, none⟩) m m) (w' := w.alloc (.cells (zeros (cellsL zv) m).toArray e)) hd (fun c e => by cases e) ?_ (k _ _ (sls_lit (by rw [zeros_length, hq.1]) hn))
  simp only [execOp, hx, hy, hr, Sem.run_bind, Result.andThen_ok, Sem.run_pure]

/-- '^x' of a word. -/
theorem St_compl {a : Nat} (ha : a < 18446744073709551616) (hx : ev σ x = .int .u64 a) (hd : okd n d = true) (h : K (put σ d (.int .u64 ((18446744073709551615 - a : Nat) : Int))) w) : St P n r ⟨d, .unOp .xor t x, u, p, af, g⟩ σ w K := by
  refine St_value (v := .int .u64 ((18446744073709551615 - a : Nat) : Int)) (w' := w) hd (fun c e => by cases e) ?_ h
  have e1 : (if IntKind.u64.signed = true then (-1 : Int) else IntKind.u64.max) = ((18446744073709551615 : Nat) : Int) := by decide
  have e2 : bitI .xor .u64 ((18446744073709551615 : Nat) : Int) (a : Int) = ((18446744073709551615 - a : Nat) : Int) := by
    rw [bit_xor (by decide) ha]
    congr 1
    apply Nat.eq_of_testBit_eq
    intro i
    have e : 18446744073709551615 - a = 2 ^ 64 - (a + 1) := by omega
    rw [Nat.testBit_xor, e, Nat.testBit_two_pow_sub_succ ha, show (18446744073709551615 : Nat) = 2 ^ 64 - 1 from rfl, Nat.testBit_two_pow_sub_one]
    by_cases hi : i < 64
    · simp [hi]
    · have : a.testBit i = false := Nat.testBit_lt_two_pow (Nat.lt_of_lt_of_le ha (Nat.pow_le_pow_right (n := 2) (by decide) (show 64 ≤ i by omega)))
      simp [hi, this]
  have e3 : (Op.unary .xor (.int .u64 (a : Int))).run P w = .ok (.int .u64 ((18446744073709551615 - a : Nat) : Int)) w := by
    have : (Op.intBits .xor .u64 ((18446744073709551615 : Nat) : Int) (a : Int)).run P w = .ok (.int .u64 (bitI .xor .u64 ((18446744073709551615 : Nat) : Int) (a : Int))) w := by
      simp [Op.intBits, bitI]
    rw [← e2, ← this, ← e1]
    rfl
  simp only [execOp, hx, Sem.run_bind, e3, Result.andThen_ok, Sem.run_pure]
end

/-- A row of small numbers in a variable of the program, that stays. -/
def TabIs (g : Nat) (tab : List Nat) (w : World) : Prop := ∀ j, j < tab.length → w.cell? ⟨g, j, none⟩ = some (.int .u8 (tab.getD j 0))
class HasTab (g : outParam Nat) (tab : outParam (List Nat)) (l : List HProp) : Prop where
  tab : ∀ w : World, sat l (hp w) → TabIs g tab w
instance {g : Nat} {tab : List Nat} {A : HProp} {l : List HProp} [h : HasTab g tab l] : HasTab g tab (A :: l) := ⟨fun w s => h.tab w (sat_drop s)⟩
theorem hasTab_old {g : Nat} {tab : List Nat} {W : World} {l : List HProp} (h : TabIs g tab W) (hg : g < W.heap.size) : HasTab g tab (old W :: l) := ⟨fun w s j hj => by
  obtain ⟨f, _, a, _, _, x, _⟩ := s
  have e := x g hg
  have e2 : w.heap[g]? = W.heap[g]? := by
    cases ho : W.heap[g]? with
    | none => have := Array.getElem?_eq_none_iff.1 ho; omega
    | some o => rw [ho] at e; exact a g o e
  have := h j hj
  unfold World.cell? at this ⊢
  simp only [e2]
  exact this⟩
end Go.SL
namespace Go.SL
section
variable {P : Program} {n : Nat} {r : Option Nat} {ops : Array Oper} {Q : Post} {ms : List Nat} {σ : Env} {w : World} {rest : List Oper} {o : Oper} {K : Env → World → Prop} {l l' : List HProp}
variable {ivs : List (List Nat × (World → Prop))} {T : Env → World → Prop} {f : Nat} {L : Array Bool}
variable {u t s : TypeId} {p : String} {af : Array Edge} {g : Option (Nat × Bool)} {d : Option Tmp} {x y z : Operand}

theorem run_sliceAB {e size bytes b o2 len cap i j : Nat} {q q' : IntKind} (hT : TSlice P t e size bytes) (h1 : i ≤ j) (h2 : j ≤ cap) (h3 : i < cap) :
    (Instr.sliceAt t (.slice (some ⟨b, o2, none⟩) len cap) (some (.int q (i : Int))) (some (.int q' (j : Int))) none).run P w = .ok (.slice (some ⟨b, o2 + i * size, none⟩) (j - i) (cap - i)) w := by
  have hs : (sizeOf e).run P w = .ok size w := by
    obtain ⟨k, hk, e2⟩ := Option.map_eq_some_iff.1 hT.info
    simp only [Prod.mk.injEq] at e2
    exact run_sizeOf' (by rw [hk]; simp [e2.1])
  have hne : cap ≠ i := by omega
  have b1 : (0 : Int) ≤ i ∧ (i : Int) ≤ j := by omega
  have b2 : (0 : Int) ≤ j ∧ (j : Int) ≤ cap := by omega
  simp [Instr.sliceAt, Instr.slice, run_und hT.und, Instr.sliceBounds, Instr.sliceBound, asIntOf, h1, h2, hs, add_lit', hne]

theorem A_sliceAB {e size bytes b o2 len cap i j : Nat} {q q' : IntKind} (m : Nat) (hm : ops[m]? = some ⟨d, .slice t x (some y) (some z) none, u, p, af, g⟩) (hg : Wants ops σ ⟨d, .slice t x (some y) (some z) none, u, p, af, g⟩ true) [hT : TSlice P t e size bytes] (hx : ev σ x = .slice (some ⟨b, o2, none⟩) len cap) (hy : ev σ y = .int q (i : Int)) (hz : ev σ z = .int q' (j : Int)) (h1 : i ≤ j) (h2 : j ≤ cap) (h3 : i < cap)
    (hb : stB n ops (ivs.map (·.1)) L m [] = true) (k : Any P n r ops ivs T f (L.setIfInBounds m true) (put σ d (.slice (some ⟨b, o2 + i * size, none⟩) (j - i) (cap - i))) w) : Any P n r ops ivs T (f + 1) L σ w :=
  A_val m hm hg (fun c e => by cases e) (fun w => by simp only [execOp, hx, hy, hz, Option.map_some, Option.map_none, Sem.run_bind, run_sliceAB hT h1 h2 h3, Result.andThen_ok, Sem.run_pure]) hb k

theorem wr_same {c : List Value} {o m : Nat} {vs : List Value} (h : Reads c o m vs) : ∀ (q : o + vs.length ≤ c.length), wr c o vs = c := fun q => by
  rw [wr_eq vs c o q]
  apply List.ext_getElem?
  intro j
  by_cases h1 : j < o
  · rw [List.append_assoc, List.getElem?_append_left (by simp; omega), List.getElem?_take_of_lt h1]
  · by_cases h2 : j < o + vs.length
    · rw [List.append_assoc, List.getElem?_append_right (by simp; omega), List.getElem?_append_left (by simp; omega)]
      have e1 : (c.take o).length = o := by simp; omega
      rw [e1]
      have := h.get (j - o) (vs[j - o]'(by omega)) (List.getElem?_eq_getElem (by omega))
      rw [show o + (j - o) = j by omega] at this
      rw [this, List.getElem?_eq_getElem (by omega)]
    · rw [List.append_assoc, List.getElem?_append_right (by simp; omega), List.getElem?_append_right (by simp; omega), List.getElem?_drop]
      congr 1
      simp
      omega

/-- An owned slice is laid open; its cells may be others then. -/
theorem sls_open2 [Extra] {E k m cap : Nat} {a : Option Addr} {c : List Value} (H : Holds w (sls E k (.slice a m cap) c :: l)) (h0 : 0 < m) :
    ∃ b spare, a = some ⟨b, 0, none⟩ ∧ Holds w (pts b (row E (c ++ spare)) :: l) ∧ m ≤ cap ∧ (cap - m) * k ≤ spare.length ∧ ∀ w' l' c', c'.length = c.length → Holds w' (pts b (row E (c' ++ spare)) :: l') → Holds w' (sls E k (.slice a m cap) c' :: l') := by
  rcases sls_case H with ⟨h, _⟩ | ⟨b, len, cap', spare, h, e3, e4, e5, H2⟩
  · injection h with h1 h2; omega
  · injection h with h1 h2 h3
    subst h1 h2 h3
    exact ⟨b, spare, rfl, H2, e4.1, e5, fun w' l' c' hc H' => sls_of (hc.trans e3) e4 e5 H'⟩

/-- A part of a slice is copied over itself. -/
theorem St_copySame [Extra] {e size bytes b o2 m cap cap' E : Nat} {c vs : List Value} [hT : TSlice P t e size bytes] (H : Holds w (pts b (row E c) :: l)) (hx : ev σ x = .slice (some ⟨b, o2, none⟩) m cap) (hy : ev σ y = .slice (some ⟨b, o2, none⟩) m cap') (hrd : Reads c o2 (m * size) vs) (hl : o2 + m * size ≤ c.length) (h1 : vs.all (·.oneCell') = true) (hd : okd n d = true)
    (k : ∀ w', Holds w' (pts b (row E c) :: l) → K (put σ d (.int .i64 m)) w') : St P n r ⟨d, .call { callee := .builtin .copy, args := #[x, y], argTypes := #[t, t] }, u, p, af, g⟩ σ w K := by
  have hs : (sizeOf e).run P w = .ok size w := by
    obtain ⟨k, hk, e2⟩ := Option.map_eq_some_iff.1 hT.info
    simp only [Prod.mk.injEq] at e2
    exact run_sizeOf' (by rw [hk]; simp [e2.1])
  have ev1 := hrd.len
  have hbk : w.heap[b]? = some (.cells c.toArray E (0, 0)) := H.pts
  have hfc : (Builtin.firstCells size m (.slice (some ⟨b, o2, none⟩) m cap')).run P w = .ok vs.toArray w := by
    unfold Builtin.firstCells
    have := run_loadCells_list (P := P) (w := w) ⟨b, o2, none⟩ vs (fun j v hj => by
      rw [add_lit']
      exact cell_row hbk (hrd.get j v hj))
    rwa [ev1] at this
  obtain ⟨w', hr, h2, h3, h4⟩ := run_storeCells_row (P := P) vs w b o2 E c 0 H.pts (by omega) (List.all_eq_true.1 h1)
  rw [Nat.add_zero, wr_same hrd (by omega)] at h2
  have H' := H.set (o' := row E c) h2 h3 h4
  refine St_value (v := .int .i64 m) (w' := w') hd (fun c e => by cases e) ?_ (k w' H')
  have hmin : Nat.min m m = m := Nat.min_self m
  simp [execOp, resolve, invoke, builtin, hx, hy, Builtin.copy_, run_und hT.und, Builtin.lenOf, hmin, hs, hfc, hr, goInt]
end
end Go.SL
namespace Go.SL
section
variable {P : Program} {n : Nat} {r : Option Nat} {ops : Array Oper} {Q : Post} {ms : List Nat} {σ : Env} {w : World} {rest : List Oper} {o : Oper} {K : Env → World → Prop} {l l' : List HProp}
variable {u t s : TypeId} {p : String} {af : Array Edge} {g : Option (Nat × Bool)} {d : Option Tmp} {x y z : Operand}

/-- 'x[i:]': of some slice. -/
theorem St_sliceFromE {e size bytes len cap : Nat} {ad : Option Addr} {q : IntKind} {i : Nat} [hT : TSlice P t e size bytes] (hx : ev σ x = .slice ad len cap) (hy : ev σ y = .int q (i : Int)) (h1 : i ≤ len) (hd : okd n d = true)
    (k : ∀ v, K (put σ d v) w) : St P n r ⟨d, .slice t x (some y) none none, u, p, af, g⟩ σ w K := by
  have hs : (sizeOf e).run P w = .ok size w := by
    obtain ⟨k, hk, e2⟩ := Option.map_eq_some_iff.1 hT.info
    simp only [Prod.mk.injEq] at e2
    exact run_sizeOf' (by rw [hk]; simp [e2.1])
  cases ad with
  | none =>
    refine St_value (w' := w) hd (fun c e => by cases e) ?_ (k (.slice none (len - i) (cap - i)))
    simp [execOp, hx, hy, Instr.sliceAt, Instr.slice, run_und hT.und, Instr.sliceBounds, Instr.sliceBound, asIntOf, h1, hs]
  | some a =>
    by_cases hc : cap = i
    · subst hc
      refine St_value (w' := w) hd (fun c e => by cases e) ?_ (k (.slice (some a) (len - cap) (cap - cap)))
      simp [execOp, hx, hy, Instr.sliceAt, Instr.slice, run_und hT.und, Instr.sliceBounds, Instr.sliceBound, asIntOf, h1, hs]
    · refine St_value (w' := w) hd (fun c e => by cases e) ?_ (k (.slice (some (a.add (i * size))) (len - i) (cap - i)))
      simp [execOp, hx, hy, Instr.sliceAt, Instr.slice, run_und hT.und, Instr.sliceBounds, Instr.sliceBound, asIntOf, h1, hs, hc]
end
end Go.SL
namespace Go.SL

theorem split_at {α : Type} {l : List α} {k : Nat} {x : α} (h : l[k]? = some x) : l = l.take k ++ x :: l.drop (k + 1) := by
  obtain ⟨h1, h2⟩ := List.getElem?_eq_some_iff.1 h
  rw [← h2, List.getElem_cons_drop, List.take_append_drop]
theorem set_split {α : Type} {l : List α} {k : Nat} {x y : α} (h : l[k]? = some x) : l.set k y = l.take k ++ y :: l.drop (k + 1) := by
  have h1 := (List.getElem?_eq_some_iff.1 h).1
  rw [List.set_eq_take_append_cons_drop, if_pos h1]

theorem wr_mid {A B : List Value} : ∀ (vs y : List Value) (j : Nat), j + vs.length ≤ y.length → wr (A ++ (y ++ B)) (A.length + j) vs = A ++ (wr y j vs ++ B)
  | [], y, j, _ => rfl
  | v :: vs, y, j, h => by
    simp only [List.length_cons] at h
    show wr ((A ++ (y ++ B)).set (A.length + j) v) (A.length + j + 1) vs = A ++ (wr (y.set j v) (j + 1) vs ++ B)
    rw [List.set_append_right _ _ (by omega), show A.length + j - A.length = j by omega, List.set_append_left _ _ (by omega)]
    exact wr_mid vs (y.set j v) (j + 1) (by simp; omega)

section
variable {α : Type} {f : α → List Value} {m : Nat}
theorem flat_len (hf : ∀ a, (f a).length = m) (l : List α) : (l.flatMap f).length = l.length * m := by
  induction l with
  | nil => simp
  | cons a l ih => rw [List.flatMap_cons, List.length_append, ih, hf, List.length_cons, Nat.succ_mul]; omega
theorem flat_split {l : List α} {i : Nat} {x : α} (h : l[i]? = some x) (s : List Value) : l.flatMap f ++ s = (l.take i).flatMap f ++ (f x ++ ((l.drop (i + 1)).flatMap f ++ s)) := by
  conv => lhs; rw [split_at h]
  simp
theorem flat_alen (hf : ∀ a, (f a).length = m) {l : List α} {i : Nat} {x : α} (h : l[i]? = some x) : ((l.take i).flatMap f).length = i * m := by
  have h1 := (List.getElem?_eq_some_iff.1 h).1
  rw [flat_len hf, List.length_take, Nat.min_eq_left (by omega)]
theorem flat_get (hf : ∀ a, (f a).length = m) {l : List α} {i : Nat} {x : α} (h : l[i]? = some x) {s : List Value} {j : Nat} {v : Value} (hv : (f x)[j]? = some v) : (l.flatMap f ++ s)[i * m + j]? = some v := by
  have hj := (List.getElem?_eq_some_iff.1 hv).1
  rw [flat_split h, List.getElem?_append_right (by rw [flat_alen hf h]; omega), flat_alen hf h, show i * m + j - i * m = j by omega, List.getElem?_append_left hj]
  exact hv
theorem flat_reads (hf : ∀ a, (f a).length = m) {l : List α} {i : Nat} {x : α} (h : l[i]? = some x) {s : List Value} {j : Nat} {vs : List Value} (hv : Reads (f x) j vs.length vs) : Reads (l.flatMap f ++ s) (i * m + j) vs.length vs :=
  Reads.of_get fun k v hk => by
    rw [show i * m + j + k = i * m + (j + k) by omega]
    exact flat_get hf h (hv.get k v hk)
theorem flat_wr (hf : ∀ a, (f a).length = m) {l : List α} {i : Nat} {x x' : α} (h : l[i]? = some x) {s : List Value} {j : Nat} {vs : List Value} (hj : j + vs.length ≤ m) (hx : wr (f x) j vs = f x') : wr (l.flatMap f ++ s) (i * m + j) vs = (l.set i x').flatMap f ++ s := by
  rw [flat_split h, ← flat_alen hf h, wr_mid vs (f x) j (by rw [hf]; exact hj), hx, set_split h]
  simp
theorem flat_set (hf : ∀ a, (f a).length = m) {l : List α} {i : Nat} {x x' : α} (h : l[i]? = some x) {s : List Value} {j : Nat} {v : Value} (hj : j < m) (hx : (f x).set j v = f x') : (l.flatMap f ++ s).set (i * m + j) v = (l.set i x').flatMap f ++ s :=
  flat_wr (vs := [v]) hf h (by simp; omega) hx
end
end Go.SL
namespace Go.Proofs
open Go.Shelf
def Tryz.laysBs_ren : Go.Shelf.Ren := ⟨fun | 25 => 165 | 31 => 240 | 32 => 241 | 37 => 163 | n => n, fun | 22 => 46 | 3 => 3 | 4 => 4 | 40 => 210 | 0 => 0 | n => n, fun | n => n⟩
theorem Tryz.laysBs : Go.Proofs.Lays2.n25 Tryz.prog Tryz.laysBs_ren := {
  mixed := by kernel_rfl
  f25 := Tryz.func165.trans (congrArg some (by kernel_rfl))
  f31 := Tryz.func240.trans (congrArg some (by kernel_rfl))
  f32 := Tryz.func241.trans (congrArg some (by kernel_rfl))
  f37 := Tryz.func163.trans (congrArg some (by kernel_rfl))
  t0 := Tryz.underlying0
  a0 := Tryz.isAgg0
  z0 := Tryz.sizeOf0
  v0 := Tryz.zeroValue0
  t3 := Tryz.underlying3
  a3 := Tryz.isAgg3
  z3 := Tryz.sizeOf3
  v3 := Tryz.zeroValue3
  t4 := Tryz.underlying4
  a4 := Tryz.isAgg4
  z4 := Tryz.sizeOf4
  v4 := Tryz.zeroValue4
  t22 := Tryz.underlying46
  a22 := Tryz.isAgg46
  z22 := Tryz.sizeOf46
  v22 := Tryz.zeroValue46
  t40 := Tryz.underlying210
  a40 := Tryz.isAgg210
  z40 := Tryz.sizeOf210
  v40 := Tryz.zeroValue210 }
def Tryz.laysIns_ren : Go.Shelf.Ren := ⟨fun | 21 => 252 | 27 => 303 | 28 => 304 | 35 => 322 | 39 => 338 | n => n, fun | 22 => 46 | 3 => 3 | 4 => 4 | 0 => 0 | n => n, fun | n => n⟩
theorem Tryz.laysIns : Go.Proofs.Lays2.n21 Tryz.prog Tryz.laysIns_ren := {
  mixed := by kernel_rfl
  f21 := Tryz.func252.trans (congrArg some (by kernel_rfl))
  f27 := Tryz.func303.trans (congrArg some (by kernel_rfl))
  f28 := Tryz.func304.trans (congrArg some (by kernel_rfl))
  f35 := Tryz.func322.trans (congrArg some (by kernel_rfl))
  f39 := Tryz.func338.trans (congrArg some (by kernel_rfl))
  t0 := Tryz.underlying0
  a0 := Tryz.isAgg0
  z0 := Tryz.sizeOf0
  v0 := Tryz.zeroValue0
  t3 := Tryz.underlying3
  a3 := Tryz.isAgg3
  z3 := Tryz.sizeOf3
  v3 := Tryz.zeroValue3
  t4 := Tryz.underlying4
  a4 := Tryz.isAgg4
  z4 := Tryz.sizeOf4
  v4 := Tryz.zeroValue4
  t22 := Tryz.underlying46
  a22 := Tryz.isAgg46
  z22 := Tryz.sizeOf46
  v22 := Tryz.zeroValue46
  i3 := by kernel_rfl }
end Go.Proofs
namespace Go.Proofs
open Go.Shelf
def Tryz.laysSort_ren : Go.Shelf.Ren := ⟨fun | 189 => 120 | 125 => 162 | 257 => 209 | 128 => 238 | 129 => 239 | 294 => 280 | 295 => 281 | 296 => 282 | 297 => 283 | 298 => 284 | 299 => 285 | 216 => 240 | 300 => 286 | 301 => 287 | 328 => 315 | 329 => 297 | 330 => 298 | 331 => 316 | 332 => 317 | 215 => 163 | 343 => 329 | n => n, fun | 28 => 46 | 3 => 3 | 46 => 210 | 0 => 0 | 51 => 334 | 53 => 127 | 4 => 4 | 183 => 328 | 182 => 327 | 131 => 235 | 5 => 5 | 9 => 9 | 218 => 382 | 222 => 386 | 228 => 405 | 229 => 298 | n => n, fun | n => n⟩
theorem Tryz.laysSort : Go.Proofs.Lays.n189 Tryz.prog Tryz.laysSort_ren := {
  mixed := by kernel_rfl
  f125 := Tryz.func162.trans (congrArg some (by kernel_rfl))
  f128 := Tryz.func238.trans (congrArg some (by kernel_rfl))
  f129 := Tryz.func239.trans (congrArg some (by kernel_rfl))
  f189 := Tryz.func120.trans (congrArg some (by kernel_rfl))
  f215 := Tryz.func163.trans (congrArg some (by kernel_rfl))
  f216 := Tryz.func240.trans (congrArg some (by kernel_rfl))
  f257 := Tryz.func209.trans (congrArg some (by kernel_rfl))
  f294 := Tryz.func280.trans (congrArg some (by kernel_rfl))
  f295 := Tryz.func281.trans (congrArg some (by kernel_rfl))
  f296 := Tryz.func282.trans (congrArg some (by kernel_rfl))
  f297 := Tryz.func283.trans (congrArg some (by kernel_rfl))
  f298 := Tryz.func284.trans (congrArg some (by kernel_rfl))
  f299 := Tryz.func285.trans (congrArg some (by kernel_rfl))
  f300 := Tryz.func286.trans (congrArg some (by kernel_rfl))
  f301 := Tryz.func287.trans (congrArg some (by kernel_rfl))
  f328 := Tryz.func315.trans (congrArg some (by kernel_rfl))
  f329 := Tryz.func297.trans (congrArg some (by kernel_rfl))
  f330 := Tryz.func298.trans (congrArg some (by kernel_rfl))
  f331 := Tryz.func316.trans (congrArg some (by kernel_rfl))
  f332 := Tryz.func317.trans (congrArg some (by kernel_rfl))
  f343 := Tryz.func329.trans (congrArg some (by kernel_rfl))
  t0 := Tryz.underlying0
  a0 := Tryz.isAgg0
  z0 := Tryz.sizeOf0
  v0 := Tryz.zeroValue0
  t3 := Tryz.underlying3
  a3 := Tryz.isAgg3
  z3 := Tryz.sizeOf3
  v3 := Tryz.zeroValue3
  t4 := Tryz.underlying4
  a4 := Tryz.isAgg4
  z4 := Tryz.sizeOf4
  v4 := Tryz.zeroValue4
  t5 := Tryz.underlying5
  a5 := Tryz.isAgg5
  z5 := Tryz.sizeOf5
  v5 := Tryz.zeroValue5
  t9 := Tryz.underlying9
  a9 := Tryz.isAgg9
  z9 := Tryz.sizeOf9
  v9 := Tryz.zeroValue9
  t28 := Tryz.underlying46
  a28 := Tryz.isAgg46
  z28 := Tryz.sizeOf46
  v28 := Tryz.zeroValue46
  t46 := Tryz.underlying210
  a46 := Tryz.isAgg210
  z46 := Tryz.sizeOf210
  v46 := Tryz.zeroValue210
  t51 := Tryz.underlying334
  a51 := Tryz.isAgg334
  z51 := Tryz.sizeOf334
  v51 := Tryz.zeroValue334
  t53 := Tryz.underlying127
  a53 := Tryz.isAgg127
  z53 := Tryz.sizeOf127
  v53 := Tryz.zeroValue127
  t131 := Tryz.underlying235
  a131 := Tryz.isAgg235
  z131 := Tryz.sizeOf235
  v131 := Tryz.zeroValue235
  t182 := Tryz.underlying327
  a182 := Tryz.isAgg327
  z182 := Tryz.sizeOf327
  v182 := Tryz.zeroValue327
  t183 := Tryz.underlying328
  a183 := Tryz.isAgg328
  z183 := Tryz.sizeOf328
  v183 := Tryz.zeroValue328
  t218 := Tryz.underlying382
  a218 := Tryz.isAgg382
  z218 := Tryz.sizeOf382
  v218 := Tryz.zeroValue382
  t222 := Tryz.underlying386
  a222 := Tryz.isAgg386
  z222 := Tryz.sizeOf386
  v222 := Tryz.zeroValue386
  t228 := Tryz.underlying405
  a228 := Tryz.isAgg405
  z228 := Tryz.sizeOf405
  v228 := Tryz.zeroValue405
  t229 := Tryz.underlying298
  a229 := Tryz.isAgg298
  z229 := Tryz.sizeOf298
  v229 := Tryz.zeroValue298 }
end Go.Proofs
namespace Go.SL
open Go.Sort Go.Proofs

section
variable {α : Type} [Inhabited α] {enc : α → List Value} {k : Nat}

theorem flatMap_length (hk : ∀ x, (enc x).length = k) : ∀ l : List α, (l.flatMap enc).length = l.length * k
  | [] => by simp
  | x :: l => by simp only [List.flatMap_cons, List.length_append, hk, flatMap_length hk l, List.length_cons, Nat.succ_mul]; omega

theorem flatMap_get (hk : ∀ x, (enc x).length = k) (k0 : 0 < k) : ∀ (l : List α) (t : Nat), (l.flatMap enc)[t]? = (l[t / k]?).bind fun x => (enc x)[t % k]?
  | [], t => by simp
  | x :: l, t => by
    rw [List.flatMap_cons]
    by_cases h : t < k
    · rw [List.getElem?_append_left (by rw [hk]; exact h), Nat.div_eq_of_lt h, Nat.mod_eq_of_lt h]
      simp
    · rw [List.getElem?_append_right (by rw [hk]; omega), hk, flatMap_get hk k0 l (t - k)]
      have e1 : t / k = (t - k) / k + 1 := Nat.div_eq_sub_div k0 (by omega)
      have e2 : t % k = (t - k) % k := Nat.mod_eq_sub_mod (by omega)
      rw [e1, e2]
      simp

theorem flatK_list (hk : ∀ x, (enc x).length = k) (k0 : 0 < k) (d : Array α) : flatK enc k d = (d.toList.flatMap enc).toArray := by
  apply Array.ext'
  apply List.ext_getElem?
  intro t
  show (flatK enc k d).toList[t]? = (d.toList.flatMap enc)[t]?
  rw [flatMap_get hk k0]
  by_cases h : t < d.size * k
  · have hd : t / k < d.size := (Nat.div_lt_iff_lt_mul k0).2 h
    have hm := Nat.mod_lt t k0
    have h2 := get_flatK enc k d t h
    rw [getElem!_pos _ t (by simpa using h)] at h2
    rw [Array.getElem?_toList, Array.getElem?_eq_getElem (by simpa using h), h2, getElem!_pos d _ hd, getElem!_pos _ _ (by rw [hk]; exact hm)]
    simp [hd, hk, hm]
  · have hd : d.size ≤ t / k := (Nat.le_div_iff_mul_le k0).2 (by omega)
    rw [List.getElem?_eq_none (by simp; omega), List.getElem?_eq_none (by simpa using hd)]
    rfl

theorem putCells_list (F cs spare : List Value) (h : F.length = cs.length) : putCells id 0 F.toArray (cs ++ spare).toArray = (F ++ spare).toArray := by
  apply Array.ext'
  apply List.ext_getElem?
  intro t
  simp only [putCells, Array.getElem?_toList, Array.getElem?_mapIdx, List.getElem?_toArray, Nat.zero_le, true_and, Nat.zero_add, Nat.sub_zero, List.size_toArray, id]
  by_cases ht : t < F.length
  · rw [List.getElem?_append_left (by omega), List.getElem?_append_left ht]
    have h2 : t < cs.length := by omega
    simp [h2, ht]
  · rw [List.getElem?_append_right (by omega), List.getElem?_append_right (by omega), h]
    have h2 : ¬ t < cs.length := by omega
    simp [ht, h2]

theorem sort_holds [Extra] (hk : ∀ x, (enc x).length = k) (k0 : 0 < k) {w : World} {b m E : Nat} {d' : Array α} {os : Array Obj} {cs spare : List Value} {l : List HProp} (H : Holds w (pts b (row E (cs ++ spare)) :: l)) (hl : cs.length = d'.size * k) :
    Holds (sortWorldK enc k w b 0 m d' os) (pts b (row E (d'.toList.flatMap enc ++ spare)) :: l) := by
  have hb := H.pts
  have hlt := H.fresh
  have e1 : (putRowK enc k (Sort.ahead w m) b 0 d').heap = w.heap.modify b (onCells (putCells id 0 (flatK enc k d'))) := rfl
  have H1 : Holds (putRowK enc k (Sort.ahead w m) b 0 d') (pts b (row E (d'.toList.flatMap enc ++ spare)) :: l) := by
    refine H.set ?_ ?_
    · rw [e1, Array.getElem?_modify, if_pos rfl, hb]
      simp only [Option.map_some, row, onCells]
      rw [flatK_list hk k0, putCells_list _ _ _ (by rw [flatMap_length hk, hl]; simp)]
    · intro c hc
      rw [e1, Array.getElem?_modify, if_neg (Ne.symm hc)]
  refine H1.up (fun c o hc => ?_) ⟨rfl, rfl⟩
  show ((putRowK enc k (Sort.ahead w m) b 0 d').heap ++ os)[c]? = some o
  have := (Array.getElem?_eq_some_iff.1 hc).1
  rw [Array.getElem?_append_left this]
  exact hc

open Go.Proofs Go.Shelf in
/-- slices.SortFunc of structs of k cells. -/
theorem sortFunc_spec [Extra] {P : Program} {ρ : Ren} (L : SlLaysF0.n6 P ρ) {t : TypeId} (ht : ρ.t 24 = t) (hN : TN P t k) (k0 : 0 < k) (hk : ∀ x, (enc x).length = k) (h1 : ∀ x, ∀ v ∈ enc x, v.oneCell' = true)
    (cf : α → α → Int) (hO : SWO (ltOf cf)) {g : Nat} (hg : TBody P g)
    (hc : ∀ (x y : α) (W : World), Calls P g #[.agg (enc x).toArray, .agg (enc y).toArray] W fun e w' => e = .returned (.int .i64 (cf x y)) ∧ ∃ q os', w' = grow (W.drewN q) os')
    {E : TypeId} {v : Value} {d : List α} {w : World} {l : List HProp} (H : Holds w (sls E k v (d.flatMap enc) :: l)) (hsz : d.length < 4611686018427387904) :
    Calls P (ρ.f 6) #[v, .func (.func g) #[] #[]] w (ret fun _ w' => ∃ d' : List α, d'.Perm d ∧ d'.Pairwise (fun a b => ltOf cf b a = false) ∧ Holds w' (sls E k v (d'.flatMap enc) :: l)) := by
  subst ht
  rcases sls_case H with ⟨rfl, h0, H'⟩ | ⟨b, len, cap, spare, rfl, e3, e4, e5, H'⟩
  · have hd : d = [] := by
      have := flatMap_length hk d
      rw [h0] at this
      have h2 : d.length * k = 0 := this.symm
      rcases Nat.mul_eq_zero.1 h2 with h | h
      · exact List.eq_nil_of_length_eq_zero h
      · omega
    subst hd
    refine (AnyF.slices_SortFunc_none L none 0 _ w).mono ?_
    rintro e w' ⟨rfl, rfl⟩
    exact ⟨[], List.Perm.refl _, List.Pairwise.nil, sls_nil H'⟩
  · have hb := H'.pts
    have hlen : len = d.length := by
      have := flatMap_length hk d
      rw [e3] at this
      exact Nat.eq_of_mul_eq_mul_right k0 this
    subst hlen
    have hH : HoldsK enc k w b 0 d.toArray := by
      intro j hj
      rw [size_flatK] at hj
      rw [flatK_list hk k0, Nat.zero_add]
      have hj' : j < (d.flatMap enc).length := by rw [e3]; simpa using hj
      refine ⟨?_, frozen_row hb⟩
      refine cell_row hb ?_
      rw [List.getElem?_append_left hj', List.getElem?_eq_getElem hj']
      show some _ = some ((d.flatMap enc).toArray[j]!)
      rw [getElem!_pos _ j (by simpa using hj')]
      simp
    have := AnyQ.slices_SortFunc L k (fun w => run_isAggN hN) (fun w => run_sizeOf' hN.size) enc hk h1 cf hO g #[] b 0 cap d.toArray w (fun args w => run_callFunc hg args) (fun m os dk hs x y => by simpa using hc x y _) hH H'.fresh (by simpa using hsz)
    rw [show d.toArray.size = d.length by simp] at this
    refine this.mono ?_
    rintro e w' ⟨rfl, d', n, os, hp, hs, rfl⟩
    have hsize : d'.size = d.length := by rw [hp.1]; simp
    have hx : ∀ a : Array α, a.size = d.length → a.extract 0 d.length = a := fun a ha => by rw [← ha]; simp
    refine ⟨d'.toList, ?_, ?_, ?_⟩
    · have h2 := hp.2.2
      rw [hx d' hsize, hx d.toArray (by simp)] at h2
      simpa using h2
    · rw [List.pairwise_iff_getElem]
      intro i j hi hj hij
      have := hs i j (Nat.zero_le _) hij (by simp at hj ⊢; omega)
      rw [getElem!_pos d' i (by simpa using hi), getElem!_pos d' j (by simpa using hj)] at this
      simpa using this
    · have hl : (d'.toList.flatMap enc).length = d.length * k := by rw [flatMap_length hk]; simp [hsize]
      exact sls_of hl e4 e5 (sort_holds hk k0 H' (by rw [e3, hsize]))
end
theorem Holds.grow [Extra] {w : World} {l : List HProp} {q : Nat} {os' : Array Obj} (H : Holds w l) : Holds (Go.Sort.grow (w.drewN q) os') l := by
  refine H.up (fun c o hc => ?_) ⟨rfl, rfl⟩
  show (w.heap ++ os')[c]? = some o
  have := (Array.getElem?_eq_some_iff.1 hc).1
  rw [Array.getElem?_append_left this]
  exact hc

end Go.SL
namespace Go.Proofs
open Go.Shelf
def Tryz.sortRef_ren : Go.Shelf.Ren := ⟨fun | 6 => 294 | 15 => 162 | 14 => 319 | 28 => 238 | 29 => 239 | 20 => 330 | 21 => 331 | 22 => 332 | 23 => 333 | 24 => 334 | 25 => 335 | 26 => 336 | 27 => 337 | 46 => 340 | 47 => 297 | 48 => 298 | 49 => 341 | 50 => 342 | 57 => 343 | n => n, fun | 22 => 143 | 24 => 166 | 25 => 323 | 3 => 3 | 39 => 210 | 0 => 0 | 53 => 334 | 55 => 127 | 4 => 4 | 46 => 328 | 45 => 327 | 50 => 235 | 5 => 5 | 9 => 9 | 66 => 382 | 70 => 386 | 76 => 405 | 77 => 298 | n => n, fun | n => n⟩
theorem Tryz.sortRef : Go.Proofs.SlLaysF0.n6 Tryz.prog Tryz.sortRef_ren := {
  mixed := by kernel_rfl
  f6 := ⟨Tryz.f294.name, by decide, Tryz.func294.trans (congrArg some (by kernel_rfl))⟩
  f14 := ⟨Tryz.f319.name, by decide, Tryz.func319.trans (congrArg some (by kernel_rfl))⟩
  f15 := Tryz.func162.trans (congrArg some (by kernel_rfl))
  f20 := ⟨Tryz.f330.name, by decide, Tryz.func330.trans (congrArg some (by kernel_rfl))⟩
  f21 := ⟨Tryz.f331.name, by decide, Tryz.func331.trans (congrArg some (by kernel_rfl))⟩
  f22 := ⟨Tryz.f332.name, by decide, Tryz.func332.trans (congrArg some (by kernel_rfl))⟩
  f23 := ⟨Tryz.f333.name, by decide, Tryz.func333.trans (congrArg some (by kernel_rfl))⟩
  f24 := ⟨Tryz.f334.name, by decide, Tryz.func334.trans (congrArg some (by kernel_rfl))⟩
  f25 := ⟨Tryz.f335.name, by decide, Tryz.func335.trans (congrArg some (by kernel_rfl))⟩
  f26 := ⟨Tryz.f336.name, by decide, Tryz.func336.trans (congrArg some (by kernel_rfl))⟩
  f27 := ⟨Tryz.f337.name, by decide, Tryz.func337.trans (congrArg some (by kernel_rfl))⟩
  f28 := Tryz.func238.trans (congrArg some (by kernel_rfl))
  f29 := Tryz.func239.trans (congrArg some (by kernel_rfl))
  f46 := ⟨Tryz.f340.name, by decide, Tryz.func340.trans (congrArg some (by kernel_rfl))⟩
  f47 := Tryz.func297.trans (congrArg some (by kernel_rfl))
  f48 := Tryz.func298.trans (congrArg some (by kernel_rfl))
  f49 := ⟨Tryz.f341.name, by decide, Tryz.func341.trans (congrArg some (by kernel_rfl))⟩
  f50 := ⟨Tryz.f342.name, by decide, Tryz.func342.trans (congrArg some (by kernel_rfl))⟩
  f57 := ⟨Tryz.f343.name, by decide, Tryz.func343.trans (congrArg some (by kernel_rfl))⟩
  t0 := Tryz.underlying0
  a0 := Tryz.isAgg0
  z0 := Tryz.sizeOf0
  v0 := Tryz.zeroValue0
  t3 := Tryz.underlying3
  a3 := Tryz.isAgg3
  z3 := Tryz.sizeOf3
  v3 := Tryz.zeroValue3
  t4 := Tryz.underlying4
  a4 := Tryz.isAgg4
  z4 := Tryz.sizeOf4
  v4 := Tryz.zeroValue4
  t5 := Tryz.underlying5
  a5 := Tryz.isAgg5
  z5 := Tryz.sizeOf5
  v5 := Tryz.zeroValue5
  t9 := Tryz.underlying9
  a9 := Tryz.isAgg9
  z9 := Tryz.sizeOf9
  v9 := Tryz.zeroValue9
  t22 := Tryz.underlying143
  a22 := Tryz.isAgg143
  z22 := Tryz.sizeOf143
  v22 := Tryz.zeroValue143
  t25 := Tryz.underlying323
  a25 := Tryz.isAgg323
  z25 := Tryz.sizeOf323
  v25 := Tryz.zeroValue323
  t39 := Tryz.underlying210
  a39 := Tryz.isAgg210
  z39 := Tryz.sizeOf210
  v39 := Tryz.zeroValue210
  t45 := Tryz.underlying327
  a45 := Tryz.isAgg327
  z45 := Tryz.sizeOf327
  v45 := Tryz.zeroValue327
  t46 := Tryz.underlying328
  a46 := Tryz.isAgg328
  z46 := Tryz.sizeOf328
  v46 := Tryz.zeroValue328
  t50 := Tryz.underlying235
  a50 := Tryz.isAgg235
  z50 := Tryz.sizeOf235
  v50 := Tryz.zeroValue235
  t53 := Tryz.underlying334
  a53 := Tryz.isAgg334
  z53 := Tryz.sizeOf334
  v53 := Tryz.zeroValue334
  t55 := Tryz.underlying127
  a55 := Tryz.isAgg127
  z55 := Tryz.sizeOf127
  v55 := Tryz.zeroValue127
  t66 := Tryz.underlying382
  a66 := Tryz.isAgg382
  z66 := Tryz.sizeOf382
  v66 := Tryz.zeroValue382
  t70 := Tryz.underlying386
  a70 := Tryz.isAgg386
  z70 := Tryz.sizeOf386
  v70 := Tryz.zeroValue386
  t76 := Tryz.underlying405
  a76 := Tryz.isAgg405
  z76 := Tryz.sizeOf405
  v76 := Tryz.zeroValue405
  t77 := Tryz.underlying298
  a77 := Tryz.isAgg298
  z77 := Tryz.sizeOf298
  v77 := Tryz.zeroValue298 }
end Go.Proofs
