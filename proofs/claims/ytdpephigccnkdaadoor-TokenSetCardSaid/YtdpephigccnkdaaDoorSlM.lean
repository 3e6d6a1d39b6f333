/- Slices that are only read, parts of slices, clear, for the walk. No condition. -/
import Derived.Test.YtdpephigccnkdaaDoorSlL
set_option linter.unusedVariables false
set_option linter.unusedSimpArgs false
set_option linter.unusedSectionVars false
namespace Go.SL

theorem Reads.of_get {c : List Value} : ∀ {vs : List Value} {o : Nat}, (∀ j v, vs[j]? = some v → c[o + j]? = some v) → Reads c o vs.length vs
  | [], o, _ => .nil o
  | v :: vs, o, h => .cons (by simpa using h 0 v rfl) (Reads.of_get fun j u hj => by
    have := h (j + 1) u (by simpa using hj)
    rw [show o + 1 + j = o + (j + 1) by omega]
    exact this)
theorem Reads.part {c cs es : List Value} {o n i : Nat} (h : Reads c o n cs) (he : ∀ j v, es[j]? = some v → cs[i + j]? = some v) : Reads c (o + i) es.length es :=
  Reads.of_get fun j v hj => by
    have := h.get (i + j) v (he j v hj)
    rw [Nat.add_assoc]
    exact this

theorem wr_eq : ∀ (vs : List Value) (c : List Value) (o : Nat), o + vs.length ≤ c.length → wr c o vs = c.take o ++ vs ++ c.drop (o + vs.length)
  | [], c, o, h => by simp [wr]
  | v :: vs, c, o, h => by
    rw [List.length_cons] at h
    have ih := wr_eq vs (c.set o v) (o + 1) (by simp; omega)
    show wr (c.set o v) (o + 1) vs = _
    rw [ih]
    have h1 : (c.set o v).take (o + 1) = c.take o ++ [v] := by
      rw [List.take_add_one, List.take_set_of_le (Nat.le_refl _)]
      simp [List.getElem?_set, show o < c.length by omega]
    have h2 : (c.set o v).drop (o + 1 + vs.length) = c.drop (o + (v :: vs).length) := by
      rw [List.drop_set_of_lt (by omega)]
      simp [Nat.add_assoc, Nat.add_comm, Nat.add_left_comm]
    rw [h1, h2]
    simp

/-- A slice that can be read: of m elements of k cells each, these. -/
def RdS (l : List HProp) (v : Value) (m k : Nat) (cs : List Value) : Prop :=
  cs.length = m * k ∧ ∃ ad cap, v = .slice ad m cap ∧ (m = 0 ∨ ∃ b o E fz c, ad = some ⟨b, o, none⟩ ∧ At b (.cells (List.toArray c) E fz) l ∧ Reads c o (m * k) cs)

theorem RdS.there {A : HProp} {l : List HProp} {v : Value} {m k : Nat} {cs : List Value} (h : RdS l v m k cs) : RdS (A :: l) v m k cs := by
  obtain ⟨h0, ad, cap, rfl, h⟩ := h
  refine ⟨h0, ad, cap, rfl, ?_⟩
  rcases h with h | ⟨b, o, E, fz, c, h1, h2, h3⟩
  · exact .inl h
  · exact .inr ⟨b, o, E, fz, c, h1, At.there (i := h2), h3⟩

section
variable {P : Program} {n : Nat} {r : Option Nat} {ops : Array Oper} {Q : Post} {ms : List Nat} {σ : Env} {w : World} {rest : List Oper} {o : Oper} {K : Env → World → Prop} {l l' : List HProp}
variable {u t s : TypeId} {p : String} {af : Array Edge} {g : Option (Nat × Bool)} {d : Option Tmp} {x y z : Operand}

theorem sls_rd [Extra] {E k m : Nat} {v : Value} {cs : List Value} (H : Holds w (sls E k v cs :: l)) (hm : cs.length = m * k) (k0 : 0 < k) :
    ∃ D, Holds w (D :: l) ∧ (∀ l', RdS (D :: l') v m k cs) ∧ ∀ w' l', Holds w' (D :: l') → Holds w' (sls E k v cs :: l') := by
  rcases sls_case H with ⟨rfl, rfl, H'⟩ | ⟨b, len, cap, spare, rfl, e3, e4, e5, H'⟩
  · have m0 : m = 0 := by
      rcases Nat.mul_eq_zero.1 (show m * k = 0 from hm.symm) with h | h
      · exact h
      · omega
    subst m0
    exact ⟨_, H, fun l' => ⟨hm, none, 0, rfl, .inl rfl⟩, fun _ _ h => h⟩
  · have e : len = m := Nat.eq_of_mul_eq_mul_right k0 (e3.symm.trans hm)
    subst e
    refine ⟨_, H', fun l' => ⟨hm, _, cap, rfl, .inr ⟨b, 0, E, (0, 0), cs ++ spare, rfl, At.here, ?_⟩⟩, fun w' l' h => sls_of e3 e4 e5 h⟩
    rw [← hm]
    refine Reads.of_get fun j v hj => ?_
    rw [Nat.zero_add, List.getElem?_append_left (List.getElem?_eq_some_iff.1 hj).1]
    exact hj

/-! ### append of such a slice; '[]T{}' -/

theorem run_append0 {e size bytes len cap c2 : Nat} {a a2 : Option Addr} (hT : TSlice P t e size bytes) (ty : TypeId) (h : len ≤ cap) : (Builtin.append_ #[t, t] ty #[.slice a len cap, .slice a2 0 c2]).run P w = .ok (.slice a len cap) w := by
  obtain ⟨i, hi, e2⟩ := Option.map_eq_some_iff.1 hT.info
  simp only [Prod.mk.injEq] at e2
  have hs : (sizeOf e).run P w = .ok size w := run_sizeOf' (by rw [hi]; simp [e2.1])
  have hf : (Builtin.firstCells size 0 (.slice a2 0 c2)).run P w = .ok #[] w := by
    cases a2 with
    | none => rfl
    | some a2 =>
      have := run_loadCells_list (P := P) (w := w) a2 [] (by simp)
      simpa [Builtin.firstCells] using this
  have hst : ∀ a', (storeCells a' []).run P w = .ok () w := fun a' => by rw [storeCells.eq_def]; rfl
  cases a with
  | none => simp [Builtin.append_, run_und hT.und, hs, Builtin.lenOf, h, hf]
  | some a => simp [Builtin.append_, run_und hT.und, hs, Builtin.lenOf, h, hf, hst]

theorem St_appendS [Extra] {e size bytes : Nat} {zv v2 : Value} [hT : TSlice P t e size bytes] [hz : TZero P e zv] {s : Value} {cs new : List Value} {m : Nat} (H : Holds w (sls e size s cs :: l))
    (hx : ev σ x = s) (hy : ev σ y = v2) (hr : RdS l v2 m size new) (h1 : new.all (·.oneCell') = true)
    (hb : (cs.length + new.length) * bytes ≤ 140737488355328) (hd : okd n d = true) (hq : (decide ((cellsL zv).length = size) && decide (0 < size) && decide (0 < bytes)) = true)
    (k : ∀ v' w', Holds w' (sls e size v' (cs ++ new) :: l) → K (put σ d v') w') : St P n r ⟨d, .call { callee := .builtin .append, args := #[x, y], argTypes := #[t, t] }, u, p, af, g⟩ σ w K := by
  obtain ⟨h0, ad, cap, rfl, h⟩ := hr
  rcases Nat.eq_zero_or_pos m with rfl | hm
  · have hn : new = [] := List.eq_nil_of_length_eq_zero (by omega)
    subst hn
    have H2 := H
    rw [← List.append_nil cs] at H
    rcases sls_case H2 with ⟨rfl, _, _⟩ | ⟨b, len, cap', spare, rfl, _, e4, _, _⟩
    · refine St_value (v := .slice none 0 0) (w' := w) hd (fun c e => by cases e) ?_ (k _ _ H)
      simp [execOp, resolve, invoke, builtin, hx, hy, run_append0 (w := w) hT u (Nat.le_refl 0)]
    · refine St_value (v := .slice (some ⟨b, 0, none⟩) len cap') (w' := w) hd (fun c e => by cases e) ?_ (k _ _ H)
      simp [execOp, resolve, invoke, builtin, hx, hy, run_append0 (w := w) hT u e4]
  · rcases h with rfl | ⟨b, o2, E, fz, c, rfl, hA, hrd⟩
    · omega
    · haveI := hA
      exact St_append H hx hy hrd h1 hm hb hd hq k

theorem St_buildSlice0 [Extra] {e size bytes : Nat} (H : Holds w l) [hT : TSlice P t e size bytes] (hd : okd n d = true)
    (k : ∀ b w', Holds w' (sls e size (.slice (some ⟨b, 0, none⟩) 0 0) [] :: l) → K (put σ d (.slice (some ⟨b, 0, none⟩) 0 0)) w') : St P n r ⟨d, .buildSlice t 0 #[], u, p, af, g⟩ σ w K := by
  obtain ⟨i, hi, e2⟩ := Option.map_eq_some_iff.1 hT.info
  simp only [Prod.mk.injEq] at e2
  have hs : (sizeOf e).run P w = .ok size w := run_sizeOf' (by rw [hi]; simp [e2.1])
  have hn := H.new (row e [])
  refine St_value (v := .slice (some ⟨w.heap.size, 0, none⟩) 0 0) (w' := w.alloc (.cells #[] e)) hd (fun c e => by cases e) ?_ (k _ _ (sls_lit (by simp) hn))
  have e0 : (Array.range 0).map (fun _ : Nat => (default : Value)) = #[] := by apply Array.ext <;> simp
  simp [execOp, Instr.buildSlice, run_und hT.und, hs, Instr.fill, newRow, e0]

/-! ### Parts of a slice; clear -/

/-- 'x[i:]'. -/
theorem St_sliceFrom {e size bytes b o2 len cap : Nat} {q : IntKind} {i : Int} [hT : TSlice P t e size bytes] (hx : ev σ x = .slice (some ⟨b, o2, none⟩) len cap) (hy : ev σ y = .int q i) (h0 : 0 ≤ i) (h1 : i ≤ len) (h2 : i < cap) (hd : okd n d = true)
    (k : K (put σ d (.slice (some ⟨b, o2 + i.toNat * size, none⟩) (len - i.toNat) (cap - i.toNat))) w) : St P n r ⟨d, .slice t x (some y) none none, u, p, af, g⟩ σ w K := by
  have hs : (sizeOf e).run P w = .ok size w := by
    obtain ⟨k, hk, e2⟩ := Option.map_eq_some_iff.1 hT.info
    simp only [Prod.mk.injEq] at e2
    exact run_sizeOf' (by rw [hk]; simp [e2.1])
  have hne : cap ≠ i.toNat := by omega
  refine St_value (v := .slice (some ⟨b, o2 + i.toNat * size, none⟩) (len - i.toNat) (cap - i.toNat)) (w' := w) hd (fun c e => by cases e) ?_ k
  simp [execOp, hx, hy, Instr.sliceAt, Instr.slice, run_und hT.und, Instr.sliceBounds, Instr.sliceBound, asIntOf, h0, h1, hs, add_lit', hne]

theorem zeroCells_eq (z : Value) (k : Nat) : (Builtin.zeroCells z.cells k).toList = zeros (cellsL z) k := by
  have := zeros_range (cellsL z) k
  unfold Builtin.zeroCells
  rw [cells_eq]
  have e : (cellsL z).toArray.size = (cellsL z).length := by simp
  rw [e]
  rw [show (cellsL z).length = (cellsL z).toArray.size by simp] at this
  rw [e] at this
  rw [this]

theorem St_clear [Extra] {e size bytes b o2 m cap E : Nat} {zv : Value} {c : List Value} [hT : TSlice P t e size bytes] [hz : TZero P e zv] (H : Holds w (pts b (row E c) :: l)) (hx : ev σ x = .slice (some ⟨b, o2, none⟩) m cap) (hm : 0 < m)
    (hl : o2 + (zeros (cellsL zv) m).length ≤ c.length) (h1 : (cellsL zv).all (·.oneCell') = true) (hd : okd n d = true)
    (k : ∀ w', Holds w' (pts b (row E (wr c o2 (zeros (cellsL zv) m))) :: l) → K (put σ d (.tuple #[])) w') : St P n r ⟨d, .call { callee := .builtin .clear, args := #[x], argTypes := #[t] }, u, p, af, g⟩ σ w K := by
  obtain ⟨i', hi', hz'⟩ := Option.map_eq_some_iff.1 hz.zero
  have hzv : (zeroValue e).run P w = .ok zv w := by simp [zeroValue, typeInfo, hi', hz']
  have hone : ∀ v ∈ zeros (cellsL zv) m, v.oneCell' = true := by
    have : ∀ m, ∀ v ∈ zeros (cellsL zv) m, v.oneCell' = true := by
      intro m
      induction m with
      | zero => intro v hv; simp [zeros] at hv
      | succ m ih =>
        intro v hv
        simp only [zeros, List.mem_append] at hv
        rcases hv with hv | hv
        · exact List.all_eq_true.1 h1 v hv
        · exact ih v hv
    exact this m
  obtain ⟨w', hr, h2, h3, h4⟩ := run_storeCells_row (P := P) (zeros (cellsL zv) m) w b o2 E c 0 H.pts (by omega) hone
  have H' := H.set (o' := row E (wr c (o2 + 0) (zeros (cellsL zv) m))) h2 h3 h4
  refine St_value (v := .tuple #[]) (w' := w') hd (fun c e => by cases e) ?_ (k w' H')
  obtain ⟨m', rfl⟩ : ∃ m', m = m' + 1 := ⟨m - 1, by omega⟩
  simp [execOp, resolve, invoke, builtin, hx, Builtin.clear_, run_und hT.und, hzv, zeroCells_eq, hr]
end
end Go.SL
