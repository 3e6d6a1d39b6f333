/- Cells: what is proved on the way: every input of the statement; no condition. Texts joined: OpnA. -/
import Derived.Test.YtcaaojbnjfdglaaGreatDoorCdr
import Derived.Laws.IdiomArrays
set_option linter.unusedVariables false
set_option linter.unusedSimpArgs false
set_option linter.constructorNameAsVariable false
set_option maxRecDepth 100000
namespace Go.Proofs.YtcaaojbnjfdglaaGreatDoor
open Go.SL Go.ChangeShapes Go.WideShapes Go.ChangeAt Go.RowKit Go.Deep
section
variable {H : Type} {enc : TypeId × Value → H} {W : World} {n : Nat} {sp : Nat → Bool} {held : Bool} {base : Nat}

theorem okWide_arr {P : Program} {w : World} {r : Reach} {b0 m e t : Nat} {v : Value} (ht : P.underlying t = some (.array m e)) (h : Value.okWide P w r b0 t v) : ∃ cs, v = .agg cs ∧ cs.size = P.cellsOf t := by
  simp only [Value.okWide, ht] at h
  obtain ⟨cs, h1, h2, _⟩ := h
  exact ⟨cs, h1, h2⟩
theorem open_arr3 {v : Value} {d : DataW H} {ps : List MemPlace} {r : Reach} {b0 : Nat} (hv : Value.okWide Tryz.prog W r b0 77 v) (h : DataW.Trod enc Tryz.prog W 0 (fun _ => true) true 77 v d ps) : ∃ z1 z2 z3 : Int, v = .agg #[.int .i64 z1, .int .i64 z2, .int .i64 z3] := by
  obtain ⟨cs, rfl, hsz⟩ := okWide_arr Tryz.underlying77 hv
  obtain ⟨fuel, hf⟩ := h
  have hf : DataW.trod enc Tryz.prog W 0 (fun _ => true) true fuel 77 cs.toList = _ := hf
  have hl : cs.toList.length = 3 := by rw [Array.length_toList, hsz]; kernel_rfl
  obtain ⟨c0, t0, e0, g0⟩ := cons_of_len hl
  obtain ⟨c1, t1, rfl, g1⟩ := cons_of_len g0
  obtain ⟨c2, t2, rfl, g2⟩ := cons_of_len g1
  obtain rfl := List.length_eq_zero_iff.1 g2
  rw [e0] at hf
  obtain ⟨y0, y1, y2, m, _, h0, h1, h2⟩ := trod_array3 Tryz.underlying77 (by kernel_rfl) hf
  obtain ⟨z0, a0, _⟩ := DataW.trod_int Tryz.underlying3 h0
  obtain ⟨z1, a1, _⟩ := DataW.trod_int Tryz.underlying3 h1
  obtain ⟨z2, a2, _⟩ := DataW.trod_int Tryz.underlying3 h2
  simp only [List.cons.injEq, and_true] at a0 a1 a2
  refine ⟨z0, z1, z2, ?_⟩
  rw [← Array.toArray_toList (xs := cs), e0, a0, a1, a2]
end
end Go.Proofs.YtcaaojbnjfdglaaGreatDoor
