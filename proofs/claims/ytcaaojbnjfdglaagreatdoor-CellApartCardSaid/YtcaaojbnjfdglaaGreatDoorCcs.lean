/- Cells: what is proved on the way: every input of the statement; no condition. Texts joined: OpnA. -/
import Derived.Test.YtcaaojbnjfdglaaGreatDoorCcr
import Derived.Laws.IdiomArrays
set_option linter.unusedVariables false
set_option linter.unusedSimpArgs false
set_option linter.constructorNameAsVariable false
set_option maxRecDepth 100000
namespace Go.Proofs.YtcaaojbnjfdglaaGreatDoor
open Go.SL Go.ChangeShapes Go.WideShapes Go.ChangeAt Go.RowKit Go.Deep
section
variable {H : Type} {enc : TypeId × Value → H} {W : World} {n : Nat} {sp : Nat → Bool} {held : Bool} {base : Nat}

theorem place_cells {cs : List Value} {x : DataW H × List MemPlace} (h : DataW.trod enc Tryz.prog W base sp held n 72 cs = some x) : ∃ (z1 z2 : Int) (X : Nat), cs = [.int .i64 z1, .int .i64 z2, .int .u64 X] ∧ X < 18446744073709551616 := by
  obtain ⟨xs, k, rfl, hx, hl, hlen, hf⟩ := DataW.trod_struct Tryz.underlying72 h
  have hl2 : cs.length = 3 := hl.trans (by kernel_rfl)
  obtain ⟨c0, ct0, rfl, g0⟩ := cons_of_len hl2
  obtain ⟨c1, ct1, rfl, g1⟩ := cons_of_len g0
  obtain ⟨c2, ct2, rfl, g2⟩ := cons_of_len g1
  obtain rfl := List.length_eq_zero_iff.1 g2
  obtain ⟨y0, yt0, rfl, k0⟩ := cons_of_len hlen
  obtain ⟨y1, yt1, rfl, k1⟩ := cons_of_len k0
  obtain ⟨y2, yt2, rfl, k2⟩ := cons_of_len k1
  have h0 := hf 0 _ rfl
  have h1 := hf 1 _ rfl
  have h2 := hf 2 _ rfl
  obtain ⟨z0, e0, _⟩ := DataW.trod_int Tryz.underlying3 h0
  obtain ⟨z1, e1, _⟩ := DataW.trod_int Tryz.underlying3 h1
  obtain ⟨z2, e2, _, w2⟩ := DataW.trod_int Tryz.underlying29 h2
  obtain ⟨X, rfl, hX⟩ := wfU w2
  refine ⟨z0, z1, X, ?_, hX⟩
  have e0 : [c0] = [.int .i64 z0] := e0
  have e1 : [c1] = [.int .i64 z1] := e1
  have e2 : [c2] = [.int .u64 X] := e2
  simp only [List.cons.injEq, and_true] at e0 e1 e2
  rw [e0, e1, e2]
theorem open_place {v : Value} {d : DataW H} {ps : List MemPlace} {r : Reach} {b0 : Nat} (hv : Value.okWide Tryz.prog W r b0 72 v) (h : DataW.Trod enc Tryz.prog W 0 (fun _ => true) true 72 v d ps) : ∃ (z1 z2 : Int) (X : Nat), v = .agg #[.int .i64 z1, .int .i64 z2, .int .u64 X] ∧ X < 18446744073709551616 := by
  obtain ⟨cs, rfl, hsz⟩ := okWide_struct Tryz.underlying72 hv
  obtain ⟨fuel, hf⟩ := h
  obtain ⟨z1, z2, X, hx, hX⟩ := place_cells hf
  refine ⟨z1, z2, X, ?_, hX⟩
  have : cs.toList = [.int .i64 z1, .int .i64 z2, .int .u64 X] := hx
  rw [← Array.toArray_toList (xs := cs), this]

end
end Go.Proofs.YtcaaojbnjfdglaaGreatDoor
