/- Cells: what is proved on the way: every input of the statement; no condition. Texts joined: OpnY. -/
import Derived.Test.YtipelpbkeiphmaaGreatDoorBap
import Derived.Test.YtipelpbkeiphmaaGreatDoorBaf
import Derived.Test.YtipelpbkeiphmaaGreatDoorRows
import Derived.Lib.SmallJoins
import Derived.Lib.LaidIn
import Derived.Stop.LaidErr
import Derived.Stop.Joined
import Derived.ChangeMaps5
import Derived.ChangeSlices
set_option linter.unusedVariables false
set_option linter.unusedSimpArgs false
set_option linter.constructorNameAsVariable false
set_option maxRecDepth 100000
namespace Go.Proofs.YtipelpbkeiphmaaGreatDoor
open Go.SL Go.ChangeShapes Go.WideShapes Go.ChangeAt Go.RowKit Go.Deep

section
variable {H : Type} {enc : TypeId × Value → H} {W : World} {n : Nat} {sp : Nat → Bool} {held : Bool} {base : Nat}
theorem cons_of_len {α : Type} {l : List α} {n : Nat} (h : l.length = n + 1) : ∃ a t, l = a :: t ∧ t.length = n := by
  cases l with
  | nil => cases h
  | cons a t => exact ⟨a, t, rfl, by simpa using h⟩
theorem size_cells {cs : List Value} {x : DataW H × List MemPlace} (h : DataW.trod enc Tryz.prog W base sp held n 44 cs = some x) : ∃ z1 z2 z3 : Int, cs = [.int .i64 z1, .int .i64 z2, .int .i64 z3] := by
  obtain ⟨xs, k, rfl, hx, hl, hlen, hf⟩ := DataW.trod_struct Tryz.underlying44 h
  have hl2 : cs.length = 3 := hl.trans (by kernel_rfl)
  obtain ⟨c0, ct0, rfl, g0⟩ := cons_of_len hl2
  obtain ⟨c1, ct1, rfl, g1⟩ := cons_of_len g0
  obtain ⟨c2, ct2, rfl, g2⟩ := cons_of_len g1
  obtain rfl := List.length_eq_zero_iff.1 g2
  obtain ⟨y0, yt0, rfl, k0⟩ := cons_of_len hlen
  obtain ⟨y1, yt1, rfl, k1⟩ := cons_of_len k0
  obtain ⟨y2, yt2, rfl, k2⟩ := cons_of_len k1
  have h0 := hf 0 _ rfl
  have h1 := hf 1 _ rfl
  have h2 := hf 2 _ rfl
  obtain ⟨z0, e0, _⟩ := DataW.trod_int Tryz.underlying3 h0
  obtain ⟨z1, e1, _⟩ := DataW.trod_int Tryz.underlying3 h1
  obtain ⟨z2, e2, _⟩ := DataW.trod_int Tryz.underlying3 h2
  refine ⟨z0, z1, z2, ?_⟩
  have e0 : [c0] = [.int .i64 z0] := e0
  have e1 : [c1] = [.int .i64 z1] := e1
  have e2 : [c2] = [.int .i64 z2] := e2
  simp only [List.cons.injEq, and_true] at e0 e1 e2
  rw [e0, e1, e2]
theorem open_size {v : Value} {d : DataW H} {ps : List MemPlace} {r : Reach} {b0 : Nat} (hv : Value.okWide Tryz.prog W r b0 44 v) (h : DataW.Trod enc Tryz.prog W 0 (fun _ => true) true 44 v d ps) : ∃ z1 z2 z3 : Int, v = .agg #[.int .i64 z1, .int .i64 z2, .int .i64 z3] := by
  obtain ⟨cs, rfl, hsz⟩ := okWide_struct Tryz.underlying44 hv
  obtain ⟨fuel, hf⟩ := h
  obtain ⟨z1, z2, z3, hx⟩ := size_cells hf
  refine ⟨z1, z2, z3, ?_⟩
  have : cs.toList = [.int .i64 z1, .int .i64 z2, .int .i64 z3] := hx
  rw [← Array.toArray_toList (xs := cs), this]
/-- A slice that was handed in. -/
theorem open_slcT {v : Value} {d : DataW H} {ps : List MemPlace} {r : Reach} {b0 : Nat} (hv : Value.okWide Tryz.prog W r b0 45 v) (h : DataW.Trod enc Tryz.prog W 0 (fun _ => true) true 45 v d ps) :
    ∃ (ad : Option Addr) (len cap : Nat), v = .slice ad len cap ∧ len ≤ cap := by
  obtain ⟨a, len, cap, rfl⟩ := okWide_slice Tryz.underlying45 hv
  obtain ⟨fuel, hf⟩ := h
  rcases open_slice Tryz.underlying45 hf with ⟨h1, _⟩ | ⟨a', len', cap', m, n, D, Pl, h1, hb, hl, hm, hmm, hx, hel⟩
  · have h1 : [Value.slice a len cap] = [.slice none 0 0] := h1
    simp at h1
    obtain ⟨rfl, rfl, rfl⟩ := h1
    exact ⟨none, 0, 0, rfl, Nat.le_refl _⟩
  · have h1 : [Value.slice a len cap] = [.slice (some a') len' cap'] := h1
    simp at h1
    obtain ⟨rfl, rfl, rfl⟩ := h1
    exact ⟨_, _, _, rfl, by omega⟩
end

/-! ### The table -/

theorem own0 : ownKnob Tryz.prog.godebug = none := by kernel_rfl
theorem laidOut0 : laidOutB Tryz.prog = true := by kernel_rfl
theorem tab_of_laid {W : World} (h : laidMetH Tryz.prog Rows.joinNoneRow.laid W) : TabIs 0 Lib.deBruijn64tab W ∧ 0 < W.heap.size := by
  have h' : laidMet Tryz.prog [("math/bits.deBruijn64tab", Lib.tabData .u8 (Lib.deBruijn64tab.map fun n : Nat => (n : Int)))] W := h
  have ht := Lib.tabIs_of_head (P := Tryz.prog) (g := 0) (t := 402) (n := 64) (by kernel_rfl) (by kernel_rfl) Tryz.underlying402 (by kernel_rfl) (by kernel_rfl) (by kernel_rfl) h'
  have hc : TabIs 0 Lib.deBruijn64tab W := by
    intro j hj
    have := ht.cell (g := 0) (by kernel_rfl) j (by simpa using hj)
    rw [this]
    congr 2
    rw [List.getD_eq_getElem?_getD, List.getD_eq_getElem?_getD, List.getElem?_map]
    cases Lib.deBruijn64tab[j]? <;> rfl
  refine ⟨hc, ?_⟩
  have h0 := hc 0 (by decide)
  unfold World.cell? at h0
  refine Nat.pos_of_ne_zero fun hz => ?_
  rw [Array.getElem?_eq_none (by omega)] at h0
  cases h0

def litCells : DataW Unit → List Value
  | .agg l => l.map fun
    | .lit (.int k z) => Value.int k z
    | _ => .nilFunc
  | _ => []
def setG (w : World) (g : Nat) (d : DataW Unit) : World := { w with heap := w.heap.modify g fun
    | .cells _ t frozen => .cells (litCells d).toArray t frozen
    | o => o }
/-- A world in which the table is as it is laid. -/
noncomputable def laidWorld (os : Os) : World := setG (World.holding Tryz.prog os ⟨#[], #[], []⟩) 0 Rows.laid_math_bits_deBruijn64tab
theorem laidWorld_met (os : Os) (args : Array Value) : laidMetH Tryz.prog Rows.joinNoneRow.laid ((laidWorld os).forCall (fun _ _ => 0) ⟨#[], args, []⟩).memory := by
  show laidMet Tryz.prog Rows.joinNoneRow.laid _
  exact (LaidIn.of_run [0] 8 (by kernel_rfl) (by kernel_rfl) (by kernel_rfl) (by kernel_rfl)).met
end Go.Proofs.YtipelpbkeiphmaaGreatDoor
