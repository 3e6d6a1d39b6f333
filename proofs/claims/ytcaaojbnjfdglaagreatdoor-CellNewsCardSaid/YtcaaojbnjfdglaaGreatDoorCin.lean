/- Cells: what is proved on the way: every input of the statement; no condition. Texts joined: LawO. -/
import Derived.Test.YtcaaojbnjfdglaaGreatDoorCim
import Derived.Test.YtcaaojbnjfdglaaGreatDoorCie
import Derived.Test.YtcaaojbnjfdglaaGreatDoorRows
import Derived.Lib.SmallJoins
import Derived.Lib.LaidIn
import Derived.Stop.LaidErr
import Derived.Stop.Joined
import Derived.ChangeMaps5
import Derived.ChangeSlices
set_option linter.unusedVariables false
set_option linter.unusedSimpArgs false
set_option linter.constructorNameAsVariable false
set_option maxRecDepth 100000
namespace Go.Proofs.YtcaaojbnjfdglaaGreatDoor
open Go.SL Go.ChangeShapes Go.WideShapes Go.ChangeAt Go.RowKit Go.Deep

section
variable {H : Type} {enc : TypeId × Value → H} {W : World} {n : Nat} {sp : Nat → Bool} {held : Bool} {base : Nat}

theorem wfU {z : Int} (h : (Lit.int .u64 z).wf = true) : ∃ k : Nat, z = k ∧ k < 18446744073709551616 := by
  have h' : (decide (IntKind.u64.min ≤ z) && decide (z ≤ IntKind.u64.max)) = true := h
  rw [Bool.and_eq_true, decide_eq_true_eq, decide_eq_true_eq] at h'
  have h1 : (0 : Int) ≤ z := h'.1
  have h2 : z ≤ 18446744073709551615 := h'.2
  exact ⟨z.toNat, by omega, by omega⟩

theorem open_words {v : Value} {x : DataW H × List MemPlace} (h : DataW.trod enc Tryz.prog W base sp held n 30 [v] = some x) :
    ∃ (ad : Option Addr) (cap : Nat) (ws : List Nat), v = .slice ad ws.length cap ∧ (∀ z ∈ ws, z < 18446744073709551616) ∧ (ws = [] ∨ ∃ b o E fz c, ad = some ⟨b, o, none⟩ ∧ W.heap[b]? = some (.cells (List.toArray c) E fz) ∧ Reads c o (ws.length * 1) (ucells ws)) := by
  rcases open_ints Tryz.underlying30 Tryz.underlying29 (by kernel_rfl) h with ⟨h1, _⟩ | ⟨a, len, cap, zs, h1, _, hl, _, hlen, _, hc, hw⟩
  · injection h1 with h1 _
    exact ⟨none, 0, [], h1, by simp, .inl rfl⟩
  · injection h1 with h1 _
    have hle : len ≤ zs.length := by rw [hlen]; split <;> omega
    refine ⟨some a, cap, (zs.take len).map Int.toNat, ?_, ?_, ?_⟩
    · rw [h1]; congr 1; simp; omega
    · intro z hz
      obtain ⟨y, hy, rfl⟩ := List.mem_map.1 hz
      obtain ⟨k, rfl, hk⟩ := wfU (hw y (List.mem_of_mem_take hy))
      exact hk
    · rcases Nat.eq_zero_or_pos len with rfl | hpos
      · left; simp
      · right
        have h00 := hc 0 (by omega)
        obtain ⟨b, o, s⟩ := a
        have hs : s = none ∧ ∃ c E fz, W.heap[b]? = some (.cells c E fz) := by
          unfold World.cell? Addr.add at h00
          simp only [Nat.add_zero, if_true] at h00
          split at h00
          · rename_i c E fz hh
            refine ⟨?_, c, E, fz, hh⟩
            cases s with
            | none => rfl
            | some s => simp at h00
          · cases h00
        obtain ⟨rfl, c, E, fz, hh⟩ := hs
        refine ⟨b, o, E, fz, c.toList, rfl, by simpa using hh, ?_⟩
        have hul : (ucells ((zs.take len).map Int.toNat)).length = ((zs.take len).map Int.toNat).length * 1 := ucells_length _
        rw [← hul]
        refine Reads.of_get fun j v hj => ?_
        have hjl : j < len := by
          have := (List.getElem?_eq_some_iff.1 hj).1
          rw [hul] at this
          simp at this
          omega
        have h2 := hc j (by omega)
        rw [add_lit'] at h2
        unfold World.cell? at h2
        simp only [hh] at h2
        have hz := List.getElem?_eq_getElem (l := zs) (i := j) (by omega)
        obtain ⟨k, hk, _⟩ := wfU (hw zs[j] (List.getElem_mem _))
        have hv : v = .int .u64 (zs.getD j 0) := by
          unfold ucells at hj
          rw [List.getElem?_map, List.getElem?_map, List.getElem?_take_of_lt hjl, hz] at hj
          simp only [Option.map_some] at hj
          injection hj with hj
          rw [← hj, List.getD_eq_getElem?_getD, hz]
          show Value.int .u64 ((zs[j].toNat : Nat) : Int) = .int .u64 zs[j]
          rw [hk]
          rfl
        rw [hv]
        simpa using h2

theorem cons_of_len {α : Type} {l : List α} {n : Nat} (h : l.length = n + 1) : ∃ a t, l = a :: t ∧ t.length = n := by
  cases l with
  | nil => cases h
  | cons a t => exact ⟨a, t, rfl, by simpa using h⟩
instance : Inhabited Ac := ⟨⟨0, 0, 0, 0, 0, .slice none 0 0, [], false, 0, 0⟩⟩
theorem size_cells {cs : List Value} {x : DataW H × List MemPlace} (h : DataW.trod enc Tryz.prog W base sp held n 23 cs = some x) : ∃ z1 z2 z3 : Int, cs = [.int .i64 z1, .int .i64 z2, .int .i64 z3] := by
  obtain ⟨xs, k, rfl, hx, hl, hlen, hf⟩ := DataW.trod_struct Tryz.underlying23 h
  have hl2 : cs.length = 3 := hl.trans (by kernel_rfl)
  obtain ⟨c0, ct0, rfl, g0⟩ := cons_of_len hl2
  obtain ⟨c1, ct1, rfl, g1⟩ := cons_of_len g0
  obtain ⟨c2, ct2, rfl, g2⟩ := cons_of_len g1
  obtain rfl := List.length_eq_zero_iff.1 g2
  obtain ⟨y0, yt0, rfl, k0⟩ := cons_of_len hlen
  obtain ⟨y1, yt1, rfl, k1⟩ := cons_of_len k0
  obtain ⟨y2, yt2, rfl, k2⟩ := cons_of_len k1
  have h0 := hf 0 _ rfl
  have h1 := hf 1 _ rfl
  have h2 := hf 2 _ rfl
  obtain ⟨z0, e0, _⟩ := DataW.trod_int Tryz.underlying3 h0
  obtain ⟨z1, e1, _⟩ := DataW.trod_int Tryz.underlying3 h1
  obtain ⟨z2, e2, _⟩ := DataW.trod_int Tryz.underlying3 h2
  refine ⟨z0, z1, z2, ?_⟩
  have e0 : [c0] = [.int .i64 z0] := e0
  have e1 : [c1] = [.int .i64 z1] := e1
  have e2 : [c2] = [.int .i64 z2] := e2
  simp only [List.cons.injEq, and_true] at e0 e1 e2
  rw [e0, e1, e2]
theorem open_size {v : Value} {d : DataW H} {ps : List MemPlace} {r : Reach} {b0 : Nat} (hv : Value.okWide Tryz.prog W r b0 23 v) (h : DataW.Trod enc Tryz.prog W 0 (fun _ => true) true 23 v d ps) : ∃ z1 z2 z3 : Int, v = .agg #[.int .i64 z1, .int .i64 z2, .int .i64 z3] := by
  obtain ⟨cs, rfl, hsz⟩ := okWide_struct Tryz.underlying23 hv
  obtain ⟨fuel, hf⟩ := h
  obtain ⟨z1, z2, z3, hx⟩ := size_cells hf
  refine ⟨z1, z2, z3, ?_⟩
  have : cs.toList = [.int .i64 z1, .int .i64 z2, .int .i64 z3] := hx
  rw [← Array.toArray_toList (xs := cs), this]
end

/-! ### The table -/

theorem own0 : ownKnob Tryz.prog.godebug = none := by kernel_rfl
theorem laidOut0 : laidOutB Tryz.prog = true := by kernel_rfl
theorem tab_of_laid {W : World} (h : laidMetH Tryz.prog Rows.cellActsRow.laid W) : TabIs 0 Lib.deBruijn64tab W ∧ 0 < W.heap.size := by
  have h' : laidMet Tryz.prog [("math/bits.deBruijn64tab", Lib.tabData .u8 (Lib.deBruijn64tab.map fun n : Nat => (n : Int)))] W := h
  have ht := Lib.tabIs_of_head (P := Tryz.prog) (g := 0) (t := 293) (n := 64) (by kernel_rfl) (by kernel_rfl) Tryz.underlying293 (by kernel_rfl) (by kernel_rfl) (by kernel_rfl) h'
  have hc : TabIs 0 Lib.deBruijn64tab W := by
    intro j hj
    have := ht.cell (g := 0) (by kernel_rfl) j (by simpa using hj)
    rw [this]
    congr 2
    rw [List.getD_eq_getElem?_getD, List.getD_eq_getElem?_getD, List.getElem?_map]
    cases Lib.deBruijn64tab[j]? <;> rfl
  refine ⟨hc, ?_⟩
  have h0 := hc 0 (by decide)
  unfold World.cell? at h0
  refine Nat.pos_of_ne_zero fun hz => ?_
  rw [Array.getElem?_eq_none (by omega)] at h0
  cases h0

def litCells : DataW Unit → List Value
  | .agg l => l.map fun
    | .lit (.int k z) => Value.int k z
    | _ => .nilFunc
  | _ => []
def setG (w : World) (g : Nat) (d : DataW Unit) : World := { w with heap := w.heap.modify g fun
    | .cells _ t frozen => .cells (litCells d).toArray t frozen
    | o => o }
/-- A world in which the table is as it is laid. -/
noncomputable def laidWorld (os : Os) : World := setG (World.holding Tryz.prog os ⟨#[], #[], []⟩) 0 Rows.laid_math_bits_deBruijn64tab
theorem laidWorld_met (os : Os) (args : Array Value) : laidMetH Tryz.prog Rows.cellActsRow.laid ((laidWorld os).forCall (fun _ _ => 0) ⟨#[], args, []⟩).memory := by
  show laidMet Tryz.prog Rows.cellActsRow.laid _
  exact (LaidIn.of_run [0] 8 (by kernel_rfl) (by kernel_rfl) (by kernel_rfl) (by kernel_rfl)).met
end Go.Proofs.YtcaaojbnjfdglaaGreatDoor
