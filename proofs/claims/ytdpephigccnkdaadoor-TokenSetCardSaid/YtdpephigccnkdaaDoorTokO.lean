/- Tokens: what the arguments are; the tables as they are laid. No condition. -/
import Derived.Test.YtdpephigccnkdaaDoorTokF
import Derived.Test.YtdpephigccnkdaaDoorSlZ
import Derived.Test.YtdpephigccnkdaaDoorRows
import Derived.Lib.SmallJoins
import Derived.Lib.LaidIn
import Derived.Stop.LaidErr
import Derived.Stop.Joined
import Derived.ChangeMaps5
set_option linter.unusedVariables false
set_option linter.unusedSimpArgs false
namespace Go.Proofs.YtdpephigccnkdaaDoor
open Go.SL Go.ChangeShapes Go.WideShapes Go.ChangeAt Go.RowKit Go.Deep

section
variable {H : Type} {enc : TypeId × Value → H} {W : World} {n : Nat} {sp : Nat → Bool} {held : Bool} {base : Nat}

theorem tok_cells {cs : List Value} {x : DataW H × List MemPlace} (h : DataW.trod enc Tryd.prog W base sp held n 23 cs = some x) : ∃ r : Tk, cs = encT r := by
  obtain ⟨xs, k, rfl, hx, hl, hlen, hf⟩ := DataW.trod_struct Tryd.underlying23 h
  have hl2 : cs.length = 2 := hl.trans (by kernel_rfl)
  have h0 := hf 0 _ rfl
  have h1 := hf 1 _ rfl
  match xs, hlen, cs, hl2 with
  | [y0, y1], _, [c0, c1], _ =>
    obtain ⟨z0, e0, _⟩ := DataW.trod_int Tryd.underlying3 h0
    obtain ⟨z1, e1, _⟩ := DataW.trod_int Tryd.underlying3 h1
    refine ⟨(z0, z1), ?_⟩
    have e0' : ([c0, c1].drop 0).take 1 = [.int .i64 z0] := e0
    have e1' : ([c0, c1].drop 1).take 1 = [.int .i64 z1] := e1
    simp at e0' e1'
    rw [e0', e1']
    rfl

theorem open_tok {v : Value} {d : DataW H} {ps : List MemPlace} {r : Reach} {b0 : Nat} (hv : Value.okWide Tryd.prog W r b0 23 v) (h : DataW.Trod enc Tryd.prog W 0 (fun _ => true) true 23 v d ps) : ∃ x : Tk, v = tk x := by
  obtain ⟨cs, rfl, hsz⟩ := okWide_struct Tryd.underlying23 hv
  obtain ⟨fuel, hf⟩ := h
  obtain ⟨x, hx⟩ := tok_cells hf
  refine ⟨x, ?_⟩
  have : cs.toList = [.int .i64 x.1, .int .i64 x.2] := hx
  rw [← Array.toArray_toList (xs := cs), this]

/-- A slice of tokens that was handed in. -/
theorem open_toks {v : Value} {d : DataW H} {ps : List MemPlace} {r : Reach} {b0 : Nat} (hv : Value.okWide Tryd.prog W r b0 37 v) (h : DataW.Trod enc Tryd.prog W 0 (fun _ => true) true 37 v d ps) :
    ∃ (ad : Option Addr) (cap : Nat) (ts : List Tk), v = .slice ad ts.length cap ∧ ts.length ≤ cap ∧ ts.length ≤ maxLen ∧ (ts = [] ∨ ∃ b o E fz c, ad = some ⟨b, o, none⟩ ∧ W.heap[b]? = some (.cells (List.toArray c) E fz) ∧ ∀ i t, ts[i]? = some t → Reads c (o + i * 2) 2 [.int .i64 t.1, .int .i64 t.2]) := by
  obtain ⟨a, len, cap, rfl⟩ := okWide_slice Tryd.underlying37 hv
  obtain ⟨fuel, hf⟩ := h
  rcases open_slice Tryd.underlying37 hf with ⟨h1, _⟩ | ⟨a', len', cap', m, n, D, Pl, h1, hb, hl, hm, hmm, hx, hel⟩
  · have h1 : [Value.slice a len cap] = [.slice none 0 0] := h1
    simp at h1
    obtain ⟨rfl, rfl, rfl⟩ := h1
    exact ⟨none, 0, [], rfl, Nat.le_refl _, Nat.zero_le _, .inl rfl⟩
  · have h1 : [Value.slice a len cap] = [.slice (some a') len' cap'] := h1
    simp at h1
    obtain ⟨rfl, rfl, rfl⟩ := h1
    have hce : Tryd.prog.cellsOf 23 = 2 := by kernel_rfl
    have each : ∀ i, i < len → ∃ q : Tk, ∀ (j : Nat) x, (encT q)[j]? = some x → W.cell? (a'.add (i * 2 + j)) = some x := by
      intro i hi
      obtain ⟨cs', h2, h3⟩ := hel i (by rw [hmm]; simp; omega)
      obtain ⟨q, rfl⟩ := tok_cells h3
      rw [hce] at h2
      obtain ⟨_, hlen, hcell⟩ := World.cells?_some h2
      refine ⟨q, fun j x hj => ?_⟩
      have := hcell j (by have := (List.getElem?_eq_some_iff.1 hj).1; exact this)
      rw [add_add] at this
      rw [this, hj]
    obtain ⟨q, hq⟩ := choose_lt each
    have hll : ((List.range len).map q).length = len := by simp
    rcases Nat.eq_zero_or_pos len with rfl | hpos
    · exact ⟨some a', cap, [], rfl, hl, Nat.zero_le _, .inl rfl⟩
    · have h00 := hq 0 hpos 0 _ rfl
      obtain ⟨b, o, s⟩ := a'
      have hs : s = none ∧ ∃ c E fz, W.heap[b]? = some (.cells c E fz) := by
        unfold World.cell? Addr.add at h00
        simp only [Nat.zero_mul, Nat.add_zero, if_true] at h00
        split at h00
        · rename_i c E fz hh
          refine ⟨?_, c, E, fz, hh⟩
          cases s with
          | none => rfl
          | some s => simp at h00
        · cases h00
      obtain ⟨rfl, c, E, fz, hh⟩ := hs
      refine ⟨some ⟨b, o, none⟩, cap, (List.range len).map q, by rw [hll], by rw [hll]; exact hl, by rw [hll]; omega, .inr ⟨b, o, E, fz, c.toList, rfl, by simpa using hh, ?_⟩⟩
      intro i a hia
      have hi : i < len := by have := (List.getElem?_eq_some_iff.1 hia).1; simpa using this
      have e : q i = a := by simpa [hi] using hia
      subst e
      have g : ∀ (j : Nat) x, (encT (q i))[j]? = some x → c.toList[o + i * 2 + j]? = some x := by
        intro j x hj
        have := hq i hi j x hj
        rw [add_lit'] at this
        unfold World.cell? at this
        simp only [hh] at this
        simpa [Nat.add_assoc] using this
      exact .cons (g 0 _ rfl) (.cons (g 1 _ rfl) (.nil _))
end

/-! ### The tables -/

theorem own0 : ownKnob Tryd.prog.godebug = none := by kernel_rfl
theorem laidOut0 : laidOutB Tryd.prog = true := by kernel_rfl

theorem pow_of_laid {W : World} (h : laidMetH Tryd.prog Rows.tokenOrdersRow.laid W) : Pow W := by
  have h' : laidMet Tryd.prog Rows.tokenOrdersRow.laid W := h
  have h2 := h'.tail.tail
  exact Lib.tabIs_of_head (P := Tryd.prog) (g := 1) (t := 87) (n := 20) (by kernel_rfl) (by kernel_rfl) Tryd.underlying87 (by kernel_rfl) (by kernel_rfl) (by kernel_rfl) h2

def litCells : DataW Unit → List Value
  | .agg l => l.map fun
    | .lit (.int k z) => Value.int k z
    | _ => .nilFunc
  | _ => []
def setG (w : World) (g : Nat) (d : DataW Unit) : World := { w with heap := w.heap.modify g fun
    | .cells _ t frozen => .cells (litCells d).toArray t frozen
    | o => o }
/-- A world in which the tables are as they are laid. -/
noncomputable def laidWorld (os : Os) : World := setG (setG (setG (World.holding Tryd.prog os ⟨#[], #[], []⟩) 1 Rows.laid_internal_strconv_uint64pow10) 2 Rows.laid_math_bits_deBruijn32tab) 3 Rows.laid_math_bits_deBruijn64tab
theorem laidWorld_met (os : Os) (args : Array Value) : laidMetH Tryd.prog Rows.tokenOrdersRow.laid ((laidWorld os).forCall (fun _ _ => 0) ⟨#[], args, []⟩).memory := by
  show laidMet Tryd.prog Rows.tokenOrdersRow.laid _
  exact (LaidIn.of_run [1, 2, 3] 8 (by kernel_rfl) (by kernel_rfl) (by kernel_rfl) (by kernel_rfl)).met
end Go.Proofs.YtdpephigccnkdaaDoor
