/- What the arguments are: acts, references. No condition. -/
import Derived.Test.YtdpephigccnkdaaRemG
import Derived.Test.YtdpephigccnkdaaSlZ
import Derived.Test.YtdpephigccnkdaaRows
import Derived.Lib.SmallJoins
set_option linter.unusedVariables false
set_option linter.unusedSimpArgs false
set_option linter.unusedSectionVars false
namespace Go.Proofs.Ytdpephigccnkdaa
open Go.SL Go.ChangeShapes Go.WideShapes Go.ChangeAt Go.RowKit Go.Deep

section
variable {H : Type} {enc : TypeId × Value → H} {W : World} {n : Nat} {sp : Nat → Bool} {held : Bool} {base : Nat}

theorem ref_cells {cs : List Value} {x : DataW H × List MemPlace} (h : DataW.trod enc Try.prog W base sp held n 24 cs = some x) : ∃ r : Rf, cs = [.int .i64 r.1, .int .i64 r.2] := by
  obtain ⟨xs, k, rfl, hx, hl, hlen, hf⟩ := DataW.trod_struct Try.underlying24 h
  have hl2 : cs.length = 2 := hl.trans (by kernel_rfl)
  have h0 := hf 0 _ rfl
  have h1 := hf 1 _ rfl
  match xs, hlen, cs, hl2 with
  | [y0, y1], _, [c0, c1], _ =>
    obtain ⟨z0, e0, _⟩ := DataW.trod_int Try.underlying3 h0
    obtain ⟨z1, e1, _⟩ := DataW.trod_int Try.underlying3 h1
    refine ⟨(z0, z1), ?_⟩
    have e0' : ([c0, c1].drop 0).take 1 = [.int .i64 z0] := e0
    have e1' : ([c0, c1].drop 1).take 1 = [.int .i64 z1] := e1
    simp at e0' e1'
    rw [e0', e1']

theorem open_ref {v : Value} {d : DataW H} {ps : List MemPlace} {r : Reach} {b0 : Nat} (hv : Value.okWide Try.prog W r b0 24 v) (h : DataW.Trod enc Try.prog W 0 (fun _ => true) true 24 v d ps) : ∃ x : Rf, v = rf x := by
  obtain ⟨cs, rfl, hsz⟩ := okWide_struct Try.underlying24 hv
  obtain ⟨fuel, hf⟩ := h
  obtain ⟨x, hx⟩ := ref_cells hf
  refine ⟨x, ?_⟩
  have : cs.toList = [.int .i64 x.1, .int .i64 x.2] := hx
  rw [← Array.toArray_toList (xs := cs), this]

theorem act_cells {cs : List Value} {x : DataW H × List MemPlace} (h : DataW.trod enc Try.prog W base sp held n 42 cs = some x) : ∃ a : Act, cs = encA a := by
  obtain ⟨xs, k, rfl, hx, hl, hlen, hf⟩ := DataW.trod_struct Try.underlying42 h
  have hl2 : cs.length = 4 := hl.trans (by kernel_rfl)
  have h0 := hf 0 _ rfl
  have h1 := hf 1 _ rfl
  have h2 := hf 2 _ rfl
  match xs, hlen, cs, hl2 with
  | [y0, y1, y2], _, [c0, c1, c2, c3], _ =>
    obtain ⟨z0, e0, _⟩ := DataW.trod_int Try.underlying3 h0
    obtain ⟨r, e1⟩ := ref_cells h1
    obtain ⟨z2, e2, _⟩ := DataW.trod_int Try.underlying3 h2
    refine ⟨⟨z0, r, z2⟩, ?_⟩
    have e0' : ([c0, c1, c2, c3].drop 0).take 1 = [.int .i64 z0] := e0
    have e1' : ([c0, c1, c2, c3].drop 1).take 2 = [.int .i64 r.1, .int .i64 r.2] := e1
    have e2' : ([c0, c1, c2, c3].drop 3).take 1 = [.int .i64 z2] := e2
    simp at e0' e1' e2'
    rw [e0', e1'.1, e1'.2, e2']

theorem open_acts {v : Value} {d : DataW H} {ps : List MemPlace} {r : Reach} {b0 : Nat} (hv : Value.okWide Try.prog W r b0 22 v) (h : DataW.Trod enc Try.prog W 0 (fun _ => true) true 22 v d ps) : ∃ l, AL W v l := by
  obtain ⟨a, len, cap, rfl⟩ := okWide_slice Try.underlying22 hv
  obtain ⟨fuel, hf⟩ := h
  rcases open_slice Try.underlying22 hf with ⟨h1, _⟩ | ⟨a', len', cap', m, n, D, Pl, h1, hb, hl, hm, hmm, hx, hel⟩
  · have h1 : [Value.slice a len cap] = [.slice none 0 0] := h1
    simp at h1
    obtain ⟨rfl, rfl, rfl⟩ := h1
    exact ⟨[], .nl⟩
  · have h1 : [Value.slice a len cap] = [.slice (some a') len' cap'] := h1
    simp at h1
    obtain ⟨rfl, rfl, rfl⟩ := h1
    have hce : Try.prog.cellsOf 42 = 4 := by kernel_rfl
    have each : ∀ i, i < len → ∃ q : Act, ∀ (j : Nat) x, (encA q)[j]? = some x → W.cell? (a'.add (i * 4 + j)) = some x := by
      intro i hi
      obtain ⟨cs', h2, h3⟩ := hel i (by rw [hmm]; simp; omega)
      obtain ⟨q, rfl⟩ := act_cells h3
      rw [hce] at h2
      obtain ⟨_, hlen, hcell⟩ := World.cells?_some h2
      refine ⟨q, fun j x hj => ?_⟩
      have := hcell j (by have := (List.getElem?_eq_some_iff.1 hj).1; simpa using this)
      rw [add_add] at this
      rw [this, hj]
    obtain ⟨q, hq⟩ := choose_lt each
    rcases Nat.eq_zero_or_pos len with rfl | hpos
    · exact ⟨[], .nl⟩
    · have h00 := hq 0 hpos 0 _ rfl
      obtain ⟨b, o, s⟩ := a'
      have hs : s = none ∧ ∃ c E fz, W.heap[b]? = some (.cells c E fz) := by
        unfold World.cell? Addr.add at h00
        simp only [Nat.zero_mul, Nat.add_zero, if_true] at h00
        split at h00
        · rename_i c E fz hh
          refine ⟨?_, c, E, fz, hh⟩
          cases s with
          | none => rfl
          | some s => simp at h00
        · cases h00
      obtain ⟨rfl, c, E, fz, hh⟩ := hs
      refine ⟨(List.range len).map q, ?_⟩
      have hll : ((List.range len).map q).length = len := by simp
      have key : AL W (.slice (some ⟨b, o, none⟩) ((List.range len).map q).length cap) ((List.range len).map q) := by
        refine .sm (c := c.toList) (by simpa using hh) (by simpa using hl) ?_
        intro i a hia
        have hi : i < len := by have := (List.getElem?_eq_some_iff.1 hia).1; simpa using this
        have e : q i = a := by simpa [hi] using hia
        subst e
        have g : ∀ (j : Nat) x, (encA (q i))[j]? = some x → c.toList[o + i * 4 + j]? = some x := by
          intro j x hj
          have := hq i hi j x hj
          rw [add_lit'] at this
          unfold World.cell? at this
          simp only [hh] at this
          simpa [Nat.add_assoc] using this
        exact .cons (g 0 _ rfl) (.cons (g 1 _ rfl) (.cons (g 2 _ rfl) (.cons (g 3 _ rfl) (.nil _))))
      rw [hll] at key
      exact key
end
end Go.Proofs.Ytdpephigccnkdaa
