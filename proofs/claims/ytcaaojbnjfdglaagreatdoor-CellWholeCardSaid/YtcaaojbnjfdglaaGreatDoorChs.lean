/- Cells: what is proved on the way: every input of the statement; no condition. Texts joined: LawO. -/
import Derived.Test.YtcaaojbnjfdglaaGreatDoorChr
import Derived.Test.YtcaaojbnjfdglaaGreatDoorChp
import Derived.Test.YtcaaojbnjfdglaaGreatDoorChe
import Derived.Test.YtcaaojbnjfdglaaGreatDoorRows
import Derived.Lib.SmallJoins
import Derived.Lib.LaidIn
import Derived.Stop.LaidErr
import Derived.Stop.Joined
import Derived.ChangeMaps5
import Derived.ChangeSlices
set_option linter.unusedVariables false
set_option linter.unusedSimpArgs false
set_option linter.constructorNameAsVariable false
set_option maxRecDepth 100000
namespace Go.Proofs.YtcaaojbnjfdglaaGreatDoor
open Go.SL Go.ChangeShapes Go.WideShapes Go.ChangeAt Go.RowKit Go.Deep

/-- An act's words, as they lie in the world that was handed in. -/
def AcW (W : World) (y : Ac) : Prop := y.X < 18446744073709551616 ∧ (∀ z ∈ y.ws, z < 18446744073709551616) ∧ ∃ (ad : Option Addr) (cap : Nat), y.vW = .slice ad y.ws.length cap ∧ (y.ws = [] ∨ ∃ b o E fz c, ad = some ⟨b, o, none⟩ ∧ W.heap[b]? = some (.cells (List.toArray c) E fz) ∧ Reads c o (y.ws.length * 1) (ucells y.ws))

section
variable {H : Type} {enc : TypeId × Value → H} {W : World} {n : Nat} {sp : Nat → Bool} {held : Bool} {base : Nat}

theorem wfU {z : Int} (h : (Lit.int .u64 z).wf = true) : ∃ k : Nat, z = k ∧ k < 18446744073709551616 := by
  have h' : (decide (IntKind.u64.min ≤ z) && decide (z ≤ IntKind.u64.max)) = true := h
  rw [Bool.and_eq_true, decide_eq_true_eq, decide_eq_true_eq] at h'
  have h1 : (0 : Int) ≤ z := h'.1
  have h2 : z ≤ 18446744073709551615 := h'.2
  exact ⟨z.toNat, by omega, by omega⟩

theorem open_words {v : Value} {x : DataW H × List MemPlace} (h : DataW.trod enc Tryz.prog W base sp held n 30 [v] = some x) :
    ∃ (ad : Option Addr) (cap : Nat) (ws : List Nat), v = .slice ad ws.length cap ∧ (∀ z ∈ ws, z < 18446744073709551616) ∧ (ws = [] ∨ ∃ b o E fz c, ad = some ⟨b, o, none⟩ ∧ W.heap[b]? = some (.cells (List.toArray c) E fz) ∧ Reads c o (ws.length * 1) (ucells ws)) := by
  rcases open_ints Tryz.underlying30 Tryz.underlying29 (by kernel_rfl) h with ⟨h1, _⟩ | ⟨a, len, cap, zs, h1, _, hl, _, hlen, _, hc, hw⟩
  · injection h1 with h1 _
    exact ⟨none, 0, [], h1, by simp, .inl rfl⟩
  · injection h1 with h1 _
    have hle : len ≤ zs.length := by rw [hlen]; split <;> omega
    refine ⟨some a, cap, (zs.take len).map Int.toNat, ?_, ?_, ?_⟩
    · rw [h1]; congr 1; simp; omega
    · intro z hz
      obtain ⟨y, hy, rfl⟩ := List.mem_map.1 hz
      obtain ⟨k, rfl, hk⟩ := wfU (hw y (List.mem_of_mem_take hy))
      exact hk
    · rcases Nat.eq_zero_or_pos len with rfl | hpos
      · left; simp
      · right
        have h00 := hc 0 (by omega)
        obtain ⟨b, o, s⟩ := a
        have hs : s = none ∧ ∃ c E fz, W.heap[b]? = some (.cells c E fz) := by
          unfold World.cell? Addr.add at h00
          simp only [Nat.add_zero, if_true] at h00
          split at h00
          · rename_i c E fz hh
            refine ⟨?_, c, E, fz, hh⟩
            cases s with
            | none => rfl
            | some s => simp at h00
          · cases h00
        obtain ⟨rfl, c, E, fz, hh⟩ := hs
        refine ⟨b, o, E, fz, c.toList, rfl, by simpa using hh, ?_⟩
        have hul : (ucells ((zs.take len).map Int.toNat)).length = ((zs.take len).map Int.toNat).length * 1 := ucells_length _
        rw [← hul]
        refine Reads.of_get fun j v hj => ?_
        have hjl : j < len := by
          have := (List.getElem?_eq_some_iff.1 hj).1
          rw [hul] at this
          simp at this
          omega
        have h2 := hc j (by omega)
        rw [add_lit'] at h2
        unfold World.cell? at h2
        simp only [hh] at h2
        have hz := List.getElem?_eq_getElem (l := zs) (i := j) (by omega)
        obtain ⟨k, hk, _⟩ := wfU (hw zs[j] (List.getElem_mem _))
        have hv : v = .int .u64 (zs.getD j 0) := by
          unfold ucells at hj
          rw [List.getElem?_map, List.getElem?_map, List.getElem?_take_of_lt hjl, hz] at hj
          simp only [Option.map_some] at hj
          injection hj with hj
          rw [← hj, List.getD_eq_getElem?_getD, hz]
          show Value.int .u64 ((zs[j].toNat : Nat) : Int) = .int .u64 zs[j]
          rw [hk]
          rfl
        rw [hv]
        simpa using h2

theorem cons_of_len {α : Type} {l : List α} {n : Nat} (h : l.length = n + 1) : ∃ a t, l = a :: t ∧ t.length = n := by
  cases l with
  | nil => cases h
  | cons a t => exact ⟨a, t, rfl, by simpa using h⟩
theorem act_cells {cs : List Value} {x : DataW H × List MemPlace} (h : DataW.trod enc Tryz.prog W base sp held n 34 cs = some x) : ∃ r : Ac, cs = acell r ∧ AcW W r := by
  obtain ⟨xs, k, rfl, hx, hl, hlen, hf⟩ := DataW.trod_struct Tryz.underlying34 h
  have hl2 : cs.length = 9 := hl.trans (by kernel_rfl)
  obtain ⟨c0, ct0, rfl, hct0⟩ := cons_of_len hl2
  obtain ⟨c1, ct1, rfl, hct1⟩ := cons_of_len hct0
  obtain ⟨c2, ct2, rfl, hct2⟩ := cons_of_len hct1
  obtain ⟨c3, ct3, rfl, hct3⟩ := cons_of_len hct2
  obtain ⟨c4, ct4, rfl, hct4⟩ := cons_of_len hct3
  obtain ⟨c5, ct5, rfl, hct5⟩ := cons_of_len hct4
  obtain ⟨c6, ct6, rfl, hct6⟩ := cons_of_len hct5
  obtain ⟨c7, ct7, rfl, hct7⟩ := cons_of_len hct6
  obtain ⟨c8, ct8, rfl, hct8⟩ := cons_of_len hct7
  obtain rfl := List.length_eq_zero_iff.1 hct8
  obtain ⟨y0, yt0, rfl, hyt0⟩ := cons_of_len hlen
  obtain ⟨y1, yt1, rfl, hyt1⟩ := cons_of_len hyt0
  obtain ⟨y2, yt2, rfl, hyt2⟩ := cons_of_len hyt1
  obtain ⟨y3, yt3, rfl, hyt3⟩ := cons_of_len hyt2
  obtain ⟨y4, yt4, rfl, hyt4⟩ := cons_of_len hyt3
  obtain ⟨y5, yt5, rfl, hyt5⟩ := cons_of_len hyt4
  obtain ⟨y6, yt6, rfl, hyt6⟩ := cons_of_len hyt5
  obtain ⟨y7, yt7, rfl, hyt7⟩ := cons_of_len hyt6
  obtain rfl := List.length_eq_zero_iff.1 hyt7
  have h0 := hf 0 _ rfl
  have h1 := hf 1 _ rfl
  have h2 := hf 2 _ rfl
  have h3 := hf 3 _ rfl
  have h4 := hf 4 _ rfl
  have h5 := hf 5 _ rfl
  have h6 := hf 6 _ rfl
  have h7 := hf 7 _ rfl
  obtain ⟨z0, e0, _⟩ := DataW.trod_int Tryz.underlying3 h0
  obtain ⟨z1, e1, _⟩ := DataW.trod_int Tryz.underlying3 h1
  obtain ⟨z2, e2, _⟩ := DataW.trod_int Tryz.underlying3 h2
  obtain ⟨z3, e3, _⟩ := DataW.trod_int Tryz.underlying3 h3
  obtain ⟨z4, e4, _, w4⟩ := DataW.trod_int Tryz.underlying29 h4
  obtain ⟨ad, cap, ws, e5, hws, hr⟩ := open_words (v := c5) h5
  obtain ⟨z6, e6, _⟩ := DataW.trod_bool Tryz.underlying4 h6
  obtain ⟨xs7, k7, _, _, hl7, hlen7, hf7⟩ := DataW.trod_struct Tryz.underlying32 h7
  obtain ⟨x70, xt70, rfl, hxt70⟩ := cons_of_len hlen7
  obtain ⟨x71, xt71, rfl, hxt71⟩ := cons_of_len hxt70
  obtain rfl := List.length_eq_zero_iff.1 hxt71
  have h70 := hf7 0 _ rfl
  have h71 := hf7 1 _ rfl
  obtain ⟨z7, e7, _⟩ := DataW.trod_int Tryz.underlying3 h70
  obtain ⟨z8, e8, _⟩ := DataW.trod_int Tryz.underlying3 h71
  obtain ⟨X, rfl, hX⟩ := wfU w4
  refine ⟨⟨z0, z1, z2, z3, X, c5, ws, z6, z7, z8⟩, ?_, hX, hws, ad, cap, e5, hr⟩
  have e0 : [c0] = [.int .i64 z0] := e0
  have e1 : [c1] = [.int .i64 z1] := e1
  have e2 : [c2] = [.int .i64 z2] := e2
  have e3 : [c3] = [.int .i64 z3] := e3
  have e4 : [c4] = [.int .u64 X] := e4
  have e6 : [c6] = [.bool z6] := e6
  have e7 : [c7] = [.int .i64 z7] := e7
  have e8 : [c8] = [.int .i64 z8] := e8
  simp only [List.cons.injEq, and_true] at e0 e1 e2 e3 e4 e6 e7 e8
  rw [e0, e1, e2, e3, e4, e6, e7, e8]
  rfl

instance : Inhabited Ac := ⟨⟨0, 0, 0, 0, 0, .slice none 0 0, [], false, 0, 0⟩⟩
/-- A slice of acts that was handed in. -/
theorem open_acts {v : Value} {d : DataW H} {ps : List MemPlace} {r : Reach} {b0 : Nat} (hv : Value.okWide Tryz.prog W r b0 24 v) (h : DataW.Trod enc Tryz.prog W 0 (fun _ => true) true 24 v d ps) :
    ∃ (ad : Option Addr) (cap : Nat) (l : List Ac), v = .slice ad l.length cap ∧ l.length ≤ maxLen ∧ (∀ x ∈ l, AcW W x) ∧ (l = [] ∨ ∃ b o E fz c, ad = some ⟨b, o, none⟩ ∧ W.heap[b]? = some (.cells (List.toArray c) E fz) ∧ ∀ (i : Nat) (a : Ac), l[i]? = some a → Reads c (o + i * 9) 9 (acell a)) := by
  obtain ⟨a, len, cap, rfl⟩ := okWide_slice Tryz.underlying24 hv
  obtain ⟨fuel, hf⟩ := h
  rcases open_slice Tryz.underlying24 hf with ⟨h1, _⟩ | ⟨a', len', cap', m, n, D, Pl, h1, hb, hl, hm, hmm, hx, hel⟩
  · have h1 : [Value.slice a len cap] = [.slice none 0 0] := h1
    simp at h1
    obtain ⟨rfl, rfl, rfl⟩ := h1
    exact ⟨none, 0, [], rfl, Nat.zero_le _, (fun x hx => by cases hx), .inl rfl⟩
  · have h1 : [Value.slice a len cap] = [.slice (some a') len' cap'] := h1
    simp at h1
    obtain ⟨rfl, rfl, rfl⟩ := h1
    have hce : Tryz.prog.cellsOf 34 = 9 := by kernel_rfl
    have each : ∀ i, i < len → ∃ q : Ac, AcW W q ∧ ∀ (j : Nat) x, (acell q)[j]? = some x → W.cell? (a'.add (i * 9 + j)) = some x := by
      intro i hi
      obtain ⟨cs', h2, h3⟩ := hel i (by rw [hmm]; simp; omega)
      obtain ⟨q, rfl, hq⟩ := act_cells h3
      rw [hce] at h2
      obtain ⟨_, hlen, hcell⟩ := World.cells?_some h2
      refine ⟨q, hq, fun j x hj => ?_⟩
      have := hcell j (by have := (List.getElem?_eq_some_iff.1 hj).1; exact this)
      rw [add_add] at this
      rw [this, hj]
    obtain ⟨q, hq⟩ := choose_lt each
    have hll : ((List.range len).map q).length = len := by simp
    have hall : ∀ x ∈ (List.range len).map q, AcW W x := by
      intro x hx
      obtain ⟨i, hi, rfl⟩ := List.mem_map.1 hx
      exact (hq i (List.mem_range.1 hi)).1
    rcases Nat.eq_zero_or_pos len with rfl | hpos
    · exact ⟨some a', cap, [], rfl, Nat.zero_le _, (fun x hx => by cases hx), .inl rfl⟩
    · have h00 := (hq 0 hpos).2 0 _ rfl
      obtain ⟨b, o, s⟩ := a'
      have hs : s = none ∧ ∃ c E fz, W.heap[b]? = some (.cells c E fz) := by
        unfold World.cell? Addr.add at h00
        simp only [Nat.zero_mul, Nat.add_zero, if_true] at h00
        split at h00
        · rename_i c E fz hh
          refine ⟨?_, c, E, fz, hh⟩
          cases s with
          | none => rfl
          | some s => simp at h00
        · cases h00
      obtain ⟨rfl, c, E, fz, hh⟩ := hs
      refine ⟨some ⟨b, o, none⟩, cap, (List.range len).map q, by rw [hll], by rw [hll]; omega, hall, .inr ⟨b, o, E, fz, c.toList, rfl, by simpa using hh, ?_⟩⟩
      intro i a hia
      have hi : i < len := by have := (List.getElem?_eq_some_iff.1 hia).1; simpa using this
      have e : q i = a := by simpa [hi] using hia
      subst e
      refine Reads.of_get (vs := acell (q i)) fun j x hj => ?_
      have := (hq i hi).2 j x hj
      rw [add_lit'] at this
      unfold World.cell? at this
      simp only [hh] at this
      simpa [Nat.add_assoc] using this
theorem size_cells {cs : List Value} {x : DataW H × List MemPlace} (h : DataW.trod enc Tryz.prog W base sp held n 23 cs = some x) : ∃ z1 z2 z3 : Int, cs = [.int .i64 z1, .int .i64 z2, .int .i64 z3] := by
  obtain ⟨xs, k, rfl, hx, hl, hlen, hf⟩ := DataW.trod_struct Tryz.underlying23 h
  have hl2 : cs.length = 3 := hl.trans (by kernel_rfl)
  obtain ⟨c0, ct0, rfl, g0⟩ := cons_of_len hl2
  obtain ⟨c1, ct1, rfl, g1⟩ := cons_of_len g0
  obtain ⟨c2, ct2, rfl, g2⟩ := cons_of_len g1
  obtain rfl := List.length_eq_zero_iff.1 g2
  obtain ⟨y0, yt0, rfl, k0⟩ := cons_of_len hlen
  obtain ⟨y1, yt1, rfl, k1⟩ := cons_of_len k0
  obtain ⟨y2, yt2, rfl, k2⟩ := cons_of_len k1
  have h0 := hf 0 _ rfl
  have h1 := hf 1 _ rfl
  have h2 := hf 2 _ rfl
  obtain ⟨z0, e0, _⟩ := DataW.trod_int Tryz.underlying3 h0
  obtain ⟨z1, e1, _⟩ := DataW.trod_int Tryz.underlying3 h1
  obtain ⟨z2, e2, _⟩ := DataW.trod_int Tryz.underlying3 h2
  refine ⟨z0, z1, z2, ?_⟩
  have e0 : [c0] = [.int .i64 z0] := e0
  have e1 : [c1] = [.int .i64 z1] := e1
  have e2 : [c2] = [.int .i64 z2] := e2
  simp only [List.cons.injEq, and_true] at e0 e1 e2
  rw [e0, e1, e2]
theorem open_size {v : Value} {d : DataW H} {ps : List MemPlace} {r : Reach} {b0 : Nat} (hv : Value.okWide Tryz.prog W r b0 23 v) (h : DataW.Trod enc Tryz.prog W 0 (fun _ => true) true 23 v d ps) : ∃ z1 z2 z3 : Int, v = .agg #[.int .i64 z1, .int .i64 z2, .int .i64 z3] := by
  obtain ⟨cs, rfl, hsz⟩ := okWide_struct Tryz.underlying23 hv
  obtain ⟨fuel, hf⟩ := h
  obtain ⟨z1, z2, z3, hx⟩ := size_cells hf
  refine ⟨z1, z2, z3, ?_⟩
  have : cs.toList = [.int .i64 z1, .int .i64 z2, .int .i64 z3] := hx
  rw [← Array.toArray_toList (xs := cs), this]
end

theorem reads_acts {c : List Value} : ∀ {l : List Ac} {o : Nat}, (∀ i a, l[i]? = some a → Reads c (o + i * 9) 9 (acell a)) → Reads c o (l.length * 9) (acells l)
  | [], o, _ => .nil o
  | t :: l, o, h => by
    have h0 := h 0 t rfl
    have ih := reads_acts (l := l) (o := o + 9) fun i u hu => by
      have := h (i + 1) u (by simpa using hu)
      rw [show o + 9 + i * 9 = o + (i + 1) * 9 by omega]
      exact this
    rw [List.length_cons, Nat.succ_mul]
    show Reads c o (l.length * 9 + 9) (acell t ++ acells l)
    have h0 : Reads c o 9 (acell t) := by simpa using h0
    unfold acell at h0 ⊢
    obtain _ | ⟨g0, h0⟩ := h0
    obtain _ | ⟨g1, h0⟩ := h0
    obtain _ | ⟨g2, h0⟩ := h0
    obtain _ | ⟨g3, h0⟩ := h0
    obtain _ | ⟨g4, h0⟩ := h0
    obtain _ | ⟨g5, h0⟩ := h0
    obtain _ | ⟨g6, h0⟩ := h0
    obtain _ | ⟨g7, h0⟩ := h0
    obtain _ | ⟨g8, h0⟩ := h0
    exact .cons g0 (.cons g1 (.cons g2 (.cons g3 (.cons g4 (.cons g5 (.cons g6 (.cons g7 (.cons g8 ih))))))))
theorem acts_rd {W : World} {ad : Option Addr} {cap : Nat} {l : List Ac} (h : l = [] ∨ ∃ b o E fz c, ad = some ⟨b, o, none⟩ ∧ W.heap[b]? = some (.cells (List.toArray c) E fz) ∧ ∀ (i : Nat) (a : Ac), l[i]? = some a → Reads c (o + i * 9) 9 (acell a)) (fr : List HProp) : RdS (old W :: fr) (.slice ad l.length cap) l.length 9 (acells l) := by
  refine ⟨acells_length l, ad, cap, rfl, ?_⟩
  rcases h with rfl | ⟨b, o, E, fz, c, rfl, hb, hr⟩
  · exact .inl rfl
  · haveI : InOld W b (.cells (List.toArray c) E fz) := ⟨hb⟩
    exact .inr ⟨b, o, E, fz, c, rfl, inferInstance, reads_acts hr⟩
theorem acW_ok {W : World} {x : Ac} (h : AcW W x) (fr : List HProp) : AcOK (old W :: fr) x := by
  obtain ⟨h1, h2, ad, cap, h3, h4⟩ := h
  refine ⟨h1, h2, ucells_length _, ad, cap, h3, ?_⟩
  rcases h4 with h4 | ⟨b, o, E, fz, c, rfl, hb, hr⟩
  · left; rw [h4]; rfl
  · haveI : InOld W b (.cells (List.toArray c) E fz) := ⟨hb⟩
    exact .inr ⟨b, o, E, fz, c, rfl, inferInstance, hr⟩

/-! ### The table -/

theorem own0 : ownKnob Tryz.prog.godebug = none := by kernel_rfl
theorem laidOut0 : laidOutB Tryz.prog = true := by kernel_rfl
theorem tab_of_laid {W : World} (h : laidMetH Tryz.prog Rows.cellActsRow.laid W) : TabIs 0 Lib.deBruijn64tab W ∧ 0 < W.heap.size := by
  have h' : laidMet Tryz.prog [("math/bits.deBruijn64tab", Lib.tabData .u8 (Lib.deBruijn64tab.map fun n : Nat => (n : Int)))] W := h
  have ht := Lib.tabIs_of_head (P := Tryz.prog) (g := 0) (t := 293) (n := 64) (by kernel_rfl) (by kernel_rfl) Tryz.underlying293 (by kernel_rfl) (by kernel_rfl) (by kernel_rfl) h'
  have hc : TabIs 0 Lib.deBruijn64tab W := by
    intro j hj
    have := ht.cell (g := 0) (by kernel_rfl) j (by simpa using hj)
    rw [this]
    congr 2
    rw [List.getD_eq_getElem?_getD, List.getD_eq_getElem?_getD, List.getElem?_map]
    cases Lib.deBruijn64tab[j]? <;> rfl
  refine ⟨hc, ?_⟩
  have h0 := hc 0 (by decide)
  unfold World.cell? at h0
  refine Nat.pos_of_ne_zero fun hz => ?_
  rw [Array.getElem?_eq_none (by omega)] at h0
  cases h0

def litCells : DataW Unit → List Value
  | .agg l => l.map fun
    | .lit (.int k z) => Value.int k z
    | _ => .nilFunc
  | _ => []
def setG (w : World) (g : Nat) (d : DataW Unit) : World := { w with heap := w.heap.modify g fun
    | .cells _ t frozen => .cells (litCells d).toArray t frozen
    | o => o }
/-- A world in which the table is as it is laid. -/
noncomputable def laidWorld (os : Os) : World := setG (World.holding Tryz.prog os ⟨#[], #[], []⟩) 0 Rows.laid_math_bits_deBruijn64tab
theorem laidWorld_met (os : Os) (args : Array Value) : laidMetH Tryz.prog Rows.cellActsRow.laid ((laidWorld os).forCall (fun _ _ => 0) ⟨#[], args, []⟩).memory := by
  show laidMet Tryz.prog Rows.cellActsRow.laid _
  exact (LaidIn.of_run [0] 8 (by kernel_rfl) (by kernel_rfl) (by kernel_rfl) (by kernel_rfl)).met
end Go.Proofs.YtcaaojbnjfdglaaGreatDoor
