/- Tokens: a text's token. No condition. -/
import Derived.Test.YtdpephigccnkdaaDoorTokD
set_option linter.unusedVariables false
set_option linter.unusedSimpArgs false
set_option linter.unusedSectionVars false
namespace Go.Proofs.YtdpephigccnkdaaDoor
open Go.SL

theorem cutB_len : ∀ (l : List UInt8) (c : UInt8), (cutB l c).1.length ≤ l.length ∧ (cutB l c).2.1.length ≤ l.length
  | [], _ => ⟨Nat.le_refl _, Nat.le_refl _⟩
  | b :: l, c => by
    have := cutB_len l c
    unfold cutB
    split <;> simp <;> omega

@[reducible] def pp (b : Nat) : Value := .pointer (some ⟨b, 0, none⟩)

/-! ### token.Parse -/

def restB (s : List UInt8) : List UInt8 := if s.take 1 = [35] then s.drop 1 else s
def tokB (s : List UInt8) : Tk := (numB (cutB (restB s) 46).1, numB (cutB (restB s) 46).2.1)
def goodB (s : List UInt8) : Prop := s.take 1 = [35] ∧ (cutB (restB s) 46).2.2 = true ∧ rightB (tokB s) = true
instance (s : List UInt8) : Decidable (goodB s) := by unfold goodB; exact inferInstance
def parseV (s : List UInt8) : Tk := if goodB s then tokB s else (0, 0)
def parseE (s : List UInt8) : Int := if goodB s then 0 else 4

theorem Parse_spec [Extra] (s : List UInt8) (hl : s.length ≤ 9223372036854775807) {w : World} {fr : List HProp} (H : Holds w fr) : Calls Tryd.prog 12 #[str s] w (ret fun v w' => v = .tuple #[tk (parseV s), .int .i64 (parseE s)] ∧ Holds w' fr) := by
  have hrl : (restB s).length ≤ s.length := by
    unfold restB
    split <;> simp
  have hcl := cutB_len (restB s) 46
  refine calls_of Tryd.func12 rfl (by kernel_rfl) ?_
  repeat refine C_seq ?_
  refine C_region ?_
  (refine Lp_s rfl (St_alloc H rfl ?_); clear H; intro b2 w H)
  first | refine Lp_pv rfl rfl ?_ | refine Lp_mv rfl rfl ?_
  refine Lp_nil ?_
  repeat refine C_seq ?_
  refine C_region ?_
  first | refine Lp_pv rfl rfl ?_ | refine Lp_mv rfl rfl ?_
  refine Lp_s rfl (St_call (a := []) (b := []) rfl rfl (call (CutPrefix_spec s [35] H) ?_))
  clear H; rintro v w ⟨rfl, H⟩
  first | refine Lp_pv rfl rfl ?_ | refine Lp_mv rfl rfl ?_
  refine Lp_pv rfl rfl ?_
  refine Lp_pv rfl rfl ?_
  first | refine Lp_pv rfl rfl ?_ | refine Lp_mv rfl rfl ?_
  first | refine Lp_pv rfl rfl ?_ | refine Lp_mv rfl rfl ?_
  refine Lp_nil ?_
  repeat refine C_seq ?_
  refine C_region ?_
  first | refine Lp_pv rfl rfl ?_ | refine Lp_mv rfl rfl ?_
  refine Lp_s rfl (St_call (a := []) (b := []) rfl rfl (call (Cut_spec (restB s) 46 (by omega) H) ?_))
  clear H; rintro v w ⟨rfl, H⟩
  first | refine Lp_pv rfl rfl ?_ | refine Lp_mv rfl rfl ?_
  refine Lp_pv rfl rfl ?_
  refine Lp_pv rfl rfl ?_
  refine Lp_pv rfl rfl ?_
  first | refine Lp_pv rfl rfl ?_ | refine Lp_mv rfl rfl ?_
  first | refine Lp_pv rfl rfl ?_ | refine Lp_mv rfl rfl ?_
  first | refine Lp_pv rfl rfl ?_ | refine Lp_mv rfl rfl ?_
  refine Lp_nil ?_
  repeat refine C_seq ?_
  refine C_region ?_
  first | refine Lp_pv rfl rfl ?_ | refine Lp_mv rfl rfl ?_
  refine Lp_s rfl (St_call (a := []) (b := []) rfl rfl (call (number_spec (cutB (restB s) 46).1 (by omega) H) ?_))
  clear H; rintro v w ⟨rfl, H⟩
  first | refine Lp_pv rfl rfl ?_ | refine Lp_mv rfl rfl ?_
  refine Lp_s rfl (St_call (a := []) (b := []) rfl rfl (call (number_spec (cutB (restB s) 46).2.1 (by omega) H) ?_))
  clear H; rintro v w ⟨rfl, H⟩
  refine Lp_s rfl (St_build rfl rfl ?_)
  (refine Lp_s rfl (St_alloc H rfl ?_); clear H; intro b9 w H)
  first | (refine Lp_s rfl (St_store1 H rfl rfl inferInstance rfl (Nat.le_of_ble_eq_true rfl) rfl ?_); clear H; intro w H) | (refine Lp_s rfl (St_storeN H rfl rfl inferInstance rfl rfl (Nat.le_of_ble_eq_true rfl) rfl ?_); clear H; intro w H)
  refine Lp_nil ?_
  repeat refine C_seq ?_
  refine C_join (fun ms σ w => ms = [] ∧ σ 2 = pp b2 ∧ σ 9 = pp b9 ∧ σ 36 = .bool (!decide (goodB s)) ∧ Holds w (pts b9 (row 23 [.int .i64 (tokB s).1, .int .i64 (tokB s).2]) :: pts b2 (row 23 [.int .i64 0, .int .i64 0]) :: fr)) ?_ ?_
  · by_cases h1 : s.take ([35] : List UInt8).length = [35]
    · rw [decide_eq_true h1]
      cases h2 : (cutB (restB s) 46).2.2 with
      | true =>
        repeat refine C_seq ?_
        refine C_region ?_
        first | refine Lp_pv rfl rfl ?_ | refine Lp_mv rfl rfl ?_
        refine Lp_pv rfl rfl ?_
        first | refine Lp_pv rfl rfl ?_ | refine Lp_mv rfl rfl ?_
        first | refine Lp_gpv rfl rfl rfl rfl ?_ | refine Lp_no rfl rfl rfl ?_ | refine Lp_nn rfl rfl ?_
        first | refine Lp_gpv rfl rfl rfl rfl ?_ | refine Lp_no rfl rfl rfl ?_ | refine Lp_nn rfl rfl ?_
        refine Lp_pv rfl rfl ?_
        first | refine Lp_pv rfl rfl ?_ | refine Lp_mv rfl rfl ?_
        first | refine Lp_g rfl rfl rfl (St_load1 H rfl rfl rfl ?_) | refine Lp_g rfl rfl rfl (St_loadN H rfl (by repeat (first | exact Reads.nil _ | apply Reads.cons rfl)) rfl ?_) | refine Lp_no rfl rfl rfl ?_ | refine Lp_nn rfl rfl ?_
        refine Lp_g rfl rfl rfl (St_call (a := []) (b := []) rfl rfl (call (Right_spec (tokB s) H) ?_))
        clear H; rintro v w ⟨rfl, H⟩
        first | refine Lp_gpv rfl rfl rfl rfl ?_ | refine Lp_no rfl rfl rfl ?_ | refine Lp_nn rfl rfl ?_
        refine Lp_pv rfl rfl ?_
        refine Lp_nil ?_
        refine ⟨rfl, rfl, rfl, rfl, ?_, H⟩
        show Value.bool (!rightB (tokB s)) = _
        congr 2
        rw [Bool.eq_iff_iff, decide_eq_true_iff]
        exact ⟨fun h => ⟨h1, h2, h⟩, fun h => h.2.2⟩
      | false =>
        repeat refine C_seq ?_
        refine C_region ?_
        first | refine Lp_pv rfl rfl ?_ | refine Lp_mv rfl rfl ?_
        refine Lp_pv rfl rfl ?_
        first | refine Lp_pv rfl rfl ?_ | refine Lp_mv rfl rfl ?_
        first | refine Lp_gpv rfl rfl rfl rfl ?_ | refine Lp_no rfl rfl rfl ?_ | refine Lp_nn rfl rfl ?_
        first | refine Lp_gpv rfl rfl rfl rfl ?_ | refine Lp_no rfl rfl rfl ?_ | refine Lp_nn rfl rfl ?_
        refine Lp_pv rfl rfl ?_
        first | refine Lp_pv rfl rfl ?_ | refine Lp_mv rfl rfl ?_
        first | refine Lp_g rfl rfl rfl (St_load1 H rfl rfl rfl ?_) | refine Lp_g rfl rfl rfl (St_loadN H rfl (by repeat (first | exact Reads.nil _ | apply Reads.cons rfl)) rfl ?_) | refine Lp_no rfl rfl rfl ?_ | refine Lp_nn rfl rfl ?_
        refine Lp_no rfl rfl rfl ?_
        first | refine Lp_gpv rfl rfl rfl rfl ?_ | refine Lp_no rfl rfl rfl ?_ | refine Lp_nn rfl rfl ?_
        refine Lp_pv rfl rfl ?_
        refine Lp_nil ?_
        refine ⟨rfl, rfl, rfl, rfl, ?_, H⟩
        rw [decide_eq_false (show ¬ goodB s from fun h => by rw [h.2.1] at h2; cases h2)]
        rfl
    · rw [decide_eq_false h1]
      repeat refine C_seq ?_
      refine C_region ?_
      first | refine Lp_pv rfl rfl ?_ | refine Lp_mv rfl rfl ?_
      refine Lp_pv rfl rfl ?_
      first | refine Lp_pv rfl rfl ?_ | refine Lp_mv rfl rfl ?_
      first | refine Lp_gpv rfl rfl rfl rfl ?_ | refine Lp_no rfl rfl rfl ?_ | refine Lp_nn rfl rfl ?_
      first | refine Lp_gpv rfl rfl rfl rfl ?_ | refine Lp_no rfl rfl rfl ?_ | refine Lp_nn rfl rfl ?_
      refine Lp_pv rfl rfl ?_
      first | refine Lp_pv rfl rfl ?_ | refine Lp_mv rfl rfl ?_
      first | refine Lp_g rfl rfl rfl (St_load1 H rfl rfl rfl ?_) | refine Lp_g rfl rfl rfl (St_loadN H rfl (by repeat (first | exact Reads.nil _ | apply Reads.cons rfl)) rfl ?_) | refine Lp_no rfl rfl rfl ?_ | refine Lp_nn rfl rfl ?_
      refine Lp_no rfl rfl rfl ?_
      first | refine Lp_gpv rfl rfl rfl rfl ?_ | refine Lp_no rfl rfl rfl ?_ | refine Lp_nn rfl rfl ?_
      refine Lp_pv rfl rfl ?_
      refine Lp_nil ?_
      refine ⟨rfl, rfl, rfl, rfl, ?_, H⟩
      rw [decide_eq_false (show ¬ goodB s from fun h => h1 h.1)]
      rfl
  · clear H
    rintro ms σ w ⟨rfl, h2, h9, h36, H⟩
    rw [upd_self h2, upd_self h9, upd_self h36]
    by_cases hg : goodB s
    · rw [decide_eq_true hg]
      repeat refine C_seq ?_
      refine C_false rfl (C_skip ?_)
      repeat refine C_seq ?_
      refine C_region ?_
      first | refine Lp_s rfl (St_load1 H rfl rfl rfl ?_) | refine Lp_s rfl (St_loadN H rfl (by repeat (first | exact Reads.nil _ | apply Reads.cons rfl)) rfl ?_)
      first | (refine Lp_s rfl (St_store1 H rfl rfl inferInstance rfl (Nat.le_of_ble_eq_true rfl) rfl ?_); clear H; intro w H) | (refine Lp_s rfl (St_storeN H rfl rfl inferInstance rfl rfl (Nat.le_of_ble_eq_true rfl) rfl ?_); clear H; intro w H)
      first | refine Lp_pv rfl rfl ?_ | refine Lp_mv rfl rfl ?_
      refine Lp_nil ?_
      have e1 : parseV s = tokB s := if_pos hg
      have e2 : parseE s = 0 := if_pos hg
      rw [e1, e2]
      refine C_ret (fn_endC (vs := [tk (tokB s), .int .i64 0]) _ (.inr rfl) H.drop (fun w' H' => .cellN H' rfl (by repeat (first | exact Reads.nil _ | apply Reads.cons rfl)) (.tmp .nil)) fun w' H' => ⟨rfl, H'.drop⟩)
    · rw [decide_eq_false hg]
      repeat refine C_seq ?_
      refine C_true rfl ?_
      repeat refine C_seq ?_
      refine C_region ?_
      refine Lp_s rfl (St_build rfl rfl ?_)
      first | (refine Lp_s rfl (St_store1 H rfl rfl inferInstance rfl (Nat.le_of_ble_eq_true rfl) rfl ?_); clear H; intro w H) | (refine Lp_s rfl (St_storeN H rfl rfl inferInstance rfl rfl (Nat.le_of_ble_eq_true rfl) rfl ?_); clear H; intro w H)
      first | refine Lp_pv rfl rfl ?_ | refine Lp_mv rfl rfl ?_
      refine Lp_nil ?_
      have e1 : parseV s = (0, 0) := if_neg hg
      have e2 : parseE s = 4 := if_neg hg
      rw [e1, e2]
      refine C_ret (fn_endC (vs := [tk (0, 0), .int .i64 4]) _ (.inr rfl) H.drop (fun w' H' => .cellN H' rfl (by repeat (first | exact Reads.nil _ | apply Reads.cons rfl)) (.tmp .nil)) fun w' H' => ⟨rfl, H'.drop⟩)

/-! ### The document's Parse -/

def scan1 (n : Int) (b : UInt8) : Int := (n * 10 + b.toNat - 48).tmod 1000000
def scanStep (st : Int × Int × Bool) (b : UInt8) : Int × Int × Bool := if b = 46 then (st.1, st.2.1, true) else if st.2.2 then (st.1, scan1 st.2.1 b, true) else (scan1 st.1 b, st.2.1, false)
def scanS (l : List UInt8) : Int × Int × Bool := l.foldl scanStep (0, 0, false)
def scanT (s : List UInt8) : Tk := ((scanS (s.drop 1)).1, (scanS (s.drop 1)).2.1)
def rgoodB (s : List UInt8) : Prop := s.length ≤ 20 ∧ rightB (scanT s) = true ∧ textT (scanT s) = s
instance (s : List UInt8) : Decidable (rgoodB s) := by unfold rgoodB; exact inferInstance

theorem scan1_lt (n : Int) (b : UInt8) : -1000000 < scan1 n b ∧ scan1 n b < 1000000 := by
  unfold scan1
  have h1 := Int.tmod_lt_of_pos (n * 10 + b.toNat - 48) (show (0 : Int) < 1000000 by decide)
  have h2 := Int.lt_tmod_of_pos (n * 10 + b.toNat - 48) (show (0 : Int) < 1000000 by decide)
  omega
theorem scanS_lt (l : List UInt8) : -1000000 < (scanS l).1 ∧ (scanS l).1 < 1000000 ∧ -1000000 < (scanS l).2.1 ∧ (scanS l).2.1 < 1000000 := by
  have : ∀ (l : List UInt8) (st : Int × Int × Bool), (-1000000 < st.1 ∧ st.1 < 1000000 ∧ -1000000 < st.2.1 ∧ st.2.1 < 1000000) → (-1000000 < (l.foldl scanStep st).1 ∧ (l.foldl scanStep st).1 < 1000000 ∧ -1000000 < (l.foldl scanStep st).2.1 ∧ (l.foldl scanStep st).2.1 < 1000000) := by
    intro l
    induction l with
    | nil => intro st h; exact h
    | cons b l ih =>
      intro st h
      rw [List.foldl_cons]
      refine ih _ ?_
      have h1 := scan1_lt st.1 b
      have h2 := scan1_lt st.2.1 b
      unfold scanStep
      split
      · exact h
      · split
        · exact ⟨h.1, h.2.1, h2.1, h2.2⟩
        · exact ⟨h1.1, h1.2, h.2.2.1, h.2.2.2⟩
  exact this l (0, 0, false) (by decide)

theorem scan_cell {n : Int} {b : UInt8} (h1 : -1000000 < n) (h2 : n < 1000000) : (IntKind.i64.wrap (IntKind.i64.wrap (IntKind.i64.wrap (n * 10) + IntKind.i64.wrap (b.toNat : Int)) - 48)).tmod 1000000 = scan1 n b := by
  have hb := UInt8.toNat_lt b
  rw [wrap64 (x := n * 10) (by omega) (by omega), wrap64 (x := (b.toNat : Int)) (by omega) (by omega), wrap64 (x := n * 10 + b.toNat) (by omega) (by omega), wrap64 (by omega) (by omega)]
  rfl

theorem rParse_spec [Extra] (s : List UInt8) {w : World} {fr : List HProp} (H : Holds w fr) : Calls Tryd.prog 13 #[str s] w (ret fun v w' => v = .tuple #[tk (if rgoodB s then scanT s else (0, 0)), .bool (decide (rgoodB s))] ∧ Holds w' fr) := by
  refine calls_of Tryd.func13 rfl (by kernel_rfl) ?_
  repeat refine C_seq ?_
  refine C_region ?_
  (refine Lp_s rfl (St_alloc H rfl ?_); clear H; intro b2 w H)
  first | refine Lp_pv rfl rfl ?_ | refine Lp_mv rfl rfl ?_
  refine Lp_nil ?_
  repeat refine C_seq ?_
  refine C_region ?_
  first | refine Lp_pv rfl rfl ?_ | refine Lp_mv rfl rfl ?_
  first | refine Lp_s rfl (St_lenStr rfl rfl ?_) | refine Lp_s rfl (St_lenString rfl rfl ?_)
  refine Lp_pv rfl rfl ?_
  refine Lp_nil ?_
  repeat refine C_seq ?_
  refine C_dec rfl (fun h => ?_) (fun h => C_skip ?_)
  · have hg : ¬ rgoodB s := fun g => by have := g.1; omega
    rw [if_neg hg, decide_eq_false hg]
    repeat refine C_seq ?_
    refine C_region ?_
    refine Lp_s rfl (St_build rfl rfl ?_)
    first | (refine Lp_s rfl (St_store1 H rfl rfl inferInstance rfl (Nat.le_of_ble_eq_true rfl) rfl ?_); clear H; intro w H) | (refine Lp_s rfl (St_storeN H rfl rfl inferInstance rfl rfl (Nat.le_of_ble_eq_true rfl) rfl ?_); clear H; intro w H)
    first | refine Lp_pv rfl rfl ?_ | refine Lp_mv rfl rfl ?_
    refine Lp_nil ?_
    refine C_ret (fn_endC (vs := [tk (0, 0), .bool false]) _ (.inr rfl) H (fun w' H' => .cellN H' rfl (by repeat (first | exact Reads.nil _ | apply Reads.cons rfl)) (.tmp .nil)) fun w' H' => ⟨rfl, H'.drop⟩)
  have hl : s.length ≤ 20 := by omega
  repeat refine C_seq ?_
  refine C_region ?_
  (refine Lp_s rfl (St_alloc H rfl ?_); clear H; intro b4 w H)
  refine Lp_nil ?_
  repeat refine C_seq ?_
  refine C_region ?_
  first | refine Lp_pv rfl rfl ?_ | refine Lp_mv rfl rfl ?_
  refine Lp_nil ?_
  repeat refine C_seq ?_
  refine C_region ?_
  first | refine Lp_pv rfl rfl ?_ | refine Lp_mv rfl rfl ?_
  refine Lp_nil ?_
  repeat refine C_seq ?_
  refine C_block ?_
  refine C_loop (fun ms σ w n => ms = [] ∧ ∃ i : Nat, 1 ≤ i ∧ i ≤ s.length + 1 ∧ n = s.length + 1 - i ∧ σ 0 = str s ∧ σ 2 = pp b2 ∧ σ 4 = pp b4 ∧ σ 5 = .int .i64 (if (scanS ((s.take i).drop 1)).2.2 then 1 else 0) ∧ σ 6 = .int .i64 i ∧
    Holds w (pts b4 (row 49 [.int .i64 (scanS ((s.take i).drop 1)).1, .int .i64 (scanS ((s.take i).drop 1)).2.1]) :: pts b2 (row 23 [.int .i64 0, .int .i64 0]) :: fr)) (m := s.length) ⟨rfl, 1, by omega, by omega, by omega, rfl, rfl, rfl, ?_, rfl, ?_⟩ ?_
  · have : (s.take 1).drop 1 = [] := by rw [List.drop_eq_nil_iff]; simp; omega
    rw [this]; rfl
  · have : (s.take 1).drop 1 = [] := by rw [List.drop_eq_nil_iff]; simp; omega
    rw [this]; exact H
  clear H
  rintro ms σ w n ⟨rfl, i, hi1, hi, rfl, h0, h2, h4, h5, h6, H⟩
  rw [upd_self h0, upd_self h2, upd_self h4, upd_self h5, upd_self h6]
  have hsl := scanS_lt ((s.take i).drop 1)
  repeat refine C_seq ?_
  refine C_region ?_
  first | refine Lp_pv rfl rfl ?_ | refine Lp_mv rfl rfl ?_
  first | refine Lp_pv rfl rfl ?_ | refine Lp_mv rfl rfl ?_
  first | refine Lp_s rfl (St_lenStr rfl rfl ?_) | refine Lp_s rfl (St_lenString rfl rfl ?_)
  refine Lp_pv rfl rfl ?_
  refine Lp_nil ?_
  repeat refine C_seq ?_
  refine C_dec rfl (fun h => C_skip ?_) (fun h => C_exit ?_)
  · have hlt : i < s.length := by omega
    have hb := List.getElem?_eq_getElem hlt
    generalize s[i] = b at hb
    have htk : (s.take (i + 1)).drop 1 = (s.take i).drop 1 ++ [b] := by
      rw [List.take_add_one, hb, List.drop_append_of_le_length (by rw [List.length_take]; omega)]
      rfl
    have hst : scanS ((s.take (i + 1)).drop 1) = scanStep (scanS ((s.take i).drop 1)) b := by
      rw [htk]
      unfold scanS
      rw [List.foldl_append]
      rfl
    generalize scanS ((s.take i).drop 1) = st at H hsl hst
    obtain ⟨n0, n1, part⟩ := st
    dsimp only at H hsl
    unfold scanStep at hst
    dsimp only at hst
    repeat refine C_seq ?_
    refine C_block ?_
    repeat refine C_seq ?_
    refine C_region ?_
    first | refine Lp_pv rfl rfl ?_ | refine Lp_mv rfl rfl ?_
    first | refine Lp_pv rfl rfl ?_ | refine Lp_mv rfl rfl ?_
    refine Lp_s rfl (St_indexStr (b := b) rfl rfl (by omega) hb rfl ?_)
    first | refine Lp_pv rfl rfl ?_ | refine Lp_s rfl (St_eqPtrNil rfl rfl (.inl rfl) rfl ?_) | refine Lp_s rfl (St_eqMapNil rfl rfl (.inl rfl) rfl ?_) | refine Lp_s rfl (St_eqPair rfl rfl (.inl rfl) rfl ?_) | refine Lp_s rfl (St_eqBool rfl rfl (.inl rfl) rfl ?_) | refine Lp_s rfl (St_eqS rfl rfl (.inl rfl) rfl ?_) | refine Lp_s rfl (St_eqSliceNil rfl rfl (.inl rfl) rfl ?_) | refine Lp_s rfl (St_eqStr rfl rfl (.inl rfl) rfl ?_)
    refine Lp_nil ?_
    rw [show ((b.toNat : Int) == 46) = decide (b = 46) from u8_lit (k := 46) (by decide)]
    repeat refine C_seq ?_
    refine C_dec rfl (fun h46 => ?_) (fun h46 => ?_)
    · rw [if_pos h46] at hst
      repeat refine C_seq ?_
      refine C_region ?_
      first | refine Lp_pv rfl rfl ?_ | refine Lp_mv rfl rfl ?_
      refine Lp_nil ?_
      repeat refine C_seq ?_
      refine C_region ?_
      first | refine Lp_pv rfl rfl ?_ | refine Lp_mv rfl rfl ?_
      refine Lp_pv rfl rfl ?_
      first | refine Lp_pv rfl rfl ?_ | refine Lp_mv rfl rfl ?_
      refine Lp_nil ?_
      refine ⟨_, ⟨rfl, i + 1, by omega, by omega, rfl, rfl, rfl, rfl, ?_, inc64 (by omega), ?_⟩, by omega⟩
      · rw [hst]; rfl
      · rw [hst]; exact H
    · rw [if_neg h46] at hst
      cases part with
      | false =>
        repeat refine C_seq ?_
        refine C_drawH H mixed ?_
        clear H; intro w H
        refine A_pv 0 rfl (Wants.none rfl) rfl (by kernel_rfl) ?_
        refine A_pv 1 rfl (Wants.none rfl) rfl (by kernel_rfl) ?_
        refine A_indexArr 2 rfl (Wants.none rfl) rfl rfl (by simp) (by simp) (by kernel_rfl) ?_
        first | refine A_load1 3 [13] H rfl (Wants.none rfl) rfl rfl (by kernel_rfl) ?_ | refine A_loadN 3 [13] H rfl (Wants.none rfl) rfl (by repeat (first | exact Reads.nil _ | apply Reads.cons rfl)) (by kernel_rfl) ?_
        refine A_pv 4 rfl (Wants.none rfl) rfl (by kernel_rfl) ?_
        refine A_pv 5 rfl (Wants.none rfl) rfl (by kernel_rfl) ?_
        refine A_pv 6 rfl (Wants.none rfl) rfl (by kernel_rfl) ?_
        refine A_indexStr (b := b) 7 rfl (Wants.none rfl) rfl rfl (by omega) hb (by kernel_rfl) ?_
        refine A_convI 8 rfl (Wants.none rfl) rfl (by kernel_rfl) ?_
        refine A_pv 9 rfl (Wants.none rfl) rfl (by kernel_rfl) ?_
        refine A_pv 10 rfl (Wants.none rfl) rfl (by kernel_rfl) ?_
        refine A_pv 11 rfl (Wants.none rfl) rfl (by kernel_rfl) ?_
        refine A_indexArr 12 rfl (Wants.none rfl) rfl rfl (by simp) (by simp) (by kernel_rfl) ?_
        refine A_one 13 rfl (by kernel_rfl) (by repeat (first | exact InvL.nil | refine InvL.cons (.inr (Holds.at H)) ?_ | refine InvL.cons (.inr (Holds.mp H)) ?_ | refine InvL.cons (.inl (by kernel_rfl)) ?_)) (Wants.none rfl) (St_store1 H rfl rfl inferInstance rfl (Nat.le_of_ble_eq_true rfl) rfl ?_); clear H; intro w H
        refine A_end (by kernel_rfl) (by repeat (first | exact InvL.nil | refine InvL.cons (.inr (Holds.at H)) ?_ | refine InvL.cons (.inr (Holds.mp H)) ?_ | refine InvL.cons (.inl (by kernel_rfl)) ?_)) ?_
        replace H : Holds w (pts b4 (row 49 [.int .i64 ((IntKind.i64.wrap (IntKind.i64.wrap (IntKind.i64.wrap (n0 * 10) + IntKind.i64.wrap (b.toNat : Int)) - 48)).tmod 1000000), .int .i64 n1]) :: pts b2 (row 23 [.int .i64 0, .int .i64 0]) :: fr) := H
        rw [scan_cell hsl.1 hsl.2.1] at H
        repeat refine C_seq ?_
        refine C_region ?_
        first | refine Lp_pv rfl rfl ?_ | refine Lp_mv rfl rfl ?_
        refine Lp_pv rfl rfl ?_
        first | refine Lp_pv rfl rfl ?_ | refine Lp_mv rfl rfl ?_
        refine Lp_nil ?_
        refine ⟨_, ⟨rfl, i + 1, by omega, by omega, rfl, rfl, rfl, rfl, ?_, inc64 (by omega), ?_⟩, by omega⟩
        · rw [hst]; rfl
        · rw [hst]; exact H
      | true =>
        repeat refine C_seq ?_
        refine C_drawH H mixed ?_
        clear H; intro w H
        refine A_pv 0 rfl (Wants.none rfl) rfl (by kernel_rfl) ?_
        refine A_pv 1 rfl (Wants.none rfl) rfl (by kernel_rfl) ?_
        refine A_indexArr 2 rfl (Wants.none rfl) rfl rfl (by simp) (by simp) (by kernel_rfl) ?_
        first | refine A_load1 3 [13] H rfl (Wants.none rfl) rfl rfl (by kernel_rfl) ?_ | refine A_loadN 3 [13] H rfl (Wants.none rfl) rfl (by repeat (first | exact Reads.nil _ | apply Reads.cons rfl)) (by kernel_rfl) ?_
        refine A_pv 4 rfl (Wants.none rfl) rfl (by kernel_rfl) ?_
        refine A_pv 5 rfl (Wants.none rfl) rfl (by kernel_rfl) ?_
        refine A_pv 6 rfl (Wants.none rfl) rfl (by kernel_rfl) ?_
        refine A_indexStr (b := b) 7 rfl (Wants.none rfl) rfl rfl (by omega) hb (by kernel_rfl) ?_
        refine A_convI 8 rfl (Wants.none rfl) rfl (by kernel_rfl) ?_
        refine A_pv 9 rfl (Wants.none rfl) rfl (by kernel_rfl) ?_
        refine A_pv 10 rfl (Wants.none rfl) rfl (by kernel_rfl) ?_
        refine A_pv 11 rfl (Wants.none rfl) rfl (by kernel_rfl) ?_
        refine A_indexArr 12 rfl (Wants.none rfl) rfl rfl (by simp) (by simp) (by kernel_rfl) ?_
        refine A_one 13 rfl (by kernel_rfl) (by repeat (first | exact InvL.nil | refine InvL.cons (.inr (Holds.at H)) ?_ | refine InvL.cons (.inr (Holds.mp H)) ?_ | refine InvL.cons (.inl (by kernel_rfl)) ?_)) (Wants.none rfl) (St_store1 H rfl rfl inferInstance rfl (Nat.le_of_ble_eq_true rfl) rfl ?_); clear H; intro w H
        refine A_end (by kernel_rfl) (by repeat (first | exact InvL.nil | refine InvL.cons (.inr (Holds.at H)) ?_ | refine InvL.cons (.inr (Holds.mp H)) ?_ | refine InvL.cons (.inl (by kernel_rfl)) ?_)) ?_
        replace H : Holds w (pts b4 (row 49 [.int .i64 n0, .int .i64 ((IntKind.i64.wrap (IntKind.i64.wrap (IntKind.i64.wrap (n1 * 10) + IntKind.i64.wrap (b.toNat : Int)) - 48)).tmod 1000000)]) :: pts b2 (row 23 [.int .i64 0, .int .i64 0]) :: fr) := H
        rw [scan_cell hsl.2.2.1 hsl.2.2.2] at H
        repeat refine C_seq ?_
        refine C_region ?_
        first | refine Lp_pv rfl rfl ?_ | refine Lp_mv rfl rfl ?_
        refine Lp_pv rfl rfl ?_
        first | refine Lp_pv rfl rfl ?_ | refine Lp_mv rfl rfl ?_
        refine Lp_nil ?_
        refine ⟨_, ⟨rfl, i + 1, by omega, by omega, rfl, rfl, rfl, rfl, ?_, inc64 (by omega), ?_⟩, by omega⟩
        · rw [hst]; rfl
        · rw [hst]; exact H
  · have hge : s.length ≤ i := by omega
    rw [List.take_of_length_le hge] at H hsl ⊢
    repeat refine C_seq ?_
    refine C_region ?_
    refine Lp_s rfl (St_indexArr rfl rfl (by decide) (by decide) rfl ?_)
    first | refine Lp_s rfl (St_load1 H rfl rfl rfl ?_) | refine Lp_s rfl (St_loadN H rfl (by repeat (first | exact Reads.nil _ | apply Reads.cons rfl)) rfl ?_)
    refine Lp_s rfl (St_indexArr rfl rfl (by decide) (by decide) rfl ?_)
    first | refine Lp_s rfl (St_load1 H rfl rfl rfl ?_) | refine Lp_s rfl (St_loadN H rfl (by repeat (first | exact Reads.nil _ | apply Reads.cons rfl)) rfl ?_)
    refine Lp_s rfl (St_build rfl rfl ?_)
    (refine Lp_s rfl (St_alloc H rfl ?_); clear H; intro b7 w H)
    first | (refine Lp_s rfl (St_store1 H rfl rfl inferInstance rfl (Nat.le_of_ble_eq_true rfl) rfl ?_); clear H; intro w H) | (refine Lp_s rfl (St_storeN H rfl rfl inferInstance rfl rfl (Nat.le_of_ble_eq_true rfl) rfl ?_); clear H; intro w H)
    refine Lp_nil ?_
    repeat refine C_seq ?_
    refine C_region ?_
    first | refine Lp_s rfl (St_load1 H rfl rfl rfl ?_) | refine Lp_s rfl (St_loadN H rfl (by repeat (first | exact Reads.nil _ | apply Reads.cons rfl)) rfl ?_)
    refine Lp_s rfl (St_call (a := []) (b := []) rfl rfl (call (rRight_spec (scanT s) H) ?_))
    clear H; rintro v w ⟨rfl, H⟩
    first | refine Lp_pv rfl rfl ?_ | refine Lp_mv rfl rfl ?_
    refine Lp_nil ?_
    cases hr : rightB (scanT s) with
    | false =>
      have hg : ¬ rgoodB s := fun g => by rw [g.2.1] at hr; cases hr
      rw [if_neg hg, decide_eq_false hg]
      repeat refine C_seq ?_
      refine C_region ?_
      first | refine Lp_pv rfl rfl ?_ | refine Lp_mv rfl rfl ?_
      refine Lp_pv rfl rfl ?_
      first | refine Lp_pv rfl rfl ?_ | refine Lp_mv rfl rfl ?_
      first | refine Lp_g rfl rfl rfl (St_load1 H rfl rfl rfl ?_) | refine Lp_g rfl rfl rfl (St_loadN H rfl (by repeat (first | exact Reads.nil _ | apply Reads.cons rfl)) rfl ?_) | refine Lp_no rfl rfl rfl ?_ | refine Lp_nn rfl rfl ?_
      refine Lp_no rfl rfl rfl ?_
      first | refine Lp_gpv rfl rfl rfl rfl ?_ | refine Lp_no rfl rfl rfl ?_ | refine Lp_nn rfl rfl ?_
      first | refine Lp_gpv rfl rfl rfl rfl ?_ | refine Lp_g rfl rfl rfl (St_eqPtrNil rfl rfl (.inr rfl) rfl ?_) | refine Lp_g rfl rfl rfl (St_eqMapNil rfl rfl (.inr rfl) rfl ?_) | refine Lp_g rfl rfl rfl (St_eqPair rfl rfl (.inr rfl) rfl ?_) | refine Lp_g rfl rfl rfl (St_eqBool rfl rfl (.inr rfl) rfl ?_) | refine Lp_g rfl rfl rfl (St_eqS rfl rfl (.inr rfl) rfl ?_) | refine Lp_g rfl rfl rfl (St_eqSliceNil rfl rfl (.inr rfl) rfl ?_) | refine Lp_g rfl rfl rfl (St_eqStr rfl rfl (.inr rfl) rfl ?_) | refine Lp_no rfl rfl rfl ?_ | refine Lp_nn rfl rfl ?_
      refine Lp_pv rfl rfl ?_
      refine Lp_nil ?_
      repeat refine C_seq ?_
      refine C_true rfl ?_
      repeat refine C_seq ?_
      refine C_region ?_
      refine Lp_s rfl (St_build rfl rfl ?_)
      first | (refine Lp_s rfl (St_store1 H rfl rfl inferInstance rfl (Nat.le_of_ble_eq_true rfl) rfl ?_); clear H; intro w H) | (refine Lp_s rfl (St_storeN H rfl rfl inferInstance rfl rfl (Nat.le_of_ble_eq_true rfl) rfl ?_); clear H; intro w H)
      first | refine Lp_pv rfl rfl ?_ | refine Lp_mv rfl rfl ?_
      refine Lp_nil ?_
      replace H := Holds.sel [2] 2 H; dsimp only [SL.sel, SL.pull, List.drop] at H
      refine C_ret (fn_endC (vs := [tk (0, 0), .bool false]) _ (.inr rfl) H (fun w' H' => .cellN H' rfl (by repeat (first | exact Reads.nil _ | apply Reads.cons rfl)) (.tmp .nil)) fun w' H' => ⟨rfl, H'.drop⟩)
    | true =>
      obtain ⟨a, g, e, g1, g2, g3⟩ := right_nat hr
      have e1 : (scanS (s.drop 1)).1 = (a : Int) := congrArg Prod.fst e
      have e2 : (scanS (s.drop 1)).2.1 = (g : Int) := congrArg Prod.snd e
      rw [e1, e2] at H
      repeat refine C_seq ?_
      refine C_region ?_
      first | refine Lp_pv rfl rfl ?_ | refine Lp_mv rfl rfl ?_
      refine Lp_pv rfl rfl ?_
      first | refine Lp_pv rfl rfl ?_ | refine Lp_mv rfl rfl ?_
      first | refine Lp_g rfl rfl rfl (St_load1 H rfl rfl rfl ?_) | refine Lp_g rfl rfl rfl (St_loadN H rfl (by repeat (first | exact Reads.nil _ | apply Reads.cons rfl)) rfl ?_) | refine Lp_no rfl rfl rfl ?_ | refine Lp_nn rfl rfl ?_
      refine Lp_g rfl rfl rfl (St_call (a := []) (b := []) rfl rfl (call (rText_spec a g g1 g3 H) ?_))
      clear H; rintro v w ⟨rfl, H⟩
      first | refine Lp_gpv rfl rfl rfl rfl ?_ | refine Lp_no rfl rfl rfl ?_ | refine Lp_nn rfl rfl ?_
      first | refine Lp_gpv rfl rfl rfl rfl ?_ | refine Lp_g rfl rfl rfl (St_eqPtrNil rfl rfl (.inr rfl) rfl ?_) | refine Lp_g rfl rfl rfl (St_eqMapNil rfl rfl (.inr rfl) rfl ?_) | refine Lp_g rfl rfl rfl (St_eqPair rfl rfl (.inr rfl) rfl ?_) | refine Lp_g rfl rfl rfl (St_eqBool rfl rfl (.inr rfl) rfl ?_) | refine Lp_g rfl rfl rfl (St_eqS rfl rfl (.inr rfl) rfl ?_) | refine Lp_g rfl rfl rfl (St_eqSliceNil rfl rfl (.inr rfl) rfl ?_) | refine Lp_g rfl rfl rfl (St_eqStr rfl rfl (.inr rfl) rfl ?_) | refine Lp_no rfl rfl rfl ?_ | refine Lp_nn rfl rfl ?_
      refine Lp_pv rfl rfl ?_
      refine Lp_nil ?_
      rw [← e]
      repeat refine C_seq ?_
      refine C_cond rfl (fun h => ?_) (fun h => C_skip ?_)
      · have hne : textT (scanT s) ≠ s := by simpa [isEql] using h
        have hg : ¬ rgoodB s := fun g => hne g.2.2
        rw [if_neg hg, decide_eq_false hg]
        repeat refine C_seq ?_
        refine C_region ?_
        refine Lp_s rfl (St_build rfl rfl ?_)
        first | (refine Lp_s rfl (St_store1 H rfl rfl inferInstance rfl (Nat.le_of_ble_eq_true rfl) rfl ?_); clear H; intro w H) | (refine Lp_s rfl (St_storeN H rfl rfl inferInstance rfl rfl (Nat.le_of_ble_eq_true rfl) rfl ?_); clear H; intro w H)
        first | refine Lp_pv rfl rfl ?_ | refine Lp_mv rfl rfl ?_
        refine Lp_nil ?_
        replace H := Holds.sel [2] 2 H; dsimp only [SL.sel, SL.pull, List.drop] at H
        refine C_ret (fn_endC (vs := [tk (0, 0), .bool false]) _ (.inr rfl) H (fun w' H' => .cellN H' rfl (by repeat (first | exact Reads.nil _ | apply Reads.cons rfl)) (.tmp .nil)) fun w' H' => ⟨rfl, H'.drop⟩)
      · have hne : textT (scanT s) = s := by simpa [isEql] using h
        have hg : rgoodB s := ⟨hl, hr, hne⟩
        rw [if_pos hg, decide_eq_true hg, e]
        repeat refine C_seq ?_
        refine C_region ?_
        first | refine Lp_s rfl (St_load1 H rfl rfl rfl ?_) | refine Lp_s rfl (St_loadN H rfl (by repeat (first | exact Reads.nil _ | apply Reads.cons rfl)) rfl ?_)
        first | (refine Lp_s rfl (St_store1 H rfl rfl inferInstance rfl (Nat.le_of_ble_eq_true rfl) rfl ?_); clear H; intro w H) | (refine Lp_s rfl (St_storeN H rfl rfl inferInstance rfl rfl (Nat.le_of_ble_eq_true rfl) rfl ?_); clear H; intro w H)
        first | refine Lp_pv rfl rfl ?_ | refine Lp_mv rfl rfl ?_
        refine Lp_nil ?_
        replace H := Holds.sel [2] 2 H; dsimp only [SL.sel, SL.pull, List.drop] at H
        refine C_ret (fn_endC (vs := [tk ((a : Int), (g : Int)), .bool true]) _ (.inr rfl) H (fun w' H' => .cellN H' rfl (by repeat (first | exact Reads.nil _ | apply Reads.cons rfl)) (.tmp .nil)) fun w' H' => ⟨rfl, H'.drop⟩)
end Go.Proofs.YtdpephigccnkdaaDoor
