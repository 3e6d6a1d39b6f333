/- Tokens: a token's text. No condition. -/
import Derived.Test.YtdpephigccnkdaaDoorTokC
set_option linter.unusedVariables false
set_option linter.unusedSimpArgs false
set_option linter.unusedSectionVars false
namespace Go.Proofs.YtdpephigccnkdaaDoor
open Go.SL

theorem dec_small {u : Nat} (h : u < 10) : Lib.decDigits u = [UInt8.ofNat (48 + u)] := by rw [Lib.decDigits, dif_pos h]
theorem dec_big {u : Nat} (h : ¬ u < 10) : Lib.decDigits u = Lib.decDigits (u / 10) ++ [UInt8.ofNat (48 + u % 10)] := by rw [Lib.decDigits, dif_neg h]
theorem dec_length : ∀ (k u : Nat), u < k → (Lib.decDigits u).length ≤ u + 1
  | 0, u, h => by omega
  | k + 1, u, h => by
    by_cases h10 : u < 10
    · rw [dec_small h10]; simp
    · rw [dec_big h10, List.length_append]
      have := dec_length k (u / 10) (by omega)
      simp only [List.length_singleton]
      omega
theorem dec_len (u : Nat) : (Lib.decDigits u).length ≤ u + 1 := dec_length (u + 1) u (by omega)

theorem digit_cell (m : Nat) : IntKind.u8.wrap (IntKind.i64.wrap (48 + (m : Int).tmod 10)) = ((UInt8.ofNat (48 + m % 10)).toNat : Int) := by
  have e : (m : Int).tmod 10 = ((m % 10 : Nat) : Int) := by
    rw [Int.tmod_eq_emod_of_nonneg (by omega)]; omega
  rw [e, wrap64 (by omega) (by omega)]
  have : (UInt8.ofNat (48 + m % 10)).toNat = 48 + m % 10 := by
    simp
    omega
  rw [this]
  simp [IntKind.wrap, IntKind.bits, IntKind.signed]
  omega

theorem Digits_spec [Extra] (u : Nat) (hu : u < 4611686018427387904) {w : World} {fr : List HProp} (H : Holds w fr) : Calls Tryd.prog 19 #[.int .i64 u] w (ret fun v w' => v = str (Lib.decDigits u) ∧ Holds w' fr) := by
  refine calls_of Tryd.func19 rfl (by kernel_rfl) ?_
  repeat refine C_seq ?_
  refine C_region ?_
  first | refine Lp_pv rfl rfl ?_ | refine Lp_mv rfl rfl ?_
  refine Lp_nil ?_
  repeat refine C_seq ?_
  refine C_region ?_
  first | refine Lp_pv rfl rfl ?_ | refine Lp_mv rfl rfl ?_
  refine Lp_nil ?_
  repeat refine C_seq ?_
  refine C_block ?_
  refine C_loop (fun ms σ w n => ms = [] ∧ ∃ (m : Nat) (acc : List UInt8), n = m + (if acc = [] then 1 else 0) ∧ m + acc.length ≤ u + 1 ∧ (0 < m ∨ acc = [] → Lib.decDigits u = Lib.decDigits m ++ acc) ∧ (¬ (0 < m ∨ acc = []) → Lib.decDigits u = acc) ∧ σ 0 = .int .i64 m ∧ σ 3 = str acc ∧ Holds w fr) (m := u + 1) ⟨rfl, u, [], by simp, by simp, by simp, by simp, rfl, rfl, H⟩ ?_
  clear H
  rintro ms σ w n ⟨rfl, m, acc, rfl, hlen, hgo, hend, h0, h3, H⟩
  rw [upd_self h0, upd_self h3]
  repeat refine C_seq ?_
  refine C_join (fun ms σ w => ms = [] ∧ σ 0 = .int .i64 m ∧ σ 3 = str acc ∧ σ 9 = .bool (decide (0 < m ∨ acc = [])) ∧ Holds w fr) ?_ ?_
  · repeat refine C_seq ?_
    refine C_region ?_
    first | refine Lp_pv rfl rfl ?_ | refine Lp_mv rfl rfl ?_
    refine Lp_pv rfl rfl ?_
    by_cases h : (m : Int) > 0
    · rw [decide_eq_true h]
      first | refine Lp_pv rfl rfl ?_ | refine Lp_mv rfl rfl ?_
      first | refine Lp_gpv rfl rfl rfl rfl ?_ | refine Lp_no rfl rfl rfl ?_ | refine Lp_nn rfl rfl ?_
      first | refine Lp_gpv rfl rfl rfl rfl ?_ | refine Lp_g rfl rfl rfl (St_eqPtrNil rfl rfl (.inl rfl) rfl ?_) | refine Lp_g rfl rfl rfl (St_eqMapNil rfl rfl (.inl rfl) rfl ?_) | refine Lp_g rfl rfl rfl (St_eqPair rfl rfl (.inl rfl) rfl ?_) | refine Lp_g rfl rfl rfl (St_eqBool rfl rfl (.inl rfl) rfl ?_) | refine Lp_g rfl rfl rfl (St_eqS rfl rfl (.inl rfl) rfl ?_) | refine Lp_g rfl rfl rfl (St_eqSliceNil rfl rfl (.inl rfl) rfl ?_) | refine Lp_g rfl rfl rfl (St_eqStr rfl rfl (.inl rfl) rfl ?_) | refine Lp_no rfl rfl rfl ?_ | refine Lp_nn rfl rfl ?_
      refine Lp_pv rfl rfl ?_
      refine Lp_nil ?_
      refine ⟨rfl, rfl, rfl, rfl, ?_, H⟩
      rw [decide_eq_true (show 0 < m ∨ acc = [] from .inl (by omega))]
      rfl
    · rw [decide_eq_false h]
      first | refine Lp_pv rfl rfl ?_ | refine Lp_mv rfl rfl ?_
      first | refine Lp_gpv rfl rfl rfl rfl ?_ | refine Lp_no rfl rfl rfl ?_ | refine Lp_nn rfl rfl ?_
      first | refine Lp_gpv rfl rfl rfl rfl ?_ | refine Lp_g rfl rfl rfl (St_eqPtrNil rfl rfl (.inl rfl) rfl ?_) | refine Lp_g rfl rfl rfl (St_eqMapNil rfl rfl (.inl rfl) rfl ?_) | refine Lp_g rfl rfl rfl (St_eqPair rfl rfl (.inl rfl) rfl ?_) | refine Lp_g rfl rfl rfl (St_eqBool rfl rfl (.inl rfl) rfl ?_) | refine Lp_g rfl rfl rfl (St_eqS rfl rfl (.inl rfl) rfl ?_) | refine Lp_g rfl rfl rfl (St_eqSliceNil rfl rfl (.inl rfl) rfl ?_) | refine Lp_g rfl rfl rfl (St_eqStr rfl rfl (.inl rfl) rfl ?_) | refine Lp_no rfl rfl rfl ?_ | refine Lp_nn rfl rfl ?_
      refine Lp_pv rfl rfl ?_
      refine Lp_nil ?_
      refine ⟨rfl, rfl, rfl, rfl, ?_, H⟩
      show Value.bool (decide (acc = [])) = _
      congr 1
      exact decide_eq_decide.2 ⟨.inr, fun h' => h'.resolve_left (by omega)⟩
  · clear H
    rintro ms σ w ⟨rfl, h0, h3, h9, H⟩
    rw [upd_self h0, upd_self h3, upd_self h9]
    refine C_dec rfl (fun h => C_skip ?_) (fun h => C_exit ?_)
    · have hg := hgo h
      repeat refine C_seq ?_
      refine C_block ?_
      repeat refine C_seq ?_
      refine C_region ?_
      first | refine Lp_pv rfl rfl ?_ | refine Lp_mv rfl rfl ?_
      refine Lp_pv rfl rfl ?_
      refine Lp_pv rfl rfl ?_
      refine Lp_s rfl (St_convI rfl rfl ?_)
      (refine Lp_s rfl (St_buildSlice H rfl rfl rfl ?_); clear H; intro b14 w H)
      rw [digit_cell] at H
      refine Lp_s rfl (St_toStr (a := [UInt8.ofNat (48 + m % 10)]) H rfl rfl (by repeat (first | exact Reads.nil _ | apply Reads.cons rfl)) rfl ?_)
      first | refine Lp_pv rfl rfl ?_ | refine Lp_mv rfl rfl ?_
      refine Lp_s rfl (St_concat rfl rfl (by simp only [List.length_singleton]; omega) rfl ?_)
      first | refine Lp_pv rfl rfl ?_ | refine Lp_mv rfl rfl ?_
      refine Lp_nil ?_
      repeat refine C_seq ?_
      refine C_region ?_
      first | refine Lp_pv rfl rfl ?_ | refine Lp_mv rfl rfl ?_
      refine Lp_pv rfl rfl ?_
      first | refine Lp_pv rfl rfl ?_ | refine Lp_mv rfl rfl ?_
      refine Lp_nil ?_
      have em : IntKind.i64.wrap ((m : Int).tdiv 10) = ((m / 10 : Nat) : Int) := by
        have e : (m : Int).tdiv 10 = ((m / 10 : Nat) : Int) := by
          rw [Int.tdiv_eq_ediv_of_nonneg (by omega)]; omega
        rw [e, wrap64 (by omega) (by omega)]
      have hne : UInt8.ofNat (48 + m % 10) :: acc ≠ [] := by simp
      have hmeas : m / 10 + (if UInt8.ofNat (48 + m % 10) :: acc = [] then 1 else 0) < m + (if acc = [] then 1 else 0) := by
        rw [if_neg hne]
        rcases h with h | h
        · split <;> omega
        · rw [if_pos h]; omega
      refine ⟨_, ⟨rfl, m / 10, UInt8.ofNat (48 + m % 10) :: acc, rfl, ?_, ?_, ?_, ?_, rfl, H.drop⟩, hmeas⟩
      · rw [List.length_cons]
        rcases h with h | h
        · omega
        · rw [h] at hlen ⊢
          simp at hlen ⊢
          omega
      · rintro (h' | h')
        · rw [hg, dec_big (u := m) (by omega)]
          simp
        · exact absurd h' hne
      · intro h'
        rw [hg, dec_small (u := m) (by omega), show m % 10 = m by omega]
        rfl
      · rw [← em]; rfl
    · repeat refine C_seq ?_
      refine C_region ?_
      first | refine Lp_pv rfl rfl ?_ | refine Lp_mv rfl rfl ?_
      first | refine Lp_pv rfl rfl ?_ | refine Lp_mv rfl rfl ?_
      refine Lp_nil ?_
      exact C_ret (fn_end0 _ (.inr rfl) H rfl fun w' H' => ⟨by rw [hend h]; rfl, H'⟩)

/-- The table of powers reads as it was laid. -/
def Pow (W : World) : Prop := Lib.TabIs Tryd.prog W "internal/strconv.uint64pow10" .u64 Lib.pow10Tab

theorem Pow.on [Extra] {W w : World} {fr : List HProp} (h : Pow W) (H : Holds w (old W :: fr)) : Pow w := by
  unfold Pow Lib.TabIs World.var? at *
  obtain ⟨g, hg, h2⟩ := Option.bind_eq_some_iff.1 h
  have hlt : g < W.heap.size := by
    rcases Nat.lt_or_ge g W.heap.size with h | h
    · exact h
    · rw [Array.getElem?_eq_none h] at h2
      cases h2
  rw [hg, Option.bind_some, H.old hlt]
  exact h2

/-- The text of a right token's number. -/
theorem Itoa_spec [Extra] {W : World} (hp : Pow W) (n : Nat) (hn : n ≤ 1000000) {w : World} {fr : List HProp} (H : Holds w (old W :: fr)) : Calls Tryd.prog 18 #[.int .i64 n] w (ret fun v w' => v = str (Lib.decDigits n) ∧ Holds w' (old W :: fr)) := by
  refine (Any.strconv_Itoa Tryd.laysItoa n (by omega) (by omega) w (hp.on H)).mono ?_
  rintro e w' ⟨rfl, k, os, rfl⟩
  refine ⟨?_, Holds.grow H⟩
  have : Lib.itoa (n : Int) = Lib.decDigits n := by
    unfold Lib.itoa
    rw [if_neg (by omega)]
    rfl
  rw [this]

/-- A right token's text. -/
def textT (t : Tk) : List UInt8 := [35] ++ Lib.decDigits t.1.toNat ++ [46] ++ Lib.decDigits t.2.toNat

theorem right_nat {t : Tk} (h : rightB t = true) : ∃ a g : Nat, t = ((a : Int), (g : Int)) ∧ a ≤ 4095 ∧ 1 ≤ g ∧ g ≤ 255 := by
  have h := of_decide_eq_true h
  obtain ⟨a, g⟩ := t
  dsimp only at h
  exact ⟨a.toNat, g.toNat, Prod.ext (by dsimp only; omega) (by dsimp only; omega), by omega, by omega, by omega⟩

theorem Text_spec [Extra] {W : World} (hp : Pow W) (t : Tk) {w : World} {fr : List HProp} (H : Holds w (old W :: fr)) : Calls Tryd.prog 8 #[tk t] w (ret fun v w' => v = .tuple #[str (if rightB t then textT t else []), .int .i64 (if rightB t then 0 else 3)] ∧ Holds w' (old W :: fr)) := by
  obtain ⟨t1, t2⟩ := t
  refine calls_of Tryd.func8 rfl (by kernel_rfl) ?_
  repeat refine C_seq ?_
  refine C_region ?_
  first | (refine Lp_s rfl (St_boxN H rfl rfl ?_); clear H; intro b1 w H) | (refine Lp_s rfl (St_box1 H rfl rfl rfl ?_); clear H; intro b1 w H)
  first | refine Lp_pv rfl rfl ?_ | refine Lp_mv rfl rfl ?_
  first | refine Lp_pv rfl rfl ?_ | refine Lp_mv rfl rfl ?_
  refine Lp_nil ?_
  repeat refine C_seq ?_
  refine C_region ?_
  first | refine Lp_s rfl (St_load1 H rfl rfl rfl ?_) | refine Lp_s rfl (St_loadN H rfl (by repeat (first | exact Reads.nil _ | apply Reads.cons rfl)) rfl ?_)
  refine Lp_s rfl (St_call (a := []) (b := []) rfl rfl (call (Right_spec (t1, t2) H) ?_))
  clear H; rintro v w ⟨rfl, H⟩
  refine Lp_pv rfl rfl ?_
  refine Lp_nil ?_
  cases hr : rightB (t1, t2) with
  | false =>
    repeat refine C_seq ?_
    refine C_true rfl ?_
    repeat refine C_seq ?_
    refine C_region ?_
    first | refine Lp_pv rfl rfl ?_ | refine Lp_mv rfl rfl ?_
    first | refine Lp_pv rfl rfl ?_ | refine Lp_mv rfl rfl ?_
    refine Lp_nil ?_
    exact C_ret (fn_end0 _ (.inr rfl) H.drop rfl fun w' H' => ⟨rfl, H'⟩)
  | true =>
    obtain ⟨a, g, e, h1, h2, h3⟩ := right_nat hr
    obtain ⟨rfl, rfl⟩ := Prod.mk.injEq .. ▸ e
    have l1 := dec_len a
    have l2 := dec_len g
    repeat refine C_seq ?_
    refine C_false rfl (C_skip ?_)
    repeat refine C_seq ?_
    refine C_drawH H mixed ?_
    clear H; intro w H
    refine A_fieldAddr 0 rfl (Wants.none rfl) rfl (by kernel_rfl) ?_
    first | refine A_load1 1 [2, 7] H rfl (Wants.none rfl) rfl rfl (by kernel_rfl) ?_ | refine A_loadN 1 [2, 7] H rfl (Wants.none rfl) rfl (by repeat (first | exact Reads.nil _ | apply Reads.cons rfl)) (by kernel_rfl) ?_
    refine A_fieldAddr 5 rfl (Wants.none rfl) rfl (by kernel_rfl) ?_
    first | refine A_load1 6 [7] H rfl (Wants.none rfl) rfl rfl (by kernel_rfl) ?_ | refine A_loadN 6 [7] H rfl (Wants.none rfl) rfl (by repeat (first | exact Reads.nil _ | apply Reads.cons rfl)) (by kernel_rfl) ?_
    refine A_one 2 rfl (by kernel_rfl) (by repeat (first | exact InvL.nil | refine InvL.cons (.inr (Holds.at H)) ?_ | refine InvL.cons (.inr (Holds.mp H)) ?_ | refine InvL.cons (.inl (by kernel_rfl)) ?_)) (Wants.none rfl) (St_call (a := []) (b := []) rfl rfl (call (Itoa_spec hp a (by omega) H.swap) ?_))
    clear H; rintro v w ⟨rfl, H⟩
    refine A_concat 3 rfl (Wants.none rfl) rfl rfl (by simp only [List.length_singleton]; omega) (by kernel_rfl) ?_
    refine A_concat 4 rfl (Wants.none rfl) rfl rfl (by simp only [List.length_append, List.length_singleton]; omega) (by kernel_rfl) ?_
    refine A_one 7 rfl (by kernel_rfl) (by repeat (first | exact InvL.nil | refine InvL.cons (.inr (Holds.at H)) ?_ | refine InvL.cons (.inr (Holds.mp H)) ?_ | refine InvL.cons (.inl (by kernel_rfl)) ?_)) (Wants.none rfl) (St_call (a := []) (b := []) rfl rfl (call (Itoa_spec hp g (by omega) H) ?_))
    clear H; rintro v w ⟨rfl, H⟩
    refine A_concat 8 rfl (Wants.none rfl) rfl rfl (by simp only [List.length_append, List.length_singleton]; omega) (by kernel_rfl) ?_
    refine A_pv 9 rfl (Wants.none rfl) rfl (by kernel_rfl) ?_
    refine A_pv 10 rfl (Wants.none rfl) rfl (by kernel_rfl) ?_
    refine A_end (by kernel_rfl) (by repeat (first | exact InvL.nil | refine InvL.cons (.inr (Holds.at H)) ?_ | refine InvL.cons (.inr (Holds.mp H)) ?_ | refine InvL.cons (.inl (by kernel_rfl)) ?_)) ?_
    replace H := H.swap.drop
    exact C_ret (fn_end0 _ (.inr rfl) H rfl fun w' H' => ⟨rfl, H'⟩)

theorem rText_spec [Extra] (a g : Nat) (ha : a ≤ 4095) (hg : g ≤ 255) {w : World} {fr : List HProp} (H : Holds w fr) : Calls Tryd.prog 11 #[tk ((a : Int), (g : Int))] w (ret fun v w' => v = str (textT ((a : Int), (g : Int))) ∧ Holds w' fr) := by
  have l1 := dec_len a
  have l2 := dec_len g
  refine calls_of Tryd.func11 rfl (by kernel_rfl) ?_
  repeat refine C_seq ?_
  refine C_region ?_
  first | (refine Lp_s rfl (St_boxN H rfl rfl ?_); clear H; intro b1 w H) | (refine Lp_s rfl (St_box1 H rfl rfl rfl ?_); clear H; intro b1 w H)
  first | refine Lp_pv rfl rfl ?_ | refine Lp_mv rfl rfl ?_
  refine Lp_nil ?_
  repeat refine C_seq ?_
  refine C_drawH H mixed ?_
  clear H; intro w H
  refine A_fieldAddr 0 rfl (Wants.none rfl) rfl (by kernel_rfl) ?_
  first | refine A_load1 1 [2, 7] H rfl (Wants.none rfl) rfl rfl (by kernel_rfl) ?_ | refine A_loadN 1 [2, 7] H rfl (Wants.none rfl) rfl (by repeat (first | exact Reads.nil _ | apply Reads.cons rfl)) (by kernel_rfl) ?_
  refine A_fieldAddr 5 rfl (Wants.none rfl) rfl (by kernel_rfl) ?_
  first | refine A_load1 6 [7] H rfl (Wants.none rfl) rfl rfl (by kernel_rfl) ?_ | refine A_loadN 6 [7] H rfl (Wants.none rfl) rfl (by repeat (first | exact Reads.nil _ | apply Reads.cons rfl)) (by kernel_rfl) ?_
  refine A_one 2 rfl (by kernel_rfl) (by repeat (first | exact InvL.nil | refine InvL.cons (.inr (Holds.at H)) ?_ | refine InvL.cons (.inr (Holds.mp H)) ?_ | refine InvL.cons (.inl (by kernel_rfl)) ?_)) (Wants.none rfl) (St_call (a := []) (b := []) rfl rfl (call (Digits_spec a (by omega) H) ?_))
  clear H; rintro v w ⟨rfl, H⟩
  refine A_concat 3 rfl (Wants.none rfl) rfl rfl (by simp only [List.length_singleton]; omega) (by kernel_rfl) ?_
  refine A_concat 4 rfl (Wants.none rfl) rfl rfl (by simp only [List.length_append, List.length_singleton]; omega) (by kernel_rfl) ?_
  refine A_one 7 rfl (by kernel_rfl) (by repeat (first | exact InvL.nil | refine InvL.cons (.inr (Holds.at H)) ?_ | refine InvL.cons (.inr (Holds.mp H)) ?_ | refine InvL.cons (.inl (by kernel_rfl)) ?_)) (Wants.none rfl) (St_call (a := []) (b := []) rfl rfl (call (Digits_spec g (by omega) H) ?_))
  clear H; rintro v w ⟨rfl, H⟩
  refine A_concat 8 rfl (Wants.none rfl) rfl rfl (by simp only [List.length_append, List.length_singleton]; omega) (by kernel_rfl) ?_
  refine A_pv 9 rfl (Wants.none rfl) rfl (by kernel_rfl) ?_
  refine A_end (by kernel_rfl) (by repeat (first | exact InvL.nil | refine InvL.cons (.inr (Holds.at H)) ?_ | refine InvL.cons (.inr (Holds.mp H)) ?_ | refine InvL.cons (.inl (by kernel_rfl)) ?_)) ?_
  exact C_ret (fn_end0 _ (.inr rfl) H.drop rfl fun w' H' => ⟨rfl, H'⟩)
end Go.Proofs.YtdpephigccnkdaaDoor
