/- Cells: what is proved on the way: every input of the statement; no condition. Texts joined: BmpB SlX StoA. -/
import Derived.Test.YtcaaojbnjfdglaaGreatDoorCaf
set_option linter.unusedVariables false
set_option linter.unusedSimpArgs false
set_option linter.unusedSectionVars false
namespace Go.Proofs.YtcaaojbnjfdglaaGreatDoor
open Go.SL

def fillB (x a : Nat) : Nat → Bool → Nat
  | 0, _ => x
  | k + 1, on => setB (fillB x a k on) (a + k) on
theorem fillB_bit (x a : Nat) (on : Bool) (j : Nat) : ∀ k, (fillB x a k on).testBit j = if a ≤ j ∧ j < a + k then on else x.testBit j
  | 0 => by simp [fillB]; omega
  | k + 1 => by
    show (setB _ _ _).testBit j = _
    rw [setB_bit, fillB_bit x a on j k]
    by_cases h1 : j = a + k
    · rw [if_pos h1, if_pos (by omega)]
    · rw [if_neg h1]
      by_cases h2 : a ≤ j ∧ j < a + k
      · rw [if_pos h2, if_pos (by omega)]
      · rw [if_neg h2, if_neg (by omega)]
theorem Bits.fill {n x a : Nat} {on : Bool} (h : Bits n x) : ∀ {k : Nat}, a + k ≤ n → Bits n (fillB x a k on)
  | 0, _ => h
  | k + 1, hk => Bits.set (Bits.fill h (by omega)) (by omega)

theorem Fill_spec [Extra] (p n x a k : Nat) (on : Bool) (hb : Bits n x) (hk : a + k ≤ n) {w : World} {fr : List HProp} (H : Holds w (BM1 p n x :: fr)) :
    Calls Tryz.prog 174 #[pp p, .int .i64 a, .int .i64 k, .bool on] w (ret fun v w' => v = .int .i64 0 ∧ Holds w' (BM1 p n (fillB x a k on) :: fr)) := by
  have hle := hb.le
  refine calls_of Tryz.func174 rfl (by kernel_rfl) ?_
  repeat refine C_seq ?_
  refine C_region ?_
  refine Lp_pv rfl rfl ?_
  refine Lp_nil ?_
  repeat refine C_seq ?_
  refine C_joinQ (fun ms σ w => ms = [] ∧ σ 0 = pp p ∧ σ 1 = .int .i64 a ∧ σ 2 = .int .i64 k ∧ σ 3 = .bool on ∧ Holds w (BM1 p n x :: fr)) ?_ ?_
  · refine C_block ?_
    obtain ⟨b, cap, spare, H, hclose⟩ := BM_open H
    repeat refine C_seq ?_
    refine C_region ?_
    refine Lp_pv rfl rfl ?_
    refine Lp_s rfl (St_eqPtrNil rfl rfl (.inl rfl) rfl ?_)
    refine Lp_pv rfl rfl ?_
    refine Lp_nil ?_
    repeat refine C_seq ?_
    refine C_false rfl ?_
    repeat refine C_seq ?_
    refine C_region ?_
    refine Lp_pv rfl rfl ?_
    refine Lp_pv rfl rfl ?_
    refine Lp_pv rfl rfl ?_
    rw [show decide ((k : Int) < 0) = false from decide_eq_false (by omega)]
    refine Lp_gpv rfl rfl rfl rfl ?_
    refine Lp_gpv rfl rfl rfl rfl ?_
    refine Lp_pv rfl rfl ?_
    refine Lp_pv rfl rfl ?_
    rw [show decide ((a : Int) < 0) = false from decide_eq_false (by omega)]
    refine Lp_gpv rfl rfl rfl rfl ?_
    refine Lp_gpv rfl rfl rfl rfl ?_
    refine Lp_gpv rfl rfl rfl rfl ?_
    refine Lp_g rfl rfl rfl (St_fieldAddr rfl rfl ?_)
    refine Lp_g rfl rfl rfl (St_load1 H rfl rfl rfl ?_)
    refine Lp_gpv rfl rfl rfl rfl ?_
    refine Lp_pv rfl rfl ?_
    refine Lp_pv rfl rfl ?_
    rw [show decide ((a : Int) > (n : Int)) = false from decide_eq_false (by omega)]
    refine Lp_gpv rfl rfl rfl rfl ?_
    refine Lp_gpv rfl rfl rfl rfl ?_
    refine Lp_gpv rfl rfl rfl rfl ?_
    refine Lp_g rfl rfl rfl (St_fieldAddr rfl rfl ?_)
    refine Lp_g rfl rfl rfl (St_load1 H rfl rfl rfl ?_)
    refine Lp_gpv rfl rfl rfl rfl ?_
    refine Lp_gpv rfl rfl rfl rfl ?_
    refine Lp_gpv rfl rfl rfl rfl ?_
    refine Lp_pv rfl rfl ?_
    refine Lp_pv rfl rfl ?_
    refine Lp_nil ?_
    rw [show decide ((k : Int) > IntKind.i64.wrap ((n : Int) - (a : Int))) = false from decide_eq_false (by rw [wrap64 (by omega) (by omega)]; omega)]
    repeat refine C_seq ?_
    refine C_false rfl (C_skip ?_)
    exact .inl ⟨rfl, rfl, rfl, rfl, rfl, rfl, hclose _ _ _ _ H⟩
  · clear H
    rintro ms σ w ⟨rfl, g0, g1, g2, g3, H⟩
    rw [upd_self g0, upd_self g1, upd_self g2, upd_self g3]
    repeat refine C_seq ?_
    refine C_region ?_
    refine Lp_pv rfl rfl ?_
    refine Lp_pv rfl rfl ?_
    refine Lp_nil ?_
    repeat refine C_seq ?_
    refine C_block ?_
    refine C_loop (fun ms σ w q => ms = [] ∧ ∃ j : Nat, j ≤ k ∧ q = k - j ∧ σ 0 = pp p ∧ σ 1 = .int .i64 a ∧ σ 2 = .int .i64 k ∧ σ 3 = .bool on ∧ σ 9 = .int .i64 ((a + j : Nat) : Int) ∧ Holds w (BM1 p n (fillB x a j on) :: fr)) (m := k) ⟨rfl, 0, by omega, rfl, rfl, rfl, rfl, rfl, rfl, H⟩ ?_
    clear H
    rintro ms σ w q ⟨rfl, j, hj, rfl, g0, g1, g2, g3, g9, H⟩
    rw [upd_self g0, upd_self g1, upd_self g2, upd_self g3, upd_self g9]
    repeat refine C_seq ?_
    refine C_region ?_
    refine Lp_pv rfl rfl ?_
    refine Lp_pv rfl rfl ?_
    refine Lp_pv rfl rfl ?_
    refine Lp_pv rfl rfl ?_
    refine Lp_pv rfl rfl ?_
    refine Lp_nil ?_
    rw [wrap64 (x := (a : Int) + (k : Int)) (by omega) (by omega)]
    repeat refine C_seq ?_
    refine C_dec rfl (fun h => C_skip ?_) (fun h => C_exit ?_)
    · have hlt : j < k := by omega
      repeat refine C_seq ?_
      refine C_block ?_
      repeat refine C_seq ?_
      refine C_region ?_
      refine Lp_pv rfl rfl ?_
      refine Lp_pv rfl rfl ?_
      refine Lp_pv rfl rfl ?_
      refine Lp_s rfl (St_call (a := []) (b := []) rfl rfl (call (turn_spec p n _ (a + j) on (hb.fill (by omega)) (by omega) H) ?_))
      clear H; intro v w H
      refine Lp_nil ?_
      repeat refine C_seq ?_
      refine C_region ?_
      refine Lp_pv rfl rfl ?_
      refine Lp_pv rfl rfl ?_
      refine Lp_pv rfl rfl ?_
      refine Lp_nil ?_
      exact ⟨_, ⟨rfl, j + 1, hlt, rfl, rfl, rfl, rfl, rfl, by rw [show ((a + (j + 1) : Nat) : Int) = ((a + j : Nat) : Int) + 1 by omega]; exact inc64 (i := a + j) (by omega), H⟩, by omega⟩
    · have hge : j = k := by omega
      subst hge
      repeat refine C_seq ?_
      refine C_region ?_
      refine Lp_pv rfl rfl ?_
      refine Lp_nil ?_
      exact C_ret (fn_end0 _ (.inr rfl) H rfl fun w' H' => ⟨rfl, H'⟩)

theorem bSet_spec [Extra] (p n x i : Nat) (on : Bool) (hb : Bits n x) (hi : i < n) {w : World} {fr : List HProp} (H : Holds w (BM1 p n x :: fr)) :
    Calls Tryz.prog 135 #[pp p, .int .i64 i, .bool on] w (ret fun v w' => v = .int .i64 0 ∧ Holds w' (BM1 p n (setB x i on) :: fr)) := by
  refine calls_of Tryz.func135 rfl (by kernel_rfl) ?_
  repeat refine C_seq ?_
  refine C_region ?_
  refine Lp_pv rfl rfl ?_
  refine Lp_nil ?_
  repeat refine C_seq ?_
  refine C_region ?_
  refine Lp_pv rfl rfl ?_
  refine Lp_pv rfl rfl ?_
  refine Lp_pv rfl rfl ?_
  refine Lp_s rfl (St_call (a := []) (b := []) rfl rfl (call (Fill_spec p n x i 1 on hb (by omega) H) ?_))
  clear H; rintro v w ⟨rfl, H⟩
  refine Lp_pv rfl rfl ?_
  refine Lp_nil ?_
  exact C_ret (fn_end0 _ (.inr rfl) H rfl fun w' H' => ⟨rfl, H'⟩)

theorem bNew_spec [Extra] (n : Nat) (h1 : 0 < n) (h2 : n ≤ 1048576) {w : World} {fr : List HProp} (H : Holds w fr) :
    Calls Tryz.prog 156 #[.int .i64 n] w (ret fun v w' => ∃ p, v = .tuple #[pp p, .int .i64 0] ∧ Holds w' (BM p n (List.replicate ((n + 63) / 64) 0) 0 :: fr)) := by
  refine calls_of Tryz.func156 rfl (by kernel_rfl) ?_
  repeat refine C_seq ?_
  refine C_region ?_
  refine Lp_pv rfl rfl ?_
  refine Lp_pv rfl rfl ?_
  refine Lp_nil ?_
  repeat refine C_seq ?_
  refine C_region ?_
  refine Lp_pv rfl rfl ?_
  refine Lp_pv rfl rfl ?_
  refine Lp_pv rfl rfl ?_
  rw [show decide ((n : Int) < 1) = false from decide_eq_false (by omega)]
  refine Lp_gpv rfl rfl rfl rfl ?_
  refine Lp_gpv rfl rfl rfl rfl ?_
  refine Lp_pv rfl rfl ?_
  refine Lp_nil ?_
  rw [show decide ((n : Int) > 1048576) = false from decide_eq_false (by omega)]
  repeat refine C_seq ?_
  refine C_false rfl (C_skip ?_)
  repeat refine C_seq ?_
  refine C_region ?_
  refine Lp_pv rfl rfl ?_
  refine Lp_pv rfl rfl ?_
  refine Lp_pv rfl rfl ?_
  refine Lp_pv rfl rfl ?_
  have e1 : IntKind.i64.wrap (Int.tdiv (IntKind.i64.wrap ((n : Int) + 63)) 64) = (((n + 63) / 64 : Nat) : Int) := by
    rw [wrap64 (x := (n : Int) + 63) (by omega) (by omega), Int.tdiv_eq_ediv_of_nonneg (by omega), wrap64 (by omega) (by omega)]; omega
  rw [e1]
  refine Lp_s rfl (St_makeSlice H rfl rfl (by decide) (by omega) rfl ?_); clear H; intro b14 w H
  refine Lp_s rfl (St_build rfl rfl ?_)
  (refine Lp_s rfl (St_boxN H rfl rfl ?_); clear H; intro b16 w H)
  refine Lp_pv rfl rfl ?_
  refine Lp_pv rfl rfl ?_
  refine Lp_nil ?_
  have e : zeros (cellsL (.int .u64 0)) ((n + 63) / 64) = ucells (List.replicate ((n + 63) / 64) 0) := by
    rw [show cellsL (.int .u64 0) = [.int .u64 0] from rfl, zeros1]; simp [ucells]
  rw [e] at H
  exact C_ret (fn_end0 _ (.inr rfl) (BM_in H) rfl fun w' H' => ⟨_, rfl, H'⟩)

/-! ### The first one that is off, or on -/

theorem ctz_bits {y : Nat} (h0 : y ≠ 0) (h : y < 18446744073709551616) : Lib.ctz 64 y < 64 ∧ y.testBit (Lib.ctz 64 y) = true ∧ ∀ i, i < Lib.ctz 64 y → y.testBit i = false := by
  obtain ⟨m, hm, hk⟩ := Lib.ctzFrom_spec 64 y (by omega) h
  have e : Lib.ctz 64 y = Lib.ctzFrom 64 y := by simp [Lib.ctz, h0]
  rw [e]
  generalize Lib.ctzFrom 64 y = k at hm hk
  subst hm
  refine ⟨hk, ?_, fun i hi => ?_⟩
  · rw [Nat.testBit_eq_decide_div_mod_eq, Nat.mul_div_cancel_left _ (Nat.two_pow_pos k)]
    simp
  · rw [Nat.testBit_eq_decide_div_mod_eq]
    have : 2 ^ k * (2 * m + 1) / 2 ^ i = 2 * (2 ^ (k - i - 1) * (2 * m + 1)) := by
      have h2 : 2 ^ k = 2 ^ i * (2 * 2 ^ (k - i - 1)) := by
        rw [← Nat.pow_succ', ← Nat.pow_add]
        congr 1
        omega
      rw [h2, Nat.mul_assoc, Nat.mul_div_cancel_left _ (Nat.two_pow_pos i), Nat.mul_assoc]
    rw [this]
    simp

theorem Tz_spec [Extra] (x : Nat) (hx : x < 18446744073709551616) {w : World} {fr : List HProp} [hT : HasTab 0 Lib.deBruijn64tab fr] (H : Holds w fr) : Calls Tryz.prog 176 #[.int .u64 x] w (ret fun v w' => v = .int .i64 (Lib.ctz 64 x) ∧ Holds w' fr) := by
  refine (Any7.bits_TrailingZeros64 Tryz.laysTz x hx w (fun _ => hT.tab w H.1)).mono ?_
  rintro e w' ⟨rfl, rfl⟩
  exact ⟨rfl, H⟩

theorem compl_bit {x i : Nat} (hx : x < 18446744073709551616) : (18446744073709551615 - x).testBit i = (decide (i < 64) && !x.testBit i) := by
  have e : 18446744073709551615 - x = 2 ^ 64 - (x + 1) := by omega
  rw [e, Nat.testBit_two_pow_sub_succ hx]
theorem div_bit (x a i : Nat) : (x / 2 ^ a).testBit i = x.testBit (a + i) := by
  rw [Nat.testBit_div_two_pow, Nat.add_comm]

/-- The first one that is off, from a on. -/
def FirstB (n x a : Nat) (v : Value) : Prop :=
  (∃ j : Nat, v = .tuple #[.int .i64 j, .bool true] ∧ a ≤ j ∧ j < n ∧ x.testBit j = false ∧ ∀ i, a ≤ i → i < j → x.testBit i = true) ∨ (v = .tuple #[.int .i64 0, .bool false] ∧ ∀ i, a ≤ i → i < n → x.testBit i = true)

theorem First_spec [Extra] (p n x a m : Nat) (hb : Bits n x) (ha : a ≤ n) {w : World} {fr : List HProp} [hT : HasTab 0 Lib.deBruijn64tab fr] (H : Holds w (BM p n [x] m :: fr)) :
    Calls Tryz.prog 134 #[pp p, .int .i64 a] w (ret fun v w' => FirstB n x a v ∧ Holds w' (BM p n [x] m :: fr)) := by
  have hle := hb.le
  have h64 := hb.lt64
  refine calls_of Tryz.func134 rfl (by kernel_rfl) ?_
  repeat refine C_seq ?_
  refine C_region ?_
  refine Lp_pv rfl rfl ?_
  refine Lp_pv rfl rfl ?_
  refine Lp_nil ?_
  repeat refine C_seq ?_
  refine C_region ?_
  refine Lp_pv rfl rfl ?_
  refine Lp_s rfl (St_max rfl rfl rfl ?_)
  rw [show (if (0 : Int) > (a : Int) then (0 : Int) else (a : Int)) = (a : Int) from if_neg (by omega)]
  refine Lp_pv rfl rfl ?_
  refine Lp_nil ?_
  repeat refine C_seq ?_
  refine C_joinQ (fun ms σ w => ms = [] ∧ ∃ j : Nat, σ 0 = pp p ∧ σ 1 = .int .i64 j ∧ a ≤ j ∧ j ≤ 64 ∧ (∀ i, a ≤ i → i < j → x.testBit i = true) ∧ (j < n → x.testBit j = false) ∧ Holds w (BM p n [x] m :: fr)) ?_ ?_
  · refine C_block ?_
    refine C_loop (fun ms σ w q => ms = [] ∧ q = 0 ∧ σ 0 = pp p ∧ σ 1 = .int .i64 a ∧ Holds w (BM p n [x] m :: fr)) (m := 0) ⟨rfl, rfl, rfl, rfl, H⟩ ?_
    clear H
    rintro ms σ w q ⟨rfl, rfl, g0, g1, H⟩
    rw [upd_self g0, upd_self g1]
    repeat refine C_seq ?_
    refine C_region ?_
    refine Lp_pv rfl rfl ?_
    refine Lp_pv rfl rfl ?_
    refine Lp_s rfl (St_call (a := []) (b := []) rfl rfl (call (Len_spec p n _ _ H) ?_))
    clear H; rintro v w ⟨rfl, H⟩
    refine Lp_pv rfl rfl ?_
    refine Lp_nil ?_
    repeat refine C_seq ?_
    refine C_dec rfl (fun h => C_skip ?_) (fun h => C_exit ?_)
    · have hlt : a < n := by omega
      have hq : (18446744073709551615 - x) / 2 ^ a < 18446744073709551616 := Nat.lt_of_le_of_lt (Nat.div_le_self _ _) (by omega)
      have hbit : ∀ i, ((18446744073709551615 - x) / 2 ^ a).testBit i = (decide (a + i < 64) && !x.testBit (a + i)) := fun i => by rw [div_bit, compl_bit h64]
      have hne : (18446744073709551615 - x) / 2 ^ a ≠ 0 := fun e => by
        have := hbit (63 - a)
        rw [e, Nat.zero_testBit, show a + (63 - a) = 63 by omega, bits_off hb.lt hle] at this
        simp at this
      obtain ⟨c1, c2, c3⟩ := ctz_bits hne hq
      repeat refine C_seq ?_
      refine C_block ?_
      obtain ⟨b, cap, spare, H, hclose⟩ := BM_open H
      repeat refine C_seq ?_
      refine C_region ?_
      refine Lp_pv rfl rfl ?_
      refine Lp_pv rfl rfl ?_
      refine Lp_s rfl (St_fieldAddr rfl rfl ?_)
      refine Lp_s rfl (St_load1 H rfl rfl rfl ?_)
      refine Lp_pv rfl rfl ?_
      refine Lp_pv rfl rfl ?_
      rw [q64 (show a < 64 by omega)]
      refine Lp_s rfl (St_indexAddr rfl rfl (by decide) (by decide) rfl ?_)
      refine Lp_s rfl (St_load1 H rfl rfl rfl ?_)
      refine Lp_s rfl (St_compl h64 rfl rfl ?_)
      refine Lp_pv rfl rfl ?_
      refine Lp_pv rfl rfl ?_
      rw [r64 (show a < 64 by omega)]
      refine Lp_pv (v := .int .u64 (shrI .u64 ((18446744073709551615 - x : Nat) : Int) (a : Int))) (by
        show (if (a : Int) < 0 then none else some _) = _
        rw [if_neg (by omega)]) rfl ?_
      rw [shr_nat (k := .u64) (by omega) rfl]
      refine Lp_pv rfl rfl ?_
      refine Lp_nil ?_
      repeat refine C_seq ?_
      refine C_region ?_
      refine Lp_pv rfl rfl ?_
      refine Lp_pv rfl rfl ?_
      refine Lp_nil ?_
      generalize (18446744073709551615 - x) / 2 ^ a = y at *
      rw [show ((y : Int) != 0) = true by simp; omega]
      repeat refine C_seq ?_
      refine C_true rfl ?_
      replace H := hclose _ _ _ _ H
      repeat refine C_seq ?_
      refine C_region ?_
      refine Lp_pv rfl rfl ?_
      refine Lp_pv rfl rfl ?_
      refine Lp_s rfl (St_call (a := []) (b := []) rfl rfl (call (Tz_spec y hq H) ?_))
      clear H; rintro v w ⟨rfl, H⟩
      refine Lp_pv rfl rfl ?_
      refine Lp_pv rfl rfl ?_
      refine Lp_nil ?_
      have hk := hbit (Lib.ctz 64 y)
      rw [c2] at hk
      simp at hk
      refine C_exit (.inl ⟨rfl, rfl, a + Lib.ctz 64 y, rfl, ?_, by omega, by omega, fun i h1 h2 => ?_, fun _ => by simpa using hk.2, H⟩)
      · show Value.int .i64 (IntKind.i64.wrap ((a : Int) + (Lib.ctz 64 y : Nat))) = _
        rw [wrap64 (by omega) (by omega)]; congr 1
      · have := hbit (i - a)
        rw [c3 (i - a) (by omega), show a + (i - a) = i by omega] at this
        simp at this
        exact this (by omega)
    · have hge : a = n := by omega
      exact .inl ⟨rfl, rfl, a, rfl, rfl, by omega, by omega, fun i h1 h2 => by omega, fun h => by omega, H⟩
  · clear H
    rintro ms σ w ⟨rfl, j, g0, g1, h1, h2, h3, h4, H⟩
    rw [upd_self g0, upd_self g1]
    repeat refine C_seq ?_
    refine C_region ?_
    refine Lp_pv rfl rfl ?_
    refine Lp_pv rfl rfl ?_
    refine Lp_s rfl (St_call (a := []) (b := []) rfl rfl (call (Len_spec p n _ _ H) ?_))
    clear H; rintro v w ⟨rfl, H⟩
    refine Lp_pv rfl rfl ?_
    refine Lp_nil ?_
    repeat refine C_seq ?_
    refine C_dec rfl (fun h => ?_) (fun h => C_skip ?_)
    · repeat refine C_seq ?_
      refine C_region ?_
      refine Lp_pv rfl rfl ?_
      refine Lp_pv rfl rfl ?_
      refine Lp_nil ?_
      exact C_ret (fn_end0 _ (.inr rfl) H rfl fun w' H' => ⟨.inr ⟨rfl, fun i h5 h6 => h3 i h5 (by omega)⟩, H'⟩)
    · repeat refine C_seq ?_
      refine C_region ?_
      refine Lp_pv rfl rfl ?_
      refine Lp_pv rfl rfl ?_
      refine Lp_pv rfl rfl ?_
      refine Lp_nil ?_
      exact C_ret (fn_end0 _ (.inr rfl) H rfl fun w' H' => ⟨.inl ⟨j, rfl, h1, by omega, h4 (by omega), h3⟩, H'⟩)

/-- The first one that is on, from a on; the length, if there is none. -/
theorem next_spec [Extra] (p n x a m : Nat) (hb : Bits n x) (ha : a ≤ n) {w : World} {fr : List HProp} [hT : HasTab 0 Lib.deBruijn64tab fr] (H : Holds w (BM p n [x] m :: fr)) :
    Calls Tryz.prog 185 #[pp p, .int .i64 a] w (ret fun v w' => (∃ e : Nat, v = .int .i64 e ∧ a ≤ e ∧ e ≤ n ∧ (∀ i, a ≤ i → i < e → x.testBit i = false) ∧ (e < n → x.testBit e = true)) ∧ Holds w' (BM p n [x] m :: fr)) := by
  have hle := hb.le
  have h64 := hb.lt64
  refine calls_of Tryz.func185 rfl (by kernel_rfl) ?_
  repeat refine C_seq ?_
  refine C_region ?_
  refine Lp_pv rfl rfl ?_
  refine Lp_nil ?_
  repeat refine C_seq ?_
  refine C_joinQ (fun ms σ w => ms = [] ∧ σ 0 = pp p ∧ (∀ i, a ≤ i → i < n → x.testBit i = false) ∧ Holds w (BM p n [x] m :: fr)) ?_ ?_
  · refine C_block ?_
    refine C_loop (fun ms σ w q => ms = [] ∧ ∃ j : Nat, (q = if j < n then 1 else 0) ∧ (j < n → j = a) ∧ σ 0 = pp p ∧ σ 1 = .int .i64 j ∧ (j < n ∨ ∀ i, a ≤ i → i < n → x.testBit i = false) ∧ Holds w (BM p n [x] m :: fr)) (m := if a < n then 1 else 0) ⟨rfl, a, rfl, fun _ => rfl, rfl, rfl, by
      by_cases h : a < n
      · exact .inl h
      · exact .inr fun i h1 h2 => by omega, H⟩ ?_
    clear H
    rintro ms σ w q ⟨rfl, j, rfl, hj, g0, g1, h5, H⟩
    rw [upd_self g0, upd_self g1]
    obtain ⟨b, cap, spare, H, hclose⟩ := BM_open H
    repeat refine C_seq ?_
    refine C_region ?_
    refine Lp_pv rfl rfl ?_
    refine Lp_pv rfl rfl ?_
    refine Lp_pv rfl rfl ?_
    refine Lp_s rfl (St_fieldAddr rfl rfl ?_)
    refine Lp_s rfl (St_load1 H rfl rfl rfl ?_)
    refine Lp_pv rfl rfl ?_
    refine Lp_nil ?_
    repeat refine C_seq ?_
    refine C_dec rfl (fun h => C_skip ?_) (fun h => C_exit ?_)
    · have hlt : j < n := by omega
      have := hj hlt
      subst this
      have hq : x / 2 ^ j < 18446744073709551616 := Nat.lt_of_le_of_lt (Nat.div_le_self _ _) (by omega)
      have hbit : ∀ i, (x / 2 ^ j).testBit i = x.testBit (j + i) := fun i => by rw [div_bit]
      repeat refine C_seq ?_
      refine C_block ?_
      repeat refine C_seq ?_
      refine C_region ?_
      refine Lp_pv rfl rfl ?_
      refine Lp_pv rfl rfl ?_
      refine Lp_s rfl (St_fieldAddr rfl rfl ?_)
      refine Lp_s rfl (St_load1 H rfl rfl rfl ?_)
      refine Lp_pv rfl rfl ?_
      refine Lp_pv rfl rfl ?_
      rw [q64 (show j < 64 by omega)]
      refine Lp_s rfl (St_indexAddr rfl rfl (by decide) (by decide) rfl ?_)
      refine Lp_s rfl (St_load1 H rfl rfl rfl ?_)
      refine Lp_pv rfl rfl ?_
      refine Lp_pv rfl rfl ?_
      rw [r64 (show j < 64 by omega)]
      refine Lp_pv (v := .int .u64 (shrI .u64 (x : Int) (j : Int))) (by
        show (if (j : Int) < 0 then none else some _) = _
        rw [if_neg (by omega)]) rfl ?_
      rw [shr_nat (k := .u64) (by omega) rfl]
      refine Lp_pv rfl rfl ?_
      refine Lp_nil ?_
      repeat refine C_seq ?_
      refine C_region ?_
      refine Lp_pv rfl rfl ?_
      refine Lp_pv rfl rfl ?_
      refine Lp_nil ?_
      replace H := hclose _ _ _ _ H
      generalize x / 2 ^ j = y at *
      repeat refine C_seq ?_
      by_cases hy : y = 0
      · rw [show ((y : Int) != 0) = false by simp [hy]]
        repeat refine C_seq ?_
        refine C_false rfl (C_skip ?_)
        repeat refine C_seq ?_
        refine C_region ?_
        refine Lp_pv rfl rfl ?_
        refine Lp_pv rfl rfl ?_
        refine Lp_pv rfl rfl ?_
        refine Lp_pv rfl rfl ?_
        refine Lp_pv rfl rfl ?_
        refine Lp_nil ?_
        refine ⟨_, ⟨rfl, 64, rfl, fun h => by omega, rfl, ?_, .inr fun i h1 h2 => ?_, H⟩, by rw [if_pos hlt, if_neg (by omega)]; decide⟩
        · show Value.int .i64 (IntKind.i64.wrap (IntKind.i64.wrap (IntKind.i64.wrap (Int.tdiv (j : Int) 64) + 1) * 64)) = _
          rw [q64 (show j < 64 by omega)]; rfl
        · have := hbit (i - j)
          rw [hy, Nat.zero_testBit, show j + (i - j) = i by omega] at this
          exact this.symm
      · rw [show ((y : Int) != 0) = true by simp; omega]
        repeat refine C_seq ?_
        refine C_true rfl ?_
        obtain ⟨c1, c2, c3⟩ := ctz_bits hy hq
        repeat refine C_seq ?_
        refine C_region ?_
        refine Lp_pv rfl rfl ?_
        refine Lp_pv rfl rfl ?_
        refine Lp_s rfl (St_call (a := []) (b := []) rfl rfl (call (Tz_spec y hq H) ?_))
        clear H; rintro v w ⟨rfl, H⟩
        refine Lp_pv rfl rfl ?_
        refine Lp_pv rfl rfl ?_
        refine Lp_nil ?_
        have hk := hbit (Lib.ctz 64 y)
        rw [c2] at hk
        have hn : j + Lib.ctz 64 y < n := by
          rcases Nat.lt_or_ge (j + Lib.ctz 64 y) n with h | h
          · exact h
          · rw [bits_off hb.lt h] at hk; cases hk
        refine C_ret (.inr ⟨by simp, fn_end0 _ (.inr rfl) H rfl fun w' H' => ⟨⟨j + Lib.ctz 64 y, ?_, by omega, by omega, fun i h1 h2 => ?_, fun _ => hk.symm⟩, H'⟩⟩)
        · show Value.int .i64 (IntKind.i64.wrap ((j : Int) + (Lib.ctz 64 y : Nat))) = _
          rw [wrap64 (by omega) (by omega)]; congr 1
        · have := hbit (i - j)
          rw [c3 (i - j) (by omega), show j + (i - j) = i by omega] at this
          exact this.symm
    · exact .inl ⟨rfl, rfl, rfl, by
        rcases h5 with h5 | h5
        · omega
        · exact h5, hclose _ _ _ _ H⟩
  · clear H
    rintro ms σ w ⟨rfl, g0, h1, H⟩
    rw [upd_self g0]
    obtain ⟨b, cap, spare, H, hclose⟩ := BM_open H
    repeat refine C_seq ?_
    refine C_region ?_
    refine Lp_pv rfl rfl ?_
    refine Lp_pv rfl rfl ?_
    refine Lp_s rfl (St_fieldAddr rfl rfl ?_)
    refine Lp_s rfl (St_load1 H rfl rfl rfl ?_)
    refine Lp_pv rfl rfl ?_
    refine Lp_nil ?_
    exact C_ret (fn_end0 _ (.inr rfl) (hclose _ _ _ _ H) rfl fun w' H' => ⟨⟨n, rfl, ha, Nat.le_refl _, h1, fun h => by omega⟩, H'⟩)

/-- So many in a row that are off. -/
def RunB (n x k : Nat) (v : Value) : Prop :=
  (∃ a : Nat, v = .tuple #[.int .i64 a, .bool true] ∧ a + k ≤ n ∧ ∀ i, a ≤ i → i < a + k → x.testBit i = false) ∨
  (v = .tuple #[.int .i64 0, .bool false] ∧ ∀ a, a + k ≤ n → ∃ i, a ≤ i ∧ i < a + k ∧ x.testBit i = true)

theorem Run_spec [Extra] (p n x k m : Nat) (hb : Bits n x) (hk : 1 ≤ k) (hk2 : k < 1000000) {w : World} {fr : List HProp} [hT : HasTab 0 Lib.deBruijn64tab fr] (H : Holds w (BM p n [x] m :: fr)) :
    Calls Tryz.prog 173 #[pp p, .int .i64 k] w (ret fun v w' => RunB n x k v ∧ Holds w' (BM p n [x] m :: fr)) := by
  have hle := hb.le
  refine calls_of Tryz.func173 rfl (by kernel_rfl) ?_
  repeat refine C_seq ?_
  refine C_region ?_
  refine Lp_pv rfl rfl ?_
  refine Lp_pv rfl rfl ?_
  refine Lp_nil ?_
  repeat refine C_seq ?_
  refine C_region ?_
  refine Lp_pv rfl rfl ?_
  refine Lp_pv rfl rfl ?_
  refine Lp_nil ?_
  rw [show decide ((k : Int) < 1) = false from decide_eq_false (by omega)]
  repeat refine C_seq ?_
  refine C_false rfl (C_skip ?_)
  repeat refine C_seq ?_
  refine C_region ?_
  refine Lp_pv rfl rfl ?_
  refine Lp_s rfl (St_call (a := []) (b := []) rfl rfl (call (First_spec p n x 0 m hb (by omega) H) ?_))
  clear H; rintro v w ⟨hF, H⟩
  have hI : ∃ (j : Nat) (ok : Bool), v = .tuple #[.int .i64 j, .bool ok] ∧ (ok = true → j < n ∧ x.testBit j = false ∧ ∀ a, a < j → a + k ≤ n → ∃ i, a ≤ i ∧ i < a + k ∧ x.testBit i = true) ∧
      (ok = false → ∀ a, a + k ≤ n → ∃ i, a ≤ i ∧ i < a + k ∧ x.testBit i = true) := by
    rcases hF with ⟨j, rfl, _, h2, h3, h4⟩ | ⟨rfl, h2⟩
    · exact ⟨j, true, rfl, fun _ => ⟨h2, h3, fun a ha _ => ⟨a, Nat.le_refl _, by omega, h4 a (by omega) ha⟩⟩, fun h => by cases h⟩
    · exact ⟨0, false, rfl, (fun h => by cases h), fun _ a ha => ⟨a, Nat.le_refl _, by omega, h2 a (by omega) (by omega)⟩⟩
  obtain ⟨j, ok, rfl, hok, hno⟩ := hI
  refine Lp_pv rfl rfl ?_
  refine Lp_pv rfl rfl ?_
  refine Lp_pv rfl rfl ?_
  refine Lp_pv rfl rfl ?_
  refine Lp_pv rfl rfl ?_
  refine Lp_nil ?_
  repeat refine C_seq ?_
  refine C_block ?_
  refine C_loop (fun ms σ w q => ms = [] ∧ ∃ (j : Nat) (ok : Bool), (q = if ok then n - j else 0) ∧ σ 0 = pp p ∧ σ 1 = .int .i64 k ∧ σ 6 = .int .i64 j ∧ σ 7 = .bool ok ∧ (ok = true → j < n ∧ x.testBit j = false ∧ ∀ a, a < j → a + k ≤ n → ∃ i, a ≤ i ∧ i < a + k ∧ x.testBit i = true) ∧
      (ok = false → ∀ a, a + k ≤ n → ∃ i, a ≤ i ∧ i < a + k ∧ x.testBit i = true) ∧ Holds w (BM p n [x] m :: fr)) (m := if ok then n - j else 0) ⟨rfl, j, ok, rfl, rfl, rfl, rfl, rfl, hok, hno, H⟩ ?_
  clear H hF hok hno
  rintro ms σ w q ⟨rfl, j, ok, rfl, g0, g1, g6, g7, hok, hno, H⟩
  rw [upd_self g0, upd_self g1, upd_self g6, upd_self g7]
  repeat refine C_seq ?_
  refine C_region ?_
  refine Lp_pv rfl rfl ?_
  refine Lp_nil ?_
  repeat refine C_seq ?_
  cases ok with
  | true =>
    obtain ⟨h1, h2, h3⟩ := hok rfl
    refine C_true rfl (C_skip ?_)
    repeat refine C_seq ?_
    refine C_block ?_
    repeat refine C_seq ?_
    refine C_region ?_
    refine Lp_pv rfl rfl ?_
    refine Lp_pv rfl rfl ?_
    refine Lp_s rfl (St_call (a := []) (b := []) rfl rfl (call (next_spec p n x j m hb (by omega) H) ?_))
    clear H; rintro v w ⟨⟨e, rfl, e1, e2, e3, e4⟩, H⟩
    refine Lp_pv rfl rfl ?_
    refine Lp_nil ?_
    repeat refine C_seq ?_
    refine C_region ?_
    refine Lp_pv rfl rfl ?_
    refine Lp_pv rfl rfl ?_
    refine Lp_pv rfl rfl ?_
    refine Lp_pv rfl rfl ?_
    refine Lp_pv rfl rfl ?_
    refine Lp_nil ?_
    rw [wrap64 (x := (e : Int) - (j : Int)) (by omega) (by omega)]
    repeat refine C_seq ?_
    refine C_dec rfl (fun h => ?_) (fun h => C_skip ?_)
    · repeat refine C_seq ?_
      refine C_region ?_
      refine Lp_pv rfl rfl ?_
      refine Lp_pv rfl rfl ?_
      refine Lp_pv rfl rfl ?_
      refine Lp_nil ?_
      exact C_ret (fn_end0 _ (.inr rfl) H rfl fun w' H' => ⟨.inl ⟨j, rfl, by omega, fun i h5 h6 => e3 i h5 (by omega)⟩, H'⟩)
    · have hej : j < e := by
        rcases Nat.lt_or_ge j e with h | h
        · exact h
        · have : e = j := by omega
          subst this
          have := e4 h1
          rw [h2] at this; cases this
      have hF : ∀ a, a ≤ e → a + k ≤ n → ∃ i, a ≤ i ∧ i < a + k ∧ x.testBit i = true := fun a ha hk' => by
        rcases Nat.lt_or_ge a j with h' | h'
        · exact h3 a h' hk'
        · exact ⟨e, ha, by omega, e4 (by omega)⟩
      repeat refine C_seq ?_
      refine C_region ?_
      refine Lp_pv rfl rfl ?_
      refine Lp_pv rfl rfl ?_
      refine Lp_s rfl (St_call (a := []) (b := []) rfl rfl (call (First_spec p n x e m hb (by omega) H) ?_))
      clear H; rintro v w ⟨hF2, H⟩
      rcases hF2 with ⟨j2, rfl, f1, f2, f3, f4⟩ | ⟨rfl, f2⟩
      · first | refine Lp_pv rfl rfl ?_ | refine Lp_mv rfl rfl ?_
        refine Lp_pv rfl rfl ?_
        refine Lp_pv rfl rfl ?_
        refine Lp_pv rfl rfl ?_
        refine Lp_pv rfl rfl ?_
        refine Lp_nil ?_
        refine ⟨_, ⟨rfl, j2, true, rfl, rfl, rfl, rfl, rfl, fun _ => ⟨f2, f3, fun a ha hk' => ?_⟩, (fun h => by cases h), H⟩, by simp; omega⟩
        rcases Nat.lt_or_ge e a with h' | h'
        · exact ⟨a, Nat.le_refl _, by omega, f4 a (by omega) ha⟩
        · exact hF a h' hk'
      · first | refine Lp_pv rfl rfl ?_ | refine Lp_mv rfl rfl ?_
        refine Lp_pv rfl rfl ?_
        refine Lp_pv rfl rfl ?_
        refine Lp_pv rfl rfl ?_
        refine Lp_pv rfl rfl ?_
        refine Lp_nil ?_
        refine ⟨_, ⟨rfl, 0, false, rfl, rfl, rfl, rfl, rfl, (fun h => by cases h), fun _ a hk' => ?_, H⟩, by simp; omega⟩
        rcases Nat.lt_or_ge e a with h' | h'
        · exact ⟨a, Nat.le_refl _, by omega, f2 a (by omega) (by omega)⟩
        · exact hF a h' hk'
  | false =>
    refine C_false rfl (C_exit ?_)
    repeat refine C_seq ?_
    refine C_region ?_
    refine Lp_pv rfl rfl ?_
    refine Lp_pv rfl rfl ?_
    refine Lp_nil ?_
    exact C_ret (fn_end0 _ (.inr rfl) H rfl fun w' H' => ⟨.inr ⟨rfl, hno rfl⟩, H'⟩)
end Go.Proofs.YtcaaojbnjfdglaaGreatDoor
namespace Go.SL
section
variable {P : Program} {n : Nat} {r : Option Nat} {ops : Array Oper} {Q : Post} {ms : List Nat} {σ : Env} {w : World} {rest : List Oper} {o : Oper} {K : Env → World → Prop} {l l' : List HProp}
variable {ivs : List (List Nat × (World → Prop))} {T : Env → World → Prop} {f : Nat} {L : Array Bool}
variable {u t s : TypeId} {p : String} {af : Array Edge} {g : Option (Nat × Bool)} {d : Option Tmp} {x y z : Operand}

theorem run_sliceAB {e size bytes b o2 len cap i j : Nat} {q q' : IntKind} (hT : TSlice P t e size bytes) (h1 : i ≤ j) (h2 : j ≤ cap) (h3 : i < cap) :
    (Instr.sliceAt t (.slice (some ⟨b, o2, none⟩) len cap) (some (.int q (i : Int))) (some (.int q' (j : Int))) none).run P w = .ok (.slice (some ⟨b, o2 + i * size, none⟩) (j - i) (cap - i)) w := by
  have hs : (sizeOf e).run P w = .ok size w := by
    obtain ⟨k, hk, e2⟩ := Option.map_eq_some_iff.1 hT.info
    simp only [Prod.mk.injEq] at e2
    exact run_sizeOf' (by rw [hk]; simp [e2.1])
  have hne : cap ≠ i := by omega
  have b1 : (0 : Int) ≤ i ∧ (i : Int) ≤ j := by omega
  have b2 : (0 : Int) ≤ j ∧ (j : Int) ≤ cap := by omega
  simp [Instr.sliceAt, Instr.slice, run_und hT.und, Instr.sliceBounds, Instr.sliceBound, asIntOf, h1, h2, hs, add_lit', hne]

theorem A_sliceAB {e size bytes b o2 len cap i j : Nat} {q q' : IntKind} (m : Nat) (hm : ops[m]? = some ⟨d, .slice t x (some y) (some z) none, u, p, af, g⟩) (hg : Wants ops σ ⟨d, .slice t x (some y) (some z) none, u, p, af, g⟩ true) [hT : TSlice P t e size bytes] (hx : ev σ x = .slice (some ⟨b, o2, none⟩) len cap) (hy : ev σ y = .int q (i : Int)) (hz : ev σ z = .int q' (j : Int)) (h1 : i ≤ j) (h2 : j ≤ cap) (h3 : i < cap)
    (hb : stB n ops (ivs.map (·.1)) L m [] = true) (k : Any P n r ops ivs T f (L.setIfInBounds m true) (put σ d (.slice (some ⟨b, o2 + i * size, none⟩) (j - i) (cap - i))) w) : Any P n r ops ivs T (f + 1) L σ w :=
  A_val m hm hg (fun c e => by cases e) (fun w => by simp only [execOp, hx, hy, hz, Option.map_some, Option.map_none, Sem.run_bind, run_sliceAB hT h1 h2 h3, Result.andThen_ok, Sem.run_pure]) hb k

theorem wr_same {c : List Value} {o m : Nat} {vs : List Value} (h : Reads c o m vs) : ∀ (q : o + vs.length ≤ c.length), wr c o vs = c := fun q => by
  rw [wr_eq vs c o q]
  apply List.ext_getElem?
  intro j
  by_cases h1 : j < o
  · rw [List.append_assoc, List.getElem?_append_left (by simp; omega), List.getElem?_take_of_lt h1]
  · by_cases h2 : j < o + vs.length
    · rw [List.append_assoc, List.getElem?_append_right (by simp; omega), List.getElem?_append_left (by simp; omega)]
      have e1 : (c.take o).length = o := by simp; omega
      rw [e1]
      have := h.get (j - o) (vs[j - o]'(by omega)) (List.getElem?_eq_getElem (by omega))
      rw [show o + (j - o) = j by omega] at this
      rw [this, List.getElem?_eq_getElem (by omega)]
    · rw [List.append_assoc, List.getElem?_append_right (by simp; omega), List.getElem?_append_right (by simp; omega), List.getElem?_drop]
      congr 1
      simp
      omega

/-- An owned slice is laid open; its cells may be others then. -/
theorem sls_open2 [Extra] {E k m cap : Nat} {a : Option Addr} {c : List Value} (H : Holds w (sls E k (.slice a m cap) c :: l)) (h0 : 0 < m) :
    ∃ b spare, a = some ⟨b, 0, none⟩ ∧ Holds w (pts b (row E (c ++ spare)) :: l) ∧ m ≤ cap ∧ spare.length = (cap - m) * k ∧ ∀ w' l' c', c'.length = c.length → Holds w' (pts b (row E (c' ++ spare)) :: l') → Holds w' (sls E k (.slice a m cap) c' :: l') := by
  rcases sls_case H with ⟨h, _⟩ | ⟨b, len, cap', spare, h, e3, e4, e5, H2⟩
  · injection h with h1 h2; omega
  · injection h with h1 h2 h3
    subst h1 h2 h3
    exact ⟨b, spare, rfl, H2, e4, e5, fun w' l' c' hc H' => sls_of (hc.trans e3) e4 e5 H'⟩

/-- A part of a slice is copied over itself. -/
theorem St_copySame [Extra] {e size bytes b o2 m cap cap' E : Nat} {c vs : List Value} [hT : TSlice P t e size bytes] (H : Holds w (pts b (row E c) :: l)) (hx : ev σ x = .slice (some ⟨b, o2, none⟩) m cap) (hy : ev σ y = .slice (some ⟨b, o2, none⟩) m cap') (hrd : Reads c o2 (m * size) vs) (hl : o2 + m * size ≤ c.length) (h1 : vs.all (·.oneCell') = true) (hd : okd n d = true)
    (k : ∀ w', Holds w' (pts b (row E c) :: l) → K (put σ d (.int .i64 m)) w') : St P n r ⟨d, .call { callee := .builtin .copy, args := #[x, y], argTypes := #[t, t] }, u, p, af, g⟩ σ w K := by
  have hs : (sizeOf e).run P w = .ok size w := by
    obtain ⟨k, hk, e2⟩ := Option.map_eq_some_iff.1 hT.info
    simp only [Prod.mk.injEq] at e2
    exact run_sizeOf' (by rw [hk]; simp [e2.1])
  have ev1 := hrd.len
  have hbk : w.heap[b]? = some (.cells c.toArray E (0, 0)) := H.pts
  have hfc : (Builtin.firstCells size m (.slice (some ⟨b, o2, none⟩) m cap')).run P w = .ok vs.toArray w := by
    unfold Builtin.firstCells
    have := run_loadCells_list (P := P) (w := w) ⟨b, o2, none⟩ vs (fun j v hj => by
      rw [add_lit']
      exact cell_row hbk (hrd.get j v hj))
    rwa [ev1] at this
  obtain ⟨w', hr, h2, h3, h4⟩ := run_storeCells_row (P := P) vs w b o2 E c 0 H.pts (by omega) (List.all_eq_true.1 h1)
  rw [Nat.add_zero, wr_same hrd (by omega)] at h2
  have H' := H.set (o' := row E c) h2 h3 h4
  refine St_value (v := .int .i64 m) (w' := w') hd (fun c e => by cases e) ?_ (k w' H')
  have hmin : Nat.min m m = m := Nat.min_self m
  simp [execOp, resolve, invoke, builtin, hx, hy, Builtin.copy_, run_und hT.und, Builtin.lenOf, hmin, hs, hfc, hr, goInt]
end
end Go.SL
namespace Go.Proofs.YtcaaojbnjfdglaaGreatDoor
open Go.SL

def ncells (l : List Nat) : List Value := l.map fun x : Nat => Value.int .i64 (x : Int)
theorem ncells_length (l : List Nat) : (ncells l).length = l.length * 1 := by simp [ncells]
theorem ncells_append (a b : List Nat) : ncells (a ++ b) = ncells a ++ ncells b := by simp [ncells]
theorem ncells_get {l : List Nat} {spare : List Value} {i x : Nat} (h : l[i]? = some x) : (ncells l ++ spare)[0 + i * 1]? = some (.int .i64 x) := by
  have hi := (List.getElem?_eq_some_iff.1 h).1
  rw [Nat.zero_add, Nat.mul_one, List.getElem?_append_left (by simpa [ncells] using hi)]
  simp [ncells, h]
theorem ncells_set {l : List Nat} {spare : List Value} {i x : Nat} (h : i < l.length) : (ncells l ++ spare).set (0 + i * 1) (.int .i64 x) = ncells (l.set i x) ++ spare := by
  rw [Nat.zero_add, Nat.mul_one, List.set_append_left _ _ (by simpa [ncells] using h)]
  simp [ncells, List.map_set]
theorem ucells_set {l : List Nat} {spare : List Value} {i x : Nat} (h : i < l.length) : (ucells l ++ spare).set (0 + i * 1) (.int .u64 x) = ucells (l.set i x) ++ spare := by
  rw [Nat.zero_add, Nat.mul_one, List.set_append_left _ _ (by simpa [ucells] using h)]
  simp [ucells, List.map_set]
@[reducible] def NL (v : Value) (l : List Nat) : HProp := sls 3 1 v (ncells l)

theorem quoN {a b : Nat} (h : a < 9223372036854775808) : IntKind.i64.wrap (Int.tdiv (a : Int) (b : Int)) = ((a / b : Nat) : Int) := by
  have hle : a / b ≤ a := Nat.div_le_self _ _
  rw [Int.tdiv_eq_ediv_of_nonneg (by omega), ← Int.natCast_ediv]
  generalize a / b = q at hle
  exact wrap64 (by omega) (by omega)

structure STok (size : Nat) (mem own ws : List Nat) (many : Nat) : Prop where
  s1 : 1 ≤ size
  s2 : size ≤ 1024
  c1 : 1 ≤ own.length
  c2 : own.length ≤ 1024
  len : mem.length = own.length * size
  many : many = (own.filter (· != 0)).length
  one : own.length ≤ 63 → ∃ x, ws = [x] ∧ x < 2 ^ own.length ∧ ∀ c, c < own.length → x.testBit c = decide (own.getD c 0 ≠ 0)

theorem cntB_own : ∀ (own : List Nat) (x : Nat), (∀ c, c < own.length → x.testBit c = decide (own.getD c 0 ≠ 0)) → cntB own.length x = (own.filter (· != 0)).length
  | own, x, h => by
    unfold cntB
    have e : (List.range own.length).filter (fun i => x.testBit i) = (List.range own.length).filter (fun i => own.getD i 0 != 0) := by
      apply List.filter_congr
      intro i hi
      rw [List.mem_range] at hi
      show x.testBit i = (own.getD i 0 != 0)
      rw [h i hi]
      generalize own.getD i 0 = z
      cases z <;> simp
    rw [e]
    clear e h
    have : ∀ (l : List Nat), ((List.range l.length).filter (fun i => l.getD i 0 != 0)).length = (l.filter (· != 0)).length := by
      intro l
      have e2 : l.filter (· != 0) = ((List.range l.length).filter (fun i => l.getD i 0 != 0)).map (fun i => l.getD i 0) := by
        have e3 : l = (List.range l.length).map (fun i => l.getD i 0) := by
          apply List.ext_getElem?
          intro i
          by_cases hi : i < l.length
          · rw [List.getElem?_map, List.getElem?_range hi, List.getElem?_eq_getElem hi]
            simp [hi]
          · rw [List.getElem?_eq_none (by omega), List.getElem?_eq_none (by simp; omega)]
        conv => lhs; rw [e3]
        rw [List.filter_map]
        rfl
      rw [e2, List.length_map]
    exact this own

/-- A store: words of a chunk, the words, the chunks' owners. -/
def ST (p size : Nat) (mem own : List Nat) : HProp := ex fun q : Value × Value × Nat × List Nat × Nat =>
  star [prop (STok size mem own q.2.2.2.1 q.2.2.2.2), pts p (row 180 [q.1, .int .i64 size, q.2.1, pp q.2.2.1]), UL q.1 mem, NL q.2.1 own, BM q.2.2.1 own.length q.2.2.2.1 q.2.2.2.2]
theorem ST_out [Extra] {w : World} {p size : Nat} {mem own : List Nat} {l : List HProp} (H : Holds w (ST p size mem own :: l)) : ∃ v v2 u ws many, STok size mem own ws many ∧
    Holds w (pts p (row 180 [v, .int .i64 size, v2, pp u]) :: UL v mem :: NL v2 own :: BM u own.length ws many :: l) := by
  obtain ⟨⟨v, v2, u, ws, many⟩, H⟩ := Holds.ex.1 H
  have H := Holds.star.1 H
  obtain ⟨h, H⟩ := Holds.prop.1 H
  exact ⟨v, v2, u, ws, many, h, H⟩
theorem ST_in [Extra] {w : World} {p size : Nat} {mem own : List Nat} {l : List HProp} {v v2 : Value} {u : Nat} {ws : List Nat} {many : Nat} (h : STok size mem own ws many)
    (H : Holds w (pts p (row 180 [v, .int .i64 size, v2, pp u]) :: UL v mem :: NL v2 own :: BM u own.length ws many :: l)) : Holds w (ST p size mem own :: l) :=
  Holds.ex.2 ⟨(v, v2, u, ws, many), Holds.star.2 (Holds.prop.2 ⟨h, H⟩)⟩

theorem sNew_spec [Extra] (n size : Nat) (h1 : 1 ≤ n) (h2 : n ≤ 1024) (h3 : 1 ≤ size) (h4 : size ≤ 1024) {w : World} {fr : List HProp} (H : Holds w fr) :
    Calls Tryz.prog 102 #[.int .i64 n, .int .i64 size] w (ret fun v w' => ∃ p, v = .tuple #[pp p, .int .i64 0] ∧ Holds w' (ST p size (List.replicate (n * size) 0) (List.replicate n 0) :: fr)) := by
  have hns : n * size ≤ 1048576 := Nat.mul_le_mul h2 h4
  refine calls_of Tryz.func102 rfl (by kernel_rfl) ?_
  repeat refine C_seq ?_
  refine C_region ?_
  refine Lp_pv rfl rfl ?_
  refine Lp_pv rfl rfl ?_
  refine Lp_nil ?_
  repeat refine C_seq ?_
  refine C_region ?_
  refine Lp_pv rfl rfl ?_
  refine Lp_pv rfl rfl ?_
  refine Lp_pv rfl rfl ?_
  rw [show decide ((n : Int) < 1) = false from decide_eq_false (by omega)]
  refine Lp_gpv rfl rfl rfl rfl ?_
  refine Lp_gpv rfl rfl rfl rfl ?_
  refine Lp_pv rfl rfl ?_
  refine Lp_pv rfl rfl ?_
  rw [show decide ((n : Int) > 1024) = false from decide_eq_false (by omega)]
  refine Lp_gpv rfl rfl rfl rfl ?_
  refine Lp_gpv rfl rfl rfl rfl ?_
  refine Lp_pv rfl rfl ?_
  refine Lp_pv rfl rfl ?_
  rw [show decide ((size : Int) < 1) = false from decide_eq_false (by omega)]
  refine Lp_gpv rfl rfl rfl rfl ?_
  refine Lp_gpv rfl rfl rfl rfl ?_
  refine Lp_pv rfl rfl ?_
  refine Lp_nil ?_
  rw [show decide ((size : Int) > 1024) = false from decide_eq_false (by omega)]
  repeat refine C_seq ?_
  refine C_false rfl (C_skip ?_)
  repeat refine C_seq ?_
  refine C_region ?_
  refine Lp_pv rfl rfl ?_
  refine Lp_s rfl (St_call (a := []) (b := []) rfl rfl (call (bNew_spec n (by omega) (by omega) H) ?_))
  clear H; rintro v w ⟨u, rfl, H⟩
  refine Lp_pv rfl rfl ?_
  refine Lp_pv rfl rfl ?_
  refine Lp_pv rfl rfl ?_
  refine Lp_pv rfl rfl ?_
  refine Lp_pv rfl rfl ?_
  refine Lp_nil ?_
  repeat refine C_seq ?_
  refine C_drawH H mixed ?_
  clear H; intro w H
  refine A_pv 0 rfl (Wants.none rfl) rfl (by kernel_rfl) ?_
  refine A_pv 1 rfl (Wants.none rfl) rfl (by kernel_rfl) ?_
  refine A_pv 2 rfl (Wants.none rfl) rfl (by kernel_rfl) ?_
  refine A_pv 4 rfl (Wants.none rfl) rfl (by kernel_rfl) ?_
  refine A_pv 5 rfl (Wants.none rfl) rfl (by kernel_rfl) ?_
  refine A_pv 7 rfl (Wants.none rfl) rfl (by kernel_rfl) ?_
  have e1 : IntKind.i64.wrap ((n : Int) * (size : Int)) = ((n * size : Nat) : Int) := by
    rw [← Int.natCast_mul, wrap64 (by omega) (by omega)]
  rw [e1]
  have hok : STok size (List.replicate (n * size) 0) (List.replicate n 0) (List.replicate (((List.replicate n 0).length + 63) / 64) 0) 0 := by
    refine ⟨h3, h4, by simpa using h1, by simpa using h2, by simp, by simp, fun h => ⟨0, ?_, Nat.two_pow_pos _, fun c hc => ?_⟩⟩
    · have : ((List.replicate n 0 : List Nat).length + 63) / 64 = 1 := by simp at h ⊢; omega
      rw [this]; rfl
    · have hc' : c < n := by simpa using hc
      simp [Nat.zero_testBit, hc']
  have z1 : zeros (cellsL (.int .u64 0)) (n * size) = ucells (List.replicate (n * size) 0) := by
    rw [show cellsL (.int .u64 0) = [.int .u64 0] from rfl, zeros1]; simp [ucells]
  have z2 : zeros (cellsL (.int .i64 0)) n = ncells (List.replicate n 0) := by
    rw [show cellsL (.int .i64 0) = [.int .i64 0] from rfl, zeros1]; simp [ncells]
  have hl : (List.replicate n 0 : List Nat).length = n := by simp
  rw [hl] at hok
  refine A_two 3 6 rfl rfl (by kernel_rfl) (by repeat first | exact .nil | refine .cons (.inr H.at) ?_ | refine .cons (.inr H.mp) ?_ | refine .cons (.inl (by kernel_rfl)) ?_) (Wants.none rfl) (Wants.none rfl) (St_makeSlice H rfl rfl (by decide) (by omega) rfl ?_) (St_makeSlice H rfl rfl (by decide) (by omega) rfl ?_)
  · clear H; intro b30 w H
    rw [z1] at H
    refine A_one 6 rfl (by kernel_rfl) (by repeat first | exact .nil | refine .cons (.inr H.at) ?_ | refine .cons (.inr H.mp) ?_ | refine .cons (.inl (by kernel_rfl)) ?_) (Wants.none rfl) (St_makeSlice H rfl rfl (by decide) (by omega) rfl ?_); clear H; intro b33 w H
    rw [z2] at H
    refine A_build 8 rfl (Wants.none rfl) rfl (by kernel_rfl) ?_
    refine A_one 9 rfl (by kernel_rfl) (by repeat first | exact .nil | refine .cons (.inr H.at) ?_ | refine .cons (.inr H.mp) ?_ | refine .cons (.inl (by kernel_rfl)) ?_) (Wants.none rfl) (St_boxN H rfl rfl ?_); clear H; intro b36 w H
    refine A_pv 10 rfl (Wants.none rfl) rfl (by kernel_rfl) ?_
    refine A_pv 11 rfl (Wants.none rfl) rfl (by kernel_rfl) ?_
    refine A_end (by kernel_rfl) (by repeat first | exact .nil | refine .cons (.inr H.at) ?_ | refine .cons (.inr H.mp) ?_ | refine .cons (.inl (by kernel_rfl)) ?_) ?_
    replace H := Holds.sel [0, 1, 0, 0] 0 H; dsimp only [SL.sel, SL.pull, List.drop] at H
    have H := ST_in (own := List.replicate n 0) hok (by rw [hl]; exact H)
    exact C_ret (fn_end0 _ (.inr rfl) H rfl fun w' H' => ⟨_, rfl, H'⟩)
  · clear H; intro b33 w H
    rw [z2] at H
    refine A_one 3 rfl (by kernel_rfl) (by repeat first | exact .nil | refine .cons (.inr H.at) ?_ | refine .cons (.inr H.mp) ?_ | refine .cons (.inl (by kernel_rfl)) ?_) (Wants.none rfl) (St_makeSlice H rfl rfl (by decide) (by omega) rfl ?_); clear H; intro b30 w H
    rw [z1] at H
    refine A_build 8 rfl (Wants.none rfl) rfl (by kernel_rfl) ?_
    refine A_one 9 rfl (by kernel_rfl) (by repeat first | exact .nil | refine .cons (.inr H.at) ?_ | refine .cons (.inr H.mp) ?_ | refine .cons (.inl (by kernel_rfl)) ?_) (Wants.none rfl) (St_boxN H rfl rfl ?_); clear H; intro b36 w H
    refine A_pv 10 rfl (Wants.none rfl) rfl (by kernel_rfl) ?_
    refine A_pv 11 rfl (Wants.none rfl) rfl (by kernel_rfl) ?_
    refine A_end (by kernel_rfl) (by repeat first | exact .nil | refine .cons (.inr H.at) ?_ | refine .cons (.inr H.mp) ?_ | refine .cons (.inl (by kernel_rfl)) ?_) ?_
    have H := ST_in (own := List.replicate n 0) hok (by rw [hl]; exact H)
    exact C_ret (fn_end0 _ (.inr rfl) H rfl fun w' H' => ⟨_, rfl, H'⟩)

theorem Chunks_spec [Extra] (p size : Nat) (mem own : List Nat) {w : World} {fr : List HProp} (H : Holds w (ST p size mem own :: fr)) : Calls Tryz.prog 90 #[pp p] w (ret fun v w' => v = .int .i64 own.length ∧ Holds w' (ST p size mem own :: fr)) := by
  obtain ⟨v, v2, u, ws, many, hok, H⟩ := ST_out H
  obtain ⟨a2, c2, rfl⟩ := sls_slice (H.drop.drop) (ncells_length own) (by decide)
  refine calls_of Tryz.func90 rfl (by kernel_rfl) ?_
  repeat refine C_seq ?_
  refine C_region ?_
  refine Lp_pv rfl rfl ?_
  refine Lp_nil ?_
  repeat refine C_seq ?_
  refine C_region ?_
  refine Lp_pv rfl rfl ?_
  refine Lp_s rfl (St_eqPtrNil rfl rfl (.inl rfl) rfl ?_)
  refine Lp_nil ?_
  repeat refine C_seq ?_
  refine C_false rfl (C_skip ?_)
  repeat refine C_seq ?_
  refine C_region ?_
  refine Lp_pv rfl rfl ?_
  refine Lp_pv rfl rfl ?_
  refine Lp_s rfl (St_fieldAddr rfl rfl ?_)
  refine Lp_s rfl (St_load1 H rfl rfl rfl ?_)
  refine Lp_s rfl (St_lenSlice rfl rfl ?_)
  refine Lp_pv rfl rfl ?_
  refine Lp_nil ?_
  exact C_ret (fn_end0 _ (.inr rfl) (ST_in hok H) rfl fun w' H' => ⟨rfl, H'⟩)

theorem Words_spec [Extra] (p size : Nat) (mem own : List Nat) {w : World} {fr : List HProp} (H : Holds w (ST p size mem own :: fr)) : Calls Tryz.prog 87 #[pp p] w (ret fun v w' => v = .int .i64 size ∧ Holds w' (ST p size mem own :: fr)) := by
  obtain ⟨v, v2, u, ws, many, hok, H⟩ := ST_out H
  refine calls_of Tryz.func87 rfl (by kernel_rfl) ?_
  repeat refine C_seq ?_
  refine C_region ?_
  refine Lp_pv rfl rfl ?_
  refine Lp_nil ?_
  repeat refine C_seq ?_
  refine C_region ?_
  refine Lp_pv rfl rfl ?_
  refine Lp_s rfl (St_eqPtrNil rfl rfl (.inl rfl) rfl ?_)
  refine Lp_nil ?_
  repeat refine C_seq ?_
  refine C_false rfl (C_skip ?_)
  repeat refine C_seq ?_
  refine C_region ?_
  refine Lp_pv rfl rfl ?_
  refine Lp_pv rfl rfl ?_
  refine Lp_s rfl (St_fieldAddr rfl rfl ?_)
  refine Lp_s rfl (St_load1 H rfl rfl rfl ?_)
  refine Lp_pv rfl rfl ?_
  refine Lp_nil ?_
  exact C_ret (fn_end0 _ (.inr rfl) (ST_in hok H) rfl fun w' H' => ⟨rfl, H'⟩)

theorem Owner_spec [Extra] (p size : Nat) (mem own : List Nat) (c : Nat) {w : World} {fr : List HProp} (H : Holds w (ST p size mem own :: fr)) (hc : c < own.length) : Calls Tryz.prog 86 #[pp p, .int .i64 c] w (ret fun v w' => v = .int .i64 (own.getD c 0) ∧ Holds w' (ST p size mem own :: fr)) := by
  refine calls_of Tryz.func86 rfl (by kernel_rfl) ?_
  repeat refine C_seq ?_
  refine C_region ?_
  refine Lp_pv rfl rfl ?_
  refine Lp_nil ?_
  repeat refine C_seq ?_
  refine C_region ?_
  refine Lp_pv rfl rfl ?_
  refine Lp_pv rfl rfl ?_
  refine Lp_pv rfl rfl ?_
  rw [show decide ((c : Int) < 0) = false from decide_eq_false (by omega)]
  refine Lp_gpv rfl rfl rfl rfl ?_
  refine Lp_gpv rfl rfl rfl rfl ?_
  refine Lp_g rfl rfl rfl (St_call (a := []) (b := []) rfl rfl (call (Chunks_spec p size mem own H) ?_))
  clear H; rintro v w ⟨rfl, H⟩
  refine Lp_gpv rfl rfl rfl rfl ?_
  refine Lp_pv rfl rfl ?_
  refine Lp_nil ?_
  rw [show decide ((c : Int) ≥ (own.length : Int)) = false from decide_eq_false (by omega)]
  repeat refine C_seq ?_
  refine C_false rfl (C_skip ?_)
  obtain ⟨v, v2, u, ws, many, hok, H⟩ := ST_out H
  replace H := Holds.sel [2, 0, 0, 0] 0 H; dsimp only [SL.sel, SL.pull, List.drop] at H
  obtain ⟨a2, c2, rfl⟩ := sls_slice H (ncells_length own) (by decide)
  obtain ⟨b, s, rfl, H, hclose⟩ := sls_open H (by omega)
  have hx := List.getElem?_eq_getElem hc
  have hg : own.getD c 0 = own[c] := by simp [hc]
  rw [hg]
  generalize own[c] = x at hx
  repeat refine C_seq ?_
  refine C_region ?_
  refine Lp_pv rfl rfl ?_
  refine Lp_pv rfl rfl ?_
  refine Lp_s rfl (St_fieldAddr rfl rfl ?_)
  refine Lp_s rfl (St_load1 H rfl rfl rfl ?_)
  refine Lp_pv rfl rfl ?_
  refine Lp_s rfl (St_indexAddr rfl rfl (by omega) (by omega) rfl ?_)
  refine Lp_s rfl (St_load1 H rfl (ncells_get hx) rfl ?_)
  refine Lp_pv rfl rfl ?_
  refine Lp_nil ?_
  replace H := hclose _ _ H
  replace H := Holds.sel [1, 1, 0, 0] 0 H; dsimp only [SL.sel, SL.pull, List.drop] at H
  exact C_ret (fn_end0 _ (.inr rfl) (ST_in hok H) rfl fun w' H' => ⟨rfl, H'⟩)

/-- From an address on so many words are owned. -/
def Owned (size : Nat) (own : List Nat) (a n : Nat) : Prop := ∀ c, a / size ≤ c → c ≤ (a + n - 1) / size → own.getD c 0 ≠ 0

theorem at_spec [Extra] (p size : Nat) (mem own : List Nat) (a n : Nat) (h1 : 1 ≤ n) (h2 : a + n ≤ mem.length) (h3 : Owned size own a n) {w : World} {fr : List HProp} (H : Holds w (ST p size mem own :: fr)) :
    Calls Tryz.prog 166 #[pp p, .int .i64 a, .int .i64 n] w (ret fun v w' => v = .int .i64 0 ∧ Holds w' (ST p size mem own :: fr)) := by
  obtain ⟨v, v2, u, ws, many, hok, H⟩ := ST_out H
  have hok' := hok
  obtain ⟨s1, s2, c1, c2, hlen, _, _⟩ := hok'
  have hmem : mem.length ≤ 1048576 := by rw [hlen]; exact Nat.mul_le_mul c2 s2
  have hdiv : (a + n - 1) / size < own.length := by
    rw [Nat.div_lt_iff_lt_mul (by omega), ← hlen]; omega
  have hdd : a / size ≤ (a + n - 1) / size := Nat.div_le_div_right (by omega)
  obtain ⟨a1, k1, rfl⟩ := sls_slice (H.drop) (ucells_length mem) (by decide)
  obtain ⟨a2, k2, rfl⟩ := sls_slice (H.drop.drop) (ncells_length own) (by decide)
  refine calls_of Tryz.func166 rfl (by kernel_rfl) ?_
  repeat refine C_seq ?_
  refine C_region ?_
  refine Lp_pv rfl rfl ?_
  refine Lp_nil ?_
  repeat refine C_seq ?_
  refine C_region ?_
  refine Lp_pv rfl rfl ?_
  refine Lp_pv rfl rfl ?_
  refine Lp_pv rfl rfl ?_
  rw [show decide ((n : Int) < 0) = false from decide_eq_false (by omega)]
  refine Lp_gpv rfl rfl rfl rfl ?_
  refine Lp_gpv rfl rfl rfl rfl ?_
  refine Lp_pv rfl rfl ?_
  refine Lp_pv rfl rfl ?_
  rw [show decide ((a : Int) < 0) = false from decide_eq_false (by omega)]
  refine Lp_gpv rfl rfl rfl rfl ?_
  refine Lp_gpv rfl rfl rfl rfl ?_
  refine Lp_gpv rfl rfl rfl rfl ?_
  refine Lp_g rfl rfl rfl (St_fieldAddr rfl rfl ?_)
  refine Lp_g rfl rfl rfl (St_load1 H rfl rfl rfl ?_)
  refine Lp_g rfl rfl rfl (St_lenSlice rfl rfl ?_)
  refine Lp_gpv rfl rfl rfl rfl ?_
  refine Lp_pv rfl rfl ?_
  refine Lp_pv rfl rfl ?_
  rw [show decide ((a : Int) > (mem.length : Int)) = false from decide_eq_false (by omega)]
  refine Lp_gpv rfl rfl rfl rfl ?_
  refine Lp_gpv rfl rfl rfl rfl ?_
  refine Lp_gpv rfl rfl rfl rfl ?_
  refine Lp_g rfl rfl rfl (St_fieldAddr rfl rfl ?_)
  refine Lp_g rfl rfl rfl (St_load1 H rfl rfl rfl ?_)
  refine Lp_g rfl rfl rfl (St_lenSlice rfl rfl ?_)
  refine Lp_gpv rfl rfl rfl rfl ?_
  refine Lp_gpv rfl rfl rfl rfl ?_
  refine Lp_gpv rfl rfl rfl rfl ?_
  refine Lp_pv rfl rfl ?_
  refine Lp_nil ?_
  rw [show decide ((n : Int) > IntKind.i64.wrap ((mem.length : Int) - (a : Int))) = false from decide_eq_false (by rw [wrap64 (by omega) (by omega)]; omega)]
  repeat refine C_seq ?_
  refine C_false rfl (C_skip ?_)
  repeat refine C_seq ?_
  refine C_region ?_
  refine Lp_pv rfl rfl ?_
  refine Lp_pv rfl rfl ?_
  refine Lp_nil ?_
  rw [show ((n : Int) == 0) = false by simp; omega]
  repeat refine C_seq ?_
  refine C_false rfl (C_skip ?_)
  repeat refine C_seq ?_
  refine C_region ?_
  refine Lp_pv rfl rfl ?_
  refine Lp_pv rfl rfl ?_
  refine Lp_pv rfl rfl ?_
  refine Lp_s rfl (St_fieldAddr rfl rfl ?_)
  refine Lp_s rfl (St_load1 H rfl rfl rfl ?_)
  refine Lp_pv (v := .int .i64 ((a / size : Nat) : Int)) (by
    show (if IntKind.i64 = IntKind.i64 then (if (size : Int) = 0 then none else some _) else none) = _
    rw [if_pos rfl, if_neg (by omega), quoN (by omega)]) rfl ?_
  refine Lp_pv rfl rfl ?_
  refine Lp_nil ?_
  repeat refine C_seq ?_
  refine C_block ?_
  refine C_loop (fun ms σ w q => ms = [] ∧ ∃ c : Nat, a / size ≤ c ∧ c ≤ (a + n - 1) / size + 1 ∧ q = (a + n - 1) / size + 1 - c ∧ σ 0 = pp p ∧ σ 1 = .int .i64 a ∧ σ 2 = .int .i64 n ∧ σ 7 = .int .i64 c ∧ Holds w (pts p (row 180 [.slice a1 mem.length k1, .int .i64 size, .slice a2 own.length k2, pp u]) :: UL (.slice a1 mem.length k1) mem :: NL (.slice a2 own.length k2) own :: BM u own.length ws many :: fr)) (m := (a + n - 1) / size + 1 - a / size) ⟨rfl, a / size, Nat.le_refl _, by omega, rfl, rfl, rfl, rfl, rfl, H⟩ ?_
  clear H
  rintro ms σ w q ⟨rfl, c, hc1, hc2, rfl, g0, g1, g2, g7, H⟩
  rw [upd_self g0, upd_self g1, upd_self g2, upd_self g7]
  repeat refine C_seq ?_
  refine C_region ?_
  refine Lp_pv rfl rfl ?_
  refine Lp_pv rfl rfl ?_
  refine Lp_pv rfl rfl ?_
  refine Lp_pv rfl rfl ?_
  refine Lp_pv rfl rfl ?_
  refine Lp_pv rfl rfl ?_
  refine Lp_pv rfl rfl ?_
  refine Lp_s rfl (St_fieldAddr rfl rfl ?_)
  refine Lp_s rfl (St_load1 H rfl rfl rfl ?_)
  rw [wrap64 (x := (a : Int) + (n : Int)) (by omega) (by omega), wrap64 (x := (a : Int) + (n : Int) - 1) (by omega) (by omega), show (a : Int) + (n : Int) - 1 = ((a + n - 1 : Nat) : Int) by omega]
  refine Lp_pv (v := .int .i64 (((a + n - 1) / size : Nat) : Int)) (by
    show (if IntKind.i64 = IntKind.i64 then (if (size : Int) = 0 then none else some _) else none) = _
    rw [if_pos rfl, if_neg (by omega), quoN (by omega)]) rfl ?_
  refine Lp_pv rfl rfl ?_
  refine Lp_nil ?_
  repeat refine C_seq ?_
  refine C_dec rfl (fun h => C_skip ?_) (fun h => C_exit ?_)
  · have hcl : c < own.length := by omega
    have hx := List.getElem?_eq_getElem hcl
    have hne : (own.getD c 0 : Nat) ≠ 0 := h3 c hc1 (by omega)
    have hg : own.getD c 0 = own[c] := by simp [hcl]
    rw [hg] at hne
    generalize own[c] = y at hx hne
    replace H := Holds.sel [2, 0, 0, 0] 0 H; dsimp only [SL.sel, SL.pull, List.drop] at H
    obtain ⟨b, s, rfl, H, hclose⟩ := sls_open H (by omega)
    repeat refine C_seq ?_
    refine C_block ?_
    repeat refine C_seq ?_
    refine C_region ?_
    refine Lp_pv rfl rfl ?_
    refine Lp_pv rfl rfl ?_
    refine Lp_s rfl (St_fieldAddr rfl rfl ?_)
    refine Lp_s rfl (St_load1 H rfl rfl rfl ?_)
    refine Lp_pv rfl rfl ?_
    refine Lp_s rfl (St_indexAddr rfl rfl (by omega) (by omega) rfl ?_)
    refine Lp_s rfl (St_load1 H rfl (ncells_get hx) rfl ?_)
    refine Lp_pv rfl rfl ?_
    refine Lp_nil ?_
    rw [show ((y : Int) == 0) = false by simp; omega]
    repeat refine C_seq ?_
    refine C_false rfl (C_skip ?_)
    replace H := hclose _ _ H
    replace H := Holds.sel [1, 1, 0, 0] 0 H; dsimp only [SL.sel, SL.pull, List.drop] at H
    repeat refine C_seq ?_
    refine C_region ?_
    refine Lp_pv rfl rfl ?_
    refine Lp_pv rfl rfl ?_
    refine Lp_pv rfl rfl ?_
    refine Lp_nil ?_
    exact ⟨_, ⟨rfl, c + 1, by omega, by omega, rfl, rfl, rfl, rfl, inc64 (by omega), H⟩, by omega⟩
  · repeat refine C_seq ?_
    refine C_region ?_
    refine Lp_pv rfl rfl ?_
    refine Lp_nil ?_
    exact C_ret (fn_end0 _ (.inr rfl) (ST_in hok H) rfl fun w' H' => ⟨rfl, H'⟩)
end Go.Proofs.YtcaaojbnjfdglaaGreatDoor
