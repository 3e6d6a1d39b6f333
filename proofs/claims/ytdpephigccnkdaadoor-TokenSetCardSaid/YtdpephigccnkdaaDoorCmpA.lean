/- cmp.Compare and cmp.Or at int: the walks. No condition. -/
import Derived.Test.YtdpephigccnkdaaDoorIns
import Derived.Test.YtdpephigccnkdaaDoorSlS
set_option linter.unusedVariables false
set_option linter.unusedSimpArgs false
set_option linter.unusedSectionVars false
namespace Go.Proofs.YtdpephigccnkdaaDoor
open Go.SL

theorem wrap64 {x : Int} (h1 : -9223372036854775808 ≤ x) (h2 : x ≤ 9223372036854775807) : IntKind.i64.wrap x = x := by
  simp [IntKind.wrap, IntKind.bits, IntKind.signed]; omega
theorem inc64 {i : Nat} (h : i < 1000000000) : Value.int .i64 (IntKind.i64.wrap ((i : Int) + 1)) = .int .i64 ((i + 1 : Nat) : Int) := by
  rw [wrap64 (by omega) (by omega)]; rfl

theorem isNaN_spec [Extra] (a : Int) (w : World) : Calls Tryd.prog 31 #[.int .i64 a] w (ret fun v w' => v = .bool false ∧ w' = w) := by
  refine calls_of Tryd.func31 rfl (by kernel_rfl) ?_
  repeat refine C_seq ?_
  refine C_region ?_
  first | refine Lp_pv rfl rfl ?_ | refine Lp_mv rfl rfl ?_
  refine Lp_nil ?_
  repeat refine C_seq ?_
  refine C_region ?_
  first | refine Lp_pv rfl rfl ?_ | refine Lp_mv rfl rfl ?_
  first | refine Lp_pv rfl rfl ?_ | refine Lp_mv rfl rfl ?_
  first | refine Lp_pv rfl rfl ?_ | refine Lp_s rfl (St_eqPtrNil rfl rfl (.inr rfl) rfl ?_) | refine Lp_s rfl (St_eqMapNil rfl rfl (.inr rfl) rfl ?_) | refine Lp_s rfl (St_eqPair rfl rfl (.inr rfl) rfl ?_) | refine Lp_s rfl (St_eqBool rfl rfl (.inr rfl) rfl ?_) | refine Lp_s rfl (St_eqS rfl rfl (.inr rfl) rfl ?_) | refine Lp_s rfl (St_eqSliceNil rfl rfl (.inr rfl) rfl ?_) | refine Lp_s rfl (St_eqStr rfl rfl (.inr rfl) rfl ?_)
  first | refine Lp_pv rfl rfl ?_ | refine Lp_mv rfl rfl ?_
  refine Lp_nil ?_
  exact C_ret (fn_endX (.inr rfl) rfl ⟨by show Value.bool (a != a) = _; simp, rfl⟩)

def cmpI (a b : Int) : Int := if a < b then -1 else if b < a then 1 else 0

theorem Compare_spec [Extra] (a b : Int) (w : World) : Calls Tryd.prog 24 #[.int .i64 a, .int .i64 b] w (ret fun v w' => v = .int .i64 (cmpI a b) ∧ w' = w) := by
  refine calls_of Tryd.func24 rfl (by kernel_rfl) ?_
  repeat refine C_seq ?_
  refine C_region ?_
  first | refine Lp_pv rfl rfl ?_ | refine Lp_mv rfl rfl ?_
  refine Lp_nil ?_
  repeat refine C_seq ?_
  refine C_region ?_
  first | refine Lp_pv rfl rfl ?_ | refine Lp_mv rfl rfl ?_
  refine Lp_s rfl (St_call (a := []) (b := []) rfl rfl (call (isNaN_spec a _) ?_))
  rintro v w' ⟨rfl, rfl⟩
  first | refine Lp_pv rfl rfl ?_ | refine Lp_mv rfl rfl ?_
  refine Lp_nil ?_
  repeat refine C_seq ?_
  refine C_region ?_
  first | refine Lp_pv rfl rfl ?_ | refine Lp_mv rfl rfl ?_
  refine Lp_s rfl (St_call (a := []) (b := []) rfl rfl (call (isNaN_spec b _) ?_))
  rintro v w' ⟨rfl, rfl⟩
  first | refine Lp_pv rfl rfl ?_ | refine Lp_mv rfl rfl ?_
  refine Lp_nil ?_
  repeat refine C_seq ?_
  refine C_region ?_
  first | refine Lp_pv rfl rfl ?_ | refine Lp_mv rfl rfl ?_
  refine Lp_nil ?_
  repeat refine C_seq ?_
  refine C_false rfl (C_skip ?_)
  repeat refine C_seq ?_
  refine C_region ?_
  first | refine Lp_pv rfl rfl ?_ | refine Lp_mv rfl rfl ?_
  refine Lp_nil ?_
  repeat refine C_seq ?_
  refine C_false rfl (C_skip ?_)
  repeat refine C_seq ?_
  refine C_region ?_
  first | refine Lp_pv rfl rfl ?_ | refine Lp_mv rfl rfl ?_
  first | refine Lp_pv rfl rfl ?_ | refine Lp_mv rfl rfl ?_
  refine Lp_pv rfl rfl ?_
  refine Lp_nil ?_
  repeat refine C_seq ?_
  refine C_dec rfl (fun h => ?_) (fun h => C_skip ?_)
  · repeat refine C_seq ?_
    refine C_region ?_
    first | refine Lp_pv rfl rfl ?_ | refine Lp_mv rfl rfl ?_
    refine Lp_nil ?_
    exact C_ret (fn_endX (.inr rfl) rfl ⟨by show Value.int .i64 (-1) = _; simp [cmpI, h], rfl⟩)
  · repeat refine C_seq ?_
    refine C_region ?_
    first | refine Lp_pv rfl rfl ?_ | refine Lp_mv rfl rfl ?_
    first | refine Lp_pv rfl rfl ?_ | refine Lp_mv rfl rfl ?_
    refine Lp_pv rfl rfl ?_
    refine Lp_nil ?_
    repeat refine C_seq ?_
    refine C_dec rfl (fun h2 => ?_) (fun h2 => C_skip ?_)
    · repeat refine C_seq ?_
      refine C_region ?_
      first | refine Lp_pv rfl rfl ?_ | refine Lp_mv rfl rfl ?_
      refine Lp_nil ?_
      exact C_ret (fn_endX (.inr rfl) rfl ⟨by have : b < a := h2; show Value.int .i64 1 = _; simp [cmpI, h, this], rfl⟩)
    · repeat refine C_seq ?_
      refine C_region ?_
      first | refine Lp_pv rfl rfl ?_ | refine Lp_mv rfl rfl ?_
      refine Lp_nil ?_
      exact C_ret (fn_endX (.inr rfl) rfl ⟨by have : ¬ b < a := h2; show Value.int .i64 0 = _; simp [cmpI, h, this], rfl⟩)

def orI (x y : Int) : Int := if x = 0 then y else x

theorem Or_spec [Extra] (b : Nat) (x y : Int) {w : World} {fr : List HProp} (H : Holds w (pts b (row 3 [.int .i64 x, .int .i64 y]) :: fr)) :
    Calls Tryd.prog 23 #[.slice (some ⟨b, 0, none⟩) 2 2] w (ret fun v w' => v = .int .i64 (orI x y) ∧ w' = w) := by
  refine calls_of Tryd.func23 rfl (by kernel_rfl) ?_
  repeat refine C_seq ?_
  refine C_region ?_
  first | refine Lp_pv rfl rfl ?_ | refine Lp_mv rfl rfl ?_
  refine Lp_nil ?_
  repeat refine C_seq ?_
  refine C_region ?_
  first | refine Lp_pv rfl rfl ?_ | refine Lp_mv rfl rfl ?_
  refine Lp_nil ?_
  repeat refine C_seq ?_
  refine C_region ?_
  first | refine Lp_pv rfl rfl ?_ | refine Lp_mv rfl rfl ?_
  refine Lp_s rfl (St_lenSlice rfl rfl ?_)
  first | refine Lp_pv rfl rfl ?_ | refine Lp_mv rfl rfl ?_
  refine Lp_nil ?_
  repeat refine C_seq ?_
  repeat refine C_seq ?_
  refine C_block ?_
  refine C_loop (fun ms σ w' n => ms = [] ∧ w' = w ∧ ∃ i : Nat, i ≤ 2 ∧ n = 2 - i ∧ σ 6 = .slice (some ⟨b, 0, none⟩) 2 2 ∧ σ 7 = .int .i64 2 ∧ σ 8 = .int .i64 i ∧ σ 3 = .int .i64 0 ∧ (1 ≤ i → x = 0) ∧ (2 ≤ i → y = 0)) (m := 2) ⟨rfl, rfl, 0, by omega, rfl, rfl, rfl, rfl, rfl, by omega, by omega⟩ ?_
  rintro ms σ w' n ⟨rfl, rfl, i, hi, rfl, h6, h7, h8, h3, hx, hy⟩
  rw [upd_self h6, upd_self h7, upd_self h8, upd_self h3]
  have h012 : i = 0 ∨ i = 1 ∨ i = 2 := by omega
  rcases h012 with rfl | rfl | rfl
  · repeat refine C_seq ?_
    refine C_region ?_
    refine Lp_pv rfl rfl ?_
    refine Lp_nil ?_
    repeat refine C_seq ?_
    refine C_true rfl (C_skip ?_)
    repeat refine C_seq ?_
    refine C_block ?_
    repeat refine C_seq ?_
    refine C_region ?_
    refine Lp_s rfl (St_indexAddr rfl rfl (by decide) (by decide) rfl ?_)
    first | refine Lp_s rfl (St_load1 H rfl rfl rfl ?_) | refine Lp_s rfl (St_loadN H rfl (by repeat (first | exact Reads.nil _ | apply Reads.cons rfl)) rfl ?_)
    first | refine Lp_pv rfl rfl ?_ | refine Lp_mv rfl rfl ?_
    refine Lp_nil ?_
    repeat refine C_seq ?_
    refine C_region ?_
    first | refine Lp_pv rfl rfl ?_ | refine Lp_mv rfl rfl ?_
    first | refine Lp_pv rfl rfl ?_ | refine Lp_mv rfl rfl ?_
    first | refine Lp_pv rfl rfl ?_ | refine Lp_s rfl (St_eqPtrNil rfl rfl (.inr rfl) rfl ?_) | refine Lp_s rfl (St_eqMapNil rfl rfl (.inr rfl) rfl ?_) | refine Lp_s rfl (St_eqPair rfl rfl (.inr rfl) rfl ?_) | refine Lp_s rfl (St_eqBool rfl rfl (.inr rfl) rfl ?_) | refine Lp_s rfl (St_eqS rfl rfl (.inr rfl) rfl ?_) | refine Lp_s rfl (St_eqSliceNil rfl rfl (.inr rfl) rfl ?_) | refine Lp_s rfl (St_eqStr rfl rfl (.inr rfl) rfl ?_)
    refine Lp_nil ?_
    repeat refine C_seq ?_
    refine C_cond rfl (fun ht => ?_) (fun ht => C_skip ?_)
    · have hx0 : x ≠ 0 := by simpa using ht
      repeat refine C_seq ?_
      refine C_region ?_
      first | refine Lp_pv rfl rfl ?_ | refine Lp_mv rfl rfl ?_
      first | refine Lp_pv rfl rfl ?_ | refine Lp_mv rfl rfl ?_
      refine Lp_nil ?_
      exact C_ret (fn_endX (.inr rfl) rfl ⟨by show Value.int .i64 x = _; simp [orI, hx0], rfl⟩)
    · have hx0 : x = 0 := by simpa using ht
      repeat refine C_seq ?_
      refine C_region ?_
      refine Lp_pv rfl rfl ?_
      first | refine Lp_pv rfl rfl ?_ | refine Lp_mv rfl rfl ?_
      refine Lp_nil ?_
      exact ⟨_, ⟨rfl, rfl, 1, by omega, rfl, rfl, rfl, rfl, rfl, by omega, by omega⟩, by omega⟩
  · repeat refine C_seq ?_
    refine C_region ?_
    refine Lp_pv rfl rfl ?_
    refine Lp_nil ?_
    repeat refine C_seq ?_
    refine C_true rfl (C_skip ?_)
    repeat refine C_seq ?_
    refine C_block ?_
    repeat refine C_seq ?_
    refine C_region ?_
    refine Lp_s rfl (St_indexAddr rfl rfl (by decide) (by decide) rfl ?_)
    first | refine Lp_s rfl (St_load1 H rfl rfl rfl ?_) | refine Lp_s rfl (St_loadN H rfl (by repeat (first | exact Reads.nil _ | apply Reads.cons rfl)) rfl ?_)
    first | refine Lp_pv rfl rfl ?_ | refine Lp_mv rfl rfl ?_
    refine Lp_nil ?_
    repeat refine C_seq ?_
    refine C_region ?_
    first | refine Lp_pv rfl rfl ?_ | refine Lp_mv rfl rfl ?_
    first | refine Lp_pv rfl rfl ?_ | refine Lp_mv rfl rfl ?_
    first | refine Lp_pv rfl rfl ?_ | refine Lp_s rfl (St_eqPtrNil rfl rfl (.inr rfl) rfl ?_) | refine Lp_s rfl (St_eqMapNil rfl rfl (.inr rfl) rfl ?_) | refine Lp_s rfl (St_eqPair rfl rfl (.inr rfl) rfl ?_) | refine Lp_s rfl (St_eqBool rfl rfl (.inr rfl) rfl ?_) | refine Lp_s rfl (St_eqS rfl rfl (.inr rfl) rfl ?_) | refine Lp_s rfl (St_eqSliceNil rfl rfl (.inr rfl) rfl ?_) | refine Lp_s rfl (St_eqStr rfl rfl (.inr rfl) rfl ?_)
    refine Lp_nil ?_
    repeat refine C_seq ?_
    refine C_cond rfl (fun ht => ?_) (fun ht => C_skip ?_)
    · have hx0 : y ≠ 0 := by simpa using ht
      repeat refine C_seq ?_
      refine C_region ?_
      first | refine Lp_pv rfl rfl ?_ | refine Lp_mv rfl rfl ?_
      first | refine Lp_pv rfl rfl ?_ | refine Lp_mv rfl rfl ?_
      refine Lp_nil ?_
      exact C_ret (fn_endX (.inr rfl) rfl ⟨by show Value.int .i64 y = _; simp [orI, hx (by omega)], rfl⟩)
    · have hx0 : y = 0 := by simpa using ht
      repeat refine C_seq ?_
      refine C_region ?_
      refine Lp_pv rfl rfl ?_
      first | refine Lp_pv rfl rfl ?_ | refine Lp_mv rfl rfl ?_
      refine Lp_nil ?_
      exact ⟨_, ⟨rfl, rfl, 2, by omega, rfl, rfl, rfl, rfl, rfl, by omega, by omega⟩, by omega⟩
  · repeat refine C_seq ?_
    refine C_region ?_
    refine Lp_pv rfl rfl ?_
    refine Lp_nil ?_
    repeat refine C_seq ?_
    refine C_false rfl (C_exit ?_)
    repeat refine C_seq ?_
    refine C_region ?_
    first | refine Lp_pv rfl rfl ?_ | refine Lp_mv rfl rfl ?_
    first | refine Lp_pv rfl rfl ?_ | refine Lp_mv rfl rfl ?_
    refine Lp_nil ?_
    exact C_ret (fn_endX (.inr rfl) rfl ⟨by show Value.int .i64 0 = _; simp [orI, hx (by omega), hy (by omega)], rfl⟩)

end Go.Proofs.YtdpephigccnkdaaDoor
