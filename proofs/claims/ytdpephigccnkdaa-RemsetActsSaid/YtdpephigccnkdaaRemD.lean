/- The remset's walks: sorted references. No condition. -/
import Derived.Test.YtdpephigccnkdaaRemC
import Derived.Test.YtdpephigccnkdaaSlS
import Derived.Test.YtdpephigccnkdaaSrt
set_option linter.unusedVariables false
set_option linter.unusedSimpArgs false
set_option linter.unusedSectionVars false
namespace Go.Proofs.Ytdpephigccnkdaa
open Go.SL

theorem isNaN_spec [Extra] (a : Int) (w : World) : Calls Try.prog 37 #[.int .i64 a] w (ret fun v w' => v = .bool false ∧ w' = w) := by
  refine calls_of Try.func37 rfl (by kernel_rfl) ?_
  repeat refine C_seq ?_
  refine C_region ?_
  first | refine Lp_pv rfl rfl ?_ | refine Lp_mv rfl rfl ?_
  refine Lp_nil ?_
  repeat refine C_seq ?_
  refine C_region ?_
  first | refine Lp_pv rfl rfl ?_ | refine Lp_mv rfl rfl ?_
  first | refine Lp_pv rfl rfl ?_ | refine Lp_mv rfl rfl ?_
  first | refine Lp_pv rfl rfl ?_ | refine Lp_s rfl (St_eqPtrNil rfl rfl (.inr rfl) rfl ?_) | refine Lp_s rfl (St_eqMapNil rfl rfl (.inr rfl) rfl ?_) | refine Lp_s rfl (St_eqPair rfl rfl (.inr rfl) rfl ?_) | refine Lp_s rfl (St_eqBool rfl rfl (.inr rfl) rfl ?_) | refine Lp_s rfl (St_eqStr rfl rfl (.inr rfl) rfl ?_)
  first | refine Lp_pv rfl rfl ?_ | refine Lp_mv rfl rfl ?_
  refine Lp_nil ?_
  exact C_ret (fn_endX (.inr rfl) rfl ⟨by show Value.bool (a != a) = _; simp, rfl⟩)

def cmpI (a b : Int) : Int := if a < b then -1 else if b < a then 1 else 0

theorem Compare_spec [Extra] (a b : Int) (w : World) : Calls Try.prog 33 #[.int .i64 a, .int .i64 b] w (ret fun v w' => v = .int .i64 (cmpI a b) ∧ w' = w) := by
  refine calls_of Try.func33 rfl (by kernel_rfl) ?_
  repeat refine C_seq ?_
  refine C_region ?_
  first | refine Lp_pv rfl rfl ?_ | refine Lp_mv rfl rfl ?_
  refine Lp_nil ?_
  repeat refine C_seq ?_
  refine C_region ?_
  first | refine Lp_pv rfl rfl ?_ | refine Lp_mv rfl rfl ?_
  refine Lp_s rfl (St_call (a := []) (b := []) rfl rfl (call (isNaN_spec a _) ?_))
  rintro v w' ⟨rfl, rfl⟩
  first | refine Lp_pv rfl rfl ?_ | refine Lp_mv rfl rfl ?_
  refine Lp_nil ?_
  repeat refine C_seq ?_
  refine C_region ?_
  first | refine Lp_pv rfl rfl ?_ | refine Lp_mv rfl rfl ?_
  refine Lp_s rfl (St_call (a := []) (b := []) rfl rfl (call (isNaN_spec b _) ?_))
  rintro v w' ⟨rfl, rfl⟩
  first | refine Lp_pv rfl rfl ?_ | refine Lp_mv rfl rfl ?_
  refine Lp_nil ?_
  repeat refine C_seq ?_
  refine C_region ?_
  first | refine Lp_pv rfl rfl ?_ | refine Lp_mv rfl rfl ?_
  refine Lp_nil ?_
  repeat refine C_seq ?_
  refine C_false rfl (C_skip ?_)
  repeat refine C_seq ?_
  refine C_region ?_
  first | refine Lp_pv rfl rfl ?_ | refine Lp_mv rfl rfl ?_
  refine Lp_nil ?_
  repeat refine C_seq ?_
  refine C_false rfl (C_skip ?_)
  repeat refine C_seq ?_
  refine C_region ?_
  first | refine Lp_pv rfl rfl ?_ | refine Lp_mv rfl rfl ?_
  first | refine Lp_pv rfl rfl ?_ | refine Lp_mv rfl rfl ?_
  refine Lp_pv rfl rfl ?_
  refine Lp_nil ?_
  repeat refine C_seq ?_
  refine C_dec rfl (fun h => ?_) (fun h => C_skip ?_)
  · repeat refine C_seq ?_
    refine C_region ?_
    first | refine Lp_pv rfl rfl ?_ | refine Lp_mv rfl rfl ?_
    refine Lp_nil ?_
    exact C_ret (fn_endX (.inr rfl) rfl ⟨by show Value.int .i64 (-1) = _; simp [cmpI, h], rfl⟩)
  · repeat refine C_seq ?_
    refine C_region ?_
    first | refine Lp_pv rfl rfl ?_ | refine Lp_mv rfl rfl ?_
    first | refine Lp_pv rfl rfl ?_ | refine Lp_mv rfl rfl ?_
    refine Lp_pv rfl rfl ?_
    refine Lp_nil ?_
    repeat refine C_seq ?_
    refine C_dec rfl (fun h2 => ?_) (fun h2 => C_skip ?_)
    · repeat refine C_seq ?_
      refine C_region ?_
      first | refine Lp_pv rfl rfl ?_ | refine Lp_mv rfl rfl ?_
      refine Lp_nil ?_
      exact C_ret (fn_endX (.inr rfl) rfl ⟨by have : b < a := h2; show Value.int .i64 1 = _; simp [cmpI, h, this], rfl⟩)
    · repeat refine C_seq ?_
      refine C_region ?_
      first | refine Lp_pv rfl rfl ?_ | refine Lp_mv rfl rfl ?_
      refine Lp_nil ?_
      exact C_ret (fn_endX (.inr rfl) rfl ⟨by have : ¬ b < a := h2; show Value.int .i64 0 = _; simp [cmpI, h, this], rfl⟩)

def orI (x y : Int) : Int := if x = 0 then y else x

theorem Or_spec [Extra] (b : Nat) (x y : Int) {w : World} {fr : List HProp} (H : Holds w (pts b (row 3 [.int .i64 x, .int .i64 y]) :: fr)) :
    Calls Try.prog 32 #[.slice (some ⟨b, 0, none⟩) 2 2] w (ret fun v w' => v = .int .i64 (orI x y) ∧ w' = w) := by
  refine calls_of Try.func32 rfl (by kernel_rfl) ?_
  repeat refine C_seq ?_
  refine C_region ?_
  first | refine Lp_pv rfl rfl ?_ | refine Lp_mv rfl rfl ?_
  refine Lp_nil ?_
  repeat refine C_seq ?_
  refine C_region ?_
  first | refine Lp_pv rfl rfl ?_ | refine Lp_mv rfl rfl ?_
  refine Lp_nil ?_
  repeat refine C_seq ?_
  refine C_region ?_
  first | refine Lp_pv rfl rfl ?_ | refine Lp_mv rfl rfl ?_
  refine Lp_s rfl (St_lenSlice rfl rfl ?_)
  first | refine Lp_pv rfl rfl ?_ | refine Lp_mv rfl rfl ?_
  refine Lp_nil ?_
  repeat refine C_seq ?_
  repeat refine C_seq ?_
  refine C_block ?_
  refine C_loop (fun ms σ w' n => ms = [] ∧ w' = w ∧ ∃ i : Nat, i ≤ 2 ∧ n = 2 - i ∧ σ 6 = .slice (some ⟨b, 0, none⟩) 2 2 ∧ σ 7 = .int .i64 2 ∧ σ 8 = .int .i64 i ∧ σ 3 = .int .i64 0 ∧ (1 ≤ i → x = 0) ∧ (2 ≤ i → y = 0)) (m := 2) ⟨rfl, rfl, 0, by omega, rfl, rfl, rfl, rfl, rfl, by omega, by omega⟩ ?_
  rintro ms σ w' n ⟨rfl, rfl, i, hi, rfl, h6, h7, h8, h3, hx, hy⟩
  rw [upd_self h6, upd_self h7, upd_self h8, upd_self h3]
  have h012 : i = 0 ∨ i = 1 ∨ i = 2 := by omega
  rcases h012 with rfl | rfl | rfl
  · repeat refine C_seq ?_
    refine C_region ?_
    refine Lp_pv rfl rfl ?_
    refine Lp_nil ?_
    repeat refine C_seq ?_
    refine C_true rfl (C_skip ?_)
    repeat refine C_seq ?_
    refine C_block ?_
    repeat refine C_seq ?_
    refine C_region ?_
    refine Lp_s rfl (St_indexAddr rfl rfl (by decide) (by decide) rfl ?_)
    first | refine Lp_s rfl (St_load1 H rfl rfl rfl ?_) | refine Lp_s rfl (St_loadN H rfl (by repeat (first | exact Reads.nil _ | apply Reads.cons rfl)) rfl ?_)
    first | refine Lp_pv rfl rfl ?_ | refine Lp_mv rfl rfl ?_
    refine Lp_nil ?_
    repeat refine C_seq ?_
    refine C_region ?_
    first | refine Lp_pv rfl rfl ?_ | refine Lp_mv rfl rfl ?_
    first | refine Lp_pv rfl rfl ?_ | refine Lp_mv rfl rfl ?_
    first | refine Lp_pv rfl rfl ?_ | refine Lp_s rfl (St_eqPtrNil rfl rfl (.inr rfl) rfl ?_) | refine Lp_s rfl (St_eqMapNil rfl rfl (.inr rfl) rfl ?_) | refine Lp_s rfl (St_eqPair rfl rfl (.inr rfl) rfl ?_) | refine Lp_s rfl (St_eqBool rfl rfl (.inr rfl) rfl ?_) | refine Lp_s rfl (St_eqStr rfl rfl (.inr rfl) rfl ?_)
    refine Lp_nil ?_
    repeat refine C_seq ?_
    refine C_cond rfl (fun ht => ?_) (fun ht => C_skip ?_)
    · have hx0 : x ≠ 0 := by simpa using ht
      repeat refine C_seq ?_
      refine C_region ?_
      first | refine Lp_pv rfl rfl ?_ | refine Lp_mv rfl rfl ?_
      first | refine Lp_pv rfl rfl ?_ | refine Lp_mv rfl rfl ?_
      refine Lp_nil ?_
      exact C_ret (fn_endX (.inr rfl) rfl ⟨by show Value.int .i64 x = _; simp [orI, hx0], rfl⟩)
    · have hx0 : x = 0 := by simpa using ht
      repeat refine C_seq ?_
      refine C_region ?_
      refine Lp_pv rfl rfl ?_
      first | refine Lp_pv rfl rfl ?_ | refine Lp_mv rfl rfl ?_
      refine Lp_nil ?_
      exact ⟨_, ⟨rfl, rfl, 1, by omega, rfl, rfl, rfl, rfl, rfl, by omega, by omega⟩, by omega⟩
  · repeat refine C_seq ?_
    refine C_region ?_
    refine Lp_pv rfl rfl ?_
    refine Lp_nil ?_
    repeat refine C_seq ?_
    refine C_true rfl (C_skip ?_)
    repeat refine C_seq ?_
    refine C_block ?_
    repeat refine C_seq ?_
    refine C_region ?_
    refine Lp_s rfl (St_indexAddr rfl rfl (by decide) (by decide) rfl ?_)
    first | refine Lp_s rfl (St_load1 H rfl rfl rfl ?_) | refine Lp_s rfl (St_loadN H rfl (by repeat (first | exact Reads.nil _ | apply Reads.cons rfl)) rfl ?_)
    first | refine Lp_pv rfl rfl ?_ | refine Lp_mv rfl rfl ?_
    refine Lp_nil ?_
    repeat refine C_seq ?_
    refine C_region ?_
    first | refine Lp_pv rfl rfl ?_ | refine Lp_mv rfl rfl ?_
    first | refine Lp_pv rfl rfl ?_ | refine Lp_mv rfl rfl ?_
    first | refine Lp_pv rfl rfl ?_ | refine Lp_s rfl (St_eqPtrNil rfl rfl (.inr rfl) rfl ?_) | refine Lp_s rfl (St_eqMapNil rfl rfl (.inr rfl) rfl ?_) | refine Lp_s rfl (St_eqPair rfl rfl (.inr rfl) rfl ?_) | refine Lp_s rfl (St_eqBool rfl rfl (.inr rfl) rfl ?_) | refine Lp_s rfl (St_eqStr rfl rfl (.inr rfl) rfl ?_)
    refine Lp_nil ?_
    repeat refine C_seq ?_
    refine C_cond rfl (fun ht => ?_) (fun ht => C_skip ?_)
    · have hx0 : y ≠ 0 := by simpa using ht
      repeat refine C_seq ?_
      refine C_region ?_
      first | refine Lp_pv rfl rfl ?_ | refine Lp_mv rfl rfl ?_
      first | refine Lp_pv rfl rfl ?_ | refine Lp_mv rfl rfl ?_
      refine Lp_nil ?_
      exact C_ret (fn_endX (.inr rfl) rfl ⟨by show Value.int .i64 y = _; simp [orI, hx (by omega)], rfl⟩)
    · have hx0 : y = 0 := by simpa using ht
      repeat refine C_seq ?_
      refine C_region ?_
      refine Lp_pv rfl rfl ?_
      first | refine Lp_pv rfl rfl ?_ | refine Lp_mv rfl rfl ?_
      refine Lp_nil ?_
      exact ⟨_, ⟨rfl, rfl, 2, by omega, rfl, rfl, rfl, rfl, rfl, by omega, by omega⟩, by omega⟩
  · repeat refine C_seq ?_
    refine C_region ?_
    refine Lp_pv rfl rfl ?_
    refine Lp_nil ?_
    repeat refine C_seq ?_
    refine C_false rfl (C_exit ?_)
    repeat refine C_seq ?_
    refine C_region ?_
    first | refine Lp_pv rfl rfl ?_ | refine Lp_mv rfl rfl ?_
    first | refine Lp_pv rfl rfl ?_ | refine Lp_mv rfl rfl ?_
    refine Lp_nil ?_
    exact C_ret (fn_endX (.inr rfl) rfl ⟨by show Value.int .i64 0 = _; simp [orI, hx (by omega), hy (by omega)], rfl⟩)

def cmpR (x y : Rf) : Int := orI (cmpI x.1 y.1) (cmpI x.2 y.2)

open Go.Sort in
theorem cmp_spec (x y : Rf) (w : World) : Calls Try.prog 31 #[rf x, rf y] w (ret fun v w' => v = .int .i64 (cmpR x y) ∧ ∃ q os', w' = grow (w.drewN q) os') := by
  obtain ⟨a, b⟩ := x
  obtain ⟨c, d⟩ := y
  letI : Extra := ⟨w.os, w.output⟩
  have H : Holds w [] := Holds.nil w ⟨rfl, rfl⟩
  refine calls_of Try.func31 rfl (by kernel_rfl) ?_
  repeat refine C_seq ?_
  refine C_region ?_
  refine Lp_s rfl (St_boxNX H rfl rfl ?_); clear H; intro b2 w1 e1 H
  refine Lp_s rfl (St_boxNX H rfl rfl ?_); clear H; intro b3 w2 e2 H
  first | refine Lp_pv rfl rfl ?_ | refine Lp_mv rfl rfl ?_
  refine Lp_nil ?_
  repeat refine C_seq ?_
  refine C_drawX H mixed ?_
  clear H; intro w3 e3 H
  refine A_fieldAddr 0 rfl (Wants.none rfl) rfl (by kernel_rfl) ?_
  first | refine A_load1 1 [4, 9, 10, 11] H rfl (Wants.none rfl) rfl rfl (by kernel_rfl) ?_ | refine A_loadN 1 [4, 9, 10, 11] H rfl (Wants.none rfl) rfl (by repeat (first | exact Reads.nil _ | apply Reads.cons rfl)) (by kernel_rfl) ?_
  refine A_fieldAddr 2 rfl (Wants.none rfl) rfl (by kernel_rfl) ?_
  first | refine A_load1 3 [4, 9, 10, 11] H rfl (Wants.none rfl) rfl rfl (by kernel_rfl) ?_ | refine A_loadN 3 [4, 9, 10, 11] H rfl (Wants.none rfl) rfl (by repeat (first | exact Reads.nil _ | apply Reads.cons rfl)) (by kernel_rfl) ?_
  refine A_fieldAddr 5 rfl (Wants.none rfl) rfl (by kernel_rfl) ?_
  first | refine A_load1 6 [9, 10, 11] H rfl (Wants.none rfl) rfl rfl (by kernel_rfl) ?_ | refine A_loadN 6 [9, 10, 11] H rfl (Wants.none rfl) rfl (by repeat (first | exact Reads.nil _ | apply Reads.cons rfl)) (by kernel_rfl) ?_
  refine A_fieldAddr 7 rfl (Wants.none rfl) rfl (by kernel_rfl) ?_
  first | refine A_load1 8 [9, 10, 11] H rfl (Wants.none rfl) rfl rfl (by kernel_rfl) ?_ | refine A_loadN 8 [9, 10, 11] H rfl (Wants.none rfl) rfl (by repeat (first | exact Reads.nil _ | apply Reads.cons rfl)) (by kernel_rfl) ?_
  refine A_one 4 rfl (by kernel_rfl) (by repeat (first | exact InvL.nil | refine InvL.cons (.inr (Holds.at H)) ?_ | refine InvL.cons (.inr (Holds.mp H)) ?_ | refine InvL.cons (.inl (by kernel_rfl)) ?_)) (Wants.none rfl) (St_call (a := []) (b := []) rfl rfl (call (Compare_spec a c _) ?_))
  rintro v w' ⟨rfl, rfl⟩
  refine A_one 9 rfl (by kernel_rfl) (by repeat (first | exact InvL.nil | refine InvL.cons (.inr (Holds.at H)) ?_ | refine InvL.cons (.inr (Holds.mp H)) ?_ | refine InvL.cons (.inl (by kernel_rfl)) ?_)) (Wants.none rfl) (St_call (a := []) (b := []) rfl rfl (call (Compare_spec b d _) ?_))
  rintro v w' ⟨rfl, rfl⟩
  refine A_one 10 rfl (by kernel_rfl) (by repeat (first | exact InvL.nil | refine InvL.cons (.inr (Holds.at H)) ?_ | refine InvL.cons (.inr (Holds.mp H)) ?_ | refine InvL.cons (.inl (by kernel_rfl)) ?_)) (Wants.none rfl) (St_buildSliceX H rfl rfl rfl ?_); clear H; intro b15 w5 e5 H
  refine A_one 11 rfl (by kernel_rfl) (by repeat (first | exact InvL.nil | refine InvL.cons (.inr (Holds.at H)) ?_ | refine InvL.cons (.inr (Holds.mp H)) ?_ | refine InvL.cons (.inl (by kernel_rfl)) ?_)) (Wants.none rfl) (St_call (a := []) (b := []) rfl rfl (call (Or_spec b15 (cmpI a c) (cmpI b d) H) ?_))
  rintro v w' ⟨rfl, rfl⟩
  refine A_pv 12 rfl (Wants.none rfl) rfl (by kernel_rfl) ?_
  refine A_end (by kernel_rfl) (by repeat (first | exact InvL.nil | refine InvL.cons (.inr (Holds.at H)) ?_ | refine InvL.cons (.inr (Holds.mp H)) ?_ | refine InvL.cons (.inl (by kernel_rfl)) ?_)) ?_
  have key : ∃ q os', w' = grow (w.drewN q) os' := by
    rw [e5, e3, e2, e1]
    simp only [alloc_eq_grow]
    exact ⟨1, _, by
      show grow (grow (grow (w.drewN 1) _) _) _ = _
      rw [grow_grow, grow_grow]⟩
  exact C_ret (fn_endX (.inr rfl) rfl ⟨rfl, key⟩)

def ltR (x y : Rf) : Prop := x.1 < y.1 ∨ x.1 = y.1 ∧ x.2 < y.2
instance (x y : Rf) : Decidable (ltR x y) := by unfold ltR; exact inferInstance

theorem cmpR_neg (x y : Rf) : cmpR x y < 0 ↔ ltR x y := by
  unfold cmpR orI cmpI ltR
  constructor
  · intro h
    repeat' split at h
    all_goals omega
  · intro h
    repeat' split
    all_goals omega

open Go.Sort in
theorem ltOf_cmpR (x y : Rf) : ltOf cmpR x y = decide (ltR x y) := by
  unfold ltOf
  rw [Bool.eq_iff_iff]
  simp [cmpR_neg]

open Go.Sort in
theorem swoR : SWO (ltOf cmpR) where
  irrefl x := by rw [ltOf_cmpR]; simp [ltR]
  trans x y z h1 h2 := by
    rw [ltOf_cmpR] at h1 h2 ⊢
    have h1 : ltR x y := of_decide_eq_true h1
    have h2 : ltR y z := of_decide_eq_true h2
    have h3 : ltR x z := by unfold ltR at *; omega
    exact decide_eq_true h3
  ntrans x y z h1 h2 := by
    rw [ltOf_cmpR] at h1 h2 ⊢
    have h1 : ¬ ltR x y := of_decide_eq_false h1
    have h2 : ¬ ltR y z := of_decide_eq_false h2
    have h3 : ¬ ltR x z := by unfold ltR at *; omega
    exact decide_eq_false h3

def encR (r : Rf) : List Value := [.int .i64 r.1, .int .i64 r.2]
theorem rcells_eq (l : List Rf) : rcells l = l.flatMap encR := rfl

/-- References in order, each once. -/
def Rising (l : List Rf) : Prop := l.Pairwise ltR

theorem SortedFunc_spec [Extra] (b : Nat) (x : Option Nat) (m : List (Rf × Int)) (hm : m.length ≤ 1000000) (hn : (m.map (·.1)).Nodup) {w : World} {fr : List HProp} (H : Holds w (pts b (row 49 [.map x]) :: mpv kp v1 (.map x) m :: fr)) :
    Calls Try.prog 29 #[.func (.func 36) #[] #[pp b], .func (.func 31) #[] #[]] w
      (ret fun v w' => ∃ ks, ks.Perm (m.map (·.1)) ∧ Rising ks ∧ Holds w' (sls 24 2 v (rcells ks) :: mpv kp v1 (.map x) m :: fr)) := by
  refine calls_of Try.func29 rfl (by kernel_rfl) ?_
  repeat refine C_seq ?_
  refine C_region ?_
  first | refine Lp_pv rfl rfl ?_ | refine Lp_mv rfl rfl ?_
  refine Lp_nil ?_
  repeat refine C_seq ?_
  refine C_region ?_
  first | refine Lp_pv rfl rfl ?_ | refine Lp_mv rfl rfl ?_
  refine Lp_s rfl (St_call (a := []) (b := []) rfl rfl (call (Collect_spec b x m hm H) ?_))
  rintro v w ⟨ks, hp, H⟩
  first | refine Lp_pv rfl rfl ?_ | refine Lp_mv rfl rfl ?_
  refine Lp_nil ?_
  repeat refine C_seq ?_
  refine C_region ?_
  first | refine Lp_pv rfl rfl ?_ | refine Lp_mv rfl rfl ?_
  first | refine Lp_pv rfl rfl ?_ | refine Lp_mv rfl rfl ?_
  have hs := sortFunc_spec (k := 2) (enc := encR) Try.sortRef (t := 24) rfl inferInstance (by decide) (fun _ => rfl) (fun x v hv => by simp [encR] at hv; rcases hv with rfl | rfl <;> rfl) cmpR swoR (g := 31) inferInstance (fun x y W => (cmp_spec x y W).mono fun e w' h => by
    cases e with
    | returned v => exact ⟨by rw [h.1], h.2⟩
    | panicked c => exact h.elim
    | outgrown => exact h.elim) H (by have := hp.length_eq; simp at this; omega)
  refine Lp_s rfl (St_call (a := []) (b := []) rfl rfl (call (hs) ?_))
  rintro v2 w ⟨ks2, hp2, hs2, H⟩
  refine Lp_nil ?_
  repeat refine C_seq ?_
  refine C_region ?_
  first | refine Lp_pv rfl rfl ?_ | refine Lp_mv rfl rfl ?_
  first | refine Lp_pv rfl rfl ?_ | refine Lp_mv rfl rfl ?_
  refine Lp_nil ?_
  have hp3 := hp2.trans hp
  refine C_ret (fn_end0 _ (.inr rfl) H rfl fun w' H' => ⟨ks2, hp3, ?_, H'⟩)
  have hnd : ks2.Nodup := hp3.nodup_iff.2 hn
  refine (hs2.and hnd).imp ?_
  rintro a b ⟨h1, h2⟩
  rw [ltOf_cmpR] at h1
  have h3 : ¬ ltR b a := of_decide_eq_false h1
  unfold ltR at h3 ⊢
  have h4 : ¬ (a.1 = b.1 ∧ a.2 = b.2) := fun e => h2 (Prod.ext e.1 e.2)
  omega

theorem sorted_spec [Extra] (x : Option Nat) (m : List (Rf × Int)) (hm : m.length ≤ 1000000) (hn : (m.map (·.1)).Nodup) {w : World} {fr : List HProp} (H : Holds w (mpv kp v1 (.map x) m :: fr)) :
    Calls Try.prog 27 #[.map x] w
      (ret fun v w' => ∃ ks, ks.Perm (m.map (·.1)) ∧ Rising ks ∧ Holds w' (sls 24 2 v (rcells ks) :: mpv kp v1 (.map x) m :: fr)) := by
  refine calls_of Try.func27 rfl (by kernel_rfl) ?_
  repeat refine C_seq ?_
  refine C_region ?_
  first | refine Lp_pv rfl rfl ?_ | refine Lp_mv rfl rfl ?_
  refine Lp_nil ?_
  repeat refine C_seq ?_
  refine C_region ?_
  first | refine Lp_pv rfl rfl ?_ | refine Lp_mv rfl rfl ?_
  refine Lp_s rfl (St_call (a := []) (b := []) rfl rfl (call (Keys_spec x m H) ?_))
  rintro v w ⟨b, rfl, H⟩
  
  refine Lp_s rfl (St_call (a := []) (b := []) rfl rfl (call (SortedFunc_spec b x m hm hn H) ?_))
  rintro v w ⟨ks, hp, hs, H⟩
  first | refine Lp_pv rfl rfl ?_ | refine Lp_mv rfl rfl ?_
  refine Lp_nil ?_
  exact C_ret (fn_end0 _ (.inr rfl) H rfl fun w' H' => ⟨ks, hp, hs, H'⟩)
end Go.Proofs.Ytdpephigccnkdaa
