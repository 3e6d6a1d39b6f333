/- Cells: what is proved on the way: every input of the statement; no condition. Texts joined: LawG. -/
import Derived.Test.YtcaaojbnjfdglaaGreatDoorCas
set_option linter.unusedVariables false
set_option linter.unusedSimpArgs false
set_option linter.unusedSectionVars false
namespace Go.Proofs.YtcaaojbnjfdglaaGreatDoor
open Go.SL

theorem beq_int (x : Int) : (x == x) = true := beq_self_eq_true x
theorem Do_spec [Extra] (p : Nat) (s : CS) (m : MS) (told : List (Nat × Nat)) (R : Rel s m told) (hseq : Seq s) (hfew : m.objs.length < 100000) (hP : m.P.length < 100000) (k A B C i g : Int) (X : Nat) (hX : X < 18446744073709551616) (vW : Value) (ws : List Nat) (hws : ∀ x ∈ ws, x < 18446744073709551616) (raw : Bool)
    {w : World} {fr : List HProp} [hT : HasTab 0 Lib.deBruijn64tab fr] (hrW : RdS fr vW ws.length 1 (ucells ws)) (H : Holds w (RUN p s m told :: fr)) :
    Calls Tryz.prog 15 #[pp p, .agg #[.int .i64 k, .int .i64 A, .int .i64 B, .int .i64 C, .int .u64 X, vW, .bool raw, .int .i64 i, .int .i64 g]] w (ret fun v w' => v = .bool true ∧ ∃ s' m' told', Rel s' m' told' ∧ Step s m told s' m' told' ∧ Holds w' (RUN p s' m' told' :: fr)) := by
  obtain ⟨_, adW, capW, rfl, _⟩ := id hrW
  obtain ⟨c, mo, a, cap, H⟩ := RUN_out H
  have hlen : told.length ≤ 1000000 := by rw [R.len]; omega
  obtain ⟨_, _, hw, _, _⟩ := CELL_out H.swap
  obtain ⟨_, _, _, _, _, _, _, hmw, _⟩ := MODEL_out (H.sel [2, 0, 0, 0] 0)
  refine calls_of Tryz.func15 rfl (by kernel_rfl) ?_
  repeat refine C_seq ?_
  refine C_region ?_
  (refine Lp_s rfl (St_boxN H rfl rfl ?_); clear H; intro b3 w H)
  refine Lp_pv rfl rfl ?_
  refine Lp_nil ?_
  repeat refine C_seq ?_
  refine C_join (fun ms σ w => ms = [] ∧ ∃ (b5 : Nat) (i' g' o : Int), Pick told i' g' o ∧ σ 0 = pp p ∧ σ 3 = pp b3 ∧ σ 5 = pp b5 ∧ σ 6 = .int .i64 o ∧ Holds w (pts b5 (row 32 [.int .i64 i', .int .i64 g']) :: pts b3 (row 34 [.int .i64 k, .int .i64 A, .int .i64 B, .int .i64 C, .int .u64 X, .slice adW ws.length capW, .bool raw, .int .i64 i, .int .i64 g]) :: RROW p c mo (.slice a told.length cap) :: CELL c s :: MODEL mo m :: TKL (.slice a told.length cap) told :: fr)) ?_ ?_
  · replace H := Holds.sel [1, 3, 0, 0, 0] 0 H; dsimp only [SL.sel, SL.pull, List.drop] at H
    repeat refine C_seq ?_
    refine C_region ?_
    refine Lp_pv rfl rfl ?_
    refine Lp_s rfl (St_fieldAddr rfl rfl ?_)
    refine Lp_s rfl (St_load1 H rfl rfl rfl ?_)
    refine Lp_s rfl (St_fieldAddr rfl rfl ?_)
    refine Lp_s rfl (St_load1 H rfl rfl rfl ?_)
    refine Lp_s rfl (St_fieldAddr rfl rfl ?_)
    refine Lp_s rfl (St_loadN H rfl (by repeat (first | exact Reads.nil _ | apply Reads.cons rfl)) rfl ?_)
    refine Lp_s rfl (St_call (a := []) (b := []) rfl rfl (call (pick_spec p c mo a cap told hlen A i g raw H) ?_))
    clear H; rintro v w ⟨i', g', o, rfl, hp, _, _, H⟩
    refine Lp_pv rfl rfl ?_
    refine Lp_pv rfl rfl ?_
    refine Lp_pv rfl rfl ?_
    (refine Lp_s rfl (St_alloc H rfl ?_); clear H; intro b5 w H)
    (refine Lp_s rfl (St_storeN H rfl rfl inferInstance rfl rfl (Nat.le_of_ble_eq_true rfl) rfl ?_); clear H; intro w H)
    refine Lp_pv rfl rfl ?_
    refine Lp_nil ?_
    replace H := Holds.sel [0, 2, 0, 1, 1, 0] 0 H; dsimp only [SL.sel, SL.pull, List.drop] at H
    exact ⟨rfl, rfl, _, i', g', o, hp, rfl, rfl, rfl, rfl, H⟩
  clear H
  rintro ms σ w ⟨rfl, b5, i', g', o, hPk, g0, g3, g5, g6, H⟩
  rw [upd_self g0, upd_self g3, upd_self g5, upd_self g6]
  repeat refine C_seq ?_
  refine C_region ?_
  refine Lp_s rfl (St_fieldAddr rfl rfl ?_)
  refine Lp_s rfl (St_load1 H rfl rfl rfl ?_)
  refine Lp_nil ?_
  repeat refine C_seq ?_
  refine C_block ?_
  repeat refine C_seq ?_
  refine C_region ?_
  refine Lp_pv rfl rfl ?_
  refine Lp_pv rfl rfl ?_
  refine Lp_nil ?_
  by_cases hk0 : k = 0
  · subst hk0
    repeat refine C_seq ?_
    refine C_true rfl ?_
    replace H := Holds.sel [3, 0, 0, 0, 0, 0] 0 H; dsimp only [SL.sel, SL.pull, List.drop] at H
    repeat refine C_seq ?_
    refine C_drawH H mixed ?_
    clear H; intro w H
    refine A_pv 0 rfl (Wants.none rfl) rfl (by kernel_rfl) ?_
    refine A_pv 1 rfl (Wants.none rfl) rfl (by kernel_rfl) ?_
    refine A_fieldAddr 2 rfl (Wants.none rfl) rfl (by kernel_rfl) ?_
    refine A_load1 3 [6] H rfl (Wants.none rfl) rfl rfl (by kernel_rfl) ?_
    refine A_fieldAddr 4 rfl (Wants.none rfl) rfl (by kernel_rfl) ?_
    refine A_load1 5 [6] H rfl (Wants.none rfl) rfl rfl (by kernel_rfl) ?_
    refine A_one 6 rfl (by kernel_rfl) (by repeat first | exact .nil | refine .cons (.inr H.at) ?_ | refine .cons (.inr H.mp) ?_ | refine .cons (.inl (by kernel_rfl)) ?_) (Wants.none rfl) (St_call (a := []) (b := []) rfl rfl (call (Define_spec c s _ ws hws hrW.there.there.there.there.there H) ?_))
    clear H; rintro v w ⟨rfl, H⟩
    obtain ⟨hd, R'⟩ := def_law R hmw ws
    rw [hd]
    refine A_pv 7 rfl (Wants.none rfl) rfl (by kernel_rfl) ?_
    refine A_pv 8 rfl (Wants.none rfl) rfl (by kernel_rfl) ?_
    refine A_pv 9 rfl (Wants.none rfl) rfl (by kernel_rfl) ?_
    refine A_pv 10 rfl (Wants.none rfl) rfl (by kernel_rfl) ?_
    refine A_pv 11 rfl (Wants.none rfl) rfl (by kernel_rfl) ?_
    refine A_end (by kernel_rfl) (by repeat first | exact .nil | refine .cons (.inr H.at) ?_ | refine .cons (.inr H.mp) ?_ | refine .cons (.inl (by kernel_rfl)) ?_) ?_
    replace H := Holds.sel [4, 0, 0, 0, 0, 0] 0 H; dsimp only [SL.sel, SL.pull, List.drop] at H
    repeat refine C_seq ?_
    refine C_drawH H mixed ?_
    clear H; intro w H
    refine A_pv 0 rfl (Wants.none rfl) rfl (by kernel_rfl) ?_
    refine A_pv 1 rfl (Wants.none rfl) rfl (by kernel_rfl) ?_
    refine A_fieldAddr 2 rfl (Wants.none rfl) rfl (by kernel_rfl) ?_
    refine A_load1 3 [6] H rfl (Wants.none rfl) rfl rfl (by kernel_rfl) ?_
    refine A_fieldAddr 4 rfl (Wants.none rfl) rfl (by kernel_rfl) ?_
    refine A_load1 5 [6] H rfl (Wants.none rfl) rfl rfl (by kernel_rfl) ?_
    refine A_one 6 rfl (by kernel_rfl) (by repeat first | exact .nil | refine .cons (.inr H.at) ?_ | refine .cons (.inr H.mp) ?_ | refine .cons (.inl (by kernel_rfl)) ?_) (Wants.none rfl) (St_call (a := []) (b := []) rfl rfl (call (Define15_spec mo m _ ws hws hrW.there.there.there.there.there H) ?_))
    clear H; rintro v w ⟨rfl, H⟩
    refine A_pv 7 rfl (Wants.none rfl) rfl (by kernel_rfl) ?_
    refine A_pv 8 rfl (Wants.none rfl) rfl (by kernel_rfl) ?_
    refine A_pv 9 rfl (Wants.none rfl) rfl (by kernel_rfl) ?_
    refine A_pv 10 rfl (Wants.none rfl) rfl (by kernel_rfl) ?_
    refine A_pv 11 rfl (Wants.none rfl) rfl (by kernel_rfl) ?_
    refine A_end (by kernel_rfl) (by repeat first | exact .nil | refine .cons (.inr H.at) ?_ | refine .cons (.inr H.mp) ?_ | refine .cons (.inl (by kernel_rfl)) ?_) ?_
    repeat refine C_seq ?_
    refine C_region ?_
    refine Lp_pv rfl rfl ?_
    refine Lp_pv rfl rfl ?_
    refine Lp_pv rfl rfl ?_
    rw [beq_int (((defM m ws).2.1 : Nat) : Int)]
    refine Lp_pv rfl rfl ?_
    refine Lp_gpv rfl rfl rfl rfl ?_
    refine Lp_gpv rfl rfl rfl rfl ?_
    refine Lp_gpv rfl rfl rfl rfl ?_
    rw [beq_int (((defM m ws).2.2 : Nat) : Int)]
    refine Lp_pv rfl rfl ?_
    refine Lp_pv rfl rfl ?_
    refine Lp_nil ?_
    replace H := Holds.sel [4, 1, 0, 2] 2 H; dsimp only [SL.sel, SL.pull, List.drop] at H
    exact C_ret (fn_end0 _ (.inr rfl) H rfl fun w' H' => ⟨rfl, _, _, _, R', ⟨by rw [(objs_defM m ws).2]; omega, by rw [(objs_defM m ws).1]; omega, .inl ⟨rfl, shape_defS s ws⟩⟩, RUN_in H'⟩)
  rw [show (k == 0) = false by simpa using hk0]
  repeat refine C_seq ?_
  refine C_false rfl ?_
  repeat refine C_seq ?_
  refine C_region ?_
  refine Lp_pv rfl rfl ?_
  refine Lp_pv rfl rfl ?_
  refine Lp_nil ?_
  by_cases hk1 : k = 1
  · subst hk1
    repeat refine C_seq ?_
    refine C_true rfl ?_
    have hl := R.last
    have he := err_law R hw A
    replace H := Holds.sel [3, 0, 0, 0, 0, 0] 0 H; dsimp only [SL.sel, SL.pull, List.drop] at H
    repeat refine C_seq ?_
    refine C_drawH H mixed ?_
    clear H; intro w H
    refine A_pv 0 rfl (Wants.none rfl) rfl (by kernel_rfl) ?_
    refine A_pv 1 rfl (Wants.none rfl) rfl (by kernel_rfl) ?_
    refine A_fieldAddr 2 rfl (Wants.none rfl) rfl (by kernel_rfl) ?_
    refine A_load1 3 [6] H rfl (Wants.none rfl) rfl rfl (by kernel_rfl) ?_
    refine A_fieldAddr 4 rfl (Wants.none rfl) rfl (by kernel_rfl) ?_
    refine A_load1 5 [6] H rfl (Wants.none rfl) rfl rfl (by kernel_rfl) ?_
    refine A_one 6 rfl (by kernel_rfl) (by repeat first | exact .nil | refine .cons (.inr H.at) ?_ | refine .cons (.inr H.mp) ?_ | refine .cons (.inl (by kernel_rfl)) ?_) (Wants.none rfl) (St_call (a := []) (b := []) rfl rfl (call (Open_spec c s A (by omega) H) ?_))
    clear H; rintro v w (⟨h1, rfl, H⟩ | ⟨h1, b, b2, rfl, H⟩)
    · rw [he] at h1 ⊢
      have ho : openM m A = (m, 0, dErr m.P A) := by unfold openM; rw [if_neg h1]
      refine A_pv 7 rfl (Wants.none rfl) rfl (by kernel_rfl) ?_
      refine A_pv 8 rfl (Wants.none rfl) rfl (by kernel_rfl) ?_
      refine A_pv 9 rfl (Wants.none rfl) rfl (by kernel_rfl) ?_
      refine A_pv 10 rfl (Wants.none rfl) rfl (by kernel_rfl) ?_
      refine A_pv 11 rfl (Wants.none rfl) rfl (by kernel_rfl) ?_
      refine A_end (by kernel_rfl) (by repeat first | exact .nil | refine .cons (.inr H.at) ?_ | refine .cons (.inr H.mp) ?_ | refine .cons (.inl (by kernel_rfl)) ?_) ?_
      replace H := Holds.sel [4, 0, 0, 0, 0, 0] 0 H; dsimp only [SL.sel, SL.pull, List.drop] at H
      repeat refine C_seq ?_
      refine C_drawH H mixed ?_
      clear H; intro w H
      refine A_pv 0 rfl (Wants.none rfl) rfl (by kernel_rfl) ?_
      refine A_pv 1 rfl (Wants.none rfl) rfl (by kernel_rfl) ?_
      refine A_fieldAddr 2 rfl (Wants.none rfl) rfl (by kernel_rfl) ?_
      refine A_load1 3 [6] H rfl (Wants.none rfl) rfl rfl (by kernel_rfl) ?_
      refine A_fieldAddr 4 rfl (Wants.none rfl) rfl (by kernel_rfl) ?_
      refine A_load1 5 [6] H rfl (Wants.none rfl) rfl rfl (by kernel_rfl) ?_
      refine A_one 6 rfl (by kernel_rfl) (by repeat first | exact .nil | refine .cons (.inr H.at) ?_ | refine .cons (.inr H.mp) ?_ | refine .cons (.inl (by kernel_rfl)) ?_) (Wants.none rfl) (St_call (a := []) (b := []) rfl rfl (call (Open15_spec mo m A hP H) ?_))
      clear H; rintro v w ⟨rfl, H⟩
      rw [ho] at H ⊢
      refine A_pv 7 rfl (Wants.none rfl) rfl (by kernel_rfl) ?_
      refine A_pv 8 rfl (Wants.none rfl) rfl (by kernel_rfl) ?_
      refine A_pv 9 rfl (Wants.none rfl) rfl (by kernel_rfl) ?_
      refine A_pv 10 rfl (Wants.none rfl) rfl (by kernel_rfl) ?_
      refine A_pv 11 rfl (Wants.none rfl) rfl (by kernel_rfl) ?_
      refine A_end (by kernel_rfl) (by repeat first | exact .nil | refine .cons (.inr H.at) ?_ | refine .cons (.inr H.mp) ?_ | refine .cons (.inl (by kernel_rfl)) ?_) ?_
      repeat refine C_seq ?_
      refine C_region ?_
      refine Lp_pv rfl rfl ?_
      refine Lp_pv rfl rfl ?_
      refine Lp_pv rfl rfl ?_
      refine Lp_pv rfl rfl ?_
      refine Lp_gpv rfl rfl rfl rfl ?_
      refine Lp_gpv rfl rfl rfl rfl ?_
      refine Lp_gpv rfl rfl rfl rfl ?_
      rw [beq_int ((dErr m.P A : Nat) : Int)]
      refine Lp_pv rfl rfl ?_
      refine Lp_pv rfl rfl ?_
      refine Lp_nil ?_
      replace H := Holds.sel [4, 1, 0, 2] 2 H; dsimp only [SL.sel, SL.pull, List.drop] at H
      exact C_ret (fn_end0 _ (.inr rfl) H rfl fun w' H' => ⟨rfl, _, _, _, R, Step_eq rfl rfl rfl, RUN_in H'⟩)
    · rw [he] at h1
      have ho : openM m A = ({ m with P := m.P ++ [A] }, m.P.length, 0) := by unfold openM; rw [if_pos h1]
      refine A_pv 7 rfl (Wants.none rfl) rfl (by kernel_rfl) ?_
      refine A_pv 8 rfl (Wants.none rfl) rfl (by kernel_rfl) ?_
      refine A_pv 9 rfl (Wants.none rfl) rfl (by kernel_rfl) ?_
      refine A_pv 10 rfl (Wants.none rfl) rfl (by kernel_rfl) ?_
      refine A_pv 11 rfl (Wants.none rfl) rfl (by kernel_rfl) ?_
      refine A_end (by kernel_rfl) (by repeat first | exact .nil | refine .cons (.inr H.at) ?_ | refine .cons (.inr H.mp) ?_ | refine .cons (.inl (by kernel_rfl)) ?_) ?_
      replace H := Holds.sel [4, 0, 0, 0, 0, 0] 0 H; dsimp only [SL.sel, SL.pull, List.drop] at H
      repeat refine C_seq ?_
      refine C_drawH H mixed ?_
      clear H; intro w H
      refine A_pv 0 rfl (Wants.none rfl) rfl (by kernel_rfl) ?_
      refine A_pv 1 rfl (Wants.none rfl) rfl (by kernel_rfl) ?_
      refine A_fieldAddr 2 rfl (Wants.none rfl) rfl (by kernel_rfl) ?_
      refine A_load1 3 [6] H rfl (Wants.none rfl) rfl rfl (by kernel_rfl) ?_
      refine A_fieldAddr 4 rfl (Wants.none rfl) rfl (by kernel_rfl) ?_
      refine A_load1 5 [6] H rfl (Wants.none rfl) rfl rfl (by kernel_rfl) ?_
      refine A_one 6 rfl (by kernel_rfl) (by repeat first | exact .nil | refine .cons (.inr H.at) ?_ | refine .cons (.inr H.mp) ?_ | refine .cons (.inl (by kernel_rfl)) ?_) (Wants.none rfl) (St_call (a := []) (b := []) rfl rfl (call (Open15_spec mo m A hP H) ?_))
      clear H; rintro v w ⟨rfl, H⟩
      rw [ho] at H ⊢
      rw [hl]
      refine A_pv 7 rfl (Wants.none rfl) rfl (by kernel_rfl) ?_
      refine A_pv 8 rfl (Wants.none rfl) rfl (by kernel_rfl) ?_
      refine A_pv 9 rfl (Wants.none rfl) rfl (by kernel_rfl) ?_
      refine A_pv 10 rfl (Wants.none rfl) rfl (by kernel_rfl) ?_
      refine A_pv 11 rfl (Wants.none rfl) rfl (by kernel_rfl) ?_
      refine A_end (by kernel_rfl) (by repeat first | exact .nil | refine .cons (.inr H.at) ?_ | refine .cons (.inr H.mp) ?_ | refine .cons (.inl (by kernel_rfl)) ?_) ?_
      repeat refine C_seq ?_
      refine C_region ?_
      refine Lp_pv rfl rfl ?_
      refine Lp_pv rfl rfl ?_
      refine Lp_pv rfl rfl ?_
      rw [beq_int ((m.P.length : Nat) : Int)]
      refine Lp_pv rfl rfl ?_
      refine Lp_gpv rfl rfl rfl rfl ?_
      refine Lp_gpv rfl rfl rfl rfl ?_
      refine Lp_gpv rfl rfl rfl rfl ?_
      refine Lp_pv rfl rfl ?_
      refine Lp_pv rfl rfl ?_
      refine Lp_nil ?_
      replace H := Holds.sel [4, 1, 0, 2] 2 H; dsimp only [SL.sel, SL.pull, List.drop] at H
      exact C_ret (fn_end0 _ (.inr rfl) H rfl fun w' H' => ⟨rfl, _, _, _, open_rel R h1 b b2, ⟨by show (m.P ++ [A]).length ≤ _; simp, by show m.objs.length ≤ _; omega, .inl ⟨rfl, rfl⟩⟩, RUN_in H'⟩)
  rw [show (k == 1) = false by simpa using hk1]
  repeat refine C_seq ?_
  refine C_false rfl ?_
  repeat refine C_seq ?_
  refine C_region ?_
  refine Lp_pv rfl rfl ?_
  refine Lp_pv rfl rfl ?_
  refine Lp_nil ?_
  by_cases hk2 : k = 2
  · subst hk2
    repeat refine C_seq ?_
    refine C_true rfl ?_
    repeat refine C_seq ?_
    refine C_region ?_
    refine Lp_pv rfl rfl ?_
    refine Lp_s rfl (St_loadN H rfl (by repeat (first | exact Reads.nil _ | apply Reads.cons rfl)) rfl ?_)
    replace H := Holds.sel [2, 2, 2, 2, 0, 0] 0 H; dsimp only [SL.sel, SL.pull, List.drop] at H
    refine Lp_s rfl (St_call (a := []) (b := []) rfl rfl (call (made_spec p c mo a cap s m told R hseq hfew _ A B C _ i g .i64 _ raw rfl H) ?_))
    clear H; rintro v w ⟨rfl, s', m', told', a', cap', R', S', H⟩
    refine Lp_pv rfl rfl ?_
    refine Lp_nil ?_
    replace H := Holds.sel [0, 0, 0, 0] 2 H; dsimp only [SL.sel, SL.pull, List.drop] at H
    exact C_ret (fn_end0 _ (.inr rfl) H rfl fun w' H' => ⟨rfl, s', m', told', R', S', RUN_in H'⟩)
  rw [show (k == 2) = false by simpa using hk2]
  repeat refine C_seq ?_
  refine C_false rfl ?_
  repeat refine C_seq ?_
  refine C_region ?_
  refine Lp_pv rfl rfl ?_
  refine Lp_pv rfl rfl ?_
  refine Lp_nil ?_
  by_cases hk3 : k = 3
  · subst hk3
    repeat refine C_seq ?_
    refine C_true rfl ?_
    replace H := Holds.sel [3, 0, 0, 0, 0, 0] 0 H; dsimp only [SL.sel, SL.pull, List.drop] at H
    repeat refine C_seq ?_
    refine C_drawH H mixed ?_
    clear H; intro w H
    refine A_pv 0 rfl (Wants.none rfl) rfl (by kernel_rfl) ?_
    refine A_pv 1 rfl (Wants.none rfl) rfl (by kernel_rfl) ?_
    refine A_fieldAddr 2 rfl (Wants.none rfl) rfl (by kernel_rfl) ?_
    refine A_load1 3 [7] H rfl (Wants.none rfl) rfl rfl (by kernel_rfl) ?_
    refine A_loadN 4 [7] H rfl (Wants.none rfl) rfl (by repeat (first | exact Reads.nil _ | apply Reads.cons rfl)) (by kernel_rfl) ?_
    refine A_fieldAddr 5 rfl (Wants.none rfl) rfl (by kernel_rfl) ?_
    refine A_load1 6 [7] H rfl (Wants.none rfl) rfl rfl (by kernel_rfl) ?_
    refine A_one 7 rfl (by kernel_rfl) (by repeat first | exact .nil | refine .cons (.inr H.at) ?_ | refine .cons (.inr H.mp) ?_ | refine .cons (.inl (by kernel_rfl)) ?_) (Wants.none rfl) (St_call (a := []) (b := []) rfl rfl (call (Get_spec c s i' g' B H) ?_))
    clear H; rintro v w ⟨rfl, H⟩
    rcases get_law R hPk B with ⟨h0, h1⟩ | ⟨h0, n, j, x, rfl, rfl, hx, hj, h1⟩
    · rw [h1]
      refine A_pv 8 rfl (Wants.none rfl) rfl (by kernel_rfl) ?_
      refine A_pv 9 rfl (Wants.none rfl) rfl (by kernel_rfl) ?_
      refine A_pv 10 rfl (Wants.none rfl) rfl (by kernel_rfl) ?_
      refine A_pv 11 rfl (Wants.none rfl) rfl (by kernel_rfl) ?_
      refine A_pv 12 rfl (Wants.none rfl) rfl (by kernel_rfl) ?_
      refine A_end (by kernel_rfl) (by repeat first | exact .nil | refine .cons (.inr H.at) ?_ | refine .cons (.inr H.mp) ?_ | refine .cons (.inl (by kernel_rfl)) ?_) ?_
      replace H := Holds.sel [4, 0, 0, 0, 0, 0] 0 H; dsimp only [SL.sel, SL.pull, List.drop] at H
      repeat refine C_seq ?_
      refine C_drawH H mixed ?_
      clear H; intro w H
      refine A_pv 0 rfl (Wants.none rfl) rfl (by kernel_rfl) ?_
      refine A_pv 1 rfl (Wants.none rfl) rfl (by kernel_rfl) ?_
      refine A_fieldAddr 2 rfl (Wants.none rfl) rfl (by kernel_rfl) ?_
      refine A_load1 3 [7] H rfl (Wants.none rfl) rfl rfl (by kernel_rfl) ?_
      refine A_pv 4 rfl (Wants.none rfl) rfl (by kernel_rfl) ?_
      refine A_fieldAddr 5 rfl (Wants.none rfl) rfl (by kernel_rfl) ?_
      refine A_load1 6 [7] H rfl (Wants.none rfl) rfl rfl (by kernel_rfl) ?_
      refine A_one 7 rfl (by kernel_rfl) (by repeat first | exact .nil | refine .cons (.inr H.at) ?_ | refine .cons (.inr H.mp) ?_ | refine .cons (.inl (by kernel_rfl)) ?_) (Wants.none rfl) (St_call (a := []) (b := []) rfl rfl (call (Place_spec mo m o B false H) ?_))
      clear H; rintro v w ⟨rfl, H⟩
      refine A_pv 8 rfl (Wants.none rfl) rfl (by kernel_rfl) ?_
      refine A_end (by kernel_rfl) (by repeat first | exact .nil | refine .cons (.inr H.at) ?_ | refine .cons (.inr H.mp) ?_ | refine .cons (.inl (by kernel_rfl)) ?_) ?_
      repeat refine C_seq ?_
      refine C_region ?_
      refine Lp_pv rfl rfl ?_
      refine Lp_pv rfl rfl ?_
      refine Lp_nil ?_
      rw [show (((placeM m o B false : Nat) : Int) != 0) = true by rw [bne_iff_ne]; omega]
      repeat refine C_seq ?_
      refine C_true rfl ?_
      repeat refine C_seq ?_
      refine C_region ?_
      refine Lp_pv rfl rfl ?_
      refine Lp_pv rfl rfl ?_
      refine Lp_pv rfl rfl ?_
      rw [beq_int ((placeM m o B false : Nat) : Int)]
      refine Lp_pv rfl rfl ?_
      refine Lp_gpv rfl rfl rfl rfl ?_
      refine Lp_gpv rfl rfl rfl rfl ?_
      refine Lp_pv rfl rfl ?_
      refine Lp_pv rfl rfl ?_
      refine Lp_nil ?_
      replace H := Holds.sel [4, 1, 0, 2] 2 H; dsimp only [SL.sel, SL.pull, List.drop] at H
      exact C_ret (fn_end0 _ (.inr rfl) H rfl fun w' H' => ⟨rfl, s, m, told, R, Step_eq rfl rfl rfl, RUN_in H'⟩)
    · rw [h1]
      have hnl := (List.getElem?_eq_some_iff.1 hx).1
      have hjx := List.getElem?_eq_getElem hj
      have hjd : x.w.getD j 0 = x.w[j] := by rw [List.getD_eq_getElem?_getD, hjx]; rfl
      have hsm := MODEL_sizes (w := hmw) hx
      rw [hjd]
      generalize x.w[j] = y at hjx
      refine A_pv 8 rfl (Wants.none rfl) rfl (by kernel_rfl) ?_
      refine A_pv 9 rfl (Wants.none rfl) rfl (by kernel_rfl) ?_
      refine A_pv 10 rfl (Wants.none rfl) rfl (by kernel_rfl) ?_
      refine A_pv 11 rfl (Wants.none rfl) rfl (by kernel_rfl) ?_
      refine A_pv 12 rfl (Wants.none rfl) rfl (by kernel_rfl) ?_
      refine A_end (by kernel_rfl) (by repeat first | exact .nil | refine .cons (.inr H.at) ?_ | refine .cons (.inr H.mp) ?_ | refine .cons (.inl (by kernel_rfl)) ?_) ?_
      replace H := Holds.sel [4, 0, 0, 0, 0, 0] 0 H; dsimp only [SL.sel, SL.pull, List.drop] at H
      repeat refine C_seq ?_
      refine C_drawH H mixed ?_
      clear H; intro w H
      refine A_pv 0 rfl (Wants.none rfl) rfl (by kernel_rfl) ?_
      refine A_pv 1 rfl (Wants.none rfl) rfl (by kernel_rfl) ?_
      refine A_fieldAddr 2 rfl (Wants.none rfl) rfl (by kernel_rfl) ?_
      refine A_load1 3 [7] H rfl (Wants.none rfl) rfl rfl (by kernel_rfl) ?_
      refine A_pv 4 rfl (Wants.none rfl) rfl (by kernel_rfl) ?_
      refine A_fieldAddr 5 rfl (Wants.none rfl) rfl (by kernel_rfl) ?_
      refine A_load1 6 [7] H rfl (Wants.none rfl) rfl rfl (by kernel_rfl) ?_
      refine A_one 7 rfl (by kernel_rfl) (by repeat first | exact .nil | refine .cons (.inr H.at) ?_ | refine .cons (.inr H.mp) ?_ | refine .cons (.inl (by kernel_rfl)) ?_) (Wants.none rfl) (St_call (a := []) (b := []) rfl rfl (call (Place_spec mo m n j false H) ?_))
      clear H; rintro v w ⟨rfl, H⟩
      rw [h0]
      refine A_pv 8 rfl (Wants.none rfl) rfl (by kernel_rfl) ?_
      refine A_end (by kernel_rfl) (by repeat first | exact .nil | refine .cons (.inr H.at) ?_ | refine .cons (.inr H.mp) ?_ | refine .cons (.inl (by kernel_rfl)) ?_) ?_
      repeat refine C_seq ?_
      refine C_region ?_
      refine Lp_pv rfl rfl ?_
      refine Lp_pv rfl rfl ?_
      refine Lp_nil ?_
      repeat refine C_seq ?_
      refine C_false rfl (C_skip ?_)
      obtain ⟨t, lc, aL, cL, bO, cO, sO, ptrs, q, vw, vk, vt, rest, hm, h2, hp, H, hclose⟩ := MODEL_at H hx
      have hm' := set_same hx hm
      obtain ⟨aw, cw, rfl⟩ := sls_slice H.drop (ucells_length _) (by decide)
      obtain ⟨bW, sW, rfl, H, hcw⟩ := sls_open H.swap (by omega)
      repeat refine C_seq ?_
      refine C_drawH H mixed ?_
      clear H; intro w H
      refine A_pv 0 rfl (Wants.none rfl) rfl (by kernel_rfl) ?_
      refine A_pv 1 rfl (Wants.none rfl) rfl (by kernel_rfl) ?_
      refine A_pv 2 rfl (Wants.none rfl) rfl (by kernel_rfl) ?_
      refine A_pv 3 rfl (Wants.of rfl rfl rfl) rfl (by kernel_rfl) ?_
      refine A_pv 4 rfl (Wants.of rfl rfl rfl) rfl (by kernel_rfl) ?_
      refine A_pv 5 rfl (Wants.of rfl rfl rfl) rfl (by kernel_rfl) ?_
      refine A_fieldAddr 6 rfl (Wants.of rfl rfl rfl) rfl (by kernel_rfl) ?_
      refine A_load1 7 [] H rfl (Wants.of rfl rfl rfl) rfl rfl (by kernel_rfl) ?_
      refine A_pv 8 rfl (Wants.of rfl rfl rfl) rfl (by kernel_rfl) ?_
      refine A_fieldAddr 9 rfl (Wants.of rfl rfl rfl) rfl (by kernel_rfl) ?_
      refine A_load1 10 [] H rfl (Wants.of rfl rfl rfl) rfl rfl (by kernel_rfl) ?_
      refine A_pv 11 rfl (Wants.of rfl rfl rfl) rfl (by kernel_rfl) ?_
      refine A_indexAddr 12 rfl (Wants.of rfl rfl rfl) rfl rfl (by omega) (by omega) (by kernel_rfl) ?_
      refine A_load1 13 [] H rfl (Wants.of rfl rfl rfl) rfl hp (by kernel_rfl) ?_
      refine A_pv 14 rfl (Wants.of rfl rfl rfl) rfl (by kernel_rfl) ?_
      refine A_fieldAddr 15 rfl (Wants.of rfl rfl rfl) rfl (by kernel_rfl) ?_
      refine A_load1 16 [] H rfl (Wants.of rfl rfl rfl) rfl rfl (by kernel_rfl) ?_
      refine A_fieldAddr 17 rfl (Wants.of rfl rfl rfl) rfl (by kernel_rfl) ?_
      refine A_load1 18 [] H rfl (Wants.of rfl rfl rfl) rfl rfl (by kernel_rfl) ?_
      refine A_indexAddr 19 rfl (Wants.of rfl rfl rfl) rfl rfl (by omega) (by omega) (by kernel_rfl) ?_
      refine A_load1 20 [] H rfl (Wants.of rfl rfl rfl) rfl (ucells_get hjx) (by kernel_rfl) ?_
      refine A_pv 21 rfl (Wants.of rfl rfl rfl) rfl (by kernel_rfl) ?_
      rw [beq_int (y : Int)]
      refine A_pv 22 rfl (Wants.none rfl) rfl (by kernel_rfl) ?_
      refine A_pv 23 rfl (Wants.none rfl) rfl (by kernel_rfl) ?_
      refine A_end (by kernel_rfl) (by repeat first | exact .nil | refine .cons (.inr H.at) ?_ | refine .cons (.inr H.mp) ?_ | refine .cons (.inl (by kernel_rfl)) ?_) ?_
      replace H := MODEL_same hx (hclose _ _ _ hm' (hcw _ _ H).swap)
      replace H := Holds.sel [4, 1, 0, 2] 2 H; dsimp only [SL.sel, SL.pull, List.drop] at H
      exact C_ret (fn_end0 _ (.inr rfl) H rfl fun w' H' => ⟨rfl, s, m, told, R, Step_eq rfl rfl rfl, RUN_in H'⟩)
  rw [show (k == 3) = false by simpa using hk3]
  repeat refine C_seq ?_
  refine C_false rfl ?_
  repeat refine C_seq ?_
  refine C_region ?_
  refine Lp_pv rfl rfl ?_
  refine Lp_pv rfl rfl ?_
  refine Lp_nil ?_
  by_cases hk4 : k = 4
  · subst hk4
    repeat refine C_seq ?_
    refine C_true rfl ?_
    replace H := Holds.sel [3, 0, 0, 0, 0, 0] 0 H; dsimp only [SL.sel, SL.pull, List.drop] at H
    repeat refine C_seq ?_
    refine C_drawH H mixed ?_
    clear H; intro w H
    refine A_pv 0 rfl (Wants.none rfl) rfl (by kernel_rfl) ?_
    refine A_pv 1 rfl (Wants.none rfl) rfl (by kernel_rfl) ?_
    refine A_fieldAddr 2 rfl (Wants.none rfl) rfl (by kernel_rfl) ?_
    refine A_load1 3 [9, 17] H rfl (Wants.none rfl) rfl rfl (by kernel_rfl) ?_
    refine A_loadN 4 [9, 17] H rfl (Wants.none rfl) rfl (by repeat (first | exact Reads.nil _ | apply Reads.cons rfl)) (by kernel_rfl) ?_
    refine A_fieldAddr 5 rfl (Wants.none rfl) rfl (by kernel_rfl) ?_
    refine A_load1 6 [9, 17] H rfl (Wants.none rfl) rfl rfl (by kernel_rfl) ?_
    refine A_fieldAddr 7 rfl (Wants.none rfl) rfl (by kernel_rfl) ?_
    refine A_load1 8 [9, 17] H rfl (Wants.none rfl) rfl rfl (by kernel_rfl) ?_
    refine A_pv 10 rfl (Wants.none rfl) rfl (by kernel_rfl) ?_
    refine A_pv 11 rfl (Wants.none rfl) rfl (by kernel_rfl) ?_
    refine A_fieldAddr 12 rfl (Wants.none rfl) rfl (by kernel_rfl) ?_
    refine A_load1 13 [17] H rfl (Wants.none rfl) rfl rfl (by kernel_rfl) ?_
    refine A_pv 14 rfl (Wants.none rfl) rfl (by kernel_rfl) ?_
    refine A_fieldAddr 15 rfl (Wants.none rfl) rfl (by kernel_rfl) ?_
    refine A_load1 16 [17] H rfl (Wants.none rfl) rfl rfl (by kernel_rfl) ?_
    obtain ⟨hd, R'⟩ := set_law R hPk B X
    refine A_one 9 rfl (by kernel_rfl) (by repeat first | exact .nil | refine .cons (.inr H.at) ?_ | refine .cons (.inr H.mp) ?_ | refine .cons (.inl (by kernel_rfl)) ?_) (Wants.none rfl) (St_call (a := []) (b := []) rfl rfl (call (Set_spec c s i' g' B X hX H) ?_))
    clear H; rintro v w ⟨rfl, H⟩
    rw [hd]
    replace H := Holds.sel [4, 0, 0, 0, 0, 0] 0 H; dsimp only [SL.sel, SL.pull, List.drop] at H
    refine A_one 17 rfl (by kernel_rfl) (by repeat first | exact .nil | refine .cons (.inr H.at) ?_ | refine .cons (.inr H.mp) ?_ | refine .cons (.inl (by kernel_rfl)) ?_) (Wants.none rfl) (St_call (a := []) (b := []) rfl rfl (call (Place_spec mo m o B false H) ?_))
    clear H; rintro v w ⟨rfl, H⟩
    refine A_pv 18 rfl (Wants.none rfl) rfl (by kernel_rfl) ?_
    refine A_pv 19 rfl (Wants.none rfl) rfl (by kernel_rfl) ?_
    refine A_end (by kernel_rfl) (by repeat first | exact .nil | refine .cons (.inr H.at) ?_ | refine .cons (.inr H.mp) ?_ | refine .cons (.inl (by kernel_rfl)) ?_) ?_
    repeat refine C_seq ?_
    refine C_region ?_
    refine Lp_pv rfl rfl ?_
    refine Lp_pv rfl rfl ?_
    refine Lp_nil ?_
    have hob := objs_setWM m o B X
    by_cases h0 : placeM m o B false = 0
    · obtain ⟨n, x, hv⟩ : ∃ n x, valM m o = some (n, x) := by
        cases hv : valM m o with
        | none => rw [placeM_none hv] at h0; cases h0
        | some kx => exact ⟨kx.1, kx.2, rfl⟩
      have h0' := h0
      rw [placeM_some hv] at h0'
      rw [setWM_some hv, if_pos h0'] at R' hob
      obtain ⟨rfl, hx, hh, hg⟩ := valM_some hv
      obtain ⟨j, rfl, hj, hr⟩ := placeE_ok h0'
      rw [Int.toNat_natCast] at R' hob
      rw [h0]
      have hnl := (List.getElem?_eq_some_iff.1 hx).1
      have hsm := MODEL_sizes (w := hmw) hx
      repeat refine C_seq ?_
      refine C_true rfl ?_
      obtain ⟨t, lc, aL, cL, bO, cO, sO, ptrs, q, vw, vk, vt, rest, hm, h2, hp, H, hclose⟩ := MODEL_at H hx
      obtain ⟨aw, cw, rfl⟩ := sls_slice H.drop (ucells_length _) (by decide)
      obtain ⟨bW, sW, rfl, H, _, _, hcw⟩ := sls_open2 H.swap (by omega)
      have hmx := hm.objs x (List.mem_of_getElem? hx)
      have hm' : MWF (setM m n { x with w := x.w.set j X }) := MWF_set hm (by
        obtain ⟨a1, a2, a3, a4, a5⟩ := hmx
        exact ⟨by show ∃ l, _ ∧ _ ∧ sizeL l _ = ((x.w.set j X).length, 0); rw [List.length_set]; exact a1, a2, by show _ = (x.w.set j X).length; rw [List.length_set]; exact a3, by show _ = (x.w.set j X).length; rw [List.length_set]; exact a4, a5⟩)
      repeat refine C_seq ?_
      refine C_drawH H mixed ?_
      clear H; intro w H
      refine A_pv 0 rfl (Wants.none rfl) rfl (by kernel_rfl) ?_
      refine A_pv 1 rfl (Wants.none rfl) rfl (by kernel_rfl) ?_
      refine A_fieldAddr 2 rfl (Wants.none rfl) rfl (by kernel_rfl) ?_
      refine A_load1 3 [18] H rfl (Wants.none rfl) rfl rfl (by kernel_rfl) ?_
      refine A_pv 4 rfl (Wants.none rfl) rfl (by kernel_rfl) ?_
      refine A_fieldAddr 5 rfl (Wants.none rfl) rfl (by kernel_rfl) ?_
      refine A_load1 6 [18] H rfl (Wants.none rfl) rfl rfl (by kernel_rfl) ?_
      refine A_pv 7 rfl (Wants.none rfl) rfl (by kernel_rfl) ?_
      refine A_indexAddr 8 rfl (Wants.none rfl) rfl rfl (by omega) (by omega) (by kernel_rfl) ?_
      refine A_load1 9 [18] H rfl (Wants.none rfl) rfl hp (by kernel_rfl) ?_
      refine A_pv 10 rfl (Wants.none rfl) rfl (by kernel_rfl) ?_
      refine A_fieldAddr 11 rfl (Wants.none rfl) rfl (by kernel_rfl) ?_
      refine A_load1 12 [18] H rfl (Wants.none rfl) rfl rfl (by kernel_rfl) ?_
      refine A_fieldAddr 13 rfl (Wants.none rfl) rfl (by kernel_rfl) ?_
      refine A_load1 14 [18] H rfl (Wants.none rfl) rfl rfl (by kernel_rfl) ?_
      refine A_fieldAddr 15 rfl (Wants.none rfl) rfl (by kernel_rfl) ?_
      refine A_load1 16 [18] H rfl (Wants.none rfl) rfl rfl (by kernel_rfl) ?_
      refine A_indexAddr 17 rfl (Wants.none rfl) rfl rfl (by omega) (by omega) (by kernel_rfl) ?_
      refine A_one 18 rfl (by kernel_rfl) (by repeat first | exact .nil | refine .cons (.inr H.at) ?_ | refine .cons (.inr H.mp) ?_ | refine .cons (.inl (by kernel_rfl)) ?_) (Wants.none rfl) (St_store1 H rfl rfl inferInstance rfl (by simp only [List.length_append, ucells_length]; omega) rfl ?_); clear H; intro w H
      rw [Int.toNat_natCast, ucells_set (by omega)] at H
      refine A_end (by kernel_rfl) (by repeat first | exact .nil | refine .cons (.inr H.at) ?_ | refine .cons (.inr H.mp) ?_ | refine .cons (.inl (by kernel_rfl)) ?_) ?_
      repeat refine C_seq ?_
      refine C_region ?_
      refine Lp_pv rfl rfl ?_
      refine Lp_pv rfl rfl ?_
      refine Lp_pv rfl rfl ?_
      refine Lp_pv rfl rfl ?_
      refine Lp_nil ?_
      replace H := hcw _ _ (ucells (x.w.set j X)) (by simp [ucells]) H
      replace H := hclose _ _ { x with w := x.w.set j X } hm' H.swap
      replace H := Holds.sel [4, 1, 0, 2] 2 H; dsimp only [SL.sel, SL.pull, List.drop] at H
      exact C_ret (fn_end0 _ (.inr rfl) H rfl fun w' H' => ⟨rfl, _, _, _, R', Step_eq hob.1 hob.2 (shape_setWS s i' g' j X), RUN_in H'⟩)
    · rw [show (((placeM m o B false : Nat) : Int) == 0) = false by simpa using h0]
      have hsw : setWM m o B X = m := by
        cases hv : valM m o with
        | none => rw [setWM_none hv]
        | some kx =>
          obtain ⟨n, x⟩ := kx
          rw [placeM_some hv] at h0
          rw [setWM_some hv, if_neg h0]
      rw [hsw] at R'
      repeat refine C_seq ?_
      refine C_false rfl (C_skip ?_)
      repeat refine C_seq ?_
      refine C_region ?_
      refine Lp_pv rfl rfl ?_
      refine Lp_pv rfl rfl ?_
      refine Lp_pv rfl rfl ?_
      rw [beq_int ((placeM m o B false : Nat) : Int)]
      refine Lp_pv rfl rfl ?_
      refine Lp_nil ?_
      replace H := Holds.sel [4, 1, 0, 2] 2 H; dsimp only [SL.sel, SL.pull, List.drop] at H
      exact C_ret (fn_end0 _ (.inr rfl) H rfl fun w' H' => ⟨rfl, _, _, _, R', Step_eq rfl rfl (shape_setWS s i' g' B X), RUN_in H'⟩)
  rw [show (k == 4) = false by simpa using hk4]
  repeat refine C_seq ?_
  refine C_false rfl ?_
  repeat refine C_seq ?_
  refine C_region ?_
  refine Lp_pv rfl rfl ?_
  refine Lp_pv rfl rfl ?_
  refine Lp_nil ?_
  by_cases hk5 : k = 5
  · subst hk5
    repeat refine C_seq ?_
    refine C_true rfl ?_
    replace H := Holds.sel [3, 0, 0, 0, 0, 0] 0 H; dsimp only [SL.sel, SL.pull, List.drop] at H
    obtain ⟨hd, hln, hk2, hlt, R'⟩ := ref_law R hmw hPk B
    obtain ⟨l1, l2, l3, hlk⟩ := lkv_agg (lookL s i' g' B).1
    have hRf := fun (w : World) (fr : List HProp) (H : Holds w (CELL c s :: fr)) => Ref_spec c s i' g' B H
    rw [hlk, hd] at hRf
    rw [hln] at hlk
    repeat refine C_seq ?_
    refine C_join (fun ms σ w => ms = [] ∧ ∃ b20, σ 0 = pp p ∧ σ 3 = pp b3 ∧ σ 6 = .int .i64 o ∧ σ 20 = pp b20 ∧ σ 21 = .int .i64 ((refM m o B).2.2.2 : Nat) ∧ Holds w (pts b20 (row 61 [.int .i64 l1, .int .i64 l2, .int .i64 l3]) :: pts b3 (row 34 [.int .i64 5, .int .i64 A, .int .i64 B, .int .i64 C, .int .u64 X, .slice adW ws.length capW, .bool raw, .int .i64 i, .int .i64 g]) :: RROW p c mo (.slice a told.length cap) :: CELL c (refS s i' g' B) :: MODEL mo m :: TKL (.slice a told.length cap) told :: fr)) ?_ ?_
    · repeat refine C_seq ?_
      refine C_drawH H mixed ?_
      clear H; intro w H
      refine A_pv 0 rfl (Wants.none rfl) rfl (by kernel_rfl) ?_
      refine A_pv 1 rfl (Wants.none rfl) rfl (by kernel_rfl) ?_
      refine A_fieldAddr 2 rfl (Wants.none rfl) rfl (by kernel_rfl) ?_
      refine A_load1 3 [7, 12] H rfl (Wants.none rfl) rfl rfl (by kernel_rfl) ?_
      refine A_loadN 4 [7, 12] H rfl (Wants.none rfl) rfl (by repeat (first | exact Reads.nil _ | apply Reads.cons rfl)) (by kernel_rfl) ?_
      refine A_fieldAddr 5 rfl (Wants.none rfl) rfl (by kernel_rfl) ?_
      refine A_load1 6 [7, 12] H rfl (Wants.none rfl) rfl rfl (by kernel_rfl) ?_
      refine A_two 7 11 rfl rfl (by kernel_rfl) (by repeat first | exact .nil | refine .cons (.inr H.at) ?_ | refine .cons (.inr H.mp) ?_ | refine .cons (.inl (by kernel_rfl)) ?_) (Wants.none rfl) (Wants.none rfl) (St_call (a := []) (b := []) rfl rfl (call (hRf _ _ H) ?_)) (St_alloc H rfl ?_)
      · clear H; rintro v w ⟨rfl, H⟩
        refine A_pv 8 rfl (Wants.none rfl) rfl (by kernel_rfl) ?_
        refine A_pv 9 rfl (Wants.none rfl) rfl (by kernel_rfl) ?_
        refine A_pv 10 rfl (Wants.none rfl) rfl (by kernel_rfl) ?_
        refine A_one 11 rfl (by kernel_rfl) (by repeat first | exact .nil | refine .cons (.inr H.at) ?_ | refine .cons (.inr H.mp) ?_ | refine .cons (.inl (by kernel_rfl)) ?_) (Wants.none rfl) (St_alloc H rfl ?_); clear H; intro b20 w H
        refine A_one 12 rfl (by kernel_rfl) (by repeat first | exact .nil | refine .cons (.inr H.at) ?_ | refine .cons (.inr H.mp) ?_ | refine .cons (.inl (by kernel_rfl)) ?_) (Wants.none rfl) (St_storeN H rfl rfl inferInstance rfl rfl (Nat.le_of_ble_eq_true rfl) rfl ?_); clear H; intro w H
        refine A_pv 13 rfl (Wants.none rfl) rfl (by kernel_rfl) ?_
        refine A_end (by kernel_rfl) (by repeat first | exact .nil | refine .cons (.inr H.at) ?_ | refine .cons (.inr H.mp) ?_ | refine .cons (.inl (by kernel_rfl)) ?_) ?_
        replace H := Holds.sel [0, 2, 2, 0, 1, 1] 1 H; dsimp only [SL.sel, SL.pull, List.drop] at H
        exact ⟨rfl, rfl, b20, rfl, rfl, rfl, rfl, rfl, H⟩
      · clear H; intro b20 w H
        refine A_one 7 rfl (by kernel_rfl) (by repeat first | exact .nil | refine .cons (.inr H.at) ?_ | refine .cons (.inr H.mp) ?_ | refine .cons (.inl (by kernel_rfl)) ?_) (Wants.none rfl) (St_call (a := []) (b := []) rfl rfl (call (hRf _ _ H.swap) ?_)); clear H; rintro v w ⟨rfl, H⟩
        refine A_pv 8 rfl (Wants.none rfl) rfl (by kernel_rfl) ?_
        refine A_pv 9 rfl (Wants.none rfl) rfl (by kernel_rfl) ?_
        refine A_pv 10 rfl (Wants.none rfl) rfl (by kernel_rfl) ?_
        refine A_one 12 rfl (by kernel_rfl) (by repeat first | exact .nil | refine .cons (.inr H.at) ?_ | refine .cons (.inr H.mp) ?_ | refine .cons (.inl (by kernel_rfl)) ?_) (Wants.none rfl) (St_storeN H rfl rfl inferInstance rfl rfl (Nat.le_of_ble_eq_true rfl) rfl ?_); clear H; intro w H
        refine A_pv 13 rfl (Wants.none rfl) rfl (by kernel_rfl) ?_
        refine A_end (by kernel_rfl) (by repeat first | exact .nil | refine .cons (.inr H.at) ?_ | refine .cons (.inr H.mp) ?_ | refine .cons (.inl (by kernel_rfl)) ?_) ?_
        replace H := Holds.sel [1, 2, 2, 0, 1, 1] 1 H; dsimp only [SL.sel, SL.pull, List.drop] at H
        exact ⟨rfl, rfl, b20, rfl, rfl, rfl, rfl, rfl, H⟩
    clear H
    rintro ms σ w ⟨rfl, b20, g0, g3, g6, g20, g21, H⟩
    rw [upd_self g0, upd_self g3, upd_self g6, upd_self g20, upd_self g21]
    replace H := Holds.sel [4, 0, 0, 0, 0, 0] 0 H; dsimp only [SL.sel, SL.pull, List.drop] at H
    repeat refine C_seq ?_
    refine C_drawH H mixed ?_
    clear H; intro w H
    refine A_pv 0 rfl (Wants.none rfl) rfl (by kernel_rfl) ?_
    refine A_pv 1 rfl (Wants.none rfl) rfl (by kernel_rfl) ?_
    refine A_fieldAddr 2 rfl (Wants.none rfl) rfl (by kernel_rfl) ?_
    refine A_load1 3 [7] H rfl (Wants.none rfl) rfl rfl (by kernel_rfl) ?_
    refine A_pv 4 rfl (Wants.none rfl) rfl (by kernel_rfl) ?_
    refine A_fieldAddr 5 rfl (Wants.none rfl) rfl (by kernel_rfl) ?_
    refine A_load1 6 [7] H rfl (Wants.none rfl) rfl rfl (by kernel_rfl) ?_
    refine A_one 7 rfl (by kernel_rfl) (by repeat first | exact .nil | refine .cons (.inr H.at) ?_ | refine .cons (.inr H.mp) ?_ | refine .cons (.inl (by kernel_rfl)) ?_) (Wants.none rfl) (St_call (a := []) (b := []) rfl rfl (call (Ref15_spec mo m o B H) ?_))
    clear H; rintro v w ⟨rfl, H⟩
    refine A_pv 8 rfl (Wants.none rfl) rfl (by kernel_rfl) ?_
    refine A_pv 9 rfl (Wants.none rfl) rfl (by kernel_rfl) ?_
    refine A_pv 10 rfl (Wants.none rfl) rfl (by kernel_rfl) ?_
    refine A_pv 11 rfl (Wants.none rfl) rfl (by kernel_rfl) ?_
    refine A_pv 12 rfl (Wants.none rfl) rfl (by kernel_rfl) ?_
    refine A_pv 13 rfl (Wants.none rfl) rfl (by kernel_rfl) ?_
    refine A_pv 14 rfl (Wants.none rfl) rfl (by kernel_rfl) ?_
    refine A_end (by kernel_rfl) (by repeat first | exact .nil | refine .cons (.inr H.at) ?_ | refine .cons (.inr H.mp) ?_ | refine .cons (.inl (by kernel_rfl)) ?_) ?_
    repeat refine C_seq ?_
    refine C_region ?_
    refine Lp_pv rfl rfl ?_
    refine Lp_pv rfl rfl ?_
    refine Lp_pv rfl rfl ?_
    rw [beq_int (((refM m o B).2.2.2 : Nat) : Int)]
    replace H := Holds.sel [3, 4, 1, 1, 1, 0] 0 H; dsimp only [SL.sel, SL.pull, List.drop] at H
    refine Lp_pv rfl rfl ?_
    refine Lp_gpv rfl rfl rfl rfl ?_
    refine Lp_g rfl rfl rfl (St_loadN H rfl (by repeat (first | exact Reads.nil _ | apply Reads.cons rfl)) rfl ?_)
    refine Lp_gpv rfl rfl rfl rfl ?_
    refine Lp_gpv rfl rfl rfl rfl ?_
    have hlink := fun (w : World) (fr : List HProp) (H : Holds w (RROW p c mo (.slice a told.length cap) :: TKL (.slice a told.length cap) told :: fr)) => link_spec p c mo a cap told (refM m o B).2.1 (refM m o B).2.2.1 hk2 hlt H
    rw [hlk] at hlink
    refine Lp_g rfl rfl rfl (St_call (a := []) (b := []) rfl rfl (call (hlink _ _ H) ?_))
    clear H; rintro v w ⟨rfl, H⟩
    refine Lp_pv rfl rfl ?_
    refine Lp_pv rfl rfl ?_
    refine Lp_nil ?_
    replace H := Holds.sel [0, 3, 3, 0] 2 H; dsimp only [SL.sel, SL.pull, List.drop] at H
    exact C_ret (fn_end0 _ (.inr rfl) H rfl fun w' H' => ⟨rfl, _, _, _, R', Step_eq (objs_refM m o B).1 (objs_refM m o B).2 (shape_refS s i' g' B), RUN_in H'⟩)
  rw [show (k == 5) = false by simpa using hk5]
  repeat refine C_seq ?_
  refine C_false rfl ?_
  repeat refine C_seq ?_
  refine C_region ?_
  refine Lp_pv rfl rfl ?_
  refine Lp_pv rfl rfl ?_
  refine Lp_nil ?_
  by_cases hk6 : k = 6
  · subst hk6
    repeat refine C_seq ?_
    refine C_true rfl ?_
    replace H := Holds.sel [2, 4, 0, 0, 0, 0] 0 H; dsimp only [SL.sel, SL.pull, List.drop] at H
    repeat refine C_seq ?_
    refine C_region ?_
    refine Lp_pv rfl rfl ?_
    refine Lp_s rfl (St_fieldAddr rfl rfl ?_)
    refine Lp_s rfl (St_load1 H rfl rfl rfl ?_)
    refine Lp_s rfl (St_fieldAddr rfl rfl ?_)
    refine Lp_s rfl (St_loadN H rfl (by repeat (first | exact Reads.nil _ | apply Reads.cons rfl)) rfl ?_)
    refine Lp_s rfl (St_call (a := []) (b := []) rfl rfl (call (pick_spec p c mo a cap told hlen C i g false H) ?_))
    clear H; rintro v w ⟨u', v', q, rfl, hQ, _, _, H⟩
    refine Lp_pv rfl rfl ?_
    refine Lp_pv rfl rfl ?_
    refine Lp_pv rfl rfl ?_
    (refine Lp_s rfl (St_alloc H rfl ?_); clear H; intro b25 w H)
    (refine Lp_s rfl (St_storeN H rfl rfl inferInstance rfl rfl (Nat.le_of_ble_eq_true rfl) rfl ?_); clear H; intro w H)
    refine Lp_pv rfl rfl ?_
    refine Lp_nil ?_
    replace H := Holds.sel [5, 0, 0, 0, 0, 0, 0] 0 H; dsimp only [SL.sel, SL.pull, List.drop] at H
    repeat refine C_seq ?_
    refine C_drawH H mixed ?_
    clear H; intro w H
    refine A_pv 0 rfl (Wants.none rfl) rfl (by kernel_rfl) ?_
    refine A_pv 1 rfl (Wants.none rfl) rfl (by kernel_rfl) ?_
    refine A_fieldAddr 2 rfl (Wants.none rfl) rfl (by kernel_rfl) ?_
    refine A_load1 3 [8, 17] H rfl (Wants.none rfl) rfl rfl (by kernel_rfl) ?_
    refine A_loadN 4 [8, 17] H rfl (Wants.none rfl) rfl (by repeat (first | exact Reads.nil _ | apply Reads.cons rfl)) (by kernel_rfl) ?_
    refine A_fieldAddr 5 rfl (Wants.none rfl) rfl (by kernel_rfl) ?_
    refine A_load1 6 [8, 17] H rfl (Wants.none rfl) rfl rfl (by kernel_rfl) ?_
    refine A_loadN 7 [8, 17] H rfl (Wants.none rfl) rfl (by repeat (first | exact Reads.nil _ | apply Reads.cons rfl)) (by kernel_rfl) ?_
    refine A_pv 9 rfl (Wants.none rfl) rfl (by kernel_rfl) ?_
    refine A_pv 10 rfl (Wants.none rfl) rfl (by kernel_rfl) ?_
    refine A_fieldAddr 11 rfl (Wants.none rfl) rfl (by kernel_rfl) ?_
    refine A_load1 12 [17] H rfl (Wants.none rfl) rfl rfl (by kernel_rfl) ?_
    refine A_pv 13 rfl (Wants.none rfl) rfl (by kernel_rfl) ?_
    refine A_fieldAddr 14 rfl (Wants.none rfl) rfl (by kernel_rfl) ?_
    refine A_load1 15 [17] H rfl (Wants.none rfl) rfl rfl (by kernel_rfl) ?_
    refine A_pv 16 rfl (Wants.none rfl) rfl (by kernel_rfl) ?_
    obtain ⟨hd, R'⟩ := tie_law R hw hmw hPk hQ B
    refine A_one 8 rfl (by kernel_rfl) (by repeat first | exact .nil | refine .cons (.inr H.at) ?_ | refine .cons (.inr H.mp) ?_ | refine .cons (.inl (by kernel_rfl)) ?_) (Wants.none rfl) (St_call (a := []) (b := []) rfl rfl (call (CTie_spec c s i' g' B u' v' H) ?_))
    clear H; rintro v w ⟨rfl, H⟩
    rw [hd]
    replace H := Holds.sel [6, 0, 0, 0, 0, 0, 0] 0 H; dsimp only [SL.sel, SL.pull, List.drop] at H
    refine A_one 17 rfl (by kernel_rfl) (by repeat first | exact .nil | refine .cons (.inr H.at) ?_ | refine .cons (.inr H.mp) ?_ | refine .cons (.inl (by kernel_rfl)) ?_) (Wants.none rfl) (St_call (a := []) (b := []) rfl rfl (call (Tie15_spec mo m o B q H) ?_))
    clear H; rintro v w ⟨rfl, H⟩
    refine A_pv 18 rfl (Wants.none rfl) rfl (by kernel_rfl) ?_
    rw [beq_int (((tieM m o B q).2 : Nat) : Int)]
    refine A_pv 19 rfl (Wants.none rfl) rfl (by kernel_rfl) ?_
    refine A_end (by kernel_rfl) (by repeat first | exact .nil | refine .cons (.inr H.at) ?_ | refine .cons (.inr H.mp) ?_ | refine .cons (.inl (by kernel_rfl)) ?_) ?_
    replace H := Holds.sel [3, 1, 0, 1] 3 H; dsimp only [SL.sel, SL.pull, List.drop] at H
    exact C_ret (fn_end0 _ (.inr rfl) H rfl fun w' H' => ⟨rfl, _, _, _, R', Step_eq (objs_tieM m o B q).1 (objs_tieM m o B q).2 (shape_TieS s i' g' B u' v'), RUN_in H'⟩)
  rw [show (k == 6) = false by simpa using hk6]
  repeat refine C_seq ?_
  refine C_false rfl ?_
  repeat refine C_seq ?_
  refine C_region ?_
  refine Lp_pv rfl rfl ?_
  refine Lp_pv rfl rfl ?_
  refine Lp_nil ?_
  by_cases hk7 : k = 7
  · subst hk7
    repeat refine C_seq ?_
    refine C_true rfl ?_
    replace H := Holds.sel [3, 0, 0, 0, 0, 0] 0 H; dsimp only [SL.sel, SL.pull, List.drop] at H
    repeat refine C_seq ?_
    refine C_drawH H mixed ?_
    clear H; intro w H
    refine A_pv 0 rfl (Wants.none rfl) rfl (by kernel_rfl) ?_
    refine A_pv 1 rfl (Wants.none rfl) rfl (by kernel_rfl) ?_
    refine A_fieldAddr 2 rfl (Wants.none rfl) rfl (by kernel_rfl) ?_
    refine A_load1 3 [7, 15] H rfl (Wants.none rfl) rfl rfl (by kernel_rfl) ?_
    refine A_loadN 4 [7, 15] H rfl (Wants.none rfl) rfl (by repeat (first | exact Reads.nil _ | apply Reads.cons rfl)) (by kernel_rfl) ?_
    refine A_fieldAddr 5 rfl (Wants.none rfl) rfl (by kernel_rfl) ?_
    refine A_load1 6 [7, 15] H rfl (Wants.none rfl) rfl rfl (by kernel_rfl) ?_
    refine A_pv 8 rfl (Wants.none rfl) rfl (by kernel_rfl) ?_
    refine A_pv 9 rfl (Wants.none rfl) rfl (by kernel_rfl) ?_
    refine A_fieldAddr 10 rfl (Wants.none rfl) rfl (by kernel_rfl) ?_
    refine A_load1 11 [15] H rfl (Wants.none rfl) rfl rfl (by kernel_rfl) ?_
    refine A_pv 12 rfl (Wants.none rfl) rfl (by kernel_rfl) ?_
    refine A_fieldAddr 13 rfl (Wants.none rfl) rfl (by kernel_rfl) ?_
    refine A_load1 14 [15] H rfl (Wants.none rfl) rfl rfl (by kernel_rfl) ?_
    obtain ⟨hd, R'⟩ := cut_law R hmw hPk B
    refine A_one 7 rfl (by kernel_rfl) (by repeat first | exact .nil | refine .cons (.inr H.at) ?_ | refine .cons (.inr H.mp) ?_ | refine .cons (.inl (by kernel_rfl)) ?_) (Wants.none rfl) (St_call (a := []) (b := []) rfl rfl (call (CCut_spec c s i' g' B H) ?_))
    clear H; rintro v w ⟨rfl, H⟩
    rw [hd]
    replace H := Holds.sel [4, 0, 0, 0, 0, 0] 0 H; dsimp only [SL.sel, SL.pull, List.drop] at H
    refine A_one 15 rfl (by kernel_rfl) (by repeat first | exact .nil | refine .cons (.inr H.at) ?_ | refine .cons (.inr H.mp) ?_ | refine .cons (.inl (by kernel_rfl)) ?_) (Wants.none rfl) (St_call (a := []) (b := []) rfl rfl (call (Cut15_spec mo m o B H) ?_))
    clear H; rintro v w ⟨rfl, H⟩
    refine A_pv 16 rfl (Wants.none rfl) rfl (by kernel_rfl) ?_
    rw [beq_int (((cutM m o B).2 : Nat) : Int)]
    refine A_pv 17 rfl (Wants.none rfl) rfl (by kernel_rfl) ?_
    refine A_end (by kernel_rfl) (by repeat first | exact .nil | refine .cons (.inr H.at) ?_ | refine .cons (.inr H.mp) ?_ | refine .cons (.inl (by kernel_rfl)) ?_) ?_
    replace H := Holds.sel [4, 1, 0, 2] 2 H; dsimp only [SL.sel, SL.pull, List.drop] at H
    exact C_ret (fn_end0 _ (.inr rfl) H rfl fun w' H' => ⟨rfl, _, _, _, R', Step_eq (objs_cutM m o B).1 (objs_cutM m o B).2 (shape_tieS s i' g' B .none), RUN_in H'⟩)
  rw [show (k == 7) = false by simpa using hk7]
  repeat refine C_seq ?_
  refine C_false rfl ?_
  repeat refine C_seq ?_
  refine C_region ?_
  refine Lp_pv rfl rfl ?_
  refine Lp_pv rfl rfl ?_
  refine Lp_nil ?_
  by_cases hk8 : k = 8
  · subst hk8
    repeat refine C_seq ?_
    refine C_true rfl ?_
    replace H := Holds.sel [3, 0, 0, 0, 0, 0] 0 H; dsimp only [SL.sel, SL.pull, List.drop] at H
    repeat refine C_seq ?_
    refine C_drawH H mixed ?_
    clear H; intro w H
    refine A_pv 0 rfl (Wants.none rfl) rfl (by kernel_rfl) ?_
    refine A_pv 1 rfl (Wants.none rfl) rfl (by kernel_rfl) ?_
    refine A_fieldAddr 2 rfl (Wants.none rfl) rfl (by kernel_rfl) ?_
    refine A_load1 3 [5, 11] H rfl (Wants.none rfl) rfl rfl (by kernel_rfl) ?_
    refine A_loadN 4 [5, 11] H rfl (Wants.none rfl) rfl (by repeat (first | exact Reads.nil _ | apply Reads.cons rfl)) (by kernel_rfl) ?_
    refine A_pv 6 rfl (Wants.none rfl) rfl (by kernel_rfl) ?_
    refine A_pv 7 rfl (Wants.none rfl) rfl (by kernel_rfl) ?_
    refine A_fieldAddr 8 rfl (Wants.none rfl) rfl (by kernel_rfl) ?_
    refine A_load1 9 [11] H rfl (Wants.none rfl) rfl rfl (by kernel_rfl) ?_
    refine A_pv 10 rfl (Wants.none rfl) rfl (by kernel_rfl) ?_
    obtain ⟨hd, R'⟩ := drop_law R hPk
    refine A_one 5 rfl (by kernel_rfl) (by repeat first | exact .nil | refine .cons (.inr H.at) ?_ | refine .cons (.inr H.mp) ?_ | refine .cons (.inl (by kernel_rfl)) ?_) (Wants.none rfl) (St_call (a := []) (b := []) rfl rfl (call (Drop_spec c s i' g' H) ?_))
    clear H; rintro v w ⟨rfl, H⟩
    rw [hd]
    replace H := Holds.sel [4, 0, 0, 0, 0, 0] 0 H; dsimp only [SL.sel, SL.pull, List.drop] at H
    refine A_one 11 rfl (by kernel_rfl) (by repeat first | exact .nil | refine .cons (.inr H.at) ?_ | refine .cons (.inr H.mp) ?_ | refine .cons (.inl (by kernel_rfl)) ?_) (Wants.none rfl) (St_call (a := []) (b := []) rfl rfl (call (Drop15_spec mo m o H) ?_))
    clear H; rintro v w ⟨rfl, H⟩
    refine A_pv 12 rfl (Wants.none rfl) rfl (by kernel_rfl) ?_
    rw [beq_int (((dropM m o).2 : Nat) : Int)]
    refine A_pv 13 rfl (Wants.none rfl) rfl (by kernel_rfl) ?_
    refine A_end (by kernel_rfl) (by repeat first | exact .nil | refine .cons (.inr H.at) ?_ | refine .cons (.inr H.mp) ?_ | refine .cons (.inl (by kernel_rfl)) ?_) ?_
    replace H := Holds.sel [4, 1, 0, 2] 2 H; dsimp only [SL.sel, SL.pull, List.drop] at H
    exact C_ret (fn_end0 _ (.inr rfl) H rfl fun w' H' => ⟨rfl, _, _, _, R', Step_eq (objs_dropM m o).1 (objs_dropM m o).2 (shape_dropS s i' g'), RUN_in H'⟩)
  rw [show (k == 8) = false by simpa using hk8]
  repeat refine C_seq ?_
  refine C_false rfl ?_
  repeat refine C_seq ?_
  refine C_region ?_
  refine Lp_pv rfl rfl ?_
  refine Lp_pv rfl rfl ?_
  refine Lp_nil ?_
  by_cases hk9 : k = 9
  · subst hk9
    repeat refine C_seq ?_
    refine C_true rfl ?_
    replace H := Holds.sel [3, 0, 0, 0, 0, 0] 0 H; dsimp only [SL.sel, SL.pull, List.drop] at H
    repeat refine C_seq ?_
    refine C_drawH H mixed ?_
    clear H; intro w H
    refine A_pv 0 rfl (Wants.none rfl) rfl (by kernel_rfl) ?_
    refine A_pv 1 rfl (Wants.none rfl) rfl (by kernel_rfl) ?_
    refine A_fieldAddr 2 rfl (Wants.none rfl) rfl (by kernel_rfl) ?_
    refine A_load1 3 [9, 19] H rfl (Wants.none rfl) rfl rfl (by kernel_rfl) ?_
    refine A_loadN 4 [9, 19] H rfl (Wants.none rfl) rfl (by repeat (first | exact Reads.nil _ | apply Reads.cons rfl)) (by kernel_rfl) ?_
    refine A_fieldAddr 5 rfl (Wants.none rfl) rfl (by kernel_rfl) ?_
    refine A_load1 6 [9, 19] H rfl (Wants.none rfl) rfl rfl (by kernel_rfl) ?_
    refine A_pv 7 rfl (Wants.none rfl) rfl (by kernel_rfl) ?_
    refine A_pv 8 rfl (Wants.none rfl) rfl (by kernel_rfl) ?_
    refine A_pv 10 rfl (Wants.none rfl) rfl (by kernel_rfl) ?_
    refine A_pv 11 rfl (Wants.none rfl) rfl (by kernel_rfl) ?_
    refine A_fieldAddr 12 rfl (Wants.none rfl) rfl (by kernel_rfl) ?_
    refine A_load1 13 [19] H rfl (Wants.none rfl) rfl rfl (by kernel_rfl) ?_
    refine A_pv 14 rfl (Wants.none rfl) rfl (by kernel_rfl) ?_
    refine A_fieldAddr 15 rfl (Wants.none rfl) rfl (by kernel_rfl) ?_
    refine A_load1 16 [19] H rfl (Wants.none rfl) rfl rfl (by kernel_rfl) ?_
    refine A_pv 17 rfl (Wants.none rfl) rfl (by kernel_rfl) ?_
    refine A_pv 18 rfl (Wants.none rfl) rfl (by kernel_rfl) ?_
    generalize hon : (bitI .and .u64 (X : Int) 1 == 1) = on
    obtain ⟨hd, R'⟩ := pin_law R hPk on
    refine A_one 9 rfl (by kernel_rfl) (by repeat first | exact .nil | refine .cons (.inr H.at) ?_ | refine .cons (.inr H.mp) ?_ | refine .cons (.inl (by kernel_rfl)) ?_) (Wants.none rfl) (St_call (a := []) (b := []) rfl rfl (call (Pin_spec c s i' g' on H) ?_))
    clear H; rintro v w ⟨rfl, H⟩
    rw [hd]
    replace H := Holds.sel [4, 0, 0, 0, 0, 0] 0 H; dsimp only [SL.sel, SL.pull, List.drop] at H
    refine A_one 19 rfl (by kernel_rfl) (by repeat first | exact .nil | refine .cons (.inr H.at) ?_ | refine .cons (.inr H.mp) ?_ | refine .cons (.inl (by kernel_rfl)) ?_) (Wants.none rfl) (St_call (a := []) (b := []) rfl rfl (call (Pin15_spec mo m o on H) ?_))
    clear H; rintro v w ⟨rfl, H⟩
    refine A_pv 20 rfl (Wants.none rfl) rfl (by kernel_rfl) ?_
    rw [beq_int (((pinM m o on).2 : Nat) : Int)]
    refine A_pv 21 rfl (Wants.none rfl) rfl (by kernel_rfl) ?_
    refine A_end (by kernel_rfl) (by repeat first | exact .nil | refine .cons (.inr H.at) ?_ | refine .cons (.inr H.mp) ?_ | refine .cons (.inl (by kernel_rfl)) ?_) ?_
    replace H := Holds.sel [4, 1, 0, 2] 2 H; dsimp only [SL.sel, SL.pull, List.drop] at H
    exact C_ret (fn_end0 _ (.inr rfl) H rfl fun w' H' => ⟨rfl, _, _, _, R', Step_eq (objs_pinM m o on).1 (objs_pinM m o on).2 (shape_pinS s i' g' on), RUN_in H'⟩)
  rw [show (k == 9) = false by simpa using hk9]
  repeat refine C_seq ?_
  refine C_false rfl ?_
  repeat refine C_seq ?_
  refine C_region ?_
  refine Lp_pv rfl rfl ?_
  refine Lp_pv rfl rfl ?_
  refine Lp_nil ?_
  by_cases hk10 : k = 10
  · subst hk10
    repeat refine C_seq ?_
    refine C_true rfl ?_
    repeat refine C_seq ?_
    refine C_region ?_
    refine Lp_pv rfl rfl ?_
    refine Lp_s rfl (St_loadN H rfl (by repeat (first | exact Reads.nil _ | apply Reads.cons rfl)) rfl ?_)
    refine Lp_pv rfl rfl ?_
    replace H := Holds.sel [2, 2, 2, 2, 0, 0] 0 H; dsimp only [SL.sel, SL.pull, List.drop] at H
    refine Lp_s rfl (St_call (a := []) (b := []) rfl rfl (call (tellR_spec p c mo _ s m told R i' g' o hPk H) ?_))
    clear H; rintro v w ⟨rfl, H⟩
    refine Lp_pv rfl rfl ?_
    refine Lp_nil ?_
    replace H := Holds.sel [0, 0, 0, 0] 2 H; dsimp only [SL.sel, SL.pull, List.drop] at H
    exact C_ret (fn_end0 _ (.inr rfl) H rfl fun w' H' => ⟨rfl, s, m, told, R, Step_eq rfl rfl rfl, RUN_in H'⟩)
  rw [show (k == 10) = false by simpa using hk10]
  repeat refine C_seq ?_
  refine C_false rfl ?_
  repeat refine C_seq ?_
  refine C_region ?_
  refine Lp_pv rfl rfl ?_
  refine Lp_pv rfl rfl ?_
  refine Lp_nil ?_
  by_cases hk11 : k = 11
  · subst hk11
    repeat refine C_seq ?_
    refine C_true rfl ?_
    replace H := Holds.sel [3, 0, 0, 0, 0, 0] 0 H; dsimp only [SL.sel, SL.pull, List.drop] at H
    have hLk := fun (w : World) (fr : List HProp) (H : Holds w (CELL c s :: fr)) => Look_spec c s i' g' B H
    rcases look_law R hPk B with ⟨h0, h1⟩ | ⟨h0, n, j, x, rfl, rfl, hx, hv, hj, hr, hk2, h1⟩
    · rw [h1] at hLk
      obtain ⟨l1, l2, l3, hlk⟩ := lkv_agg .none
      rw [hlk] at hLk
      repeat refine C_seq ?_
      refine C_join (fun ms σ w => ms = [] ∧ ∃ b27, σ 0 = pp p ∧ σ 3 = pp b3 ∧ σ 6 = .int .i64 o ∧ σ 27 = pp b27 ∧ σ 28 = .int .i64 (placeM m o B true : Nat) ∧ Holds w (pts b27 (row 61 [.int .i64 l1, .int .i64 l2, .int .i64 l3]) :: pts b3 (row 34 [.int .i64 11, .int .i64 A, .int .i64 B, .int .i64 C, .int .u64 X, .slice adW ws.length capW, .bool raw, .int .i64 i, .int .i64 g]) :: RROW p c mo (.slice a told.length cap) :: CELL c s :: MODEL mo m :: TKL (.slice a told.length cap) told :: fr)) ?_ ?_
      · repeat refine C_seq ?_
        refine C_drawH H mixed ?_
        clear H; intro w H
        refine A_pv 0 rfl (Wants.none rfl) rfl (by kernel_rfl) ?_
        refine A_pv 1 rfl (Wants.none rfl) rfl (by kernel_rfl) ?_
        refine A_fieldAddr 2 rfl (Wants.none rfl) rfl (by kernel_rfl) ?_
        refine A_load1 3 [7, 12] H rfl (Wants.none rfl) rfl rfl (by kernel_rfl) ?_
        refine A_loadN 4 [7, 12] H rfl (Wants.none rfl) rfl (by repeat (first | exact Reads.nil _ | apply Reads.cons rfl)) (by kernel_rfl) ?_
        refine A_fieldAddr 5 rfl (Wants.none rfl) rfl (by kernel_rfl) ?_
        refine A_load1 6 [7, 12] H rfl (Wants.none rfl) rfl rfl (by kernel_rfl) ?_
        refine A_two 7 11 rfl rfl (by kernel_rfl) (by repeat first | exact .nil | refine .cons (.inr H.at) ?_ | refine .cons (.inr H.mp) ?_ | refine .cons (.inl (by kernel_rfl)) ?_) (Wants.none rfl) (Wants.none rfl) (St_call (a := []) (b := []) rfl rfl (call (hLk _ _ H) ?_)) (St_alloc H rfl ?_)
        · clear H; rintro v w ⟨rfl, H⟩
          refine A_pv 8 rfl (Wants.none rfl) rfl (by kernel_rfl) ?_
          refine A_pv 9 rfl (Wants.none rfl) rfl (by kernel_rfl) ?_
          refine A_pv 10 rfl (Wants.none rfl) rfl (by kernel_rfl) ?_
          refine A_one 11 rfl (by kernel_rfl) (by repeat first | exact .nil | refine .cons (.inr H.at) ?_ | refine .cons (.inr H.mp) ?_ | refine .cons (.inl (by kernel_rfl)) ?_) (Wants.none rfl) (St_alloc H rfl ?_); clear H; intro b27 w H
          refine A_one 12 rfl (by kernel_rfl) (by repeat first | exact .nil | refine .cons (.inr H.at) ?_ | refine .cons (.inr H.mp) ?_ | refine .cons (.inl (by kernel_rfl)) ?_) (Wants.none rfl) (St_storeN H rfl rfl inferInstance rfl rfl (Nat.le_of_ble_eq_true rfl) rfl ?_); clear H; intro w H
          refine A_pv 13 rfl (Wants.none rfl) rfl (by kernel_rfl) ?_
          refine A_end (by kernel_rfl) (by repeat first | exact .nil | refine .cons (.inr H.at) ?_ | refine .cons (.inr H.mp) ?_ | refine .cons (.inl (by kernel_rfl)) ?_) ?_
          replace H := Holds.sel [0, 2, 2, 0, 1, 1] 1 H; dsimp only [SL.sel, SL.pull, List.drop] at H
          exact ⟨rfl, rfl, b27, rfl, rfl, rfl, rfl, rfl, H⟩
        · clear H; intro b27 w H
          refine A_one 7 rfl (by kernel_rfl) (by repeat first | exact .nil | refine .cons (.inr H.at) ?_ | refine .cons (.inr H.mp) ?_ | refine .cons (.inl (by kernel_rfl)) ?_) (Wants.none rfl) (St_call (a := []) (b := []) rfl rfl (call (hLk _ _ H.swap) ?_)); clear H; rintro v w ⟨rfl, H⟩
          refine A_pv 8 rfl (Wants.none rfl) rfl (by kernel_rfl) ?_
          refine A_pv 9 rfl (Wants.none rfl) rfl (by kernel_rfl) ?_
          refine A_pv 10 rfl (Wants.none rfl) rfl (by kernel_rfl) ?_
          refine A_one 12 rfl (by kernel_rfl) (by repeat first | exact .nil | refine .cons (.inr H.at) ?_ | refine .cons (.inr H.mp) ?_ | refine .cons (.inl (by kernel_rfl)) ?_) (Wants.none rfl) (St_storeN H rfl rfl inferInstance rfl rfl (Nat.le_of_ble_eq_true rfl) rfl ?_); clear H; intro w H
          refine A_pv 13 rfl (Wants.none rfl) rfl (by kernel_rfl) ?_
          refine A_end (by kernel_rfl) (by repeat first | exact .nil | refine .cons (.inr H.at) ?_ | refine .cons (.inr H.mp) ?_ | refine .cons (.inl (by kernel_rfl)) ?_) ?_
          replace H := Holds.sel [1, 2, 2, 0, 1, 1] 1 H; dsimp only [SL.sel, SL.pull, List.drop] at H
          exact ⟨rfl, rfl, b27, rfl, rfl, rfl, rfl, rfl, H⟩
      clear H
      rintro ms σ w ⟨rfl, b27, g0, g3, g6, g27, g28, H⟩
      rw [upd_self g0, upd_self g3, upd_self g6, upd_self g27, upd_self g28]
      replace H := Holds.sel [4, 0, 0, 0, 0, 0] 0 H; dsimp only [SL.sel, SL.pull, List.drop] at H
      repeat refine C_seq ?_
      refine C_drawH H mixed ?_
      clear H; intro w H
      refine A_pv 0 rfl (Wants.none rfl) rfl (by kernel_rfl) ?_
      refine A_pv 1 rfl (Wants.none rfl) rfl (by kernel_rfl) ?_
      refine A_fieldAddr 2 rfl (Wants.none rfl) rfl (by kernel_rfl) ?_
      refine A_load1 3 [7] H rfl (Wants.none rfl) rfl rfl (by kernel_rfl) ?_
      refine A_pv 4 rfl (Wants.none rfl) rfl (by kernel_rfl) ?_
      refine A_fieldAddr 5 rfl (Wants.none rfl) rfl (by kernel_rfl) ?_
      refine A_load1 6 [7] H rfl (Wants.none rfl) rfl rfl (by kernel_rfl) ?_
      refine A_one 7 rfl (by kernel_rfl) (by repeat first | exact .nil | refine .cons (.inr H.at) ?_ | refine .cons (.inr H.mp) ?_ | refine .cons (.inl (by kernel_rfl)) ?_) (Wants.none rfl) (St_call (a := []) (b := []) rfl rfl (call (Place_spec mo m o B true H) ?_))
      clear H; rintro v w ⟨rfl, H⟩
      refine A_pv 8 rfl (Wants.none rfl) rfl (by kernel_rfl) ?_
      refine A_end (by kernel_rfl) (by repeat first | exact .nil | refine .cons (.inr H.at) ?_ | refine .cons (.inr H.mp) ?_ | refine .cons (.inl (by kernel_rfl)) ?_) ?_
      repeat refine C_seq ?_
      refine C_region ?_
      refine Lp_pv rfl rfl ?_
      refine Lp_pv rfl rfl ?_
      refine Lp_nil ?_
      rw [show (((placeM m o B true : Nat) : Int) != 0) = true by rw [bne_iff_ne]; omega]
      repeat refine C_seq ?_
      refine C_true rfl ?_
      cases hlk
      repeat refine C_seq ?_
      refine C_region ?_
      refine Lp_pv rfl rfl ?_
      refine Lp_pv rfl rfl ?_
      refine Lp_pv rfl rfl ?_
      rw [beq_int ((placeM m o B true : Nat) : Int)]
      refine Lp_pv rfl rfl ?_
      refine Lp_g rfl rfl rfl (St_loadN H rfl (by repeat (first | exact Reads.nil _ | apply Reads.cons rfl)) rfl ?_)
      refine Lp_g rfl rfl rfl (St_build rfl rfl ?_)
      refine Lp_g rfl rfl rfl (St_eqAgg rfl rfl rfl rfl (.inl rfl) rfl ?_)
      refine Lp_pv rfl rfl ?_
      refine Lp_pv rfl rfl ?_
      refine Lp_nil ?_
      replace H := Holds.sel [3, 3, 0, 2] 2 H; dsimp only [SL.sel, SL.pull, List.drop] at H
      exact C_ret (fn_end0 _ (.inr rfl) H rfl fun w' H' => ⟨congrArg Value.bool ((eql_veq _ _).trans (veq_refl3 0 0 0)), s, m, told, R, Step_eq rfl rfl rfl, RUN_in H'⟩)
    · have hnl := (List.getElem?_eq_some_iff.1 hx).1
      have hmx := hmw.objs x (List.mem_of_getElem? hx)
      have hkn := hmx.kind
      have htn := hmx.to
      have hsm := MODEL_sizes (w := hmw) hx
      have hkj := List.getElem?_eq_getElem (l := x.kind) (i := j) (by omega)
      have htj := List.getElem?_eq_getElem (l := x.to) (i := j) (by omega)
      have hkd : x.kind.getD j 0 = x.kind[j] := by rw [List.getD_eq_getElem?_getD, hkj]; rfl
      have htd : x.to.getD j 0 = x.to[j] := by rw [List.getD_eq_getElem?_getD, htj]; rfl
      have hgo := hmx.goes j
      rw [htd] at hgo
      rw [hkd] at hk2
      rw [hkd, htd] at h1
      generalize x.kind[j] = kd at *
      generalize x.to[j] = td at *
      have hlt : kd = 2 → td < told.length := fun h => by rw [R.len]; exact hgo (by rw [hkj, h])
      rw [h1] at hLk
      obtain ⟨l1, l2, l3, hlk⟩ := lkv_agg (lnkM told kd td)
      rw [hlk] at hLk
      have hlink := fun (w : World) (fr : List HProp) (H : Holds w (RROW p c mo (.slice a told.length cap) :: TKL (.slice a told.length cap) told :: fr)) => link_spec p c mo a cap told kd td hk2 hlt H
      rw [hlk] at hlink
      repeat refine C_seq ?_
      refine C_join (fun ms σ w => ms = [] ∧ ∃ b27, σ 0 = pp p ∧ σ 3 = pp b3 ∧ σ 6 = .int .i64 n ∧ σ 27 = pp b27 ∧ σ 28 = .int .i64 (0 : Nat) ∧ Holds w (pts b27 (row 61 [.int .i64 l1, .int .i64 l2, .int .i64 l3]) :: pts b3 (row 34 [.int .i64 11, .int .i64 A, .int .i64 (j : Nat), .int .i64 C, .int .u64 X, .slice adW ws.length capW, .bool raw, .int .i64 i, .int .i64 g]) :: RROW p c mo (.slice a told.length cap) :: CELL c s :: MODEL mo m :: TKL (.slice a told.length cap) told :: fr)) ?_ ?_
      · repeat refine C_seq ?_
        refine C_drawH H mixed ?_
        clear H; intro w H
        refine A_pv 0 rfl (Wants.none rfl) rfl (by kernel_rfl) ?_
        refine A_pv 1 rfl (Wants.none rfl) rfl (by kernel_rfl) ?_
        refine A_fieldAddr 2 rfl (Wants.none rfl) rfl (by kernel_rfl) ?_
        refine A_load1 3 [7, 12] H rfl (Wants.none rfl) rfl rfl (by kernel_rfl) ?_
        refine A_loadN 4 [7, 12] H rfl (Wants.none rfl) rfl (by repeat (first | exact Reads.nil _ | apply Reads.cons rfl)) (by kernel_rfl) ?_
        refine A_fieldAddr 5 rfl (Wants.none rfl) rfl (by kernel_rfl) ?_
        refine A_load1 6 [7, 12] H rfl (Wants.none rfl) rfl rfl (by kernel_rfl) ?_
        refine A_two 7 11 rfl rfl (by kernel_rfl) (by repeat first | exact .nil | refine .cons (.inr H.at) ?_ | refine .cons (.inr H.mp) ?_ | refine .cons (.inl (by kernel_rfl)) ?_) (Wants.none rfl) (Wants.none rfl) (St_call (a := []) (b := []) rfl rfl (call (hLk _ _ H) ?_)) (St_alloc H rfl ?_)
        · clear H; rintro v w ⟨rfl, H⟩
          refine A_pv 8 rfl (Wants.none rfl) rfl (by kernel_rfl) ?_
          refine A_pv 9 rfl (Wants.none rfl) rfl (by kernel_rfl) ?_
          refine A_pv 10 rfl (Wants.none rfl) rfl (by kernel_rfl) ?_
          refine A_one 11 rfl (by kernel_rfl) (by repeat first | exact .nil | refine .cons (.inr H.at) ?_ | refine .cons (.inr H.mp) ?_ | refine .cons (.inl (by kernel_rfl)) ?_) (Wants.none rfl) (St_alloc H rfl ?_); clear H; intro b27 w H
          refine A_one 12 rfl (by kernel_rfl) (by repeat first | exact .nil | refine .cons (.inr H.at) ?_ | refine .cons (.inr H.mp) ?_ | refine .cons (.inl (by kernel_rfl)) ?_) (Wants.none rfl) (St_storeN H rfl rfl inferInstance rfl rfl (Nat.le_of_ble_eq_true rfl) rfl ?_); clear H; intro w H
          refine A_pv 13 rfl (Wants.none rfl) rfl (by kernel_rfl) ?_
          refine A_end (by kernel_rfl) (by repeat first | exact .nil | refine .cons (.inr H.at) ?_ | refine .cons (.inr H.mp) ?_ | refine .cons (.inl (by kernel_rfl)) ?_) ?_
          replace H := Holds.sel [0, 2, 2, 0, 1, 1] 1 H; dsimp only [SL.sel, SL.pull, List.drop] at H
          exact ⟨rfl, rfl, b27, rfl, rfl, rfl, rfl, rfl, H⟩
        · clear H; intro b27 w H
          refine A_one 7 rfl (by kernel_rfl) (by repeat first | exact .nil | refine .cons (.inr H.at) ?_ | refine .cons (.inr H.mp) ?_ | refine .cons (.inl (by kernel_rfl)) ?_) (Wants.none rfl) (St_call (a := []) (b := []) rfl rfl (call (hLk _ _ H.swap) ?_)); clear H; rintro v w ⟨rfl, H⟩
          refine A_pv 8 rfl (Wants.none rfl) rfl (by kernel_rfl) ?_
          refine A_pv 9 rfl (Wants.none rfl) rfl (by kernel_rfl) ?_
          refine A_pv 10 rfl (Wants.none rfl) rfl (by kernel_rfl) ?_
          refine A_one 12 rfl (by kernel_rfl) (by repeat first | exact .nil | refine .cons (.inr H.at) ?_ | refine .cons (.inr H.mp) ?_ | refine .cons (.inl (by kernel_rfl)) ?_) (Wants.none rfl) (St_storeN H rfl rfl inferInstance rfl rfl (Nat.le_of_ble_eq_true rfl) rfl ?_); clear H; intro w H
          refine A_pv 13 rfl (Wants.none rfl) rfl (by kernel_rfl) ?_
          refine A_end (by kernel_rfl) (by repeat first | exact .nil | refine .cons (.inr H.at) ?_ | refine .cons (.inr H.mp) ?_ | refine .cons (.inl (by kernel_rfl)) ?_) ?_
          replace H := Holds.sel [1, 2, 2, 0, 1, 1] 1 H; dsimp only [SL.sel, SL.pull, List.drop] at H
          exact ⟨rfl, rfl, b27, rfl, rfl, rfl, rfl, rfl, H⟩
      clear H
      rintro ms σ w ⟨rfl, b27, g0, g3, g6, g27, g28, H⟩
      rw [upd_self g0, upd_self g3, upd_self g6, upd_self g27, upd_self g28]
      replace H := Holds.sel [4, 0, 0, 0, 0, 0] 0 H; dsimp only [SL.sel, SL.pull, List.drop] at H
      repeat refine C_seq ?_
      refine C_drawH H mixed ?_
      clear H; intro w H
      refine A_pv 0 rfl (Wants.none rfl) rfl (by kernel_rfl) ?_
      refine A_pv 1 rfl (Wants.none rfl) rfl (by kernel_rfl) ?_
      refine A_fieldAddr 2 rfl (Wants.none rfl) rfl (by kernel_rfl) ?_
      refine A_load1 3 [7] H rfl (Wants.none rfl) rfl rfl (by kernel_rfl) ?_
      refine A_pv 4 rfl (Wants.none rfl) rfl (by kernel_rfl) ?_
      refine A_fieldAddr 5 rfl (Wants.none rfl) rfl (by kernel_rfl) ?_
      refine A_load1 6 [7] H rfl (Wants.none rfl) rfl rfl (by kernel_rfl) ?_
      refine A_one 7 rfl (by kernel_rfl) (by repeat first | exact .nil | refine .cons (.inr H.at) ?_ | refine .cons (.inr H.mp) ?_ | refine .cons (.inl (by kernel_rfl)) ?_) (Wants.none rfl) (St_call (a := []) (b := []) rfl rfl (call (Place_spec mo m n j true H) ?_))
      clear H; rintro v w ⟨rfl, H⟩
      rw [h0]
      refine A_pv 8 rfl (Wants.none rfl) rfl (by kernel_rfl) ?_
      refine A_end (by kernel_rfl) (by repeat first | exact .nil | refine .cons (.inr H.at) ?_ | refine .cons (.inr H.mp) ?_ | refine .cons (.inl (by kernel_rfl)) ?_) ?_
      repeat refine C_seq ?_
      refine C_region ?_
      refine Lp_pv rfl rfl ?_
      refine Lp_pv rfl rfl ?_
      refine Lp_nil ?_
      repeat refine C_seq ?_
      refine C_false rfl (C_skip ?_)
      obtain ⟨t, lc, aL, cL, bO, cO, sO, ptrs, q, vw, vk, vt, rest, hm, h2, hp, H, hclose⟩ := MODEL_at H hx
      have hm' := set_same hx hm
      obtain ⟨ak, ck, rfl⟩ := sls_slice H.drop.drop (ncells_length _) (by decide)
      obtain ⟨at', ct, rfl⟩ := sls_slice H.drop.drop.drop (ncells_length _) (by decide)
      replace H := Holds.sel [2, 0, 0, 0] 0 H; dsimp only [SL.sel, SL.pull, List.drop] at H
      obtain ⟨bk, sk, rfl, H, hck⟩ := sls_open H (by omega)
      replace H := Holds.sel [3, 0, 0, 0] 0 H; dsimp only [SL.sel, SL.pull, List.drop] at H
      obtain ⟨bt, st, rfl, H, hct⟩ := sls_open H (by omega)
      repeat refine C_seq ?_
      refine C_drawH H mixed ?_
      clear H; intro w H
      refine A_pv 0 rfl (Wants.none rfl) rfl (by kernel_rfl) ?_
      refine A_pv 1 rfl (Wants.none rfl) rfl (by kernel_rfl) ?_
      refine A_pv 2 rfl (Wants.none rfl) rfl (by kernel_rfl) ?_
      refine A_pv 3 rfl (Wants.of rfl rfl rfl) rfl (by kernel_rfl) ?_
      refine A_loadN 4 [39] H rfl (Wants.of rfl rfl rfl) rfl (by repeat (first | exact Reads.nil _ | apply Reads.cons rfl)) (by kernel_rfl) ?_
      refine A_pv 5 rfl (Wants.of rfl rfl rfl) rfl (by kernel_rfl) ?_
      refine A_pv 6 rfl (Wants.of rfl rfl rfl) rfl (by kernel_rfl) ?_
      refine A_fieldAddr 7 rfl (Wants.of rfl rfl rfl) rfl (by kernel_rfl) ?_
      refine A_load1 8 [39] H rfl (Wants.of rfl rfl rfl) rfl rfl (by kernel_rfl) ?_
      refine A_pv 9 rfl (Wants.of rfl rfl rfl) rfl (by kernel_rfl) ?_
      refine A_fieldAddr 10 rfl (Wants.of rfl rfl rfl) rfl (by kernel_rfl) ?_
      refine A_load1 11 [39] H rfl (Wants.of rfl rfl rfl) rfl rfl (by kernel_rfl) ?_
      refine A_pv 12 rfl (Wants.of rfl rfl rfl) rfl (by kernel_rfl) ?_
      refine A_indexAddr 13 rfl (Wants.of rfl rfl rfl) rfl rfl (by omega) (by omega) (by kernel_rfl) ?_
      refine A_load1 14 [39] H rfl (Wants.of rfl rfl rfl) rfl hp (by kernel_rfl) ?_
      refine A_pv 15 rfl (Wants.of rfl rfl rfl) rfl (by kernel_rfl) ?_
      refine A_fieldAddr 16 rfl (Wants.of rfl rfl rfl) rfl (by kernel_rfl) ?_
      refine A_load1 17 [39] H rfl (Wants.of rfl rfl rfl) rfl rfl (by kernel_rfl) ?_
      refine A_fieldAddr 18 rfl (Wants.of rfl rfl rfl) rfl (by kernel_rfl) ?_
      refine A_load1 19 [39] H rfl (Wants.of rfl rfl rfl) rfl rfl (by kernel_rfl) ?_
      refine A_indexAddr 20 rfl (Wants.of rfl rfl rfl) rfl rfl (by omega) (by omega) (by kernel_rfl) ?_
      refine A_load1 21 [39] H rfl (Wants.of rfl rfl rfl) rfl (ncells_get hkj) (by kernel_rfl) ?_
      refine A_pv 22 rfl (Wants.of rfl rfl rfl) rfl (by kernel_rfl) ?_
      refine A_pv 23 rfl (Wants.of rfl rfl rfl) rfl (by kernel_rfl) ?_
      refine A_fieldAddr 24 rfl (Wants.of rfl rfl rfl) rfl (by kernel_rfl) ?_
      refine A_load1 25 [39] H rfl (Wants.of rfl rfl rfl) rfl rfl (by kernel_rfl) ?_
      refine A_pv 26 rfl (Wants.of rfl rfl rfl) rfl (by kernel_rfl) ?_
      refine A_fieldAddr 27 rfl (Wants.of rfl rfl rfl) rfl (by kernel_rfl) ?_
      refine A_load1 28 [39] H rfl (Wants.of rfl rfl rfl) rfl rfl (by kernel_rfl) ?_
      refine A_pv 29 rfl (Wants.of rfl rfl rfl) rfl (by kernel_rfl) ?_
      refine A_indexAddr 30 rfl (Wants.of rfl rfl rfl) rfl rfl (by omega) (by omega) (by kernel_rfl) ?_
      refine A_load1 31 [39] H rfl (Wants.of rfl rfl rfl) rfl hp (by kernel_rfl) ?_
      refine A_pv 32 rfl (Wants.of rfl rfl rfl) rfl (by kernel_rfl) ?_
      refine A_fieldAddr 33 rfl (Wants.of rfl rfl rfl) rfl (by kernel_rfl) ?_
      refine A_load1 34 [39] H rfl (Wants.of rfl rfl rfl) rfl rfl (by kernel_rfl) ?_
      refine A_fieldAddr 35 rfl (Wants.of rfl rfl rfl) rfl (by kernel_rfl) ?_
      refine A_load1 36 [39] H rfl (Wants.of rfl rfl rfl) rfl rfl (by kernel_rfl) ?_
      refine A_indexAddr 37 rfl (Wants.of rfl rfl rfl) rfl rfl (by omega) (by omega) (by kernel_rfl) ?_
      refine A_load1 38 [39] H rfl (Wants.of rfl rfl rfl) rfl (ncells_get htj) (by kernel_rfl) ?_
      replace H := Holds.sel [12, 13, 0, 0, 0, 0, 0, 0, 0, 0, 0, 0, 0, 0, 0] 0 H; dsimp only [SL.sel, SL.pull, List.drop] at H
      refine A_one 39 rfl (by kernel_rfl) (by repeat first | exact .nil | refine .cons (.inr H.at) ?_ | refine .cons (.inr H.mp) ?_ | refine .cons (.inl (by kernel_rfl)) ?_) (Wants.of rfl rfl rfl) (St_call (a := []) (b := []) rfl rfl (call (hlink _ _ H) ?_)); clear H; rintro v w ⟨rfl, H⟩
      refine A_pv 40 rfl (Wants.none rfl) rfl (by kernel_rfl) ?_
      refine A_pv 41 rfl (Wants.none rfl) rfl (by kernel_rfl) ?_
      refine A_end (by kernel_rfl) (by repeat first | exact .nil | refine .cons (.inr H.at) ?_ | refine .cons (.inr H.mp) ?_ | refine .cons (.inl (by kernel_rfl)) ?_) ?_
      replace H := Holds.sel [3, 2, 2, 2, 2, 2, 2, 2, 2, 2, 2, 2, 2, 0, 0] 0 H; dsimp only [SL.sel, SL.pull, List.drop] at H
      replace H := hck _ _ H
      replace H := Holds.sel [1, 0, 0, 0] 0 H; dsimp only [SL.sel, SL.pull, List.drop] at H
      replace H := hct _ _ H
      replace H := Holds.sel [2, 2, 1, 0] 0 H; dsimp only [SL.sel, SL.pull, List.drop] at H
      replace H := MODEL_same hx (hclose _ _ x hm' H)
      replace H := Holds.sel [4, 3, 0, 2] 2 H; dsimp only [SL.sel, SL.pull, List.drop] at H
      exact C_ret (fn_end0 _ (.inr rfl) H rfl fun w' H' => ⟨rfl, s, m, told, R, Step_eq rfl rfl rfl, RUN_in H'⟩)
  rw [show (k == 11) = false by simpa using hk11]
  repeat refine C_seq ?_
  refine C_false rfl (C_skip ?_)
  repeat refine C_seq ?_
  refine C_region ?_
  refine Lp_pv rfl rfl ?_
  refine Lp_nil ?_
  replace H := Holds.sel [2, 2, 2, 2] 2 H; dsimp only [SL.sel, SL.pull, List.drop] at H
  exact C_ret (fn_end0 _ (.inr rfl) H rfl fun w' H' => ⟨rfl, s, m, told, R, Step_eq rfl rfl rfl, RUN_in H'⟩)
end Go.Proofs.YtcaaojbnjfdglaaGreatDoor
