/- Cells: what is proved on the way: every input of the statement; no condition. Texts joined: LawG LawH LawI LawJ LawK LawL BmpC. -/
import Derived.Test.YtcaaojbnjfdglaaGreatDoorChf
import Derived.Test.YtcaaojbnjfdglaaGreatDoorCho
import Derived.Test.YtcaaojbnjfdglaaGreatDoorChg
set_option linter.unusedVariables false
set_option linter.unusedSimpArgs false
set_option linter.unusedSectionVars false
namespace Go.Proofs.YtcaaojbnjfdglaaGreatDoor
open Go.SL

theorem beq_int (x : Int) : (x == x) = true := beq_self_eq_true x
theorem Do_spec [Extra] (p : Nat) (s : CS) (m : MS) (told : List (Nat × Nat)) (R : Rel s m told) (hseq : Seq s) (hfew : m.objs.length < 100000) (hP : m.P.length < 100000) (k A B C i g : Int) (X : Nat) (hX : X < 18446744073709551616) (vW : Value) (ws : List Nat) (hws : ∀ x ∈ ws, x < 18446744073709551616) (raw : Bool)
    {w : World} {fr : List HProp} [hT : HasTab 0 Lib.deBruijn64tab fr] (hrW : RdS fr vW ws.length 1 (ucells ws)) (H : Holds w (RUN p s m told :: fr)) :
    Calls Tryz.prog 15 #[pp p, .agg #[.int .i64 k, .int .i64 A, .int .i64 B, .int .i64 C, .int .u64 X, vW, .bool raw, .int .i64 i, .int .i64 g]] w (ret fun v w' => v = .bool true ∧ ∃ s' m' told', Rel s' m' told' ∧ Step s m told s' m' told' ∧ Holds w' (RUN p s' m' told' :: fr)) := by
  obtain ⟨_, adW, capW, rfl, _⟩ := id hrW
  obtain ⟨c, mo, a, cap, H⟩ := RUN_out H
  have hlen : told.length ≤ 1000000 := by rw [R.len]; omega
  obtain ⟨_, _, hw, _, _⟩ := CELL_out H.swap
  obtain ⟨_, _, _, _, _, _, _, hmw, _⟩ := MODEL_out (H.sel [2, 0, 0, 0] 0)
  refine calls_of Tryz.func15 rfl (by kernel_rfl) ?_
  refine J6 H ?_
  clear H; intro b3 w H
  refine J24 H ?_
  refine C_join (fun ms σ w => ms = [] ∧ ∃ (b5 : Nat) (i' g' o : Int), Pick told i' g' o ∧ σ 0 = pp p ∧ σ 3 = pp b3 ∧ σ 5 = pp b5 ∧ σ 6 = .int .i64 o ∧ Holds w (pts b5 (row 32 [.int .i64 i', .int .i64 g']) :: pts b3 (row 34 [.int .i64 k, .int .i64 A, .int .i64 B, .int .i64 C, .int .u64 X, .slice adW ws.length capW, .bool raw, .int .i64 i, .int .i64 g]) :: RROW p c mo (.slice a told.length cap) :: CELL c s :: MODEL mo m :: TKL (.slice a told.length cap) told :: fr)) ?_ ?_
  · replace H := Js [1,3,0,0,0] 0 H
    refine J172 H ?_
    refine J29 H ?_
    refine J63 H ?_
    refine J54 H ?_
    refine Jc rfl rfl (pick_spec p c mo a cap told hlen A i g raw H) ?_
    clear H; rintro v w ⟨i', g', o, rfl, hp, _, _, H⟩
    refine J21 H ?_
    clear H; intro b5 w H
    refine J7 H ?_
    clear H; intro w H
    refine J0 H ?_
    replace H := Js [0,2,0,1,1,0] 0 H
    exact ⟨rfl, rfl, _, i', g', o, hp, rfl, rfl, rfl, rfl, H⟩
  clear H
  rintro ms σ w ⟨rfl, b5, i', g', o, hPk, g0, g3, g5, g6, H⟩
  rw [upd_self g0, upd_self g3, upd_self g5, upd_self g6]
  refine J71 H ?_
  refine Lp_nil ?_
  refine J100 H ?_
  by_cases hk0 : k = 0
  · subst hk0
    refine J11 H ?_
    replace H := Js [3,0,0,0,0,0] 0 H
    refine J1 H ?_
    clear H; intro w H
    refine J191 H ?_
    refine Jk rfl rfl (Define_spec c s _ ws hws hrW.there.there.there.there.there H) ?_
    clear H; rintro v w ⟨rfl, H⟩
    obtain ⟨hd, R'⟩ := def_law R hmw ws
    rw [hd]
    refine J98 H ?_
    replace H := Js [4,0,0,0,0,0] 0 H
    refine J1 H ?_
    clear H; intro w H
    refine J191 H ?_
    refine Jk rfl rfl (Define15_spec mo m _ ws hws hrW.there.there.there.there.there H) ?_
    clear H; rintro v w ⟨rfl, H⟩
    refine J98 H ?_
    refine J10 H ?_
    rw [beq_int (((defM m ws).2.1 : Nat) : Int)]
    refine J129 H ?_
    rw [beq_int (((defM m ws).2.2 : Nat) : Int)]
    refine J4 H ?_
    replace H := Js [4,1,0,2] 2 H
    exact C_ret (Jy H rfl fun w' H' => ⟨rfl, _, _, _, R', ⟨by rw [(objs_defM m ws).2]; omega, by rw [(objs_defM m ws).1]; omega, .inl ⟨rfl, shape_defS s ws⟩, fun hI => inv_defS hw hI ws⟩, RUN_in H'⟩)
  rw [show (k == 0) = false by simpa using hk0]
  refine J35 H ?_
  by_cases hk1 : k = 1
  · subst hk1
    refine J11 H ?_
    have hl := R.last
    have he := err_law R hw A
    replace H := Js [3,0,0,0,0,0] 0 H
    refine J1 H ?_
    clear H; intro w H
    refine J191 H ?_
    refine Jk rfl rfl (Open_spec c s A (by omega) H) ?_
    clear H; rintro v w (⟨h1, rfl, H⟩ | ⟨h1, b, b2, rfl, H⟩)
    · rw [he] at h1 ⊢
      have ho : openM m A = (m, 0, dErr m.P A) := by unfold openM; rw [if_neg h1]
      refine J98 H ?_
      replace H := Js [4,0,0,0,0,0] 0 H
      refine J1 H ?_
      clear H; intro w H
      refine J191 H ?_
      refine Jk rfl rfl (Open15_spec mo m A hP H) ?_
      clear H; rintro v w ⟨rfl, H⟩
      rw [ho] at H ⊢
      refine J98 H ?_
      refine J5 H ?_
      refine J248 H ?_
      rw [beq_int ((dErr m.P A : Nat) : Int)]
      refine J4 H ?_
      replace H := Js [4,1,0,2] 2 H
      exact C_ret (Jy H rfl fun w' H' => ⟨rfl, _, _, _, R, Step_eq rfl rfl rfl, RUN_in H'⟩)
    · rw [he] at h1
      have ho : openM m A = ({ m with P := m.P ++ [A] }, m.P.length, 0) := by unfold openM; rw [if_pos h1]
      refine J98 H ?_
      replace H := Js [4,0,0,0,0,0] 0 H
      refine J1 H ?_
      clear H; intro w H
      refine J191 H ?_
      refine Jk rfl rfl (Open15_spec mo m A hP H) ?_
      clear H; rintro v w ⟨rfl, H⟩
      rw [ho] at H ⊢
      rw [hl]
      refine J98 H ?_
      refine J10 H ?_
      rw [beq_int ((m.P.length : Nat) : Int)]
      refine J129 H ?_
      refine J4 H ?_
      replace H := Js [4,1,0,2] 2 H
      exact C_ret (Jy H rfl fun w' H' => ⟨rfl, _, _, _, open_rel R h1 b b2, ⟨by show (m.P ++ [A]).length ≤ _; simp, by show m.objs.length ≤ _; omega, .inl ⟨rfl, rfl⟩, fun hI => inv_openS hI A b b2⟩, RUN_in H'⟩)
  rw [show (k == 1) = false by simpa using hk1]
  refine J35 H ?_
  by_cases hk2 : k = 2
  · subst hk2
    refine J11 H ?_
    refine J33 H ?_
    replace H := Js [2,2,2,2,0,0] 0 H
    refine Jc rfl rfl (made_spec p c mo a cap s m told R hseq hfew _ A B C _ i g .i64 _ raw rfl H) ?_
    clear H; rintro v w ⟨rfl, s', m', told', a', cap', R', S', H⟩
    refine J0 H ?_
    replace H := Js [0,0,0,0] 2 H
    exact C_ret (Jy H rfl fun w' H' => ⟨rfl, s', m', told', R', S', RUN_in H'⟩)
  rw [show (k == 2) = false by simpa using hk2]
  refine J35 H ?_
  by_cases hk3 : k = 3
  · subst hk3
    refine J11 H ?_
    replace H := Js [3,0,0,0,0,0] 0 H
    refine J1 H ?_
    clear H; intro w H
    refine A_pv 0 rfl (Wants.none rfl) rfl (by kernel_rfl) ?_
    refine A_pv 1 rfl (Wants.none rfl) rfl (by kernel_rfl) ?_
    refine A_fieldAddr 2 rfl (Wants.none rfl) rfl (by kernel_rfl) ?_
    refine A_load1 3 [7] H rfl (Wants.none rfl) rfl rfl (by kernel_rfl) ?_
    refine A_loadN 4 [7] H rfl (Wants.none rfl) rfl (by repeat (first | exact Reads.nil _ | apply Reads.cons rfl)) (by kernel_rfl) ?_
    refine J59 H ?_
    refine A_load1 6 [7] H rfl (Wants.none rfl) rfl rfl (by kernel_rfl) ?_
    refine Jo 7 H ?_
    refine Jk rfl rfl (Get_spec c s i' g' B H) ?_
    clear H; rintro v w ⟨rfl, H⟩
    rcases get_law R hPk B with ⟨h0, h1⟩ | ⟨h0, n, j, x, rfl, rfl, hx, hj, h1⟩
    · rw [h1]
      refine J103 H ?_
      refine J112 H ?_
      refine J42 H ?_
      replace H := Js [4,0,0,0,0,0] 0 H
      refine J1 H ?_
      clear H; intro w H
      refine J192 H ?_
      refine Jk rfl rfl (Place_spec mo m o B false H) ?_
      clear H; rintro v w ⟨rfl, H⟩
      refine J181 H ?_
      refine J3 H ?_
      rw [show (((placeM m o B false : Nat) : Int) != 0) = true by rw [bne_iff_ne]; omega]
      refine J11 H ?_
      refine J10 H ?_
      rw [beq_int ((placeM m o B false : Nat) : Int)]
      refine J48 H ?_
      refine J4 H ?_
      replace H := Js [4,1,0,2] 2 H
      exact C_ret (Jy H rfl fun w' H' => ⟨rfl, s, m, told, R, Step_eq rfl rfl rfl, RUN_in H'⟩)
    · rw [h1]
      have hnl := (List.getElem?_eq_some_iff.1 hx).1
      have hjx := List.getElem?_eq_getElem hj
      have hjd : x.w.getD j 0 = x.w[j] := by rw [List.getD_eq_getElem?_getD, hjx]; rfl
      have hsm := MODEL_sizes (w := hmw) hx
      rw [hjd]
      generalize x.w[j] = y at hjx
      refine J103 H ?_
      refine J112 H ?_
      refine J42 H ?_
      replace H := Js [4,0,0,0,0,0] 0 H
      refine J1 H ?_
      clear H; intro w H
      refine J192 H ?_
      refine Jk rfl rfl (Place_spec mo m n j false H) ?_
      clear H; rintro v w ⟨rfl, H⟩
      rw [h0]
      refine J181 H ?_
      refine J61 H ?_
      obtain ⟨t, lc, aL, cL, bO, cO, sO, ptrs, q, vw, vk, vt, rest, hm, h2, hp, H, hclose⟩ := MODEL_at H hx
      have hm' := set_same hx hm
      obtain ⟨aw, cw, rfl⟩ := sls_slice H.drop (ucells_length _) (by decide)
      obtain ⟨bW, sW, rfl, H, hcw⟩ := sls_open H.swap (by omega)
      refine J1 H ?_
      clear H; intro w H
      refine J156 H ?_
      refine A_pv 3 rfl (Wants.of rfl rfl rfl) rfl (by kernel_rfl) ?_
      refine A_pv 4 rfl (Wants.of rfl rfl rfl) rfl (by kernel_rfl) ?_
      refine J188 H ?_
      refine A_fieldAddr 6 rfl (Wants.of rfl rfl rfl) rfl (by kernel_rfl) ?_
      refine A_load1 7 [] H rfl (Wants.of rfl rfl rfl) rfl rfl (by kernel_rfl) ?_
      refine J189 H ?_
      refine A_fieldAddr 9 rfl (Wants.of rfl rfl rfl) rfl (by kernel_rfl) ?_
      refine A_load1 10 [] H rfl (Wants.of rfl rfl rfl) rfl rfl (by kernel_rfl) ?_
      refine J138 H ?_
      refine A_indexAddr 12 rfl (Wants.of rfl rfl rfl) rfl rfl (by omega) (by omega) (by kernel_rfl) ?_
      refine A_load1 13 [] H rfl (Wants.of rfl rfl rfl) rfl hp (by kernel_rfl) ?_
      refine J139 H ?_
      refine A_fieldAddr 15 rfl (Wants.of rfl rfl rfl) rfl (by kernel_rfl) ?_
      refine A_load1 16 [] H rfl (Wants.of rfl rfl rfl) rfl rfl (by kernel_rfl) ?_
      refine A_fieldAddr 17 rfl (Wants.of rfl rfl rfl) rfl (by kernel_rfl) ?_
      refine A_load1 18 [] H rfl (Wants.of rfl rfl rfl) rfl rfl (by kernel_rfl) ?_
      refine A_indexAddr 19 rfl (Wants.of rfl rfl rfl) rfl rfl (by omega) (by omega) (by kernel_rfl) ?_
      refine A_load1 20 [] H rfl (Wants.of rfl rfl rfl) rfl (ucells_get hjx) (by kernel_rfl) ?_
      refine A_pv 21 rfl (Wants.of rfl rfl rfl) rfl (by kernel_rfl) ?_
      rw [beq_int (y : Int)]
      refine A_pv 22 rfl (Wants.none rfl) rfl (by kernel_rfl) ?_
      refine A_pv 23 rfl (Wants.none rfl) rfl (by kernel_rfl) ?_
      refine J2 H ?_
      replace H := MODEL_same hx (hclose _ _ _ hm' (hcw _ _ H).swap)
      replace H := Js [4,1,0,2] 2 H
      exact C_ret (Jy H rfl fun w' H' => ⟨rfl, s, m, told, R, Step_eq rfl rfl rfl, RUN_in H'⟩)
  rw [show (k == 3) = false by simpa using hk3]
  refine J35 H ?_
  by_cases hk4 : k = 4
  · subst hk4
    refine J11 H ?_
    replace H := Js [3,0,0,0,0,0] 0 H
    refine J1 H ?_
    clear H; intro w H
    refine J15 H ?_
    refine A_load1 3 [9, 17] H rfl (Wants.none rfl) rfl rfl (by kernel_rfl) ?_
    refine A_loadN 4 [9, 17] H rfl (Wants.none rfl) rfl (by repeat (first | exact Reads.nil _ | apply Reads.cons rfl)) (by kernel_rfl) ?_
    refine J59 H ?_
    refine A_load1 6 [9, 17] H rfl (Wants.none rfl) rfl rfl (by kernel_rfl) ?_
    refine A_fieldAddr 7 rfl (Wants.none rfl) rfl (by kernel_rfl) ?_
    refine A_load1 8 [9, 17] H rfl (Wants.none rfl) rfl rfl (by kernel_rfl) ?_
    refine J112 H ?_
    refine A_fieldAddr 12 rfl (Wants.none rfl) rfl (by kernel_rfl) ?_
    refine A_load1 13 [17] H rfl (Wants.none rfl) rfl rfl (by kernel_rfl) ?_
    refine J178 H ?_
    refine J210 H ?_
    refine A_load1 16 [17] H rfl (Wants.none rfl) rfl rfl (by kernel_rfl) ?_
    obtain ⟨hd, R'⟩ := set_law R hPk B X
    refine Jo 9 H ?_
    refine Jk rfl rfl (Set_spec c s i' g' B X hX H) ?_
    clear H; rintro v w ⟨rfl, H⟩
    rw [hd]
    replace H := Js [4,0,0,0,0,0] 0 H
    refine Jo 17 H ?_
    refine Jk rfl rfl (Place_spec mo m o B false H) ?_
    clear H; rintro v w ⟨rfl, H⟩
    refine J187 H ?_
    refine J255 H ?_
    refine J2 H ?_
    refine J3 H ?_
    have hob := objs_setWM m o B X
    by_cases h0 : placeM m o B false = 0
    · obtain ⟨n, x, hv⟩ : ∃ n x, valM m o = some (n, x) := by
        cases hv : valM m o with
        | none => rw [placeM_none hv] at h0; cases h0
        | some kx => exact ⟨kx.1, kx.2, rfl⟩
      have h0' := h0
      rw [placeM_some hv] at h0'
      rw [setWM_some hv, if_pos h0'] at R' hob
      obtain ⟨rfl, hx, hh, hg⟩ := valM_some hv
      obtain ⟨j, rfl, hj, hr⟩ := placeE_ok h0'
      rw [Int.toNat_natCast] at R' hob
      rw [h0]
      have hnl := (List.getElem?_eq_some_iff.1 hx).1
      have hsm := MODEL_sizes (w := hmw) hx
      refine J11 H ?_
      obtain ⟨t, lc, aL, cL, bO, cO, sO, ptrs, q, vw, vk, vt, rest, hm, h2, hp, H, hclose⟩ := MODEL_at H hx
      obtain ⟨aw, cw, rfl⟩ := sls_slice H.drop (ucells_length _) (by decide)
      obtain ⟨bW, sW, rfl, H, _, _, hcw⟩ := sls_open2 H.swap (by omega)
      have hmx := hm.objs x (List.mem_of_getElem? hx)
      have hm' : MWF (setM m n { x with w := x.w.set j X }) := MWF_set hm (by
        obtain ⟨a1, a2, a3, a4, a5⟩ := hmx
        exact ⟨by show ∃ l, _ ∧ _ ∧ sizeL l _ = ((x.w.set j X).length, 0); rw [List.length_set]; exact a1, a2, by show _ = (x.w.set j X).length; rw [List.length_set]; exact a3, by show _ = (x.w.set j X).length; rw [List.length_set]; exact a4, a5⟩)
      refine J1 H ?_
      clear H; intro w H
      refine J15 H ?_
      refine A_load1 3 [18] H rfl (Wants.none rfl) rfl rfl (by kernel_rfl) ?_
      refine A_pv 4 rfl (Wants.none rfl) rfl (by kernel_rfl) ?_
      refine A_fieldAddr 5 rfl (Wants.none rfl) rfl (by kernel_rfl) ?_
      refine A_load1 6 [18] H rfl (Wants.none rfl) rfl rfl (by kernel_rfl) ?_
      refine J67 H ?_
      refine A_indexAddr 8 rfl (Wants.none rfl) rfl rfl (by omega) (by omega) (by kernel_rfl) ?_
      refine A_load1 9 [18] H rfl (Wants.none rfl) rfl hp (by kernel_rfl) ?_
      refine J161 H ?_
      refine A_fieldAddr 11 rfl (Wants.none rfl) rfl (by kernel_rfl) ?_
      refine A_load1 12 [18] H rfl (Wants.none rfl) rfl rfl (by kernel_rfl) ?_
      refine A_fieldAddr 13 rfl (Wants.none rfl) rfl (by kernel_rfl) ?_
      refine A_load1 14 [18] H rfl (Wants.none rfl) rfl rfl (by kernel_rfl) ?_
      refine J210 H ?_
      refine A_load1 16 [18] H rfl (Wants.none rfl) rfl rfl (by kernel_rfl) ?_
      refine A_indexAddr 17 rfl (Wants.none rfl) rfl rfl (by omega) (by omega) (by kernel_rfl) ?_
      refine Jo 18 H ?_
      refine St_store1 H rfl rfl inferInstance rfl (by simp only [List.length_append, ucells_length]; omega) rfl ?_
      clear H; intro w H
      rw [Int.toNat_natCast, ucells_set (by omega)] at H
      refine J2 H ?_
      refine J176 H ?_
      replace H := hcw _ _ (ucells (x.w.set j X)) (by simp [ucells]) H
      replace H := hclose _ _ { x with w := x.w.set j X } hm' H.swap
      replace H := Js [4,1,0,2] 2 H
      exact C_ret (Jy H rfl fun w' H' => ⟨rfl, _, _, _, R', Step_eq hob.1 hob.2 (shape_setWS s i' g' j X) (fun hI => inv_setWS hI i' g' j X), RUN_in H'⟩)
    · rw [show (((placeM m o B false : Nat) : Int) == 0) = false by simpa using h0]
      have hsw : setWM m o B X = m := by
        cases hv : valM m o with
        | none => rw [setWM_none hv]
        | some kx =>
          obtain ⟨n, x⟩ := kx
          rw [placeM_some hv] at h0
          rw [setWM_some hv, if_neg h0]
      rw [hsw] at R'
      refine J8 H ?_
      refine J10 H ?_
      rw [beq_int ((placeM m o B false : Nat) : Int)]
      refine J0 H ?_
      replace H := Js [4,1,0,2] 2 H
      exact C_ret (Jy H rfl fun w' H' => ⟨rfl, _, _, _, R', Step_eq rfl rfl (shape_setWS s i' g' B X) (fun hI => inv_setWS hI i' g' B X), RUN_in H'⟩)
  rw [show (k == 4) = false by simpa using hk4]
  refine J35 H ?_
  by_cases hk5 : k = 5
  · subst hk5
    refine J11 H ?_
    replace H := Js [3,0,0,0,0,0] 0 H
    obtain ⟨hd, hln, hk2, hlt, R'⟩ := ref_law R hmw hPk B
    obtain ⟨l1, l2, l3, hlk⟩ := lkv_agg (lookL s i' g' B).1
    have hRf := fun (w : World) (fr : List HProp) (H : Holds w (CELL c s :: fr)) => Ref_spec c s i' g' B H
    rw [hlk, hd] at hRf
    rw [hln] at hlk
    refine J12 H ?_
    refine C_join (fun ms σ w => ms = [] ∧ ∃ b20, σ 0 = pp p ∧ σ 3 = pp b3 ∧ σ 6 = .int .i64 o ∧ σ 20 = pp b20 ∧ σ 21 = .int .i64 ((refM m o B).2.2.2 : Nat) ∧ Holds w (pts b20 (row 61 [.int .i64 l1, .int .i64 l2, .int .i64 l3]) :: pts b3 (row 34 [.int .i64 5, .int .i64 A, .int .i64 B, .int .i64 C, .int .u64 X, .slice adW ws.length capW, .bool raw, .int .i64 i, .int .i64 g]) :: RROW p c mo (.slice a told.length cap) :: CELL c (refS s i' g' B) :: MODEL mo m :: TKL (.slice a told.length cap) told :: fr)) ?_ ?_
    · refine J1 H ?_
      clear H; intro w H
      refine J15 H ?_
      refine J272 H ?_
      refine J273 H ?_
      refine J59 H ?_
      refine J274 H ?_
      refine A_two 7 11 rfl rfl (by kernel_rfl) (by repeat first | exact .nil | refine .cons (.inr H.at) ?_ | refine .cons (.inr H.mp) ?_ | refine .cons (.inl (by kernel_rfl)) ?_) (Wants.none rfl) (Wants.none rfl) (St_call (a := []) (b := []) rfl rfl (call (hRf _ _ H) ?_)) (St_alloc H rfl ?_)
      · clear H; rintro v w ⟨rfl, H⟩
        refine J95 H ?_
        refine J184 H ?_
        clear H; intro b20 w H
        refine J65 H ?_
        clear H; intro w H
        refine J93 H ?_
        replace H := Js [0,2,2,0,1,1] 1 H
        exact ⟨rfl, rfl, b20, rfl, rfl, rfl, rfl, rfl, H⟩
      · clear H; intro b20 w H
        refine Jo 7 H ?_
        refine Jk rfl rfl (hRf _ _ H.swap) ?_
        clear H; rintro v w ⟨rfl, H⟩
        refine J95 H ?_
        refine J65 H ?_
        clear H; intro w H
        refine J93 H ?_
        replace H := Js [1,2,2,0,1,1] 1 H
        exact ⟨rfl, rfl, b20, rfl, rfl, rfl, rfl, rfl, H⟩
    clear H
    rintro ms σ w ⟨rfl, b20, g0, g3, g6, g20, g21, H⟩
    rw [upd_self g0, upd_self g3, upd_self g6, upd_self g20, upd_self g21]
    replace H := Js [4,0,0,0,0,0] 0 H
    refine J1 H ?_
    clear H; intro w H
    refine J192 H ?_
    refine Jk rfl rfl (Ref15_spec mo m o B H) ?_
    clear H; rintro v w ⟨rfl, H⟩
    refine J103 H ?_
    refine J112 H ?_
    refine J209 H ?_
    refine J2 H ?_
    refine J10 H ?_
    rw [beq_int (((refM m o B).2.2.2 : Nat) : Int)]
    replace H := Js [3,4,1,1,1,0] 0 H
    refine J147 H ?_
    refine J68 H ?_
    refine J32 H ?_
    have hlink := fun (w : World) (fr : List HProp) (H : Holds w (RROW p c mo (.slice a told.length cap) :: TKL (.slice a told.length cap) told :: fr)) => link_spec p c mo a cap told (refM m o B).2.1 (refM m o B).2.2.1 hk2 hlt H
    rw [hlk] at hlink
    refine Lp_g rfl rfl rfl (St_call (a := []) (b := []) rfl rfl (call (hlink _ _ H) ?_))
    clear H; rintro v w ⟨rfl, H⟩
    refine J4 H ?_
    replace H := Js [0,3,3,0] 2 H
    exact C_ret (Jy H rfl fun w' H' => ⟨rfl, _, _, _, R', Step_eq (objs_refM m o B).1 (objs_refM m o B).2 (shape_refS s i' g' B) (fun hI => inv_refS hI i' g' B), RUN_in H'⟩)
  rw [show (k == 5) = false by simpa using hk5]
  refine J35 H ?_
  by_cases hk6 : k = 6
  · subst hk6
    refine J11 H ?_
    replace H := Js [2,4,0,0,0,0] 0 H
    refine J172 H ?_
    refine J63 H ?_
    refine J54 H ?_
    refine Jc rfl rfl (pick_spec p c mo a cap told hlen C i g false H) ?_
    clear H; rintro v w ⟨u', v', q, rfl, hQ, _, _, H⟩
    refine J21 H ?_
    clear H; intro b25 w H
    refine J7 H ?_
    clear H; intro w H
    refine J0 H ?_
    replace H := Js [5,0,0,0,0,0,0] 0 H
    refine J1 H ?_
    clear H; intro w H
    refine J15 H ?_
    refine A_load1 3 [8, 17] H rfl (Wants.none rfl) rfl rfl (by kernel_rfl) ?_
    refine A_loadN 4 [8, 17] H rfl (Wants.none rfl) rfl (by repeat (first | exact Reads.nil _ | apply Reads.cons rfl)) (by kernel_rfl) ?_
    refine J59 H ?_
    refine A_load1 6 [8, 17] H rfl (Wants.none rfl) rfl rfl (by kernel_rfl) ?_
    refine A_loadN 7 [8, 17] H rfl (Wants.none rfl) rfl (by repeat (first | exact Reads.nil _ | apply Reads.cons rfl)) (by kernel_rfl) ?_
    refine J60 H ?_
    refine J161 H ?_
    refine A_fieldAddr 11 rfl (Wants.none rfl) rfl (by kernel_rfl) ?_
    refine A_load1 12 [17] H rfl (Wants.none rfl) rfl rfl (by kernel_rfl) ?_
    refine A_pv 13 rfl (Wants.none rfl) rfl (by kernel_rfl) ?_
    refine A_fieldAddr 14 rfl (Wants.none rfl) rfl (by kernel_rfl) ?_
    refine A_load1 15 [17] H rfl (Wants.none rfl) rfl rfl (by kernel_rfl) ?_
    refine J107 H ?_
    obtain ⟨hd, R'⟩ := tie_law R hw hmw hPk hQ B
    refine Jo 8 H ?_
    refine Jk rfl rfl (CTie_spec c s i' g' B u' v' H) ?_
    clear H; rintro v w ⟨rfl, H⟩
    rw [hd]
    replace H := Js [6,0,0,0,0,0,0] 0 H
    refine Jo 17 H ?_
    refine Jk rfl rfl (Tie15_spec mo m o B q H) ?_
    clear H; rintro v w ⟨rfl, H⟩
    refine J187 H ?_
    rw [beq_int (((tieM m o B q).2 : Nat) : Int)]
    refine J255 H ?_
    refine J2 H ?_
    replace H := Js [3,1,0,1] 3 H
    exact C_ret (Jy H rfl fun w' H' => ⟨rfl, _, _, _, R', Step_eq (objs_tieM m o B q).1 (objs_tieM m o B q).2 (shape_TieS s i' g' B u' v') (fun hI => inv_TieS hw hI i' g' B u' v'), RUN_in H'⟩)
  rw [show (k == 6) = false by simpa using hk6]
  refine J35 H ?_
  by_cases hk7 : k = 7
  · subst hk7
    refine J11 H ?_
    replace H := Js [3,0,0,0,0,0] 0 H
    refine J1 H ?_
    clear H; intro w H
    refine J15 H ?_
    refine A_load1 3 [7, 15] H rfl (Wants.none rfl) rfl rfl (by kernel_rfl) ?_
    refine A_loadN 4 [7, 15] H rfl (Wants.none rfl) rfl (by repeat (first | exact Reads.nil _ | apply Reads.cons rfl)) (by kernel_rfl) ?_
    refine J59 H ?_
    refine A_load1 6 [7, 15] H rfl (Wants.none rfl) rfl rfl (by kernel_rfl) ?_
    refine J103 H ?_
    refine A_fieldAddr 10 rfl (Wants.none rfl) rfl (by kernel_rfl) ?_
    refine A_load1 11 [15] H rfl (Wants.none rfl) rfl rfl (by kernel_rfl) ?_
    refine J168 H ?_
    refine A_fieldAddr 13 rfl (Wants.none rfl) rfl (by kernel_rfl) ?_
    refine A_load1 14 [15] H rfl (Wants.none rfl) rfl rfl (by kernel_rfl) ?_
    obtain ⟨hd, R'⟩ := cut_law R hmw hPk B
    refine Jo 7 H ?_
    refine Jk rfl rfl (CCut_spec c s i' g' B H) ?_
    clear H; rintro v w ⟨rfl, H⟩
    rw [hd]
    replace H := Js [4,0,0,0,0,0] 0 H
    refine Jo 15 H ?_
    refine Jk rfl rfl (Cut15_spec mo m o B H) ?_
    clear H; rintro v w ⟨rfl, H⟩
    refine J107 H ?_
    rw [beq_int (((cutM m o B).2 : Nat) : Int)]
    refine J162 H ?_
    refine J2 H ?_
    replace H := Js [4,1,0,2] 2 H
    exact C_ret (Jy H rfl fun w' H' => ⟨rfl, _, _, _, R', Step_eq (objs_cutM m o B).1 (objs_cutM m o B).2 (shape_tieS s i' g' B .none) (fun hI => inv_tieS hI i' g' B trivial fun a b h => by cases h), RUN_in H'⟩)
  rw [show (k == 7) = false by simpa using hk7]
  refine J35 H ?_
  by_cases hk8 : k = 8
  · subst hk8
    refine J11 H ?_
    replace H := Js [3,0,0,0,0,0] 0 H
    refine J1 H ?_
    clear H; intro w H
    refine J15 H ?_
    refine A_load1 3 [5, 11] H rfl (Wants.none rfl) rfl rfl (by kernel_rfl) ?_
    refine A_loadN 4 [5, 11] H rfl (Wants.none rfl) rfl (by repeat (first | exact Reads.nil _ | apply Reads.cons rfl)) (by kernel_rfl) ?_
    refine J126 H ?_
    refine J128 H ?_
    refine A_load1 9 [11] H rfl (Wants.none rfl) rfl rfl (by kernel_rfl) ?_
    refine J161 H ?_
    obtain ⟨hd, R'⟩ := drop_law R hPk
    refine Jo 5 H ?_
    refine Jk rfl rfl (Drop_spec c s i' g' H) ?_
    clear H; rintro v w ⟨rfl, H⟩
    rw [hd]
    replace H := Js [4,0,0,0,0,0] 0 H
    refine Jo 11 H ?_
    refine Jk rfl rfl (Drop15_spec mo m o H) ?_
    clear H; rintro v w ⟨rfl, H⟩
    refine J168 H ?_
    rw [beq_int (((dropM m o).2 : Nat) : Int)]
    refine J93 H ?_
    replace H := Js [4,1,0,2] 2 H
    exact C_ret (Jy H rfl fun w' H' => ⟨rfl, _, _, _, R', Step_eq (objs_dropM m o).1 (objs_dropM m o).2 (shape_dropS s i' g') (fun hI => inv_dropS hI i' g'), RUN_in H'⟩)
  rw [show (k == 8) = false by simpa using hk8]
  refine J35 H ?_
  by_cases hk9 : k = 9
  · subst hk9
    refine J11 H ?_
    replace H := Js [3,0,0,0,0,0] 0 H
    refine J1 H ?_
    clear H; intro w H
    refine J15 H ?_
    refine A_load1 3 [9, 19] H rfl (Wants.none rfl) rfl rfl (by kernel_rfl) ?_
    refine A_loadN 4 [9, 19] H rfl (Wants.none rfl) rfl (by repeat (first | exact Reads.nil _ | apply Reads.cons rfl)) (by kernel_rfl) ?_
    refine J59 H ?_
    refine A_load1 6 [9, 19] H rfl (Wants.none rfl) rfl rfl (by kernel_rfl) ?_
    refine J67 H ?_
    refine J84 H ?_
    refine J112 H ?_
    refine A_fieldAddr 12 rfl (Wants.none rfl) rfl (by kernel_rfl) ?_
    refine A_load1 13 [19] H rfl (Wants.none rfl) rfl rfl (by kernel_rfl) ?_
    refine J178 H ?_
    refine J210 H ?_
    refine A_load1 16 [19] H rfl (Wants.none rfl) rfl rfl (by kernel_rfl) ?_
    refine J162 H ?_
    refine J187 H ?_
    generalize hon : (bitI .and .u64 (X : Int) 1 == 1) = on
    obtain ⟨hd, R'⟩ := pin_law R hPk on
    refine Jo 9 H ?_
    refine Jk rfl rfl (Pin_spec c s i' g' on H) ?_
    clear H; rintro v w ⟨rfl, H⟩
    rw [hd]
    replace H := Js [4,0,0,0,0,0] 0 H
    refine Jo 19 H ?_
    refine Jk rfl rfl (Pin15_spec mo m o on H) ?_
    clear H; rintro v w ⟨rfl, H⟩
    refine A_pv 20 rfl (Wants.none rfl) rfl (by kernel_rfl) ?_
    rw [beq_int (((pinM m o on).2 : Nat) : Int)]
    refine A_pv 21 rfl (Wants.none rfl) rfl (by kernel_rfl) ?_
    refine J2 H ?_
    replace H := Js [4,1,0,2] 2 H
    exact C_ret (Jy H rfl fun w' H' => ⟨rfl, _, _, _, R', Step_eq (objs_pinM m o on).1 (objs_pinM m o on).2 (shape_pinS s i' g' on) (fun hI => inv_pinS hI i' g' on), RUN_in H'⟩)
  rw [show (k == 9) = false by simpa using hk9]
  refine J35 H ?_
  by_cases hk10 : k = 10
  · subst hk10
    refine J11 H ?_
    refine J33 H ?_
    refine J9 H ?_
    replace H := Js [2,2,2,2,0,0] 0 H
    refine Jc rfl rfl (tellR_spec p c mo _ s m told R.w i' g' o (rel_valid R hPk) H) ?_
    clear H; rintro v w ⟨rfl, H⟩
    refine J0 H ?_
    replace H := Js [0,0,0,0] 2 H
    exact C_ret (Jy H rfl fun w' H' => ⟨rfl, s, m, told, R, Step_eq rfl rfl rfl, RUN_in H'⟩)
  rw [show (k == 10) = false by simpa using hk10]
  refine J35 H ?_
  by_cases hk11 : k = 11
  · subst hk11
    refine J11 H ?_
    replace H := Js [3,0,0,0,0,0] 0 H
    have hLk := fun (w : World) (fr : List HProp) (H : Holds w (CELL c s :: fr)) => Look_spec c s i' g' B H
    rcases look_law R hPk B with ⟨h0, h1⟩ | ⟨h0, n, j, x, rfl, rfl, hx, hv, hj, hr, hk2, h1⟩
    · rw [h1] at hLk
      obtain ⟨l1, l2, l3, hlk⟩ := lkv_agg .none
      rw [hlk] at hLk
      refine J12 H ?_
      refine C_join (fun ms σ w => ms = [] ∧ ∃ b27, σ 0 = pp p ∧ σ 3 = pp b3 ∧ σ 6 = .int .i64 o ∧ σ 27 = pp b27 ∧ σ 28 = .int .i64 (placeM m o B true : Nat) ∧ Holds w (pts b27 (row 61 [.int .i64 l1, .int .i64 l2, .int .i64 l3]) :: pts b3 (row 34 [.int .i64 11, .int .i64 A, .int .i64 B, .int .i64 C, .int .u64 X, .slice adW ws.length capW, .bool raw, .int .i64 i, .int .i64 g]) :: RROW p c mo (.slice a told.length cap) :: CELL c s :: MODEL mo m :: TKL (.slice a told.length cap) told :: fr)) ?_ ?_
      · refine J1 H ?_
        clear H; intro w H
        refine J15 H ?_
        refine J272 H ?_
        refine J273 H ?_
        refine J59 H ?_
        refine J274 H ?_
        refine A_two 7 11 rfl rfl (by kernel_rfl) (by repeat first | exact .nil | refine .cons (.inr H.at) ?_ | refine .cons (.inr H.mp) ?_ | refine .cons (.inl (by kernel_rfl)) ?_) (Wants.none rfl) (Wants.none rfl) (St_call (a := []) (b := []) rfl rfl (call (hLk _ _ H) ?_)) (St_alloc H rfl ?_)
        · clear H; rintro v w ⟨rfl, H⟩
          refine J95 H ?_
          refine J184 H ?_
          clear H; intro b27 w H
          refine J65 H ?_
          clear H; intro w H
          refine J93 H ?_
          replace H := Js [0,2,2,0,1,1] 1 H
          exact ⟨rfl, rfl, b27, rfl, rfl, rfl, rfl, rfl, H⟩
        · clear H; intro b27 w H
          refine Jo 7 H ?_
          refine Jk rfl rfl (hLk _ _ H.swap) ?_
          clear H; rintro v w ⟨rfl, H⟩
          refine J95 H ?_
          refine J65 H ?_
          clear H; intro w H
          refine J93 H ?_
          replace H := Js [1,2,2,0,1,1] 1 H
          exact ⟨rfl, rfl, b27, rfl, rfl, rfl, rfl, rfl, H⟩
      clear H
      rintro ms σ w ⟨rfl, b27, g0, g3, g6, g27, g28, H⟩
      rw [upd_self g0, upd_self g3, upd_self g6, upd_self g27, upd_self g28]
      replace H := Js [4,0,0,0,0,0] 0 H
      refine J1 H ?_
      clear H; intro w H
      refine J192 H ?_
      refine Jk rfl rfl (Place_spec mo m o B true H) ?_
      clear H; rintro v w ⟨rfl, H⟩
      refine J181 H ?_
      refine J3 H ?_
      rw [show (((placeM m o B true : Nat) : Int) != 0) = true by rw [bne_iff_ne]; omega]
      refine J11 H ?_
      cases hlk
      refine J10 H ?_
      rw [beq_int ((placeM m o B true : Nat) : Int)]
      refine J9 H ?_
      refine J115 H ?_
      refine Lp_g rfl rfl rfl (St_eqAgg rfl rfl rfl rfl (.inl rfl) rfl ?_)
      refine J4 H ?_
      replace H := Js [3,3,0,2] 2 H
      exact C_ret (Jy H rfl fun w' H' => ⟨congrArg Value.bool ((eql_veq _ _).trans (veq_refl3 0 0 0)), s, m, told, R, Step_eq rfl rfl rfl, RUN_in H'⟩)
    · have hnl := (List.getElem?_eq_some_iff.1 hx).1
      have hmx := hmw.objs x (List.mem_of_getElem? hx)
      have hkn := hmx.kind
      have htn := hmx.to
      have hsm := MODEL_sizes (w := hmw) hx
      have hkj := List.getElem?_eq_getElem (l := x.kind) (i := j) (by omega)
      have htj := List.getElem?_eq_getElem (l := x.to) (i := j) (by omega)
      have hkd : x.kind.getD j 0 = x.kind[j] := by rw [List.getD_eq_getElem?_getD, hkj]; rfl
      have htd : x.to.getD j 0 = x.to[j] := by rw [List.getD_eq_getElem?_getD, htj]; rfl
      have hgo := hmx.goes j
      rw [htd] at hgo
      rw [hkd] at hk2
      rw [hkd, htd] at h1
      generalize x.kind[j] = kd at *
      generalize x.to[j] = td at *
      have hlt : kd = 2 → td < told.length := fun h => by rw [R.len]; exact hgo (by rw [hkj, h])
      rw [h1] at hLk
      obtain ⟨l1, l2, l3, hlk⟩ := lkv_agg (lnkM told kd td)
      rw [hlk] at hLk
      have hlink := fun (w : World) (fr : List HProp) (H : Holds w (RROW p c mo (.slice a told.length cap) :: TKL (.slice a told.length cap) told :: fr)) => link_spec p c mo a cap told kd td hk2 hlt H
      rw [hlk] at hlink
      refine J12 H ?_
      refine C_join (fun ms σ w => ms = [] ∧ ∃ b27, σ 0 = pp p ∧ σ 3 = pp b3 ∧ σ 6 = .int .i64 n ∧ σ 27 = pp b27 ∧ σ 28 = .int .i64 (0 : Nat) ∧ Holds w (pts b27 (row 61 [.int .i64 l1, .int .i64 l2, .int .i64 l3]) :: pts b3 (row 34 [.int .i64 11, .int .i64 A, .int .i64 (j : Nat), .int .i64 C, .int .u64 X, .slice adW ws.length capW, .bool raw, .int .i64 i, .int .i64 g]) :: RROW p c mo (.slice a told.length cap) :: CELL c s :: MODEL mo m :: TKL (.slice a told.length cap) told :: fr)) ?_ ?_
      · refine J1 H ?_
        clear H; intro w H
        refine J15 H ?_
        refine J272 H ?_
        refine J273 H ?_
        refine J59 H ?_
        refine J274 H ?_
        refine A_two 7 11 rfl rfl (by kernel_rfl) (by repeat first | exact .nil | refine .cons (.inr H.at) ?_ | refine .cons (.inr H.mp) ?_ | refine .cons (.inl (by kernel_rfl)) ?_) (Wants.none rfl) (Wants.none rfl) (St_call (a := []) (b := []) rfl rfl (call (hLk _ _ H) ?_)) (St_alloc H rfl ?_)
        · clear H; rintro v w ⟨rfl, H⟩
          refine J95 H ?_
          refine J184 H ?_
          clear H; intro b27 w H
          refine J65 H ?_
          clear H; intro w H
          refine J93 H ?_
          replace H := Js [0,2,2,0,1,1] 1 H
          exact ⟨rfl, rfl, b27, rfl, rfl, rfl, rfl, rfl, H⟩
        · clear H; intro b27 w H
          refine Jo 7 H ?_
          refine Jk rfl rfl (hLk _ _ H.swap) ?_
          clear H; rintro v w ⟨rfl, H⟩
          refine J95 H ?_
          refine J65 H ?_
          clear H; intro w H
          refine J93 H ?_
          replace H := Js [1,2,2,0,1,1] 1 H
          exact ⟨rfl, rfl, b27, rfl, rfl, rfl, rfl, rfl, H⟩
      clear H
      rintro ms σ w ⟨rfl, b27, g0, g3, g6, g27, g28, H⟩
      rw [upd_self g0, upd_self g3, upd_self g6, upd_self g27, upd_self g28]
      replace H := Js [4,0,0,0,0,0] 0 H
      refine J1 H ?_
      clear H; intro w H
      refine J192 H ?_
      refine Jk rfl rfl (Place_spec mo m n j true H) ?_
      clear H; rintro v w ⟨rfl, H⟩
      rw [h0]
      refine J181 H ?_
      refine J61 H ?_
      obtain ⟨t, lc, aL, cL, bO, cO, sO, ptrs, q, vw, vk, vt, rest, hm, h2, hp, H, hclose⟩ := MODEL_at H hx
      have hm' := set_same hx hm
      obtain ⟨ak, ck, rfl⟩ := sls_slice H.drop.drop (ncells_length _) (by decide)
      obtain ⟨at', ct, rfl⟩ := sls_slice H.drop.drop.drop (ncells_length _) (by decide)
      replace H := Js [2,0,0,0] 0 H
      obtain ⟨bk, sk, rfl, H, hck⟩ := sls_open H (by omega)
      replace H := Js [3,0,0,0] 0 H
      obtain ⟨bt, st, rfl, H, hct⟩ := sls_open H (by omega)
      refine J1 H ?_
      clear H; intro w H
      refine J156 H ?_
      refine A_pv 3 rfl (Wants.of rfl rfl rfl) rfl (by kernel_rfl) ?_
      refine A_loadN 4 [39] H rfl (Wants.of rfl rfl rfl) rfl (by repeat (first | exact Reads.nil _ | apply Reads.cons rfl)) (by kernel_rfl) ?_
      refine J188 H ?_
      refine J241 H ?_
      refine A_fieldAddr 7 rfl (Wants.of rfl rfl rfl) rfl (by kernel_rfl) ?_
      refine A_load1 8 [39] H rfl (Wants.of rfl rfl rfl) rfl rfl (by kernel_rfl) ?_
      refine J254 H ?_
      refine J257 H ?_
      refine A_load1 11 [39] H rfl (Wants.of rfl rfl rfl) rfl rfl (by kernel_rfl) ?_
      refine A_pv 12 rfl (Wants.of rfl rfl rfl) rfl (by kernel_rfl) ?_
      refine A_indexAddr 13 rfl (Wants.of rfl rfl rfl) rfl rfl (by omega) (by omega) (by kernel_rfl) ?_
      refine A_load1 14 [39] H rfl (Wants.of rfl rfl rfl) rfl hp (by kernel_rfl) ?_
      refine J244 H ?_
      refine A_load1 17 [39] H rfl (Wants.of rfl rfl rfl) rfl rfl (by kernel_rfl) ?_
      refine A_fieldAddr 18 rfl (Wants.of rfl rfl rfl) rfl (by kernel_rfl) ?_
      refine A_load1 19 [39] H rfl (Wants.of rfl rfl rfl) rfl rfl (by kernel_rfl) ?_
      refine A_indexAddr 20 rfl (Wants.of rfl rfl rfl) rfl rfl (by omega) (by omega) (by kernel_rfl) ?_
      refine A_load1 21 [39] H rfl (Wants.of rfl rfl rfl) rfl (ncells_get hkj) (by kernel_rfl) ?_
      refine A_pv 22 rfl (Wants.of rfl rfl rfl) rfl (by kernel_rfl) ?_
      refine J246 H ?_
      refine A_fieldAddr 24 rfl (Wants.of rfl rfl rfl) rfl (by kernel_rfl) ?_
      refine A_load1 25 [39] H rfl (Wants.of rfl rfl rfl) rfl rfl (by kernel_rfl) ?_
      refine J247 H ?_
      refine A_fieldAddr 27 rfl (Wants.of rfl rfl rfl) rfl (by kernel_rfl) ?_
      refine A_load1 28 [39] H rfl (Wants.of rfl rfl rfl) rfl rfl (by kernel_rfl) ?_
      refine A_pv 29 rfl (Wants.of rfl rfl rfl) rfl (by kernel_rfl) ?_
      refine A_indexAddr 30 rfl (Wants.of rfl rfl rfl) rfl rfl (by omega) (by omega) (by kernel_rfl) ?_
      refine A_load1 31 [39] H rfl (Wants.of rfl rfl rfl) rfl hp (by kernel_rfl) ?_
      refine A_pv 32 rfl (Wants.of rfl rfl rfl) rfl (by kernel_rfl) ?_
      refine A_fieldAddr 33 rfl (Wants.of rfl rfl rfl) rfl (by kernel_rfl) ?_
      refine A_load1 34 [39] H rfl (Wants.of rfl rfl rfl) rfl rfl (by kernel_rfl) ?_
      refine A_fieldAddr 35 rfl (Wants.of rfl rfl rfl) rfl (by kernel_rfl) ?_
      refine A_load1 36 [39] H rfl (Wants.of rfl rfl rfl) rfl rfl (by kernel_rfl) ?_
      refine A_indexAddr 37 rfl (Wants.of rfl rfl rfl) rfl rfl (by omega) (by omega) (by kernel_rfl) ?_
      refine A_load1 38 [39] H rfl (Wants.of rfl rfl rfl) rfl (ncells_get htj) (by kernel_rfl) ?_
      replace H := Js [12,13,0,0,0,0,0,0,0,0,0,0,0,0,0] 0 H
      refine Jo 39 H ?_
      refine Jk rfl rfl (hlink _ _ H) ?_
      clear H; rintro v w ⟨rfl, H⟩
      refine A_pv 40 rfl (Wants.none rfl) rfl (by kernel_rfl) ?_
      refine A_pv 41 rfl (Wants.none rfl) rfl (by kernel_rfl) ?_
      refine J2 H ?_
      replace H := Js [3,2,2,2,2,2,2,2,2,2,2,2,2,0,0] 0 H
      replace H := hck _ _ H
      replace H := Js [1,0,0,0] 0 H
      replace H := hct _ _ H
      replace H := Js [2,2,1,0] 0 H
      replace H := MODEL_same hx (hclose _ _ x hm' H)
      replace H := Js [4,3,0,2] 2 H
      exact C_ret (Jy H rfl fun w' H' => ⟨rfl, s, m, told, R, Step_eq rfl rfl rfl, RUN_in H'⟩)
  rw [show (k == 11) = false by simpa using hk11]
  refine J8 H ?_
  refine J14 H ?_
  replace H := Js [2,2,2,2] 2 H
  exact C_ret (Jy H rfl fun w' H' => ⟨rfl, s, m, told, R, Step_eq rfl rfl rfl, RUN_in H'⟩)
end Go.Proofs.YtcaaojbnjfdglaaGreatDoor
namespace Go.Proofs.YtcaaojbnjfdglaaGreatDoor
open Go.SL

/-- An act. -/
structure Ac where
  k : Int
  A : Int
  B : Int
  C : Int
  X : Nat
  vW : Value
  ws : List Nat
  raw : Bool
  i : Int
  g : Int
def acell (x : Ac) : List Value := [.int .i64 x.k, .int .i64 x.A, .int .i64 x.B, .int .i64 x.C, .int .u64 x.X, x.vW, .bool x.raw, .int .i64 x.i, .int .i64 x.g]
def acells (l : List Ac) : List Value := l.flatMap acell
def AcOK (fr : List HProp) (x : Ac) : Prop := x.X < 18446744073709551616 ∧ (∀ y ∈ x.ws, y < 18446744073709551616) ∧ RdS fr x.vW x.ws.length 1 (ucells x.ws)
theorem acells_length (l : List Ac) : (acells l).length = l.length * 9 := by
  induction l with
  | nil => rfl
  | cons p L ih => simp only [acells, acell, List.flatMap_cons, List.length_append, List.length_cons, List.length_nil] at ih ⊢; omega
theorem acells_get {L : List Ac} {i : Nat} {x : Ac} (h : L[i]? = some x) : ∀ j v, (acell x)[j]? = some v → (acells L)[i * 9 + j]? = some v := by
  induction L generalizing i with
  | nil => simp at h
  | cons y L ih =>
    intro j v hj
    have hj9 : j < 9 := (List.getElem?_eq_some_iff.1 hj).1
    cases i with
    | zero =>
      simp at h
      subst h
      show (acell y ++ L.flatMap acell)[0 * 9 + j]? = _
      rw [Nat.zero_mul, Nat.zero_add, List.getElem?_append_left hj9]
      exact hj
    | succ i =>
      have := ih (i := i) (by simpa using h) j v hj
      show (acell y ++ L.flatMap acell)[(i + 1) * 9 + j]? = _
      rw [List.getElem?_append_right (by show 9 ≤ _; omega)]
      show (L.flatMap acell)[(i + 1) * 9 + j - 9]? = _
      rw [show (i + 1) * 9 + j - 9 = i * 9 + j by omega]
      exact this
theorem acells_el {c : List Value} {o n : Nat} {L : List Ac} (h : Reads c o n (acells L)) {i : Nat} {x : Ac} (hp : L[i]? = some x) : Reads c (o + i * 9) 9 (acell x) :=
  h.part (es := acell x) fun j v hj => acells_get hp j v hj

theorem over_spec [Extra] (v : Value) (l : List Ac) (hl : l.length ≤ 9223372036854775807) {w : World} {fr : List HProp} (hr : RdS fr v l.length 9 (acells l)) (hok : ∀ x ∈ l, AcOK fr x) (H : Holds w fr) :
    Calls Tryz.prog 14 #[v] w (ret fun r w' => ∃ b, r = .bool b ∧ (b = false → l.length ≤ 60) ∧ Holds w' fr) := by
  obtain ⟨h0, ad, cap, rfl, hrd⟩ := hr
  refine calls_of Tryz.func14 rfl (by kernel_rfl) ?_
  refine J14 H ?_
  refine J111 H ?_
  by_cases h60 : (l.length : Int) > 60
  · rw [show decide ((l.length : Int) > 60) = true from decide_eq_true (by omega)]
    refine J38 H ?_
    exact C_ret (Jy H rfl fun w' H' => ⟨true, rfl, (fun h => by cases h), H'⟩)
  rw [show decide ((l.length : Int) > 60) = false from decide_eq_false (by omega)]
  refine J8 H ?_
  refine J145 H ?_
  refine C_loop (fun ms σ w n => ms = [] ∧ ∃ i : Nat, i ≤ l.length ∧ n = l.length - i ∧ σ 8 = .slice ad l.length cap ∧ σ 9 = .int .i64 l.length ∧ σ 10 = .int .i64 i ∧ Holds w fr) (m := l.length) ⟨rfl, 0, by omega, rfl, rfl, rfl, rfl, H⟩ ?_
  clear H
  rintro ms σ w n ⟨rfl, i, hi, rfl, g8, g9, g10, H⟩
  rw [upd_self g8, upd_self g9, upd_self g10]
  refine J25 H ?_
  refine C_dec rfl (fun h => C_skip ?_) (fun h => C_exit ?_)
  · have hlt : i < l.length := by omega
    have hy := List.getElem?_eq_getElem hlt
    generalize l[i] = y at hy
    have hym := hok y (List.mem_of_getElem? hy)
    rcases hrd with hz | ⟨b, o, E, fz, c, rfl, hA, hrd⟩
    · omega
    haveI := hA
    obtain ⟨k, A, B, C, X, vW, ws, raw, i1, g1⟩ := y
    obtain ⟨_, _, _, adW, capW, hvW, _⟩ := hym
    replace hvW : vW = .slice adW ws.length capW := hvW
    subst hvW
    refine J58 H ?_
    refine Lp_s rfl (St_indexAddr rfl rfl (by omega) (by omega) rfl ?_)
    refine Lp_s rfl (St_loadN H rfl (acells_el hrd hy) rfl ?_)
    refine J19 H ?_
    clear H; intro b4 w H
    refine J7 H ?_
    clear H; intro w H
    refine Lp_nil ?_
    refine J66 H ?_
    by_cases hk : k = 2
    · subst hk
      refine J116 H ?_
      by_cases hC : C > 40
      · rw [show decide (C > 40) = true from decide_eq_true (by omega)]
        refine J27 H ?_
        refine J167 H ?_
        refine J27 H ?_
        refine J78 H ?_
        refine J51 H ?_
        exact C_ret (Jy H.drop rfl fun w' H' => ⟨true, rfl, (fun h => by cases h), H'⟩)
      · rw [show decide (C > 40) = false from decide_eq_false (by omega)]
        refine J166 H ?_
        by_cases hB : B > 64
        · rw [show decide (B > 64) = true from decide_eq_true (by omega)]
          refine J27 H ?_
          refine J78 H ?_
          refine J51 H ?_
          exact C_ret (Jy H.drop rfl fun w' H' => ⟨true, rfl, (fun h => by cases h), H'⟩)
        · rw [show decide (B > 64) = false from decide_eq_false (by omega)]
          by_cases hw : (ws.length : Int) > 10
          · first | refine Lp_gpv rfl rfl rfl rfl ?_ | refine Lp_no rfl rfl rfl ?_ | refine Lp_nn rfl rfl ?_
            refine J259 H ?_
            rw [show decide ((ws.length : Int) > 10) = true from decide_eq_true (by omega)]
            refine J51 H ?_
            exact C_ret (Jy H.drop rfl fun w' H' => ⟨true, rfl, (fun h => by cases h), H'⟩)
          · first | refine Lp_gpv rfl rfl rfl rfl ?_ | refine Lp_no rfl rfl rfl ?_ | refine Lp_nn rfl rfl ?_
            refine J259 H ?_
            rw [show decide ((ws.length : Int) > 10) = false from decide_eq_false (by omega)]
            refine J20 H ?_
            refine J3 H ?_
            exact ⟨_, ⟨rfl, i + 1, hlt, rfl, rfl, rfl, inc64 (by omega), H.drop⟩, by omega⟩
    · rw [show (k == 2) = false by simpa using hk]
      by_cases hw : (ws.length : Int) > 10
      · first | refine Lp_pv rfl rfl ?_ | refine Lp_mv rfl rfl ?_
        refine J130 H ?_
        refine J212 H ?_
        refine J259 H ?_
        rw [show decide ((ws.length : Int) > 10) = true from decide_eq_true (by omega)]
        refine J51 H ?_
        exact C_ret (Jy H.drop rfl fun w' H' => ⟨true, rfl, (fun h => by cases h), H'⟩)
      · first | refine Lp_pv rfl rfl ?_ | refine Lp_mv rfl rfl ?_
        refine J130 H ?_
        refine J212 H ?_
        refine J259 H ?_
        rw [show decide ((ws.length : Int) > 10) = false from decide_eq_false (by omega)]
        refine J20 H ?_
        refine J3 H ?_
        exact ⟨_, ⟨rfl, i + 1, hlt, rfl, rfl, rfl, inc64 (by omega), H.drop⟩, by omega⟩
  · have hge : i = l.length := by omega
    refine J14 H ?_
    exact C_ret (Jy H rfl fun w' H' => ⟨false, rfl, fun _ => by omega, H'⟩)
end Go.Proofs.YtcaaojbnjfdglaaGreatDoor
namespace Go.Proofs.YtcaaojbnjfdglaaGreatDoor
open Go.SL

def cs0 (n size slots : Nat) : CS := ⟨size, List.replicate n 0, [], List.replicate slots ⟨0, none⟩, 0, [], [], [], []⟩
theorem rel0 (n size slots : Nat) : Rel (cs0 n size slots) ms0 [] := by
  have hno : ∀ (k g : Nat) (e : Ent), (List.replicate slots (⟨0, none⟩ : Slt))[k]? ≠ some ⟨g, some e⟩ := by
    intro k g e h
    rw [List.getElem?_replicate] at h
    split at h <;> cases h
  refine ⟨rfl, rfl, ?_, List.nodup_nil, rfl, ?_, ?_, fun k g e h => absurd h (hno k g e), ?_, List.nodup_nil⟩
  · intro r q
    constructor
    · intro h; cases h
    · rintro ⟨k, _, h1, h2, _⟩
      have : k < 1 := (List.getElem?_eq_some_iff.1 h2).1
      omega
  · intro o x k g h; cases h
  · intro o x k g h; cases h
  · intro o k g h; cases h

/-- While nothing is freed: the first slots are taken, once each. -/
structure Fresh (s : CS) (told : List (Nat × Nat)) : Prop where
  shape : ∃ r, shapeT s.tab = List.replicate told.length (1, true) ++ List.replicate r (0, false)
  told : told = (List.range told.length).map fun i => (i, 1)
  inv : Inv s
theorem fresh0 (n size slots : Nat) : Fresh (cs0 n size slots) [] := ⟨⟨slots, by simp [shapeT, cs0]⟩, rfl, inv_empty rfl no_free⟩
theorem shape_at {ts : List Slt} {n r k : Nat} {t : Slt} (h : shapeT ts = List.replicate n (1, true) ++ List.replicate r (0, false)) (hk : ts[k]? = some t) : (k < n ∧ t.gen = 1 ∧ t.ent.isSome = true) ∨ (n ≤ k ∧ k < n + r ∧ t.gen = 0 ∧ t.ent = none) := by
  have h1 : (shapeT ts)[k]? = some (t.gen, t.ent.isSome) := by
    unfold shapeT
    rw [List.getElem?_map, hk]
    rfl
  rw [h] at h1
  by_cases hkn : k < n
  · rw [List.getElem?_append_left (by simpa using hkn), List.getElem?_replicate, if_pos hkn] at h1
    injection h1 with h1
    injection h1 with h2 h3
    exact .inl ⟨hkn, h2.symm, h3.symm⟩
  · rw [List.getElem?_append_right (by simp; omega), List.length_replicate, List.getElem?_replicate] at h1
    split at h1
    · injection h1 with h1
      injection h1 with h2 h3
      refine .inr ⟨by omega, by omega, h2.symm, ?_⟩
      cases he : t.ent with
      | none => rfl
      | some e => rw [he] at h3; cases h3
    · cases h1
theorem Fresh.seq {s : CS} {told : List (Nat × Nat)} (h : Fresh s told) : Seq s := by
  obtain ⟨⟨r, hs⟩, _, _⟩ := h
  intro i j t g e hij hi hj
  rcases shape_at hs hj with ⟨h1, _⟩ | ⟨_, _, _, h1⟩
  · rcases shape_at hs hi with ⟨_, _, h2⟩ | ⟨h2, _⟩
    · unfold busy; rw [h2]; rfl
    · omega
  · cases h1
theorem Fresh.step {s s' : CS} {m m' : MS} {told told' : List (Nat × Nat)} (h : Fresh s told) (st : Step s m told s' m' told') : Fresh s' told' := by
  obtain ⟨⟨r, hs⟩, ht, hI⟩ := h
  rcases st.tab with ⟨rfl, h1⟩ | ⟨k, g0, rfl, h1, h2, h3⟩
  · exact ⟨⟨r, by rw [h1]; exact hs⟩, ht, st.inv hI⟩
  · rcases shape_at hs h1 with ⟨_, _, h4⟩ | ⟨h4, h5, h6, _⟩
    · cases h4
    · have h6 : g0 = 0 := h6
      subst h6
      have hl : s.tab.length = told.length + r := by
        have := congrArg List.length hs
        simpa [shapeT] using this
      have hk : k = told.length := by
        refine Classical.byContradiction fun hne => ?_
        have hlt : told.length < k := by omega
        have hn := List.getElem?_eq_getElem (l := s.tab) (i := told.length) (by omega)
        have hb := h2 told.length _ hlt hn
        rcases shape_at hs hn with ⟨h7, _⟩ | ⟨_, _, h7, h8⟩
        · omega
        · unfold busy at hb
          rw [h7, h8] at hb
          cases hb
      subst hk
      refine ⟨⟨r - 1, ?_⟩, ?_, st.inv hI⟩
      · rw [h3, hs, List.length_append]
        obtain ⟨r', rfl⟩ : ∃ r', r = r' + 1 := ⟨r - 1, by omega⟩
        rw [List.set_append_right _ _ (by simp), List.length_replicate, Nat.sub_self, List.replicate_succ, List.set_cons_zero, Nat.add_sub_cancel]
        show _ = List.replicate (told.length + 1) (1, true) ++ _
        rw [List.replicate_succ', List.append_assoc]
        rfl
      · rw [List.length_append]
        show told ++ [(told.length, 1)] = (List.range (told.length + 1)).map _
        rw [List.range_succ, List.map_append, ← ht]
        rfl

theorem max0 (x : Int) : ∃ X : Nat, (if x > 0 then x else 0) = (X : Int) := ⟨x.toNat, by split <;> omega⟩
theorem Of_spec [Extra] (z1 z2 z3 : Int) {w : World} {fr : List HProp} (H : Holds w fr) :
    Calls Tryz.prog 12 #[.agg #[.int .i64 z1, .int .i64 z2, .int .i64 z3]] w (ret fun v w' => ∃ p n size slots, v = pp p ∧ 1 ≤ n ∧ n ≤ 20 ∧ 1 ≤ size ∧ size ≤ 16 ∧ 1 ≤ slots ∧ slots ≤ 16 ∧ Holds w' (RUN p (cs0 n size slots) ms0 [] :: fr)) := by
  obtain ⟨X1, h1⟩ := max0 z1
  obtain ⟨X2, h2⟩ := max0 z2
  obtain ⟨X3, h3⟩ := max0 z3
  refine calls_of Tryz.func12 rfl (by kernel_rfl) ?_
  refine J6 H ?_
  clear H; intro b1 w H
  refine J149 H ?_
  refine J124 H ?_
  rw [h1]
  refine Lp_pv (v := .int .i64 ((X1 % 20 : Nat) : Int)) (by
    show some (Value.int IntKind.i64 (Int.tmod (X1 : Int) 20)) = _
    rw [Int.tmod_eq_emod_of_nonneg (by omega)]; rfl) rfl ?_
  refine J9 H ?_
  rw [show IntKind.i64.wrap (1 + ((X1 % 20 : Nat) : Int)) = ((X1 % 20 + 1 : Nat) : Int) by rw [wrap64 (by omega) (by omega)]; omega]
  refine J29 H ?_
  refine J124 H ?_
  rw [h2]
  refine Lp_pv (v := .int .i64 ((X2 % 16 : Nat) : Int)) (by
    show some (Value.int IntKind.i64 (Int.tmod (X2 : Int) 16)) = _
    rw [Int.tmod_eq_emod_of_nonneg (by omega)]; rfl) rfl ?_
  refine J9 H ?_
  rw [show IntKind.i64.wrap (1 + ((X2 % 16 : Nat) : Int)) = ((X2 % 16 + 1 : Nat) : Int) by rw [wrap64 (by omega) (by omega)]; omega]
  refine J29 H ?_
  refine J124 H ?_
  rw [h3]
  refine Lp_pv (v := .int .i64 ((X3 % 16 : Nat) : Int)) (by
    show some (Value.int IntKind.i64 (Int.tmod (X3 : Int) 16)) = _
    rw [Int.tmod_eq_emod_of_nonneg (by omega)]; rfl) rfl ?_
  refine J9 H ?_
  rw [show IntKind.i64.wrap (1 + ((X3 % 16 : Nat) : Int)) = ((X3 % 16 + 1 : Nat) : Int) by rw [wrap64 (by omega) (by omega)]; omega]
  
  refine Jc rfl rfl (cNew_spec (X1 % 20 + 1) (X2 % 16 + 1) (X3 % 16 + 1) (by omega) (by omega) (by omega) (by omega) (by omega) (by omega) H) ?_
  clear H; rintro v w ⟨c, rfl, H⟩
  refine J53 H ?_
  refine J10 H ?_
  refine J27 H ?_
  refine J232 H ?_
  refine J16 H ?_
  refine Jc rfl rfl (New15_spec H) ?_
  clear H; rintro v w ⟨mo, rfl, H⟩
  refine J49 H ?_
  clear H; intro b33 w H
  refine J0 H ?_
  have H := sls_nil (E := 32) (k := 2) H
  replace H := Js [1,2,1,0] 1 H
  exact C_ret (Jy (RUN_in (told := []) H) rfl fun w' H' => ⟨_, X1 % 20 + 1, X2 % 16 + 1, X3 % 16 + 1, rfl, by omega, by omega, by omega, by omega, by omega, by omega, H'⟩)
end Go.Proofs.YtcaaojbnjfdglaaGreatDoor
namespace Go.Proofs.YtcaaojbnjfdglaaGreatDoor
open Go.SL

def L0 : Lay := ⟨2, [1], 0, []⟩
def mB : MS := ⟨[-1, 0], [L0], []⟩
def mC : MS := makeM mB 1 1 0
def mD : MS := makeM mC 1 1 0
theorem dec0 : decodeL [2, 2, 0] = some L0 := by rfl
theorem right0 : RightL L0 := by decide
theorem mwfB : MWF mB := ⟨⟨by simp [mB], by simp [mB]⟩, ⟨by simp [mB], fun l h => by simp [mB] at h; subst h; exact right0⟩, (fun x h => by simp [mB] at h), by simp [mB]⟩
theorem mwf0 : MWF ms0 := ⟨⟨by simp [ms0], by simp [ms0]⟩, ⟨by simp [ms0], fun l h => by simp [ms0] at h⟩, (fun x h => by simp [ms0] at h), by simp [ms0]⟩
theorem mayB : mayM mB 1 1 0 = (2, 0) := by decide
theorem mayC : mayM mC 1 1 0 = (2, 0) := by decide
theorem mwfC : MWF mC := MWF_make (by rw [mayB]) mwfB (by simp [mB])
theorem mwfD : MWF mD := MWF_make (by rw [mayC]) mwfC (by show (mB.objs ++ [_]).length < _; simp [mB])

def mE : MS := (tieM mD 0 1 1).1
def mF : MS := (dropM mE 1).1
def mG : MS := (refM mF 0 1).1
theorem mwfE : MWF mE := by
  show MWF (setM mD 0 { newM 1 1 0 2 with kind := (newM 1 1 0 2).kind.set 1 2, to := (newM 1 1 0 2).to.set 1 1 })
  exact MWF_set mwfD (MobOK_cut (mwfD.objs _ (show newM 1 1 0 2 ∈ [newM 1 1 0 2, newM 1 1 0 2] from List.mem_cons_self)) 1 2 1 (fun _ => by decide))
theorem mwfF : MWF mF := by
  show MWF (setM mE 1 { newM 1 1 0 2 with held := false })
  obtain ⟨a, b, c, d, e⟩ := mwfD.objs _ (show newM 1 1 0 2 ∈ [newM 1 1 0 2, newM 1 1 0 2] from List.mem_cons_self)
  exact MWF_set mwfE ⟨a, b, c, d, e⟩
theorem alive_make {s s' : CS} {m : MS} {told : List (Nat × Nat)} {i g e : Nat} (R : Rel s m told) (hm : MWF m) (F : Fresh s told) (hM : Made s 1 1 0 i g e s') (hmay : mayM m 1 1 0 = (2, 0)) (hsz : s.size = 8) (hlen : told.length < s.tab.length) (hfree : ∃ a, a < s.own.length ∧ s.own.getD a 0 = 0) :
    e = 0 ∧ i = told.length ∧ g = 1 ∧ Rel s' (makeM m 1 1 0) (told ++ [(told.length, 1)]) ∧ Fresh s' (told ++ [(told.length, 1)]) ∧ s'.size = 8 ∧ Grows s.own s'.own 1 ∧ s'.tab.length = s.tab.length := by
  obtain ⟨hm1, hm2⟩ := may_law R 1 1 0
  rw [hmay] at hm1
  have hn : makeN s 1 0 = 2 := by rw [hm2 (by rw [hmay]), hmay]
  have hk : makeN s 1 0 / s.size + 1 = 1 := by rw [hn, hsz]
  obtain ⟨⟨r, hs⟩, ht, _⟩ := id F
  have hnb : ∀ t, s.tab[told.length]? = some t → busy t = false := by
    intro t h
    rcases shape_at hs h with ⟨h7, _⟩ | ⟨_, _, h7, h8⟩
    · omega
    · unfold busy
      rw [h7, h8]
      rfl
  have hat := List.getElem?_eq_getElem (l := s.tab) (i := told.length) hlen
  rcases hM with ⟨h1, _⟩ | ⟨h1, h2, _⟩ | ⟨h1, h2, _⟩ | ⟨h1, rfl, g0, addr, h2, h3, h4, rfl, h5, h6, h7, h8, h9, h10, h11⟩
  · exact absurd hm1 h1
  · have h3 := h2 _ (List.mem_of_getElem? hat)
    rw [hnb _ hat] at h3
    cases h3
  · obtain ⟨a, ha, hz⟩ := hfree
    rw [hk] at h2
    obtain ⟨j, h3, h4, h5⟩ := h2 a (by omega)
    obtain rfl : j = a := by omega
    exact absurd hz h5
  · rw [hk] at h11
    have hi : i = told.length := by
      rcases shape_at hs h2 with ⟨_, _, h12⟩ | ⟨h12, _⟩
      · cases h12
      · refine Classical.byContradiction fun hne => ?_
        have h13 := h4 told.length _ (by omega) hat
        rw [hnb _ hat] at h13
        cases h13
    subst hi
    have hg : g0 = 0 := by
      rcases shape_at hs h2 with ⟨_, _, h12⟩ | ⟨_, _, h12, _⟩
      · cases h12
      · exact h12
    subst hg
    obtain ⟨_, R'⟩ := make_rel R hm (by rw [hmay]) h2 h6 h7 h8 h10
    refine ⟨rfl, rfl, rfl, R', ?_, by rw [h5, hsz], h11, by rw [h10, List.length_set]⟩
    exact F.step (m := m) (m' := makeM m 1 1 0) ⟨by show m.P.length ≤ _; omega, by show (m.objs ++ [_]).length ≤ _; simp, .inr ⟨told.length, 0, rfl, h2, h4, by rw [h10]; unfold shapeT; rw [List.map_set]; rfl⟩, fun hI => inv_more hI h2 h6 h9 h10 rfl⟩

theorem alive15_spec [Extra] {w : World} {fr : List HProp} [hT : HasTab 0 Lib.deBruijn64tab fr] (H : Holds w fr) :
    Calls Tryz.prog 13 #[] w (ret fun v w' => v = .bool true ∧ Holds w' fr) := by
  have Rs0 := rel0 4 8 4
  have hdS : defS (cs0 4 8 4) [2, 2, 0] = ({ cs0 4 8 4 with lays := [L0] }, 1, 0) := by rw [defS_some dec0]; rfl
  refine calls_of Tryz.func13 rfl (by kernel_rfl) ?_
  refine J175 H ?_
  refine Jc rfl rfl (cNew_spec 4 8 4 (by omega) (by omega) (by omega) (by omega) (by omega) (by omega) H) ?_
  clear H; rintro v w ⟨c, rfl, H⟩
  replace H : Holds w (CELL c (cs0 4 8 4) :: fr) := H
  refine J53 H ?_
  refine J10 H ?_
  refine J27 H ?_
  refine J232 H ?_
  refine J16 H ?_
  refine J39 H ?_
  clear H; intro b29 w H

  replace H := H.swap
  have hrd : RdS (pts b29 (row 29 [.int .u64 2, .int .u64 2, .int .u64 0]) :: fr) (.slice (some ⟨b29, 0, none⟩) 3 3) 3 1 (ucells [2, 2, 0]) := ⟨rfl, _, _, rfl, .inr ⟨b29, 0, _, _, _, rfl, inferInstance, .cons rfl (.cons rfl (.cons rfl (.nil _)))⟩⟩
  refine Jc rfl rfl (Define_spec c (cs0 4 8 4) _ [2, 2, 0] (by decide) hrd H) ?_
  clear H; rintro v w ⟨rfl, H⟩
  rw [hdS] at H ⊢
  have RA : Rel { cs0 4 8 4 with lays := [L0] } ⟨[-1], [L0], []⟩ [] := by
    have h := (def_law Rs0 mwf0 [2, 2, 0]).2
    rw [hdS] at h
    exact h
  refine J53 H ?_
  refine J16 H ?_
  refine Jc rfl rfl (Open_spec c _ 0 (by decide) H) ?_
  clear H; rintro v w (⟨h1, rfl, H⟩ | ⟨_, ob, ob2, rfl, H⟩)
  · exact absurd rfl h1
  have RB := open_rel RA (parent := 0) rfl ob ob2
  generalize hsB : openS { cs0 4 8 4 with lays := [L0] } 0 ob ob2 = sB at H RB
  have hB1 : sB.size = 8 := by rw [← hsB]; rfl
  have hB2 : sB.own = List.replicate 4 0 := by rw [← hsB]; rfl
  have hB3 : sB.tab = List.replicate 4 ⟨0, none⟩ := by rw [← hsB]; rfl
  have hB4 : sB.last = 1 := by rw [← hsB]; rfl
  have FB : Fresh sB [] := ⟨⟨4, by rw [hB3]; rfl⟩, rfl, inv_empty (by rw [← hsB]; rfl) (by rw [hB3]; exact no_free)⟩
  replace RB : Rel sB mB [] := RB
  refine J53 H ?_
  refine J16 H ?_
  refine Jc rfl rfl (Make_all c sB 1 1 0 FB.seq H) ?_
  clear H; rintro v w ⟨i1, g1, e1, sC, rfl, hM1, H⟩
  obtain ⟨rfl, rfl, rfl, RC, FC, hC1, hC2, hC3⟩ := alive_make RB mwfB FB hM1 mayB hB1 (by rw [hB3]; decide) ⟨0, by rw [hB2]; decide, by rw [hB2]; rfl⟩
  rw [hB3] at hC3
  rw [hB2] at hC2
  replace RC : Rel sC mC [(0, 1)] := RC
  replace FC : Fresh sC [(0, 1)] := FC
  have hfree : ∃ a, a < sC.own.length ∧ sC.own.getD a 0 = 0 := by
    obtain ⟨hl, a0, k0, hk0, hg⟩ := hC2
    have hz : ∀ a, a ≠ a0 → sC.own.getD a 0 = 0 := by
      intro a ha
      refine Classical.byContradiction fun h => ?_
      rcases hg a h with h1 | h1
      · exact h1 (rep_get 4 a)
      · omega
    have hl4 : sC.own.length = 4 := hl
    by_cases h0 : a0 = 0
    · exact ⟨1, by omega, hz 1 (by omega)⟩
    · exact ⟨0, by omega, hz 0 (by omega)⟩
  refine J21 H ?_
  clear H; intro b7 w H
  refine J7 H ?_
  clear H; intro w H
  refine J0 H ?_
  replace H := H.swap
  refine J16 H ?_
  refine Jc rfl rfl (Make_all c sC 1 1 0 FC.seq H) ?_
  clear H; rintro v w ⟨i2, g2, e2, sD, rfl, hM2, H⟩
  obtain ⟨rfl, rfl, rfl, RD, FD, hD1, hD2, hD3⟩ := alive_make RC mwfC FC hM2 mayC hC1 (by rw [hC3]; decide) hfree
  replace RD : Rel sD mD [(0, 1), (1, 1)] := RD
  refine J21 H ?_
  clear H; intro b9 w H
  refine J7 H ?_
  clear H; intro w H
  refine J0 H ?_
  replace H := Js [1,0,0] 0 H
  refine J205 H ?_
  refine J165 H ?_
  refine J165 H ?_
  refine J279 H ?_
  refine J115 H ?_
  refine Lp_g rfl rfl rfl (St_eqPair rfl rfl (.inr rfl) rfl ?_)
  refine J279 H ?_
  refine J115 H ?_
  refine Lp_g rfl rfl rfl (St_eqPair rfl rfl (.inr rfl) rfl ?_)
  refine J118 H ?_
  refine J68 H ?_
  refine J68 H ?_
  obtain ⟨_, _, hwD, _, _⟩ := CELL_out H
  have P0 : Pick [(0, 1), (1, 1)] 0 1 0 := .inl ⟨0, 1, 0, rfl, rfl, rfl, rfl⟩
  have P1 : Pick [(0, 1), (1, 1)] 1 1 1 := .inl ⟨1, 1, 1, rfl, rfl, rfl, rfl⟩
  obtain ⟨t1, RE⟩ := tie_law RD hwD mwfD P0 P1 1
  rw [show (tieM mD 0 1 1).2 = 0 by decide] at t1
  replace RE : Rel (TieS sD 0 1 1 1 1).1 mE [(0, 1), (1, 1)] := RE
  refine Lp_g rfl rfl rfl (St_call (a := []) (b := []) rfl rfl (call (CTie_spec c sD 0 1 1 1 1 H) ?_))
  clear H; rintro v w ⟨rfl, H⟩
  rw [t1]
  generalize (TieS sD 0 1 1 1 1).1 = sE at H RE
  refine J27 H ?_
  refine J118 H ?_
  refine J68 H ?_
  obtain ⟨t2, RF⟩ := drop_law RE P1
  rw [show (dropM mE 1).2 = 0 by decide] at t2
  replace RF : Rel (dropS sE 1 1).1 mF [(0, 1), (1, 1)] := RF
  refine Lp_g rfl rfl rfl (St_call (a := []) (b := []) rfl rfl (call (Drop_spec c sE 1 1 H) ?_))
  clear H; rintro v w ⟨rfl, H⟩
  rw [t2]
  generalize (dropS sE 1 1).1 = sF at H RF
  refine J97 H ?_
  have t3 : getW sF 1 1 0 = (0, 8) := by
    rcases get_law RF P1 0 with ⟨h1, h2⟩ | ⟨h1, _⟩
    · rw [h2]; rfl
    · exact absurd h1 (by decide)
  refine J33 H ?_
  refine Jc rfl rfl (Get_spec c sF 1 1 0 H) ?_
  clear H; rintro v w ⟨rfl, H⟩
  rw [t3]
  refine J53 H ?_
  have t4 : lookL sF 0 1 1 = (.obj 1 1, 0) := by
    obtain ⟨h1, h2, _⟩ := ref_law RF mwfF P0 1
    rw [show (refM mF 0 1).2 = (2, 1, 0) by decide] at h1 h2
    exact Prod.ext h2 h1
  obtain ⟨_, _, _, _, RG⟩ := ref_law RF mwfF P0 1
  replace RG : Rel (refS sF 0 1 1) mG [(0, 1), (1, 1)] := RG
  refine J33 H ?_
  refine Jc rfl rfl (Ref_spec c sF 0 1 1 H) ?_
  clear H; rintro v w ⟨rfl, H⟩
  rw [t4]
  generalize refS sF 0 1 1 = sG at H RG
  have t5 : getW sG 1 1 0 = (0, 0) := by
    rcases get_law RG P1 0 with ⟨h1, h2⟩ | ⟨h1, n, j, x, h2, h3, h4, _, h5⟩
    · exact absurd rfl h1
    · obtain rfl : n = 1 := by omega
      obtain rfl : j = 0 := by omega
      rw [h5]
      have h6 : mG.objs[1]? = some ⟨1, 1, 0, [0, 0], [0, 0], [0, 0], true, false, false⟩ := rfl
      rw [h6] at h4
      injection h4 with h4
      rw [← h4]
      rfl
  refine J21 H ?_
  clear H; intro b13 w H
  refine J7 H ?_
  clear H; intro w H
  refine J0 H ?_
  replace H := H.swap
  refine J33 H ?_
  refine Jc rfl rfl (Get_spec c sG 1 1 0 H) ?_
  clear H; rintro v w ⟨rfl, H⟩
  rw [t5]
  refine J53 H ?_
  refine J10 H ?_
  refine J154 H ?_
  refine J68 H ?_
  refine J115 H ?_
  refine Lp_g rfl rfl rfl (St_eqAgg rfl rfl rfl rfl (.inl rfl) rfl ?_)
  refine J165 H ?_
  refine J165 H ?_
  refine J4 H ?_
  replace H : Holds w fr := H.drop.drop.drop.drop.drop
  exact C_ret (Jy H rfl fun w' H' => ⟨rfl, H'⟩)
end Go.Proofs.YtcaaojbnjfdglaaGreatDoor
namespace Go.Proofs.YtcaaojbnjfdglaaGreatDoor
open Go.SL

end Go.Proofs.YtcaaojbnjfdglaaGreatDoor
namespace Go.Proofs.YtcaaojbnjfdglaaGreatDoor
open Go.SL

theorem AcOK.there {A : HProp} {fr : List HProp} {x : Ac} (h : AcOK fr x) : AcOK (A :: fr) x := ⟨h.1, h.2.1, h.2.2.there⟩
end Go.Proofs.YtcaaojbnjfdglaaGreatDoor
namespace Go.Proofs.YtcaaojbnjfdglaaGreatDoor
open Go.SL

def bitsL (n x : Nat) : List Nat := (List.range n).filter fun i => x.testBit i
theorem bitsL_to {x a e : Nat} (h : a ≤ e) (h0 : ∀ i, a ≤ i → i < e → x.testBit i = false) : bitsL e x = bitsL a x := by
  obtain ⟨d, rfl⟩ : ∃ d, e = a + d := ⟨e - a, by omega⟩
  unfold bitsL
  have h2 : ((List.range d).map (a + ·)).filter (fun i => x.testBit i) = [] := by
    refine List.filter_eq_nil_iff.2 fun i hi => ?_
    obtain ⟨j, hj, rfl⟩ := List.mem_map.1 hi
    have := List.mem_range.1 hj
    rw [h0 (a + j) (by omega) (by omega)]
    decide
  rw [List.range_add, List.filter_append, h2, List.append_nil]
theorem bitsL_on {x a : Nat} (h : x.testBit a = true) : bitsL (a + 1) x = bitsL a x ++ [a] := by
  unfold bitsL
  rw [List.range_succ, List.filter_append, List.filter_cons, if_pos h]
  rfl
theorem bitsL_pre {x a n : Nat} (h : a < n) (hx : x.testBit a = true) : ∃ t, bitsL n x = bitsL a x ++ a :: t := by
  obtain ⟨d, rfl⟩ : ∃ d, n = (a + 1) + d := ⟨n - (a + 1), by omega⟩
  refine ⟨((List.range d).map (a + 1 + ·)).filter fun i => x.testBit i, ?_⟩
  have h1 := bitsL_on hx
  unfold bitsL at h1 ⊢
  rw [List.range_add, List.filter_append, h1, List.append_assoc]
  rfl

theorem bAll_spec [Extra] (p : Nat) {w : World} {fr : List HProp} (H : Holds w fr) :
    Calls Tryz.prog 145 #[pp p] w (ret fun v w' => ∃ b1, v = .func (.func 184) #[] #[pp b1] ∧ Holds w' (pts b1 (row 178 [pp p]) :: fr)) := by
  refine calls_of Tryz.func145 rfl (by kernel_rfl) ?_
  refine J43 H ?_
  clear H; intro b1 w H
  refine J22 H ?_
  exact C_ret (Jy H rfl fun w' H' => ⟨_, rfl, H'⟩)

theorem AllIter [Extra] (yl b1 p n x m : Nat) (hb : Bits n x) (J : List Nat → HProp)
    {w : World} {fr : List HProp} [hT : HasTab 0 Lib.deBruijn64tab fr]
    (hy : ∀ (ks : List Nat) (i : Nat) (rest : List HProp) (w : World), i < n → x.testBit i = true → (∃ t, bitsL n x = ks ++ i :: t) → Holds w (J ks :: BM p n [x] m :: rest) → SL.Yields Tryz.prog yl #[.int .i64 i] w (fun v w' => v = .bool true ∧ Holds w' (J (ks ++ [i]) :: BM p n [x] m :: rest)))
    (H : Holds w (J [] :: pts b1 (row 178 [pp p]) :: BM p n [x] m :: fr)) :
    Calls Tryz.prog 184 #[.func (.yield yl) #[] #[], pp b1] w (ret fun _ w' => Holds w' (J (bitsL n x) :: pts b1 (row 178 [pp p]) :: BM p n [x] m :: fr)) := by
  have hle := hb.le
  refine calls_of Tryz.func184 rfl (by kernel_rfl) ?_
  refine J64 H ?_
  refine J258 H ?_
  refine J180 H ?_
  replace H := Js [2,1,0] 0 H
  refine J64 H ?_
  refine Jc rfl rfl (next_spec p n x 0 m hb (by omega) H) ?_
  clear H; rintro v w ⟨⟨a, rfl, _, ha, h0, h1⟩, H⟩
  refine J0 H ?_
  have e0 : J [] = J (bitsL a x) := by rw [bitsL_to (Nat.zero_le a) h0]; rfl
  rw [e0] at H
  clear e0 h0
  refine J23 H ?_
  refine C_loop (fun ms σ w z => ms = [] ∧ ∃ a : Nat, a ≤ n ∧ (a < n → x.testBit a = true) ∧ z = n - a ∧ σ 0 = .func (.yield yl) #[] #[] ∧ σ 1 = pp b1 ∧ σ 3 = .int .i64 a ∧ Holds w (BM p n [x] m :: pts b1 (row 178 [pp p]) :: J (bitsL a x) :: fr)) (m := n - a) ⟨rfl, a, ha, h1, rfl, rfl, rfl, rfl, H⟩ ?_
  clear H
  rintro ms σ w z ⟨rfl, a, ha, h1, rfl, g0, g1, g3, H⟩
  rw [upd_self g0, upd_self g1, upd_self g3]
  obtain ⟨v, H⟩ := BM_out H
  refine J16 H ?_
  refine J62 H ?_
  refine J9 H ?_
  refine J29 H ?_
  refine J0 H ?_
  replace H := BM_in H
  refine J12 H ?_
  refine C_dec rfl (fun h => C_skip ?_) (fun h => C_exit ?_)
  · have hlt : a < n := by omega
    refine J125 H ?_
    replace H := Js [2,0,0] 0 H
    refine Lp_s rfl (St_yield rfl rfl (SL.Yields.mono (hy (bitsL a x) a _ _ hlt (h1 hlt) (bitsL_pre hlt (h1 hlt)) H) ?_))
    clear H; rintro v w ⟨rfl, H⟩
    refine J20 H ?_
    rw [← bitsL_on (h1 hlt)] at H
    replace H := Js [1,1,0] 0 H
    refine J64 H ?_
    refine J28 H ?_
    rw [show IntKind.i64.wrap ((a : Int) + 1) = ((a + 1 : Nat) : Int) by rw [wrap64 (by omega) (by omega)]; omega]
    refine Jc rfl rfl (next_spec p n x (a + 1) m hb (by omega) H) ?_
    clear H; rintro v w ⟨⟨e, rfl, h2, h3, h4, h5⟩, H⟩
    refine J0 H ?_
    rw [← bitsL_to h2 h4] at H
    exact ⟨_, ⟨rfl, e, h3, h5, rfl, rfl, rfl, rfl, H⟩, by omega⟩
  · have hge : a = n := by omega
    subst hge
    replace H := Js [2,1,0] 0 H
    exact fn_end0 _ (.inl rfl) H rfl fun w' H' => H'
end Go.Proofs.YtcaaojbnjfdglaaGreatDoor
