/- The document's set of pairs: Cut, Put and forget. No condition. -/
import Derived.Test.YtdpephigccnkdaaRemM
set_option linter.unusedVariables false
set_option linter.unusedSimpArgs false
set_option linter.unusedSectionVars false
namespace Go.Proofs.Ytdpephigccnkdaa
open Go.SL

theorem rCut_spec [Extra] (q : Nat) (L : List Pr) (hL : L.length ≤ 1000000) (r : Rf) {w : World} {fr : List HProp} (H : Holds w (PS q L :: fr)) :
    Calls Try.prog 18 #[pp q, rf r] w (ret fun v w' => v = .bool (decide ((cutL L r).length < L.length)) ∧ Holds w' (PS q (cutL L r) :: fr)) := by
  obtain ⟨r1, r2⟩ := r
  obtain ⟨a, c, H⟩ := PS_out H
  refine calls_of Try.func18 rfl (by kernel_rfl) ?_
  repeat refine C_seq ?_
  refine C_region ?_
  first | (refine Lp_s rfl (St_boxN H rfl rfl ?_); clear H; intro b3 w H) | (refine Lp_s rfl (St_box1 H rfl rfl rfl ?_); clear H; intro b3 w H)
  first | refine Lp_pv rfl rfl ?_ | refine Lp_mv rfl rfl ?_
  refine Lp_nil ?_
  repeat refine C_seq ?_
  refine C_region ?_
  first | refine Lp_pv rfl rfl ?_ | refine Lp_mv rfl rfl ?_
  refine Lp_nil ?_
  repeat refine C_seq ?_
  refine C_region ?_
  first | refine Lp_pv rfl rfl ?_ | refine Lp_mv rfl rfl ?_
  refine Lp_nil ?_
  repeat refine C_seq ?_
  refine C_block ?_
  refine C_loop (fun ms σ w n => ms = [] ∧ ∃ (i : Nat) (g : Value), i ≤ L.length ∧ n = L.length - i ∧ σ 0 = pp q ∧ σ 3 = pp b3 ∧ σ 5 = g ∧ σ 6 = .int .i64 i ∧
    Holds w (PL g (cutL (L.take i) (r1, r2)) :: pts b3 (row 24 [.int .i64 r1, .int .i64 r2]) :: pts q (row 39 [.slice a L.length c]) :: PL (.slice a L.length c) L :: fr)) (m := L.length) ⟨rfl, 0, _, by omega, rfl, rfl, rfl, rfl, rfl, sls_nil H⟩ ?_
  clear H
  rintro ms σ w n ⟨rfl, i, g, hi, rfl, h0, h3, h5, h6, H⟩
  rw [upd_self h0, upd_self h3, upd_self h5, upd_self h6]
  repeat refine C_seq ?_
  refine C_region ?_
  first | refine Lp_pv rfl rfl ?_ | refine Lp_mv rfl rfl ?_
  first | refine Lp_pv rfl rfl ?_ | refine Lp_mv rfl rfl ?_
  refine Lp_pv rfl rfl ?_
  refine Lp_s rfl (St_fieldAddr rfl rfl ?_)
  first | refine Lp_s rfl (St_load1 H rfl rfl rfl ?_) | refine Lp_s rfl (St_loadN H rfl (by repeat (first | exact Reads.nil _ | apply Reads.cons rfl)) rfl ?_)
  refine Lp_s rfl (St_lenSlice rfl rfl ?_)
  refine Lp_pv rfl rfl ?_
  refine Lp_nil ?_
  repeat refine C_seq ?_
  refine C_dec rfl (fun h => C_skip ?_) (fun h => C_exit ?_)
  · have hlt : i < L.length := by omega
    have ha := List.getElem?_eq_getElem hlt
    generalize L[i] = x at ha
    obtain ⟨⟨x1, x2⟩, xt⟩ := x
    have hle : (cutL (L.take i) (r1, r2)).length ≤ L.length := by
      have h1 := cutL_length (L.take i) (r1, r2)
      rw [List.length_take] at h1
      omega
    replace H := Holds.sel [3, 0, 0, 0] 0 H; dsimp only [SL.sel, SL.pull, List.drop] at H
    obtain ⟨bo, so, rfl, H, hclose⟩ := sls_open H (by omega)
    repeat refine C_seq ?_
    refine C_block ?_
    repeat refine C_seq ?_
    refine C_drawH H mixed ?_
    clear H; intro w H
    refine A_pv 0 rfl (Wants.none rfl) rfl (by kernel_rfl) ?_
    refine A_pv 1 rfl (Wants.none rfl) rfl (by kernel_rfl) ?_
    refine A_fieldAddr 2 rfl (Wants.none rfl) rfl (by kernel_rfl) ?_
    first | refine A_load1 3 [] H rfl (Wants.none rfl) rfl rfl (by kernel_rfl) ?_ | refine A_loadN 3 [] H rfl (Wants.none rfl) rfl (by repeat (first | exact Reads.nil _ | apply Reads.cons rfl)) (by kernel_rfl) ?_
    refine A_pv 4 rfl (Wants.none rfl) rfl (by kernel_rfl) ?_
    refine A_indexAddr 5 rfl (Wants.none rfl) rfl rfl (by omega) (by omega) (by kernel_rfl) ?_
    refine A_fieldAddr 6 rfl (Wants.none rfl) rfl (by kernel_rfl) ?_
    refine A_loadN 7 [] H rfl (Wants.none rfl) rfl (pcells_key ha) (by kernel_rfl) ?_
    first | refine A_load1 8 [] H rfl (Wants.none rfl) rfl rfl (by kernel_rfl) ?_ | refine A_loadN 8 [] H rfl (Wants.none rfl) rfl (by repeat (first | exact Reads.nil _ | apply Reads.cons rfl)) (by kernel_rfl) ?_
    first | refine A_pv 9 rfl (Wants.none rfl) rfl (by kernel_rfl) ?_ | refine A_eqPair 9 rfl (Wants.none rfl) rfl rfl (.inr rfl) (by kernel_rfl) ?_ | refine A_eqPtrNil 9 rfl (Wants.none rfl) rfl rfl (.inr rfl) (by kernel_rfl) ?_ | refine A_eqBool 9 rfl (Wants.none rfl) rfl rfl (.inr rfl) (by kernel_rfl) ?_ | refine A_eqStr 9 rfl (Wants.none rfl) rfl rfl (.inr rfl) (by kernel_rfl) ?_
    refine A_end (by kernel_rfl) (by repeat (first | exact InvL.nil | refine InvL.cons (.inr (Holds.at H)) ?_ | refine InvL.cons (.inr (Holds.mp H)) ?_ | refine InvL.cons (.inl (by kernel_rfl)) ?_)) ?_
    repeat refine C_seq ?_
    refine C_cond rfl (fun h => ?_) (fun h => C_skip ?_)
    · have he : ¬ (x1, x2) = (r1, r2) := by
        intro e
        rw [Prod.mk.injEq] at e
        obtain ⟨rfl, rfl⟩ := e
        simp [isEql] at h
      repeat refine C_seq ?_
      refine C_region ?_
      first | refine Lp_pv rfl rfl ?_ | refine Lp_mv rfl rfl ?_
      first | refine Lp_pv rfl rfl ?_ | refine Lp_mv rfl rfl ?_
      refine Lp_pv rfl rfl ?_
      refine Lp_s rfl (St_fieldAddr rfl rfl ?_)
      first | refine Lp_s rfl (St_load1 H rfl rfl rfl ?_) | refine Lp_s rfl (St_loadN H rfl (by repeat (first | exact Reads.nil _ | apply Reads.cons rfl)) rfl ?_)
      first | refine Lp_pv rfl rfl ?_ | refine Lp_mv rfl rfl ?_
      refine Lp_s rfl (St_indexAddr rfl rfl (by omega) (by omega) rfl ?_)
      refine Lp_s rfl (St_loadN H rfl (pcells_reads ha) rfl ?_)
      (refine Lp_s rfl (St_buildSlice H rfl rfl rfl ?_); clear H; intro b35 w H)
      replace H := Holds.sel [1, 1, 0, 0, 0] 0 H; dsimp only [SL.sel, SL.pull, List.drop] at H
      replace H := hclose _ _ H
      replace H := Holds.sel [1, 1, 1, 1, 0] 0 H; dsimp only [SL.sel, SL.pull, List.drop] at H
      refine Lp_s rfl (St_append H rfl rfl (by repeat (first | exact Reads.nil _ | apply Reads.cons rfl)) rfl (by decide) (by simp only [pcells_length, List.length_cons, List.length_nil]; omega) rfl rfl ?_); clear H; intro v36 w H
      first | refine Lp_pv rfl rfl ?_ | refine Lp_mv rfl rfl ?_
      refine Lp_nil ?_
      repeat refine C_seq ?_
      refine C_region ?_
      first | refine Lp_pv rfl rfl ?_ | refine Lp_mv rfl rfl ?_
      refine Lp_pv rfl rfl ?_
      first | refine Lp_pv rfl rfl ?_ | refine Lp_mv rfl rfl ?_
      refine Lp_nil ?_
      replace H := Holds.sel [0, 1, 1, 1] 1 H; dsimp only [SL.sel, SL.pull, List.drop] at H
      refine ⟨_, ⟨rfl, i + 1, v36, hlt, rfl, rfl, rfl, rfl, inc64 (by omega), ?_⟩, by omega⟩
      have hs : cutL (L.take (i + 1)) (r1, r2) = cutL (L.take i) (r1, r2) ++ [((x1, x2), xt)] := by
        unfold cutL
        rw [filter_take _ ha, if_pos (decide_eq_true he)]
      rw [pcells_one, ← pcells_append] at H
      rw [hs]
      exact H
    · have he : (x1, x2) = (r1, r2) := by simpa [isEql] using h
      repeat refine C_seq ?_
      refine C_region ?_
      first | refine Lp_pv rfl rfl ?_ | refine Lp_mv rfl rfl ?_
      refine Lp_pv rfl rfl ?_
      first | refine Lp_pv rfl rfl ?_ | refine Lp_mv rfl rfl ?_
      refine Lp_nil ?_
      replace H := hclose _ _ H
      replace H := Holds.sel [1, 1, 1, 0] 0 H; dsimp only [SL.sel, SL.pull, List.drop] at H
      refine ⟨_, ⟨rfl, i + 1, g, hlt, rfl, rfl, rfl, rfl, inc64 (by omega), ?_⟩, by omega⟩
      have hs : cutL (L.take (i + 1)) (r1, r2) = cutL (L.take i) (r1, r2) := by
        unfold cutL
        rw [filter_take _ ha, if_neg (by simpa using he), List.append_nil]
      rw [hs]
      exact H
  · have hge : i = L.length := by omega
    subst hge
    rw [List.take_length] at H
    obtain ⟨ag, cg, rfl⟩ := sls_slice H (pcells_length _) (by decide)
    repeat refine C_seq ?_
    refine C_region ?_
    first | refine Lp_pv rfl rfl ?_ | refine Lp_mv rfl rfl ?_
    refine Lp_s rfl (St_lenSlice rfl rfl ?_)
    first | refine Lp_pv rfl rfl ?_ | refine Lp_mv rfl rfl ?_
    refine Lp_pv rfl rfl ?_
    refine Lp_s rfl (St_fieldAddr rfl rfl ?_)
    first | refine Lp_s rfl (St_load1 H rfl rfl rfl ?_) | refine Lp_s rfl (St_loadN H rfl (by repeat (first | exact Reads.nil _ | apply Reads.cons rfl)) rfl ?_)
    refine Lp_s rfl (St_lenSlice rfl rfl ?_)
    refine Lp_pv rfl rfl ?_
    first | refine Lp_pv rfl rfl ?_ | refine Lp_mv rfl rfl ?_
    refine Lp_nil ?_
    repeat refine C_seq ?_
    refine C_region ?_
    first | refine Lp_pv rfl rfl ?_ | refine Lp_mv rfl rfl ?_
    first | refine Lp_pv rfl rfl ?_ | refine Lp_mv rfl rfl ?_
    refine Lp_pv rfl rfl ?_
    refine Lp_s rfl (St_fieldAddr rfl rfl ?_)
    first | (refine Lp_s rfl (St_store1 H rfl rfl inferInstance rfl (Nat.le_of_ble_eq_true rfl) rfl ?_); clear H; intro w H) | (refine Lp_s rfl (St_storeN H rfl rfl inferInstance rfl rfl (Nat.le_of_ble_eq_true rfl) rfl ?_); clear H; intro w H)
    refine Lp_nil ?_
    repeat refine C_seq ?_
    refine C_region ?_
    first | refine Lp_pv rfl rfl ?_ | refine Lp_mv rfl rfl ?_
    first | refine Lp_pv rfl rfl ?_ | refine Lp_mv rfl rfl ?_
    refine Lp_nil ?_
    replace H := Holds.sel [2, 0] 2 H; dsimp only [SL.sel, SL.pull, List.drop] at H
    refine C_ret (fn_end0 _ (.inr rfl) (PS_in H) rfl fun w' H' => ⟨?_, H'⟩)
    show Value.bool (decide (((cutL L (r1, r2)).length : Int) < L.length)) = _
    simp

theorem rPut_spec [Extra] (q : Nat) (L : List Pr) (hL : L.length ≤ 999999) (r : Rf) (t : Int) {w : World} {fr : List HProp} (H : Holds w (PS q L :: fr)) :
    Calls Try.prog 17 #[pp q, rf r, .int .i64 t] w (ret fun v w' => v = .bool (!decide ((cutL L r).length < L.length)) ∧ Holds w' (PS q (putL r t (cutL L r)) :: fr)) := by
  obtain ⟨r1, r2⟩ := r
  refine calls_of Try.func17 rfl (by kernel_rfl) ?_
  repeat refine C_seq ?_
  refine C_region ?_
  first | (refine Lp_s rfl (St_boxN H rfl rfl ?_); clear H; intro b4 w H) | (refine Lp_s rfl (St_box1 H rfl rfl rfl ?_); clear H; intro b4 w H)
  first | refine Lp_pv rfl rfl ?_ | refine Lp_mv rfl rfl ?_
  refine Lp_nil ?_
  repeat refine C_seq ?_
  refine C_region ?_
  first | refine Lp_pv rfl rfl ?_ | refine Lp_mv rfl rfl ?_
  first | refine Lp_s rfl (St_load1 H rfl rfl rfl ?_) | refine Lp_s rfl (St_loadN H rfl (by repeat (first | exact Reads.nil _ | apply Reads.cons rfl)) rfl ?_)
  refine Lp_s rfl (St_call (a := []) (b := []) rfl rfl (call (rCut_spec q L (by omega) (r1, r2) H.swap) ?_))
  clear H; rintro v w ⟨rfl, H⟩
  first | refine Lp_pv rfl rfl ?_ | refine Lp_mv rfl rfl ?_
  refine Lp_nil ?_
  repeat refine C_seq ?_
  refine C_region ?_
  first | refine Lp_pv rfl rfl ?_ | refine Lp_mv rfl rfl ?_
  refine Lp_nil ?_
  repeat refine C_seq ?_
  refine C_region ?_
  first | refine Lp_pv rfl rfl ?_ | refine Lp_mv rfl rfl ?_
  refine Lp_nil ?_
  repeat refine C_seq ?_
  refine C_region ?_
  first | refine Lp_pv rfl rfl ?_ | refine Lp_mv rfl rfl ?_
  refine Lp_nil ?_
  have hL' := cutL_length L (r1, r2)
  generalize decide ((cutL L (r1, r2)).length < L.length) = was
  generalize cutL L (r1, r2) = M at H hL'
  obtain ⟨a, c, H⟩ := PS_out H
  repeat refine C_seq ?_
  refine C_block ?_
  refine C_loop (fun ms σ w n => ms = [] ∧ ∃ (i : Nat) (g : Value) (s : List Pr × Bool), putS (r1, r2) t (M.take i) = s ∧ i ≤ M.length ∧ n = M.length - i ∧ σ 0 = pp q ∧ σ 2 = .int .i64 t ∧ σ 4 = pp b4 ∧ σ 7 = .bool was ∧ σ 8 = g ∧ σ 9 = .bool s.2 ∧ σ 10 = .int .i64 i ∧
    Holds w (PL g s.1 :: pts q (row 39 [.slice a M.length c]) :: PL (.slice a M.length c) M :: pts b4 (row 24 [.int .i64 r1, .int .i64 r2]) :: fr)) (m := M.length) ⟨rfl, 0, _, ([], false), rfl, by omega, rfl, rfl, rfl, rfl, rfl, rfl, rfl, rfl, sls_nil H⟩ ?_
  clear H
  rintro ms σ w n ⟨rfl, i, g, s, hs, hi, rfl, h0, h2, h4, h7, h8, h9, h10, H⟩
  rw [upd_self h0, upd_self h2, upd_self h4, upd_self h7, upd_self h8, upd_self h9, upd_self h10]
  have hsl := putS_length (r1, r2) t (M.take i)
  rw [hs, List.length_take] at hsl
  obtain ⟨G, dn⟩ := s
  dsimp only at H hsl
  show C _ _ _ _ _ _ (upd _ _ _) _
  repeat refine C_seq ?_
  refine C_region ?_
  first | refine Lp_pv rfl rfl ?_ | refine Lp_mv rfl rfl ?_
  first | refine Lp_pv rfl rfl ?_ | refine Lp_mv rfl rfl ?_
  refine Lp_pv rfl rfl ?_
  refine Lp_s rfl (St_fieldAddr rfl rfl ?_)
  first | refine Lp_s rfl (St_load1 H rfl rfl rfl ?_) | refine Lp_s rfl (St_loadN H rfl (by repeat (first | exact Reads.nil _ | apply Reads.cons rfl)) rfl ?_)
  refine Lp_s rfl (St_lenSlice rfl rfl ?_)
  refine Lp_pv rfl rfl ?_
  refine Lp_nil ?_
  repeat refine C_seq ?_
  refine C_dec rfl (fun h => C_skip ?_) (fun h => C_exit ?_)
  · have hlt : i < M.length := by omega
    have ha := List.getElem?_eq_getElem hlt
    generalize M[i] = x at ha
    have hp := putS_take (r := (r1, r2)) (t := t) ha
    rw [hs] at hp
    obtain ⟨⟨x1, x2⟩, xt⟩ := x
    replace H := Holds.sel [2, 0, 0, 0] 0 H; dsimp only [SL.sel, SL.pull, List.drop] at H
    obtain ⟨bo, so, rfl, H, hclose⟩ := sls_open H (by omega)
    repeat refine C_seq ?_
    refine C_block ?_
    repeat refine C_seq ?_
    refine C_drawH H mixed ?_
    clear H; intro w H
    first | refine A_load1 0 [9] H rfl (Wants.none rfl) rfl rfl (by kernel_rfl) ?_ | refine A_loadN 0 [9] H rfl (Wants.none rfl) rfl (by repeat (first | exact Reads.nil _ | apply Reads.cons rfl)) (by kernel_rfl) ?_
    refine A_pv 1 rfl (Wants.none rfl) rfl (by kernel_rfl) ?_
    refine A_pv 2 rfl (Wants.none rfl) rfl (by kernel_rfl) ?_
    refine A_fieldAddr 3 rfl (Wants.none rfl) rfl (by kernel_rfl) ?_
    first | refine A_load1 4 [9] H rfl (Wants.none rfl) rfl rfl (by kernel_rfl) ?_ | refine A_loadN 4 [9] H rfl (Wants.none rfl) rfl (by repeat (first | exact Reads.nil _ | apply Reads.cons rfl)) (by kernel_rfl) ?_
    refine A_pv 5 rfl (Wants.none rfl) rfl (by kernel_rfl) ?_
    refine A_indexAddr 6 rfl (Wants.none rfl) rfl rfl (by omega) (by omega) (by kernel_rfl) ?_
    refine A_fieldAddr 7 rfl (Wants.none rfl) rfl (by kernel_rfl) ?_
    refine A_loadN 8 [9] H rfl (Wants.none rfl) rfl (pcells_key ha) (by kernel_rfl) ?_
    refine A_one 9 rfl (by kernel_rfl) (by repeat (first | exact InvL.nil | refine InvL.cons (.inr (Holds.at H)) ?_ | refine InvL.cons (.inr (Holds.mp H)) ?_ | refine InvL.cons (.inl (by kernel_rfl)) ?_)) (Wants.none rfl) (St_call (a := []) (b := []) rfl rfl (call (ahead_spec (r1, r2) (x1, x2) H) ?_))
    clear H; rintro v w ⟨rfl, H⟩
    refine A_pv 10 rfl (Wants.none rfl) rfl (by kernel_rfl) ?_
    refine A_end (by kernel_rfl) (by repeat (first | exact InvL.nil | refine InvL.cons (.inr (Holds.at H)) ?_ | refine InvL.cons (.inr (Holds.mp H)) ?_ | refine InvL.cons (.inl (by kernel_rfl)) ?_)) ?_
    unfold putStep at hp
    dsimp only at hp
    cases hah : aheadB (r1, r2) (x1, x2) <;> cases dn
    · rw [hah] at hp
      repeat refine C_seq ?_
      refine C_region ?_
      first | refine Lp_pv rfl rfl ?_ | refine Lp_mv rfl rfl ?_
      first | refine Lp_pv rfl rfl ?_ | refine Lp_mv rfl rfl ?_
      first | refine Lp_gpv rfl rfl rfl rfl ?_ | refine Lp_no rfl rfl rfl ?_ | refine Lp_nn rfl rfl ?_
      first | refine Lp_gpv rfl rfl rfl rfl ?_ | refine Lp_no rfl rfl rfl ?_ | refine Lp_nn rfl rfl ?_
      refine Lp_pv rfl rfl ?_
      refine Lp_nil ?_
      repeat refine C_seq ?_
      refine C_false rfl (C_skip ?_)
      repeat refine C_seq ?_
      refine C_region ?_
      first | refine Lp_pv rfl rfl ?_ | refine Lp_mv rfl rfl ?_
      first | refine Lp_pv rfl rfl ?_ | refine Lp_mv rfl rfl ?_
      refine Lp_pv rfl rfl ?_
      refine Lp_s rfl (St_fieldAddr rfl rfl ?_)
      first | refine Lp_s rfl (St_load1 H rfl rfl rfl ?_) | refine Lp_s rfl (St_loadN H rfl (by repeat (first | exact Reads.nil _ | apply Reads.cons rfl)) rfl ?_)
      first | refine Lp_pv rfl rfl ?_ | refine Lp_mv rfl rfl ?_
      refine Lp_s rfl (St_indexAddr rfl rfl (by omega) (by omega) rfl ?_)
      refine Lp_s rfl (St_loadN H rfl (pcells_reads ha) rfl ?_)
      (refine Lp_s rfl (St_buildSlice H rfl rfl rfl ?_); clear H; intro b53 w H)
      replace H := Holds.sel [1, 0, 0, 0, 0] 0 H; dsimp only [SL.sel, SL.pull, List.drop] at H
      replace H := hclose _ _ H
      replace H := Holds.sel [2, 1, 1, 0, 0] 0 H; dsimp only [SL.sel, SL.pull, List.drop] at H
      refine Lp_s rfl (St_append H rfl rfl (by repeat (first | exact Reads.nil _ | apply Reads.cons rfl)) rfl (by decide) (by simp only [pcells_length, List.length_append, List.length_cons, List.length_nil]; omega) rfl rfl ?_); clear H; intro v54 w H
      first | refine Lp_pv rfl rfl ?_ | refine Lp_mv rfl rfl ?_
      refine Lp_nil ?_
      repeat refine C_seq ?_
      refine C_region ?_
      first | refine Lp_pv rfl rfl ?_ | refine Lp_mv rfl rfl ?_
      refine Lp_pv rfl rfl ?_
      first | refine Lp_pv rfl rfl ?_ | refine Lp_mv rfl rfl ?_
      refine Lp_nil ?_
      replace H := Holds.sel [0, 1, 1, 1] 1 H; dsimp only [SL.sel, SL.pull, List.drop] at H
      rw [pcells_one, ← pcells_append] at H
      exact ⟨_, ⟨rfl, i + 1, v54, (G ++ [((x1, x2), xt)], false), by simpa using hp, hlt, rfl, rfl, rfl, rfl, rfl, rfl, rfl, inc64 (by omega), H⟩, by omega⟩
    · rw [hah] at hp
      repeat refine C_seq ?_
      refine C_region ?_
      first | refine Lp_pv rfl rfl ?_ | refine Lp_mv rfl rfl ?_
      first | refine Lp_pv rfl rfl ?_ | refine Lp_mv rfl rfl ?_
      first | refine Lp_gpv rfl rfl rfl rfl ?_ | refine Lp_no rfl rfl rfl ?_ | refine Lp_nn rfl rfl ?_
      first | refine Lp_gpv rfl rfl rfl rfl ?_ | refine Lp_no rfl rfl rfl ?_ | refine Lp_nn rfl rfl ?_
      refine Lp_pv rfl rfl ?_
      refine Lp_nil ?_
      repeat refine C_seq ?_
      refine C_false rfl (C_skip ?_)
      repeat refine C_seq ?_
      refine C_region ?_
      first | refine Lp_pv rfl rfl ?_ | refine Lp_mv rfl rfl ?_
      first | refine Lp_pv rfl rfl ?_ | refine Lp_mv rfl rfl ?_
      refine Lp_pv rfl rfl ?_
      refine Lp_s rfl (St_fieldAddr rfl rfl ?_)
      first | refine Lp_s rfl (St_load1 H rfl rfl rfl ?_) | refine Lp_s rfl (St_loadN H rfl (by repeat (first | exact Reads.nil _ | apply Reads.cons rfl)) rfl ?_)
      first | refine Lp_pv rfl rfl ?_ | refine Lp_mv rfl rfl ?_
      refine Lp_s rfl (St_indexAddr rfl rfl (by omega) (by omega) rfl ?_)
      refine Lp_s rfl (St_loadN H rfl (pcells_reads ha) rfl ?_)
      (refine Lp_s rfl (St_buildSlice H rfl rfl rfl ?_); clear H; intro b53 w H)
      replace H := Holds.sel [1, 0, 0, 0, 0] 0 H; dsimp only [SL.sel, SL.pull, List.drop] at H
      replace H := hclose _ _ H
      replace H := Holds.sel [2, 1, 1, 0, 0] 0 H; dsimp only [SL.sel, SL.pull, List.drop] at H
      refine Lp_s rfl (St_append H rfl rfl (by repeat (first | exact Reads.nil _ | apply Reads.cons rfl)) rfl (by decide) (by simp only [pcells_length, List.length_append, List.length_cons, List.length_nil]; omega) rfl rfl ?_); clear H; intro v54 w H
      first | refine Lp_pv rfl rfl ?_ | refine Lp_mv rfl rfl ?_
      refine Lp_nil ?_
      repeat refine C_seq ?_
      refine C_region ?_
      first | refine Lp_pv rfl rfl ?_ | refine Lp_mv rfl rfl ?_
      refine Lp_pv rfl rfl ?_
      first | refine Lp_pv rfl rfl ?_ | refine Lp_mv rfl rfl ?_
      refine Lp_nil ?_
      replace H := Holds.sel [0, 1, 1, 1] 1 H; dsimp only [SL.sel, SL.pull, List.drop] at H
      rw [pcells_one, ← pcells_append] at H
      exact ⟨_, ⟨rfl, i + 1, v54, (G ++ [((x1, x2), xt)], true), by simpa using hp, hlt, rfl, rfl, rfl, rfl, rfl, rfl, rfl, inc64 (by omega), H⟩, by omega⟩
    · rw [hah] at hp
      repeat refine C_seq ?_
      refine C_region ?_
      first | refine Lp_pv rfl rfl ?_ | refine Lp_mv rfl rfl ?_
      first | refine Lp_pv rfl rfl ?_ | refine Lp_mv rfl rfl ?_
      first | refine Lp_gpv rfl rfl rfl rfl ?_ | refine Lp_no rfl rfl rfl ?_ | refine Lp_nn rfl rfl ?_
      first | refine Lp_gpv rfl rfl rfl rfl ?_ | refine Lp_no rfl rfl rfl ?_ | refine Lp_nn rfl rfl ?_
      refine Lp_pv rfl rfl ?_
      refine Lp_nil ?_
      repeat refine C_seq ?_
      refine C_true rfl ?_
      repeat refine C_seq ?_
      refine C_region ?_
      first | refine Lp_pv rfl rfl ?_ | refine Lp_mv rfl rfl ?_
      first | refine Lp_s rfl (St_load1 H rfl rfl rfl ?_) | refine Lp_s rfl (St_loadN H rfl (by repeat (first | exact Reads.nil _ | apply Reads.cons rfl)) rfl ?_)
      first | refine Lp_pv rfl rfl ?_ | refine Lp_mv rfl rfl ?_
      refine Lp_s rfl (St_build rfl rfl ?_)
      (refine Lp_s rfl (St_buildSlice H rfl rfl rfl ?_); clear H; intro b43 w H)
      replace H := Holds.sel [2, 0, 0, 0, 0] 0 H; dsimp only [SL.sel, SL.pull, List.drop] at H
      refine Lp_s rfl (St_append H rfl rfl (by repeat (first | exact Reads.nil _ | apply Reads.cons rfl)) rfl (by decide) (by simp only [pcells_length, List.length_cons, List.length_nil]; omega) rfl rfl ?_); clear H; intro v44 w H
      first | refine Lp_pv rfl rfl ?_ | refine Lp_mv rfl rfl ?_
      refine Lp_nil ?_
      repeat refine C_seq ?_
      refine C_region ?_
      first | refine Lp_pv rfl rfl ?_ | refine Lp_mv rfl rfl ?_
      refine Lp_nil ?_
      replace H := Holds.sel [2, 0, 1, 1] 1 H; dsimp only [SL.sel, SL.pull, List.drop] at H
      rw [pcells_one, ← pcells_append] at H
      repeat refine C_seq ?_
      refine C_region ?_
      first | refine Lp_pv rfl rfl ?_ | refine Lp_mv rfl rfl ?_
      first | refine Lp_pv rfl rfl ?_ | refine Lp_mv rfl rfl ?_
      refine Lp_pv rfl rfl ?_
      refine Lp_s rfl (St_fieldAddr rfl rfl ?_)
      first | refine Lp_s rfl (St_load1 H rfl rfl rfl ?_) | refine Lp_s rfl (St_loadN H rfl (by repeat (first | exact Reads.nil _ | apply Reads.cons rfl)) rfl ?_)
      first | refine Lp_pv rfl rfl ?_ | refine Lp_mv rfl rfl ?_
      refine Lp_s rfl (St_indexAddr rfl rfl (by omega) (by omega) rfl ?_)
      refine Lp_s rfl (St_loadN H rfl (pcells_reads ha) rfl ?_)
      (refine Lp_s rfl (St_buildSlice H rfl rfl rfl ?_); clear H; intro b53 w H)
      replace H := Holds.sel [1, 0, 0, 0, 0] 0 H; dsimp only [SL.sel, SL.pull, List.drop] at H
      replace H := hclose _ _ H
      replace H := Holds.sel [2, 1, 1, 0, 0] 0 H; dsimp only [SL.sel, SL.pull, List.drop] at H
      refine Lp_s rfl (St_append H rfl rfl (by repeat (first | exact Reads.nil _ | apply Reads.cons rfl)) rfl (by decide) (by simp only [pcells_length, List.length_append, List.length_cons, List.length_nil]; omega) rfl rfl ?_); clear H; intro v54 w H
      first | refine Lp_pv rfl rfl ?_ | refine Lp_mv rfl rfl ?_
      refine Lp_nil ?_
      repeat refine C_seq ?_
      refine C_region ?_
      first | refine Lp_pv rfl rfl ?_ | refine Lp_mv rfl rfl ?_
      refine Lp_pv rfl rfl ?_
      first | refine Lp_pv rfl rfl ?_ | refine Lp_mv rfl rfl ?_
      refine Lp_nil ?_
      replace H := Holds.sel [0, 1, 1, 1] 1 H; dsimp only [SL.sel, SL.pull, List.drop] at H
      rw [pcells_one, ← pcells_append] at H
      exact ⟨_, ⟨rfl, i + 1, v54, (G ++ [((r1, r2), t)] ++ [((x1, x2), xt)], true), by simpa using hp, hlt, rfl, rfl, rfl, rfl, rfl, rfl, rfl, inc64 (by omega), H⟩, by omega⟩
    · rw [hah] at hp
      repeat refine C_seq ?_
      refine C_region ?_
      first | refine Lp_pv rfl rfl ?_ | refine Lp_mv rfl rfl ?_
      first | refine Lp_pv rfl rfl ?_ | refine Lp_mv rfl rfl ?_
      first | refine Lp_gpv rfl rfl rfl rfl ?_ | refine Lp_no rfl rfl rfl ?_ | refine Lp_nn rfl rfl ?_
      first | refine Lp_gpv rfl rfl rfl rfl ?_ | refine Lp_no rfl rfl rfl ?_ | refine Lp_nn rfl rfl ?_
      refine Lp_pv rfl rfl ?_
      refine Lp_nil ?_
      repeat refine C_seq ?_
      refine C_false rfl (C_skip ?_)
      repeat refine C_seq ?_
      refine C_region ?_
      first | refine Lp_pv rfl rfl ?_ | refine Lp_mv rfl rfl ?_
      first | refine Lp_pv rfl rfl ?_ | refine Lp_mv rfl rfl ?_
      refine Lp_pv rfl rfl ?_
      refine Lp_s rfl (St_fieldAddr rfl rfl ?_)
      first | refine Lp_s rfl (St_load1 H rfl rfl rfl ?_) | refine Lp_s rfl (St_loadN H rfl (by repeat (first | exact Reads.nil _ | apply Reads.cons rfl)) rfl ?_)
      first | refine Lp_pv rfl rfl ?_ | refine Lp_mv rfl rfl ?_
      refine Lp_s rfl (St_indexAddr rfl rfl (by omega) (by omega) rfl ?_)
      refine Lp_s rfl (St_loadN H rfl (pcells_reads ha) rfl ?_)
      (refine Lp_s rfl (St_buildSlice H rfl rfl rfl ?_); clear H; intro b53 w H)
      replace H := Holds.sel [1, 0, 0, 0, 0] 0 H; dsimp only [SL.sel, SL.pull, List.drop] at H
      replace H := hclose _ _ H
      replace H := Holds.sel [2, 1, 1, 0, 0] 0 H; dsimp only [SL.sel, SL.pull, List.drop] at H
      refine Lp_s rfl (St_append H rfl rfl (by repeat (first | exact Reads.nil _ | apply Reads.cons rfl)) rfl (by decide) (by simp only [pcells_length, List.length_append, List.length_cons, List.length_nil]; omega) rfl rfl ?_); clear H; intro v54 w H
      first | refine Lp_pv rfl rfl ?_ | refine Lp_mv rfl rfl ?_
      refine Lp_nil ?_
      repeat refine C_seq ?_
      refine C_region ?_
      first | refine Lp_pv rfl rfl ?_ | refine Lp_mv rfl rfl ?_
      refine Lp_pv rfl rfl ?_
      first | refine Lp_pv rfl rfl ?_ | refine Lp_mv rfl rfl ?_
      refine Lp_nil ?_
      replace H := Holds.sel [0, 1, 1, 1] 1 H; dsimp only [SL.sel, SL.pull, List.drop] at H
      rw [pcells_one, ← pcells_append] at H
      exact ⟨_, ⟨rfl, i + 1, v54, (G ++ [((x1, x2), xt)], true), by simpa using hp, hlt, rfl, rfl, rfl, rfl, rfl, rfl, rfl, inc64 (by omega), H⟩, by omega⟩
  · have hge : i = M.length := by omega
    subst hge
    rw [List.take_length] at hs
    repeat refine C_seq ?_
    refine C_region ?_
    first | refine Lp_pv rfl rfl ?_ | refine Lp_mv rfl rfl ?_
    refine Lp_pv rfl rfl ?_
    refine Lp_nil ?_
    cases dn
    · repeat refine C_seq ?_
      refine C_true rfl ?_
      repeat refine C_seq ?_
      refine C_region ?_
      first | refine Lp_pv rfl rfl ?_ | refine Lp_mv rfl rfl ?_
      first | refine Lp_s rfl (St_load1 H rfl rfl rfl ?_) | refine Lp_s rfl (St_loadN H rfl (by repeat (first | exact Reads.nil _ | apply Reads.cons rfl)) rfl ?_)
      first | refine Lp_pv rfl rfl ?_ | refine Lp_mv rfl rfl ?_
      refine Lp_s rfl (St_build rfl rfl ?_)
      (refine Lp_s rfl (St_buildSlice H rfl rfl rfl ?_); clear H; intro b61 w H)
      replace H := Holds.sel [1, 0, 0, 1] 1 H; dsimp only [SL.sel, SL.pull, List.drop] at H
      refine Lp_s rfl (St_append H rfl rfl (by repeat (first | exact Reads.nil _ | apply Reads.cons rfl)) rfl (by decide) (by simp only [pcells_length, List.length_cons, List.length_nil]; omega) rfl rfl ?_); clear H; intro v62 w H
      first | refine Lp_pv rfl rfl ?_ | refine Lp_mv rfl rfl ?_
      refine Lp_nil ?_
      rw [pcells_one, ← pcells_append] at H
      have hpl : putL (r1, r2) t M = G ++ [((r1, r2), t)] := by
        unfold putL
        rw [hs]
        rfl
      rw [← hpl] at H
      obtain ⟨ag, cg, rfl⟩ := sls_slice H (pcells_length _) (by decide)
      repeat refine C_seq ?_
      refine C_region ?_
      first | refine Lp_pv rfl rfl ?_ | refine Lp_mv rfl rfl ?_
      first | refine Lp_pv rfl rfl ?_ | refine Lp_mv rfl rfl ?_
      refine Lp_pv rfl rfl ?_
      refine Lp_s rfl (St_fieldAddr rfl rfl ?_)
      first | (refine Lp_s rfl (St_store1 H rfl rfl inferInstance rfl (Nat.le_of_ble_eq_true rfl) rfl ?_); clear H; intro w H) | (refine Lp_s rfl (St_storeN H rfl rfl inferInstance rfl rfl (Nat.le_of_ble_eq_true rfl) rfl ?_); clear H; intro w H)
      refine Lp_nil ?_
      repeat refine C_seq ?_
      refine C_region ?_
      first | refine Lp_pv rfl rfl ?_ | refine Lp_mv rfl rfl ?_
      refine Lp_pv rfl rfl ?_
      first | refine Lp_pv rfl rfl ?_ | refine Lp_mv rfl rfl ?_
      refine Lp_nil ?_
      replace H := Holds.sel [2, 0] 2 H; dsimp only [SL.sel, SL.pull, List.drop] at H
      exact C_ret (fn_end0 _ (.inr rfl) (PS_in H) rfl fun w' H' => ⟨rfl, H'⟩)
    · repeat refine C_seq ?_
      refine C_false rfl (C_skip ?_)
      have hpl : putL (r1, r2) t M = G := by
        unfold putL
        rw [hs]
        rfl
      rw [← hpl] at H
      obtain ⟨ag, cg, rfl⟩ := sls_slice H (pcells_length _) (by decide)
      repeat refine C_seq ?_
      refine C_region ?_
      first | refine Lp_pv rfl rfl ?_ | refine Lp_mv rfl rfl ?_
      first | refine Lp_pv rfl rfl ?_ | refine Lp_mv rfl rfl ?_
      refine Lp_pv rfl rfl ?_
      refine Lp_s rfl (St_fieldAddr rfl rfl ?_)
      first | (refine Lp_s rfl (St_store1 H rfl rfl inferInstance rfl (Nat.le_of_ble_eq_true rfl) rfl ?_); clear H; intro w H) | (refine Lp_s rfl (St_storeN H rfl rfl inferInstance rfl rfl (Nat.le_of_ble_eq_true rfl) rfl ?_); clear H; intro w H)
      refine Lp_nil ?_
      repeat refine C_seq ?_
      refine C_region ?_
      first | refine Lp_pv rfl rfl ?_ | refine Lp_mv rfl rfl ?_
      refine Lp_pv rfl rfl ?_
      first | refine Lp_pv rfl rfl ?_ | refine Lp_mv rfl rfl ?_
      refine Lp_nil ?_
      replace H := Holds.sel [1, 0] 2 H; dsimp only [SL.sel, SL.pull, List.drop] at H
      exact C_ret (fn_end0 _ (.inr rfl) (PS_in H) rfl fun w' H' => ⟨rfl, H'⟩)

theorem forget_spec [Extra] (q : Nat) (L : List Pr) (hL : L.length ≤ 999999) (s : Int) {w : World} {fr : List HProp} (H : Holds w (PS q L :: fr)) :
    Calls Try.prog 19 #[pp q, .int .i64 s] w (ret fun v w' => v = .int .i64 (fromL L s).length ∧ Holds w' (PS q ((fromL L s).foldl cutL L) :: fr)) := by
  refine calls_of Try.func19 rfl (by kernel_rfl) ?_
  repeat refine C_seq ?_
  refine C_region ?_
  first | refine Lp_pv rfl rfl ?_ | refine Lp_mv rfl rfl ?_
  refine Lp_nil ?_
  repeat refine C_seq ?_
  refine C_region ?_
  first | refine Lp_pv rfl rfl ?_ | refine Lp_mv rfl rfl ?_
  first | refine Lp_pv rfl rfl ?_ | refine Lp_mv rfl rfl ?_
  refine Lp_s rfl (St_call (a := []) (b := []) rfl rfl (call (rFrom_spec q L (by omega) s H) ?_))
  clear H
  rintro v w H
  obtain ⟨a, c, rfl⟩ := sls_slice H (rcells_length _) (by decide)
  have hkl : (fromL L s).length ≤ L.length := by
    unfold fromL
    rw [List.length_map]
    exact List.length_filter_le _ _
  generalize fromL L s = ks at H hkl
  first | refine Lp_pv rfl rfl ?_ | refine Lp_mv rfl rfl ?_
  refine Lp_nil ?_
  repeat refine C_seq ?_
  refine C_region ?_
  first | refine Lp_pv rfl rfl ?_ | refine Lp_mv rfl rfl ?_
  refine Lp_s rfl (St_lenSlice rfl rfl ?_)
  first | refine Lp_pv rfl rfl ?_ | refine Lp_mv rfl rfl ?_
  refine Lp_nil ?_
  repeat refine C_seq ?_
  refine C_block ?_
  refine C_loop (fun ms σ w n => ms = [] ∧ ∃ i : Nat, i ≤ ks.length ∧ n = ks.length - i ∧ σ 0 = pp q ∧ σ 5 = .slice a ks.length c ∧ σ 11 = .slice a ks.length c ∧ σ 12 = .int .i64 ks.length ∧ σ 13 = .int .i64 i ∧
    Holds w (SR (.slice a ks.length c) ks :: PS q ((ks.take i).foldl cutL L) :: fr)) (m := ks.length) ⟨rfl, 0, by omega, rfl, rfl, rfl, rfl, rfl, rfl, H⟩ ?_
  clear H
  rintro ms σ w n ⟨rfl, i, hi, rfl, h0, h5, h11, h12, h13, H⟩
  rw [upd_self h0, upd_self h5, upd_self h11, upd_self h12, upd_self h13]
  repeat refine C_seq ?_
  refine C_region ?_
  refine Lp_pv rfl rfl ?_
  refine Lp_nil ?_
  repeat refine C_seq ?_
  refine C_dec rfl (fun h => C_skip ?_) (fun h => C_exit ?_)
  · have hlt : i < ks.length := by omega
    have ha := List.getElem?_eq_getElem hlt
    generalize ks[i] = x at ha
    obtain ⟨x1, x2⟩ := x
    have hcl : ∀ (k : List Rf) (M : List Pr), (k.foldl cutL M).length ≤ M.length := by
      intro k
      induction k with
      | nil => intro M; exact Nat.le_refl _
      | cons y k ih => intro M; exact Nat.le_trans (ih _) (cutL_length _ _)
    have hc := hcl (ks.take i) L
    have ht : (ks.take (i + 1)).foldl cutL L = cutL ((ks.take i).foldl cutL L) (x1, x2) := by
      rw [List.take_add_one, ha, List.foldl_append]
      rfl
    obtain ⟨bo, so, rfl, H, hclose⟩ := sls_open H (by omega)
    repeat refine C_seq ?_
    refine C_block ?_
    repeat refine C_seq ?_
    refine C_region ?_
    refine Lp_s rfl (St_indexAddr rfl rfl (by omega) (by omega) rfl ?_)
    refine Lp_s rfl (St_loadN H rfl (rcells_reads ha) rfl ?_)
    (refine Lp_s rfl (St_alloc H rfl ?_); clear H; intro b7 w H)
    first | (refine Lp_s rfl (St_store1 H rfl rfl inferInstance rfl (Nat.le_of_ble_eq_true rfl) rfl ?_); clear H; intro w H) | (refine Lp_s rfl (St_storeN H rfl rfl inferInstance rfl rfl (Nat.le_of_ble_eq_true rfl) rfl ?_); clear H; intro w H)
    refine Lp_nil ?_
    repeat refine C_seq ?_
    refine C_region ?_
    first | refine Lp_pv rfl rfl ?_ | refine Lp_mv rfl rfl ?_
    first | refine Lp_s rfl (St_load1 H rfl rfl rfl ?_) | refine Lp_s rfl (St_loadN H rfl (by repeat (first | exact Reads.nil _ | apply Reads.cons rfl)) rfl ?_)
    replace H := Holds.sel [2, 1] 1 H; dsimp only [SL.sel, SL.pull, List.drop] at H
    refine Lp_s rfl (St_call (a := []) (b := []) rfl rfl (call (rCut_spec q _ (by omega) (x1, x2) H) ?_))
    clear H; rintro v w ⟨rfl, H⟩
    refine Lp_nil ?_
    repeat refine C_seq ?_
    refine C_region ?_
    refine Lp_pv rfl rfl ?_
    first | refine Lp_pv rfl rfl ?_ | refine Lp_mv rfl rfl ?_
    refine Lp_nil ?_
    replace H := (hclose _ _ H.swap)
    rw [← ht] at H
    exact ⟨_, ⟨rfl, i + 1, hlt, rfl, rfl, rfl, rfl, rfl, inc64 (by omega), H⟩, by omega⟩
  · have hge : i = ks.length := by omega
    subst hge
    rw [List.take_length] at H
    repeat refine C_seq ?_
    refine C_region ?_
    first | refine Lp_pv rfl rfl ?_ | refine Lp_mv rfl rfl ?_
    refine Lp_s rfl (St_lenSlice rfl rfl ?_)
    first | refine Lp_pv rfl rfl ?_ | refine Lp_mv rfl rfl ?_
    refine Lp_nil ?_
    exact C_ret (fn_end0 _ (.inr rfl) H.drop rfl fun w' H' => ⟨rfl, H'⟩)
end Go.Proofs.Ytdpephigccnkdaa
