/- RemsetMoves: the walk. No condition. -/
import Derived.Test.YtdpephigccnkdaaRemH
set_option linter.unusedVariables false
set_option linter.unusedSimpArgs false
set_option linter.unusedSectionVars false
namespace Go.Proofs.Ytdpephigccnkdaa
open Go.SL

set_option maxHeartbeats 4000000 in
theorem Moves_walk (W : World) (v : Value) (l : List Act) (hl : AL W v l) (r : Rf) (to : Int) {w : World} [Extra] (H : Holds w [old W]) :
    Calls Try.prog 5 #[v, rf r, .int .i64 to] w (ret fun x w' => x = .bool true ∧ Holds w' [old W]) := by
  obtain ⟨ad, cap, rfl⟩ := hl.slice
  obtain ⟨q1, q2⟩ := r
  refine calls_of Try.func5 rfl (by kernel_rfl) ?_
  repeat refine C_seq ?_
  refine C_region ?_
  first | (refine Lp_s rfl (St_boxN H rfl rfl ?_); clear H; intro b4 w H) | (refine Lp_s rfl (St_box1 H rfl rfl rfl ?_); clear H; intro b4 w H)
  first | refine Lp_pv rfl rfl ?_ | refine Lp_mv rfl rfl ?_
  refine Lp_nil ?_
  repeat refine C_seq ?_
  refine C_region ?_
  first | refine Lp_pv rfl rfl ?_ | refine Lp_mv rfl rfl ?_
  replace H : Holds w [old W, pts b4 (row 24 [.int .i64 q1, .int .i64 q2])] := H.swap
  refine Lp_s rfl (St_call (a := []) (b := []) rfl rfl (call (grown_spec W _ l hl H) ?_))
  rintro x w (⟨h100, rfl, H⟩ | ⟨h100, p, rfl, H⟩)
  · first | refine Lp_pv rfl rfl ?_ | refine Lp_mv rfl rfl ?_
    refine Lp_nil ?_
    repeat refine C_seq ?_
    refine C_region ?_
    refine Lp_s rfl (St_call (a := []) (b := []) rfl rfl (call (alive_spec H) ?_))
    clear H; rintro v w ⟨rfl, H⟩
    refine Lp_pv rfl rfl ?_
    first | refine Lp_pv rfl rfl ?_ | refine Lp_mv rfl rfl ?_
    first | refine Lp_gpv rfl rfl rfl rfl ?_ | refine Lp_no rfl rfl rfl ?_ | refine Lp_nn rfl rfl ?_
    first | refine Lp_gpv rfl rfl rfl rfl ?_ | refine Lp_g rfl rfl rfl (St_eqPtrNil rfl rfl (.inl rfl) rfl ?_) | refine Lp_g rfl rfl rfl (St_eqMapNil rfl rfl (.inl rfl) rfl ?_) | refine Lp_g rfl rfl rfl (St_eqPair rfl rfl (.inl rfl) rfl ?_) | refine Lp_g rfl rfl rfl (St_eqBool rfl rfl (.inl rfl) rfl ?_) | refine Lp_g rfl rfl rfl (St_eqStr rfl rfl (.inl rfl) rfl ?_) | refine Lp_no rfl rfl rfl ?_ | refine Lp_nn rfl rfl ?_
    refine Lp_pv rfl rfl ?_
    refine Lp_nil ?_
    repeat refine C_seq ?_
    refine C_true rfl ?_
    repeat refine C_seq ?_
    refine C_region ?_
    refine Lp_s rfl (St_call (a := []) (b := []) rfl rfl (call (alive_spec H) ?_))
    clear H; rintro v w ⟨rfl, H⟩
    first | refine Lp_pv rfl rfl ?_ | refine Lp_mv rfl rfl ?_
    first | refine Lp_gpv rfl rfl rfl rfl ?_ | refine Lp_no rfl rfl rfl ?_ | refine Lp_nn rfl rfl ?_
    first | refine Lp_g rfl rfl rfl (St_lenSlice rfl rfl ?_) | refine Lp_no rfl rfl rfl ?_ | refine Lp_nn rfl rfl ?_
    first | refine Lp_gpv rfl rfl rfl rfl ?_ | refine Lp_no rfl rfl rfl ?_ | refine Lp_nn rfl rfl ?_
    refine Lp_pv rfl rfl ?_
    first | refine Lp_pv rfl rfl ?_ | refine Lp_mv rfl rfl ?_
    refine Lp_nil ?_
    replace H := Holds.sel [0] 1 H; dsimp only [SL.sel, SL.pull, List.drop] at H
    refine C_ret (fn_end0 _ (.inr rfl) H rfl fun w' H' => ⟨?_, H'⟩)
    show Value.bool (decide ((l.length : Int) > 100)) = _
    simp; omega
  · have hnd := nodup_grown l
    have hml : (grownM l).length ≤ 100 := Nat.le_trans (length_grown l) h100
    generalize grownM l = m at H hnd hml
    first | refine Lp_pv rfl rfl ?_ | refine Lp_mv rfl rfl ?_
    refine Lp_nil ?_
    repeat refine C_seq ?_
    refine C_region ?_
    refine Lp_s rfl (St_call (a := []) (b := []) rfl rfl (call (alive_spec H) ?_))
    clear H; rintro v w ⟨rfl, H⟩
    refine Lp_pv rfl rfl ?_
    first | refine Lp_pv rfl rfl ?_ | refine Lp_mv rfl rfl ?_
    first | refine Lp_gpv rfl rfl rfl rfl ?_ | refine Lp_no rfl rfl rfl ?_ | refine Lp_nn rfl rfl ?_
    first | refine Lp_gpv rfl rfl rfl rfl ?_ | refine Lp_g rfl rfl rfl (St_eqPtrNil rfl rfl (.inl rfl) rfl ?_) | refine Lp_g rfl rfl rfl (St_eqMapNil rfl rfl (.inl rfl) rfl ?_) | refine Lp_g rfl rfl rfl (St_eqPair rfl rfl (.inl rfl) rfl ?_) | refine Lp_g rfl rfl rfl (St_eqBool rfl rfl (.inl rfl) rfl ?_) | refine Lp_g rfl rfl rfl (St_eqStr rfl rfl (.inl rfl) rfl ?_) | refine Lp_no rfl rfl rfl ?_ | refine Lp_nn rfl rfl ?_
    refine Lp_pv rfl rfl ?_
    refine Lp_nil ?_
    repeat refine C_seq ?_
    refine C_false rfl (C_skip ?_)
    repeat refine C_seq ?_
    refine C_region ?_
    first | refine Lp_pv rfl rfl ?_ | refine Lp_mv rfl rfl ?_
    first | refine Lp_s rfl (St_load1 H rfl rfl rfl ?_) | refine Lp_s rfl (St_loadN H rfl (by repeat (first | exact Reads.nil _ | apply Reads.cons rfl)) rfl ?_)
    refine Lp_s rfl (St_call (a := []) (b := []) rfl rfl (call (To2_spec p m (q1, q2) H) ?_))
    clear H; rintro v w ⟨rfl, H⟩
    first | refine Lp_pv rfl rfl ?_ | refine Lp_mv rfl rfl ?_
    refine Lp_pv rfl rfl ?_
    refine Lp_pv rfl rfl ?_
    first | refine Lp_pv rfl rfl ?_ | refine Lp_mv rfl rfl ?_
    first | refine Lp_pv rfl rfl ?_ | refine Lp_mv rfl rfl ?_
    refine Lp_nil ?_
    repeat refine C_seq ?_
    refine C_region ?_
    first | refine Lp_pv rfl rfl ?_ | refine Lp_mv rfl rfl ?_
    refine Lp_s rfl (St_call (a := []) (b := []) rfl rfl (call (Len_spec p m H) ?_))
    clear H; rintro v w ⟨rfl, H⟩
    first | refine Lp_pv rfl rfl ?_ | refine Lp_mv rfl rfl ?_
    refine Lp_nil ?_
    repeat refine C_seq ?_
    refine C_region ?_
    first | refine Lp_pv rfl rfl ?_ | refine Lp_mv rfl rfl ?_
    refine Lp_nil ?_
    repeat refine C_seq ?_
    refine C_region ?_
    first | refine Lp_pv rfl rfl ?_ | refine Lp_mv rfl rfl ?_
    refine Lp_s rfl (St_lenSlice rfl rfl ?_)
    first | refine Lp_pv rfl rfl ?_ | refine Lp_mv rfl rfl ?_
    refine Lp_nil ?_
    repeat refine C_seq ?_
    refine C_block ?_
    refine C_loop (fun ms σ w n => ms = [] ∧ ∃ (i : Nat) (g : Value), i ≤ l.length ∧ n = l.length - i ∧ σ 0 = .slice ad l.length cap ∧ σ 2 = .int .i64 to ∧ σ 4 = pp b4 ∧ σ 7 = pp p ∧ σ 8 = .int .i64 ((fnd m (q1, q2)).getD 0) ∧ σ 9 = .bool (fnd m (q1, q2)).isSome ∧ σ 10 = .int .i64 m.length ∧ σ 48 = .slice ad l.length cap ∧ σ 49 = .int .i64 l.length ∧ σ 50 = .int .i64 i ∧ σ 11 = g ∧
      Holds w [sls 3 1 g (icells (goesOf m (l.take i))), RS p m, old W, pts b4 (row 24 [.int .i64 q1, .int .i64 q2])]) (m := l.length) ⟨rfl, 0, _, by omega, rfl, rfl, rfl, rfl, rfl, rfl, rfl, rfl, rfl, rfl, rfl, rfl, sls_nil H⟩ ?_
    clear H
    rintro ms σ w n ⟨rfl, i, g, hi, rfl, h0, h2, h4, h7, h8, h9, h10, h48, h49, h50, h11, H⟩
    rw [upd_self h0, upd_self h2, upd_self h4, upd_self h7, upd_self h8, upd_self h9, upd_self h10, upd_self h48, upd_self h49, upd_self h50, upd_self h11]
    repeat refine C_seq ?_
    refine C_region ?_
    refine Lp_pv rfl rfl ?_
    refine Lp_nil ?_
    repeat refine C_seq ?_
    refine C_dec rfl (fun h => C_skip ?_) (fun h => C_exit ?_)
    · have hlt : i < l.length := by omega
      have ha := List.getElem?_eq_getElem hlt
      generalize l[i] = a at ha
      obtain ⟨b, o, E, fz, c, rfl, iold, hrd⟩ := hl.at ha
      have hgt := goesOf_take (m := m) ha
      obtain ⟨kd, ⟨r1, r2⟩, nn⟩ := a
      repeat refine C_seq ?_
      refine C_block ?_
      repeat refine C_seq ?_
      refine C_region ?_
      refine Lp_s rfl (St_indexAddr rfl rfl (by omega) (by omega) rfl ?_)
      refine Lp_s rfl (St_loadN H rfl hrd rfl ?_)
      (refine Lp_s rfl (St_alloc H rfl ?_); clear H; intro b13 w H)
      first | (refine Lp_s rfl (St_store1 H rfl rfl inferInstance rfl (Nat.le_of_ble_eq_true rfl) rfl ?_); clear H; intro w H) | (refine Lp_s rfl (St_storeN H rfl rfl inferInstance rfl rfl (Nat.le_of_ble_eq_true rfl) rfl ?_); clear H; intro w H)
      refine Lp_nil ?_
      repeat refine C_seq ?_
      refine C_region ?_
      first | refine Lp_pv rfl rfl ?_ | refine Lp_mv rfl rfl ?_
      refine Lp_s rfl (St_fieldAddr rfl rfl ?_)
      first | refine Lp_s rfl (St_load1 H rfl rfl rfl ?_) | refine Lp_s rfl (St_loadN H rfl (by repeat (first | exact Reads.nil _ | apply Reads.cons rfl)) rfl ?_)
      replace H := Holds.sel [2, 0, 0, 0, 0] 0 H; dsimp only [SL.sel, SL.pull, List.drop] at H
      refine Lp_s rfl (St_call (a := []) (b := []) rfl rfl (call (To2_spec p m (r1, r2) H) ?_))
      clear H; rintro v w ⟨rfl, H⟩
      first | refine Lp_pv rfl rfl ?_ | refine Lp_mv rfl rfl ?_
      refine Lp_pv rfl rfl ?_
      refine Lp_pv rfl rfl ?_
      first | refine Lp_pv rfl rfl ?_ | refine Lp_mv rfl rfl ?_
      first | refine Lp_pv rfl rfl ?_ | refine Lp_mv rfl rfl ?_
      refine Lp_nil ?_
      repeat refine C_seq ?_
      refine C_region ?_
      first | refine Lp_pv rfl rfl ?_ | refine Lp_mv rfl rfl ?_
      first | refine Lp_pv rfl rfl ?_ | refine Lp_mv rfl rfl ?_
      (refine Lp_s rfl (St_buildSlice H rfl rfl rfl ?_); clear H; intro b63 w H)
      replace H := Holds.sel [3, 0, 0, 1, 1] 1 H; dsimp only [SL.sel, SL.pull, List.drop] at H
      refine Lp_s rfl (St_append H rfl rfl (by repeat (first | exact Reads.nil _ | apply Reads.cons rfl)) rfl (by decide) (by simp only [icells_length, List.length_cons, List.length_nil, goesOf, List.length_map, List.length_take]; omega) rfl rfl ?_); clear H; intro v52 w H
      first | refine Lp_pv rfl rfl ?_ | refine Lp_mv rfl rfl ?_
      refine Lp_nil ?_
      repeat refine C_seq ?_
      refine C_region ?_
      refine Lp_pv rfl rfl ?_
      first | refine Lp_pv rfl rfl ?_ | refine Lp_mv rfl rfl ?_
      refine Lp_nil ?_
      refine ⟨_, ⟨rfl, i + 1, v52, hlt, rfl, rfl, rfl, rfl, rfl, rfl, rfl, rfl, rfl, rfl, inc64 (by omega), rfl, ?_⟩, by omega⟩
      rw [hgt]
      replace H := Holds.sel [0, 1, 1, 1] 1 H; dsimp only [SL.sel, SL.pull, List.drop] at H
      rw [icells_snoc]
      exact H
    · have hge : i = l.length := by omega
      subst hge
      rw [List.take_length] at H
      have hgl : (goesOf m l).length = l.length := by simp [goesOf]
      obtain ⟨ag, cg, rfl⟩ := sls_slice (m := l.length) H (by rw [icells_length, hgl]) (by decide)
      replace H := Holds.sel [1, 0, 0, 0] 0 H; dsimp only [SL.sel, SL.pull, List.drop] at H
      repeat refine C_seq ?_
      refine C_region ?_
      first | refine Lp_pv rfl rfl ?_ | refine Lp_mv rfl rfl ?_
      first | refine Lp_s rfl (St_load1 H rfl rfl rfl ?_) | refine Lp_s rfl (St_loadN H rfl (by repeat (first | exact Reads.nil _ | apply Reads.cons rfl)) rfl ?_)
      first | refine Lp_pv rfl rfl ?_ | refine Lp_mv rfl rfl ?_
      refine Lp_s rfl (St_call (a := []) (b := []) rfl rfl (call (Put_spec p m hnd (q1, q2) to H) ?_))
      clear H; rintro v w ⟨rfl, H⟩
      have hnd1 : ((ins (era m (q1, q2)) (q1, q2) to).map (·.1)).Nodup := nodup_ins (nodup_era hnd)
      have hf1 : fnd (ins (era m (q1, q2)) (q1, q2) to) (q1, q2) = some to := by rw [fnd_ins, if_pos rfl]
      have hfo : ∀ x : Rf, (q1, q2) ≠ x → fnd (ins (era m (q1, q2)) (q1, q2) to) x = fnd m x := fun x hx => by rw [fnd_ins, if_neg hx, fnd_era hnd, if_neg hx]
      have hlen1 : (ins (era m (q1, q2)) (q1, q2) to).length = m.length + (if (fnd m (q1, q2)).isSome then 0 else 1) := by
        rw [length_ins, fnd_era hnd, if_pos rfl, length_era]
        cases hq : fnd m (q1, q2) with
        | none => simp
        | some t =>
          have h1 := fnd_isSome_mem (m := m) (x := (q1, q2)) (by rw [hq]; rfl)
          have h2 := List.length_pos_of_mem h1
          simp at h2
          simp
          omega
      generalize ins (era m (q1, q2)) (q1, q2) to = m1 at H hnd1 hf1 hfo hlen1
      have hl1 : m1.length ≤ 101 := by rw [hlen1]; split <;> omega
      first | refine Lp_pv rfl rfl ?_ | refine Lp_mv rfl rfl ?_
      first | refine Lp_pv rfl rfl ?_ | refine Lp_s rfl (St_eqPtrNil rfl rfl (.inl rfl) rfl ?_) | refine Lp_s rfl (St_eqMapNil rfl rfl (.inl rfl) rfl ?_) | refine Lp_s rfl (St_eqPair rfl rfl (.inl rfl) rfl ?_) | refine Lp_s rfl (St_eqBool rfl rfl (.inl rfl) rfl ?_) | refine Lp_s rfl (St_eqStr rfl rfl (.inl rfl) rfl ?_)
      refine Lp_nil ?_
      repeat refine C_seq ?_
      refine C_cond rfl (fun h => absurd h (by cases (fnd m (q1, q2)).isSome <;> simp [isEql])) (fun h => C_skip ?_)
      repeat refine C_seq ?_
      refine C_region ?_
      first | refine Lp_pv rfl rfl ?_ | refine Lp_mv rfl rfl ?_
      first | refine Lp_s rfl (St_load1 H rfl rfl rfl ?_) | refine Lp_s rfl (St_loadN H rfl (by repeat (first | exact Reads.nil _ | apply Reads.cons rfl)) rfl ?_)
      refine Lp_s rfl (St_call (a := []) (b := []) rfl rfl (call (To2_spec p m1 (q1, q2) H) ?_))
      clear H; rintro v w ⟨rfl, H⟩
      rw [hf1]
      first | refine Lp_pv rfl rfl ?_ | refine Lp_mv rfl rfl ?_
      refine Lp_pv rfl rfl ?_
      refine Lp_pv rfl rfl ?_
      first | refine Lp_pv rfl rfl ?_ | refine Lp_mv rfl rfl ?_
      first | refine Lp_pv rfl rfl ?_ | refine Lp_mv rfl rfl ?_
      refine Lp_nil ?_
      repeat refine C_seq ?_
      refine C_region ?_
      first | refine Lp_pv rfl rfl ?_ | refine Lp_mv rfl rfl ?_
      refine Lp_pv rfl rfl ?_
      first | refine Lp_pv rfl rfl ?_ | refine Lp_mv rfl rfl ?_
      first | refine Lp_gpv rfl rfl rfl rfl ?_ | refine Lp_no rfl rfl rfl ?_ | refine Lp_nn rfl rfl ?_
      first | refine Lp_gpv rfl rfl rfl rfl ?_ | refine Lp_no rfl rfl rfl ?_ | refine Lp_nn rfl rfl ?_
      first | refine Lp_gpv rfl rfl rfl rfl ?_ | refine Lp_g rfl rfl rfl (St_eqPtrNil rfl rfl (.inr rfl) rfl ?_) | refine Lp_g rfl rfl rfl (St_eqMapNil rfl rfl (.inr rfl) rfl ?_) | refine Lp_g rfl rfl rfl (St_eqPair rfl rfl (.inr rfl) rfl ?_) | refine Lp_g rfl rfl rfl (St_eqBool rfl rfl (.inr rfl) rfl ?_) | refine Lp_g rfl rfl rfl (St_eqStr rfl rfl (.inr rfl) rfl ?_) | refine Lp_no rfl rfl rfl ?_ | refine Lp_nn rfl rfl ?_
      rw [show ((some to).getD 0 != to) = false by simp]
      refine Lp_pv rfl rfl ?_
      refine Lp_nil ?_
      repeat refine C_seq ?_
      refine C_false rfl (C_skip ?_)
      replace H : Holds w [RS p m1, sls 3 1 (.slice ag l.length cg) (icells (goesOf m l)), old W, pts b4 (row 24 [.int .i64 q1, .int .i64 q2])] := H
      refine C_seq ?_
      refine C_join (fun ms σ w => ms = [] ∧ σ 0 = .slice ad l.length cap ∧ σ 2 = .int .i64 to ∧ σ 4 = pp b4 ∧ σ 7 = pp p ∧ σ 9 = .bool (fnd m (q1, q2)).isSome ∧ σ 10 = .int .i64 m.length ∧ σ 11 = .slice ag l.length cg ∧
        Holds w [RS p m1, sls 3 1 (.slice ag l.length cg) (icells (goesOf m l)), old W, pts b4 (row 24 [.int .i64 q1, .int .i64 q2])]) ?_ ?_
      · cases hhad : (fnd m (q1, q2)).isSome with
        | false =>
          repeat refine C_seq ?_
          refine C_region ?_
          first | refine Lp_pv rfl rfl ?_ | refine Lp_mv rfl rfl ?_
          first | refine Lp_pv rfl rfl ?_ | refine Lp_mv rfl rfl ?_
          first | refine Lp_gpv rfl rfl rfl rfl ?_ | refine Lp_no rfl rfl rfl ?_ | refine Lp_nn rfl rfl ?_
          first | refine Lp_gpv rfl rfl rfl rfl ?_ | refine Lp_no rfl rfl rfl ?_ | refine Lp_nn rfl rfl ?_
          first | refine Lp_gpv rfl rfl rfl rfl ?_ | refine Lp_g rfl rfl rfl (St_eqPtrNil rfl rfl (.inr rfl) rfl ?_) | refine Lp_g rfl rfl rfl (St_eqMapNil rfl rfl (.inr rfl) rfl ?_) | refine Lp_g rfl rfl rfl (St_eqPair rfl rfl (.inr rfl) rfl ?_) | refine Lp_g rfl rfl rfl (St_eqBool rfl rfl (.inr rfl) rfl ?_) | refine Lp_g rfl rfl rfl (St_eqStr rfl rfl (.inr rfl) rfl ?_) | refine Lp_no rfl rfl rfl ?_ | refine Lp_nn rfl rfl ?_
          refine Lp_pv rfl rfl ?_
          refine Lp_nil ?_
          repeat refine C_seq ?_
          refine C_false rfl (C_skip ?_)
          exact ⟨rfl, rfl, rfl, rfl, rfl, rfl, rfl, rfl, rfl, H⟩
        | true =>
          repeat refine C_seq ?_
          refine C_region ?_
          first | refine Lp_pv rfl rfl ?_ | refine Lp_mv rfl rfl ?_
          first | refine Lp_pv rfl rfl ?_ | refine Lp_mv rfl rfl ?_
          first | refine Lp_gpv rfl rfl rfl rfl ?_ | refine Lp_no rfl rfl rfl ?_ | refine Lp_nn rfl rfl ?_
          first | refine Lp_gpv rfl rfl rfl rfl ?_ | refine Lp_no rfl rfl rfl ?_ | refine Lp_nn rfl rfl ?_
          first | refine Lp_gpv rfl rfl rfl rfl ?_ | refine Lp_g rfl rfl rfl (St_eqPtrNil rfl rfl (.inr rfl) rfl ?_) | refine Lp_g rfl rfl rfl (St_eqMapNil rfl rfl (.inr rfl) rfl ?_) | refine Lp_g rfl rfl rfl (St_eqPair rfl rfl (.inr rfl) rfl ?_) | refine Lp_g rfl rfl rfl (St_eqBool rfl rfl (.inr rfl) rfl ?_) | refine Lp_g rfl rfl rfl (St_eqStr rfl rfl (.inr rfl) rfl ?_) | refine Lp_no rfl rfl rfl ?_ | refine Lp_nn rfl rfl ?_
          refine Lp_pv rfl rfl ?_
          refine Lp_nil ?_
          repeat refine C_seq ?_
          refine C_cond rfl (fun hne => ?_) (fun h => C_skip ⟨rfl, rfl, rfl, rfl, rfl, rfl, rfl, rfl, rfl, H⟩)
          have hne : ((fnd m (q1, q2)).getD 0) ≠ to := by
            have h1 : ((fnd m (q1, q2)).getD 0 != to) = true := hne
            simpa using h1
          generalize (fnd m (q1, q2)).getD 0 = was at hne ⊢
          repeat refine C_seq ?_
          refine C_region ?_
          first | refine Lp_pv rfl rfl ?_ | refine Lp_mv rfl rfl ?_
          first | refine Lp_pv rfl rfl ?_ | refine Lp_mv rfl rfl ?_
          refine Lp_s rfl (St_call (a := []) (b := []) rfl rfl (call (Of_spec p m1 (by omega) was H) ?_))
          rintro v93 w ⟨ks, hks, hs, H⟩
          have hkl : ks.length ≤ 101 := by
            have := sub_length (rising_nodup hs) (l₂ := m1.map (·.1)) fun r hr => List.mem_map_of_mem (f := (·.1)) (fnd_mem ((hks r).1 hr))
            simp at this
            omega
          obtain ⟨a93, c93, rfl⟩ := sls_slice H (rcells_length ks) (by decide)
          refine Lp_s rfl (St_lenSlice rfl rfl ?_)
          first | refine Lp_pv rfl rfl ?_ | refine Lp_mv rfl rfl ?_
          refine Lp_nil ?_
          repeat refine C_seq ?_
          refine C_block ?_
          refine C_loop (fun ms σ w n => ms = [] ∧ ∃ i : Nat, i ≤ ks.length ∧ n = ks.length - i ∧ σ 0 = .slice ad l.length cap ∧ σ 2 = .int .i64 to ∧ σ 4 = pp b4 ∧ σ 7 = pp p ∧ σ 9 = .bool true ∧ σ 10 = .int .i64 m.length ∧ σ 11 = .slice ag l.length cg ∧ σ 93 = .slice a93 ks.length c93 ∧ σ 94 = .int .i64 ks.length ∧ σ 95 = .int .i64 i ∧
            Holds w [SR (.slice a93 ks.length c93) ks, RS p m1, sls 3 1 (.slice ag l.length cg) (icells (goesOf m l)), old W, pts b4 (row 24 [.int .i64 q1, .int .i64 q2])]) (m := ks.length) ⟨rfl, 0, by omega, rfl, rfl, rfl, rfl, rfl, rfl, rfl, rfl, rfl, rfl, rfl, H⟩ ?_
          clear H
          rintro ms σ w n ⟨rfl, i, hi, rfl, h0, h2, h4, h7, h9, h10, h11, h93, h94, h95, H⟩
          rw [upd_self h0, upd_self h2, upd_self h4, upd_self h7, upd_self h9, upd_self h10, upd_self h11, upd_self h93, upd_self h94, upd_self h95]
          repeat refine C_seq ?_
          refine C_region ?_
          refine Lp_pv rfl rfl ?_
          refine Lp_nil ?_
          repeat refine C_seq ?_
          refine C_dec rfl (fun h => C_skip ?_) (fun h => C_exit ?_)
          · have hlt : i < ks.length := by omega
            have hx := List.getElem?_eq_getElem hlt
            generalize ks[i] = x at hx
            have hxk := (hks x).1 (List.mem_of_getElem? hx)
            obtain ⟨x1, x2⟩ := x
            obtain ⟨bb, sb, rfl, H, hclose⟩ := sls_open H (by omega)
            repeat refine C_seq ?_
            refine C_block ?_
            repeat refine C_seq ?_
            refine C_region ?_
            refine Lp_s rfl (St_indexAddr rfl rfl (by omega) (by omega) rfl ?_)
            refine Lp_s rfl (St_loadN H rfl (rcells_reads hx) rfl ?_)
            (refine Lp_s rfl (St_alloc H rfl ?_); clear H; intro b19 w H)
            first | (refine Lp_s rfl (St_store1 H rfl rfl inferInstance rfl (Nat.le_of_ble_eq_true rfl) rfl ?_); clear H; intro w H) | (refine Lp_s rfl (St_storeN H rfl rfl inferInstance rfl rfl (Nat.le_of_ble_eq_true rfl) rfl ?_); clear H; intro w H)
            refine Lp_nil ?_
            repeat refine C_seq ?_
            refine C_region ?_
            first | refine Lp_s rfl (St_load1 H rfl rfl rfl ?_) | refine Lp_s rfl (St_loadN H rfl (by repeat (first | exact Reads.nil _ | apply Reads.cons rfl)) rfl ?_)
            first | refine Lp_s rfl (St_load1 H rfl rfl rfl ?_) | refine Lp_s rfl (St_loadN H rfl (by repeat (first | exact Reads.nil _ | apply Reads.cons rfl)) rfl ?_)
            first | refine Lp_pv rfl rfl ?_ | refine Lp_s rfl (St_eqPtrNil rfl rfl (.inl rfl) rfl ?_) | refine Lp_s rfl (St_eqMapNil rfl rfl (.inl rfl) rfl ?_) | refine Lp_s rfl (St_eqPair rfl rfl (.inl rfl) rfl ?_) | refine Lp_s rfl (St_eqBool rfl rfl (.inl rfl) rfl ?_) | refine Lp_s rfl (St_eqStr rfl rfl (.inl rfl) rfl ?_)
            refine Lp_nil ?_
            repeat refine C_seq ?_
            refine C_cond rfl (fun he => ?_) (fun he => C_skip ?_)
            · have he : (x1, x2) = (q1, q2) := by simpa [isEql] using he
              rw [he, hf1] at hxk
              exact absurd (Option.some.inj hxk).symm hne
            · repeat refine C_seq ?_
              refine C_region ?_
              refine Lp_pv rfl rfl ?_
              first | refine Lp_pv rfl rfl ?_ | refine Lp_mv rfl rfl ?_
              refine Lp_nil ?_
              replace H := hclose _ _ H.drop
              exact ⟨_, ⟨rfl, i + 1, hlt, rfl, rfl, rfl, rfl, rfl, rfl, rfl, rfl, rfl, rfl, inc64 (by omega), H⟩, by omega⟩
          · exact ⟨rfl, rfl, rfl, rfl, rfl, rfl, rfl, rfl, rfl, H.drop⟩
      clear H
      rintro ms σ w ⟨rfl, h0, h2, h4, h7, h9, h10, h11, H⟩
      rw [upd_self h0, upd_self h2, upd_self h4, upd_self h7, upd_self h9, upd_self h10, upd_self h11]
      repeat refine C_seq ?_
      refine C_region ?_
      first | refine Lp_pv rfl rfl ?_ | refine Lp_mv rfl rfl ?_
      refine Lp_s rfl (St_lenSlice rfl rfl ?_)
      first | refine Lp_pv rfl rfl ?_ | refine Lp_mv rfl rfl ?_
      refine Lp_nil ?_
      repeat refine C_seq ?_
      refine C_block ?_
      refine C_loop (fun ms σ w n => ms = [] ∧ ∃ i : Nat, i ≤ l.length ∧ n = l.length - i ∧ σ 4 = pp b4 ∧ σ 7 = pp p ∧ σ 9 = .bool (fnd m (q1, q2)).isSome ∧ σ 10 = .int .i64 m.length ∧ σ 11 = .slice ag l.length cg ∧ σ 103 = .slice ad l.length cap ∧ σ 104 = .int .i64 l.length ∧ σ 105 = .int .i64 i ∧
        Holds w [RS p m1, sls 3 1 (.slice ag l.length cg) (icells (goesOf m l)), old W, pts b4 (row 24 [.int .i64 q1, .int .i64 q2])]) (m := l.length) ⟨rfl, 0, by omega, rfl, rfl, rfl, rfl, rfl, rfl, rfl, rfl, rfl, H⟩ ?_
      clear H
      rintro ms σ w n ⟨rfl, i, hi, rfl, h4, h7, h9, h10, h11, h103, h104, h105, H⟩
      rw [upd_self h4, upd_self h7, upd_self h9, upd_self h10, upd_self h11, upd_self h103, upd_self h104, upd_self h105]
      repeat refine C_seq ?_
      refine C_region ?_
      refine Lp_pv rfl rfl ?_
      refine Lp_nil ?_
      repeat refine C_seq ?_
      refine C_dec rfl (fun h => C_skip ?_) (fun h => C_exit ?_)
      · have hlt : i < l.length := by omega
        have ha := List.getElem?_eq_getElem hlt
        generalize l[i] = a at ha
        obtain ⟨b, o, E, fz, c, rfl, iold, hrd⟩ := hl.at ha
        have hgi : (goesOf m l)[i]? = some ((fnd m a.r).getD 0) := by simp [goesOf, ha]
        obtain ⟨kd, ⟨r1, r2⟩, nn⟩ := a
        repeat refine C_seq ?_
        refine C_block ?_
        repeat refine C_seq ?_
        refine C_region ?_
        first | refine Lp_pv rfl rfl ?_ | refine Lp_mv rfl rfl ?_
        refine Lp_s rfl (St_indexAddr rfl rfl (by omega) (by omega) rfl ?_)
        refine Lp_s rfl (St_loadN H rfl hrd rfl ?_)
        (refine Lp_s rfl (St_alloc H rfl ?_); clear H; intro b21 w H)
        first | refine Lp_pv rfl rfl ?_ | refine Lp_mv rfl rfl ?_
        first | (refine Lp_s rfl (St_store1 H rfl rfl inferInstance rfl (Nat.le_of_ble_eq_true rfl) rfl ?_); clear H; intro w H) | (refine Lp_s rfl (St_storeN H rfl rfl inferInstance rfl rfl (Nat.le_of_ble_eq_true rfl) rfl ?_); clear H; intro w H)
        refine Lp_nil ?_
        repeat refine C_seq ?_
        refine C_region ?_
        first | refine Lp_pv rfl rfl ?_ | refine Lp_mv rfl rfl ?_
        refine Lp_s rfl (St_fieldAddr rfl rfl ?_)
        first | refine Lp_s rfl (St_load1 H rfl rfl rfl ?_) | refine Lp_s rfl (St_loadN H rfl (by repeat (first | exact Reads.nil _ | apply Reads.cons rfl)) rfl ?_)
        replace H := Holds.sel [1, 0, 0, 0, 0] 0 H; dsimp only [SL.sel, SL.pull, List.drop] at H
        refine Lp_s rfl (St_call (a := []) (b := []) rfl rfl (call (To2_spec p m1 (r1, r2) H) ?_))
        clear H; rintro v w ⟨rfl, H⟩
        first | refine Lp_pv rfl rfl ?_ | refine Lp_mv rfl rfl ?_
        refine Lp_pv rfl rfl ?_
        refine Lp_pv rfl rfl ?_
        first | refine Lp_pv rfl rfl ?_ | refine Lp_mv rfl rfl ?_
        first | refine Lp_pv rfl rfl ?_ | refine Lp_mv rfl rfl ?_
        refine Lp_nil ?_
        by_cases hq : ((r1, r2) : Rf) = (q1, q2)
        · repeat refine C_seq ?_
          refine C_region ?_
          refine Lp_s rfl (St_fieldAddr rfl rfl ?_)
          first | refine Lp_s rfl (St_load1 H rfl rfl rfl ?_) | refine Lp_s rfl (St_loadN H rfl (by repeat (first | exact Reads.nil _ | apply Reads.cons rfl)) rfl ?_)
          first | refine Lp_s rfl (St_load1 H rfl rfl rfl ?_) | refine Lp_s rfl (St_loadN H rfl (by repeat (first | exact Reads.nil _ | apply Reads.cons rfl)) rfl ?_)
          first | refine Lp_pv rfl rfl ?_ | refine Lp_s rfl (St_eqPtrNil rfl rfl (.inr rfl) rfl ?_) | refine Lp_s rfl (St_eqMapNil rfl rfl (.inr rfl) rfl ?_) | refine Lp_s rfl (St_eqPair rfl rfl (.inr rfl) rfl ?_) | refine Lp_s rfl (St_eqBool rfl rfl (.inr rfl) rfl ?_) | refine Lp_s rfl (St_eqStr rfl rfl (.inr rfl) rfl ?_)
          have e : (if isEql BinOp.neq = true then decide (((r1, r2) : Rf) = (q1, q2)) else !decide (((r1, r2) : Rf) = (q1, q2))) = false := by simp [isEql, hq]
          rw [e]
          first | refine Lp_pv rfl rfl ?_ | refine Lp_mv rfl rfl ?_
          first | refine Lp_gpv rfl rfl rfl rfl ?_ | refine Lp_no rfl rfl rfl ?_ | refine Lp_nn rfl rfl ?_
          first | refine Lp_gpv rfl rfl rfl rfl ?_ | refine Lp_no rfl rfl rfl ?_ | refine Lp_nn rfl rfl ?_
          first | refine Lp_gpv rfl rfl rfl rfl ?_ | refine Lp_no rfl rfl rfl ?_ | refine Lp_nn rfl rfl ?_
          refine Lp_no rfl rfl rfl ?_
          first | refine Lp_g rfl rfl rfl (St_load1 H rfl rfl rfl ?_) | refine Lp_g rfl rfl rfl (St_loadN H rfl (by repeat (first | exact Reads.nil _ | apply Reads.cons rfl)) rfl ?_) | refine Lp_no rfl rfl rfl ?_ | refine Lp_nn rfl rfl ?_
          first | refine Lp_gpv rfl rfl rfl rfl ?_ | refine Lp_g rfl rfl rfl (St_eqPtrNil rfl rfl (.inr rfl) rfl ?_) | refine Lp_g rfl rfl rfl (St_eqMapNil rfl rfl (.inr rfl) rfl ?_) | refine Lp_g rfl rfl rfl (St_eqPair rfl rfl (.inr rfl) rfl ?_) | refine Lp_g rfl rfl rfl (St_eqBool rfl rfl (.inr rfl) rfl ?_) | refine Lp_g rfl rfl rfl (St_eqStr rfl rfl (.inr rfl) rfl ?_) | refine Lp_no rfl rfl rfl ?_ | refine Lp_nn rfl rfl ?_
          refine Lp_pv rfl rfl ?_
          refine Lp_nil ?_
          repeat refine C_seq ?_
          refine C_false rfl (C_skip ?_)
          repeat refine C_seq ?_
          refine C_region ?_
          refine Lp_pv rfl rfl ?_
          first | refine Lp_pv rfl rfl ?_ | refine Lp_mv rfl rfl ?_
          refine Lp_nil ?_
          replace H := Holds.sel [0, 1, 1, 1] 1 H; dsimp only [SL.sel, SL.pull, List.drop] at H
          exact ⟨_, ⟨rfl, i + 1, hlt, rfl, rfl, rfl, rfl, rfl, rfl, rfl, rfl, inc64 (by omega), H⟩, by omega⟩
        · have hfe := hfo (r1, r2) (fun e => hq e.symm)
          have hx : ((fnd m1 (r1, r2)).getD 0 != (fnd m (r1, r2)).getD 0) = false := by rw [hfe]; simp
          replace H := Holds.sel [2, 0, 0, 0, 0] 0 H; dsimp only [SL.sel, SL.pull, List.drop] at H
          obtain ⟨bg, sg, rfl, H, hclose⟩ := sls_open H (by omega)
          repeat refine C_seq ?_
          refine C_region ?_
          refine Lp_s rfl (St_fieldAddr rfl rfl ?_)
          first | refine Lp_s rfl (St_load1 H rfl rfl rfl ?_) | refine Lp_s rfl (St_loadN H rfl (by repeat (first | exact Reads.nil _ | apply Reads.cons rfl)) rfl ?_)
          first | refine Lp_s rfl (St_load1 H rfl rfl rfl ?_) | refine Lp_s rfl (St_loadN H rfl (by repeat (first | exact Reads.nil _ | apply Reads.cons rfl)) rfl ?_)
          first | refine Lp_pv rfl rfl ?_ | refine Lp_s rfl (St_eqPtrNil rfl rfl (.inr rfl) rfl ?_) | refine Lp_s rfl (St_eqMapNil rfl rfl (.inr rfl) rfl ?_) | refine Lp_s rfl (St_eqPair rfl rfl (.inr rfl) rfl ?_) | refine Lp_s rfl (St_eqBool rfl rfl (.inr rfl) rfl ?_) | refine Lp_s rfl (St_eqStr rfl rfl (.inr rfl) rfl ?_)
          have e : (if isEql BinOp.neq = true then decide (((r1, r2) : Rf) = (q1, q2)) else !decide (((r1, r2) : Rf) = (q1, q2))) = true := by
            simp only [isEql, Bool.false_eq_true, if_false]
            rw [decide_eq_false hq]; rfl
          rw [e]
          first | refine Lp_pv rfl rfl ?_ | refine Lp_mv rfl rfl ?_
          first | refine Lp_gpv rfl rfl rfl rfl ?_ | refine Lp_no rfl rfl rfl ?_ | refine Lp_nn rfl rfl ?_
          first | refine Lp_gpv rfl rfl rfl rfl ?_ | refine Lp_no rfl rfl rfl ?_ | refine Lp_nn rfl rfl ?_
          first | refine Lp_gpv rfl rfl rfl rfl ?_ | refine Lp_no rfl rfl rfl ?_ | refine Lp_nn rfl rfl ?_
          refine Lp_g rfl rfl rfl (St_indexAddr rfl rfl (by omega) (by omega) rfl ?_)
          refine Lp_g rfl rfl rfl (St_load1 H rfl (icells_reads hgi) rfl ?_)
          first | refine Lp_gpv rfl rfl rfl rfl ?_ | refine Lp_g rfl rfl rfl (St_eqPtrNil rfl rfl (.inr rfl) rfl ?_) | refine Lp_g rfl rfl rfl (St_eqMapNil rfl rfl (.inr rfl) rfl ?_) | refine Lp_g rfl rfl rfl (St_eqPair rfl rfl (.inr rfl) rfl ?_) | refine Lp_g rfl rfl rfl (St_eqBool rfl rfl (.inr rfl) rfl ?_) | refine Lp_g rfl rfl rfl (St_eqStr rfl rfl (.inr rfl) rfl ?_) | refine Lp_no rfl rfl rfl ?_ | refine Lp_nn rfl rfl ?_
          rw [hx]
          refine Lp_pv rfl rfl ?_
          refine Lp_nil ?_
          repeat refine C_seq ?_
          refine C_false rfl (C_skip ?_)
          repeat refine C_seq ?_
          refine C_region ?_
          refine Lp_pv rfl rfl ?_
          first | refine Lp_pv rfl rfl ?_ | refine Lp_mv rfl rfl ?_
          refine Lp_nil ?_
          replace H := hclose _ _ H
          replace H := Holds.sel [1, 0, 1, 1] 1 H; dsimp only [SL.sel, SL.pull, List.drop] at H
          exact ⟨_, ⟨rfl, i + 1, hlt, rfl, rfl, rfl, rfl, rfl, rfl, rfl, rfl, inc64 (by omega), H⟩, by omega⟩
      · refine C_seq ?_
        refine C_join (fun ms σ w => ms = [] ∧ σ 4 = pp b4 ∧ σ 7 = pp p ∧ σ 10 = .int .i64 m1.length ∧ Holds w [RS p m1, old W, pts b4 (row 24 [.int .i64 q1, .int .i64 q2])]) ?_ ?_
        · replace H := Holds.sel [0, 1, 1] 1 H; dsimp only [SL.sel, SL.pull, List.drop] at H
          rw [hlen1]
          cases hhad : (fnd m (q1, q2)).isSome with
          | true =>
            repeat refine C_seq ?_
            refine C_region ?_
            first | refine Lp_pv rfl rfl ?_ | refine Lp_mv rfl rfl ?_
            refine Lp_pv rfl rfl ?_
            refine Lp_nil ?_
            repeat refine C_seq ?_
            refine C_false rfl (C_skip ?_)
            exact ⟨rfl, rfl, rfl, rfl, rfl, H⟩
          | false =>
            repeat refine C_seq ?_
            refine C_region ?_
            first | refine Lp_pv rfl rfl ?_ | refine Lp_mv rfl rfl ?_
            refine Lp_pv rfl rfl ?_
            refine Lp_nil ?_
            repeat refine C_seq ?_
            refine C_true rfl ?_
            repeat refine C_seq ?_
            refine C_region ?_
            first | refine Lp_pv rfl rfl ?_ | refine Lp_mv rfl rfl ?_
            refine Lp_pv rfl rfl ?_
            first | refine Lp_pv rfl rfl ?_ | refine Lp_mv rfl rfl ?_
            refine Lp_nil ?_
            exact ⟨rfl, rfl, rfl, rfl, inc64 (by omega), H⟩
        clear H
        rintro ms σ w ⟨rfl, h4, h7, h10, H⟩
        rw [upd_self h4, upd_self h7, upd_self h10]
        repeat refine C_seq ?_
        refine C_region ?_
        first | refine Lp_pv rfl rfl ?_ | refine Lp_mv rfl rfl ?_
        refine Lp_s rfl (St_call (a := []) (b := []) rfl rfl (call (Len_spec p m1 H) ?_))
        clear H; rintro v w ⟨rfl, H⟩
        first | refine Lp_pv rfl rfl ?_ | refine Lp_mv rfl rfl ?_
        first | refine Lp_pv rfl rfl ?_ | refine Lp_s rfl (St_eqPtrNil rfl rfl (.inr rfl) rfl ?_) | refine Lp_s rfl (St_eqMapNil rfl rfl (.inr rfl) rfl ?_) | refine Lp_s rfl (St_eqPair rfl rfl (.inr rfl) rfl ?_) | refine Lp_s rfl (St_eqBool rfl rfl (.inr rfl) rfl ?_) | refine Lp_s rfl (St_eqStr rfl rfl (.inr rfl) rfl ?_)
        rw [show ((m1.length : Int) != (m1.length : Int)) = false by simp]
        first | refine Lp_pv rfl rfl ?_ | refine Lp_mv rfl rfl ?_
        first | refine Lp_gpv rfl rfl rfl rfl ?_ | refine Lp_no rfl rfl rfl ?_ | refine Lp_nn rfl rfl ?_
        first | refine Lp_g rfl rfl rfl (St_load1 H rfl rfl rfl ?_) | refine Lp_g rfl rfl rfl (St_loadN H rfl (by repeat (first | exact Reads.nil _ | apply Reads.cons rfl)) rfl ?_) | refine Lp_no rfl rfl rfl ?_ | refine Lp_nn rfl rfl ?_
        refine Lp_g rfl rfl rfl (St_call (a := []) (b := []) rfl rfl (call (Cut_spec p m1 hnd1 (q1, q2) H) ?_))
        clear H; rintro v w ⟨rfl, H⟩
        rw [hf1]
        have hnd2 := nodup_era hnd1 (x := ((q1, q2) : Rf))
        have hf2 : fnd (era m1 (q1, q2)) (q1, q2) = none := by rw [fnd_era hnd1, if_pos rfl]
        have hl2 : (era m1 (q1, q2)).length = m1.length - 1 := by rw [length_era, hf1]; rfl
        have hpos : 0 < m1.length := by
          have := List.length_pos_of_mem (fnd_mem hf1)
          exact this
        generalize era m1 (q1, q2) = m2 at H hnd2 hf2 hl2
        first | refine Lp_gpv rfl rfl rfl rfl ?_ | refine Lp_no rfl rfl rfl ?_ | refine Lp_nn rfl rfl ?_
        refine Lp_pv rfl rfl ?_
        first | refine Lp_pv rfl rfl ?_ | refine Lp_mv rfl rfl ?_
        first | refine Lp_gpv rfl rfl rfl rfl ?_ | refine Lp_no rfl rfl rfl ?_ | refine Lp_nn rfl rfl ?_
        first | refine Lp_g rfl rfl rfl (St_load1 H rfl rfl rfl ?_) | refine Lp_g rfl rfl rfl (St_loadN H rfl (by repeat (first | exact Reads.nil _ | apply Reads.cons rfl)) rfl ?_) | refine Lp_no rfl rfl rfl ?_ | refine Lp_nn rfl rfl ?_
        refine Lp_g rfl rfl rfl (St_call (a := []) (b := []) rfl rfl (call (Cut_spec p m2 hnd2 (q1, q2) H) ?_))
        clear H; rintro v w ⟨rfl, H⟩
        rw [hf2]
        rw [era_none (fnd_eq_none.1 hf2)] at H
        refine Lp_pv rfl rfl ?_
        first | refine Lp_pv rfl rfl ?_ | refine Lp_mv rfl rfl ?_
        first | refine Lp_gpv rfl rfl rfl rfl ?_ | refine Lp_no rfl rfl rfl ?_ | refine Lp_nn rfl rfl ?_
        refine Lp_g rfl rfl rfl (St_call (a := []) (b := []) rfl rfl (call (Len_spec p m2 H) ?_))
        clear H; rintro v w ⟨rfl, H⟩
        first | refine Lp_gpv rfl rfl rfl rfl ?_ | refine Lp_no rfl rfl rfl ?_ | refine Lp_nn rfl rfl ?_
        first | refine Lp_gpv rfl rfl rfl rfl ?_ | refine Lp_no rfl rfl rfl ?_ | refine Lp_nn rfl rfl ?_
        first | refine Lp_gpv rfl rfl rfl rfl ?_ | refine Lp_g rfl rfl rfl (St_eqPtrNil rfl rfl (.inr rfl) rfl ?_) | refine Lp_g rfl rfl rfl (St_eqMapNil rfl rfl (.inr rfl) rfl ?_) | refine Lp_g rfl rfl rfl (St_eqPair rfl rfl (.inr rfl) rfl ?_) | refine Lp_g rfl rfl rfl (St_eqBool rfl rfl (.inr rfl) rfl ?_) | refine Lp_g rfl rfl rfl (St_eqStr rfl rfl (.inr rfl) rfl ?_) | refine Lp_no rfl rfl rfl ?_ | refine Lp_nn rfl rfl ?_
        have ew : (((m2.length : Nat) : Int) != IntKind.i64.wrap ((m1.length : Int) - 1)) = false := by
          rw [wrap64 (by omega) (by omega)]
          simp
          omega
        rw [ew]
        refine Lp_pv rfl rfl ?_
        refine Lp_nil ?_
        repeat refine C_seq ?_
        refine C_false rfl (C_skip ?_)
        repeat refine C_seq ?_
        refine C_region ?_
        first | refine Lp_pv rfl rfl ?_ | refine Lp_mv rfl rfl ?_
        first | refine Lp_s rfl (St_load1 H rfl rfl rfl ?_) | refine Lp_s rfl (St_loadN H rfl (by repeat (first | exact Reads.nil _ | apply Reads.cons rfl)) rfl ?_)
        refine Lp_s rfl (St_call (a := []) (b := []) rfl rfl (call (To2_spec p m2 (q1, q2) H) ?_))
        clear H; rintro v w ⟨rfl, H⟩
        rw [hf2]
        first | refine Lp_pv rfl rfl ?_ | refine Lp_mv rfl rfl ?_
        refine Lp_pv rfl rfl ?_
        refine Lp_pv rfl rfl ?_
        first | refine Lp_pv rfl rfl ?_ | refine Lp_mv rfl rfl ?_
        first | refine Lp_pv rfl rfl ?_ | refine Lp_mv rfl rfl ?_
        refine Lp_nil ?_
        repeat refine C_seq ?_
        refine C_region ?_
        first | refine Lp_pv rfl rfl ?_ | refine Lp_mv rfl rfl ?_
        refine Lp_pv rfl rfl ?_
        first | refine Lp_pv rfl rfl ?_ | refine Lp_mv rfl rfl ?_
        refine Lp_nil ?_
        replace H := Holds.sel [1] 2 H; dsimp only [SL.sel, SL.pull, List.drop] at H
        exact C_ret (fn_end0 _ (.inr rfl) H rfl fun w' H' => ⟨rfl, H'⟩)
end Go.Proofs.Ytdpephigccnkdaa
