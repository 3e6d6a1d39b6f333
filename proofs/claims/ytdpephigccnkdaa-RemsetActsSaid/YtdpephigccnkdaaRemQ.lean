/- RemsetActs: the walk. No condition. -/
import Derived.Test.YtdpephigccnkdaaRemP
import Derived.Test.YtdpephigccnkdaaRemJ
set_option linter.unusedVariables false
set_option linter.unusedSimpArgs false
set_option linter.unusedSectionVars false
namespace Go.Proofs.Ytdpephigccnkdaa
open Go.SL

theorem neq_self (b : Bool) : (b != b) = false := by cases b <;> rfl

set_option maxHeartbeats 4000000 in
theorem Acts_walk (W : World) (v : Value) (l : List Act) (hl : AL W v l) (r : Rf) (n : Int) {w : World} [Extra] (H : Holds w [old W]) :
    Calls Try.prog 3 #[v, rf r, .int .i64 n] w (ret fun x w' => x = .bool true ∧ Holds w' [old W]) := by
  obtain ⟨ad, cap, rfl⟩ := hl.slice
  obtain ⟨r1, r2⟩ := r
  refine calls_of Try.func3 rfl (by kernel_rfl) ?_
  repeat refine C_seq ?_
  refine C_region ?_
  first | (refine Lp_s rfl (St_boxN H rfl rfl ?_); clear H; intro b4 w H) | (refine Lp_s rfl (St_box1 H rfl rfl rfl ?_); clear H; intro b4 w H)
  first | refine Lp_pv rfl rfl ?_ | refine Lp_mv rfl rfl ?_
  refine Lp_nil ?_
  repeat refine C_seq ?_
  refine C_region ?_
  first | refine Lp_pv rfl rfl ?_ | refine Lp_mv rfl rfl ?_
  refine Lp_nil ?_
  repeat refine C_seq ?_
  refine C_region ?_
  first | refine Lp_pv rfl rfl ?_ | refine Lp_mv rfl rfl ?_
  first | refine Lp_s rfl (St_load1 H rfl rfl rfl ?_) | refine Lp_s rfl (St_loadN H rfl (by repeat (first | exact Reads.nil _ | apply Reads.cons rfl)) rfl ?_)
  refine Lp_s rfl (St_call (a := []) (b := []) rfl rfl (call (To_none (r1, r2) H) ?_))
  clear H; rintro v w ⟨rfl, H⟩
  first | refine Lp_pv rfl rfl ?_ | refine Lp_mv rfl rfl ?_
  refine Lp_pv rfl rfl ?_
  refine Lp_pv rfl rfl ?_
  first | refine Lp_pv rfl rfl ?_ | refine Lp_mv rfl rfl ?_
  first | refine Lp_pv rfl rfl ?_ | refine Lp_mv rfl rfl ?_
  refine Lp_nil ?_
  repeat refine C_seq ?_
  refine C_region ?_
  refine Lp_s rfl (St_call (a := []) (b := []) rfl rfl (call (New_spec H) ?_))
  clear H
  rintro v w ⟨p, rfl, H⟩
  first | refine Lp_pv rfl rfl ?_ | refine Lp_mv rfl rfl ?_
  refine Lp_nil ?_
  repeat refine C_seq ?_
  refine C_region ?_
  refine Lp_s rfl (St_call (a := []) (b := []) rfl rfl (call (alive_spec H) ?_))
  clear H; rintro v w ⟨rfl, H⟩
  refine Lp_pv rfl rfl ?_
  first | refine Lp_pv rfl rfl ?_ | refine Lp_mv rfl rfl ?_
  first | refine Lp_gpv rfl rfl rfl rfl ?_ | refine Lp_no rfl rfl rfl ?_ | refine Lp_nn rfl rfl ?_
  first | refine Lp_gpv rfl rfl rfl rfl ?_ | refine Lp_g rfl rfl rfl (St_eqPtrNil rfl rfl (.inl rfl) rfl ?_) | refine Lp_g rfl rfl rfl (St_eqMapNil rfl rfl (.inl rfl) rfl ?_) | refine Lp_g rfl rfl rfl (St_eqPair rfl rfl (.inl rfl) rfl ?_) | refine Lp_g rfl rfl rfl (St_eqBool rfl rfl (.inl rfl) rfl ?_) | refine Lp_g rfl rfl rfl (St_eqStr rfl rfl (.inl rfl) rfl ?_) | refine Lp_no rfl rfl rfl ?_ | refine Lp_nn rfl rfl ?_
  refine Lp_pv rfl rfl ?_
  first | refine Lp_pv rfl rfl ?_ | refine Lp_mv rfl rfl ?_
  first | refine Lp_gpv rfl rfl rfl rfl ?_ | refine Lp_no rfl rfl rfl ?_ | refine Lp_nn rfl rfl ?_
  first | refine Lp_g rfl rfl rfl (St_load1 H rfl rfl rfl ?_) | refine Lp_g rfl rfl rfl (St_loadN H rfl (by repeat (first | exact Reads.nil _ | apply Reads.cons rfl)) rfl ?_) | refine Lp_no rfl rfl rfl ?_ | refine Lp_nn rfl rfl ?_
  first | refine Lp_gpv rfl rfl rfl rfl ?_ | refine Lp_no rfl rfl rfl ?_ | refine Lp_nn rfl rfl ?_
  refine Lp_g rfl rfl rfl (St_call (a := []) (b := []) rfl rfl (call (Put_none (r1, r2) n H) ?_))
  clear H; rintro v w ⟨rfl, H⟩
  refine Lp_pv rfl rfl ?_
  first | refine Lp_pv rfl rfl ?_ | refine Lp_mv rfl rfl ?_
  first | refine Lp_gpv rfl rfl rfl rfl ?_ | refine Lp_no rfl rfl rfl ?_ | refine Lp_nn rfl rfl ?_
  first | refine Lp_g rfl rfl rfl (St_load1 H rfl rfl rfl ?_) | refine Lp_g rfl rfl rfl (St_loadN H rfl (by repeat (first | exact Reads.nil _ | apply Reads.cons rfl)) rfl ?_) | refine Lp_no rfl rfl rfl ?_ | refine Lp_nn rfl rfl ?_
  refine Lp_g rfl rfl rfl (St_call (a := []) (b := []) rfl rfl (call (Cut_none (r1, r2) H) ?_))
  clear H; rintro v w ⟨rfl, H⟩
  refine Lp_pv rfl rfl ?_
  first | refine Lp_pv rfl rfl ?_ | refine Lp_mv rfl rfl ?_
  first | refine Lp_gpv rfl rfl rfl rfl ?_ | refine Lp_no rfl rfl rfl ?_ | refine Lp_nn rfl rfl ?_
  refine Lp_pv rfl rfl ?_
  first | refine Lp_pv rfl rfl ?_ | refine Lp_mv rfl rfl ?_
  first | refine Lp_gpv rfl rfl rfl rfl ?_ | refine Lp_no rfl rfl rfl ?_ | refine Lp_nn rfl rfl ?_
  first | refine Lp_gpv rfl rfl rfl rfl ?_ | refine Lp_g rfl rfl rfl (St_eqPtrNil rfl rfl (.inr rfl) rfl ?_) | refine Lp_g rfl rfl rfl (St_eqMapNil rfl rfl (.inr rfl) rfl ?_) | refine Lp_g rfl rfl rfl (St_eqPair rfl rfl (.inr rfl) rfl ?_) | refine Lp_g rfl rfl rfl (St_eqBool rfl rfl (.inr rfl) rfl ?_) | refine Lp_g rfl rfl rfl (St_eqStr rfl rfl (.inr rfl) rfl ?_) | refine Lp_no rfl rfl rfl ?_ | refine Lp_nn rfl rfl ?_
  refine Lp_pv rfl rfl ?_
  first | refine Lp_pv rfl rfl ?_ | refine Lp_mv rfl rfl ?_
  first | refine Lp_gpv rfl rfl rfl rfl ?_ | refine Lp_no rfl rfl rfl ?_ | refine Lp_nn rfl rfl ?_
  first | refine Lp_gpv rfl rfl rfl rfl ?_ | refine Lp_no rfl rfl rfl ?_ | refine Lp_nn rfl rfl ?_
  refine Lp_g rfl rfl rfl (St_call (a := []) (b := []) rfl rfl (call (Of_none n H) ?_))
  clear H; rintro v w ⟨rfl, H⟩
  first | refine Lp_g rfl rfl rfl (St_lenSlice rfl rfl ?_) | refine Lp_no rfl rfl rfl ?_ | refine Lp_nn rfl rfl ?_
  first | refine Lp_gpv rfl rfl rfl rfl ?_ | refine Lp_g rfl rfl rfl (St_eqPtrNil rfl rfl (.inr rfl) rfl ?_) | refine Lp_g rfl rfl rfl (St_eqMapNil rfl rfl (.inr rfl) rfl ?_) | refine Lp_g rfl rfl rfl (St_eqPair rfl rfl (.inr rfl) rfl ?_) | refine Lp_g rfl rfl rfl (St_eqBool rfl rfl (.inr rfl) rfl ?_) | refine Lp_g rfl rfl rfl (St_eqStr rfl rfl (.inr rfl) rfl ?_) | refine Lp_no rfl rfl rfl ?_ | refine Lp_nn rfl rfl ?_
  refine Lp_pv rfl rfl ?_
  first | refine Lp_pv rfl rfl ?_ | refine Lp_mv rfl rfl ?_
  first | refine Lp_gpv rfl rfl rfl rfl ?_ | refine Lp_no rfl rfl rfl ?_ | refine Lp_nn rfl rfl ?_
  first | refine Lp_gpv rfl rfl rfl rfl ?_ | refine Lp_no rfl rfl rfl ?_ | refine Lp_nn rfl rfl ?_
  refine Lp_g rfl rfl rfl (St_call (a := []) (b := []) rfl rfl (call (From_none n H) ?_))
  clear H; rintro v w ⟨rfl, H⟩
  first | refine Lp_g rfl rfl rfl (St_lenSlice rfl rfl ?_) | refine Lp_no rfl rfl rfl ?_ | refine Lp_nn rfl rfl ?_
  first | refine Lp_gpv rfl rfl rfl rfl ?_ | refine Lp_g rfl rfl rfl (St_eqPtrNil rfl rfl (.inr rfl) rfl ?_) | refine Lp_g rfl rfl rfl (St_eqMapNil rfl rfl (.inr rfl) rfl ?_) | refine Lp_g rfl rfl rfl (St_eqPair rfl rfl (.inr rfl) rfl ?_) | refine Lp_g rfl rfl rfl (St_eqBool rfl rfl (.inr rfl) rfl ?_) | refine Lp_g rfl rfl rfl (St_eqStr rfl rfl (.inr rfl) rfl ?_) | refine Lp_no rfl rfl rfl ?_ | refine Lp_nn rfl rfl ?_
  refine Lp_pv rfl rfl ?_
  first | refine Lp_pv rfl rfl ?_ | refine Lp_mv rfl rfl ?_
  first | refine Lp_gpv rfl rfl rfl rfl ?_ | refine Lp_no rfl rfl rfl ?_ | refine Lp_nn rfl rfl ?_
  first | refine Lp_gpv rfl rfl rfl rfl ?_ | refine Lp_no rfl rfl rfl ?_ | refine Lp_nn rfl rfl ?_
  refine Lp_g rfl rfl rfl (St_call (a := []) (b := []) rfl rfl (call (Forget_none n H) ?_))
  clear H; rintro v w ⟨rfl, H⟩
  first | refine Lp_gpv rfl rfl rfl rfl ?_ | refine Lp_g rfl rfl rfl (St_eqPtrNil rfl rfl (.inr rfl) rfl ?_) | refine Lp_g rfl rfl rfl (St_eqMapNil rfl rfl (.inr rfl) rfl ?_) | refine Lp_g rfl rfl rfl (St_eqPair rfl rfl (.inr rfl) rfl ?_) | refine Lp_g rfl rfl rfl (St_eqBool rfl rfl (.inr rfl) rfl ?_) | refine Lp_g rfl rfl rfl (St_eqStr rfl rfl (.inr rfl) rfl ?_) | refine Lp_no rfl rfl rfl ?_ | refine Lp_nn rfl rfl ?_
  refine Lp_pv rfl rfl ?_
  first | refine Lp_pv rfl rfl ?_ | refine Lp_mv rfl rfl ?_
  first | refine Lp_gpv rfl rfl rfl rfl ?_ | refine Lp_no rfl rfl rfl ?_ | refine Lp_nn rfl rfl ?_
  refine Lp_g rfl rfl rfl (St_call (a := []) (b := []) rfl rfl (call (Len_none H) ?_))
  clear H; rintro v w ⟨rfl, H⟩
  first | refine Lp_gpv rfl rfl rfl rfl ?_ | refine Lp_g rfl rfl rfl (St_eqPtrNil rfl rfl (.inr rfl) rfl ?_) | refine Lp_g rfl rfl rfl (St_eqMapNil rfl rfl (.inr rfl) rfl ?_) | refine Lp_g rfl rfl rfl (St_eqPair rfl rfl (.inr rfl) rfl ?_) | refine Lp_g rfl rfl rfl (St_eqBool rfl rfl (.inr rfl) rfl ?_) | refine Lp_g rfl rfl rfl (St_eqStr rfl rfl (.inr rfl) rfl ?_) | refine Lp_no rfl rfl rfl ?_ | refine Lp_nn rfl rfl ?_
  refine Lp_pv rfl rfl ?_
  refine Lp_nil ?_
  repeat refine C_seq ?_
  refine C_false rfl (C_skip ?_)
  repeat refine C_seq ?_
  refine C_region ?_
  first | refine Lp_pv rfl rfl ?_ | refine Lp_mv rfl rfl ?_
  refine Lp_s rfl (St_lenSlice rfl rfl ?_)
  refine Lp_pv rfl rfl ?_
  refine Lp_nil ?_
  repeat refine C_seq ?_
  refine C_dec rfl (fun h => ?_) (fun h => C_skip ?_)
  · repeat refine C_seq ?_
    refine C_region ?_
    first | refine Lp_pv rfl rfl ?_ | refine Lp_mv rfl rfl ?_
    refine Lp_nil ?_
    replace H := Holds.sel [2] 2 H; dsimp only [SL.sel, SL.pull, List.drop] at H
    exact C_ret (fn_end0 _ (.inr rfl) H rfl fun w' H' => ⟨rfl, H'⟩)
  have h100 : l.length ≤ 100 := by omega
  repeat refine C_seq ?_
  refine C_region ?_
  refine Lp_s rfl (St_build rfl rfl ?_)
  first | (refine Lp_s rfl (St_boxN H rfl rfl ?_); clear H; intro b79 w H) | (refine Lp_s rfl (St_box1 H rfl rfl rfl ?_); clear H; intro b79 w H)
  first | refine Lp_pv rfl rfl ?_ | refine Lp_mv rfl rfl ?_
  refine Lp_nil ?_
  replace H := PS_in (L := []) (sls_nil H).swap
  repeat refine C_seq ?_
  refine C_region ?_
  first | refine Lp_pv rfl rfl ?_ | refine Lp_mv rfl rfl ?_
  (refine Lp_s rfl (St_buildSlice H rfl rfl rfl ?_); clear H; intro b81 w H)
  first | refine Lp_pv rfl rfl ?_ | refine Lp_mv rfl rfl ?_
  refine Lp_nil ?_
  generalize b79 = q at H
  replace H : Holds w (sls 3 1 (.slice (some ⟨b81, 0, none⟩) 1 1) (icells (asks n [])) :: PS q [] :: RS p [] :: pts b4 (row 24 [.int .i64 r1, .int .i64 r2]) :: old W :: []) := by
    refine sls_lit rfl ?_
    exact H
  repeat refine C_seq ?_
  refine C_region ?_
  first | refine Lp_pv rfl rfl ?_ | refine Lp_mv rfl rfl ?_
  refine Lp_s rfl (St_lenSlice rfl rfl ?_)
  first | refine Lp_pv rfl rfl ?_ | refine Lp_mv rfl rfl ?_
  refine Lp_nil ?_
  repeat refine C_seq ?_
  refine C_block ?_
  refine C_loop (fun ms σ w k => ms = [] ∧ ∃ (i : Nat) (g : Value) (L : List Pr), i ≤ l.length ∧ k = l.length - i ∧ Lk (grownM (l.take i)) L ∧ σ 2 = .int .i64 n ∧ σ 4 = pp b4 ∧ σ 10 = pp p ∧ σ 11 = pp q ∧ σ 12 = g ∧ σ 82 = .slice ad l.length cap ∧ σ 83 = .int .i64 l.length ∧ σ 84 = .int .i64 i ∧
    Holds w [sls 3 1 g (icells (asks n (l.take i))), PS q L, RS p (grownM (l.take i)), pts b4 (row 24 [.int .i64 r1, .int .i64 r2]), old W]) (m := l.length) ⟨rfl, 0, _, [], by omega, rfl, Lk.nil, rfl, rfl, rfl, rfl, rfl, rfl, rfl, rfl, H⟩ ?_
  clear H
  rintro ms σ w k ⟨rfl, i, g, L, hi, rfl, hk, h2, h4, h10, h11, h12, h82, h83, h84, H⟩
  rw [upd_self h2, upd_self h4, upd_self h10, upd_self h11, upd_self h12, upd_self h82, upd_self h83, upd_self h84]
  have hnd := nodup_grown (l.take i)
  have hlen := length_grown (l.take i)
  rw [List.length_take] at hlen
  have hLl := hk.length
  repeat refine C_seq ?_
  refine C_region ?_
  refine Lp_pv rfl rfl ?_
  refine Lp_nil ?_
  repeat refine C_seq ?_
  refine C_dec rfl (fun h => C_skip ?_) (fun h => C_exit ?_)
  · have hlt : i < l.length := by omega
    have ha := List.getElem?_eq_getElem hlt
    generalize l[i] = a at ha
    obtain ⟨b, o, E, fz, c, rfl, iold, hrd⟩ := hl.at ha
    have hgt := grown_take ha
    have hat := asks_take (n := n) ha
    have hal := asks_length n (l.take i)
    rw [List.length_take] at hal
    obtain ⟨kd, ⟨s1, s2⟩, nn⟩ := a
    repeat refine C_seq ?_
    refine C_block ?_
    repeat refine C_seq ?_
    refine C_region ?_
    refine Lp_s rfl (St_indexAddr rfl rfl (by omega) (by omega) rfl ?_)
    refine Lp_s rfl (St_loadN H rfl hrd rfl ?_)
    (refine Lp_s rfl (St_alloc H rfl ?_); clear H; intro b14 w H)
    first | (refine Lp_s rfl (St_store1 H rfl rfl inferInstance rfl (Nat.le_of_ble_eq_true rfl) rfl ?_); clear H; intro w H) | (refine Lp_s rfl (St_storeN H rfl rfl inferInstance rfl rfl (Nat.le_of_ble_eq_true rfl) rfl ?_); clear H; intro w H)
    refine Lp_nil ?_
    repeat refine C_seq ?_
    refine C_region ?_
    refine Lp_s rfl (St_fieldAddr rfl rfl ?_)
    first | refine Lp_s rfl (St_load1 H rfl rfl rfl ?_) | refine Lp_s rfl (St_loadN H rfl (by repeat (first | exact Reads.nil _ | apply Reads.cons rfl)) rfl ?_)
    refine Lp_nil ?_
    repeat refine C_seq ?_
    refine C_join (fun ms σ w => ms = [] ∧ ∃ L', Lk (grownM (l.take (i + 1))) L' ∧ σ 2 = .int .i64 n ∧ σ 4 = pp b4 ∧ σ 10 = pp p ∧ σ 11 = pp q ∧ σ 12 = g ∧ σ 14 = pp b14 ∧ σ 82 = .slice (some ⟨b, o, none⟩) l.length cap ∧ σ 83 = .int .i64 l.length ∧ σ 84 = .int .i64 i ∧
      Holds w [RS p (grownM (l.take (i + 1))), PS q L', pts b14 (row 42 [.int .i64 kd, .int .i64 s1, .int .i64 s2, .int .i64 nn]), sls 3 1 g (icells (asks n (l.take i))), pts b4 (row 24 [.int .i64 r1, .int .i64 r2]), old W]) ?_ ?_
    · refine C_block ?_
      replace H := Holds.sel [3, 2, 0, 0, 0, 0] 0 H; dsimp only [SL.sel, SL.pull, List.drop] at H
      repeat refine C_seq ?_
      refine C_region ?_
      first | refine Lp_pv rfl rfl ?_ | refine Lp_s rfl (St_eqPtrNil rfl rfl (.inl rfl) rfl ?_) | refine Lp_s rfl (St_eqMapNil rfl rfl (.inl rfl) rfl ?_) | refine Lp_s rfl (St_eqPair rfl rfl (.inl rfl) rfl ?_) | refine Lp_s rfl (St_eqBool rfl rfl (.inl rfl) rfl ?_) | refine Lp_s rfl (St_eqStr rfl rfl (.inl rfl) rfl ?_)
      first | refine Lp_pv rfl rfl ?_ | refine Lp_mv rfl rfl ?_
      refine Lp_nil ?_
      repeat refine C_seq ?_
      refine C_cond rfl (fun hz => ?_) (fun hz => ?_)
      · have hk0 : kd = 0 := by simpa using hz
        subst hk0
        repeat refine C_seq ?_
        refine C_drawH H mixed ?_
        clear H; intro w H
        refine A_pv 0 rfl (Wants.none rfl) rfl (by kernel_rfl) ?_
        refine A_fieldAddr 1 rfl (Wants.none rfl) rfl (by kernel_rfl) ?_
        first | refine A_load1 2 [5, 11] H rfl (Wants.none rfl) rfl rfl (by kernel_rfl) ?_ | refine A_loadN 2 [5, 11] H rfl (Wants.none rfl) rfl (by repeat (first | exact Reads.nil _ | apply Reads.cons rfl)) (by kernel_rfl) ?_
        refine A_fieldAddr 3 rfl (Wants.none rfl) rfl (by kernel_rfl) ?_
        first | refine A_load1 4 [5, 11] H rfl (Wants.none rfl) rfl rfl (by kernel_rfl) ?_ | refine A_loadN 4 [5, 11] H rfl (Wants.none rfl) rfl (by repeat (first | exact Reads.nil _ | apply Reads.cons rfl)) (by kernel_rfl) ?_
        refine A_pv 6 rfl (Wants.none rfl) rfl (by kernel_rfl) ?_
        refine A_fieldAddr 7 rfl (Wants.none rfl) rfl (by kernel_rfl) ?_
        first | refine A_load1 8 [11] H rfl (Wants.none rfl) rfl rfl (by kernel_rfl) ?_ | refine A_loadN 8 [11] H rfl (Wants.none rfl) rfl (by repeat (first | exact Reads.nil _ | apply Reads.cons rfl)) (by kernel_rfl) ?_
        refine A_fieldAddr 9 rfl (Wants.none rfl) rfl (by kernel_rfl) ?_
        first | refine A_load1 10 [11] H rfl (Wants.none rfl) rfl rfl (by kernel_rfl) ?_ | refine A_loadN 10 [11] H rfl (Wants.none rfl) rfl (by repeat (first | exact Reads.nil _ | apply Reads.cons rfl)) (by kernel_rfl) ?_
        refine A_one 5 rfl (by kernel_rfl) (by repeat (first | exact InvL.nil | refine InvL.cons (.inr (Holds.at H)) ?_ | refine InvL.cons (.inr (Holds.mp H)) ?_ | refine InvL.cons (.inl (by kernel_rfl)) ?_)) (Wants.none rfl) (St_call (a := []) (b := []) rfl rfl (call (Put_spec p _ hnd (s1, s2) nn H) ?_))
        clear H; rintro v w ⟨rfl, H⟩
        refine A_one 11 rfl (by kernel_rfl) (by repeat (first | exact InvL.nil | refine InvL.cons (.inr (Holds.at H)) ?_ | refine InvL.cons (.inr (Holds.mp H)) ?_ | refine InvL.cons (.inl (by kernel_rfl)) ?_)) (Wants.none rfl) (St_call (a := []) (b := []) rfl rfl (call (rPut_spec q L (by omega) (s1, s2) nn H.swap) ?_))
        clear H; rintro v w ⟨rfl, H⟩
        rw [hk.cut_lt]
        first | refine A_pv 12 rfl (Wants.none rfl) rfl (by kernel_rfl) ?_ | refine A_eqPair 12 rfl (Wants.none rfl) rfl rfl (.inr rfl) (by kernel_rfl) ?_ | refine A_eqPtrNil 12 rfl (Wants.none rfl) rfl rfl (.inr rfl) (by kernel_rfl) ?_ | refine A_eqBool 12 rfl (Wants.none rfl) rfl rfl (.inr rfl) (by kernel_rfl) ?_ | refine A_eqStr 12 rfl (Wants.none rfl) rfl rfl (.inr rfl) (by kernel_rfl) ?_
        refine A_end (by kernel_rfl) (by repeat (first | exact InvL.nil | refine InvL.cons (.inr (Holds.at H)) ?_ | refine InvL.cons (.inr (Holds.mp H)) ?_ | refine InvL.cons (.inl (by kernel_rfl)) ?_)) ?_
        repeat refine C_seq ?_
        refine C_cond rfl (fun h => absurd h (by simp [isEql])) (fun h => C_skip ?_)
        have hk' := hk.put (s1, s2) nn
        have hgt2 : grownM (l.take (i + 1)) = ins (era (grownM (l.take i)) (s1, s2)) (s1, s2) nn := hgt
        rw [← hgt2] at hk' H
        exact ⟨rfl, rfl, _, hk', rfl, rfl, rfl, rfl, rfl, rfl, rfl, rfl, rfl, H.swap⟩
      · have hk0 : kd ≠ 0 := by simpa using hz
        repeat refine C_seq ?_
        refine C_region ?_
        first | refine Lp_pv rfl rfl ?_ | refine Lp_s rfl (St_eqPtrNil rfl rfl (.inl rfl) rfl ?_) | refine Lp_s rfl (St_eqMapNil rfl rfl (.inl rfl) rfl ?_) | refine Lp_s rfl (St_eqPair rfl rfl (.inl rfl) rfl ?_) | refine Lp_s rfl (St_eqBool rfl rfl (.inl rfl) rfl ?_) | refine Lp_s rfl (St_eqStr rfl rfl (.inl rfl) rfl ?_)
        first | refine Lp_pv rfl rfl ?_ | refine Lp_mv rfl rfl ?_
        refine Lp_nil ?_
        repeat refine C_seq ?_
        refine C_cond rfl (fun hz => ?_) (fun hz => ?_)
        · have hk1 : kd = 1 := by simpa using hz
          subst hk1
          repeat refine C_seq ?_
          refine C_drawH H mixed ?_
          clear H; intro w H
          refine A_pv 0 rfl (Wants.none rfl) rfl (by kernel_rfl) ?_
          refine A_fieldAddr 1 rfl (Wants.none rfl) rfl (by kernel_rfl) ?_
          first | refine A_load1 2 [3, 7] H rfl (Wants.none rfl) rfl rfl (by kernel_rfl) ?_ | refine A_loadN 2 [3, 7] H rfl (Wants.none rfl) rfl (by repeat (first | exact Reads.nil _ | apply Reads.cons rfl)) (by kernel_rfl) ?_
          refine A_pv 4 rfl (Wants.none rfl) rfl (by kernel_rfl) ?_
          refine A_fieldAddr 5 rfl (Wants.none rfl) rfl (by kernel_rfl) ?_
          first | refine A_load1 6 [7] H rfl (Wants.none rfl) rfl rfl (by kernel_rfl) ?_ | refine A_loadN 6 [7] H rfl (Wants.none rfl) rfl (by repeat (first | exact Reads.nil _ | apply Reads.cons rfl)) (by kernel_rfl) ?_
          refine A_one 3 rfl (by kernel_rfl) (by repeat (first | exact InvL.nil | refine InvL.cons (.inr (Holds.at H)) ?_ | refine InvL.cons (.inr (Holds.mp H)) ?_ | refine InvL.cons (.inl (by kernel_rfl)) ?_)) (Wants.none rfl) (St_call (a := []) (b := []) rfl rfl (call (Cut_spec p _ hnd (s1, s2) H) ?_))
          clear H; rintro v w ⟨rfl, H⟩
          refine A_one 7 rfl (by kernel_rfl) (by repeat (first | exact InvL.nil | refine InvL.cons (.inr (Holds.at H)) ?_ | refine InvL.cons (.inr (Holds.mp H)) ?_ | refine InvL.cons (.inl (by kernel_rfl)) ?_)) (Wants.none rfl) (St_call (a := []) (b := []) rfl rfl (call (rCut_spec q L (by omega) (s1, s2) H.swap) ?_))
          clear H; rintro v w ⟨rfl, H⟩
          rw [hk.cut_lt]
          first | refine A_pv 8 rfl (Wants.none rfl) rfl (by kernel_rfl) ?_ | refine A_eqPair 8 rfl (Wants.none rfl) rfl rfl (.inr rfl) (by kernel_rfl) ?_ | refine A_eqPtrNil 8 rfl (Wants.none rfl) rfl rfl (.inr rfl) (by kernel_rfl) ?_ | refine A_eqBool 8 rfl (Wants.none rfl) rfl rfl (.inr rfl) (by kernel_rfl) ?_ | refine A_eqStr 8 rfl (Wants.none rfl) rfl rfl (.inr rfl) (by kernel_rfl) ?_
          refine A_end (by kernel_rfl) (by repeat (first | exact InvL.nil | refine InvL.cons (.inr (Holds.at H)) ?_ | refine InvL.cons (.inr (Holds.mp H)) ?_ | refine InvL.cons (.inl (by kernel_rfl)) ?_)) ?_
          repeat refine C_seq ?_
          refine C_cond rfl (fun h => absurd h (by simp [isEql])) (fun h => C_skip ?_)
          have hk' := hk.cut (s1, s2)
          have hgt2 : grownM (l.take (i + 1)) = era (grownM (l.take i)) (s1, s2) := hgt
          rw [← hgt2] at hk' H
          exact ⟨rfl, rfl, _, hk', rfl, rfl, rfl, rfl, rfl, rfl, rfl, rfl, rfl, H.swap⟩
        · have hk1 : kd ≠ 1 := by simpa using hz
          repeat refine C_seq ?_
          refine C_region ?_
          first | refine Lp_pv rfl rfl ?_ | refine Lp_s rfl (St_eqPtrNil rfl rfl (.inl rfl) rfl ?_) | refine Lp_s rfl (St_eqMapNil rfl rfl (.inl rfl) rfl ?_) | refine Lp_s rfl (St_eqPair rfl rfl (.inl rfl) rfl ?_) | refine Lp_s rfl (St_eqBool rfl rfl (.inl rfl) rfl ?_) | refine Lp_s rfl (St_eqStr rfl rfl (.inl rfl) rfl ?_)
          first | refine Lp_pv rfl rfl ?_ | refine Lp_mv rfl rfl ?_
          refine Lp_nil ?_
          repeat refine C_seq ?_
          refine C_cond rfl (fun hz => ?_) (fun hz => ?_)
          · have hk2 : kd = 2 := by simpa using hz
            subst hk2
            repeat refine C_seq ?_
            refine C_drawH H mixed ?_
            clear H; intro w H
            refine A_pv 0 rfl (Wants.none rfl) rfl (by kernel_rfl) ?_
            refine A_fieldAddr 1 rfl (Wants.none rfl) rfl (by kernel_rfl) ?_
            first | refine A_load1 2 [3, 7] H rfl (Wants.none rfl) rfl rfl (by kernel_rfl) ?_ | refine A_loadN 2 [3, 7] H rfl (Wants.none rfl) rfl (by repeat (first | exact Reads.nil _ | apply Reads.cons rfl)) (by kernel_rfl) ?_
            refine A_pv 4 rfl (Wants.none rfl) rfl (by kernel_rfl) ?_
            refine A_fieldAddr 5 rfl (Wants.none rfl) rfl (by kernel_rfl) ?_
            first | refine A_load1 6 [7] H rfl (Wants.none rfl) rfl rfl (by kernel_rfl) ?_ | refine A_loadN 6 [7] H rfl (Wants.none rfl) rfl (by repeat (first | exact Reads.nil _ | apply Reads.cons rfl)) (by kernel_rfl) ?_
            refine A_one 3 rfl (by kernel_rfl) (by repeat (first | exact InvL.nil | refine InvL.cons (.inr (Holds.at H)) ?_ | refine InvL.cons (.inr (Holds.mp H)) ?_ | refine InvL.cons (.inl (by kernel_rfl)) ?_)) (Wants.none rfl) (St_call (a := []) (b := []) rfl rfl (call (Forget_spec p _ hnd (by omega) nn H) ?_))
            clear H
            rintro v w ⟨ks, hks, hs, rfl, H⟩
            have hfk := hk.from hks hs
            refine A_one 7 rfl (by kernel_rfl) (by repeat (first | exact InvL.nil | refine InvL.cons (.inr (Holds.at H)) ?_ | refine InvL.cons (.inr (Holds.mp H)) ?_ | refine InvL.cons (.inl (by kernel_rfl)) ?_)) (Wants.none rfl) (St_call (a := []) (b := []) rfl rfl (call (forget_spec q L (by omega) nn H.swap) ?_))
            clear H; rintro v w ⟨rfl, H⟩
            rw [hfk] at H ⊢
            first | refine A_pv 8 rfl (Wants.none rfl) rfl (by kernel_rfl) ?_ | refine A_eqPair 8 rfl (Wants.none rfl) rfl rfl (.inr rfl) (by kernel_rfl) ?_ | refine A_eqPtrNil 8 rfl (Wants.none rfl) rfl rfl (.inr rfl) (by kernel_rfl) ?_ | refine A_eqBool 8 rfl (Wants.none rfl) rfl rfl (.inr rfl) (by kernel_rfl) ?_ | refine A_eqStr 8 rfl (Wants.none rfl) rfl rfl (.inr rfl) (by kernel_rfl) ?_
            refine A_end (by kernel_rfl) (by repeat (first | exact InvL.nil | refine InvL.cons (.inr (Holds.at H)) ?_ | refine InvL.cons (.inr (Holds.mp H)) ?_ | refine InvL.cons (.inl (by kernel_rfl)) ?_)) ?_
            repeat refine C_seq ?_
            refine C_cond rfl (fun h => absurd h (by simp [isEql])) (fun h => C_skip ?_)
            have hk' := hk.cuts ks
            have hgt2 : grownM (l.take (i + 1)) = ks.foldl era (grownM (l.take i)) := by
              rw [foldl_forget hnd hks]
              exact hgt
            rw [← hgt2] at hk' H
            exact ⟨rfl, rfl, _, hk', rfl, rfl, rfl, rfl, rfl, rfl, rfl, rfl, rfl, H.swap⟩
          · have hk2 : kd ≠ 2 := by simpa using hz
            refine C_skip ?_
            have hgt2 : grownM (l.take (i + 1)) = grownM (l.take i) := by
              rw [hgt]
              unfold act1
              rw [if_neg hk0, if_neg hk1, if_neg hk2]
            rw [← hgt2] at hk H
            refine ⟨rfl, rfl, _, hk, rfl, rfl, rfl, rfl, rfl, rfl, rfl, rfl, rfl, ?_⟩
            exact H
    · clear H hk hLl
      rintro ms σ w ⟨rfl, L', hk, h2, h4, h10, h11, h12, h14, h82, h83, h84, H⟩
      rw [upd_self h2, upd_self h4, upd_self h10, upd_self h11, upd_self h12, upd_self h14, upd_self h82, upd_self h83, upd_self h84]
      repeat refine C_seq ?_
      refine C_region ?_
      first | refine Lp_pv rfl rfl ?_ | refine Lp_mv rfl rfl ?_
      refine Lp_s rfl (St_fieldAddr rfl rfl ?_)
      first | refine Lp_s rfl (St_load1 H rfl rfl rfl ?_) | refine Lp_s rfl (St_loadN H rfl (by repeat (first | exact Reads.nil _ | apply Reads.cons rfl)) rfl ?_)
      refine Lp_s rfl (St_fieldAddr rfl rfl ?_)
      refine Lp_s rfl (St_fieldAddr rfl rfl ?_)
      first | refine Lp_s rfl (St_load1 H rfl rfl rfl ?_) | refine Lp_s rfl (St_loadN H rfl (by repeat (first | exact Reads.nil _ | apply Reads.cons rfl)) rfl ?_)
      (refine Lp_s rfl (St_buildSlice H rfl rfl rfl ?_); clear H; intro b133 w H)
      replace H := Holds.sel [4, 0, 0, 0, 0, 0, 0] 0 H; dsimp only [SL.sel, SL.pull, List.drop] at H
      refine Lp_s rfl (St_append H rfl rfl (by repeat (first | exact Reads.nil _ | apply Reads.cons rfl)) rfl (by decide) (by simp only [icells_length, List.length_cons, List.length_nil]; omega) rfl rfl ?_); clear H; intro v134 w H
      first | refine Lp_pv rfl rfl ?_ | refine Lp_mv rfl rfl ?_
      refine Lp_nil ?_
      repeat refine C_seq ?_
      refine C_region ?_
      refine Lp_pv rfl rfl ?_
      first | refine Lp_pv rfl rfl ?_ | refine Lp_mv rfl rfl ?_
      refine Lp_nil ?_
      replace H := Holds.sel [0, 2, 1, 2, 2] 2 H; dsimp only [SL.sel, SL.pull, List.drop] at H
      refine ⟨_, ⟨rfl, i + 1, v134, L', hlt, rfl, hk, rfl, rfl, rfl, rfl, rfl, rfl, rfl, inc64 (by omega), ?_⟩, by omega⟩
      rw [hat]
      have hic : icells (asks n (l.take i) ++ [nn, s1]) = icells (asks n (l.take i)) ++ [.int .i64 nn, .int .i64 s1] := by simp [icells]
      rw [hic]
      exact H
  · have hge : i = l.length := by omega
    subst hge
    rw [List.take_length] at H hk hnd
    rw [Nat.min_self] at hlen
    have hal := asks_length n l
    rw [List.take_length] at hLl hlen
    generalize grownM l = m at H hk hnd hLl hlen
    generalize asks n l = A at H hal
    obtain ⟨ag, cg, rfl⟩ := sls_slice (m := A.length) H (by rw [icells_length]) (by decide)
    repeat refine C_seq ?_
    refine C_region ?_
    first | refine Lp_pv rfl rfl ?_ | refine Lp_mv rfl rfl ?_
    refine Lp_s rfl (St_lenSlice rfl rfl ?_)
    first | refine Lp_pv rfl rfl ?_ | refine Lp_mv rfl rfl ?_
    refine Lp_nil ?_
    repeat refine C_seq ?_
    refine C_block ?_
    refine C_loop (fun ms σ w k => ms = [] ∧ ∃ (i : Nat), i ≤ A.length ∧ k = A.length - i ∧ σ 4 = pp b4 ∧ σ 10 = pp p ∧ σ 11 = pp q ∧ σ 136 = .slice ag A.length cg ∧ σ 137 = .int .i64 A.length ∧ σ 138 = .int .i64 i ∧
      Holds w [sls 3 1 (.slice ag A.length cg) (icells A), PS q L, RS p m, pts b4 (row 24 [.int .i64 r1, .int .i64 r2]), old W]) (m := A.length) ⟨rfl, 0, by omega, rfl, rfl, rfl, rfl, rfl, rfl, rfl, H⟩ ?_
    clear H
    rintro ms σ w k ⟨rfl, i, hi, rfl, h4, h10, h11, h136, h137, h138, H⟩
    rw [upd_self h4, upd_self h10, upd_self h11, upd_self h136, upd_self h137, upd_self h138]
    repeat refine C_seq ?_
    refine C_region ?_
    refine Lp_pv rfl rfl ?_
    refine Lp_nil ?_
    repeat refine C_seq ?_
    refine C_dec rfl (fun h => C_skip ?_) (fun h => C_exit ?_)
    · have hlt : i < A.length := by omega
      have ha := List.getElem?_eq_getElem hlt
      generalize A[i] = x at ha
      obtain ⟨bo, so, rfl, H, hclose⟩ := sls_open H (by omega)
      repeat refine C_seq ?_
      refine C_block ?_
      repeat refine C_seq ?_
      refine C_region ?_
      refine Lp_s rfl (St_indexAddr rfl rfl (by omega) (by omega) rfl ?_)
      refine Lp_s rfl (St_load1 H rfl (icells_reads ha) rfl ?_)
      first | refine Lp_pv rfl rfl ?_ | refine Lp_mv rfl rfl ?_
      refine Lp_nil ?_
      repeat refine C_seq ?_
      refine C_region ?_
      first | refine Lp_pv rfl rfl ?_ | refine Lp_mv rfl rfl ?_
      first | refine Lp_pv rfl rfl ?_ | refine Lp_mv rfl rfl ?_
      replace H := Holds.sel [2, 1, 0, 0, 0] 0 H; dsimp only [SL.sel, SL.pull, List.drop] at H
      refine Lp_s rfl (St_call (a := []) (b := []) rfl rfl (call (Of_spec p m (by omega) x H) ?_))
      clear H
      rintro v144 w ⟨ko, hko, hso, H⟩
      have hol : ko.length ≤ m.length := rising_len (m := m) hso fun r hr => by rw [(hko r).1 hr]; rfl
      first | refine Lp_pv rfl rfl ?_ | refine Lp_mv rfl rfl ?_
      first | refine Lp_pv rfl rfl ?_ | refine Lp_mv rfl rfl ?_
      replace H := Holds.sel [2, 1, 0, 0, 0, 0] 0 H; dsimp only [SL.sel, SL.pull, List.drop] at H
      refine Lp_s rfl (St_call (a := []) (b := []) rfl rfl (call (rOf_spec q L (by omega) x H) ?_))
      clear H
      rintro v147 w H
      rw [hk.of hko hso] at H
      
      replace H := Holds.sel [3, 0, 0, 0, 0, 0, 0] 0 H; dsimp only [SL.sel, SL.pull, List.drop] at H
      refine Lp_s rfl (St_call (a := []) (b := []) rfl rfl (call (Same_spec v144 v147 ko ko (by omega) H) ?_))
      clear H; rintro v w ⟨rfl, H⟩
      rw [show decide (ko = ko) = true from decide_eq_true rfl]
      refine Lp_pv rfl rfl ?_
      first | refine Lp_pv rfl rfl ?_ | refine Lp_mv rfl rfl ?_
      first | refine Lp_gpv rfl rfl rfl rfl ?_ | refine Lp_no rfl rfl rfl ?_ | refine Lp_nn rfl rfl ?_
      first | refine Lp_gpv rfl rfl rfl rfl ?_ | refine Lp_no rfl rfl rfl ?_ | refine Lp_nn rfl rfl ?_
      replace H := Holds.sel [3, 2, 2, 2, 2] 2 H; dsimp only [SL.sel, SL.pull, List.drop] at H
      refine Lp_g rfl rfl rfl (St_call (a := []) (b := []) rfl rfl (call (From_spec p m (by omega) x H) ?_))
      clear H
      rintro v153 w ⟨kf, hkf, hsf, H⟩
      have hfl : kf.length ≤ m.length := rising_len (m := m) hsf fun r hr => ((hkf r).1 hr).2
      first | refine Lp_gpv rfl rfl rfl rfl ?_ | refine Lp_no rfl rfl rfl ?_ | refine Lp_nn rfl rfl ?_
      first | refine Lp_gpv rfl rfl rfl rfl ?_ | refine Lp_no rfl rfl rfl ?_ | refine Lp_nn rfl rfl ?_
      replace H := Holds.sel [2, 1, 0, 0, 0, 0] 0 H; dsimp only [SL.sel, SL.pull, List.drop] at H
      refine Lp_g rfl rfl rfl (St_call (a := []) (b := []) rfl rfl (call (rFrom_spec q L (by omega) x H) ?_))
      clear H
      rintro v156 w H
      rw [hk.from hkf hsf] at H
      
      replace H := Holds.sel [3, 0, 0, 0, 0, 0, 0] 0 H; dsimp only [SL.sel, SL.pull, List.drop] at H
      refine Lp_g rfl rfl rfl (St_call (a := []) (b := []) rfl rfl (call (Same_spec v153 v156 kf kf (by omega) H) ?_))
      clear H; rintro v w ⟨rfl, H⟩
      rw [show decide (kf = kf) = true from decide_eq_true rfl]
      first | refine Lp_gpv rfl rfl rfl rfl ?_ | refine Lp_no rfl rfl rfl ?_ | refine Lp_nn rfl rfl ?_
      refine Lp_pv rfl rfl ?_
      refine Lp_nil ?_
      repeat refine C_seq ?_
      refine C_false rfl (C_skip ?_)
      repeat refine C_seq ?_
      refine C_region ?_
      refine Lp_pv rfl rfl ?_
      first | refine Lp_pv rfl rfl ?_ | refine Lp_mv rfl rfl ?_
      refine Lp_nil ?_
      replace H := Holds.sel [4, 2, 2, 2, 2] 2 H; dsimp only [SL.sel, SL.pull, List.drop] at H
      replace H := hclose _ _ H
      exact ⟨_, ⟨rfl, i + 1, hlt, rfl, rfl, rfl, rfl, rfl, rfl, inc64 (by omega), H⟩, by omega⟩
    · replace H := Holds.sel [2, 1, 1, 1] 1 H; dsimp only [SL.sel, SL.pull, List.drop] at H
      repeat refine C_seq ?_
      refine C_region ?_
      first | refine Lp_pv rfl rfl ?_ | refine Lp_mv rfl rfl ?_
      first | refine Lp_s rfl (St_load1 H rfl rfl rfl ?_) | refine Lp_s rfl (St_loadN H rfl (by repeat (first | exact Reads.nil _ | apply Reads.cons rfl)) rfl ?_)
      refine Lp_s rfl (St_call (a := []) (b := []) rfl rfl (call (To_spec p m (r1, r2) H) ?_))
      clear H; rintro v w ⟨rfl, H⟩
      first | refine Lp_pv rfl rfl ?_ | refine Lp_mv rfl rfl ?_
      refine Lp_pv rfl rfl ?_
      refine Lp_pv rfl rfl ?_
      first | refine Lp_pv rfl rfl ?_ | refine Lp_mv rfl rfl ?_
      first | refine Lp_pv rfl rfl ?_ | refine Lp_mv rfl rfl ?_
      refine Lp_nil ?_
      repeat refine C_seq ?_
      refine C_region ?_
      first | refine Lp_pv rfl rfl ?_ | refine Lp_mv rfl rfl ?_
      first | refine Lp_s rfl (St_load1 H rfl rfl rfl ?_) | refine Lp_s rfl (St_loadN H rfl (by repeat (first | exact Reads.nil _ | apply Reads.cons rfl)) rfl ?_)
      refine Lp_s rfl (St_call (a := []) (b := []) rfl rfl (call (rTo_spec q L (by omega) (r1, r2) H.swap) ?_))
      clear H; rintro v w ⟨rfl, H⟩
      rw [hk.2.2]
      first | refine Lp_pv rfl rfl ?_ | refine Lp_mv rfl rfl ?_
      refine Lp_pv rfl rfl ?_
      refine Lp_pv rfl rfl ?_
      first | refine Lp_pv rfl rfl ?_ | refine Lp_mv rfl rfl ?_
      first | refine Lp_pv rfl rfl ?_ | refine Lp_mv rfl rfl ?_
      refine Lp_nil ?_
      obtain ⟨aq, cq, H⟩ := PS_out H
      replace H := Holds.sel [2, 0, 0, 0, 0] 0 H; dsimp only [SL.sel, SL.pull, List.drop] at H
      repeat refine C_seq ?_
      refine C_drawH H mixed ?_
      clear H; intro w H
      refine A_pv 0 rfl (Wants.none rfl) rfl (by kernel_rfl) ?_
      refine A_pv 1 rfl (Wants.none rfl) rfl (by kernel_rfl) ?_
      first | refine A_pv 2 rfl (Wants.none rfl) rfl (by kernel_rfl) ?_ | refine A_eqPair 2 rfl (Wants.none rfl) rfl rfl (.inl rfl) (by kernel_rfl) ?_ | refine A_eqPtrNil 2 rfl (Wants.none rfl) rfl rfl (.inl rfl) (by kernel_rfl) ?_ | refine A_eqBool 2 rfl (Wants.none rfl) rfl rfl (.inl rfl) (by kernel_rfl) ?_ | refine A_eqStr 2 rfl (Wants.none rfl) rfl rfl (.inl rfl) (by kernel_rfl) ?_
      rw [show ((fnd m (r1, r2)).getD 0 == (fnd m (r1, r2)).getD 0) = true from beq_self_eq_true _]
      refine A_pv 3 rfl (Wants.none rfl) rfl (by kernel_rfl) ?_
      first | refine A_pv 4 rfl (Wants.of rfl rfl rfl) rfl (by kernel_rfl) ?_ | refine A_no 4 rfl (Wants.of rfl rfl rfl) (fun c e => by cases e) (by kernel_rfl) ?_ | refine A_no 4 rfl (Wants.skip rfl rfl) (fun c e => by cases e) (by kernel_rfl) ?_
      first | refine A_pv 5 rfl (Wants.of rfl rfl rfl) rfl (by kernel_rfl) ?_ | refine A_no 5 rfl (Wants.of rfl rfl rfl) (fun c e => by cases e) (by kernel_rfl) ?_ | refine A_no 5 rfl (Wants.skip rfl rfl) (fun c e => by cases e) (by kernel_rfl) ?_
      first | refine A_pv 6 rfl (Wants.of rfl rfl rfl) rfl (by kernel_rfl) ?_ | refine A_eqPair 6 rfl (Wants.of rfl rfl rfl) rfl rfl (.inl rfl) (by kernel_rfl) ?_ | refine A_eqPtrNil 6 rfl (Wants.of rfl rfl rfl) rfl rfl (.inl rfl) (by kernel_rfl) ?_ | refine A_eqBool 6 rfl (Wants.of rfl rfl rfl) rfl rfl (.inl rfl) (by kernel_rfl) ?_ | refine A_eqStr 6 rfl (Wants.of rfl rfl rfl) rfl rfl (.inl rfl) (by kernel_rfl) ?_ | refine A_no 6 rfl (Wants.of rfl rfl rfl) (fun c e => by cases e) (by kernel_rfl) ?_ | refine A_no 6 rfl (Wants.skip rfl rfl) (fun c e => by cases e) (by kernel_rfl) ?_
      rw [show ((fnd m (r1, r2)).isSome == (fnd m (r1, r2)).isSome) = true from beq_self_eq_true _]
      refine A_pv 7 rfl (Wants.none rfl) rfl (by kernel_rfl) ?_
      refine A_pv 8 rfl (Wants.none rfl) rfl (by kernel_rfl) ?_
      first | refine A_pv 9 rfl (Wants.of rfl rfl rfl) rfl (by kernel_rfl) ?_ | refine A_no 9 rfl (Wants.of rfl rfl rfl) (fun c e => by cases e) (by kernel_rfl) ?_ | refine A_no 9 rfl (Wants.skip rfl rfl) (fun c e => by cases e) (by kernel_rfl) ?_
      first | refine A_pv 11 rfl (Wants.of rfl rfl rfl) rfl (by kernel_rfl) ?_ | refine A_no 11 rfl (Wants.of rfl rfl rfl) (fun c e => by cases e) (by kernel_rfl) ?_ | refine A_no 11 rfl (Wants.skip rfl rfl) (fun c e => by cases e) (by kernel_rfl) ?_
      first | refine A_pv 12 rfl (Wants.of rfl rfl rfl) rfl (by kernel_rfl) ?_ | refine A_no 12 rfl (Wants.of rfl rfl rfl) (fun c e => by cases e) (by kernel_rfl) ?_ | refine A_no 12 rfl (Wants.skip rfl rfl) (fun c e => by cases e) (by kernel_rfl) ?_
      first | refine A_fieldAddr 13 rfl (Wants.of rfl rfl rfl) rfl (by kernel_rfl) ?_ | refine A_no 13 rfl (Wants.of rfl rfl rfl) (fun c e => by cases e) (by kernel_rfl) ?_ | refine A_no 13 rfl (Wants.skip rfl rfl) (fun c e => by cases e) (by kernel_rfl) ?_
      first | refine A_load1 14 [] H rfl (Wants.of rfl rfl rfl) rfl rfl (by kernel_rfl) ?_ | refine A_loadN 14 [] H rfl (Wants.of rfl rfl rfl) rfl (by repeat (first | exact Reads.nil _ | apply Reads.cons rfl)) (by kernel_rfl) ?_ | refine A_no 14 rfl (Wants.of rfl rfl rfl) (fun c e => by cases e) (by kernel_rfl) ?_ | refine A_no 14 rfl (Wants.skip rfl rfl) (fun c e => by cases e) (by kernel_rfl) ?_
      first | refine A_lenSlice 15 rfl (Wants.of rfl rfl rfl) rfl (by kernel_rfl) ?_ | refine A_no 15 rfl (Wants.of rfl rfl rfl) (fun c e => by cases e) (by kernel_rfl) ?_ | refine A_no 15 rfl (Wants.skip rfl rfl) (fun c e => by cases e) (by kernel_rfl) ?_
      refine A_one 10 rfl (by kernel_rfl) (by repeat (first | exact InvL.nil | refine InvL.cons (.inr (Holds.at H)) ?_ | refine InvL.cons (.inr (Holds.mp H)) ?_ | refine InvL.cons (.inl (by kernel_rfl)) ?_)) (Wants.of rfl rfl rfl) (St_call (a := []) (b := []) rfl rfl (call (Len_spec p m H) ?_))
      clear H; rintro v w ⟨rfl, H⟩
      first | refine A_pv 16 rfl (Wants.of rfl rfl rfl) rfl (by kernel_rfl) ?_ | refine A_eqPair 16 rfl (Wants.of rfl rfl rfl) rfl rfl (.inl rfl) (by kernel_rfl) ?_ | refine A_eqPtrNil 16 rfl (Wants.of rfl rfl rfl) rfl rfl (.inl rfl) (by kernel_rfl) ?_ | refine A_eqBool 16 rfl (Wants.of rfl rfl rfl) rfl rfl (.inl rfl) (by kernel_rfl) ?_ | refine A_eqStr 16 rfl (Wants.of rfl rfl rfl) rfl rfl (.inl rfl) (by kernel_rfl) ?_ | refine A_no 16 rfl (Wants.of rfl rfl rfl) (fun c e => by cases e) (by kernel_rfl) ?_ | refine A_no 16 rfl (Wants.skip rfl rfl) (fun c e => by cases e) (by kernel_rfl) ?_
      rw [show ((m.length : Int) == (L.length : Int)) = true by rw [hLl]; exact beq_self_eq_true _]
      refine A_pv 17 rfl (Wants.none rfl) rfl (by kernel_rfl) ?_
      refine A_pv 18 rfl (Wants.none rfl) rfl (by kernel_rfl) ?_
      refine A_end (by kernel_rfl) (by repeat (first | exact InvL.nil | refine InvL.cons (.inr (Holds.at H)) ?_ | refine InvL.cons (.inr (Holds.mp H)) ?_ | refine InvL.cons (.inl (by kernel_rfl)) ?_)) ?_
      replace H := Holds.sel [4] 4 H; dsimp only [SL.sel, SL.pull, List.drop] at H
      exact C_ret (fn_end0 _ (.inr rfl) H rfl fun w' H' => ⟨rfl, H'⟩)
end Go.Proofs.Ytdpephigccnkdaa
