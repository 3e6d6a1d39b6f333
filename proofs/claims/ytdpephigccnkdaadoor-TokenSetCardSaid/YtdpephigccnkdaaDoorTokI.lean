/- Tokens: the statements' example. No condition. -/
import Derived.Test.YtdpephigccnkdaaDoorTokH
set_option linter.unusedVariables false
set_option linter.unusedSimpArgs false
set_option linter.unusedSectionVars false
namespace Go.Proofs.YtdpephigccnkdaaDoor
open Go.SL

theorem text_12_3 : textT (12, 3) = [35, 49, 50, 46, 51] := by
  show [35] ++ Lib.decDigits 12 ++ [46] ++ Lib.decDigits 3 = _
  rw [dec_big (u := 12) (by decide), dec_small (u := 12 / 10) (by decide), dec_small (u := 3) (by decide)]
  rfl

theorem sorted_3 {us : List Tk} {e : Int} (h : Sorted [(2, 1), (1, 9), (2, 1)] us e) : e = 0 ∧ us = [(1, 9), (2, 1)] := by
  have hall : ∀ t ∈ ([(2, 1), (1, 9), (2, 1)] : List Tk), rightB t = true := by decide
  rcases h with ⟨_, _, t, ht, h⟩ | ⟨_, _, _, h⟩ | ⟨he, _, _, hr, hm⟩
  · rw [hall t ht] at h; cases h
  · simp at h
  · refine ⟨he, risT_unique hr (by simp [RisT, ltT]) fun r => ?_⟩
    rw [hm]
    simp only [List.mem_cons, List.not_mem_nil, or_false]
    constructor
    · rintro (h | h | h)
      · exact .inr h
      · exact .inl h
      · exact .inr h
    · rintro (h | h)
      · exact .inr (.inl h)
      · exact .inl h

set_option maxHeartbeats 4000000 in
theorem talive_spec [Extra] {W : World} (hp : Pow W) {w : World} {fr : List HProp} (H : Holds w (old W :: fr)) : Calls Tryd.prog 14 #[] w (ret fun v w' => v = .bool true ∧ Holds w' (old W :: fr)) := by
  refine calls_of Tryd.func14 rfl (by kernel_rfl) ?_
  repeat refine C_seq ?_
  refine C_region ?_
  first | refine Lp_pv rfl rfl ?_ | refine Lp_mv rfl rfl ?_
  refine Lp_nil ?_
  repeat refine C_seq ?_
  refine C_region ?_
  refine Lp_s rfl (St_build rfl rfl ?_)
  refine Lp_s rfl (St_call (a := []) (b := []) rfl rfl (call (Text_spec hp (12, 3) H) ?_))
  clear H; rintro v w ⟨rfl, H⟩
  rw [show rightB (12, 3) = true from rfl, if_pos rfl, if_pos rfl, text_12_3]
  first | refine Lp_pv rfl rfl ?_ | refine Lp_mv rfl rfl ?_
  refine Lp_pv rfl rfl ?_
  refine Lp_pv rfl rfl ?_
  first | refine Lp_pv rfl rfl ?_ | refine Lp_mv rfl rfl ?_
  first | refine Lp_pv rfl rfl ?_ | refine Lp_mv rfl rfl ?_
  refine Lp_nil ?_
  repeat refine C_seq ?_
  refine C_region ?_
  refine Lp_s rfl (St_call (a := []) (b := []) rfl rfl (call (Parse_spec [35, 49, 50, 46, 51] (by decide) H) ?_))
  clear H; rintro v w ⟨rfl, H⟩
  rw [show parseV [35, 49, 50, 46, 51] = (12, 3) by decide, show parseE [35, 49, 50, 46, 51] = 0 by decide]
  first | refine Lp_pv rfl rfl ?_ | refine Lp_mv rfl rfl ?_
  refine Lp_pv rfl rfl ?_
  refine Lp_pv rfl rfl ?_
  (refine Lp_s rfl (St_alloc H rfl ?_); clear H; intro b3 w H)
  first | (refine Lp_s rfl (St_store1 H rfl rfl inferInstance rfl (Nat.le_of_ble_eq_true rfl) rfl ?_); clear H; intro w H) | (refine Lp_s rfl (St_storeN H rfl rfl inferInstance rfl rfl (Nat.le_of_ble_eq_true rfl) rfl ?_); clear H; intro w H)
  first | refine Lp_pv rfl rfl ?_ | refine Lp_mv rfl rfl ?_
  refine Lp_nil ?_
  repeat refine C_seq ?_
  refine C_region ?_
  refine Lp_s rfl (St_build rfl rfl ?_)
  refine Lp_s rfl (St_build rfl rfl ?_)
  refine Lp_s rfl (St_build rfl rfl ?_)
  (refine Lp_s rfl (St_buildSlice H rfl rfl rfl ?_); clear H; intro b20 w H)
  have hrd : RdS (pts b20 (row 23 [.int .i64 2, .int .i64 1, .int .i64 1, .int .i64 9, .int .i64 2, .int .i64 1]) :: pts b3 (row 23 [.int .i64 12, .int .i64 3]) :: old W :: fr) (.slice (some ⟨b20, 0, none⟩) 3 3) 3 2 (tcells [(2, 1), (1, 9), (2, 1)]) := by
    refine ⟨rfl, _, _, rfl, .inr ⟨b20, 0, _, _, _, rfl, At.here, ?_⟩⟩
    exact (by repeat (first | exact Reads.nil _ | apply Reads.cons rfl))
  refine Lp_s rfl (St_call (a := []) (b := []) rfl rfl (call (Sort_spec _ [(2, 1), (1, 9), (2, 1)] (by decide) hrd H) ?_))
  clear H
  rintro v w ⟨v', us, e, rfl, hs, H⟩
  obtain ⟨rfl, rfl⟩ := sorted_3 hs
  obtain ⟨a, c, rfl⟩ := sls_slice (m := 2) H rfl (by decide)
  obtain ⟨bo, so, rfl, H, hclose⟩ := sls_open H (by decide)
  replace H : Holds w (pts bo (row 23 ([.int .i64 1, .int .i64 9, .int .i64 2, .int .i64 1] ++ so)) :: pts b20 (row 23 [.int .i64 2, .int .i64 1, .int .i64 1, .int .i64 9, .int .i64 2, .int .i64 1]) :: pts b3 (row 23 [.int .i64 12, .int .i64 3]) :: old W :: fr) := H
  first | refine Lp_pv rfl rfl ?_ | refine Lp_mv rfl rfl ?_
  refine Lp_pv rfl rfl ?_
  refine Lp_pv rfl rfl ?_
  first | refine Lp_pv rfl rfl ?_ | refine Lp_mv rfl rfl ?_
  first | refine Lp_pv rfl rfl ?_ | refine Lp_mv rfl rfl ?_
  refine Lp_nil ?_
  repeat refine C_seq ?_
  refine C_region ?_
  first | refine Lp_pv rfl rfl ?_ | refine Lp_mv rfl rfl ?_
  first | refine Lp_pv rfl rfl ?_ | refine Lp_s rfl (St_eqPtrNil rfl rfl (.inl rfl) rfl ?_) | refine Lp_s rfl (St_eqMapNil rfl rfl (.inl rfl) rfl ?_) | refine Lp_s rfl (St_eqPair rfl rfl (.inl rfl) rfl ?_) | refine Lp_s rfl (St_eqBool rfl rfl (.inl rfl) rfl ?_) | refine Lp_s rfl (St_eqS rfl rfl (.inl rfl) rfl ?_) | refine Lp_s rfl (St_eqSliceNil rfl rfl (.inl rfl) rfl ?_) | refine Lp_s rfl (St_eqStr rfl rfl (.inl rfl) rfl ?_)
  first | refine Lp_pv rfl rfl ?_ | refine Lp_mv rfl rfl ?_
  first | refine Lp_gpv rfl rfl rfl rfl ?_ | refine Lp_no rfl rfl rfl ?_ | refine Lp_nn rfl rfl ?_
  first | refine Lp_gpv rfl rfl rfl rfl ?_ | refine Lp_g rfl rfl rfl (St_eqPtrNil rfl rfl (.inl rfl) rfl ?_) | refine Lp_g rfl rfl rfl (St_eqMapNil rfl rfl (.inl rfl) rfl ?_) | refine Lp_g rfl rfl rfl (St_eqPair rfl rfl (.inl rfl) rfl ?_) | refine Lp_g rfl rfl rfl (St_eqBool rfl rfl (.inl rfl) rfl ?_) | refine Lp_g rfl rfl rfl (St_eqS rfl rfl (.inl rfl) rfl ?_) | refine Lp_g rfl rfl rfl (St_eqSliceNil rfl rfl (.inl rfl) rfl ?_) | refine Lp_g rfl rfl rfl (St_eqStr rfl rfl (.inl rfl) rfl ?_) | refine Lp_no rfl rfl rfl ?_ | refine Lp_nn rfl rfl ?_
  rw [show decide (([35, 49, 50, 46, 51] : List UInt8) = [35, 49, 50, 46, 51]) = true from by decide]
  refine Lp_pv rfl rfl ?_
  first | refine Lp_pv rfl rfl ?_ | refine Lp_mv rfl rfl ?_
  first | refine Lp_gpv rfl rfl rfl rfl ?_ | refine Lp_no rfl rfl rfl ?_ | refine Lp_nn rfl rfl ?_
  first | refine Lp_gpv rfl rfl rfl rfl ?_ | refine Lp_g rfl rfl rfl (St_eqPtrNil rfl rfl (.inl rfl) rfl ?_) | refine Lp_g rfl rfl rfl (St_eqMapNil rfl rfl (.inl rfl) rfl ?_) | refine Lp_g rfl rfl rfl (St_eqPair rfl rfl (.inl rfl) rfl ?_) | refine Lp_g rfl rfl rfl (St_eqBool rfl rfl (.inl rfl) rfl ?_) | refine Lp_g rfl rfl rfl (St_eqS rfl rfl (.inl rfl) rfl ?_) | refine Lp_g rfl rfl rfl (St_eqSliceNil rfl rfl (.inl rfl) rfl ?_) | refine Lp_g rfl rfl rfl (St_eqStr rfl rfl (.inl rfl) rfl ?_) | refine Lp_no rfl rfl rfl ?_ | refine Lp_nn rfl rfl ?_
  refine Lp_pv rfl rfl ?_
  first | refine Lp_pv rfl rfl ?_ | refine Lp_mv rfl rfl ?_
  first | refine Lp_g rfl rfl rfl (St_load1 H rfl rfl rfl ?_) | refine Lp_g rfl rfl rfl (St_loadN H rfl (by repeat (first | exact Reads.nil _ | apply Reads.cons rfl)) rfl ?_) | refine Lp_no rfl rfl rfl ?_ | refine Lp_nn rfl rfl ?_
  first | refine Lp_g rfl rfl rfl (St_build rfl rfl ?_) | refine Lp_no rfl rfl rfl ?_ | refine Lp_nn rfl rfl ?_
  first | refine Lp_gpv rfl rfl rfl rfl ?_ | refine Lp_g rfl rfl rfl (St_eqPtrNil rfl rfl (.inl rfl) rfl ?_) | refine Lp_g rfl rfl rfl (St_eqMapNil rfl rfl (.inl rfl) rfl ?_) | refine Lp_g rfl rfl rfl (St_eqPair rfl rfl (.inl rfl) rfl ?_) | refine Lp_g rfl rfl rfl (St_eqBool rfl rfl (.inl rfl) rfl ?_) | refine Lp_g rfl rfl rfl (St_eqS rfl rfl (.inl rfl) rfl ?_) | refine Lp_g rfl rfl rfl (St_eqSliceNil rfl rfl (.inl rfl) rfl ?_) | refine Lp_g rfl rfl rfl (St_eqStr rfl rfl (.inl rfl) rfl ?_) | refine Lp_no rfl rfl rfl ?_ | refine Lp_nn rfl rfl ?_
  refine Lp_pv rfl rfl ?_
  first | refine Lp_pv rfl rfl ?_ | refine Lp_mv rfl rfl ?_
  first | refine Lp_gpv rfl rfl rfl rfl ?_ | refine Lp_no rfl rfl rfl ?_ | refine Lp_nn rfl rfl ?_
  first | refine Lp_gpv rfl rfl rfl rfl ?_ | refine Lp_g rfl rfl rfl (St_eqPtrNil rfl rfl (.inl rfl) rfl ?_) | refine Lp_g rfl rfl rfl (St_eqMapNil rfl rfl (.inl rfl) rfl ?_) | refine Lp_g rfl rfl rfl (St_eqPair rfl rfl (.inl rfl) rfl ?_) | refine Lp_g rfl rfl rfl (St_eqBool rfl rfl (.inl rfl) rfl ?_) | refine Lp_g rfl rfl rfl (St_eqS rfl rfl (.inl rfl) rfl ?_) | refine Lp_g rfl rfl rfl (St_eqSliceNil rfl rfl (.inl rfl) rfl ?_) | refine Lp_g rfl rfl rfl (St_eqStr rfl rfl (.inl rfl) rfl ?_) | refine Lp_no rfl rfl rfl ?_ | refine Lp_nn rfl rfl ?_
  refine Lp_pv rfl rfl ?_
  first | refine Lp_pv rfl rfl ?_ | refine Lp_mv rfl rfl ?_
  first | refine Lp_gpv rfl rfl rfl rfl ?_ | refine Lp_no rfl rfl rfl ?_ | refine Lp_nn rfl rfl ?_
  first | refine Lp_g rfl rfl rfl (St_lenSlice rfl rfl ?_) | refine Lp_no rfl rfl rfl ?_ | refine Lp_nn rfl rfl ?_
  first | refine Lp_gpv rfl rfl rfl rfl ?_ | refine Lp_g rfl rfl rfl (St_eqPtrNil rfl rfl (.inl rfl) rfl ?_) | refine Lp_g rfl rfl rfl (St_eqMapNil rfl rfl (.inl rfl) rfl ?_) | refine Lp_g rfl rfl rfl (St_eqPair rfl rfl (.inl rfl) rfl ?_) | refine Lp_g rfl rfl rfl (St_eqBool rfl rfl (.inl rfl) rfl ?_) | refine Lp_g rfl rfl rfl (St_eqS rfl rfl (.inl rfl) rfl ?_) | refine Lp_g rfl rfl rfl (St_eqSliceNil rfl rfl (.inl rfl) rfl ?_) | refine Lp_g rfl rfl rfl (St_eqStr rfl rfl (.inl rfl) rfl ?_) | refine Lp_no rfl rfl rfl ?_ | refine Lp_nn rfl rfl ?_
  refine Lp_pv rfl rfl ?_
  first | refine Lp_pv rfl rfl ?_ | refine Lp_mv rfl rfl ?_
  first | refine Lp_gpv rfl rfl rfl rfl ?_ | refine Lp_no rfl rfl rfl ?_ | refine Lp_nn rfl rfl ?_
  refine Lp_g rfl rfl rfl (St_indexAddr rfl rfl (by decide) (by decide) rfl ?_)
  first | refine Lp_g rfl rfl rfl (St_fieldAddr rfl rfl ?_) | refine Lp_no rfl rfl rfl ?_ | refine Lp_nn rfl rfl ?_
  first | refine Lp_g rfl rfl rfl (St_load1 H rfl rfl rfl ?_) | refine Lp_g rfl rfl rfl (St_loadN H rfl (by repeat (first | exact Reads.nil _ | apply Reads.cons rfl)) rfl ?_) | refine Lp_no rfl rfl rfl ?_ | refine Lp_nn rfl rfl ?_
  first | refine Lp_gpv rfl rfl rfl rfl ?_ | refine Lp_g rfl rfl rfl (St_eqPtrNil rfl rfl (.inl rfl) rfl ?_) | refine Lp_g rfl rfl rfl (St_eqMapNil rfl rfl (.inl rfl) rfl ?_) | refine Lp_g rfl rfl rfl (St_eqPair rfl rfl (.inl rfl) rfl ?_) | refine Lp_g rfl rfl rfl (St_eqBool rfl rfl (.inl rfl) rfl ?_) | refine Lp_g rfl rfl rfl (St_eqS rfl rfl (.inl rfl) rfl ?_) | refine Lp_g rfl rfl rfl (St_eqSliceNil rfl rfl (.inl rfl) rfl ?_) | refine Lp_g rfl rfl rfl (St_eqStr rfl rfl (.inl rfl) rfl ?_) | refine Lp_no rfl rfl rfl ?_ | refine Lp_nn rfl rfl ?_
  refine Lp_pv rfl rfl ?_
  first | refine Lp_pv rfl rfl ?_ | refine Lp_mv rfl rfl ?_
  first | refine Lp_gpv rfl rfl rfl rfl ?_ | refine Lp_no rfl rfl rfl ?_ | refine Lp_nn rfl rfl ?_
  refine Lp_g rfl rfl rfl (St_indexAddr rfl rfl (by decide) (by decide) rfl ?_)
  first | refine Lp_g rfl rfl rfl (St_fieldAddr rfl rfl ?_) | refine Lp_no rfl rfl rfl ?_ | refine Lp_nn rfl rfl ?_
  first | refine Lp_g rfl rfl rfl (St_load1 H rfl rfl rfl ?_) | refine Lp_g rfl rfl rfl (St_loadN H rfl (by repeat (first | exact Reads.nil _ | apply Reads.cons rfl)) rfl ?_) | refine Lp_no rfl rfl rfl ?_ | refine Lp_nn rfl rfl ?_
  first | refine Lp_gpv rfl rfl rfl rfl ?_ | refine Lp_g rfl rfl rfl (St_eqPtrNil rfl rfl (.inl rfl) rfl ?_) | refine Lp_g rfl rfl rfl (St_eqMapNil rfl rfl (.inl rfl) rfl ?_) | refine Lp_g rfl rfl rfl (St_eqPair rfl rfl (.inl rfl) rfl ?_) | refine Lp_g rfl rfl rfl (St_eqBool rfl rfl (.inl rfl) rfl ?_) | refine Lp_g rfl rfl rfl (St_eqS rfl rfl (.inl rfl) rfl ?_) | refine Lp_g rfl rfl rfl (St_eqSliceNil rfl rfl (.inl rfl) rfl ?_) | refine Lp_g rfl rfl rfl (St_eqStr rfl rfl (.inl rfl) rfl ?_) | refine Lp_no rfl rfl rfl ?_ | refine Lp_nn rfl rfl ?_
  refine Lp_pv rfl rfl ?_
  first | refine Lp_pv rfl rfl ?_ | refine Lp_mv rfl rfl ?_
  refine Lp_nil ?_
  replace H := Holds.sel [3] 3 H; dsimp only [SL.sel, SL.pull, List.drop] at H
  exact C_ret (fn_end0 _ (.inr rfl) H rfl fun w' H' => ⟨rfl, H'⟩)
end Go.Proofs.YtdpephigccnkdaaDoor
