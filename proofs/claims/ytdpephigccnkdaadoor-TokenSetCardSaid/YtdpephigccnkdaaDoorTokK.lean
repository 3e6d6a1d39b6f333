/- TokenTexts, TokenBack: the walks. No condition. -/
import Derived.Test.YtdpephigccnkdaaDoorTokI
import Derived.Test.YtdpephigccnkdaaDoorTokP
set_option linter.unusedVariables false
set_option linter.unusedSimpArgs false
set_option linter.unusedSectionVars false
namespace Go.Proofs.YtdpephigccnkdaaDoor
open Go.SL

set_option maxHeartbeats 4000000 in
theorem Texts_walk {W : World} (hp : Pow W) (t : Tk) (s : List UInt8) (hl : s.length ≤ 9223372036854775807) {w : World} [Extra] (H : Holds w [old W]) :
    Calls Tryd.prog 3 #[tk t, str s] w (ret fun x w' => x = .bool true ∧ Holds w' [old W]) := by
  obtain ⟨t1, t2⟩ := t
  refine calls_of Tryd.func3 rfl (by kernel_rfl) ?_
  repeat refine C_seq ?_
  refine C_region ?_
  first | (refine Lp_s rfl (St_boxN H rfl rfl ?_); clear H; intro b2 w H) | (refine Lp_s rfl (St_box1 H rfl rfl rfl ?_); clear H; intro b2 w H)
  first | refine Lp_pv rfl rfl ?_ | refine Lp_mv rfl rfl ?_
  refine Lp_nil ?_
  repeat refine C_seq ?_
  refine C_region ?_
  first | refine Lp_s rfl (St_load1 H rfl rfl rfl ?_) | refine Lp_s rfl (St_loadN H rfl (by repeat (first | exact Reads.nil _ | apply Reads.cons rfl)) rfl ?_)
  refine Lp_s rfl (St_call (a := []) (b := []) rfl rfl (call (Text_spec hp (t1, t2) H.swap) ?_))
  clear H; rintro v w ⟨rfl, H⟩
  first | refine Lp_pv rfl rfl ?_ | refine Lp_mv rfl rfl ?_
  refine Lp_pv rfl rfl ?_
  refine Lp_pv rfl rfl ?_
  first | refine Lp_pv rfl rfl ?_ | refine Lp_mv rfl rfl ?_
  first | refine Lp_pv rfl rfl ?_ | refine Lp_mv rfl rfl ?_
  refine Lp_nil ?_
  repeat refine C_seq ?_
  refine C_region ?_
  first | refine Lp_s rfl (St_load1 H rfl rfl rfl ?_) | refine Lp_s rfl (St_loadN H rfl (by repeat (first | exact Reads.nil _ | apply Reads.cons rfl)) rfl ?_)
  refine Lp_s rfl (St_call (a := []) (b := []) rfl rfl (call (rRight_spec (t1, t2) H) ?_))
  clear H; rintro v w ⟨rfl, H⟩
  first | refine Lp_pv rfl rfl ?_ | refine Lp_mv rfl rfl ?_
  refine Lp_nil ?_
  repeat refine C_seq ?_
  refine C_join (fun ms σ w => ms = [] ∧ σ 1 = str s ∧ σ 49 = .bool false ∧ Holds w [old W]) ?_ ?_
  · repeat refine C_seq ?_
    refine C_region ?_
    first | refine Lp_s rfl (St_load1 H rfl rfl rfl ?_) | refine Lp_s rfl (St_loadN H rfl (by repeat (first | exact Reads.nil _ | apply Reads.cons rfl)) rfl ?_)
    refine Lp_s rfl (St_call (a := []) (b := []) rfl rfl (call (Right_spec (t1, t2) H) ?_))
    clear H; rintro v w ⟨rfl, H⟩
    cases hr : rightB (t1, t2) with
    | false =>
      rw [if_neg (by decide), if_neg (by decide)]
      first | refine Lp_pv rfl rfl ?_ | refine Lp_mv rfl rfl ?_
      first | refine Lp_pv rfl rfl ?_ | refine Lp_s rfl (St_eqPtrNil rfl rfl (.inr rfl) rfl ?_) | refine Lp_s rfl (St_eqMapNil rfl rfl (.inr rfl) rfl ?_) | refine Lp_s rfl (St_eqPair rfl rfl (.inr rfl) rfl ?_) | refine Lp_s rfl (St_eqBool rfl rfl (.inr rfl) rfl ?_) | refine Lp_s rfl (St_eqS rfl rfl (.inr rfl) rfl ?_) | refine Lp_s rfl (St_eqSliceNil rfl rfl (.inr rfl) rfl ?_) | refine Lp_s rfl (St_eqStr rfl rfl (.inr rfl) rfl ?_)
      first | refine Lp_pv rfl rfl ?_ | refine Lp_mv rfl rfl ?_
      first | refine Lp_gpv rfl rfl rfl rfl ?_ | refine Lp_no rfl rfl rfl ?_ | refine Lp_nn rfl rfl ?_
      first | refine Lp_gpv rfl rfl rfl rfl ?_ | refine Lp_g rfl rfl rfl (St_eqPtrNil rfl rfl (.inl rfl) rfl ?_) | refine Lp_g rfl rfl rfl (St_eqMapNil rfl rfl (.inl rfl) rfl ?_) | refine Lp_g rfl rfl rfl (St_eqPair rfl rfl (.inl rfl) rfl ?_) | refine Lp_g rfl rfl rfl (St_eqBool rfl rfl (.inl rfl) rfl ?_) | refine Lp_g rfl rfl rfl (St_eqS rfl rfl (.inl rfl) rfl ?_) | refine Lp_g rfl rfl rfl (St_eqSliceNil rfl rfl (.inl rfl) rfl ?_) | refine Lp_g rfl rfl rfl (St_eqStr rfl rfl (.inl rfl) rfl ?_) | refine Lp_no rfl rfl rfl ?_ | refine Lp_nn rfl rfl ?_
      first | refine Lp_gpv rfl rfl rfl rfl ?_ | refine Lp_no rfl rfl rfl ?_ | refine Lp_nn rfl rfl ?_
      first | refine Lp_gpv rfl rfl rfl rfl ?_ | refine Lp_g rfl rfl rfl (St_eqPtrNil rfl rfl (.inr rfl) rfl ?_) | refine Lp_g rfl rfl rfl (St_eqMapNil rfl rfl (.inr rfl) rfl ?_) | refine Lp_g rfl rfl rfl (St_eqPair rfl rfl (.inr rfl) rfl ?_) | refine Lp_g rfl rfl rfl (St_eqBool rfl rfl (.inr rfl) rfl ?_) | refine Lp_g rfl rfl rfl (St_eqS rfl rfl (.inr rfl) rfl ?_) | refine Lp_g rfl rfl rfl (St_eqSliceNil rfl rfl (.inr rfl) rfl ?_) | refine Lp_g rfl rfl rfl (St_eqStr rfl rfl (.inr rfl) rfl ?_) | refine Lp_no rfl rfl rfl ?_ | refine Lp_nn rfl rfl ?_
      refine Lp_pv rfl rfl ?_
      first | refine Lp_pv rfl rfl ?_ | refine Lp_mv rfl rfl ?_
      first | refine Lp_gpv rfl rfl rfl rfl ?_ | refine Lp_no rfl rfl rfl ?_ | refine Lp_nn rfl rfl ?_
      first | refine Lp_gpv rfl rfl rfl rfl ?_ | refine Lp_no rfl rfl rfl ?_ | refine Lp_nn rfl rfl ?_
      first | refine Lp_gpv rfl rfl rfl rfl ?_ | refine Lp_no rfl rfl rfl ?_ | refine Lp_nn rfl rfl ?_
      first | refine Lp_gpv rfl rfl rfl rfl ?_ | refine Lp_no rfl rfl rfl ?_ | refine Lp_nn rfl rfl ?_
      first | refine Lp_gpv rfl rfl rfl rfl ?_ | refine Lp_g rfl rfl rfl (St_eqPtrNil rfl rfl (.inr rfl) rfl ?_) | refine Lp_g rfl rfl rfl (St_eqMapNil rfl rfl (.inr rfl) rfl ?_) | refine Lp_g rfl rfl rfl (St_eqPair rfl rfl (.inr rfl) rfl ?_) | refine Lp_g rfl rfl rfl (St_eqBool rfl rfl (.inr rfl) rfl ?_) | refine Lp_g rfl rfl rfl (St_eqS rfl rfl (.inr rfl) rfl ?_) | refine Lp_g rfl rfl rfl (St_eqSliceNil rfl rfl (.inr rfl) rfl ?_) | refine Lp_g rfl rfl rfl (St_eqStr rfl rfl (.inr rfl) rfl ?_) | refine Lp_no rfl rfl rfl ?_ | refine Lp_nn rfl rfl ?_
      first | refine Lp_gpv rfl rfl rfl rfl ?_ | refine Lp_no rfl rfl rfl ?_ | refine Lp_nn rfl rfl ?_
      first | refine Lp_gpv rfl rfl rfl rfl ?_ | refine Lp_no rfl rfl rfl ?_ | refine Lp_nn rfl rfl ?_
      first | refine Lp_gpv rfl rfl rfl rfl ?_ | refine Lp_g rfl rfl rfl (St_eqPtrNil rfl rfl (.inr rfl) rfl ?_) | refine Lp_g rfl rfl rfl (St_eqMapNil rfl rfl (.inr rfl) rfl ?_) | refine Lp_g rfl rfl rfl (St_eqPair rfl rfl (.inr rfl) rfl ?_) | refine Lp_g rfl rfl rfl (St_eqBool rfl rfl (.inr rfl) rfl ?_) | refine Lp_g rfl rfl rfl (St_eqS rfl rfl (.inr rfl) rfl ?_) | refine Lp_g rfl rfl rfl (St_eqSliceNil rfl rfl (.inr rfl) rfl ?_) | refine Lp_g rfl rfl rfl (St_eqStr rfl rfl (.inr rfl) rfl ?_) | refine Lp_no rfl rfl rfl ?_ | refine Lp_nn rfl rfl ?_
      first | refine Lp_gpv rfl rfl rfl rfl ?_ | refine Lp_no rfl rfl rfl ?_ | refine Lp_nn rfl rfl ?_
      first | refine Lp_gpv rfl rfl rfl rfl ?_ | refine Lp_no rfl rfl rfl ?_ | refine Lp_nn rfl rfl ?_
      refine Lp_pv rfl rfl ?_
      first | refine Lp_pv rfl rfl ?_ | refine Lp_mv rfl rfl ?_
      first | refine Lp_gpv rfl rfl rfl rfl ?_ | refine Lp_no rfl rfl rfl ?_ | refine Lp_nn rfl rfl ?_
      first | refine Lp_gpv rfl rfl rfl rfl ?_ | refine Lp_no rfl rfl rfl ?_ | refine Lp_nn rfl rfl ?_
      first | refine Lp_gpv rfl rfl rfl rfl ?_ | refine Lp_no rfl rfl rfl ?_ | refine Lp_nn rfl rfl ?_
      first | refine Lp_g rfl rfl rfl (St_load1 H rfl rfl rfl ?_) | refine Lp_g rfl rfl rfl (St_loadN H rfl (by repeat (first | exact Reads.nil _ | apply Reads.cons rfl)) rfl ?_) | refine Lp_no rfl rfl rfl ?_ | refine Lp_nn rfl rfl ?_
      refine Lp_no rfl rfl rfl ?_
      first | refine Lp_gpv rfl rfl rfl rfl ?_ | refine Lp_g rfl rfl rfl (St_eqPtrNil rfl rfl (.inr rfl) rfl ?_) | refine Lp_g rfl rfl rfl (St_eqMapNil rfl rfl (.inr rfl) rfl ?_) | refine Lp_g rfl rfl rfl (St_eqPair rfl rfl (.inr rfl) rfl ?_) | refine Lp_g rfl rfl rfl (St_eqBool rfl rfl (.inr rfl) rfl ?_) | refine Lp_g rfl rfl rfl (St_eqS rfl rfl (.inr rfl) rfl ?_) | refine Lp_g rfl rfl rfl (St_eqSliceNil rfl rfl (.inr rfl) rfl ?_) | refine Lp_g rfl rfl rfl (St_eqStr rfl rfl (.inr rfl) rfl ?_) | refine Lp_no rfl rfl rfl ?_ | refine Lp_nn rfl rfl ?_
      first | refine Lp_gpv rfl rfl rfl rfl ?_ | refine Lp_no rfl rfl rfl ?_ | refine Lp_nn rfl rfl ?_
      refine Lp_pv rfl rfl ?_
      refine Lp_nil ?_
      exact ⟨rfl, rfl, rfl, rfl, H.swap.drop⟩
    | true =>
      obtain ⟨a, g, e, h1, h2, h3⟩ := right_nat hr
      obtain ⟨rfl, rfl⟩ := Prod.mk.injEq .. ▸ e
      rw [if_pos rfl, if_pos rfl]
      first | refine Lp_pv rfl rfl ?_ | refine Lp_mv rfl rfl ?_
      first | refine Lp_pv rfl rfl ?_ | refine Lp_s rfl (St_eqPtrNil rfl rfl (.inr rfl) rfl ?_) | refine Lp_s rfl (St_eqMapNil rfl rfl (.inr rfl) rfl ?_) | refine Lp_s rfl (St_eqPair rfl rfl (.inr rfl) rfl ?_) | refine Lp_s rfl (St_eqBool rfl rfl (.inr rfl) rfl ?_) | refine Lp_s rfl (St_eqS rfl rfl (.inr rfl) rfl ?_) | refine Lp_s rfl (St_eqSliceNil rfl rfl (.inr rfl) rfl ?_) | refine Lp_s rfl (St_eqStr rfl rfl (.inr rfl) rfl ?_)
      first | refine Lp_pv rfl rfl ?_ | refine Lp_mv rfl rfl ?_
      first | refine Lp_gpv rfl rfl rfl rfl ?_ | refine Lp_no rfl rfl rfl ?_ | refine Lp_nn rfl rfl ?_
      first | refine Lp_gpv rfl rfl rfl rfl ?_ | refine Lp_g rfl rfl rfl (St_eqPtrNil rfl rfl (.inl rfl) rfl ?_) | refine Lp_g rfl rfl rfl (St_eqMapNil rfl rfl (.inl rfl) rfl ?_) | refine Lp_g rfl rfl rfl (St_eqPair rfl rfl (.inl rfl) rfl ?_) | refine Lp_g rfl rfl rfl (St_eqBool rfl rfl (.inl rfl) rfl ?_) | refine Lp_g rfl rfl rfl (St_eqS rfl rfl (.inl rfl) rfl ?_) | refine Lp_g rfl rfl rfl (St_eqSliceNil rfl rfl (.inl rfl) rfl ?_) | refine Lp_g rfl rfl rfl (St_eqStr rfl rfl (.inl rfl) rfl ?_) | refine Lp_no rfl rfl rfl ?_ | refine Lp_nn rfl rfl ?_
      first | refine Lp_gpv rfl rfl rfl rfl ?_ | refine Lp_no rfl rfl rfl ?_ | refine Lp_nn rfl rfl ?_
      first | refine Lp_gpv rfl rfl rfl rfl ?_ | refine Lp_g rfl rfl rfl (St_eqPtrNil rfl rfl (.inr rfl) rfl ?_) | refine Lp_g rfl rfl rfl (St_eqMapNil rfl rfl (.inr rfl) rfl ?_) | refine Lp_g rfl rfl rfl (St_eqPair rfl rfl (.inr rfl) rfl ?_) | refine Lp_g rfl rfl rfl (St_eqBool rfl rfl (.inr rfl) rfl ?_) | refine Lp_g rfl rfl rfl (St_eqS rfl rfl (.inr rfl) rfl ?_) | refine Lp_g rfl rfl rfl (St_eqSliceNil rfl rfl (.inr rfl) rfl ?_) | refine Lp_g rfl rfl rfl (St_eqStr rfl rfl (.inr rfl) rfl ?_) | refine Lp_no rfl rfl rfl ?_ | refine Lp_nn rfl rfl ?_
      refine Lp_pv rfl rfl ?_
      first | refine Lp_pv rfl rfl ?_ | refine Lp_mv rfl rfl ?_
      first | refine Lp_gpv rfl rfl rfl rfl ?_ | refine Lp_no rfl rfl rfl ?_ | refine Lp_nn rfl rfl ?_
      first | refine Lp_gpv rfl rfl rfl rfl ?_ | refine Lp_no rfl rfl rfl ?_ | refine Lp_nn rfl rfl ?_
      first | refine Lp_gpv rfl rfl rfl rfl ?_ | refine Lp_no rfl rfl rfl ?_ | refine Lp_nn rfl rfl ?_
      first | refine Lp_gpv rfl rfl rfl rfl ?_ | refine Lp_no rfl rfl rfl ?_ | refine Lp_nn rfl rfl ?_
      first | refine Lp_gpv rfl rfl rfl rfl ?_ | refine Lp_g rfl rfl rfl (St_eqPtrNil rfl rfl (.inr rfl) rfl ?_) | refine Lp_g rfl rfl rfl (St_eqMapNil rfl rfl (.inr rfl) rfl ?_) | refine Lp_g rfl rfl rfl (St_eqPair rfl rfl (.inr rfl) rfl ?_) | refine Lp_g rfl rfl rfl (St_eqBool rfl rfl (.inr rfl) rfl ?_) | refine Lp_g rfl rfl rfl (St_eqS rfl rfl (.inr rfl) rfl ?_) | refine Lp_g rfl rfl rfl (St_eqSliceNil rfl rfl (.inr rfl) rfl ?_) | refine Lp_g rfl rfl rfl (St_eqStr rfl rfl (.inr rfl) rfl ?_) | refine Lp_no rfl rfl rfl ?_ | refine Lp_nn rfl rfl ?_
      first | refine Lp_gpv rfl rfl rfl rfl ?_ | refine Lp_no rfl rfl rfl ?_ | refine Lp_nn rfl rfl ?_
      first | refine Lp_gpv rfl rfl rfl rfl ?_ | refine Lp_no rfl rfl rfl ?_ | refine Lp_nn rfl rfl ?_
      first | refine Lp_gpv rfl rfl rfl rfl ?_ | refine Lp_g rfl rfl rfl (St_eqPtrNil rfl rfl (.inr rfl) rfl ?_) | refine Lp_g rfl rfl rfl (St_eqMapNil rfl rfl (.inr rfl) rfl ?_) | refine Lp_g rfl rfl rfl (St_eqPair rfl rfl (.inr rfl) rfl ?_) | refine Lp_g rfl rfl rfl (St_eqBool rfl rfl (.inr rfl) rfl ?_) | refine Lp_g rfl rfl rfl (St_eqS rfl rfl (.inr rfl) rfl ?_) | refine Lp_g rfl rfl rfl (St_eqSliceNil rfl rfl (.inr rfl) rfl ?_) | refine Lp_g rfl rfl rfl (St_eqStr rfl rfl (.inr rfl) rfl ?_) | refine Lp_no rfl rfl rfl ?_ | refine Lp_nn rfl rfl ?_
      first | refine Lp_gpv rfl rfl rfl rfl ?_ | refine Lp_no rfl rfl rfl ?_ | refine Lp_nn rfl rfl ?_
      first | refine Lp_gpv rfl rfl rfl rfl ?_ | refine Lp_no rfl rfl rfl ?_ | refine Lp_nn rfl rfl ?_
      refine Lp_pv rfl rfl ?_
      first | refine Lp_pv rfl rfl ?_ | refine Lp_mv rfl rfl ?_
      first | refine Lp_gpv rfl rfl rfl rfl ?_ | refine Lp_no rfl rfl rfl ?_ | refine Lp_nn rfl rfl ?_
      first | refine Lp_gpv rfl rfl rfl rfl ?_ | refine Lp_no rfl rfl rfl ?_ | refine Lp_nn rfl rfl ?_
      first | refine Lp_gpv rfl rfl rfl rfl ?_ | refine Lp_no rfl rfl rfl ?_ | refine Lp_nn rfl rfl ?_
      first | refine Lp_g rfl rfl rfl (St_load1 H rfl rfl rfl ?_) | refine Lp_g rfl rfl rfl (St_loadN H rfl (by repeat (first | exact Reads.nil _ | apply Reads.cons rfl)) rfl ?_) | refine Lp_no rfl rfl rfl ?_ | refine Lp_nn rfl rfl ?_
      refine Lp_g rfl rfl rfl (St_call (a := []) (b := []) rfl rfl (call (rText_spec a g h1 h3 H) ?_))
      clear H; rintro v w ⟨rfl, H⟩
      first | refine Lp_gpv rfl rfl rfl rfl ?_ | refine Lp_g rfl rfl rfl (St_eqPtrNil rfl rfl (.inr rfl) rfl ?_) | refine Lp_g rfl rfl rfl (St_eqMapNil rfl rfl (.inr rfl) rfl ?_) | refine Lp_g rfl rfl rfl (St_eqPair rfl rfl (.inr rfl) rfl ?_) | refine Lp_g rfl rfl rfl (St_eqBool rfl rfl (.inr rfl) rfl ?_) | refine Lp_g rfl rfl rfl (St_eqS rfl rfl (.inr rfl) rfl ?_) | refine Lp_g rfl rfl rfl (St_eqSliceNil rfl rfl (.inr rfl) rfl ?_) | refine Lp_g rfl rfl rfl (St_eqStr rfl rfl (.inr rfl) rfl ?_) | refine Lp_no rfl rfl rfl ?_ | refine Lp_nn rfl rfl ?_
      rw [show decide (textT ((a : Int), (g : Int)) = textT ((a : Int), (g : Int))) = true from decide_eq_true rfl]
      first | refine Lp_gpv rfl rfl rfl rfl ?_ | refine Lp_no rfl rfl rfl ?_ | refine Lp_nn rfl rfl ?_
      refine Lp_pv rfl rfl ?_
      refine Lp_nil ?_
      exact ⟨rfl, rfl, rfl, rfl, H.swap.drop⟩
  · clear H
    rintro ms σ w ⟨rfl, h1, h49, H⟩
    rw [upd_self h1, upd_self h49]
    repeat refine C_seq ?_
    refine C_false rfl (C_skip ?_)
    repeat refine C_seq ?_
    refine C_region ?_
    first | refine Lp_pv rfl rfl ?_ | refine Lp_mv rfl rfl ?_
    refine Lp_s rfl (St_call (a := []) (b := []) rfl rfl (call (Parse_spec s hl H) ?_))
    clear H; rintro v w ⟨rfl, H⟩
    first | refine Lp_pv rfl rfl ?_ | refine Lp_mv rfl rfl ?_
    refine Lp_pv rfl rfl ?_
    refine Lp_pv rfl rfl ?_
    (refine Lp_s rfl (St_alloc H rfl ?_); clear H; intro b8 w H)
    first | (refine Lp_s rfl (St_store1 H rfl rfl inferInstance rfl (Nat.le_of_ble_eq_true rfl) rfl ?_); clear H; intro w H) | (refine Lp_s rfl (St_storeN H rfl rfl inferInstance rfl rfl (Nat.le_of_ble_eq_true rfl) rfl ?_); clear H; intro w H)
    first | refine Lp_pv rfl rfl ?_ | refine Lp_mv rfl rfl ?_
    refine Lp_nil ?_
    repeat refine C_seq ?_
    refine C_region ?_
    first | refine Lp_pv rfl rfl ?_ | refine Lp_mv rfl rfl ?_
    refine Lp_s rfl (St_call (a := []) (b := []) rfl rfl (call (rParse_spec s H) ?_))
    clear H; rintro v w ⟨rfl, H⟩
    have hi := good_iff s
    by_cases hg : goodB s
    · have hg2 := hi.1 hg
      have e1 : parseV s = scanT s := (if_pos hg).trans (good_same hg)
      have e2 : parseE s = 0 := if_pos hg
      rw [if_pos hg2, decide_eq_true hg2]
      rw [e1] at H
      rw [e2]
      first | refine Lp_pv rfl rfl ?_ | refine Lp_mv rfl rfl ?_
      refine Lp_pv rfl rfl ?_
      refine Lp_pv rfl rfl ?_
      (refine Lp_s rfl (St_alloc H rfl ?_); clear H; intro b10 w H)
      first | (refine Lp_s rfl (St_store1 H rfl rfl inferInstance rfl (Nat.le_of_ble_eq_true rfl) rfl ?_); clear H; intro w H) | (refine Lp_s rfl (St_storeN H rfl rfl inferInstance rfl rfl (Nat.le_of_ble_eq_true rfl) rfl ?_); clear H; intro w H)
      first | refine Lp_pv rfl rfl ?_ | refine Lp_mv rfl rfl ?_
      refine Lp_nil ?_
      repeat refine C_seq ?_
      refine C_region ?_
      replace H := Holds.sel [2, 0, 0] 0 H; dsimp only [SL.sel, SL.pull, List.drop] at H
      refine Lp_s rfl (St_call (a := []) (b := []) rfl rfl (call (talive_spec hp H) ?_))
      clear H; rintro v w ⟨rfl, H⟩
      first | refine Lp_pv rfl rfl ?_ | refine Lp_mv rfl rfl ?_
      first | refine Lp_g rfl rfl rfl (St_load1 H rfl rfl rfl ?_) | refine Lp_g rfl rfl rfl (St_loadN H rfl (by repeat (first | exact Reads.nil _ | apply Reads.cons rfl)) rfl ?_) | refine Lp_no rfl rfl rfl ?_ | refine Lp_nn rfl rfl ?_
      first | refine Lp_g rfl rfl rfl (St_load1 H rfl rfl rfl ?_) | refine Lp_g rfl rfl rfl (St_loadN H rfl (by repeat (first | exact Reads.nil _ | apply Reads.cons rfl)) rfl ?_) | refine Lp_no rfl rfl rfl ?_ | refine Lp_nn rfl rfl ?_
      first | refine Lp_gpv rfl rfl rfl rfl ?_ | refine Lp_g rfl rfl rfl (St_eqPtrNil rfl rfl (.inl rfl) rfl ?_) | refine Lp_g rfl rfl rfl (St_eqMapNil rfl rfl (.inl rfl) rfl ?_) | refine Lp_g rfl rfl rfl (St_eqPair rfl rfl (.inl rfl) rfl ?_) | refine Lp_g rfl rfl rfl (St_eqBool rfl rfl (.inl rfl) rfl ?_) | refine Lp_g rfl rfl rfl (St_eqS rfl rfl (.inl rfl) rfl ?_) | refine Lp_g rfl rfl rfl (St_eqSliceNil rfl rfl (.inl rfl) rfl ?_) | refine Lp_g rfl rfl rfl (St_eqStr rfl rfl (.inl rfl) rfl ?_) | refine Lp_no rfl rfl rfl ?_ | refine Lp_nn rfl rfl ?_
      rw [show decide (((scanT s).1, (scanT s).2) = ((scanT s).1, (scanT s).2)) = true from decide_eq_true rfl]
      refine Lp_pv rfl rfl ?_
      first | refine Lp_pv rfl rfl ?_ | refine Lp_mv rfl rfl ?_
      first | refine Lp_gpv rfl rfl rfl rfl ?_ | refine Lp_no rfl rfl rfl ?_ | refine Lp_nn rfl rfl ?_
      first | refine Lp_gpv rfl rfl rfl rfl ?_ | refine Lp_g rfl rfl rfl (St_eqPtrNil rfl rfl (.inl rfl) rfl ?_) | refine Lp_g rfl rfl rfl (St_eqMapNil rfl rfl (.inl rfl) rfl ?_) | refine Lp_g rfl rfl rfl (St_eqPair rfl rfl (.inl rfl) rfl ?_) | refine Lp_g rfl rfl rfl (St_eqBool rfl rfl (.inl rfl) rfl ?_) | refine Lp_g rfl rfl rfl (St_eqS rfl rfl (.inl rfl) rfl ?_) | refine Lp_g rfl rfl rfl (St_eqSliceNil rfl rfl (.inl rfl) rfl ?_) | refine Lp_g rfl rfl rfl (St_eqStr rfl rfl (.inl rfl) rfl ?_) | refine Lp_no rfl rfl rfl ?_ | refine Lp_nn rfl rfl ?_
      first | refine Lp_gpv rfl rfl rfl rfl ?_ | refine Lp_no rfl rfl rfl ?_ | refine Lp_nn rfl rfl ?_
      first | refine Lp_gpv rfl rfl rfl rfl ?_ | refine Lp_g rfl rfl rfl (St_eqPtrNil rfl rfl (.inl rfl) rfl ?_) | refine Lp_g rfl rfl rfl (St_eqMapNil rfl rfl (.inl rfl) rfl ?_) | refine Lp_g rfl rfl rfl (St_eqPair rfl rfl (.inl rfl) rfl ?_) | refine Lp_g rfl rfl rfl (St_eqBool rfl rfl (.inl rfl) rfl ?_) | refine Lp_g rfl rfl rfl (St_eqS rfl rfl (.inl rfl) rfl ?_) | refine Lp_g rfl rfl rfl (St_eqSliceNil rfl rfl (.inl rfl) rfl ?_) | refine Lp_g rfl rfl rfl (St_eqStr rfl rfl (.inl rfl) rfl ?_) | refine Lp_no rfl rfl rfl ?_ | refine Lp_nn rfl rfl ?_
      refine Lp_pv rfl rfl ?_
      first | refine Lp_pv rfl rfl ?_ | refine Lp_mv rfl rfl ?_
      first | refine Lp_gpv rfl rfl rfl rfl ?_ | refine Lp_no rfl rfl rfl ?_ | refine Lp_nn rfl rfl ?_
      first | refine Lp_gpv rfl rfl rfl rfl ?_ | refine Lp_no rfl rfl rfl ?_ | refine Lp_nn rfl rfl ?_
      first | refine Lp_gpv rfl rfl rfl rfl ?_ | refine Lp_no rfl rfl rfl ?_ | refine Lp_nn rfl rfl ?_
      first | refine Lp_gpv rfl rfl rfl rfl ?_ | refine Lp_g rfl rfl rfl (St_eqPtrNil rfl rfl (.inl rfl) rfl ?_) | refine Lp_g rfl rfl rfl (St_eqMapNil rfl rfl (.inl rfl) rfl ?_) | refine Lp_g rfl rfl rfl (St_eqPair rfl rfl (.inl rfl) rfl ?_) | refine Lp_g rfl rfl rfl (St_eqBool rfl rfl (.inl rfl) rfl ?_) | refine Lp_g rfl rfl rfl (St_eqS rfl rfl (.inl rfl) rfl ?_) | refine Lp_g rfl rfl rfl (St_eqSliceNil rfl rfl (.inl rfl) rfl ?_) | refine Lp_g rfl rfl rfl (St_eqStr rfl rfl (.inl rfl) rfl ?_) | refine Lp_no rfl rfl rfl ?_ | refine Lp_nn rfl rfl ?_
      first | refine Lp_gpv rfl rfl rfl rfl ?_ | refine Lp_no rfl rfl rfl ?_ | refine Lp_nn rfl rfl ?_
      refine Lp_pv rfl rfl ?_
      first | refine Lp_pv rfl rfl ?_ | refine Lp_mv rfl rfl ?_
      refine Lp_nil ?_
      replace H := Holds.sel [0] 2 H; dsimp only [SL.sel, SL.pull, List.drop] at H
      exact C_ret (fn_end0 _ (.inr rfl) H rfl fun w' H' => ⟨rfl, H'⟩)
    · have hg2 : ¬ rgoodB s := fun h => hg (hi.2 h)
      have e1 : parseV s = (0, 0) := if_neg hg
      have e2 : parseE s = 4 := if_neg hg
      rw [if_neg hg2, decide_eq_false hg2]
      rw [e1] at H
      rw [e2]
      first | refine Lp_pv rfl rfl ?_ | refine Lp_mv rfl rfl ?_
      refine Lp_pv rfl rfl ?_
      refine Lp_pv rfl rfl ?_
      (refine Lp_s rfl (St_alloc H rfl ?_); clear H; intro b10 w H)
      first | (refine Lp_s rfl (St_store1 H rfl rfl inferInstance rfl (Nat.le_of_ble_eq_true rfl) rfl ?_); clear H; intro w H) | (refine Lp_s rfl (St_storeN H rfl rfl inferInstance rfl rfl (Nat.le_of_ble_eq_true rfl) rfl ?_); clear H; intro w H)
      first | refine Lp_pv rfl rfl ?_ | refine Lp_mv rfl rfl ?_
      refine Lp_nil ?_
      repeat refine C_seq ?_
      refine C_region ?_
      replace H := Holds.sel [2, 0, 0] 0 H; dsimp only [SL.sel, SL.pull, List.drop] at H
      refine Lp_s rfl (St_call (a := []) (b := []) rfl rfl (call (talive_spec hp H) ?_))
      clear H; rintro v w ⟨rfl, H⟩
      first | refine Lp_pv rfl rfl ?_ | refine Lp_mv rfl rfl ?_
      first | refine Lp_g rfl rfl rfl (St_load1 H rfl rfl rfl ?_) | refine Lp_g rfl rfl rfl (St_loadN H rfl (by repeat (first | exact Reads.nil _ | apply Reads.cons rfl)) rfl ?_) | refine Lp_no rfl rfl rfl ?_ | refine Lp_nn rfl rfl ?_
      first | refine Lp_g rfl rfl rfl (St_load1 H rfl rfl rfl ?_) | refine Lp_g rfl rfl rfl (St_loadN H rfl (by repeat (first | exact Reads.nil _ | apply Reads.cons rfl)) rfl ?_) | refine Lp_no rfl rfl rfl ?_ | refine Lp_nn rfl rfl ?_
      first | refine Lp_gpv rfl rfl rfl rfl ?_ | refine Lp_g rfl rfl rfl (St_eqPtrNil rfl rfl (.inl rfl) rfl ?_) | refine Lp_g rfl rfl rfl (St_eqMapNil rfl rfl (.inl rfl) rfl ?_) | refine Lp_g rfl rfl rfl (St_eqPair rfl rfl (.inl rfl) rfl ?_) | refine Lp_g rfl rfl rfl (St_eqBool rfl rfl (.inl rfl) rfl ?_) | refine Lp_g rfl rfl rfl (St_eqS rfl rfl (.inl rfl) rfl ?_) | refine Lp_g rfl rfl rfl (St_eqSliceNil rfl rfl (.inl rfl) rfl ?_) | refine Lp_g rfl rfl rfl (St_eqStr rfl rfl (.inl rfl) rfl ?_) | refine Lp_no rfl rfl rfl ?_ | refine Lp_nn rfl rfl ?_
      rw [show decide (((0 : Int), (0 : Int)) = ((0 : Int), (0 : Int))) = true from decide_eq_true rfl]
      refine Lp_pv rfl rfl ?_
      first | refine Lp_pv rfl rfl ?_ | refine Lp_mv rfl rfl ?_
      first | refine Lp_gpv rfl rfl rfl rfl ?_ | refine Lp_no rfl rfl rfl ?_ | refine Lp_nn rfl rfl ?_
      first | refine Lp_gpv rfl rfl rfl rfl ?_ | refine Lp_g rfl rfl rfl (St_eqPtrNil rfl rfl (.inl rfl) rfl ?_) | refine Lp_g rfl rfl rfl (St_eqMapNil rfl rfl (.inl rfl) rfl ?_) | refine Lp_g rfl rfl rfl (St_eqPair rfl rfl (.inl rfl) rfl ?_) | refine Lp_g rfl rfl rfl (St_eqBool rfl rfl (.inl rfl) rfl ?_) | refine Lp_g rfl rfl rfl (St_eqS rfl rfl (.inl rfl) rfl ?_) | refine Lp_g rfl rfl rfl (St_eqSliceNil rfl rfl (.inl rfl) rfl ?_) | refine Lp_g rfl rfl rfl (St_eqStr rfl rfl (.inl rfl) rfl ?_) | refine Lp_no rfl rfl rfl ?_ | refine Lp_nn rfl rfl ?_
      first | refine Lp_gpv rfl rfl rfl rfl ?_ | refine Lp_no rfl rfl rfl ?_ | refine Lp_nn rfl rfl ?_
      first | refine Lp_gpv rfl rfl rfl rfl ?_ | refine Lp_g rfl rfl rfl (St_eqPtrNil rfl rfl (.inl rfl) rfl ?_) | refine Lp_g rfl rfl rfl (St_eqMapNil rfl rfl (.inl rfl) rfl ?_) | refine Lp_g rfl rfl rfl (St_eqPair rfl rfl (.inl rfl) rfl ?_) | refine Lp_g rfl rfl rfl (St_eqBool rfl rfl (.inl rfl) rfl ?_) | refine Lp_g rfl rfl rfl (St_eqS rfl rfl (.inl rfl) rfl ?_) | refine Lp_g rfl rfl rfl (St_eqSliceNil rfl rfl (.inl rfl) rfl ?_) | refine Lp_g rfl rfl rfl (St_eqStr rfl rfl (.inl rfl) rfl ?_) | refine Lp_no rfl rfl rfl ?_ | refine Lp_nn rfl rfl ?_
      refine Lp_pv rfl rfl ?_
      first | refine Lp_pv rfl rfl ?_ | refine Lp_mv rfl rfl ?_
      first | refine Lp_gpv rfl rfl rfl rfl ?_ | refine Lp_no rfl rfl rfl ?_ | refine Lp_nn rfl rfl ?_
      first | refine Lp_gpv rfl rfl rfl rfl ?_ | refine Lp_no rfl rfl rfl ?_ | refine Lp_nn rfl rfl ?_
      first | refine Lp_gpv rfl rfl rfl rfl ?_ | refine Lp_no rfl rfl rfl ?_ | refine Lp_nn rfl rfl ?_
      first | refine Lp_gpv rfl rfl rfl rfl ?_ | refine Lp_g rfl rfl rfl (St_eqPtrNil rfl rfl (.inl rfl) rfl ?_) | refine Lp_g rfl rfl rfl (St_eqMapNil rfl rfl (.inl rfl) rfl ?_) | refine Lp_g rfl rfl rfl (St_eqPair rfl rfl (.inl rfl) rfl ?_) | refine Lp_g rfl rfl rfl (St_eqBool rfl rfl (.inl rfl) rfl ?_) | refine Lp_g rfl rfl rfl (St_eqS rfl rfl (.inl rfl) rfl ?_) | refine Lp_g rfl rfl rfl (St_eqSliceNil rfl rfl (.inl rfl) rfl ?_) | refine Lp_g rfl rfl rfl (St_eqStr rfl rfl (.inl rfl) rfl ?_) | refine Lp_no rfl rfl rfl ?_ | refine Lp_nn rfl rfl ?_
      first | refine Lp_gpv rfl rfl rfl rfl ?_ | refine Lp_no rfl rfl rfl ?_ | refine Lp_nn rfl rfl ?_
      refine Lp_pv rfl rfl ?_
      first | refine Lp_pv rfl rfl ?_ | refine Lp_mv rfl rfl ?_
      refine Lp_nil ?_
      replace H := Holds.sel [0] 2 H; dsimp only [SL.sel, SL.pull, List.drop] at H
      exact C_ret (fn_end0 _ (.inr rfl) H rfl fun w' H' => ⟨rfl, H'⟩)

set_option maxHeartbeats 4000000 in
theorem Back_walk {W : World} (hp : Pow W) (t : Tk) (s : List UInt8) (hl : s.length ≤ 9223372036854775807) {w : World} [Extra] (H : Holds w [old W]) :
    Calls Tryd.prog 4 #[tk t, str s] w (ret fun x w' => x = .bool true ∧ Holds w' [old W]) := by
  obtain ⟨t1, t2⟩ := t
  refine calls_of Tryd.func4 rfl (by kernel_rfl) ?_
  repeat refine C_seq ?_
  refine C_region ?_
  first | (refine Lp_s rfl (St_boxN H rfl rfl ?_); clear H; intro b2 w H) | (refine Lp_s rfl (St_box1 H rfl rfl rfl ?_); clear H; intro b2 w H)
  first | refine Lp_pv rfl rfl ?_ | refine Lp_mv rfl rfl ?_
  refine Lp_nil ?_
  repeat refine C_seq ?_
  refine C_region ?_
  first | refine Lp_s rfl (St_load1 H rfl rfl rfl ?_) | refine Lp_s rfl (St_loadN H rfl (by repeat (first | exact Reads.nil _ | apply Reads.cons rfl)) rfl ?_)
  refine Lp_s rfl (St_call (a := []) (b := []) rfl rfl (call (Text_spec hp (t1, t2) H.swap) ?_))
  clear H; rintro v w ⟨rfl, H⟩
  first | refine Lp_pv rfl rfl ?_ | refine Lp_mv rfl rfl ?_
  refine Lp_pv rfl rfl ?_
  refine Lp_pv rfl rfl ?_
  first | refine Lp_pv rfl rfl ?_ | refine Lp_mv rfl rfl ?_
  first | refine Lp_pv rfl rfl ?_ | refine Lp_mv rfl rfl ?_
  refine Lp_nil ?_
  repeat refine C_seq ?_
  refine C_region ?_
  first | refine Lp_pv rfl rfl ?_ | refine Lp_mv rfl rfl ?_
  first | refine Lp_pv rfl rfl ?_ | refine Lp_s rfl (St_eqPtrNil rfl rfl (.inl rfl) rfl ?_) | refine Lp_s rfl (St_eqMapNil rfl rfl (.inl rfl) rfl ?_) | refine Lp_s rfl (St_eqPair rfl rfl (.inl rfl) rfl ?_) | refine Lp_s rfl (St_eqBool rfl rfl (.inl rfl) rfl ?_) | refine Lp_s rfl (St_eqS rfl rfl (.inl rfl) rfl ?_) | refine Lp_s rfl (St_eqSliceNil rfl rfl (.inl rfl) rfl ?_) | refine Lp_s rfl (St_eqStr rfl rfl (.inl rfl) rfl ?_)
  refine Lp_nil ?_
  repeat refine C_seq ?_
  refine C_join (fun ms σ w => ms = [] ∧ σ 1 = str s ∧ Holds w [old W]) ?_ ?_
  · cases hr : rightB (t1, t2) with
    | false =>
      rw [if_neg (by decide), if_neg (by decide)]
      repeat refine C_seq ?_
      refine C_false rfl (C_skip ?_)
      exact ⟨rfl, rfl, rfl, H.swap.drop⟩
    | true =>
      obtain ⟨hg, he⟩ := text_good hr
      have hlen := (scan_text hr).2
      have e1 : parseV (textT (t1, t2)) = (t1, t2) := (if_pos hg).trans he
      have e2 : parseE (textT (t1, t2)) = 0 := if_pos hg
      rw [if_pos rfl, if_pos rfl]
      repeat refine C_seq ?_
      refine C_true rfl ?_
      repeat refine C_seq ?_
      refine C_region ?_
      first | refine Lp_pv rfl rfl ?_ | refine Lp_mv rfl rfl ?_
      refine Lp_s rfl (St_call (a := []) (b := []) rfl rfl (call (Parse_spec (textT (t1, t2)) (by omega) H) ?_))
      clear H; rintro v w ⟨rfl, H⟩
      rw [e1, e2]
      first | refine Lp_pv rfl rfl ?_ | refine Lp_mv rfl rfl ?_
      refine Lp_pv rfl rfl ?_
      refine Lp_pv rfl rfl ?_
      (refine Lp_s rfl (St_alloc H rfl ?_); clear H; intro b7 w H)
      first | (refine Lp_s rfl (St_store1 H rfl rfl inferInstance rfl (Nat.le_of_ble_eq_true rfl) rfl ?_); clear H; intro w H) | (refine Lp_s rfl (St_storeN H rfl rfl inferInstance rfl rfl (Nat.le_of_ble_eq_true rfl) rfl ?_); clear H; intro w H)
      first | refine Lp_pv rfl rfl ?_ | refine Lp_mv rfl rfl ?_
      refine Lp_nil ?_
      repeat refine C_seq ?_
      refine C_region ?_
      first | refine Lp_pv rfl rfl ?_ | refine Lp_mv rfl rfl ?_
      first | refine Lp_pv rfl rfl ?_ | refine Lp_s rfl (St_eqPtrNil rfl rfl (.inr rfl) rfl ?_) | refine Lp_s rfl (St_eqMapNil rfl rfl (.inr rfl) rfl ?_) | refine Lp_s rfl (St_eqPair rfl rfl (.inr rfl) rfl ?_) | refine Lp_s rfl (St_eqBool rfl rfl (.inr rfl) rfl ?_) | refine Lp_s rfl (St_eqS rfl rfl (.inr rfl) rfl ?_) | refine Lp_s rfl (St_eqSliceNil rfl rfl (.inr rfl) rfl ?_) | refine Lp_s rfl (St_eqStr rfl rfl (.inr rfl) rfl ?_)
      first | refine Lp_pv rfl rfl ?_ | refine Lp_mv rfl rfl ?_
      first | refine Lp_g rfl rfl rfl (St_load1 H rfl rfl rfl ?_) | refine Lp_g rfl rfl rfl (St_loadN H rfl (by repeat (first | exact Reads.nil _ | apply Reads.cons rfl)) rfl ?_) | refine Lp_no rfl rfl rfl ?_ | refine Lp_nn rfl rfl ?_
      first | refine Lp_g rfl rfl rfl (St_load1 H rfl rfl rfl ?_) | refine Lp_g rfl rfl rfl (St_loadN H rfl (by repeat (first | exact Reads.nil _ | apply Reads.cons rfl)) rfl ?_) | refine Lp_no rfl rfl rfl ?_ | refine Lp_nn rfl rfl ?_
      first | refine Lp_gpv rfl rfl rfl rfl ?_ | refine Lp_g rfl rfl rfl (St_eqPtrNil rfl rfl (.inr rfl) rfl ?_) | refine Lp_g rfl rfl rfl (St_eqMapNil rfl rfl (.inr rfl) rfl ?_) | refine Lp_g rfl rfl rfl (St_eqPair rfl rfl (.inr rfl) rfl ?_) | refine Lp_g rfl rfl rfl (St_eqBool rfl rfl (.inr rfl) rfl ?_) | refine Lp_g rfl rfl rfl (St_eqS rfl rfl (.inr rfl) rfl ?_) | refine Lp_g rfl rfl rfl (St_eqSliceNil rfl rfl (.inr rfl) rfl ?_) | refine Lp_g rfl rfl rfl (St_eqStr rfl rfl (.inr rfl) rfl ?_) | refine Lp_no rfl rfl rfl ?_ | refine Lp_nn rfl rfl ?_
      rw [show decide ((t1, t2) = (t1, t2)) = true from decide_eq_true rfl]
      refine Lp_pv rfl rfl ?_
      refine Lp_nil ?_
      repeat refine C_seq ?_
      refine C_false rfl (C_skip ?_)
      replace H := Holds.sel [1] 2 H; dsimp only [SL.sel, SL.pull, List.drop] at H
      exact ⟨rfl, rfl, rfl, H⟩
  · clear H
    rintro ms σ w ⟨rfl, h1, H⟩
    rw [upd_self h1]
    repeat refine C_seq ?_
    refine C_region ?_
    first | refine Lp_pv rfl rfl ?_ | refine Lp_mv rfl rfl ?_
    refine Lp_s rfl (St_call (a := []) (b := []) rfl rfl (call (Parse_spec s hl H) ?_))
    clear H; rintro v w ⟨rfl, H⟩
    first | refine Lp_pv rfl rfl ?_ | refine Lp_mv rfl rfl ?_
    refine Lp_pv rfl rfl ?_
    refine Lp_pv rfl rfl ?_
    (refine Lp_s rfl (St_alloc H rfl ?_); clear H; intro b9 w H)
    first | (refine Lp_s rfl (St_store1 H rfl rfl inferInstance rfl (Nat.le_of_ble_eq_true rfl) rfl ?_); clear H; intro w H) | (refine Lp_s rfl (St_storeN H rfl rfl inferInstance rfl rfl (Nat.le_of_ble_eq_true rfl) rfl ?_); clear H; intro w H)
    first | refine Lp_pv rfl rfl ?_ | refine Lp_mv rfl rfl ?_
    refine Lp_nil ?_
    repeat refine C_seq ?_
    refine C_region ?_
    first | refine Lp_pv rfl rfl ?_ | refine Lp_mv rfl rfl ?_
    first | refine Lp_pv rfl rfl ?_ | refine Lp_s rfl (St_eqPtrNil rfl rfl (.inl rfl) rfl ?_) | refine Lp_s rfl (St_eqMapNil rfl rfl (.inl rfl) rfl ?_) | refine Lp_s rfl (St_eqPair rfl rfl (.inl rfl) rfl ?_) | refine Lp_s rfl (St_eqBool rfl rfl (.inl rfl) rfl ?_) | refine Lp_s rfl (St_eqS rfl rfl (.inl rfl) rfl ?_) | refine Lp_s rfl (St_eqSliceNil rfl rfl (.inl rfl) rfl ?_) | refine Lp_s rfl (St_eqStr rfl rfl (.inl rfl) rfl ?_)
    refine Lp_nil ?_
    repeat refine C_seq ?_
    refine C_join (fun ms σ w => ms = [] ∧ Holds w [old W]) ?_ ?_
    · by_cases hg : goodB s
      · have e1 : parseV s = tokB s := if_pos hg
        have e2 : parseE s = 0 := if_pos hg
        have ht := good_text hg
        rw [e1] at H
        rw [e2]
        repeat refine C_seq ?_
        refine C_true rfl ?_
        repeat refine C_seq ?_
        refine C_region ?_
        first | refine Lp_s rfl (St_load1 H rfl rfl rfl ?_) | refine Lp_s rfl (St_loadN H rfl (by repeat (first | exact Reads.nil _ | apply Reads.cons rfl)) rfl ?_)
        refine Lp_s rfl (St_call (a := []) (b := []) rfl rfl (call (Text_spec hp (tokB s) H.swap) ?_))
        clear H; rintro v w ⟨rfl, H⟩
        rw [if_pos hg.2.2, if_pos hg.2.2, ht]
        first | refine Lp_pv rfl rfl ?_ | refine Lp_mv rfl rfl ?_
        refine Lp_pv rfl rfl ?_
        refine Lp_pv rfl rfl ?_
        first | refine Lp_pv rfl rfl ?_ | refine Lp_mv rfl rfl ?_
        first | refine Lp_pv rfl rfl ?_ | refine Lp_mv rfl rfl ?_
        refine Lp_nil ?_
        repeat refine C_seq ?_
        refine C_region ?_
        first | refine Lp_pv rfl rfl ?_ | refine Lp_mv rfl rfl ?_
        first | refine Lp_pv rfl rfl ?_ | refine Lp_s rfl (St_eqPtrNil rfl rfl (.inr rfl) rfl ?_) | refine Lp_s rfl (St_eqMapNil rfl rfl (.inr rfl) rfl ?_) | refine Lp_s rfl (St_eqPair rfl rfl (.inr rfl) rfl ?_) | refine Lp_s rfl (St_eqBool rfl rfl (.inr rfl) rfl ?_) | refine Lp_s rfl (St_eqS rfl rfl (.inr rfl) rfl ?_) | refine Lp_s rfl (St_eqSliceNil rfl rfl (.inr rfl) rfl ?_) | refine Lp_s rfl (St_eqStr rfl rfl (.inr rfl) rfl ?_)
        first | refine Lp_pv rfl rfl ?_ | refine Lp_mv rfl rfl ?_
        first | refine Lp_gpv rfl rfl rfl rfl ?_ | refine Lp_no rfl rfl rfl ?_ | refine Lp_nn rfl rfl ?_
        first | refine Lp_gpv rfl rfl rfl rfl ?_ | refine Lp_no rfl rfl rfl ?_ | refine Lp_nn rfl rfl ?_
        first | refine Lp_gpv rfl rfl rfl rfl ?_ | refine Lp_g rfl rfl rfl (St_eqPtrNil rfl rfl (.inr rfl) rfl ?_) | refine Lp_g rfl rfl rfl (St_eqMapNil rfl rfl (.inr rfl) rfl ?_) | refine Lp_g rfl rfl rfl (St_eqPair rfl rfl (.inr rfl) rfl ?_) | refine Lp_g rfl rfl rfl (St_eqBool rfl rfl (.inr rfl) rfl ?_) | refine Lp_g rfl rfl rfl (St_eqS rfl rfl (.inr rfl) rfl ?_) | refine Lp_g rfl rfl rfl (St_eqSliceNil rfl rfl (.inr rfl) rfl ?_) | refine Lp_g rfl rfl rfl (St_eqStr rfl rfl (.inr rfl) rfl ?_) | refine Lp_no rfl rfl rfl ?_ | refine Lp_nn rfl rfl ?_
        rw [show decide (s = s) = true from decide_eq_true rfl]
        refine Lp_pv rfl rfl ?_
        refine Lp_nil ?_
        repeat refine C_seq ?_
        refine C_false rfl (C_skip ?_)
        replace H := Holds.sel [0] 1 H; dsimp only [SL.sel, SL.pull, List.drop] at H
        exact ⟨rfl, rfl, H⟩
      · have e2 : parseE s = 4 := if_neg hg
        rw [e2]
        repeat refine C_seq ?_
        refine C_false rfl (C_skip ?_)
        exact ⟨rfl, rfl, H.drop⟩
    · clear H
      rintro ms σ w ⟨rfl, H⟩
      repeat refine C_seq ?_
      refine C_region ?_
      refine Lp_s rfl (St_call (a := []) (b := []) rfl rfl (call (talive_spec hp H) ?_))
      clear H; rintro v w ⟨rfl, H⟩
      first | refine Lp_pv rfl rfl ?_ | refine Lp_mv rfl rfl ?_
      refine Lp_nil ?_
      exact C_ret (fn_end0 _ (.inr rfl) H rfl fun w' H' => ⟨rfl, H'⟩)
end Go.Proofs.YtdpephigccnkdaaDoor
