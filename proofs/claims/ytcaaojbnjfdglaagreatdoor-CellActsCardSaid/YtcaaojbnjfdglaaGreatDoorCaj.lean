/- Cells: what is proved on the way: every input of the statement; no condition. Texts joined: RefB RemA RmB TreA CelP. -/
import Derived.Test.YtcaaojbnjfdglaaGreatDoorCai
import Derived.Test.YtcaaojbnjfdglaaGreatDoorCad
set_option linter.unusedVariables false
set_option linter.unusedSimpArgs false
set_option linter.unusedSectionVars false
namespace Go.Proofs.YtcaaojbnjfdglaaGreatDoor
open Go.SL

theorem dRight_spec [Extra] (vr vq : Value) (l : Lay) (hs : SmallL l) {w : World} {fr : List HProp} (hr : RdL fr vr vq l) (H : Holds w fr) :
    Calls Tryz.prog 109 #[layV l.fixed vr l.record vq] w (ret fun x w' => (∃ b, x = .bool b ∧ (b = true ↔ RightL l)) ∧ Holds w' fr) := by
  obtain ⟨s1, s2, s3, s4⟩ := hs
  obtain ⟨hr1, hr2⟩ := hr
  obtain ⟨_, ad1, cap1, rfl, hr1'⟩ := id hr1
  obtain ⟨_, ad2, cap2, rfl, hr2'⟩ := id hr2
  refine calls_of Tryz.func109 rfl (by kernel_rfl) ?_
  repeat refine C_seq ?_
  refine C_region ?_
  (refine Lp_s rfl (St_boxN H rfl rfl ?_); clear H; intro b1 w H)
  refine Lp_pv rfl rfl ?_
  refine Lp_nil ?_
  repeat refine C_seq ?_
  refine C_region ?_
  refine Lp_s rfl (St_fieldAddr rfl rfl ?_)
  refine Lp_s rfl (St_load1 H rfl rfl rfl ?_)
  refine Lp_pv rfl rfl ?_
  rw [show decide ((l.fixed : Int) < 0) = false from decide_eq_false (by omega)]
  refine Lp_pv rfl rfl ?_
  refine Lp_g rfl rfl rfl (St_fieldAddr rfl rfl ?_)
  refine Lp_g rfl rfl rfl (St_load1 H rfl rfl rfl ?_)
  refine Lp_gpv rfl rfl rfl rfl ?_
  by_cases h1 : l.fixed ≤ 64
  · rw [show decide ((l.fixed : Int) > 64) = false from decide_eq_false (by omega)]
    refine Lp_pv rfl rfl ?_
    refine Lp_pv rfl rfl ?_
    refine Lp_g rfl rfl rfl (St_fieldAddr rfl rfl ?_)
    refine Lp_g rfl rfl rfl (St_load1 H rfl rfl rfl ?_)
    refine Lp_gpv rfl rfl rfl rfl ?_
    rw [show decide ((l.record : Int) < 0) = false from decide_eq_false (by omega)]
    refine Lp_pv rfl rfl ?_
    refine Lp_pv rfl rfl ?_
    refine Lp_g rfl rfl rfl (St_fieldAddr rfl rfl ?_)
    refine Lp_g rfl rfl rfl (St_load1 H rfl rfl rfl ?_)
    refine Lp_gpv rfl rfl rfl rfl ?_
    by_cases h2 : l.record ≤ 64
    · rw [show decide ((l.record : Int) > 64) = false from decide_eq_false (by omega)]
      refine Lp_pv rfl rfl ?_
      refine Lp_nil ?_
      repeat refine C_seq ?_
      refine C_false rfl (C_skip ?_)
      repeat refine C_seq ?_
      refine C_region ?_
      refine Lp_s rfl (St_fieldAddr rfl rfl ?_)
      refine Lp_s rfl (St_load1 H rfl rfl rfl ?_)
      refine Lp_s rfl (St_fieldAddr rfl rfl ?_)
      refine Lp_s rfl (St_load1 H rfl rfl rfl ?_)
      refine Lp_s rfl (St_call (a := []) (b := []) rfl rfl (call (rise_spec _ l.refs l.fixed s3 hr1.there H) ?_))
      clear H; rintro v w ⟨⟨b, rfl, hb⟩, H⟩
      refine Lp_pv rfl rfl ?_
      refine Lp_nil ?_
      repeat refine C_seq ?_
      refine C_region ?_
      refine Lp_s rfl (St_fieldAddr rfl rfl ?_)
      refine Lp_s rfl (St_load1 H rfl rfl rfl ?_)
      refine Lp_s rfl (St_fieldAddr rfl rfl ?_)
      refine Lp_s rfl (St_load1 H rfl rfl rfl ?_)
      refine Lp_s rfl (St_call (a := []) (b := []) rfl rfl (call (rise_spec _ l.recs l.record s4 hr2.there H) ?_))
      clear H; rintro v w ⟨⟨c, rfl, hc⟩, H⟩
      refine Lp_pv rfl rfl ?_
      refine Lp_nil ?_
      have key : (b = true ∧ c = true ∧ l.fixed + l.record ≠ 0) ↔ RightL l := by
        rw [hb, hc]
        exact ⟨fun h => ⟨h1, h2, h.2.2, h.1, h.2.1⟩, fun h => ⟨h.2.2.2.1, h.2.2.2.2, h.2.2.1⟩⟩
      cases b with
      | false =>
        repeat refine C_seq ?_
        refine C_region ?_
        refine Lp_pv rfl rfl ?_
        refine Lp_pv rfl rfl ?_
        refine Lp_no rfl rfl rfl ?_
        refine Lp_pv rfl rfl ?_
        refine Lp_pv rfl rfl ?_
        refine Lp_no rfl rfl rfl ?_
        refine Lp_no rfl rfl rfl ?_
        refine Lp_no rfl rfl rfl ?_
        refine Lp_no rfl rfl rfl ?_
        refine Lp_nn rfl rfl ?_
        refine Lp_nn rfl rfl ?_
        refine Lp_nn rfl rfl ?_
        refine Lp_no rfl rfl rfl ?_
        refine Lp_pv rfl rfl ?_
        refine Lp_pv rfl rfl ?_
        refine Lp_nil ?_
        exact C_ret (fn_end0 _ (.inr rfl) H.drop rfl fun w' H' => ⟨⟨false, rfl, ⟨fun h => (by cases h), fun h => (by have := (key.2 h).1; cases this)⟩⟩, H'⟩)
      | true =>
        cases c with
        | false =>
          repeat refine C_seq ?_
          refine C_region ?_
          refine Lp_pv rfl rfl ?_
          refine Lp_pv rfl rfl ?_
          refine Lp_gpv rfl rfl rfl rfl ?_
          refine Lp_pv rfl rfl ?_
          refine Lp_pv rfl rfl ?_
          refine Lp_no rfl rfl rfl ?_
          refine Lp_no rfl rfl rfl ?_
          refine Lp_no rfl rfl rfl ?_
          refine Lp_no rfl rfl rfl ?_
          refine Lp_nn rfl rfl ?_
          refine Lp_nn rfl rfl ?_
          refine Lp_nn rfl rfl ?_
          refine Lp_no rfl rfl rfl ?_
          refine Lp_pv rfl rfl ?_
          refine Lp_pv rfl rfl ?_
          refine Lp_nil ?_
          exact C_ret (fn_end0 _ (.inr rfl) H.drop rfl fun w' H' => ⟨⟨false, rfl, ⟨fun h => (by cases h), fun h => (by have := (key.2 h).2.1; cases this)⟩⟩, H'⟩)
        | true =>
          repeat refine C_seq ?_
          refine C_region ?_
          refine Lp_pv rfl rfl ?_
          refine Lp_pv rfl rfl ?_
          refine Lp_gpv rfl rfl rfl rfl ?_
          refine Lp_pv rfl rfl ?_
          refine Lp_pv rfl rfl ?_
          refine Lp_g rfl rfl rfl (St_fieldAddr rfl rfl ?_)
          refine Lp_g rfl rfl rfl (St_load1 H rfl rfl rfl ?_)
          refine Lp_gpv rfl rfl rfl rfl ?_
          by_cases h3 : l.fixed > 0
          · rw [show decide ((l.fixed : Int) > 0) = true from decide_eq_true (by omega)]
            refine Lp_gpv rfl rfl rfl rfl ?_
            refine Lp_no rfl rfl rfl ?_
            refine Lp_no rfl rfl rfl ?_
            refine Lp_no rfl rfl rfl ?_
            refine Lp_gpv rfl rfl rfl rfl ?_
            refine Lp_pv rfl rfl ?_
            refine Lp_pv rfl rfl ?_
            refine Lp_nil ?_
            exact C_ret (fn_end0 _ (.inr rfl) H.drop rfl fun w' H' => ⟨⟨true, rfl, ⟨fun _ => key.1 ⟨rfl, rfl, by omega⟩, fun _ => rfl⟩⟩, H'⟩)
          · rw [show decide ((l.fixed : Int) > 0) = false from decide_eq_false (by omega)]
            refine Lp_gpv rfl rfl rfl rfl ?_
            refine Lp_g rfl rfl rfl (St_fieldAddr rfl rfl ?_)
            refine Lp_g rfl rfl rfl (St_load1 H rfl rfl rfl ?_)
            refine Lp_gpv rfl rfl rfl rfl ?_
            by_cases h4 : l.record > 0
            · rw [show decide ((l.record : Int) > 0) = true from decide_eq_true (by omega)]
              refine Lp_gpv rfl rfl rfl rfl ?_
              refine Lp_pv rfl rfl ?_
              refine Lp_pv rfl rfl ?_
              refine Lp_nil ?_
              exact C_ret (fn_end0 _ (.inr rfl) H.drop rfl fun w' H' => ⟨⟨true, rfl, ⟨fun _ => key.1 ⟨rfl, rfl, by omega⟩, fun _ => rfl⟩⟩, H'⟩)
            · rw [show decide ((l.record : Int) > 0) = false from decide_eq_false (by omega)]
              refine Lp_gpv rfl rfl rfl rfl ?_
              refine Lp_pv rfl rfl ?_
              refine Lp_pv rfl rfl ?_
              refine Lp_nil ?_
              exact C_ret (fn_end0 _ (.inr rfl) H.drop rfl fun w' H' => ⟨⟨false, rfl, ⟨fun h => (by cases h), fun h => (by have := (key.2 h).2.2; omega)⟩⟩, H'⟩)
    · rw [show decide ((l.record : Int) > 64) = true from decide_eq_true (by omega)]
      refine Lp_pv rfl rfl ?_
      refine Lp_nil ?_
      repeat refine C_seq ?_
      refine C_true rfl ?_
      repeat refine C_seq ?_
      refine C_region ?_
      refine Lp_pv rfl rfl ?_
      refine Lp_nil ?_
      exact C_ret (fn_end0 _ (.inr rfl) H.drop rfl fun w' H' => ⟨⟨false, rfl, ⟨fun h => (by cases h), fun h => (by unfold RightL at h; omega)⟩⟩, H'⟩)
  · rw [show decide ((l.fixed : Int) > 64) = true from decide_eq_true (by omega)]
    refine Lp_pv rfl rfl ?_
    refine Lp_pv rfl rfl ?_
    refine Lp_no rfl rfl rfl ?_
    refine Lp_no rfl rfl rfl ?_
    refine Lp_no rfl rfl rfl ?_
    refine Lp_pv rfl rfl ?_
    refine Lp_pv rfl rfl ?_
    refine Lp_no rfl rfl rfl ?_
    refine Lp_no rfl rfl rfl ?_
    refine Lp_no rfl rfl rfl ?_
    refine Lp_pv rfl rfl ?_
    refine Lp_nil ?_
    repeat refine C_seq ?_
    refine C_true rfl ?_
    repeat refine C_seq ?_
    refine C_region ?_
    refine Lp_pv rfl rfl ?_
    refine Lp_nil ?_
    exact C_ret (fn_end0 _ (.inr rfl) H.drop rfl fun w' H' => ⟨⟨false, rfl, ⟨fun h => (by cases h), fun h => (by unfold RightL at h; omega)⟩⟩, H'⟩)

theorem dSize_spec [Extra] (vr vq : Value) (l : Lay) (hR : RightL l) (count : Int) {w : World} {fr : List HProp} (hr : RdL fr vr vq l) (H : Holds w fr) :
    Calls Tryz.prog 164 #[layV l.fixed vr l.record vq, .int .i64 count] w (ret fun x w' => x = .tuple #[.int .i64 ((sizeL l count).1 : Nat), .int .i64 ((sizeL l count).2 : Nat)] ∧ Holds w' fr) := by
  have hf := hR.1
  have hc := hR.2.1
  obtain ⟨_, ad1, cap1, rfl, hr1⟩ := id hr.r
  obtain ⟨_, ad2, cap2, rfl, hr2⟩ := id hr.q
  refine calls_of Tryz.func164 rfl (by kernel_rfl) ?_
  repeat refine C_seq ?_
  refine C_region ?_
  (refine Lp_s rfl (St_boxN H rfl rfl ?_); clear H; intro b2 w H)
  refine Lp_pv rfl rfl ?_
  refine Lp_pv rfl rfl ?_
  refine Lp_nil ?_
  repeat refine C_seq ?_
  refine C_region ?_
  refine Lp_s rfl (St_loadN H rfl (by repeat (first | exact Reads.nil _ | apply Reads.cons rfl)) rfl ?_)
  refine Lp_s rfl (St_call (a := []) (b := []) rfl rfl (call (dRight_spec _ _ l hR.small hr.there H) ?_))
  clear H; rintro v w ⟨⟨b, rfl, hb⟩, H⟩
  obtain rfl := hb.2 hR
  refine Lp_pv rfl rfl ?_
  refine Lp_nil ?_
  repeat refine C_seq ?_
  refine C_region ?_
  refine Lp_pv rfl rfl ?_
  refine Lp_pv rfl rfl ?_
  refine Lp_nil ?_
  repeat refine C_seq ?_
  refine C_false rfl (C_skip ?_)
  repeat refine C_seq ?_
  refine C_join (fun ms σ w => ms = [] ∧ (∃ q, σ 26 = .bool q ∧ (q = true ↔ (count < 0 ∨ count > 1024 ∨ (count > 0 ∧ l.record = 0)))) ∧ σ 1 = .int .i64 count ∧ σ 2 = pp b2 ∧ Holds w (pts b2 (row 101 [.int .i64 l.fixed, .slice ad1 l.refs.length cap1, .int .i64 l.record, .slice ad2 l.recs.length cap2]) :: fr)) ?_ ?_
  · repeat refine C_seq ?_
    refine C_region ?_
    refine Lp_pv rfl rfl ?_
    refine Lp_pv rfl rfl ?_
    by_cases c0 : count < 0
    · rw [show decide (count < 0) = true from decide_eq_true (by omega)]
      refine Lp_pv rfl rfl ?_
      refine Lp_no rfl rfl rfl ?_
      refine Lp_no rfl rfl rfl ?_
      refine Lp_pv rfl rfl ?_
      refine Lp_pv rfl rfl ?_
      refine Lp_no rfl rfl rfl ?_
      refine Lp_no rfl rfl rfl ?_
      refine Lp_no rfl rfl rfl ?_
      refine Lp_no rfl rfl rfl ?_
      refine Lp_nn rfl rfl ?_
      refine Lp_nn rfl rfl ?_
      refine Lp_no rfl rfl rfl ?_
      refine Lp_pv rfl rfl ?_
      refine Lp_nil ?_
      exact ⟨rfl, rfl, ⟨true, rfl, by simp [c0]⟩, rfl, rfl, H⟩
    · rw [show decide (count < 0) = false from decide_eq_false (by omega)]
      refine Lp_pv rfl rfl ?_
      refine Lp_gpv rfl rfl rfl rfl ?_
      refine Lp_gpv rfl rfl rfl rfl ?_
      by_cases c1 : count > 1024
      · rw [show decide (count > 1024) = true from decide_eq_true (by omega)]
        refine Lp_pv rfl rfl ?_
        refine Lp_pv rfl rfl ?_
        refine Lp_no rfl rfl rfl ?_
        refine Lp_no rfl rfl rfl ?_
        refine Lp_no rfl rfl rfl ?_
        refine Lp_no rfl rfl rfl ?_
        refine Lp_nn rfl rfl ?_
        refine Lp_nn rfl rfl ?_
        refine Lp_no rfl rfl rfl ?_
        refine Lp_pv rfl rfl ?_
        refine Lp_nil ?_
        exact ⟨rfl, rfl, ⟨true, rfl, by simp [c1]⟩, rfl, rfl, H⟩
      · rw [show decide (count > 1024) = false from decide_eq_false (by omega)]
        refine Lp_pv rfl rfl ?_
        refine Lp_pv rfl rfl ?_
        refine Lp_g rfl rfl rfl (St_fieldAddr rfl rfl ?_)
        refine Lp_g rfl rfl rfl (St_load1 H rfl rfl rfl ?_)
        refine Lp_gpv rfl rfl rfl rfl ?_
        by_cases c3 : l.record = 0
        · rw [show ((l.record : Int) == 0) = true by simp; omega]
          refine Lp_gpv rfl rfl rfl rfl ?_
          refine Lp_gpv rfl rfl rfl rfl ?_
          refine Lp_gpv rfl rfl rfl rfl ?_
          by_cases c2 : count > 0
          · rw [show decide (count > 0) = true from decide_eq_true (by omega)]
            refine Lp_gpv rfl rfl rfl rfl ?_
            refine Lp_pv rfl rfl ?_
            refine Lp_nil ?_
            exact ⟨rfl, rfl, ⟨true, rfl, by simp [c2, c3]⟩, rfl, rfl, H⟩
          · rw [show decide (count > 0) = false from decide_eq_false (by omega)]
            refine Lp_gpv rfl rfl rfl rfl ?_
            refine Lp_pv rfl rfl ?_
            refine Lp_nil ?_
            exact ⟨rfl, rfl, ⟨false, rfl, by simp only [Bool.false_eq_true, false_iff]; omega⟩, rfl, rfl, H⟩
        · rw [show ((l.record : Int) == 0) = false by simp; omega]
          refine Lp_gpv rfl rfl rfl rfl ?_
          refine Lp_no rfl rfl rfl ?_
          refine Lp_no rfl rfl rfl ?_
          refine Lp_gpv rfl rfl rfl rfl ?_
          refine Lp_pv rfl rfl ?_
          refine Lp_nil ?_
          exact ⟨rfl, rfl, ⟨false, rfl, by simp only [Bool.false_eq_true, false_iff]; omega⟩, rfl, rfl, H⟩
  clear H
  rintro ms σ w ⟨rfl, ⟨q, g26, hq⟩, g1, g2, H⟩
  rw [upd_self g26, upd_self g1, upd_self g2]
  cases q with
  | true =>
    have hs : sizeL l count = (0, 3) := by unfold sizeL; rw [if_pos (hq.1 rfl)]
    repeat refine C_seq ?_
    refine C_true rfl ?_
    repeat refine C_seq ?_
    refine C_region ?_
    refine Lp_pv rfl rfl ?_
    refine Lp_pv rfl rfl ?_
    refine Lp_nil ?_
    exact C_ret (fn_end0 _ (.inr rfl) H.drop rfl fun w' H' => ⟨by rw [hs]; rfl, H'⟩)
  | false =>
    have hq' : ¬ (count < 0 ∨ count > 1024 ∨ (count > 0 ∧ l.record = 0)) := fun h => by have := hq.2 h; cases this
    obtain ⟨c, rfl⟩ : ∃ c : Nat, count = c := ⟨count.toNat, by omega⟩
    have hcm : c * l.record ≤ 1024 * 64 := Nat.mul_le_mul (by omega) hc
    have hcm2 : (l.record : Int) * (c : Int) = ((c * l.record : Nat) : Int) := by rw [Int.natCast_mul, Int.mul_comm]
    repeat refine C_seq ?_
    refine C_false rfl (C_skip ?_)
    repeat refine C_seq ?_
    refine C_region ?_
    refine Lp_s rfl (St_fieldAddr rfl rfl ?_)
    refine Lp_s rfl (St_load1 H rfl rfl rfl ?_)
    refine Lp_s rfl (St_fieldAddr rfl rfl ?_)
    refine Lp_s rfl (St_load1 H rfl rfl rfl ?_)
    refine Lp_pv rfl rfl ?_
    refine Lp_pv rfl rfl ?_
    refine Lp_pv rfl rfl ?_
    refine Lp_pv rfl rfl ?_
    refine Lp_nil ?_
    repeat refine C_seq ?_
    refine C_region ?_
    refine Lp_pv rfl rfl ?_
    refine Lp_pv rfl rfl ?_
    refine Lp_pv rfl rfl ?_
    refine Lp_nil ?_
    rw [hcm2, wrap64 (x := ((c * l.record : Nat) : Int)) (by omega) (by omega), wrap64 (x := (l.fixed : Int) + ((c * l.record : Nat) : Int)) (by omega) (by omega), wrap64 (x := (l.fixed : Int) + ((c * l.record : Nat) : Int) + 1) (by omega) (by omega)]
    by_cases c3 : l.fixed + c * l.record ≥ 8192
    · have hs : sizeL l (c : Int) = (0, 10) := by unfold sizeL; rw [if_neg hq', if_pos (by simpa using c3)]
      rw [show decide ((l.fixed : Int) + ((c * l.record : Nat) : Int) + 1 > 8192) = true from decide_eq_true (by omega)]
      repeat refine C_seq ?_
      refine C_true rfl ?_
      repeat refine C_seq ?_
      refine C_region ?_
      refine Lp_pv rfl rfl ?_
      refine Lp_pv rfl rfl ?_
      refine Lp_nil ?_
      exact C_ret (fn_end0 _ (.inr rfl) H.drop rfl fun w' H' => ⟨by rw [hs]; rfl, H'⟩)
    · have hs : sizeL l (c : Int) = (l.fixed + c * l.record, 0) := by unfold sizeL; rw [if_neg hq', if_neg (by simpa using c3)]; simp
      rw [show decide ((l.fixed : Int) + ((c * l.record : Nat) : Int) + 1 > 8192) = false from decide_eq_false (by omega)]
      repeat refine C_seq ?_
      refine C_false rfl (C_skip ?_)
      repeat refine C_seq ?_
      refine C_region ?_
      refine Lp_pv rfl rfl ?_
      refine Lp_pv rfl rfl ?_
      refine Lp_pv rfl rfl ?_
      refine Lp_nil ?_
      exact C_ret (fn_end0 _ (.inr rfl) H.drop rfl fun w' H' => ⟨by rw [hs]; show Value.tuple #[.int .i64 ((l.fixed : Int) + ((c * l.record : Nat) : Int)), _] = _; rw [← Int.natCast_add]; rfl, H'⟩)

theorem dIsRef_spec [Extra] (vr vq : Value) (l : Lay) (hR : RightL l) (p : Nat) (hp : l.record ≠ 0 ∨ p < l.fixed) (hp2 : p < 1000000) {w : World} {fr : List HProp} (hr : RdL fr vr vq l) (H : Holds w fr) :
    Calls Tryz.prog 70 #[layV l.fixed vr l.record vq, .int .i64 p] w (ret fun x w' => x = .bool (isRefL l p) ∧ Holds w' fr) := by
  have hsm := hR.small
  obtain ⟨_, ad1, cap1, rfl, hr1⟩ := id hr.r
  obtain ⟨_, ad2, cap2, rfl, hr2⟩ := id hr.q
  refine calls_of Tryz.func70 rfl (by kernel_rfl) ?_
  repeat refine C_seq ?_
  refine C_region ?_
  (refine Lp_s rfl (St_boxN H rfl rfl ?_); clear H; intro b2 w H)
  refine Lp_pv rfl rfl ?_
  refine Lp_nil ?_
  repeat refine C_seq ?_
  refine C_region ?_
  refine Lp_pv rfl rfl ?_
  refine Lp_s rfl (St_fieldAddr rfl rfl ?_)
  refine Lp_s rfl (St_load1 H rfl rfl rfl ?_)
  refine Lp_pv rfl rfl ?_
  refine Lp_nil ?_
  by_cases h1 : p < l.fixed
  · rw [show decide ((p : Int) < (l.fixed : Int)) = true from decide_eq_true (by omega)]
    repeat refine C_seq ?_
    refine C_true rfl ?_
    repeat refine C_seq ?_
    refine C_region ?_
    refine Lp_s rfl (St_fieldAddr rfl rfl ?_)
    refine Lp_s rfl (St_load1 H rfl rfl rfl ?_)
    refine Lp_pv rfl rfl ?_
    refine Lp_s rfl (St_call (a := []) (b := []) rfl rfl (call (has_spec _ l.refs p hsm.a hr.r.there H) ?_))
    clear H; rintro v w ⟨rfl, H⟩
    refine Lp_pv rfl rfl ?_
    refine Lp_nil ?_
    exact C_ret (fn_end0 _ (.inr rfl) H.drop rfl fun w' H' => ⟨by unfold isRefL; rw [if_pos h1]; rfl, H'⟩)
  · have e1 : IntKind.i64.wrap ((p : Int) - (l.fixed : Int)) = ((p - l.fixed : Nat) : Int) := by rw [wrap64 (by omega) (by omega)]; omega
    rw [show decide ((p : Int) < (l.fixed : Int)) = false from decide_eq_false (by omega)]
    repeat refine C_seq ?_
    refine C_false rfl (C_skip ?_)
    repeat refine C_seq ?_
    refine C_drawH H mixed ?_
    clear H; intro w H
    refine A_fieldAddr 0 rfl (Wants.none rfl) rfl (by kernel_rfl) ?_
    refine A_load1 1 [9] H rfl (Wants.none rfl) rfl rfl (by kernel_rfl) ?_
    refine A_pv 2 rfl (Wants.none rfl) rfl (by kernel_rfl) ?_
    refine A_fieldAddr 3 rfl (Wants.none rfl) rfl (by kernel_rfl) ?_
    refine A_load1 4 [9] H rfl (Wants.none rfl) rfl rfl (by kernel_rfl) ?_
    refine A_pv 5 rfl (Wants.none rfl) rfl (by kernel_rfl) ?_
    refine A_fieldAddr 6 rfl (Wants.none rfl) rfl (by kernel_rfl) ?_
    refine A_load1 7 [9] H rfl (Wants.none rfl) rfl rfl (by kernel_rfl) ?_
    rw [e1]
    refine A_pv (v := .int .i64 (((p - l.fixed) % l.record : Nat) : Int)) 8 rfl (Wants.none rfl) (by
      show (if IntKind.i64 = IntKind.i64 then (if (l.record : Int) = 0 then none else some (Value.int .i64 (Int.tmod ((p - l.fixed : Nat) : Int) (l.record : Int)))) else none) = _
      rw [if_pos rfl, if_neg (by omega), Int.tmod_eq_emod_of_nonneg (by omega), Int.natCast_emod]) (by kernel_rfl) ?_
    refine A_one 9 rfl (by kernel_rfl) (by repeat first | exact .nil | refine .cons (.inr H.at) ?_ | refine .cons (.inr H.mp) ?_ | refine .cons (.inl (by kernel_rfl)) ?_) (Wants.none rfl) (St_call (a := []) (b := []) rfl rfl (call (has_spec _ l.recs _ hsm.b hr.q.there H) ?_))
    clear H; rintro v w ⟨rfl, H⟩
    refine A_pv 10 rfl (Wants.none rfl) rfl (by kernel_rfl) ?_
    refine A_end (by kernel_rfl) (by repeat first | exact .nil | refine .cons (.inr H.at) ?_ | refine .cons (.inr H.mp) ?_ | refine .cons (.inl (by kernel_rfl)) ?_) ?_
    exact C_ret (fn_end0 _ (.inr rfl) H.drop rfl fun w' H' => ⟨by unfold isRefL; rw [if_neg h1]; rfl, H'⟩)
end Go.Proofs.YtcaaojbnjfdglaaGreatDoor
namespace Go.Proofs.YtcaaojbnjfdglaaGreatDoor
open Go.SL

abbrev Rf := Int × Int
theorem tkR : TKey Tryz.prog 241 kp := tkey_pair inferInstance
theorem tkI : TKey Tryz.prog 3 (ki .i64) := tkey_int inferInstance
@[reducible] def vm : Nat → Value := fun b => .map (some b)
@[reducible] def v1 : Int → Value := fun x => .int .i64 x
@[reducible] def rf (r : Rf) : Value := .agg #[.int .i64 r.1, .int .i64 r.2]

/-- A group: its number, its block, its references. -/
structure Gr where
  key : Int
  blk : Nat
  m : List (Rf × Int)

@[reducible] def inner (g : Gr) : HProp := mp kp v1 g.blk g.m
@[reducible] def gkb (g : Gr) : Int × Nat := (g.key, g.blk)
def mem (G : List Gr) (k : Int) (r : Rf) : Prop := ∃ g ∈ G, g.key = k ∧ r ∈ g.m.map (·.1)
def GrR (bo : Nat) (S : Int → Rf → Prop) : HProp := ex fun G => star [prop (∀ k r, mem G k r ↔ S k r), mp (ki .i64) vm bo (G.map gkb), star (G.map inner)]

theorem GrR_out [Extra] {w : World} {bo : Nat} {S : Int → Rf → Prop} {l : List HProp} (H : Holds w (GrR bo S :: l)) :
    ∃ G, (∀ k r, mem G k r ↔ S k r) ∧ Holds w (mp (ki .i64) vm bo (G.map gkb) :: star (G.map inner) :: l) := by
  obtain ⟨G, H⟩ := Holds.ex.1 H
  have H := Holds.star.1 H
  obtain ⟨h1, H⟩ := Holds.prop.1 H
  exact ⟨G, h1, H⟩

theorem GrR_in [Extra] {w : World} {bo : Nat} {S : Int → Rf → Prop} {l : List HProp} (G : List Gr) (h : ∀ k r, mem G k r ↔ S k r) (H : Holds w (mp (ki .i64) vm bo (G.map gkb) :: star (G.map inner) :: l)) : Holds w (GrR bo S :: l) :=
  Holds.ex.2 ⟨G, Holds.star.2 (Holds.prop.2 ⟨h, H⟩)⟩

theorem keys_nodup [Extra] {w : World} {K V : Type} {ek : K → Value} {vv : V → Value} (b : Nat) {m : List (K × V)} {l : List HProp} (H : Holds w l) [AtM ek vv b m l] : (m.map (·.1)).Nodup := by
  obtain ⟨es, c, _, h⟩ := Holds.mp H (ek := ek) (vv := vv) (b := b) (m := m)
  exact h.nodup

theorem gkb_keys (G : List Gr) : (G.map gkb).map (·.1) = G.map (·.key) := by simp [gkb, Function.comp_def]

theorem group_at {G : List Gr} {k : Int} {b : Nat} (h : fnd (G.map gkb) k = some b) : ∃ g g1 g2, G = g1 ++ g :: g2 ∧ g.key = k ∧ g.blk = b := by
  have h1 := fnd_mem h
  obtain ⟨g, hg, e⟩ := List.mem_map.1 h1
  obtain ⟨g1, g2, rfl⟩ := List.append_of_mem hg
  simp only [gkb, Prod.mk.injEq] at e
  exact ⟨g, g1, g2, rfl, e.1, e.2⟩

theorem era_mid {K V : Type} [DecidableEq K] {l1 l2 : List (K × V)} {p : K × V} (h : ((l1 ++ p :: l2).map (·.1)).Nodup) : era (l1 ++ p :: l2) p.1 = l1 ++ l2 := by
  induction l1 with
  | nil => simp [era]
  | cons q l1 ih =>
    simp only [List.cons_append, List.map_cons, List.nodup_cons] at h
    have hne : q.1 ≠ p.1 := fun e => h.1 (by rw [e]; simp)
    simp [era, hne, ih h.2]

theorem mem_mid {g1 g2 : List Gr} {g : Gr} {k : Int} {r : Rf} : mem (g1 ++ g :: g2) k r ↔ (g.key = k ∧ r ∈ g.m.map (·.1)) ∨ mem (g1 ++ g2) k r := by
  unfold mem
  simp only [List.mem_append, List.mem_cons]
  constructor
  · rintro ⟨x, hx | rfl | hx, h⟩
    · exact .inr ⟨x, .inl hx, h⟩
    · exact .inl h
    · exact .inr ⟨x, .inr hx, h⟩
  · rintro (h | ⟨x, hx | hx, h⟩)
    · exact ⟨g, .inr (.inl rfl), h⟩
    · exact ⟨x, .inl hx, h⟩
    · exact ⟨x, .inr (.inr hx), h⟩

theorem mem_key {G : List Gr} {k : Int} {r : Rf} (h : mem G k r) : k ∈ G.map (·.key) := by
  obtain ⟨g, hg, rfl, _⟩ := h
  exact List.mem_map_of_mem hg

theorem rest_key {g1 g2 : List Gr} {g : Gr} (h : ((g1 ++ g :: g2).map (·.key)).Nodup) : g.key ∉ (g1 ++ g2).map (·.key) := by
  rw [((List.perm_middle (a := g) (l₁ := g1) (l₂ := g2)).map (·.key)).nodup_iff] at h
  exact (List.nodup_cons.1 h).1

theorem mem_swap {g1 g2 : List Gr} {g g' : Gr} (hk : g'.key = g.key) (hn : ((g1 ++ g :: g2).map (·.key)).Nodup) {k : Int} {r : Rf} : mem (g1 ++ g' :: g2) k r ↔ if k = g.key then r ∈ g'.m.map (·.1) else mem (g1 ++ g :: g2) k r := by
  have hr := rest_key hn
  rw [mem_mid, mem_mid, hk]
  by_cases h : k = g.key
  · subst h
    simp only [if_true, true_and]
    exact ⟨fun h => h.elim id fun h => absurd (mem_key h) hr, .inl⟩
  · rw [if_neg h]
    constructor
    · rintro (⟨e, _⟩ | h')
      · exact absurd e.symm h
      · exact .inr h'
    · rintro (⟨e, _⟩ | h')
      · exact absurd e.symm h
      · exact .inr h'

theorem lose_spec [Extra] (bo : Nat) (S : Int → Rf → Prop) (k : Int) (r : Rf) {w : World} {fr : List HProp} (H : Holds w (GrR bo S :: fr)) :
    Calls Tryz.prog 188 #[.map (some bo), .int .i64 k, rf r] w (ret fun v w' => Holds w' (GrR bo (fun k' r' => S k' r' ∧ ¬ (k' = k ∧ r' = r)) :: fr)) := by
  obtain ⟨a, b⟩ := r
  refine calls_of Tryz.func188 rfl (by kernel_rfl) ?_
  obtain ⟨G, hG, H⟩ := GrR_out H
  repeat refine C_seq ?_
  refine C_region ?_
  (refine Lp_s rfl (St_boxN H rfl rfl ?_); clear H; intro b5 w H)
  refine Lp_nil ?_
  repeat refine C_seq ?_
  refine C_region ?_
  refine Lp_pv rfl rfl ?_
  refine Lp_pv rfl rfl ?_
  refine Lp_s rfl (St_lookup (key := k) H rfl rfl tkI rfl ?_)
  have hn0 := keys_nodup bo H
  have hn : (G.map (·.key)).Nodup := by rw [← gkb_keys]; exact hn0
  cases hf : fnd (G.map gkb) k with
  | none =>
    refine Lp_s rfl (St_loadN H rfl (by repeat (first | exact Reads.nil _ | apply Reads.cons rfl)) rfl ?_)
    refine Lp_s rfl (St_delete_nil (key := (a, b)) rfl rfl tkR rfl ?_)
    refine Lp_nil ?_
    repeat refine C_seq ?_
    refine C_region ?_
    refine Lp_pv rfl rfl ?_
    refine Lp_pv rfl rfl ?_
    refine Lp_s rfl (St_lookup (key := k) H rfl rfl tkI rfl ?_)
    rw [hf]
    refine Lp_s rfl (St_lenMap_nil rfl rfl ?_)
    refine Lp_pv rfl rfl ?_
    refine Lp_nil ?_
    refine C_true rfl ?_
    repeat refine C_seq ?_
    refine C_region ?_
    refine Lp_pv rfl rfl ?_
    refine Lp_pv rfl rfl ?_
    refine Lp_s rfl (St_delete (key := k) H rfl rfl tkI rfl ?_); clear H; intro w H
    refine Lp_nil ?_
    have hk := fnd_eq_none.1 hf
    rw [era_none hk] at H
    refine fn_end0 _ (.inl rfl) (GrR_in G (fun k' r' => ?_) H.drop) rfl (fun w' H' => H')
    rw [← hG k' r']
    exact ⟨fun h => ⟨h, fun e => hk (by rw [gkb_keys, ← e.1]; exact mem_key h)⟩, (·.1)⟩
  | some bi =>
    obtain ⟨g, g1, g2, rfl, rfl, rfl⟩ := group_at hf
    have H := (Holds.pick rfl).1 (H.pull 2)
    refine Lp_s rfl (St_loadN H rfl (by repeat (first | exact Reads.nil _ | apply Reads.cons rfl)) rfl ?_)
    have hi := keys_nodup g.blk H
    refine Lp_s rfl (St_delete (key := (a, b)) H rfl rfl tkR rfl ?_); clear H; intro w H
    refine Lp_nil ?_
    repeat refine C_seq ?_
    refine C_region ?_
    refine Lp_pv rfl rfl ?_
    refine Lp_pv rfl rfl ?_
    refine Lp_s rfl (St_lookup (key := g.key) H rfl rfl tkI rfl ?_)
    rw [hf]
    refine Lp_s rfl (St_lenMap kp v1 H rfl rfl ?_)
    refine Lp_pv rfl rfl ?_
    refine Lp_nil ?_
    refine C_cond rfl (fun ht => ?_) (fun ht => ?_)
    · repeat refine C_seq ?_
      refine C_region ?_
      refine Lp_pv rfl rfl ?_
      refine Lp_pv rfl rfl ?_
      refine Lp_s rfl (St_delete (key := g.key) H rfl rfl tkI rfl ?_); clear H; intro w H
      refine Lp_nil ?_
      have e : era ((g1 ++ g :: g2).map gkb) g.key = (g1 ++ g2).map gkb := by
        simp only [List.map_append, List.map_cons] at hn0 ⊢
        exact era_mid (p := gkb g) (by simpa using hn0)
      rw [e] at H
      refine fn_end0 _ (.inl rfl) (GrR_in (g1 ++ g2) (fun k' r' => ?_) (l := fr) ?_) rfl (fun w' H' => H')
      · have hr := rest_key hn
        have hz : era g.m (a, b) = [] := List.eq_nil_of_length_eq_zero (by simpa using ht)
        rw [← hG k' r', mem_mid]
        constructor
        · intro h
          exact ⟨.inr h, fun e => hr (by rw [← e.1]; exact mem_key h)⟩
        · rintro ⟨⟨rfl, h⟩ | h, h2⟩
          · have := (keys_era (m := g.m) (x := (a, b)) (y := r') hi).2 ⟨fun e => h2 ⟨rfl, e⟩, h⟩
            rw [hz] at this
            simp at this
          · exact h
      · replace H := Holds.sel [3, 1] 2 H; dsimp only [SL.sel, SL.pull, List.drop] at H
        exact H
    · refine C_skip ?_
      replace H := Holds.sel [0, 0, 1] 1 H; dsimp only [SL.sel, SL.pull, List.drop] at H
      refine fn_end0 _ (.inl rfl) (GrR_in (g1 ++ { g with m := era g.m (a, b) } :: g2) (fun k' r' => ?_) (l := fr) ?_) rfl (fun w' H' => H')
      · rw [mem_swap (g := g) (g' := { g with m := era g.m (a, b) }) rfl hn, ← hG k' r']
        split
        · rename_i e
          subst e
          rw [keys_era hi, mem_mid]
          have hr := rest_key hn
          constructor
          · rintro ⟨h1, h2⟩
            exact ⟨.inl ⟨rfl, h2⟩, fun e => h1 e.2⟩
          · rintro ⟨⟨_, h⟩ | h, h2⟩
            · exact ⟨fun e => h2 ⟨rfl, e⟩, h⟩
            · exact absurd (mem_key h) hr
        · rename_i e
          exact ⟨fun h => ⟨h, fun e' => e e'.1⟩, (·.1)⟩
      · have H := ((Holds.pick (R := inner) (gs := g1 ++ { g with m := era g.m (a, b) } :: g2) rfl).2 H).swap
        simpa only [List.map_append, List.map_cons, List.map_nil, gkb] using H

theorem note_spec [Extra] (bo : Nat) (S : Int → Rf → Prop) (k : Int) (r : Rf) {w : World} {fr : List HProp} (H : Holds w (GrR bo S :: fr)) :
    Calls Tryz.prog 189 #[.map (some bo), .int .i64 k, rf r] w (ret fun v w' => Holds w' (GrR bo (fun k' r' => S k' r' ∨ (k' = k ∧ r' = r)) :: fr)) := by
  obtain ⟨a, b⟩ := r
  refine calls_of Tryz.func189 rfl (by kernel_rfl) ?_
  obtain ⟨G, hG, H⟩ := GrR_out H
  repeat refine C_seq ?_
  refine C_region ?_
  (refine Lp_s rfl (St_boxN H rfl rfl ?_); clear H; intro b5 w H)
  refine Lp_nil ?_
  repeat refine C_seq ?_
  refine C_region ?_
  refine Lp_pv rfl rfl ?_
  refine Lp_pv rfl rfl ?_
  refine Lp_s rfl (St_lookup (key := k) H rfl rfl tkI rfl ?_)
  have hn0 := keys_nodup bo H
  have hn : (G.map (·.key)).Nodup := by rw [← gkb_keys]; exact hn0
  cases hf : fnd (G.map gkb) k with
  | none =>
    refine Lp_s rfl (St_eqMapNil rfl rfl (.inl rfl) rfl ?_)
    refine Lp_nil ?_
    refine C_true rfl ?_
    repeat refine C_seq ?_
    refine C_region ?_
    refine Lp_pv rfl rfl ?_
    refine Lp_pv rfl rfl ?_
    refine Lp_s rfl (St_makeMap v1 kp H rfl ?_); clear H; intro b12 w H
    refine Lp_s rfl (St_mapUpdate (key := k) (v := b12) H rfl rfl rfl tkI rfl ?_); clear H; intro w H
    refine Lp_nil ?_
    repeat refine C_seq ?_
    refine C_region ?_
    refine Lp_pv rfl rfl ?_
    refine Lp_pv rfl rfl ?_
    have hk := fnd_eq_none.1 hf
    refine Lp_s rfl (St_lookup (key := k) H rfl rfl tkI rfl ?_)
    have hf2 : fnd (ins (G.map gkb) k b12) k = some b12 := by rw [fnd_ins, if_pos rfl]
    rw [hf2]
    refine Lp_s rfl (St_loadN H rfl (by repeat (first | exact Reads.nil _ | apply Reads.cons rfl)) rfl ?_)
    refine Lp_s rfl (St_mapUpdate (key := (a, b)) (v := 1) H rfl rfl rfl tkR rfl ?_); clear H; intro w H
    refine Lp_nil ?_
    rw [ins_none hk] at H
    replace H := Holds.sel [0, 2, 1] 1 H; dsimp only [SL.sel, SL.pull, List.drop] at H
    refine fn_end0 _ (.inl rfl) (GrR_in (G ++ { key := k, blk := b12, m := [((a, b), 1)] } :: []) (fun k' r' => ?_) (l := fr) ?_) rfl (fun w' H' => H')
    · rw [mem_mid, List.append_nil, hG k' r']
      constructor
      · rintro (⟨rfl, h⟩ | h)
        · exact .inr ⟨rfl, by simpa using h⟩
        · exact .inl h
      · rintro (h | ⟨rfl, rfl⟩)
        · exact .inr h
        · exact .inl ⟨rfl, by simp⟩
    · have H := ((Holds.pick (R := inner) (gs := G ++ { key := k, blk := b12, m := [((a, b), 1)] } :: []) rfl).2 (by rw [List.append_nil]; exact H)).swap
      simpa only [List.map_append, List.map_cons, List.map_nil, gkb] using H
  | some bi =>
    obtain ⟨g, g1, g2, rfl, rfl, rfl⟩ := group_at hf
    have H := (Holds.pick rfl).1 (H.pull 2)
    refine Lp_s rfl (St_eqMapNil rfl rfl (.inl rfl) rfl ?_)
    refine Lp_nil ?_
    refine C_false rfl (C_skip ?_)
    repeat refine C_seq ?_
    refine C_region ?_
    refine Lp_pv rfl rfl ?_
    refine Lp_pv rfl rfl ?_
    refine Lp_s rfl (St_lookup (key := g.key) H rfl rfl tkI rfl ?_)
    rw [hf]
    refine Lp_s rfl (St_loadN H rfl (by repeat (first | exact Reads.nil _ | apply Reads.cons rfl)) rfl ?_)
    refine Lp_s rfl (St_mapUpdate (key := (a, b)) (v := 1) H rfl rfl rfl tkR rfl ?_); clear H; intro w H
    refine Lp_nil ?_
    replace H := Holds.sel [0, 0, 1] 1 H; dsimp only [SL.sel, SL.pull, List.drop] at H
    refine fn_end0 _ (.inl rfl) (GrR_in (g1 ++ { g with m := ins g.m (a, b) 1 } :: g2) (fun k' r' => ?_) (l := fr) ?_) rfl (fun w' H' => H')
    · rw [mem_swap (g := g) (g' := { g with m := ins g.m (a, b) 1 }) rfl hn, ← hG k' r']
      split
      · rename_i e
        subst e
        rw [keys_ins, mem_mid]
        have hr := rest_key hn
        constructor
        · rintro (h | h)
          · exact .inr ⟨rfl, h⟩
          · exact .inl (.inl ⟨rfl, h⟩)
        · rintro ((⟨_, h⟩ | h) | ⟨_, h⟩)
          · exact .inr h
          · exact absurd (mem_key h) hr
          · exact .inl h
      · rename_i e
        exact ⟨.inl, fun h => h.elim id fun e' => absurd e'.1 e⟩
    · have H := ((Holds.pick (R := inner) (gs := g1 ++ { g with m := ins g.m (a, b) 1 } :: g2) rfl).2 H).swap
      simpa only [List.map_append, List.map_cons, List.map_nil, gkb] using H
end Go.Proofs.YtcaaojbnjfdglaaGreatDoor
namespace Go.Proofs.YtcaaojbnjfdglaaGreatDoor
open Go.SL



def RS (p : Nat) (m : List (Rf × Int)) : HProp := ex fun q : Nat × Nat × Nat =>
  star [pts p (row 188 [.map (some q.1), .map (some q.2.1), .map (some q.2.2)]), mp kp v1 q.1 m, GrR q.2.1 (fun k r => fnd m r = some k), GrR q.2.2 (fun k r => r.1 = k ∧ (fnd m r).isSome = true)]

theorem RS_out [Extra] {w : World} {p : Nat} {m : List (Rf × Int)} {l : List HProp} (H : Holds w (RS p m :: l)) :
    ∃ bt bo bf, Holds w (pts p (row 188 [.map (some bt), .map (some bo), .map (some bf)]) :: mp kp v1 bt m :: GrR bo (fun k r => fnd m r = some k) :: GrR bf (fun k r => r.1 = k ∧ (fnd m r).isSome = true) :: l) := by
  obtain ⟨⟨bt, bo, bf⟩, H⟩ := Holds.ex.1 H
  exact ⟨bt, bo, bf, Holds.star.1 H⟩

theorem RS_in [Extra] {w : World} {p : Nat} {m : List (Rf × Int)} {l : List HProp} {S T : Int → Rf → Prop} (bt bo bf : Nat) (hS : ∀ k r, S k r ↔ fnd m r = some k) (hT : ∀ k r, T k r ↔ (r.1 = k ∧ (fnd m r).isSome = true))
    (H : Holds w (pts p (row 188 [.map (some bt), .map (some bo), .map (some bf)]) :: mp kp v1 bt m :: GrR bo S :: GrR bf T :: l)) : Holds w (RS p m :: l) := by
  have e1 : S = fun k r => fnd m r = some k := by funext k r; exact propext (hS k r)
  have e2 : T = fun k r => r.1 = k ∧ (fnd m r).isSome = true := by funext k r; exact propext (hT k r)
  subst e1 e2
  exact Holds.ex.2 ⟨(bt, bo, bf), Holds.star.2 H⟩

theorem GrR_empty [Extra] {w : World} {bo : Nat} {l : List HProp} (H : Holds w (mp (ki .i64) vm bo [] :: l)) : Holds w (GrR bo (fun _ _ => False) :: l) :=
  GrR_in [] (by simp [mem]) (Holds.swap ((Holds.star (k := [])).2 H))

theorem rNew_spec [Extra] {w : World} {fr : List HProp} (H : Holds w fr) : Calls Tryz.prog 107 #[] w (ret fun v w' => ∃ p, v = pp p ∧ Holds w' (RS p [] :: fr)) := by
  refine calls_of Tryz.func107 rfl (by kernel_rfl) ?_
  repeat refine C_seq ?_
  refine C_region ?_
  refine Lp_pv rfl rfl ?_
  refine Lp_nil ?_
  repeat refine C_seq ?_
  refine C_region ?_
  refine Lp_s rfl (St_makeMap v1 kp H rfl ?_); clear H; intro b1 w H
  refine Lp_s rfl (St_makeMap vm (ki .i64) H rfl ?_); clear H; intro b2 w H
  refine Lp_s rfl (St_makeMap vm (ki .i64) H rfl ?_); clear H; intro b3 w H
  refine Lp_s rfl (St_build rfl rfl ?_)
  (refine Lp_s rfl (St_boxN H rfl rfl ?_); clear H; intro b5 w H)
  refine Lp_pv rfl rfl ?_
  refine Lp_nil ?_
  refine C_ret ?_
  replace H := GrR_empty (H.pull 1)
  replace H := GrR_empty (H.pull 2)
  replace H := Holds.sel [2, 2, 0, 0] 0 H; dsimp only [SL.sel, SL.pull, List.drop] at H
  exact fn_end0 _ (.inr rfl) H rfl (fun w' H' => ⟨b5, rfl, RS_in b1 b2 b3 (S := fun _ _ => False) (T := fun _ _ => False) (by simp [fnd]) (by simp [fnd]) H'⟩)

theorem lookV_v1 (o : Option Int) : lookV (.int .i64 0) v1 o = .int .i64 (o.getD 0) := by cases o <;> rfl

theorem rTo_spec [Extra] (p : Nat) (m : List (Rf × Int)) (r : Rf) {w : World} {fr : List HProp} (H : Holds w (RS p m :: fr)) :
    Calls Tryz.prog 146 #[pp p, rf r] w (ret fun v w' => v = .tuple #[.int .i64 ((fnd m r).getD 0), .bool (fnd m r).isSome] ∧ Holds w' (RS p m :: fr)) := by
  obtain ⟨a, b⟩ := r
  refine calls_of Tryz.func146 rfl (by kernel_rfl) ?_
  obtain ⟨bt, bo, bf, H⟩ := RS_out H
  repeat refine C_seq ?_
  refine C_region ?_
  (refine Lp_s rfl (St_boxN H rfl rfl ?_); clear H; intro b3 w H)
  refine Lp_pv rfl rfl ?_
  refine Lp_pv rfl rfl ?_
  refine Lp_nil ?_
  repeat refine C_seq ?_
  refine C_region ?_
  refine Lp_pv rfl rfl ?_
  refine Lp_s rfl (St_eqPtrNil rfl rfl (.inl rfl) rfl ?_)
  refine Lp_nil ?_
  repeat refine C_seq ?_
  refine C_false rfl (C_skip ?_)
  repeat refine C_seq ?_
  refine C_drawH H mixed ?_
  clear H; intro w H
  refine A_pv 0 rfl (Wants.none rfl) rfl (by kernel_rfl) ?_
  refine A_pv 1 rfl (Wants.none rfl) rfl (by kernel_rfl) ?_
  refine A_fieldAddr 2 rfl (Wants.none rfl) rfl (by kernel_rfl) ?_
  refine A_load1 3 [] H rfl (Wants.none rfl) rfl rfl (by kernel_rfl) ?_
  refine A_loadN 4 [] H rfl (Wants.none rfl) rfl (by repeat (first | exact Reads.nil _ | apply Reads.cons rfl)) (by kernel_rfl) ?_
  refine A_lookup 5 [] (key := (a, b)) H rfl (Wants.none rfl) rfl rfl tkR (by kernel_rfl) ?_
  rw [lookV_v1]
  refine A_pv 6 rfl (Wants.none rfl) rfl (by kernel_rfl) ?_
  refine A_pv 7 rfl (Wants.none rfl) rfl (by kernel_rfl) ?_
  refine A_pv 8 rfl (Wants.none rfl) rfl (by kernel_rfl) ?_
  refine A_pv 9 rfl (Wants.none rfl) rfl (by kernel_rfl) ?_
  refine A_pv 10 rfl (Wants.none rfl) rfl (by kernel_rfl) ?_
  refine A_end (by kernel_rfl) (by repeat first | exact .nil | refine .cons (.inr H.at) ?_ | refine .cons (.inr H.mp) ?_ | refine .cons (.inl (by kernel_rfl)) ?_) ?_
  repeat refine C_seq ?_
  refine C_region ?_
  refine Lp_pv rfl rfl ?_
  refine Lp_pv rfl rfl ?_
  refine Lp_pv rfl rfl ?_
  refine Lp_pv rfl rfl ?_
  refine Lp_nil ?_
  refine C_ret (fn_end0 _ (.inr rfl) (RS_in bt bo bf (fun _ _ => Iff.rfl) (fun _ _ => Iff.rfl) H.drop) rfl fun w' H' => ⟨rfl, H'⟩)

theorem rCut_spec [Extra] (p : Nat) (m : List (Rf × Int)) (hm : (m.map (·.1)).Nodup) (r : Rf) {w : World} {fr : List HProp} (H : Holds w (RS p m :: fr)) :
    Calls Tryz.prog 153 #[pp p, rf r] w (ret fun v w' => v = .bool (fnd m r).isSome ∧ Holds w' (RS p (era m r) :: fr)) := by
  obtain ⟨a, b⟩ := r
  refine calls_of Tryz.func153 rfl (by kernel_rfl) ?_
  repeat refine C_seq ?_
  refine C_region ?_
  (refine Lp_s rfl (St_boxN H rfl rfl ?_); clear H; intro b3 w H)
  refine Lp_pv rfl rfl ?_
  refine Lp_nil ?_
  repeat refine C_seq ?_
  refine C_region ?_
  refine Lp_pv rfl rfl ?_
  refine Lp_s rfl (St_loadN H rfl (by repeat (first | exact Reads.nil _ | apply Reads.cons rfl)) rfl ?_)
  refine Lp_s rfl (St_call (a := []) (b := []) rfl rfl (call (rTo_spec p m (a, b) H.swap) ?_))
  clear H; rintro v w ⟨rfl, H⟩
  refine Lp_pv rfl rfl ?_
  refine Lp_pv rfl rfl ?_
  refine Lp_pv rfl rfl ?_
  refine Lp_pv rfl rfl ?_
  refine Lp_pv rfl rfl ?_
  refine Lp_nil ?_
  repeat refine C_seq ?_
  refine C_region ?_
  refine Lp_pv rfl rfl ?_
  refine Lp_pv rfl rfl ?_
  refine Lp_nil ?_
  cases hf : fnd m (a, b) with
  | none =>
    repeat refine C_seq ?_
    refine C_true rfl ?_
    repeat refine C_seq ?_
    refine C_region ?_
    refine Lp_pv rfl rfl ?_
    refine Lp_nil ?_
    rw [era_none (fnd_eq_none.1 hf)]
    refine C_ret (fn_end0 _ (.inr rfl) H.swap.drop rfl fun w' H' => ⟨rfl, H'⟩)
  | some t =>
    repeat refine C_seq ?_
    refine C_false rfl (C_skip ?_)
    obtain ⟨bt, bo, bf, H⟩ := RS_out H
    repeat refine C_seq ?_
    refine C_drawH H mixed ?_
    clear H; intro w H
    refine A_pv 0 rfl (Wants.none rfl) rfl (by kernel_rfl) ?_
    refine A_pv 1 rfl (Wants.none rfl) rfl (by kernel_rfl) ?_
    refine A_fieldAddr 2 rfl (Wants.none rfl) rfl (by kernel_rfl) ?_
    refine A_load1 3 [5] H rfl (Wants.none rfl) rfl rfl (by kernel_rfl) ?_
    refine A_loadN 4 [5] H rfl (Wants.none rfl) rfl (by repeat (first | exact Reads.nil _ | apply Reads.cons rfl)) (by kernel_rfl) ?_
    refine A_one 5 rfl (by kernel_rfl) (by repeat first | exact .nil | refine .cons (.inr H.at) ?_ | refine .cons (.inr H.mp) ?_ | refine .cons (.inl (by kernel_rfl)) ?_) (Wants.none rfl) (St_delete (key := (a, b)) H rfl rfl tkR rfl ?_); clear H; intro w H
    refine A_end (by kernel_rfl) (by repeat first | exact .nil | refine .cons (.inr H.at) ?_ | refine .cons (.inr H.mp) ?_ | refine .cons (.inl (by kernel_rfl)) ?_) ?_
    replace H := Holds.sel [2, 0, 0, 0, 0] 0 H; dsimp only [SL.sel, SL.pull, List.drop] at H
    repeat refine C_seq ?_
    refine C_drawH H mixed ?_
    clear H; intro w H
    refine A_pv 0 rfl (Wants.none rfl) rfl (by kernel_rfl) ?_
    refine A_pv 1 rfl (Wants.none rfl) rfl (by kernel_rfl) ?_
    refine A_fieldAddr 2 rfl (Wants.none rfl) rfl (by kernel_rfl) ?_
    refine A_load1 3 [6] H rfl (Wants.none rfl) rfl rfl (by kernel_rfl) ?_
    refine A_pv 4 rfl (Wants.none rfl) rfl (by kernel_rfl) ?_
    refine A_loadN 5 [6] H rfl (Wants.none rfl) rfl (by repeat (first | exact Reads.nil _ | apply Reads.cons rfl)) (by kernel_rfl) ?_
    refine A_one 6 rfl (by kernel_rfl) (by repeat first | exact .nil | refine .cons (.inr H.at) ?_ | refine .cons (.inr H.mp) ?_ | refine .cons (.inl (by kernel_rfl)) ?_) (Wants.none rfl) (St_call (a := []) (b := []) rfl rfl (call (lose_spec bo _ t (a, b) H) ?_))
    clear H; intro v w H
    refine A_end (by kernel_rfl) (by repeat first | exact .nil | refine .cons (.inr H.at) ?_ | refine .cons (.inr H.mp) ?_ | refine .cons (.inl (by kernel_rfl)) ?_) ?_
    replace H := Holds.sel [3, 0, 0, 0, 0] 0 H; dsimp only [SL.sel, SL.pull, List.drop] at H
    repeat refine C_seq ?_
    refine C_drawH H mixed ?_
    clear H; intro w H
    refine A_pv 0 rfl (Wants.none rfl) rfl (by kernel_rfl) ?_
    refine A_pv 1 rfl (Wants.none rfl) rfl (by kernel_rfl) ?_
    refine A_fieldAddr 2 rfl (Wants.none rfl) rfl (by kernel_rfl) ?_
    refine A_load1 3 [7] H rfl (Wants.none rfl) rfl rfl (by kernel_rfl) ?_
    refine A_fieldAddr 4 rfl (Wants.none rfl) rfl (by kernel_rfl) ?_
    refine A_load1 5 [7] H rfl (Wants.none rfl) rfl rfl (by kernel_rfl) ?_
    refine A_loadN 6 [7] H rfl (Wants.none rfl) rfl (by repeat (first | exact Reads.nil _ | apply Reads.cons rfl)) (by kernel_rfl) ?_
    refine A_one 7 rfl (by kernel_rfl) (by repeat first | exact .nil | refine .cons (.inr H.at) ?_ | refine .cons (.inr H.mp) ?_ | refine .cons (.inl (by kernel_rfl)) ?_) (Wants.none rfl) (St_call (a := []) (b := []) rfl rfl (call (lose_spec bf _ a (a, b) H) ?_))
    clear H; intro v w H
    refine A_end (by kernel_rfl) (by repeat first | exact .nil | refine .cons (.inr H.at) ?_ | refine .cons (.inr H.mp) ?_ | refine .cons (.inl (by kernel_rfl)) ?_) ?_
    repeat refine C_seq ?_
    refine C_region ?_
    refine Lp_pv rfl rfl ?_
    refine Lp_nil ?_
    replace H := Holds.sel [2, 2, 1, 0] 1 H; dsimp only [SL.sel, SL.pull, List.drop] at H
    refine C_ret (fn_end0 _ (.inr rfl) (RS_in bt bo bf (fun k r => ?_) (fun k r => ?_) H) rfl fun w' H' => ⟨rfl, H'⟩)
    · rw [fnd_era hm]
      split
      · rename_i e; subst e; rw [hf]; simp; rintro rfl; rfl
      · rename_i e; exact ⟨(·.1), fun h => ⟨h, fun e' => e e'.2.symm⟩⟩
    · rw [fnd_era hm]
      split
      · rename_i e; subst e; simp; rintro rfl _; rfl
      · rename_i e; exact ⟨(·.1), fun h => ⟨h, fun e' => e e'.2.symm⟩⟩

theorem rPut_spec [Extra] (p : Nat) (m : List (Rf × Int)) (hm : (m.map (·.1)).Nodup) (r : Rf) (t : Int) {w : World} {fr : List HProp} (H : Holds w (RS p m :: fr)) :
    Calls Tryz.prog 154 #[pp p, rf r, .int .i64 t] w (ret fun v w' => v = .bool (!(fnd m r).isSome) ∧ Holds w' (RS p (ins (era m r) r t) :: fr)) := by
  obtain ⟨a, b⟩ := r
  refine calls_of Tryz.func154 rfl (by kernel_rfl) ?_
  repeat refine C_seq ?_
  refine C_region ?_
  (refine Lp_s rfl (St_boxN H rfl rfl ?_); clear H; intro b4 w H)
  refine Lp_pv rfl rfl ?_
  refine Lp_nil ?_
  repeat refine C_seq ?_
  refine C_region ?_
  refine Lp_pv rfl rfl ?_
  refine Lp_s rfl (St_eqPtrNil rfl rfl (.inl rfl) rfl ?_)
  refine Lp_nil ?_
  repeat refine C_seq ?_
  refine C_false rfl (C_skip ?_)
  repeat refine C_seq ?_
  refine C_region ?_
  refine Lp_pv rfl rfl ?_
  refine Lp_s rfl (St_loadN H rfl (by repeat (first | exact Reads.nil _ | apply Reads.cons rfl)) rfl ?_)
  refine Lp_s rfl (St_call (a := []) (b := []) rfl rfl (call (rCut_spec p m hm (a, b) H.swap) ?_))
  clear H; rintro v w ⟨rfl, H⟩
  refine Lp_pv rfl rfl ?_
  refine Lp_nil ?_
  obtain ⟨bt, bo, bf, H⟩ := RS_out H
  repeat refine C_seq ?_
  refine C_drawH H mixed ?_
  clear H; intro w H
  refine A_pv 0 rfl (Wants.none rfl) rfl (by kernel_rfl) ?_
  refine A_pv 1 rfl (Wants.none rfl) rfl (by kernel_rfl) ?_
  refine A_fieldAddr 2 rfl (Wants.none rfl) rfl (by kernel_rfl) ?_
  refine A_load1 3 [6] H rfl (Wants.none rfl) rfl rfl (by kernel_rfl) ?_
  refine A_loadN 4 [6] H rfl (Wants.none rfl) rfl (by repeat (first | exact Reads.nil _ | apply Reads.cons rfl)) (by kernel_rfl) ?_
  refine A_pv 5 rfl (Wants.none rfl) rfl (by kernel_rfl) ?_
  refine A_one 6 rfl (by kernel_rfl) (by repeat first | exact .nil | refine .cons (.inr H.at) ?_ | refine .cons (.inr H.mp) ?_ | refine .cons (.inl (by kernel_rfl)) ?_) (Wants.none rfl) (St_mapUpdate (key := (a, b)) (v := t) H rfl rfl rfl tkR rfl ?_); clear H; intro w H
  refine A_end (by kernel_rfl) (by repeat first | exact .nil | refine .cons (.inr H.at) ?_ | refine .cons (.inr H.mp) ?_ | refine .cons (.inl (by kernel_rfl)) ?_) ?_
  replace H := Holds.sel [2, 0, 0, 0, 0] 0 H; dsimp only [SL.sel, SL.pull, List.drop] at H
  repeat refine C_seq ?_
  refine C_drawH H mixed ?_
  clear H; intro w H
  refine A_pv 0 rfl (Wants.none rfl) rfl (by kernel_rfl) ?_
  refine A_pv 1 rfl (Wants.none rfl) rfl (by kernel_rfl) ?_
  refine A_fieldAddr 2 rfl (Wants.none rfl) rfl (by kernel_rfl) ?_
  refine A_load1 3 [6] H rfl (Wants.none rfl) rfl rfl (by kernel_rfl) ?_
  refine A_pv 4 rfl (Wants.none rfl) rfl (by kernel_rfl) ?_
  refine A_loadN 5 [6] H rfl (Wants.none rfl) rfl (by repeat (first | exact Reads.nil _ | apply Reads.cons rfl)) (by kernel_rfl) ?_
  refine A_one 6 rfl (by kernel_rfl) (by repeat first | exact .nil | refine .cons (.inr H.at) ?_ | refine .cons (.inr H.mp) ?_ | refine .cons (.inl (by kernel_rfl)) ?_) (Wants.none rfl) (St_call (a := []) (b := []) rfl rfl (call (note_spec bo _ t (a, b) H) ?_))
  clear H; intro v w H
  refine A_end (by kernel_rfl) (by repeat first | exact .nil | refine .cons (.inr H.at) ?_ | refine .cons (.inr H.mp) ?_ | refine .cons (.inl (by kernel_rfl)) ?_) ?_
  replace H := Holds.sel [3, 0, 0, 0, 0] 0 H; dsimp only [SL.sel, SL.pull, List.drop] at H
  repeat refine C_seq ?_
  refine C_drawH H mixed ?_
  clear H; intro w H
  refine A_pv 0 rfl (Wants.none rfl) rfl (by kernel_rfl) ?_
  refine A_pv 1 rfl (Wants.none rfl) rfl (by kernel_rfl) ?_
  refine A_fieldAddr 2 rfl (Wants.none rfl) rfl (by kernel_rfl) ?_
  refine A_load1 3 [7] H rfl (Wants.none rfl) rfl rfl (by kernel_rfl) ?_
  refine A_fieldAddr 4 rfl (Wants.none rfl) rfl (by kernel_rfl) ?_
  refine A_load1 5 [7] H rfl (Wants.none rfl) rfl rfl (by kernel_rfl) ?_
  refine A_loadN 6 [7] H rfl (Wants.none rfl) rfl (by repeat (first | exact Reads.nil _ | apply Reads.cons rfl)) (by kernel_rfl) ?_
  refine A_one 7 rfl (by kernel_rfl) (by repeat first | exact .nil | refine .cons (.inr H.at) ?_ | refine .cons (.inr H.mp) ?_ | refine .cons (.inl (by kernel_rfl)) ?_) (Wants.none rfl) (St_call (a := []) (b := []) rfl rfl (call (note_spec bf _ a (a, b) H) ?_))
  clear H; intro v w H
  refine A_end (by kernel_rfl) (by repeat first | exact .nil | refine .cons (.inr H.at) ?_ | refine .cons (.inr H.mp) ?_ | refine .cons (.inl (by kernel_rfl)) ?_) ?_
  repeat refine C_seq ?_
  refine C_region ?_
  refine Lp_pv rfl rfl ?_
  refine Lp_pv rfl rfl ?_
  refine Lp_pv rfl rfl ?_
  refine Lp_nil ?_
  replace H := Holds.sel [2, 2, 1, 0] 1 H; dsimp only [SL.sel, SL.pull, List.drop] at H
  have hn := fnd_era hm (x := (a, b)) (y := (a, b))
  rw [if_pos rfl] at hn
  refine C_ret (fn_end0 _ (.inr rfl) (RS_in bt bo bf (fun k r => ?_) (fun k r => ?_) H) rfl fun w' H' => ⟨rfl, H'⟩)
  · rw [fnd_ins]
    split
    · rename_i e; subst e; rw [hn]; simp; exact eq_comm
    · rename_i e; exact ⟨fun h => h.elim id fun e' => absurd e'.2.symm e, .inl⟩
  · rw [fnd_ins]
    split
    · rename_i e; subst e; rw [hn]; simp; exact eq_comm
    · rename_i e; exact ⟨fun h => h.elim id fun e' => absurd e'.2.symm e, .inl⟩

end Go.Proofs.YtcaaojbnjfdglaaGreatDoor
namespace Go.Proofs.YtcaaojbnjfdglaaGreatDoor
open Go.SL

def TRE (p last : Nat) (par : List (Int × Int)) : HProp := ex fun b : Nat => star [pts p (row 214 [.map (some b), .int .i64 last]), mp (ki .i64) v1 b par]
theorem TRE_out [Extra] {w : World} {p last : Nat} {par : List (Int × Int)} {l : List HProp} (H : Holds w (TRE p last par :: l)) : ∃ b, Holds w (pts p (row 214 [.map (some b), .int .i64 last]) :: mp (ki .i64) v1 b par :: l) := by
  obtain ⟨b, H⟩ := Holds.ex.1 H
  exact ⟨b, Holds.star.1 H⟩
theorem TRE_in [Extra] {w : World} {p last b : Nat} {par : List (Int × Int)} {l : List HProp} (H : Holds w (pts p (row 214 [.map (some b), .int .i64 last]) :: mp (ki .i64) v1 b par :: l)) : Holds w (TRE p last par :: l) :=
  Holds.ex.2 ⟨b, Holds.star.2 H⟩
theorem TRE_keys [Extra] {w : World} {p last : Nat} {par : List (Int × Int)} {l : List HProp} (H : Holds w (TRE p last par :: l)) : (par.map (·.1)).Nodup := by
  obtain ⟨b, H⟩ := TRE_out H
  exact keys_nodup b H

theorem trNew_spec [Extra] {w : World} {fr : List HProp} (H : Holds w fr) : Calls Tryz.prog 106 #[] w (ret fun v w' => ∃ p, v = pp p ∧ Holds w' (TRE p 0 [] :: fr)) := by
  refine calls_of Tryz.func106 rfl (by kernel_rfl) ?_
  repeat refine C_seq ?_
  refine C_region ?_
  refine Lp_pv rfl rfl ?_
  refine Lp_nil ?_
  repeat refine C_seq ?_
  refine C_region ?_
  refine Lp_s rfl (St_makeMap v1 (ki .i64) H rfl ?_); clear H; intro b1 w H
  refine Lp_s rfl (St_build rfl rfl ?_)
  (refine Lp_s rfl (St_boxN H rfl rfl ?_); clear H; intro b3 w H)
  refine Lp_pv rfl rfl ?_
  refine Lp_nil ?_
  exact C_ret (fn_end0 _ (.inr rfl) H rfl fun w' H' => ⟨_, rfl, TRE_in H'⟩)

theorem Live_spec [Extra] (p last : Nat) (par : List (Int × Int)) (id : Int) {w : World} {fr : List HProp} (H : Holds w (TRE p last par :: fr)) :
    Calls Tryz.prog 75 #[pp p, .int .i64 id] w (ret fun v w' => v = .bool (fnd par id).isSome ∧ Holds w' (TRE p last par :: fr)) := by
  obtain ⟨b, H⟩ := TRE_out H
  refine calls_of Tryz.func75 rfl (by kernel_rfl) ?_
  repeat refine C_seq ?_
  refine C_region ?_
  refine Lp_pv rfl rfl ?_
  refine Lp_nil ?_
  repeat refine C_seq ?_
  refine C_region ?_
  refine Lp_pv rfl rfl ?_
  refine Lp_s rfl (St_eqPtrNil rfl rfl (.inl rfl) rfl ?_)
  refine Lp_nil ?_
  repeat refine C_seq ?_
  refine C_false rfl (C_skip ?_)
  repeat refine C_seq ?_
  refine C_region ?_
  refine Lp_pv rfl rfl ?_
  refine Lp_pv rfl rfl ?_
  refine Lp_s rfl (St_fieldAddr rfl rfl ?_)
  refine Lp_s rfl (St_load1 H rfl rfl rfl ?_)
  refine Lp_pv rfl rfl ?_
  refine Lp_s rfl (St_lookup (key := id) H rfl rfl tkI rfl ?_)
  refine Lp_pv rfl rfl ?_
  refine Lp_pv rfl rfl ?_
  refine Lp_pv rfl rfl ?_
  refine Lp_mv rfl rfl ?_
  refine Lp_pv rfl rfl ?_
  refine Lp_nil ?_
  repeat refine C_seq ?_
  refine C_region ?_
  refine Lp_pv rfl rfl ?_
  refine Lp_pv rfl rfl ?_
  refine Lp_nil ?_
  exact C_ret (fn_end0 _ (.inr rfl) (TRE_in H) rfl fun w' H' => ⟨rfl, H'⟩)

theorem trLen_spec [Extra] (p last : Nat) (par : List (Int × Int)) {w : World} {fr : List HProp} (H : Holds w (TRE p last par :: fr)) :
    Calls Tryz.prog 74 #[pp p] w (ret fun v w' => v = .int .i64 par.length ∧ Holds w' (TRE p last par :: fr)) := by
  obtain ⟨b, H⟩ := TRE_out H
  refine calls_of Tryz.func74 rfl (by kernel_rfl) ?_
  repeat refine C_seq ?_
  refine C_region ?_
  refine Lp_pv rfl rfl ?_
  refine Lp_nil ?_
  repeat refine C_seq ?_
  refine C_region ?_
  refine Lp_pv rfl rfl ?_
  refine Lp_s rfl (St_eqPtrNil rfl rfl (.inl rfl) rfl ?_)
  refine Lp_nil ?_
  repeat refine C_seq ?_
  refine C_false rfl (C_skip ?_)
  repeat refine C_seq ?_
  refine C_region ?_
  refine Lp_pv rfl rfl ?_
  refine Lp_pv rfl rfl ?_
  refine Lp_s rfl (St_fieldAddr rfl rfl ?_)
  refine Lp_s rfl (St_load1 H rfl rfl rfl ?_)
  refine Lp_s rfl (St_lenMap (ki .i64) v1 H rfl rfl ?_)
  refine Lp_pv rfl rfl ?_
  refine Lp_nil ?_
  exact C_ret (fn_end0 _ (.inr rfl) (TRE_in H) rfl fun w' H' => ⟨rfl, H'⟩)

theorem need_spec [Extra] (p last : Nat) (par : List (Int × Int)) (id : Int) {w : World} {fr : List HProp} (H : Holds w (TRE p last par :: fr)) :
    Calls Tryz.prog 128 #[pp p, .int .i64 id] w (ret fun v w' => v = .int .i64 (if (fnd par id).isSome then 0 else 6) ∧ Holds w' (TRE p last par :: fr)) := by
  refine calls_of Tryz.func128 rfl (by kernel_rfl) ?_
  repeat refine C_seq ?_
  refine C_region ?_
  refine Lp_pv rfl rfl ?_
  refine Lp_nil ?_
  repeat refine C_seq ?_
  refine C_joinQ (fun ms σ w => ms = [] ∧ (fnd par id).isSome = true ∧ Holds w (TRE p last par :: fr)) ?_ ?_
  · refine C_block ?_
    repeat refine C_seq ?_
    refine C_region ?_
    refine Lp_pv rfl rfl ?_
    refine Lp_s rfl (St_eqPtrNil rfl rfl (.inl rfl) rfl ?_)
    refine Lp_pv rfl rfl ?_
    refine Lp_nil ?_
    repeat refine C_seq ?_
    refine C_false rfl ?_
    repeat refine C_seq ?_
    refine C_region ?_
    refine Lp_pv rfl rfl ?_
    refine Lp_pv rfl rfl ?_
    refine Lp_s rfl (St_call (a := []) (b := []) rfl rfl (call (Live_spec p last par id H) ?_))
    clear H; rintro v w ⟨rfl, H⟩
    cases hf : (fnd par id).isSome with
    | true =>
      refine Lp_pv rfl rfl ?_
      refine Lp_pv rfl rfl ?_
      refine Lp_nil ?_
      repeat refine C_seq ?_
      refine C_false rfl (C_skip ?_)
      exact .inl ⟨rfl, rfl, rfl, H⟩
    | false =>
      refine Lp_pv rfl rfl ?_
      refine Lp_pv rfl rfl ?_
      refine Lp_nil ?_
      repeat refine C_seq ?_
      refine C_true rfl ?_
      repeat refine C_seq ?_
      refine C_region ?_
      refine Lp_pv rfl rfl ?_
      refine Lp_nil ?_
      exact C_ret (.inr ⟨by simp, fn_end0 _ (.inr rfl) H rfl fun w' H' => ⟨rfl, H'⟩⟩)
  · clear H
    rintro ms σ w ⟨rfl, hf, H⟩
    rw [hf]
    repeat refine C_seq ?_
    refine C_region ?_
    refine Lp_pv rfl rfl ?_
    refine Lp_nil ?_
    exact C_ret (fn_end0 _ (.inr rfl) H rfl fun w' H' => ⟨rfl, H'⟩)

/-- What Add answers: the error. -/
def addErr (par : List (Int × Int)) (parent : Int) : Nat := if parent ≠ 0 ∧ (fnd par parent).isSome = false then 6 else if par.length = 64 then 5 else 0

theorem trAdd_spec [Extra] (p last : Nat) (par : List (Int × Int)) (parent : Int) (hlast : last < 1000000) (hup : ∀ r q, (r, q) ∈ par → r ≤ (last : Int)) {w : World} {fr : List HProp} (H : Holds w (TRE p last par :: fr)) :
    Calls Tryz.prog 94 #[pp p, .int .i64 parent] w (ret fun v w' => (addErr par parent ≠ 0 ∧ v = .tuple #[.int .i64 0, .int .i64 (addErr par parent)] ∧ Holds w' (TRE p last par :: fr)) ∨
      (addErr par parent = 0 ∧ v = .tuple #[.int .i64 ((last + 1 : Nat) : Int), .int .i64 0] ∧ Holds w' (TRE p (last + 1) (par ++ [(((last + 1 : Nat) : Int), parent)]) :: fr))) := by
  refine calls_of Tryz.func94 rfl (by kernel_rfl) ?_
  repeat refine C_seq ?_
  refine C_region ?_
  refine Lp_pv rfl rfl ?_
  refine Lp_pv rfl rfl ?_
  refine Lp_nil ?_
  repeat refine C_seq ?_
  refine C_joinQ (fun ms σ w => ms = [] ∧ addErr par parent = 0 ∧ σ 0 = pp p ∧ σ 1 = .int .i64 parent ∧ Holds w (TRE p last par :: fr)) ?_ ?_
  · refine C_block ?_
    repeat refine C_seq ?_
    refine C_region ?_
    refine Lp_pv rfl rfl ?_
    refine Lp_s rfl (St_eqPtrNil rfl rfl (.inl rfl) rfl ?_)
    refine Lp_pv rfl rfl ?_
    refine Lp_nil ?_
    repeat refine C_seq ?_
    refine C_false rfl ?_
    repeat refine C_seq ?_
    refine C_join (fun ms σ w => ms = [] ∧ (∃ q, σ 9 = .bool q ∧ (q = true ↔ parent ≠ 0 ∧ (fnd par parent).isSome = false)) ∧ σ 0 = pp p ∧ σ 1 = .int .i64 parent ∧ Holds w (TRE p last par :: fr)) ?_ ?_
    · repeat refine C_seq ?_
      refine C_region ?_
      refine Lp_pv rfl rfl ?_
      refine Lp_pv rfl rfl ?_
      by_cases h0 : parent = 0
      · rw [show (parent != 0) = false by simpa using h0]
        refine Lp_pv rfl rfl ?_
        refine Lp_no rfl rfl rfl ?_
        refine Lp_no rfl rfl rfl ?_
        refine Lp_no rfl rfl rfl ?_
        refine Lp_no rfl rfl rfl ?_
        refine Lp_pv rfl rfl ?_
        refine Lp_pv rfl rfl ?_
        refine Lp_nil ?_
        exact ⟨rfl, rfl, ⟨false, rfl, by simp [h0]⟩, rfl, rfl, H⟩
      · rw [show (parent != 0) = true by simpa using h0]
        refine Lp_pv rfl rfl ?_
        refine Lp_gpv rfl rfl rfl rfl ?_
        refine Lp_gpv rfl rfl rfl rfl ?_
        refine Lp_g rfl rfl rfl (St_call (a := []) (b := []) rfl rfl (call (Live_spec p last par parent H) ?_))
        clear H; rintro v w ⟨rfl, H⟩
        refine Lp_gpv rfl rfl rfl rfl ?_
        refine Lp_pv rfl rfl ?_
        refine Lp_pv rfl rfl ?_
        refine Lp_nil ?_
        exact ⟨rfl, rfl, ⟨!(fnd par parent).isSome, rfl, by simp [h0]⟩, rfl, rfl, H⟩
    · clear H
      rintro ms σ w ⟨rfl, ⟨q, g9, hq⟩, g0, g1, H⟩
      rw [upd_self g9, upd_self g0, upd_self g1]
      cases q with
      | true =>
        have he : addErr par parent = 6 := by unfold addErr; rw [if_pos (hq.1 rfl)]
        repeat refine C_seq ?_
        refine C_true rfl ?_
        repeat refine C_seq ?_
        refine C_region ?_
        refine Lp_pv rfl rfl ?_
        refine Lp_pv rfl rfl ?_
        refine Lp_nil ?_
        exact C_ret (.inr ⟨by simp, fn_end0 _ (.inr rfl) H rfl fun w' H' => .inl ⟨by omega, by rw [he]; rfl, H'⟩⟩)
      | false =>
        have hq' : ¬ (parent ≠ 0 ∧ (fnd par parent).isSome = false) := fun h => by have := hq.2 h; cases this
        obtain ⟨b, H⟩ := TRE_out H
        repeat refine C_seq ?_
        refine C_false rfl ?_
        repeat refine C_seq ?_
        refine C_region ?_
        refine Lp_pv rfl rfl ?_
        refine Lp_pv rfl rfl ?_
        refine Lp_s rfl (St_fieldAddr rfl rfl ?_)
        refine Lp_s rfl (St_load1 H rfl rfl rfl ?_)
        refine Lp_s rfl (St_lenMap (ki .i64) v1 H rfl rfl ?_)
        refine Lp_pv rfl rfl ?_
        refine Lp_pv rfl rfl ?_
        refine Lp_nil ?_
        by_cases h64 : par.length = 64
        · have he : addErr par parent = 5 := by unfold addErr; rw [if_neg hq', if_pos h64]
          rw [show ((par.length : Int) == 64) = true by simp; omega]
          repeat refine C_seq ?_
          refine C_true rfl ?_
          repeat refine C_seq ?_
          refine C_region ?_
          refine Lp_pv rfl rfl ?_
          refine Lp_pv rfl rfl ?_
          refine Lp_nil ?_
          exact C_ret (.inr ⟨by simp, fn_end0 _ (.inr rfl) (TRE_in H) rfl fun w' H' => .inl ⟨by omega, by rw [he]; rfl, H'⟩⟩)
        · have he : addErr par parent = 0 := by unfold addErr; rw [if_neg hq', if_neg h64]
          rw [show ((par.length : Int) == 64) = false by simp; omega]
          repeat refine C_seq ?_
          refine C_false rfl (C_skip ?_)
          exact .inl ⟨rfl, rfl, he, rfl, rfl, TRE_in H⟩
  · clear H
    rintro ms σ w ⟨rfl, he, g0, g1, H⟩
    rw [upd_self g0, upd_self g1]
    obtain ⟨b, H⟩ := TRE_out H
    repeat refine C_seq ?_
    refine C_region ?_
    refine Lp_pv rfl rfl ?_
    refine Lp_pv rfl rfl ?_
    refine Lp_s rfl (St_fieldAddr rfl rfl ?_)
    refine Lp_s rfl (St_load1 H rfl rfl rfl ?_)
    refine Lp_pv rfl rfl ?_
    rw [wrap64 (x := ((last : Nat) : Int) + 1) (by omega) (by omega), show ((last : Nat) : Int) + 1 = ((last + 1 : Nat) : Int) by omega]
    refine Lp_pv rfl rfl ?_
    refine Lp_s rfl (St_fieldAddr rfl rfl ?_)
    (refine Lp_s rfl (St_store1 H rfl rfl inferInstance rfl (Nat.le_of_ble_eq_true rfl) rfl ?_); clear H; intro w H)
    refine Lp_nil ?_
    repeat refine C_seq ?_
    refine C_drawH H mixed ?_
    clear H; intro w H
    refine A_pv 0 rfl (Wants.none rfl) rfl (by kernel_rfl) ?_
    refine A_pv 1 rfl (Wants.none rfl) rfl (by kernel_rfl) ?_
    refine A_fieldAddr 2 rfl (Wants.none rfl) rfl (by kernel_rfl) ?_
    refine A_load1 3 [9] H rfl (Wants.none rfl) rfl rfl (by kernel_rfl) ?_
    refine A_pv 4 rfl (Wants.none rfl) rfl (by kernel_rfl) ?_
    refine A_pv 5 rfl (Wants.none rfl) rfl (by kernel_rfl) ?_
    refine A_fieldAddr 6 rfl (Wants.none rfl) rfl (by kernel_rfl) ?_
    refine A_load1 7 [9] H rfl (Wants.none rfl) rfl rfl (by kernel_rfl) ?_
    refine A_pv 8 rfl (Wants.none rfl) rfl (by kernel_rfl) ?_
    refine A_one 9 rfl (by kernel_rfl) (by repeat first | exact .nil | refine .cons (.inr H.at) ?_ | refine .cons (.inr H.mp) ?_ | refine .cons (.inl (by kernel_rfl)) ?_) (Wants.none rfl) (St_mapUpdate (v := parent) (key := ((last + 1 : Nat) : Int)) H rfl rfl rfl tkI rfl ?_); clear H; intro w H
    refine A_end (by kernel_rfl) (by repeat first | exact .nil | refine .cons (.inr H.at) ?_ | refine .cons (.inr H.mp) ?_ | refine .cons (.inl (by kernel_rfl)) ?_) ?_
    repeat refine C_seq ?_
    refine C_region ?_
    refine Lp_pv rfl rfl ?_
    refine Lp_pv rfl rfl ?_
    refine Lp_s rfl (St_fieldAddr rfl rfl ?_)
    refine Lp_s rfl (St_load1 H rfl rfl rfl ?_)
    refine Lp_pv rfl rfl ?_
    refine Lp_pv rfl rfl ?_
    refine Lp_nil ?_
    rw [ins_none (fun h => by
      obtain ⟨⟨a, q⟩, hm, h1⟩ := List.mem_map.1 h
      have h1 : a = ((last + 1 : Nat) : Int) := h1
      have := hup a q hm
      omega)] at H
    exact C_ret (fn_end0 _ (.inr rfl) (TRE_in H) rfl fun w' H' => .inr ⟨he, rfl, H'⟩)
end Go.Proofs.YtcaaojbnjfdglaaGreatDoor
namespace Go.Proofs.YtcaaojbnjfdglaaGreatDoor
/-! ### A table's slots -/

/-- What a used slot has: where its object is, its region, held, pinned; and what the object is: its layout, its count, its words. -/
structure Ent where
  addr : Nat
  region : Int
  held : Bool
  pinned : Bool
  lay : Nat
  count : Nat
  ws : List Nat
structure Slt where
  gen : Nat
  ent : Option Ent
def lookT (ts : List Slt) (i g : Int) : Option (Nat × Ent) :=
  if 0 ≤ i then
    match ts[i.toNat]? with
    | some ⟨n, some e⟩ => if (n : Int) = g then some (i.toNat, e) else none
    | _ => none
  else none
theorem lookT_some {ts : List Slt} {i g : Int} {k : Nat} {e : Ent} : lookT ts i g = some (k, e) ↔ ∃ n : Nat, i = k ∧ g = n ∧ ts[k]? = some ⟨n, some e⟩ := by
  unfold lookT
  constructor
  · intro h
    split at h
    · rename_i h0
      split at h
      · rename_i n e' he
        split at h
        · rename_i hn
          injection h with h
          injection h with h1 h2
          subst h1 h2
          exact ⟨n, by omega, hn.symm, he⟩
        · cases h
      · cases h
    · cases h
  · rintro ⟨n, rfl, rfl, h⟩
    rw [if_pos (by omega)]
    simp only [Int.toNat_natCast, h]
    rw [if_pos trivial]
/-- The valid token's entry. -/
def validT (ts : List Slt) (i g : Int) : Option (Nat × Ent) :=
  match lookT ts i g with
  | some (k, e) => if e.held then some (k, e) else none
  | none => none
theorem validT_some {ts : List Slt} {i g : Int} {k : Nat} {e : Ent} : validT ts i g = some (k, e) ↔ lookT ts i g = some (k, e) ∧ e.held = true := by
  unfold validT
  cases h : lookT ts i g with
  | none => simp
  | some q =>
    obtain ⟨k', e'⟩ := q
    simp only
    split
    · rename_i hh
      constructor
      · intro h1; cases h1; exact ⟨rfl, hh⟩
      · rintro ⟨h1, _⟩; exact h1
    · rename_i hh
      constructor
      · intro h1; cases h1
      · rintro ⟨h1, h2⟩; cases h1; exact absurd h2 hh

/-! ### Chunks of an owner -/

structure Spc where
  parts : List (Nat × Nat)
  at' : Nat
  fin : Nat
def chunksOf (l : List (Nat × Nat)) : List Nat := l.flatMap fun p => (List.range p.2).map (p.1 + ·)

/-! ### All of it -/

structure CS where
  size : Nat
  own : List Nat
  lays : List Lay
  tab : List Slt
  last : Nat
  par : List (Int × Int)
  rem : List ((Int × Int) × Int)
  sps : List (Int × Nat × Spc)
  mns : List (Int × Nat × List Nat)

/-- An object's words, as they have to be. -/
structure ObjOK (lays : List Lay) (i : Nat) (e : Ent) : Prop where
  may : MayH e.lay e.count i
  lay : ∃ l, lays[e.lay - 1]? = some l ∧ RightL l ∧ sizeL l e.count = (e.ws.length, 0) ∧ ∀ p w, e.ws[p]? = some w → w < 18446744073709551616 ∧ (isRefL l p = true → ∃ k, okL k ∧ w = wordL k)

def endOf (e : Ent) : Nat := e.addr + 1 + e.ws.length
/-- The words lie in chunks of the object's region. -/
def Lies (size : Nat) (own : List Nat) (e : Ent) : Prop := endOf e ≤ own.length * size ∧ ∀ c, e.addr / size ≤ c → c ≤ (e.addr + e.ws.length) / size → ∃ r : Nat, own[c]? = some r ∧ (r : Int) = e.region ∧ 1 ≤ r

structure SpcOK (size : Nat) (own : List Nat) (r : Int) (S : Spc) : Prop where
  at1 : S.at' ≤ S.fin
  fin : S.fin ≠ 0 → ∃ c, S.fin = (c + 1) * size ∧ c * size < S.at' ∧ (c, 1) ∈ S.parts
  parts : ∀ p ∈ S.parts, 1 ≤ p.2 ∧ p.1 + p.2 ≤ own.length
  nodup : (chunksOf S.parts).Nodup
  owned : ∀ c, c ∈ chunksOf S.parts ↔ ∃ q : Nat, own[c]? = some q ∧ (q : Int) = r ∧ q ≠ 0

structure WF (s : CS) : Prop where
  size : 1 ≤ s.size ∧ s.size ≤ 1024
  own : 1 ≤ s.own.length ∧ s.own.length ≤ 63
  slots : 1 ≤ s.tab.length ∧ s.tab.length ≤ 63
  lays : s.lays.length ≤ 64 ∧ ∀ l ∈ s.lays, RightL l
  gen : ∀ (i : Nat) (t : Slt), s.tab[i]? = some t → t.gen ≤ 255 ∧ (t.ent.isSome = true → 1 ≤ t.gen)
  obj : ∀ (i g : Nat) (e : Ent), s.tab[i]? = some ⟨g, some e⟩ → ObjOK s.lays i e ∧ Lies s.size s.own e ∧ (∃ q, (e.region, q) ∈ s.par)
  apart : ∀ (i j g h : Nat) (e f : Ent), i ≠ j → s.tab[i]? = some ⟨g, some e⟩ → s.tab[j]? = some ⟨h, some f⟩ → endOf e ≤ f.addr ∨ endOf f ≤ e.addr
  par : s.par.length ≤ 64 ∧ s.last < 1000000 ∧ ∀ r q, (r, q) ∈ s.par → 1 ≤ r ∧ r ≤ s.last
  skeys : s.sps.map (·.1) = s.par.map (·.1)
  mkeys : s.mns.map (·.1) = s.par.map (·.1)
  spc : ∀ x ∈ s.sps, SpcOK s.size s.own x.1 x.2.2
  free : ∀ x ∈ s.sps, ∀ (i g : Nat) (e : Ent), s.tab[i]? = some ⟨g, some e⟩ → endOf e ≤ x.2.2.at' ∨ x.2.2.fin ≤ e.addr
  live : ∀ (c r : Nat), s.own[c]? = some r → r ≠ 0 → ∃ q, ((r : Int), q) ∈ s.par
  mine : ∀ x ∈ s.mns, x.2.2.Pairwise (· < ·) ∧ ∀ i, i ∈ x.2.2 ↔ ∃ g e, s.tab[i]? = some ⟨g, some e⟩ ∧ e.region = x.1
/-- What the words of a store are. -/
structure MemOK (s : CS) (mem : List Nat) : Prop where
  len : mem.length = s.own.length * s.size
  head : ∀ (i g : Nat) (e : Ent), s.tab[i]? = some ⟨g, some e⟩ → mem[e.addr]? = some (encH e.lay e.count i)
  words : ∀ (i g : Nat) (e : Ent), s.tab[i]? = some ⟨g, some e⟩ → ∀ (p w : Nat), e.ws[p]? = some w → mem[e.addr + 1 + p]? = some w
/-! ### Turns of the state -/

theorem tab_set {ts : List Slt} {i j : Nat} {t u : Slt} (h : (ts.set i t)[j]? = some u) : (j = i ∧ u = t ∧ i < ts.length) ∨ (j ≠ i ∧ ts[j]? = some u) := by
  rw [List.getElem?_set] at h
  by_cases hij : i = j
  · subst hij
    rw [if_pos rfl] at h
    split at h
    · rename_i hl
      injection h with h
      exact .inl ⟨rfl, h.symm, hl⟩
    · cases h
  · rw [if_neg hij] at h
    exact .inr ⟨fun e => hij e.symm, h⟩

/-- The same object, with other words, held or pinned otherwise. -/
structure Alike (e e' : Ent) : Prop where
  addr : e'.addr = e.addr
  region : e'.region = e.region
  lay : e'.lay = e.lay
  count : e'.count = e.count
  len : e'.ws.length = e.ws.length
theorem Alike.end {e e' : Ent} (h : Alike e e') : endOf e' = endOf e := by unfold endOf; rw [h.addr, h.len]
theorem Alike.lies {e e' : Ent} (h : Alike e e') {size : Nat} {own : List Nat} (l : Lies size own e) : Lies size own e' := by
  unfold Lies at *
  rw [h.end, h.addr, h.len, h.region]
  exact l

def setE (s : CS) (i g : Nat) (e : Ent) : CS := { s with tab := s.tab.set i ⟨g, some e⟩ }
theorem WF_setE {s : CS} (h : WF s) {i g : Nat} {e e' : Ent} (hi : s.tab[i]? = some ⟨g, some e⟩) (a : Alike e e') (ok : ObjOK s.lays i e') : WF (setE s i g e') := by
  have ho := h.obj i g e hi
  refine ⟨h.size, h.own, by show 1 ≤ (s.tab.set _ _).length ∧ (s.tab.set _ _).length ≤ 63; rw [List.length_set]; exact h.slots, h.lays, ?_, ?_, ?_, h.par, h.skeys, h.mkeys, h.spc, ?_, h.live, ?_⟩
  · intro j t hj
    rcases tab_set hj with ⟨rfl, rfl, _⟩ | ⟨_, hj⟩
    · exact ⟨(h.gen _ _ hi).1, fun _ => (h.gen _ _ hi).2 rfl⟩
    · exact h.gen _ _ hj
  · intro j k f hj
    rcases tab_set hj with ⟨rfl, ht, _⟩ | ⟨_, hj⟩
    · injection ht with h1 h2
      injection h2 with h2
      subst h1 h2
      exact ⟨ok, a.lies ho.2.1, by rw [a.region]; exact ho.2.2⟩
    · exact h.obj _ _ _ hj
  · intro j k m n f f' hne hj hk
    rcases tab_set hj with ⟨rfl, ht, _⟩ | ⟨hji, hj'⟩ <;> rcases tab_set hk with ⟨rfl, hu, _⟩ | ⟨hki, hk'⟩
    · exact absurd rfl hne
    · injection ht with h1 h2
      injection h2 with h2
      subst h1 h2
      rw [a.end, a.addr]
      exact h.apart _ _ _ n _ _ hne hi hk'
    · injection hu with h1 h2
      injection h2 with h2
      subst h1 h2
      rw [a.end, a.addr]
      exact h.apart _ _ m _ _ _ hne hj' hi
    · exact h.apart _ _ _ _ _ _ hne hj' hk'
  · intro x hx j k f hj
    rcases tab_set hj with ⟨rfl, ht, _⟩ | ⟨_, hj⟩
    · injection ht with h1 h2
      injection h2 with h2
      subst h1 h2
      rw [a.end, a.addr]
      exact h.free x hx _ _ _ hi
    · exact h.free x hx _ _ _ hj
  · intro x hx
    obtain ⟨h1, h2⟩ := h.mine x hx
    refine ⟨h1, fun j => ?_⟩
    rw [h2]
    have hil : i < s.tab.length := (List.getElem?_eq_some_iff.1 hi).1
    constructor
    · rintro ⟨m, f, hj, hf⟩
      by_cases hij : j = i
      · subst hij
        rw [hi] at hj
        cases hj
        exact ⟨g, e', by show (s.tab.set _ _)[_]? = _; simp [hil], by rw [a.region]; exact hf⟩
      · exact ⟨m, f, by show (s.tab.set _ _)[_]? = _; rw [List.getElem?_set_ne (fun q => hij q.symm)]; exact hj, hf⟩
    · rintro ⟨m, f, hj, hf⟩
      rcases tab_set hj with ⟨rfl, ht, _⟩ | ⟨_, hj⟩
      · injection ht with h1 h2
        injection h2 with h2
        subst h1 h2
        exact ⟨_, _, hi, by rw [← a.region]; exact hf⟩
      · exact ⟨m, f, hj, hf⟩
/-- .. and its words in the store. -/
theorem MemOK_setE {s : CS} (h : WF s) {mem : List Nat} (m : MemOK s mem) {i g : Nat} {e e' : Ent} (hi : s.tab[i]? = some ⟨g, some e⟩) (a : Alike e e') {mem' : List Nat} (hl : mem'.length = mem.length)
    (hin : ∀ (p w : Nat), e'.ws[p]? = some w → mem'[e.addr + 1 + p]? = some w) (hh : mem'[e.addr]? = mem[e.addr]?) (hout : ∀ k, k < e.addr ∨ endOf e ≤ k → mem'[k]? = mem[k]?) : MemOK (setE s i g e') mem' := by
  refine ⟨by rw [hl]; exact m.len, ?_, ?_⟩
  · intro j k f hj
    rcases tab_set hj with ⟨rfl, ht, _⟩ | ⟨hji, hj⟩
    · injection ht with h1 h2
      injection h2 with h2
      subst h1 h2
      rw [a.addr, a.lay, a.count, hh]
      exact m.head _ _ _ hi
    · have := h.apart _ _ _ _ _ _ hji hj hi
      rw [hout _ (by unfold endOf at this ⊢; omega)]
      exact m.head _ _ _ hj
  · intro j k f hj p w hw
    rcases tab_set hj with ⟨rfl, ht, _⟩ | ⟨hji, hj⟩
    · injection ht with h1 h2
      injection h2 with h2
      subst h1 h2
      rw [a.addr]
      exact hin p w hw
    · have := h.apart _ _ _ _ _ _ hji hj hi
      have hp := (List.getElem?_eq_some_iff.1 hw).1
      rw [hout _ (by unfold endOf at this ⊢; omega)]
      exact m.words _ _ _ hj p w hw
/-- One word is another one. -/
theorem MemOK_word {s : CS} (h : WF s) {mem : List Nat} (m : MemOK s mem) {i g : Nat} {e : Ent} (hi : s.tab[i]? = some ⟨g, some e⟩) {p x : Nat} (hp : p < e.ws.length) : MemOK (setE s i g { e with ws := e.ws.set p x }) (mem.set (e.addr + 1 + p) x) := by
  have hend : endOf e ≤ mem.length := by rw [m.len]; exact (h.obj i g e hi).2.1.1
  refine MemOK_setE (e' := { e with ws := e.ws.set p x }) h m hi ⟨rfl, rfl, rfl, rfl, by show (e.ws.set p x).length = _; simp⟩ (by simp) ?_ ?_ ?_
  · intro q w hw
    have hw : (e.ws.set p x)[q]? = some w := hw
    rw [List.getElem?_set] at hw
    by_cases hpq : p = q
    · subst hpq
      rw [if_pos rfl, if_pos hp] at hw
      injection hw with hw
      subst hw
      rw [List.getElem?_set_self (by unfold endOf at hend; omega)]
    · rw [if_neg hpq] at hw
      rw [List.getElem?_set_ne (by omega)]
      exact m.words _ _ _ hi q w hw
  · rw [List.getElem?_set_ne (by omega)]
  · intro k hk
    rw [List.getElem?_set_ne (by unfold endOf at hk; omega)]
/-- Held or pinned otherwise. -/
theorem MemOK_flags {s : CS} (h : WF s) {mem : List Nat} (m : MemOK s mem) {i g : Nat} {e e' : Ent} (hi : s.tab[i]? = some ⟨g, some e⟩) (a : Alike e e') (hw : e'.ws = e.ws) : MemOK (setE s i g e') mem :=
  MemOK_setE h m hi a rfl (fun p w hp => m.words _ _ _ hi p w (by rw [← hw]; exact hp)) rfl (fun _ _ => rfl)
theorem ObjOK_flags {lays : List Lay} {i : Nat} {e e' : Ent} (h : ObjOK lays i e) (a : Alike e e') (hw : e'.ws = e.ws) : ObjOK lays i e' := by
  obtain ⟨m, l, h1, h2, h3, h4⟩ := h
  exact ⟨by rw [a.lay, a.count]; exact m, l, by rw [a.lay]; exact h1, h2, by rw [a.count, hw]; exact h3, by rw [hw]; exact h4⟩
theorem ObjOK_word {lays : List Lay} {i : Nat} {e : Ent} (h : ObjOK lays i e) {l : Lay} (hl : lays[e.lay - 1]? = some l) {p x : Nat} (hx : x < 18446744073709551616) (hr : isRefL l p = true → ∃ k, okL k ∧ x = wordL k) : ObjOK lays i { e with ws := e.ws.set p x } := by
  obtain ⟨m, l', h1, h2, h3, h4⟩ := h
  rw [hl] at h1
  cases h1
  refine ⟨m, l, hl, h2, by simpa using h3, fun q w hw => ?_⟩
  have hw : (e.ws.set p x)[q]? = some w := hw
  rw [List.getElem?_set] at hw
  by_cases hpq : p = q
  · subst hpq
    rw [if_pos rfl] at hw
    split at hw
    · injection hw with hw
      subst hw
      exact ⟨hx, hr⟩
    · cases hw
  · rw [if_neg hpq] at hw
    exact h4 q w hw
end Go.Proofs.YtcaaojbnjfdglaaGreatDoor
