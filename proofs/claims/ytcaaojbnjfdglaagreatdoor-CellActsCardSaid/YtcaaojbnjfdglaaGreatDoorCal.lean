/- Cells: what is proved on the way: every input of the statement; no condition. Texts joined: ImgC ImgD Srs SlS SrtI BagA RmC Srt RmD RmE KidA RefC. -/
import Derived.Test.YtcaaojbnjfdglaaGreatDoorCak
import Derived.Shelf.Sort.Plain
import Derived.Shelf.Slices.In.SortNone
import Derived.Ground.NamesProg
import Derived.Test.YtcaaojbnjfdglaaGreatDoorProg
import Derived.Test.YtcaaojbnjfdglaaGreatDoorCac
import Derived.Shelf.SlSortCmp.NoneTotal
import Derived.Test.YtcaaojbnjfdglaaGreatDoorCaj
import Derived.Shelf.SlGeneric
import Derived.Ground.SlsfProg
set_option linter.unusedVariables false
set_option linter.unusedSimpArgs false
set_option linter.unusedSectionVars false
namespace Go.Proofs.YtcaaojbnjfdglaaGreatDoor
open Go.SL

theorem Load_spec [Extra] (ip sp bp size : Nat) (ls : List Lay) (mem own : List Nat) (addr i c s n : Nat) (l : Lay) (h : ImgAt ls size mem own addr i c s n l) (place : Int) {w : World} {fr : List HProp} (H : Holds w (IMG ip sp bp :: BOOK bp ls :: ST sp size mem own :: fr)) :
    Calls Tryz.prog 62 #[pp ip, .int .i64 addr, .int .i64 place] w (ret fun v w' => v = .tuple #[.int .u64 ((if placeE l n place false = 0 then mem.getD (addr + 1 + place.toNat) 0 else 0 : Nat) : Int), .int .i64 (placeE l n place false)] ∧ Holds w' (IMG ip sp bp :: BOOK bp ls :: ST sp size mem own :: fr)) := by
  have hrd : Calls Tryz.prog 119 #[pp ip, .int .i64 addr, .int .i64 place, .bool false, .func (.func 120) #[] #[]] w (ret fun v w' => v = .tuple #[.int .u64 ((if placeE l n place false = 0 then mem.getD (addr + 1 + place.toNat) 0 else 0 : Nat) : Int), .int .i64 (placeE l n place false)] ∧ Holds w' (IMG ip sp bp :: BOOK bp ls :: ST sp size mem own :: fr)) := by
    refine calls_of Tryz.func119 rfl (by kernel_rfl) ?_
    repeat refine C_seq ?_
    refine C_region ?_
    refine Lp_pv rfl rfl ?_
    refine Lp_pv rfl rfl ?_
    refine Lp_nil ?_
    repeat refine C_seq ?_
    refine C_region ?_
    refine Lp_pv rfl rfl ?_
    refine Lp_nil ?_
    repeat refine C_seq ?_
    refine C_region ?_
    refine Lp_pv rfl rfl ?_
    refine Lp_pv rfl rfl ?_
    refine Lp_pv rfl rfl ?_
    refine Lp_pv rfl rfl ?_
    refine Lp_s rfl (St_call (a := []) (b := []) rfl rfl (call (word_spec ip sp bp size ls mem own addr i c s n l h place false H) ?_))
    clear H; rintro v w ⟨rfl, H⟩
    refine Lp_pv rfl rfl ?_
    refine Lp_pv rfl rfl ?_
    refine Lp_pv rfl rfl ?_
    refine Lp_pv rfl rfl ?_
    refine Lp_pv rfl rfl ?_
    refine Lp_nil ?_
    repeat refine C_seq ?_
    refine C_region ?_
    refine Lp_pv rfl rfl ?_
    refine Lp_pv rfl rfl ?_
    refine Lp_nil ?_
    by_cases he : placeE l n place false = 0
    · obtain ⟨p, rfl, hp, hr⟩ := placeE_ok he
      rw [he]
      repeat refine C_seq ?_
      refine C_false rfl (C_skip ?_)
      repeat refine C_seq ?_
      refine C_region ?_
      refine Lp_pv rfl rfl ?_
      refine Lp_pv rfl rfl ?_
      refine Lp_pv rfl rfl ?_
      refine Lp_s rfl (St_fieldAddr rfl rfl ?_)
      refine Lp_s rfl (St_load1 H rfl rfl rfl ?_)
      refine Lp_pv rfl rfl ?_
      replace H := Holds.sel [2, 0, 0] 0 H; dsimp only [SL.sel, SL.pull, List.drop] at H
      refine Lp_s rfl (St_call (a := []) (b := []) rfl rfl (call (Read_spec sp size mem own (addr + 1 + p) (by have := h.fit; omega) (h.owned.sub (by omega) (by omega) (by omega)) H) ?_))
      clear H; rintro v w ⟨rfl, H⟩
      refine Lp_pv rfl rfl ?_
      refine Lp_pv rfl rfl ?_
      refine Lp_pv rfl rfl ?_
      refine Lp_pv rfl rfl ?_
      refine Lp_pv rfl rfl ?_
      refine Lp_nil ?_
      repeat refine C_seq ?_
      refine C_region ?_
      refine Lp_pv rfl rfl ?_
      refine Lp_pv rfl rfl ?_
      refine Lp_nil ?_
      repeat refine C_seq ?_
      refine C_false rfl (C_skip ?_)
      repeat refine C_seq ?_
      refine C_region ?_
      refine Lp_pv rfl rfl ?_
      refine Lp_pv rfl rfl ?_
      refine Lp_pv rfl rfl ?_
      refine Lp_nil ?_
      replace H := Holds.sel [1, 1, 0] 0 H; dsimp only [SL.sel, SL.pull, List.drop] at H
      exact C_ret (fn_end0 _ (.inr rfl) H rfl fun w' H' => ⟨rfl, H'⟩)
    · rw [if_neg he, if_neg he]
      rw [show (((placeE l n place false : Nat) : Int) != 0) = true by simpa using he]
      repeat refine C_seq ?_
      refine C_true rfl ?_
      repeat refine C_seq ?_
      refine C_region ?_
      refine Lp_pv rfl rfl ?_
      refine Lp_pv rfl rfl ?_
      refine Lp_pv rfl rfl ?_
      refine Lp_pv rfl rfl ?_
      refine Lp_nil ?_
      exact C_ret (fn_end0 _ (.inr rfl) H rfl fun w' H' => ⟨rfl, H'⟩)
  refine calls_of Tryz.func62 rfl (by kernel_rfl) ?_
  repeat refine C_seq ?_
  refine C_region ?_
  refine Lp_pv rfl rfl ?_
  refine Lp_pv rfl rfl ?_
  refine Lp_nil ?_
  repeat refine C_seq ?_
  refine C_region ?_
  refine Lp_pv rfl rfl ?_
  refine Lp_pv rfl rfl ?_
  refine Lp_pv rfl rfl ?_
  refine Lp_s rfl (St_call (a := []) (b := []) rfl rfl (call (hrd) ?_))
  clear H; rintro v w ⟨rfl, H⟩
  refine Lp_pv rfl rfl ?_
  refine Lp_pv rfl rfl ?_
  refine Lp_pv rfl rfl ?_
  refine Lp_pv rfl rfl ?_
  refine Lp_nil ?_
  exact C_ret (fn_end0 _ (.inr rfl) H rfl fun w' H' => ⟨rfl, H'⟩)

theorem lkv_agg (k : Lnk) : ∃ a b d : Int, lkv k = .agg #[.int .i64 a, .int .i64 b, .int .i64 d] := by cases k <;> exact ⟨_, _, _, rfl⟩

theorem Follow_spec [Extra] (ip sp bp size : Nat) (ls : List Lay) (mem own : List Nat) (addr i c s n : Nat) (l : Lay) (h : ImgAt ls size mem own addr i c s n l) (place : Int) (k : Lnk) (hk : placeE l n place true = 0 → okL k ∧ mem.getD (addr + 1 + place.toNat) 0 = wordL k) (hk2 : placeE l n place true ≠ 0 → k = .none) {w : World} {fr : List HProp} (H : Holds w (IMG ip sp bp :: BOOK bp ls :: ST sp size mem own :: fr)) :
    Calls Tryz.prog 64 #[pp ip, .int .i64 addr, .int .i64 place] w (ret fun v w' => v = .tuple #[lkv k, .int .i64 (placeE l n place true)] ∧ Holds w' (IMG ip sp bp :: BOOK bp ls :: ST sp size mem own :: fr)) := by
  have hlk : ∀ (q : Nat) (k : Lnk) (w : World) (fr : List HProp), q < mem.length → Owned size own q 1 → okL k → mem.getD q 0 = wordL k → Holds w (ST sp size mem own :: fr) →
      Calls Tryz.prog 122 #[pp sp, .int .i64 q] w (ret fun v w' => v = .tuple #[lkv k, .int .i64 0] ∧ Holds w' (ST sp size mem own :: fr)) := by
    intro q k w fr h1 h2 h3 h4 H
    refine calls_of Tryz.func122 rfl (by kernel_rfl) ?_
    repeat refine C_seq ?_
    refine C_region ?_
    (refine Lp_s rfl (St_alloc H rfl ?_); clear H; intro b4 w H)
    refine Lp_pv rfl rfl ?_
    refine Lp_nil ?_
    repeat refine C_seq ?_
    refine C_region ?_
    refine Lp_pv rfl rfl ?_
    refine Lp_pv rfl rfl ?_
    refine Lp_s rfl (St_call (a := []) (b := []) rfl rfl (call (Read_spec sp size mem own q h1 h2 H.swap) ?_))
    clear H; rintro v w ⟨rfl, H⟩
    rw [h4]
    refine Lp_pv rfl rfl ?_
    refine Lp_pv rfl rfl ?_
    refine Lp_pv rfl rfl ?_
    refine Lp_pv rfl rfl ?_
    refine Lp_pv rfl rfl ?_
    refine Lp_nil ?_
    repeat refine C_seq ?_
    refine C_region ?_
    refine Lp_pv rfl rfl ?_
    refine Lp_pv rfl rfl ?_
    refine Lp_nil ?_
    repeat refine C_seq ?_
    refine C_false rfl (C_skip ?_)
    repeat refine C_seq ?_
    refine C_region ?_
    refine Lp_pv rfl rfl ?_
    refine Lp_s rfl (St_call (a := []) (b := []) rfl rfl (call (Link_spec k h3 H) ?_))
    clear H; rintro v w ⟨rfl, H⟩
    obtain ⟨a, b, d, hkv⟩ := lkv_agg k
    rw [hkv]
    refine Lp_pv rfl rfl ?_
    refine Lp_pv rfl rfl ?_
    (refine Lp_s rfl (St_storeN H rfl rfl inferInstance rfl rfl (Nat.le_of_ble_eq_true rfl) rfl ?_); clear H; intro w H)
    refine Lp_pv rfl rfl ?_
    refine Lp_nil ?_
    exact C_ret (fn_endC _ (.inr rfl) H.swap (fun w' H' => .cellN H' rfl (by repeat (first | exact Reads.nil _ | apply Reads.cons rfl)) (.tmp .nil)) fun w' H' => ⟨rfl, H'.drop⟩)
  have hrd : ∀ (w : World) (fr : List HProp), Holds w (IMG ip sp bp :: BOOK bp ls :: ST sp size mem own :: fr) → Calls Tryz.prog 121 #[pp ip, .int .i64 addr, .int .i64 place, .bool true, .func (.func 122) #[] #[]] w (ret fun v w' => v = .tuple #[lkv k, .int .i64 (placeE l n place true)] ∧ Holds w' (IMG ip sp bp :: BOOK bp ls :: ST sp size mem own :: fr)) := by
    intro w fr H
    refine calls_of Tryz.func121 rfl (by kernel_rfl) ?_
    repeat refine C_seq ?_
    refine C_region ?_
    (refine Lp_s rfl (St_alloc H rfl ?_); clear H; intro b10 w H)
    refine Lp_pv rfl rfl ?_
    refine Lp_nil ?_
    repeat refine C_seq ?_
    refine C_region ?_
    (refine Lp_s rfl (St_alloc H rfl ?_); clear H; intro b12 w H)
    refine Lp_nil ?_
    repeat refine C_seq ?_
    refine C_region ?_
    refine Lp_pv rfl rfl ?_
    refine Lp_pv rfl rfl ?_
    refine Lp_pv rfl rfl ?_
    refine Lp_pv rfl rfl ?_
    replace H := Holds.sel [2, 2, 2, 0, 0] 0 H; dsimp only [SL.sel, SL.pull, List.drop] at H
    refine Lp_s rfl (St_call (a := []) (b := []) rfl rfl (call (word_spec ip sp bp size ls mem own addr i c s n l h place true H) ?_))
    clear H; rintro v w ⟨rfl, H⟩
    refine Lp_pv rfl rfl ?_
    refine Lp_pv rfl rfl ?_
    refine Lp_pv rfl rfl ?_
    refine Lp_pv rfl rfl ?_
    refine Lp_pv rfl rfl ?_
    refine Lp_nil ?_
    repeat refine C_seq ?_
    refine C_region ?_
    refine Lp_pv rfl rfl ?_
    refine Lp_pv rfl rfl ?_
    refine Lp_nil ?_
    by_cases he : placeE l n place true = 0
    · obtain ⟨hk3, hk4⟩ := hk he
      obtain ⟨p, rfl, hp, hr⟩ := placeE_ok he
      rw [he]
      repeat refine C_seq ?_
      refine C_false rfl (C_skip ?_)
      repeat refine C_seq ?_
      refine C_region ?_
      refine Lp_pv rfl rfl ?_
      refine Lp_pv rfl rfl ?_
      refine Lp_pv rfl rfl ?_
      refine Lp_s rfl (St_fieldAddr rfl rfl ?_)
      refine Lp_s rfl (St_load1 H rfl rfl rfl ?_)
      refine Lp_pv rfl rfl ?_
      replace H := Holds.sel [2, 0, 0, 0, 0] 0 H; dsimp only [SL.sel, SL.pull, List.drop] at H
      refine Lp_s rfl (St_call (a := []) (b := []) rfl rfl (call (hlk (addr + 1 + p) k _ _ (by have := h.fit; omega) (h.owned.sub (by omega) (by omega) (by omega)) hk3 hk4 H) ?_))
      clear H; rintro v w ⟨rfl, H⟩
      obtain ⟨a, b, d, hkv⟩ := lkv_agg k
      rw [hkv]
      refine Lp_pv rfl rfl ?_
      refine Lp_pv rfl rfl ?_
      refine Lp_pv rfl rfl ?_
      (refine Lp_s rfl (St_alloc H rfl ?_); clear H; intro b15 w H)
      (refine Lp_s rfl (St_storeN H rfl rfl inferInstance rfl rfl (Nat.le_of_ble_eq_true rfl) rfl ?_); clear H; intro w H)
      refine Lp_pv rfl rfl ?_
      refine Lp_nil ?_
      repeat refine C_seq ?_
      refine C_region ?_
      refine Lp_pv rfl rfl ?_
      refine Lp_pv rfl rfl ?_
      refine Lp_nil ?_
      repeat refine C_seq ?_
      refine C_false rfl (C_skip ?_)
      repeat refine C_seq ?_
      refine C_region ?_
      refine Lp_s rfl (St_loadN H rfl (by repeat (first | exact Reads.nil _ | apply Reads.cons rfl)) rfl ?_)
      (refine Lp_s rfl (St_storeN H rfl rfl inferInstance rfl rfl (Nat.le_of_ble_eq_true rfl) rfl ?_); clear H; intro w H)
      refine Lp_pv rfl rfl ?_
      refine Lp_nil ?_
      replace H := Holds.sel [5, 2, 2, 1] 2 H; dsimp only [SL.sel, SL.pull, List.drop] at H
      exact C_ret (fn_endC _ (.inr rfl) H (fun w' H' => .cellN H' rfl (by repeat (first | exact Reads.nil _ | apply Reads.cons rfl)) (.tmp .nil)) fun w' H' => ⟨rfl, H'.drop⟩)
    · obtain rfl := hk2 he
      rw [if_neg he]
      rw [show (((placeE l n place true : Nat) : Int) != 0) = true by simpa using he]
      repeat refine C_seq ?_
      refine C_true rfl ?_
      repeat refine C_seq ?_
      refine C_region ?_
      refine Lp_s rfl (St_loadN H rfl (by repeat (first | exact Reads.nil _ | apply Reads.cons rfl)) rfl ?_)
      refine Lp_pv rfl rfl ?_
      (refine Lp_s rfl (St_storeN H rfl rfl inferInstance rfl rfl (Nat.le_of_ble_eq_true rfl) rfl ?_); clear H; intro w H)
      refine Lp_pv rfl rfl ?_
      refine Lp_nil ?_
      replace H := Holds.sel [4, 0, 0, 0] 1 H; dsimp only [SL.sel, SL.pull, List.drop] at H
      exact C_ret (fn_endC _ (.inr rfl) H (fun w' H' => .cellN H' rfl (by repeat (first | exact Reads.nil _ | apply Reads.cons rfl)) (.tmp .nil)) fun w' H' => ⟨rfl, H'.drop⟩)
  refine calls_of Tryz.func64 rfl (by kernel_rfl) ?_
  repeat refine C_seq ?_
  refine C_region ?_
  (refine Lp_s rfl (St_alloc H rfl ?_); clear H; intro b6 w H)
  refine Lp_pv rfl rfl ?_
  refine Lp_nil ?_
  repeat refine C_seq ?_
  refine C_region ?_
  refine Lp_pv rfl rfl ?_
  refine Lp_pv rfl rfl ?_
  refine Lp_pv rfl rfl ?_
  replace H := Holds.sel [1, 1, 1, 0] 0 H; dsimp only [SL.sel, SL.pull, List.drop] at H
  refine Lp_s rfl (St_call (a := []) (b := []) rfl rfl (call (hrd _ _ H) ?_))
  clear H; rintro v w ⟨rfl, H⟩
  obtain ⟨a, b, d, hkv⟩ := lkv_agg k
  rw [hkv]
  refine Lp_pv rfl rfl ?_
  refine Lp_pv rfl rfl ?_
  (refine Lp_s rfl (St_storeN H rfl rfl inferInstance rfl rfl (Nat.le_of_ble_eq_true rfl) rfl ?_); clear H; intro w H)
  refine Lp_pv rfl rfl ?_
  refine Lp_nil ?_
  replace H := Holds.sel [3, 0, 0, 0] 0 H; dsimp only [SL.sel, SL.pull, List.drop] at H
  exact C_ret (fn_endC _ (.inr rfl) H (fun w' H' => .cellN H' rfl (by repeat (first | exact Reads.nil _ | apply Reads.cons rfl)) (.tmp .nil)) fun w' H' => ⟨rfl, H'.drop⟩)

theorem Save_spec [Extra] (ip sp bp size : Nat) (ls : List Lay) (mem own : List Nat) (addr i c s n : Nat) (l : Lay) (h : ImgAt ls size mem own addr i c s n l) (place : Int) (x : Nat) {w : World} {fr : List HProp} (H : Holds w (IMG ip sp bp :: BOOK bp ls :: ST sp size mem own :: fr)) :
    Calls Tryz.prog 66 #[pp ip, .int .i64 addr, .int .i64 place, .int .u64 x] w (ret fun v w' => v = .int .i64 (placeE l n place false) ∧ Holds w' (IMG ip sp bp :: BOOK bp ls :: ST sp size (if placeE l n place false = 0 then mem.set (addr + 1 + place.toNat) x else mem) own :: fr)) := by
  refine calls_of Tryz.func66 rfl (by kernel_rfl) ?_
  repeat refine C_seq ?_
  refine C_region ?_
  refine Lp_pv rfl rfl ?_
  refine Lp_nil ?_
  repeat refine C_seq ?_
  refine C_region ?_
  refine Lp_pv rfl rfl ?_
  refine Lp_pv rfl rfl ?_
  refine Lp_pv rfl rfl ?_
  refine Lp_s rfl (St_call (a := []) (b := []) rfl rfl (call (word_spec ip sp bp size ls mem own addr i c s n l h place false H) ?_))
  clear H; rintro v w ⟨rfl, H⟩
  refine Lp_pv rfl rfl ?_
  refine Lp_pv rfl rfl ?_
  refine Lp_pv rfl rfl ?_
  refine Lp_pv rfl rfl ?_
  refine Lp_pv rfl rfl ?_
  refine Lp_nil ?_
  repeat refine C_seq ?_
  refine C_region ?_
  refine Lp_pv rfl rfl ?_
  refine Lp_pv rfl rfl ?_
  refine Lp_nil ?_
  by_cases he : placeE l n place false = 0
  · obtain ⟨p, rfl, hp, hr⟩ := placeE_ok he
    rw [he]
    repeat refine C_seq ?_
    refine C_false rfl (C_skip ?_)
    repeat refine C_seq ?_
    refine C_region ?_
    refine Lp_pv rfl rfl ?_
    refine Lp_pv rfl rfl ?_
    refine Lp_s rfl (St_fieldAddr rfl rfl ?_)
    refine Lp_s rfl (St_load1 H rfl rfl rfl ?_)
    refine Lp_pv rfl rfl ?_
    refine Lp_pv rfl rfl ?_
    refine Lp_nil ?_
    replace H := Holds.sel [2, 0, 0] 0 H; dsimp only [SL.sel, SL.pull, List.drop] at H
    repeat refine C_seq ?_
    refine C_region ?_
    refine Lp_pv rfl rfl ?_
    refine Lp_pv rfl rfl ?_
    refine Lp_pv rfl rfl ?_
    refine Lp_s rfl (St_call (a := [pp sp]) (b := []) rfl rfl (call (Write_spec sp size mem own (addr + 1 + p) x (by have := h.fit; omega) (h.owned.sub (by omega) (by omega) (by omega)) H) ?_))
    clear H; rintro v w ⟨rfl, H⟩
    refine Lp_pv rfl rfl ?_
    refine Lp_nil ?_
    replace H := Holds.sel [1, 1, 0] 0 H; dsimp only [SL.sel, SL.pull, List.drop] at H
    exact C_ret (fn_end0 _ (.inr rfl) H rfl fun w' H' => ⟨rfl, H'⟩)
  · rw [if_neg he, if_neg he]
    rw [show (((placeE l n place false : Nat) : Int) != 0) = true by simpa using he]
    repeat refine C_seq ?_
    refine C_true rfl ?_
    repeat refine C_seq ?_
    refine C_region ?_
    refine Lp_pv rfl rfl ?_
    refine Lp_pv rfl rfl ?_
    refine Lp_nil ?_
    exact C_ret (fn_end0 _ (.inr rfl) H rfl fun w' H' => ⟨rfl, H'⟩)

theorem iTie_spec [Extra] (ip sp bp size : Nat) (ls : List Lay) (mem own : List Nat) (addr i c s n : Nat) (l : Lay) (h : ImgAt ls size mem own addr i c s n l) (place : Int) (k : Lnk) (hk : okL k) {w : World} {fr : List HProp} (H : Holds w (IMG ip sp bp :: BOOK bp ls :: ST sp size mem own :: fr)) :
    Calls Tryz.prog 126 #[pp ip, .int .i64 addr, .int .i64 place, lkv k] w (ret fun v w' => v = .int .i64 (placeE l n place true) ∧ Holds w' (IMG ip sp bp :: BOOK bp ls :: ST sp size (if placeE l n place true = 0 then mem.set (addr + 1 + place.toNat) (wordL k) else mem) own :: fr)) := by
  obtain ⟨a, b, d, hkv⟩ := lkv_agg k
  have hW := fun (w : World) (fr : List HProp) (H : Holds w fr) => Word_spec k hk H
  rw [hkv] at hW ⊢
  refine calls_of Tryz.func126 rfl (by kernel_rfl) ?_
  repeat refine C_seq ?_
  refine C_region ?_
  (refine Lp_s rfl (St_boxN H rfl rfl ?_); clear H; intro b7 w H)
  refine Lp_pv rfl rfl ?_
  refine Lp_nil ?_
  replace H := Holds.sel [1, 1, 1, 0] 0 H; dsimp only [SL.sel, SL.pull, List.drop] at H
  repeat refine C_seq ?_
  refine C_region ?_
  refine Lp_pv rfl rfl ?_
  refine Lp_pv rfl rfl ?_
  refine Lp_pv rfl rfl ?_
  refine Lp_s rfl (St_call (a := []) (b := []) rfl rfl (call (word_spec ip sp bp size ls mem own addr i c s n l h place true H) ?_))
  clear H; rintro v w ⟨rfl, H⟩
  refine Lp_pv rfl rfl ?_
  refine Lp_pv rfl rfl ?_
  refine Lp_pv rfl rfl ?_
  refine Lp_pv rfl rfl ?_
  refine Lp_pv rfl rfl ?_
  refine Lp_nil ?_
  repeat refine C_seq ?_
  refine C_region ?_
  refine Lp_pv rfl rfl ?_
  refine Lp_pv rfl rfl ?_
  refine Lp_nil ?_
  by_cases he : placeE l n place true = 0
  · obtain ⟨p, rfl, hp, hr⟩ := placeE_ok he
    rw [he]
    repeat refine C_seq ?_
    refine C_false rfl (C_skip ?_)
    repeat refine C_seq ?_
    refine C_region ?_
    refine Lp_s rfl (St_loadN H rfl (by repeat (first | exact Reads.nil _ | apply Reads.cons rfl)) rfl ?_)
    refine Lp_s rfl (St_call (a := []) (b := []) rfl rfl (call (hW _ _ H) ?_))
    clear H; rintro v w ⟨rfl, H⟩
    refine Lp_pv rfl rfl ?_
    refine Lp_pv rfl rfl ?_
    refine Lp_pv rfl rfl ?_
    refine Lp_pv rfl rfl ?_
    refine Lp_pv rfl rfl ?_
    refine Lp_nil ?_
    repeat refine C_seq ?_
    refine C_region ?_
    refine Lp_pv rfl rfl ?_
    refine Lp_pv rfl rfl ?_
    refine Lp_nil ?_
    repeat refine C_seq ?_
    refine C_false rfl (C_skip ?_)
    repeat refine C_seq ?_
    refine C_region ?_
    refine Lp_pv rfl rfl ?_
    refine Lp_pv rfl rfl ?_
    refine Lp_s rfl (St_fieldAddr rfl rfl ?_)
    refine Lp_s rfl (St_load1 H rfl rfl rfl ?_)
    refine Lp_pv rfl rfl ?_
    refine Lp_pv rfl rfl ?_
    refine Lp_nil ?_
    replace H := Holds.sel [2, 0, 0] 1 H; dsimp only [SL.sel, SL.pull, List.drop] at H
    repeat refine C_seq ?_
    refine C_region ?_
    refine Lp_pv rfl rfl ?_
    refine Lp_pv rfl rfl ?_
    refine Lp_pv rfl rfl ?_
    refine Lp_s rfl (St_call (a := [pp sp]) (b := []) rfl rfl (call (Write_spec sp size mem own (addr + 1 + p) (wordL k) (by have := h.fit; omega) (h.owned.sub (by omega) (by omega) (by omega)) H) ?_))
    clear H; rintro v w ⟨rfl, H⟩
    refine Lp_pv rfl rfl ?_
    refine Lp_nil ?_
    replace H := Holds.sel [1, 1, 0] 0 H; dsimp only [SL.sel, SL.pull, List.drop] at H
    exact C_ret (fn_end0 _ (.inr rfl) H rfl fun w' H' => ⟨rfl, H'⟩)
  · rw [if_neg he, if_neg he]
    rw [show (((placeE l n place true : Nat) : Int) != 0) = true by simpa using he]
    repeat refine C_seq ?_
    refine C_true rfl ?_
    repeat refine C_seq ?_
    refine C_region ?_
    refine Lp_pv rfl rfl ?_
    refine Lp_pv rfl rfl ?_
    refine Lp_nil ?_
    replace H := Holds.sel [0, 0, 0] 1 H; dsimp only [SL.sel, SL.pull, List.drop] at H
    exact C_ret (fn_end0 _ (.inr rfl) H rfl fun w' H' => ⟨rfl, H'⟩)

theorem iAt_spec [Extra] (ip sp bp size : Nat) (ls : List Lay) (mem own : List Nat) (addr i c s n : Nat) (l : Lay) (h : ImgAt ls size mem own addr i c s n l) {w : World} {fr : List HProp} (H : Holds w (IMG ip sp bp :: BOOK bp ls :: ST sp size mem own :: fr)) :
    Calls Tryz.prog 58 #[pp ip, .int .i64 addr] w (ret fun v w' => v = .tuple #[hdv i c s, .int .i64 ((n + 1 : Nat) : Int), .int .i64 0] ∧ Holds w' (IMG ip sp bp :: BOOK bp ls :: ST sp size mem own :: fr)) := by
  have hml := ST_len (H.pull 2)
  have hf := h.fit
  refine calls_of Tryz.func58 rfl (by kernel_rfl) ?_
  repeat refine C_seq ?_
  refine C_region ?_
  (refine Lp_s rfl (St_alloc H rfl ?_); clear H; intro b4 w H)
  refine Lp_pv rfl rfl ?_
  refine Lp_pv rfl rfl ?_
  refine Lp_nil ?_
  repeat refine C_seq ?_
  refine C_region ?_
  refine Lp_pv rfl rfl ?_
  refine Lp_s rfl (St_eqPtrNil rfl rfl (.inl rfl) rfl ?_)
  refine Lp_nil ?_
  repeat refine C_seq ?_
  refine C_false rfl (C_skip ?_)
  repeat refine C_seq ?_
  refine C_region ?_
  refine Lp_pv rfl rfl ?_
  refine Lp_pv rfl rfl ?_
  replace H := Holds.sel [1, 1, 1, 0] 0 H; dsimp only [SL.sel, SL.pull, List.drop] at H
  refine Lp_s rfl (St_call (a := []) (b := []) rfl rfl (call (ifind_spec ip sp bp size ls mem own addr i c s n l h H) ?_))
  clear H; rintro v w ⟨vr, vq, rfl, H⟩
  obtain ⟨aa, ma, ca, rfl⟩ := sls_any H
  obtain ⟨ab, mb, cb, rfl⟩ := sls_any H.drop
  refine Lp_pv rfl rfl ?_
  refine Lp_pv rfl rfl ?_
  refine Lp_pv rfl rfl ?_
  refine Lp_pv rfl rfl ?_
  refine Lp_pv rfl rfl ?_
  (refine Lp_s rfl (St_alloc H rfl ?_); clear H; intro b7 w H)
  (refine Lp_s rfl (St_alloc H rfl ?_); clear H; intro b8 w H)
  (refine Lp_s rfl (St_storeN H rfl rfl inferInstance rfl rfl (Nat.le_of_ble_eq_true rfl) rfl ?_); clear H; intro w H)
  (refine Lp_s rfl (St_storeN H rfl rfl inferInstance rfl rfl (Nat.le_of_ble_eq_true rfl) rfl ?_); clear H; intro w H)
  refine Lp_pv rfl rfl ?_
  refine Lp_pv rfl rfl ?_
  refine Lp_nil ?_
  repeat refine C_seq ?_
  refine C_region ?_
  refine Lp_pv rfl rfl ?_
  refine Lp_pv rfl rfl ?_
  refine Lp_nil ?_
  repeat refine C_seq ?_
  refine C_false rfl (C_skip ?_)
  repeat refine C_seq ?_
  refine C_region ?_
  refine Lp_s rfl (St_loadN H rfl (by repeat (first | exact Reads.nil _ | apply Reads.cons rfl)) rfl ?_)
  refine Lp_pv rfl rfl ?_
  refine Lp_pv rfl rfl ?_
  (refine Lp_s rfl (St_storeN H rfl rfl inferInstance rfl rfl (Nat.le_of_ble_eq_true rfl) rfl ?_); clear H; intro w H)
  refine Lp_pv rfl rfl ?_
  refine Lp_pv rfl rfl ?_
  refine Lp_nil ?_
  rw [wrap64 (x := ((n : Nat) : Int) + 1) (by omega) (by omega), show ((n : Nat) : Int) + 1 = ((n + 1 : Nat) : Int) by omega]
  replace H := Holds.sel [7, 4, 4, 4] 4 H; dsimp only [SL.sel, SL.pull, List.drop] at H
  exact C_ret (fn_endC _ (.inr rfl) H (fun w' H' => .cellN H' rfl (by repeat (first | exact Reads.nil _ | apply Reads.cons rfl)) (.tmp (.tmp .nil))) fun w' H' => ⟨rfl, H'.drop⟩)
end Go.Proofs.YtcaaojbnjfdglaaGreatDoor
namespace Go.Proofs.YtcaaojbnjfdglaaGreatDoor
open Go.SL

theorem iMake_spec [Extra] (ip sp bp size : Nat) (ls : List Lay) (mem own : List Nat) (addr i c s n : Nat) (l : Lay) (hm : MayH i c s) (hl : ls[i - 1]? = some l) (hR : RightL l) (hz : sizeL l c = (n, 0)) (hf : addr + 1 + n ≤ mem.length) (ho : Owned size own addr (n + 1)) {w : World} {fr : List HProp} (H : Holds w (IMG ip sp bp :: BOOK bp ls :: ST sp size mem own :: fr)) :
    Calls Tryz.prog 80 #[pp ip, .int .i64 addr, hdv i c s] w (ret fun v w' => v = .tuple #[.int .i64 ((n + 1 : Nat) : Int), .int .i64 0] ∧ Holds w' (IMG ip sp bp :: BOOK bp ls :: ST sp size (setR (mem.set addr (encH i c s)) (addr + 1) n 0) own :: fr)) := by
  have hml := ST_len (H.pull 2)
  refine calls_of Tryz.func80 rfl (by kernel_rfl) ?_
  repeat refine C_seq ?_
  refine C_region ?_
  (refine Lp_s rfl (St_boxN H rfl rfl ?_); clear H; intro b5 w H)
  refine Lp_pv rfl rfl ?_
  refine Lp_pv rfl rfl ?_
  refine Lp_nil ?_
  repeat refine C_seq ?_
  refine C_region ?_
  refine Lp_pv rfl rfl ?_
  refine Lp_s rfl (St_eqPtrNil rfl rfl (.inl rfl) rfl ?_)
  refine Lp_nil ?_
  repeat refine C_seq ?_
  refine C_false rfl (C_skip ?_)
  repeat refine C_seq ?_
  refine C_region ?_
  refine Lp_s rfl (St_loadN H rfl (by repeat (first | exact Reads.nil _ | apply Reads.cons rfl)) rfl ?_)
  refine Lp_s rfl (St_call (a := []) (b := []) rfl rfl (call (Encode_spec i c s hm H) ?_))
  clear H; rintro v w ⟨rfl, H⟩
  refine Lp_pv rfl rfl ?_
  refine Lp_pv rfl rfl ?_
  refine Lp_pv rfl rfl ?_
  refine Lp_pv rfl rfl ?_
  refine Lp_pv rfl rfl ?_
  refine Lp_nil ?_
  repeat refine C_seq ?_
  refine C_region ?_
  refine Lp_pv rfl rfl ?_
  refine Lp_pv rfl rfl ?_
  refine Lp_nil ?_
  repeat refine C_seq ?_
  refine C_false rfl (C_skip ?_)
  repeat refine C_seq ?_
  refine C_region ?_
  refine Lp_pv rfl rfl ?_
  refine Lp_s rfl (St_loadN H rfl (by repeat (first | exact Reads.nil _ | apply Reads.cons rfl)) rfl ?_)
  replace H := Holds.sel [1, 1, 1, 0] 0 H; dsimp only [SL.sel, SL.pull, List.drop] at H
  refine Lp_s rfl (St_call (a := []) (b := []) rfl rfl (call (isize_spec ip sp bp ls i c s n l hm hl hR hz H) ?_))
  clear H; rintro v w ⟨vr, vq, rfl, H⟩
  obtain ⟨aa, ma, ca, rfl⟩ := sls_any H
  obtain ⟨ab, mb, cb, rfl⟩ := sls_any H.drop
  refine Lp_pv rfl rfl ?_
  refine Lp_pv rfl rfl ?_
  refine Lp_pv rfl rfl ?_
  refine Lp_pv rfl rfl ?_
  (refine Lp_s rfl (St_alloc H rfl ?_); clear H; intro b10 w H)
  (refine Lp_s rfl (St_storeN H rfl rfl inferInstance rfl rfl (Nat.le_of_ble_eq_true rfl) rfl ?_); clear H; intro w H)
  refine Lp_pv rfl rfl ?_
  refine Lp_pv rfl rfl ?_
  refine Lp_nil ?_
  repeat refine C_seq ?_
  refine C_region ?_
  refine Lp_pv rfl rfl ?_
  refine Lp_pv rfl rfl ?_
  refine Lp_nil ?_
  repeat refine C_seq ?_
  refine C_false rfl (C_skip ?_)
  repeat refine C_seq ?_
  refine C_region ?_
  refine Lp_pv rfl rfl ?_
  refine Lp_pv rfl rfl ?_
  refine Lp_s rfl (St_fieldAddr rfl rfl ?_)
  refine Lp_s rfl (St_load1 H rfl rfl rfl ?_)
  refine Lp_pv rfl rfl ?_
  refine Lp_pv rfl rfl ?_
  refine Lp_pv rfl rfl ?_
  refine Lp_pv rfl rfl ?_
  replace H := Holds.sel [5, 3, 3] 4 H; dsimp only [SL.sel, SL.pull, List.drop] at H
  rw [wrap64 (x := ((n : Nat) : Int) + 1) (by omega) (by omega), show ((n : Nat) : Int) + 1 = ((n + 1 : Nat) : Int) by omega]
  refine Lp_s rfl (St_call (a := []) (b := []) rfl rfl (call (CopySame_spec sp size mem own addr (n + 1) (by omega) (by omega) ho H) ?_))
  clear H; rintro v w ⟨rfl, H⟩
  refine Lp_pv rfl rfl ?_
  refine Lp_nil ?_
  repeat refine C_seq ?_
  refine C_region ?_
  refine Lp_pv rfl rfl ?_
  refine Lp_pv rfl rfl ?_
  refine Lp_nil ?_
  repeat refine C_seq ?_
  refine C_false rfl (C_skip ?_)
  repeat refine C_seq ?_
  refine C_region ?_
  refine Lp_pv rfl rfl ?_
  refine Lp_pv rfl rfl ?_
  refine Lp_s rfl (St_fieldAddr rfl rfl ?_)
  refine Lp_s rfl (St_load1 H rfl rfl rfl ?_)
  refine Lp_pv rfl rfl ?_
  refine Lp_pv rfl rfl ?_
  refine Lp_s rfl (St_call (a := []) (b := []) rfl rfl (call (Write_spec sp size mem own addr (encH i c s) (by omega) (ho.sub (Nat.le_refl _) (by omega) (by omega)) H) ?_))
  clear H; rintro v w ⟨rfl, H⟩
  refine Lp_nil ?_
  repeat refine C_seq ?_
  refine C_region ?_
  refine Lp_pv rfl rfl ?_
  refine Lp_pv rfl rfl ?_
  refine Lp_nil ?_
  generalize hmm : mem.set addr (encH i c s) = m2 at H
  have hm2 : m2.length = mem.length := by rw [← hmm, List.length_set]
  repeat refine C_seq ?_
  refine C_block ?_
  refine C_loop (fun ms σ w q => ms = [] ∧ ∃ j : Nat, j ≤ n ∧ q = n - j ∧ σ 0 = pp ip ∧ σ 1 = .int .i64 addr ∧ σ 11 = .int .i64 n ∧ σ 53 = .int .i64 n ∧ σ 54 = .int .i64 j ∧ Holds w (ST sp size (setR m2 (addr + 1) j 0) own :: IMG ip sp bp :: BOOK bp ls :: fr)) (m := n) ⟨rfl, 0, by omega, rfl, rfl, rfl, rfl, rfl, rfl, by rw [setR_zero]; exact H⟩ ?_
  clear H
  rintro ms σ w q ⟨rfl, j, hj, rfl, g0, g1, g11, g53, g54, H⟩
  rw [upd_self g0, upd_self g1, upd_self g11, upd_self g53, upd_self g54]
  repeat refine C_seq ?_
  refine C_region ?_
  refine Lp_pv rfl rfl ?_
  refine Lp_nil ?_
  repeat refine C_seq ?_
  refine C_dec rfl (fun h => C_skip ?_) (fun h => C_exit ?_)
  · have hlt : j < n := by omega
    repeat refine C_seq ?_
    refine C_block ?_
    repeat refine C_seq ?_
    refine C_region ?_
    refine Lp_pv rfl rfl ?_
    refine Lp_pv rfl rfl ?_
    refine Lp_nil ?_
    repeat refine C_seq ?_
    refine C_region ?_
    refine Lp_pv rfl rfl ?_
    refine Lp_pv rfl rfl ?_
    refine Lp_s rfl (St_fieldAddr rfl rfl ?_)
    refine Lp_s rfl (St_load1 H rfl rfl rfl ?_)
    refine Lp_pv rfl rfl ?_
    refine Lp_pv rfl rfl ?_
    refine Lp_pv rfl rfl ?_
    refine Lp_pv rfl rfl ?_
    rw [wrap64 (x := (addr : Int) + 1) (by omega) (by omega), wrap64 (x := (addr : Int) + 1 + (j : Int)) (by omega) (by omega), show (addr : Int) + 1 + (j : Int) = ((addr + 1 + j : Nat) : Int) by omega]
    refine Lp_s rfl (St_call (a := []) (b := []) rfl rfl (call (Write_spec sp size _ own (addr + 1 + j) 0 (by rw [setR_length (by omega)]; omega) (ho.sub (by omega) (by omega) (by omega)) H) ?_))
    clear H; rintro v w ⟨rfl, H⟩
    rw [setR_succ (by omega)] at H
    refine Lp_nil ?_
    repeat refine C_seq ?_
    refine C_region ?_
    refine Lp_pv rfl rfl ?_
    refine Lp_pv rfl rfl ?_
    refine Lp_nil ?_
    exact ⟨_, ⟨rfl, j + 1, hlt, rfl, rfl, rfl, rfl, rfl, inc64 (by omega), H⟩, by omega⟩
  · have hge : j = n := by omega
    subst hge
    repeat refine C_seq ?_
    refine C_region ?_
    refine Lp_pv rfl rfl ?_
    refine Lp_pv rfl rfl ?_
    refine Lp_pv rfl rfl ?_
    refine Lp_pv rfl rfl ?_
    refine Lp_nil ?_
    rw [wrap64 (x := ((j : Nat) : Int) + 1) (by omega) (by omega), show ((j : Nat) : Int) + 1 = ((j + 1 : Nat) : Int) by omega]
    replace H := Holds.sel [1, 1, 0] 0 H; dsimp only [SL.sel, SL.pull, List.drop] at H
    exact C_ret (fn_end0 _ (.inr rfl) H rfl fun w' H' => ⟨rfl, H'⟩)
end Go.Proofs.YtcaaojbnjfdglaaGreatDoor
namespace Go.Proofs
open Go.Shelf
def Tryz.laysSort_ren : Go.Shelf.Ren := ⟨fun | 189 => 129 | 125 => 171 | 257 => 170 | 128 => 203 | 129 => 204 | 294 => 195 | 295 => 196 | 296 => 197 | 297 => 198 | 298 => 199 | 299 => 200 | 216 => 140 | 300 => 201 | 301 => 202 | 328 => 211 | 329 => 212 | 330 => 213 | 331 => 214 | 332 => 215 | 215 => 182 | 343 => 226 | n => n, fun | 28 => 48 | 3 => 3 | 46 => 124 | 0 => 0 | 51 => 291 | 53 => 29 | 4 => 4 | 183 => 285 | 182 => 284 | 131 => 146 | 5 => 5 | 9 => 9 | 218 => 298 | 222 => 302 | 228 => 309 | 229 => 113 | n => n, fun | n => n⟩
theorem Tryz.laysSort : Go.Proofs.Lays.n189 Tryz.prog Tryz.laysSort_ren := {
  mixed := by kernel_rfl
  f125 := Tryz.func171.trans (congrArg some (by kernel_rfl))
  f128 := Tryz.func203.trans (congrArg some (by kernel_rfl))
  f129 := Tryz.func204.trans (congrArg some (by kernel_rfl))
  f189 := Tryz.func129.trans (congrArg some (by kernel_rfl))
  f215 := Tryz.func182.trans (congrArg some (by kernel_rfl))
  f216 := Tryz.func140.trans (congrArg some (by kernel_rfl))
  f257 := Tryz.func170.trans (congrArg some (by kernel_rfl))
  f294 := Tryz.func195.trans (congrArg some (by kernel_rfl))
  f295 := Tryz.func196.trans (congrArg some (by kernel_rfl))
  f296 := Tryz.func197.trans (congrArg some (by kernel_rfl))
  f297 := Tryz.func198.trans (congrArg some (by kernel_rfl))
  f298 := Tryz.func199.trans (congrArg some (by kernel_rfl))
  f299 := Tryz.func200.trans (congrArg some (by kernel_rfl))
  f300 := Tryz.func201.trans (congrArg some (by kernel_rfl))
  f301 := Tryz.func202.trans (congrArg some (by kernel_rfl))
  f328 := Tryz.func211.trans (congrArg some (by kernel_rfl))
  f329 := Tryz.func212.trans (congrArg some (by kernel_rfl))
  f330 := Tryz.func213.trans (congrArg some (by kernel_rfl))
  f331 := Tryz.func214.trans (congrArg some (by kernel_rfl))
  f332 := Tryz.func215.trans (congrArg some (by kernel_rfl))
  f343 := Tryz.func226.trans (congrArg some (by kernel_rfl))
  t0 := Tryz.underlying0
  a0 := Tryz.isAgg0
  z0 := Tryz.sizeOf0
  v0 := Tryz.zeroValue0
  t3 := Tryz.underlying3
  a3 := Tryz.isAgg3
  z3 := Tryz.sizeOf3
  v3 := Tryz.zeroValue3
  t4 := Tryz.underlying4
  a4 := Tryz.isAgg4
  z4 := Tryz.sizeOf4
  v4 := Tryz.zeroValue4
  t5 := Tryz.underlying5
  a5 := Tryz.isAgg5
  z5 := Tryz.sizeOf5
  v5 := Tryz.zeroValue5
  t9 := Tryz.underlying9
  a9 := Tryz.isAgg9
  z9 := Tryz.sizeOf9
  v9 := Tryz.zeroValue9
  t28 := Tryz.underlying48
  a28 := Tryz.isAgg48
  z28 := Tryz.sizeOf48
  v28 := Tryz.zeroValue48
  t46 := Tryz.underlying124
  a46 := Tryz.isAgg124
  z46 := Tryz.sizeOf124
  v46 := Tryz.zeroValue124
  t51 := Tryz.underlying291
  a51 := Tryz.isAgg291
  z51 := Tryz.sizeOf291
  v51 := Tryz.zeroValue291
  t53 := Tryz.underlying29
  a53 := Tryz.isAgg29
  z53 := Tryz.sizeOf29
  v53 := Tryz.zeroValue29
  t131 := Tryz.underlying146
  a131 := Tryz.isAgg146
  z131 := Tryz.sizeOf146
  v131 := Tryz.zeroValue146
  t182 := Tryz.underlying284
  a182 := Tryz.isAgg284
  z182 := Tryz.sizeOf284
  v182 := Tryz.zeroValue284
  t183 := Tryz.underlying285
  a183 := Tryz.isAgg285
  z183 := Tryz.sizeOf285
  v183 := Tryz.zeroValue285
  t218 := Tryz.underlying298
  a218 := Tryz.isAgg298
  z218 := Tryz.sizeOf298
  v218 := Tryz.zeroValue298
  t222 := Tryz.underlying302
  a222 := Tryz.isAgg302
  z222 := Tryz.sizeOf302
  v222 := Tryz.zeroValue302
  t228 := Tryz.underlying309
  a228 := Tryz.isAgg309
  z228 := Tryz.sizeOf309
  v228 := Tryz.zeroValue309
  t229 := Tryz.underlying113
  a229 := Tryz.isAgg113
  z229 := Tryz.sizeOf113
  v229 := Tryz.zeroValue113 }
end Go.Proofs
namespace Go.SL
open Go.Sort Go.Proofs

section
variable {α : Type} [Inhabited α] {enc : α → List Value} {k : Nat}

end
theorem Holds.grow [Extra] {w : World} {l : List HProp} {q : Nat} {os' : Array Obj} (H : Holds w l) : Holds (Go.Sort.grow (w.drewN q) os') l := by
  refine H.up (fun c o hc => ?_) ⟨rfl, rfl⟩
  show (w.heap ++ os')[c]? = some o
  have := (Array.getElem?_eq_some_iff.1 hc).1
  rw [Array.getElem?_append_left this]
  exact hc

end Go.SL
namespace Go.Proofs.YtcaaojbnjfdglaaGreatDoor
open Go.SL

def icells (l : List Int) : List Value := l.map fun x => Value.int .i64 x
theorem icells_length (l : List Int) : (icells l).length = l.length * 1 := by simp [icells]
theorem icells_append (a b : List Int) : icells (a ++ b) = icells a ++ icells b := by simp [icells]
theorem ncells_icells (l : List Nat) : ncells l = icells (l.map fun x : Nat => (x : Int)) := by simp [ncells, icells]
@[reducible] def IL (v : Value) (l : List Int) : HProp := sls 3 1 v (icells l)

theorem Sort_spec [Extra] (v : Value) (l : List Int) (hl : l.length ≤ 1000000) {w : World} {fr : List HProp} (H : Holds w (IL v l :: fr)) :
    Calls Tryz.prog 129 #[v] w (ret fun x w' => x = .tuple #[] ∧ Holds w' (IL v (l.mergeSort fun x y => decide (x ≤ y)) :: fr)) := by
  obtain ⟨a, c, rfl⟩ := sls_slice H (icells_length l) (by decide)
  have hlen : (l.mergeSort fun x y => decide (x ≤ y)).length = l.length := List.length_mergeSort l
  by_cases h0 : l = []
  · subst h0
    refine (Any.slices_Sort_int_none Tryz.laysSort a c w).mono ?_
    rintro e w' ⟨rfl, rfl⟩
    rw [List.mergeSort_nil]
    exact ⟨rfl, H⟩
  · have hpos : 0 < l.length := List.length_pos_iff.2 h0
    obtain ⟨b, s, rfl, H, h1, h2, hclose⟩ := sls_open2 H hpos
    have hb := H.pts
    refine (Any.slices_Sort_int Tryz.laysSort b 0 c l w (fun j hj => ⟨?_, frozen_row hb⟩) H.fresh (by omega)).mono ?_
    · refine cell_row hb ?_
      have hj' : j < l.length := by simpa using hj
      rw [Nat.zero_add, List.getElem?_append_left (by simpa [icells] using hj')]
      simp [icells, hj']
    · rintro e w' ⟨rfl, m, os, rfl⟩
      refine ⟨rfl, hclose _ _ (icells (l.mergeSort fun x y => decide (x ≤ y))) (by rw [icells_length, icells_length, hlen]) ?_⟩
      have e1 : (Go.Sort.putRow (Value.int .i64) (Go.Sort.ahead w m) b 0 (l.mergeSort fun x y => decide (x ≤ y)).toArray).heap = w.heap.modify b (Go.Sort.onCells (Go.Sort.putCells (Value.int .i64) 0 (l.mergeSort fun x y => decide (x ≤ y)).toArray)) := rfl
      have H1 : Holds (Go.Sort.putRow (Value.int .i64) (Go.Sort.ahead w m) b 0 (l.mergeSort fun x y => decide (x ≤ y)).toArray) (pts b (row 3 (icells (l.mergeSort fun x y => decide (x ≤ y)) ++ s)) :: fr) := by
        refine H.set ?_ ?_
        · rw [e1, Array.getElem?_modify, if_pos rfl, hb]
          simp only [Option.map_some, row, Go.Sort.onCells]
          congr 2
          apply Array.ext'
          apply List.ext_getElem?
          intro t
          simp only [Go.Sort.putCells, Array.getElem?_toList, Array.getElem?_mapIdx, List.getElem?_toArray, Nat.zero_le, true_and, Nat.zero_add, Nat.sub_zero, List.size_toArray]
          have l1 : (icells l).length = l.length := by simp [icells]
          have l2 : (icells (l.mergeSort fun x y => decide (x ≤ y))).length = l.length := by simp [icells]
          by_cases ht : t < l.length
          · rw [List.getElem?_append_left (by omega), List.getElem?_append_left (by omega)]
            have ht' : t < (l.mergeSort fun x y => decide (x ≤ y)).length := by omega
            simp only [icells, List.getElem?_map, List.getElem?_eq_getElem ht, List.getElem?_eq_getElem ht', Option.map_some, if_pos ht']
            rw [getElem!_pos _ t (by simpa using ht')]
            simp
          · rw [List.getElem?_append_right (by omega), List.getElem?_append_right (by omega), l1, l2]
            have ht' : ¬ t < (l.mergeSort fun x y => decide (x ≤ y)).length := by omega
            cases s[t - l.length]? with
            | none => rfl
            | some y => simp; intro h; omega
        · intro c hc
          rw [e1, Array.getElem?_modify, if_neg (Ne.symm hc)]
      refine H1.up (fun c o hc => ?_) ⟨rfl, rfl⟩
      show ((Go.Sort.putRow (Value.int .i64) (Go.Sort.ahead w m) b 0 (l.mergeSort fun x y => decide (x ≤ y)).toArray).heap ++ os)[c]? = some o
      have := (Array.getElem?_eq_some_iff.1 hc).1
      rw [Array.getElem?_append_left this]
      exact hc

theorem Compact_few [Extra] (a : Option Addr) (n c : Nat) (hn : n < 2) {w : World} {fr : List HProp} (H : Holds w fr) :
    Calls Tryz.prog 152 #[.slice a n c] w (ret fun x w' => x = .slice a n c ∧ Holds w' fr) := by
  refine calls_of Tryz.func152 rfl (by kernel_rfl) ?_
  repeat refine C_seq ?_
  refine C_region ?_
  refine Lp_pv rfl rfl ?_
  refine Lp_nil ?_
  repeat refine C_seq ?_
  refine C_region ?_
  refine Lp_pv rfl rfl ?_
  refine Lp_s rfl (St_lenSlice rfl rfl ?_)
  refine Lp_pv rfl rfl ?_
  refine Lp_nil ?_
  rw [show decide ((n : Int) < 2) = true from decide_eq_true (by omega)]
  repeat refine C_seq ?_
  refine C_true rfl ?_
  repeat refine C_seq ?_
  refine C_region ?_
  refine Lp_pv rfl rfl ?_
  refine Lp_pv rfl rfl ?_
  refine Lp_nil ?_
  exact C_ret (fn_end0 _ (.inr rfl) H rfl fun w' H' => ⟨rfl, H'⟩)

theorem Insert_end [Extra] (v : Value) (l : List Nat) (x : Nat) (hl : l.length ≤ 1000000) (b : Nat) {w : World} {fr : List HProp} (H : Holds w (NL v l :: pts b (row 3 [.int .i64 x]) :: fr)) :
    Calls Tryz.prog 139 #[v, .int .i64 l.length, .slice (some ⟨b, 0, none⟩) 1 1] w (ret fun v w' => Holds w' (NL v (l ++ [x]) :: fr)) := by
  obtain ⟨a, c, rfl⟩ := sls_slice H (ncells_length l) (by decide)
  refine calls_of Tryz.func139 rfl (by kernel_rfl) ?_
  repeat refine C_seq ?_
  refine C_region ?_
  refine Lp_pv rfl rfl ?_
  refine Lp_nil ?_
  repeat refine C_seq ?_
  refine C_region ?_
  refine Lp_pv rfl rfl ?_
  refine Lp_pv rfl rfl ?_
  refine Lp_s rfl (St_sliceFromE rfl rfl (Nat.le_refl _) rfl fun v12 => ?_)
  refine Lp_nil ?_
  repeat refine C_seq ?_
  refine C_region ?_
  refine Lp_pv rfl rfl ?_
  refine Lp_s rfl (St_lenSlice rfl rfl ?_)
  refine Lp_pv rfl rfl ?_
  refine Lp_nil ?_
  repeat refine C_seq ?_
  refine C_region ?_
  refine Lp_pv rfl rfl ?_
  refine Lp_pv rfl rfl ?_
  refine Lp_nil ?_
  repeat refine C_seq ?_
  refine C_false rfl (C_skip ?_)
  repeat refine C_seq ?_
  refine C_region ?_
  refine Lp_pv rfl rfl ?_
  refine Lp_s rfl (St_lenSlice rfl rfl ?_)
  refine Lp_pv rfl rfl ?_
  refine Lp_nil ?_
  repeat refine C_seq ?_
  refine C_region ?_
  refine Lp_pv rfl rfl ?_
  refine Lp_pv rfl rfl ?_
  refine Lp_pv rfl rfl ?_
  refine Lp_nil ?_
  rw [show (((l.length : Nat) : Int) == (l.length : Int)) = true by simp]
  repeat refine C_seq ?_
  refine C_true rfl ?_
  repeat refine C_seq ?_
  refine C_region ?_
  refine Lp_pv rfl rfl ?_
  refine Lp_pv rfl rfl ?_
  refine Lp_s rfl (St_append H rfl rfl (by repeat (first | exact Reads.nil _ | apply Reads.cons rfl)) rfl (by decide) (by rw [ncells_length]; simp only [List.length_cons, List.length_nil]; omega) rfl rfl ?_); clear H; intro v25 w H
  obtain ⟨a25, m25, c25, rfl⟩ := sls_any H
  refine Lp_pv rfl rfl ?_
  refine Lp_nil ?_
  have e1 : ncells l ++ [.int .i64 x] = ncells (l ++ [x]) := by rw [ncells_append]; rfl
  rw [e1] at H
  exact C_ret (fn_end0 _ (.inr rfl) (Holds.drop H.swap) rfl fun w' H' => H')
end Go.Proofs.YtcaaojbnjfdglaaGreatDoor
namespace Go.Proofs.YtcaaojbnjfdglaaGreatDoor
open Go.SL

def BAG (p : Nat) (l : List Nat) : HProp := ex fun v : Value => star [pts p (row 149 [v]), NL v l]
theorem BAG_out [Extra] {w : World} {p : Nat} {l : List Nat} {fr : List HProp} (H : Holds w (BAG p l :: fr)) : ∃ a c, Holds w (pts p (row 149 [.slice a l.length c]) :: NL (.slice a l.length c) l :: fr) := by
  obtain ⟨v, H⟩ := Holds.ex.1 H
  have H := Holds.star.1 H
  obtain ⟨a, c, rfl⟩ := sls_slice H.drop (ncells_length l) (by decide)
  exact ⟨a, c, H⟩
theorem BAG_in [Extra] {w : World} {p : Nat} {l : List Nat} {v : Value} {fr : List HProp} (H : Holds w (pts p (row 149 [v]) :: NL v l :: fr)) : Holds w (BAG p l :: fr) :=
  Holds.ex.2 ⟨v, Holds.star.2 H⟩

theorem gNew_spec [Extra] {w : World} {fr : List HProp} (H : Holds w fr) : Calls Tryz.prog 96 #[.slice none 0 0] w (ret fun v w' => ∃ p, v = pp p ∧ Holds w' (BAG p [] :: fr)) := by
  refine calls_of Tryz.func96 rfl (by kernel_rfl) ?_
  repeat refine C_seq ?_
  refine C_region ?_
  refine Lp_pv rfl rfl ?_
  refine Lp_nil ?_
  repeat refine C_seq ?_
  refine C_region ?_
  refine Lp_pv rfl rfl ?_
  refine Lp_s rfl (St_call (a := []) (b := []) rfl rfl (call (Clone_spec (.slice none 0 0) [] (by simp) ⟨rfl, none, 0, rfl, .inl rfl⟩ H) ?_))
  clear H; rintro v w H
  obtain ⟨a, c, rfl⟩ := sls_slice H (ncells_length []) (by decide)
  refine Lp_pv rfl rfl ?_
  refine Lp_nil ?_
  repeat refine C_seq ?_
  refine C_region ?_
  refine Lp_pv rfl rfl ?_
  refine Lp_s rfl (St_call (a := []) (b := []) rfl rfl (call (Sort_spec _ [] (by simp) H) ?_))
  clear H; rintro v w ⟨rfl, H⟩
  rw [List.mergeSort_nil] at H
  refine Lp_nil ?_
  repeat refine C_seq ?_
  refine C_region ?_
  refine Lp_pv rfl rfl ?_
  refine Lp_s rfl (St_call (a := []) (b := []) rfl rfl (call (Compact_few a 0 c (by omega) H) ?_))
  clear H; rintro v w ⟨rfl, H⟩
  refine Lp_s rfl (St_build rfl rfl ?_)
  (refine Lp_s rfl (St_boxN H rfl rfl ?_); clear H; intro b10 w H)
  refine Lp_pv rfl rfl ?_
  refine Lp_nil ?_
  exact C_ret (fn_end0 _ (.inr rfl) H rfl fun w' H' => ⟨_, rfl, BAG_in (l := []) H'⟩)

theorem posL_end {l : List Nat} {x : Nat} (h : ∀ a ∈ l, a < x) : posL l x = l.length := by
  unfold posL
  rw [List.countP_eq_length]
  intro a ha
  simpa using h a ha

theorem gPut_spec [Extra] (p : Nat) (l : List Nat) (x : Nat) (hs : l.Pairwise (· < ·)) (hl : l.length ≤ 100000) (hx : ∀ a ∈ l, a < x) {w : World} {fr : List HProp} (H : Holds w (BAG p l :: fr)) :
    Calls Tryz.prog 81 #[pp p, .int .i64 x] w (ret fun v w' => v = .bool true ∧ Holds w' (BAG p (l ++ [x]) :: fr)) := by
  obtain ⟨a, c, H⟩ := BAG_out H
  have hn : x ∉ l := fun h => by have := hx x h; omega
  refine calls_of Tryz.func81 rfl (by kernel_rfl) ?_
  repeat refine C_seq ?_
  refine C_region ?_
  refine Lp_pv rfl rfl ?_
  refine Lp_nil ?_
  repeat refine C_seq ?_
  refine C_region ?_
  refine Lp_pv rfl rfl ?_
  refine Lp_s rfl (St_eqPtrNil rfl rfl (.inl rfl) rfl ?_)
  refine Lp_nil ?_
  repeat refine C_seq ?_
  refine C_false rfl (C_skip ?_)
  repeat refine C_seq ?_
  refine C_region ?_
  refine Lp_pv rfl rfl ?_
  refine Lp_pv rfl rfl ?_
  refine Lp_s rfl (St_fieldAddr rfl rfl ?_)
  refine Lp_s rfl (St_load1 H rfl rfl rfl ?_)
  refine Lp_pv rfl rfl ?_
  obtain ⟨D1, H, hD1, hC1⟩ := sls_rd H.swap (ncells_length _) (by decide)
  refine Lp_s rfl (St_call (a := []) (b := []) rfl rfl (call (Search_spec _ l (by omega) hs x (hD1 _) H) ?_))
  clear H; rintro v w ⟨rfl, H⟩
  replace H := hC1 _ _ H
  rw [posL_end hx, decide_eq_false hn]
  refine Lp_pv rfl rfl ?_
  refine Lp_pv rfl rfl ?_
  refine Lp_pv rfl rfl ?_
  refine Lp_pv rfl rfl ?_
  refine Lp_pv rfl rfl ?_
  refine Lp_nil ?_
  repeat refine C_seq ?_
  refine C_region ?_
  refine Lp_pv rfl rfl ?_
  refine Lp_pv rfl rfl ?_
  refine Lp_nil ?_
  repeat refine C_seq ?_
  refine C_join (fun ms σ w => ms = [] ∧ σ 6 = .bool false ∧ Holds w (BAG p (l ++ [x]) :: fr)) ?_ ?_
  · refine C_true rfl ?_
    repeat refine C_seq ?_
    refine C_region ?_
    refine Lp_pv rfl rfl ?_
    refine Lp_pv rfl rfl ?_
    refine Lp_pv rfl rfl ?_
    refine Lp_s rfl (St_fieldAddr rfl rfl ?_)
    refine Lp_s rfl (St_load1 H rfl rfl rfl ?_)
    refine Lp_pv rfl rfl ?_
    refine Lp_pv rfl rfl ?_
    (refine Lp_s rfl (St_buildSlice H rfl rfl rfl ?_); clear H; intro b27 w H)
    replace H := Holds.sel [1, 0, 0] 0 H; dsimp only [SL.sel, SL.pull, List.drop] at H
    refine Lp_s rfl (St_call (a := []) (b := []) rfl rfl (call (Insert_end _ l x (by omega) _ H) ?_))
    clear H; intro v w H
    obtain ⟨a28, m28, c28, rfl⟩ := sls_any H
    refine Lp_pv rfl rfl ?_
    refine Lp_s rfl (St_fieldAddr rfl rfl ?_)
    (refine Lp_s rfl (St_store1 H rfl rfl inferInstance rfl (Nat.le_of_ble_eq_true rfl) rfl ?_); clear H; intro w H)
    refine Lp_nil ?_
    exact ⟨rfl, rfl, rfl, BAG_in H.swap⟩
  · clear H
    rintro ms σ w ⟨rfl, g6, H⟩
    rw [upd_self g6]
    repeat refine C_seq ?_
    refine C_region ?_
    refine Lp_pv rfl rfl ?_
    refine Lp_pv rfl rfl ?_
    refine Lp_pv rfl rfl ?_
    refine Lp_nil ?_
    exact C_ret (fn_end0 _ (.inr rfl) H rfl fun w' H' => ⟨rfl, H'⟩)

end Go.Proofs.YtcaaojbnjfdglaaGreatDoor
namespace Go.Proofs.YtcaaojbnjfdglaaGreatDoor
open Go.SL

theorem sub_length {α : Type} : ∀ {l₁ l₂ : List α}, l₁.Nodup → (∀ z ∈ l₁, z ∈ l₂) → l₁.length ≤ l₂.length
  | [], _, _, _ => Nat.zero_le _
  | c :: l, l₂, hn, hs => by
    obtain ⟨s, t, rfl⟩ := List.append_of_mem (hs c (by simp))
    have h := List.nodup_cons.1 hn
    have := sub_length (l₂ := s ++ t) h.2 (fun z hz => by
      have h1 := hs z (by simp [hz])
      have h2 : z ≠ c := fun e => h.1 (e ▸ hz)
      simp [h2] at h1
      simpa using h1)
    simp at this ⊢
    omega

end Go.Proofs.YtcaaojbnjfdglaaGreatDoor
namespace Go.Proofs
open Go.Shelf
end Go.Proofs
namespace Go.Proofs.YtcaaojbnjfdglaaGreatDoor
open Go.SL

def ltR (x y : Rf) : Prop := x.1 < y.1 ∨ x.1 = y.1 ∧ x.2 < y.2
instance (x y : Rf) : Decidable (ltR x y) := by unfold ltR; exact inferInstance

end Go.Proofs.YtcaaojbnjfdglaaGreatDoor
namespace Go.Proofs.YtcaaojbnjfdglaaGreatDoor
open Go.SL

theorem mpv_some [Extra] {w : World} {K V : Type} {ek : K → Value} {vv : V → Value} {b : Nat} {m : List (K × V)} {l : List HProp} (H : Holds w (mpv ek vv (.map (some b)) m :: l)) : Holds w (mp ek vv b m :: l) := H.head fun h hm => by
  rcases hm with ⟨h, _⟩ | ⟨b', h, hm⟩
  · cases h
  · cases h; exact hm

theorem fnd_isSome_mem {K V : Type} [DecidableEq K] {m : List (K × V)} {x : K} (h : (fnd m x).isSome = true) : x ∈ m.map (·.1) := by
  cases hf : fnd m x with
  | none => rw [hf] at h; cases h
  | some v => exact List.mem_map_of_mem (f := (·.1)) (fnd_mem hf)

end Go.Proofs.YtcaaojbnjfdglaaGreatDoor
namespace Go.Proofs.YtcaaojbnjfdglaaGreatDoor
open Go.SL

theorem ki_inj : ∀ a b : Int, ki .i64 a = ki .i64 b → a = b := fun a b h => by cases h; rfl
def kidB (par : List (Int × Int)) (id k : Int) : Bool := decide (fnd par k = some id)

theorem Kids_spec [Extra] (p last : Nat) (par : List (Int × Int)) (id : Int) (h0 : id = 0 ∨ (fnd par id).isSome = true) (hl : par.length ≤ 1000) {w : World} {fr : List HProp} (H : Holds w (TRE p last par :: fr)) :
    Calls Tryz.prog 72 #[pp p, .int .i64 id] w (ret fun v w' => ∃ u K, v = .tuple #[u, .int .i64 0] ∧ K.Perm ((par.map (·.1)).filter (kidB par id)) ∧ K.Pairwise (· ≤ ·) ∧ Holds w' (IL u K :: TRE p last par :: fr)) := by
  have hnd := TRE_keys H
  refine calls_of Tryz.func72 rfl (by kernel_rfl) ?_
  repeat refine C_seq ?_
  refine C_region ?_
  refine Lp_pv rfl rfl ?_
  refine Lp_pv rfl rfl ?_
  refine Lp_nil ?_
  repeat refine C_seq ?_
  refine C_region ?_
  refine Lp_pv rfl rfl ?_
  refine Lp_pv rfl rfl ?_
  refine Lp_s rfl (St_call (a := []) (b := []) rfl rfl (call (need_spec p last par id H) ?_))
  clear H; rintro v w ⟨rfl, H⟩
  refine Lp_pv rfl rfl ?_
  refine Lp_nil ?_
  repeat refine C_seq ?_
  refine C_join (fun ms σ w => ms = [] ∧ σ 22 = .bool false ∧ σ 0 = pp p ∧ σ 1 = .int .i64 id ∧ Holds w (TRE p last par :: fr)) ?_ ?_
  · cases hf : (fnd par id).isSome with
    | true =>
      repeat refine C_seq ?_
      refine C_region ?_
      refine Lp_pv rfl rfl ?_
      refine Lp_pv rfl rfl ?_
      refine Lp_pv rfl rfl ?_
      refine Lp_no rfl rfl rfl ?_
      refine Lp_no rfl rfl rfl ?_
      refine Lp_no rfl rfl rfl ?_
      refine Lp_nn rfl rfl ?_
      refine Lp_nn rfl rfl ?_
      refine Lp_no rfl rfl rfl ?_
      refine Lp_pv rfl rfl ?_
      refine Lp_nil ?_
      exact ⟨rfl, rfl, rfl, rfl, rfl, H⟩
    | false =>
      obtain rfl : id = 0 := by
        rcases h0 with h | h
        · exact h
        · rw [hf] at h; cases h
      repeat refine C_seq ?_
      refine C_region ?_
      refine Lp_pv rfl rfl ?_
      refine Lp_pv rfl rfl ?_
      refine Lp_pv rfl rfl ?_
      refine Lp_gpv rfl rfl rfl rfl ?_
      refine Lp_g rfl rfl rfl (St_eqPtrNil rfl rfl (.inl rfl) rfl ?_)
      refine Lp_gpv rfl rfl rfl rfl ?_
      refine Lp_gpv rfl rfl rfl rfl ?_
      refine Lp_gpv rfl rfl rfl rfl ?_
      refine Lp_gpv rfl rfl rfl rfl ?_
      refine Lp_pv rfl rfl ?_
      refine Lp_nil ?_
      exact ⟨rfl, rfl, rfl, rfl, rfl, H⟩
  clear H
  rintro ms σ w ⟨rfl, g22, g0, g1, H⟩
  rw [upd_self g22, upd_self g0, upd_self g1]
  repeat refine C_seq ?_
  refine C_false rfl (C_skip ?_)
  repeat refine C_seq ?_
  refine C_region ?_
  refine Lp_pv rfl rfl ?_
  refine Lp_nil ?_
  obtain ⟨b, H⟩ := TRE_out H
  repeat refine C_seq ?_
  refine C_region ?_
  refine Lp_pv rfl rfl ?_
  refine Lp_pv rfl rfl ?_
  refine Lp_s rfl (St_fieldAddr rfl rfl ?_)
  refine Lp_s rfl (St_load1 H rfl rfl rfl ?_)
  replace H := mpv_of H.swap
  refine Lp_s rfl (St_range (ki .i64) v1 H rfl rfl ?_); clear H; intro bi w H
  refine Lp_nil ?_
  repeat refine C_seq ?_
  refine C_joinQ (fun ms σ w => ms = [] ∧ ∃ (u : Value) (K : List Int), σ 7 = u ∧ K.Perm ((par.map (·.1)).filter (kidB par id)) ∧ Holds w (IL u K :: TRE p last par :: fr)) ?_ ?_
  · refine C_block ?_
    refine C_loop (fun ms σ w n => ms = [] ∧ ∃ (ks : List Int) (u : Value), ks.length ≤ par.length ∧ n = par.length - ks.length ∧ σ 1 = .int .i64 id ∧ σ 7 = u ∧ σ 28 = pp bi ∧ Holds w (IL u (ks.filter (kidB par id)) :: mit (ki .i64) v1 (.map (some b)) par bi ks :: pts p (row 214 [.map (some b), .int .i64 last]) :: fr)) (m := par.length) ⟨rfl, [], _, by simp, rfl, rfl, rfl, rfl, sls_nil H⟩ ?_
    clear H
    rintro ms σ w n ⟨rfl, ks, u, hkl, rfl, g1, g7, g28, H⟩
    obtain ⟨au, mu, cu, rfl⟩ := sls_any H
    rw [upd_self g1, upd_self g7, upd_self g28]
    repeat refine C_seq ?_
    refine C_region ?_
    refine Lp_s rfl (St_next H.swap ki_inj rfl rfl (fun hp w H => ?_) (fun q hq hn hnd2 hsub w H => ?_))
    · refine Lp_pv rfl rfl ?_
      refine Lp_nil ?_
      repeat refine C_seq ?_
      refine C_false rfl (C_exit ?_)
      replace H := mpv_some (mit_mpv H)
      replace H := Holds.sel [1, 1, 0] 0 H; dsimp only [SL.sel, SL.pull, List.drop] at H
      have H2 : Holds w (TRE p last par :: IL (.slice au mu cu) (ks.filter (kidB par id)) :: fr) := TRE_in (by replace H := Holds.sel [1, 1, 0] 0 H; dsimp only [SL.sel, SL.pull, List.drop] at H; exact H)
      exact .inl ⟨rfl, rfl, _, _, rfl, hp.filter _, H2.swap⟩
    · have hlt : ks.length < par.length := by
        have h1 : (ks ++ [q.1]).Nodup := by
          rw [List.nodup_append]
          exact ⟨hnd2, by simp, fun c hc c' hc' e0 => by simp at hc'; subst hc'; subst e0; exact hn hc⟩
        have h2 := sub_length h1 (l₂ := par.map (·.1)) (fun z hz => by
          rcases List.mem_append.1 hz with hz | hz
          · exact hsub z hz
          · simp at hz; subst hz; exact List.mem_map.2 ⟨q, hq, rfl⟩)
        simp at h2
        omega
      have hfq : fnd par q.1 = some q.2 := (fnd_iff hnd).2 hq
      refine Lp_pv rfl rfl ?_
      refine Lp_nil ?_
      repeat refine C_seq ?_
      refine C_true rfl (C_skip ?_)
      refine C_block ?_
      repeat refine C_seq ?_
      refine C_region ?_
      refine Lp_s rfl (St_entry H ki_inj hq rfl rfl ?_)
      refine Lp_pv rfl rfl ?_
      refine Lp_pv rfl rfl ?_
      refine Lp_pv rfl rfl ?_
      refine Lp_pv rfl rfl ?_
      refine Lp_nil ?_
      obtain ⟨k, t⟩ := q
      repeat refine C_seq ?_
      refine C_region ?_
      refine Lp_pv rfl rfl ?_
      refine Lp_pv rfl rfl ?_
      refine Lp_pv rfl rfl ?_
      refine Lp_nil ?_
      by_cases ht : t = id
      · have hk : kidB par id k = true := by unfold kidB; rw [hfq, ht]; simp
        rw [show (t == id) = true by simpa using ht]
        repeat refine C_seq ?_
        refine C_true rfl ?_
        repeat refine C_seq ?_
        refine C_region ?_
        refine Lp_pv rfl rfl ?_
        refine Lp_pv rfl rfl ?_
        (refine Lp_s rfl (St_buildSlice H rfl rfl rfl ?_); clear H; intro b39 w H)
        replace H := Holds.sel [2, 0, 0, 0] 0 H; dsimp only [SL.sel, SL.pull, List.drop] at H
        have hle := List.length_filter_le (kidB par id) ks
        refine Lp_s rfl (St_append H rfl rfl (by repeat (first | exact Reads.nil _ | apply Reads.cons rfl)) rfl (by decide) (by rw [icells_length]; simp only [List.length_cons, List.length_nil]; omega) rfl rfl ?_); clear H; intro v40 w H
        obtain ⟨a40, m40, c40, rfl⟩ := sls_any H
        refine Lp_pv rfl rfl ?_
        refine Lp_nil ?_
        replace H := Holds.sel [0, 1, 1] 1 H; dsimp only [SL.sel, SL.pull, List.drop] at H
        refine ⟨_, ⟨rfl, ks ++ [k], _, by simp; omega, rfl, rfl, rfl, rfl, ?_⟩, by simp; omega⟩
        rw [List.filter_append, show [k].filter (kidB par id) = [k] by simp [hk]]
        show Holds w (sls _ 1 _ (icells (ks.filter (kidB par id) ++ [k])) :: _)
        rw [icells_append]
        exact H
      · have hk : kidB par id k = false := by unfold kidB; rw [hfq]; simp; exact ht
        rw [show (t == id) = false by simpa using ht]
        repeat refine C_seq ?_
        refine C_false rfl (C_skip ?_)
        refine ⟨_, ⟨rfl, ks ++ [k], .slice au mu cu, by simp; omega, rfl, rfl, rfl, rfl, ?_⟩, by simp; omega⟩
        rw [List.filter_append, show [k].filter (kidB par id) = [] by simp [hk], List.append_nil]
        replace H := Holds.sel [1, 0, 0] 0 H; dsimp only [SL.sel, SL.pull, List.drop] at H
        exact H
  · clear H
    rintro ms σ w ⟨rfl, u, K, g7, hK, H⟩
    have hKl : K.length ≤ 1000 := by
      have h1 := hK.length_eq
      have h2 := List.length_filter_le (kidB par id) (par.map (·.1))
      simp at h2
      omega
    obtain ⟨au, cu, rfl⟩ := sls_slice H (icells_length K) (by decide)
    rw [upd_self g7]
    repeat refine C_seq ?_
    refine C_region ?_
    refine Lp_pv rfl rfl ?_
    refine Lp_s rfl (St_call (a := []) (b := []) rfl rfl (call (Sort_spec _ K (by omega) H) ?_))
    clear H; rintro v w ⟨rfl, H⟩
    refine Lp_nil ?_
    repeat refine C_seq ?_
    refine C_region ?_
    refine Lp_pv rfl rfl ?_
    refine Lp_pv rfl rfl ?_
    refine Lp_pv rfl rfl ?_
    refine Lp_nil ?_
    refine C_ret (fn_end0 _ (.inr rfl) H rfl fun w' H' => ⟨_, _, rfl, (List.mergeSort_perm K _).trans hK, ?_, H'⟩)
    have := List.pairwise_mergeSort (le := fun x y : Int => decide (x ≤ y)) (fun a b c h1 h2 => by simp at *; omega) (fun a b => by simp; omega) K
    exact this.imp (fun h => by simpa using h)
end Go.Proofs.YtcaaojbnjfdglaaGreatDoor
namespace Go.Proofs.YtcaaojbnjfdglaaGreatDoor
open Go.SL

theorem Same_spec [Extra] (va vb : Value) (a b : List Int) (hl : a.length ≤ 1000000) {w : World} {fr : List HProp} (H : Holds w (IL va a :: IL vb b :: fr)) :
    Calls Tryz.prog 32 #[va, vb] w (ret fun v w' => v = .bool (decide (a = b)) ∧ Holds w' (IL va a :: IL vb b :: fr)) := by
  obtain ⟨aa, ca, rfl⟩ := sls_slice H (icells_length a) (by decide)
  obtain ⟨ab, cb, rfl⟩ := sls_slice H.drop (icells_length b) (by decide)
  refine calls_of Tryz.func32 rfl (by kernel_rfl) ?_
  repeat refine C_seq ?_
  refine C_region ?_
  refine Lp_pv rfl rfl ?_
  refine Lp_nil ?_
  repeat refine C_seq ?_
  refine C_region ?_
  refine Lp_pv rfl rfl ?_
  refine Lp_s rfl (St_lenSlice rfl rfl ?_)
  refine Lp_pv rfl rfl ?_
  refine Lp_s rfl (St_lenSlice rfl rfl ?_)
  refine Lp_pv rfl rfl ?_
  refine Lp_nil ?_
  by_cases hlen : a.length = b.length
  · rw [show ((a.length : Int) != (b.length : Int)) = false by simp; omega]
    repeat refine C_seq ?_
    refine C_false rfl (C_skip ?_)
    repeat refine C_seq ?_
    refine C_region ?_
    refine Lp_pv rfl rfl ?_
    refine Lp_nil ?_
    repeat refine C_seq ?_
    refine C_block ?_
    refine C_loop (fun ms σ w q => ms = [] ∧ ∃ i : Nat, i ≤ a.length ∧ q = a.length - i ∧ a.take i = b.take i ∧ σ 0 = .slice aa a.length ca ∧ σ 1 = .slice ab b.length cb ∧ σ 5 = .int .i64 i ∧ Holds w (IL (.slice aa a.length ca) a :: IL (.slice ab b.length cb) b :: fr)) (m := a.length) ⟨rfl, 0, by omega, rfl, by simp, rfl, rfl, rfl, H⟩ ?_
    clear H
    rintro ms σ w q ⟨rfl, i, hi, rfl, heq, g0, g1, g5, H⟩
    rw [upd_self g0, upd_self g1, upd_self g5]
    repeat refine C_seq ?_
    refine C_region ?_
    refine Lp_pv rfl rfl ?_
    refine Lp_pv rfl rfl ?_
    refine Lp_s rfl (St_lenSlice rfl rfl ?_)
    refine Lp_pv rfl rfl ?_
    refine Lp_nil ?_
    repeat refine C_seq ?_
    refine C_dec rfl (fun h => C_skip ?_) (fun h => C_exit ?_)
    · have hlt : i < a.length := by omega
      have hlt2 : i < b.length := by omega
      have hx := List.getElem?_eq_getElem hlt
      have hy := List.getElem?_eq_getElem hlt2
      generalize a[i] = x at hx
      generalize b[i] = y at hy
      obtain ⟨ba, sa, rfl, H, hca⟩ := sls_open H (by omega)
      obtain ⟨bb, sb, rfl, H, hcb⟩ := sls_open H.swap (by omega)
      have c1 : (icells a ++ sa)[0 + i * 1]? = some (.int .i64 x) := by
        rw [Nat.zero_add, Nat.mul_one, List.getElem?_append_left (by simpa [icells] using hlt)]
        simp [icells, hx]
      have c2 : (icells b ++ sb)[0 + i * 1]? = some (.int .i64 y) := by
        rw [Nat.zero_add, Nat.mul_one, List.getElem?_append_left (by simpa [icells] using hlt2)]
        simp [icells, hy]
      repeat refine C_seq ?_
      refine C_block ?_
      repeat refine C_seq ?_
      refine C_drawH H mixed ?_
      clear H; intro w H
      refine A_pv 0 rfl (Wants.none rfl) rfl (by kernel_rfl) ?_
      refine A_pv 1 rfl (Wants.none rfl) rfl (by kernel_rfl) ?_
      refine A_indexAddr 2 rfl (Wants.none rfl) rfl rfl (by omega) (by omega) (by kernel_rfl) ?_
      refine A_load1 3 [] H rfl (Wants.none rfl) rfl c1 (by kernel_rfl) ?_
      refine A_pv 4 rfl (Wants.none rfl) rfl (by kernel_rfl) ?_
      refine A_pv 5 rfl (Wants.none rfl) rfl (by kernel_rfl) ?_
      refine A_indexAddr 6 rfl (Wants.none rfl) rfl rfl (by omega) (by omega) (by kernel_rfl) ?_
      refine A_load1 7 [] H rfl (Wants.none rfl) rfl c2 (by kernel_rfl) ?_
      refine A_pv 8 rfl (Wants.none rfl) rfl (by kernel_rfl) ?_
      refine A_end (by kernel_rfl) (by repeat first | exact .nil | refine .cons (.inr H.at) ?_ | refine .cons (.inr H.mp) ?_ | refine .cons (.inl (by kernel_rfl)) ?_) ?_
      replace H := hcb _ _ H
      replace H := hca _ _ H.swap
      by_cases hxy : x = y
      · rw [show (x != y) = false by simpa using hxy]
        repeat refine C_seq ?_
        refine C_false rfl (C_skip ?_)
        repeat refine C_seq ?_
        refine C_region ?_
        refine Lp_pv rfl rfl ?_
        refine Lp_pv rfl rfl ?_
        refine Lp_pv rfl rfl ?_
        refine Lp_nil ?_
        refine ⟨_, ⟨rfl, i + 1, hlt, rfl, ?_, rfl, rfl, inc64 (by omega), H⟩, by omega⟩
        rw [List.take_add_one, List.take_add_one, hx, hy, heq, hxy]
      · rw [show (x != y) = true by simpa using hxy]
        repeat refine C_seq ?_
        refine C_true rfl ?_
        repeat refine C_seq ?_
        refine C_region ?_
        refine Lp_pv rfl rfl ?_
        refine Lp_nil ?_
        refine C_ret (fn_end0 _ (.inr rfl) H rfl fun w' H' => ⟨?_, H'⟩)
        have hne : a ≠ b := by
          rintro rfl
          rw [hx] at hy
          injection hy with hy
          exact hxy hy
        rw [decide_eq_false hne]
        rfl
    · have hge : i = a.length := by omega
      subst hge
      rw [List.take_length, hlen, List.take_length] at heq
      repeat refine C_seq ?_
      refine C_region ?_
      refine Lp_pv rfl rfl ?_
      refine Lp_nil ?_
      exact C_ret (fn_end0 _ (.inr rfl) H rfl fun w' H' => ⟨by rw [decide_eq_true heq]; rfl, H'⟩)
  · rw [show ((a.length : Int) != (b.length : Int)) = true by simp; omega]
    repeat refine C_seq ?_
    refine C_true rfl ?_
    repeat refine C_seq ?_
    refine C_region ?_
    refine Lp_pv rfl rfl ?_
    refine Lp_nil ?_
    refine C_ret (fn_end0 _ (.inr rfl) H rfl fun w' H' => ⟨?_, H'⟩)
    have hne : a ≠ b := by rintro rfl; exact hlen rfl
    rw [decide_eq_false hne]
    rfl

theorem dDecode_spec [Extra] (v : Value) (ws : List Nat) (hws : ∀ x ∈ ws, x < 18446744073709551616) {w : World} {fr : List HProp} (hr : RdS fr v ws.length 1 (ucells ws)) (H : Holds w fr) :
    Calls Tryz.prog 39 #[v] w (ret fun r w' => (decodeL ws = none ∧ r = .tuple #[layV 0 (.slice none 0 0) 0 (.slice none 0 0), .bool false] ∧ Holds w' fr) ∨
      ∃ l vr vq, decodeL ws = some l ∧ r = .tuple #[layV l.fixed vr l.record vq, .bool true] ∧ Holds w' (NL vr l.refs :: NL vq l.recs :: fr)) := by
  obtain ⟨_, ad, cap, rfl, hr'⟩ := id hr
  refine calls_of Tryz.func39 rfl (by kernel_rfl) ?_
  repeat refine C_seq ?_
  refine C_region ?_
  (refine Lp_s rfl (St_alloc H rfl ?_); clear H; intro b2 w H)
  refine Lp_pv rfl rfl ?_
  refine Lp_nil ?_
  repeat refine C_seq ?_
  refine C_region ?_
  refine Lp_pv rfl rfl ?_
  refine Lp_s rfl (St_lenSlice rfl rfl ?_)
  refine Lp_pv rfl rfl ?_
  by_cases h3 : ws.length = 3
  · obtain ⟨x, y, z, rfl⟩ : ∃ x y z, ws = [x, y, z] := by
      match ws, h3 with
      | [x, y, z], _ => exact ⟨x, y, z, rfl⟩
    have hx := hws x (by simp)
    have hy := hws y (by simp)
    have hz := hws z (by simp)
    rcases hr' with h | ⟨b, o, E, fz, c, rfl, hA, hrd⟩
    · cases h
    haveI := hA
    have c0 : c[o + 0 * 1]? = some (.int .u64 x) := by have := hrd.get 0 (.int .u64 x) (by simp [ucells]); simpa using this
    have c1 : c[o + 1 * 1]? = some (.int .u64 y) := by have := hrd.get 1 (.int .u64 y) (by simp [ucells]); simpa using this
    have c2 : c[o + 2 * 1]? = some (.int .u64 z) := by have := hrd.get 2 (.int .u64 z) (by simp [ucells]); simpa using this
    rw [show ((([x, y, z] : List Nat).length : Int) != 3) = false from rfl]
    refine Lp_pv rfl rfl ?_
    refine Lp_gpv rfl rfl rfl rfl ?_
    refine Lp_g rfl rfl rfl (St_indexAddr rfl rfl (by omega) (by show (0 : Int) < (3 : Nat); omega) rfl ?_)
    refine Lp_g rfl rfl rfl (St_load1 H rfl c0 rfl ?_)
    refine Lp_gpv rfl rfl rfl rfl ?_
    by_cases hb : x < 65536
    · rw [show decide ((x : Int) ≥ 65536) = false from decide_eq_false (by omega)]
      refine Lp_pv rfl rfl ?_
      refine Lp_nil ?_
      repeat refine C_seq ?_
      refine C_false rfl (C_skip ?_)
      have m8 : Int.tmod (x : Int) 256 = ((x % 256 : Nat) : Int) := by rw [Int.tmod_eq_emod_of_nonneg (by omega)]; omega
      have q8 : IntKind.u64.wrap (Int.tdiv (x : Int) 256) = ((x / 256 : Nat) : Int) := by
        rw [Int.tdiv_eq_ediv_of_nonneg (by omega), show (x : Int) / 256 = ((x / 256 : Nat) : Int) by omega, wrapU_nat (by omega)]
      have w8 : IntKind.i64.wrap ((x % 256 : Nat) : Int) = ((x % 256 : Nat) : Int) := wrapI_nat (by omega)
      have v8 : IntKind.i64.wrap ((x / 256 : Nat) : Int) = ((x / 256 : Nat) : Int) := wrapI_nat (by omega)
      repeat refine C_seq ?_
      refine C_joinQ (fun ms σ w => ms = [] ∧ ∃ b4 va vb, σ 2 = pp b2 ∧ σ 4 = pp b4 ∧
        Holds w (pts b4 (row 101 [.int .i64 ((x % 256 : Nat) : Int), va, .int .i64 ((x / 256 : Nat) : Int), vb]) :: NL va (bitsTo y 64) :: NL vb (bitsTo z 64) :: pts b2 (row 101 [.int .i64 0, .slice none 0 0, .int .i64 0, .slice none 0 0]) :: fr)) ?_ ?_
      · repeat refine C_seq ?_
        refine C_drawH H mixed ?_
        clear H; intro w H
        refine A_pv 0 rfl (Wants.none rfl) rfl (by kernel_rfl) ?_
        refine A_indexAddr 1 rfl (Wants.none rfl) rfl rfl (by omega) (by show (0 : Int) < (3 : Nat); omega) (by kernel_rfl) ?_
        refine A_load1 2 [20] H rfl (Wants.none rfl) rfl c0 (by kernel_rfl) ?_
        refine A_pv 3 rfl (Wants.none rfl) rfl (by kernel_rfl) ?_
        refine A_convI 4 rfl (Wants.none rfl) rfl (by kernel_rfl) ?_
        refine A_pv 5 rfl (Wants.none rfl) rfl (by kernel_rfl) ?_
        refine A_indexAddr 6 rfl (Wants.none rfl) rfl rfl (by omega) (by show (1 : Int) < (3 : Nat); omega) (by kernel_rfl) ?_
        refine A_load1 7 [8] H rfl (Wants.none rfl) rfl c1 (by kernel_rfl) ?_
        refine A_pv 9 rfl (Wants.none rfl) rfl (by kernel_rfl) ?_
        refine A_indexAddr 10 rfl (Wants.none rfl) rfl rfl (by omega) (by show (0 : Int) < (3 : Nat); omega) (by kernel_rfl) ?_
        refine A_load1 11 [20] H rfl (Wants.none rfl) rfl c0 (by kernel_rfl) ?_
        refine A_pv 12 rfl (Wants.none rfl) rfl (by kernel_rfl) ?_
        refine A_convI 13 rfl (Wants.none rfl) rfl (by kernel_rfl) ?_
        refine A_pv 14 rfl (Wants.none rfl) rfl (by kernel_rfl) ?_
        refine A_indexAddr 15 rfl (Wants.none rfl) rfl rfl (by omega) (by show (2 : Int) < (3 : Nat); omega) (by kernel_rfl) ?_
        refine A_load1 16 [17] H rfl (Wants.none rfl) rfl c2 (by kernel_rfl) ?_
        rw [m8, q8, w8, v8]
        refine A_two 8 19 rfl rfl (by kernel_rfl) (by repeat first | exact .nil | refine .cons (.inr H.at) ?_ | refine .cons (.inr H.mp) ?_ | refine .cons (.inl (by kernel_rfl)) ?_) (Wants.none rfl) (Wants.none rfl) (St_call (a := []) (b := []) rfl rfl (call (places_spec y hy H) ?_)) (St_alloc H rfl ?_)
        · clear H; intro va w H
          obtain ⟨aa, ma, ca, rfl⟩ := sls_any H
          refine A_two 17 19 rfl rfl (by kernel_rfl) (by repeat first | exact .nil | refine .cons (.inr H.at) ?_ | refine .cons (.inr H.mp) ?_ | refine .cons (.inl (by kernel_rfl)) ?_) (Wants.none rfl) (Wants.none rfl) (St_call (a := []) (b := []) rfl rfl (call (places_spec z hz H) ?_)) (St_alloc H rfl ?_)
          · clear H; intro vb w H
            obtain ⟨ab, mb, cb, rfl⟩ := sls_any H
            refine A_build 18 rfl (Wants.none rfl) rfl (by kernel_rfl) ?_
            refine A_one 19 rfl (by kernel_rfl) (by repeat first | exact .nil | refine .cons (.inr H.at) ?_ | refine .cons (.inr H.mp) ?_ | refine .cons (.inl (by kernel_rfl)) ?_) (Wants.none rfl) (St_alloc H rfl ?_); clear H; intro b4 w H
            refine A_one 20 rfl (by kernel_rfl) (by repeat first | exact .nil | refine .cons (.inr H.at) ?_ | refine .cons (.inr H.mp) ?_ | refine .cons (.inl (by kernel_rfl)) ?_) (Wants.none rfl) (St_storeN H rfl rfl inferInstance rfl rfl (Nat.le_of_ble_eq_true rfl) rfl ?_); clear H; intro w H
            refine A_end (by kernel_rfl) (by repeat first | exact .nil | refine .cons (.inr H.at) ?_ | refine .cons (.inr H.mp) ?_ | refine .cons (.inl (by kernel_rfl)) ?_) ?_
            replace H := Holds.sel [0, 1, 0, 0] 0 H; dsimp only [SL.sel, SL.pull, List.drop] at H
            exact .inl ⟨rfl, rfl, b4, _, _, rfl, rfl, H⟩
          · clear H; intro b4 w H
            refine A_one 17 rfl (by kernel_rfl) (by repeat first | exact .nil | refine .cons (.inr H.at) ?_ | refine .cons (.inr H.mp) ?_ | refine .cons (.inl (by kernel_rfl)) ?_) (Wants.none rfl) (St_call (a := []) (b := []) rfl rfl (call (places_spec z hz H) ?_)); clear H; intro vb w H
            obtain ⟨ab, mb, cb, rfl⟩ := sls_any H
            refine A_build 18 rfl (Wants.none rfl) rfl (by kernel_rfl) ?_
            refine A_one 20 rfl (by kernel_rfl) (by repeat first | exact .nil | refine .cons (.inr H.at) ?_ | refine .cons (.inr H.mp) ?_ | refine .cons (.inl (by kernel_rfl)) ?_) (Wants.none rfl) (St_storeN H rfl rfl inferInstance rfl rfl (Nat.le_of_ble_eq_true rfl) rfl ?_); clear H; intro w H
            refine A_end (by kernel_rfl) (by repeat first | exact .nil | refine .cons (.inr H.at) ?_ | refine .cons (.inr H.mp) ?_ | refine .cons (.inl (by kernel_rfl)) ?_) ?_
            replace H := Holds.sel [1, 1, 0, 0] 0 H; dsimp only [SL.sel, SL.pull, List.drop] at H
            exact .inl ⟨rfl, rfl, b4, _, _, rfl, rfl, H⟩
        · clear H; intro b4 w H
          refine A_one 8 rfl (by kernel_rfl) (by repeat first | exact .nil | refine .cons (.inr H.at) ?_ | refine .cons (.inr H.mp) ?_ | refine .cons (.inl (by kernel_rfl)) ?_) (Wants.none rfl) (St_call (a := []) (b := []) rfl rfl (call (places_spec y hy H) ?_)); clear H; intro va w H
          obtain ⟨aa, ma, ca, rfl⟩ := sls_any H
          refine A_one 17 rfl (by kernel_rfl) (by repeat first | exact .nil | refine .cons (.inr H.at) ?_ | refine .cons (.inr H.mp) ?_ | refine .cons (.inl (by kernel_rfl)) ?_) (Wants.none rfl) (St_call (a := []) (b := []) rfl rfl (call (places_spec z hz H) ?_)); clear H; intro vb w H
          obtain ⟨ab, mb, cb, rfl⟩ := sls_any H
          refine A_build 18 rfl (Wants.none rfl) rfl (by kernel_rfl) ?_
          refine A_one 20 rfl (by kernel_rfl) (by repeat first | exact .nil | refine .cons (.inr H.at) ?_ | refine .cons (.inr H.mp) ?_ | refine .cons (.inl (by kernel_rfl)) ?_) (Wants.none rfl) (St_storeN H rfl rfl inferInstance rfl rfl (Nat.le_of_ble_eq_true rfl) rfl ?_); clear H; intro w H
          refine A_end (by kernel_rfl) (by repeat first | exact .nil | refine .cons (.inr H.at) ?_ | refine .cons (.inr H.mp) ?_ | refine .cons (.inl (by kernel_rfl)) ?_) ?_
          replace H := Holds.sel [2, 1, 0, 0] 0 H; dsimp only [SL.sel, SL.pull, List.drop] at H
          exact .inl ⟨rfl, rfl, b4, _, _, rfl, rfl, H⟩
      · clear H
        rintro ms σ w ⟨rfl, b4, va, vb, g2, g4, H⟩
        rw [upd_self g2, upd_self g4]
        have hla := bitsTo_len y 64
        have hlb := bitsTo_len z 64
        obtain ⟨aa, ca, rfl⟩ := sls_slice (H.drop) (ncells_length (bitsTo y 64)) (by decide)
        obtain ⟨ab, cb, rfl⟩ := sls_slice (H.drop.drop) (ncells_length (bitsTo z 64)) (by decide)
        repeat refine C_seq ?_
        refine C_region ?_
        refine Lp_s rfl (St_loadN H rfl (by repeat (first | exact Reads.nil _ | apply Reads.cons rfl)) rfl ?_)
        replace H := Holds.sel [1, 1, 0, 0] 0 H; dsimp only [SL.sel, SL.pull, List.drop] at H
        obtain ⟨D1, H, hD1, hC1⟩ := sls_rd H (ncells_length (bitsTo y 64)) (by decide)
        obtain ⟨D2, H, hD2, hC2⟩ := sls_rd H.swap (ncells_length (bitsTo z 64)) (by decide)
        refine Lp_s rfl (St_call (a := []) (b := []) rfl rfl (call (dRight_spec _ _ (layOf x y z) ⟨by show x % 256 ≤ _; omega, by show x / 256 ≤ _; omega, by show (bitsTo y 64).length ≤ _; omega, by show (bitsTo z 64).length ≤ _; omega⟩ ⟨(hD1 _).there, hD2 _⟩ H) ?_))
        clear H; rintro v w ⟨⟨q, rfl, hq⟩, H⟩
        have H := (hC1 _ _ (hC2 _ _ H).swap)
        refine Lp_pv rfl rfl ?_
        refine Lp_nil ?_
        cases q with
        | true =>
          repeat refine C_seq ?_
          refine C_region ?_
          refine Lp_pv rfl rfl ?_
          refine Lp_pv rfl rfl ?_
          refine Lp_nil ?_
          repeat refine C_seq ?_
          refine C_false rfl (C_skip ?_)
          repeat refine C_seq ?_
          refine C_region ?_
          refine Lp_s rfl (St_loadN H rfl (by repeat (first | exact Reads.nil _ | apply Reads.cons rfl)) rfl ?_)
          (refine Lp_s rfl (St_storeN H rfl rfl inferInstance rfl rfl (Nat.le_of_ble_eq_true rfl) rfl ?_); clear H; intro w H)
          refine Lp_pv rfl rfl ?_
          refine Lp_nil ?_
          replace H := Holds.sel [3, 0, 0] 1 H; dsimp only [SL.sel, SL.pull, List.drop] at H
          refine C_ret (fn_endC _ (.inr rfl) H (fun w' H' => .cellN H' rfl (by repeat (first | exact Reads.nil _ | apply Reads.cons rfl)) (.tmp .nil)) fun w' H' => .inr ⟨layOf x y z, _, _, ?_, rfl, H'.drop⟩)
          rw [decodeL3, if_pos ⟨hb, hq.1 rfl⟩]
        | false =>
          repeat refine C_seq ?_
          refine C_region ?_
          refine Lp_pv rfl rfl ?_
          refine Lp_pv rfl rfl ?_
          refine Lp_nil ?_
          repeat refine C_seq ?_
          refine C_true rfl ?_
          repeat refine C_seq ?_
          refine C_region ?_
          refine Lp_s rfl (St_build rfl rfl ?_)
          (refine Lp_s rfl (St_storeN H rfl rfl inferInstance rfl rfl (Nat.le_of_ble_eq_true rfl) rfl ?_); clear H; intro w H)
          refine Lp_pv rfl rfl ?_
          refine Lp_nil ?_
          replace H := Holds.sel [3] 3 H; dsimp only [SL.sel, SL.pull, List.drop] at H
          refine C_ret (fn_endC _ (.inr rfl) H (fun w' H' => .cellN H' rfl (by repeat (first | exact Reads.nil _ | apply Reads.cons rfl)) (.tmp .nil)) fun w' H' => .inl ⟨?_, rfl, H'.drop⟩)
          rw [decodeL3, if_neg]
          rintro ⟨_, h2⟩
          have := hq.2 h2
          cases this
    · rw [show decide ((x : Int) ≥ 65536) = true from decide_eq_true (by omega)]
      refine Lp_pv rfl rfl ?_
      refine Lp_nil ?_
      repeat refine C_seq ?_
      refine C_true rfl ?_
      repeat refine C_seq ?_
      refine C_region ?_
      refine Lp_s rfl (St_build rfl rfl ?_)
      (refine Lp_s rfl (St_storeN H rfl rfl inferInstance rfl rfl (Nat.le_of_ble_eq_true rfl) rfl ?_); clear H; intro w H)
      refine Lp_pv rfl rfl ?_
      refine Lp_nil ?_
      refine C_ret (fn_endC _ (.inr rfl) H (fun w' H' => .cellN H' rfl (by repeat (first | exact Reads.nil _ | apply Reads.cons rfl)) (.tmp .nil)) fun w' H' => .inl ⟨?_, rfl, H'.drop⟩)
      rw [decodeL3, if_neg]
      rintro ⟨h1, _⟩
      exact hb h1
  · have hd : decodeL ws = none := by
      match ws with
      | [] => rfl
      | [_] => rfl
      | [_, _] => rfl
      | [_, _, _] => exact absurd rfl h3
      | _ :: _ :: _ :: _ :: _ => rfl
    rw [show ((ws.length : Int) != 3) = true by simp; omega]
    refine Lp_pv rfl rfl ?_
    refine Lp_no rfl rfl rfl ?_
    refine Lp_no rfl rfl rfl ?_
    refine Lp_no rfl rfl rfl ?_
    refine Lp_no rfl rfl rfl ?_
    refine Lp_pv rfl rfl ?_
    refine Lp_nil ?_
    repeat refine C_seq ?_
    refine C_true rfl ?_
    repeat refine C_seq ?_
    refine C_region ?_
    refine Lp_s rfl (St_build rfl rfl ?_)
    (refine Lp_s rfl (St_storeN H rfl rfl inferInstance rfl rfl (Nat.le_of_ble_eq_true rfl) rfl ?_); clear H; intro w H)
    refine Lp_pv rfl rfl ?_
    refine Lp_nil ?_
    exact C_ret (fn_endC _ (.inr rfl) H (fun w' H' => .cellN H' rfl (by repeat (first | exact Reads.nil _ | apply Reads.cons rfl)) (.tmp .nil)) fun w' H' => .inl ⟨hd, rfl, H'.drop⟩)
end Go.Proofs.YtcaaojbnjfdglaaGreatDoor
