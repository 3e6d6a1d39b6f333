/- Cells: what is proved on the way: every input of the statement; no condition. Texts joined: HdrA HdrB SlW BmpA. -/
import Derived.Test.YtcaaojbnjfdglaaGreatDoorCae
import Derived.Laws.MakeOwn
set_option linter.unusedVariables false
set_option linter.unusedSimpArgs false
set_option linter.unusedSectionVars false
namespace Go.Proofs.YtcaaojbnjfdglaaGreatDoor
open Go.SL

def hdrF : List Fl := [(0, 16), (16, 16), (32, 8), (40, 16), (56, 8)]
def lnkF : List Fl := [(0, 32), (32, 32)]
theorem ris_hdr : RisF hdrF := ⟨by simp [hdrF, RightF], by simp [hdrF]⟩
theorem ris_lnk : RisF lnkF := ⟨by simp [lnkF, RightF], by simp [lnkF]⟩

theorem fields_spec [Extra] {w : World} {fr : List HProp} (H : Holds w fr) : Calls Tryz.prog 179 #[] w (ret fun v w' => Holds w' (FL v hdrF :: fr)) := by
  refine calls_of Tryz.func179 rfl (by kernel_rfl) ?_
  repeat refine C_seq ?_
  refine C_region ?_
  refine Lp_pv rfl rfl ?_
  refine Lp_nil ?_
  repeat refine C_seq ?_
  refine C_region ?_
  refine Lp_s rfl (St_build rfl rfl ?_)
  refine Lp_s rfl (St_build rfl rfl ?_)
  refine Lp_s rfl (St_build rfl rfl ?_)
  refine Lp_s rfl (St_build rfl rfl ?_)
  refine Lp_s rfl (St_build rfl rfl ?_)
  (refine Lp_s rfl (St_buildSlice H rfl rfl rfl ?_); clear H; intro b6 w H)
  refine Lp_pv rfl rfl ?_
  refine Lp_nil ?_
  exact C_ret (fn_end0 _ (.inr rfl) (sls_lit (by decide) H) rfl fun w' H' => H')

theorem links_spec [Extra] {w : World} {fr : List HProp} (H : Holds w fr) : Calls Tryz.prog 193 #[] w (ret fun v w' => Holds w' (FL v lnkF :: fr)) := by
  refine calls_of Tryz.func193 rfl (by kernel_rfl) ?_
  repeat refine C_seq ?_
  refine C_region ?_
  refine Lp_pv rfl rfl ?_
  refine Lp_nil ?_
  repeat refine C_seq ?_
  refine C_region ?_
  refine Lp_s rfl (St_build rfl rfl ?_)
  refine Lp_s rfl (St_build rfl rfl ?_)
  (refine Lp_s rfl (St_buildSlice H rfl rfl rfl ?_); clear H; intro b3 w H)
  refine Lp_pv rfl rfl ?_
  refine Lp_nil ?_
  exact C_ret (fn_end0 _ (.inr rfl) (sls_lit (by decide) H) rfl fun w' H' => H')

/-- A header: layout, count, slot. -/
def MayH (l c s : Nat) : Prop := 1 ≤ l ∧ l ≤ 64 ∧ c ≤ 1024 ∧ s < 4096
@[reducible] def hdv (l c s : Nat) : Value := .agg #[.int .i64 l, .int .i64 c, .int .i64 s]

theorem may_spec [Extra] (l c s : Nat) (h : MayH l c s) {w : World} {fr : List HProp} (H : Holds w fr) : Calls Tryz.prog 177 #[hdv l c s] w (ret fun v w' => v = .bool true ∧ Holds w' fr) := by
  obtain ⟨h1, h2, h3, h4⟩ := h
  refine calls_of Tryz.func177 rfl (by kernel_rfl) ?_
  repeat refine C_seq ?_
  refine C_region ?_
  (refine Lp_s rfl (St_boxN H rfl rfl ?_); clear H; intro b1 w H)
  refine Lp_pv rfl rfl ?_
  refine Lp_nil ?_
  repeat refine C_seq ?_
  refine C_region ?_
  refine Lp_s rfl (St_fieldAddr rfl rfl ?_)
  refine Lp_s rfl (St_load1 H rfl rfl rfl ?_)
  refine Lp_pv rfl rfl ?_
  refine Lp_pv rfl rfl ?_
  rw [show decide ((l : Int) ≥ 1) = true from decide_eq_true (by omega)]
  refine Lp_g rfl rfl rfl (St_fieldAddr rfl rfl ?_)
  refine Lp_g rfl rfl rfl (St_load1 H rfl rfl rfl ?_)
  refine Lp_gpv rfl rfl rfl rfl ?_
  refine Lp_pv rfl rfl ?_
  rw [show decide ((l : Int) ≤ 64) = true from decide_eq_true (by omega)]
  refine Lp_pv rfl rfl ?_
  refine Lp_g rfl rfl rfl (St_fieldAddr rfl rfl ?_)
  refine Lp_g rfl rfl rfl (St_load1 H rfl rfl rfl ?_)
  refine Lp_gpv rfl rfl rfl rfl ?_
  refine Lp_pv rfl rfl ?_
  rw [show decide ((c : Int) ≥ 0) = true from decide_eq_true (by omega)]
  refine Lp_pv rfl rfl ?_
  refine Lp_g rfl rfl rfl (St_fieldAddr rfl rfl ?_)
  refine Lp_g rfl rfl rfl (St_load1 H rfl rfl rfl ?_)
  refine Lp_gpv rfl rfl rfl rfl ?_
  refine Lp_pv rfl rfl ?_
  rw [show decide ((c : Int) ≤ 1024) = true from decide_eq_true (by omega)]
  refine Lp_pv rfl rfl ?_
  refine Lp_g rfl rfl rfl (St_fieldAddr rfl rfl ?_)
  refine Lp_g rfl rfl rfl (St_load1 H rfl rfl rfl ?_)
  refine Lp_gpv rfl rfl rfl rfl ?_
  refine Lp_pv rfl rfl ?_
  rw [show decide ((s : Int) ≥ 0) = true from decide_eq_true (by omega)]
  refine Lp_pv rfl rfl ?_
  refine Lp_g rfl rfl rfl (St_fieldAddr rfl rfl ?_)
  refine Lp_g rfl rfl rfl (St_load1 H rfl rfl rfl ?_)
  refine Lp_gpv rfl rfl rfl rfl ?_
  refine Lp_pv rfl rfl ?_
  rw [show decide ((s : Int) < 4096) = true from decide_eq_true (by omega)]
  refine Lp_pv rfl rfl ?_
  refine Lp_nil ?_
  exact C_ret (fn_end0 _ (.inr rfl) H.drop rfl fun w' H' => ⟨rfl, H'⟩)

def encH (l c s : Nat) : Nat := packN hdrF [s, c, l, 0, 165]
theorem encH_eq (l c s : Nat) : encH l c s = s + c * 65536 + l * 4294967296 + 165 * 72057594037927936 := by
  simp [encH, packN, hdrF]; omega
theorem encH_lt {l c s : Nat} (h : MayH l c s) : encH l c s < 18446744073709551616 := by
  obtain ⟨h1, h2, h3, h4⟩ := h
  rw [encH_eq]; omega

theorem Encode_spec [Extra] (l c s : Nat) (h : MayH l c s) {w : World} {fr : List HProp} (H : Holds w fr) : Calls Tryz.prog 136 #[hdv l c s] w (ret fun v w' => v = .tuple #[.int .u64 (encH l c s), .int .i64 0] ∧ Holds w' fr) := by
  have h' := h
  obtain ⟨h1, h2, h3, h4⟩ := h'
  refine calls_of Tryz.func136 rfl (by kernel_rfl) ?_
  repeat refine C_seq ?_
  refine C_region ?_
  (refine Lp_s rfl (St_boxN H rfl rfl ?_); clear H; intro b1 w H)
  refine Lp_pv rfl rfl ?_
  refine Lp_pv rfl rfl ?_
  refine Lp_nil ?_
  repeat refine C_seq ?_
  refine C_region ?_
  refine Lp_s rfl (St_loadN H rfl (by repeat (first | exact Reads.nil _ | apply Reads.cons rfl)) rfl ?_)
  refine Lp_s rfl (St_call (a := []) (b := []) rfl rfl (call (may_spec l c s h H) ?_))
  clear H; rintro v w ⟨rfl, H⟩
  refine Lp_pv rfl rfl ?_
  refine Lp_nil ?_
  repeat refine C_seq ?_
  refine C_false rfl (C_skip ?_)
  repeat refine C_seq ?_
  refine C_drawH H mixed ?_
  clear H; intro w H
  refine A_fieldAddr 1 rfl (Wants.none rfl) rfl (by kernel_rfl) ?_
  refine A_load1 2 [10, 11] H rfl (Wants.none rfl) rfl rfl (by kernel_rfl) ?_
  refine A_convI 3 rfl (Wants.none rfl) rfl (by kernel_rfl) ?_
  refine A_fieldAddr 4 rfl (Wants.none rfl) rfl (by kernel_rfl) ?_
  refine A_load1 5 [10, 11] H rfl (Wants.none rfl) rfl rfl (by kernel_rfl) ?_
  refine A_convI 6 rfl (Wants.none rfl) rfl (by kernel_rfl) ?_
  refine A_fieldAddr 7 rfl (Wants.none rfl) rfl (by kernel_rfl) ?_
  refine A_load1 8 [10, 11] H rfl (Wants.none rfl) rfl rfl (by kernel_rfl) ?_
  refine A_convI 9 rfl (Wants.none rfl) rfl (by kernel_rfl) ?_
  rw [wrapU_nat (a := l) (by omega), wrapU_nat (a := c) (by omega), wrapU_nat (a := s) (by omega)]
  refine A_two 0 10 rfl rfl (by kernel_rfl) (by repeat first | exact .nil | refine .cons (.inr H.at) ?_ | refine .cons (.inr H.mp) ?_ | refine .cons (.inl (by kernel_rfl)) ?_) (Wants.none rfl) (Wants.none rfl) (St_call (a := []) (b := []) rfl rfl (call (fields_spec H) ?_)) (St_buildSlice H rfl rfl rfl ?_)
  · clear H; intro v16 w H
    obtain ⟨a16, m16, c16, rfl⟩ := sls_any H
    refine A_one 10 rfl (by kernel_rfl) (by repeat first | exact .nil | refine .cons (.inr H.at) ?_ | refine .cons (.inr H.mp) ?_ | refine .cons (.inl (by kernel_rfl)) ?_) (Wants.none rfl) (St_buildSlice H rfl rfl rfl ?_); clear H; intro b17 w H
    replace H := Holds.swap (sls_lit (len := 5) (k := 1) rfl H)
    refine A_one 11 rfl (by kernel_rfl) (by repeat first | exact .nil | refine .cons (.inr H.at) ?_ | refine .cons (.inr H.mp) ?_ | refine .cons (.inl (by kernel_rfl)) ?_) (Wants.none rfl) (St_call (a := []) (b := []) rfl rfl (call (Pack_spec _ _ hdrF [s, c, l, 0, 165] ris_hdr (by decide) rfl (fun i f x hf hx => by
          rcases i with _ | _ | _ | _ | _ | i <;> simp [hdrF] at hf hx <;> subst hf hx <;> simp <;> omega) H) ?_))
    clear H; rintro v w ⟨rfl, H⟩
    refine A_pv 12 rfl (Wants.none rfl) rfl (by kernel_rfl) ?_
    refine A_pv 13 rfl (Wants.none rfl) rfl (by kernel_rfl) ?_
    refine A_pv 14 rfl (Wants.none rfl) rfl (by kernel_rfl) ?_
    refine A_pv 15 rfl (Wants.none rfl) rfl (by kernel_rfl) ?_
    refine A_end (by kernel_rfl) (by repeat first | exact .nil | refine .cons (.inr H.at) ?_ | refine .cons (.inr H.mp) ?_ | refine .cons (.inl (by kernel_rfl)) ?_) ?_
    exact C_ret (fn_end0 _ (.inr rfl) H.drop.drop.drop rfl fun w' H' => ⟨rfl, H'⟩)
  · clear H; intro b17 w H
    refine A_one 0 rfl (by kernel_rfl) (by repeat first | exact .nil | refine .cons (.inr H.at) ?_ | refine .cons (.inr H.mp) ?_ | refine .cons (.inl (by kernel_rfl)) ?_) (Wants.none rfl) (St_call (a := []) (b := []) rfl rfl (call (fields_spec H) ?_))
    clear H; intro v16 w H
    obtain ⟨a16, m16, c16, rfl⟩ := sls_any H
    replace H := Holds.swap (sls_lit (len := 5) (k := 1) rfl H.swap)
    refine A_one 11 rfl (by kernel_rfl) (by repeat first | exact .nil | refine .cons (.inr H.at) ?_ | refine .cons (.inr H.mp) ?_ | refine .cons (.inl (by kernel_rfl)) ?_) (Wants.none rfl) (St_call (a := []) (b := []) rfl rfl (call (Pack_spec _ _ hdrF [s, c, l, 0, 165] ris_hdr (by decide) rfl (fun i f x hf hx => by
          rcases i with _ | _ | _ | _ | _ | i <;> simp [hdrF] at hf hx <;> subst hf hx <;> simp <;> omega) H) ?_))
    clear H; rintro v w ⟨rfl, H⟩
    refine A_pv 12 rfl (Wants.none rfl) rfl (by kernel_rfl) ?_
    refine A_pv 13 rfl (Wants.none rfl) rfl (by kernel_rfl) ?_
    refine A_pv 14 rfl (Wants.none rfl) rfl (by kernel_rfl) ?_
    refine A_pv 15 rfl (Wants.none rfl) rfl (by kernel_rfl) ?_
    refine A_end (by kernel_rfl) (by repeat first | exact .nil | refine .cons (.inr H.at) ?_ | refine .cons (.inr H.mp) ?_ | refine .cons (.inl (by kernel_rfl)) ?_) ?_
    exact C_ret (fn_end0 _ (.inr rfl) H.drop.drop.drop rfl fun w' H' => ⟨rfl, H'⟩)

theorem getH {l c s : Nat} (h : MayH l c s) : hdrF.map (getF (encH l c s)) = [s, c, l, 0, 165] := by
  obtain ⟨h1, h2, h3, h4⟩ := h
  simp only [hdrF, List.map_cons, List.map_nil, getF, encH_eq, Nat.reducePow]
  have e1 : (s + c * 65536 + l * 4294967296 + 165 * 72057594037927936) / 1 % 65536 = s := by omega
  have e2 : (s + c * 65536 + l * 4294967296 + 165 * 72057594037927936) / 65536 % 65536 = c := by omega
  have e3 : (s + c * 65536 + l * 4294967296 + 165 * 72057594037927936) / 4294967296 % 256 = l := by omega
  have e4 : (s + c * 65536 + l * 4294967296 + 165 * 72057594037927936) / 1099511627776 % 65536 = 0 := by omega
  have e5 : (s + c * 65536 + l * 4294967296 + 165 * 72057594037927936) / 72057594037927936 % 256 = 165 := by omega
  rw [e1, e2, e3, e4, e5]

theorem Decode_spec [Extra] (l c s : Nat) (h : MayH l c s) {w : World} {fr : List HProp} (H : Holds w fr) : Calls Tryz.prog 165 #[.int .u64 (encH l c s)] w (ret fun v w' => v = .tuple #[hdv l c s, .int .i64 0] ∧ Holds w' fr) := by
  have h' := h
  obtain ⟨h1, h2, h3, h4⟩ := h'
  refine calls_of Tryz.func165 rfl (by kernel_rfl) ?_
  repeat refine C_seq ?_
  refine C_region ?_
  (refine Lp_s rfl (St_alloc H rfl ?_); clear H; intro b2 w H)
  refine Lp_pv rfl rfl ?_
  refine Lp_nil ?_
  repeat refine C_seq ?_
  refine C_region ?_
  refine Lp_pv rfl rfl ?_
  refine Lp_s rfl (St_call (a := []) (b := []) rfl rfl (call (fields_spec H) ?_))
  clear H; intro v9 w H
  
  refine Lp_s rfl (St_call (a := []) (b := []) rfl rfl (call (Unpack_spec _ (encH_lt h) v9 hdrF ris_hdr (by decide) H) ?_))
  clear H; rintro v w ⟨u, rfl, H⟩
  rw [getH h] at H
  obtain ⟨au, cu, rfl⟩ := sls_slice (m := 5) H rfl (by decide)
  obtain ⟨bu, su, rfl, H, hclose⟩ := sls_open H (by decide)
  refine Lp_pv rfl rfl ?_
  refine Lp_pv rfl rfl ?_
  refine Lp_pv rfl rfl ?_
  refine Lp_pv rfl rfl ?_
  refine Lp_pv rfl rfl ?_
  refine Lp_nil ?_
  repeat refine C_seq ?_
  refine C_drawH H mixed ?_
  clear H; intro w H
  refine A_pv 0 rfl (Wants.none rfl) rfl (by kernel_rfl) ?_
  refine A_indexAddr 1 rfl (Wants.none rfl) rfl rfl (by omega) (by omega) (by kernel_rfl) ?_
  refine A_load1 2 [14] H rfl (Wants.none rfl) rfl rfl (by kernel_rfl) ?_
  refine A_convI 3 rfl (Wants.none rfl) rfl (by kernel_rfl) ?_
  refine A_pv 4 rfl (Wants.none rfl) rfl (by kernel_rfl) ?_
  refine A_indexAddr 5 rfl (Wants.none rfl) rfl rfl (by omega) (by omega) (by kernel_rfl) ?_
  refine A_load1 6 [14] H rfl (Wants.none rfl) rfl rfl (by kernel_rfl) ?_
  refine A_convI 7 rfl (Wants.none rfl) rfl (by kernel_rfl) ?_
  refine A_pv 8 rfl (Wants.none rfl) rfl (by kernel_rfl) ?_
  refine A_indexAddr 9 rfl (Wants.none rfl) rfl rfl (by omega) (by omega) (by kernel_rfl) ?_
  refine A_load1 10 [14] H rfl (Wants.none rfl) rfl rfl (by kernel_rfl) ?_
  refine A_convI 11 rfl (Wants.none rfl) rfl (by kernel_rfl) ?_
  refine A_build 12 rfl (Wants.none rfl) rfl (by kernel_rfl) ?_
  rw [wrapI_nat (a := l) (by omega), wrapI_nat (a := c) (by omega), wrapI_nat (a := s) (by omega)]
  refine A_one 13 rfl (by kernel_rfl) (by repeat first | exact .nil | refine .cons (.inr H.at) ?_ | refine .cons (.inr H.mp) ?_ | refine .cons (.inl (by kernel_rfl)) ?_) (Wants.none rfl) (St_alloc H rfl ?_); clear H; intro b6 w H
  
  refine A_one 14 rfl (by kernel_rfl) (by repeat first | exact .nil | refine .cons (.inr H.at) ?_ | refine .cons (.inr H.mp) ?_ | refine .cons (.inl (by kernel_rfl)) ?_) (Wants.none rfl) (St_storeN H rfl rfl inferInstance rfl rfl (Nat.le_of_ble_eq_true rfl) rfl ?_); clear H; intro w H
  refine A_end (by kernel_rfl) (by repeat first | exact .nil | refine .cons (.inr H.at) ?_ | refine .cons (.inr H.mp) ?_ | refine .cons (.inl (by kernel_rfl)) ?_) ?_
  repeat refine C_seq ?_
  refine C_region ?_
  refine Lp_pv rfl rfl ?_
  refine Lp_s rfl (St_indexAddr rfl rfl (by omega) (by omega) rfl ?_)
  refine Lp_s rfl (St_load1 H rfl rfl rfl ?_)
  refine Lp_pv rfl rfl ?_
  refine Lp_pv rfl rfl ?_
  refine Lp_gpv rfl rfl rfl rfl ?_
  refine Lp_g rfl rfl rfl (St_indexAddr rfl rfl (by omega) (by omega) rfl ?_)
  refine Lp_g rfl rfl rfl (St_load1 H rfl rfl rfl ?_)
  refine Lp_gpv rfl rfl rfl rfl ?_
  refine Lp_pv rfl rfl ?_
  refine Lp_pv rfl rfl ?_
  refine Lp_g rfl rfl rfl (St_loadN H rfl (by repeat (first | exact Reads.nil _ | apply Reads.cons rfl)) rfl ?_)
  refine Lp_g rfl rfl rfl (St_call (a := []) (b := []) rfl rfl (call (may_spec l c s h H) ?_))
  clear H; rintro v w ⟨rfl, H⟩
  refine Lp_gpv rfl rfl rfl rfl ?_
  refine Lp_pv rfl rfl ?_
  refine Lp_nil ?_
  repeat refine C_seq ?_
  refine C_false rfl (C_skip ?_)
  repeat refine C_seq ?_
  refine C_region ?_
  refine Lp_s rfl (St_loadN H rfl (by repeat (first | exact Reads.nil _ | apply Reads.cons rfl)) rfl ?_)
  (refine Lp_s rfl (St_storeN H rfl rfl inferInstance rfl rfl (Nat.le_of_ble_eq_true rfl) rfl ?_); clear H; intro w H)
  refine Lp_pv rfl rfl ?_
  refine Lp_nil ?_
  refine C_ret (fn_endC (vs := [hdv l c s, .int .i64 0]) _ (.inr rfl) H (fun w' H' => .cellN H' rfl (by repeat (first | exact Reads.nil _ | apply Reads.cons rfl)) (.tmp .nil)) fun w' H' => ⟨rfl, H'.drop.drop.drop.drop⟩)
end Go.Proofs.YtcaaojbnjfdglaaGreatDoor
namespace Go.Proofs.YtcaaojbnjfdglaaGreatDoor
open Go.SL

/-- A reference: to nothing, to a grave, to an object (slot, generation). -/
inductive Lnk where
  | none
  | grave
  | obj (i g : Nat)
  deriving DecidableEq
@[reducible] def tkn (i g : Nat) : Value := .agg #[.int .i64 i, .int .i64 g]
@[reducible] def lkv : Lnk → Value
  | .none => .agg #[.int .i64 0, .int .i64 0, .int .i64 0]
  | .grave => .agg #[.int .i64 1, .int .i64 0, .int .i64 0]
  | .obj i g => .agg #[.int .i64 2, .int .i64 i, .int .i64 g]
def okT (i g : Nat) : Prop := i < 4096 ∧ 1 ≤ g ∧ g ≤ 255
def okL : Lnk → Prop
  | .obj i g => okT i g
  | _ => True
def wordL : Lnk → Nat
  | .none => 0
  | .grave => 1
  | .obj i g => packN lnkF [i + 2, g]
theorem wordL_obj (i g : Nat) : wordL (.obj i g) = i + 2 + g * 4294967296 := by
  simp [wordL, packN, lnkF]
theorem wordL_lt {l : Lnk} (h : okL l) : wordL l < 18446744073709551616 := by
  cases l with
  | none => decide
  | grave => decide
  | obj i g =>
    obtain ⟨h1, h2, h3⟩ := h
    rw [wordL_obj]; omega

theorem alive_spec [Extra] (i g : Nat) (h : okT i g) {w : World} {fr : List HProp} (H : Holds w fr) : Calls Tryz.prog 194 #[tkn i g] w (ret fun v w' => v = .bool true ∧ Holds w' fr) := by
  obtain ⟨h1, h2, h3⟩ := h
  refine calls_of Tryz.func194 rfl (by kernel_rfl) ?_
  repeat refine C_seq ?_
  refine C_region ?_
  (refine Lp_s rfl (St_boxN H rfl rfl ?_); clear H; intro b1 w H)
  refine Lp_pv rfl rfl ?_
  refine Lp_nil ?_
  repeat refine C_seq ?_
  refine C_region ?_
  refine Lp_s rfl (St_fieldAddr rfl rfl ?_)
  refine Lp_s rfl (St_load1 H rfl rfl rfl ?_)
  refine Lp_pv rfl rfl ?_
  refine Lp_pv rfl rfl ?_
  rw [show decide ((i : Int) ≥ 0) = true from decide_eq_true (by omega)]
  refine Lp_g rfl rfl rfl (St_fieldAddr rfl rfl ?_)
  refine Lp_g rfl rfl rfl (St_load1 H rfl rfl rfl ?_)
  refine Lp_gpv rfl rfl rfl rfl ?_
  refine Lp_pv rfl rfl ?_
  rw [show decide ((i : Int) < 4096) = true from decide_eq_true (by omega)]
  refine Lp_pv rfl rfl ?_
  refine Lp_g rfl rfl rfl (St_fieldAddr rfl rfl ?_)
  refine Lp_g rfl rfl rfl (St_load1 H rfl rfl rfl ?_)
  refine Lp_gpv rfl rfl rfl rfl ?_
  refine Lp_pv rfl rfl ?_
  rw [show decide ((g : Int) ≥ 1) = true from decide_eq_true (by omega)]
  refine Lp_pv rfl rfl ?_
  refine Lp_g rfl rfl rfl (St_fieldAddr rfl rfl ?_)
  refine Lp_g rfl rfl rfl (St_load1 H rfl rfl rfl ?_)
  refine Lp_gpv rfl rfl rfl rfl ?_
  refine Lp_pv rfl rfl ?_
  rw [show decide ((g : Int) ≤ 255) = true from decide_eq_true (by omega)]
  refine Lp_pv rfl rfl ?_
  refine Lp_nil ?_
  exact C_ret (fn_end0 _ (.inr rfl) H.drop rfl fun w' H' => ⟨rfl, H'⟩)

theorem Word_spec [Extra] (l : Lnk) (h : okL l) {w : World} {fr : List HProp} (H : Holds w fr) : Calls Tryz.prog 169 #[lkv l] w (ret fun v w' => v = .tuple #[.int .u64 (wordL l), .int .i64 0] ∧ Holds w' fr) := by
  cases l with
  | none =>
    refine calls_of Tryz.func169 rfl (by kernel_rfl) ?_
    repeat refine C_seq ?_
    refine C_region ?_
    (refine Lp_s rfl (St_boxN H rfl rfl ?_); clear H; intro b1 w H)
    refine Lp_pv rfl rfl ?_
    refine Lp_pv rfl rfl ?_
    refine Lp_nil ?_
    repeat refine C_seq ?_
    refine C_block ?_
    repeat refine C_seq ?_
    refine C_region ?_
    refine Lp_s rfl (St_loadN H rfl (by repeat (first | exact Reads.nil _ | apply Reads.cons rfl)) rfl ?_)
    refine Lp_s rfl (St_build rfl rfl ?_)
    refine Lp_s rfl (St_eqAgg rfl rfl rfl rfl (.inl rfl) rfl ?_)
    refine Lp_pv rfl rfl ?_
    refine Lp_nil ?_
    repeat refine C_seq ?_
    refine C_true rfl ?_
    repeat refine C_seq ?_
    refine C_region ?_
    refine Lp_pv rfl rfl ?_
    refine Lp_pv rfl rfl ?_
    refine Lp_nil ?_
    exact C_ret (fn_end0 _ (.inr rfl) H.drop rfl fun w' H' => ⟨rfl, H'⟩)
  | grave =>
    refine calls_of Tryz.func169 rfl (by kernel_rfl) ?_
    repeat refine C_seq ?_
    refine C_region ?_
    (refine Lp_s rfl (St_boxN H rfl rfl ?_); clear H; intro b1 w H)
    refine Lp_pv rfl rfl ?_
    refine Lp_pv rfl rfl ?_
    refine Lp_nil ?_
    repeat refine C_seq ?_
    refine C_block ?_
    repeat refine C_seq ?_
    refine C_region ?_
    refine Lp_s rfl (St_loadN H rfl (by repeat (first | exact Reads.nil _ | apply Reads.cons rfl)) rfl ?_)
    refine Lp_s rfl (St_build rfl rfl ?_)
    refine Lp_s rfl (St_eqAgg rfl rfl rfl rfl (.inl rfl) rfl ?_)
    refine Lp_pv rfl rfl ?_
    refine Lp_nil ?_
    repeat refine C_seq ?_
    refine C_false rfl ?_
    repeat refine C_seq ?_
    refine C_region ?_
    refine Lp_s rfl (St_loadN H rfl (by repeat (first | exact Reads.nil _ | apply Reads.cons rfl)) rfl ?_)
    refine Lp_s rfl (St_build rfl rfl ?_)
    refine Lp_s rfl (St_eqAgg rfl rfl rfl rfl (.inl rfl) rfl ?_)
    refine Lp_pv rfl rfl ?_
    refine Lp_nil ?_
    repeat refine C_seq ?_
    refine C_true rfl ?_
    repeat refine C_seq ?_
    refine C_region ?_
    refine Lp_pv rfl rfl ?_
    refine Lp_pv rfl rfl ?_
    refine Lp_nil ?_
    exact C_ret (fn_end0 _ (.inr rfl) H.drop rfl fun w' H' => ⟨rfl, H'⟩)
  | obj i g =>
    have h' := h
    obtain ⟨h1, h2, h3⟩ := h'
    refine calls_of Tryz.func169 rfl (by kernel_rfl) ?_
    repeat refine C_seq ?_
    refine C_region ?_
    (refine Lp_s rfl (St_boxN H rfl rfl ?_); clear H; intro b1 w H)
    refine Lp_pv rfl rfl ?_
    refine Lp_pv rfl rfl ?_
    refine Lp_nil ?_
    repeat refine C_seq ?_
    refine C_joinQ (fun ms σ w => ms = [] ∧ σ 1 = .pointer (some ⟨b1, 0, none⟩) ∧ Holds w (pts b1 (row 61 [.int .i64 2, .int .i64 i, .int .i64 g]) :: fr)) ?_ ?_
    · refine C_block ?_
      repeat refine C_seq ?_
      refine C_region ?_
      refine Lp_s rfl (St_loadN H rfl (by repeat (first | exact Reads.nil _ | apply Reads.cons rfl)) rfl ?_)
      refine Lp_s rfl (St_build rfl rfl ?_)
      refine Lp_s rfl (St_eqAgg rfl rfl rfl rfl (.inl rfl) rfl ?_)
      refine Lp_pv rfl rfl ?_
      refine Lp_nil ?_
      repeat refine C_seq ?_
      refine C_false rfl ?_
      repeat refine C_seq ?_
      refine C_region ?_
      refine Lp_s rfl (St_loadN H rfl (by repeat (first | exact Reads.nil _ | apply Reads.cons rfl)) rfl ?_)
      refine Lp_s rfl (St_build rfl rfl ?_)
      refine Lp_s rfl (St_eqAgg rfl rfl rfl rfl (.inl rfl) rfl ?_)
      refine Lp_pv rfl rfl ?_
      refine Lp_nil ?_
      repeat refine C_seq ?_
      refine C_false rfl ?_
      repeat refine C_seq ?_
      refine C_region ?_
      refine Lp_s rfl (St_fieldAddr rfl rfl ?_)
      refine Lp_s rfl (St_load1 H rfl rfl rfl ?_)
      refine Lp_pv rfl rfl ?_
      refine Lp_pv rfl rfl ?_
      refine Lp_g rfl rfl rfl (St_fieldAddr rfl rfl ?_)
      refine Lp_g rfl rfl rfl (St_loadN H rfl (by repeat (first | exact Reads.nil _ | apply Reads.cons rfl)) rfl ?_)
      refine Lp_g rfl rfl rfl (St_call (a := []) (b := []) rfl rfl (call (alive_spec i g h H) ?_))
      clear H; rintro v w ⟨rfl, H⟩
      refine Lp_gpv rfl rfl rfl rfl ?_
      refine Lp_pv rfl rfl ?_
      refine Lp_pv rfl rfl ?_
      refine Lp_nil ?_
      repeat refine C_seq ?_
      refine C_false rfl (C_skip ?_)
      exact .inl ⟨rfl, rfl, rfl, H⟩
    · clear H
      rintro ms σ w ⟨rfl, g1, H⟩
      rw [upd_self g1]
      repeat refine C_seq ?_
      refine C_drawH H mixed ?_
      clear H; intro w H
      refine A_fieldAddr 1 rfl (Wants.none rfl) rfl (by kernel_rfl) ?_
      refine A_fieldAddr 2 rfl (Wants.none rfl) rfl (by kernel_rfl) ?_
      refine A_load1 3 [10, 11] H rfl (Wants.none rfl) rfl rfl (by kernel_rfl) ?_
      refine A_convI 4 rfl (Wants.none rfl) rfl (by kernel_rfl) ?_
      refine A_pv 5 rfl (Wants.none rfl) rfl (by kernel_rfl) ?_
      refine A_fieldAddr 6 rfl (Wants.none rfl) rfl (by kernel_rfl) ?_
      refine A_fieldAddr 7 rfl (Wants.none rfl) rfl (by kernel_rfl) ?_
      refine A_load1 8 [10, 11] H rfl (Wants.none rfl) rfl rfl (by kernel_rfl) ?_
      refine A_convI 9 rfl (Wants.none rfl) rfl (by kernel_rfl) ?_
      have e1 : IntKind.u64.wrap (IntKind.u64.wrap (i : Int) + 2) = ((i + 2 : Nat) : Int) := by
        rw [wrapU_nat (a := i) (by omega)]
        exact wrapU_nat (a := i + 2) (by omega)
      have e2 : IntKind.u64.wrap (g : Int) = ((g : Nat) : Int) := wrapU_nat (by omega)
      rw [e1, e2]
      refine A_two 0 10 rfl rfl (by kernel_rfl) (by repeat first | exact .nil | refine .cons (.inr H.at) ?_ | refine .cons (.inr H.mp) ?_ | refine .cons (.inl (by kernel_rfl)) ?_) (Wants.none rfl) (Wants.none rfl) (St_call (a := []) (b := []) rfl rfl (call (links_spec H) ?_)) (St_buildSlice H rfl rfl rfl ?_)
      · clear H; intro v16 w H
        obtain ⟨a16, m16, c16, rfl⟩ := sls_any H
        refine A_one 10 rfl (by kernel_rfl) (by repeat first | exact .nil | refine .cons (.inr H.at) ?_ | refine .cons (.inr H.mp) ?_ | refine .cons (.inl (by kernel_rfl)) ?_) (Wants.none rfl) (St_buildSlice H rfl rfl rfl ?_); clear H; intro b17 w H
        replace H := Holds.swap (sls_lit (len := 2) (k := 1) rfl H)
        refine A_one 11 rfl (by kernel_rfl) (by repeat first | exact .nil | refine .cons (.inr H.at) ?_ | refine .cons (.inr H.mp) ?_ | refine .cons (.inl (by kernel_rfl)) ?_) (Wants.none rfl) (St_call (a := []) (b := []) rfl rfl (call (Pack_spec _ _ lnkF [i + 2, g] ris_lnk (by decide) rfl (fun j f x hf hx => by
                  rcases j with _ | _ | j <;> simp [lnkF] at hf hx <;> subst hf hx <;> simp <;> omega) H) ?_))
        clear H; rintro v w ⟨rfl, H⟩
        refine A_pv 12 rfl (Wants.none rfl) rfl (by kernel_rfl) ?_
        refine A_pv 13 rfl (Wants.none rfl) rfl (by kernel_rfl) ?_
        refine A_pv 14 rfl (Wants.none rfl) rfl (by kernel_rfl) ?_
        refine A_pv 15 rfl (Wants.none rfl) rfl (by kernel_rfl) ?_
        refine A_end (by kernel_rfl) (by repeat first | exact .nil | refine .cons (.inr H.at) ?_ | refine .cons (.inr H.mp) ?_ | refine .cons (.inl (by kernel_rfl)) ?_) ?_
        exact C_ret (fn_end0 _ (.inr rfl) H.drop.drop.drop rfl fun w' H' => ⟨rfl, H'⟩)
      · clear H; intro b17 w H
        refine A_one 0 rfl (by kernel_rfl) (by repeat first | exact .nil | refine .cons (.inr H.at) ?_ | refine .cons (.inr H.mp) ?_ | refine .cons (.inl (by kernel_rfl)) ?_) (Wants.none rfl) (St_call (a := []) (b := []) rfl rfl (call (links_spec H) ?_))
        clear H; intro v16 w H
        obtain ⟨a16, m16, c16, rfl⟩ := sls_any H
        replace H := Holds.swap (sls_lit (len := 2) (k := 1) rfl H.swap)
        refine A_one 11 rfl (by kernel_rfl) (by repeat first | exact .nil | refine .cons (.inr H.at) ?_ | refine .cons (.inr H.mp) ?_ | refine .cons (.inl (by kernel_rfl)) ?_) (Wants.none rfl) (St_call (a := []) (b := []) rfl rfl (call (Pack_spec _ _ lnkF [i + 2, g] ris_lnk (by decide) rfl (fun j f x hf hx => by
                  rcases j with _ | _ | j <;> simp [lnkF] at hf hx <;> subst hf hx <;> simp <;> omega) H) ?_))
        clear H; rintro v w ⟨rfl, H⟩
        refine A_pv 12 rfl (Wants.none rfl) rfl (by kernel_rfl) ?_
        refine A_pv 13 rfl (Wants.none rfl) rfl (by kernel_rfl) ?_
        refine A_pv 14 rfl (Wants.none rfl) rfl (by kernel_rfl) ?_
        refine A_pv 15 rfl (Wants.none rfl) rfl (by kernel_rfl) ?_
        refine A_end (by kernel_rfl) (by repeat first | exact .nil | refine .cons (.inr H.at) ?_ | refine .cons (.inr H.mp) ?_ | refine .cons (.inl (by kernel_rfl)) ?_) ?_
        exact C_ret (fn_end0 _ (.inr rfl) H.drop.drop.drop rfl fun w' H' => ⟨rfl, H'⟩)

theorem getL {i g : Nat} (h : okT i g) : lnkF.map (getF (wordL (.obj i g))) = [i + 2, g] := by
  obtain ⟨h1, h2, h3⟩ := h
  simp only [lnkF, List.map_cons, List.map_nil, getF, wordL_obj, Nat.reducePow]
  have e1 : (i + 2 + g * 4294967296) / 1 % 4294967296 = i + 2 := by omega
  have e2 : (i + 2 + g * 4294967296) / 4294967296 % 4294967296 = g := by omega
  rw [e1, e2]

theorem Link_spec [Extra] (l : Lnk) (h : okL l) {w : World} {fr : List HProp} (H : Holds w fr) : Calls Tryz.prog 167 #[.int .u64 (wordL l)] w (ret fun v w' => v = .tuple #[lkv l, .int .i64 0] ∧ Holds w' fr) := by
  cases l with
  | none =>
    refine calls_of Tryz.func167 rfl (by kernel_rfl) ?_
    repeat refine C_seq ?_
    refine C_region ?_
    (refine Lp_s rfl (St_alloc H rfl ?_); clear H; intro b2 w H)
    refine Lp_pv rfl rfl ?_
    refine Lp_nil ?_
    repeat refine C_seq ?_
    refine C_region ?_
    refine Lp_pv rfl rfl ?_
    refine Lp_nil ?_
    repeat refine C_seq ?_
    refine C_block ?_
    repeat refine C_seq ?_
    refine C_region ?_
    refine Lp_pv rfl rfl ?_
    refine Lp_pv rfl rfl ?_
    refine Lp_nil ?_
    repeat refine C_seq ?_
    refine C_true rfl ?_
    repeat refine C_seq ?_
    refine C_region ?_
    refine Lp_s rfl (St_build rfl rfl ?_)
    (refine Lp_s rfl (St_storeN H rfl rfl inferInstance rfl rfl (Nat.le_of_ble_eq_true rfl) rfl ?_); clear H; intro w H)
    refine Lp_pv rfl rfl ?_
    refine Lp_nil ?_
    refine C_ret (fn_endC (vs := [lkv .none, .int .i64 0]) _ (.inr rfl) H (fun w' H' => .cellN H' rfl (by repeat (first | exact Reads.nil _ | apply Reads.cons rfl)) (.tmp .nil)) fun w' H' => ⟨rfl, H'.drop⟩)
  | grave =>
    refine calls_of Tryz.func167 rfl (by kernel_rfl) ?_
    repeat refine C_seq ?_
    refine C_region ?_
    (refine Lp_s rfl (St_alloc H rfl ?_); clear H; intro b2 w H)
    refine Lp_pv rfl rfl ?_
    refine Lp_nil ?_
    repeat refine C_seq ?_
    refine C_region ?_
    refine Lp_pv rfl rfl ?_
    refine Lp_nil ?_
    repeat refine C_seq ?_
    refine C_block ?_
    repeat refine C_seq ?_
    refine C_region ?_
    refine Lp_pv rfl rfl ?_
    refine Lp_pv rfl rfl ?_
    refine Lp_nil ?_
    repeat refine C_seq ?_
    refine C_false rfl ?_
    repeat refine C_seq ?_
    refine C_region ?_
    refine Lp_pv rfl rfl ?_
    refine Lp_pv rfl rfl ?_
    refine Lp_nil ?_
    repeat refine C_seq ?_
    refine C_true rfl ?_
    repeat refine C_seq ?_
    refine C_region ?_
    refine Lp_s rfl (St_build rfl rfl ?_)
    (refine Lp_s rfl (St_storeN H rfl rfl inferInstance rfl rfl (Nat.le_of_ble_eq_true rfl) rfl ?_); clear H; intro w H)
    refine Lp_pv rfl rfl ?_
    refine Lp_nil ?_
    refine C_ret (fn_endC (vs := [lkv .grave, .int .i64 0]) _ (.inr rfl) H (fun w' H' => .cellN H' rfl (by repeat (first | exact Reads.nil _ | apply Reads.cons rfl)) (.tmp .nil)) fun w' H' => ⟨rfl, H'.drop⟩)
  | obj i g =>
    have h' := h
    obtain ⟨h1, h2, h3⟩ := h'
    have hw := wordL_obj i g
    have n0 : ((wordL (.obj i g) : Int) == 0) = false := beq_eq_false_iff_ne.2 (by omega)
    have n1 : ((wordL (.obj i g) : Int) == 1) = false := beq_eq_false_iff_ne.2 (by omega)
    have hlt := wordL_lt (l := .obj i g) h
    have hg := getL h
    generalize hW : wordL (.obj i g) = W at n0 n1 hlt hg hw
    refine calls_of Tryz.func167 rfl (by kernel_rfl) ?_
    repeat refine C_seq ?_
    refine C_region ?_
    (refine Lp_s rfl (St_alloc H rfl ?_); clear H; intro b2 w H)
    refine Lp_pv rfl rfl ?_
    refine Lp_nil ?_
    repeat refine C_seq ?_
    refine C_region ?_
    refine Lp_pv rfl rfl ?_
    refine Lp_nil ?_
    repeat refine C_seq ?_
    refine C_joinQ (fun ms σ w => ms = [] ∧ σ 0 = .int .u64 W ∧ σ 2 = .pointer (some ⟨b2, 0, none⟩) ∧ Holds w (pts b2 (row 61 [.int .i64 0, .int .i64 0, .int .i64 0]) :: fr)) ?_ ?_
    · refine C_block ?_
      repeat refine C_seq ?_
      refine C_region ?_
      refine Lp_pv rfl rfl ?_
      refine Lp_pv rfl rfl ?_
      refine Lp_nil ?_
      rw [n0]
      repeat refine C_seq ?_
      refine C_false rfl ?_
      repeat refine C_seq ?_
      refine C_region ?_
      refine Lp_pv rfl rfl ?_
      refine Lp_pv rfl rfl ?_
      refine Lp_nil ?_
      rw [n1]
      repeat refine C_seq ?_
      refine C_false rfl (C_skip ?_)
      exact .inl ⟨rfl, rfl, rfl, rfl, H⟩
    · clear H
      rintro ms σ w ⟨rfl, g0, g2, H⟩
      rw [upd_self g0, upd_self g2]
      repeat refine C_seq ?_
      refine C_region ?_
      refine Lp_pv rfl rfl ?_
      refine Lp_s rfl (St_call (a := []) (b := []) rfl rfl (call (links_spec H) ?_))
      clear H; intro v16 w H
      
      refine Lp_s rfl (St_call (a := []) (b := []) rfl rfl (call (Unpack_spec _ hlt v16 lnkF ris_lnk (by decide) H) ?_))
      clear H; rintro v w ⟨u, rfl, H⟩
      rw [hg] at H
      obtain ⟨au, cu, rfl⟩ := sls_slice (m := 2) H rfl (by decide)
      obtain ⟨bu, su, rfl, H, hclose⟩ := sls_open H (by decide)
      refine Lp_pv rfl rfl ?_
      refine Lp_pv rfl rfl ?_
      refine Lp_pv rfl rfl ?_
      refine Lp_pv rfl rfl ?_
      refine Lp_pv rfl rfl ?_
      refine Lp_nil ?_
      repeat refine C_seq ?_
      refine C_drawH H mixed ?_
      clear H; intro w H
      refine A_pv 0 rfl (Wants.none rfl) rfl (by kernel_rfl) ?_
      refine A_indexAddr 1 rfl (Wants.none rfl) rfl rfl (by omega) (by omega) (by kernel_rfl) ?_
      refine A_load1 2 [11] H rfl (Wants.none rfl) rfl rfl (by kernel_rfl) ?_
      refine A_convI 3 rfl (Wants.none rfl) rfl (by kernel_rfl) ?_
      refine A_pv 4 rfl (Wants.none rfl) rfl (by kernel_rfl) ?_
      refine A_pv 5 rfl (Wants.none rfl) rfl (by kernel_rfl) ?_
      refine A_indexAddr 6 rfl (Wants.none rfl) rfl rfl (by omega) (by omega) (by kernel_rfl) ?_
      refine A_load1 7 [11] H rfl (Wants.none rfl) rfl rfl (by kernel_rfl) ?_
      refine A_convI 8 rfl (Wants.none rfl) rfl (by kernel_rfl) ?_
      refine A_build 9 rfl (Wants.none rfl) rfl (by kernel_rfl) ?_
      have e1 : IntKind.i64.wrap (IntKind.i64.wrap ((i + 2 : Nat) : Int) - 2) = ((i : Nat) : Int) := by
        rw [wrapI_nat (a := i + 2) (by omega), wrap64 (by omega) (by omega)]
        omega
      have e2 : IntKind.i64.wrap (g : Int) = ((g : Nat) : Int) := wrapI_nat (by omega)
      rw [e1, e2]
      refine A_one 10 rfl (by kernel_rfl) (by repeat first | exact .nil | refine .cons (.inr H.at) ?_ | refine .cons (.inr H.mp) ?_ | refine .cons (.inl (by kernel_rfl)) ?_) (Wants.none rfl) (St_alloc H rfl ?_); clear H; intro b6 w H
      
      refine A_one 11 rfl (by kernel_rfl) (by repeat first | exact .nil | refine .cons (.inr H.at) ?_ | refine .cons (.inr H.mp) ?_ | refine .cons (.inl (by kernel_rfl)) ?_) (Wants.none rfl) (St_storeN H rfl rfl inferInstance rfl rfl (Nat.le_of_ble_eq_true rfl) rfl ?_); clear H; intro w H
      refine A_end (by kernel_rfl) (by repeat first | exact .nil | refine .cons (.inr H.at) ?_ | refine .cons (.inr H.mp) ?_ | refine .cons (.inl (by kernel_rfl)) ?_) ?_
      repeat refine C_seq ?_
      refine C_region ?_
      refine Lp_s rfl (St_loadN H rfl (by repeat (first | exact Reads.nil _ | apply Reads.cons rfl)) rfl ?_)
      refine Lp_s rfl (St_call (a := []) (b := []) rfl rfl (call (alive_spec i g h H) ?_))
      clear H; rintro v w ⟨rfl, H⟩
      refine Lp_pv rfl rfl ?_
      refine Lp_nil ?_
      repeat refine C_seq ?_
      refine C_false rfl (C_skip ?_)
      repeat refine C_seq ?_
      refine C_region ?_
      refine Lp_s rfl (St_loadN H rfl (by repeat (first | exact Reads.nil _ | apply Reads.cons rfl)) rfl ?_)
      refine Lp_s rfl (St_build rfl rfl ?_)
      (refine Lp_s rfl (St_storeN H rfl rfl inferInstance rfl rfl (Nat.le_of_ble_eq_true rfl) rfl ?_); clear H; intro w H)
      refine Lp_pv rfl rfl ?_
      refine Lp_nil ?_
      refine C_ret (fn_endC (vs := [lkv (.obj i g), .int .i64 0]) _ (.inr rfl) H (fun w' H' => .cellN H' rfl (by repeat (first | exact Reads.nil _ | apply Reads.cons rfl)) (.tmp .nil)) fun w' H' => ⟨rfl, H'.drop.drop.drop.drop⟩)
end Go.Proofs.YtcaaojbnjfdglaaGreatDoor
namespace Go.SL
section
variable {P : Program} {n : Nat} {r : Option Nat} {σ : Env} {w : World} {K : Env → World → Prop} {l : List HProp}
variable {u t : TypeId} {p : String} {af : Array Edge} {g : Option (Nat × Bool)} {d : Option Tmp} {x y : Operand}

theorem St_max {k q : IntKind} {a b : Int} {ts : Array TypeId} (hx : ev σ x = .int k a) (hy : ev σ y = .int q b) (hd : okd n d = true) (h : K (put σ d (.int k (if b > a then b else a))) w) :
    St P n r ⟨d, .call { callee := .builtin .max, args := #[x, y], argTypes := ts }, u, p, af, g⟩ σ w K := by
  refine St_value (v := .int k (if b > a then b else a)) (w' := w) hd (fun c e => by cases e) ?_ h
  simp [execOp, resolve, invoke, builtin, hx, hy, Builtin.max_, Builtin.max2]

theorem zeros1 (z : Value) : ∀ n, zeros [z] n = List.replicate n z
  | 0 => rfl
  | n + 1 => by simp [zeros, zeros1 z n, List.replicate_succ]

/-- 'make([]T, m)'. -/
theorem St_makeSlice [Extra] {e size bytes m : Nat} {zv : Value} {kl kc : IntKind} (H : Holds w l) [hT : TSlice P t e size bytes] [hz : TZero P e zv] (hx : ev σ x = .int kl (m : Int)) (hy : ev σ y = .int kc (m : Int)) (hq : (decide ((cellsL zv).length = size) && decide (bytes ≤ 1000000)) = true) (hm : m ≤ 100000000) (hd : okd n d = true)
    (k : ∀ b w', Holds w' (sls e size (.slice (some ⟨b, 0, none⟩) m m) (zeros (cellsL zv) m) :: l) → K (put σ d (.slice (some ⟨b, 0, none⟩) m m)) w') : St P n r ⟨d, .makeSlice t x y, u, p, af, g⟩ σ w K := by
  obtain ⟨i, hi, e2⟩ := Option.map_eq_some_iff.1 hT.info
  obtain ⟨i', hi', hz'⟩ := Option.map_eq_some_iff.1 hz.zero
  rw [hi] at hi'
  cases hi'
  simp only [Prod.mk.injEq] at e2
  simp only [Bool.and_eq_true, decide_eq_true_eq] at hq
  have hb : (i.bytes : Int) * (m : Int) ≤ 281474976710656 := by
    have : i.bytes * m ≤ 1000000 * 100000000 := Nat.mul_le_mul (by omega) hm
    have h : ((i.bytes * m : Nat) : Int) ≤ 281474976710656 := by omega
    rwa [Int.natCast_mul] at h
  have hr := run_make (P := P) w t e i zv hT.und hi hz' kl kc m m (by omega) (Int.le_refl _) hb (by omega)
  have hc : madeCells zv.cells (m * i.size) = (zeros (cellsL zv) m).toArray := by
    unfold madeCells
    rw [← zeros_range, cells_eq, hq.1, e2.1]
  rw [Int.toNat_natCast, hc] at hr
  have hn := H.new (row e (zeros (cellsL zv) m))
  refine St_value (v := .slice (some ⟨w.heap.size, 0, none⟩) m m) (w' := w.alloc (.cells (zeros (cellsL zv) m).toArray e)) hd (fun c e => by cases e) ?_ (k _ _ (sls_lit (by rw [zeros_length, hq.1]) hn))
  simp only [execOp, hx, hy, hr, Sem.run_bind, Result.andThen_ok, Sem.run_pure]

/-- '^x' of a word. -/
theorem St_compl {a : Nat} (ha : a < 18446744073709551616) (hx : ev σ x = .int .u64 a) (hd : okd n d = true) (h : K (put σ d (.int .u64 ((18446744073709551615 - a : Nat) : Int))) w) : St P n r ⟨d, .unOp .xor t x, u, p, af, g⟩ σ w K := by
  refine St_value (v := .int .u64 ((18446744073709551615 - a : Nat) : Int)) (w' := w) hd (fun c e => by cases e) ?_ h
  have e1 : (if IntKind.u64.signed = true then (-1 : Int) else IntKind.u64.max) = ((18446744073709551615 : Nat) : Int) := by decide
  have e2 : bitI .xor .u64 ((18446744073709551615 : Nat) : Int) (a : Int) = ((18446744073709551615 - a : Nat) : Int) := by
    rw [bit_xor (by decide) ha]
    congr 1
    apply Nat.eq_of_testBit_eq
    intro i
    have e : 18446744073709551615 - a = 2 ^ 64 - (a + 1) := by omega
    rw [Nat.testBit_xor, e, Nat.testBit_two_pow_sub_succ ha, show (18446744073709551615 : Nat) = 2 ^ 64 - 1 from rfl, Nat.testBit_two_pow_sub_one]
    by_cases hi : i < 64
    · simp [hi]
    · have : a.testBit i = false := Nat.testBit_lt_two_pow (Nat.lt_of_lt_of_le ha (Nat.pow_le_pow_right (n := 2) (by decide) (show 64 ≤ i by omega)))
      simp [hi, this]
  have e3 : (Op.unary .xor (.int .u64 (a : Int))).run P w = .ok (.int .u64 ((18446744073709551615 - a : Nat) : Int)) w := by
    have : (Op.intBits .xor .u64 ((18446744073709551615 : Nat) : Int) (a : Int)).run P w = .ok (.int .u64 (bitI .xor .u64 ((18446744073709551615 : Nat) : Int) (a : Int))) w := by
      simp [Op.intBits, bitI]
    rw [← e2, ← this, ← e1]
    rfl
  simp only [execOp, hx, Sem.run_bind, e3, Result.andThen_ok, Sem.run_pure]
end

/-- A row of small numbers in a variable of the program, that stays. -/
def TabIs (g : Nat) (tab : List Nat) (w : World) : Prop := ∀ j, j < tab.length → w.cell? ⟨g, j, none⟩ = some (.int .u8 (tab.getD j 0))
class HasTab (g : outParam Nat) (tab : outParam (List Nat)) (l : List HProp) : Prop where
  tab : ∀ w : World, sat l (hp w) → TabIs g tab w
instance {g : Nat} {tab : List Nat} {A : HProp} {l : List HProp} [h : HasTab g tab l] : HasTab g tab (A :: l) := ⟨fun w s => h.tab w (sat_drop s)⟩
theorem hasTab_old {g : Nat} {tab : List Nat} {W : World} {l : List HProp} (h : TabIs g tab W) (hg : g < W.heap.size) : HasTab g tab (old W :: l) := ⟨fun w s j hj => by
  obtain ⟨f, _, a, _, _, x, _⟩ := s
  have e := x g hg
  have e2 : w.heap[g]? = W.heap[g]? := by
    cases ho : W.heap[g]? with
    | none => have := Array.getElem?_eq_none_iff.1 ho; omega
    | some o => rw [ho] at e; exact a g o e
  have := h j hj
  unfold World.cell? at this ⊢
  simp only [e2]
  exact this⟩
end Go.SL
namespace Go.Proofs.YtcaaojbnjfdglaaGreatDoor
open Go.SL

/-- A bitmap: how many places, its words, how many are on. -/
def BM (p n : Nat) (ws : List Nat) (many : Nat) : HProp := ex fun v : Value => star [pts p (row 253 [.int .i64 n, v, .int .i64 many]), UL v ws]
theorem BM_out [Extra] {w : World} {p n : Nat} {ws : List Nat} {m : Nat} {l : List HProp} (H : Holds w (BM p n ws m :: l)) : ∃ v, Holds w (pts p (row 253 [.int .i64 n, v, .int .i64 m]) :: UL v ws :: l) := by
  obtain ⟨v, H⟩ := Holds.ex.1 H
  exact ⟨v, Holds.star.1 H⟩
theorem BM_in [Extra] {w : World} {p n : Nat} {v : Value} {ws : List Nat} {m : Nat} {l : List HProp} (H : Holds w (pts p (row 253 [.int .i64 n, v, .int .i64 m]) :: UL v ws :: l)) : Holds w (BM p n ws m :: l) :=
  Holds.ex.2 ⟨v, Holds.star.2 H⟩
theorem BM_open [Extra] {w : World} {p n x m : Nat} {l : List HProp} (H : Holds w (BM p n [x] m :: l)) : ∃ b cap spare, Holds w (pts p (row 253 [.int .i64 n, .slice (some ⟨b, 0, none⟩) 1 cap, .int .i64 m]) :: pts b (row 29 (.int .u64 x :: spare)) :: l) ∧
    ∀ w' l' (x' m' : Nat), Holds w' (pts p (row 253 [.int .i64 n, .slice (some ⟨b, 0, none⟩) 1 cap, .int .i64 m']) :: pts b (row 29 (.int .u64 x' :: spare)) :: l') → Holds w' (BM p n [x'] m' :: l') := by
  obtain ⟨v, H⟩ := BM_out H
  have H := H.swap
  obtain ⟨a, cap, rfl⟩ := sls_slice (m := 1) H rfl (by decide)
  rcases sls_case H with ⟨h, _⟩ | ⟨b, len, cap', spare, h, e3, e4, e5, H2⟩
  · cases h
  · cases h
    exact ⟨b, cap, spare, H2.swap, fun w' l' x' m' H' => BM_in (Holds.swap (sls_of (c := ucells [x']) rfl e4 e5 H'.swap))⟩

/-- Of one word. -/
structure Bits (n x : Nat) : Prop where
  pos : 0 < n
  le : n ≤ 63
  lt : x < 2 ^ n
theorem Bits.lt64 {n x : Nat} (h : Bits n x) : x < 18446744073709551616 := Nat.lt_of_lt_of_le h.lt (pow_le64 (by have := h.le; omega))
theorem q64 {i : Nat} (h : i < 64) : IntKind.i64.wrap (Int.tdiv (i : Int) 64) = 0 := by
  rw [Int.tdiv_eq_ediv_of_nonneg (by omega), show (i : Int) / 64 = 0 by omega]; rfl
theorem r64 {i : Nat} (h : i < 64) : Int.tmod (i : Int) 64 = i := by
  rw [Int.tmod_eq_emod_of_nonneg (by omega)]; omega
theorem testB (x i : Nat) : ((x / 2 ^ i) &&& 1 = 1) ↔ x.testBit i = true := by
  rw [Nat.and_one_is_mod, Nat.testBit_eq_decide_div_mod_eq]; simp

theorem Len_spec [Extra] (p n : Nat) (ws : List Nat) (m : Nat) {w : World} {fr : List HProp} (H : Holds w (BM p n ws m :: fr)) : Calls Tryz.prog 175 #[pp p] w (ret fun v w' => v = .int .i64 n ∧ Holds w' (BM p n ws m :: fr)) := by
  obtain ⟨v, H⟩ := BM_out H
  refine calls_of Tryz.func175 rfl (by kernel_rfl) ?_
  repeat refine C_seq ?_
  refine C_region ?_
  refine Lp_pv rfl rfl ?_
  refine Lp_nil ?_
  repeat refine C_seq ?_
  refine C_region ?_
  refine Lp_pv rfl rfl ?_
  refine Lp_s rfl (St_eqPtrNil rfl rfl (.inl rfl) rfl ?_)
  refine Lp_nil ?_
  repeat refine C_seq ?_
  refine C_false rfl (C_skip ?_)
  repeat refine C_seq ?_
  refine C_region ?_
  refine Lp_pv rfl rfl ?_
  refine Lp_pv rfl rfl ?_
  refine Lp_s rfl (St_fieldAddr rfl rfl ?_)
  refine Lp_s rfl (St_load1 H rfl rfl rfl ?_)
  refine Lp_pv rfl rfl ?_
  refine Lp_nil ?_
  exact C_ret (fn_end0 _ (.inr rfl) (BM_in H) rfl fun w' H' => ⟨rfl, H'⟩)

theorem Count_spec [Extra] (p n : Nat) (ws : List Nat) (m : Nat) {w : World} {fr : List HProp} (H : Holds w (BM p n ws m :: fr)) : Calls Tryz.prog 110 #[pp p] w (ret fun v w' => v = .int .i64 m ∧ Holds w' (BM p n ws m :: fr)) := by
  obtain ⟨v, H⟩ := BM_out H
  refine calls_of Tryz.func110 rfl (by kernel_rfl) ?_
  repeat refine C_seq ?_
  refine C_region ?_
  refine Lp_pv rfl rfl ?_
  refine Lp_nil ?_
  repeat refine C_seq ?_
  refine C_region ?_
  refine Lp_pv rfl rfl ?_
  refine Lp_s rfl (St_eqPtrNil rfl rfl (.inl rfl) rfl ?_)
  refine Lp_nil ?_
  repeat refine C_seq ?_
  refine C_false rfl (C_skip ?_)
  repeat refine C_seq ?_
  refine C_region ?_
  refine Lp_pv rfl rfl ?_
  refine Lp_pv rfl rfl ?_
  refine Lp_s rfl (St_fieldAddr rfl rfl ?_)
  refine Lp_s rfl (St_load1 H rfl rfl rfl ?_)
  refine Lp_pv rfl rfl ?_
  refine Lp_nil ?_
  exact C_ret (fn_end0 _ (.inr rfl) (BM_in H) rfl fun w' H' => ⟨rfl, H'⟩)

theorem bHas_spec [Extra] (p n x m i : Nat) (hb : Bits n x) (hi : i < n) {w : World} {fr : List HProp} (H : Holds w (BM p n [x] m :: fr)) : Calls Tryz.prog 216 #[pp p, .int .i64 i] w (ret fun v w' => v = .bool (x.testBit i) ∧ Holds w' (BM p n [x] m :: fr)) := by
  have hle := hb.le
  have h64 := hb.lt64
  refine calls_of Tryz.func216 rfl (by kernel_rfl) ?_
  repeat refine C_seq ?_
  refine C_region ?_
  refine Lp_pv rfl rfl ?_
  refine Lp_nil ?_
  repeat refine C_seq ?_
  refine C_region ?_
  refine Lp_pv rfl rfl ?_
  refine Lp_pv rfl rfl ?_
  refine Lp_pv rfl rfl ?_
  rw [show decide ((i : Int) ≥ 0) = true from decide_eq_true (by omega)]
  refine Lp_gpv rfl rfl rfl rfl ?_
  refine Lp_gpv rfl rfl rfl rfl ?_
  refine Lp_g rfl rfl rfl (St_call (a := []) (b := []) rfl rfl (call (Len_spec p n _ _ H) ?_))
  clear H; rintro v w ⟨rfl, H⟩
  refine Lp_gpv rfl rfl rfl rfl ?_
  refine Lp_pv rfl rfl ?_
  rw [show decide ((i : Int) < (n : Int)) = true from decide_eq_true (by omega)]
  obtain ⟨b, cap, spare, H, hclose⟩ := BM_open H
  refine Lp_pv rfl rfl ?_
  refine Lp_gpv rfl rfl rfl rfl ?_
  refine Lp_gpv rfl rfl rfl rfl ?_
  refine Lp_g rfl rfl rfl (St_fieldAddr rfl rfl ?_)
  refine Lp_g rfl rfl rfl (St_load1 H rfl rfl rfl ?_)
  refine Lp_gpv rfl rfl rfl rfl ?_
  refine Lp_gpv rfl rfl rfl rfl ?_
  rw [q64 (show i < 64 by omega)]
  refine Lp_g rfl rfl rfl (St_indexAddr rfl rfl (by decide) (by decide) rfl ?_)
  refine Lp_g rfl rfl rfl (St_load1 H rfl rfl rfl ?_)
  refine Lp_gpv rfl rfl rfl rfl ?_
  refine Lp_gpv rfl rfl rfl rfl ?_
  rw [r64 (show i < 64 by omega)]
  refine Lp_gpv rfl rfl (v := .int .u64 (shrI .u64 (x : Int) (i : Int))) (by
    show (if (i : Int) < 0 then none else some _) = _
    rw [if_neg (by omega)]) rfl ?_
  rw [shr_nat (k := .u64) (a := x) (b := i) (by omega) rfl]
  have hq : x / 2 ^ i < 18446744073709551616 := Nat.lt_of_le_of_lt (Nat.div_le_self _ _) h64
  refine Lp_gpv rfl rfl (v := .int .u64 (bitI .and .u64 ((x / 2 ^ i : Nat) : Int) ((1 : Nat) : Int))) rfl rfl ?_
  rw [bit_and hq (by decide)]
  refine Lp_gpv rfl rfl rfl rfl ?_
  refine Lp_pv rfl rfl ?_
  refine Lp_pv rfl rfl ?_
  refine Lp_nil ?_
  refine C_ret (fn_end0 _ (.inr rfl) (hclose _ _ _ _ H) rfl fun w' H' => ⟨?_, H'⟩)
  show Value.bool (((x / 2 ^ i &&& 1 : Nat) : Int) == 1) = _
  congr 1
  rw [Bool.eq_iff_iff, ← testB]
  simp only [beq_iff_eq]
  omega

/-- A place is turned. -/
def setB (x i : Nat) (on : Bool) : Nat := if x.testBit i = on then x else x ^^^ 2 ^ i
theorem setB_bit (x i : Nat) (on : Bool) (j : Nat) : (setB x i on).testBit j = if j = i then on else x.testBit j := by
  unfold setB
  split
  · rename_i h
    split
    · rename_i e; subst e; exact h
    · rfl
  · rename_i h
    rw [Nat.testBit_xor, Nat.testBit_two_pow]
    split
    · rename_i e
      subst e
      simp
      cases hx : x.testBit j <;> cases on <;> simp_all
    · rename_i e
      have : decide (i = j) = false := decide_eq_false (fun e2 => e e2.symm)
      simp [this]
def cntB (n x : Nat) : Nat := ((List.range n).filter fun i => x.testBit i).length
theorem lt_pow_of_bits {n x : Nat} (h : ∀ j, n ≤ j → x.testBit j = false) : x < 2 ^ n := Nat.lt_pow_two_of_testBit x fun j hj => h j hj
theorem bits_off {n x j : Nat} (h : x < 2 ^ n) (hj : n ≤ j) : x.testBit j = false := Nat.testBit_lt_two_pow (Nat.lt_of_lt_of_le h (Nat.pow_le_pow_right (by decide) hj))
theorem Bits.set {n x i : Nat} {on : Bool} (h : Bits n x) (hi : i < n) : Bits n (setB x i on) := ⟨h.pos, h.le, lt_pow_of_bits fun j hj => by
  rw [setB_bit, if_neg (by omega)]
  exact bits_off h.lt hj⟩
theorem range_count (f g : Nat → Bool) (i : Nat) : ∀ n, i < n → (∀ j, j ≠ i → f j = g j) → f i = false → g i = true → ((List.range n).filter g).length = ((List.range n).filter f).length + 1
  | 0, h, _, _, _ => by omega
  | n + 1, h, hfg, h0, h1 => by
    rw [List.range_succ, List.filter_append, List.filter_append, List.length_append, List.length_append]
    by_cases e : i = n
    · subst e
      have e2 : (List.range i).filter g = (List.range i).filter f := by
        apply List.filter_congr
        intro j hj
        rw [List.mem_range] at hj
        rw [hfg j (by omega)]
      rw [e2]
      simp [h0, h1]
    · have := range_count f g i n (by omega) hfg h0 h1
      have e3 : [n].filter g = [n].filter f := by simp [List.filter_cons, hfg n (fun e' => e e'.symm)]
      rw [e3]
      omega
theorem cntB_set {n x i : Nat} {on : Bool} (hi : i < n) (h : x.testBit i ≠ on) : (on = true → cntB n (setB x i on) = cntB n x + 1) ∧ (on = false → cntB n x = cntB n (setB x i on) + 1) := by
  have hne : ∀ j, j ≠ i → x.testBit j = (setB x i on).testBit j := fun j hj => by rw [setB_bit, if_neg hj]
  have hat : (setB x i on).testBit i = on := by rw [setB_bit, if_pos rfl]
  constructor
  · rintro rfl
    exact range_count _ _ i n hi hne (by simpa using h) hat
  · rintro rfl
    exact range_count _ _ i n hi (fun j hj => (hne j hj).symm) hat (by simpa using h)
theorem cntB_le (n x : Nat) : cntB n x ≤ n := by
  have := List.length_filter_le (fun i => x.testBit i) (List.range n)
  rwa [List.length_range] at this

/-- A bitmap of one word. -/
@[reducible] def BM1 (p n x : Nat) : HProp := BM p n [x] (cntB n x)

theorem turn_spec [Extra] (p n x i : Nat) (on : Bool) (hb : Bits n x) (hi : i < n) {w : World} {fr : List HProp} (H : Holds w (BM1 p n x :: fr)) : Calls Tryz.prog 205 #[pp p, .int .i64 i, .bool on] w (ret fun v w' => Holds w' (BM1 p n (setB x i on) :: fr)) := by
  have hle := hb.le
  have h64 := hb.lt64
  have hcl := cntB_le n x
  have hcl2 := cntB_le n (setB x i on)
  refine calls_of Tryz.func205 rfl (by kernel_rfl) ?_
  repeat refine C_seq ?_
  refine C_region ?_
  refine Lp_pv rfl rfl ?_
  refine Lp_pv rfl rfl ?_
  refine Lp_s rfl (St_call (a := []) (b := []) rfl rfl (call (bHas_spec p n x _ i hb hi H) ?_))
  clear H; rintro v w ⟨rfl, H⟩
  refine Lp_pv rfl rfl ?_
  refine Lp_s rfl (St_eqBool rfl rfl (.inl rfl) rfl ?_)
  refine Lp_nil ?_
  repeat refine C_seq ?_
  refine C_cond rfl (fun h => ?_) (fun h => C_skip ?_)
  · have h1 : x.testBit i = on := by simpa [isEql] using h
    have e : setB x i on = x := if_pos h1
    rw [e]
    exact C_ret (fn_end0 _ (.inr rfl) H rfl fun w' H' => H')
  · have h1 : x.testBit i ≠ on := by simpa [isEql] using h
    have e : setB x i on = x ^^^ 2 ^ i := if_neg h1
    obtain ⟨c1, c0⟩ := cntB_set hi h1
    obtain ⟨b, cap, spare, H, hclose⟩ := BM_open H
    have h2i : 2 ^ i < 18446744073709551616 := Nat.lt_of_lt_of_le (Nat.pow_lt_pow_right (by decide) (show i < 64 by omega)) (Nat.le_refl _)
    have e2 : shlI .u64 ((1 : Nat) : Int) (i : Int) = ((2 ^ i : Nat) : Int) := by rw [shl_nat (by omega), Nat.one_mul, Nat.mod_eq_of_lt h2i]
    have e3 : bitI .xor .u64 (x : Int) ((2 ^ i : Nat) : Int) = ((setB x i on : Nat) : Int) := by rw [bit_xor h64 h2i, e]
    repeat refine C_seq ?_
    refine C_drawH H mixed ?_
    clear H; intro w H
    refine A_pv 0 rfl (Wants.none rfl) rfl (by kernel_rfl) ?_
    refine A_pv 1 rfl (Wants.none rfl) rfl (by kernel_rfl) ?_
    refine A_fieldAddr 2 rfl (Wants.none rfl) rfl (by kernel_rfl) ?_
    refine A_load1 3 [13] H rfl (Wants.none rfl) rfl rfl (by kernel_rfl) ?_
    refine A_pv 4 rfl (Wants.none rfl) rfl (by kernel_rfl) ?_
    refine A_pv 5 rfl (Wants.none rfl) rfl (by kernel_rfl) ?_
    rw [q64 (show i < 64 by omega)]
    refine A_indexAddr 6 rfl (Wants.none rfl) rfl rfl (by decide) (by decide) (by kernel_rfl) ?_
    refine A_load1 7 [13] H rfl (Wants.none rfl) rfl rfl (by kernel_rfl) ?_
    refine A_pv 8 rfl (Wants.none rfl) rfl (by kernel_rfl) ?_
    refine A_pv 9 rfl (Wants.none rfl) rfl (by kernel_rfl) ?_
    rw [r64 (show i < 64 by omega)]
    refine A_pv (v := .int .u64 (shlI .u64 ((1 : Nat) : Int) (i : Int))) 10 rfl (Wants.none rfl) (by
      show (if (i : Int) < 0 then none else some _) = _
      rw [if_neg (by omega)]; rfl) (by kernel_rfl) ?_
    rw [e2]
    refine A_pv (v := .int .u64 (bitI .xor .u64 (x : Int) ((2 ^ i : Nat) : Int))) 11 rfl (Wants.none rfl) rfl (by kernel_rfl) ?_
    rw [e3]
    refine A_indexAddr 12 rfl (Wants.none rfl) rfl rfl (by decide) (by decide) (by kernel_rfl) ?_
    refine A_one 13 rfl (by kernel_rfl) (by repeat first | exact .nil | refine .cons (.inr H.at) ?_ | refine .cons (.inr H.mp) ?_ | refine .cons (.inl (by kernel_rfl)) ?_) (Wants.none rfl) (St_store1 H rfl rfl inferInstance rfl (Nat.le_of_ble_eq_true rfl) rfl ?_); clear H; intro w H
    refine A_end (by kernel_rfl) (by repeat first | exact .nil | refine .cons (.inr H.at) ?_ | refine .cons (.inr H.mp) ?_ | refine .cons (.inl (by kernel_rfl)) ?_) ?_
    repeat refine C_seq ?_
    refine C_region ?_
    refine Lp_pv rfl rfl ?_
    refine Lp_pv rfl rfl ?_
    refine Lp_s rfl (St_fieldAddr rfl rfl ?_)
    refine Lp_s rfl (St_load1 H rfl rfl rfl ?_)
    refine Lp_pv rfl rfl ?_
    refine Lp_pv rfl rfl ?_
    refine Lp_s rfl (St_fieldAddr rfl rfl ?_)
    (refine Lp_s rfl (St_store1 H rfl rfl inferInstance rfl (Nat.le_of_ble_eq_true rfl) rfl ?_); clear H; intro w H)
    refine Lp_nil ?_
    repeat refine C_seq ?_
    refine C_region ?_
    refine Lp_pv rfl rfl ?_
    refine Lp_nil ?_
    cases on with
    | true =>
      repeat refine C_seq ?_
      refine C_true rfl ?_
      repeat refine C_seq ?_
      refine C_region ?_
      refine Lp_pv rfl rfl ?_
      refine Lp_pv rfl rfl ?_
      refine Lp_s rfl (St_fieldAddr rfl rfl ?_)
      refine Lp_s rfl (St_load1 H rfl rfl rfl ?_)
      refine Lp_pv rfl rfl ?_
      refine Lp_pv rfl rfl ?_
      refine Lp_s rfl (St_fieldAddr rfl rfl ?_)
      (refine Lp_s rfl (St_store1 H rfl rfl inferInstance rfl (Nat.le_of_ble_eq_true rfl) rfl ?_); clear H; intro w H)
      refine Lp_nil ?_
      have hc : IntKind.i64.wrap (IntKind.i64.wrap ((cntB n x : Nat) - 1 : Int) + 2) = ((cntB n (setB x i true) : Nat) : Int) := by
        have := c1 rfl
        rw [wrap64 (x := ((cntB n x : Nat) : Int) - 1) (by omega) (by omega), wrap64 (by omega) (by omega)]; omega
      rw [hc] at H
      exact fn_end0 _ (.inl rfl) (hclose _ _ _ _ H) rfl fun w' H' => H'
    | false =>
      repeat refine C_seq ?_
      refine C_false rfl (C_skip ?_)
      have hc : IntKind.i64.wrap ((cntB n x : Nat) - 1 : Int) = ((cntB n (setB x i false) : Nat) : Int) := by
        have := c0 rfl
        rw [wrap64 (by omega) (by omega)]; omega
      rw [hc] at H
      exact fn_end0 _ (.inl rfl) (hclose _ _ _ _ H) rfl fun w' H' => H'
end Go.Proofs.YtcaaojbnjfdglaaGreatDoor
