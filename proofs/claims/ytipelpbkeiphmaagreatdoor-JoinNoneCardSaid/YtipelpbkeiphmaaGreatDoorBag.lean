/- Cells: what is proved on the way: every input of the statement; no condition. Texts joined: FldA FldB FldC HdrA HdrB BmpA BmpB. -/
import Derived.Test.YtipelpbkeiphmaaGreatDoorBaf
import Derived.Test.YtipelpbkeiphmaaGreatDoorBad
import Derived.Test.YtipelpbkeiphmaaGreatDoorBae
set_option linter.unusedVariables false
set_option linter.unusedSimpArgs false
set_option linter.unusedSectionVars false
namespace Go.Proofs.YtipelpbkeiphmaaGreatDoor
open Go.SL

@[reducible] def pp (b : Nat) : Value := .pointer (some ⟨b, 0, none⟩)
theorem wrap64 {x : Int} (h1 : -9223372036854775808 ≤ x) (h2 : x ≤ 9223372036854775807) : IntKind.i64.wrap x = x := by
  simp [IntKind.wrap, IntKind.bits, IntKind.signed]; omega
theorem inc64 {i : Nat} (h : i < 1000000000) : Value.int .i64 (IntKind.i64.wrap ((i : Int) + 1)) = .int .i64 ((i + 1 : Nat) : Int) := by
  rw [wrap64 (by omega) (by omega)]; rfl

/-- A field: from where on, how many bits. -/
abbrev Fl := Nat × Nat
def RightF (f : Fl) : Prop := 0 < f.2 ∧ f.1 + f.2 ≤ 64
@[reducible] def fv (f : Fl) : Value := .agg #[.int .i64 f.1, .int .i64 f.2]
def encF (f : Fl) : List Value := [.int .i64 f.1, .int .i64 f.2]
def fcells (l : List Fl) : List Value := l.flatMap encF
def ucells (l : List Nat) : List Value := l.map fun x : Nat => Value.int .u64 (x : Int)
theorem fcells_length (l : List Fl) : (fcells l).length = l.length * 2 := by
  induction l with
  | nil => rfl
  | cons p L ih => simp only [fcells, encF, List.flatMap_cons, List.length_append, List.length_cons, List.length_nil] at ih ⊢; omega
theorem ucells_length (l : List Nat) : (ucells l).length = l.length * 1 := by simp [ucells]
theorem ucells_append (a b : List Nat) : ucells (a ++ b) = ucells a ++ ucells b := by simp [ucells]
theorem ucells_get {l : List Nat} {spare : List Value} {i x : Nat} (h : l[i]? = some x) : (ucells l ++ spare)[0 + i * 1]? = some (.int .u64 x) := by
  have hi := (List.getElem?_eq_some_iff.1 h).1
  rw [Nat.zero_add, Nat.mul_one, List.getElem?_append_left (by simpa [ucells] using hi)]
  simp [ucells, h]
theorem fcells_get {L : List Fl} {i : Nat} {p : Fl} (h : L[i]? = some p) : (fcells L)[i * 2]? = some (.int .i64 p.1) ∧ (fcells L)[i * 2 + 1]? = some (.int .i64 p.2) := by
  induction L generalizing i with
  | nil => simp at h
  | cons x L ih =>
    cases i with
    | zero =>
      simp at h
      subst h
      exact ⟨rfl, rfl⟩
    | succ i =>
      have := ih (i := i) (by simpa using h)
      rw [show (i + 1) * 2 = i * 2 + 2 by omega]
      exact this
theorem fcells_reads {L : List Fl} {spare : List Value} {i : Nat} {p : Fl} (h : L[i]? = some p) : Reads (fcells L ++ spare) (0 + i * 2) 2 [.int .i64 p.1, .int .i64 p.2] := by
  obtain ⟨h1, h2⟩ := fcells_get h
  have hi := (List.getElem?_eq_some_iff.1 h).1
  have hl := fcells_length L
  rw [Nat.zero_add]
  refine .cons ?_ (.cons ?_ (.nil _))
  · rw [List.getElem?_append_left (by omega)]; exact h1
  · rw [List.getElem?_append_left (by omega)]; exact h2

@[reducible] def FL (v : Value) (l : List Fl) : HProp := sls 390 2 v (fcells l)
@[reducible] def UL (v : Value) (l : List Nat) : HProp := sls 127 1 v (ucells l)

theorem fRight_spec [Extra] (f : Fl) (hf : RightF f) {w : World} {fr : List HProp} (H : Holds w fr) : Calls Tryz.prog 321 #[fv f] w (ret fun v w' => v = .bool true ∧ Holds w' fr) := by
  obtain ⟨a, d⟩ := f
  obtain ⟨h1, h2⟩ := hf
  dsimp only at h1 h2
  refine calls_of Tryz.func321 rfl (by kernel_rfl) ?_
  refine J8 H ?_
  clear H; intro b1 w H
  refine J0 H ?_
  refine J130 H ?_
  rw [show decide ((a : Int) ≥ 0) = true from decide_eq_true (by omega)]
  refine J170 H ?_
  rw [show decide ((a : Int) < 64) = true from decide_eq_true (by omega)]
  refine J11 H ?_
  refine J45 H ?_
  rw [show decide ((d : Int) > 0) = true from decide_eq_true (by omega)]
  refine J11 H ?_
  refine J88 H ?_
  refine J88 H ?_
  refine J24 H ?_
  rw [show decide ((d : Int) ≤ IntKind.i64.wrap (64 - (a : Int))) = true from decide_eq_true (by rw [wrap64 (by omega) (by omega)]; omega)]
  refine J3 H ?_
  exact C_ret (Jy H.drop rfl fun w' H' => ⟨rfl, H'⟩)

theorem mask_spec [Extra] (f : Fl) (hf : RightF f) {w : World} {fr : List HProp} (H : Holds w fr) : Calls Tryz.prog 307 #[fv f] w (ret fun v w' => v = .int .u64 (maskN f.1 f.2) ∧ Holds w' fr) := by
  obtain ⟨a, d⟩ := f
  obtain ⟨h1, h2⟩ := hf
  dsimp only at h1 h2
  refine calls_of Tryz.func307 rfl (by kernel_rfl) ?_
  refine J8 H ?_
  clear H; intro b1 w H
  refine J0 H ?_
  have e64 : IntKind.i64.wrap (64 - (d : Int)) = ((64 - d : Nat) : Int) := by rw [wrap64 (by omega) (by omega)]; omega
  have e1 : shrI .u64 18446744073709551615 ((64 - d : Nat) : Int) = ((2 ^ d - 1 : Nat) : Int) := by
    rw [show (18446744073709551615 : Int) = ((18446744073709551615 : Nat) : Int) from rfl, shr_nat (by omega) rfl]
    congr 1
    have hp : (18446744073709551615 : Nat) = 2 ^ d * 2 ^ (64 - d) - 1 := by rw [← Nat.pow_add, show d + (64 - d) = 64 by omega]
    rw [hp]
    have hd := Nat.two_pow_pos (64 - d)
    have hd2 := Nat.two_pow_pos d
    rw [show 2 ^ d * 2 ^ (64 - d) - 1 = (2 ^ (64 - d) - 1) + 2 ^ (64 - d) * (2 ^ d - 1) by
      rw [Nat.mul_sub, Nat.mul_comm (2 ^ d), Nat.mul_one]
      have : 2 ^ (64 - d) ≤ 2 ^ (64 - d) * 2 ^ d := Nat.le_mul_of_pos_right _ hd2
      omega]
    rw [Nat.add_mul_div_left _ _ hd, Nat.div_eq_of_lt (by omega), Nat.zero_add]
  have e2 : shlI .u64 ((2 ^ d - 1 : Nat) : Int) (a : Int) = (maskN a d : Nat) := by
    rw [shl_nat (by omega)]
    have := maskN_lt (a := a) (wd := d) h2
    unfold maskN at this ⊢
    rw [Nat.mod_eq_of_lt this]
  refine J1 H ?_
  clear H; intro w H
  refine J60 H ?_
  rw [e64]
  refine A_pv (v := .int .u64 (shrI .u64 18446744073709551615 ((64 - d : Nat) : Int))) 3 rfl (Wants.none rfl) (by
    show (if ((64 - d : Nat) : Int) < 0 then none else some _) = _
    rw [if_neg (by omega)]) (by kernel_rfl) ?_
  rw [e1]
  refine J131 H ?_
  refine A_pv (v := .int .u64 (shlI .u64 ((2 ^ d - 1 : Nat) : Int) (a : Int))) 6 rfl (Wants.none rfl) (by
    show (if (a : Int) < 0 then none else some _) = _
    rw [if_neg (by omega)]) (by kernel_rfl) ?_
  rw [e2]
  refine J89 H ?_
  refine J4 H ?_
  exact C_ret (Jy H.drop rfl fun w' H' => ⟨rfl, H'⟩)
end Go.Proofs.YtipelpbkeiphmaaGreatDoor
namespace Go.Proofs.YtipelpbkeiphmaaGreatDoor
open Go.SL

/-- Fields that are right, one above the other. -/
def RisF (fs : List Fl) : Prop := (∀ f ∈ fs, RightF f) ∧ fs.Pairwise (fun f g => f.1 + f.2 ≤ g.1)

theorem RisF.at {fs : List Fl} (h : RisF fs) {i : Nat} {f : Fl} (hf : fs[i]? = some f) : RightF f := h.1 f (List.mem_of_getElem? hf)

theorem Apart_spec [Extra] (v : Value) (fs : List Fl) (hfs : RisF fs) (hl : fs.length ≤ 1000000) {w : World} {fr : List HProp} (H : Holds w (FL v fs :: fr)) :
    Calls Tryz.prog 301 #[v] w (ret fun x w' => x = .bool true ∧ Holds w' (FL v fs :: fr)) := by
  obtain ⟨a, c, rfl⟩ := sls_slice H (fcells_length fs) (by decide)
  refine calls_of Tryz.func301 rfl (by kernel_rfl) ?_
  refine J12 H ?_
  refine J132 H ?_
  refine C_loop (fun ms σ w n => ms = [] ∧ ∃ (i A : Nat), i ≤ fs.length ∧ n = fs.length - i ∧ (∀ f ∈ fs.drop i, A < 2 ^ f.1) ∧ σ 3 = .int .u64 A ∧ σ 6 = .slice a fs.length c ∧ σ 7 = .int .i64 fs.length ∧ σ 8 = .int .i64 i ∧ Holds w (FL (.slice a fs.length c) fs :: fr)) (m := fs.length) ⟨rfl, 0, 0, by omega, rfl, fun f _ => Nat.two_pow_pos _, rfl, rfl, rfl, rfl, H⟩ ?_
  clear H
  rintro ms σ w n ⟨rfl, i, A, hi, rfl, hA, g3, g6, g7, g8, H⟩
  rw [upd_self g3, upd_self g6, upd_self g7, upd_self g8]
  refine J13 H ?_
  refine C_dec rfl (fun h => C_skip ?_) (fun h => C_exit ?_)
  · have hlt : i < fs.length := by omega
    have hx := List.getElem?_eq_getElem hlt
    have hdr : fs.drop i = fs[i] :: fs.drop (i + 1) := List.drop_eq_getElem_cons hlt
    have hpw := hfs.2
    rw [← List.take_append_drop i fs, hdr] at hpw
    have hpw2 := (List.pairwise_cons.1 (List.pairwise_append.1 hpw).2.1).1
    rw [hdr] at hA
    generalize fs[i] = f at hx hpw2 hA
    have hf := hfs.at hx
    have hAf := hA f (by simp)
    have hA64 : A < 18446744073709551616 := Nat.lt_of_lt_of_le hAf (Nat.le_trans (Nat.pow_le_pow_right (by decide) (show f.1 ≤ 64 by have := hf.2; omega)) (by decide))
    have hm64 := maskN_lt (a := f.1) (wd := f.2) hf.2
    have hand : bitI .and .u64 (A : Int) (maskN f.1 f.2 : Nat) = 0 := by
      rw [bit_and hA64 hm64, part_and, Nat.div_eq_of_lt hAf]
      simp
    have hor : bitI .or .u64 (A : Int) (maskN f.1 f.2 : Nat) = ((A + maskN f.1 f.2 : Nat) : Int) := by
      rw [bit_or hA64 hm64]
      unfold maskN
      rw [part_put hAf]
    obtain ⟨b, s, rfl, H, hclose⟩ := sls_open H (by omega)
    refine J31 H ?_
    refine Lp_s rfl (St_indexAddr rfl rfl (by omega) (by omega) rfl ?_)
    refine Lp_s rfl (St_loadN H rfl (fcells_reads hx) rfl ?_)
    refine J17 H ?_
    clear H; intro b5 w H
    refine J6 H ?_
    clear H; intro w H
    refine Lp_nil ?_
    refine J26 H ?_
    refine Jc rfl rfl (fRight_spec f hf H) ?_
    clear H; rintro v w ⟨rfl, H⟩
    refine J11 H ?_
    refine J22 H ?_
    refine J70 H ?_
    refine Lp_g rfl rfl rfl (St_call (a := []) (b := []) rfl rfl (call (mask_spec f hf H) ?_))
    clear H; rintro v w ⟨rfl, H⟩
    refine Lp_gpv rfl rfl (v := .int .u64 (bitI .and .u64 (A : Int) (maskN f.1 f.2 : Nat))) rfl rfl ?_
    rw [hand]
    refine J71 H ?_
    refine J72 H ?_
    refine Jc rfl rfl (mask_spec f hf H) ?_
    clear H; rintro v w ⟨rfl, H⟩
    refine Lp_pv (v := .int .u64 (bitI .or .u64 (A : Int) (maskN f.1 f.2 : Nat))) rfl rfl ?_
    rw [hor]
    refine J25 H ?_
    replace H := hclose _ _ H.drop
    refine ⟨_, ⟨rfl, i + 1, A + maskN f.1 f.2, hlt, rfl, fun g hg => ?_, rfl, rfl, rfl, inc64 (by omega), H⟩, by omega⟩
    have h1 := hpw2 g hg
    have h2 : A + maskN f.1 f.2 < 2 ^ (f.1 + f.2) := by
      unfold maskN
      rw [Nat.pow_add, Nat.sub_mul, Nat.one_mul, Nat.mul_comm (2 ^ f.2)]
      have : 2 ^ f.1 ≤ 2 ^ f.1 * 2 ^ f.2 := Nat.le_mul_of_pos_right _ (Nat.two_pow_pos _)
      omega
    exact Nat.lt_of_lt_of_le h2 (Nat.pow_le_pow_right (by decide) h1)
  · refine J12 H ?_
    exact C_ret (Jy H rfl fun w' H' => ⟨rfl, H'⟩)

def getF (x : Nat) (f : Fl) : Nat := x / 2 ^ f.1 % 2 ^ f.2
theorem Unpack_spec [Extra] (x : Nat) (hx64 : x < 18446744073709551616) (v : Value) (fs : List Fl) (hfs : RisF fs) (hl : fs.length ≤ 1000) {w : World} {fr : List HProp} (H : Holds w (FL v fs :: fr)) :
    Calls Tryz.prog 257 #[.int .u64 x, v] w (ret fun r w' => ∃ u, r = .tuple #[u, .int .i64 0] ∧ Holds w' (UL u (fs.map (getF x)) :: FL v fs :: fr)) := by
  obtain ⟨a, c, rfl⟩ := sls_slice H (fcells_length fs) (by decide)
  refine calls_of Tryz.func257 rfl (by kernel_rfl) ?_
  refine J5 H ?_
  refine J16 H ?_
  refine Jc rfl rfl (Apart_spec _ fs hfs (by omega) H) ?_
  clear H; rintro v w ⟨rfl, H⟩
  refine J35 H ?_
  refine J132 H ?_
  refine C_loop (fun ms σ w n => ms = [] ∧ ∃ (i : Nat) (g : Value), i ≤ fs.length ∧ n = fs.length - i ∧ σ 0 = .int .u64 x ∧ σ 6 = g ∧ σ 12 = .slice a fs.length c ∧ σ 13 = .int .i64 fs.length ∧ σ 14 = .int .i64 i ∧ Holds w (UL g ((fs.take i).map (getF x)) :: FL (.slice a fs.length c) fs :: fr)) (m := fs.length) ⟨rfl, 0, _, by omega, rfl, rfl, rfl, rfl, rfl, rfl, sls_nil H⟩ ?_
  clear H
  rintro ms σ w n ⟨rfl, i, g, hi, rfl, g0, g6, g12, g13, g14, H⟩
  obtain ⟨ag, cg, rfl⟩ := sls_slice H (ucells_length _) (by decide)
  rw [upd_self g0, upd_self g6, upd_self g12, upd_self g13, upd_self g14]
  refine J13 H ?_
  refine C_dec rfl (fun h => C_skip ?_) (fun h => C_exit ?_)
  · have hlt : i < fs.length := by omega
    have hx := List.getElem?_eq_getElem hlt
    generalize fs[i] = f at hx
    have hf := hfs.at hx
    have hm64 := maskN_lt (a := f.1) (wd := f.2) hf.2
    have hf1 : f.1 < 64 := by have := hf.1; have := hf.2; omega
    have hsh : shrI .u64 (bitI .and .u64 (x : Int) (maskN f.1 f.2 : Nat)) (f.1 : Int) = (getF x f : Nat) := by
      rw [bit_and hx64 hm64, shr_nat hf1 rfl, part_get]; rfl
    replace H := Js [1,0] 0 H
    obtain ⟨b, s, rfl, H, hclose⟩ := sls_open H (by omega)
    refine J31 H ?_
    refine Lp_s rfl (St_indexAddr rfl rfl (by omega) (by omega) rfl ?_)
    refine Lp_s rfl (St_loadN H rfl (fcells_reads hx) rfl ?_)
    refine J17 H ?_
    clear H; intro b8 w H
    refine J6 H ?_
    clear H; intro w H
    refine Lp_nil ?_
    replace H := hclose _ _ H.swap
    replace H := Js [2,1,0] 0 H
    refine J1 H ?_
    clear H; intro w H
    refine J73 H ?_
    refine A_loadN 2 [3, 8, 9] H rfl (Wants.none rfl) rfl (by repeat (first | exact Reads.nil _ | apply Reads.cons rfl)) (by kernel_rfl) ?_
    refine A_fieldAddr 5 rfl (Wants.none rfl) rfl (by kernel_rfl) ?_
    refine A_load1 6 [8, 9] H rfl (Wants.none rfl) rfl rfl (by kernel_rfl) ?_
    refine Jo 3 H ?_
    refine Jk rfl rfl (mask_spec f hf H) ?_
    clear H; rintro v w ⟨rfl, H⟩
    refine A_pv (v := .int .u64 (bitI .and .u64 (x : Int) (maskN f.1 f.2 : Nat))) 4 rfl (Wants.none rfl) rfl (by kernel_rfl) ?_
    refine A_pv (v := .int .u64 (shrI .u64 (bitI .and .u64 (x : Int) (maskN f.1 f.2 : Nat)) (f.1 : Int))) 7 rfl (Wants.none rfl) (by
      show (if (f.1 : Int) < 0 then none else some _) = _
      rw [if_neg (by omega)]) (by kernel_rfl) ?_
    rw [hsh]
    refine Jo 8 H ?_
    refine St_buildSlice H rfl rfl rfl ?_
    clear H; intro b26 w H
    replace H := Js [1,0,1] 1 H
    refine Jo 9 H ?_
    refine St_append H rfl rfl (by repeat (first | exact Reads.nil _ | apply Reads.cons rfl)) rfl (by decide) (by rw [ucells_length, List.length_map, List.length_take]; simp only [List.length_cons, List.length_nil]; omega) rfl rfl ?_
    clear H; intro v27 w H
    obtain ⟨a27, m27, c27, rfl⟩ := sls_any H
    refine J74 H ?_
    refine J4 H ?_
    refine J5 H ?_
    replace H := Js [0,1] 1 H
    refine ⟨_, ⟨rfl, i + 1, _, hlt, rfl, rfl, rfl, rfl, rfl, inc64 (by omega), ?_⟩, by omega⟩
    have ht : (fs.take (i + 1)).map (getF x) = (fs.take i).map (getF x) ++ [getF x f] := by
      rw [List.take_add_one, hx, List.map_append]; rfl
    rw [ht]
    show Holds w (sls _ 1 _ (ucells ((fs.take i).map (getF x) ++ [getF x f])) :: _)
    rw [ucells_append]
    exact H
  · have hge : i = fs.length := by omega
    subst hge
    rw [List.take_length] at H
    refine J20 H ?_
    exact C_ret (fn_end0 (vs := [.slice ag (List.map (getF x) fs).length cg, .int .i64 0]) _ (.inr rfl) H (by rw [List.take_length]; rfl) fun w' H' => ⟨_, rfl, H'⟩)
end Go.Proofs.YtipelpbkeiphmaaGreatDoor
namespace Go.Proofs.YtipelpbkeiphmaaGreatDoor
open Go.SL

theorem bitLenAux_le : ∀ (f x : Nat), Lib.bitLenAux f x ≤ f
  | 0, _ => Nat.le_refl _
  | f + 1, x => by
    unfold Lib.bitLenAux
    split
    · omega
    · have := bitLenAux_le f (x / 2)
      omega
theorem bitLen_le {x k : Nat} (h : x < 2 ^ k) (hk : k ≤ 64) : Lib.bitLen x ≤ k := by
  unfold Lib.bitLen
  rw [Lib.bitLenAux_fuel k x h 64 hk]
  exact bitLenAux_le k x

theorem Len64_spec [Extra] (x : Nat) (hx : x < 18446744073709551616) {w : World} {fr : List HProp} (H : Holds w fr) : Calls Tryz.prog 239 #[.int .u64 x] w (ret fun v w' => v = .int .i64 (Lib.bitLen x) ∧ Holds w' fr) := by
  refine (Any.bits_Len64 Tryz.laysLen (x : Int) w (by omega) (by omega)).mono ?_
  rintro e w' ⟨rfl, rfl⟩
  exact ⟨by rw [Int.toNat_natCast], H⟩

theorem pow_le64 {k : Nat} (h : k ≤ 64) : 2 ^ k ≤ 18446744073709551616 := Nat.le_trans (Nat.pow_le_pow_right (by decide) h) (by decide)

theorem Put_spec [Extra] (x : Nat) (f : Fl) (y : Nat) (hf : RightF f) (hx : x < 2 ^ f.1) (hy : y < 2 ^ f.2) {w : World} {fr : List HProp} (H : Holds w fr) :
    Calls Tryz.prog 302 #[.int .u64 x, fv f, .int .u64 y] w (ret fun v w' => v = .tuple #[.int .u64 ((x + y * 2 ^ f.1 : Nat) : Int), .int .i64 0] ∧ Holds w' fr) := by
  have h1 := hf.1
  have h2 := hf.2
  have hx64 : x < 18446744073709551616 := Nat.lt_of_lt_of_le hx (pow_le64 (by omega))
  have hy64 : y < 18446744073709551616 := Nat.lt_of_lt_of_le hy (pow_le64 (by omega))
  have hm64 := maskN_lt (a := f.1) (wd := f.2) hf.2
  have hbl := bitLen_le hy (by omega)
  have e1 : bitI .andNot .u64 (x : Int) (maskN f.1 f.2 : Nat) = (x : Nat) := by rw [bit_andNot hx64 hm64, part_clear hx hf.2]
  have hyy : y * 2 ^ f.1 < 18446744073709551616 := by
    have : y * 2 ^ f.1 < 2 ^ f.2 * 2 ^ f.1 := (Nat.mul_lt_mul_right (Nat.two_pow_pos _)).2 hy
    rw [← Nat.pow_add] at this
    exact Nat.lt_of_lt_of_le this (pow_le64 (by omega))
  have e2 : shlI .u64 (y : Int) (f.1 : Int) = ((y * 2 ^ f.1 : Nat) : Int) := by rw [shl_nat (by omega), Nat.mod_eq_of_lt hyy]
  have e3 : bitI .or .u64 (x : Int) ((y * 2 ^ f.1 : Nat) : Int) = ((x + y * 2 ^ f.1 : Nat) : Int) := by rw [bit_or hx64 hyy, part_put hx]
  obtain ⟨a, d⟩ := f
  dsimp only at h1 h2 hx hy hm64 hbl e1 e2 e3 hyy
  refine calls_of Tryz.func302 rfl (by kernel_rfl) ?_
  refine J8 H ?_
  clear H; intro b4 w H
  refine J61 H ?_
  refine C_join (fun ms σ w => ms = [] ∧ σ 0 = .int .u64 x ∧ σ 2 = .int .u64 y ∧ σ 4 = pp b4 ∧ Holds w (pts b4 (row 390 [.int .i64 a, .int .i64 d]) :: fr)) ?_ ?_
  · refine C_block ?_
    refine J26 H ?_
    refine Jc rfl rfl (fRight_spec (a, d) hf H) ?_
    clear H; rintro v w ⟨rfl, H⟩
    refine J75 H ?_
    refine J1 H ?_
    clear H; intro w H
    refine J76 H ?_
    refine A_fieldAddr 2 rfl (Wants.none rfl) rfl (by kernel_rfl) ?_
    refine A_load1 3 [] H rfl (Wants.none rfl) rfl rfl (by kernel_rfl) ?_
    refine Jo 1 H ?_
    refine Jk rfl rfl (Len64_spec y hy64 H) ?_
    clear H; rintro v w ⟨rfl, H⟩
    refine J62 H ?_
    rw [show decide (((Lib.bitLen y : Nat) : Int) > (d : Int)) = false from decide_eq_false (by omega)]
    refine J54 H ?_
    refine J4 H ?_
    refine J9 H ?_
    exact ⟨rfl, rfl, rfl, rfl, rfl, H⟩
  · clear H
    rintro ms σ w ⟨rfl, g0, g2, g4, H⟩
    rw [upd_self g0, upd_self g2, upd_self g4]
    refine J1 H ?_
    clear H; intro w H
    refine J76 H ?_
    refine A_loadN 1 [2] H rfl (Wants.none rfl) rfl (by repeat (first | exact Reads.nil _ | apply Reads.cons rfl)) (by kernel_rfl) ?_
    refine J62 H ?_
    refine A_fieldAddr 5 rfl (Wants.none rfl) rfl (by kernel_rfl) ?_
    refine A_load1 6 [] H rfl (Wants.none rfl) rfl rfl (by kernel_rfl) ?_
    refine A_pv (v := .int .u64 (shlI .u64 (y : Int) (a : Int))) 7 rfl (Wants.none rfl) (by
      show (if (a : Int) < 0 then none else some _) = _
      rw [if_neg (by omega)]) (by kernel_rfl) ?_
    rw [e2]
    refine Jo 2 H ?_
    refine Jk rfl rfl (mask_spec (a, d) hf H) ?_
    clear H; rintro v w ⟨rfl, H⟩
    refine A_pv (v := .int .u64 (bitI .andNot .u64 (x : Int) (maskN a d : Nat))) 3 rfl (Wants.none rfl) rfl (by kernel_rfl) ?_
    rw [e1]
    refine A_pv (v := .int .u64 (bitI .or .u64 (x : Int) ((y * 2 ^ a : Nat) : Int))) 8 rfl (Wants.none rfl) rfl (by kernel_rfl) ?_
    rw [e3]
    refine J77 H ?_
    refine J4 H ?_
    exact C_ret (Jy H.drop rfl fun w' H' => ⟨rfl, H'⟩)

/-- A word of some fields' numbers. -/
def packN : List Fl → List Nat → Nat
  | f :: fs, x :: xs => x * 2 ^ f.1 + packN fs xs
  | _, _ => 0
theorem packN_snoc : ∀ (fs : List Fl) (xs : List Nat) (f : Fl) (x : Nat), fs.length = xs.length → packN (fs ++ [f]) (xs ++ [x]) = packN fs xs + x * 2 ^ f.1
  | [], [], f, x, _ => by simp [packN]
  | [], _ :: _, _, _, h => by simp at h
  | _ :: _, [], _, _, h => by simp at h
  | g :: fs, y :: xs, f, x, h => by
    have ih := packN_snoc fs xs f x (by simpa using h)
    show y * 2 ^ g.1 + packN (fs ++ [f]) (xs ++ [x]) = y * 2 ^ g.1 + packN fs xs + x * 2 ^ f.1
    rw [ih]
    omega

theorem Pack_spec [Extra] (vf vx : Value) (fs : List Fl) (xs : List Nat) (hfs : RisF fs) (hl : fs.length ≤ 1000) (hlen : fs.length = xs.length) (hb : ∀ (i : Nat) (f : Fl) (x : Nat), fs[i]? = some f → xs[i]? = some x → x < 2 ^ f.2) {w : World} {fr : List HProp} (H : Holds w (FL vf fs :: UL vx xs :: fr)) :
    Calls Tryz.prog 244 #[vf, vx] w (ret fun v w' => v = .tuple #[.int .u64 (packN fs xs), .int .i64 0] ∧ Holds w' (FL vf fs :: UL vx xs :: fr)) := by
  obtain ⟨a, c, rfl⟩ := sls_slice H (fcells_length fs) (by decide)
  obtain ⟨a1, c1, rfl⟩ := sls_slice H.drop (ucells_length xs) (by decide)
  refine calls_of Tryz.func244 rfl (by kernel_rfl) ?_
  refine J5 H ?_
  refine J90 H ?_
  refine J7 H ?_
  refine J91 H ?_
  refine J7 H ?_
  rw [show ((fs.length : Int) != (xs.length : Int)) = false by rw [hlen]; simp]
  refine J7 H ?_
  refine J22 H ?_
  refine Lp_g rfl rfl rfl (St_call (a := []) (b := []) rfl rfl (call (Apart_spec _ fs hfs (by omega) H) ?_))
  clear H; rintro v w ⟨rfl, H⟩
  refine J71 H ?_
  refine J132 H ?_
  refine C_loop (fun ms σ w n => ms = [] ∧ ∃ i : Nat, i ≤ fs.length ∧ n = fs.length - i ∧ (∀ f ∈ fs.drop i, packN (fs.take i) (xs.take i) < 2 ^ f.1) ∧ σ 1 = .slice a1 xs.length c1 ∧ σ 6 = .int .u64 (packN (fs.take i) (xs.take i)) ∧ σ 20 = .slice a fs.length c ∧ σ 21 = .int .i64 fs.length ∧ σ 22 = .int .i64 i ∧ Holds w (FL (.slice a fs.length c) fs :: UL (.slice a1 xs.length c1) xs :: fr)) (m := fs.length) ⟨rfl, 0, by omega, rfl, fun f _ => by simp only [List.take_zero, packN]; exact Nat.two_pow_pos _, rfl, rfl, rfl, rfl, rfl, H⟩ ?_
  clear H
  rintro ms σ w n ⟨rfl, i, hi, rfl, hW, g1, g6, g20, g21, g22, H⟩
  rw [upd_self g1, upd_self g6, upd_self g20, upd_self g21, upd_self g22]
  refine J13 H ?_
  refine C_dec rfl (fun h => C_skip ?_) (fun h => C_exit ?_)
  · have hlt : i < fs.length := by omega
    have hx := List.getElem?_eq_getElem hlt
    have hy := List.getElem?_eq_getElem (l := xs) (i := i) (by omega)
    have hdr : fs.drop i = fs[i] :: fs.drop (i + 1) := List.drop_eq_getElem_cons hlt
    have hpw := hfs.2
    rw [← List.take_append_drop i fs, hdr] at hpw
    have hpw2 := (List.pairwise_cons.1 (List.pairwise_append.1 hpw).2.1).1
    rw [hdr] at hW
    generalize fs[i] = f at hx hpw2 hW
    generalize xs[i]'(by omega) = y at hy
    have hf := hfs.at hx
    have hWf := hW f (by simp)
    have hyb := hb i f y hx hy
    have hsn : packN (fs.take (i + 1)) (xs.take (i + 1)) = packN (fs.take i) (xs.take i) + y * 2 ^ f.1 := by
      rw [List.take_add_one, List.take_add_one, hx, hy]
      exact packN_snoc _ _ f y (by rw [List.length_take, List.length_take, hlen])
    obtain ⟨b, s, rfl, H, hclose⟩ := sls_open H (by omega)
    obtain ⟨b2, s2, rfl, H, hclose2⟩ := sls_open H.swap (by omega)
    refine J21 H ?_
    refine J16 H ?_
    refine Lp_s rfl (St_indexAddr rfl rfl (by omega) (by omega) rfl ?_)
    refine Lp_s rfl (St_loadN H rfl (fcells_reads hx) rfl ?_)
    refine J17 H ?_
    clear H; intro b8 w H
    refine Lp_pv rfl rfl ?_
    refine Lp_s rfl (St_storeN H rfl rfl inferInstance rfl rfl (Nat.le_of_ble_eq_true rfl) rfl ?_)
    clear H; intro w H
    refine Lp_nil ?_
    refine J12 H ?_
    refine J1 H ?_
    clear H; intro w H
    refine J76 H ?_
    refine A_loadN 1 [6] H rfl (Wants.none rfl) rfl (by repeat (first | exact Reads.nil _ | apply Reads.cons rfl)) (by kernel_rfl) ?_
    refine J92 H ?_
    refine J46 H ?_
    refine A_indexAddr 4 rfl (Wants.none rfl) rfl rfl (by omega) (by omega) (by kernel_rfl) ?_
    refine A_load1 5 [6] H rfl (Wants.none rfl) rfl (ucells_get hy) (by kernel_rfl) ?_
    
    refine Jo 6 H ?_
    refine Jk rfl rfl (Put_spec _ f y hf hWf hyb H) ?_
    clear H; rintro v w ⟨rfl, H⟩
    refine A_pv 7 rfl (Wants.none rfl) rfl (by kernel_rfl) ?_
    refine A_pv 8 rfl (Wants.none rfl) rfl (by kernel_rfl) ?_
    refine J77 H ?_
    refine J36 H ?_
    refine J104 H ?_
    refine J5 H ?_
    replace H := Js [1,1] 1 H
    replace H := hclose2 _ _ H
    replace H := hclose _ _ H.swap
    refine ⟨_, ⟨rfl, i + 1, hlt, rfl, fun g hg => ?_, rfl, ?_, rfl, rfl, inc64 (by omega), H⟩, by omega⟩
    · have h1 := hpw2 g hg
      rw [hsn]
      have h2 : packN (fs.take i) (xs.take i) + y * 2 ^ f.1 < 2 ^ (f.1 + f.2) := by
        rw [Nat.pow_add]
        have : (y + 1) * 2 ^ f.1 ≤ 2 ^ f.2 * 2 ^ f.1 := Nat.mul_le_mul_right _ hyb
        rw [Nat.add_mul, Nat.one_mul] at this
        rw [Nat.mul_comm (2 ^ f.1)]
        omega
      exact Nat.lt_of_lt_of_le h2 (Nat.pow_le_pow_right (by decide) h1)
    · rw [hsn]; rfl
  · have hge : i = fs.length := by omega
    subst hge
    refine J20 H ?_
    refine C_ret (Jy H rfl fun w' H' => ⟨?_, H'⟩)
    have e : xs.take fs.length = xs := by rw [hlen, List.take_length]
    rw [List.take_length, e]
    rfl
end Go.Proofs.YtipelpbkeiphmaaGreatDoor
namespace Go.Proofs.YtipelpbkeiphmaaGreatDoor
open Go.SL

def hdrF : List Fl := [(0, 16), (16, 16), (32, 8), (40, 16), (56, 8)]
def lnkF : List Fl := [(0, 32), (32, 32)]
theorem ris_hdr : RisF hdrF := ⟨by simp [hdrF, RightF], by simp [hdrF]⟩
theorem ris_lnk : RisF lnkF := ⟨by simp [lnkF, RightF], by simp [lnkF]⟩

theorem fields_spec [Extra] {w : World} {fr : List HProp} (H : Holds w fr) : Calls Tryz.prog 289 #[] w (ret fun v w' => Holds w' (FL v hdrF :: fr)) := by
  refine calls_of Tryz.func289 rfl (by kernel_rfl) ?_
  refine J133 H ?_
  refine J171 H ?_
  refine J171 H ?_
  refine J32 H ?_
  clear H; intro b6 w H
  refine J0 H ?_
  exact C_ret (Jy (sls_lit (by decide) H) rfl fun w' H' => H')

theorem links_spec [Extra] {w : World} {fr : List HProp} (H : Holds w fr) : Calls Tryz.prog 245 #[] w (ret fun v w' => Holds w' (FL v lnkF :: fr)) := by
  refine calls_of Tryz.func245 rfl (by kernel_rfl) ?_
  refine J133 H ?_
  refine J63 H ?_
  refine J32 H ?_
  clear H; intro b3 w H
  refine J0 H ?_
  exact C_ret (Jy (sls_lit (by decide) H) rfl fun w' H' => H')

/-- A header: layout, count, slot. -/
def MayH (l c s : Nat) : Prop := 1 ≤ l ∧ l ≤ 64 ∧ c ≤ 1024 ∧ s < 4096
@[reducible] def hdv (l c s : Nat) : Value := .agg #[.int .i64 l, .int .i64 c, .int .i64 s]

theorem may_spec [Extra] (l c s : Nat) (h : MayH l c s) {w : World} {fr : List HProp} (H : Holds w fr) : Calls Tryz.prog 290 #[hdv l c s] w (ret fun v w' => v = .bool true ∧ Holds w' fr) := by
  obtain ⟨h1, h2, h3, h4⟩ := h
  refine calls_of Tryz.func290 rfl (by kernel_rfl) ?_
  refine J8 H ?_
  clear H; intro b1 w H
  refine J0 H ?_
  refine J105 H ?_
  rw [show decide ((l : Int) ≥ 1) = true from decide_eq_true (by omega)]
  refine J45 H ?_
  refine J7 H ?_
  rw [show decide ((l : Int) ≤ 64) = true from decide_eq_true (by omega)]
  refine J93 H ?_
  rw [show decide ((c : Int) ≥ 0) = true from decide_eq_true (by omega)]
  refine J93 H ?_
  rw [show decide ((c : Int) ≤ 1024) = true from decide_eq_true (by omega)]
  refine J93 H ?_
  rw [show decide ((s : Int) ≥ 0) = true from decide_eq_true (by omega)]
  refine J93 H ?_
  rw [show decide ((s : Int) < 4096) = true from decide_eq_true (by omega)]
  refine J0 H ?_
  exact C_ret (Jy H.drop rfl fun w' H' => ⟨rfl, H'⟩)

def encH (l c s : Nat) : Nat := packN hdrF [s, c, l, 0, 165]
theorem encH_eq (l c s : Nat) : encH l c s = s + c * 65536 + l * 4294967296 + 165 * 72057594037927936 := by
  simp [encH, packN, hdrF]; omega
theorem encH_lt {l c s : Nat} (h : MayH l c s) : encH l c s < 18446744073709551616 := by
  obtain ⟨h1, h2, h3, h4⟩ := h
  rw [encH_eq]; omega

theorem Encode_spec [Extra] (l c s : Nat) (h : MayH l c s) {w : World} {fr : List HProp} (H : Holds w fr) : Calls Tryz.prog 263 #[hdv l c s] w (ret fun v w' => v = .tuple #[.int .u64 (encH l c s), .int .i64 0] ∧ Holds w' fr) := by
  have h' := h
  obtain ⟨h1, h2, h3, h4⟩ := h'
  refine calls_of Tryz.func263 rfl (by kernel_rfl) ?_
  refine J8 H ?_
  clear H; intro b1 w H
  refine J3 H ?_
  refine J26 H ?_
  refine Jc rfl rfl (may_spec l c s h H) ?_
  clear H; rintro v w ⟨rfl, H⟩
  refine J35 H ?_
  refine J1 H ?_
  clear H; intro w H
  refine A_fieldAddr 1 rfl (Wants.none rfl) rfl (by kernel_rfl) ?_
  refine A_load1 2 [10, 11] H rfl (Wants.none rfl) rfl rfl (by kernel_rfl) ?_
  refine J134 H ?_
  refine J47 H ?_
  refine A_load1 5 [10, 11] H rfl (Wants.none rfl) rfl rfl (by kernel_rfl) ?_
  refine A_convI 6 rfl (Wants.none rfl) rfl (by kernel_rfl) ?_
  refine J64 H ?_
  refine A_load1 8 [10, 11] H rfl (Wants.none rfl) rfl rfl (by kernel_rfl) ?_
  refine A_convI 9 rfl (Wants.none rfl) rfl (by kernel_rfl) ?_
  rw [wrapU_nat (a := l) (by omega), wrapU_nat (a := c) (by omega), wrapU_nat (a := s) (by omega)]
  refine A_two 0 10 rfl rfl (by kernel_rfl) (by repeat first | exact .nil | refine .cons (.inr H.at) ?_ | refine .cons (.inr H.mp) ?_ | refine .cons (.inl (by kernel_rfl)) ?_) (Wants.none rfl) (Wants.none rfl) (St_call (a := []) (b := []) rfl rfl (call (fields_spec H) ?_)) (St_buildSlice H rfl rfl rfl ?_)
  · clear H; intro v16 w H
    obtain ⟨a16, m16, c16, rfl⟩ := sls_any H
    refine Jo 10 H ?_
    refine St_buildSlice H rfl rfl rfl ?_
    clear H; intro b17 w H
    replace H := Holds.swap (sls_lit (len := 5) (k := 1) rfl H)
    refine A_one 11 rfl (by kernel_rfl) (by repeat first | exact .nil | refine .cons (.inr H.at) ?_ | refine .cons (.inr H.mp) ?_ | refine .cons (.inl (by kernel_rfl)) ?_) (Wants.none rfl) (St_call (a := []) (b := []) rfl rfl (call (Pack_spec _ _ hdrF [s, c, l, 0, 165] ris_hdr (by decide) rfl (fun i f x hf hx => by
          rcases i with _ | _ | _ | _ | _ | i <;> simp [hdrF] at hf hx <;> subst hf hx <;> simp <;> omega) H) ?_))
    clear H; rintro v w ⟨rfl, H⟩
    refine J106 H ?_
    exact C_ret (Jy H.drop.drop.drop rfl fun w' H' => ⟨rfl, H'⟩)
  · clear H; intro b17 w H
    refine Jo 0 H ?_
    refine Jk rfl rfl (fields_spec H) ?_
    clear H; intro v16 w H
    obtain ⟨a16, m16, c16, rfl⟩ := sls_any H
    replace H := Holds.swap (sls_lit (len := 5) (k := 1) rfl H.swap)
    refine A_one 11 rfl (by kernel_rfl) (by repeat first | exact .nil | refine .cons (.inr H.at) ?_ | refine .cons (.inr H.mp) ?_ | refine .cons (.inl (by kernel_rfl)) ?_) (Wants.none rfl) (St_call (a := []) (b := []) rfl rfl (call (Pack_spec _ _ hdrF [s, c, l, 0, 165] ris_hdr (by decide) rfl (fun i f x hf hx => by
          rcases i with _ | _ | _ | _ | _ | i <;> simp [hdrF] at hf hx <;> subst hf hx <;> simp <;> omega) H) ?_))
    clear H; rintro v w ⟨rfl, H⟩
    refine J106 H ?_
    exact C_ret (Jy H.drop.drop.drop rfl fun w' H' => ⟨rfl, H'⟩)

theorem getH {l c s : Nat} (h : MayH l c s) : hdrF.map (getF (encH l c s)) = [s, c, l, 0, 165] := by
  obtain ⟨h1, h2, h3, h4⟩ := h
  simp only [hdrF, List.map_cons, List.map_nil, getF, encH_eq, Nat.reducePow]
  have e1 : (s + c * 65536 + l * 4294967296 + 165 * 72057594037927936) / 1 % 65536 = s := by omega
  have e2 : (s + c * 65536 + l * 4294967296 + 165 * 72057594037927936) / 65536 % 65536 = c := by omega
  have e3 : (s + c * 65536 + l * 4294967296 + 165 * 72057594037927936) / 4294967296 % 256 = l := by omega
  have e4 : (s + c * 65536 + l * 4294967296 + 165 * 72057594037927936) / 1099511627776 % 65536 = 0 := by omega
  have e5 : (s + c * 65536 + l * 4294967296 + 165 * 72057594037927936) / 72057594037927936 % 256 = 165 := by omega
  rw [e1, e2, e3, e4, e5]

theorem Decode_spec [Extra] (l c s : Nat) (h : MayH l c s) {w : World} {fr : List HProp} (H : Holds w fr) : Calls Tryz.prog 213 #[.int .u64 (encH l c s)] w (ret fun v w' => v = .tuple #[hdv l c s, .int .i64 0] ∧ Holds w' fr) := by
  have h' := h
  obtain ⟨h1, h2, h3, h4⟩ := h'
  refine calls_of Tryz.func213 rfl (by kernel_rfl) ?_
  refine J23 H ?_
  clear H; intro b2 w H
  refine J135 H ?_
  refine Jc rfl rfl (fields_spec H) ?_
  clear H; intro v9 w H
  
  refine Jc rfl rfl (Unpack_spec _ (encH_lt h) v9 hdrF ris_hdr (by decide) H) ?_
  clear H; rintro v w ⟨u, rfl, H⟩
  rw [getH h] at H
  obtain ⟨au, cu, rfl⟩ := sls_slice (m := 5) H rfl (by decide)
  obtain ⟨bu, su, rfl, H, hclose⟩ := sls_open H (by decide)
  refine J136 H ?_
  clear H; intro w H
  refine J76 H ?_
  refine A_indexAddr 1 rfl (Wants.none rfl) rfl rfl (by omega) (by omega) (by kernel_rfl) ?_
  refine A_load1 2 [14] H rfl (Wants.none rfl) rfl rfl (by kernel_rfl) ?_
  refine J134 H ?_
  refine J62 H ?_
  refine A_indexAddr 5 rfl (Wants.none rfl) rfl rfl (by omega) (by omega) (by kernel_rfl) ?_
  refine A_load1 6 [14] H rfl (Wants.none rfl) rfl rfl (by kernel_rfl) ?_
  refine A_convI 7 rfl (Wants.none rfl) rfl (by kernel_rfl) ?_
  refine J55 H ?_
  refine A_indexAddr 9 rfl (Wants.none rfl) rfl rfl (by omega) (by omega) (by kernel_rfl) ?_
  refine A_load1 10 [14] H rfl (Wants.none rfl) rfl rfl (by kernel_rfl) ?_
  refine A_convI 11 rfl (Wants.none rfl) rfl (by kernel_rfl) ?_
  refine A_build 12 rfl (Wants.none rfl) rfl (by kernel_rfl) ?_
  rw [wrapI_nat (a := l) (by omega), wrapI_nat (a := c) (by omega), wrapI_nat (a := s) (by omega)]
  refine Jo 13 H ?_
  refine St_alloc H rfl ?_
  clear H; intro b6 w H
  
  refine Jo 14 H ?_
  refine J65 H ?_
  clear H; intro w H
  refine J4 H ?_
  refine J16 H ?_
  refine Lp_s rfl (St_indexAddr rfl rfl (by omega) (by omega) rfl ?_)
  refine J94 H ?_
  refine J11 H ?_
  refine J22 H ?_
  refine Lp_g rfl rfl rfl (St_indexAddr rfl rfl (by omega) (by omega) rfl ?_)
  refine Lp_g rfl rfl rfl (St_load1 H rfl rfl rfl ?_)
  refine J22 H ?_
  refine J11 H ?_
  refine J70 H ?_
  refine Lp_g rfl rfl rfl (St_call (a := []) (b := []) rfl rfl (call (may_spec l c s h H) ?_))
  clear H; rintro v w ⟨rfl, H⟩
  refine J71 H ?_
  refine J78 H ?_
  clear H; intro w H
  refine J0 H ?_
  refine C_ret (fn_endC (vs := [hdv l c s, .int .i64 0]) _ (.inr rfl) H (fun w' H' => .cellN H' rfl (by repeat (first | exact Reads.nil _ | apply Reads.cons rfl)) (.tmp .nil)) fun w' H' => ⟨rfl, H'.drop.drop.drop.drop⟩)
end Go.Proofs.YtipelpbkeiphmaaGreatDoor
namespace Go.Proofs.YtipelpbkeiphmaaGreatDoor
open Go.SL

/-- A reference: to nothing, to a grave, to an object (slot, generation). -/
inductive Lnk where
  | none
  | grave
  | obj (i g : Nat)
  deriving DecidableEq
@[reducible] def tkn (i g : Nat) : Value := .agg #[.int .i64 i, .int .i64 g]
@[reducible] def lkv : Lnk → Value
  | .none => .agg #[.int .i64 0, .int .i64 0, .int .i64 0]
  | .grave => .agg #[.int .i64 1, .int .i64 0, .int .i64 0]
  | .obj i g => .agg #[.int .i64 2, .int .i64 i, .int .i64 g]
def okT (i g : Nat) : Prop := i < 4096 ∧ 1 ≤ g ∧ g ≤ 255
def okL : Lnk → Prop
  | .obj i g => okT i g
  | _ => True
def wordL : Lnk → Nat
  | .none => 0
  | .grave => 1
  | .obj i g => packN lnkF [i + 2, g]
theorem wordL_obj (i g : Nat) : wordL (.obj i g) = i + 2 + g * 4294967296 := by
  simp [wordL, packN, lnkF]
theorem wordL_lt {l : Lnk} (h : okL l) : wordL l < 18446744073709551616 := by
  cases l with
  | none => decide
  | grave => decide
  | obj i g =>
    obtain ⟨h1, h2, h3⟩ := h
    rw [wordL_obj]; omega

theorem alive_spec [Extra] (i g : Nat) (h : okT i g) {w : World} {fr : List HProp} (H : Holds w fr) : Calls Tryz.prog 243 #[tkn i g] w (ret fun v w' => v = .bool true ∧ Holds w' fr) := by
  obtain ⟨h1, h2, h3⟩ := h
  refine calls_of Tryz.func243 rfl (by kernel_rfl) ?_
  refine J8 H ?_
  clear H; intro b1 w H
  refine J0 H ?_
  refine J105 H ?_
  rw [show decide ((i : Int) ≥ 0) = true from decide_eq_true (by omega)]
  refine J45 H ?_
  refine J7 H ?_
  rw [show decide ((i : Int) < 4096) = true from decide_eq_true (by omega)]
  refine J93 H ?_
  rw [show decide ((g : Int) ≥ 1) = true from decide_eq_true (by omega)]
  refine J93 H ?_
  rw [show decide ((g : Int) ≤ 255) = true from decide_eq_true (by omega)]
  refine J0 H ?_
  exact C_ret (Jy H.drop rfl fun w' H' => ⟨rfl, H'⟩)

theorem Word_spec [Extra] (l : Lnk) (h : okL l) {w : World} {fr : List HProp} (H : Holds w fr) : Calls Tryz.prog 167 #[lkv l] w (ret fun v w' => v = .tuple #[.int .u64 (wordL l), .int .i64 0] ∧ Holds w' fr) := by
  cases l with
  | none =>
    refine calls_of Tryz.func167 rfl (by kernel_rfl) ?_
    refine J8 H ?_
    clear H; intro b1 w H
    refine J3 H ?_
    refine J21 H ?_
    refine J107 H ?_
    refine J0 H ?_
    refine J29 H ?_
    exact C_ret (Jy H.drop rfl fun w' H' => ⟨rfl, H'⟩)
  | grave =>
    refine calls_of Tryz.func167 rfl (by kernel_rfl) ?_
    refine J8 H ?_
    clear H; intro b1 w H
    refine J3 H ?_
    refine J21 H ?_
    refine J107 H ?_
    refine J95 H ?_
    refine J107 H ?_
    refine J0 H ?_
    refine J29 H ?_
    exact C_ret (Jy H.drop rfl fun w' H' => ⟨rfl, H'⟩)
  | obj i g =>
    have h' := h
    obtain ⟨h1, h2, h3⟩ := h'
    refine calls_of Tryz.func167 rfl (by kernel_rfl) ?_
    refine J8 H ?_
    clear H; intro b1 w H
    refine J61 H ?_
    refine C_joinQ (fun ms σ w => ms = [] ∧ σ 1 = .pointer (some ⟨b1, 0, none⟩) ∧ Holds w (pts b1 (row 109 [.int .i64 2, .int .i64 i, .int .i64 g]) :: fr)) ?_ ?_
    · refine C_block ?_
      refine J107 H ?_
      refine J95 H ?_
      refine J107 H ?_
      refine J95 H ?_
      refine J105 H ?_
      refine Lp_g rfl rfl rfl (St_fieldAddr rfl rfl ?_)
      refine J70 H ?_
      refine Lp_g rfl rfl rfl (St_call (a := []) (b := []) rfl rfl (call (alive_spec i g h H) ?_))
      clear H; rintro v w ⟨rfl, H⟩
      refine J22 H ?_
      refine J56 H ?_
      exact .inl ⟨rfl, rfl, rfl, H⟩
    · clear H
      rintro ms σ w ⟨rfl, g1, H⟩
      rw [upd_self g1]
      refine J1 H ?_
      clear H; intro w H
      refine A_fieldAddr 1 rfl (Wants.none rfl) rfl (by kernel_rfl) ?_
      refine A_fieldAddr 2 rfl (Wants.none rfl) rfl (by kernel_rfl) ?_
      refine A_load1 3 [10, 11] H rfl (Wants.none rfl) rfl rfl (by kernel_rfl) ?_
      refine A_convI 4 rfl (Wants.none rfl) rfl (by kernel_rfl) ?_
      refine J54 H ?_
      refine J57 H ?_
      refine J64 H ?_
      refine A_load1 8 [10, 11] H rfl (Wants.none rfl) rfl rfl (by kernel_rfl) ?_
      refine A_convI 9 rfl (Wants.none rfl) rfl (by kernel_rfl) ?_
      have e1 : IntKind.u64.wrap (IntKind.u64.wrap (i : Int) + 2) = ((i + 2 : Nat) : Int) := by
        rw [wrapU_nat (a := i) (by omega)]
        exact wrapU_nat (a := i + 2) (by omega)
      have e2 : IntKind.u64.wrap (g : Int) = ((g : Nat) : Int) := wrapU_nat (by omega)
      rw [e1, e2]
      refine A_two 0 10 rfl rfl (by kernel_rfl) (by repeat first | exact .nil | refine .cons (.inr H.at) ?_ | refine .cons (.inr H.mp) ?_ | refine .cons (.inl (by kernel_rfl)) ?_) (Wants.none rfl) (Wants.none rfl) (St_call (a := []) (b := []) rfl rfl (call (links_spec H) ?_)) (St_buildSlice H rfl rfl rfl ?_)
      · clear H; intro v16 w H
        obtain ⟨a16, m16, c16, rfl⟩ := sls_any H
        refine Jo 10 H ?_
        refine St_buildSlice H rfl rfl rfl ?_
        clear H; intro b17 w H
        replace H := Holds.swap (sls_lit (len := 2) (k := 1) rfl H)
        refine A_one 11 rfl (by kernel_rfl) (by repeat first | exact .nil | refine .cons (.inr H.at) ?_ | refine .cons (.inr H.mp) ?_ | refine .cons (.inl (by kernel_rfl)) ?_) (Wants.none rfl) (St_call (a := []) (b := []) rfl rfl (call (Pack_spec _ _ lnkF [i + 2, g] ris_lnk (by decide) rfl (fun j f x hf hx => by
                  rcases j with _ | _ | j <;> simp [lnkF] at hf hx <;> subst hf hx <;> simp <;> omega) H) ?_))
        clear H; rintro v w ⟨rfl, H⟩
        refine J106 H ?_
        exact C_ret (Jy H.drop.drop.drop rfl fun w' H' => ⟨rfl, H'⟩)
      · clear H; intro b17 w H
        refine Jo 0 H ?_
        refine Jk rfl rfl (links_spec H) ?_
        clear H; intro v16 w H
        obtain ⟨a16, m16, c16, rfl⟩ := sls_any H
        replace H := Holds.swap (sls_lit (len := 2) (k := 1) rfl H.swap)
        refine A_one 11 rfl (by kernel_rfl) (by repeat first | exact .nil | refine .cons (.inr H.at) ?_ | refine .cons (.inr H.mp) ?_ | refine .cons (.inl (by kernel_rfl)) ?_) (Wants.none rfl) (St_call (a := []) (b := []) rfl rfl (call (Pack_spec _ _ lnkF [i + 2, g] ris_lnk (by decide) rfl (fun j f x hf hx => by
                  rcases j with _ | _ | j <;> simp [lnkF] at hf hx <;> subst hf hx <;> simp <;> omega) H) ?_))
        clear H; rintro v w ⟨rfl, H⟩
        refine J106 H ?_
        exact C_ret (Jy H.drop.drop.drop rfl fun w' H' => ⟨rfl, H'⟩)

theorem getL {i g : Nat} (h : okT i g) : lnkF.map (getF (wordL (.obj i g))) = [i + 2, g] := by
  obtain ⟨h1, h2, h3⟩ := h
  simp only [lnkF, List.map_cons, List.map_nil, getF, wordL_obj, Nat.reducePow]
  have e1 : (i + 2 + g * 4294967296) / 1 % 4294967296 = i + 2 := by omega
  have e2 : (i + 2 + g * 4294967296) / 4294967296 % 4294967296 = g := by omega
  rw [e1, e2]

theorem Link_spec [Extra] (l : Lnk) (h : okL l) {w : World} {fr : List HProp} (H : Holds w fr) : Calls Tryz.prog 216 #[.int .u64 (wordL l)] w (ret fun v w' => v = .tuple #[lkv l, .int .i64 0] ∧ Holds w' fr) := by
  cases l with
  | none =>
    refine calls_of Tryz.func216 rfl (by kernel_rfl) ?_
    refine J23 H ?_
    clear H; intro b2 w H
    refine J0 H ?_
    refine J12 H ?_
    refine J108 H ?_
    refine J137 H ?_
    clear H; intro w H
    refine J0 H ?_
    refine C_ret (fn_endC (vs := [lkv .none, .int .i64 0]) _ (.inr rfl) H (fun w' H' => .cellN H' rfl (by repeat (first | exact Reads.nil _ | apply Reads.cons rfl)) (.tmp .nil)) fun w' H' => ⟨rfl, H'.drop⟩)
  | grave =>
    refine calls_of Tryz.func216 rfl (by kernel_rfl) ?_
    refine J23 H ?_
    clear H; intro b2 w H
    refine J0 H ?_
    refine J12 H ?_
    refine J108 H ?_
    refine J109 H ?_
    refine J5 H ?_
    refine J137 H ?_
    clear H; intro w H
    refine J0 H ?_
    refine C_ret (fn_endC (vs := [lkv .grave, .int .i64 0]) _ (.inr rfl) H (fun w' H' => .cellN H' rfl (by repeat (first | exact Reads.nil _ | apply Reads.cons rfl)) (.tmp .nil)) fun w' H' => ⟨rfl, H'.drop⟩)
  | obj i g =>
    have h' := h
    obtain ⟨h1, h2, h3⟩ := h'
    have hw := wordL_obj i g
    have n0 : ((wordL (.obj i g) : Int) == 0) = false := beq_eq_false_iff_ne.2 (by omega)
    have n1 : ((wordL (.obj i g) : Int) == 1) = false := beq_eq_false_iff_ne.2 (by omega)
    have hlt := wordL_lt (l := .obj i g) h
    have hg := getL h
    generalize hW : wordL (.obj i g) = W at n0 n1 hlt hg hw
    refine calls_of Tryz.func216 rfl (by kernel_rfl) ?_
    refine J23 H ?_
    clear H; intro b2 w H
    refine J0 H ?_
    refine J13 H ?_
    refine C_joinQ (fun ms σ w => ms = [] ∧ σ 0 = .int .u64 W ∧ σ 2 = .pointer (some ⟨b2, 0, none⟩) ∧ Holds w (pts b2 (row 109 [.int .i64 0, .int .i64 0, .int .i64 0]) :: fr)) ?_ ?_
    · refine C_block ?_
      refine J5 H ?_
      rw [n0]
      refine J109 H ?_
      refine J5 H ?_
      rw [n1]
      refine J9 H ?_
      exact .inl ⟨rfl, rfl, rfl, rfl, H⟩
    · clear H
      rintro ms σ w ⟨rfl, g0, g2, H⟩
      rw [upd_self g0, upd_self g2]
      refine J16 H ?_
      refine Jc rfl rfl (links_spec H) ?_
      clear H; intro v16 w H
      
      refine Jc rfl rfl (Unpack_spec _ hlt v16 lnkF ris_lnk (by decide) H) ?_
      clear H; rintro v w ⟨u, rfl, H⟩
      rw [hg] at H
      obtain ⟨au, cu, rfl⟩ := sls_slice (m := 2) H rfl (by decide)
      obtain ⟨bu, su, rfl, H, hclose⟩ := sls_open H (by decide)
      refine J136 H ?_
      clear H; intro w H
      refine J76 H ?_
      refine A_indexAddr 1 rfl (Wants.none rfl) rfl rfl (by omega) (by omega) (by kernel_rfl) ?_
      refine A_load1 2 [11] H rfl (Wants.none rfl) rfl rfl (by kernel_rfl) ?_
      refine J134 H ?_
      refine J79 H ?_
      refine A_indexAddr 6 rfl (Wants.none rfl) rfl rfl (by omega) (by omega) (by kernel_rfl) ?_
      refine A_load1 7 [11] H rfl (Wants.none rfl) rfl rfl (by kernel_rfl) ?_
      refine A_convI 8 rfl (Wants.none rfl) rfl (by kernel_rfl) ?_
      refine A_build 9 rfl (Wants.none rfl) rfl (by kernel_rfl) ?_
      have e1 : IntKind.i64.wrap (IntKind.i64.wrap ((i + 2 : Nat) : Int) - 2) = ((i : Nat) : Int) := by
        rw [wrapI_nat (a := i + 2) (by omega), wrap64 (by omega) (by omega)]
        omega
      have e2 : IntKind.i64.wrap (g : Int) = ((g : Nat) : Int) := wrapI_nat (by omega)
      rw [e1, e2]
      refine Jo 10 H ?_
      refine St_alloc H rfl ?_
      clear H; intro b6 w H
      
      refine J96 H ?_
      clear H; intro w H
      refine J4 H ?_
      refine J26 H ?_
      refine Jc rfl rfl (alive_spec i g h H) ?_
      clear H; rintro v w ⟨rfl, H⟩
      refine J35 H ?_
      repeat refine C_seq ?_
      refine C_region ?_
      refine Lp_s rfl (St_loadN H rfl (by repeat (first | exact Reads.nil _ | apply Reads.cons rfl)) rfl ?_)
      refine Lp_s rfl (St_build rfl rfl ?_)
      refine J6 H ?_
      clear H; intro w H
      refine J0 H ?_
      refine C_ret (fn_endC (vs := [lkv (.obj i g), .int .i64 0]) _ (.inr rfl) H (fun w' H' => .cellN H' rfl (by repeat (first | exact Reads.nil _ | apply Reads.cons rfl)) (.tmp .nil)) fun w' H' => ⟨rfl, H'.drop.drop.drop.drop⟩)
end Go.Proofs.YtipelpbkeiphmaaGreatDoor
namespace Go.Proofs.YtipelpbkeiphmaaGreatDoor
open Go.SL

/-- A bitmap: how many places, its words, how many are on. -/
def BM (p n : Nat) (ws : List Nat) (many : Nat) : HProp := ex fun v : Value => star [pts p (row 303 [.int .i64 n, v, .int .i64 many]), UL v ws]
theorem BM_out [Extra] {w : World} {p n : Nat} {ws : List Nat} {m : Nat} {l : List HProp} (H : Holds w (BM p n ws m :: l)) : ∃ v, Holds w (pts p (row 303 [.int .i64 n, v, .int .i64 m]) :: UL v ws :: l) := by
  obtain ⟨v, H⟩ := Holds.ex.1 H
  exact ⟨v, Holds.star.1 H⟩
theorem BM_in [Extra] {w : World} {p n : Nat} {v : Value} {ws : List Nat} {m : Nat} {l : List HProp} (H : Holds w (pts p (row 303 [.int .i64 n, v, .int .i64 m]) :: UL v ws :: l)) : Holds w (BM p n ws m :: l) :=
  Holds.ex.2 ⟨v, Holds.star.2 H⟩
theorem BM_open [Extra] {w : World} {p n x m : Nat} {l : List HProp} (H : Holds w (BM p n [x] m :: l)) : ∃ b cap spare, Holds w (pts p (row 303 [.int .i64 n, .slice (some ⟨b, 0, none⟩) 1 cap, .int .i64 m]) :: pts b (row 127 (.int .u64 x :: spare)) :: l) ∧
    ∀ w' l' (x' m' : Nat), Holds w' (pts p (row 303 [.int .i64 n, .slice (some ⟨b, 0, none⟩) 1 cap, .int .i64 m']) :: pts b (row 127 (.int .u64 x' :: spare)) :: l') → Holds w' (BM p n [x'] m' :: l') := by
  obtain ⟨v, H⟩ := BM_out H
  have H := H.swap
  obtain ⟨a, cap, rfl⟩ := sls_slice (m := 1) H rfl (by decide)
  rcases sls_case H with ⟨h, _⟩ | ⟨b, len, cap', spare, h, e3, e4, e5, H2⟩
  · cases h
  · cases h
    exact ⟨b, cap, spare, H2.swap, fun w' l' x' m' H' => BM_in (Holds.swap (sls_of (c := ucells [x']) rfl e4 e5 H'.swap))⟩

/-- Of one word. -/
structure Bits (n x : Nat) : Prop where
  pos : 0 < n
  le : n ≤ 63
  lt : x < 2 ^ n
theorem Bits.lt64 {n x : Nat} (h : Bits n x) : x < 18446744073709551616 := Nat.lt_of_lt_of_le h.lt (pow_le64 (by have := h.le; omega))
theorem q64 {i : Nat} (h : i < 64) : IntKind.i64.wrap (Int.tdiv (i : Int) 64) = 0 := by
  rw [Int.tdiv_eq_ediv_of_nonneg (by omega), show (i : Int) / 64 = 0 by omega]; rfl
theorem r64 {i : Nat} (h : i < 64) : Int.tmod (i : Int) 64 = i := by
  rw [Int.tmod_eq_emod_of_nonneg (by omega)]; omega
theorem testB (x i : Nat) : ((x / 2 ^ i) &&& 1 = 1) ↔ x.testBit i = true := by
  rw [Nat.and_one_is_mod, Nat.testBit_eq_decide_div_mod_eq]; simp

theorem Len_spec [Extra] (p n : Nat) (ws : List Nat) (m : Nat) {w : World} {fr : List HProp} (H : Holds w (BM p n ws m :: fr)) : Calls Tryz.prog 309 #[pp p] w (ret fun v w' => v = .int .i64 n ∧ Holds w' (BM p n ws m :: fr)) := by
  obtain ⟨v, H⟩ := BM_out H
  refine calls_of Tryz.func309 rfl (by kernel_rfl) ?_
  refine J110 H ?_
  refine J0 H ?_
  exact C_ret (Jy (BM_in H) rfl fun w' H' => ⟨rfl, H'⟩)

theorem Count_spec [Extra] (p n : Nat) (ws : List Nat) (m : Nat) {w : World} {fr : List HProp} (H : Holds w (BM p n ws m :: fr)) : Calls Tryz.prog 123 #[pp p] w (ret fun v w' => v = .int .i64 m ∧ Holds w' (BM p n ws m :: fr)) := by
  obtain ⟨v, H⟩ := BM_out H
  refine calls_of Tryz.func123 rfl (by kernel_rfl) ?_
  refine J110 H ?_
  refine J0 H ?_
  exact C_ret (Jy (BM_in H) rfl fun w' H' => ⟨rfl, H'⟩)

theorem bHas_spec [Extra] (p n x m i : Nat) (hb : Bits n x) (hi : i < n) {w : World} {fr : List HProp} (H : Holds w (BM p n [x] m :: fr)) : Calls Tryz.prog 324 #[pp p, .int .i64 i] w (ret fun v w' => v = .bool (x.testBit i) ∧ Holds w' (BM p n [x] m :: fr)) := by
  have hle := hb.le
  have h64 := hb.lt64
  refine calls_of Tryz.func324 rfl (by kernel_rfl) ?_
  refine J12 H ?_
  refine J10 H ?_
  rw [show decide ((i : Int) ≥ 0) = true from decide_eq_true (by omega)]
  refine J24 H ?_
  refine Lp_g rfl rfl rfl (St_call (a := []) (b := []) rfl rfl (call (Len_spec p n _ _ H) ?_))
  clear H; rintro v w ⟨rfl, H⟩
  refine J22 H ?_
  refine J7 H ?_
  rw [show decide ((i : Int) < (n : Int)) = true from decide_eq_true (by omega)]
  obtain ⟨b, cap, spare, H, hclose⟩ := BM_open H
  refine J111 H ?_
  refine J88 H ?_
  refine J24 H ?_
  rw [q64 (show i < 64 by omega)]
  refine Lp_g rfl rfl rfl (St_indexAddr rfl rfl (by decide) (by decide) rfl ?_)
  refine Lp_g rfl rfl rfl (St_load1 H rfl rfl rfl ?_)
  refine J24 H ?_
  rw [r64 (show i < 64 by omega)]
  refine Lp_gpv rfl rfl (v := .int .u64 (shrI .u64 (x : Int) (i : Int))) (by
    show (if (i : Int) < 0 then none else some _) = _
    rw [if_neg (by omega)]) rfl ?_
  rw [shr_nat (k := .u64) (a := x) (b := i) (by omega) rfl]
  have hq : x / 2 ^ i < 18446744073709551616 := Nat.lt_of_le_of_lt (Nat.div_le_self _ _) h64
  refine Lp_gpv rfl rfl (v := .int .u64 (bitI .and .u64 ((x / 2 ^ i : Nat) : Int) ((1 : Nat) : Int))) rfl rfl ?_
  rw [bit_and hq (by decide)]
  refine J22 H ?_
  refine J3 H ?_
  refine C_ret (Jy (hclose _ _ _ _ H) rfl fun w' H' => ⟨?_, H'⟩)
  show Value.bool (((x / 2 ^ i &&& 1 : Nat) : Int) == 1) = _
  congr 1
  rw [Bool.eq_iff_iff, ← testB]
  simp only [beq_iff_eq]
  omega

/-- A place is turned. -/
def setB (x i : Nat) (on : Bool) : Nat := if x.testBit i = on then x else x ^^^ 2 ^ i
theorem setB_bit (x i : Nat) (on : Bool) (j : Nat) : (setB x i on).testBit j = if j = i then on else x.testBit j := by
  unfold setB
  split
  · rename_i h
    split
    · rename_i e; subst e; exact h
    · rfl
  · rename_i h
    rw [Nat.testBit_xor, Nat.testBit_two_pow]
    split
    · rename_i e
      subst e
      simp
      cases hx : x.testBit j <;> cases on <;> simp_all
    · rename_i e
      have : decide (i = j) = false := decide_eq_false (fun e2 => e e2.symm)
      simp [this]
def cntB (n x : Nat) : Nat := ((List.range n).filter fun i => x.testBit i).length
theorem lt_pow_of_bits {n x : Nat} (h : ∀ j, n ≤ j → x.testBit j = false) : x < 2 ^ n := Nat.lt_pow_two_of_testBit x fun j hj => h j hj
theorem bits_off {n x j : Nat} (h : x < 2 ^ n) (hj : n ≤ j) : x.testBit j = false := Nat.testBit_lt_two_pow (Nat.lt_of_lt_of_le h (Nat.pow_le_pow_right (by decide) hj))
theorem Bits.set {n x i : Nat} {on : Bool} (h : Bits n x) (hi : i < n) : Bits n (setB x i on) := ⟨h.pos, h.le, lt_pow_of_bits fun j hj => by
  rw [setB_bit, if_neg (by omega)]
  exact bits_off h.lt hj⟩
theorem range_count (f g : Nat → Bool) (i : Nat) : ∀ n, i < n → (∀ j, j ≠ i → f j = g j) → f i = false → g i = true → ((List.range n).filter g).length = ((List.range n).filter f).length + 1
  | 0, h, _, _, _ => by omega
  | n + 1, h, hfg, h0, h1 => by
    rw [List.range_succ, List.filter_append, List.filter_append, List.length_append, List.length_append]
    by_cases e : i = n
    · subst e
      have e2 : (List.range i).filter g = (List.range i).filter f := by
        apply List.filter_congr
        intro j hj
        rw [List.mem_range] at hj
        rw [hfg j (by omega)]
      rw [e2]
      simp [h0, h1]
    · have := range_count f g i n (by omega) hfg h0 h1
      have e3 : [n].filter g = [n].filter f := by simp [List.filter_cons, hfg n (fun e' => e e'.symm)]
      rw [e3]
      omega
theorem cntB_set {n x i : Nat} {on : Bool} (hi : i < n) (h : x.testBit i ≠ on) : (on = true → cntB n (setB x i on) = cntB n x + 1) ∧ (on = false → cntB n x = cntB n (setB x i on) + 1) := by
  have hne : ∀ j, j ≠ i → x.testBit j = (setB x i on).testBit j := fun j hj => by rw [setB_bit, if_neg hj]
  have hat : (setB x i on).testBit i = on := by rw [setB_bit, if_pos rfl]
  constructor
  · rintro rfl
    exact range_count _ _ i n hi hne (by simpa using h) hat
  · rintro rfl
    exact range_count _ _ i n hi (fun j hj => (hne j hj).symm) hat (by simpa using h)
theorem cntB_le (n x : Nat) : cntB n x ≤ n := by
  have := List.length_filter_le (fun i => x.testBit i) (List.range n)
  rwa [List.length_range] at this

/-- A bitmap of one word. -/
@[reducible] def BM1 (p n x : Nat) : HProp := BM p n [x] (cntB n x)

theorem turn_spec [Extra] (p n x i : Nat) (on : Bool) (hb : Bits n x) (hi : i < n) {w : World} {fr : List HProp} (H : Holds w (BM1 p n x :: fr)) : Calls Tryz.prog 306 #[pp p, .int .i64 i, .bool on] w (ret fun v w' => Holds w' (BM1 p n (setB x i on) :: fr)) := by
  have hle := hb.le
  have h64 := hb.lt64
  have hcl := cntB_le n x
  have hcl2 := cntB_le n (setB x i on)
  refine calls_of Tryz.func306 rfl (by kernel_rfl) ?_
  refine J2 H ?_
  refine Jc rfl rfl (bHas_spec p n x _ i hb hi H) ?_
  clear H; rintro v w ⟨rfl, H⟩
  refine J7 H ?_
  refine Lp_s rfl (St_eqBool rfl rfl (.inl rfl) rfl ?_)
  refine Lp_nil ?_
  refine J14 H ?_
  refine C_cond rfl (fun h => ?_) (fun h => C_skip ?_)
  · have h1 : x.testBit i = on := by simpa [isEql] using h
    have e : setB x i on = x := if_pos h1
    rw [e]
    exact C_ret (Jy H rfl fun w' H' => H')
  · have h1 : x.testBit i ≠ on := by simpa [isEql] using h
    have e : setB x i on = x ^^^ 2 ^ i := if_neg h1
    obtain ⟨c1, c0⟩ := cntB_set hi h1
    obtain ⟨b, cap, spare, H, hclose⟩ := BM_open H
    have h2i : 2 ^ i < 18446744073709551616 := Nat.lt_of_lt_of_le (Nat.pow_lt_pow_right (by decide) (show i < 64 by omega)) (Nat.le_refl _)
    have e2 : shlI .u64 ((1 : Nat) : Int) (i : Int) = ((2 ^ i : Nat) : Int) := by rw [shl_nat (by omega), Nat.one_mul, Nat.mod_eq_of_lt h2i]
    have e3 : bitI .xor .u64 (x : Int) ((2 ^ i : Nat) : Int) = ((setB x i on : Nat) : Int) := by rw [bit_xor h64 h2i, e]
    refine J1 H ?_
    clear H; intro w H
    refine J28 H ?_
    refine A_load1 3 [13] H rfl (Wants.none rfl) rfl rfl (by kernel_rfl) ?_
    refine J79 H ?_
    rw [q64 (show i < 64 by omega)]
    refine A_indexAddr 6 rfl (Wants.none rfl) rfl rfl (by decide) (by decide) (by kernel_rfl) ?_
    refine A_load1 7 [13] H rfl (Wants.none rfl) rfl rfl (by kernel_rfl) ?_
    refine J55 H ?_
    refine J112 H ?_
    rw [r64 (show i < 64 by omega)]
    refine A_pv (v := .int .u64 (shlI .u64 ((1 : Nat) : Int) (i : Int))) 10 rfl (Wants.none rfl) (by
      show (if (i : Int) < 0 then none else some _) = _
      rw [if_neg (by omega)]; rfl) (by kernel_rfl) ?_
    rw [e2]
    refine A_pv (v := .int .u64 (bitI .xor .u64 (x : Int) ((2 ^ i : Nat) : Int))) 11 rfl (Wants.none rfl) rfl (by kernel_rfl) ?_
    rw [e3]
    refine A_indexAddr 12 rfl (Wants.none rfl) rfl rfl (by decide) (by decide) (by kernel_rfl) ?_
    refine Jo 13 H ?_
    refine J113 H ?_
    clear H; intro w H
    refine J4 H ?_
    refine J37 H ?_
    refine J172 H ?_
    clear H; intro w H
    refine Lp_nil ?_
    refine J12 H ?_
    cases on with
    | true =>
      refine J33 H ?_
      refine J37 H ?_
      refine J172 H ?_
      clear H; intro w H
      refine Lp_nil ?_
      have hc : IntKind.i64.wrap (IntKind.i64.wrap ((cntB n x : Nat) - 1 : Int) + 2) = ((cntB n (setB x i true) : Nat) : Int) := by
        have := c1 rfl
        rw [wrap64 (x := ((cntB n x : Nat) : Int) - 1) (by omega) (by omega), wrap64 (by omega) (by omega)]; omega
      rw [hc] at H
      exact fn_end0 _ (.inl rfl) (hclose _ _ _ _ H) rfl fun w' H' => H'
    | false =>
      refine J9 H ?_
      have hc : IntKind.i64.wrap ((cntB n x : Nat) - 1 : Int) = ((cntB n (setB x i false) : Nat) : Int) := by
        have := c0 rfl
        rw [wrap64 (by omega) (by omega)]; omega
      rw [hc] at H
      exact fn_end0 _ (.inl rfl) (hclose _ _ _ _ H) rfl fun w' H' => H'
end Go.Proofs.YtipelpbkeiphmaaGreatDoor
namespace Go.Proofs.YtipelpbkeiphmaaGreatDoor
open Go.SL

def fillB (x a : Nat) : Nat → Bool → Nat
  | 0, _ => x
  | k + 1, on => setB (fillB x a k on) (a + k) on
theorem fillB_bit (x a : Nat) (on : Bool) (j : Nat) : ∀ k, (fillB x a k on).testBit j = if a ≤ j ∧ j < a + k then on else x.testBit j
  | 0 => by simp [fillB]; omega
  | k + 1 => by
    show (setB _ _ _).testBit j = _
    rw [setB_bit, fillB_bit x a on j k]
    by_cases h1 : j = a + k
    · rw [if_pos h1, if_pos (by omega)]
    · rw [if_neg h1]
      by_cases h2 : a ≤ j ∧ j < a + k
      · rw [if_pos h2, if_pos (by omega)]
      · rw [if_neg h2, if_neg (by omega)]
theorem Bits.fill {n x a : Nat} {on : Bool} (h : Bits n x) : ∀ {k : Nat}, a + k ≤ n → Bits n (fillB x a k on)
  | 0, _ => h
  | k + 1, hk => Bits.set (Bits.fill h (by omega)) (by omega)

theorem Fill_spec [Extra] (p n x a k : Nat) (on : Bool) (hb : Bits n x) (hk : a + k ≤ n) {w : World} {fr : List HProp} (H : Holds w (BM1 p n x :: fr)) :
    Calls Tryz.prog 255 #[pp p, .int .i64 a, .int .i64 k, .bool on] w (ret fun v w' => v = .int .i64 0 ∧ Holds w' (BM1 p n (fillB x a k on) :: fr)) := by
  have hle := hb.le
  refine calls_of Tryz.func255 rfl (by kernel_rfl) ?_
  refine J13 H ?_
  refine C_joinQ (fun ms σ w => ms = [] ∧ σ 0 = pp p ∧ σ 1 = .int .i64 a ∧ σ 2 = .int .i64 k ∧ σ 3 = .bool on ∧ Holds w (BM1 p n x :: fr)) ?_ ?_
  · refine C_block ?_
    obtain ⟨b, cap, spare, H, hclose⟩ := BM_open H
    refine J179 H ?_
    refine J10 H ?_
    rw [show decide ((k : Int) < 0) = false from decide_eq_false (by omega)]
    refine J58 H ?_
    rw [show decide ((a : Int) < 0) = false from decide_eq_false (by omega)]
    refine J80 H ?_
    refine J45 H ?_
    refine J11 H ?_
    rw [show decide ((a : Int) > (n : Int)) = false from decide_eq_false (by omega)]
    refine Lp_gpv rfl rfl rfl rfl ?_
    refine Lp_gpv rfl rfl rfl rfl ?_
    refine Lp_gpv rfl rfl rfl rfl ?_
    refine Lp_g rfl rfl rfl (St_fieldAddr rfl rfl ?_)
    refine Lp_g rfl rfl rfl (St_load1 H rfl rfl rfl ?_)
    refine J80 H ?_
    refine J3 H ?_
    rw [show decide ((k : Int) > IntKind.i64.wrap ((n : Int) - (a : Int))) = false from decide_eq_false (by rw [wrap64 (by omega) (by omega)]; omega)]
    refine J9 H ?_
    exact .inl ⟨rfl, rfl, rfl, rfl, rfl, rfl, hclose _ _ _ _ H⟩
  · clear H
    rintro ms σ w ⟨rfl, g0, g1, g2, g3, H⟩
    rw [upd_self g0, upd_self g1, upd_self g2, upd_self g3]
    refine J5 H ?_
    refine J21 H ?_
    refine C_loop (fun ms σ w q => ms = [] ∧ ∃ j : Nat, j ≤ k ∧ q = k - j ∧ σ 0 = pp p ∧ σ 1 = .int .i64 a ∧ σ 2 = .int .i64 k ∧ σ 3 = .bool on ∧ σ 9 = .int .i64 ((a + j : Nat) : Int) ∧ Holds w (BM1 p n (fillB x a j on) :: fr)) (m := k) ⟨rfl, 0, by omega, rfl, rfl, rfl, rfl, rfl, rfl, H⟩ ?_
    clear H
    rintro ms σ w q ⟨rfl, j, hj, rfl, g0, g1, g2, g3, g9, H⟩
    rw [upd_self g0, upd_self g1, upd_self g2, upd_self g3, upd_self g9]
    refine J81 H ?_
    rw [wrap64 (x := (a : Int) + (k : Int)) (by omega) (by omega)]
    refine J14 H ?_
    refine C_dec rfl (fun h => C_skip ?_) (fun h => C_exit ?_)
    · have hlt : j < k := by omega
      refine J21 H ?_
      refine J10 H ?_
      refine Jc rfl rfl (turn_spec p n _ (a + j) on (hb.fill (by omega)) (by omega) H) ?_
      clear H; intro v w H
      refine J138 H ?_
      exact ⟨_, ⟨rfl, j + 1, hlt, rfl, rfl, rfl, rfl, rfl, by rw [show ((a + (j + 1) : Nat) : Int) = ((a + j : Nat) : Int) + 1 by omega]; exact inc64 (i := a + j) (by omega), H⟩, by omega⟩
    · have hge : j = k := by omega
      subst hge
      refine J12 H ?_
      exact C_ret (Jy H rfl fun w' H' => ⟨rfl, H'⟩)

theorem bSet_spec [Extra] (p n x i : Nat) (on : Bool) (hb : Bits n x) (hi : i < n) {w : World} {fr : List HProp} (H : Holds w (BM1 p n x :: fr)) :
    Calls Tryz.prog 248 #[pp p, .int .i64 i, .bool on] w (ret fun v w' => v = .int .i64 0 ∧ Holds w' (BM1 p n (setB x i on) :: fr)) := by
  refine calls_of Tryz.func248 rfl (by kernel_rfl) ?_
  refine J12 H ?_
  refine J10 H ?_
  refine Jc rfl rfl (Fill_spec p n x i 1 on hb (by omega) H) ?_
  clear H; rintro v w ⟨rfl, H⟩
  refine J0 H ?_
  exact C_ret (Jy H rfl fun w' H' => ⟨rfl, H'⟩)

theorem bNew_spec [Extra] (n : Nat) (h1 : 0 < n) (h2 : n ≤ 1048576) {w : World} {fr : List HProp} (H : Holds w fr) :
    Calls Tryz.prog 256 #[.int .i64 n] w (ret fun v w' => ∃ p, v = .tuple #[pp p, .int .i64 0] ∧ Holds w' (BM p n (List.replicate ((n + 63) / 64) 0) 0 :: fr)) := by
  refine calls_of Tryz.func256 rfl (by kernel_rfl) ?_
  refine J5 H ?_
  refine J10 H ?_
  rw [show decide ((n : Int) < 1) = false from decide_eq_false (by omega)]
  refine J24 H ?_
  refine J0 H ?_
  rw [show decide ((n : Int) > 1048576) = false from decide_eq_false (by omega)]
  refine J9 H ?_
  refine J139 H ?_
  have e1 : IntKind.i64.wrap (Int.tdiv (IntKind.i64.wrap ((n : Int) + 63)) 64) = (((n + 63) / 64 : Nat) : Int) := by
    rw [wrap64 (x := (n : Int) + 63) (by omega) (by omega), Int.tdiv_eq_ediv_of_nonneg (by omega), wrap64 (by omega) (by omega)]; omega
  rw [e1]
  refine Lp_s rfl (St_makeSlice H rfl rfl (by decide) (by omega) rfl ?_)
  clear H; intro b14 w H
  refine J40 H ?_
  clear H; intro b16 w H
  refine J3 H ?_
  have e : zeros (cellsL (.int .u64 0)) ((n + 63) / 64) = ucells (List.replicate ((n + 63) / 64) 0) := by
    rw [show cellsL (.int .u64 0) = [.int .u64 0] from rfl, zeros1]; simp [ucells]
  rw [e] at H
  exact C_ret (Jy (BM_in H) rfl fun w' H' => ⟨_, rfl, H'⟩)

/-! ### The first one that is off, or on -/

theorem ctz_bits {y : Nat} (h0 : y ≠ 0) (h : y < 18446744073709551616) : Lib.ctz 64 y < 64 ∧ y.testBit (Lib.ctz 64 y) = true ∧ ∀ i, i < Lib.ctz 64 y → y.testBit i = false := by
  obtain ⟨m, hm, hk⟩ := Lib.ctzFrom_spec 64 y (by omega) h
  have e : Lib.ctz 64 y = Lib.ctzFrom 64 y := by simp [Lib.ctz, h0]
  rw [e]
  generalize Lib.ctzFrom 64 y = k at hm hk
  subst hm
  refine ⟨hk, ?_, fun i hi => ?_⟩
  · rw [Nat.testBit_eq_decide_div_mod_eq, Nat.mul_div_cancel_left _ (Nat.two_pow_pos k)]
    simp
  · rw [Nat.testBit_eq_decide_div_mod_eq]
    have : 2 ^ k * (2 * m + 1) / 2 ^ i = 2 * (2 ^ (k - i - 1) * (2 * m + 1)) := by
      have h2 : 2 ^ k = 2 ^ i * (2 * 2 ^ (k - i - 1)) := by
        rw [← Nat.pow_succ', ← Nat.pow_add]
        congr 1
        omega
      rw [h2, Nat.mul_assoc, Nat.mul_div_cancel_left _ (Nat.two_pow_pos i), Nat.mul_assoc]
    rw [this]
    simp

theorem Tz_spec [Extra] (x : Nat) (hx : x < 18446744073709551616) {w : World} {fr : List HProp} [hT : HasTab 0 Lib.deBruijn64tab fr] (H : Holds w fr) : Calls Tryz.prog 288 #[.int .u64 x] w (ret fun v w' => v = .int .i64 (Lib.ctz 64 x) ∧ Holds w' fr) := by
  refine (Any7.bits_TrailingZeros64 Tryz.laysTz x hx w (fun _ => hT.tab w H.1)).mono ?_
  rintro e w' ⟨rfl, rfl⟩
  exact ⟨rfl, H⟩

theorem compl_bit {x i : Nat} (hx : x < 18446744073709551616) : (18446744073709551615 - x).testBit i = (decide (i < 64) && !x.testBit i) := by
  have e : 18446744073709551615 - x = 2 ^ 64 - (x + 1) := by omega
  rw [e, Nat.testBit_two_pow_sub_succ hx]
theorem div_bit (x a i : Nat) : (x / 2 ^ a).testBit i = x.testBit (a + i) := by
  rw [Nat.testBit_div_two_pow, Nat.add_comm]

/-- The first one that is off, from a on. -/
def FirstB (n x a : Nat) (v : Value) : Prop :=
  (∃ j : Nat, v = .tuple #[.int .i64 j, .bool true] ∧ a ≤ j ∧ j < n ∧ x.testBit j = false ∧ ∀ i, a ≤ i → i < j → x.testBit i = true) ∨ (v = .tuple #[.int .i64 0, .bool false] ∧ ∀ i, a ≤ i → i < n → x.testBit i = true)

theorem First_spec [Extra] (p n x a m : Nat) (hb : Bits n x) (ha : a ≤ n) {w : World} {fr : List HProp} [hT : HasTab 0 Lib.deBruijn64tab fr] (H : Holds w (BM p n [x] m :: fr)) :
    Calls Tryz.prog 262 #[pp p, .int .i64 a] w (ret fun v w' => FirstB n x a v ∧ Holds w' (BM p n [x] m :: fr)) := by
  have hle := hb.le
  have h64 := hb.lt64
  refine calls_of Tryz.func262 rfl (by kernel_rfl) ?_
  refine J5 H ?_
  refine J16 H ?_
  refine Lp_s rfl (St_max rfl rfl rfl ?_)
  rw [show (if (0 : Int) > (a : Int) then (0 : Int) else (a : Int)) = (a : Int) from if_neg (by omega)]
  refine J15 H ?_
  refine C_joinQ (fun ms σ w => ms = [] ∧ ∃ j : Nat, σ 0 = pp p ∧ σ 1 = .int .i64 j ∧ a ≤ j ∧ j ≤ 64 ∧ (∀ i, a ≤ i → i < j → x.testBit i = true) ∧ (j < n → x.testBit j = false) ∧ Holds w (BM p n [x] m :: fr)) ?_ ?_
  · refine C_block ?_
    refine C_loop (fun ms σ w q => ms = [] ∧ q = 0 ∧ σ 0 = pp p ∧ σ 1 = .int .i64 a ∧ Holds w (BM p n [x] m :: fr)) (m := 0) ⟨rfl, rfl, rfl, rfl, H⟩ ?_
    clear H
    rintro ms σ w q ⟨rfl, rfl, g0, g1, H⟩
    rw [upd_self g0, upd_self g1]
    refine J2 H ?_
    refine Jc rfl rfl (Len_spec p n _ _ H) ?_
    clear H; rintro v w ⟨rfl, H⟩
    refine J15 H ?_
    refine C_dec rfl (fun h => C_skip ?_) (fun h => C_exit ?_)
    · have hlt : a < n := by omega
      have hq : (18446744073709551615 - x) / 2 ^ a < 18446744073709551616 := Nat.lt_of_le_of_lt (Nat.div_le_self _ _) (by omega)
      have hbit : ∀ i, ((18446744073709551615 - x) / 2 ^ a).testBit i = (decide (a + i < 64) && !x.testBit (a + i)) := fun i => by rw [div_bit, compl_bit h64]
      have hne : (18446744073709551615 - x) / 2 ^ a ≠ 0 := fun e => by
        have := hbit (63 - a)
        rw [e, Nat.zero_testBit, show a + (63 - a) = 63 by omega, bits_off hb.lt hle] at this
        simp at this
      obtain ⟨c1, c2, c3⟩ := ctz_bits hne hq
      refine J21 H ?_
      obtain ⟨b, cap, spare, H, hclose⟩ := BM_open H
      refine J37 H ?_
      rw [q64 (show a < 64 by omega)]
      refine Lp_s rfl (St_indexAddr rfl rfl (by decide) (by decide) rfl ?_)
      refine J94 H ?_
      refine Lp_s rfl (St_compl h64 rfl rfl ?_)
      refine J11 H ?_
      rw [r64 (show a < 64 by omega)]
      refine Lp_pv (v := .int .u64 (shrI .u64 ((18446744073709551615 - x : Nat) : Int) (a : Int))) (by
        show (if (a : Int) < 0 then none else some _) = _
        rw [if_neg (by omega)]) rfl ?_
      rw [shr_nat (k := .u64) (by omega) rfl]
      refine J25 H ?_
      generalize (18446744073709551615 - x) / 2 ^ a = y at *
      rw [show ((y : Int) != 0) = true by simp; omega]
      refine J33 H ?_
      replace H := hclose _ _ _ _ H
      refine J2 H ?_
      refine Jc rfl rfl (Tz_spec y hq H) ?_
      clear H; rintro v w ⟨rfl, H⟩
      refine J3 H ?_
      have hk := hbit (Lib.ctz 64 y)
      rw [c2] at hk
      simp at hk
      refine C_exit (.inl ⟨rfl, rfl, a + Lib.ctz 64 y, rfl, ?_, by omega, by omega, fun i h1 h2 => ?_, fun _ => by simpa using hk.2, H⟩)
      · show Value.int .i64 (IntKind.i64.wrap ((a : Int) + (Lib.ctz 64 y : Nat))) = _
        rw [wrap64 (by omega) (by omega)]; congr 1
      · have := hbit (i - a)
        rw [c3 (i - a) (by omega), show a + (i - a) = i by omega] at this
        simp at this
        exact this (by omega)
    · have hge : a = n := by omega
      exact .inl ⟨rfl, rfl, a, rfl, rfl, by omega, by omega, fun i h1 h2 => by omega, fun h => by omega, H⟩
  · clear H
    rintro ms σ w ⟨rfl, j, g0, g1, h1, h2, h3, h4, H⟩
    rw [upd_self g0, upd_self g1]
    refine J2 H ?_
    refine Jc rfl rfl (Len_spec p n _ _ H) ?_
    clear H; rintro v w ⟨rfl, H⟩
    refine J15 H ?_
    refine C_dec rfl (fun h => ?_) (fun h => C_skip ?_)
    · refine J5 H ?_
      exact C_ret (Jy H rfl fun w' H' => ⟨.inr ⟨rfl, fun i h5 h6 => h3 i h5 (by omega)⟩, H'⟩)
    · refine J20 H ?_
      exact C_ret (Jy H rfl fun w' H' => ⟨.inl ⟨j, rfl, h1, by omega, h4 (by omega), h3⟩, H'⟩)

/-- The first one that is on, from a on; the length, if there is none. -/
theorem next_spec [Extra] (p n x a m : Nat) (hb : Bits n x) (ha : a ≤ n) {w : World} {fr : List HProp} [hT : HasTab 0 Lib.deBruijn64tab fr] (H : Holds w (BM p n [x] m :: fr)) :
    Calls Tryz.prog 211 #[pp p, .int .i64 a] w (ret fun v w' => (∃ e : Nat, v = .int .i64 e ∧ a ≤ e ∧ e ≤ n ∧ (∀ i, a ≤ i → i < e → x.testBit i = false) ∧ (e < n → x.testBit e = true)) ∧ Holds w' (BM p n [x] m :: fr)) := by
  have hle := hb.le
  have h64 := hb.lt64
  refine calls_of Tryz.func211 rfl (by kernel_rfl) ?_
  refine J13 H ?_
  refine C_joinQ (fun ms σ w => ms = [] ∧ σ 0 = pp p ∧ (∀ i, a ≤ i → i < n → x.testBit i = false) ∧ Holds w (BM p n [x] m :: fr)) ?_ ?_
  · refine C_block ?_
    refine C_loop (fun ms σ w q => ms = [] ∧ ∃ j : Nat, (q = if j < n then 1 else 0) ∧ (j < n → j = a) ∧ σ 0 = pp p ∧ σ 1 = .int .i64 j ∧ (j < n ∨ ∀ i, a ≤ i → i < n → x.testBit i = false) ∧ Holds w (BM p n [x] m :: fr)) (m := if a < n then 1 else 0) ⟨rfl, a, rfl, fun _ => rfl, rfl, rfl, by
      by_cases h : a < n
      · exact .inl h
      · exact .inr fun i h1 h2 => by omega, H⟩ ?_
    clear H
    rintro ms σ w q ⟨rfl, j, rfl, hj, g0, g1, h5, H⟩
    rw [upd_self g0, upd_self g1]
    obtain ⟨b, cap, spare, H, hclose⟩ := BM_open H
    refine J66 H ?_
    refine J15 H ?_
    refine C_dec rfl (fun h => C_skip ?_) (fun h => C_exit ?_)
    · have hlt : j < n := by omega
      have := hj hlt
      subst this
      have hq : x / 2 ^ j < 18446744073709551616 := Nat.lt_of_le_of_lt (Nat.div_le_self _ _) (by omega)
      have hbit : ∀ i, (x / 2 ^ j).testBit i = x.testBit (j + i) := fun i => by rw [div_bit]
      refine J21 H ?_
      refine J37 H ?_
      rw [q64 (show j < 64 by omega)]
      refine Lp_s rfl (St_indexAddr rfl rfl (by decide) (by decide) rfl ?_)
      refine J94 H ?_
      refine J11 H ?_
      rw [r64 (show j < 64 by omega)]
      refine Lp_pv (v := .int .u64 (shrI .u64 (x : Int) (j : Int))) (by
        show (if (j : Int) < 0 then none else some _) = _
        rw [if_neg (by omega)]) rfl ?_
      rw [shr_nat (k := .u64) (by omega) rfl]
      refine J25 H ?_
      replace H := hclose _ _ _ _ H
      generalize x / 2 ^ j = y at *
      refine J14 H ?_
      by_cases hy : y = 0
      · rw [show ((y : Int) != 0) = false by simp [hy]]
        refine J9 H ?_
        refine J81 H ?_
        refine ⟨_, ⟨rfl, 64, rfl, fun h => by omega, rfl, ?_, .inr fun i h1 h2 => ?_, H⟩, by rw [if_pos hlt, if_neg (by omega)]; decide⟩
        · show Value.int .i64 (IntKind.i64.wrap (IntKind.i64.wrap (IntKind.i64.wrap (Int.tdiv (j : Int) 64) + 1) * 64)) = _
          rw [q64 (show j < 64 by omega)]; rfl
        · have := hbit (i - j)
          rw [hy, Nat.zero_testBit, show j + (i - j) = i by omega] at this
          exact this.symm
      · rw [show ((y : Int) != 0) = true by simp; omega]
        refine J33 H ?_
        obtain ⟨c1, c2, c3⟩ := ctz_bits hy hq
        refine J2 H ?_
        refine Jc rfl rfl (Tz_spec y hq H) ?_
        clear H; rintro v w ⟨rfl, H⟩
        refine J3 H ?_
        have hk := hbit (Lib.ctz 64 y)
        rw [c2] at hk
        have hn : j + Lib.ctz 64 y < n := by
          rcases Nat.lt_or_ge (j + Lib.ctz 64 y) n with h | h
          · exact h
          · rw [bits_off hb.lt h] at hk; cases hk
        refine C_ret (.inr ⟨by simp, Jy H rfl fun w' H' => ⟨⟨j + Lib.ctz 64 y, ?_, by omega, by omega, fun i h1 h2 => ?_, fun _ => hk.symm⟩, H'⟩⟩)
        · show Value.int .i64 (IntKind.i64.wrap ((j : Int) + (Lib.ctz 64 y : Nat))) = _
          rw [wrap64 (by omega) (by omega)]; congr 1
        · have := hbit (i - j)
          rw [c3 (i - j) (by omega), show j + (i - j) = i by omega] at this
          exact this.symm
    · exact .inl ⟨rfl, rfl, rfl, by
        rcases h5 with h5 | h5
        · omega
        · exact h5, hclose _ _ _ _ H⟩
  · clear H
    rintro ms σ w ⟨rfl, g0, h1, H⟩
    rw [upd_self g0]
    obtain ⟨b, cap, spare, H, hclose⟩ := BM_open H
    refine J48 H ?_
    refine J0 H ?_
    exact C_ret (Jy (hclose _ _ _ _ H) rfl fun w' H' => ⟨⟨n, rfl, ha, Nat.le_refl _, h1, fun h => by omega⟩, H'⟩)

/-- So many in a row that are off. -/
def RunB (n x k : Nat) (v : Value) : Prop :=
  (∃ a : Nat, v = .tuple #[.int .i64 a, .bool true] ∧ a + k ≤ n ∧ ∀ i, a ≤ i → i < a + k → x.testBit i = false) ∨
  (v = .tuple #[.int .i64 0, .bool false] ∧ ∀ a, a + k ≤ n → ∃ i, a ≤ i ∧ i < a + k ∧ x.testBit i = true)

theorem Run_spec [Extra] (p n x k m : Nat) (hb : Bits n x) (hk : 1 ≤ k) (hk2 : k < 1000000) {w : World} {fr : List HProp} [hT : HasTab 0 Lib.deBruijn64tab fr] (H : Holds w (BM p n [x] m :: fr)) :
    Calls Tryz.prog 254 #[pp p, .int .i64 k] w (ret fun v w' => RunB n x k v ∧ Holds w' (BM p n [x] m :: fr)) := by
  have hle := hb.le
  refine calls_of Tryz.func254 rfl (by kernel_rfl) ?_
  refine J5 H ?_
  refine J5 H ?_
  rw [show decide ((k : Int) < 1) = false from decide_eq_false (by omega)]
  refine J9 H ?_
  refine J16 H ?_
  refine Jc rfl rfl (First_spec p n x 0 m hb (by omega) H) ?_
  clear H; rintro v w ⟨hF, H⟩
  have hI : ∃ (j : Nat) (ok : Bool), v = .tuple #[.int .i64 j, .bool ok] ∧ (ok = true → j < n ∧ x.testBit j = false ∧ ∀ a, a < j → a + k ≤ n → ∃ i, a ≤ i ∧ i < a + k ∧ x.testBit i = true) ∧
      (ok = false → ∀ a, a + k ≤ n → ∃ i, a ≤ i ∧ i < a + k ∧ x.testBit i = true) := by
    rcases hF with ⟨j, rfl, _, h2, h3, h4⟩ | ⟨rfl, h2⟩
    · exact ⟨j, true, rfl, fun _ => ⟨h2, h3, fun a ha _ => ⟨a, Nat.le_refl _, by omega, h4 a (by omega) ha⟩⟩, fun h => by cases h⟩
    · exact ⟨0, false, rfl, (fun h => by cases h), fun _ a ha => ⟨a, Nat.le_refl _, by omega, h2 a (by omega) (by omega)⟩⟩
  obtain ⟨j, ok, rfl, hok, hno⟩ := hI
  refine J30 H ?_
  refine J49 H ?_
  refine C_loop (fun ms σ w q => ms = [] ∧ ∃ (j : Nat) (ok : Bool), (q = if ok then n - j else 0) ∧ σ 0 = pp p ∧ σ 1 = .int .i64 k ∧ σ 6 = .int .i64 j ∧ σ 7 = .bool ok ∧ (ok = true → j < n ∧ x.testBit j = false ∧ ∀ a, a < j → a + k ≤ n → ∃ i, a ≤ i ∧ i < a + k ∧ x.testBit i = true) ∧
      (ok = false → ∀ a, a + k ≤ n → ∃ i, a ≤ i ∧ i < a + k ∧ x.testBit i = true) ∧ Holds w (BM p n [x] m :: fr)) (m := if ok then n - j else 0) ⟨rfl, j, ok, rfl, rfl, rfl, rfl, rfl, hok, hno, H⟩ ?_
  clear H hF hok hno
  rintro ms σ w q ⟨rfl, j, ok, rfl, g0, g1, g6, g7, hok, hno, H⟩
  rw [upd_self g0, upd_self g1, upd_self g6, upd_self g7]
  refine J13 H ?_
  cases ok with
  | true =>
    obtain ⟨h1, h2, h3⟩ := hok rfl
    refine C_true rfl (C_skip ?_)
    refine J21 H ?_
    refine J2 H ?_
    refine Jc rfl rfl (next_spec p n x j m hb (by omega) H) ?_
    clear H; rintro v w ⟨⟨e, rfl, e1, e2, e3, e4⟩, H⟩
    refine J0 H ?_
    refine J81 H ?_
    rw [wrap64 (x := (e : Int) - (j : Int)) (by omega) (by omega)]
    refine J14 H ?_
    refine C_dec rfl (fun h => ?_) (fun h => C_skip ?_)
    · refine J20 H ?_
      exact C_ret (Jy H rfl fun w' H' => ⟨.inl ⟨j, rfl, by omega, fun i h5 h6 => e3 i h5 (by omega)⟩, H'⟩)
    · have hej : j < e := by
        rcases Nat.lt_or_ge j e with h | h
        · exact h
        · have : e = j := by omega
          subst this
          have := e4 h1
          rw [h2] at this; cases this
      have hF : ∀ a, a ≤ e → a + k ≤ n → ∃ i, a ≤ i ∧ i < a + k ∧ x.testBit i = true := fun a ha hk' => by
        rcases Nat.lt_or_ge a j with h' | h'
        · exact h3 a h' hk'
        · exact ⟨e, ha, by omega, e4 (by omega)⟩
      refine J2 H ?_
      refine Jc rfl rfl (First_spec p n x e m hb (by omega) H) ?_
      clear H; rintro v w ⟨hF2, H⟩
      rcases hF2 with ⟨j2, rfl, f1, f2, f3, f4⟩ | ⟨rfl, f2⟩
      · refine J114 H ?_
        refine ⟨_, ⟨rfl, j2, true, rfl, rfl, rfl, rfl, rfl, fun _ => ⟨f2, f3, fun a ha hk' => ?_⟩, (fun h => by cases h), H⟩, by simp; omega⟩
        rcases Nat.lt_or_ge e a with h' | h'
        · exact ⟨a, Nat.le_refl _, by omega, f4 a (by omega) ha⟩
        · exact hF a h' hk'
      · refine J114 H ?_
        refine ⟨_, ⟨rfl, 0, false, rfl, rfl, rfl, rfl, rfl, (fun h => by cases h), fun _ a hk' => ?_, H⟩, by simp; omega⟩
        rcases Nat.lt_or_ge e a with h' | h'
        · exact ⟨a, Nat.le_refl _, by omega, f2 a (by omega) (by omega)⟩
        · exact hF a h' hk'
  | false =>
    refine C_false rfl (C_exit ?_)
    refine J5 H ?_
    exact C_ret (Jy H rfl fun w' H' => ⟨.inr ⟨rfl, hno rfl⟩, H'⟩)
end Go.Proofs.YtipelpbkeiphmaaGreatDoor
