/- Cells: what is proved on the way: every input of the statement; no condition. Texts joined: NewA RefA RefB RefC NewB RefD ModA ModB ModC ModD ModE LawP LawQ. -/
import Derived.Test.YtcaaojbnjfdglaaGreatDoorCif
import Derived.Test.YtcaaojbnjfdglaaGreatDoorCik
import Derived.Test.YtcaaojbnjfdglaaGreatDoorCih
import Derived.Test.YtcaaojbnjfdglaaGreatDoorCij
set_option linter.unusedVariables false
set_option linter.unusedSimpArgs false
set_option linter.unusedSectionVars false
namespace Go.Proofs.YtcaaojbnjfdglaaGreatDoor
open Go.SL

theorem valid_nil [Extra] (i g : Int) {w : World} {fr : List HProp} (H : Holds w fr) :
    Calls Tryz.prog 67 #[.pointer none, tkI2 i g] w (ret fun v w' => v = .tuple #[.agg #[.int .i64 0, .int .i64 0, .bool false, .bool false], .int .i64 1] ∧ Holds w' fr) := by
  refine calls_of Tryz.func67 rfl (by kernel_rfl) ?_
  refine J6 H ?_
  clear H; intro b3 w H
  refine J16 H ?_
  clear H; intro b4 w H
  refine J0 H ?_
  refine J165 H ?_
  refine J171 H ?_
  clear H; intro w H
  refine J0 H ?_
  exact C_ret (Jz H (fun w' H' => .cellN H' rfl (by repeat (first | exact Reads.nil _ | apply Reads.cons rfl)) (.tmp .nil)) fun w' H' => ⟨rfl, H'.drop.drop⟩)
theorem with_nil [Extra] (i g : Int) (f : Value) {w : World} {fr : List HProp} (H : Holds w fr) :
    Calls Tryz.prog 56 #[.pointer none, tkI2 i g, f] w (ret fun v w' => v = .int .i64 1 ∧ Holds w' fr) := by
  refine calls_of Tryz.func56 rfl (by kernel_rfl) ?_
  refine J6 H ?_
  clear H; intro b4 w H
  refine J66 H ?_
  refine Jc rfl rfl (valid_nil i g H) ?_
  clear H; rintro v w ⟨rfl, H⟩
  refine J11 H ?_
  clear H; intro b7 w H
  refine J4 H ?_
  clear H; intro w H
  refine J163 H ?_
  exact C_ret (Jy H rfl fun w' H' => ⟨rfl, H'.drop.drop⟩)
theorem Define_nil [Extra] (x : Value) {w : World} {fr : List HProp} (H : Holds w fr) :
    Calls Tryz.prog 34 #[.pointer none, x] w (ret fun v w' => v = .tuple #[.int .i64 0, .int .i64 1] ∧ Holds w' fr) := by
  refine calls_of Tryz.func34 rfl (by kernel_rfl) ?_
  refine J8 H ?_
  refine J165 H ?_
  refine J24 H ?_
  exact C_ret (Jy H rfl fun w' H' => ⟨rfl, H'⟩)
theorem Open_nil [Extra] (x : Int) {w : World} {fr : List HProp} (H : Holds w fr) :
    Calls Tryz.prog 35 #[.pointer none, .int .i64 x] w (ret fun v w' => v = .tuple #[.int .i64 0, .int .i64 1] ∧ Holds w' fr) := by
  refine calls_of Tryz.func35 rfl (by kernel_rfl) ?_
  refine J8 H ?_
  refine J165 H ?_
  refine J24 H ?_
  exact C_ret (Jy H rfl fun w' H' => ⟨rfl, H'⟩)
theorem Make_nil [Extra] (x y z : Int) {w : World} {fr : List HProp} (H : Holds w fr) :
    Calls Tryz.prog 29 #[.pointer none, .int .i64 x, .int .i64 y, .int .i64 z] w (ret fun v w' => v = .tuple #[tkI2 0 0, .int .i64 1] ∧ Holds w' fr) := by
  refine calls_of Tryz.func29 rfl (by kernel_rfl) ?_
  refine J18 H ?_
  clear H; intro b8 w H
  refine J31 H ?_
  refine C_joinQ (fun ms σ w => False) ?_ ?_
  · refine C_block ?_
    refine J178 H ?_
    refine J84 H ?_
    clear H; intro w H
    refine J0 H ?_
    refine C_ret (.inr ⟨by simp, Jz H (fun w' H' => .cellN H' rfl (by repeat (first | exact Reads.nil _ | apply Reads.cons rfl)) (.tmp .nil)) fun w' H' => ⟨rfl, H'.drop⟩⟩)
  · rintro ms σ w h
    exact h.elim
theorem Get_nil [Extra] (i g : Int) (x : Int) {w : World} {fr : List HProp} (H : Holds w fr) :
    Calls Tryz.prog 19 #[.pointer none, tkI2 i g, .int .i64 x] w (ret fun v w' => v = .tuple #[.int .u64 0, .int .i64 1] ∧ Holds w' fr) := by
  refine calls_of Tryz.func19 rfl (by kernel_rfl) ?_
  refine J37 H ?_
  clear H; intro b3 w H
  refine J25 H ?_
  clear H; intro b4 w H
  refine J46 H ?_
  clear H; intro b5 w H
  refine J3 H ?_
  refine J18 H ?_
  clear H; intro b8 w H
  refine J123 H ?_
  refine Jc rfl rfl (with_nil i g _ H) ?_
  clear H; rintro v w ⟨rfl, H⟩
  refine J0 H ?_
  refine J124 H ?_
  refine J96 H ?_
  exact C_ret (Jy H rfl fun w' H' => ⟨rfl, H'.drop.drop.drop.drop⟩)
theorem Set_nil [Extra] (i g : Int) (x : Int) (y : Nat) {w : World} {fr : List HProp} (H : Holds w fr) :
    Calls Tryz.prog 22 #[.pointer none, tkI2 i g, .int .i64 x, .int .u64 y] w (ret fun v w' => v = .int .i64 1 ∧ Holds w' fr) := by
  refine calls_of Tryz.func22 rfl (by kernel_rfl) ?_
  refine J37 H ?_
  clear H; intro b4 w H
  refine J25 H ?_
  clear H; intro b5 w H
  refine J46 H ?_
  clear H; intro b6 w H
  refine J46 H ?_
  clear H; intro b7 w H
  refine J102 H ?_
  refine Jc rfl rfl (with_nil i g _ H) ?_
  clear H; rintro v w ⟨rfl, H⟩
  refine J0 H ?_
  exact C_ret (Jy H rfl fun w' H' => ⟨rfl, H'.drop.drop.drop.drop⟩)
theorem Look_nil [Extra] (i g : Int) (x : Int) {w : World} {fr : List HProp} (H : Holds w fr) :
    Calls Tryz.prog 21 #[.pointer none, tkI2 i g, .int .i64 x] w (ret fun v w' => v = .tuple #[.agg #[.int .i64 0, .int .i64 0, .int .i64 0], .int .i64 1] ∧ Holds w' fr) := by
  refine calls_of Tryz.func21 rfl (by kernel_rfl) ?_
  refine J37 H ?_
  clear H; intro b3 w H
  refine J25 H ?_
  clear H; intro b4 w H
  refine J46 H ?_
  clear H; intro b5 w H
  refine J16 H ?_
  clear H; intro b6 w H
  refine J154 H ?_
  clear H; intro b8 w H
  refine J123 H ?_
  refine Jc rfl rfl (with_nil i g _ H) ?_
  clear H; rintro v w ⟨rfl, H⟩
  refine J0 H ?_
  refine J55 H ?_
  clear H; intro w H
  refine J0 H ?_
  exact C_ret (Jz H (fun w' H' => .cellN H' rfl (by repeat (first | exact Reads.nil _ | apply Reads.cons rfl)) (.tmp .nil)) fun w' H' => ⟨rfl, H'.drop.drop.drop.drop.drop⟩)
theorem Ref_nil [Extra] (i g : Int) (x : Int) {w : World} {fr : List HProp} (H : Holds w fr) :
    Calls Tryz.prog 20 #[.pointer none, tkI2 i g, .int .i64 x] w (ret fun v w' => v = .tuple #[.agg #[.int .i64 0, .int .i64 0, .int .i64 0], .int .i64 1] ∧ Holds w' fr) := by
  refine calls_of Tryz.func20 rfl (by kernel_rfl) ?_
  refine J6 H ?_
  clear H; intro b4 w H
  refine J16 H ?_
  clear H; intro b6 w H
  refine J125 H ?_
  refine Jc rfl rfl (Look_nil i g x H) ?_
  clear H; rintro v w ⟨rfl, H⟩
  refine J11 H ?_
  clear H; intro b8 w H
  refine J4 H ?_
  clear H; intro w H
  refine J0 H ?_
  refine J12 H ?_
  refine J54 H ?_
  refine J20 H ?_
  refine J55 H ?_
  clear H; intro w H
  refine J0 H ?_
  exact C_ret (Jz H (fun w' H' => .cellN H' rfl (by repeat (first | exact Reads.nil _ | apply Reads.cons rfl)) (.tmp .nil)) fun w' H' => ⟨rfl, H'.drop.drop.drop⟩)
theorem tie_nil [Extra] (i g : Int) (x : Int) (a b c : Int) {w : World} {fr : List HProp} (H : Holds w fr) :
    Calls Tryz.prog 68 #[.pointer none, tkI2 i g, .int .i64 x, .agg #[.int .i64 a, .int .i64 b, .int .i64 c]] w (ret fun v w' => v = .int .i64 1 ∧ Holds w' fr) := by
  refine calls_of Tryz.func68 rfl (by kernel_rfl) ?_
  refine J37 H ?_
  clear H; intro b4 w H
  refine J25 H ?_
  clear H; intro b5 w H
  refine J46 H ?_
  clear H; intro b6 w H
  refine J25 H ?_
  clear H; intro b7 w H
  refine J102 H ?_
  refine Jc rfl rfl (with_nil i g _ H) ?_
  clear H; rintro v w ⟨rfl, H⟩
  refine J36 H ?_
  refine J8 H ?_
  exact C_ret (Jy H rfl fun w' H' => ⟨rfl, H'.drop.drop.drop.drop⟩)
theorem Tie_nil [Extra] (i g : Int) (x : Int) (j h : Int) {w : World} {fr : List HProp} (H : Holds w fr) :
    Calls Tryz.prog 23 #[.pointer none, tkI2 i g, .int .i64 x, tkI2 j h] w (ret fun v w' => v = .int .i64 1 ∧ Holds w' fr) := by
  refine calls_of Tryz.func23 rfl (by kernel_rfl) ?_
  refine J6 H ?_
  clear H; intro b5 w H
  refine J25 H ?_
  clear H; intro b7 w H
  refine J125 H ?_
  refine Jc rfl rfl (Look_nil i g x H) ?_
  clear H; rintro v w ⟨rfl, H⟩
  refine J11 H ?_
  clear H; intro b9 w H
  refine J4 H ?_
  clear H; intro w H
  refine J163 H ?_
  exact C_ret (Jy H rfl fun w' H' => ⟨rfl, H'.drop.drop.drop⟩)
theorem Cut_nil [Extra] (i g : Int) (x : Int) {w : World} {fr : List HProp} (H : Holds w fr) :
    Calls Tryz.prog 24 #[.pointer none, tkI2 i g, .int .i64 x] w (ret fun v w' => v = .int .i64 1 ∧ Holds w' fr) := by
  refine calls_of Tryz.func24 rfl (by kernel_rfl) ?_
  refine J6 H ?_
  clear H; intro b4 w H
  refine J125 H ?_
  refine J60 H ?_
  refine Jc rfl rfl (tie_nil i g x 0 0 0 H) ?_
  clear H; rintro v w ⟨rfl, H⟩
  refine J0 H ?_
  exact C_ret (Jy H rfl fun w' H' => ⟨rfl, H'.drop⟩)
theorem Drop_nil [Extra] (i g : Int) {w : World} {fr : List HProp} (H : Holds w fr) :
    Calls Tryz.prog 18 #[.pointer none, tkI2 i g] w (ret fun v w' => v = .int .i64 1 ∧ Holds w' fr) := by
  refine calls_of Tryz.func18 rfl (by kernel_rfl) ?_
  refine J37 H ?_
  clear H; intro b2 w H
  refine J25 H ?_
  clear H; intro b3 w H
  refine J102 H ?_
  refine Jc rfl rfl (with_nil i g _ H) ?_
  clear H; rintro v w ⟨rfl, H⟩
  refine J0 H ?_
  exact C_ret (Jy H rfl fun w' H' => ⟨rfl, H'.drop.drop⟩)
theorem Pin_nil [Extra] (i g : Int) (b : Bool) {w : World} {fr : List HProp} (H : Holds w fr) :
    Calls Tryz.prog 25 #[.pointer none, tkI2 i g, .bool b] w (ret fun v w' => v = .int .i64 1 ∧ Holds w' fr) := by
  refine calls_of Tryz.func25 rfl (by kernel_rfl) ?_
  refine J37 H ?_
  clear H; intro b3 w H
  refine J25 H ?_
  clear H; intro b4 w H
  refine J46 H ?_
  clear H; intro b5 w H
  refine J102 H ?_
  refine Jc rfl rfl (with_nil i g _ H) ?_
  clear H; rintro v w ⟨rfl, H⟩
  refine J0 H ?_
  exact C_ret (Jy H rfl fun w' H' => ⟨rfl, H'.drop.drop.drop⟩)
theorem Tell_nil [Extra] (i g : Int) {w : World} {fr : List HProp} (H : Holds w fr) :
    Calls Tryz.prog 17 #[.pointer none, tkI2 i g] w (ret fun v w' => v = .tuple #[.agg #[.int .i64 0, .int .i64 0, .int .i64 0, .int .i64 0, .bool false], .int .i64 1] ∧ Holds w' fr) := by
  refine calls_of Tryz.func17 rfl (by kernel_rfl) ?_
  refine J37 H ?_
  clear H; intro b2 w H
  refine J25 H ?_
  clear H; intro b3 w H
  refine J16 H ?_
  clear H; intro b4 w H
  refine J154 H ?_
  clear H; intro b6 w H
  refine J123 H ?_
  refine Jc rfl rfl (with_nil i g _ H) ?_
  clear H; rintro v w ⟨rfl, H⟩
  refine J0 H ?_
  refine J55 H ?_
  clear H; intro w H
  refine J0 H ?_
  exact C_ret (Jz H (fun w' H' => .cellN H' rfl (by repeat (first | exact Reads.nil _ | apply Reads.cons rfl)) (.tmp .nil)) fun w' H' => ⟨rfl, H'.drop.drop.drop.drop⟩)
theorem at_nil [Extra] (x : Int) {w : World} {fr : List HProp} (H : Holds w fr) :
    Calls Tryz.prog 83 #[.pointer none, .int .i64 x] w (ret fun v w' => v = .tuple #[.agg #[.int .i64 0, .int .i64 0, .bool false, .bool false], .bool false] ∧ Holds w' fr) := by
  refine calls_of Tryz.func83 rfl (by kernel_rfl) ?_
  refine J18 H ?_
  clear H; intro b4 w H
  refine J0 H ?_
  refine J165 H ?_
  refine J171 H ?_
  clear H; intro w H
  refine J0 H ?_
  exact C_ret (Jz H (fun w' H' => .cellN H' rfl (by repeat (first | exact Reads.nil _ | apply Reads.cons rfl)) (.tmp .nil)) fun w' H' => ⟨rfl, H'.drop⟩)
theorem Targets_nil [Extra] (x : Int) {w : World} {fr : List HProp} (H : Holds w fr) :
    Calls Tryz.prog 31 #[.pointer none, .int .i64 x] w (ret fun v w' => v = .slice none 0 0 ∧ Holds w' fr) := by
  refine calls_of Tryz.func31 rfl (by kernel_rfl) ?_
  refine J14 H ?_
  refine J18 H ?_
  clear H; intro b5 w H
  refine J47 H ?_
  refine Jc rfl rfl (at_nil x H) ?_
  clear H; rintro v w ⟨rfl, H⟩
  refine J11 H ?_
  clear H; intro b6 w H
  refine J4 H ?_
  clear H; intro w H
  refine J28 H ?_
  refine J35 H ?_
  refine J124 H ?_
  refine J0 H ?_
  exact C_ret (Jy H rfl fun w' H' => ⟨rfl, H'.drop.drop⟩)
theorem Note_nil [Extra] (x : Int) {w : World} {fr : List HProp} (H : Holds w fr) :
    Calls Tryz.prog 36 #[.pointer none, .int .i64 x] w (ret fun v w' => v = .tuple #[] ∧ Holds w' fr) := by
  refine calls_of Tryz.func36 rfl (by kernel_rfl) ?_
  refine J37 H ?_
  clear H; intro b2 w H
  refine J46 H ?_
  clear H; intro b3 w H
  refine Lp_nil ?_
  refine J124 H ?_
  refine Lp_s rfl (St_load1 H rfl rfl rfl ?_)
  refine Jc rfl rfl (at_nil x H) ?_
  clear H; rintro v w ⟨rfl, H⟩
  refine J11 H ?_
  clear H; intro b4 w H
  refine J4 H ?_
  clear H; intro w H
  refine J28 H ?_
  refine J35 H ?_
  exact C_ret (Jy H rfl fun w' H' => ⟨rfl, H'.drop.drop.drop⟩)
theorem Lose_nil [Extra] (x : Int) {w : World} {fr : List HProp} (H : Holds w fr) :
    Calls Tryz.prog 37 #[.pointer none, .int .i64 x] w (ret fun v w' => v = .tuple #[] ∧ Holds w' fr) := by
  refine calls_of Tryz.func37 rfl (by kernel_rfl) ?_
  refine J2 H ?_
  refine Jc rfl rfl (at_nil x H) ?_
  clear H; rintro v w ⟨rfl, H⟩
  refine J11 H ?_
  clear H; intro b4 w H
  refine J4 H ?_
  clear H; intro w H
  refine J28 H ?_
  refine J35 H ?_
  exact C_ret (Jy H rfl fun w' H' => ⟨rfl, H'.drop⟩)
end Go.Proofs.YtcaaojbnjfdglaaGreatDoor
namespace Go.Proofs.YtcaaojbnjfdglaaGreatDoor
open Go.SL

theorem rise_spec [Extra] (v : Value) (l : List Nat) (size : Nat) (hl : l.length ≤ 1000000) {w : World} {fr : List HProp} (hr : RdS fr v l.length 1 (ncells l)) (H : Holds w fr) :
    Calls Tryz.prog 157 #[v, .int .i64 size] w (ret fun x w' => (∃ b, x = .bool b ∧ (b = true ↔ RisL l size)) ∧ Holds w' fr) := by
  obtain ⟨_, ad, cap, rfl, hr⟩ := hr
  refine calls_of Tryz.func157 rfl (by kernel_rfl) ?_
  refine J126 H ?_
  refine J133 H ?_
  refine C_loop (fun ms σ w q => ms = [] ∧ ∃ (i : Nat) (t : Int), i ≤ l.length ∧ q = l.length - i ∧ RisL (l.take i) size ∧ ((i = 0 ∧ t = -1) ∨ ∃ y : Nat, (l.take i).getLast? = some y ∧ t = y) ∧ σ 0 = .slice ad l.length cap ∧ σ 1 = .int .i64 size ∧ σ 5 = .int .i64 t ∧ σ 6 = .int .i64 i ∧ Holds w fr) (m := l.length) ⟨rfl, 0, -1, by omega, rfl, ⟨by simp, by simp⟩, .inl ⟨rfl, rfl⟩, rfl, rfl, rfl, rfl, H⟩ ?_
  clear H
  rintro ms σ w q ⟨rfl, i, t, hi, rfl, hR, ht, g0, g1, g5, g6, H⟩
  rw [upd_self g0, upd_self g1, upd_self g5, upd_self g6]
  refine J2 H ?_
  refine Lp_s rfl (St_lenSlice rfl rfl ?_)
  refine J31 H ?_
  refine C_dec rfl (fun h => C_skip ?_) (fun h => C_exit ?_)
  · have hlt : i < l.length := by omega
    have hx := List.getElem?_eq_getElem hlt
    have htk : l.take (i + 1) = l.take i ++ [l[i]] := by rw [List.take_add_one, hx]; rfl
    have hmem : l[i] ∈ l := List.getElem_mem hlt
    have hlast : (l.take (i + 1)).getLast? = some l[i] := by rw [htk, List.getLast?_concat]
    have hbad : ∀ y : Nat, (l.take i).getLast? = some y → l.Pairwise (· < ·) → y < l[i] := fun y hy hp => by
      have hi0 : 0 < i := by
        rcases Nat.eq_zero_or_pos i with h0 | h0
        · subst h0; simp at hy
        · exact h0
      rw [List.getLast?_eq_getElem?, List.length_take, Nat.min_eq_left hi, List.getElem?_take_of_lt (by omega), List.getElem?_eq_getElem (by omega)] at hy
      have := List.pairwise_iff_getElem.1 hp (i - 1) i (by omega) hlt (by omega)
      injection hy with hy
      omega
    generalize l[i] = x at hx htk hmem hlast hbad
    rcases hr with hr | ⟨b, o, E, fz, c, rfl, hA, hrd⟩
    · omega
    haveI := hA
    have hcell : c[o + i * 1]? = some (.int .i64 x) := by
      rw [Nat.mul_one]
      exact hrd.get i _ (by simp [ncells, hx])
    refine J111 H ?_
    refine Lp_s rfl (St_indexAddr rfl rfl (by omega) (by omega) rfl ?_)
    refine Lp_s rfl (St_load1 H rfl hcell rfl ?_)
    refine J7 H ?_
    by_cases h1 : (x : Int) ≤ t
    · rw [show decide ((x : Int) ≤ t) = true from decide_eq_true (by omega)]
      refine J147 H ?_
      refine J83 H ?_
      refine J118 H ?_
      refine C_ret (Jy H rfl fun w' H' => ⟨⟨false, rfl, ⟨fun h => (by cases h), fun h => ?_⟩⟩, H'⟩)
      rcases ht with ⟨_, rfl⟩ | ⟨y, hy, rfl⟩
      · omega
      · have := hbad y hy h.2; omega
    · rw [show decide ((x : Int) ≤ t) = false from decide_eq_false (by omega)]
      refine J74 H ?_
      refine Lp_g rfl rfl rfl (St_indexAddr rfl rfl (by omega) (by omega) rfl ?_)
      refine Lp_g rfl rfl rfl (St_load1 H rfl hcell rfl ?_)
      refine J22 H ?_
      by_cases h2 : x < size
      · rw [show decide ((x : Int) ≥ (size : Int)) = false from decide_eq_false (by omega)]
        refine J20 H ?_
        refine J2 H ?_
        refine Lp_s rfl (St_indexAddr rfl rfl (by omega) (by omega) rfl ?_)
        refine Lp_s rfl (St_load1 H rfl hcell rfl ?_)
        refine J0 H ?_
        refine J17 H ?_
        refine ⟨_, ⟨rfl, i + 1, x, hlt, rfl, ?_, .inr ⟨x, hlast, rfl⟩, rfl, rfl, rfl, inc64 (by omega), H⟩, by omega⟩
        rw [htk]
        refine ⟨fun p hp => ?_, ris_snoc hR.2 fun z hz => ?_⟩
        · simp at hp
          rcases hp with hp | rfl
          · exact hR.1 p hp
          · exact h2
        · rcases ht with ⟨rfl, rfl⟩ | ⟨y, hy, rfl⟩
          · simp at hz
          · rw [hy] at hz; cases hz; omega
      · rw [show decide ((x : Int) ≥ (size : Int)) = true from decide_eq_true (by omega)]
        refine J118 H ?_
        refine C_ret (Jy H rfl fun w' H' => ⟨⟨false, rfl, ⟨fun h => (by cases h), fun h => ?_⟩⟩, H'⟩)
        exact absurd (h.1 x hmem) h2
  · have hge : i = l.length := by omega
    subst hge
    rw [List.take_length] at hR
    refine J14 H ?_
    exact C_ret (Jy H rfl fun w' H' => ⟨⟨true, rfl, by simp [hR]⟩, H'⟩)

theorem places_spec [Extra] (x : Nat) (hx : x < 18446744073709551616) {w : World} {fr : List HProp} (H : Holds w fr) :
    Calls Tryz.prog 108 #[.int .u64 x] w (ret fun v w' => Holds w' (NL v (bitsTo x 64) :: fr)) := by
  refine calls_of Tryz.func108 rfl (by kernel_rfl) ?_
  refine J126 H ?_
  refine J133 H ?_
  refine C_loop (fun ms σ w n => ms = [] ∧ ∃ (k : Nat) (g : Value), k ≤ 64 ∧ n = 64 - k ∧ σ 0 = .int .u64 ((x / 2 ^ k : Nat) : Int) ∧ σ 3 = g ∧ σ 4 = .int .i64 k ∧ Holds w (NL g (bitsTo x k) :: fr)) (m := 64) ⟨rfl, 0, _, by omega, rfl, by simp; rfl, rfl, rfl, sls_nil H⟩ ?_
  clear H
  rintro ms σ w n ⟨rfl, k, g, hk, rfl, g0, g3, g4, H⟩
  obtain ⟨ag, mg, cg, rfl⟩ := sls_any H
  rw [upd_self g0, upd_self g3, upd_self g4]
  refine J8 H ?_
  by_cases h64 : k < 64
  · rw [show decide ((k : Int) < 64) = true from decide_eq_true (by omega)]
    refine J13 H ?_
    refine C_true rfl (C_skip ?_)
    have hdle : x / 2 ^ k ≤ x := Nat.div_le_self _ _
    have hbit : x.testBit k = decide (x / 2 ^ k % 2 = 1) := Nat.testBit_eq_decide_div_mod_eq
    have hnext : x / 2 ^ (k + 1) = x / 2 ^ k / 2 := by rw [Nat.pow_succ, Nat.div_div_eq_div_mul]
    generalize hy : x / 2 ^ k = y at hdle hbit hnext
    have hrem : Int.tmod (y : Int) 2 = ((y % 2 : Nat) : Int) := by rw [Int.tmod_eq_emod_of_nonneg (by omega)]; omega
    have hquo : IntKind.u64.wrap (Int.tdiv (y : Int) 2) = ((y / 2 : Nat) : Int) := by
      rw [Int.tdiv_eq_ediv_of_nonneg (by omega), show (y : Int) / 2 = ((y / 2 : Nat) : Int) by omega, wrapU_nat (by omega)]
    refine J111 H ?_
    rw [hrem]
    refine J31 H ?_
    refine C_join (fun ms σ w => ms = [] ∧ ∃ g : Value, σ 0 = .int .u64 y ∧ σ 3 = g ∧ σ 4 = .int .i64 k ∧ Holds w (NL g (bitsTo x (k + 1)) :: fr)) ?_ ?_
    · by_cases h1 : y % 2 = 1
      · have e2 : bitsTo x (k + 1) = bitsTo x k ++ [k] := by rw [bitsTo_succ, hbit, decide_eq_true h1]; rfl
        rw [show (((y % 2 : Nat) : Int) == 1) = true by simp; omega]
        refine C_true rfl ?_
        refine J2 H ?_
        refine J59 H ?_
        clear H; intro b14 w H
        refine Lp_s rfl (St_append H.swap rfl rfl (by repeat (first | exact Reads.nil _ | apply Reads.cons rfl)) rfl (by decide) (by rw [ncells_length]; have := bitsTo_len x k; simp only [List.length_cons, List.length_nil]; omega) rfl rfl ?_)
        clear H; intro v15 w H
        obtain ⟨a15, m15, c15, rfl⟩ := sls_any H
        refine J0 H ?_
        refine ⟨rfl, rfl, _, rfl, rfl, rfl, ?_⟩
        rw [e2]
        show Holds w (sls _ 1 _ (ncells (bitsTo x k ++ [k])) :: _)
        rw [ncells_append]
        exact Holds.drop H.swap
      · have e2 : bitsTo x (k + 1) = bitsTo x k := by rw [bitsTo_succ, hbit, decide_eq_false h1]; simp
        rw [show (((y % 2 : Nat) : Int) == 1) = false by simp; omega]
        refine C_false rfl (C_skip ?_)
        exact ⟨rfl, rfl, _, rfl, rfl, rfl, by rw [e2]; exact H⟩
    · clear H
      rintro ms σ w ⟨rfl, g, g0, g3, g4, H⟩
      obtain ⟨ag, mg, cg, rfl⟩ := sls_any H
      rw [upd_self g0, upd_self g3, upd_self g4]
      refine J2 H ?_
      rw [hquo]
      refine J0 H ?_
      refine J17 H ?_
      exact ⟨_, ⟨rfl, k + 1, _, h64, rfl, by rw [hnext]; rfl, rfl, inc64 (by omega), H⟩, by omega⟩
  · have hk64 : k = 64 := by omega
    subst hk64
    rw [show decide (((64 : Nat) : Int) < 64) = false from rfl]
    refine J13 H ?_
    refine C_false rfl (C_exit ?_)
    refine J8 H ?_
    exact C_ret (Jy H rfl fun w' H' => H')
end Go.Proofs.YtcaaojbnjfdglaaGreatDoor
namespace Go.Proofs.YtcaaojbnjfdglaaGreatDoor
open Go.SL

theorem dRight_spec [Extra] (vr vq : Value) (l : Lay) (hs : SmallL l) {w : World} {fr : List HProp} (hr : RdL fr vr vq l) (H : Holds w fr) :
    Calls Tryz.prog 109 #[layV l.fixed vr l.record vq] w (ret fun x w' => (∃ b, x = .bool b ∧ (b = true ↔ RightL l)) ∧ Holds w' fr) := by
  obtain ⟨s1, s2, s3, s4⟩ := hs
  obtain ⟨hr1, hr2⟩ := hr
  obtain ⟨_, ad1, cap1, rfl, hr1'⟩ := id hr1
  obtain ⟨_, ad2, cap2, rfl, hr2'⟩ := id hr2
  refine calls_of Tryz.func109 rfl (by kernel_rfl) ?_
  refine J6 H ?_
  clear H; intro b1 w H
  refine J0 H ?_
  refine J68 H ?_
  rw [show decide ((l.fixed : Int) < 0) = false from decide_eq_false (by omega)]
  refine J69 H ?_
  by_cases h1 : l.fixed ≤ 64
  · rw [show decide ((l.fixed : Int) > 64) = false from decide_eq_false (by omega)]
    refine J33 H ?_
    rw [show decide ((l.record : Int) < 0) = false from decide_eq_false (by omega)]
    refine J33 H ?_
    by_cases h2 : l.record ≤ 64
    · rw [show decide ((l.record : Int) > 64) = false from decide_eq_false (by omega)]
      refine J20 H ?_
      refine J119 H ?_
      refine Jc rfl rfl (rise_spec _ l.refs l.fixed s3 hr1.there H) ?_
      clear H; rintro v w ⟨⟨b, rfl, hb⟩, H⟩
      refine J0 H ?_
      refine J119 H ?_
      refine Jc rfl rfl (rise_spec _ l.recs l.record s4 hr2.there H) ?_
      clear H; rintro v w ⟨⟨c, rfl, hc⟩, H⟩
      refine J0 H ?_
      have key : (b = true ∧ c = true ∧ l.fixed + l.record ≠ 0) ↔ RightL l := by
        rw [hb, hc]
        exact ⟨fun h => ⟨h1, h2, h.2.2, h.1, h.2.1⟩, fun h => ⟨h.2.2.2.1, h.2.2.2.2, h.2.2.1⟩⟩
      cases b with
      | false =>
        refine J2 H ?_
        refine Lp_no rfl rfl rfl ?_
        refine J7 H ?_
        refine J142 H ?_
        refine J144 H ?_
        exact C_ret (Jy H.drop rfl fun w' H' => ⟨⟨false, rfl, ⟨fun h => (by cases h), fun h => (by have := (key.2 h).1; cases this)⟩⟩, H'⟩)
      | true =>
        cases c with
        | false =>
          refine J2 H ?_
          refine J132 H ?_
          refine J142 H ?_
          refine J144 H ?_
          exact C_ret (Jy H.drop rfl fun w' H' => ⟨⟨false, rfl, ⟨fun h => (by cases h), fun h => (by have := (key.2 h).2.1; cases this)⟩⟩, H'⟩)
        | true =>
          refine J2 H ?_
          refine J21 H ?_
          refine J33 H ?_
          by_cases h3 : l.fixed > 0
          · rw [show decide ((l.fixed : Int) > 0) = true from decide_eq_true (by omega)]
            refine J21 H ?_
            refine J54 H ?_
            refine J53 H ?_
            exact C_ret (Jy H.drop rfl fun w' H' => ⟨⟨true, rfl, ⟨fun _ => key.1 ⟨rfl, rfl, by omega⟩, fun _ => rfl⟩⟩, H'⟩)
          · rw [show decide ((l.fixed : Int) > 0) = false from decide_eq_false (by omega)]
            refine J21 H ?_
            refine J42 H ?_
            by_cases h4 : l.record > 0
            · rw [show decide ((l.record : Int) > 0) = true from decide_eq_true (by omega)]
              refine J53 H ?_
              exact C_ret (Jy H.drop rfl fun w' H' => ⟨⟨true, rfl, ⟨fun _ => key.1 ⟨rfl, rfl, by omega⟩, fun _ => rfl⟩⟩, H'⟩)
            · rw [show decide ((l.record : Int) > 0) = false from decide_eq_false (by omega)]
              refine J53 H ?_
              exact C_ret (Jy H.drop rfl fun w' H' => ⟨⟨false, rfl, ⟨fun h => (by cases h), fun h => (by have := (key.2 h).2.2; omega)⟩⟩, H'⟩)
    · rw [show decide ((l.record : Int) > 64) = true from decide_eq_true (by omega)]
      refine J118 H ?_
      exact C_ret (Jy H.drop rfl fun w' H' => ⟨⟨false, rfl, ⟨fun h => (by cases h), fun h => (by unfold RightL at h; omega)⟩⟩, H'⟩)
  · rw [show decide ((l.fixed : Int) > 64) = true from decide_eq_true (by omega)]
    refine J87 H ?_
    refine J118 H ?_
    exact C_ret (Jy H.drop rfl fun w' H' => ⟨⟨false, rfl, ⟨fun h => (by cases h), fun h => (by unfold RightL at h; omega)⟩⟩, H'⟩)

end Go.Proofs.YtcaaojbnjfdglaaGreatDoor
namespace Go.Proofs.YtcaaojbnjfdglaaGreatDoor
open Go.SL

theorem dDecode_spec [Extra] (v : Value) (ws : List Nat) (hws : ∀ x ∈ ws, x < 18446744073709551616) {w : World} {fr : List HProp} (hr : RdS fr v ws.length 1 (ucells ws)) (H : Holds w fr) :
    Calls Tryz.prog 39 #[v] w (ret fun r w' => (decodeL ws = none ∧ r = .tuple #[layV 0 (.slice none 0 0) 0 (.slice none 0 0), .bool false] ∧ Holds w' fr) ∨
      ∃ l vr vq, decodeL ws = some l ∧ r = .tuple #[layV l.fixed vr l.record vq, .bool true] ∧ Holds w' (NL vr l.refs :: NL vq l.recs :: fr)) := by
  obtain ⟨_, ad, cap, rfl, hr'⟩ := id hr
  refine calls_of Tryz.func39 rfl (by kernel_rfl) ?_
  refine J18 H ?_
  clear H; intro b2 w H
  refine J0 H ?_
  refine J129 H ?_
  refine J10 H ?_
  by_cases h3 : ws.length = 3
  · obtain ⟨x, y, z, rfl⟩ : ∃ x y z, ws = [x, y, z] := by
      match ws, h3 with
      | [x, y, z], _ => exact ⟨x, y, z, rfl⟩
    have hx := hws x (by simp)
    have hy := hws y (by simp)
    have hz := hws z (by simp)
    rcases hr' with h | ⟨b, o, E, fz, c, rfl, hA, hrd⟩
    · cases h
    haveI := hA
    have c0 : c[o + 0 * 1]? = some (.int .u64 x) := by have := hrd.get 0 (.int .u64 x) (by simp [ucells]); simpa using this
    have c1 : c[o + 1 * 1]? = some (.int .u64 y) := by have := hrd.get 1 (.int .u64 y) (by simp [ucells]); simpa using this
    have c2 : c[o + 2 * 1]? = some (.int .u64 z) := by have := hrd.get 2 (.int .u64 z) (by simp [ucells]); simpa using this
    rw [show ((([x, y, z] : List Nat).length : Int) != 3) = false from rfl]
    refine J10 H ?_
    refine J21 H ?_
    refine Lp_g rfl rfl rfl (St_indexAddr rfl rfl (by omega) (by show (0 : Int) < (3 : Nat); omega) rfl ?_)
    refine Lp_g rfl rfl rfl (St_load1 H rfl c0 rfl ?_)
    refine J21 H ?_
    by_cases hb : x < 65536
    · rw [show decide ((x : Int) ≥ 65536) = false from decide_eq_false (by omega)]
      refine J20 H ?_
      have m8 : Int.tmod (x : Int) 256 = ((x % 256 : Nat) : Int) := by rw [Int.tmod_eq_emod_of_nonneg (by omega)]; omega
      have q8 : IntKind.u64.wrap (Int.tdiv (x : Int) 256) = ((x / 256 : Nat) : Int) := by
        rw [Int.tdiv_eq_ediv_of_nonneg (by omega), show (x : Int) / 256 = ((x / 256 : Nat) : Int) by omega, wrapU_nat (by omega)]
      have w8 : IntKind.i64.wrap ((x % 256 : Nat) : Int) = ((x % 256 : Nat) : Int) := wrapI_nat (by omega)
      have v8 : IntKind.i64.wrap ((x / 256 : Nat) : Int) = ((x / 256 : Nat) : Int) := wrapI_nat (by omega)
      refine J13 H ?_
      refine C_joinQ (fun ms σ w => ms = [] ∧ ∃ b4 va vb, σ 2 = pp b2 ∧ σ 4 = pp b4 ∧
        Holds w (pts b4 (row 101 [.int .i64 ((x % 256 : Nat) : Int), va, .int .i64 ((x / 256 : Nat) : Int), vb]) :: NL va (bitsTo y 64) :: NL vb (bitsTo z 64) :: pts b2 (row 101 [.int .i64 0, .slice none 0 0, .int .i64 0, .slice none 0 0]) :: fr)) ?_ ?_
      · refine J1 H ?_
        clear H; intro w H
        refine J58 H ?_
        refine A_indexAddr 1 rfl (Wants.none rfl) rfl rfl (by omega) (by show (0 : Int) < (3 : Nat); omega) (by kernel_rfl) ?_
        refine A_load1 2 [20] H rfl (Wants.none rfl) rfl c0 (by kernel_rfl) ?_
        refine J50 H ?_
        refine A_convI 4 rfl (Wants.none rfl) rfl (by kernel_rfl) ?_
        refine J49 H ?_
        refine A_indexAddr 6 rfl (Wants.none rfl) rfl rfl (by omega) (by show (1 : Int) < (3 : Nat); omega) (by kernel_rfl) ?_
        refine A_load1 7 [8] H rfl (Wants.none rfl) rfl c1 (by kernel_rfl) ?_
        refine J75 H ?_
        refine A_indexAddr 10 rfl (Wants.none rfl) rfl rfl (by omega) (by show (0 : Int) < (3 : Nat); omega) (by kernel_rfl) ?_
        refine A_load1 11 [20] H rfl (Wants.none rfl) rfl c0 (by kernel_rfl) ?_
        refine A_pv 12 rfl (Wants.none rfl) rfl (by kernel_rfl) ?_
        refine A_convI 13 rfl (Wants.none rfl) rfl (by kernel_rfl) ?_
        refine A_pv 14 rfl (Wants.none rfl) rfl (by kernel_rfl) ?_
        refine A_indexAddr 15 rfl (Wants.none rfl) rfl rfl (by omega) (by show (2 : Int) < (3 : Nat); omega) (by kernel_rfl) ?_
        refine A_load1 16 [17] H rfl (Wants.none rfl) rfl c2 (by kernel_rfl) ?_
        rw [m8, q8, w8, v8]
        refine A_two 8 19 rfl rfl (by kernel_rfl) (by repeat first | exact .nil | refine .cons (.inr H.at) ?_ | refine .cons (.inr H.mp) ?_ | refine .cons (.inl (by kernel_rfl)) ?_) (Wants.none rfl) (Wants.none rfl) (St_call (a := []) (b := []) rfl rfl (call (places_spec y hy H) ?_)) (St_alloc H rfl ?_)
        · clear H; intro va w H
          obtain ⟨aa, ma, ca, rfl⟩ := sls_any H
          refine A_two 17 19 rfl rfl (by kernel_rfl) (by repeat first | exact .nil | refine .cons (.inr H.at) ?_ | refine .cons (.inr H.mp) ?_ | refine .cons (.inl (by kernel_rfl)) ?_) (Wants.none rfl) (Wants.none rfl) (St_call (a := []) (b := []) rfl rfl (call (places_spec z hz H) ?_)) (St_alloc H rfl ?_)
          · clear H; intro vb w H
            obtain ⟨ab, mb, cb, rfl⟩ := sls_any H
            refine A_build 18 rfl (Wants.none rfl) rfl (by kernel_rfl) ?_
            refine Jo 19 H ?_
            refine St_alloc H rfl ?_
            clear H; intro b4 w H
            refine Jo 20 H ?_
            refine J51 H ?_
            clear H; intro w H
            refine J5 H ?_
            replace H := Js [0,1,0,0] 0 H
            exact .inl ⟨rfl, rfl, b4, _, _, rfl, rfl, H⟩
          · clear H; intro b4 w H
            refine Jo 17 H ?_
            refine Jk rfl rfl (places_spec z hz H) ?_
            clear H; intro vb w H
            obtain ⟨ab, mb, cb, rfl⟩ := sls_any H
            refine A_build 18 rfl (Wants.none rfl) rfl (by kernel_rfl) ?_
            refine Jo 20 H ?_
            refine J51 H ?_
            clear H; intro w H
            refine J5 H ?_
            replace H := Js [1,1,0,0] 0 H
            exact .inl ⟨rfl, rfl, b4, _, _, rfl, rfl, H⟩
        · clear H; intro b4 w H
          refine Jo 8 H ?_
          refine Jk rfl rfl (places_spec y hy H) ?_
          clear H; intro va w H
          obtain ⟨aa, ma, ca, rfl⟩ := sls_any H
          refine Jo 17 H ?_
          refine Jk rfl rfl (places_spec z hz H) ?_
          clear H; intro vb w H
          obtain ⟨ab, mb, cb, rfl⟩ := sls_any H
          refine A_build 18 rfl (Wants.none rfl) rfl (by kernel_rfl) ?_
          refine Jo 20 H ?_
          refine J51 H ?_
          clear H; intro w H
          refine J5 H ?_
          replace H := Js [2,1,0,0] 0 H
          exact .inl ⟨rfl, rfl, b4, _, _, rfl, rfl, H⟩
      · clear H
        rintro ms σ w ⟨rfl, b4, va, vb, g2, g4, H⟩
        rw [upd_self g2, upd_self g4]
        have hla := bitsTo_len y 64
        have hlb := bitsTo_len z 64
        obtain ⟨aa, ca, rfl⟩ := sls_slice (H.drop) (ncells_length (bitsTo y 64)) (by decide)
        obtain ⟨ab, cb, rfl⟩ := sls_slice (H.drop.drop) (ncells_length (bitsTo z 64)) (by decide)
        refine J26 H ?_
        replace H := Js [1,1,0,0] 0 H
        obtain ⟨D1, H, hD1, hC1⟩ := sls_rd H (ncells_length (bitsTo y 64)) (by decide)
        obtain ⟨D2, H, hD2, hC2⟩ := sls_rd H.swap (ncells_length (bitsTo z 64)) (by decide)
        refine Jc rfl rfl (dRight_spec _ _ (layOf x y z) ⟨by show x % 256 ≤ _; omega, by show x / 256 ≤ _; omega, by show (bitsTo y 64).length ≤ _; omega, by show (bitsTo z 64).length ≤ _; omega⟩ ⟨(hD1 _).there, hD2 _⟩ H) ?_
        clear H; rintro v w ⟨⟨q, rfl, hq⟩, H⟩
        have H := (hC1 _ _ (hC2 _ _ H).swap)
        refine J0 H ?_
        cases q with
        | true =>
          refine J92 H ?_
          refine J72 H ?_
          clear H; intro w H
          refine J0 H ?_
          replace H := Js [3,0,0] 1 H
          refine C_ret (Jz H (fun w' H' => .cellN H' rfl (by repeat (first | exact Reads.nil _ | apply Reads.cons rfl)) (.tmp .nil)) fun w' H' => .inr ⟨layOf x y z, _, _, ?_, rfl, H'.drop⟩)
          rw [decodeL3, if_pos ⟨hb, hq.1 rfl⟩]
        | false =>
          refine J134 H ?_
          clear H; intro w H
          refine J0 H ?_
          replace H := Js [3] 3 H
          refine C_ret (Jz H (fun w' H' => .cellN H' rfl (by repeat (first | exact Reads.nil _ | apply Reads.cons rfl)) (.tmp .nil)) fun w' H' => .inl ⟨?_, rfl, H'.drop⟩)
          rw [decodeL3, if_neg]
          rintro ⟨_, h2⟩
          have := hq.2 h2
          cases this
    · rw [show decide ((x : Int) ≥ 65536) = true from decide_eq_true (by omega)]
      refine J84 H ?_
      clear H; intro w H
      refine J0 H ?_
      refine C_ret (Jz H (fun w' H' => .cellN H' rfl (by repeat (first | exact Reads.nil _ | apply Reads.cons rfl)) (.tmp .nil)) fun w' H' => .inl ⟨?_, rfl, H'.drop⟩)
      rw [decodeL3, if_neg]
      rintro ⟨h1, _⟩
      exact hb h1
  · have hd : decodeL ws = none := by
      match ws with
      | [] => rfl
      | [_] => rfl
      | [_, _] => rfl
      | [_, _, _] => exact absurd rfl h3
      | _ :: _ :: _ :: _ :: _ => rfl
    rw [show ((ws.length : Int) != 3) = true by simp; omega]
    refine J147 H ?_
    refine J84 H ?_
    clear H; intro w H
    refine J0 H ?_
    exact C_ret (Jz H (fun w' H' => .cellN H' rfl (by repeat (first | exact Reads.nil _ | apply Reads.cons rfl)) (.tmp .nil)) fun w' H' => .inl ⟨hd, rfl, H'.drop⟩)
end Go.Proofs.YtcaaojbnjfdglaaGreatDoor
namespace Go.Proofs.YtcaaojbnjfdglaaGreatDoor
open Go.SL

theorem tNewB_spec [Extra] (n : Nat) (h1 : 1 ≤ n) (h2 : n ≤ 4096) {w : World} {fr : List HProp} (H : Holds w fr) :
    Calls Tryz.prog 103 #[.int .i64 n] w (ret fun v w' => ∃ (p u : Nat) (a : Option Addr), v = .tuple #[pp p, .int .i64 0] ∧ Holds w' (pts p (row 183 [.slice a n n, pp u, .int .i64 0]) :: BM u n (List.replicate ((n + 63) / 64) 0) 0 :: fr)) := by
  refine calls_of Tryz.func103 rfl (by kernel_rfl) ?_
  refine J86 H ?_
  rw [show decide ((n : Int) < 1) = false from decide_eq_false (by omega)]
  refine J74 H ?_
  rw [show decide ((n : Int) > 4096) = false from decide_eq_false (by omega)]
  refine J20 H ?_
  refine J15 H ?_
  refine Jc rfl rfl (bNew_spec n (by omega) (by omega) H) ?_
  clear H; rintro v w ⟨u, rfl, H⟩
  refine J98 H ?_
  refine Lp_s rfl (St_makeSlice H rfl rfl (by decide) (by omega) rfl ?_)
  clear H; intro b18 w H
  refine J10 H ?_
  refine J44 H ?_
  clear H; intro b21 w H
  refine J3 H ?_
  replace H := Js [0,1] 1 H
  exact C_ret (Jy H rfl fun w' H' => ⟨_, u, _, rfl, H'⟩)
theorem tNew_bad [Extra] (z : Int) (h : z < 1 ∨ z > 4096) {w : World} {fr : List HProp} (H : Holds w fr) :
    Calls Tryz.prog 103 #[.int .i64 z] w (ret fun v w' => v = .tuple #[.pointer none, .int .i64 3] ∧ Holds w' fr) := by
  refine calls_of Tryz.func103 rfl (by kernel_rfl) ?_
  refine J86 H ?_
  by_cases a1 : z < 1
  · rw [show decide (z < 1) = true from decide_eq_true (by omega)]
    refine J10 H ?_
    refine J166 H ?_
    exact C_ret (Jy H rfl fun w' H' => ⟨rfl, H'⟩)
  rw [show decide (z < 1) = false from decide_eq_false (by omega)]
  refine J74 H ?_
  rw [show decide (z > 4096) = true from decide_eq_true (by omega)]
  refine J169 H ?_
  exact C_ret (Jy H rfl fun w' H' => ⟨rfl, H'⟩)
theorem Left_raw [Extra] (p u n : Nat) (a : Option Addr) (ws : List Nat) {w : World} {fr : List HProp} (hn : n ≤ 4096) (H : Holds w (pts p (row 183 [.slice a n n, pp u, .int .i64 0]) :: BM u n ws 0 :: fr)) :
    Calls Tryz.prog 41 #[pp p] w (ret fun v w' => v = .int .i64 n ∧ Holds w' fr) := by
  refine calls_of Tryz.func41 rfl (by kernel_rfl) ?_
  refine J139 H ?_
  clear H; intro w H
  refine J95 H ?_
  refine A_lenSlice 4 rfl (Wants.none rfl) rfl (by kernel_rfl) ?_
  refine J49 H ?_
  refine J81 H ?_
  refine A_load1 8 [9] H rfl (Wants.none rfl) rfl rfl (by kernel_rfl) ?_
  replace H := Js [1,0] 0 H
  refine Jo 9 H ?_
  refine Jk rfl rfl (Count_spec u _ _ _ H) ?_
  clear H; rintro v w ⟨rfl, H⟩
  refine J91 H ?_
  refine C_ret (Jy H.drop.drop rfl fun w' H' => ⟨?_, H'⟩)
  show Value.int .i64 (IntKind.i64.wrap ((n : Int) - ((0 : Nat) : Int))) = _
  rw [wrap64 (by omega) (by omega), Int.natCast_zero, Int.sub_zero]
theorem sNew_bad [Extra] (x y : Int) (h : x < 1 ∨ x > 1024 ∨ y < 1 ∨ y > 1024) {w : World} {fr : List HProp} (H : Holds w fr) :
    Calls Tryz.prog 102 #[.int .i64 x, .int .i64 y] w (ret fun v w' => v = .tuple #[.pointer none, .int .i64 3] ∧ Holds w' fr) := by
  refine calls_of Tryz.func102 rfl (by kernel_rfl) ?_
  refine J137 H ?_
  by_cases a1 : x < 1
  · rw [show decide (x < 1) = true from decide_eq_true (by omega)]
    refine J83 H ?_
    refine J7 H ?_
    refine J83 H ?_
    refine J7 H ?_
    refine J166 H ?_
    exact C_ret (Jy H rfl fun w' H' => ⟨rfl, H'⟩)
  rw [show decide (x < 1) = false from decide_eq_false (by omega)]
  refine J27 H ?_
  by_cases a2 : x > 1024
  · rw [show decide (x > 1024) = true from decide_eq_true (by omega)]
    refine J83 H ?_
    refine J7 H ?_
    refine J166 H ?_
    exact C_ret (Jy H rfl fun w' H' => ⟨rfl, H'⟩)
  rw [show decide (x > 1024) = false from decide_eq_false (by omega)]
  refine J27 H ?_
  by_cases a3 : y < 1
  · rw [show decide (y < 1) = true from decide_eq_true (by omega)]
    refine J166 H ?_
    exact C_ret (Jy H rfl fun w' H' => ⟨rfl, H'⟩)
  rw [show decide (y < 1) = false from decide_eq_false (by omega)]
  refine J22 H ?_
  refine J10 H ?_
  rw [show decide (y > 1024) = true from decide_eq_true (by omega)]
  refine Lp_nil ?_
  refine J24 H ?_
  exact C_ret (Jy H rfl fun w' H' => ⟨rfl, H'⟩)
theorem cNew_bad [Extra] (x y z : Int) (h : x < 1 ∨ x > 1024 ∨ y < 1 ∨ y > 1024 ∨ z < 1 ∨ z > 4096) {w : World} {fr : List HProp} (H : Holds w fr) :
    Calls Tryz.prog 38 #[.int .i64 x, .int .i64 y, .int .i64 z] w (ret fun v w' => v = .tuple #[.pointer none, .int .i64 3] ∧ Holds w' fr) := by
  by_cases hs : x < 1 ∨ x > 1024 ∨ y < 1 ∨ y > 1024
  · refine calls_of Tryz.func38 rfl (by kernel_rfl) ?_
    refine J86 H ?_
    refine Jc rfl rfl (sNew_bad x y hs H) ?_
    clear H; rintro v w ⟨rfl, H⟩
    refine J45 H ?_
    refine J85 H ?_
    exact C_ret (Jy H rfl fun w' H' => ⟨rfl, H'⟩)
  · obtain ⟨n, rfl⟩ : ∃ n : Nat, x = n := ⟨x.toNat, by omega⟩
    obtain ⟨size, rfl⟩ : ∃ n : Nat, y = n := ⟨y.toNat, by omega⟩
    refine calls_of Tryz.func38 rfl (by kernel_rfl) ?_
    refine J86 H ?_
    refine Jc rfl rfl (sNew_spec n size (by omega) (by omega) (by omega) (by omega) H) ?_
    clear H; rintro v w ⟨sp, rfl, H⟩
    refine J121 H ?_
    refine Jc rfl rfl (tNew_bad z (by omega) H) ?_
    clear H; rintro v w ⟨rfl, H⟩
    refine J45 H ?_
    refine J85 H ?_
    exact C_ret (Jy H rfl fun w' H' => ⟨rfl, H'.drop⟩)
theorem cNewB_spec [Extra] (n size slots : Nat) (h1 : 1 ≤ n) (h2 : n ≤ 1024) (h3 : 1 ≤ size) (h4 : size ≤ 1024) (h5 : 1 ≤ slots) (h6 : slots ≤ 4096) {w : World} {fr : List HProp} (H : Holds w fr) :
    Calls Tryz.prog 38 #[.int .i64 n, .int .i64 size, .int .i64 slots] w (ret fun v w' => ∃ (p u : Nat) (a : Option Addr) (q : Ptr), v = .tuple #[pp p, .int .i64 0] ∧
      Holds w' (BOOK q.bp [] :: CROW p q :: ST q.sp size (List.replicate (n * size) 0) (List.replicate n 0) :: pts q.tp (row 183 [.slice a slots slots, pp u, .int .i64 0]) :: BM u slots (List.replicate ((slots + 63) / 64) 0) 0 :: fr)) := by
  refine calls_of Tryz.func38 rfl (by kernel_rfl) ?_
  refine J86 H ?_
  refine Jc rfl rfl (sNew_spec n size h1 (by omega) h3 h4 H) ?_
  clear H; rintro v w ⟨sp, rfl, H⟩
  refine J121 H ?_
  refine Jc rfl rfl (tNewB_spec slots h5 h6 H) ?_
  clear H; rintro v w ⟨tp, u, a, rfl, H⟩
  refine J39 H ?_
  refine J38 H ?_
  refine Jc rfl rfl (NewBook_spec H) ?_
  clear H; rintro v w ⟨bp, rfl, H⟩
  refine J0 H ?_
  refine J2 H ?_
  refine Jc rfl rfl (iNew_spec sp bp H) ?_
  clear H; rintro v w ⟨ip, rfl, H⟩
  refine J19 H ?_
  refine J78 H ?_
  refine Jc rfl rfl (trNew_spec H) ?_
  clear H; rintro v w ⟨trp, rfl, H⟩
  refine Jc rfl rfl (rNew_spec H) ?_
  clear H; rintro v w ⟨rp, rfl, H⟩
  refine Lp_s rfl (St_makeMap ptrv (ki .i64) H rfl ?_)
  clear H; intro sm w H
  refine Lp_s rfl (St_makeMap ptrv (ki .i64) H rfl ?_)
  clear H; intro mm w H
  refine J44 H ?_
  clear H; intro b47 w H
  refine J3 H ?_
  replace H := Js [6,0,7,5,5] 5 H
  exact C_ret (Jy H rfl fun w' H' => ⟨_, u, a, ⟨sp, bp, ip, tp, trp, rp, sm, mm⟩, rfl, H'⟩)
theorem DefineB_spec [Extra] (p : Nat) (q : Ptr) (v : Value) (ws : List Nat) (hws : ∀ x ∈ ws, x < 18446744073709551616) {w : World} {fr : List HProp} [hT : HasTab 0 Lib.deBruijn64tab fr] (hr : RdS fr v ws.length 1 (ucells ws)) (H : Holds w (BOOK q.bp [] :: CROW p q :: fr)) :
    Calls Tryz.prog 34 #[pp p, v] w (ret fun x w' => (decodeL ws = none ∧ x = .tuple #[.int .i64 0, .int .i64 4] ∨ (∃ l, decodeL ws = some l) ∧ x = .tuple #[.int .i64 1, .int .i64 0]) ∧ Holds w' (CROW p q :: fr)) := by
  obtain ⟨_, av, cv, rfl, _⟩ := id hr
  refine calls_of Tryz.func34 rfl (by kernel_rfl) ?_
  refine J114 H ?_
  refine J15 H ?_
  refine Jc rfl rfl (Decode_all _ ws hws hr.there.there H) ?_
  clear H
  rintro v w (⟨hd, rfl, H⟩ | ⟨l, vr, vq, hd, rfl, H⟩)
  · first | refine Lp_pv rfl rfl ?_ | refine Lp_mv rfl rfl ?_
    refine Lp_pv rfl rfl ?_
    refine Lp_pv rfl rfl ?_
    refine J16 H ?_
    clear H; intro b6 w H
    refine J4 H ?_
    clear H; intro w H
    refine J28 H ?_
    refine J85 H ?_
    exact C_ret (Jy H.drop.drop rfl fun w' H' => ⟨.inl ⟨hd, rfl⟩, H'⟩)
  · obtain ⟨aa, ma, rfl⟩ := sls_slice H (ncells_length _) (by decide)
    obtain ⟨ab, mb, rfl⟩ := sls_slice H.drop (ncells_length _) (by decide)
    refine J11 H ?_
    clear H; intro b6 w H
    refine J4 H ?_
    clear H; intro w H
    refine J36 H ?_
    have hR := decodeL_right hd
    replace H := Js [1,1,1,1,0] 0 H
    obtain ⟨D1, H, hD1, hC1⟩ := sls_rd H (ncells_length _) (by decide)
    obtain ⟨D2, H, hD2, hC2⟩ := sls_rd H.swap (ncells_length _) (by decide)
    refine J1 H ?_
    clear H; intro w H
    refine J149 H ?_
    replace H := Js [2,1,0] 0 H
    refine Jo 5 H ?_
    refine Jk rfl rfl (bAdd_spec q.bp [] _ _ l hR ⟨hD1 _, (hD2 _).there⟩ H) ?_
    clear H
    rintro v w (⟨h64, rfl, H⟩ | ⟨h64, rfl, H⟩)
    · cases h64
    · refine J146 H ?_
      replace H := Js [3] 4 H
      exact C_ret (Jy H rfl fun w' H' => ⟨.inr ⟨⟨l, hd⟩, rfl⟩, H'⟩)
end Go.Proofs.YtcaaojbnjfdglaaGreatDoor
namespace Go.Proofs.YtcaaojbnjfdglaaGreatDoor
open Go.SL

def liveP (P : List Int) (id : Int) : Bool := decide (0 < id ∧ id < P.length ∧ 0 ≤ P.getD id.toNat 0)
def idsTo (P : List Int) (f : Int → Bool) (k : Nat) : List Nat := (List.range k).filter fun i => decide (1 ≤ i) && f (P.getD i 0)
def allP (P : List Int) : List Nat := idsTo P (fun q => decide (0 ≤ q)) P.length
/-- What Add answers: the error. -/
def dErr (P : List Int) (parent : Int) : Nat := if parent ≠ 0 ∧ liveP P parent = false then 6 else if 64 ≤ (allP P).length then 5 else 0

end Go.Proofs.YtcaaojbnjfdglaaGreatDoor
namespace Go.Proofs.YtcaaojbnjfdglaaGreatDoor
open Go.SL

structure Mob where
  region : Nat
  lay : Nat
  count : Nat
  w : List Nat
  kind : List Nat
  to : List Nat
  held : Bool
  pinned : Bool
  gone : Bool
structure MS where
  P : List Int
  lays : List Lay
  objs : List Mob
structure MobOK (lays : List Lay) (n : Nat) (x : Mob) : Prop where
  lay : ∃ l, lays[x.lay - 1]? = some l ∧ RightL l ∧ sizeL l x.count = (x.w.length, 0)
  lay1 : 1 ≤ x.lay
  kind : x.kind.length = x.w.length
  to : x.to.length = x.w.length
  goes : ∀ p, x.kind[p]? = some 2 → x.to.getD p 0 < n
structure MWF (m : MS) : Prop where
  P : 1 ≤ m.P.length ∧ m.P.length ≤ 100000
  lays : m.lays.length ≤ 64 ∧ ∀ l ∈ m.lays, RightL l
  objs : ∀ x ∈ m.objs, MobOK m.lays m.objs.length x
  few : m.objs.length ≤ 100000
def layM (m : MS) (x : Mob) : Lay := (m.lays[x.lay - 1]?).getD ⟨0, [], 0, []⟩
def valM (m : MS) (o : Int) : Option (Nat × Mob) :=
  if 0 ≤ o then
    match m.objs[o.toNat]? with
    | some x => if x.held && !x.gone then some (o.toNat, x) else none
    | none => none
  else none
theorem valM_nat (m : MS) (o : Nat) : valM m o = match m.objs[o]? with | some x => if x.held && !x.gone then some (o, x) else none | none => none := by
  unfold valM
  rw [if_pos (by omega), Int.toNat_natCast]
def placeM (m : MS) (o place : Int) (ref : Bool) : Nat :=
  match valM m o with
  | none => 8
  | some (_, x) => placeE (layM m x) x.w.length place ref

end Go.Proofs.YtcaaojbnjfdglaaGreatDoor
namespace Go.Proofs.YtcaaojbnjfdglaaGreatDoor
open Go.SL

@[reducible] def setM (m : MS) (k : Nat) (x : Mob) : MS := { m with objs := m.objs.set k x }
theorem MWF_set {m : MS} (h : MWF m) {o : Nat} {x : Mob} (hx : MobOK m.lays m.objs.length x) : MWF (setM m o x) := by
  refine ⟨h.P, h.lays, fun y hy => ?_, by show (m.objs.set o x).length ≤ _; rw [List.length_set]; exact h.few⟩
  have hl : (m.objs.set o x).length = m.objs.length := List.length_set
  show MobOK m.lays (m.objs.set o x).length y
  rw [hl]
  rcases List.mem_or_eq_of_mem_set hy with hy | rfl
  · exact h.objs y hy
  · exact hx

def dropM (m : MS) (o : Int) : MS × Nat :=
  match valM m o with
  | none => (m, 8)
  | some (k, x) => (setM m k { x with held := false }, 0)
end Go.Proofs.YtcaaojbnjfdglaaGreatDoor
namespace Go.Proofs.YtcaaojbnjfdglaaGreatDoor
open Go.SL

theorem placeM_some {m : MS} {o place : Int} {ref : Bool} {k : Nat} {x : Mob} (h : valM m o = some (k, x)) : placeM m o place ref = placeE (layM m x) x.w.length place ref := by unfold placeM; rw [h]
theorem placeM_none {m : MS} {o place : Int} {ref : Bool} (h : valM m o = none) : placeM m o place ref = 8 := by unfold placeM; rw [h]

theorem MobOK_cut {ls : List Lay} {n : Nat} {x : Mob} (h : MobOK ls n x) (j kd t : Nat) (hk : kd = 2 → t < n) : MobOK ls n { x with kind := x.kind.set j kd, to := x.to.set j t } := by
  obtain ⟨a, b, c, d, e⟩ := h
  refine ⟨a, b, by show (x.kind.set j kd).length = _; rw [List.length_set]; exact c, by show (x.to.set j t).length = _; rw [List.length_set]; exact d, ?_⟩
  intro i (hi : (x.kind.set j kd)[i]? = some 2)
  show (x.to.set j t).getD i 0 < n
  by_cases hji : j = i
  · subst hji
    have hl : j < x.kind.length := by
      have := (List.getElem?_eq_some_iff.1 hi).1
      simpa using this
    rw [List.getElem?_set_self hl] at hi
    injection hi with hi
    rw [List.getD_eq_getElem?_getD, List.getElem?_set_self (by omega)]
    exact hk hi
  · rw [List.getElem?_set_ne hji] at hi
    have := e i hi
    rw [List.getD_eq_getElem?_getD, List.getElem?_set_ne hji, ← List.getD_eq_getElem?_getD]
    exact this

def tieM (m : MS) (o place u : Int) : MS × Nat :=
  match valM m o with
  | none => (m, 8)
  | some (k, x) => if placeE (layM m x) x.w.length place true = 0 then match valM m u with
    | none => (m, 8)
    | some (ku, _) => (setM m k { x with kind := x.kind.set place.toNat 2, to := x.to.set place.toNat ku }, 0)
    else (m, placeE (layM m x) x.w.length place true)
def holdM (m : MS) (t : Nat) : MS := match m.objs[t]? with | some y => setM m t { y with held := true } | none => m
def refM (m : MS) (o place : Int) : MS × Nat × Nat × Nat :=
  match valM m o with
  | none => (m, 0, 0, 8)
  | some (_, x) => if placeE (layM m x) x.w.length place true = 0 then (if x.kind.getD place.toNat 0 = 2 then holdM m (x.to.getD place.toNat 0) else m, x.kind.getD place.toNat 0, x.to.getD place.toNat 0, 0) else (m, 0, 0, placeE (layM m x) x.w.length place true)
end Go.Proofs.YtcaaojbnjfdglaaGreatDoor
namespace Go.Proofs.YtcaaojbnjfdglaaGreatDoor
open Go.SL

def ms0 : MS := ⟨[-1], [], []⟩
/-- What Define leaves, and answers. -/
def defM (m : MS) (ws : List Nat) : MS × Nat × Nat :=
  match decodeL ws with
  | none => (m, 0, 4)
  | some l => if 64 ≤ m.lays.length then (m, 0, 5) else ({ m with lays := m.lays ++ [l] }, m.lays.length + 1, 0)
/-- What is wrong with an object that is to be made; how many words it has. -/
def mayM (m : MS) (region lay count : Int) : Nat × Nat :=
  if liveP m.P region = false then (0, 15) else if lay < 1 ∨ (m.lays.length : Int) < lay then (0, 6) else sizeL ((m.lays[lay.toNat - 1]?).getD ⟨0, [], 0, []⟩) count
end Go.Proofs.YtcaaojbnjfdglaaGreatDoor
namespace Go.Proofs.YtcaaojbnjfdglaaGreatDoor
open Go.SL

def newM (region lay count : Int) (n : Nat) : Mob := ⟨region.toNat, lay.toNat, count.toNat, List.replicate n 0, List.replicate n 0, List.replicate n 0, true, false, false⟩
def makeM (m : MS) (region lay count : Int) : MS := { m with objs := m.objs ++ [newM region lay count (mayM m region lay count).1] }
theorem mayM_ok {m : MS} {region lay count : Int} (h : (mayM m region lay count).2 = 0) : ∃ (r la c : Nat) (l : Lay), region = r ∧ lay = (la + 1 : Nat) ∧ count = c ∧ liveP m.P region = true ∧ m.lays[la]? = some l ∧ mayM m region lay count = sizeL l c ∧ sizeL l c = (l.fixed + c * l.record, 0) ∧ l.fixed + c * l.record < 8192 := by
  unfold mayM at h ⊢
  by_cases h1 : liveP m.P region = false
  · rw [if_pos h1] at h; cases h
  · rw [if_neg h1] at h ⊢
    by_cases h2 : lay < 1 ∨ (m.lays.length : Int) < lay
    · rw [if_pos h2] at h; cases h
    · rw [if_neg h2] at h ⊢
      have h3 : liveP m.P region = true := by simpa using h1
      have h4 : 0 < region := by
        unfold liveP at h3
        exact (of_decide_eq_true h3).1
      obtain ⟨la, rfl⟩ : ∃ la : Nat, lay = ((la + 1 : Nat) : Int) := ⟨lay.toNat - 1, by omega⟩
      have hla : la < m.lays.length := by omega
      have hl := List.getElem?_eq_getElem hla
      generalize m.lays[la] = l at hl
      rw [Int.toNat_natCast, Nat.add_sub_cancel, hl] at h ⊢
      replace h : (sizeL l count).2 = 0 := h
      unfold sizeL at h
      split at h
      · cases h
      · rename_i hc
        split at h
        · cases h
        · rename_i hs
          obtain ⟨c, rfl⟩ : ∃ c : Nat, count = c := ⟨count.toNat, by omega⟩
          rw [Int.toNat_natCast] at hs
          refine ⟨region.toNat, la, c, l, by omega, rfl, rfl, h3, hl, rfl, ?_, by omega⟩
          unfold sizeL
          rw [if_neg hc, Int.toNat_natCast, if_neg hs]
theorem MWF_make {m : MS} {region lay count : Int} (h : (mayM m region lay count).2 = 0) (hm : MWF m) (hf : m.objs.length < 100000) : MWF (makeM m region lay count) := by
  obtain ⟨r, la, c, l, rfl, rfl, rfl, hl, hla, hmay, hsz, hlt⟩ := mayM_ok h
  have hlen : (m.objs ++ [newM r ((la + 1 : Nat) : Int) c (mayM m r ((la + 1 : Nat) : Int) c).1]).length = m.objs.length + 1 := by simp
  refine ⟨hm.P, hm.lays, fun x hx => ?_, by show (m.objs ++ [_]).length ≤ _; rw [hlen]; omega⟩
  show MobOK m.lays (m.objs ++ [_]).length x
  rw [hlen]
  rcases List.mem_append.1 hx with hx | hx
  · obtain ⟨a, b, c, d, e⟩ := hm.objs x hx
    exact ⟨a, b, c, d, fun p hp => by have := e p hp; omega⟩
  · simp only [List.mem_singleton] at hx
    subst hx
    rw [hmay, hsz]
    refine ⟨⟨l, ?_, hm.lays.2 l (List.mem_of_getElem? hla), ?_⟩, ?_, rfl, rfl, ?_⟩
    · show m.lays[(((la + 1 : Nat) : Int).toNat) - 1]? = _
      rw [Int.toNat_natCast]; exact hla
    · show sizeL l ((((c : Nat) : Int).toNat : Nat) : Int) = ((List.replicate (l.fixed + c * l.record) 0).length, 0)
      rw [Int.toNat_natCast, hsz, List.length_replicate]
    · show 1 ≤ ((la + 1 : Nat) : Int).toNat
      omega
    · intro p hp
      have : (List.replicate (l.fixed + c * l.record) 0)[p]? = some 2 := hp
      rw [List.getElem?_replicate] at this
      split at this <;> cases this

end Go.Proofs.YtcaaojbnjfdglaaGreatDoor
namespace Go.Proofs.YtcaaojbnjfdglaaGreatDoor
open Go.SL

def tokL : Option (Nat × Nat) → Lnk
  | some (k, g) => .obj k g
  | none => .none
def lnkM (told : List (Nat × Nat)) (kd t : Nat) : Lnk := if kd = 2 then tokL told[t]? else if kd = 1 then .grave else .none
def layX (ls : List Lay) (i : Nat) : Lay := (ls[i - 1]?).getD ⟨0, [], 0, []⟩

/-- What a slot has, and what the document's object is. -/
structure Like (lays : List Lay) (told : List (Nat × Nat)) (e : Ent) (x : Mob) : Prop where
  region : e.region = x.region
  lay : e.lay = x.lay
  count : e.count = x.count
  held : e.held = x.held
  pinned : e.pinned = x.pinned
  len : e.ws.length = x.w.length
  ref : ∀ p, p < x.w.length → isRefL (layX lays x.lay) p = true → lnkOf (e.ws.getD p 0) = lnkM told (x.kind.getD p 0) (x.to.getD p 0)
  word : ∀ p, p < x.w.length → isRefL (layX lays x.lay) p = false → e.ws.getD p 0 = x.w.getD p 0
  kind : ∀ p, p < x.w.length → x.kind.getD p 0 ≠ 0 → isRefL (layX lays x.lay) p = true ∧ x.kind.getD p 0 ≤ 2
structure Rel (s : CS) (m : MS) (told : List (Nat × Nat)) : Prop where
  len : told.length = m.objs.length
  lays : s.lays = m.lays
  tree : ∀ (r q : Int), (r, q) ∈ s.par ↔ ∃ k : Nat, r = k ∧ 1 ≤ k ∧ m.P[k]? = some q ∧ 0 ≤ q
  nd : (s.par.map (·.1)).Nodup
  last : s.last + 1 = m.P.length
  obj : ∀ (o : Nat) (x : Mob) (k g : Nat), m.objs[o]? = some x → told[o]? = some (k, g) → x.gone = false → ∃ e, s.tab[k]? = some ⟨g, some e⟩ ∧ Like m.lays told e x
  gone : ∀ (o : Nat) (x : Mob) (k g : Nat), m.objs[o]? = some x → told[o]? = some (k, g) → x.gone = true → ∀ e, s.tab[k]? ≠ some ⟨g, some e⟩
  used : ∀ (k g : Nat) (e : Ent), s.tab[k]? = some ⟨g, some e⟩ → ∃ o : Nat, told[o]? = some (k, g)
  gens : ∀ (o k g : Nat), told[o]? = some (k, g) → ∃ t, s.tab[k]? = some t ∧ g ≤ t.gen
  nodup : told.Nodup
/-- The same, but for what slots are used beside. -/
structure RelW (s : CS) (m : MS) (told : List (Nat × Nat)) : Prop where
  len : told.length = m.objs.length
  lays : s.lays = m.lays
  tree : ∀ (r q : Int), (r, q) ∈ s.par ↔ ∃ k : Nat, r = k ∧ 1 ≤ k ∧ m.P[k]? = some q ∧ 0 ≤ q
  nd : (s.par.map (·.1)).Nodup
  obj : ∀ (o : Nat) (x : Mob) (k g : Nat), m.objs[o]? = some x → told[o]? = some (k, g) → x.gone = false → ∃ e, s.tab[k]? = some ⟨g, some e⟩ ∧ Like m.lays told e x
  gone : ∀ (o : Nat) (x : Mob) (k g : Nat), m.objs[o]? = some x → told[o]? = some (k, g) → x.gone = true → ∀ e, s.tab[k]? ≠ some ⟨g, some e⟩
theorem Rel.w {s : CS} {m : MS} {told : List (Nat × Nat)} (R : Rel s m told) : RelW s m told := ⟨R.len, R.lays, R.tree, R.nd, R.obj, R.gone⟩

theorem nd_at {α : Type} {l : List α} (h : l.Nodup) {i j : Nat} {a : α} (hi : l[i]? = some a) (hj : l[j]? = some a) : i = j := by
  have h1 := (List.getElem?_eq_some_iff.1 hi)
  have h2 := (List.getElem?_eq_some_iff.1 hj)
  obtain ⟨a1, b1⟩ := h1
  obtain ⟨a2, b2⟩ := h2
  have h3 := List.pairwise_iff_getElem.1 h
  rcases Nat.lt_trichotomy i j with h4 | h4 | h4
  · exact absurd (b1.trans b2.symm) (h3 i j a1 a2 h4)
  · exact h4
  · exact absurd (b2.trans b1.symm) (h3 j i a2 a1 h4)

theorem Rel_set {s : CS} {m : MS} {told : List (Nat × Nat)} (R : Rel s m told) {n k g : Nat} {e e' : Ent} {x x' : Mob} (ht : told[n]? = some (k, g)) (hk : s.tab[k]? = some ⟨g, some e⟩) (hx : m.objs[n]? = some x) (hg : x.gone = false) (hg' : x'.gone = false) (hl : Like m.lays told e' x') (rem : List ((Int × Int) × Int)) :
    Rel { setE s k g e' with rem := rem } (setM m n x') told := by
  have hnl := (List.getElem?_eq_some_iff.1 hx).1
  have hkl := (List.getElem?_eq_some_iff.1 hk).1
  refine ⟨by show told.length = (m.objs.set n x').length; rw [List.length_set]; exact R.len, R.lays, R.tree, R.nd, R.last, ?_, ?_, ?_, ?_, R.nodup⟩
  · intro o x0 k0 g0 (hx0 : (m.objs.set n x')[o]? = some x0) ht0 hg0
    by_cases hon : n = o
    · subst hon
      rw [List.getElem?_set_self hnl] at hx0
      injection hx0 with hx0
      subst hx0
      rw [ht] at ht0
      injection ht0 with h1
      injection h1 with h1 h2
      subst h1 h2
      exact ⟨e', by show (s.tab.set k _)[k]? = _; rw [List.getElem?_set_self hkl], hl⟩
    · rw [List.getElem?_set_ne hon] at hx0
      obtain ⟨e0, h1, h2⟩ := R.obj o x0 k0 g0 hx0 ht0 hg0
      refine ⟨e0, ?_, h2⟩
      show (s.tab.set k _)[k0]? = _
      by_cases hkk : k = k0
      · subst hkk
        rw [hk] at h1
        injection h1 with h1
        injection h1 with h1 _
        subst h1
        exact absurd (nd_at R.nodup ht ht0) hon
      · rw [List.getElem?_set_ne hkk]; exact h1
  · intro o x0 k0 g0 (hx0 : (m.objs.set n x')[o]? = some x0) ht0 hg0 e0 (h1 : (s.tab.set k _)[k0]? = _)
    by_cases hon : n = o
    · subst hon
      rw [List.getElem?_set_self hnl] at hx0
      injection hx0 with hx0
      subst hx0
      rw [hg'] at hg0
      cases hg0
    · rw [List.getElem?_set_ne hon] at hx0
      rcases tab_set h1 with ⟨rfl, h2, _⟩ | ⟨_, h2⟩
      · injection h2 with h2 _
        subst h2
        exact hon (nd_at R.nodup ht ht0)
      · exact R.gone o x0 k0 g0 hx0 ht0 hg0 e0 h2
  · intro k0 g0 e0 (h1 : (s.tab.set k _)[k0]? = _)
    rcases tab_set h1 with ⟨rfl, h2, _⟩ | ⟨_, h2⟩
    · injection h2 with h2 _
      subst h2
      exact ⟨n, ht⟩
    · exact R.used k0 g0 e0 h2
  · intro o k0 g0 ht0
    obtain ⟨t, h1, h2⟩ := R.gens o k0 g0 ht0
    show ∃ t, (s.tab.set k _)[k0]? = some t ∧ _
    by_cases hkk : k = k0
    · subst hkk
      rw [hk] at h1
      injection h1 with h1
      subst h1
      exact ⟨_, List.getElem?_set_self hkl, h2⟩
    · exact ⟨t, by rw [List.getElem?_set_ne hkk]; exact h1, h2⟩
theorem Rel_gone {s : CS} {m : MS} {told : List (Nat × Nat)} (R : Rel s m told) {n : Nat} {x x' : Mob} (hx : m.objs[n]? = some x) (hg : x.gone = true) (hg' : x'.gone = true) : Rel s (setM m n x') told := by
  have hnl := (List.getElem?_eq_some_iff.1 hx).1
  refine ⟨by show told.length = (m.objs.set n x').length; rw [List.length_set]; exact R.len, R.lays, R.tree, R.nd, R.last, ?_, ?_, R.used, R.gens, R.nodup⟩
  · intro o x0 k0 g0 (hx0 : (m.objs.set n x')[o]? = some x0) ht0 hg0
    by_cases hon : n = o
    · subst hon
      rw [List.getElem?_set_self hnl] at hx0
      injection hx0 with hx0
      subst hx0
      rw [hg'] at hg0
      cases hg0
    · rw [List.getElem?_set_ne hon] at hx0
      exact R.obj o x0 k0 g0 hx0 ht0 hg0
  · intro o x0 k0 g0 (hx0 : (m.objs.set n x')[o]? = some x0) ht0 hg0
    by_cases hon : n = o
    · subst hon
      exact R.gone n x k0 g0 hx ht0 hg
    · rw [List.getElem?_set_ne hon] at hx0
      exact R.gone o x0 k0 g0 hx0 ht0 hg0

/-- What pick answers. -/
def Pick (told : List (Nat × Nat)) (i g o : Int) : Prop := (∃ k gg n : Nat, i = k ∧ g = gg ∧ o = n ∧ told[n]? = some (k, gg)) ∨ (o = -1 ∧ ∀ (k gg n : Nat), i = k → g = gg → told[n]? ≠ some (k, gg))
/-- A token is valid on both sides, or on neither. -/
@[reducible] def Vd (s : CS) (m : MS) (told : List (Nat × Nat)) (i g o : Int) : Prop := (validT s.tab i g = none ∧ valM m o = none) ∨
    ∃ (k gg n : Nat) (e : Ent) (x : Mob), i = k ∧ g = gg ∧ o = n ∧ told[n]? = some (k, gg) ∧ s.tab[k]? = some ⟨gg, some e⟩ ∧ m.objs[n]? = some x ∧ x.gone = false ∧ Like m.lays told e x ∧ validT s.tab i g = some (k, e) ∧ valM m o = some (n, x)
theorem rel_validW {s : CS} {m : MS} {told : List (Nat × Nat)} (R : RelW s m told) {k gg n : Nat} (ht : told[n]? = some (k, gg)) : Vd s m told k gg n := by
  have hnl : n < m.objs.length := by rw [← R.len]; exact (List.getElem?_eq_some_iff.1 ht).1
  have hx := List.getElem?_eq_getElem hnl
  generalize m.objs[n] = x at hx
  cases hg : x.gone with
  | true =>
    left
    constructor
    · cases hv : validT s.tab k gg with
      | none => rfl
      | some q =>
        obtain ⟨k', e⟩ := q
        obtain ⟨n', h1, h2, h3⟩ := lookT_some.1 (validT_some.1 hv).1
        obtain rfl : k = k' := by omega
        obtain rfl : gg = n' := by omega
        exact absurd h3 (R.gone n x k gg hx ht hg e)
    · rw [valM_nat, hx]
      simp [hg]
  | false =>
    obtain ⟨e, he, hl⟩ := R.obj n x k gg hx ht hg
    have hlk : lookT s.tab k gg = some (k, e) := lookT_some.2 ⟨gg, rfl, rfl, he⟩
    cases hh : x.held with
    | true =>
      right
      refine ⟨k, gg, n, e, x, rfl, rfl, rfl, ht, he, hx, hg, hl, validT_some.2 ⟨hlk, by rw [hl.held, hh]⟩, ?_⟩
      rw [valM_nat, hx]
      simp [hg, hh]
    | false =>
      left
      constructor
      · cases hv : validT s.tab k gg with
        | none => rfl
        | some q =>
          obtain ⟨k', e'⟩ := q
          obtain ⟨h1, h2⟩ := validT_some.1 hv
          rw [hlk] at h1
          injection h1 with h1
          injection h1 with h1 h3
          subst h3
          rw [hl.held, hh] at h2
          cases h2
      · rw [valM_nat, hx]
        simp [hh]
theorem rel_valid {s : CS} {m : MS} {told : List (Nat × Nat)} (R : Rel s m told) {i g o : Int} (P : Pick told i g o) : Vd s m told i g o := by
  rcases P with ⟨k, gg, n, rfl, rfl, rfl, ht⟩ | ⟨rfl, hno⟩
  · exact rel_validW R.w ht
  · left
    refine ⟨?_, rfl⟩
    cases hv : validT s.tab i g with
    | none => rfl
    | some q =>
      obtain ⟨k, e⟩ := q
      obtain ⟨n', h1, h2, h3⟩ := lookT_some.1 (validT_some.1 hv).1
      obtain ⟨o, ho⟩ := R.used k n' e h3
      exact absurd ho (hno k n' o h1 h2)
theorem lay_same {s : CS} {m : MS} {told : List (Nat × Nat)} (R : RelW s m told) {e : Ent} {x : Mob} (h : Like m.lays told e x) : layE s e = layM m x := by
  unfold layE layM
  rw [R.lays, h.lay]
theorem get_lawV {s : CS} {m : MS} {told : List (Nat × Nat)} (R : RelW s m told) {i g o : Int} (V : Vd s m told i g o) (place : Int) :
    (placeM m o place false ≠ 0 ∧ getW s i g place = (0, placeM m o place false)) ∨ (placeM m o place false = 0 ∧ ∃ (n j : Nat) (x : Mob), o = n ∧ place = j ∧ m.objs[n]? = some x ∧ j < x.w.length ∧ getW s i g place = (x.w.getD j 0, 0)) := by
  rcases V with ⟨h1, h2⟩ | ⟨k, gg, n, e, x, rfl, rfl, rfl, ht, hk, hx, hg, hl, h1, h2⟩
  · left
    rw [placeM_none h2, getW_none h1]
    exact ⟨by omega, rfl⟩
  · rw [placeM_some h2, getW_some h1, lay_same R hl, hl.len]
    by_cases h0 : placeE (layM m x) x.w.length place false = 0
    · right
      obtain ⟨j, rfl, hj, hr⟩ := placeE_ok h0
      refine ⟨h0, n, j, x, rfl, rfl, hx, hj, ?_⟩
      rw [if_pos h0, Int.toNat_natCast, hl.word j hj hr]
    · left
      exact ⟨h0, by rw [if_neg h0]⟩
theorem get_law {s : CS} {m : MS} {told : List (Nat × Nat)} (R : Rel s m told) {i g o : Int} (P : Pick told i g o) (place : Int) :
    (placeM m o place false ≠ 0 ∧ getW s i g place = (0, placeM m o place false)) ∨ (placeM m o place false = 0 ∧ ∃ (n j : Nat) (x : Mob), o = n ∧ place = j ∧ m.objs[n]? = some x ∧ j < x.w.length ∧ getW s i g place = (x.w.getD j 0, 0)) := get_lawV R.w (rel_valid R P) place
end Go.Proofs.YtcaaojbnjfdglaaGreatDoor
namespace Go.Proofs.YtcaaojbnjfdglaaGreatDoor
open Go.SL

theorem getD_set {α : Type} {l : List α} {i j : Nat} {a d : α} (h : i < l.length) : (l.set i a).getD j d = if i = j then a else l.getD j d := by
  rw [List.getD_eq_getElem?_getD, List.getD_eq_getElem?_getD, List.getElem?_set]
  split
  · rename_i hij; subst hij; simp [h]
  · rfl

theorem Like_held {ls : List Lay} {told : List (Nat × Nat)} {e : Ent} {x : Mob} (h : Like ls told e x) (b : Bool) : Like ls told { e with held := b } { x with held := b } := ⟨h.region, h.lay, h.count, rfl, h.pinned, h.len, h.ref, h.word, h.kind⟩
theorem drop_law {s : CS} {m : MS} {told : List (Nat × Nat)} (R : Rel s m told) {i g o : Int} (P : Pick told i g o) :
    (dropS s i g).2 = (dropM m o).2 ∧ Rel (dropS s i g).1 (dropM m o).1 told := by
  rcases rel_valid R P with ⟨h1, h2⟩ | ⟨k, gg, n, e, x, rfl, rfl, rfl, ht, hk, hx, hg, hl, h1, h2⟩
  · have : dropM m o = (m, 8) := by unfold dropM; rw [h2]
    rw [this, dropS_none h1]
    exact ⟨rfl, R⟩
  · have : dropM m n = (setM m n { x with held := false }, 0) := by unfold dropM; rw [h2]
    rw [this, dropS_some h1, Int.toNat_natCast]
    exact ⟨rfl, Rel_set R ht hk hx hg (by exact hg) (Like_held hl false) s.rem⟩
theorem look_lawV {s : CS} {m : MS} {told : List (Nat × Nat)} (R : RelW s m told) {i g o : Int} (V : Vd s m told i g o) (place : Int) :
    (placeM m o place true ≠ 0 ∧ lookL s i g place = (.none, placeM m o place true)) ∨ (placeM m o place true = 0 ∧ ∃ (n j : Nat) (x : Mob), o = n ∧ place = j ∧ m.objs[n]? = some x ∧ valM m o = some (n, x) ∧ j < x.w.length ∧ isRefL (layX m.lays x.lay) j = true ∧ x.kind.getD j 0 ≤ 2 ∧ lookL s i g place = (lnkM told (x.kind.getD j 0) (x.to.getD j 0), 0)) := by
  rcases V with ⟨h1, h2⟩ | ⟨k, gg, n, e, x, rfl, rfl, rfl, ht, hk, hx, hg, hl, h1, h2⟩
  · left
    rw [placeM_none h2, lookL_none h1]
    exact ⟨by omega, rfl⟩
  · rw [placeM_some h2, lookL_some h1, lay_same R hl, hl.len]
    by_cases h0 : placeE (layM m x) x.w.length place true = 0
    · right
      obtain ⟨j, rfl, hj, hr⟩ := placeE_ok h0
      refine ⟨h0, n, j, x, rfl, rfl, hx, h2, hj, hr, ?_, ?_⟩
      · by_cases hz : x.kind.getD j 0 = 0
        · omega
        · exact (hl.kind j hj hz).2
      · rw [if_pos h0, Int.toNat_natCast, hl.ref j hj hr]
    · left
      exact ⟨h0, by rw [if_neg h0]⟩

theorem look_law {s : CS} {m : MS} {told : List (Nat × Nat)} (R : Rel s m told) {i g o : Int} (P : Pick told i g o) (place : Int) :
    (placeM m o place true ≠ 0 ∧ lookL s i g place = (.none, placeM m o place true)) ∨ (placeM m o place true = 0 ∧ ∃ (n j : Nat) (x : Mob), o = n ∧ place = j ∧ m.objs[n]? = some x ∧ valM m o = some (n, x) ∧ j < x.w.length ∧ isRefL (layX m.lays x.lay) j = true ∧ x.kind.getD j 0 ≤ 2 ∧ lookL s i g place = (lnkM told (x.kind.getD j 0) (x.to.getD j 0), 0)) := look_lawV R.w (rel_valid R P) place
theorem Like_tie {ls : List Lay} {told : List (Nat × Nat)} {e : Ent} {x : Mob} {n : Nat} (h : Like ls told e x) (hm : MobOK ls n x) {j : Nat} (hj : j < x.w.length) (hr : isRefL (layX ls x.lay) j = true) (kd t : Nat) (hkd : kd ≤ 2) (W : Nat) (hW : lnkOf W = lnkM told kd t) : Like ls told { e with ws := e.ws.set j W } { x with kind := x.kind.set j kd, to := x.to.set j t } := by
  refine ⟨h.region, h.lay, h.count, h.held, h.pinned, by simp [h.len], ?_, ?_, ?_⟩
  · intro p hp hr'
    show lnkOf ((e.ws.set j W).getD p 0) = lnkM told ((x.kind.set j kd).getD p 0) ((x.to.set j t).getD p 0)
    rw [getD_set (by rw [h.len]; exact hj), getD_set (by rw [hm.kind]; exact hj), getD_set (by rw [hm.to]; exact hj)]
    split
    · exact hW
    · exact h.ref p hp hr'
  · intro p hp hr'
    show (e.ws.set j W).getD p 0 = x.w.getD p 0
    rw [getD_set (by rw [h.len]; exact hj), if_neg (by rintro rfl; exact absurd (hr.symm.trans hr') (by decide))]
    exact h.word p hp hr'
  · intro p hp (hn : (x.kind.set j kd).getD p 0 ≠ 0)
    show _ ∧ (x.kind.set j kd).getD p 0 ≤ 2
    rw [getD_set (by rw [hm.kind]; exact hj)] at hn ⊢
    by_cases hjp : j = p
    · subst hjp
      rw [if_pos rfl]
      exact ⟨hr, hkd⟩
    · rw [if_neg hjp] at hn ⊢
      exact h.kind p hp hn

theorem tie_law {s : CS} {m : MS} {told : List (Nat × Nat)} (R : Rel s m told) (hw : WF s) (hm : MWF m) {i g o u v q : Int} (P : Pick told i g o) (Q : Pick told u v q) (place : Int) :
    (TieS s i g place u v).2 = (tieM m o place q).2 ∧ Rel (TieS s i g place u v).1 (tieM m o place q).1 told := by
  rcases rel_valid R P with ⟨h1, h2⟩ | ⟨k, gg, n, e, x, rfl, rfl, rfl, ht, hk, hx, hg, hl, h1, h2⟩
  · have h3 : tieM m o place q = (m, 8) := by unfold tieM; rw [h2]
    have h4 : TieS s i g place u v = (s, 8) := by unfold TieS; rw [lookL_none h1]; rw [if_pos (by decide)]
    rw [h3, h4]
    exact ⟨rfl, R⟩
  · by_cases h0 : placeE (layM m x) x.w.length place true = 0
    · have hz : (lookL s k gg place).2 = 0 := by rw [lookL_some h1, lay_same R.w hl, hl.len, if_pos h0]
      rcases rel_valid R Q with ⟨h3, h4⟩ | ⟨k', gg', n', e', x', rfl, rfl, rfl, ht', hk', hx', hg', hl', h3, h4⟩
      · have h5 : tieM m n place q = (m, 8) := by unfold tieM; rw [h2]; show (if placeE _ _ _ _ = 0 then _ else _) = _; rw [if_pos h0, h4]
        have h6 : TieS s k gg place u v = (s, 8) := by unfold TieS; rw [hz, if_neg (by decide), h3]; rfl
        rw [h5, h6]
        exact ⟨rfl, R⟩
      · have h5 : tieM m n place n' = (setM m n { x with kind := x.kind.set place.toNat 2, to := x.to.set place.toNat n' }, 0) := by unfold tieM; rw [h2]; show (if placeE _ _ _ _ = 0 then _ else _) = _; rw [if_pos h0, h4]
        have h6 : TieS s k gg place k' gg' = tieS s k gg place (.obj k' gg') := by unfold TieS; rw [hz, if_neg (by decide), h3]; rfl
        rw [h5, h6, tieS_some h1, lay_same R.w hl, hl.len, if_pos h0]
        obtain ⟨j, rfl, hj, hr⟩ := placeE_ok h0
        rw [Int.toNat_natCast, Int.toNat_natCast]
        have hok := okT_of hw hk'
        exact ⟨rfl, Rel_set R ht hk hx hg (by exact hg) (Like_tie hl (hm.objs x (List.mem_of_getElem? hx)) hj hr 2 n' (by omega) _ (by rw [lnkOf_obj hok.1]; unfold lnkM; rw [if_pos rfl, ht']; rfl)) _⟩
    · have hz : lookL s k gg place = (.none, placeE (layM m x) x.w.length place true) := by rw [lookL_some h1, lay_same R.w hl, hl.len, if_neg h0]
      have h5 : tieM m n place q = (m, placeE (layM m x) x.w.length place true) := by unfold tieM; rw [h2]; show (if placeE _ _ _ _ = 0 then _ else _) = _; rw [if_neg h0]
      have h6 : TieS s k gg place u v = (s, placeE (layM m x) x.w.length place true) := by unfold TieS; rw [hz, if_pos h0]
      rw [h5, h6]
      exact ⟨rfl, R⟩

theorem ref_law {s : CS} {m : MS} {told : List (Nat × Nat)} (R : Rel s m told) (hm : MWF m) {i g o : Int} (P : Pick told i g o) (place : Int) :
    (lookL s i g place).2 = (refM m o place).2.2.2 ∧ (lookL s i g place).1 = lnkM told (refM m o place).2.1 (refM m o place).2.2.1 ∧ (refM m o place).2.1 ≤ 2 ∧ ((refM m o place).2.1 = 2 → (refM m o place).2.2.1 < told.length) ∧ Rel (refS s i g place) (refM m o place).1 told := by
  rcases look_law R P place with ⟨h0, h1⟩ | ⟨h0, n, j, x, rfl, rfl, hx, hv, hj, hr, hk2, h1⟩
  · have h3 : refM m o place = (m, 0, 0, placeM m o place true) := by
      cases hv : valM m o with
      | none => unfold refM; rw [hv, placeM_none hv]
      | some kx =>
        obtain ⟨k, x⟩ := kx
        rw [placeM_some hv] at h0 ⊢
        unfold refM; rw [hv]; show (if placeE _ _ _ _ = 0 then _ else _) = _; rw [if_neg h0]
    have h4 : refS s i g place = s := by unfold refS; rw [h1]
    rw [h3, h4, h1]
    exact ⟨rfl, rfl, by show 0 ≤ 2; omega, fun h => (by cases h), R⟩
  · rw [placeM_some hv] at h0
    have h3 : refM m n j = (if x.kind.getD j 0 = 2 then holdM m (x.to.getD j 0) else m, x.kind.getD j 0, x.to.getD j 0, 0) := by unfold refM; rw [hv]; show (if placeE _ _ _ _ = 0 then _ else _) = _; rw [if_pos h0, Int.toNat_natCast]
    have hmo := hm.objs x (List.mem_of_getElem? hx)
    rw [h3, h1]
    by_cases hkd : x.kind.getD j 0 = 2
    · have hjk : j < x.kind.length := by rw [hmo.kind]; exact hj
      have hjk2 := List.getElem?_eq_getElem hjk
      have hgo := hmo.goes j (by rw [hjk2]; rw [List.getD_eq_getElem?_getD, hjk2] at hkd; exact congrArg some hkd)
      have hgt : x.to.getD j 0 < told.length := by rw [R.len]; exact hgo
      generalize htd : x.to.getD j 0 = td at *
      rw [hkd, if_pos rfl]
      have hy := List.getElem?_eq_getElem hgo
      generalize m.objs[td] = y at hy
      have htt := List.getElem?_eq_getElem hgt
      generalize told[td] = ab at htt
      obtain ⟨a, b⟩ := ab
      have hln : lnkM told 2 td = .obj a b := by unfold lnkM; rw [if_pos rfl, htt]; rfl
      have h4 : refS s i g j = holdS s a b := by unfold refS; rw [h1, hkd, hln]; rfl
      have h5 : holdM m td = setM m td { y with held := true } := by unfold holdM; rw [hy]
      rw [h4, h5]
      refine ⟨rfl, rfl, by show 2 ≤ 2; omega, fun _ => hgt, ?_⟩
      by_cases hyg : y.gone = true
      · have h6 : lookT s.tab a b = none := by
          cases hlk : lookT s.tab a b with
          | none => rfl
          | some q =>
            obtain ⟨k', e'⟩ := q
            obtain ⟨n', h1, h2, h3⟩ := lookT_some.1 hlk
            obtain rfl : a = k' := by omega
            obtain rfl : b = n' := by omega
            exact absurd h3 (R.gone td y a b hy htt hyg e')
        rw [holdS_none h6]
        exact Rel_gone R hy hyg (by exact hyg)
      · have hyg : y.gone = false := by simpa using hyg
        obtain ⟨e', he', hl'⟩ := R.obj td y a b hy htt hyg
        have h6 : lookT s.tab a b = some (a, e') := lookT_some.2 ⟨b, rfl, rfl, he'⟩
        rw [holdS_some h6]
        exact Rel_set R htt he' hy hyg (by exact hyg) (Like_held hl' true) s.rem
    · have h4 : refS s i g j = s := by
        unfold refS
        rw [h1]
        have : ∀ a b, lnkM told (x.kind.getD j 0) (x.to.getD j 0) ≠ .obj a b := by
          intro a b
          unfold lnkM
          rw [if_neg hkd]
          split <;> intro h <;> cases h
        generalize lnkM told (x.kind.getD j 0) (x.to.getD j 0) = L at this
        cases L with
        | none => rfl
        | grave => rfl
        | obj a b => exact absurd rfl (this a b)
      rw [h4, if_neg hkd]
      exact ⟨rfl, rfl, hk2, fun h => absurd h hkd, R⟩

end Go.Proofs.YtcaaojbnjfdglaaGreatDoor
