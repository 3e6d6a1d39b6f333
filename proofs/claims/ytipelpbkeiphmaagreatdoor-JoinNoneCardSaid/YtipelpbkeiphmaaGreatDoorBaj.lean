/- Cells: what is proved on the way: every input of the statement; no condition. Texts joined: BumA ImgA ImgB ImgC ImgD SrtI BagA RmC RmD RmE. -/
import Derived.Test.YtipelpbkeiphmaaGreatDoorBaf
import Derived.Test.YtipelpbkeiphmaaGreatDoorBai
import Derived.Test.YtipelpbkeiphmaaGreatDoorBae
set_option linter.unusedVariables false
set_option linter.unusedSimpArgs false
set_option linter.unusedSectionVars false
namespace Go.Proofs.YtipelpbkeiphmaaGreatDoor
open Go.SL

@[reducible] def ptv (q : Nat × Nat) : List Value := [.int .i64 q.1, .int .i64 q.2]
theorem ptv_len (q : Nat × Nat) : (ptv q).length = 2 := rfl
def SPC (p sp owner : Nat) (S : Spc) : HProp := ex fun v : Value => star [pts p (row 269 [pp sp, .int .i64 owner, v, .int .i64 S.at', .int .i64 S.fin]), sls 271 2 v (S.parts.flatMap ptv)]
theorem SPC_out [Extra] {w : World} {p sp owner : Nat} {S : Spc} {l : List HProp} (H : Holds w (SPC p sp owner S :: l)) : ∃ a c, Holds w (pts p (row 269 [pp sp, .int .i64 owner, .slice a S.parts.length c, .int .i64 S.at', .int .i64 S.fin]) :: sls 271 2 (.slice a S.parts.length c) (S.parts.flatMap ptv) :: l) := by
  obtain ⟨v, H⟩ := Holds.ex.1 H
  have H := Holds.star.1 H
  obtain ⟨a, c, rfl⟩ := sls_slice H.drop (flat_len ptv_len _) (by decide)
  exact ⟨a, c, H⟩
theorem SPC_in [Extra] {w : World} {p sp owner : Nat} {S : Spc} {l : List HProp} {v : Value} (H : Holds w (pts p (row 269 [pp sp, .int .i64 owner, v, .int .i64 S.at', .int .i64 S.fin]) :: sls 271 2 v (S.parts.flatMap ptv) :: l)) : Holds w (SPC p sp owner S :: l) :=
  Holds.ex.2 ⟨v, Holds.star.2 H⟩

theorem uNew_spec [Extra] (sp owner : Nat) (ho : 1 ≤ owner) {w : World} {fr : List HProp} (H : Holds w fr) :
    Calls Tryz.prog 95 #[pp sp, .int .i64 owner] w (ret fun v w' => ∃ p, v = .tuple #[pp p, .int .i64 0] ∧ Holds w' (SPC p sp owner ⟨[], 0, 0⟩ :: fr)) := by
  refine calls_of Tryz.func95 rfl (by kernel_rfl) ?_
  refine J143 H ?_
  refine C_joinQ (fun ms σ w => ms = [] ∧ σ 0 = pp sp ∧ σ 1 = .int .i64 owner ∧ Holds w fr) ?_ ?_
  · refine J59 H ?_
    refine J20 H ?_
    rw [show decide ((owner : Int) < 1) = false from decide_eq_false (by omega)]
    refine J9 H ?_
    exact .inl ⟨rfl, rfl, rfl, rfl, H⟩
  · clear H
    rintro ms σ w ⟨rfl, g0, g1, H⟩
    rw [upd_self g0, upd_self g1]
    refine J2 H ?_
    refine J40 H ?_
    clear H; intro b15 w H
    refine J3 H ?_
    have H := (sls_nil (E := 271) (k := 2) H).swap
    exact C_ret (Jy H rfl fun w' H' => ⟨_, rfl, SPC_in (S := ⟨[], 0, 0⟩) H'⟩)

theorem Room_spec [Extra] (p sp owner : Nat) (S : Spc) (h1 : S.at' ≤ S.fin) (h2 : S.fin ≤ 1048576) {w : World} {fr : List HProp} (H : Holds w (SPC p sp owner S :: fr)) :
    Calls Tryz.prog 181 #[pp p] w (ret fun v w' => v = .int .i64 ((S.fin - S.at' : Nat) : Int) ∧ Holds w' (SPC p sp owner S :: fr)) := by
  obtain ⟨a, c, H⟩ := SPC_out H
  refine calls_of Tryz.func181 rfl (by kernel_rfl) ?_
  refine J173 H ?_
  refine J1 H ?_
  clear H; intro w H
  refine J100 H ?_
  refine J79 H ?_
  refine J57 H ?_
  refine A_load1 7 [] H rfl (Wants.none rfl) rfl rfl (by kernel_rfl) ?_
  refine J55 H ?_
  refine J121 H ?_
  refine C_ret (Jy (SPC_in H) rfl fun w' H' => ⟨?_, H'⟩)
  show Value.int .i64 (IntKind.i64.wrap ((S.fin : Int) - (S.at' : Int))) = _
  rw [wrap64 (by omega) (by omega)]
  congr 1
  omega

theorem Alloc_spec [Extra] (p sp owner size n : Nat) (S : Spc) (mem own : List Nat) (ho : 1 ≤ owner) (hn1 : 1 ≤ n) (hn2 : n ≤ 100000) (h1 : S.at' ≤ S.fin) (h2 : S.fin ≤ 1048576) (h63 : own.length ≤ 63) (hs1 : 1 ≤ size) (hs2 : size ≤ 1024) (hp : S.parts.length ≤ 1000) {w : World} {fr : List HProp} [hT : HasTab 0 Lib.deBruijn64tab fr]
    (H : Holds w (SPC p sp owner S :: ST sp size mem own :: fr)) :
    Calls Tryz.prog 99 #[pp p, .int .i64 n] w (ret fun v w' => (∃ a own' mem' S', v = .tuple #[.int .i64 ((a : Nat) : Int), .int .i64 0] ∧ Alloced size own mem owner S n own' mem' S' a ∧ Holds w' (SPC p sp owner S' :: ST sp size mem' own' :: fr)) ∨
      (v = .tuple #[.int .i64 0, .int .i64 11] ∧ (∀ a, a + ((n - 1) / size + 1) ≤ own.length → ∃ i, a ≤ i ∧ i < a + ((n - 1) / size + 1) ∧ own.getD i 0 ≠ 0) ∧ Holds w' (SPC p sp owner S :: ST sp size mem own :: fr))) := by
  refine calls_of Tryz.func99 rfl (by kernel_rfl) ?_
  refine J143 H ?_
  refine C_joinQ (fun ms σ w => ms = [] ∧ σ 0 = pp p ∧ σ 1 = .int .i64 n ∧ Holds w (SPC p sp owner S :: ST sp size mem own :: fr)) ?_ ?_
  · refine J59 H ?_
    refine J20 H ?_
    rw [show decide ((n : Int) < 1) = false from decide_eq_false (by omega)]
    refine J109 H ?_
    refine J2 H ?_
    refine Jc rfl rfl (Room_spec p sp owner S h1 h2 H) ?_
    clear H; rintro v w ⟨rfl, H⟩
    refine J3 H ?_
    by_cases hr : n ≤ S.fin - S.at'
    · rw [show decide ((n : Int) ≤ ((S.fin - S.at' : Nat) : Int)) = true from decide_eq_true (by omega)]
      refine J33 H ?_
      obtain ⟨a, c, H⟩ := SPC_out H
      refine J37 H ?_
      rw [wrap64 (x := (S.at' : Int) + (n : Int)) (by omega) (by omega), show (S.at' : Int) + (n : Int) = ((S.at' + n : Nat) : Int) by omega]
      refine J52 H ?_
      clear H; intro w H
      refine Lp_nil ?_
      refine J37 H ?_
      refine J3 H ?_
      refine C_ret (.inr ⟨by simp, Jy (SPC_in (S := { S with at' := S.at' + n }) H) rfl fun w' H' => .inl ⟨S.at', own, mem, _, ?_, .room hr, H'⟩⟩)
      show Value.tuple #[.int .i64 (IntKind.i64.wrap (((S.at' + n : Nat) : Int) - (n : Int))), _] = _
      rw [wrap64 (by omega) (by omega), show ((S.at' + n : Nat) : Int) - (n : Int) = (S.at' : Int) by omega]
      rfl
    · rw [show decide ((n : Int) ≤ ((S.fin - S.at' : Nat) : Int)) = false from decide_eq_false (by omega)]
      refine J9 H ?_
      exact .inl ⟨rfl, rfl, rfl, rfl, H⟩
  · clear H
    rintro ms σ w ⟨rfl, g0, g1, H⟩
    rw [upd_self g0, upd_self g1]
    obtain ⟨a, c, H⟩ := SPC_out H
    have hk : (n - 1) / size + 1 ≤ n := by have := Nat.div_le_self (n - 1) size; omega
    have hk1 : (n - 1) / size * size ≤ n - 1 := Nat.div_mul_le_self _ _
    have hk2 : n ≤ ((n - 1) / size + 1) * size := by
      have := Nat.lt_div_mul_add (a := n - 1) (b := size) (by omega)
      rw [Nat.succ_mul]
      omega
    refine J48 H ?_
    replace H := Js [2,0,0] 0 H
    refine Jc rfl rfl (Words_spec sp size mem own H) ?_
    clear H; rintro v w ⟨rfl, H⟩
    refine J0 H ?_
    refine J10 H ?_
    rw [wrap64 (x := (n : Int) - 1) (by omega) (by omega), show (n : Int) - 1 = ((n - 1 : Nat) : Int) by omega]
    refine Lp_pv (v := .int .i64 (((n - 1) / size : Nat) : Int)) (by
      show (if IntKind.i64 = IntKind.i64 then (if (size : Int) = 0 then none else some _) else none) = _
      rw [if_pos rfl, if_neg (by omega), quoN (by omega)]) rfl ?_
    refine J3 H ?_
    generalize hkk : (n - 1) / size = q at hk hk1 hk2
    rw [wrap64 (x := ((q : Nat) : Int) + 1) (by omega) (by omega), show ((q : Nat) : Int) + 1 = ((q + 1 : Nat) : Int) by omega]
    refine J1 H ?_
    clear H; intro w H
    refine J28 H ?_
    refine A_load1 3 [9] H rfl (Wants.none rfl) rfl rfl (by kernel_rfl) ?_
    refine J79 H ?_
    refine J57 H ?_
    refine A_load1 7 [9] H rfl (Wants.none rfl) rfl rfl (by kernel_rfl) ?_
    refine J55 H ?_
    refine Jo 9 H ?_
    refine Jk rfl rfl (TakeRun_spec sp size mem own owner (q + 1) h63 ho (by omega) (by omega) H) ?_
    clear H; rintro v w (⟨b, rfl, hb, hfree, H⟩ | ⟨rfl, hno, H⟩)
    · have hf : ∀ c, b ≤ c → c < b + (q + 1) → own[c]? = some 0 := fun c e1 e2 => by
        have := hfree c e1 e2
        rw [List.getD_eq_getElem?_getD, List.getElem?_eq_getElem (by omega)] at this
        rw [List.getElem?_eq_getElem (by omega)]
        simpa using this
      have hbs : (b + (q + 1)) * size ≤ 63 * 1024 := Nat.mul_le_mul (by omega) hs2
      have hbs2 : (b + (q + 1)) * size = b * size + (q + 1) * size := Nat.add_mul _ _ _
      have hbs3 : (b + 1) * size = b * size + size := Nat.succ_mul _ _
      have hsq : size ≤ (q + 1) * size := Nat.le_mul_of_pos_left _ (by omega)
      refine J74 H ?_
      refine J115 H ?_
      refine J174 H ?_
      refine J4 H ?_
      refine J104 H ?_
      refine J66 H ?_
      refine J11 H ?_
      refine J63 H ?_
      refine J32 H ?_
      clear H; intro b69 w H
      replace H := Js [3,0,1,0] 0 H
      refine Lp_s rfl (St_append H rfl rfl (by repeat (first | exact Reads.nil _ | apply Reads.cons rfl)) rfl (by decide) (by rw [flat_len ptv_len]; simp only [List.length_cons, List.length_nil]; omega) rfl rfl ?_)
      clear H; intro v70 w H
      obtain ⟨a70, m70, c70, rfl⟩ := sls_any H
      have e1 : S.parts.flatMap ptv ++ [.int .i64 b, .int .i64 ((q + 1 : Nat) : Int)] = (S.parts ++ [(b, q + 1)]).flatMap ptv := by simp
      rw [e1] at H
      refine J52 H ?_
      clear H; intro w H
      refine J67 H ?_
      by_cases hq : q = 0
      · subst hq
        rw [show (((0 + 1 : Nat) : Int) == 1) = true from rfl]
        refine J14 H ?_
        refine C_join (fun ms σ w => ms = [] ∧ σ 6 = .int .i64 size ∧ σ 8 = .int .i64 b ∧ Holds w (SPC p sp owner ⟨S.parts ++ [(b, 1)], b * size + n, (b + 1) * size⟩ :: ST sp size (setR mem (b * size) (1 * size) 0) (setR own b 1 owner) :: fr)) ?_ ?_
        · refine C_true rfl ?_
          have m1 : (b : Int) * (size : Int) = ((b * size : Nat) : Int) := (Int.natCast_mul _ _).symm
          have m2 : ((b : Int) + 1) * (size : Int) = (((b + 1) * size : Nat) : Int) := by rw [Int.natCast_mul, Int.natCast_add]; rfl
          refine J2 H ?_
          refine J30 H ?_
          refine J30 H ?_
          refine J7 H ?_
          rw [wrap64 (x := (b : Int) + 1) (by omega) (by omega), m1, m2, wrap64 (x := ((b * size : Nat) : Int)) (by omega) (by omega), wrap64 (x := (((b + 1) * size : Nat) : Int)) (by omega) (by omega), wrap64 (x := ((b * size : Nat) : Int) + (n : Int)) (by omega) (by omega), show ((b * size : Nat) : Int) + (n : Int) = ((b * size + n : Nat) : Int) by omega]
          refine J52 H ?_
          clear H; intro w H
          refine J52 H ?_
          clear H; intro w H
          refine Lp_nil ?_
          replace H := Js [2,0,1] 1 H
          exact ⟨rfl, rfl, rfl, rfl, SPC_in (S := ⟨S.parts ++ [(b, 1)], b * size + n, (b + 1) * size⟩) H⟩
        · clear H
          rintro ms σ w ⟨rfl, g6, g8, H⟩
          rw [upd_self g6, upd_self g8]
          refine J81 H ?_
          refine C_ret (Jy H rfl fun w' H' => .inl ⟨b * size, _, _, _, ?_, .one (by omega) (hf b (by omega) (by omega)) (by omega), H'⟩)
          show Value.tuple #[.int .i64 (IntKind.i64.wrap ((b : Int) * (size : Int))), _] = _
          rw [← Int.natCast_mul, wrap64 (by omega) (by omega)]
          rfl
      · rw [show (((q + 1 : Nat) : Int) == 1) = false by simp; omega]
        refine J9 H ?_
        refine J81 H ?_
        replace H := Js [2,0,1] 1 H
        refine C_ret (Jy (SPC_in (S := ⟨S.parts ++ [(b, q + 1)], S.at', S.fin⟩) H) rfl fun w' H' => .inl ⟨b * size, _, _, _, ?_, .run (k := q + 1) (by omega) hb hf hk2 (by rw [Nat.add_sub_cancel]; omega), H'⟩)
        show Value.tuple #[.int .i64 (IntKind.i64.wrap ((b : Int) * (size : Int))), _] = _
        rw [← Int.natCast_mul, wrap64 (by omega) (by omega)]
        rfl
    · refine J74 H ?_
      refine J115 H ?_
      refine J174 H ?_
      refine J4 H ?_
      refine J5 H ?_
      refine J176 H ?_
      replace H := Js [1,1,0] 0 H
      exact C_ret (Jy (SPC_in H) rfl fun w' H' => .inr ⟨rfl, hno, H'⟩)
end Go.Proofs.YtipelpbkeiphmaaGreatDoor
namespace Go.Proofs.YtipelpbkeiphmaaGreatDoor
open Go.SL

@[reducible] def IMG (ip sp bp : Nat) : HProp := pts ip (row 262 [pp sp, pp bp])

/-- An object's image: its layout's number, its count, its slot, its size, its layout. -/
structure ImgAt (ls : List Lay) (size : Nat) (mem own : List Nat) (addr i c s n : Nat) (l : Lay) : Prop where
  may : MayH i c s
  lay : ls[i - 1]? = some l
  right : RightL l
  siz : sizeL l c = (n, 0)
  head : mem.getD addr 0 = encH i c s
  fit : addr + 1 + n ≤ mem.length
  owned : Owned size own addr (n + 1)
theorem Owned.sub {size : Nat} {own : List Nat} {a n b m : Nat} (h : Owned size own a n) (h1 : a ≤ b) (h2 : b + m ≤ a + n) (h3 : 1 ≤ m) : Owned size own b m := fun c c1 c2 =>
  h c (Nat.le_trans (Nat.div_le_div_right h1) c1) (Nat.le_trans c2 (Nat.div_le_div_right (by omega)))

theorem iNew_spec [Extra] (sp bp : Nat) {w : World} {fr : List HProp} (H : Holds w fr) :
    Calls Tryz.prog 189 #[pp sp, pp bp] w (ret fun v w' => ∃ ip, v = .tuple #[pp ip, .int .i64 0] ∧ Holds w' (IMG ip sp bp :: fr)) := by
  refine calls_of Tryz.func189 rfl (by kernel_rfl) ?_
  refine J5 H ?_
  refine J152 H ?_
  refine J7 H ?_
  refine J126 H ?_
  refine J2 H ?_
  refine J40 H ?_
  clear H; intro b15 w H
  refine J3 H ?_
  exact C_ret (Jy H rfl fun w' H' => ⟨_, rfl, H'⟩)

theorem bGetN_spec [Extra] (p : Nat) (ls : List Lay) (i : Nat) (h1 : 1 ≤ i) (l : Lay) (hk : ls[i - 1]? = some l) {w : World} {fr : List HProp} (H : Holds w (BOOK p ls :: fr)) :
    Calls Tryz.prog 194 #[pp p, .int .i64 i] w (ret fun x w' => ∃ vr vq, x = .tuple #[layV l.fixed vr l.record vq, .int .i64 0] ∧ Holds w' (NL vr l.refs :: NL vq l.recs :: BOOK p ls :: fr)) := by
  obtain ⟨k, rfl⟩ : ∃ k, i = k + 1 := ⟨i - 1, by omega⟩
  rw [Nat.add_sub_cancel] at hk
  rw [show (((k + 1 : Nat) : Int)) = (k : Int) + 1 by omega]
  exact bGet_spec p ls k l hk H

theorem isize_spec [Extra] (ip sp bp : Nat) (ls : List Lay) (i c s n : Nat) (l : Lay) (hm : MayH i c s) (hl : ls[i - 1]? = some l) (hR : RightL l) (hz : sizeL l c = (n, 0)) {w : World} {fr : List HProp} (H : Holds w (IMG ip sp bp :: BOOK bp ls :: fr)) :
    Calls Tryz.prog 214 #[pp ip, hdv i c s] w (ret fun v w' => ∃ vr vq, v = .tuple #[layV l.fixed vr l.record vq, .int .i64 n, .int .i64 0] ∧ Holds w' (NL vr l.refs :: NL vq l.recs :: IMG ip sp bp :: BOOK bp ls :: fr)) := by
  have hi := hm.1
  refine calls_of Tryz.func214 rfl (by kernel_rfl) ?_
  refine J8 H ?_
  clear H; intro b3 w H
  refine J17 H ?_
  clear H; intro b4 w H
  refine J61 H ?_
  refine C_join (fun ms σ w => ms = [] ∧ ∃ b7 vr vq, σ 3 = pp b3 ∧ σ 4 = pp b4 ∧ σ 7 = pp b7 ∧ σ 8 = .int .i64 0 ∧
    Holds w (pts b7 (row 201 [.int .i64 l.fixed, vr, .int .i64 l.record, vq]) :: NL vr l.refs :: NL vq l.recs :: pts b4 (row 201 [.int .i64 0, .slice none 0 0, .int .i64 0, .slice none 0 0]) :: pts b3 (row 180 [.int .i64 i, .int .i64 c, .int .i64 s]) :: IMG ip sp bp :: BOOK bp ls :: fr)) ?_ ?_
  · replace H := Js [3,0,0,0] 0 H
    refine J1 H ?_
    clear H; intro w H
    refine J28 H ?_
    refine A_load1 3 [6, 11] H rfl (Wants.none rfl) rfl rfl (by kernel_rfl) ?_
    refine J47 H ?_
    refine A_load1 5 [6, 11] H rfl (Wants.none rfl) rfl rfl (by kernel_rfl) ?_
    refine A_two 6 10 rfl rfl (by kernel_rfl) (by repeat first | exact .nil | refine .cons (.inr H.at) ?_ | refine .cons (.inr H.mp) ?_ | refine .cons (.inl (by kernel_rfl)) ?_) (Wants.none rfl) (Wants.none rfl) (St_call (a := []) (b := []) rfl rfl (call (bGetN_spec bp ls i hi l hl H) ?_)) (St_alloc H rfl ?_)
    · clear H; rintro v w ⟨vr, vq, rfl, H⟩
      obtain ⟨aa, ma, ca, rfl⟩ := sls_any H
      obtain ⟨ab, mb, cb, rfl⟩ := sls_any H.drop
      refine J153 H ?_
      refine Jo 10 H ?_
      refine St_alloc H rfl ?_
      clear H; intro b7 w H
      refine J96 H ?_
      clear H; intro w H
      refine J127 H ?_
      replace H := Js [0,0,0,1,1,1,0] 0 H
      exact ⟨rfl, rfl, b7, _, _, rfl, rfl, rfl, rfl, H⟩
    · clear H; intro b7 w H
      refine Jo 6 H ?_
      refine Jk rfl rfl (bGetN_spec bp ls i hi l hl H.swap) ?_
      clear H; rintro v w ⟨vr, vq, rfl, H⟩
      obtain ⟨aa, ma, ca, rfl⟩ := sls_any H
      obtain ⟨ab, mb, cb, rfl⟩ := sls_any H.drop
      refine J153 H ?_
      refine J96 H ?_
      clear H; intro w H
      refine J127 H ?_
      replace H := Js [3,0,0,1,1,1,0] 0 H
      exact ⟨rfl, rfl, b7, _, _, rfl, rfl, rfl, rfl, H⟩
  · clear H
    rintro ms σ w ⟨rfl, b7, vr, vq, g3, g4, g7, g8, H⟩
    rw [upd_self g3, upd_self g4, upd_self g7, upd_self g8]
    obtain ⟨aa, ma, rfl⟩ := sls_slice H.drop (ncells_length _) (by decide)
    obtain ⟨ab, mb, rfl⟩ := sls_slice H.drop.drop (ncells_length _) (by decide)
    refine J104 H ?_
    refine J26 H ?_
    refine J38 H ?_
    replace H := Js [1,1,0,0,0,0,0] 0 H
    obtain ⟨D1, H, hD1, hC1⟩ := sls_rd H (ncells_length _) (by decide)
    obtain ⟨D2, H, hD2, hC2⟩ := sls_rd H.swap (ncells_length _) (by decide)
    refine Jc rfl rfl (Size_spec _ _ l hR c ⟨(hD1 _).there, hD2 _⟩ H) ?_
    clear H; rintro v w ⟨rfl, H⟩
    rw [hz]
    replace H := hC1 _ _ (hC2 _ _ H).swap
    refine J27 H ?_
    refine J26 H ?_
    refine J11 H ?_
    refine J6 H ?_
    clear H; intro w H
    refine J3 H ?_
    replace H := Js [3,0,0,2,2] 2 H
    exact C_ret (Jz H (fun w' H' => .cellN H' rfl (by repeat (first | exact Reads.nil _ | apply Reads.cons rfl)) (.tmp (.tmp .nil))) fun w' H' => ⟨_, _, rfl, H'.drop⟩)

theorem ifind_spec [Extra] (ip sp bp size : Nat) (ls : List Lay) (mem own : List Nat) (addr i c s n : Nat) (l : Lay) (h : ImgAt ls size mem own addr i c s n l) {w : World} {fr : List HProp} (H : Holds w (IMG ip sp bp :: BOOK bp ls :: ST sp size mem own :: fr)) :
    Calls Tryz.prog 128 #[pp ip, .int .i64 addr] w (ret fun v w' => ∃ vr vq, v = .tuple #[hdv i c s, layV l.fixed vr l.record vq, .int .i64 n, .int .i64 0] ∧ Holds w' (NL vr l.refs :: NL vq l.recs :: IMG ip sp bp :: BOOK bp ls :: ST sp size mem own :: fr)) := by
  obtain ⟨hm, hl, hR, hz, hh, hf, ho⟩ := h
  refine calls_of Tryz.func128 rfl (by kernel_rfl) ?_
  refine J23 H ?_
  clear H; intro b4 w H
  refine J17 H ?_
  clear H; intro b5 w H
  refine J3 H ?_
  refine J18 H ?_
  replace H := Js [4,0,0,0,0] 0 H
  refine Jc rfl rfl (Read_spec sp size mem own addr (by omega) (ho.sub (Nat.le_refl _) (by omega) (by omega)) H) ?_
  clear H; rintro v w ⟨rfl, H⟩
  rw [hh]
  refine J39 H ?_
  refine J16 H ?_
  refine Jc rfl rfl (Decode_spec i c s hm H) ?_
  clear H; rintro v w ⟨rfl, H⟩
  refine J19 H ?_
  clear H; intro b10 w H
  refine J6 H ?_
  clear H; intro w H
  refine J154 H ?_
  replace H := Js [4,4,1,1,1,0] 0 H
  refine Jc rfl rfl (isize_spec ip sp bp ls i c s n l hm hl hR hz H) ?_
  clear H; rintro v w ⟨vr, vq, rfl, H⟩
  obtain ⟨aa, ma, ca, rfl⟩ := sls_any H
  obtain ⟨ab, mb, cb, rfl⟩ := sls_any H.drop
  refine J30 H ?_
  refine J17 H ?_
  clear H; intro b11 w H
  refine J6 H ?_
  clear H; intro w H
  refine J3 H ?_
  refine J1 H ?_
  clear H; intro w H
  refine A_loadN 0 [4, 5] H rfl (Wants.none rfl) rfl (by repeat (first | exact Reads.nil _ | apply Reads.cons rfl)) (by kernel_rfl) ?_
  refine A_loadN 1 [5] H rfl (Wants.none rfl) rfl (by repeat (first | exact Reads.nil _ | apply Reads.cons rfl)) (by kernel_rfl) ?_
  refine J92 H ?_
  refine J46 H ?_
  refine Jo 4 H ?_
  refine J65 H ?_
  clear H; intro w H
  refine Jo 5 H ?_
  refine J65 H ?_
  clear H; intro w H
  refine J101 H ?_
  refine J89 H ?_
  refine J4 H ?_
  replace H := Js [7,6,1,1,1,1,1] 2 H
  exact C_ret (Jz H (fun w' H' => .cellN H' rfl (by repeat (first | exact Reads.nil _ | apply Reads.cons rfl)) (.cellN H' rfl (by repeat (first | exact Reads.nil _ | apply Reads.cons rfl)) (.tmp (.tmp .nil)))) fun w' H' => ⟨_, _, rfl, H'.drop.drop⟩)
end Go.Proofs.YtipelpbkeiphmaaGreatDoor
namespace Go.Proofs.YtipelpbkeiphmaaGreatDoor
open Go.SL

/-- What is wrong with a place. -/
def placeE (l : Lay) (n : Nat) (place : Int) (ref : Bool) : Nat := if place < 0 ∨ (n : Int) ≤ place then 3 else if isRefL l place.toNat ≠ ref then 9 else 0
theorem placeE_ok {l : Lay} {n : Nat} {place : Int} {ref : Bool} (h : placeE l n place ref = 0) : ∃ p : Nat, place = p ∧ p < n ∧ isRefL l p = ref := by
  unfold placeE at h
  split at h
  · omega
  · split at h
    · omega
    · rename_i h1 h2
      exact ⟨place.toNat, by omega, by omega, by simpa using h2⟩

theorem ST_len [Extra] {w : World} {p size : Nat} {mem own : List Nat} {l : List HProp} (H : Holds w (ST p size mem own :: l)) : mem.length ≤ 1048576 := by
  obtain ⟨v, v2, u, ws, many, hok, _⟩ := ST_out H
  rw [hok.len]
  exact Nat.mul_le_mul hok.c2 hok.s2

theorem word_spec [Extra] (ip sp bp size : Nat) (ls : List Lay) (mem own : List Nat) (addr i c s n : Nat) (l : Lay) (h : ImgAt ls size mem own addr i c s n l) (place : Int) (ref : Bool) {w : World} {fr : List HProp} (H : Holds w (IMG ip sp bp :: BOOK bp ls :: ST sp size mem own :: fr)) :
    Calls Tryz.prog 166 #[pp ip, .int .i64 addr, .int .i64 place, .bool ref] w (ret fun v w' => v = .tuple #[.int .i64 ((if placeE l n place ref = 0 then addr + 1 + place.toNat else 0 : Nat) : Int), .int .i64 (placeE l n place ref)] ∧ Holds w' (IMG ip sp bp :: BOOK bp ls :: ST sp size mem own :: fr)) := by
  have hml := ST_len (H.pull 2)
  have h' := h
  obtain ⟨hm, hl, hR, hz, hh, hf, ho⟩ := h'
  refine calls_of Tryz.func166 rfl (by kernel_rfl) ?_
  refine J140 H ?_
  refine J2 H ?_
  refine Jc rfl rfl (ifind_spec ip sp bp size ls mem own addr i c s n l h H) ?_
  clear H; rintro v w ⟨vr, vq, rfl, H⟩
  obtain ⟨aa, ca, rfl⟩ := sls_slice H (ncells_length _) (by decide)
  obtain ⟨ab, cb, rfl⟩ := sls_slice H.drop (ncells_length _) (by decide)
  refine J30 H ?_
  refine J7 H ?_
  refine J17 H ?_
  clear H; intro b10 w H
  refine J17 H ?_
  clear H; intro b11 w H
  refine J6 H ?_
  clear H; intro w H
  refine J6 H ?_
  clear H; intro w H
  refine J3 H ?_
  refine J104 H ?_
  refine J26 H ?_
  refine Lp_s rfl (St_fieldAddr rfl rfl ?_)
  refine Lp_s rfl (St_load1 H rfl rfl rfl ?_)
  refine Lp_pv rfl rfl ?_
  replace H := Js [2,2,0,0,0,0,0] 0 H
  obtain ⟨D1, H, hD1, hC1⟩ := sls_rd H (ncells_length _) (by decide)
  obtain ⟨D2, H, hD2, hC2⟩ := sls_rd H.swap (ncells_length _) (by decide)
  by_cases hp : place < 0 ∨ (n : Int) ≤ place
  · have he : placeE l n place ref = 3 := by unfold placeE; rw [if_pos hp]
    rw [he]
    refine Jc rfl rfl (IsRef_no _ _ l hR c place hz hp ⟨(hD1 _).there, hD2 _⟩ H) ?_
    clear H; rintro v w ⟨rfl, H⟩
    replace H := hC1 _ _ (hC2 _ _ H).swap
    refine J30 H ?_
    refine J49 H ?_
    refine J20 H ?_
    refine J176 H ?_
    replace H := Js [4,4,4] 4 H
    exact C_ret (Jy H rfl fun w' H' => ⟨rfl, H'⟩)
  · obtain ⟨p, rfl⟩ : ∃ p : Nat, place = p := ⟨place.toNat, by omega⟩
    refine Jc rfl rfl (IsRef_spec _ _ l hR c p hz (by omega) ⟨(hD1 _).there, hD2 _⟩ H) ?_
    clear H; rintro v w ⟨rfl, H⟩
    replace H := hC1 _ _ (hC2 _ _ H).swap
    refine J30 H ?_
    refine J15 H ?_
    refine C_joinQ (fun ms σ w => ms = [] ∧ isRefL l p = ref ∧ σ 1 = .int .i64 addr ∧ σ 2 = .int .i64 p ∧ Holds w (IMG ip sp bp :: BOOK bp ls :: ST sp size mem own :: fr)) ?_ ?_
    · refine C_block ?_
      refine J2 H ?_
      refine J95 H ?_
      refine J2 H ?_
      refine Lp_s rfl (St_eqBool rfl rfl (.inr rfl) rfl ?_)
      refine J0 H ?_
      by_cases hr : isRefL l p = ref
      · rw [show (!(isRefL l p == ref)) = false by simp [hr]]
        refine J9 H ?_
        replace H := Js [4,4,4] 4 H
        exact .inl ⟨rfl, rfl, hr, rfl, rfl, H⟩
      · have he : placeE l n (p : Int) ref = 9 := by unfold placeE; rw [if_neg hp, if_pos (by simpa using hr)]
        rw [show (!(isRefL l p == ref)) = true by simpa using hr]
        refine J29 H ?_
        replace H := Js [4,4,4] 4 H
        exact C_ret (.inr ⟨by simp, Jy H rfl fun w' H' => ⟨by rw [he]; rfl, H'⟩⟩)
    · clear H
      rintro ms σ w ⟨rfl, hr, g1, g2, H⟩
      have he : placeE l n (p : Int) ref = 0 := by unfold placeE; rw [if_neg hp, if_neg (by simpa using hr)]
      rw [he, upd_self g1, upd_self g2]
      refine J139 H ?_
      refine J3 H ?_
      rw [wrap64 (x := (addr : Int) + 1) (by omega) (by omega), wrap64 (x := (addr : Int) + 1 + (p : Int)) (by omega) (by omega)]
      refine C_ret (Jy H rfl fun w' H' => ⟨?_, H'⟩)
      show Value.tuple #[.int .i64 ((addr : Int) + 1 + (p : Int)), _] = _
      rw [if_pos rfl, show (addr : Int) + 1 + (p : Int) = ((addr + 1 + (p : Int).toNat : Nat) : Int) by simp]
      rfl
end Go.Proofs.YtipelpbkeiphmaaGreatDoor
namespace Go.Proofs.YtipelpbkeiphmaaGreatDoor
open Go.SL

theorem lkv_agg (k : Lnk) : ∃ a b d : Int, lkv k = .agg #[.int .i64 a, .int .i64 b, .int .i64 d] := by cases k <;> exact ⟨_, _, _, rfl⟩

theorem Follow_spec [Extra] (ip sp bp size : Nat) (ls : List Lay) (mem own : List Nat) (addr i c s n : Nat) (l : Lay) (h : ImgAt ls size mem own addr i c s n l) (place : Int) (k : Lnk) (hk : placeE l n place true = 0 → okL k ∧ mem.getD (addr + 1 + place.toNat) 0 = wordL k) (hk2 : placeE l n place true ≠ 0 → k = .none) {w : World} {fr : List HProp} (H : Holds w (IMG ip sp bp :: BOOK bp ls :: ST sp size mem own :: fr)) :
    Calls Tryz.prog 41 #[pp ip, .int .i64 addr, .int .i64 place] w (ret fun v w' => v = .tuple #[lkv k, .int .i64 (placeE l n place true)] ∧ Holds w' (IMG ip sp bp :: BOOK bp ls :: ST sp size mem own :: fr)) := by
  have hlk : ∀ (q : Nat) (k : Lnk) (w : World) (fr : List HProp), q < mem.length → Owned size own q 1 → okL k → mem.getD q 0 = wordL k → Holds w (ST sp size mem own :: fr) →
      Calls Tryz.prog 131 #[pp sp, .int .i64 q] w (ret fun v w' => v = .tuple #[lkv k, .int .i64 0] ∧ Holds w' (ST sp size mem own :: fr)) := by
    intro q k w fr h1 h2 h3 h4 H
    refine calls_of Tryz.func131 rfl (by kernel_rfl) ?_
    refine J23 H ?_
    clear H; intro b4 w H
    refine J155 H ?_
    refine Jc rfl rfl (Read_spec sp size mem own q h1 h2 H.swap) ?_
    clear H; rintro v w ⟨rfl, H⟩
    rw [h4]
    refine J39 H ?_
    refine J16 H ?_
    refine Jc rfl rfl (Link_spec k h3 H) ?_
    clear H; rintro v w ⟨rfl, H⟩
    obtain ⟨a, b, d, hkv⟩ := lkv_agg k
    rw [hkv]
    refine J11 H ?_
    refine J6 H ?_
    clear H; intro w H
    refine J0 H ?_
    exact C_ret (Jz H.swap (fun w' H' => .cellN H' rfl (by repeat (first | exact Reads.nil _ | apply Reads.cons rfl)) (.tmp .nil)) fun w' H' => ⟨rfl, H'.drop⟩)
  have hrd : ∀ (w : World) (fr : List HProp), Holds w (IMG ip sp bp :: BOOK bp ls :: ST sp size mem own :: fr) → Calls Tryz.prog 130 #[pp ip, .int .i64 addr, .int .i64 place, .bool true, .func (.func 131) #[] #[]] w (ret fun v w' => v = .tuple #[lkv k, .int .i64 (placeE l n place true)] ∧ Holds w' (IMG ip sp bp :: BOOK bp ls :: ST sp size mem own :: fr)) := by
    intro w fr H
    refine calls_of Tryz.func130 rfl (by kernel_rfl) ?_
    refine J23 H ?_
    clear H; intro b10 w H
    refine J0 H ?_
    refine J23 H ?_
    clear H; intro b12 w H
    refine Lp_nil ?_
    refine J139 H ?_
    replace H := Js [2,2,2,0,0] 0 H
    refine Jc rfl rfl (word_spec ip sp bp size ls mem own addr i c s n l h place true H) ?_
    clear H; rintro v w ⟨rfl, H⟩
    refine J68 H ?_
    by_cases he : placeE l n place true = 0
    · obtain ⟨hk3, hk4⟩ := hk he
      obtain ⟨p, rfl, hp, hr⟩ := placeE_ok he
      rw [he]
      refine J9 H ?_
      refine J66 H ?_
      refine J7 H ?_
      replace H := Js [2,0,0,0,0] 0 H
      refine Jc rfl rfl (hlk (addr + 1 + p) k _ _ (by have := h.fit; omega) (h.owned.sub (by omega) (by omega) (by omega)) hk3 hk4 H) ?_
      clear H; rintro v w ⟨rfl, H⟩
      obtain ⟨a, b, d, hkv⟩ := lkv_agg k
      rw [hkv]
      refine J19 H ?_
      clear H; intro b15 w H
      refine J6 H ?_
      clear H; intro w H
      refine J50 H ?_
      refine J78 H ?_
      clear H; intro w H
      refine J0 H ?_
      replace H := Js [5,2,2,1] 2 H
      exact C_ret (Jz H (fun w' H' => .cellN H' rfl (by repeat (first | exact Reads.nil _ | apply Reads.cons rfl)) (.tmp .nil)) fun w' H' => ⟨rfl, H'.drop⟩)
    · obtain rfl := hk2 he
      rw [if_neg he]
      rw [show (((placeE l n place true : Nat) : Int) != 0) = true by simpa using he]
      refine J33 H ?_
      refine J156 H ?_
      clear H; intro w H
      refine J0 H ?_
      replace H := Js [4,0,0,0] 1 H
      exact C_ret (Jz H (fun w' H' => .cellN H' rfl (by repeat (first | exact Reads.nil _ | apply Reads.cons rfl)) (.tmp .nil)) fun w' H' => ⟨rfl, H'.drop⟩)
  refine calls_of Tryz.func41 rfl (by kernel_rfl) ?_
  refine J23 H ?_
  clear H; intro b6 w H
  refine J0 H ?_
  refine J10 H ?_
  replace H := Js [1,1,1,0] 0 H
  refine Jc rfl rfl (hrd _ _ H) ?_
  clear H; rintro v w ⟨rfl, H⟩
  obtain ⟨a, b, d, hkv⟩ := lkv_agg k
  rw [hkv]
  refine J11 H ?_
  refine J6 H ?_
  clear H; intro w H
  refine J0 H ?_
  replace H := Js [3,0,0,0] 0 H
  exact C_ret (Jz H (fun w' H' => .cellN H' rfl (by repeat (first | exact Reads.nil _ | apply Reads.cons rfl)) (.tmp .nil)) fun w' H' => ⟨rfl, H'.drop⟩)

theorem iTie_spec [Extra] (ip sp bp size : Nat) (ls : List Lay) (mem own : List Nat) (addr i c s n : Nat) (l : Lay) (h : ImgAt ls size mem own addr i c s n l) (place : Int) (k : Lnk) (hk : okL k) {w : World} {fr : List HProp} (H : Holds w (IMG ip sp bp :: BOOK bp ls :: ST sp size mem own :: fr)) :
    Calls Tryz.prog 86 #[pp ip, .int .i64 addr, .int .i64 place, lkv k] w (ret fun v w' => v = .int .i64 (placeE l n place true) ∧ Holds w' (IMG ip sp bp :: BOOK bp ls :: ST sp size (if placeE l n place true = 0 then mem.set (addr + 1 + place.toNat) (wordL k) else mem) own :: fr)) := by
  obtain ⟨a, b, d, hkv⟩ := lkv_agg k
  have hW := fun (w : World) (fr : List HProp) (H : Holds w fr) => Word_spec k hk H
  rw [hkv] at hW ⊢
  refine calls_of Tryz.func86 rfl (by kernel_rfl) ?_
  refine J8 H ?_
  clear H; intro b7 w H
  refine J0 H ?_
  replace H := Js [1,1,1,0] 0 H
  refine J10 H ?_
  refine Jc rfl rfl (word_spec ip sp bp size ls mem own addr i c s n l h place true H) ?_
  clear H; rintro v w ⟨rfl, H⟩
  refine J68 H ?_
  by_cases he : placeE l n place true = 0
  · obtain ⟨p, rfl, hp, hr⟩ := placeE_ok he
    rw [he]
    refine J9 H ?_
    refine J26 H ?_
    refine Jc rfl rfl (hW _ _ H) ?_
    clear H; rintro v w ⟨rfl, H⟩
    refine J39 H ?_
    refine J48 H ?_
    refine J3 H ?_
    replace H := Js [2,0,0] 1 H
    refine J10 H ?_
    refine Lp_s rfl (St_call (a := [pp sp]) (b := []) rfl rfl (call (Write_spec sp size mem own (addr + 1 + p) (wordL k) (by have := h.fit; omega) (h.owned.sub (by omega) (by omega) (by omega)) H) ?_))
    clear H; rintro v w ⟨rfl, H⟩
    refine J0 H ?_
    replace H := Js [1,1,0] 0 H
    exact C_ret (Jy H rfl fun w' H' => ⟨rfl, H'⟩)
  · rw [if_neg he, if_neg he]
    rw [show (((placeE l n place true : Nat) : Int) != 0) = true by simpa using he]
    refine J29 H ?_
    replace H := Js [0,0,0] 1 H
    exact C_ret (Jy H rfl fun w' H' => ⟨rfl, H'⟩)

end Go.Proofs.YtipelpbkeiphmaaGreatDoor
namespace Go.Proofs.YtipelpbkeiphmaaGreatDoor
open Go.SL

theorem iMake_spec [Extra] (ip sp bp size : Nat) (ls : List Lay) (mem own : List Nat) (addr i c s n : Nat) (l : Lay) (hm : MayH i c s) (hl : ls[i - 1]? = some l) (hR : RightL l) (hz : sizeL l c = (n, 0)) (hf : addr + 1 + n ≤ mem.length) (ho : Owned size own addr (n + 1)) {w : World} {fr : List HProp} (H : Holds w (IMG ip sp bp :: BOOK bp ls :: ST sp size mem own :: fr)) :
    Calls Tryz.prog 197 #[pp ip, .int .i64 addr, hdv i c s] w (ret fun v w' => v = .tuple #[.int .i64 ((n + 1 : Nat) : Int), .int .i64 0] ∧ Holds w' (IMG ip sp bp :: BOOK bp ls :: ST sp size (setR (mem.set addr (encH i c s)) (addr + 1) n 0) own :: fr)) := by
  have hml := ST_len (H.pull 2)
  refine calls_of Tryz.func197 rfl (by kernel_rfl) ?_
  refine J8 H ?_
  clear H; intro b5 w H
  refine J3 H ?_
  refine J175 H ?_
  refine J26 H ?_
  refine Jc rfl rfl (Encode_spec i c s hm H) ?_
  clear H; rintro v w ⟨rfl, H⟩
  refine J39 H ?_
  refine J72 H ?_
  replace H := Js [1,1,1,0] 0 H
  refine Jc rfl rfl (isize_spec ip sp bp ls i c s n l hm hl hR hz H) ?_
  clear H; rintro v w ⟨vr, vq, rfl, H⟩
  obtain ⟨aa, ma, ca, rfl⟩ := sls_any H
  obtain ⟨ab, mb, cb, rfl⟩ := sls_any H.drop
  refine J30 H ?_
  refine J17 H ?_
  clear H; intro b10 w H
  refine J6 H ?_
  clear H; intro w H
  refine J3 H ?_
  refine J104 H ?_
  refine J48 H ?_
  refine J30 H ?_
  replace H := Js [5,3,3] 4 H
  rw [wrap64 (x := ((n : Nat) : Int) + 1) (by omega) (by omega), show ((n : Nat) : Int) + 1 = ((n + 1 : Nat) : Int) by omega]
  refine Jc rfl rfl (CopySame_spec sp size mem own addr (n + 1) (by omega) (by omega) ho H) ?_
  clear H; rintro v w ⟨rfl, H⟩
  refine J50 H ?_
  refine J37 H ?_
  refine Jc rfl rfl (Write_spec sp size mem own addr (encH i c s) (by omega) (ho.sub (Nat.le_refl _) (by omega) (by omega)) H) ?_
  clear H; rintro v w ⟨rfl, H⟩
  refine J67 H ?_
  generalize hmm : mem.set addr (encH i c s) = m2 at H
  have hm2 : m2.length = mem.length := by rw [← hmm, List.length_set]
  refine J21 H ?_
  refine C_loop (fun ms σ w q => ms = [] ∧ ∃ j : Nat, j ≤ n ∧ q = n - j ∧ σ 0 = pp ip ∧ σ 1 = .int .i64 addr ∧ σ 11 = .int .i64 n ∧ σ 53 = .int .i64 n ∧ σ 54 = .int .i64 j ∧ Holds w (ST sp size (setR m2 (addr + 1) j 0) own :: IMG ip sp bp :: BOOK bp ls :: fr)) (m := n) ⟨rfl, 0, by omega, rfl, rfl, rfl, rfl, rfl, rfl, by rw [setR_zero]; exact H⟩ ?_
  clear H
  rintro ms σ w q ⟨rfl, j, hj, rfl, g0, g1, g11, g53, g54, H⟩
  rw [upd_self g0, upd_self g1, upd_self g11, upd_self g53, upd_self g54]
  refine J13 H ?_
  refine C_dec rfl (fun h => C_skip ?_) (fun h => C_exit ?_)
  · have hlt : j < n := by omega
    refine J108 H ?_
    refine J48 H ?_
    refine J30 H ?_
    rw [wrap64 (x := (addr : Int) + 1) (by omega) (by omega), wrap64 (x := (addr : Int) + 1 + (j : Int)) (by omega) (by omega), show (addr : Int) + 1 + (j : Int) = ((addr + 1 + j : Nat) : Int) by omega]
    refine Jc rfl rfl (Write_spec sp size _ own (addr + 1 + j) 0 (by rw [setR_length (by omega)]; omega) (ho.sub (by omega) (by omega) (by omega)) H) ?_
    clear H; rintro v w ⟨rfl, H⟩
    rw [setR_succ (by omega)] at H
    refine J67 H ?_
    exact ⟨_, ⟨rfl, j + 1, hlt, rfl, rfl, rfl, rfl, rfl, inc64 (by omega), H⟩, by omega⟩
  · have hge : j = n := by omega
    subst hge
    refine J2 H ?_
    refine J3 H ?_
    rw [wrap64 (x := ((j : Nat) : Int) + 1) (by omega) (by omega), show ((j : Nat) : Int) + 1 = ((j + 1 : Nat) : Int) by omega]
    replace H := Js [1,1,0] 0 H
    exact C_ret (Jy H rfl fun w' H' => ⟨rfl, H'⟩)
end Go.Proofs.YtipelpbkeiphmaaGreatDoor
namespace Go.Proofs.YtipelpbkeiphmaaGreatDoor
open Go.SL

def icells (l : List Int) : List Value := l.map fun x => Value.int .i64 x
theorem icells_length (l : List Int) : (icells l).length = l.length * 1 := by simp [icells]
theorem icells_append (a b : List Int) : icells (a ++ b) = icells a ++ icells b := by simp [icells]
theorem ncells_icells (l : List Nat) : ncells l = icells (l.map fun x : Nat => (x : Int)) := by simp [ncells, icells]
@[reducible] def IL (v : Value) (l : List Int) : HProp := sls 3 1 v (icells l)

theorem Sort_spec [Extra] (v : Value) (l : List Int) (hl : l.length ≤ 1000000) {w : World} {fr : List HProp} (H : Holds w (IL v l :: fr)) :
    Calls Tryz.prog 120 #[v] w (ret fun x w' => x = .tuple #[] ∧ Holds w' (IL v (l.mergeSort fun x y => decide (x ≤ y)) :: fr)) := by
  obtain ⟨a, c, rfl⟩ := sls_slice H (icells_length l) (by decide)
  have hlen : (l.mergeSort fun x y => decide (x ≤ y)).length = l.length := List.length_mergeSort l
  by_cases h0 : l = []
  · subst h0
    refine (Any.slices_Sort_int_none Tryz.laysSort a c w).mono ?_
    rintro e w' ⟨rfl, rfl⟩
    rw [List.mergeSort_nil]
    exact ⟨rfl, H⟩
  · have hpos : 0 < l.length := List.length_pos_iff.2 h0
    obtain ⟨b, s, rfl, H, h1, h2, hclose⟩ := sls_open2 H hpos
    have hb := H.pts
    refine (Any.slices_Sort_int Tryz.laysSort b 0 c l w (fun j hj => ⟨?_, frozen_row hb⟩) H.fresh (by omega)).mono ?_
    · refine cell_row hb ?_
      have hj' : j < l.length := by simpa using hj
      rw [Nat.zero_add, List.getElem?_append_left (by simpa [icells] using hj')]
      simp [icells, hj']
    · rintro e w' ⟨rfl, m, os, rfl⟩
      refine ⟨rfl, hclose _ _ (icells (l.mergeSort fun x y => decide (x ≤ y))) (by rw [icells_length, icells_length, hlen]) ?_⟩
      have e1 : (Go.Sort.putRow (Value.int .i64) (Go.Sort.ahead w m) b 0 (l.mergeSort fun x y => decide (x ≤ y)).toArray).heap = w.heap.modify b (Go.Sort.onCells (Go.Sort.putCells (Value.int .i64) 0 (l.mergeSort fun x y => decide (x ≤ y)).toArray)) := rfl
      have H1 : Holds (Go.Sort.putRow (Value.int .i64) (Go.Sort.ahead w m) b 0 (l.mergeSort fun x y => decide (x ≤ y)).toArray) (pts b (row 3 (icells (l.mergeSort fun x y => decide (x ≤ y)) ++ s)) :: fr) := by
        refine H.set ?_ ?_
        · rw [e1, Array.getElem?_modify, if_pos rfl, hb]
          simp only [Option.map_some, row, Go.Sort.onCells]
          congr 2
          apply Array.ext'
          apply List.ext_getElem?
          intro t
          simp only [Go.Sort.putCells, Array.getElem?_toList, Array.getElem?_mapIdx, List.getElem?_toArray, Nat.zero_le, true_and, Nat.zero_add, Nat.sub_zero, List.size_toArray]
          have l1 : (icells l).length = l.length := by simp [icells]
          have l2 : (icells (l.mergeSort fun x y => decide (x ≤ y))).length = l.length := by simp [icells]
          by_cases ht : t < l.length
          · rw [List.getElem?_append_left (by omega), List.getElem?_append_left (by omega)]
            have ht' : t < (l.mergeSort fun x y => decide (x ≤ y)).length := by omega
            simp only [icells, List.getElem?_map, List.getElem?_eq_getElem ht, List.getElem?_eq_getElem ht', Option.map_some, if_pos ht']
            rw [getElem!_pos _ t (by simpa using ht')]
            simp
          · rw [List.getElem?_append_right (by omega), List.getElem?_append_right (by omega), l1, l2]
            have ht' : ¬ t < (l.mergeSort fun x y => decide (x ≤ y)).length := by omega
            cases s[t - l.length]? with
            | none => rfl
            | some y => simp; intro h; omega
        · intro c hc
          rw [e1, Array.getElem?_modify, if_neg (Ne.symm hc)]
      refine H1.up (fun c o hc => ?_) ⟨rfl, rfl⟩
      show ((Go.Sort.putRow (Value.int .i64) (Go.Sort.ahead w m) b 0 (l.mergeSort fun x y => decide (x ≤ y)).toArray).heap ++ os)[c]? = some o
      have := (Array.getElem?_eq_some_iff.1 hc).1
      rw [Array.getElem?_append_left this]
      exact hc

theorem Compact_few [Extra] (a : Option Addr) (n c : Nat) (hn : n < 2) {w : World} {fr : List HProp} (H : Holds w fr) :
    Calls Tryz.prog 164 #[.slice a n c] w (ret fun x w' => x = .slice a n c ∧ Holds w' fr) := by
  refine calls_of Tryz.func164 rfl (by kernel_rfl) ?_
  refine J157 H ?_
  refine J0 H ?_
  rw [show decide ((n : Int) < 2) = true from decide_eq_true (by omega)]
  refine J29 H ?_
  exact C_ret (Jy H rfl fun w' H' => ⟨rfl, H'⟩)

theorem Insert_end [Extra] (v : Value) (l : List Nat) (x : Nat) (hl : l.length ≤ 1000000) (b : Nat) {w : World} {fr : List HProp} (H : Holds w (NL v l :: pts b (row 3 [.int .i64 x]) :: fr)) :
    Calls Tryz.prog 252 #[v, .int .i64 l.length, .slice (some ⟨b, 0, none⟩) 1 1] w (ret fun v w' => Holds w' (NL v (l ++ [x]) :: fr)) := by
  obtain ⟨a, c, rfl⟩ := sls_slice H (ncells_length l) (by decide)
  refine calls_of Tryz.func252 rfl (by kernel_rfl) ?_
  refine J12 H ?_
  refine J2 H ?_
  refine Lp_s rfl (St_sliceFromE rfl rfl (Nat.le_refl _) rfl fun v12 => ?_)
  refine Lp_nil ?_
  refine J90 H ?_
  refine J50 H ?_
  refine J99 H ?_
  refine J20 H ?_
  rw [show (((l.length : Nat) : Int) == (l.length : Int)) = true by simp]
  refine J33 H ?_
  refine J2 H ?_
  refine Lp_s rfl (St_append H rfl rfl (by repeat (first | exact Reads.nil _ | apply Reads.cons rfl)) rfl (by decide) (by rw [ncells_length]; simp only [List.length_cons, List.length_nil]; omega) rfl rfl ?_)
  clear H; intro v25 w H
  obtain ⟨a25, m25, c25, rfl⟩ := sls_any H
  refine J0 H ?_
  have e1 : ncells l ++ [.int .i64 x] = ncells (l ++ [x]) := by rw [ncells_append]; rfl
  rw [e1] at H
  exact C_ret (Jy (Holds.drop H.swap) rfl fun w' H' => H')
end Go.Proofs.YtipelpbkeiphmaaGreatDoor
namespace Go.Proofs.YtipelpbkeiphmaaGreatDoor
open Go.SL

def BAG (p : Nat) (l : List Nat) : HProp := ex fun v : Value => star [pts p (row 234 [v]), NL v l]
theorem BAG_out [Extra] {w : World} {p : Nat} {l : List Nat} {fr : List HProp} (H : Holds w (BAG p l :: fr)) : ∃ a c, Holds w (pts p (row 234 [.slice a l.length c]) :: NL (.slice a l.length c) l :: fr) := by
  obtain ⟨v, H⟩ := Holds.ex.1 H
  have H := Holds.star.1 H
  obtain ⟨a, c, rfl⟩ := sls_slice H.drop (ncells_length l) (by decide)
  exact ⟨a, c, H⟩
theorem BAG_in [Extra] {w : World} {p : Nat} {l : List Nat} {v : Value} {fr : List HProp} (H : Holds w (pts p (row 234 [v]) :: NL v l :: fr)) : Holds w (BAG p l :: fr) :=
  Holds.ex.2 ⟨v, Holds.star.2 H⟩

theorem gNew_spec [Extra] {w : World} {fr : List HProp} (H : Holds w fr) : Calls Tryz.prog 82 #[.slice none 0 0] w (ret fun v w' => ∃ p, v = pp p ∧ Holds w' (BAG p [] :: fr)) := by
  refine calls_of Tryz.func82 rfl (by kernel_rfl) ?_
  refine J119 H ?_
  refine Jc rfl rfl (Clone_spec (.slice none 0 0) [] (by simp) ⟨rfl, none, 0, rfl, .inl rfl⟩ H) ?_
  clear H; rintro v w H
  obtain ⟨a, c, rfl⟩ := sls_slice H (ncells_length []) (by decide)
  refine J135 H ?_
  refine Jc rfl rfl (Sort_spec _ [] (by simp) H) ?_
  clear H; rintro v w ⟨rfl, H⟩
  rw [List.mergeSort_nil] at H
  refine J158 H ?_
  refine Jc rfl rfl (Compact_few a 0 c (by omega) H) ?_
  clear H; rintro v w ⟨rfl, H⟩
  refine J40 H ?_
  clear H; intro b10 w H
  refine J0 H ?_
  exact C_ret (Jy H rfl fun w' H' => ⟨_, rfl, BAG_in (l := []) H'⟩)

theorem posL_end {l : List Nat} {x : Nat} (h : ∀ a ∈ l, a < x) : posL l x = l.length := by
  unfold posL
  rw [List.countP_eq_length]
  intro a ha
  simpa using h a ha

theorem gPut_spec [Extra] (p : Nat) (l : List Nat) (x : Nat) (hs : l.Pairwise (· < ·)) (hl : l.length ≤ 100000) (hx : ∀ a ∈ l, a < x) {w : World} {fr : List HProp} (H : Holds w (BAG p l :: fr)) :
    Calls Tryz.prog 179 #[pp p, .int .i64 x] w (ret fun v w' => v = .bool true ∧ Holds w' (BAG p (l ++ [x]) :: fr)) := by
  obtain ⟨a, c, H⟩ := BAG_out H
  have hn : x ∉ l := fun h => by have := hx x h; omega
  refine calls_of Tryz.func179 rfl (by kernel_rfl) ?_
  refine J83 H ?_
  obtain ⟨D1, H, hD1, hC1⟩ := sls_rd H.swap (ncells_length _) (by decide)
  refine Jc rfl rfl (Search_spec _ l (by omega) hs x (hD1 _) H) ?_
  clear H; rintro v w ⟨rfl, H⟩
  replace H := hC1 _ _ H
  rw [posL_end hx, decide_eq_false hn]
  refine J68 H ?_
  refine J14 H ?_
  refine C_join (fun ms σ w => ms = [] ∧ σ 6 = .bool false ∧ Holds w (BAG p (l ++ [x]) :: fr)) ?_ ?_
  · refine C_true rfl ?_
    refine J66 H ?_
    refine J11 H ?_
    refine J32 H ?_
    clear H; intro b27 w H
    replace H := Js [1,0,0] 0 H
    refine Jc rfl rfl (Insert_end _ l x (by omega) _ H) ?_
    clear H; intro v w H
    obtain ⟨a28, m28, c28, rfl⟩ := sls_any H
    refine J52 H ?_
    clear H; intro w H
    refine Lp_nil ?_
    exact ⟨rfl, rfl, rfl, BAG_in H.swap⟩
  · clear H
    rintro ms σ w ⟨rfl, g6, H⟩
    rw [upd_self g6]
    refine J20 H ?_
    exact C_ret (Jy H rfl fun w' H' => ⟨rfl, H'⟩)

theorem gHas_spec [Extra] (p : Nat) (l : List Nat) (x : Nat) (hs : l.Pairwise (· < ·)) (hl : l.length ≤ 100000) {w : World} {fr : List HProp} (H : Holds w (BAG p l :: fr)) :
    Calls Tryz.prog 84 #[pp p, .int .i64 x] w (ret fun v w' => v = .bool (decide (x ∈ l)) ∧ Holds w' (BAG p l :: fr)) := by
  obtain ⟨a, c, H⟩ := BAG_out H
  refine calls_of Tryz.func84 rfl (by kernel_rfl) ?_
  refine J83 H ?_
  obtain ⟨D1, H, hD1, hC1⟩ := sls_rd H.swap (ncells_length _) (by decide)
  refine Jc rfl rfl (Search_spec _ l (by omega) hs x (hD1 _) H) ?_
  clear H; rintro v w ⟨rfl, H⟩
  replace H := hC1 _ _ H
  refine J68 H ?_
  exact C_ret (Jy (BAG_in H.swap) rfl fun w' H' => ⟨rfl, H'⟩)

end Go.Proofs.YtipelpbkeiphmaaGreatDoor
namespace Go.Proofs.YtipelpbkeiphmaaGreatDoor
open Go.SL

theorem kp_inj : ∀ a b : Rf, kp a = kp b → a = b := tkR.inj
/-- The references' cells, one behind the other. -/
def rcells (l : List Rf) : List Value := l.flatMap fun r => [.int .i64 r.1, .int .i64 r.2]
theorem rcells_length (l : List Rf) : (rcells l).length = l.length * 2 := by
  induction l with
  | nil => rfl
  | cons r l ih => simp only [rcells, List.flatMap_cons, List.length_append, List.length_cons, List.length_nil] at ih ⊢; omega
theorem rcells_append (a b : List Rf) : rcells (a ++ b) = rcells a ++ rcells b := by simp [rcells]

theorem rKeys_spec [Extra] (x : Option Nat) (m : List (Rf × Int)) {w : World} {fr : List HProp} (H : Holds w (mpv kp v1 (.map x) m :: fr)) :
    Calls Tryz.prog 226 #[.map x] w
      (ret fun v w' => ∃ b, v = .func (.func 295) #[] #[pp b] ∧ Holds w' (pts b (row 217 [.map x]) :: mpv kp v1 (.map x) m :: fr)) := by
  refine calls_of Tryz.func226 rfl (by kernel_rfl) ?_
  refine J53 H ?_
  clear H; intro b1 w H
  refine J25 H ?_
  refine C_ret (Jy H rfl fun w' H' => ⟨b1, rfl, H'⟩)

theorem sub_length {α : Type} : ∀ {l₁ l₂ : List α}, l₁.Nodup → (∀ z ∈ l₁, z ∈ l₂) → l₁.length ≤ l₂.length
  | [], _, _, _ => Nat.zero_le _
  | c :: l, l₂, hn, hs => by
    obtain ⟨s, t, rfl⟩ := List.append_of_mem (hs c (by simp))
    have h := List.nodup_cons.1 hn
    have := sub_length (l₂ := s ++ t) h.2 (fun z hz => by
      have h1 := hs z (by simp [hz])
      have h2 : z ≠ c := fun e => h.1 (e ▸ hz)
      simp [h2] at h1
      simpa using h1)
    simp at this ⊢
    omega

theorem KeysIter [Extra] (yl b : Nat) (x : Option Nat) (m : List (Rf × Int)) (J : List Rf → HProp)
    (hy : ∀ ks r rest w, ks.length < m.length → Holds w (J ks :: rest) → SL.Yields Tryz.prog yl #[rf r] w (fun v w' => v = .bool true ∧ Holds w' (J (ks ++ [r]) :: rest)))
    {w : World} {fr : List HProp} (H : Holds w (J [] :: pts b (row 217 [.map x]) :: mpv kp v1 (.map x) m :: fr)) :
    Calls Tryz.prog 295 #[.func (.yield yl) #[] #[], pp b] w
      (ret fun _ w' => ∃ ks, ks.Perm (m.map (·.1)) ∧ Holds w' (J ks :: mpv kp v1 (.map x) m :: fr)) := by
  refine calls_of Tryz.func295 rfl (by kernel_rfl) ?_
  refine J43 H ?_
  replace H := Js [2,0,0] 0 H
  refine Lp_s rfl (St_range kp v1 H rfl rfl ?_)
  clear H; intro bi w H
  refine Lp_nil ?_
  refine C_block ?_
  refine C_loop (fun ms σ w n => ms = [] ∧ ∃ ks : List Rf, σ 0 = .func (.yield yl) #[] #[] ∧ σ 5 = pp bi ∧ n = m.length - ks.length ∧ Holds w (mit kp v1 (.map x) m bi ks :: J ks :: pts b (row 217 [.map x]) :: fr)) (m := m.length) ⟨rfl, [], rfl, rfl, rfl, H⟩ ?_
  clear H w
  rintro ms σ w n ⟨rfl, ks, h0, h5, rfl, H⟩
  rw [upd_self h0, upd_self h5]
  refine J51 H ?_
  refine Lp_s rfl (St_next H kp_inj rfl rfl (fun hp w H => ?_) (fun q hq hn hnd hsub w H => ?_))
  · refine J15 H ?_
    refine C_false rfl (C_exit ?_)
    replace H := mit_mpv H
    replace H := Js [1,0] 1 H
    exact fn_end0 _ (.inl rfl) H rfl fun w' H' => ⟨ks, hp, H'⟩
  · have hlt : ks.length < m.length := by
      have h1 : (ks ++ [q.1]).Nodup := by
        rw [List.nodup_append]
        exact ⟨hnd, by simp, fun c hc c' hc' e0 => by simp at hc'; subst hc'; subst e0; exact hn hc⟩
      have h2 := sub_length h1 (l₂ := m.map (·.1)) (fun z hz => by
        rcases List.mem_append.1 hz with hz | hz
        · exact hsub z hz
        · simp at hz; subst hz; exact List.mem_map_of_mem hq)
      simp at h2
      omega
    refine J15 H ?_
    refine C_true rfl (C_skip ?_)
    refine C_block ?_
    refine J51 H ?_
    refine Lp_s rfl (St_entry H kp_inj hq rfl rfl ?_)
    refine J7 H ?_
    refine J17 H ?_
    clear H; intro b3 w H
    refine J6 H ?_
    clear H; intro w H
    refine Lp_nil ?_
    refine J72 H ?_
    replace H := Js [2,0,0,0] 0 H
    refine Lp_s rfl (St_yield rfl rfl (SL.Yields.mono (hy ks q.1 _ _ hlt H) ?_))
    clear H; rintro v w ⟨rfl, H⟩
    refine J35 H ?_
    replace H := Js [2,0,1] 1 H
    exact ⟨_, ⟨rfl, ks ++ [q.1], rfl, rfl, rfl, H⟩, by simp; omega⟩

/-- What the collecting loop keeps. -/
def CJ (L : HProp) (b2 : Nat) (ks : List Rf) : HProp := ex fun v : Value => star [sls 166 2 v (rcells ks), L, pts b2 (row 143 [v])]

theorem CJ_out [Extra] {w : World} {L : HProp} {b2 : Nat} {ks : List Rf} {l : List HProp} (H : Holds w (CJ L b2 ks :: l)) : ∃ v, Holds w (sls 166 2 v (rcells ks) :: L :: pts b2 (row 143 [v]) :: l) := by
  obtain ⟨v, H⟩ := Holds.ex.1 H
  exact ⟨v, Holds.star.1 H⟩
theorem CJ_in [Extra] {w : World} {L : HProp} {b2 : Nat} {ks : List Rf} {l : List HProp} {v : Value} (H : Holds w (sls 166 2 v (rcells ks) :: L :: pts b2 (row 143 [v]) :: l)) : Holds w (CJ L b2 ks :: l) :=
  Holds.ex.2 ⟨v, Holds.star.2 H⟩

theorem sls_one [Extra] {w : World} {E k : Nat} {v : Value} {c : List Value} {l : List HProp} (H : Holds w (sls E k v c :: l)) : v.oneCell' = true := by
  rcases sls_case H with ⟨rfl, _⟩ | ⟨_, _, _, _, rfl, _⟩ <;> rfl

theorem rAppendSeq_spec [Extra] (b : Nat) (x : Option Nat) (m : List (Rf × Int)) (hm : m.length ≤ 1000000) {w : World} {fr : List HProp} (H : Holds w (pts b (row 217 [.map x]) :: mpv kp v1 (.map x) m :: fr)) :
    Calls Tryz.prog 318 #[.slice none 0 0, .func (.func 295) #[] #[pp b]] w
      (ret fun v w' => ∃ ks, ks.Perm (m.map (·.1)) ∧ Holds w' (sls 166 2 v (rcells ks) :: mpv kp v1 (.map x) m :: fr)) := by
  refine calls_of Tryz.func318 rfl (by kernel_rfl) ?_
  refine J53 H ?_
  clear H; intro b2 w H
  refine J0 H ?_
  refine J13 H ?_
  refine C_block (C_rangeFunc (a := []) (b := [pp b]) H rfl (fun yl D w H => ?_))
  generalize hL : LR _ yl _ _ _ _ D .ready = L at H ⊢
  replace H := sls_nil (E := 166) (k := 2) H
  replace H := Js [0,0,1,1,1,0] 0 H
  refine call (KeysIter yl b x m (CJ L b2) ?_ (CJ_in (ks := []) H)) ?_
  · intro ks r rest w hlt H
    obtain ⟨a, c⟩ := r
    obtain ⟨v, H⟩ := CJ_out H
    have h1 := sls_one H
    subst hL
    replace H := Js [1,0,0] 0 H
    refine Yields_of (args := [rf (a, c)]) H rfl rfl ?_
    refine J23 H ?_
    clear H; intro b5 w H
    refine J6 H ?_
    clear H; intro w H
    refine Lp_nil ?_
    replace H := Js [1,1,0,0] 0 H
    refine ⟨rfl, _, H, fun w H => C_block ?_⟩
    refine J43 H ?_
    refine J44 H ?_
    refine J32 H ?_
    clear H; intro b10 w H
    replace H := Js [2,0,0,0,0] 0 H
    refine Lp_s rfl (St_append H rfl rfl (by repeat (first | exact Reads.nil _ | apply Reads.cons rfl)) rfl (by decide) (by simp only [rcells_length, List.length_cons, List.length_nil]; omega) rfl rfl ?_)
    clear H; intro v11 w H
    obtain ⟨a11, c11, rfl⟩ := sls_slice (m := ks.length + 1) H (by simp [rcells_length]; omega) (by decide)
    refine Lp_s rfl (St_store1 H rfl rfl inferInstance (sls_one H) (Nat.le_of_ble_eq_true rfl) rfl ?_)
    clear H; intro w H
    refine Lp_nil ?_
    replace H := Js [2,0,2] 2 H
    refine ⟨rfl, _, H, fun w H => ⟨rfl, CJ_in (v := .slice a11 (ks.length + 1) c11) ?_⟩⟩
    replace H := Js [1,0,0] 0 H
    rw [rcells_append]
    exact H
  · rintro v w' ⟨ks, hp, H⟩
    obtain ⟨v2, H⟩ := CJ_out H
    have h1 := sls_one H
    subst hL
    replace H := Js [1,0,0,0,0] 0 H
    refine ⟨_, H, fun w H => ?_⟩
    refine J43 H ?_
    refine J42 H ?_
    replace H := Js [3,0,1] 1 H
    exact C_ret (fn_end (ms := [D]) _ (.inr rfl) ((Holds.star (k := [pts D (.deferred (some []))])).2 H) rfl fun w' H' => ⟨ks, hp, H'⟩)

theorem rCollect_spec [Extra] (b : Nat) (x : Option Nat) (m : List (Rf × Int)) (hm : m.length ≤ 1000000) {w : World} {fr : List HProp} (H : Holds w (pts b (row 217 [.map x]) :: mpv kp v1 (.map x) m :: fr)) :
    Calls Tryz.prog 293 #[.func (.func 295) #[] #[pp b]] w
      (ret fun v w' => ∃ ks, ks.Perm (m.map (·.1)) ∧ Holds w' (sls 166 2 v (rcells ks) :: mpv kp v1 (.map x) m :: fr)) := by
  refine calls_of Tryz.func293 rfl (by kernel_rfl) ?_
  refine J119 H ?_
  refine Jc rfl rfl (rAppendSeq_spec b x m hm H) ?_
  rintro v w ⟨ks, hp, H⟩
  refine J42 H ?_
  exact C_ret (Jy H rfl fun w' H' => ⟨ks, hp, H'⟩)
end Go.Proofs.YtipelpbkeiphmaaGreatDoor
namespace Go.Proofs.YtipelpbkeiphmaaGreatDoor
open Go.SL

theorem risNaN_spec [Extra] (a : Int) (w : World) : Calls Tryz.prog 163 #[.int .i64 a] w (ret fun v w' => v = .bool false ∧ w' = w) := by
  refine calls_of Tryz.func163 rfl (by kernel_rfl) ?_
  repeat refine C_seq ?_
  refine C_region ?_
  refine Lp_pv rfl rfl ?_
  refine Lp_nil ?_
  repeat refine C_seq ?_
  refine C_region ?_
  refine Lp_pv rfl rfl ?_
  refine Lp_pv rfl rfl ?_
  refine Lp_pv rfl rfl ?_
  refine Lp_pv rfl rfl ?_
  refine Lp_nil ?_
  exact C_ret (fn_endX (.inr rfl) rfl ⟨by show Value.bool (a != a) = _; simp, rfl⟩)

def cmpI (a b : Int) : Int := if a < b then -1 else if b < a then 1 else 0

theorem rCompare_spec [Extra] (a b : Int) (w : World) : Calls Tryz.prog 78 #[.int .i64 a, .int .i64 b] w (ret fun v w' => v = .int .i64 (cmpI a b) ∧ w' = w) := by
  refine calls_of Tryz.func78 rfl (by kernel_rfl) ?_
  repeat refine C_seq ?_
  refine C_region ?_
  refine Lp_pv rfl rfl ?_
  refine Lp_nil ?_
  repeat refine C_seq ?_
  refine C_region ?_
  refine Lp_pv rfl rfl ?_
  refine Jc rfl rfl (risNaN_spec a _) ?_
  rintro v w' ⟨rfl, rfl⟩
  refine Lp_pv rfl rfl ?_
  refine Lp_nil ?_
  repeat refine C_seq ?_
  refine C_region ?_
  refine Lp_pv rfl rfl ?_
  refine Jc rfl rfl (risNaN_spec b _) ?_
  rintro v w' ⟨rfl, rfl⟩
  refine Lp_pv rfl rfl ?_
  refine Lp_nil ?_
  repeat refine C_seq ?_
  refine C_region ?_
  refine Lp_pv rfl rfl ?_
  refine Lp_nil ?_
  repeat refine C_seq ?_
  refine C_false rfl (C_skip ?_)
  repeat refine C_seq ?_
  refine C_region ?_
  refine Lp_pv rfl rfl ?_
  refine Lp_nil ?_
  repeat refine C_seq ?_
  refine C_false rfl (C_skip ?_)
  repeat refine C_seq ?_
  refine C_region ?_
  refine Lp_pv rfl rfl ?_
  refine Lp_pv rfl rfl ?_
  refine Lp_pv rfl rfl ?_
  refine Lp_nil ?_
  repeat refine C_seq ?_
  refine C_dec rfl (fun h => ?_) (fun h => C_skip ?_)
  · repeat refine C_seq ?_
    refine C_region ?_
    refine Lp_pv rfl rfl ?_
    refine Lp_nil ?_
    exact C_ret (fn_endX (.inr rfl) rfl ⟨by show Value.int .i64 (-1) = _; simp [cmpI, h], rfl⟩)
  · repeat refine C_seq ?_
    refine C_region ?_
    refine Lp_pv rfl rfl ?_
    refine Lp_pv rfl rfl ?_
    refine Lp_pv rfl rfl ?_
    refine Lp_nil ?_
    repeat refine C_seq ?_
    refine C_dec rfl (fun h2 => ?_) (fun h2 => C_skip ?_)
    · repeat refine C_seq ?_
      refine C_region ?_
      refine Lp_pv rfl rfl ?_
      refine Lp_nil ?_
      exact C_ret (fn_endX (.inr rfl) rfl ⟨by have : b < a := h2; show Value.int .i64 1 = _; simp [cmpI, h, this], rfl⟩)
    · repeat refine C_seq ?_
      refine C_region ?_
      refine Lp_pv rfl rfl ?_
      refine Lp_nil ?_
      exact C_ret (fn_endX (.inr rfl) rfl ⟨by have : ¬ b < a := h2; show Value.int .i64 0 = _; simp [cmpI, h, this], rfl⟩)

def orI (x y : Int) : Int := if x = 0 then y else x

theorem rOr_spec [Extra] (b : Nat) (x y : Int) {w : World} {fr : List HProp} (H : Holds w (pts b (row 3 [.int .i64 x, .int .i64 y]) :: fr)) :
    Calls Tryz.prog 77 #[.slice (some ⟨b, 0, none⟩) 2 2] w (ret fun v w' => v = .int .i64 (orI x y) ∧ w' = w) := by
  refine calls_of Tryz.func77 rfl (by kernel_rfl) ?_
  refine J12 H ?_
  refine J157 H ?_
  refine J15 H ?_
  refine J21 H ?_
  refine C_loop (fun ms σ w' n => ms = [] ∧ w' = w ∧ ∃ i : Nat, i ≤ 2 ∧ n = 2 - i ∧ σ 6 = .slice (some ⟨b, 0, none⟩) 2 2 ∧ σ 7 = .int .i64 2 ∧ σ 8 = .int .i64 i ∧ σ 3 = .int .i64 0 ∧ (1 ≤ i → x = 0) ∧ (2 ≤ i → y = 0)) (m := 2) ⟨rfl, rfl, 0, by omega, rfl, rfl, rfl, rfl, rfl, by omega, by omega⟩ ?_
  rintro ms σ w' n ⟨rfl, rfl, i, hi, rfl, h6, h7, h8, h3, hx, hy⟩
  rw [upd_self h6, upd_self h7, upd_self h8, upd_self h3]
  have h012 : i = 0 ∨ i = 1 ∨ i = 2 := by omega
  rcases h012 with rfl | rfl | rfl
  · refine J13 H ?_
    refine C_true rfl (C_skip ?_)
    refine J31 H ?_
    refine Lp_s rfl (St_indexAddr rfl rfl (by decide) (by decide) rfl ?_)
    refine J94 H ?_
    refine J155 H ?_
    refine J15 H ?_
    refine C_cond rfl (fun ht => ?_) (fun ht => C_skip ?_)
    · have hx0 : x ≠ 0 := by simpa using ht
      refine J5 H ?_
      exact C_ret (fn_endX (.inr rfl) rfl ⟨by show Value.int .i64 x = _; simp [orI, hx0], rfl⟩)
    · have hx0 : x = 0 := by simpa using ht
      refine J5 H ?_
      exact ⟨_, ⟨rfl, rfl, 1, by omega, rfl, rfl, rfl, rfl, rfl, by omega, by omega⟩, by omega⟩
  · refine J13 H ?_
    refine C_true rfl (C_skip ?_)
    refine J31 H ?_
    refine Lp_s rfl (St_indexAddr rfl rfl (by decide) (by decide) rfl ?_)
    refine J94 H ?_
    refine J155 H ?_
    refine J15 H ?_
    refine C_cond rfl (fun ht => ?_) (fun ht => C_skip ?_)
    · have hx0 : y ≠ 0 := by simpa using ht
      refine J5 H ?_
      exact C_ret (fn_endX (.inr rfl) rfl ⟨by show Value.int .i64 y = _; simp [orI, hx (by omega)], rfl⟩)
    · have hx0 : y = 0 := by simpa using ht
      refine J5 H ?_
      exact ⟨_, ⟨rfl, rfl, 2, by omega, rfl, rfl, rfl, rfl, rfl, by omega, by omega⟩, by omega⟩
  · refine J13 H ?_
    refine C_false rfl (C_exit ?_)
    refine J5 H ?_
    exact C_ret (fn_endX (.inr rfl) rfl ⟨by show Value.int .i64 0 = _; simp [orI, hx (by omega), hy (by omega)], rfl⟩)

def cmpR (x y : Rf) : Int := orI (cmpI x.1 y.1) (cmpI x.2 y.2)

open Go.Sort in
theorem rcmp_spec (x y : Rf) (w : World) : Calls Tryz.prog 227 #[rf x, rf y] w (ret fun v w' => v = .int .i64 (cmpR x y) ∧ ∃ q os', w' = grow (w.drewN q) os') := by
  obtain ⟨a, b⟩ := x
  obtain ⟨c, d⟩ := y
  letI : Extra := ⟨w.os, w.output⟩
  have H : Holds w [] := Holds.nil w ⟨rfl, rfl⟩
  refine calls_of Tryz.func227 rfl (by kernel_rfl) ?_
  repeat refine C_seq ?_
  refine C_region ?_
  refine Lp_s rfl (St_boxNX H rfl rfl ?_)
  clear H; intro b2 w1 e1 H
  refine Lp_s rfl (St_boxNX H rfl rfl ?_)
  clear H; intro b3 w2 e2 H
  refine Lp_pv rfl rfl ?_
  refine Lp_nil ?_
  repeat refine C_seq ?_
  refine C_drawX H mixed ?_
  clear H; intro w3 e3 H
  refine A_fieldAddr 0 rfl (Wants.none rfl) rfl (by kernel_rfl) ?_
  refine A_load1 1 [4, 9, 10, 11] H rfl (Wants.none rfl) rfl rfl (by kernel_rfl) ?_
  refine A_fieldAddr 2 rfl (Wants.none rfl) rfl (by kernel_rfl) ?_
  refine A_load1 3 [4, 9, 10, 11] H rfl (Wants.none rfl) rfl rfl (by kernel_rfl) ?_
  refine A_fieldAddr 5 rfl (Wants.none rfl) rfl (by kernel_rfl) ?_
  refine A_load1 6 [9, 10, 11] H rfl (Wants.none rfl) rfl rfl (by kernel_rfl) ?_
  refine A_fieldAddr 7 rfl (Wants.none rfl) rfl (by kernel_rfl) ?_
  refine A_load1 8 [9, 10, 11] H rfl (Wants.none rfl) rfl rfl (by kernel_rfl) ?_
  refine Jo 4 H ?_
  refine Jk rfl rfl (rCompare_spec a c _) ?_
  rintro v w' ⟨rfl, rfl⟩
  refine Jo 9 H ?_
  refine Jk rfl rfl (rCompare_spec b d _) ?_
  rintro v w' ⟨rfl, rfl⟩
  refine Jo 10 H ?_
  refine St_buildSliceX H rfl rfl rfl ?_
  clear H; intro b15 w5 e5 H
  refine Jo 11 H ?_
  refine Jk rfl rfl (rOr_spec b15 (cmpI a c) (cmpI b d) H) ?_
  rintro v w' ⟨rfl, rfl⟩
  refine A_pv 12 rfl (Wants.none rfl) rfl (by kernel_rfl) ?_
  refine A_end (by kernel_rfl) (by repeat first | exact .nil | refine .cons (.inr H.at) ?_ | refine .cons (.inr H.mp) ?_ | refine .cons (.inl (by kernel_rfl)) ?_) ?_
  have key : ∃ q os', w' = grow (w.drewN q) os' := by
    rw [e5, e3, e2, e1]
    simp only [alloc_eq_grow]
    exact ⟨1, _, by
      show grow (grow (grow (w.drewN 1) _) _) _ = _
      rw [grow_grow, grow_grow]⟩
  exact C_ret (fn_endX (.inr rfl) rfl ⟨rfl, key⟩)

def ltR (x y : Rf) : Prop := x.1 < y.1 ∨ x.1 = y.1 ∧ x.2 < y.2
instance (x y : Rf) : Decidable (ltR x y) := by unfold ltR; exact inferInstance

theorem cmpR_neg (x y : Rf) : cmpR x y < 0 ↔ ltR x y := by
  unfold cmpR orI cmpI ltR
  constructor
  · intro h
    repeat' split at h
    all_goals omega
  · intro h
    repeat' split
    all_goals omega

open Go.Sort in
theorem ltOf_cmpR (x y : Rf) : ltOf cmpR x y = decide (ltR x y) := by
  unfold ltOf
  rw [Bool.eq_iff_iff]
  simp [cmpR_neg]

open Go.Sort in
theorem swoR : SWO (ltOf cmpR) where
  irrefl x := by rw [ltOf_cmpR]; simp [ltR]
  trans x y z h1 h2 := by
    rw [ltOf_cmpR] at h1 h2 ⊢
    have h1 : ltR x y := of_decide_eq_true h1
    have h2 : ltR y z := of_decide_eq_true h2
    have h3 : ltR x z := by unfold ltR at *; omega
    exact decide_eq_true h3
  ntrans x y z h1 h2 := by
    rw [ltOf_cmpR] at h1 h2 ⊢
    have h1 : ¬ ltR x y := of_decide_eq_false h1
    have h2 : ¬ ltR y z := of_decide_eq_false h2
    have h3 : ¬ ltR x z := by unfold ltR at *; omega
    exact decide_eq_false h3

def encR (r : Rf) : List Value := [.int .i64 r.1, .int .i64 r.2]
theorem rcells_eq (l : List Rf) : rcells l = l.flatMap encR := rfl

/-- References in order, each once. -/
def Rising (l : List Rf) : Prop := l.Pairwise ltR

theorem rSortedFunc_spec [Extra] (b : Nat) (x : Option Nat) (m : List (Rf × Int)) (hm : m.length ≤ 1000000) (hn : (m.map (·.1)).Nodup) {w : World} {fr : List HProp} (H : Holds w (pts b (row 217 [.map x]) :: mpv kp v1 (.map x) m :: fr)) :
    Calls Tryz.prog 225 #[.func (.func 295) #[] #[pp b], .func (.func 227) #[] #[]] w
      (ret fun v w' => ∃ ks, ks.Perm (m.map (·.1)) ∧ Rising ks ∧ Holds w' (sls 166 2 v (rcells ks) :: mpv kp v1 (.map x) m :: fr)) := by
  refine calls_of Tryz.func225 rfl (by kernel_rfl) ?_
  refine J119 H ?_
  refine Jc rfl rfl (rCollect_spec b x m hm H) ?_
  rintro v w ⟨ks, hp, H⟩
  refine J42 H ?_
  refine J51 H ?_
  refine Lp_mv rfl rfl ?_
  refine J7 H ?_
  have hs := sortFunc_spec (k := 2) (enc := encR) Tryz.sortRef (t := 166) rfl inferInstance (by decide) (fun _ => rfl) (fun x v hv => by simp [encR] at hv; rcases hv with rfl | rfl <;> rfl) cmpR swoR (g := 227) inferInstance (fun x y W => (rcmp_spec x y W).mono fun e w' h => by
    cases e with
    | returned v => exact ⟨by rw [h.1], h.2⟩
    | panicked c => exact h.elim
    | outgrown => exact h.elim) H (by have := hp.length_eq; simp at this; omega)
  refine Jc rfl rfl (hs) ?_
  rintro v2 w ⟨ks2, hp2, hs2, H⟩
  refine Lp_nil ?_
  refine J51 H ?_
  refine Lp_mv rfl rfl ?_
  refine J42 H ?_
  have hp3 := hp2.trans hp
  refine C_ret (Jy H rfl fun w' H' => ⟨ks2, hp3, ?_, H'⟩)
  have hnd : ks2.Nodup := hp3.nodup_iff.2 hn
  refine (hs2.and hnd).imp ?_
  rintro a b ⟨h1, h2⟩
  rw [ltOf_cmpR] at h1
  have h3 : ¬ ltR b a := of_decide_eq_false h1
  unfold ltR at h3 ⊢
  have h4 : ¬ (a.1 = b.1 ∧ a.2 = b.2) := fun e => h2 (Prod.ext e.1 e.2)
  omega

theorem sorted_spec [Extra] (x : Option Nat) (m : List (Rf × Int)) (hm : m.length ≤ 1000000) (hn : (m.map (·.1)).Nodup) {w : World} {fr : List HProp} (H : Holds w (mpv kp v1 (.map x) m :: fr)) :
    Calls Tryz.prog 152 #[.map x] w
      (ret fun v w' => ∃ ks, ks.Perm (m.map (·.1)) ∧ Rising ks ∧ Holds w' (sls 166 2 v (rcells ks) :: mpv kp v1 (.map x) m :: fr)) := by
  refine calls_of Tryz.func152 rfl (by kernel_rfl) ?_
  refine J119 H ?_
  refine Jc rfl rfl (rKeys_spec x m H) ?_
  rintro v w ⟨b, rfl, H⟩
  
  refine Jc rfl rfl (rSortedFunc_spec b x m hm hn H) ?_
  rintro v w ⟨ks, hp, hs, H⟩
  refine J42 H ?_
  exact C_ret (Jy H rfl fun w' H' => ⟨ks, hp, hs, H'⟩)
end Go.Proofs.YtipelpbkeiphmaaGreatDoor
namespace Go.Proofs.YtipelpbkeiphmaaGreatDoor
open Go.SL

theorem mem_at {g1 g2 : List Gr} {g : Gr} (hn : ((g1 ++ g :: g2).map (·.key)).Nodup) {r : Rf} : mem (g1 ++ g :: g2) g.key r ↔ r ∈ g.m.map (·.1) := by
  rw [mem_mid]
  exact ⟨fun h => h.elim (·.2) fun h => absurd (mem_key h) (rest_key hn), fun h => .inl ⟨rfl, h⟩⟩

theorem mpv_some [Extra] {w : World} {K V : Type} {ek : K → Value} {vv : V → Value} {b : Nat} {m : List (K × V)} {l : List HProp} (H : Holds w (mpv ek vv (.map (some b)) m :: l)) : Holds w (mp ek vv b m :: l) := H.head fun h hm => by
  rcases hm with ⟨h, _⟩ | ⟨b', h, hm⟩
  · cases h
  · cases h; exact hm

theorem fnd_isSome_mem {K V : Type} [DecidableEq K] {m : List (K × V)} {x : K} (h : (fnd m x).isSome = true) : x ∈ m.map (·.1) := by
  cases hf : fnd m x with
  | none => rw [hf] at h; cases h
  | some v => exact List.mem_map_of_mem (f := (·.1)) (fnd_mem hf)

theorem rFrom_spec [Extra] (p : Nat) (m : List (Rf × Int)) (hm : m.length ≤ 1000000) (t : Int) {w : World} {fr : List HProp} (H : Holds w (RS p m :: fr)) :
    Calls Tryz.prog 228 #[pp p, .int .i64 t] w (ret fun v w' => ∃ ks, (∀ r, r ∈ ks ↔ (r.1 = t ∧ (fnd m r).isSome = true)) ∧ Rising ks ∧ Holds w' (sls 166 2 v (rcells ks) :: RS p m :: fr)) := by
  refine calls_of Tryz.func228 rfl (by kernel_rfl) ?_
  obtain ⟨bt, bo, bf, H⟩ := RS_out H
  refine J83 H ?_
  replace H := Js [3,0,0,0] 0 H
  obtain ⟨G, hG, H⟩ := GrR_out H
  refine Lp_s rfl (St_lookup (key := t) H rfl rfl tkI rfl ?_)
  have hn0 := keys_nodup bf H
  have hn : (G.map (·.key)).Nodup := by rw [← gkb_keys]; exact hn0
  cases hf : fnd (G.map gkb) t with
  | none =>
    replace H := mpv_nil kp v1 H
    refine Jc rfl rfl (sorted_spec none [] (by simp) (by simp) H) ?_
    rintro v w ⟨ks, hp, hs, H⟩
    refine J42 H ?_
    have hks : ks = [] := by simpa using hp
    subst hks
    replace H := Js [2,2,2,2,2,0] 1 H
    replace H := GrR_in G hG H
    replace H := Js [1,1,1,0,0] 0 H
    replace H := RS_in bt bo bf (fun _ _ => Iff.rfl) (fun _ _ => Iff.rfl) H
    refine C_ret (Jy H.swap rfl fun w' H' => ⟨[], fun r => ?_, hs, H'⟩)
    have h1 := fnd_eq_none.1 hf
    rw [gkb_keys] at h1
    exact ⟨fun h => by simp at h, fun h => absurd (mem_key ((hG t r).2 h)) h1⟩
  | some bi =>
    obtain ⟨g, g1, g2, rfl, rfl, rfl⟩ := group_at hf
    have H := (Holds.pick rfl).1 H.swap
    have hi := keys_nodup g.blk H
    have hlen : g.m.length ≤ 1000000 := by
      have := sub_length hi (l₂ := m.map (·.1)) (fun r hr => by
        have := (hG g.key r).1 ((mem_at hn).2 hr)
        exact fnd_isSome_mem this.2)
      simp at this
      omega
    replace H := mpv_of H
    refine Jc rfl rfl (sorted_spec (some g.blk) g.m hlen hi H) ?_
    rintro v w ⟨ks, hp, hs, H⟩
    refine J42 H ?_
    replace H := mpv_some H.swap
    replace H := Js [0,1,0,0,0,0,0] 0 H
    replace H := (Holds.pick (R := inner) (gs := g1 ++ g :: g2) rfl).2 H
    replace H := Js [2,0,1,1,1,0] 0 H
    replace H := GrR_in (g1 ++ g :: g2) hG H
    replace H := Js [1,1,1,0,0] 0 H
    replace H := RS_in bt bo bf (fun _ _ => Iff.rfl) (fun _ _ => Iff.rfl) H
    refine C_ret (Jy H.swap rfl fun w' H' => ⟨ks, fun r => ?_, hs, H'⟩)
    rw [hp.mem_iff, ← hG, mem_at hn]



theorem rcells_reads {ks : List Rf} {spare : List Value} {i : Nat} {r : Rf} (h : ks[i]? = some r) : Reads (rcells ks ++ spare) (0 + i * 2) 2 [.int .i64 r.1, .int .i64 r.2] := by
  have hl := rcells_length ks
  have hi := (List.getElem?_eq_some_iff.1 h).1
  have g : ∀ t, (rcells ks)[t]? = (ks[t / 2]?).bind fun x => (encR x)[t % 2]? := fun t => by rw [rcells_eq]; exact flatMap_get (k := 2) (fun _ => rfl) (by decide) ks t
  refine .cons ?_ (.cons ?_ (.nil _))
  · rw [List.getElem?_append_left (by omega), g, show (0 + i * 2) / 2 = i by omega, show (0 + i * 2) % 2 = 0 by omega, h]; rfl
  · rw [List.getElem?_append_left (by omega), g, show (0 + i * 2 + 1) / 2 = i by omega, show (0 + i * 2 + 1) % 2 = 1 by omega, h]; rfl

theorem rcells_nil {ks : List Rf} (h : rcells ks = []) : ks = [] := by
  have := rcells_length ks
  rw [h] at this
  exact List.eq_nil_of_length_eq_zero (by simp at this; omega)

theorem nodup_foldl_era : ∀ (ks : List Rf) {m : List (Rf × Int)}, (m.map (·.1)).Nodup → ((ks.foldl era m).map (·.1)).Nodup
  | [], _, h => h
  | k :: ks, _, h => nodup_foldl_era ks (nodup_era h)

theorem rForget_spec [Extra] (p : Nat) (m : List (Rf × Int)) (hn : (m.map (·.1)).Nodup) (hm : m.length ≤ 1000000) (t : Int) {w : World} {fr : List HProp} (H : Holds w (RS p m :: fr)) :
    Calls Tryz.prog 171 #[pp p, .int .i64 t] w (ret fun v w' => ∃ ks, (∀ r, r ∈ ks ↔ (r.1 = t ∧ (fnd m r).isSome = true)) ∧ Rising ks ∧ v = .int .i64 ks.length ∧ Holds w' (RS p (ks.foldl era m) :: fr)) := by
  refine calls_of Tryz.func171 rfl (by kernel_rfl) ?_
  refine J12 H ?_
  refine J2 H ?_
  refine Jc rfl rfl (rFrom_spec p m hm t H) ?_
  rintro v w ⟨ks, hks, hs, H⟩
  refine J42 H ?_
  have hlen : ks.length ≤ 1000000 := by
    have hnd : ks.Nodup := hs.imp fun {a b} h e => by subst e; unfold ltR at h; omega
    have := sub_length hnd (l₂ := m.map (·.1)) fun r hr => fnd_isSome_mem ((hks r).1 hr).2
    simp at this
    omega
  rcases sls_case H with ⟨rfl, h0, H2⟩ | ⟨b, len, cap, spare, rfl, e3, e4, e5, H2⟩ <;> replace H := H2 <;> clear H2
  · have := rcells_nil h0
    subst this
    repeat refine C_seq ?_
    refine C_region ?_
    refine Lp_pv rfl rfl ?_
    refine Lp_s rfl (St_lenSlice rfl rfl ?_)
    refine Lp_pv rfl rfl ?_
    refine Lp_nil ?_
    repeat refine C_seq ?_
    refine C_block ?_
    refine C_loop (fun ms σ w n => ms = [] ∧ σ 12 = .int .i64 0 ∧ σ 13 = .int .i64 0 ∧ σ 5 = .slice none 0 0 ∧ Holds w (RS p m :: fr)) (m := 1) ⟨rfl, rfl, rfl, rfl, H⟩ ?_
    clear H
    rintro ms σ w n ⟨rfl, h12, h13, h5, H⟩
    rw [upd_self h12, upd_self h13, upd_self h5]
    refine J13 H ?_
    refine C_false rfl (C_exit ?_)
    refine J99 H ?_
    exact C_ret (Jy H rfl fun w' H' => ⟨[], hks, hs, rfl, H'⟩)
  · have hl2 : len = ks.length := by rw [rcells_length] at e3; omega
    subst hl2
    refine J90 H ?_
    refine J49 H ?_
    refine C_loop (fun ms σ w n => ms = [] ∧ ∃ i : Nat, i ≤ ks.length ∧ n = ks.length - i ∧ σ 0 = pp p ∧ σ 11 = .slice (some ⟨b, 0, none⟩) ks.length cap ∧ σ 12 = .int .i64 ks.length ∧ σ 13 = .int .i64 i ∧ σ 5 = .slice (some ⟨b, 0, none⟩) ks.length cap ∧
      Holds w (RS p ((ks.take i).foldl era m) :: pts b (row 166 (rcells ks ++ spare)) :: fr)) (m := ks.length) ⟨rfl, 0, by omega, rfl, rfl, rfl, rfl, rfl, rfl, H.swap⟩ ?_
    clear H
    rintro ms σ w n ⟨rfl, i, hi, rfl, h0, h11, h12, h13, h5, H⟩
    rw [upd_self h0, upd_self h11, upd_self h12, upd_self h13, upd_self h5]
    refine J13 H ?_
    refine C_dec rfl (fun h => C_skip ?_) (fun h => C_exit ?_)
    · have hlt : i < ks.length := by omega
      have hr := List.getElem?_eq_getElem hlt
      generalize ks[i] = r at hr
      obtain ⟨a, c⟩ := r
      refine J31 H ?_
      refine Lp_s rfl (St_indexAddr rfl rfl (by omega) (by omega) rfl ?_)
      refine Lp_s rfl (St_loadN H rfl (rcells_reads hr) rfl ?_)
      refine J17 H ?_
      clear H; intro b7 w H
      refine J6 H ?_
      clear H; intro w H
      refine Lp_nil ?_
      refine J72 H ?_
      replace H := Js [1,1] 1 H
      refine Jc rfl rfl (rCut_spec p _ (nodup_foldl_era _ hn) (a, c) H) ?_
      clear H; rintro v w ⟨rfl, H⟩
      refine J67 H ?_
      refine ⟨_, ⟨rfl, i + 1, hlt, rfl, rfl, rfl, rfl, inc64 (by omega), rfl, ?_⟩, by omega⟩
      rw [List.take_add_one, hr]
      simpa using H
    · have hge : i = ks.length := by omega
      subst hge
      refine J99 H ?_
      rw [List.take_length] at H
      exact C_ret (Jy H.swap.drop rfl fun w' H' => ⟨ks, hks, hs, rfl, H'⟩)
end Go.Proofs.YtipelpbkeiphmaaGreatDoor
