/- Cells: what is proved on the way: every input of the statement; no condition. Texts joined: LayC LayD LayE RmB TreA CelP. -/
import Derived.Test.YtipelpbkeiphmaaGreatDoorBaf
import Derived.Test.YtipelpbkeiphmaaGreatDoorBah
import Derived.Test.YtipelpbkeiphmaaGreatDoorBae
import Derived.Test.YtipelpbkeiphmaaGreatDoorBag
set_option linter.unusedVariables false
set_option linter.unusedSimpArgs false
set_option linter.unusedSectionVars false
namespace Go.Proofs.YtipelpbkeiphmaaGreatDoor
open Go.SL

theorem decodeL3 (x y z : Nat) : decodeL [x, y, z] = if x < 65536 ∧ RightL (layOf x y z) then some (layOf x y z) else none := rfl

theorem lDecode_no [Extra] (v : Value) (n : Nat) (hn : n ≠ 3) (hv : ∃ a c, v = .slice a n c) {w : World} {fr : List HProp} (H : Holds w fr) :
    Calls Tryz.prog 192 #[v] w (ret fun x w' => x = .tuple #[layV 0 (.slice none 0 0) 0 (.slice none 0 0), .int .i64 4] ∧ Holds w' fr) := by
  obtain ⟨a, c, rfl⟩ := hv
  refine calls_of Tryz.func192 rfl (by kernel_rfl) ?_
  refine J22 H ?_
  clear H; intro b2 w H
  refine J0 H ?_
  refine J70 H ?_
  rw [show ((n : Int) != 3) = true by simp; omega]
  refine J140 H ?_
  clear H; intro w H
  refine J0 H ?_
  exact C_ret (Jz H (fun w' H' => .cellN H' rfl (by repeat (first | exact Reads.nil _ | apply Reads.cons rfl)) (.tmp .nil)) fun w' H' => ⟨rfl, H'.drop⟩)

theorem lDecode_spec [Extra] (v : Value) (x y z : Nat) (hx : x < 18446744073709551616) (hy : y < 18446744073709551616) (hz : z < 18446744073709551616) {w : World} {fr : List HProp} [hT : HasTab 0 Lib.deBruijn64tab fr] (hr : RdS fr v 3 1 (ucells [x, y, z])) (H : Holds w fr) :
    Calls Tryz.prog 192 #[v] w (ret fun r w' => (decodeL [x, y, z] = none ∧ r = .tuple #[layV 0 (.slice none 0 0) 0 (.slice none 0 0), .int .i64 4] ∧ Holds w' fr) ∨
      ∃ l vr vq, decodeL [x, y, z] = some l ∧ r = .tuple #[layV l.fixed vr l.record vq, .int .i64 0] ∧ Holds w' (NL vr l.refs :: NL vq l.recs :: fr)) := by
  obtain ⟨_, ad, cap, rfl, hr'⟩ := id hr
  rcases hr' with h | ⟨b, o, E, fz, c, rfl, hA, hrd⟩
  · omega
  haveI := hA
  have c0 : c[o + 0 * 1]? = some (.int .u64 x) := by have := hrd.get 0 (.int .u64 x) (by simp [ucells]); simpa using this
  have c1 : c[o + 1 * 1]? = some (.int .u64 y) := by have := hrd.get 1 (.int .u64 y) (by simp [ucells]); simpa using this
  have c2 : c[o + 2 * 1]? = some (.int .u64 z) := by have := hrd.get 2 (.int .u64 z) (by simp [ucells]); simpa using this
  refine calls_of Tryz.func192 rfl (by kernel_rfl) ?_
  refine J22 H ?_
  clear H; intro b2 w H
  refine J0 H ?_
  refine J92 H ?_
  refine J35 H ?_
  refine J1 H ?_
  clear H; intro w H
  refine J79 H ?_
  refine A_indexAddr 1 rfl (Wants.none rfl) rfl rfl (by omega) (by omega) (by kernel_rfl) ?_
  refine A_load1 2 [4] H rfl (Wants.none rfl) rfl c0 (by kernel_rfl) ?_
  refine Jo 3 H ?_
  refine Jk rfl rfl (sizes_spec H) ?_
  clear H; rintro v w H
  refine Jo 4 H ?_
  refine Jk rfl rfl (Unpack_spec x hx _ sizF ris_siz (by decide) H) ?_
  clear H; rintro v2 w ⟨u, rfl, H⟩
  obtain ⟨au, cu, rfl⟩ := sls_slice H (m := 3) (by simp [ucells, sizF]) (by decide)
  refine J55 H ?_
  refine J149 H ?_
  refine J123 H ?_
  obtain ⟨bu, su, rfl, H, hclose⟩ := sls_open H (by omega)
  have d0 : (ucells (sizF.map (getF x)) ++ su)[0 + 0 * 1]? = some (.int .u64 (getF x (0, 8))) := rfl
  have d1 : (ucells (sizF.map (getF x)) ++ su)[0 + 1 * 1]? = some (.int .u64 (getF x (8, 8))) := rfl
  have d2 : (ucells (sizF.map (getF x)) ++ su)[0 + 2 * 1]? = some (.int .u64 (getF x (16, 48))) := rfl
  have e8 : IntKind.i64.wrap ((getF x (0, 8) : Nat) : Int) = ((x % 256 : Nat) : Int) := by
    rw [wrapI_nat (by have := Nat.mod_lt (x / 2 ^ 0) (show 0 < 2 ^ 8 by decide); show x / 2 ^ 0 % 2 ^ 8 < _; omega)]
    show ((x / 2 ^ 0 % 2 ^ 8 : Nat) : Int) = _
    simp
  have e16 : IntKind.i64.wrap ((getF x (8, 8) : Nat) : Int) = ((x / 256 % 256 : Nat) : Int) := by
    rw [wrapI_nat (by have := Nat.mod_lt (x / 2 ^ 8) (show 0 < 2 ^ 8 by decide); show x / 2 ^ 8 % 2 ^ 8 < _; omega)]
    rfl
  refine J14 H ?_
  refine C_joinQ (fun ms σ w => ms = [] ∧ ∃ b6 va vb, σ 2 = pp b2 ∧ σ 4 = .slice (some ⟨bu, 0, none⟩) 3 cu ∧ σ 6 = pp b6 ∧
    Holds w (pts b6 (row 201 [.int .i64 ((x % 256 : Nat) : Int), va, .int .i64 ((x / 256 % 256 : Nat) : Int), vb]) :: NL va (bitsTo y 64) :: NL vb (bitsTo z 64) :: pts bu (row 127 (ucells (sizF.map (getF x)) ++ su)) :: pts b2 (row 201 [.int .i64 0, .slice none 0 0, .int .i64 0, .slice none 0 0]) :: fr)) ?_ ?_
  · replace H := Js [0,1] 1 H
    refine J1 H ?_
    clear H; intro w H
    refine J79 H ?_
    refine A_indexAddr 1 rfl (Wants.none rfl) rfl rfl (by omega) (by omega) (by kernel_rfl) ?_
    refine A_load1 2 [18] H rfl (Wants.none rfl) rfl d0 (by kernel_rfl) ?_
    refine J137 H ?_
    refine J63 H ?_
    refine A_indexAddr 5 rfl (Wants.none rfl) rfl rfl (by omega) (by omega) (by kernel_rfl) ?_
    refine A_load1 6 [7] H rfl (Wants.none rfl) rfl c1 (by kernel_rfl) ?_
    refine J65 H ?_
    refine A_indexAddr 9 rfl (Wants.none rfl) rfl rfl (by omega) (by omega) (by kernel_rfl) ?_
    refine A_load1 10 [18] H rfl (Wants.none rfl) rfl d1 (by kernel_rfl) ?_
    refine A_convI 11 rfl (Wants.none rfl) rfl (by kernel_rfl) ?_
    refine A_pv 12 rfl (Wants.none rfl) rfl (by kernel_rfl) ?_
    refine A_indexAddr 13 rfl (Wants.none rfl) rfl rfl (by omega) (by omega) (by kernel_rfl) ?_
    refine A_load1 14 [15] H rfl (Wants.none rfl) rfl c2 (by kernel_rfl) ?_
    rw [e8, e16]
    refine A_two 7 17 rfl rfl (by kernel_rfl) (by repeat first | exact .nil | refine .cons (.inr H.at) ?_ | refine .cons (.inr H.mp) ?_ | refine .cons (.inl (by kernel_rfl)) ?_) (Wants.none rfl) (Wants.none rfl) (St_call (a := []) (b := []) rfl rfl (call (spread_spec y hy H) ?_)) (St_alloc H rfl ?_)
    · clear H; intro va w H
      obtain ⟨aa, ma, ca, rfl⟩ := sls_any H
      refine A_two 15 17 rfl rfl (by kernel_rfl) (by repeat first | exact .nil | refine .cons (.inr H.at) ?_ | refine .cons (.inr H.mp) ?_ | refine .cons (.inl (by kernel_rfl)) ?_) (Wants.none rfl) (Wants.none rfl) (St_call (a := []) (b := []) rfl rfl (call (spread_spec z hz H) ?_)) (St_alloc H rfl ?_)
      · clear H; intro vb w H
        obtain ⟨ab, mb, cb, rfl⟩ := sls_any H
        refine A_build 16 rfl (Wants.none rfl) rfl (by kernel_rfl) ?_
        refine Jo 17 H ?_
        refine St_alloc H rfl ?_
        clear H; intro b6 w H
        refine Jo 18 H ?_
        refine J66 H ?_
        clear H; intro w H
        refine J4 H ?_
        replace H := Js [0,1,0,0,0] 0 H
        exact .inl ⟨rfl, rfl, b6, _, _, rfl, rfl, rfl, H⟩
      · clear H; intro b6 w H
        refine Jo 15 H ?_
        refine Jk rfl rfl (spread_spec z hz H) ?_
        clear H; intro vb w H
        obtain ⟨ab, mb, cb, rfl⟩ := sls_any H
        refine A_build 16 rfl (Wants.none rfl) rfl (by kernel_rfl) ?_
        refine Jo 18 H ?_
        refine J66 H ?_
        clear H; intro w H
        refine J4 H ?_
        replace H := Js [1,1,0,0,0] 0 H
        exact .inl ⟨rfl, rfl, b6, _, _, rfl, rfl, rfl, H⟩
    · clear H; intro b6 w H
      refine Jo 7 H ?_
      refine Jk rfl rfl (spread_spec y hy H) ?_
      clear H; intro va w H
      obtain ⟨aa, ma, ca, rfl⟩ := sls_any H
      refine Jo 15 H ?_
      refine Jk rfl rfl (spread_spec z hz H) ?_
      clear H; intro vb w H
      obtain ⟨ab, mb, cb, rfl⟩ := sls_any H
      refine A_build 16 rfl (Wants.none rfl) rfl (by kernel_rfl) ?_
      refine Jo 18 H ?_
      refine J66 H ?_
      clear H; intro w H
      refine J4 H ?_
      replace H := Js [2,1,0,0,0] 0 H
      exact .inl ⟨rfl, rfl, b6, _, _, rfl, rfl, rfl, H⟩
  · clear H
    rintro ms σ w ⟨rfl, b6, va, vb, g2, g4, g6, H⟩
    rw [upd_self g2, upd_self g4, upd_self g6]
    have hla := bitsTo_len y 64
    have hlb := bitsTo_len z 64
    obtain ⟨aa, ca, rfl⟩ := sls_slice (H.drop) (ncells_length (bitsTo y 64)) (by decide)
    obtain ⟨ab, cb, rfl⟩ := sls_slice (H.drop.drop) (ncells_length (bitsTo z 64)) (by decide)
    refine J16 H ?_
    refine Lp_s rfl (St_indexAddr rfl rfl (by omega) (by omega) rfl ?_)
    refine Lp_s rfl (St_load1 H rfl d2 rfl ?_)
    refine J6 H ?_
    have hn : getF x (16, 48) = x / 65536 := by
      show x / 2 ^ 16 % 2 ^ 48 = _
      rw [Nat.mod_eq_of_lt (by omega)]
    rw [hn]
    by_cases hb : x < 65536
    · rw [show (((x / 65536 : Nat) : Int) != 0) = false by simp; omega]
      refine J6 H ?_
      refine J73 H ?_
      have h8 : x / 256 % 256 = x / 256 := Nat.mod_eq_of_lt (by omega)
      rw [h8] at H ⊢
      replace H := Js [1,1,0,0,0] 0 H
      obtain ⟨D1, H, hD1, hC1⟩ := sls_rd H (ncells_length (bitsTo y 64)) (by decide)
      obtain ⟨D2, H, hD2, hC2⟩ := sls_rd H.swap (ncells_length (bitsTo z 64)) (by decide)
      refine Lp_g rfl rfl rfl (St_call (a := []) (b := []) rfl rfl (call (lRight_spec _ _ (layOf x y z) ⟨by show x % 256 ≤ _; omega, by show x / 256 ≤ _; omega, by show (bitsTo y 64).length ≤ _; omega, by show (bitsTo z 64).length ≤ _; omega⟩ ⟨(hD1 _).there, hD2 _⟩ H) ?_))
      clear H; rintro v w ⟨⟨q, rfl, hq⟩, H⟩
      have H := (hC1 _ _ (hC2 _ _ H).swap)
      cases q with
      | true =>
        refine J74 H ?_
        refine J81 H ?_
        clear H; intro w H
        refine J0 H ?_
        replace H := Js [4,0,0] 2 H
        refine C_ret (Jz H (fun w' H' => .cellN H' rfl (by repeat (first | exact Reads.nil _ | apply Reads.cons rfl)) (.tmp .nil)) fun w' H' => .inr ⟨layOf x y z, _, _, ?_, rfl, H'.drop⟩)
        rw [decodeL3]
        rw [if_pos ⟨hb, hq.1 rfl⟩]
      | false =>
        refine J23 H ?_
        refine J150 H ?_
        clear H; intro w H
        refine J0 H ?_
        replace H := Js [4] 4 H
        refine C_ret (Jz H (fun w' H' => .cellN H' rfl (by repeat (first | exact Reads.nil _ | apply Reads.cons rfl)) (.tmp .nil)) fun w' H' => .inl ⟨?_, rfl, H'.drop⟩)
        rw [decodeL3]
        rw [if_neg]
        rintro ⟨_, h2⟩
        have := hq.2 h2
        cases this
    · rw [show (((x / 65536 : Nat) : Int) != 0) = true by simp; omega]
      refine J6 H ?_
      refine J69 H ?_
      refine J150 H ?_
      clear H; intro w H
      refine J0 H ?_
      replace H := Js [4] 4 H
      refine C_ret (Jz H (fun w' H' => .cellN H' rfl (by repeat (first | exact Reads.nil _ | apply Reads.cons rfl)) (.tmp .nil)) fun w' H' => .inl ⟨?_, rfl, H'.drop⟩)
      rw [decodeL3]
      rw [if_neg]
      rintro ⟨h1, _⟩
      exact hb h1
end Go.Proofs.YtipelpbkeiphmaaGreatDoor
namespace Go.Proofs.YtipelpbkeiphmaaGreatDoor
open Go.SL

/-- A layout in the heap: its two slices, and what it is. -/
abbrev LyC := Value × Value × Lay
@[reducible] def bres (x : LyC) : HProp := star [NL x.1 x.2.2.refs, NL x.2.1 x.2.2.recs]
@[reducible] def bval (x : LyC) : List Value := [.int .i64 x.2.2.fixed, x.1, .int .i64 x.2.2.record, x.2.1]
def bcells (l : List LyC) : List Value := l.flatMap bval
theorem bcells_length (l : List LyC) : (bcells l).length = l.length * 4 := by
  induction l with
  | nil => rfl
  | cons x l ih => simp only [bcells, List.flatMap_cons, List.length_append, List.length_cons, List.length_nil] at *; omega
theorem bcells_append (a b : List LyC) : bcells (a ++ b) = bcells a ++ bcells b := by simp [bcells]
theorem bcells_get : ∀ {L : List LyC} {i : Nat} {x : LyC}, L[i]? = some x → (bcells L)[i * 4]? = some (.int .i64 x.2.2.fixed) ∧ (bcells L)[i * 4 + 1]? = some x.1 ∧ (bcells L)[i * 4 + 2]? = some (.int .i64 x.2.2.record) ∧ (bcells L)[i * 4 + 3]? = some x.2.1
  | y :: L, 0, x, h => by
    simp at h
    subst h
    simp [bcells]
  | y :: L, i + 1, x, h => by
    have := bcells_get (L := L) (i := i) (by simpa using h)
    have e : bcells (y :: L) = bval y ++ bcells L := by simp [bcells]
    rw [e]
    rw [show (i + 1) * 4 = i * 4 + 4 by omega]
    simpa [bval] using this
theorem bcells_reads {L : List LyC} {spare : List Value} {i : Nat} {x : LyC} (h : L[i]? = some x) : Reads (bcells L ++ spare) (0 + i * 4) 4 (bval x) := by
  obtain ⟨h0, h1, h2, h3⟩ := bcells_get h
  have hl := (List.getElem?_eq_some_iff.1 h3).1
  rw [Nat.zero_add]
  refine Reads.cons ?_ (Reads.cons ?_ (Reads.cons ?_ (Reads.cons ?_ (Reads.nil _))))
  all_goals rw [List.getElem?_append_left (by omega)]
  · exact h0
  · exact h1
  · exact h2
  · exact h3

def BOOK (p : Nat) (ls : List Lay) : HProp := ex fun q : Value × List LyC => star [prop (q.2.map (·.2.2) = ls ∧ ls.length ≤ 64 ∧ ∀ x ∈ ls, RightL x), pts p (row 354 [q.1]), sls 201 4 q.1 (bcells q.2), star (q.2.map bres)]
theorem BOOK_out [Extra] {w : World} {p : Nat} {ls : List Lay} {l : List HProp} (H : Holds w (BOOK p ls :: l)) : ∃ v q, (q.map (·.2.2) = ls ∧ ls.length ≤ 64 ∧ ∀ x ∈ ls, RightL x) ∧ Holds w (pts p (row 354 [v]) :: sls 201 4 v (bcells q) :: star (q.map bres) :: l) := by
  obtain ⟨⟨v, q⟩, H⟩ := Holds.ex.1 H
  have H := Holds.star.1 H
  obtain ⟨h, H⟩ := Holds.prop.1 H
  exact ⟨v, q, h, H⟩
theorem BOOK_in [Extra] {w : World} {p : Nat} {ls : List Lay} {l : List HProp} {v : Value} {q : List LyC} (h : q.map (·.2.2) = ls ∧ ls.length ≤ 64 ∧ ∀ x ∈ ls, RightL x) (H : Holds w (pts p (row 354 [v]) :: sls 201 4 v (bcells q) :: star (q.map bres) :: l)) : Holds w (BOOK p ls :: l) :=
  Holds.ex.2 ⟨(v, q), Holds.star.2 (Holds.prop.2 ⟨h, H⟩)⟩

theorem NewBook_spec [Extra] {w : World} {fr : List HProp} (H : Holds w fr) : Calls Tryz.prog 188 #[] w (ret fun v w' => ∃ p, v = pp p ∧ Holds w' (BOOK p [] :: fr)) := by
  refine calls_of Tryz.func188 rfl (by kernel_rfl) ?_
  refine J136 H ?_
  refine Lp_s rfl (St_boxN H rfl rfl ?_)
  clear H; intro b2 w H
  refine J0 H ?_
  have H : Holds w (star (([] : List LyC).map bres) :: pts b2 (row 354 [.slice none 0 0]) :: fr) := Holds.star.2 H
  have H := sls_nil (E := 201) (k := 4) H
  replace H := Js [2,0,0] 0 H
  exact C_ret (Jy (BOOK_in (q := []) ⟨rfl, by simp, by simp⟩ H) rfl fun w' H' => ⟨_, rfl, H'⟩)

theorem bAdd_spec [Extra] (p : Nat) (ls : List Lay) (vr vq : Value) (l : Lay) (hR : RightL l) {w : World} {fr : List HProp} (hr : RdL fr vr vq l) (H : Holds w (BOOK p ls :: fr)) :
    Calls Tryz.prog 193 #[pp p, layV l.fixed vr l.record vq] w (ret fun x w' => (ls.length = 64 ∧ x = .tuple #[.int .i64 0, .int .i64 5] ∧ Holds w' (BOOK p ls :: fr)) ∨
      (ls.length < 64 ∧ x = .tuple #[.int .i64 ((ls.length + 1 : Nat) : Int), .int .i64 0] ∧ Holds w' (BOOK p (ls ++ [l]) :: fr))) := by
  obtain ⟨_, ad1, cap1, rfl, hr1⟩ := id hr.r
  obtain ⟨_, ad2, cap2, rfl, hr2⟩ := id hr.q
  obtain ⟨v, q, ⟨hq, hlen, hall⟩, H⟩ := BOOK_out H
  have hql : q.length = ls.length := by rw [← hq, List.length_map]
  obtain ⟨av, cv, rfl⟩ := sls_slice H.drop (bcells_length q) (by decide)
  refine calls_of Tryz.func193 rfl (by kernel_rfl) ?_
  refine J10 H ?_
  clear H; intro b3 w H
  refine J62 H ?_
  refine C_joinQ (fun ms σ w => ms = [] ∧ ls.length < 64 ∧ σ 0 = pp p ∧ σ 3 = pp b3 ∧ Holds w (pts b3 (row 201 [.int .i64 l.fixed, .slice ad1 l.refs.length cap1, .int .i64 l.record, .slice ad2 l.recs.length cap2]) :: pts p (row 354 [.slice av q.length cv]) :: sls 201 4 (.slice av q.length cv) (bcells q) :: star (q.map bres) :: fr)) ?_ ?_
  · refine J60 H ?_
    refine J26 H ?_
    refine Jc rfl rfl (lRight_spec _ _ l hR.small hr.there.there.there.there H) ?_
    clear H; rintro v w ⟨⟨b, rfl, hb⟩, H⟩
    obtain rfl := hb.2 hR
    refine J78 H ?_
    refine J151 H ?_
    refine J3 H ?_
    by_cases h64 : q.length = 64
    · rw [show ((q.length : Int) == 64) = true by simp; omega]
      refine J31 H ?_
      exact C_ret (.inr ⟨by simp, Jy (BOOK_in ⟨hq, hlen, hall⟩ H.drop) rfl fun w' H' => .inl ⟨by omega, rfl, H'⟩⟩)
    · rw [show ((q.length : Int) == 64) = false by simp; omega]
      refine J8 H ?_
      exact .inl ⟨rfl, rfl, by omega, rfl, rfl, H⟩
  · clear H
    rintro ms σ w ⟨rfl, h64, g0, g3, H⟩
    rw [upd_self g0, upd_self g3]
    refine J1 H ?_
    clear H; intro w H
    refine J76 H ?_
    refine J93 H ?_
    refine J122 H ?_
    refine A_load1 4 [8, 11] H rfl (Wants.none rfl) rfl rfl (by kernel_rfl) ?_
    refine A_loadN 5 [6, 7, 8, 11] H rfl (Wants.none rfl) rfl (by repeat (first | exact Reads.nil _ | apply Reads.cons rfl)) (by kernel_rfl) ?_
    refine Jo 6 H ?_
    refine Jk rfl rfl (own_spec _ _ l hR.small hr.there.there.there.there H) ?_
    clear H; rintro v w ⟨vr', vq', rfl, H⟩
    obtain ⟨a4, m4, c4, rfl⟩ := sls_any H
    obtain ⟨a5, m5, c5, rfl⟩ := sls_any H.swap
    
    refine Jo 7 H ?_
    refine St_buildSlice H rfl rfl rfl ?_
    clear H; intro b27 w H
    replace H := Js [5,0,3,0,0,1] 1 H
    refine Jo 8 H ?_
    refine St_append H rfl rfl (by repeat (first | exact Reads.nil _ | apply Reads.cons rfl)) rfl (by decide) (by rw [bcells_length]; simp only [List.length_cons, List.length_nil]; omega) rfl rfl ?_
    clear H; intro v28 w H
    have e1 : bcells q ++ [.int .i64 l.fixed, .slice a4 m4 c4, .int .i64 l.record, .slice a5 m5 c5] = bcells (q ++ [(.slice a4 m4 c4, .slice a5 m5 c5, l)]) := by
      rw [bcells_append]; rfl
    rw [e1] at H
    have hql' : (q ++ [((.slice a4 m4 c4 : Value), (.slice a5 m5 c5 : Value), l)]).length = ls.length + 1 := by simp [hql]
    obtain ⟨a28, c28, rfl⟩ := sls_slice H (m := ls.length + 1) (by rw [bcells_length, hql']) (by decide)
    refine J114 H ?_
    refine A_fieldAddr 10 rfl (Wants.none rfl) rfl (by kernel_rfl) ?_
    refine Jo 11 H ?_
    refine J115 H ?_
    clear H; intro w H
    refine J4 H ?_
    refine J151 H ?_
    refine J3 H ?_
    replace H := Js [2,0,1,1,1] 1 H
    have H1 : Holds w (star ((q ++ [((.slice a4 m4 c4 : Value), (.slice a5 m5 c5 : Value), l)]).map bres) :: pts p (row 354 [.slice a28 (ls.length + 1) c28]) :: sls 201 4 (.slice a28 (ls.length + 1) c28) (bcells (q ++ [(.slice a4 m4 c4, .slice a5 m5 c5, l)])) :: fr) := by
      refine (Holds.pick (x := ((.slice a4 m4 c4 : Value), (.slice a5 m5 c5 : Value), l)) (g1 := q) (g2 := []) rfl).2 ?_
      rw [List.append_nil]
      refine Holds.star.2 ?_
      replace H := Js [2,2,2,0,0] 0 H
      exact H
    replace H1 := Js [1,1,0] 0 H1
    have H2 := BOOK_in (ls := ls ++ [l]) (q := q ++ [((.slice a4 m4 c4 : Value), (.slice a5 m5 c5 : Value), l)]) ⟨by rw [List.map_append, hq]; rfl, by simp; omega, fun x hx => by
      rcases List.mem_append.1 hx with hx | hx
      · exact hall x hx
      · simp at hx; subst hx; exact hR⟩ H1
    exact C_ret (Jy H2 rfl fun w' H' => .inr ⟨h64, rfl, H'⟩)

theorem bGet_no [Extra] (p : Nat) (ls : List Lay) (id : Int) (hid : id < 1 ∨ (ls.length : Int) < id) {w : World} {fr : List HProp} (H : Holds w (BOOK p ls :: fr)) :
    Calls Tryz.prog 194 #[pp p, .int .i64 id] w (ret fun x w' => x = .tuple #[layV 0 (.slice none 0 0) 0 (.slice none 0 0), .int .i64 6] ∧ Holds w' (BOOK p ls :: fr)) := by
  obtain ⟨v, q, ⟨hq, hlen, hall⟩, H⟩ := BOOK_out H
  have hql : q.length = ls.length := by rw [← hq, List.length_map]
  obtain ⟨av, cv, rfl⟩ := sls_slice H.drop (bcells_length q) (by decide)
  refine calls_of Tryz.func194 rfl (by kernel_rfl) ?_
  refine J22 H ?_
  clear H; intro b4 w H
  refine J49 H ?_
  refine J182 H ?_
  refine J2 H ?_
  by_cases h1 : id < 1
  · rw [show decide (id < 1) = true from decide_eq_true (by omega)]
    refine J6 H ?_
    refine J99 H ?_
    refine J119 H ?_
    refine J152 H ?_
    clear H; intro w H
    refine J0 H ?_
    exact C_ret (Jz H (fun w' H' => .cellN H' rfl (by repeat (first | exact Reads.nil _ | apply Reads.cons rfl)) (.tmp .nil)) fun w' H' => ⟨rfl, BOOK_in ⟨hq, hlen, hall⟩ H'.drop⟩)
  · rw [show decide (id < 1) = false from decide_eq_false (by omega)]
    refine J6 H ?_
    refine J117 H ?_
    rw [show decide (id > (q.length : Int)) = true from decide_eq_true (by omega)]
    refine J152 H ?_
    clear H; intro w H
    refine J0 H ?_
    exact C_ret (Jz H (fun w' H' => .cellN H' rfl (by repeat (first | exact Reads.nil _ | apply Reads.cons rfl)) (.tmp .nil)) fun w' H' => ⟨rfl, BOOK_in ⟨hq, hlen, hall⟩ H'.drop⟩)

theorem bGet_spec [Extra] (p : Nat) (ls : List Lay) (k : Nat) (l : Lay) (hk : ls[k]? = some l) {w : World} {fr : List HProp} (H : Holds w (BOOK p ls :: fr)) :
    Calls Tryz.prog 194 #[pp p, .int .i64 ((k : Int) + 1)] w (ret fun x w' => ∃ vr vq, x = .tuple #[layV l.fixed vr l.record vq, .int .i64 0] ∧ Holds w' (NL vr l.refs :: NL vq l.recs :: BOOK p ls :: fr)) := by
  obtain ⟨v, q, ⟨hq, hlen, hall⟩, H⟩ := BOOK_out H
  have hql : q.length = ls.length := by rw [← hq, List.length_map]
  have hkl : k < ls.length := (List.getElem?_eq_some_iff.1 hk).1
  obtain ⟨av, cv, rfl⟩ := sls_slice H.drop (bcells_length q) (by decide)
  have hR : RightL l := hall l (List.mem_of_getElem? hk)
  obtain ⟨x, hx, hxl⟩ : ∃ x, q[k]? = some x ∧ x.2.2 = l := by
    rw [← hq, List.getElem?_map, Option.map_eq_some_iff] at hk
    exact hk
  obtain ⟨vr, vq, l'⟩ := x
  obtain rfl : l' = l := hxl
  have hpick : q = q.take k ++ (vr, vq, l') :: q.drop (k + 1) := split_at hx
  refine calls_of Tryz.func194 rfl (by kernel_rfl) ?_
  refine J22 H ?_
  clear H; intro b4 w H
  refine J15 H ?_
  refine C_joinQ (fun ms σ w => ms = [] ∧ σ 0 = pp p ∧ σ 1 = .int .i64 ((k : Int) + 1) ∧ σ 4 = pp b4 ∧ Holds w (pts b4 (row 201 [.int .i64 0, .slice none 0 0, .int .i64 0, .slice none 0 0]) :: pts p (row 354 [.slice av q.length cv]) :: sls 201 4 (.slice av q.length cv) (bcells q) :: star (q.map bres) :: fr)) ?_ ?_
  · refine J60 H ?_
    refine J2 H ?_
    rw [show decide ((k : Int) + 1 < 1) = false from decide_eq_false (by omega)]
    refine J6 H ?_
    refine J117 H ?_
    rw [show decide ((k : Int) + 1 > (q.length : Int)) = false from decide_eq_false (by omega)]
    refine J56 H ?_
    exact .inl ⟨rfl, rfl, rfl, rfl, rfl, H⟩
  · clear H
    rintro ms σ w ⟨rfl, g0, g1, g4, H⟩
    rw [upd_self g0, upd_self g1, upd_self g4]
    replace H := Js [3,2,0,0] 0 H
    have H := Holds.star.1 ((Holds.pick hpick).1 H)
    replace H : Holds w (NL vr l'.refs :: NL vq l'.recs :: star ((q.take k ++ q.drop (k + 1)).map bres) :: sls 201 4 (.slice av q.length cv) (bcells q) :: pts b4 (row 201 [.int .i64 0, .slice none 0 0, .int .i64 0, .slice none 0 0]) :: pts p (row 354 [.slice av q.length cv]) :: fr) := H
    obtain ⟨ar, cr, rfl⟩ := sls_slice H (ncells_length _) (by decide)
    obtain ⟨aq, cq, rfl⟩ := sls_slice H.drop (ncells_length _) (by decide)
    obtain ⟨D1, H, hD1, hC1⟩ := sls_rd H (ncells_length _) (by decide)
    obtain ⟨D2, H, hD2, hC2⟩ := sls_rd H.swap (ncells_length _) (by decide)
    replace H := Js [3,0,0,0,0,0] 0 H
    obtain ⟨b, s, rfl, H, hclose⟩ := sls_open H (by omega)
    refine J37 H ?_
    rw [wrap64 (x := (k : Int) + 1 - 1) (by omega) (by omega), show (k : Int) + 1 - 1 = (k : Int) by omega]
    refine Lp_s rfl (St_indexAddr rfl rfl (by omega) (by omega) rfl ?_)
    refine Lp_s rfl (St_loadN H rfl (bcells_reads hx) rfl ?_)
    refine Jc rfl rfl (own_spec _ _ l' hR.small ⟨(hD1 _).there.there, (hD2 _).there⟩ H) ?_
    clear H; rintro v w ⟨vr', vq', rfl, H⟩
    obtain ⟨a4, m4, c4, rfl⟩ := sls_any H
    obtain ⟨a5, m5, c5, rfl⟩ := sls_any H.swap
    refine J7 H ?_
    clear H; intro w H
    refine J0 H ?_
    replace H := Js [3,3,2,2,2,2,0,0] 0 H
    replace H := hC1 _ _ (hC2 _ _ H).swap
    replace H := Js [0,0,1,0,0,0,0,0] 0 H
    replace H : Holds w (star (q.map bres) :: _) := (Holds.pick hpick).2 (Holds.star.2 H)
    replace H := Js [1,1,2,2,1,0] 0 H
    replace H := hclose _ _ H
    replace H := Js [1,1,1,1,0,0] 0 H
    exact C_ret (Jz H (fun w' H' => .cellN H' rfl (by repeat (first | exact Reads.nil _ | apply Reads.cons rfl)) (.tmp .nil)) fun w' H' => ⟨_, _, rfl, (BOOK_in (l := NL (.slice a4 m4 c4) l'.refs :: NL (.slice a5 m5 c5) l'.recs :: fr) ⟨hq, hlen, hall⟩ (by have H' := H'.drop; replace H' := Holds.sel [2, 2, 2, 0, 0] 0 H'; dsimp only [SL.sel, SL.pull, List.drop] at H'; exact H')).sel [1, 1, 0] 0⟩)
end Go.Proofs.YtipelpbkeiphmaaGreatDoor
namespace Go.Proofs.YtipelpbkeiphmaaGreatDoor
open Go.SL

def posL (l : List Nat) (x : Nat) : Nat := l.countP (· < x)
theorem map_contains (l : List Nat) (x : Nat) : (l.map fun a : Nat => (a : Int)).contains (x : Int) = decide (x ∈ l) := by
  induction l with
  | nil => simp
  | cons a l ih =>
    rw [List.map_cons, List.contains_cons, ih]
    by_cases h : x = a
    · subst h; simp
    · have : ((x : Int) == (a : Int)) = false := by simp; omega
      simp [this, h]
theorem map_count (l : List Nat) (x : Nat) : (l.map fun a : Nat => (a : Int)).countP (· < (x : Int)) = posL l x := by
  unfold posL
  rw [List.countP_map]
  congr 1
  funext a
  simp

theorem Search_spec [Extra] (v : Value) (l : List Nat) (hl : l.length ≤ 1000000) (hs : l.Pairwise (· < ·)) (x : Nat) {w : World} {fr : List HProp} (hr : RdS fr v l.length 1 (ncells l)) (H : Holds w fr) :
    Calls Tryz.prog 165 #[v, .int .i64 x] w (ret fun r w' => r = .tuple #[.int .i64 (posL l x : Nat), .bool (decide (x ∈ l))] ∧ Holds w' fr) := by
  obtain ⟨_, ad, cap, rfl, hr'⟩ := id hr
  by_cases h0 : l = []
  · subst h0
    refine calls_of Tryz.func165 rfl (by kernel_rfl) ?_
    refine J5 H ?_
    refine J70 H ?_
    refine J2 H ?_
    refine J49 H ?_
    refine C_loop (fun ms σ w q => ms = [] ∧ σ 6 = .int .i64 0 ∧ σ 7 = .int .i64 0 ∧ σ 8 = .int .i64 0 ∧ Holds w fr) (m := 0) ⟨rfl, rfl, rfl, rfl, H⟩ ?_
    clear H
    rintro ms σ w q ⟨rfl, g6, g7, g8, H⟩
    rw [upd_self g6, upd_self g7, upd_self g8]
    refine J2 H ?_
    refine J15 H ?_
    refine C_false rfl (C_exit ?_)
    refine J2 H ?_
    refine J145 H ?_
    refine J99 H ?_
    refine J119 H ?_
    refine J177 H ?_
    refine J177 H ?_
    refine J148 H ?_
    refine J13 H ?_
    refine J0 H ?_
    exact C_ret (Jy H rfl fun w' H' => ⟨rfl, H'⟩)
  · rcases hr' with h | ⟨b, o, E, fz, c, rfl, hA, hrd⟩
    · exact absurd (List.eq_nil_of_length_eq_zero h) h0
    haveI := hA
    have hc : ∀ j, j < l.length → w.cell? ⟨b, o + j, none⟩ = some (.int .i64 (l.getD j 0)) := fun j hj => by
      refine cell_row H.at ?_
      rw [Nat.mul_one] at hrd
      refine hrd.get j _ ?_
      simp [ncells, hj]
    have e1 : ∀ j, (l.map fun a : Nat => (a : Int)).getD j 0 = ((l.getD j 0 : Nat) : Int) := fun j => by
      simp only [List.getD_eq_getElem?_getD, List.getElem?_map]
      cases l[j]? <;> rfl
    have e2 : (l.map fun a : Nat => (a : Int)).take l.length = l.map fun a : Nat => (a : Int) := List.take_of_length_le (by simp)
    refine (Any.slices_BinarySearch_int Tryz.laysBs b o l.length cap (l.map fun a : Nat => (a : Int)) x w (by simp) (by omega) (fun j hj => by rw [hc j (by simpa using hj), e1]) ?_).mono ?_
    · rw [e2]
      refine List.Pairwise.map _ (fun a b h => ?_) hs
      omega
    · rintro e w' ⟨rfl, q, rfl⟩
      refine ⟨?_, H.heap rfl⟩
      rw [e2, map_contains, map_count]

theorem IsRef_no [Extra] (vr vq : Value) (l : Lay) (hR : RightL l) (count : Int) (place : Int) {n : Nat} (hz : sizeL l count = (n, 0)) (hp : place < 0 ∨ (n : Int) ≤ place) {w : World} {fr : List HProp} (hr : RdL fr vr vq l) (H : Holds w fr) :
    Calls Tryz.prog 242 #[layV l.fixed vr l.record vq, .int .i64 count, .int .i64 place] w (ret fun x w' => x = .tuple #[.bool false, .int .i64 3] ∧ Holds w' fr) := by
  obtain ⟨_, ad1, cap1, rfl, hr1⟩ := id hr.r
  obtain ⟨_, ad2, cap2, rfl, hr2⟩ := id hr.q
  refine calls_of Tryz.func242 rfl (by kernel_rfl) ?_
  refine J10 H ?_
  clear H; intro b3 w H
  refine J3 H ?_
  refine J26 H ?_
  refine J6 H ?_
  refine Jc rfl rfl (Size_spec _ _ l hR count hr.there H) ?_
  clear H; rintro v w ⟨rfl, H⟩
  rw [hz]
  refine J32 H ?_
  refine J49 H ?_
  refine J2 H ?_
  refine J96 H ?_
  refine J2 H ?_
  by_cases h1 : place < 0
  · rw [show decide (place < 0) = true from decide_eq_true (by omega)]
    refine J6 H ?_
    refine J69 H ?_
    refine J120 H ?_
    exact C_ret (Jy H.drop rfl fun w' H' => ⟨rfl, H'⟩)
  · rw [show decide (place < 0) = false from decide_eq_false (by omega)]
    refine J6 H ?_
    refine J83 H ?_
    rw [show decide (place ≥ (n : Int)) = true from decide_eq_true (by omega)]
    refine J120 H ?_
    exact C_ret (Jy H.drop rfl fun w' H' => ⟨rfl, H'⟩)

theorem IsRef_spec [Extra] (vr vq : Value) (l : Lay) (hR : RightL l) (count : Int) (p : Nat) {n : Nat} (hz : sizeL l count = (n, 0)) (hp : p < n) {w : World} {fr : List HProp} (hr : RdL fr vr vq l) (H : Holds w fr) :
    Calls Tryz.prog 242 #[layV l.fixed vr l.record vq, .int .i64 count, .int .i64 p] w (ret fun x w' => x = .tuple #[.bool (isRefL l p), .int .i64 0] ∧ Holds w' fr) := by
  have hsm := hR.small
  obtain ⟨z1, z2, z3, z4, z5⟩ := sizeL_ok hz
  obtain ⟨_, ad1, cap1, rfl, hr1⟩ := id hr.r
  obtain ⟨_, ad2, cap2, rfl, hr2⟩ := id hr.q
  refine calls_of Tryz.func242 rfl (by kernel_rfl) ?_
  refine J10 H ?_
  clear H; intro b3 w H
  refine J3 H ?_
  refine J26 H ?_
  refine J6 H ?_
  refine Jc rfl rfl (Size_spec _ _ l hR count hr.there H) ?_
  clear H; rintro v w ⟨rfl, H⟩
  rw [hz]
  refine J32 H ?_
  refine J15 H ?_
  refine C_joinQ (fun ms σ w => ms = [] ∧ σ 2 = .int .i64 p ∧ σ 3 = pp b3 ∧ Holds w (pts b3 (row 201 [.int .i64 l.fixed, .slice ad1 l.refs.length cap1, .int .i64 l.record, .slice ad2 l.recs.length cap2]) :: fr)) ?_ ?_
  · refine C_block ?_
    refine J2 H ?_
    refine J96 H ?_
    refine J2 H ?_
    rw [show decide ((p : Int) < 0) = false from decide_eq_false (by omega)]
    refine J6 H ?_
    refine J83 H ?_
    rw [show decide ((p : Int) ≥ (n : Int)) = false from decide_eq_false (by omega)]
    refine J56 H ?_
    exact .inl ⟨rfl, rfl, rfl, rfl, H⟩
  · clear H
    rintro ms σ w ⟨rfl, g2, g3, H⟩
    rw [upd_self g2, upd_self g3]
    refine J107 H ?_
    refine J138 H ?_
    refine J38 H ?_
    refine J0 H ?_
    by_cases h1 : p < l.fixed
    · rw [show decide ((p : Int) ≥ (l.fixed : Int)) = false from decide_eq_false (by omega)]
      refine J8 H ?_
      refine J2 H ?_
      refine Jc rfl rfl (Search_spec _ l.refs hsm.a hR.2.2.2.1.2 p hr.r.there H) ?_
      clear H; rintro v w ⟨rfl, H⟩
      refine J27 H ?_
      refine J20 H ?_
      exact C_ret (Jy H.drop rfl fun w' H' => ⟨by unfold isRefL; rw [if_pos h1]; rfl, H'⟩)
    · have hrec : l.record ≠ 0 := by
        intro h0
        rw [h0] at z3
        omega
      have e1 : IntKind.i64.wrap ((p : Int) - (l.fixed : Int)) = ((p - l.fixed : Nat) : Int) := by rw [wrap64 (by omega) (by omega)]; omega
      rw [show decide ((p : Int) ≥ (l.fixed : Int)) = true from decide_eq_true (by omega)]
      refine J14 H ?_
      refine C_join (fun ms σ w => ms = [] ∧ σ 10 = .slice ad2 l.recs.length cap2 ∧ σ 11 = .int .i64 (((p - l.fixed) % l.record : Nat) : Int) ∧ Holds w (pts b3 (row 201 [.int .i64 l.fixed, .slice ad1 l.refs.length cap1, .int .i64 l.record, .slice ad2 l.recs.length cap2]) :: fr)) ?_ ?_
      · refine C_true rfl ?_
        refine J1 H ?_
        clear H; intro w H
        refine J61 H ?_
        refine J122 H ?_
        refine A_load1 4 [] H rfl (Wants.none rfl) rfl rfl (by kernel_rfl) ?_
        refine J55 H ?_
        refine J57 H ?_
        refine A_load1 7 [] H rfl (Wants.none rfl) rfl rfl (by kernel_rfl) ?_
        rw [e1]
        refine A_pv (v := .int .i64 (((p - l.fixed) % l.record : Nat) : Int)) 8 rfl (Wants.none rfl) (by
          show (if IntKind.i64 = IntKind.i64 then (if (l.record : Int) = 0 then none else some (Value.int .i64 (Int.tmod ((p - l.fixed : Nat) : Int) (l.record : Int)))) else none) = _
          rw [if_pos rfl, if_neg (by omega), Int.tmod_eq_emod_of_nonneg (by omega), Int.natCast_emod]) (by kernel_rfl) ?_
        refine J80 H ?_
        refine J4 H ?_
        exact ⟨rfl, rfl, rfl, rfl, H⟩
      · clear H
        rintro ms σ w ⟨rfl, g10, g11, H⟩
        rw [upd_self g10, upd_self g11]
        refine J2 H ?_
        refine Jc rfl rfl (Search_spec _ l.recs hsm.b hR.2.2.2.2.2 _ hr.q.there H) ?_
        clear H; rintro v w ⟨rfl, H⟩
        refine J27 H ?_
        refine J20 H ?_
        exact C_ret (Jy H.drop rfl fun w' H' => ⟨by unfold isRefL; rw [if_neg h1]; rfl, H'⟩)
end Go.Proofs.YtipelpbkeiphmaaGreatDoor
namespace Go.Proofs.YtipelpbkeiphmaaGreatDoor
open Go.SL



def RS (p : Nat) (m : List (Rf × Int)) : HProp := ex fun q : Nat × Nat × Nat =>
  star [pts p (row 220 [.map (some q.1), .map (some q.2.1), .map (some q.2.2)]), mp kp v1 q.1 m, GrR q.2.1 (fun k r => fnd m r = some k), GrR q.2.2 (fun k r => r.1 = k ∧ (fnd m r).isSome = true)]

theorem RS_out [Extra] {w : World} {p : Nat} {m : List (Rf × Int)} {l : List HProp} (H : Holds w (RS p m :: l)) :
    ∃ bt bo bf, Holds w (pts p (row 220 [.map (some bt), .map (some bo), .map (some bf)]) :: mp kp v1 bt m :: GrR bo (fun k r => fnd m r = some k) :: GrR bf (fun k r => r.1 = k ∧ (fnd m r).isSome = true) :: l) := by
  obtain ⟨⟨bt, bo, bf⟩, H⟩ := Holds.ex.1 H
  exact ⟨bt, bo, bf, Holds.star.1 H⟩

theorem RS_in [Extra] {w : World} {p : Nat} {m : List (Rf × Int)} {l : List HProp} {S T : Int → Rf → Prop} (bt bo bf : Nat) (hS : ∀ k r, S k r ↔ fnd m r = some k) (hT : ∀ k r, T k r ↔ (r.1 = k ∧ (fnd m r).isSome = true))
    (H : Holds w (pts p (row 220 [.map (some bt), .map (some bo), .map (some bf)]) :: mp kp v1 bt m :: GrR bo S :: GrR bf T :: l)) : Holds w (RS p m :: l) := by
  have e1 : S = fun k r => fnd m r = some k := by funext k r; exact propext (hS k r)
  have e2 : T = fun k r => r.1 = k ∧ (fnd m r).isSome = true := by funext k r; exact propext (hT k r)
  subst e1 e2
  exact Holds.ex.2 ⟨(bt, bo, bf), Holds.star.2 H⟩

theorem GrR_empty [Extra] {w : World} {bo : Nat} {l : List HProp} (H : Holds w (mp (ki .i64) vm bo [] :: l)) : Holds w (GrR bo (fun _ _ => False) :: l) :=
  GrR_in [] (by simp [mem]) (Holds.swap ((Holds.star (k := [])).2 H))

theorem rNew_spec [Extra] {w : World} {fr : List HProp} (H : Holds w fr) : Calls Tryz.prog 191 #[] w (ret fun v w' => ∃ p, v = pp p ∧ Holds w' (RS p [] :: fr)) := by
  refine calls_of Tryz.func191 rfl (by kernel_rfl) ?_
  refine J9 H ?_
  refine J30 H ?_
  refine Lp_s rfl (St_makeMap v1 kp H rfl ?_)
  clear H; intro b1 w H
  refine Lp_s rfl (St_makeMap vm (ki .i64) H rfl ?_)
  clear H; intro b2 w H
  refine Lp_s rfl (St_makeMap vm (ki .i64) H rfl ?_)
  clear H; intro b3 w H
  refine J59 H ?_
  clear H; intro b5 w H
  refine J0 H ?_
  refine C_ret ?_
  replace H := GrR_empty (H.pull 1)
  replace H := GrR_empty (H.pull 2)
  replace H := Js [2,2,0,0] 0 H
  exact Jy H rfl (fun w' H' => ⟨b5, rfl, RS_in b1 b2 b3 (S := fun _ _ => False) (T := fun _ _ => False) (by simp [fnd]) (by simp [fnd]) H'⟩)

theorem lookV_v1 (o : Option Int) : lookV (.int .i64 0) v1 o = .int .i64 (o.getD 0) := by cases o <;> rfl

theorem rTo_spec [Extra] (p : Nat) (m : List (Rf × Int)) (r : Rf) {w : World} {fr : List HProp} (H : Holds w (RS p m :: fr)) :
    Calls Tryz.prog 169 #[pp p, rf r] w (ret fun v w' => v = .tuple #[.int .i64 ((fnd m r).getD 0), .bool (fnd m r).isSome] ∧ Holds w' (RS p m :: fr)) := by
  obtain ⟨a, b⟩ := r
  refine calls_of Tryz.func169 rfl (by kernel_rfl) ?_
  obtain ⟨bt, bo, bf, H⟩ := RS_out H
  refine J10 H ?_
  clear H; intro b3 w H
  refine J3 H ?_
  refine J178 H ?_
  refine J1 H ?_
  clear H; intro w H
  refine J101 H ?_
  refine A_loadN 4 [] H rfl (Wants.none rfl) rfl (by repeat (first | exact Reads.nil _ | apply Reads.cons rfl)) (by kernel_rfl) ?_
  refine A_lookup 5 [] (key := (a, b)) H rfl (Wants.none rfl) rfl rfl tkR (by kernel_rfl) ?_
  rw [lookV_v1]
  refine J149 H ?_
  refine J80 H ?_
  refine J4 H ?_
  refine J2 H ?_
  refine J3 H ?_
  refine C_ret (Jy (RS_in bt bo bf (fun _ _ => Iff.rfl) (fun _ _ => Iff.rfl) H.drop) rfl fun w' H' => ⟨rfl, H'⟩)

theorem rCut_spec [Extra] (p : Nat) (m : List (Rf × Int)) (hm : (m.map (·.1)).Nodup) (r : Rf) {w : World} {fr : List HProp} (H : Holds w (RS p m :: fr)) :
    Calls Tryz.prog 87 #[pp p, rf r] w (ret fun v w' => v = .bool (fnd m r).isSome ∧ Holds w' (RS p (era m r) :: fr)) := by
  obtain ⟨a, b⟩ := r
  refine calls_of Tryz.func87 rfl (by kernel_rfl) ?_
  refine J10 H ?_
  clear H; intro b3 w H
  refine J124 H ?_
  refine Jc rfl rfl (rTo_spec p m (a, b) H.swap) ?_
  clear H; rintro v w ⟨rfl, H⟩
  refine J71 H ?_
  cases hf : fnd m (a, b) with
  | none =>
    refine J41 H ?_
    rw [era_none (fnd_eq_none.1 hf)]
    refine C_ret (Jy H.swap.drop rfl fun w' H' => ⟨rfl, H'⟩)
  | some t =>
    refine J8 H ?_
    obtain ⟨bt, bo, bf, H⟩ := RS_out H
    refine J1 H ?_
    clear H; intro w H
    refine J153 H ?_
    refine Jo 5 H ?_
    refine St_delete (key := (a, b)) H rfl rfl tkR rfl ?_
    clear H; intro w H
    refine J4 H ?_
    replace H := Js [2,0,0,0,0] 0 H
    refine J1 H ?_
    clear H; intro w H
    refine J125 H ?_
    refine J63 H ?_
    refine A_loadN 5 [6] H rfl (Wants.none rfl) rfl (by repeat (first | exact Reads.nil _ | apply Reads.cons rfl)) (by kernel_rfl) ?_
    refine Jo 6 H ?_
    refine Jk rfl rfl (lose_spec bo _ t (a, b) H) ?_
    clear H; intro v w H
    refine J4 H ?_
    replace H := Js [3,0,0,0,0] 0 H
    refine J1 H ?_
    clear H; intro w H
    refine J28 H ?_
    refine A_load1 3 [7] H rfl (Wants.none rfl) rfl rfl (by kernel_rfl) ?_
    refine J47 H ?_
    refine A_load1 5 [7] H rfl (Wants.none rfl) rfl rfl (by kernel_rfl) ?_
    refine A_loadN 6 [7] H rfl (Wants.none rfl) rfl (by repeat (first | exact Reads.nil _ | apply Reads.cons rfl)) (by kernel_rfl) ?_
    refine Jo 7 H ?_
    refine Jk rfl rfl (lose_spec bf _ a (a, b) H) ?_
    clear H; intro v w H
    refine J4 H ?_
    refine J9 H ?_
    replace H := Js [2,2,1,0] 1 H
    refine C_ret (Jy (RS_in bt bo bf (fun k r => ?_) (fun k r => ?_) H) rfl fun w' H' => ⟨rfl, H'⟩)
    · rw [fnd_era hm]
      split
      · rename_i e; subst e; rw [hf]; simp; rintro rfl; rfl
      · rename_i e; exact ⟨(·.1), fun h => ⟨h, fun e' => e e'.2.symm⟩⟩
    · rw [fnd_era hm]
      split
      · rename_i e; subst e; simp; rintro rfl _; rfl
      · rename_i e; exact ⟨(·.1), fun h => ⟨h, fun e' => e e'.2.symm⟩⟩

theorem rPut_spec [Extra] (p : Nat) (m : List (Rf × Int)) (hm : (m.map (·.1)).Nodup) (r : Rf) (t : Int) {w : World} {fr : List HProp} (H : Holds w (RS p m :: fr)) :
    Calls Tryz.prog 305 #[pp p, rf r, .int .i64 t] w (ret fun v w' => v = .bool (!(fnd m r).isSome) ∧ Holds w' (RS p (ins (era m r) r t) :: fr)) := by
  obtain ⟨a, b⟩ := r
  refine calls_of Tryz.func305 rfl (by kernel_rfl) ?_
  refine J10 H ?_
  clear H; intro b4 w H
  refine J126 H ?_
  refine J75 H ?_
  refine Jc rfl rfl (rCut_spec p m hm (a, b) H.swap) ?_
  clear H; rintro v w ⟨rfl, H⟩
  refine J0 H ?_
  obtain ⟨bt, bo, bf, H⟩ := RS_out H
  refine J1 H ?_
  clear H; intro w H
  refine J125 H ?_
  refine A_loadN 4 [6] H rfl (Wants.none rfl) rfl (by repeat (first | exact Reads.nil _ | apply Reads.cons rfl)) (by kernel_rfl) ?_
  refine J55 H ?_
  refine Jo 6 H ?_
  refine St_mapUpdate (key := (a, b)) (v := t) H rfl rfl rfl tkR rfl ?_
  clear H; intro w H
  refine J4 H ?_
  replace H := Js [2,0,0,0,0] 0 H
  refine J1 H ?_
  clear H; intro w H
  refine J125 H ?_
  refine J63 H ?_
  refine A_loadN 5 [6] H rfl (Wants.none rfl) rfl (by repeat (first | exact Reads.nil _ | apply Reads.cons rfl)) (by kernel_rfl) ?_
  refine Jo 6 H ?_
  refine Jk rfl rfl (note_spec bo _ t (a, b) H) ?_
  clear H; intro v w H
  refine J4 H ?_
  replace H := Js [3,0,0,0,0] 0 H
  refine J1 H ?_
  clear H; intro w H
  refine J28 H ?_
  refine A_load1 3 [7] H rfl (Wants.none rfl) rfl rfl (by kernel_rfl) ?_
  refine J47 H ?_
  refine A_load1 5 [7] H rfl (Wants.none rfl) rfl rfl (by kernel_rfl) ?_
  refine A_loadN 6 [7] H rfl (Wants.none rfl) rfl (by repeat (first | exact Reads.nil _ | apply Reads.cons rfl)) (by kernel_rfl) ?_
  refine Jo 7 H ?_
  refine Jk rfl rfl (note_spec bf _ a (a, b) H) ?_
  clear H; intro v w H
  refine J4 H ?_
  refine J20 H ?_
  replace H := Js [2,2,1,0] 1 H
  have hn := fnd_era hm (x := (a, b)) (y := (a, b))
  rw [if_pos rfl] at hn
  refine C_ret (Jy (RS_in bt bo bf (fun k r => ?_) (fun k r => ?_) H) rfl fun w' H' => ⟨rfl, H'⟩)
  · rw [fnd_ins]
    split
    · rename_i e; subst e; rw [hn]; simp; exact eq_comm
    · rename_i e; exact ⟨fun h => h.elim id fun e' => absurd e'.2.symm e, .inl⟩
  · rw [fnd_ins]
    split
    · rename_i e; subst e; rw [hn]; simp; exact eq_comm
    · rename_i e; exact ⟨fun h => h.elim id fun e' => absurd e'.2.symm e, .inl⟩

end Go.Proofs.YtipelpbkeiphmaaGreatDoor
namespace Go.Proofs.YtipelpbkeiphmaaGreatDoor
open Go.SL

def TRE (p last : Nat) (par : List (Int × Int)) : HProp := ex fun b : Nat => star [pts p (row 207 [.map (some b), .int .i64 last]), mp (ki .i64) v1 b par]
theorem TRE_out [Extra] {w : World} {p last : Nat} {par : List (Int × Int)} {l : List HProp} (H : Holds w (TRE p last par :: l)) : ∃ b, Holds w (pts p (row 207 [.map (some b), .int .i64 last]) :: mp (ki .i64) v1 b par :: l) := by
  obtain ⟨b, H⟩ := Holds.ex.1 H
  exact ⟨b, Holds.star.1 H⟩
theorem TRE_in [Extra] {w : World} {p last b : Nat} {par : List (Int × Int)} {l : List HProp} (H : Holds w (pts p (row 207 [.map (some b), .int .i64 last]) :: mp (ki .i64) v1 b par :: l)) : Holds w (TRE p last par :: l) :=
  Holds.ex.2 ⟨b, Holds.star.2 H⟩
theorem TRE_keys [Extra] {w : World} {p last : Nat} {par : List (Int × Int)} {l : List HProp} (H : Holds w (TRE p last par :: l)) : (par.map (·.1)).Nodup := by
  obtain ⟨b, H⟩ := TRE_out H
  exact keys_nodup b H

theorem trNew_spec [Extra] {w : World} {fr : List HProp} (H : Holds w fr) : Calls Tryz.prog 190 #[] w (ret fun v w' => ∃ p, v = pp p ∧ Holds w' (TRE p 0 [] :: fr)) := by
  refine calls_of Tryz.func190 rfl (by kernel_rfl) ?_
  refine J9 H ?_
  refine J30 H ?_
  refine Lp_s rfl (St_makeMap v1 (ki .i64) H rfl ?_)
  clear H; intro b1 w H
  refine J59 H ?_
  clear H; intro b3 w H
  refine J0 H ?_
  exact C_ret (Jy H rfl fun w' H' => ⟨_, rfl, TRE_in H'⟩)

theorem Live_spec [Extra] (p last : Nat) (par : List (Int × Int)) (id : Int) {w : World} {fr : List HProp} (H : Holds w (TRE p last par :: fr)) :
    Calls Tryz.prog 67 #[pp p, .int .i64 id] w (ret fun v w' => v = .bool (fnd par id).isSome ∧ Holds w' (TRE p last par :: fr)) := by
  obtain ⟨b, H⟩ := TRE_out H
  refine calls_of Tryz.func67 rfl (by kernel_rfl) ?_
  refine J85 H ?_
  refine Lp_s rfl (St_lookup (key := id) H rfl rfl tkI rfl ?_)
  refine J145 H ?_
  refine Lp_mv rfl rfl ?_
  refine J24 H ?_
  exact C_ret (Jy (TRE_in H) rfl fun w' H' => ⟨rfl, H'⟩)

theorem need_spec [Extra] (p last : Nat) (par : List (Int × Int)) (id : Int) {w : World} {fr : List HProp} (H : Holds w (TRE p last par :: fr)) :
    Calls Tryz.prog 119 #[pp p, .int .i64 id] w (ret fun v w' => v = .int .i64 (if (fnd par id).isSome then 0 else 6) ∧ Holds w' (TRE p last par :: fr)) := by
  refine calls_of Tryz.func119 rfl (by kernel_rfl) ?_
  refine J12 H ?_
  refine C_joinQ (fun ms σ w => ms = [] ∧ (fnd par id).isSome = true ∧ Holds w (TRE p last par :: fr)) ?_ ?_
  · refine J60 H ?_
    refine J2 H ?_
    refine Jc rfl rfl (Live_spec p last par id H) ?_
    clear H; rintro v w ⟨rfl, H⟩
    cases hf : (fnd par id).isSome with
    | true =>
      refine J56 H ?_
      exact .inl ⟨rfl, rfl, rfl, H⟩
    | false =>
      refine J3 H ?_
      refine J41 H ?_
      exact C_ret (.inr ⟨by simp, Jy H rfl fun w' H' => ⟨rfl, H'⟩⟩)
  · clear H
    rintro ms σ w ⟨rfl, hf, H⟩
    rw [hf]
    refine J9 H ?_
    exact C_ret (Jy H rfl fun w' H' => ⟨rfl, H'⟩)

/-- What Add answers: the error. -/
def addErr (par : List (Int × Int)) (parent : Int) : Nat := if parent ≠ 0 ∧ (fnd par parent).isSome = false then 6 else if par.length = 64 then 5 else 0

theorem trAdd_spec [Extra] (p last : Nat) (par : List (Int × Int)) (parent : Int) (hlast : last < 1000000) (hup : ∀ r q, (r, q) ∈ par → r ≤ (last : Int)) {w : World} {fr : List HProp} (H : Holds w (TRE p last par :: fr)) :
    Calls Tryz.prog 100 #[pp p, .int .i64 parent] w (ret fun v w' => (addErr par parent ≠ 0 ∧ v = .tuple #[.int .i64 0, .int .i64 (addErr par parent)] ∧ Holds w' (TRE p last par :: fr)) ∨
      (addErr par parent = 0 ∧ v = .tuple #[.int .i64 ((last + 1 : Nat) : Int), .int .i64 0] ∧ Holds w' (TRE p (last + 1) (par ++ [(((last + 1 : Nat) : Int), parent)]) :: fr))) := by
  refine calls_of Tryz.func100 rfl (by kernel_rfl) ?_
  refine J146 H ?_
  refine C_joinQ (fun ms σ w => ms = [] ∧ addErr par parent = 0 ∧ σ 0 = pp p ∧ σ 1 = .int .i64 parent ∧ Holds w (TRE p last par :: fr)) ?_ ?_
  · refine J60 H ?_
    refine J14 H ?_
    refine C_join (fun ms σ w => ms = [] ∧ (∃ q, σ 9 = .bool q ∧ (q = true ↔ parent ≠ 0 ∧ (fnd par parent).isSome = false)) ∧ σ 0 = pp p ∧ σ 1 = .int .i64 parent ∧ Holds w (TRE p last par :: fr)) ?_ ?_
    · refine J2 H ?_
      by_cases h0 : parent = 0
      · rw [show (parent != 0) = false by simpa using h0]
        refine J6 H ?_
        refine J99 H ?_
        refine J99 H ?_
        refine J3 H ?_
        exact ⟨rfl, rfl, ⟨false, rfl, by simp [h0]⟩, rfl, rfl, H⟩
      · rw [show (parent != 0) = true by simpa using h0]
        refine J113 H ?_
        refine Lp_g rfl rfl rfl (St_call (a := []) (b := []) rfl rfl (call (Live_spec p last par parent H) ?_))
        clear H; rintro v w ⟨rfl, H⟩
        refine J23 H ?_
        refine J3 H ?_
        exact ⟨rfl, rfl, ⟨!(fnd par parent).isSome, rfl, by simp [h0]⟩, rfl, rfl, H⟩
    · clear H
      rintro ms σ w ⟨rfl, ⟨q, g9, hq⟩, g0, g1, H⟩
      rw [upd_self g9, upd_self g0, upd_self g1]
      cases q with
      | true =>
        have he : addErr par parent = 6 := by unfold addErr; rw [if_pos (hq.1 rfl)]
        refine J31 H ?_
        exact C_ret (.inr ⟨by simp, Jy H rfl fun w' H' => .inl ⟨by omega, by rw [he]; rfl, H'⟩⟩)
      | false =>
        have hq' : ¬ (parent ≠ 0 ∧ (fnd par parent).isSome = false) := fun h => by have := hq.2 h; cases this
        obtain ⟨b, H⟩ := TRE_out H
        refine J111 H ?_
        refine J48 H ?_
        refine Lp_s rfl (St_lenMap (ki .i64) v1 H rfl rfl ?_)
        refine J3 H ?_
        by_cases h64 : par.length = 64
        · have he : addErr par parent = 5 := by unfold addErr; rw [if_neg hq', if_pos h64]
          rw [show ((par.length : Int) == 64) = true by simp; omega]
          refine J31 H ?_
          exact C_ret (.inr ⟨by simp, Jy (TRE_in H) rfl fun w' H' => .inl ⟨by omega, by rw [he]; rfl, H'⟩⟩)
        · have he : addErr par parent = 0 := by unfold addErr; rw [if_neg hq', if_neg h64]
          rw [show ((par.length : Int) == 64) = false by simp; omega]
          refine J8 H ?_
          exact .inl ⟨rfl, rfl, he, rfl, rfl, TRE_in H⟩
  · clear H
    rintro ms σ w ⟨rfl, he, g0, g1, H⟩
    rw [upd_self g0, upd_self g1]
    obtain ⟨b, H⟩ := TRE_out H
    refine J18 H ?_
    rw [wrap64 (x := ((last : Nat) : Int) + 1) (by omega) (by omega), show ((last : Nat) : Int) + 1 = ((last + 1 : Nat) : Int) by omega]
    refine J51 H ?_
    clear H; intro w H
    refine Lp_nil ?_
    refine J1 H ?_
    clear H; intro w H
    refine J28 H ?_
    refine A_load1 3 [9] H rfl (Wants.none rfl) rfl rfl (by kernel_rfl) ?_
    refine J82 H ?_
    refine J57 H ?_
    refine A_load1 7 [9] H rfl (Wants.none rfl) rfl rfl (by kernel_rfl) ?_
    refine J65 H ?_
    refine Jo 9 H ?_
    refine St_mapUpdate (v := parent) (key := ((last + 1 : Nat) : Int)) H rfl rfl rfl tkI rfl ?_
    clear H; intro w H
    refine J4 H ?_
    refine J48 H ?_
    refine J3 H ?_
    rw [ins_none (fun h => by
      obtain ⟨⟨a, q⟩, hm, h1⟩ := List.mem_map.1 h
      have h1 : a = ((last + 1 : Nat) : Int) := h1
      have := hup a q hm
      omega)] at H
    exact C_ret (Jy (TRE_in H) rfl fun w' H' => .inr ⟨he, rfl, H'⟩)
end Go.Proofs.YtipelpbkeiphmaaGreatDoor
namespace Go.Proofs.YtipelpbkeiphmaaGreatDoor
/-! ### A table's slots -/

/-- What a used slot has: where its object is, its region, held, pinned; and what the object is: its layout, its count, its words. -/
structure Ent where
  addr : Nat
  region : Int
  held : Bool
  pinned : Bool
  lay : Nat
  count : Nat
  ws : List Nat
structure Slt where
  gen : Nat
  ent : Option Ent
def lookT (ts : List Slt) (i g : Int) : Option (Nat × Ent) :=
  if 0 ≤ i then
    match ts[i.toNat]? with
    | some ⟨n, some e⟩ => if (n : Int) = g then some (i.toNat, e) else none
    | _ => none
  else none
theorem lookT_some {ts : List Slt} {i g : Int} {k : Nat} {e : Ent} : lookT ts i g = some (k, e) ↔ ∃ n : Nat, i = k ∧ g = n ∧ ts[k]? = some ⟨n, some e⟩ := by
  unfold lookT
  constructor
  · intro h
    split at h
    · rename_i h0
      split at h
      · rename_i n e' he
        split at h
        · rename_i hn
          injection h with h
          injection h with h1 h2
          subst h1 h2
          exact ⟨n, by omega, hn.symm, he⟩
        · cases h
      · cases h
    · cases h
  · rintro ⟨n, rfl, rfl, h⟩
    rw [if_pos (by omega)]
    simp only [Int.toNat_natCast, h]
    rw [if_pos trivial]
/-- The valid token's entry. -/
def validT (ts : List Slt) (i g : Int) : Option (Nat × Ent) :=
  match lookT ts i g with
  | some (k, e) => if e.held then some (k, e) else none
  | none => none
theorem validT_some {ts : List Slt} {i g : Int} {k : Nat} {e : Ent} : validT ts i g = some (k, e) ↔ lookT ts i g = some (k, e) ∧ e.held = true := by
  unfold validT
  cases h : lookT ts i g with
  | none => simp
  | some q =>
    obtain ⟨k', e'⟩ := q
    simp only
    split
    · rename_i hh
      constructor
      · intro h1; cases h1; exact ⟨rfl, hh⟩
      · rintro ⟨h1, _⟩; exact h1
    · rename_i hh
      constructor
      · intro h1; cases h1
      · rintro ⟨h1, h2⟩; cases h1; exact absurd h2 hh

/-! ### Chunks of an owner -/

structure Spc where
  parts : List (Nat × Nat)
  at' : Nat
  fin : Nat
def chunksOf (l : List (Nat × Nat)) : List Nat := l.flatMap fun p => (List.range p.2).map (p.1 + ·)

/-! ### All of it -/

structure CS where
  size : Nat
  own : List Nat
  lays : List Lay
  tab : List Slt
  last : Nat
  par : List (Int × Int)
  rem : List ((Int × Int) × Int)
  sps : List (Int × Nat × Spc)
  mns : List (Int × Nat × List Nat)

/-- An object's words, as they have to be. -/
structure ObjOK (lays : List Lay) (i : Nat) (e : Ent) : Prop where
  may : MayH e.lay e.count i
  lay : ∃ l, lays[e.lay - 1]? = some l ∧ RightL l ∧ sizeL l e.count = (e.ws.length, 0) ∧ ∀ p w, e.ws[p]? = some w → w < 18446744073709551616 ∧ (isRefL l p = true → ∃ k, okL k ∧ w = wordL k)

def endOf (e : Ent) : Nat := e.addr + 1 + e.ws.length
/-- The words lie in chunks of the object's region. -/
def Lies (size : Nat) (own : List Nat) (e : Ent) : Prop := endOf e ≤ own.length * size ∧ ∀ c, e.addr / size ≤ c → c ≤ (e.addr + e.ws.length) / size → ∃ r : Nat, own[c]? = some r ∧ (r : Int) = e.region ∧ 1 ≤ r

structure SpcOK (size : Nat) (own : List Nat) (r : Int) (S : Spc) : Prop where
  at1 : S.at' ≤ S.fin
  fin : S.fin ≠ 0 → ∃ c, S.fin = (c + 1) * size ∧ c * size < S.at' ∧ (c, 1) ∈ S.parts
  parts : ∀ p ∈ S.parts, 1 ≤ p.2 ∧ p.1 + p.2 ≤ own.length
  nodup : (chunksOf S.parts).Nodup
  owned : ∀ c, c ∈ chunksOf S.parts ↔ ∃ q : Nat, own[c]? = some q ∧ (q : Int) = r ∧ q ≠ 0

structure WF (s : CS) : Prop where
  size : 1 ≤ s.size ∧ s.size ≤ 1024
  own : 1 ≤ s.own.length ∧ s.own.length ≤ 63
  slots : 1 ≤ s.tab.length ∧ s.tab.length ≤ 63
  lays : s.lays.length ≤ 64 ∧ ∀ l ∈ s.lays, RightL l
  gen : ∀ (i : Nat) (t : Slt), s.tab[i]? = some t → t.gen ≤ 255 ∧ (t.ent.isSome = true → 1 ≤ t.gen)
  obj : ∀ (i g : Nat) (e : Ent), s.tab[i]? = some ⟨g, some e⟩ → ObjOK s.lays i e ∧ Lies s.size s.own e ∧ (∃ q, (e.region, q) ∈ s.par)
  apart : ∀ (i j g h : Nat) (e f : Ent), i ≠ j → s.tab[i]? = some ⟨g, some e⟩ → s.tab[j]? = some ⟨h, some f⟩ → endOf e ≤ f.addr ∨ endOf f ≤ e.addr
  par : s.par.length ≤ 64 ∧ s.last < 1000000 ∧ ∀ r q, (r, q) ∈ s.par → 1 ≤ r ∧ r ≤ s.last
  skeys : s.sps.map (·.1) = s.par.map (·.1)
  mkeys : s.mns.map (·.1) = s.par.map (·.1)
  spc : ∀ x ∈ s.sps, SpcOK s.size s.own x.1 x.2.2
  free : ∀ x ∈ s.sps, ∀ (i g : Nat) (e : Ent), s.tab[i]? = some ⟨g, some e⟩ → endOf e ≤ x.2.2.at' ∨ x.2.2.fin ≤ e.addr
  live : ∀ (c r : Nat), s.own[c]? = some r → r ≠ 0 → ∃ q, ((r : Int), q) ∈ s.par
  mine : ∀ x ∈ s.mns, x.2.2.Pairwise (· < ·) ∧ ∀ i, i ∈ x.2.2 ↔ ∃ g e, s.tab[i]? = some ⟨g, some e⟩ ∧ e.region = x.1
/-- What the words of a store are. -/
structure MemOK (s : CS) (mem : List Nat) : Prop where
  len : mem.length = s.own.length * s.size
  head : ∀ (i g : Nat) (e : Ent), s.tab[i]? = some ⟨g, some e⟩ → mem[e.addr]? = some (encH e.lay e.count i)
  words : ∀ (i g : Nat) (e : Ent), s.tab[i]? = some ⟨g, some e⟩ → ∀ (p w : Nat), e.ws[p]? = some w → mem[e.addr + 1 + p]? = some w
/-! ### Turns of the state -/

theorem tab_set {ts : List Slt} {i j : Nat} {t u : Slt} (h : (ts.set i t)[j]? = some u) : (j = i ∧ u = t ∧ i < ts.length) ∨ (j ≠ i ∧ ts[j]? = some u) := by
  rw [List.getElem?_set] at h
  by_cases hij : i = j
  · subst hij
    rw [if_pos rfl] at h
    split at h
    · rename_i hl
      injection h with h
      exact .inl ⟨rfl, h.symm, hl⟩
    · cases h
  · rw [if_neg hij] at h
    exact .inr ⟨fun e => hij e.symm, h⟩

/-- The same object, with other words, held or pinned otherwise. -/
structure Alike (e e' : Ent) : Prop where
  addr : e'.addr = e.addr
  region : e'.region = e.region
  lay : e'.lay = e.lay
  count : e'.count = e.count
  len : e'.ws.length = e.ws.length
theorem Alike.end {e e' : Ent} (h : Alike e e') : endOf e' = endOf e := by unfold endOf; rw [h.addr, h.len]
theorem Alike.lies {e e' : Ent} (h : Alike e e') {size : Nat} {own : List Nat} (l : Lies size own e) : Lies size own e' := by
  unfold Lies at *
  rw [h.end, h.addr, h.len, h.region]
  exact l

def setE (s : CS) (i g : Nat) (e : Ent) : CS := { s with tab := s.tab.set i ⟨g, some e⟩ }
theorem WF_setE {s : CS} (h : WF s) {i g : Nat} {e e' : Ent} (hi : s.tab[i]? = some ⟨g, some e⟩) (a : Alike e e') (ok : ObjOK s.lays i e') : WF (setE s i g e') := by
  have ho := h.obj i g e hi
  refine ⟨h.size, h.own, by show 1 ≤ (s.tab.set _ _).length ∧ (s.tab.set _ _).length ≤ 63; rw [List.length_set]; exact h.slots, h.lays, ?_, ?_, ?_, h.par, h.skeys, h.mkeys, h.spc, ?_, h.live, ?_⟩
  · intro j t hj
    rcases tab_set hj with ⟨rfl, rfl, _⟩ | ⟨_, hj⟩
    · exact ⟨(h.gen _ _ hi).1, fun _ => (h.gen _ _ hi).2 rfl⟩
    · exact h.gen _ _ hj
  · intro j k f hj
    rcases tab_set hj with ⟨rfl, ht, _⟩ | ⟨_, hj⟩
    · injection ht with h1 h2
      injection h2 with h2
      subst h1 h2
      exact ⟨ok, a.lies ho.2.1, by rw [a.region]; exact ho.2.2⟩
    · exact h.obj _ _ _ hj
  · intro j k m n f f' hne hj hk
    rcases tab_set hj with ⟨rfl, ht, _⟩ | ⟨hji, hj'⟩ <;> rcases tab_set hk with ⟨rfl, hu, _⟩ | ⟨hki, hk'⟩
    · exact absurd rfl hne
    · injection ht with h1 h2
      injection h2 with h2
      subst h1 h2
      rw [a.end, a.addr]
      exact h.apart _ _ _ n _ _ hne hi hk'
    · injection hu with h1 h2
      injection h2 with h2
      subst h1 h2
      rw [a.end, a.addr]
      exact h.apart _ _ m _ _ _ hne hj' hi
    · exact h.apart _ _ _ _ _ _ hne hj' hk'
  · intro x hx j k f hj
    rcases tab_set hj with ⟨rfl, ht, _⟩ | ⟨_, hj⟩
    · injection ht with h1 h2
      injection h2 with h2
      subst h1 h2
      rw [a.end, a.addr]
      exact h.free x hx _ _ _ hi
    · exact h.free x hx _ _ _ hj
  · intro x hx
    obtain ⟨h1, h2⟩ := h.mine x hx
    refine ⟨h1, fun j => ?_⟩
    rw [h2]
    have hil : i < s.tab.length := (List.getElem?_eq_some_iff.1 hi).1
    constructor
    · rintro ⟨m, f, hj, hf⟩
      by_cases hij : j = i
      · subst hij
        rw [hi] at hj
        cases hj
        exact ⟨g, e', by show (s.tab.set _ _)[_]? = _; simp [hil], by rw [a.region]; exact hf⟩
      · exact ⟨m, f, by show (s.tab.set _ _)[_]? = _; rw [List.getElem?_set_ne (fun q => hij q.symm)]; exact hj, hf⟩
    · rintro ⟨m, f, hj, hf⟩
      rcases tab_set hj with ⟨rfl, ht, _⟩ | ⟨_, hj⟩
      · injection ht with h1 h2
        injection h2 with h2
        subst h1 h2
        exact ⟨_, _, hi, by rw [← a.region]; exact hf⟩
      · exact ⟨m, f, hj, hf⟩
/-- .. and its words in the store. -/
theorem MemOK_setE {s : CS} (h : WF s) {mem : List Nat} (m : MemOK s mem) {i g : Nat} {e e' : Ent} (hi : s.tab[i]? = some ⟨g, some e⟩) (a : Alike e e') {mem' : List Nat} (hl : mem'.length = mem.length)
    (hin : ∀ (p w : Nat), e'.ws[p]? = some w → mem'[e.addr + 1 + p]? = some w) (hh : mem'[e.addr]? = mem[e.addr]?) (hout : ∀ k, k < e.addr ∨ endOf e ≤ k → mem'[k]? = mem[k]?) : MemOK (setE s i g e') mem' := by
  refine ⟨by rw [hl]; exact m.len, ?_, ?_⟩
  · intro j k f hj
    rcases tab_set hj with ⟨rfl, ht, _⟩ | ⟨hji, hj⟩
    · injection ht with h1 h2
      injection h2 with h2
      subst h1 h2
      rw [a.addr, a.lay, a.count, hh]
      exact m.head _ _ _ hi
    · have := h.apart _ _ _ _ _ _ hji hj hi
      rw [hout _ (by unfold endOf at this ⊢; omega)]
      exact m.head _ _ _ hj
  · intro j k f hj p w hw
    rcases tab_set hj with ⟨rfl, ht, _⟩ | ⟨hji, hj⟩
    · injection ht with h1 h2
      injection h2 with h2
      subst h1 h2
      rw [a.addr]
      exact hin p w hw
    · have := h.apart _ _ _ _ _ _ hji hj hi
      have hp := (List.getElem?_eq_some_iff.1 hw).1
      rw [hout _ (by unfold endOf at this ⊢; omega)]
      exact m.words _ _ _ hj p w hw
/-- One word is another one. -/
theorem MemOK_word {s : CS} (h : WF s) {mem : List Nat} (m : MemOK s mem) {i g : Nat} {e : Ent} (hi : s.tab[i]? = some ⟨g, some e⟩) {p x : Nat} (hp : p < e.ws.length) : MemOK (setE s i g { e with ws := e.ws.set p x }) (mem.set (e.addr + 1 + p) x) := by
  have hend : endOf e ≤ mem.length := by rw [m.len]; exact (h.obj i g e hi).2.1.1
  refine MemOK_setE (e' := { e with ws := e.ws.set p x }) h m hi ⟨rfl, rfl, rfl, rfl, by show (e.ws.set p x).length = _; simp⟩ (by simp) ?_ ?_ ?_
  · intro q w hw
    have hw : (e.ws.set p x)[q]? = some w := hw
    rw [List.getElem?_set] at hw
    by_cases hpq : p = q
    · subst hpq
      rw [if_pos rfl, if_pos hp] at hw
      injection hw with hw
      subst hw
      rw [List.getElem?_set_self (by unfold endOf at hend; omega)]
    · rw [if_neg hpq] at hw
      rw [List.getElem?_set_ne (by omega)]
      exact m.words _ _ _ hi q w hw
  · rw [List.getElem?_set_ne (by omega)]
  · intro k hk
    rw [List.getElem?_set_ne (by unfold endOf at hk; omega)]
theorem ObjOK_word {lays : List Lay} {i : Nat} {e : Ent} (h : ObjOK lays i e) {l : Lay} (hl : lays[e.lay - 1]? = some l) {p x : Nat} (hx : x < 18446744073709551616) (hr : isRefL l p = true → ∃ k, okL k ∧ x = wordL k) : ObjOK lays i { e with ws := e.ws.set p x } := by
  obtain ⟨m, l', h1, h2, h3, h4⟩ := h
  rw [hl] at h1
  cases h1
  refine ⟨m, l, hl, h2, by simpa using h3, fun q w hw => ?_⟩
  have hw : (e.ws.set p x)[q]? = some w := hw
  rw [List.getElem?_set] at hw
  by_cases hpq : p = q
  · subst hpq
    rw [if_pos rfl] at hw
    split at hw
    · injection hw with hw
      subst hw
      exact ⟨hx, hr⟩
    · cases hw
  · rw [if_neg hpq] at hw
    exact h4 q w hw
end Go.Proofs.YtipelpbkeiphmaaGreatDoor
