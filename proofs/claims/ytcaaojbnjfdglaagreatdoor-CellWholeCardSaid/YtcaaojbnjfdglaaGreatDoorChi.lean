/- Cells: what is proved on the way: every input of the statement; no condition. Texts joined: LayD LayE RefA RefB RemA RmB TreA. -/
import Derived.Test.YtcaaojbnjfdglaaGreatDoorChf
import Derived.Test.YtcaaojbnjfdglaaGreatDoorChh
import Derived.Test.YtcaaojbnjfdglaaGreatDoorChe
import Derived.Test.YtcaaojbnjfdglaaGreatDoorChd
set_option linter.unusedVariables false
set_option linter.unusedSimpArgs false
set_option linter.unusedSectionVars false
namespace Go.Proofs.YtcaaojbnjfdglaaGreatDoor
open Go.SL

/-- A layout in the heap: its two slices, and what it is. -/
abbrev LyC := Value × Value × Lay
@[reducible] def bres (x : LyC) : HProp := star [NL x.1 x.2.2.refs, NL x.2.1 x.2.2.recs]
@[reducible] def bval (x : LyC) : List Value := [.int .i64 x.2.2.fixed, x.1, .int .i64 x.2.2.record, x.2.1]
def bcells (l : List LyC) : List Value := l.flatMap bval
theorem bcells_length (l : List LyC) : (bcells l).length = l.length * 4 := by
  induction l with
  | nil => rfl
  | cons x l ih => simp only [bcells, List.flatMap_cons, List.length_append, List.length_cons, List.length_nil] at *; omega
theorem bcells_append (a b : List LyC) : bcells (a ++ b) = bcells a ++ bcells b := by simp [bcells]
theorem bcells_get : ∀ {L : List LyC} {i : Nat} {x : LyC}, L[i]? = some x → (bcells L)[i * 4]? = some (.int .i64 x.2.2.fixed) ∧ (bcells L)[i * 4 + 1]? = some x.1 ∧ (bcells L)[i * 4 + 2]? = some (.int .i64 x.2.2.record) ∧ (bcells L)[i * 4 + 3]? = some x.2.1
  | y :: L, 0, x, h => by
    simp at h
    subst h
    simp [bcells]
  | y :: L, i + 1, x, h => by
    have := bcells_get (L := L) (i := i) (by simpa using h)
    have e : bcells (y :: L) = bval y ++ bcells L := by simp [bcells]
    rw [e]
    rw [show (i + 1) * 4 = i * 4 + 4 by omega]
    simpa [bval] using this
theorem bcells_reads {L : List LyC} {spare : List Value} {i : Nat} {x : LyC} (h : L[i]? = some x) : Reads (bcells L ++ spare) (0 + i * 4) 4 (bval x) := by
  obtain ⟨h0, h1, h2, h3⟩ := bcells_get h
  have hl := (List.getElem?_eq_some_iff.1 h3).1
  rw [Nat.zero_add]
  refine Reads.cons ?_ (Reads.cons ?_ (Reads.cons ?_ (Reads.cons ?_ (Reads.nil _))))
  all_goals rw [List.getElem?_append_left (by omega)]
  · exact h0
  · exact h1
  · exact h2
  · exact h3

def BOOK (p : Nat) (ls : List Lay) : HProp := ex fun q : Value × List LyC => star [prop (q.2.map (·.2.2) = ls ∧ ls.length ≤ 64 ∧ ∀ x ∈ ls, RightL x), pts p (row 217 [q.1]), sls 101 4 q.1 (bcells q.2), star (q.2.map bres)]
theorem BOOK_out [Extra] {w : World} {p : Nat} {ls : List Lay} {l : List HProp} (H : Holds w (BOOK p ls :: l)) : ∃ v q, (q.map (·.2.2) = ls ∧ ls.length ≤ 64 ∧ ∀ x ∈ ls, RightL x) ∧ Holds w (pts p (row 217 [v]) :: sls 101 4 v (bcells q) :: star (q.map bres) :: l) := by
  obtain ⟨⟨v, q⟩, H⟩ := Holds.ex.1 H
  have H := Holds.star.1 H
  obtain ⟨h, H⟩ := Holds.prop.1 H
  exact ⟨v, q, h, H⟩
theorem BOOK_in [Extra] {w : World} {p : Nat} {ls : List Lay} {l : List HProp} {v : Value} {q : List LyC} (h : q.map (·.2.2) = ls ∧ ls.length ≤ 64 ∧ ∀ x ∈ ls, RightL x) (H : Holds w (pts p (row 217 [v]) :: sls 101 4 v (bcells q) :: star (q.map bres) :: l)) : Holds w (BOOK p ls :: l) :=
  Holds.ex.2 ⟨(v, q), Holds.star.2 (Holds.prop.2 ⟨h, H⟩)⟩

theorem NewBook_spec [Extra] {w : World} {fr : List HProp} (H : Holds w fr) : Calls Tryz.prog 104 #[] w (ret fun v w' => ∃ p, v = pp p ∧ Holds w' (BOOK p [] :: fr)) := by
  refine calls_of Tryz.func104 rfl (by kernel_rfl) ?_
  refine J194 H ?_
  refine J52 H ?_
  clear H; intro b2 w H
  refine J0 H ?_
  have H : Holds w (star (([] : List LyC).map bres) :: pts b2 (row 217 [.slice none 0 0]) :: fr) := Holds.star.2 H
  have H := sls_nil (E := 101) (k := 4) H
  replace H := Js [2,0,0] 0 H
  exact C_ret (Jy (BOOK_in (q := []) ⟨rfl, by simp, by simp⟩ H) rfl fun w' H' => ⟨_, rfl, H'⟩)

theorem bAdd_spec [Extra] (p : Nat) (ls : List Lay) (vr vq : Value) (l : Lay) (hR : RightL l) {w : World} {fr : List HProp} (hr : RdL fr vr vq l) (H : Holds w (BOOK p ls :: fr)) :
    Calls Tryz.prog 93 #[pp p, layV l.fixed vr l.record vq] w (ret fun x w' => (ls.length = 64 ∧ x = .tuple #[.int .i64 0, .int .i64 5] ∧ Holds w' (BOOK p ls :: fr)) ∨
      (ls.length < 64 ∧ x = .tuple #[.int .i64 ((ls.length + 1 : Nat) : Int), .int .i64 0] ∧ Holds w' (BOOK p (ls ++ [l]) :: fr))) := by
  obtain ⟨_, ad1, cap1, rfl, hr1⟩ := id hr.r
  obtain ⟨_, ad2, cap2, rfl, hr2⟩ := id hr.q
  obtain ⟨v, q, ⟨hq, hlen, hall⟩, H⟩ := BOOK_out H
  have hql : q.length = ls.length := by rw [← hq, List.length_map]
  obtain ⟨av, cv, rfl⟩ := sls_slice H.drop (bcells_length q) (by decide)
  refine calls_of Tryz.func93 rfl (by kernel_rfl) ?_
  refine J6 H ?_
  clear H; intro b3 w H
  refine J82 H ?_
  refine C_joinQ (fun ms σ w => ms = [] ∧ ls.length < 64 ∧ σ 0 = pp p ∧ σ 3 = pp b3 ∧ Holds w (pts b3 (row 101 [.int .i64 l.fixed, .slice ad1 l.refs.length cap1, .int .i64 l.record, .slice ad2 l.recs.length cap2]) :: pts p (row 217 [.slice av q.length cv]) :: sls 101 4 (.slice av q.length cv) (bcells q) :: star (q.map bres) :: fr)) ?_ ?_
  · refine J108 H ?_
    refine J30 H ?_
    refine Jc rfl rfl (lRight_spec _ _ l hR.small hr.there.there.there.there H) ?_
    clear H; rintro v w ⟨⟨b, rfl, hb⟩, H⟩
    obtain rfl := hb.2 hR
    refine J120 H ?_
    refine J169 H ?_
    refine J4 H ?_
    by_cases h64 : q.length = 64
    · rw [show ((q.length : Int) == 64) = true by simp; omega]
      refine J26 H ?_
      exact C_ret (.inr ⟨by simp, Jy (BOOK_in ⟨hq, hlen, hall⟩ H.drop) rfl fun w' H' => .inl ⟨by omega, rfl, H'⟩⟩)
    · rw [show ((q.length : Int) == 64) = false by simp; omega]
      refine J8 H ?_
      exact .inl ⟨rfl, rfl, by omega, rfl, rfl, H⟩
  · clear H
    rintro ms σ w ⟨rfl, h64, g0, g3, H⟩
    rw [upd_self g0, upd_self g3]
    refine J1 H ?_
    clear H; intro w H
    refine J170 H ?_
    refine A_load1 4 [8, 11] H rfl (Wants.none rfl) rfl rfl (by kernel_rfl) ?_
    refine A_loadN 5 [6, 7, 8, 11] H rfl (Wants.none rfl) rfl (by repeat (first | exact Reads.nil _ | apply Reads.cons rfl)) (by kernel_rfl) ?_
    refine Jo 6 H ?_
    refine Jk rfl rfl (own_spec _ _ l hR.small hr.there.there.there.there H) ?_
    clear H; rintro v w ⟨vr', vq', rfl, H⟩
    obtain ⟨a4, m4, c4, rfl⟩ := sls_any H
    obtain ⟨a5, m5, c5, rfl⟩ := sls_any H.swap
    
    refine Jo 7 H ?_
    refine St_buildSlice H rfl rfl rfl ?_
    clear H; intro b27 w H
    replace H := Js [5,0,3,0,0,1] 1 H
    refine Jo 8 H ?_
    refine St_append H rfl rfl (by repeat (first | exact Reads.nil _ | apply Reads.cons rfl)) rfl (by decide) (by rw [bcells_length]; simp only [List.length_cons, List.length_nil]; omega) rfl rfl ?_
    clear H; intro v28 w H
    have e1 : bcells q ++ [.int .i64 l.fixed, .slice a4 m4 c4, .int .i64 l.record, .slice a5 m5 c5] = bcells (q ++ [(.slice a4 m4 c4, .slice a5 m5 c5, l)]) := by
      rw [bcells_append]; rfl
    rw [e1] at H
    have hql' : (q ++ [((.slice a4 m4 c4 : Value), (.slice a5 m5 c5 : Value), l)]).length = ls.length + 1 := by simp [hql]
    obtain ⟨a28, c28, rfl⟩ := sls_slice H (m := ls.length + 1) (by rw [bcells_length, hql']) (by decide)
    refine J60 H ?_
    refine A_fieldAddr 10 rfl (Wants.none rfl) rfl (by kernel_rfl) ?_
    refine Jo 11 H ?_
    refine J73 H ?_
    clear H; intro w H
    refine J2 H ?_
    refine J169 H ?_
    refine J4 H ?_
    replace H := Js [2,0,1,1,1] 1 H
    have H1 : Holds w (star ((q ++ [((.slice a4 m4 c4 : Value), (.slice a5 m5 c5 : Value), l)]).map bres) :: pts p (row 217 [.slice a28 (ls.length + 1) c28]) :: sls 101 4 (.slice a28 (ls.length + 1) c28) (bcells (q ++ [(.slice a4 m4 c4, .slice a5 m5 c5, l)])) :: fr) := by
      refine (Holds.pick (x := ((.slice a4 m4 c4 : Value), (.slice a5 m5 c5 : Value), l)) (g1 := q) (g2 := []) rfl).2 ?_
      rw [List.append_nil]
      refine Holds.star.2 ?_
      replace H := Js [2,2,2,0,0] 0 H
      exact H
    replace H1 := Js [1,1,0] 0 H1
    have H2 := BOOK_in (ls := ls ++ [l]) (q := q ++ [((.slice a4 m4 c4 : Value), (.slice a5 m5 c5 : Value), l)]) ⟨by rw [List.map_append, hq]; rfl, by simp; omega, fun x hx => by
      rcases List.mem_append.1 hx with hx | hx
      · exact hall x hx
      · simp at hx; subst hx; exact hR⟩ H1
    exact C_ret (Jy H2 rfl fun w' H' => .inr ⟨h64, rfl, H'⟩)

theorem bGet_no [Extra] (p : Nat) (ls : List Lay) (id : Int) (hid : id < 1 ∨ (ls.length : Int) < id) {w : World} {fr : List HProp} (H : Holds w (BOOK p ls :: fr)) :
    Calls Tryz.prog 76 #[pp p, .int .i64 id] w (ret fun x w' => x = .tuple #[layV 0 (.slice none 0 0) 0 (.slice none 0 0), .int .i64 6] ∧ Holds w' (BOOK p ls :: fr)) := by
  obtain ⟨v, q, ⟨hq, hlen, hall⟩, H⟩ := BOOK_out H
  have hql : q.length = ls.length := by rw [← hq, List.length_map]
  obtain ⟨av, cv, rfl⟩ := sls_slice H.drop (bcells_length q) (by decide)
  refine calls_of Tryz.func76 rfl (by kernel_rfl) ?_
  refine J18 H ?_
  clear H; intro b4 w H
  refine J75 H ?_
  refine J276 H ?_
  refine J5 H ?_
  by_cases h1 : id < 1
  · rw [show decide (id < 1) = true from decide_eq_true (by omega)]
    refine J171 H ?_
    refine J219 H ?_
    clear H; intro w H
    refine J0 H ?_
    exact C_ret (Jz H (fun w' H' => .cellN H' rfl (by repeat (first | exact Reads.nil _ | apply Reads.cons rfl)) (.tmp .nil)) fun w' H' => ⟨rfl, BOOK_in ⟨hq, hlen, hall⟩ H'.drop⟩)
  · rw [show decide (id < 1) = false from decide_eq_false (by omega)]
    refine J89 H ?_
    rw [show decide (id > (q.length : Int)) = true from decide_eq_true (by omega)]
    refine J219 H ?_
    clear H; intro w H
    refine J0 H ?_
    exact C_ret (Jz H (fun w' H' => .cellN H' rfl (by repeat (first | exact Reads.nil _ | apply Reads.cons rfl)) (.tmp .nil)) fun w' H' => ⟨rfl, BOOK_in ⟨hq, hlen, hall⟩ H'.drop⟩)

theorem bGet_spec [Extra] (p : Nat) (ls : List Lay) (k : Nat) (l : Lay) (hk : ls[k]? = some l) {w : World} {fr : List HProp} (H : Holds w (BOOK p ls :: fr)) :
    Calls Tryz.prog 76 #[pp p, .int .i64 ((k : Int) + 1)] w (ret fun x w' => ∃ vr vq, x = .tuple #[layV l.fixed vr l.record vq, .int .i64 0] ∧ Holds w' (NL vr l.refs :: NL vq l.recs :: BOOK p ls :: fr)) := by
  obtain ⟨v, q, ⟨hq, hlen, hall⟩, H⟩ := BOOK_out H
  have hql : q.length = ls.length := by rw [← hq, List.length_map]
  have hkl : k < ls.length := (List.getElem?_eq_some_iff.1 hk).1
  obtain ⟨av, cv, rfl⟩ := sls_slice H.drop (bcells_length q) (by decide)
  have hR : RightL l := hall l (List.mem_of_getElem? hk)
  obtain ⟨x, hx, hxl⟩ : ∃ x, q[k]? = some x ∧ x.2.2 = l := by
    rw [← hq, List.getElem?_map, Option.map_eq_some_iff] at hk
    exact hk
  obtain ⟨vr, vq, l'⟩ := x
  obtain rfl : l' = l := hxl
  have hpick : q = q.take k ++ (vr, vq, l') :: q.drop (k + 1) := split_at hx
  refine calls_of Tryz.func76 rfl (by kernel_rfl) ?_
  refine J18 H ?_
  clear H; intro b4 w H
  refine J24 H ?_
  refine C_joinQ (fun ms σ w => ms = [] ∧ σ 0 = pp p ∧ σ 1 = .int .i64 ((k : Int) + 1) ∧ σ 4 = pp b4 ∧ Holds w (pts b4 (row 101 [.int .i64 0, .slice none 0 0, .int .i64 0, .slice none 0 0]) :: pts p (row 217 [.slice av q.length cv]) :: sls 101 4 (.slice av q.length cv) (bcells q) :: star (q.map bres) :: fr)) ?_ ?_
  · refine J108 H ?_
    refine J5 H ?_
    rw [show decide ((k : Int) + 1 < 1) = false from decide_eq_false (by omega)]
    refine J89 H ?_
    rw [show decide ((k : Int) + 1 > (q.length : Int)) = false from decide_eq_false (by omega)]
    refine J206 H ?_
    exact .inl ⟨rfl, rfl, rfl, rfl, rfl, H⟩
  · clear H
    rintro ms σ w ⟨rfl, g0, g1, g4, H⟩
    rw [upd_self g0, upd_self g1, upd_self g4]
    replace H := Js [3,2,0,0] 0 H
    have H := Holds.star.1 ((Holds.pick hpick).1 H)
    replace H : Holds w (NL vr l'.refs :: NL vq l'.recs :: star ((q.take k ++ q.drop (k + 1)).map bres) :: sls 101 4 (.slice av q.length cv) (bcells q) :: pts b4 (row 101 [.int .i64 0, .slice none 0 0, .int .i64 0, .slice none 0 0]) :: pts p (row 217 [.slice av q.length cv]) :: fr) := H
    obtain ⟨ar, cr, rfl⟩ := sls_slice H (ncells_length _) (by decide)
    obtain ⟨aq, cq, rfl⟩ := sls_slice H.drop (ncells_length _) (by decide)
    obtain ⟨D1, H, hD1, hC1⟩ := sls_rd H (ncells_length _) (by decide)
    obtain ⟨D2, H, hD2, hC2⟩ := sls_rd H.swap (ncells_length _) (by decide)
    replace H := Js [3,0,0,0,0,0] 0 H
    obtain ⟨b, s, rfl, H, hclose⟩ := sls_open H (by omega)
    refine J36 H ?_
    rw [wrap64 (x := (k : Int) + 1 - 1) (by omega) (by omega), show (k : Int) + 1 - 1 = (k : Int) by omega]
    refine Lp_s rfl (St_indexAddr rfl rfl (by omega) (by omega) rfl ?_)
    refine Lp_s rfl (St_loadN H rfl (bcells_reads hx) rfl ?_)
    refine Jc rfl rfl (own_spec _ _ l' hR.small ⟨(hD1 _).there.there, (hD2 _).there⟩ H) ?_
    clear H; rintro v w ⟨vr', vq', rfl, H⟩
    obtain ⟨a4, m4, c4, rfl⟩ := sls_any H
    obtain ⟨a5, m5, c5, rfl⟩ := sls_any H.swap
    refine J7 H ?_
    clear H; intro w H
    refine J0 H ?_
    replace H := Js [3,3,2,2,2,2,0,0] 0 H
    replace H := hC1 _ _ (hC2 _ _ H).swap
    replace H := Js [0,0,1,0,0,0,0,0] 0 H
    replace H : Holds w (star (q.map bres) :: _) := (Holds.pick hpick).2 (Holds.star.2 H)
    replace H := Js [1,1,2,2,1,0] 0 H
    replace H := hclose _ _ H
    replace H := Js [1,1,1,1,0,0] 0 H
    exact C_ret (Jz H (fun w' H' => .cellN H' rfl (by repeat (first | exact Reads.nil _ | apply Reads.cons rfl)) (.tmp .nil)) fun w' H' => ⟨_, _, rfl, (BOOK_in (l := NL (.slice a4 m4 c4) l'.refs :: NL (.slice a5 m5 c5) l'.recs :: fr) ⟨hq, hlen, hall⟩ (by have H' := H'.drop; replace H' := Holds.sel [2, 2, 2, 0, 0] 0 H'; dsimp only [SL.sel, SL.pull, List.drop] at H'; exact H')).sel [1, 1, 0] 0⟩)
end Go.Proofs.YtcaaojbnjfdglaaGreatDoor
namespace Go.Proofs.YtcaaojbnjfdglaaGreatDoor
open Go.SL

def posL (l : List Nat) (x : Nat) : Nat := l.countP (· < x)
theorem map_contains (l : List Nat) (x : Nat) : (l.map fun a : Nat => (a : Int)).contains (x : Int) = decide (x ∈ l) := by
  induction l with
  | nil => simp
  | cons a l ih =>
    rw [List.map_cons, List.contains_cons, ih]
    by_cases h : x = a
    · subst h; simp
    · have : ((x : Int) == (a : Int)) = false := by simp; omega
      simp [this, h]
theorem map_count (l : List Nat) (x : Nat) : (l.map fun a : Nat => (a : Int)).countP (· < (x : Int)) = posL l x := by
  unfold posL
  rw [List.countP_map]
  congr 1
  funext a
  simp

theorem Search_spec [Extra] (v : Value) (l : List Nat) (hl : l.length ≤ 1000000) (hs : l.Pairwise (· < ·)) (x : Nat) {w : World} {fr : List HProp} (hr : RdS fr v l.length 1 (ncells l)) (H : Holds w fr) :
    Calls Tryz.prog 82 #[v, .int .i64 x] w (ret fun r w' => r = .tuple #[.int .i64 (posL l x : Nat), .bool (decide (x ∈ l))] ∧ Holds w' fr) := by
  obtain ⟨_, ad, cap, rfl, hr'⟩ := id hr
  by_cases h0 : l = []
  · subst h0
    refine calls_of Tryz.func82 rfl (by kernel_rfl) ?_
    refine J3 H ?_
    refine J111 H ?_
    refine J5 H ?_
    refine J75 H ?_
    refine C_loop (fun ms σ w q => ms = [] ∧ σ 6 = .int .i64 0 ∧ σ 7 = .int .i64 0 ∧ σ 8 = .int .i64 0 ∧ Holds w fr) (m := 0) ⟨rfl, rfl, rfl, rfl, H⟩ ?_
    clear H
    rintro ms σ w q ⟨rfl, g6, g7, g8, H⟩
    rw [upd_self g6, upd_self g7, upd_self g8]
    refine J5 H ?_
    refine J24 H ?_
    refine C_false rfl (C_exit ?_)
    refine J5 H ?_
    refine J265 H ?_
    refine J163 H ?_
    refine J109 H ?_
    refine J109 H ?_
    refine J109 H ?_
    refine J212 H ?_
    refine J220 H ?_
    exact C_ret (Jy H rfl fun w' H' => ⟨rfl, H'⟩)
  · rcases hr' with h | ⟨b, o, E, fz, c, rfl, hA, hrd⟩
    · exact absurd (List.eq_nil_of_length_eq_zero h) h0
    haveI := hA
    have hc : ∀ j, j < l.length → w.cell? ⟨b, o + j, none⟩ = some (.int .i64 (l.getD j 0)) := fun j hj => by
      refine cell_row H.at ?_
      rw [Nat.mul_one] at hrd
      refine hrd.get j _ ?_
      simp [ncells, hj]
    have e1 : ∀ j, (l.map fun a : Nat => (a : Int)).getD j 0 = ((l.getD j 0 : Nat) : Int) := fun j => by
      simp only [List.getD_eq_getElem?_getD, List.getElem?_map]
      cases l[j]? <;> rfl
    have e2 : (l.map fun a : Nat => (a : Int)).take l.length = l.map fun a : Nat => (a : Int) := List.take_of_length_le (by simp)
    refine (Any.slices_BinarySearch_int Tryz.laysBs b o l.length cap (l.map fun a : Nat => (a : Int)) x w (by simp) (by omega) (fun j hj => by rw [hc j (by simpa using hj), e1]) ?_).mono ?_
    · rw [e2]
      refine List.Pairwise.map _ (fun a b h => ?_) hs
      omega
    · rintro e w' ⟨rfl, q, rfl⟩
      refine ⟨?_, H.heap rfl⟩
      rw [e2, map_contains, map_count]

theorem IsRef_no [Extra] (vr vq : Value) (l : Lay) (hR : RightL l) (count : Int) (place : Int) {n : Nat} (hz : sizeL l count = (n, 0)) (hp : place < 0 ∨ (n : Int) ≤ place) {w : World} {fr : List HProp} (hr : RdL fr vr vq l) (H : Holds w fr) :
    Calls Tryz.prog 168 #[layV l.fixed vr l.record vq, .int .i64 count, .int .i64 place] w (ret fun x w' => x = .tuple #[.bool false, .int .i64 3] ∧ Holds w' fr) := by
  obtain ⟨_, ad1, cap1, rfl, hr1⟩ := id hr.r
  obtain ⟨_, ad2, cap2, rfl, hr2⟩ := id hr.q
  refine calls_of Tryz.func168 rfl (by kernel_rfl) ?_
  refine J6 H ?_
  clear H; intro b3 w H
  refine J195 H ?_
  refine J9 H ?_
  refine Jc rfl rfl (Size_spec _ _ l hR count hr.there H) ?_
  clear H; rintro v w ⟨rfl, H⟩
  rw [hz]
  refine J50 H ?_
  refine J75 H ?_
  refine J77 H ?_
  refine J5 H ?_
  by_cases h1 : place < 0
  · rw [show decide (place < 0) = true from decide_eq_true (by omega)]
    refine J211 H ?_
    refine J4 H ?_
    refine J26 H ?_
    exact C_ret (Jy H.drop rfl fun w' H' => ⟨rfl, H'⟩)
  · rw [show decide (place < 0) = false from decide_eq_false (by omega)]
    refine J129 H ?_
    rw [show decide (place ≥ (n : Int)) = true from decide_eq_true (by omega)]
    refine J4 H ?_
    refine J26 H ?_
    exact C_ret (Jy H.drop rfl fun w' H' => ⟨rfl, H'⟩)

theorem IsRef_spec [Extra] (vr vq : Value) (l : Lay) (hR : RightL l) (count : Int) (p : Nat) {n : Nat} (hz : sizeL l count = (n, 0)) (hp : p < n) {w : World} {fr : List HProp} (hr : RdL fr vr vq l) (H : Holds w fr) :
    Calls Tryz.prog 168 #[layV l.fixed vr l.record vq, .int .i64 count, .int .i64 p] w (ret fun x w' => x = .tuple #[.bool (isRefL l p), .int .i64 0] ∧ Holds w' fr) := by
  have hsm := hR.small
  obtain ⟨z1, z2, z3, z4, z5⟩ := sizeL_ok hz
  obtain ⟨_, ad1, cap1, rfl, hr1⟩ := id hr.r
  obtain ⟨_, ad2, cap2, rfl, hr2⟩ := id hr.q
  refine calls_of Tryz.func168 rfl (by kernel_rfl) ?_
  refine J6 H ?_
  clear H; intro b3 w H
  refine J195 H ?_
  refine J9 H ?_
  refine Jc rfl rfl (Size_spec _ _ l hR count hr.there H) ?_
  clear H; rintro v w ⟨rfl, H⟩
  rw [hz]
  refine J50 H ?_
  refine J24 H ?_
  refine C_joinQ (fun ms σ w => ms = [] ∧ σ 2 = .int .i64 p ∧ σ 3 = pp b3 ∧ Holds w (pts b3 (row 101 [.int .i64 l.fixed, .slice ad1 l.refs.length cap1, .int .i64 l.record, .slice ad2 l.recs.length cap2]) :: fr)) ?_ ?_
  · refine C_block ?_
    refine J77 H ?_
    refine J5 H ?_
    rw [show decide ((p : Int) < 0) = false from decide_eq_false (by omega)]
    refine J129 H ?_
    rw [show decide ((p : Int) ≥ (n : Int)) = false from decide_eq_false (by omega)]
    refine J206 H ?_
    exact .inl ⟨rfl, rfl, rfl, rfl, H⟩
  · clear H
    rintro ms σ w ⟨rfl, g2, g3, H⟩
    rw [upd_self g2, upd_self g3]
    refine J71 H ?_
    refine J220 H ?_
    refine J172 H ?_
    refine J0 H ?_
    by_cases h1 : p < l.fixed
    · rw [show decide ((p : Int) ≥ (l.fixed : Int)) = false from decide_eq_false (by omega)]
      refine J221 H ?_
      refine Jc rfl rfl (Search_spec _ l.refs hsm.a hR.2.2.2.1.2 p hr.r.there H) ?_
      clear H; rintro v w ⟨rfl, H⟩
      refine J53 H ?_
      refine J17 H ?_
      exact C_ret (Jy H.drop rfl fun w' H' => ⟨by unfold isRefL; rw [if_pos h1]; rfl, H'⟩)
    · have hrec : l.record ≠ 0 := by
        intro h0
        rw [h0] at z3
        omega
      have e1 : IntKind.i64.wrap ((p : Int) - (l.fixed : Int)) = ((p - l.fixed : Nat) : Int) := by rw [wrap64 (by omega) (by omega)]; omega
      rw [show decide ((p : Int) ≥ (l.fixed : Int)) = true from decide_eq_true (by omega)]
      refine J12 H ?_
      refine C_join (fun ms σ w => ms = [] ∧ σ 10 = .slice ad2 l.recs.length cap2 ∧ σ 11 = .int .i64 (((p - l.fixed) % l.record : Nat) : Int) ∧ Holds w (pts b3 (row 101 [.int .i64 l.fixed, .slice ad1 l.refs.length cap1, .int .i64 l.record, .slice ad2 l.recs.length cap2]) :: fr)) ?_ ?_
      · refine C_true rfl ?_
        refine J1 H ?_
        clear H; intro w H
        refine J96 H ?_
        refine J217 H ?_
        refine A_load1 4 [] H rfl (Wants.none rfl) rfl rfl (by kernel_rfl) ?_
        refine J45 H ?_
        refine J72 H ?_
        refine A_load1 7 [] H rfl (Wants.none rfl) rfl rfl (by kernel_rfl) ?_
        rw [e1]
        refine A_pv (v := .int .i64 (((p - l.fixed) % l.record : Nat) : Int)) 8 rfl (Wants.none rfl) (by
          show (if IntKind.i64 = IntKind.i64 then (if (l.record : Int) = 0 then none else some (Value.int .i64 (Int.tmod ((p - l.fixed : Nat) : Int) (l.record : Int)))) else none) = _
          rw [if_pos rfl, if_neg (by omega), Int.tmod_eq_emod_of_nonneg (by omega), Int.natCast_emod]) (by kernel_rfl) ?_
        refine J60 H ?_
        refine J119 H ?_
        exact ⟨rfl, rfl, rfl, rfl, H⟩
      · clear H
        rintro ms σ w ⟨rfl, g10, g11, H⟩
        rw [upd_self g10, upd_self g11]
        refine J5 H ?_
        refine Jc rfl rfl (Search_spec _ l.recs hsm.b hR.2.2.2.2.2 _ hr.q.there H) ?_
        clear H; rintro v w ⟨rfl, H⟩
        refine J53 H ?_
        refine J17 H ?_
        exact C_ret (Jy H.drop rfl fun w' H' => ⟨by unfold isRefL; rw [if_neg h1]; rfl, H'⟩)
end Go.Proofs.YtcaaojbnjfdglaaGreatDoor
namespace Go.Proofs.YtcaaojbnjfdglaaGreatDoor
open Go.SL

theorem rise_spec [Extra] (v : Value) (l : List Nat) (size : Nat) (hl : l.length ≤ 1000000) {w : World} {fr : List HProp} (hr : RdS fr v l.length 1 (ncells l)) (H : Holds w fr) :
    Calls Tryz.prog 157 #[v, .int .i64 size] w (ret fun x w' => (∃ b, x = .bool b ∧ (b = true ↔ RisL l size)) ∧ Holds w' fr) := by
  obtain ⟨_, ad, cap, rfl, hr⟩ := hr
  refine calls_of Tryz.func157 rfl (by kernel_rfl) ?_
  refine J117 H ?_
  refine J14 H ?_
  refine J23 H ?_
  refine C_loop (fun ms σ w q => ms = [] ∧ ∃ (i : Nat) (t : Int), i ≤ l.length ∧ q = l.length - i ∧ RisL (l.take i) size ∧ ((i = 0 ∧ t = -1) ∨ ∃ y : Nat, (l.take i).getLast? = some y ∧ t = y) ∧ σ 0 = .slice ad l.length cap ∧ σ 1 = .int .i64 size ∧ σ 5 = .int .i64 t ∧ σ 6 = .int .i64 i ∧ Holds w fr) (m := l.length) ⟨rfl, 0, -1, by omega, rfl, ⟨by simp, by simp⟩, .inl ⟨rfl, rfl⟩, rfl, rfl, rfl, rfl, H⟩ ?_
  clear H
  rintro ms σ w q ⟨rfl, i, t, hi, rfl, hR, ht, g0, g1, g5, g6, H⟩
  rw [upd_self g0, upd_self g1, upd_self g5, upd_self g6]
  refine J5 H ?_
  refine J222 H ?_
  refine C_dec rfl (fun h => C_skip ?_) (fun h => C_exit ?_)
  · have hlt : i < l.length := by omega
    have hx := List.getElem?_eq_getElem hlt
    have htk : l.take (i + 1) = l.take i ++ [l[i]] := by rw [List.take_add_one, hx]; rfl
    have hmem : l[i] ∈ l := List.getElem_mem hlt
    have hlast : (l.take (i + 1)).getLast? = some l[i] := by rw [htk, List.getLast?_concat]
    have hbad : ∀ y : Nat, (l.take i).getLast? = some y → l.Pairwise (· < ·) → y < l[i] := fun y hy hp => by
      have hi0 : 0 < i := by
        rcases Nat.eq_zero_or_pos i with h0 | h0
        · subst h0; simp at hy
        · exact h0
      rw [List.getLast?_eq_getElem?, List.length_take, Nat.min_eq_left hi, List.getElem?_take_of_lt (by omega), List.getElem?_eq_getElem (by omega)] at hy
      have := List.pairwise_iff_getElem.1 hp (i - 1) i (by omega) hlt (by omega)
      injection hy with hy
      omega
    generalize l[i] = x at hx htk hmem hlast hbad
    rcases hr with hr | ⟨b, o, E, fz, c, rfl, hA, hrd⟩
    · omega
    haveI := hA
    have hcell : c[o + i * 1]? = some (.int .i64 x) := by
      rw [Nat.mul_one]
      exact hrd.get i _ (by simp [ncells, hx])
    refine J125 H ?_
    refine Lp_s rfl (St_indexAddr rfl rfl (by omega) (by omega) rfl ?_)
    refine Lp_s rfl (St_load1 H rfl hcell rfl ?_)
    refine J28 H ?_
    by_cases h1 : (x : Int) ≤ t
    · rw [show decide ((x : Int) ≤ t) = true from decide_eq_true (by omega)]
      refine J9 H ?_
      refine J130 H ?_
      refine J164 H ?_
      refine J51 H ?_
      refine C_ret (Jy H rfl fun w' H' => ⟨⟨false, rfl, ⟨fun h => (by cases h), fun h => ?_⟩⟩, H'⟩)
      rcases ht with ⟨_, rfl⟩ | ⟨y, hy, rfl⟩
      · omega
      · have := hbad y hy h.2; omega
    · rw [show decide ((x : Int) ≤ t) = false from decide_eq_false (by omega)]
      refine J48 H ?_
      refine Lp_g rfl rfl rfl (St_indexAddr rfl rfl (by omega) (by omega) rfl ?_)
      refine Lp_g rfl rfl rfl (St_load1 H rfl hcell rfl ?_)
      refine J32 H ?_
      by_cases h2 : x < size
      · rw [show decide ((x : Int) ≥ (size : Int)) = false from decide_eq_false (by omega)]
        refine J20 H ?_
        refine J5 H ?_
        refine Lp_s rfl (St_indexAddr rfl rfl (by omega) (by omega) rfl ?_)
        refine Lp_s rfl (St_load1 H rfl hcell rfl ?_)
        refine J0 H ?_
        refine J17 H ?_
        refine ⟨_, ⟨rfl, i + 1, x, hlt, rfl, ?_, .inr ⟨x, hlast, rfl⟩, rfl, rfl, rfl, inc64 (by omega), H⟩, by omega⟩
        rw [htk]
        refine ⟨fun p hp => ?_, ris_snoc hR.2 fun z hz => ?_⟩
        · simp at hp
          rcases hp with hp | rfl
          · exact hR.1 p hp
          · exact h2
        · rcases ht with ⟨rfl, rfl⟩ | ⟨y, hy, rfl⟩
          · simp at hz
          · rw [hy] at hz; cases hz; omega
      · rw [show decide ((x : Int) ≥ (size : Int)) = true from decide_eq_true (by omega)]
        refine J51 H ?_
        refine C_ret (Jy H rfl fun w' H' => ⟨⟨false, rfl, ⟨fun h => (by cases h), fun h => ?_⟩⟩, H'⟩)
        exact absurd (h.1 x hmem) h2
  · have hge : i = l.length := by omega
    subst hge
    rw [List.take_length] at hR
    refine J14 H ?_
    exact C_ret (Jy H rfl fun w' H' => ⟨⟨true, rfl, by simp [hR]⟩, H'⟩)

theorem has_spec [Extra] (v : Value) (l : List Nat) (x : Nat) (hl : l.length ≤ 1000000) {w : World} {fr : List HProp} (hr : RdS fr v l.length 1 (ncells l)) (H : Holds w fr) :
    Calls Tryz.prog 127 #[v, .int .i64 x] w (ret fun r w' => r = .bool (decide (x ∈ l)) ∧ Holds w' fr) := by
  obtain ⟨_, ad, cap, rfl, hr⟩ := hr
  refine calls_of Tryz.func127 rfl (by kernel_rfl) ?_
  refine J117 H ?_
  refine J23 H ?_
  refine C_loop (fun ms σ w q => ms = [] ∧ ∃ i : Nat, i ≤ l.length ∧ q = l.length - i ∧ x ∉ l.take i ∧ σ 0 = .slice ad l.length cap ∧ σ 1 = .int .i64 x ∧ σ 5 = .int .i64 i ∧ Holds w fr) (m := l.length) ⟨rfl, 0, by omega, rfl, by simp, rfl, rfl, rfl, H⟩ ?_
  clear H
  rintro ms σ w q ⟨rfl, i, hi, rfl, hn, g0, g1, g5, H⟩
  rw [upd_self g0, upd_self g1, upd_self g5]
  refine J5 H ?_
  refine J222 H ?_
  refine C_dec rfl (fun h => C_skip ?_) (fun h => C_exit ?_)
  · have hlt : i < l.length := by omega
    have hx := List.getElem?_eq_getElem hlt
    have htk : l.take (i + 1) = l.take i ++ [l[i]] := by rw [List.take_add_one, hx]; rfl
    have hmem : l[i] ∈ l := List.getElem_mem hlt
    generalize l[i] = y at hx htk hmem
    rcases hr with hr | ⟨b, o, E, fz, c, rfl, hA, hrd⟩
    · omega
    haveI := hA
    have hcell : c[o + i * 1]? = some (.int .i64 y) := by
      rw [Nat.mul_one]
      exact hrd.get i _ (by simp [ncells, hx])
    refine J125 H ?_
    refine Lp_s rfl (St_indexAddr rfl rfl (by omega) (by omega) rfl ?_)
    refine Lp_s rfl (St_load1 H rfl hcell rfl ?_)
    refine J4 H ?_
    by_cases h1 : y = x
    · subst h1
      rw [show ((y : Int) == (y : Int)) = true by simp]
      refine J38 H ?_
      exact C_ret (Jy H rfl fun w' H' => ⟨by rw [decide_eq_true hmem]; rfl, H'⟩)
    · rw [show ((y : Int) == (x : Int)) = false by simp; omega]
      refine J8 H ?_
      refine J17 H ?_
      refine ⟨_, ⟨rfl, i + 1, hlt, rfl, ?_, rfl, rfl, inc64 (by omega), H⟩, by omega⟩
      rw [htk]
      simp only [List.mem_append, List.mem_singleton]
      rintro (h | h)
      · exact hn h
      · exact h1 h.symm
  · have hge : i = l.length := by omega
    subst hge
    rw [List.take_length] at hn
    refine J14 H ?_
    exact C_ret (Jy H rfl fun w' H' => ⟨by rw [decide_eq_false hn]; rfl, H'⟩)

theorem places_spec [Extra] (x : Nat) (hx : x < 18446744073709551616) {w : World} {fr : List HProp} (H : Holds w fr) :
    Calls Tryz.prog 108 #[.int .u64 x] w (ret fun v w' => Holds w' (NL v (bitsTo x 64) :: fr)) := by
  refine calls_of Tryz.func108 rfl (by kernel_rfl) ?_
  refine J117 H ?_
  refine J14 H ?_
  refine J23 H ?_
  refine C_loop (fun ms σ w n => ms = [] ∧ ∃ (k : Nat) (g : Value), k ≤ 64 ∧ n = 64 - k ∧ σ 0 = .int .u64 ((x / 2 ^ k : Nat) : Int) ∧ σ 3 = g ∧ σ 4 = .int .i64 k ∧ Holds w (NL g (bitsTo x k) :: fr)) (m := 64) ⟨rfl, 0, _, by omega, rfl, by simp; rfl, rfl, rfl, sls_nil H⟩ ?_
  clear H
  rintro ms σ w n ⟨rfl, k, g, hk, rfl, g0, g3, g4, H⟩
  obtain ⟨ag, mg, cg, rfl⟩ := sls_any H
  rw [upd_self g0, upd_self g3, upd_self g4]
  refine J3 H ?_
  by_cases h64 : k < 64
  · rw [show decide ((k : Int) < 64) = true from decide_eq_true (by omega)]
    refine J12 H ?_
    refine C_true rfl (C_skip ?_)
    have hdle : x / 2 ^ k ≤ x := Nat.div_le_self _ _
    have hbit : x.testBit k = decide (x / 2 ^ k % 2 = 1) := Nat.testBit_eq_decide_div_mod_eq
    have hnext : x / 2 ^ (k + 1) = x / 2 ^ k / 2 := by rw [Nat.pow_succ, Nat.div_div_eq_div_mul]
    generalize hy : x / 2 ^ k = y at hdle hbit hnext
    have hrem : Int.tmod (y : Int) 2 = ((y % 2 : Nat) : Int) := by rw [Int.tmod_eq_emod_of_nonneg (by omega)]; omega
    have hquo : IntKind.u64.wrap (Int.tdiv (y : Int) 2) = ((y / 2 : Nat) : Int) := by
      rw [Int.tdiv_eq_ediv_of_nonneg (by omega), show (y : Int) / 2 = ((y / 2 : Nat) : Int) by omega, wrapU_nat (by omega)]
    refine J125 H ?_
    rw [hrem]
    refine J24 H ?_
    refine C_join (fun ms σ w => ms = [] ∧ ∃ g : Value, σ 0 = .int .u64 y ∧ σ 3 = g ∧ σ 4 = .int .i64 k ∧ Holds w (NL g (bitsTo x (k + 1)) :: fr)) ?_ ?_
    · by_cases h1 : y % 2 = 1
      · have e2 : bitsTo x (k + 1) = bitsTo x k ++ [k] := by rw [bitsTo_succ, hbit, decide_eq_true h1]; rfl
        rw [show (((y % 2 : Nat) : Int) == 1) = true by simp; omega]
        refine C_true rfl ?_
        refine J5 H ?_
        refine J39 H ?_
        clear H; intro b14 w H
        refine Lp_s rfl (St_append H.swap rfl rfl (by repeat (first | exact Reads.nil _ | apply Reads.cons rfl)) rfl (by decide) (by rw [ncells_length]; have := bitsTo_len x k; simp only [List.length_cons, List.length_nil]; omega) rfl rfl ?_)
        clear H; intro v15 w H
        obtain ⟨a15, m15, c15, rfl⟩ := sls_any H
        refine J0 H ?_
        refine ⟨rfl, rfl, _, rfl, rfl, rfl, ?_⟩
        rw [e2]
        show Holds w (sls _ 1 _ (ncells (bitsTo x k ++ [k])) :: _)
        rw [ncells_append]
        exact Holds.drop H.swap
      · have e2 : bitsTo x (k + 1) = bitsTo x k := by rw [bitsTo_succ, hbit, decide_eq_false h1]; simp
        rw [show (((y % 2 : Nat) : Int) == 1) = false by simp; omega]
        refine C_false rfl (C_skip ?_)
        exact ⟨rfl, rfl, _, rfl, rfl, rfl, by rw [e2]; exact H⟩
    · clear H
      rintro ms σ w ⟨rfl, g, g0, g3, g4, H⟩
      obtain ⟨ag, mg, cg, rfl⟩ := sls_any H
      rw [upd_self g0, upd_self g3, upd_self g4]
      refine J5 H ?_
      rw [hquo]
      refine J0 H ?_
      refine J17 H ?_
      exact ⟨_, ⟨rfl, k + 1, _, h64, rfl, by rw [hnext]; rfl, rfl, inc64 (by omega), H⟩, by omega⟩
  · have hk64 : k = 64 := by omega
    subst hk64
    rw [show decide (((64 : Nat) : Int) < 64) = false from rfl]
    refine J12 H ?_
    refine C_false rfl (C_exit ?_)
    refine J3 H ?_
    exact C_ret (Jy H rfl fun w' H' => H')
end Go.Proofs.YtcaaojbnjfdglaaGreatDoor
namespace Go.Proofs.YtcaaojbnjfdglaaGreatDoor
open Go.SL

theorem dRight_spec [Extra] (vr vq : Value) (l : Lay) (hs : SmallL l) {w : World} {fr : List HProp} (hr : RdL fr vr vq l) (H : Holds w fr) :
    Calls Tryz.prog 109 #[layV l.fixed vr l.record vq] w (ret fun x w' => (∃ b, x = .bool b ∧ (b = true ↔ RightL l)) ∧ Holds w' fr) := by
  obtain ⟨s1, s2, s3, s4⟩ := hs
  obtain ⟨hr1, hr2⟩ := hr
  obtain ⟨_, ad1, cap1, rfl, hr1'⟩ := id hr1
  obtain ⟨_, ad2, cap2, rfl, hr2'⟩ := id hr2
  refine calls_of Tryz.func109 rfl (by kernel_rfl) ?_
  refine J6 H ?_
  clear H; intro b1 w H
  refine J0 H ?_
  refine J66 H ?_
  rw [show decide ((l.fixed : Int) < 0) = false from decide_eq_false (by omega)]
  refine J116 H ?_
  by_cases h1 : l.fixed ≤ 64
  · rw [show decide ((l.fixed : Int) > 64) = false from decide_eq_false (by omega)]
    refine J144 H ?_
    rw [show decide ((l.record : Int) < 0) = false from decide_eq_false (by omega)]
    refine J144 H ?_
    by_cases h2 : l.record ≤ 64
    · rw [show decide ((l.record : Int) > 64) = false from decide_eq_false (by omega)]
      refine J20 H ?_
      refine J213 H ?_
      refine Jc rfl rfl (rise_spec _ l.refs l.fixed s3 hr1.there H) ?_
      clear H; rintro v w ⟨⟨b, rfl, hb⟩, H⟩
      refine J149 H ?_
      refine J29 H ?_
      refine Jc rfl rfl (rise_spec _ l.recs l.record s4 hr2.there H) ?_
      clear H; rintro v w ⟨⟨c, rfl, hc⟩, H⟩
      refine J0 H ?_
      have key : (b = true ∧ c = true ∧ l.fixed + l.record ≠ 0) ↔ RightL l := by
        rw [hb, hc]
        exact ⟨fun h => ⟨h1, h2, h.2.2, h.1, h.2.1⟩, fun h => ⟨h.2.2.2.1, h.2.2.2.2, h.2.2.1⟩⟩
      cases b with
      | false =>
        refine J5 H ?_
        refine Lp_no rfl rfl rfl ?_
        refine J78 H ?_
        refine J216 H ?_
        exact C_ret (Jy H.drop rfl fun w' H' => ⟨⟨false, rfl, ⟨fun h => (by cases h), fun h => (by have := (key.2 h).1; cases this)⟩⟩, H'⟩)
      | true =>
        cases c with
        | false =>
          refine J5 H ?_
          refine J27 H ?_
          refine J78 H ?_
          refine J216 H ?_
          exact C_ret (Jy H.drop rfl fun w' H' => ⟨⟨false, rfl, ⟨fun h => (by cases h), fun h => (by have := (key.2 h).2.1; cases this)⟩⟩, H'⟩)
        | true =>
          refine J5 H ?_
          refine J27 H ?_
          refine J144 H ?_
          by_cases h3 : l.fixed > 0
          · rw [show decide ((l.fixed : Int) > 0) = true from decide_eq_true (by omega)]
            refine J27 H ?_
            refine J167 H ?_
            refine J47 H ?_
            exact C_ret (Jy H.drop rfl fun w' H' => ⟨⟨true, rfl, ⟨fun _ => key.1 ⟨rfl, rfl, by omega⟩, fun _ => rfl⟩⟩, H'⟩)
          · rw [show decide ((l.fixed : Int) > 0) = false from decide_eq_false (by omega)]
            refine J166 H ?_
            by_cases h4 : l.record > 0
            · rw [show decide ((l.record : Int) > 0) = true from decide_eq_true (by omega)]
              refine J47 H ?_
              exact C_ret (Jy H.drop rfl fun w' H' => ⟨⟨true, rfl, ⟨fun _ => key.1 ⟨rfl, rfl, by omega⟩, fun _ => rfl⟩⟩, H'⟩)
            · rw [show decide ((l.record : Int) > 0) = false from decide_eq_false (by omega)]
              refine J47 H ?_
              exact C_ret (Jy H.drop rfl fun w' H' => ⟨⟨false, rfl, ⟨fun h => (by cases h), fun h => (by have := (key.2 h).2.2; omega)⟩⟩, H'⟩)
    · rw [show decide ((l.record : Int) > 64) = true from decide_eq_true (by omega)]
      refine J51 H ?_
      exact C_ret (Jy H.drop rfl fun w' H' => ⟨⟨false, rfl, ⟨fun h => (by cases h), fun h => (by unfold RightL at h; omega)⟩⟩, H'⟩)
  · rw [show decide ((l.fixed : Int) > 64) = true from decide_eq_true (by omega)]
    refine J215 H ?_
    refine J215 H ?_
    refine J51 H ?_
    exact C_ret (Jy H.drop rfl fun w' H' => ⟨⟨false, rfl, ⟨fun h => (by cases h), fun h => (by unfold RightL at h; omega)⟩⟩, H'⟩)

theorem dSize_spec [Extra] (vr vq : Value) (l : Lay) (hR : RightL l) (count : Int) {w : World} {fr : List HProp} (hr : RdL fr vr vq l) (H : Holds w fr) :
    Calls Tryz.prog 164 #[layV l.fixed vr l.record vq, .int .i64 count] w (ret fun x w' => x = .tuple #[.int .i64 ((sizeL l count).1 : Nat), .int .i64 ((sizeL l count).2 : Nat)] ∧ Holds w' fr) := by
  have hf := hR.1
  have hc := hR.2.1
  obtain ⟨_, ad1, cap1, rfl, hr1⟩ := id hr.r
  obtain ⟨_, ad2, cap2, rfl, hr2⟩ := id hr.q
  refine calls_of Tryz.func164 rfl (by kernel_rfl) ?_
  refine J6 H ?_
  clear H; intro b2 w H
  refine J195 H ?_
  refine Jc rfl rfl (dRight_spec _ _ l hR.small hr.there H) ?_
  clear H; rintro v w ⟨⟨b, rfl, hb⟩, H⟩
  obtain rfl := hb.2 hR
  refine J37 H ?_
  refine J12 H ?_
  refine C_join (fun ms σ w => ms = [] ∧ (∃ q, σ 26 = .bool q ∧ (q = true ↔ (count < 0 ∨ count > 1024 ∨ (count > 0 ∧ l.record = 0)))) ∧ σ 1 = .int .i64 count ∧ σ 2 = pp b2 ∧ Holds w (pts b2 (row 101 [.int .i64 l.fixed, .slice ad1 l.refs.length cap1, .int .i64 l.record, .slice ad2 l.recs.length cap2]) :: fr)) ?_ ?_
  · refine J5 H ?_
    by_cases c0 : count < 0
    · rw [show decide (count < 0) = true from decide_eq_true (by omega)]
      refine J9 H ?_
      refine J173 H ?_
      refine J109 H ?_
      refine Lp_no rfl rfl rfl ?_
      refine J0 H ?_
      exact ⟨rfl, rfl, ⟨true, rfl, by simp [c0]⟩, rfl, rfl, H⟩
    · rw [show decide (count < 0) = false from decide_eq_false (by omega)]
      refine J48 H ?_
      by_cases c1 : count > 1024
      · rw [show decide (count > 1024) = true from decide_eq_true (by omega)]
        refine J78 H ?_
        refine J109 H ?_
        refine Lp_no rfl rfl rfl ?_
        refine J0 H ?_
        exact ⟨rfl, rfl, ⟨true, rfl, by simp [c1]⟩, rfl, rfl, H⟩
      · rw [show decide (count > 1024) = false from decide_eq_false (by omega)]
        refine J144 H ?_
        by_cases c3 : l.record = 0
        · rw [show ((l.record : Int) == 0) = true by simp; omega]
          refine J86 H ?_
          by_cases c2 : count > 0
          · rw [show decide (count > 0) = true from decide_eq_true (by omega)]
            refine J202 H ?_
            exact ⟨rfl, rfl, ⟨true, rfl, by simp [c2, c3]⟩, rfl, rfl, H⟩
          · rw [show decide (count > 0) = false from decide_eq_false (by omega)]
            refine J202 H ?_
            exact ⟨rfl, rfl, ⟨false, rfl, by simp only [Bool.false_eq_true, false_iff]; omega⟩, rfl, rfl, H⟩
        · rw [show ((l.record : Int) == 0) = false by simp; omega]
          refine J27 H ?_
          refine J164 H ?_
          refine J202 H ?_
          exact ⟨rfl, rfl, ⟨false, rfl, by simp only [Bool.false_eq_true, false_iff]; omega⟩, rfl, rfl, H⟩
  clear H
  rintro ms σ w ⟨rfl, ⟨q, g26, hq⟩, g1, g2, H⟩
  rw [upd_self g26, upd_self g1, upd_self g2]
  cases q with
  | true =>
    have hs : sizeL l count = (0, 3) := by unfold sizeL; rw [if_pos (hq.1 rfl)]
    refine J26 H ?_
    exact C_ret (Jy H.drop rfl fun w' H' => ⟨by rw [hs]; rfl, H'⟩)
  | false =>
    have hq' : ¬ (count < 0 ∨ count > 1024 ∨ (count > 0 ∧ l.record = 0)) := fun h => by have := hq.2 h; cases this
    obtain ⟨c, rfl⟩ : ∃ c : Nat, count = c := ⟨count.toNat, by omega⟩
    have hcm : c * l.record ≤ 1024 * 64 := Nat.mul_le_mul (by omega) hc
    have hcm2 : (l.record : Int) * (c : Int) = ((c * l.record : Nat) : Int) := by rw [Int.natCast_mul, Int.mul_comm]
    refine J8 H ?_
    refine J213 H ?_
    refine J174 H ?_
    refine J17 H ?_
    rw [hcm2, wrap64 (x := ((c * l.record : Nat) : Int)) (by omega) (by omega), wrap64 (x := (l.fixed : Int) + ((c * l.record : Nat) : Int)) (by omega) (by omega), wrap64 (x := (l.fixed : Int) + ((c * l.record : Nat) : Int) + 1) (by omega) (by omega)]
    by_cases c3 : l.fixed + c * l.record ≥ 8192
    · have hs : sizeL l (c : Int) = (0, 10) := by unfold sizeL; rw [if_neg hq', if_pos (by simpa using c3)]
      rw [show decide ((l.fixed : Int) + ((c * l.record : Nat) : Int) + 1 > 8192) = true from decide_eq_true (by omega)]
      refine J26 H ?_
      exact C_ret (Jy H.drop rfl fun w' H' => ⟨by rw [hs]; rfl, H'⟩)
    · have hs : sizeL l (c : Int) = (l.fixed + c * l.record, 0) := by unfold sizeL; rw [if_neg hq', if_neg (by simpa using c3)]; simp
      rw [show decide ((l.fixed : Int) + ((c * l.record : Nat) : Int) + 1 > 8192) = false from decide_eq_false (by omega)]
      refine J8 H ?_
      refine J17 H ?_
      exact C_ret (Jy H.drop rfl fun w' H' => ⟨by rw [hs]; show Value.tuple #[.int .i64 ((l.fixed : Int) + ((c * l.record : Nat) : Int)), _] = _; rw [← Int.natCast_add]; rfl, H'⟩)

theorem dIsRef_spec [Extra] (vr vq : Value) (l : Lay) (hR : RightL l) (p : Nat) (hp : l.record ≠ 0 ∨ p < l.fixed) (hp2 : p < 1000000) {w : World} {fr : List HProp} (hr : RdL fr vr vq l) (H : Holds w fr) :
    Calls Tryz.prog 70 #[layV l.fixed vr l.record vq, .int .i64 p] w (ret fun x w' => x = .bool (isRefL l p) ∧ Holds w' fr) := by
  have hsm := hR.small
  obtain ⟨_, ad1, cap1, rfl, hr1⟩ := id hr.r
  obtain ⟨_, ad2, cap2, rfl, hr2⟩ := id hr.q
  refine calls_of Tryz.func70 rfl (by kernel_rfl) ?_
  refine J6 H ?_
  clear H; intro b2 w H
  refine J0 H ?_
  refine J172 H ?_
  refine J0 H ?_
  by_cases h1 : p < l.fixed
  · rw [show decide ((p : Int) < (l.fixed : Int)) = true from decide_eq_true (by omega)]
    refine J11 H ?_
    refine J66 H ?_
    refine Jc rfl rfl (has_spec _ l.refs p hsm.a hr.r.there H) ?_
    clear H; rintro v w ⟨rfl, H⟩
    refine J0 H ?_
    exact C_ret (Jy H.drop rfl fun w' H' => ⟨by unfold isRefL; rw [if_pos h1]; rfl, H'⟩)
  · have e1 : IntKind.i64.wrap ((p : Int) - (l.fixed : Int)) = ((p - l.fixed : Nat) : Int) := by rw [wrap64 (by omega) (by omega)]; omega
    rw [show decide ((p : Int) < (l.fixed : Int)) = false from decide_eq_false (by omega)]
    refine J8 H ?_
    refine J1 H ?_
    clear H; intro w H
    refine A_fieldAddr 0 rfl (Wants.none rfl) rfl (by kernel_rfl) ?_
    refine A_load1 1 [9] H rfl (Wants.none rfl) rfl rfl (by kernel_rfl) ?_
    refine A_pv 2 rfl (Wants.none rfl) rfl (by kernel_rfl) ?_
    refine J217 H ?_
    refine A_load1 4 [9] H rfl (Wants.none rfl) rfl rfl (by kernel_rfl) ?_
    refine J45 H ?_
    refine J72 H ?_
    refine A_load1 7 [9] H rfl (Wants.none rfl) rfl rfl (by kernel_rfl) ?_
    rw [e1]
    refine A_pv (v := .int .i64 (((p - l.fixed) % l.record : Nat) : Int)) 8 rfl (Wants.none rfl) (by
      show (if IntKind.i64 = IntKind.i64 then (if (l.record : Int) = 0 then none else some (Value.int .i64 (Int.tmod ((p - l.fixed : Nat) : Int) (l.record : Int)))) else none) = _
      rw [if_pos rfl, if_neg (by omega), Int.tmod_eq_emod_of_nonneg (by omega), Int.natCast_emod]) (by kernel_rfl) ?_
    refine Jo 9 H ?_
    refine Jk rfl rfl (has_spec _ l.recs _ hsm.b hr.q.there H) ?_
    clear H; rintro v w ⟨rfl, H⟩
    refine J119 H ?_
    exact C_ret (Jy H.drop rfl fun w' H' => ⟨by unfold isRefL; rw [if_neg h1]; rfl, H'⟩)
end Go.Proofs.YtcaaojbnjfdglaaGreatDoor
namespace Go.Proofs.YtcaaojbnjfdglaaGreatDoor
open Go.SL

abbrev Rf := Int × Int
theorem tkR : TKey Tryz.prog 241 kp := tkey_pair inferInstance
theorem tkI : TKey Tryz.prog 3 (ki .i64) := tkey_int inferInstance
@[reducible] def vm : Nat → Value := fun b => .map (some b)
@[reducible] def v1 : Int → Value := fun x => .int .i64 x
@[reducible] def rf (r : Rf) : Value := .agg #[.int .i64 r.1, .int .i64 r.2]

/-- A group: its number, its block, its references. -/
structure Gr where
  key : Int
  blk : Nat
  m : List (Rf × Int)

@[reducible] def inner (g : Gr) : HProp := mp kp v1 g.blk g.m
@[reducible] def gkb (g : Gr) : Int × Nat := (g.key, g.blk)
def mem (G : List Gr) (k : Int) (r : Rf) : Prop := ∃ g ∈ G, g.key = k ∧ r ∈ g.m.map (·.1)
def GrR (bo : Nat) (S : Int → Rf → Prop) : HProp := ex fun G => star [prop (∀ k r, mem G k r ↔ S k r), mp (ki .i64) vm bo (G.map gkb), star (G.map inner)]

theorem GrR_out [Extra] {w : World} {bo : Nat} {S : Int → Rf → Prop} {l : List HProp} (H : Holds w (GrR bo S :: l)) :
    ∃ G, (∀ k r, mem G k r ↔ S k r) ∧ Holds w (mp (ki .i64) vm bo (G.map gkb) :: star (G.map inner) :: l) := by
  obtain ⟨G, H⟩ := Holds.ex.1 H
  have H := Holds.star.1 H
  obtain ⟨h1, H⟩ := Holds.prop.1 H
  exact ⟨G, h1, H⟩

theorem GrR_in [Extra] {w : World} {bo : Nat} {S : Int → Rf → Prop} {l : List HProp} (G : List Gr) (h : ∀ k r, mem G k r ↔ S k r) (H : Holds w (mp (ki .i64) vm bo (G.map gkb) :: star (G.map inner) :: l)) : Holds w (GrR bo S :: l) :=
  Holds.ex.2 ⟨G, Holds.star.2 (Holds.prop.2 ⟨h, H⟩)⟩

theorem keys_nodup [Extra] {w : World} {K V : Type} {ek : K → Value} {vv : V → Value} (b : Nat) {m : List (K × V)} {l : List HProp} (H : Holds w l) [AtM ek vv b m l] : (m.map (·.1)).Nodup := by
  obtain ⟨es, c, _, h⟩ := Holds.mp H (ek := ek) (vv := vv) (b := b) (m := m)
  exact h.nodup

theorem gkb_keys (G : List Gr) : (G.map gkb).map (·.1) = G.map (·.key) := by simp [gkb, Function.comp_def]

theorem group_at {G : List Gr} {k : Int} {b : Nat} (h : fnd (G.map gkb) k = some b) : ∃ g g1 g2, G = g1 ++ g :: g2 ∧ g.key = k ∧ g.blk = b := by
  have h1 := fnd_mem h
  obtain ⟨g, hg, e⟩ := List.mem_map.1 h1
  obtain ⟨g1, g2, rfl⟩ := List.append_of_mem hg
  simp only [gkb, Prod.mk.injEq] at e
  exact ⟨g, g1, g2, rfl, e.1, e.2⟩

theorem era_mid {K V : Type} [DecidableEq K] {l1 l2 : List (K × V)} {p : K × V} (h : ((l1 ++ p :: l2).map (·.1)).Nodup) : era (l1 ++ p :: l2) p.1 = l1 ++ l2 := by
  induction l1 with
  | nil => simp [era]
  | cons q l1 ih =>
    simp only [List.cons_append, List.map_cons, List.nodup_cons] at h
    have hne : q.1 ≠ p.1 := fun e => h.1 (by rw [e]; simp)
    simp [era, hne, ih h.2]

theorem mem_mid {g1 g2 : List Gr} {g : Gr} {k : Int} {r : Rf} : mem (g1 ++ g :: g2) k r ↔ (g.key = k ∧ r ∈ g.m.map (·.1)) ∨ mem (g1 ++ g2) k r := by
  unfold mem
  simp only [List.mem_append, List.mem_cons]
  constructor
  · rintro ⟨x, hx | rfl | hx, h⟩
    · exact .inr ⟨x, .inl hx, h⟩
    · exact .inl h
    · exact .inr ⟨x, .inr hx, h⟩
  · rintro (h | ⟨x, hx | hx, h⟩)
    · exact ⟨g, .inr (.inl rfl), h⟩
    · exact ⟨x, .inl hx, h⟩
    · exact ⟨x, .inr (.inr hx), h⟩

theorem mem_key {G : List Gr} {k : Int} {r : Rf} (h : mem G k r) : k ∈ G.map (·.key) := by
  obtain ⟨g, hg, rfl, _⟩ := h
  exact List.mem_map_of_mem hg

theorem rest_key {g1 g2 : List Gr} {g : Gr} (h : ((g1 ++ g :: g2).map (·.key)).Nodup) : g.key ∉ (g1 ++ g2).map (·.key) := by
  rw [((List.perm_middle (a := g) (l₁ := g1) (l₂ := g2)).map (·.key)).nodup_iff] at h
  exact (List.nodup_cons.1 h).1

theorem mem_swap {g1 g2 : List Gr} {g g' : Gr} (hk : g'.key = g.key) (hn : ((g1 ++ g :: g2).map (·.key)).Nodup) {k : Int} {r : Rf} : mem (g1 ++ g' :: g2) k r ↔ if k = g.key then r ∈ g'.m.map (·.1) else mem (g1 ++ g :: g2) k r := by
  have hr := rest_key hn
  rw [mem_mid, mem_mid, hk]
  by_cases h : k = g.key
  · subst h
    simp only [if_true, true_and]
    exact ⟨fun h => h.elim id fun h => absurd (mem_key h) hr, .inl⟩
  · rw [if_neg h]
    constructor
    · rintro (⟨e, _⟩ | h')
      · exact absurd e.symm h
      · exact .inr h'
    · rintro (⟨e, _⟩ | h')
      · exact absurd e.symm h
      · exact .inr h'

theorem lose_spec [Extra] (bo : Nat) (S : Int → Rf → Prop) (k : Int) (r : Rf) {w : World} {fr : List HProp} (H : Holds w (GrR bo S :: fr)) :
    Calls Tryz.prog 188 #[.map (some bo), .int .i64 k, rf r] w (ret fun v w' => Holds w' (GrR bo (fun k' r' => S k' r' ∧ ¬ (k' = k ∧ r' = r)) :: fr)) := by
  obtain ⟨a, b⟩ := r
  refine calls_of Tryz.func188 rfl (by kernel_rfl) ?_
  obtain ⟨G, hG, H⟩ := GrR_out H
  refine J6 H ?_
  clear H; intro b5 w H
  refine J131 H ?_
  refine Lp_s rfl (St_lookup (key := k) H rfl rfl tkI rfl ?_)
  have hn0 := keys_nodup bo H
  have hn : (G.map (·.key)).Nodup := by rw [← gkb_keys]; exact hn0
  cases hf : fnd (G.map gkb) k with
  | none =>
    refine J54 H ?_
    refine Lp_s rfl (St_delete_nil (key := (a, b)) rfl rfl tkR rfl ?_)
    refine J131 H ?_
    refine Lp_s rfl (St_lookup (key := k) H rfl rfl tkI rfl ?_)
    rw [hf]
    refine Lp_s rfl (St_lenMap_nil rfl rfl ?_)
    refine J0 H ?_
    refine C_true rfl ?_
    refine J5 H ?_
    refine Lp_s rfl (St_delete (key := k) H rfl rfl tkI rfl ?_)
    clear H; intro w H
    refine Lp_nil ?_
    have hk := fnd_eq_none.1 hf
    rw [era_none hk] at H
    refine fn_end0 _ (.inl rfl) (GrR_in G (fun k' r' => ?_) H.drop) rfl (fun w' H' => H')
    rw [← hG k' r']
    exact ⟨fun h => ⟨h, fun e => hk (by rw [gkb_keys, ← e.1]; exact mem_key h)⟩, (·.1)⟩
  | some bi =>
    obtain ⟨g, g1, g2, rfl, rfl, rfl⟩ := group_at hf
    have H := (Holds.pick rfl).1 (H.pull 2)
    refine J54 H ?_
    have hi := keys_nodup g.blk H
    refine Lp_s rfl (St_delete (key := (a, b)) H rfl rfl tkR rfl ?_)
    clear H; intro w H
    refine J131 H ?_
    refine Lp_s rfl (St_lookup (key := g.key) H rfl rfl tkI rfl ?_)
    rw [hf]
    refine Lp_s rfl (St_lenMap kp v1 H rfl rfl ?_)
    refine J0 H ?_
    refine C_cond rfl (fun ht => ?_) (fun ht => ?_)
    · refine J5 H ?_
      refine Lp_s rfl (St_delete (key := g.key) H rfl rfl tkI rfl ?_)
      clear H; intro w H
      refine Lp_nil ?_
      have e : era ((g1 ++ g :: g2).map gkb) g.key = (g1 ++ g2).map gkb := by
        simp only [List.map_append, List.map_cons] at hn0 ⊢
        exact era_mid (p := gkb g) (by simpa using hn0)
      rw [e] at H
      refine fn_end0 _ (.inl rfl) (GrR_in (g1 ++ g2) (fun k' r' => ?_) (l := fr) ?_) rfl (fun w' H' => H')
      · have hr := rest_key hn
        have hz : era g.m (a, b) = [] := List.eq_nil_of_length_eq_zero (by simpa using ht)
        rw [← hG k' r', mem_mid]
        constructor
        · intro h
          exact ⟨.inr h, fun e => hr (by rw [← e.1]; exact mem_key h)⟩
        · rintro ⟨⟨rfl, h⟩ | h, h2⟩
          · have := (keys_era (m := g.m) (x := (a, b)) (y := r') hi).2 ⟨fun e => h2 ⟨rfl, e⟩, h⟩
            rw [hz] at this
            simp at this
          · exact h
      · replace H := Js [3,1] 2 H
        exact H
    · refine C_skip ?_
      replace H := Js [0,0,1] 1 H
      refine fn_end0 _ (.inl rfl) (GrR_in (g1 ++ { g with m := era g.m (a, b) } :: g2) (fun k' r' => ?_) (l := fr) ?_) rfl (fun w' H' => H')
      · rw [mem_swap (g := g) (g' := { g with m := era g.m (a, b) }) rfl hn, ← hG k' r']
        split
        · rename_i e
          subst e
          rw [keys_era hi, mem_mid]
          have hr := rest_key hn
          constructor
          · rintro ⟨h1, h2⟩
            exact ⟨.inl ⟨rfl, h2⟩, fun e => h1 e.2⟩
          · rintro ⟨⟨_, h⟩ | h, h2⟩
            · exact ⟨fun e => h2 ⟨rfl, e⟩, h⟩
            · exact absurd (mem_key h) hr
        · rename_i e
          exact ⟨fun h => ⟨h, fun e' => e e'.1⟩, (·.1)⟩
      · have H := ((Holds.pick (R := inner) (gs := g1 ++ { g with m := era g.m (a, b) } :: g2) rfl).2 H).swap
        simpa only [List.map_append, List.map_cons, List.map_nil, gkb] using H

theorem note_spec [Extra] (bo : Nat) (S : Int → Rf → Prop) (k : Int) (r : Rf) {w : World} {fr : List HProp} (H : Holds w (GrR bo S :: fr)) :
    Calls Tryz.prog 189 #[.map (some bo), .int .i64 k, rf r] w (ret fun v w' => Holds w' (GrR bo (fun k' r' => S k' r' ∨ (k' = k ∧ r' = r)) :: fr)) := by
  obtain ⟨a, b⟩ := r
  refine calls_of Tryz.func189 rfl (by kernel_rfl) ?_
  obtain ⟨G, hG, H⟩ := GrR_out H
  refine J6 H ?_
  clear H; intro b5 w H
  refine J131 H ?_
  refine Lp_s rfl (St_lookup (key := k) H rfl rfl tkI rfl ?_)
  have hn0 := keys_nodup bo H
  have hn : (G.map (·.key)).Nodup := by rw [← gkb_keys]; exact hn0
  cases hf : fnd (G.map gkb) k with
  | none =>
    refine Lp_s rfl (St_eqMapNil rfl rfl (.inl rfl) rfl ?_)
    refine Lp_nil ?_
    refine C_true rfl ?_
    refine J5 H ?_
    refine Lp_s rfl (St_makeMap v1 kp H rfl ?_)
    clear H; intro b12 w H
    refine Lp_s rfl (St_mapUpdate (key := k) (v := b12) H rfl rfl rfl tkI rfl ?_)
    clear H; intro w H
    refine J131 H ?_
    have hk := fnd_eq_none.1 hf
    refine Lp_s rfl (St_lookup (key := k) H rfl rfl tkI rfl ?_)
    have hf2 : fnd (ins (G.map gkb) k b12) k = some b12 := by rw [fnd_ins, if_pos rfl]
    rw [hf2]
    refine J54 H ?_
    refine Lp_s rfl (St_mapUpdate (key := (a, b)) (v := 1) H rfl rfl rfl tkR rfl ?_)
    clear H; intro w H
    refine Lp_nil ?_
    rw [ins_none hk] at H
    replace H := Js [0,2,1] 1 H
    refine fn_end0 _ (.inl rfl) (GrR_in (G ++ { key := k, blk := b12, m := [((a, b), 1)] } :: []) (fun k' r' => ?_) (l := fr) ?_) rfl (fun w' H' => H')
    · rw [mem_mid, List.append_nil, hG k' r']
      constructor
      · rintro (⟨rfl, h⟩ | h)
        · exact .inr ⟨rfl, by simpa using h⟩
        · exact .inl h
      · rintro (h | ⟨rfl, rfl⟩)
        · exact .inr h
        · exact .inl ⟨rfl, by simp⟩
    · have H := ((Holds.pick (R := inner) (gs := G ++ { key := k, blk := b12, m := [((a, b), 1)] } :: []) rfl).2 (by rw [List.append_nil]; exact H)).swap
      simpa only [List.map_append, List.map_cons, List.map_nil, gkb] using H
  | some bi =>
    obtain ⟨g, g1, g2, rfl, rfl, rfl⟩ := group_at hf
    have H := (Holds.pick rfl).1 (H.pull 2)
    refine Lp_s rfl (St_eqMapNil rfl rfl (.inl rfl) rfl ?_)
    refine Lp_nil ?_
    refine C_false rfl (C_skip ?_)
    refine J5 H ?_
    refine Lp_s rfl (St_lookup (key := g.key) H rfl rfl tkI rfl ?_)
    rw [hf]
    refine J54 H ?_
    refine Lp_s rfl (St_mapUpdate (key := (a, b)) (v := 1) H rfl rfl rfl tkR rfl ?_)
    clear H; intro w H
    refine Lp_nil ?_
    replace H := Js [0,0,1] 1 H
    refine fn_end0 _ (.inl rfl) (GrR_in (g1 ++ { g with m := ins g.m (a, b) 1 } :: g2) (fun k' r' => ?_) (l := fr) ?_) rfl (fun w' H' => H')
    · rw [mem_swap (g := g) (g' := { g with m := ins g.m (a, b) 1 }) rfl hn, ← hG k' r']
      split
      · rename_i e
        subst e
        rw [keys_ins, mem_mid]
        have hr := rest_key hn
        constructor
        · rintro (h | h)
          · exact .inr ⟨rfl, h⟩
          · exact .inl (.inl ⟨rfl, h⟩)
        · rintro ((⟨_, h⟩ | h) | ⟨_, h⟩)
          · exact .inr h
          · exact absurd (mem_key h) hr
          · exact .inl h
      · rename_i e
        exact ⟨.inl, fun h => h.elim id fun e' => absurd e'.1 e⟩
    · have H := ((Holds.pick (R := inner) (gs := g1 ++ { g with m := ins g.m (a, b) 1 } :: g2) rfl).2 H).swap
      simpa only [List.map_append, List.map_cons, List.map_nil, gkb] using H
end Go.Proofs.YtcaaojbnjfdglaaGreatDoor
namespace Go.Proofs.YtcaaojbnjfdglaaGreatDoor
open Go.SL



def RS (p : Nat) (m : List (Rf × Int)) : HProp := ex fun q : Nat × Nat × Nat =>
  star [pts p (row 188 [.map (some q.1), .map (some q.2.1), .map (some q.2.2)]), mp kp v1 q.1 m, GrR q.2.1 (fun k r => fnd m r = some k), GrR q.2.2 (fun k r => r.1 = k ∧ (fnd m r).isSome = true)]

theorem RS_out [Extra] {w : World} {p : Nat} {m : List (Rf × Int)} {l : List HProp} (H : Holds w (RS p m :: l)) :
    ∃ bt bo bf, Holds w (pts p (row 188 [.map (some bt), .map (some bo), .map (some bf)]) :: mp kp v1 bt m :: GrR bo (fun k r => fnd m r = some k) :: GrR bf (fun k r => r.1 = k ∧ (fnd m r).isSome = true) :: l) := by
  obtain ⟨⟨bt, bo, bf⟩, H⟩ := Holds.ex.1 H
  exact ⟨bt, bo, bf, Holds.star.1 H⟩

theorem RS_in [Extra] {w : World} {p : Nat} {m : List (Rf × Int)} {l : List HProp} {S T : Int → Rf → Prop} (bt bo bf : Nat) (hS : ∀ k r, S k r ↔ fnd m r = some k) (hT : ∀ k r, T k r ↔ (r.1 = k ∧ (fnd m r).isSome = true))
    (H : Holds w (pts p (row 188 [.map (some bt), .map (some bo), .map (some bf)]) :: mp kp v1 bt m :: GrR bo S :: GrR bf T :: l)) : Holds w (RS p m :: l) := by
  have e1 : S = fun k r => fnd m r = some k := by funext k r; exact propext (hS k r)
  have e2 : T = fun k r => r.1 = k ∧ (fnd m r).isSome = true := by funext k r; exact propext (hT k r)
  subst e1 e2
  exact Holds.ex.2 ⟨(bt, bo, bf), Holds.star.2 H⟩

theorem GrR_empty [Extra] {w : World} {bo : Nat} {l : List HProp} (H : Holds w (mp (ki .i64) vm bo [] :: l)) : Holds w (GrR bo (fun _ _ => False) :: l) :=
  GrR_in [] (by simp [mem]) (Holds.swap ((Holds.star (k := [])).2 H))

theorem rNew_spec [Extra] {w : World} {fr : List HProp} (H : Holds w fr) : Calls Tryz.prog 107 #[] w (ret fun v w' => ∃ p, v = pp p ∧ Holds w' (RS p [] :: fr)) := by
  refine calls_of Tryz.func107 rfl (by kernel_rfl) ?_
  refine J175 H ?_
  refine Lp_s rfl (St_makeMap v1 kp H rfl ?_)
  clear H; intro b1 w H
  refine Lp_s rfl (St_makeMap vm (ki .i64) H rfl ?_)
  clear H; intro b2 w H
  refine Lp_s rfl (St_makeMap vm (ki .i64) H rfl ?_)
  clear H; intro b3 w H
  refine J49 H ?_
  clear H; intro b5 w H
  refine J0 H ?_
  refine C_ret ?_
  replace H := GrR_empty (H.pull 1)
  replace H := GrR_empty (H.pull 2)
  replace H := Js [2,2,0,0] 0 H
  exact Jy H rfl (fun w' H' => ⟨b5, rfl, RS_in b1 b2 b3 (S := fun _ _ => False) (T := fun _ _ => False) (by simp [fnd]) (by simp [fnd]) H'⟩)

theorem lookV_v1 (o : Option Int) : lookV (.int .i64 0) v1 o = .int .i64 (o.getD 0) := by cases o <;> rfl

theorem rTo_spec [Extra] (p : Nat) (m : List (Rf × Int)) (r : Rf) {w : World} {fr : List HProp} (H : Holds w (RS p m :: fr)) :
    Calls Tryz.prog 146 #[pp p, rf r] w (ret fun v w' => v = .tuple #[.int .i64 ((fnd m r).getD 0), .bool (fnd m r).isSome] ∧ Holds w' (RS p m :: fr)) := by
  obtain ⟨a, b⟩ := r
  refine calls_of Tryz.func146 rfl (by kernel_rfl) ?_
  obtain ⟨bt, bo, bf, H⟩ := RS_out H
  refine J6 H ?_
  clear H; intro b3 w H
  refine J223 H ?_
  refine J1 H ?_
  clear H; intro w H
  refine J158 H ?_
  refine A_loadN 4 [] H rfl (Wants.none rfl) rfl (by repeat (first | exact Reads.nil _ | apply Reads.cons rfl)) (by kernel_rfl) ?_
  refine A_lookup 5 [] (key := (a, b)) H rfl (Wants.none rfl) rfl rfl tkR (by kernel_rfl) ?_
  rw [lookV_v1]
  refine J218 H ?_
  refine J119 H ?_
  refine J176 H ?_
  refine C_ret (Jy (RS_in bt bo bf (fun _ _ => Iff.rfl) (fun _ _ => Iff.rfl) H.drop) rfl fun w' H' => ⟨rfl, H'⟩)

theorem rCut_spec [Extra] (p : Nat) (m : List (Rf × Int)) (hm : (m.map (·.1)).Nodup) (r : Rf) {w : World} {fr : List HProp} (H : Holds w (RS p m :: fr)) :
    Calls Tryz.prog 153 #[pp p, rf r] w (ret fun v w' => v = .bool (fnd m r).isSome ∧ Holds w' (RS p (era m r) :: fr)) := by
  obtain ⟨a, b⟩ := r
  refine calls_of Tryz.func153 rfl (by kernel_rfl) ?_
  refine J6 H ?_
  clear H; intro b3 w H
  refine J90 H ?_
  refine Jc rfl rfl (rTo_spec p m (a, b) H.swap) ?_
  clear H; rintro v w ⟨rfl, H⟩
  refine J55 H ?_
  cases hf : fnd m (a, b) with
  | none =>
    refine J38 H ?_
    rw [era_none (fnd_eq_none.1 hf)]
    refine C_ret (Jy H.swap.drop rfl fun w' H' => ⟨rfl, H'⟩)
  | some t =>
    refine J8 H ?_
    obtain ⟨bt, bo, bf, H⟩ := RS_out H
    refine J1 H ?_
    clear H; intro w H
    refine J15 H ?_
    refine A_load1 3 [5] H rfl (Wants.none rfl) rfl rfl (by kernel_rfl) ?_
    refine J266 H ?_
    refine Jo 5 H ?_
    refine St_delete (key := (a, b)) H rfl rfl tkR rfl ?_
    clear H; intro w H
    refine J2 H ?_
    replace H := Js [2,0,0,0,0] 0 H
    refine J1 H ?_
    clear H; intro w H
    refine J224 H ?_
    refine J70 H ?_
    refine J225 H ?_
    refine Jk rfl rfl (lose_spec bo _ t (a, b) H) ?_
    clear H; intro v w H
    refine J2 H ?_
    replace H := Js [3,0,0,0,0] 0 H
    refine J1 H ?_
    clear H; intro w H
    refine J226 H ?_
    refine A_load1 5 [7] H rfl (Wants.none rfl) rfl rfl (by kernel_rfl) ?_
    refine J227 H ?_
    refine Jk rfl rfl (lose_spec bf _ a (a, b) H) ?_
    clear H; intro v w H
    refine J2 H ?_
    refine J14 H ?_
    replace H := Js [2,2,1,0] 1 H
    refine C_ret (Jy (RS_in bt bo bf (fun k r => ?_) (fun k r => ?_) H) rfl fun w' H' => ⟨rfl, H'⟩)
    · rw [fnd_era hm]
      split
      · rename_i e; subst e; rw [hf]; simp; rintro rfl; rfl
      · rename_i e; exact ⟨(·.1), fun h => ⟨h, fun e' => e e'.2.symm⟩⟩
    · rw [fnd_era hm]
      split
      · rename_i e; subst e; simp; rintro rfl _; rfl
      · rename_i e; exact ⟨(·.1), fun h => ⟨h, fun e' => e e'.2.symm⟩⟩

theorem rPut_spec [Extra] (p : Nat) (m : List (Rf × Int)) (hm : (m.map (·.1)).Nodup) (r : Rf) (t : Int) {w : World} {fr : List HProp} (H : Holds w (RS p m :: fr)) :
    Calls Tryz.prog 154 #[pp p, rf r, .int .i64 t] w (ret fun v w' => v = .bool (!(fnd m r).isSome) ∧ Holds w' (RS p (ins (era m r) r t) :: fr)) := by
  obtain ⟨a, b⟩ := r
  refine calls_of Tryz.func154 rfl (by kernel_rfl) ?_
  refine J6 H ?_
  clear H; intro b4 w H
  refine J228 H ?_
  refine J33 H ?_
  refine Jc rfl rfl (rCut_spec p m hm (a, b) H.swap) ?_
  clear H; rintro v w ⟨rfl, H⟩
  refine J0 H ?_
  obtain ⟨bt, bo, bf, H⟩ := RS_out H
  refine J1 H ?_
  clear H; intro w H
  refine J224 H ?_
  refine J267 H ?_
  refine J45 H ?_
  refine Jo 6 H ?_
  refine St_mapUpdate (key := (a, b)) (v := t) H rfl rfl rfl tkR rfl ?_
  clear H; intro w H
  refine J2 H ?_
  replace H := Js [2,0,0,0,0] 0 H
  refine J1 H ?_
  clear H; intro w H
  refine J224 H ?_
  refine J70 H ?_
  refine J225 H ?_
  refine Jk rfl rfl (note_spec bo _ t (a, b) H) ?_
  clear H; intro v w H
  refine J2 H ?_
  replace H := Js [3,0,0,0,0] 0 H
  refine J1 H ?_
  clear H; intro w H
  refine J226 H ?_
  refine A_load1 5 [7] H rfl (Wants.none rfl) rfl rfl (by kernel_rfl) ?_
  refine J227 H ?_
  refine Jk rfl rfl (note_spec bf _ a (a, b) H) ?_
  clear H; intro v w H
  refine J2 H ?_
  refine J17 H ?_
  replace H := Js [2,2,1,0] 1 H
  have hn := fnd_era hm (x := (a, b)) (y := (a, b))
  rw [if_pos rfl] at hn
  refine C_ret (Jy (RS_in bt bo bf (fun k r => ?_) (fun k r => ?_) H) rfl fun w' H' => ⟨rfl, H'⟩)
  · rw [fnd_ins]
    split
    · rename_i e; subst e; rw [hn]; simp; exact eq_comm
    · rename_i e; exact ⟨fun h => h.elim id fun e' => absurd e'.2.symm e, .inl⟩
  · rw [fnd_ins]
    split
    · rename_i e; subst e; rw [hn]; simp; exact eq_comm
    · rename_i e; exact ⟨fun h => h.elim id fun e' => absurd e'.2.symm e, .inl⟩

theorem rLen_spec [Extra] (p : Nat) (m : List (Rf × Int)) {w : World} {fr : List HProp} (H : Holds w (RS p m :: fr)) :
    Calls Tryz.prog 147 #[pp p] w (ret fun v w' => v = .int .i64 m.length ∧ Holds w' (RS p m :: fr)) := by
  refine calls_of Tryz.func147 rfl (by kernel_rfl) ?_
  obtain ⟨bt, bo, bf, H⟩ := RS_out H
  refine J199 H ?_
  refine Lp_s rfl (St_lenMap kp v1 H rfl rfl ?_)
  refine J0 H ?_
  refine C_ret (Jy (RS_in bt bo bf (fun _ _ => Iff.rfl) (fun _ _ => Iff.rfl) H) rfl fun w' H' => ⟨rfl, H'⟩)
end Go.Proofs.YtcaaojbnjfdglaaGreatDoor
namespace Go.Proofs.YtcaaojbnjfdglaaGreatDoor
open Go.SL

def TRE (p last : Nat) (par : List (Int × Int)) : HProp := ex fun b : Nat => star [pts p (row 214 [.map (some b), .int .i64 last]), mp (ki .i64) v1 b par]
theorem TRE_out [Extra] {w : World} {p last : Nat} {par : List (Int × Int)} {l : List HProp} (H : Holds w (TRE p last par :: l)) : ∃ b, Holds w (pts p (row 214 [.map (some b), .int .i64 last]) :: mp (ki .i64) v1 b par :: l) := by
  obtain ⟨b, H⟩ := Holds.ex.1 H
  exact ⟨b, Holds.star.1 H⟩
theorem TRE_in [Extra] {w : World} {p last b : Nat} {par : List (Int × Int)} {l : List HProp} (H : Holds w (pts p (row 214 [.map (some b), .int .i64 last]) :: mp (ki .i64) v1 b par :: l)) : Holds w (TRE p last par :: l) :=
  Holds.ex.2 ⟨b, Holds.star.2 H⟩
theorem TRE_keys [Extra] {w : World} {p last : Nat} {par : List (Int × Int)} {l : List HProp} (H : Holds w (TRE p last par :: l)) : (par.map (·.1)).Nodup := by
  obtain ⟨b, H⟩ := TRE_out H
  exact keys_nodup b H

theorem trNew_spec [Extra] {w : World} {fr : List HProp} (H : Holds w fr) : Calls Tryz.prog 106 #[] w (ret fun v w' => ∃ p, v = pp p ∧ Holds w' (TRE p 0 [] :: fr)) := by
  refine calls_of Tryz.func106 rfl (by kernel_rfl) ?_
  refine J175 H ?_
  refine Lp_s rfl (St_makeMap v1 (ki .i64) H rfl ?_)
  clear H; intro b1 w H
  refine J49 H ?_
  clear H; intro b3 w H
  refine J0 H ?_
  exact C_ret (Jy H rfl fun w' H' => ⟨_, rfl, TRE_in H'⟩)

theorem Live_spec [Extra] (p last : Nat) (par : List (Int × Int)) (id : Int) {w : World} {fr : List HProp} (H : Holds w (TRE p last par :: fr)) :
    Calls Tryz.prog 75 #[pp p, .int .i64 id] w (ret fun v w' => v = .bool (fnd par id).isSome ∧ Holds w' (TRE p last par :: fr)) := by
  obtain ⟨b, H⟩ := TRE_out H
  refine calls_of Tryz.func75 rfl (by kernel_rfl) ?_
  refine J87 H ?_
  refine J13 H ?_
  refine Lp_s rfl (St_lookup (key := id) H rfl rfl tkI rfl ?_)
  refine J265 H ?_
  refine Lp_mv rfl rfl ?_
  refine J22 H ?_
  exact C_ret (Jy (TRE_in H) rfl fun w' H' => ⟨rfl, H'⟩)

/-- What Add answers: the error. -/
def addErr (par : List (Int × Int)) (parent : Int) : Nat := if parent ≠ 0 ∧ (fnd par parent).isSome = false then 6 else if par.length = 64 then 5 else 0

theorem trAdd_spec [Extra] (p last : Nat) (par : List (Int × Int)) (parent : Int) (hlast : last < 1000000) (hup : ∀ r q, (r, q) ∈ par → r ≤ (last : Int)) {w : World} {fr : List HProp} (H : Holds w (TRE p last par :: fr)) :
    Calls Tryz.prog 94 #[pp p, .int .i64 parent] w (ret fun v w' => (addErr par parent ≠ 0 ∧ v = .tuple #[.int .i64 0, .int .i64 (addErr par parent)] ∧ Holds w' (TRE p last par :: fr)) ∨
      (addErr par parent = 0 ∧ v = .tuple #[.int .i64 ((last + 1 : Nat) : Int), .int .i64 0] ∧ Holds w' (TRE p (last + 1) (par ++ [(((last + 1 : Nat) : Int), parent)]) :: fr))) := by
  refine calls_of Tryz.func94 rfl (by kernel_rfl) ?_
  refine J207 H ?_
  refine C_joinQ (fun ms σ w => ms = [] ∧ addErr par parent = 0 ∧ σ 0 = pp p ∧ σ 1 = .int .i64 parent ∧ Holds w (TRE p last par :: fr)) ?_ ?_
  · refine J108 H ?_
    refine J12 H ?_
    refine C_join (fun ms σ w => ms = [] ∧ (∃ q, σ 9 = .bool q ∧ (q = true ↔ parent ≠ 0 ∧ (fnd par parent).isSome = false)) ∧ σ 0 = pp p ∧ σ 1 = .int .i64 parent ∧ Holds w (TRE p last par :: fr)) ?_ ?_
    · refine J5 H ?_
      by_cases h0 : parent = 0
      · rw [show (parent != 0) = false by simpa using h0]
        refine J9 H ?_
        refine J130 H ?_
        refine J4 H ?_
        exact ⟨rfl, rfl, ⟨false, rfl, by simp [h0]⟩, rfl, rfl, H⟩
      · rw [show (parent != 0) = true by simpa using h0]
        refine J48 H ?_
        refine Lp_g rfl rfl rfl (St_call (a := []) (b := []) rfl rfl (call (Live_spec p last par parent H) ?_))
        clear H; rintro v w ⟨rfl, H⟩
        refine J47 H ?_
        exact ⟨rfl, rfl, ⟨!(fnd par parent).isSome, rfl, by simp [h0]⟩, rfl, rfl, H⟩
    · clear H
      rintro ms σ w ⟨rfl, ⟨q, g9, hq⟩, g0, g1, H⟩
      rw [upd_self g9, upd_self g0, upd_self g1]
      cases q with
      | true =>
        have he : addErr par parent = 6 := by unfold addErr; rw [if_pos (hq.1 rfl)]
        refine J26 H ?_
        exact C_ret (.inr ⟨by simp, Jy H rfl fun w' H' => .inl ⟨by omega, by rw [he]; rfl, H'⟩⟩)
      | false =>
        have hq' : ¬ (parent ≠ 0 ∧ (fnd par parent).isSome = false) := fun h => by have := hq.2 h; cases this
        obtain ⟨b, H⟩ := TRE_out H
        repeat refine C_seq ?_
        refine C_false rfl ?_
        refine J41 H ?_
        refine Lp_s rfl (St_lenMap (ki .i64) v1 H rfl rfl ?_)
        refine J4 H ?_
        by_cases h64 : par.length = 64
        · have he : addErr par parent = 5 := by unfold addErr; rw [if_neg hq', if_pos h64]
          rw [show ((par.length : Int) == 64) = true by simp; omega]
          refine J26 H ?_
          exact C_ret (.inr ⟨by simp, Jy (TRE_in H) rfl fun w' H' => .inl ⟨by omega, by rw [he]; rfl, H'⟩⟩)
        · have he : addErr par parent = 0 := by unfold addErr; rw [if_neg hq', if_neg h64]
          rw [show ((par.length : Int) == 64) = false by simp; omega]
          refine J8 H ?_
          exact .inl ⟨rfl, rfl, he, rfl, rfl, TRE_in H⟩
  · clear H
    rintro ms σ w ⟨rfl, he, g0, g1, H⟩
    rw [upd_self g0, upd_self g1]
    obtain ⟨b, H⟩ := TRE_out H
    refine J13 H ?_
    rw [wrap64 (x := ((last : Nat) : Int) + 1) (by omega) (by omega), show ((last : Nat) : Int) + 1 = ((last + 1 : Nat) : Int) by omega]
    refine J79 H ?_
    clear H; intro w H
    refine Lp_nil ?_
    refine J1 H ?_
    clear H; intro w H
    refine J15 H ?_
    refine A_load1 3 [9] H rfl (Wants.none rfl) rfl rfl (by kernel_rfl) ?_
    refine J229 H ?_
    refine A_load1 7 [9] H rfl (Wants.none rfl) rfl rfl (by kernel_rfl) ?_
    refine J84 H ?_
    refine Jo 9 H ?_
    refine St_mapUpdate (v := parent) (key := ((last + 1 : Nat) : Int)) H rfl rfl rfl tkI rfl ?_
    clear H; intro w H
    refine J2 H ?_
    refine J41 H ?_
    refine J4 H ?_
    rw [ins_none (fun h => by
      obtain ⟨⟨a, q⟩, hm, h1⟩ := List.mem_map.1 h
      have h1 : a = ((last + 1 : Nat) : Int) := h1
      have := hup a q hm
      omega)] at H
    exact C_ret (Jy (TRE_in H) rfl fun w' H' => .inr ⟨he, rfl, H'⟩)
end Go.Proofs.YtcaaojbnjfdglaaGreatDoor
