/- Cells: what is proved on the way: every input of the statement; no condition. Texts joined: LayD LayE RmB TreA CelP CelR. -/
import Derived.Test.YtipelpbkeiphmaaGreatDoorBaf
import Derived.Test.YtipelpbkeiphmaaGreatDoorBah
import Derived.Test.YtipelpbkeiphmaaGreatDoorBae
set_option linter.unusedVariables false
set_option linter.unusedSimpArgs false
set_option linter.unusedSectionVars false
namespace Go.Proofs.YtipelpbkeiphmaaGreatDoor
open Go.SL

/-- A layout in the heap: its two slices, and what it is. -/
abbrev LyC := Value × Value × Lay
@[reducible] def bres (x : LyC) : HProp := star [NL x.1 x.2.2.refs, NL x.2.1 x.2.2.recs]
@[reducible] def bval (x : LyC) : List Value := [.int .i64 x.2.2.fixed, x.1, .int .i64 x.2.2.record, x.2.1]
def bcells (l : List LyC) : List Value := l.flatMap bval
theorem bcells_length (l : List LyC) : (bcells l).length = l.length * 4 := by
  induction l with
  | nil => rfl
  | cons x l ih => simp only [bcells, List.flatMap_cons, List.length_append, List.length_cons, List.length_nil] at *; omega
theorem bcells_append (a b : List LyC) : bcells (a ++ b) = bcells a ++ bcells b := by simp [bcells]
theorem bcells_get : ∀ {L : List LyC} {i : Nat} {x : LyC}, L[i]? = some x → (bcells L)[i * 4]? = some (.int .i64 x.2.2.fixed) ∧ (bcells L)[i * 4 + 1]? = some x.1 ∧ (bcells L)[i * 4 + 2]? = some (.int .i64 x.2.2.record) ∧ (bcells L)[i * 4 + 3]? = some x.2.1
  | y :: L, 0, x, h => by
    simp at h
    subst h
    simp [bcells]
  | y :: L, i + 1, x, h => by
    have := bcells_get (L := L) (i := i) (by simpa using h)
    have e : bcells (y :: L) = bval y ++ bcells L := by simp [bcells]
    rw [e]
    rw [show (i + 1) * 4 = i * 4 + 4 by omega]
    simpa [bval] using this
theorem bcells_reads {L : List LyC} {spare : List Value} {i : Nat} {x : LyC} (h : L[i]? = some x) : Reads (bcells L ++ spare) (0 + i * 4) 4 (bval x) := by
  obtain ⟨h0, h1, h2, h3⟩ := bcells_get h
  have hl := (List.getElem?_eq_some_iff.1 h3).1
  rw [Nat.zero_add]
  refine Reads.cons ?_ (Reads.cons ?_ (Reads.cons ?_ (Reads.cons ?_ (Reads.nil _))))
  all_goals rw [List.getElem?_append_left (by omega)]
  · exact h0
  · exact h1
  · exact h2
  · exact h3

def BOOK (p : Nat) (ls : List Lay) : HProp := ex fun q : Value × List LyC => star [prop (q.2.map (·.2.2) = ls ∧ ls.length ≤ 64 ∧ ∀ x ∈ ls, RightL x), pts p (row 354 [q.1]), sls 201 4 q.1 (bcells q.2), star (q.2.map bres)]
theorem BOOK_out [Extra] {w : World} {p : Nat} {ls : List Lay} {l : List HProp} (H : Holds w (BOOK p ls :: l)) : ∃ v q, (q.map (·.2.2) = ls ∧ ls.length ≤ 64 ∧ ∀ x ∈ ls, RightL x) ∧ Holds w (pts p (row 354 [v]) :: sls 201 4 v (bcells q) :: star (q.map bres) :: l) := by
  obtain ⟨⟨v, q⟩, H⟩ := Holds.ex.1 H
  have H := Holds.star.1 H
  obtain ⟨h, H⟩ := Holds.prop.1 H
  exact ⟨v, q, h, H⟩
theorem BOOK_in [Extra] {w : World} {p : Nat} {ls : List Lay} {l : List HProp} {v : Value} {q : List LyC} (h : q.map (·.2.2) = ls ∧ ls.length ≤ 64 ∧ ∀ x ∈ ls, RightL x) (H : Holds w (pts p (row 354 [v]) :: sls 201 4 v (bcells q) :: star (q.map bres) :: l)) : Holds w (BOOK p ls :: l) :=
  Holds.ex.2 ⟨(v, q), Holds.star.2 (Holds.prop.2 ⟨h, H⟩)⟩

theorem NewBook_spec [Extra] {w : World} {fr : List HProp} (H : Holds w fr) : Calls Tryz.prog 188 #[] w (ret fun v w' => ∃ p, v = pp p ∧ Holds w' (BOOK p [] :: fr)) := by
  refine calls_of Tryz.func188 rfl (by kernel_rfl) ?_
  refine J133 H ?_
  refine Lp_s rfl (St_boxN H rfl rfl ?_)
  clear H; intro b2 w H
  refine J0 H ?_
  have H : Holds w (star (([] : List LyC).map bres) :: pts b2 (row 354 [.slice none 0 0]) :: fr) := Holds.star.2 H
  have H := sls_nil (E := 201) (k := 4) H
  replace H := Js [2,0,0] 0 H
  exact C_ret (Jy (BOOK_in (q := []) ⟨rfl, by simp, by simp⟩ H) rfl fun w' H' => ⟨_, rfl, H'⟩)

theorem bAdd_spec [Extra] (p : Nat) (ls : List Lay) (vr vq : Value) (l : Lay) (hR : RightL l) {w : World} {fr : List HProp} (hr : RdL fr vr vq l) (H : Holds w (BOOK p ls :: fr)) :
    Calls Tryz.prog 193 #[pp p, layV l.fixed vr l.record vq] w (ret fun x w' => (ls.length = 64 ∧ x = .tuple #[.int .i64 0, .int .i64 5] ∧ Holds w' (BOOK p ls :: fr)) ∨
      (ls.length < 64 ∧ x = .tuple #[.int .i64 ((ls.length + 1 : Nat) : Int), .int .i64 0] ∧ Holds w' (BOOK p (ls ++ [l]) :: fr))) := by
  obtain ⟨_, ad1, cap1, rfl, hr1⟩ := id hr.r
  obtain ⟨_, ad2, cap2, rfl, hr2⟩ := id hr.q
  obtain ⟨v, q, ⟨hq, hlen, hall⟩, H⟩ := BOOK_out H
  have hql : q.length = ls.length := by rw [← hq, List.length_map]
  obtain ⟨av, cv, rfl⟩ := sls_slice H.drop (bcells_length q) (by decide)
  refine calls_of Tryz.func193 rfl (by kernel_rfl) ?_
  refine J8 H ?_
  clear H; intro b3 w H
  refine J61 H ?_
  refine C_joinQ (fun ms σ w => ms = [] ∧ ls.length < 64 ∧ σ 0 = pp p ∧ σ 3 = pp b3 ∧ Holds w (pts b3 (row 201 [.int .i64 l.fixed, .slice ad1 l.refs.length cap1, .int .i64 l.record, .slice ad2 l.recs.length cap2]) :: pts p (row 354 [.slice av q.length cv]) :: sls 201 4 (.slice av q.length cv) (bcells q) :: star (q.map bres) :: fr)) ?_ ?_
  · refine J59 H ?_
    refine J26 H ?_
    refine Jc rfl rfl (lRight_spec _ _ l hR.small hr.there.there.there.there H) ?_
    clear H; rintro v w ⟨⟨b, rfl, hb⟩, H⟩
    obtain rfl := hb.2 hR
    refine J75 H ?_
    refine J148 H ?_
    refine J3 H ?_
    by_cases h64 : q.length = 64
    · rw [show ((q.length : Int) == 64) = true by simp; omega]
      refine J29 H ?_
      exact C_ret (.inr ⟨by simp, Jy (BOOK_in ⟨hq, hlen, hall⟩ H.drop) rfl fun w' H' => .inl ⟨by omega, rfl, H'⟩⟩)
    · rw [show ((q.length : Int) == 64) = false by simp; omega]
      refine J9 H ?_
      exact .inl ⟨rfl, rfl, by omega, rfl, rfl, H⟩
  · clear H
    rintro ms σ w ⟨rfl, h64, g0, g3, H⟩
    rw [upd_self g0, upd_self g3]
    refine J1 H ?_
    clear H; intro w H
    refine J73 H ?_
    refine J92 H ?_
    refine J120 H ?_
    refine A_load1 4 [8, 11] H rfl (Wants.none rfl) rfl rfl (by kernel_rfl) ?_
    refine A_loadN 5 [6, 7, 8, 11] H rfl (Wants.none rfl) rfl (by repeat (first | exact Reads.nil _ | apply Reads.cons rfl)) (by kernel_rfl) ?_
    refine Jo 6 H ?_
    refine Jk rfl rfl (own_spec _ _ l hR.small hr.there.there.there.there H) ?_
    clear H; rintro v w ⟨vr', vq', rfl, H⟩
    obtain ⟨a4, m4, c4, rfl⟩ := sls_any H
    obtain ⟨a5, m5, c5, rfl⟩ := sls_any H.swap
    
    refine Jo 7 H ?_
    refine St_buildSlice H rfl rfl rfl ?_
    clear H; intro b27 w H
    replace H := Js [5,0,3,0,0,1] 1 H
    refine Jo 8 H ?_
    refine St_append H rfl rfl (by repeat (first | exact Reads.nil _ | apply Reads.cons rfl)) rfl (by decide) (by rw [bcells_length]; simp only [List.length_cons, List.length_nil]; omega) rfl rfl ?_
    clear H; intro v28 w H
    have e1 : bcells q ++ [.int .i64 l.fixed, .slice a4 m4 c4, .int .i64 l.record, .slice a5 m5 c5] = bcells (q ++ [(.slice a4 m4 c4, .slice a5 m5 c5, l)]) := by
      rw [bcells_append]; rfl
    rw [e1] at H
    have hql' : (q ++ [((.slice a4 m4 c4 : Value), (.slice a5 m5 c5 : Value), l)]).length = ls.length + 1 := by simp [hql]
    obtain ⟨a28, c28, rfl⟩ := sls_slice H (m := ls.length + 1) (by rw [bcells_length, hql']) (by decide)
    refine J112 H ?_
    refine A_fieldAddr 10 rfl (Wants.none rfl) rfl (by kernel_rfl) ?_
    refine Jo 11 H ?_
    refine J113 H ?_
    clear H; intro w H
    refine J4 H ?_
    refine J148 H ?_
    refine J3 H ?_
    replace H := Js [2,0,1,1,1] 1 H
    have H1 : Holds w (star ((q ++ [((.slice a4 m4 c4 : Value), (.slice a5 m5 c5 : Value), l)]).map bres) :: pts p (row 354 [.slice a28 (ls.length + 1) c28]) :: sls 201 4 (.slice a28 (ls.length + 1) c28) (bcells (q ++ [(.slice a4 m4 c4, .slice a5 m5 c5, l)])) :: fr) := by
      refine (Holds.pick (x := ((.slice a4 m4 c4 : Value), (.slice a5 m5 c5 : Value), l)) (g1 := q) (g2 := []) rfl).2 ?_
      rw [List.append_nil]
      refine Holds.star.2 ?_
      replace H := Js [2,2,2,0,0] 0 H
      exact H
    replace H1 := Js [1,1,0] 0 H1
    have H2 := BOOK_in (ls := ls ++ [l]) (q := q ++ [((.slice a4 m4 c4 : Value), (.slice a5 m5 c5 : Value), l)]) ⟨by rw [List.map_append, hq]; rfl, by simp; omega, fun x hx => by
      rcases List.mem_append.1 hx with hx | hx
      · exact hall x hx
      · simp at hx; subst hx; exact hR⟩ H1
    exact C_ret (Jy H2 rfl fun w' H' => .inr ⟨h64, rfl, H'⟩)

theorem bGet_no [Extra] (p : Nat) (ls : List Lay) (id : Int) (hid : id < 1 ∨ (ls.length : Int) < id) {w : World} {fr : List HProp} (H : Holds w (BOOK p ls :: fr)) :
    Calls Tryz.prog 194 #[pp p, .int .i64 id] w (ret fun x w' => x = .tuple #[layV 0 (.slice none 0 0) 0 (.slice none 0 0), .int .i64 6] ∧ Holds w' (BOOK p ls :: fr)) := by
  obtain ⟨v, q, ⟨hq, hlen, hall⟩, H⟩ := BOOK_out H
  have hql : q.length = ls.length := by rw [← hq, List.length_map]
  obtain ⟨av, cv, rfl⟩ := sls_slice H.drop (bcells_length q) (by decide)
  refine calls_of Tryz.func194 rfl (by kernel_rfl) ?_
  refine J23 H ?_
  clear H; intro b4 w H
  refine J49 H ?_
  refine J179 H ?_
  refine J2 H ?_
  by_cases h1 : id < 1
  · rw [show decide (id < 1) = true from decide_eq_true (by omega)]
    refine J7 H ?_
    refine J41 H ?_
    refine J82 H ?_
    refine J149 H ?_
    clear H; intro w H
    refine J0 H ?_
    exact C_ret (Jz H (fun w' H' => .cellN H' rfl (by repeat (first | exact Reads.nil _ | apply Reads.cons rfl)) (.tmp .nil)) fun w' H' => ⟨rfl, BOOK_in ⟨hq, hlen, hall⟩ H'.drop⟩)
  · rw [show decide (id < 1) = false from decide_eq_false (by omega)]
    refine J150 H ?_
    rw [show decide (id > (q.length : Int)) = true from decide_eq_true (by omega)]
    refine J149 H ?_
    clear H; intro w H
    refine J0 H ?_
    exact C_ret (Jz H (fun w' H' => .cellN H' rfl (by repeat (first | exact Reads.nil _ | apply Reads.cons rfl)) (.tmp .nil)) fun w' H' => ⟨rfl, BOOK_in ⟨hq, hlen, hall⟩ H'.drop⟩)

theorem bGet_spec [Extra] (p : Nat) (ls : List Lay) (k : Nat) (l : Lay) (hk : ls[k]? = some l) {w : World} {fr : List HProp} (H : Holds w (BOOK p ls :: fr)) :
    Calls Tryz.prog 194 #[pp p, .int .i64 ((k : Int) + 1)] w (ret fun x w' => ∃ vr vq, x = .tuple #[layV l.fixed vr l.record vq, .int .i64 0] ∧ Holds w' (NL vr l.refs :: NL vq l.recs :: BOOK p ls :: fr)) := by
  obtain ⟨v, q, ⟨hq, hlen, hall⟩, H⟩ := BOOK_out H
  have hql : q.length = ls.length := by rw [← hq, List.length_map]
  have hkl : k < ls.length := (List.getElem?_eq_some_iff.1 hk).1
  obtain ⟨av, cv, rfl⟩ := sls_slice H.drop (bcells_length q) (by decide)
  have hR : RightL l := hall l (List.mem_of_getElem? hk)
  obtain ⟨x, hx, hxl⟩ : ∃ x, q[k]? = some x ∧ x.2.2 = l := by
    rw [← hq, List.getElem?_map, Option.map_eq_some_iff] at hk
    exact hk
  obtain ⟨vr, vq, l'⟩ := x
  obtain rfl : l' = l := hxl
  have hpick : q = q.take k ++ (vr, vq, l') :: q.drop (k + 1) := split_at hx
  refine calls_of Tryz.func194 rfl (by kernel_rfl) ?_
  refine J23 H ?_
  clear H; intro b4 w H
  refine J15 H ?_
  refine C_joinQ (fun ms σ w => ms = [] ∧ σ 0 = pp p ∧ σ 1 = .int .i64 ((k : Int) + 1) ∧ σ 4 = pp b4 ∧ Holds w (pts b4 (row 201 [.int .i64 0, .slice none 0 0, .int .i64 0, .slice none 0 0]) :: pts p (row 354 [.slice av q.length cv]) :: sls 201 4 (.slice av q.length cv) (bcells q) :: star (q.map bres) :: fr)) ?_ ?_
  · refine J59 H ?_
    refine J2 H ?_
    rw [show decide ((k : Int) + 1 < 1) = false from decide_eq_false (by omega)]
    refine J150 H ?_
    rw [show decide ((k : Int) + 1 > (q.length : Int)) = false from decide_eq_false (by omega)]
    refine J56 H ?_
    exact .inl ⟨rfl, rfl, rfl, rfl, rfl, H⟩
  · clear H
    rintro ms σ w ⟨rfl, g0, g1, g4, H⟩
    rw [upd_self g0, upd_self g1, upd_self g4]
    replace H := Js [3,2,0,0] 0 H
    have H := Holds.star.1 ((Holds.pick hpick).1 H)
    replace H : Holds w (NL vr l'.refs :: NL vq l'.recs :: star ((q.take k ++ q.drop (k + 1)).map bres) :: sls 201 4 (.slice av q.length cv) (bcells q) :: pts b4 (row 201 [.int .i64 0, .slice none 0 0, .int .i64 0, .slice none 0 0]) :: pts p (row 354 [.slice av q.length cv]) :: fr) := H
    obtain ⟨ar, cr, rfl⟩ := sls_slice H (ncells_length _) (by decide)
    obtain ⟨aq, cq, rfl⟩ := sls_slice H.drop (ncells_length _) (by decide)
    obtain ⟨D1, H, hD1, hC1⟩ := sls_rd H (ncells_length _) (by decide)
    obtain ⟨D2, H, hD2, hC2⟩ := sls_rd H.swap (ncells_length _) (by decide)
    replace H := Js [3,0,0,0,0,0] 0 H
    obtain ⟨b, s, rfl, H, hclose⟩ := sls_open H (by omega)
    refine J37 H ?_
    rw [wrap64 (x := (k : Int) + 1 - 1) (by omega) (by omega), show (k : Int) + 1 - 1 = (k : Int) by omega]
    refine Lp_s rfl (St_indexAddr rfl rfl (by omega) (by omega) rfl ?_)
    refine Lp_s rfl (St_loadN H rfl (bcells_reads hx) rfl ?_)
    refine Jc rfl rfl (own_spec _ _ l' hR.small ⟨(hD1 _).there.there, (hD2 _).there⟩ H) ?_
    clear H; rintro v w ⟨vr', vq', rfl, H⟩
    obtain ⟨a4, m4, c4, rfl⟩ := sls_any H
    obtain ⟨a5, m5, c5, rfl⟩ := sls_any H.swap
    refine J6 H ?_
    clear H; intro w H
    refine J0 H ?_
    replace H := Js [3,3,2,2,2,2,0,0] 0 H
    replace H := hC1 _ _ (hC2 _ _ H).swap
    replace H := Js [0,0,1,0,0,0,0,0] 0 H
    replace H : Holds w (star (q.map bres) :: _) := (Holds.pick hpick).2 (Holds.star.2 H)
    replace H := Js [1,1,2,2,1,0] 0 H
    replace H := hclose _ _ H
    replace H := Js [1,1,1,1,0,0] 0 H
    exact C_ret (Jz H (fun w' H' => .cellN H' rfl (by repeat (first | exact Reads.nil _ | apply Reads.cons rfl)) (.tmp .nil)) fun w' H' => ⟨_, _, rfl, (BOOK_in (l := NL (.slice a4 m4 c4) l'.refs :: NL (.slice a5 m5 c5) l'.recs :: fr) ⟨hq, hlen, hall⟩ (by have H' := H'.drop; replace H' := Holds.sel [2, 2, 2, 0, 0] 0 H'; dsimp only [SL.sel, SL.pull, List.drop] at H'; exact H')).sel [1, 1, 0] 0⟩)
end Go.Proofs.YtipelpbkeiphmaaGreatDoor
namespace Go.Proofs.YtipelpbkeiphmaaGreatDoor
open Go.SL

def posL (l : List Nat) (x : Nat) : Nat := l.countP (· < x)
theorem map_contains (l : List Nat) (x : Nat) : (l.map fun a : Nat => (a : Int)).contains (x : Int) = decide (x ∈ l) := by
  induction l with
  | nil => simp
  | cons a l ih =>
    rw [List.map_cons, List.contains_cons, ih]
    by_cases h : x = a
    · subst h; simp
    · have : ((x : Int) == (a : Int)) = false := by simp; omega
      simp [this, h]
theorem map_count (l : List Nat) (x : Nat) : (l.map fun a : Nat => (a : Int)).countP (· < (x : Int)) = posL l x := by
  unfold posL
  rw [List.countP_map]
  congr 1
  funext a
  simp

theorem Search_spec [Extra] (v : Value) (l : List Nat) (hl : l.length ≤ 1000000) (hs : l.Pairwise (· < ·)) (x : Nat) {w : World} {fr : List HProp} (hr : RdS fr v l.length 1 (ncells l)) (H : Holds w fr) :
    Calls Tryz.prog 165 #[v, .int .i64 x] w (ret fun r w' => r = .tuple #[.int .i64 (posL l x : Nat), .bool (decide (x ∈ l))] ∧ Holds w' fr) := by
  obtain ⟨_, ad, cap, rfl, hr'⟩ := id hr
  by_cases h0 : l = []
  · subst h0
    refine calls_of Tryz.func165 rfl (by kernel_rfl) ?_
    refine J5 H ?_
    refine J99 H ?_
    refine J2 H ?_
    refine J49 H ?_
    refine C_loop (fun ms σ w q => ms = [] ∧ σ 6 = .int .i64 0 ∧ σ 7 = .int .i64 0 ∧ σ 8 = .int .i64 0 ∧ Holds w fr) (m := 0) ⟨rfl, rfl, rfl, rfl, H⟩ ?_
    clear H
    rintro ms σ w q ⟨rfl, g6, g7, g8, H⟩
    rw [upd_self g6, upd_self g7, upd_self g8]
    refine J2 H ?_
    refine J15 H ?_
    refine C_false rfl (C_exit ?_)
    refine J2 H ?_
    refine J142 H ?_
    refine J41 H ?_
    refine J116 H ?_
    refine J117 H ?_
    refine J117 H ?_
    refine J117 H ?_
    refine J145 H ?_
    refine J11 H ?_
    refine J0 H ?_
    exact C_ret (Jy H rfl fun w' H' => ⟨rfl, H'⟩)
  · rcases hr' with h | ⟨b, o, E, fz, c, rfl, hA, hrd⟩
    · exact absurd (List.eq_nil_of_length_eq_zero h) h0
    haveI := hA
    have hc : ∀ j, j < l.length → w.cell? ⟨b, o + j, none⟩ = some (.int .i64 (l.getD j 0)) := fun j hj => by
      refine cell_row H.at ?_
      rw [Nat.mul_one] at hrd
      refine hrd.get j _ ?_
      simp [ncells, hj]
    have e1 : ∀ j, (l.map fun a : Nat => (a : Int)).getD j 0 = ((l.getD j 0 : Nat) : Int) := fun j => by
      simp only [List.getD_eq_getElem?_getD, List.getElem?_map]
      cases l[j]? <;> rfl
    have e2 : (l.map fun a : Nat => (a : Int)).take l.length = l.map fun a : Nat => (a : Int) := List.take_of_length_le (by simp)
    refine (Any.slices_BinarySearch_int Tryz.laysBs b o l.length cap (l.map fun a : Nat => (a : Int)) x w (by simp) (by omega) (fun j hj => by rw [hc j (by simpa using hj), e1]) ?_).mono ?_
    · rw [e2]
      refine List.Pairwise.map _ (fun a b h => ?_) hs
      omega
    · rintro e w' ⟨rfl, q, rfl⟩
      refine ⟨?_, H.heap rfl⟩
      rw [e2, map_contains, map_count]

theorem IsRef_no [Extra] (vr vq : Value) (l : Lay) (hR : RightL l) (count : Int) (place : Int) {n : Nat} (hz : sizeL l count = (n, 0)) (hp : place < 0 ∨ (n : Int) ≤ place) {w : World} {fr : List HProp} (hr : RdL fr vr vq l) (H : Holds w fr) :
    Calls Tryz.prog 242 #[layV l.fixed vr l.record vq, .int .i64 count, .int .i64 place] w (ret fun x w' => x = .tuple #[.bool false, .int .i64 3] ∧ Holds w' fr) := by
  obtain ⟨_, ad1, cap1, rfl, hr1⟩ := id hr.r
  obtain ⟨_, ad2, cap2, rfl, hr2⟩ := id hr.q
  refine calls_of Tryz.func242 rfl (by kernel_rfl) ?_
  refine J8 H ?_
  clear H; intro b3 w H
  refine J3 H ?_
  refine J26 H ?_
  refine J7 H ?_
  refine Jc rfl rfl (Size_spec _ _ l hR count hr.there H) ?_
  clear H; rintro v w ⟨rfl, H⟩
  rw [hz]
  refine J30 H ?_
  refine J49 H ?_
  refine J2 H ?_
  refine J95 H ?_
  refine J2 H ?_
  by_cases h1 : place < 0
  · rw [show decide (place < 0) = true from decide_eq_true (by omega)]
    refine J7 H ?_
    refine J82 H ?_
    refine J118 H ?_
    exact C_ret (Jy H.drop rfl fun w' H' => ⟨rfl, H'⟩)
  · rw [show decide (place < 0) = false from decide_eq_false (by omega)]
    refine J7 H ?_
    refine J80 H ?_
    rw [show decide (place ≥ (n : Int)) = true from decide_eq_true (by omega)]
    refine J118 H ?_
    exact C_ret (Jy H.drop rfl fun w' H' => ⟨rfl, H'⟩)

theorem IsRef_spec [Extra] (vr vq : Value) (l : Lay) (hR : RightL l) (count : Int) (p : Nat) {n : Nat} (hz : sizeL l count = (n, 0)) (hp : p < n) {w : World} {fr : List HProp} (hr : RdL fr vr vq l) (H : Holds w fr) :
    Calls Tryz.prog 242 #[layV l.fixed vr l.record vq, .int .i64 count, .int .i64 p] w (ret fun x w' => x = .tuple #[.bool (isRefL l p), .int .i64 0] ∧ Holds w' fr) := by
  have hsm := hR.small
  obtain ⟨z1, z2, z3, z4, z5⟩ := sizeL_ok hz
  obtain ⟨_, ad1, cap1, rfl, hr1⟩ := id hr.r
  obtain ⟨_, ad2, cap2, rfl, hr2⟩ := id hr.q
  refine calls_of Tryz.func242 rfl (by kernel_rfl) ?_
  refine J8 H ?_
  clear H; intro b3 w H
  refine J3 H ?_
  refine J26 H ?_
  refine J7 H ?_
  refine Jc rfl rfl (Size_spec _ _ l hR count hr.there H) ?_
  clear H; rintro v w ⟨rfl, H⟩
  rw [hz]
  refine J30 H ?_
  refine J15 H ?_
  refine C_joinQ (fun ms σ w => ms = [] ∧ σ 2 = .int .i64 p ∧ σ 3 = pp b3 ∧ Holds w (pts b3 (row 201 [.int .i64 l.fixed, .slice ad1 l.refs.length cap1, .int .i64 l.record, .slice ad2 l.recs.length cap2]) :: fr)) ?_ ?_
  · refine C_block ?_
    refine J2 H ?_
    refine J95 H ?_
    refine J2 H ?_
    rw [show decide ((p : Int) < 0) = false from decide_eq_false (by omega)]
    refine J7 H ?_
    refine J80 H ?_
    rw [show decide ((p : Int) ≥ (n : Int)) = false from decide_eq_false (by omega)]
    refine J56 H ?_
    exact .inl ⟨rfl, rfl, rfl, rfl, H⟩
  · clear H
    rintro ms σ w ⟨rfl, g2, g3, H⟩
    rw [upd_self g2, upd_self g3]
    refine J105 H ?_
    refine J135 H ?_
    refine J38 H ?_
    refine J0 H ?_
    by_cases h1 : p < l.fixed
    · rw [show decide ((p : Int) ≥ (l.fixed : Int)) = false from decide_eq_false (by omega)]
      refine J9 H ?_
      refine J2 H ?_
      refine Jc rfl rfl (Search_spec _ l.refs hsm.a hR.2.2.2.1.2 p hr.r.there H) ?_
      clear H; rintro v w ⟨rfl, H⟩
      refine J27 H ?_
      refine J20 H ?_
      exact C_ret (Jy H.drop rfl fun w' H' => ⟨by unfold isRefL; rw [if_pos h1]; rfl, H'⟩)
    · have hrec : l.record ≠ 0 := by
        intro h0
        rw [h0] at z3
        omega
      have e1 : IntKind.i64.wrap ((p : Int) - (l.fixed : Int)) = ((p - l.fixed : Nat) : Int) := by rw [wrap64 (by omega) (by omega)]; omega
      rw [show decide ((p : Int) ≥ (l.fixed : Int)) = true from decide_eq_true (by omega)]
      refine J14 H ?_
      refine C_join (fun ms σ w => ms = [] ∧ σ 10 = .slice ad2 l.recs.length cap2 ∧ σ 11 = .int .i64 (((p - l.fixed) % l.record : Nat) : Int) ∧ Holds w (pts b3 (row 201 [.int .i64 l.fixed, .slice ad1 l.refs.length cap1, .int .i64 l.record, .slice ad2 l.recs.length cap2]) :: fr)) ?_ ?_
      · refine C_true rfl ?_
        refine J1 H ?_
        clear H; intro w H
        refine J60 H ?_
        refine J120 H ?_
        refine A_load1 4 [] H rfl (Wants.none rfl) rfl rfl (by kernel_rfl) ?_
        refine J54 H ?_
        refine J57 H ?_
        refine A_load1 7 [] H rfl (Wants.none rfl) rfl rfl (by kernel_rfl) ?_
        rw [e1]
        refine A_pv (v := .int .i64 (((p - l.fixed) % l.record : Nat) : Int)) 8 rfl (Wants.none rfl) (by
          show (if IntKind.i64 = IntKind.i64 then (if (l.record : Int) = 0 then none else some (Value.int .i64 (Int.tmod ((p - l.fixed : Nat) : Int) (l.record : Int)))) else none) = _
          rw [if_pos rfl, if_neg (by omega), Int.tmod_eq_emod_of_nonneg (by omega), Int.natCast_emod]) (by kernel_rfl) ?_
        refine J77 H ?_
        refine J4 H ?_
        exact ⟨rfl, rfl, rfl, rfl, H⟩
      · clear H
        rintro ms σ w ⟨rfl, g10, g11, H⟩
        rw [upd_self g10, upd_self g11]
        refine J2 H ?_
        refine Jc rfl rfl (Search_spec _ l.recs hsm.b hR.2.2.2.2.2 _ hr.q.there H) ?_
        clear H; rintro v w ⟨rfl, H⟩
        refine J27 H ?_
        refine J20 H ?_
        exact C_ret (Jy H.drop rfl fun w' H' => ⟨by unfold isRefL; rw [if_neg h1]; rfl, H'⟩)
end Go.Proofs.YtipelpbkeiphmaaGreatDoor
namespace Go.Proofs.YtipelpbkeiphmaaGreatDoor
open Go.SL



def RS (p : Nat) (m : List (Rf × Int)) : HProp := ex fun q : Nat × Nat × Nat =>
  star [pts p (row 220 [.map (some q.1), .map (some q.2.1), .map (some q.2.2)]), mp kp v1 q.1 m, GrR q.2.1 (fun k r => fnd m r = some k), GrR q.2.2 (fun k r => r.1 = k ∧ (fnd m r).isSome = true)]

theorem RS_out [Extra] {w : World} {p : Nat} {m : List (Rf × Int)} {l : List HProp} (H : Holds w (RS p m :: l)) :
    ∃ bt bo bf, Holds w (pts p (row 220 [.map (some bt), .map (some bo), .map (some bf)]) :: mp kp v1 bt m :: GrR bo (fun k r => fnd m r = some k) :: GrR bf (fun k r => r.1 = k ∧ (fnd m r).isSome = true) :: l) := by
  obtain ⟨⟨bt, bo, bf⟩, H⟩ := Holds.ex.1 H
  exact ⟨bt, bo, bf, Holds.star.1 H⟩

theorem RS_in [Extra] {w : World} {p : Nat} {m : List (Rf × Int)} {l : List HProp} {S T : Int → Rf → Prop} (bt bo bf : Nat) (hS : ∀ k r, S k r ↔ fnd m r = some k) (hT : ∀ k r, T k r ↔ (r.1 = k ∧ (fnd m r).isSome = true))
    (H : Holds w (pts p (row 220 [.map (some bt), .map (some bo), .map (some bf)]) :: mp kp v1 bt m :: GrR bo S :: GrR bf T :: l)) : Holds w (RS p m :: l) := by
  have e1 : S = fun k r => fnd m r = some k := by funext k r; exact propext (hS k r)
  have e2 : T = fun k r => r.1 = k ∧ (fnd m r).isSome = true := by funext k r; exact propext (hT k r)
  subst e1 e2
  exact Holds.ex.2 ⟨(bt, bo, bf), Holds.star.2 H⟩

theorem GrR_empty [Extra] {w : World} {bo : Nat} {l : List HProp} (H : Holds w (mp (ki .i64) vm bo [] :: l)) : Holds w (GrR bo (fun _ _ => False) :: l) :=
  GrR_in [] (by simp [mem]) (Holds.swap ((Holds.star (k := [])).2 H))

theorem rNew_spec [Extra] {w : World} {fr : List HProp} (H : Holds w fr) : Calls Tryz.prog 191 #[] w (ret fun v w' => ∃ p, v = pp p ∧ Holds w' (RS p [] :: fr)) := by
  refine calls_of Tryz.func191 rfl (by kernel_rfl) ?_
  refine J122 H ?_
  refine Lp_s rfl (St_makeMap v1 kp H rfl ?_)
  clear H; intro b1 w H
  refine Lp_s rfl (St_makeMap vm (ki .i64) H rfl ?_)
  clear H; intro b2 w H
  refine Lp_s rfl (St_makeMap vm (ki .i64) H rfl ?_)
  clear H; intro b3 w H
  refine J40 H ?_
  clear H; intro b5 w H
  refine J0 H ?_
  refine C_ret ?_
  replace H := GrR_empty (H.pull 1)
  replace H := GrR_empty (H.pull 2)
  replace H := Js [2,2,0,0] 0 H
  exact Jy H rfl (fun w' H' => ⟨b5, rfl, RS_in b1 b2 b3 (S := fun _ _ => False) (T := fun _ _ => False) (by simp [fnd]) (by simp [fnd]) H'⟩)

theorem lookV_v1 (o : Option Int) : lookV (.int .i64 0) v1 o = .int .i64 (o.getD 0) := by cases o <;> rfl

theorem rTo_spec [Extra] (p : Nat) (m : List (Rf × Int)) (r : Rf) {w : World} {fr : List HProp} (H : Holds w (RS p m :: fr)) :
    Calls Tryz.prog 169 #[pp p, rf r] w (ret fun v w' => v = .tuple #[.int .i64 ((fnd m r).getD 0), .bool (fnd m r).isSome] ∧ Holds w' (RS p m :: fr)) := by
  obtain ⟨a, b⟩ := r
  refine calls_of Tryz.func169 rfl (by kernel_rfl) ?_
  obtain ⟨bt, bo, bf, H⟩ := RS_out H
  refine J8 H ?_
  clear H; intro b3 w H
  refine J3 H ?_
  refine J175 H ?_
  refine J1 H ?_
  clear H; intro w H
  refine J100 H ?_
  refine A_loadN 4 [] H rfl (Wants.none rfl) rfl (by repeat (first | exact Reads.nil _ | apply Reads.cons rfl)) (by kernel_rfl) ?_
  refine A_lookup 5 [] (key := (a, b)) H rfl (Wants.none rfl) rfl rfl tkR (by kernel_rfl) ?_
  rw [lookV_v1]
  refine J146 H ?_
  refine J77 H ?_
  refine J4 H ?_
  refine J2 H ?_
  refine J3 H ?_
  refine C_ret (Jy (RS_in bt bo bf (fun _ _ => Iff.rfl) (fun _ _ => Iff.rfl) H.drop) rfl fun w' H' => ⟨rfl, H'⟩)

theorem rCut_spec [Extra] (p : Nat) (m : List (Rf × Int)) (hm : (m.map (·.1)).Nodup) (r : Rf) {w : World} {fr : List HProp} (H : Holds w (RS p m :: fr)) :
    Calls Tryz.prog 87 #[pp p, rf r] w (ret fun v w' => v = .bool (fnd m r).isSome ∧ Holds w' (RS p (era m r) :: fr)) := by
  obtain ⟨a, b⟩ := r
  refine calls_of Tryz.func87 rfl (by kernel_rfl) ?_
  refine J8 H ?_
  clear H; intro b3 w H
  refine J123 H ?_
  refine Jc rfl rfl (rTo_spec p m (a, b) H.swap) ?_
  clear H; rintro v w ⟨rfl, H⟩
  refine J68 H ?_
  cases hf : fnd m (a, b) with
  | none =>
    refine J34 H ?_
    rw [era_none (fnd_eq_none.1 hf)]
    refine C_ret (Jy H.swap.drop rfl fun w' H' => ⟨rfl, H'⟩)
  | some t =>
    refine J9 H ?_
    obtain ⟨bt, bo, bf, H⟩ := RS_out H
    refine J1 H ?_
    clear H; intro w H
    refine J151 H ?_
    refine Jo 5 H ?_
    refine St_delete (key := (a, b)) H rfl rfl tkR rfl ?_
    clear H; intro w H
    refine J4 H ?_
    replace H := Js [2,0,0,0,0] 0 H
    refine J1 H ?_
    clear H; intro w H
    refine J124 H ?_
    refine J62 H ?_
    refine A_loadN 5 [6] H rfl (Wants.none rfl) rfl (by repeat (first | exact Reads.nil _ | apply Reads.cons rfl)) (by kernel_rfl) ?_
    refine Jo 6 H ?_
    refine Jk rfl rfl (lose_spec bo _ t (a, b) H) ?_
    clear H; intro v w H
    refine J4 H ?_
    replace H := Js [3,0,0,0,0] 0 H
    refine J1 H ?_
    clear H; intro w H
    refine J28 H ?_
    refine A_load1 3 [7] H rfl (Wants.none rfl) rfl rfl (by kernel_rfl) ?_
    refine J47 H ?_
    refine A_load1 5 [7] H rfl (Wants.none rfl) rfl rfl (by kernel_rfl) ?_
    refine A_loadN 6 [7] H rfl (Wants.none rfl) rfl (by repeat (first | exact Reads.nil _ | apply Reads.cons rfl)) (by kernel_rfl) ?_
    refine Jo 7 H ?_
    refine Jk rfl rfl (lose_spec bf _ a (a, b) H) ?_
    clear H; intro v w H
    refine J4 H ?_
    refine J12 H ?_
    replace H := Js [2,2,1,0] 1 H
    refine C_ret (Jy (RS_in bt bo bf (fun k r => ?_) (fun k r => ?_) H) rfl fun w' H' => ⟨rfl, H'⟩)
    · rw [fnd_era hm]
      split
      · rename_i e; subst e; rw [hf]; simp; rintro rfl; rfl
      · rename_i e; exact ⟨(·.1), fun h => ⟨h, fun e' => e e'.2.symm⟩⟩
    · rw [fnd_era hm]
      split
      · rename_i e; subst e; simp; rintro rfl _; rfl
      · rename_i e; exact ⟨(·.1), fun h => ⟨h, fun e' => e e'.2.symm⟩⟩

theorem rPut_spec [Extra] (p : Nat) (m : List (Rf × Int)) (hm : (m.map (·.1)).Nodup) (r : Rf) (t : Int) {w : World} {fr : List HProp} (H : Holds w (RS p m :: fr)) :
    Calls Tryz.prog 305 #[pp p, rf r, .int .i64 t] w (ret fun v w' => v = .bool (!(fnd m r).isSome) ∧ Holds w' (RS p (ins (era m r) r t) :: fr)) := by
  obtain ⟨a, b⟩ := r
  refine calls_of Tryz.func305 rfl (by kernel_rfl) ?_
  refine J8 H ?_
  clear H; intro b4 w H
  refine J125 H ?_
  refine J72 H ?_
  refine Jc rfl rfl (rCut_spec p m hm (a, b) H.swap) ?_
  clear H; rintro v w ⟨rfl, H⟩
  refine J0 H ?_
  obtain ⟨bt, bo, bf, H⟩ := RS_out H
  refine J1 H ?_
  clear H; intro w H
  refine J124 H ?_
  refine A_loadN 4 [6] H rfl (Wants.none rfl) rfl (by repeat (first | exact Reads.nil _ | apply Reads.cons rfl)) (by kernel_rfl) ?_
  refine J54 H ?_
  refine Jo 6 H ?_
  refine St_mapUpdate (key := (a, b)) (v := t) H rfl rfl rfl tkR rfl ?_
  clear H; intro w H
  refine J4 H ?_
  replace H := Js [2,0,0,0,0] 0 H
  refine J1 H ?_
  clear H; intro w H
  refine J124 H ?_
  refine J62 H ?_
  refine A_loadN 5 [6] H rfl (Wants.none rfl) rfl (by repeat (first | exact Reads.nil _ | apply Reads.cons rfl)) (by kernel_rfl) ?_
  refine Jo 6 H ?_
  refine Jk rfl rfl (note_spec bo _ t (a, b) H) ?_
  clear H; intro v w H
  refine J4 H ?_
  replace H := Js [3,0,0,0,0] 0 H
  refine J1 H ?_
  clear H; intro w H
  refine J28 H ?_
  refine A_load1 3 [7] H rfl (Wants.none rfl) rfl rfl (by kernel_rfl) ?_
  refine J47 H ?_
  refine A_load1 5 [7] H rfl (Wants.none rfl) rfl rfl (by kernel_rfl) ?_
  refine A_loadN 6 [7] H rfl (Wants.none rfl) rfl (by repeat (first | exact Reads.nil _ | apply Reads.cons rfl)) (by kernel_rfl) ?_
  refine Jo 7 H ?_
  refine Jk rfl rfl (note_spec bf _ a (a, b) H) ?_
  clear H; intro v w H
  refine J4 H ?_
  refine J20 H ?_
  replace H := Js [2,2,1,0] 1 H
  have hn := fnd_era hm (x := (a, b)) (y := (a, b))
  rw [if_pos rfl] at hn
  refine C_ret (Jy (RS_in bt bo bf (fun k r => ?_) (fun k r => ?_) H) rfl fun w' H' => ⟨rfl, H'⟩)
  · rw [fnd_ins]
    split
    · rename_i e; subst e; rw [hn]; simp; exact eq_comm
    · rename_i e; exact ⟨fun h => h.elim id fun e' => absurd e'.2.symm e, .inl⟩
  · rw [fnd_ins]
    split
    · rename_i e; subst e; rw [hn]; simp; exact eq_comm
    · rename_i e; exact ⟨fun h => h.elim id fun e' => absurd e'.2.symm e, .inl⟩

end Go.Proofs.YtipelpbkeiphmaaGreatDoor
namespace Go.Proofs.YtipelpbkeiphmaaGreatDoor
open Go.SL

def TRE (p last : Nat) (par : List (Int × Int)) : HProp := ex fun b : Nat => star [pts p (row 207 [.map (some b), .int .i64 last]), mp (ki .i64) v1 b par]
theorem TRE_out [Extra] {w : World} {p last : Nat} {par : List (Int × Int)} {l : List HProp} (H : Holds w (TRE p last par :: l)) : ∃ b, Holds w (pts p (row 207 [.map (some b), .int .i64 last]) :: mp (ki .i64) v1 b par :: l) := by
  obtain ⟨b, H⟩ := Holds.ex.1 H
  exact ⟨b, Holds.star.1 H⟩
theorem TRE_in [Extra] {w : World} {p last b : Nat} {par : List (Int × Int)} {l : List HProp} (H : Holds w (pts p (row 207 [.map (some b), .int .i64 last]) :: mp (ki .i64) v1 b par :: l)) : Holds w (TRE p last par :: l) :=
  Holds.ex.2 ⟨b, Holds.star.2 H⟩
theorem TRE_keys [Extra] {w : World} {p last : Nat} {par : List (Int × Int)} {l : List HProp} (H : Holds w (TRE p last par :: l)) : (par.map (·.1)).Nodup := by
  obtain ⟨b, H⟩ := TRE_out H
  exact keys_nodup b H

theorem trNew_spec [Extra] {w : World} {fr : List HProp} (H : Holds w fr) : Calls Tryz.prog 190 #[] w (ret fun v w' => ∃ p, v = pp p ∧ Holds w' (TRE p 0 [] :: fr)) := by
  refine calls_of Tryz.func190 rfl (by kernel_rfl) ?_
  refine J122 H ?_
  refine Lp_s rfl (St_makeMap v1 (ki .i64) H rfl ?_)
  clear H; intro b1 w H
  refine J40 H ?_
  clear H; intro b3 w H
  refine J0 H ?_
  exact C_ret (Jy H rfl fun w' H' => ⟨_, rfl, TRE_in H'⟩)

theorem Live_spec [Extra] (p last : Nat) (par : List (Int × Int)) (id : Int) {w : World} {fr : List HProp} (H : Holds w (TRE p last par :: fr)) :
    Calls Tryz.prog 67 #[pp p, .int .i64 id] w (ret fun v w' => v = .bool (fnd par id).isSome ∧ Holds w' (TRE p last par :: fr)) := by
  obtain ⟨b, H⟩ := TRE_out H
  refine calls_of Tryz.func67 rfl (by kernel_rfl) ?_
  refine J83 H ?_
  refine Lp_s rfl (St_lookup (key := id) H rfl rfl tkI rfl ?_)
  refine J142 H ?_
  refine Lp_mv rfl rfl ?_
  refine J25 H ?_
  exact C_ret (Jy (TRE_in H) rfl fun w' H' => ⟨rfl, H'⟩)

theorem need_spec [Extra] (p last : Nat) (par : List (Int × Int)) (id : Int) {w : World} {fr : List HProp} (H : Holds w (TRE p last par :: fr)) :
    Calls Tryz.prog 119 #[pp p, .int .i64 id] w (ret fun v w' => v = .int .i64 (if (fnd par id).isSome then 0 else 6) ∧ Holds w' (TRE p last par :: fr)) := by
  refine calls_of Tryz.func119 rfl (by kernel_rfl) ?_
  refine J13 H ?_
  refine C_joinQ (fun ms σ w => ms = [] ∧ (fnd par id).isSome = true ∧ Holds w (TRE p last par :: fr)) ?_ ?_
  · refine J59 H ?_
    refine J2 H ?_
    refine Jc rfl rfl (Live_spec p last par id H) ?_
    clear H; rintro v w ⟨rfl, H⟩
    cases hf : (fnd par id).isSome with
    | true =>
      refine J56 H ?_
      exact .inl ⟨rfl, rfl, rfl, H⟩
    | false =>
      refine J3 H ?_
      refine J34 H ?_
      exact C_ret (.inr ⟨by simp, Jy H rfl fun w' H' => ⟨rfl, H'⟩⟩)
  · clear H
    rintro ms σ w ⟨rfl, hf, H⟩
    rw [hf]
    refine J12 H ?_
    exact C_ret (Jy H rfl fun w' H' => ⟨rfl, H'⟩)

/-- What Add answers: the error. -/
def addErr (par : List (Int × Int)) (parent : Int) : Nat := if parent ≠ 0 ∧ (fnd par parent).isSome = false then 6 else if par.length = 64 then 5 else 0

theorem trAdd_spec [Extra] (p last : Nat) (par : List (Int × Int)) (parent : Int) (hlast : last < 1000000) (hup : ∀ r q, (r, q) ∈ par → r ≤ (last : Int)) {w : World} {fr : List HProp} (H : Holds w (TRE p last par :: fr)) :
    Calls Tryz.prog 100 #[pp p, .int .i64 parent] w (ret fun v w' => (addErr par parent ≠ 0 ∧ v = .tuple #[.int .i64 0, .int .i64 (addErr par parent)] ∧ Holds w' (TRE p last par :: fr)) ∨
      (addErr par parent = 0 ∧ v = .tuple #[.int .i64 ((last + 1 : Nat) : Int), .int .i64 0] ∧ Holds w' (TRE p (last + 1) (par ++ [(((last + 1 : Nat) : Int), parent)]) :: fr))) := by
  refine calls_of Tryz.func100 rfl (by kernel_rfl) ?_
  refine J143 H ?_
  refine C_joinQ (fun ms σ w => ms = [] ∧ addErr par parent = 0 ∧ σ 0 = pp p ∧ σ 1 = .int .i64 parent ∧ Holds w (TRE p last par :: fr)) ?_ ?_
  · refine J59 H ?_
    refine J14 H ?_
    refine C_join (fun ms σ w => ms = [] ∧ (∃ q, σ 9 = .bool q ∧ (q = true ↔ parent ≠ 0 ∧ (fnd par parent).isSome = false)) ∧ σ 0 = pp p ∧ σ 1 = .int .i64 parent ∧ Holds w (TRE p last par :: fr)) ?_ ?_
    · refine J2 H ?_
      by_cases h0 : parent = 0
      · rw [show (parent != 0) = false by simpa using h0]
        refine J7 H ?_
        refine J41 H ?_
        refine J3 H ?_
        exact ⟨rfl, rfl, ⟨false, rfl, by simp [h0]⟩, rfl, rfl, H⟩
      · rw [show (parent != 0) = true by simpa using h0]
        refine J111 H ?_
        refine Lp_g rfl rfl rfl (St_call (a := []) (b := []) rfl rfl (call (Live_spec p last par parent H) ?_))
        clear H; rintro v w ⟨rfl, H⟩
        refine J22 H ?_
        refine J3 H ?_
        exact ⟨rfl, rfl, ⟨!(fnd par parent).isSome, rfl, by simp [h0]⟩, rfl, rfl, H⟩
    · clear H
      rintro ms σ w ⟨rfl, ⟨q, g9, hq⟩, g0, g1, H⟩
      rw [upd_self g9, upd_self g0, upd_self g1]
      cases q with
      | true =>
        have he : addErr par parent = 6 := by unfold addErr; rw [if_pos (hq.1 rfl)]
        refine J29 H ?_
        exact C_ret (.inr ⟨by simp, Jy H rfl fun w' H' => .inl ⟨by omega, by rw [he]; rfl, H'⟩⟩)
      | false =>
        have hq' : ¬ (parent ≠ 0 ∧ (fnd par parent).isSome = false) := fun h => by have := hq.2 h; cases this
        obtain ⟨b, H⟩ := TRE_out H
        refine J109 H ?_
        refine J48 H ?_
        refine Lp_s rfl (St_lenMap (ki .i64) v1 H rfl rfl ?_)
        refine J3 H ?_
        by_cases h64 : par.length = 64
        · have he : addErr par parent = 5 := by unfold addErr; rw [if_neg hq', if_pos h64]
          rw [show ((par.length : Int) == 64) = true by simp; omega]
          refine J29 H ?_
          exact C_ret (.inr ⟨by simp, Jy (TRE_in H) rfl fun w' H' => .inl ⟨by omega, by rw [he]; rfl, H'⟩⟩)
        · have he : addErr par parent = 0 := by unfold addErr; rw [if_neg hq', if_neg h64]
          rw [show ((par.length : Int) == 64) = false by simp; omega]
          refine J9 H ?_
          exact .inl ⟨rfl, rfl, he, rfl, rfl, TRE_in H⟩
  · clear H
    rintro ms σ w ⟨rfl, he, g0, g1, H⟩
    rw [upd_self g0, upd_self g1]
    obtain ⟨b, H⟩ := TRE_out H
    refine J18 H ?_
    rw [wrap64 (x := ((last : Nat) : Int) + 1) (by omega) (by omega), show ((last : Nat) : Int) + 1 = ((last + 1 : Nat) : Int) by omega]
    refine J52 H ?_
    clear H; intro w H
    refine Lp_nil ?_
    refine J1 H ?_
    clear H; intro w H
    refine J28 H ?_
    refine A_load1 3 [9] H rfl (Wants.none rfl) rfl rfl (by kernel_rfl) ?_
    refine J79 H ?_
    refine J57 H ?_
    refine A_load1 7 [9] H rfl (Wants.none rfl) rfl rfl (by kernel_rfl) ?_
    refine J55 H ?_
    refine Jo 9 H ?_
    refine St_mapUpdate (v := parent) (key := ((last + 1 : Nat) : Int)) H rfl rfl rfl tkI rfl ?_
    clear H; intro w H
    refine J4 H ?_
    refine J48 H ?_
    refine J3 H ?_
    rw [ins_none (fun h => by
      obtain ⟨⟨a, q⟩, hm, h1⟩ := List.mem_map.1 h
      have h1 : a = ((last + 1 : Nat) : Int) := h1
      have := hup a q hm
      omega)] at H
    exact C_ret (Jy (TRE_in H) rfl fun w' H' => .inr ⟨he, rfl, H'⟩)
end Go.Proofs.YtipelpbkeiphmaaGreatDoor
namespace Go.Proofs.YtipelpbkeiphmaaGreatDoor
/-! ### A table's slots -/

/-- What a used slot has: where its object is, its region, held, pinned; and what the object is: its layout, its count, its words. -/
structure Ent where
  addr : Nat
  region : Int
  held : Bool
  pinned : Bool
  lay : Nat
  count : Nat
  ws : List Nat
structure Slt where
  gen : Nat
  ent : Option Ent
def lookT (ts : List Slt) (i g : Int) : Option (Nat × Ent) :=
  if 0 ≤ i then
    match ts[i.toNat]? with
    | some ⟨n, some e⟩ => if (n : Int) = g then some (i.toNat, e) else none
    | _ => none
  else none
theorem lookT_some {ts : List Slt} {i g : Int} {k : Nat} {e : Ent} : lookT ts i g = some (k, e) ↔ ∃ n : Nat, i = k ∧ g = n ∧ ts[k]? = some ⟨n, some e⟩ := by
  unfold lookT
  constructor
  · intro h
    split at h
    · rename_i h0
      split at h
      · rename_i n e' he
        split at h
        · rename_i hn
          injection h with h
          injection h with h1 h2
          subst h1 h2
          exact ⟨n, by omega, hn.symm, he⟩
        · cases h
      · cases h
    · cases h
  · rintro ⟨n, rfl, rfl, h⟩
    rw [if_pos (by omega)]
    simp only [Int.toNat_natCast, h]
    rw [if_pos trivial]
/-- The valid token's entry. -/
def validT (ts : List Slt) (i g : Int) : Option (Nat × Ent) :=
  match lookT ts i g with
  | some (k, e) => if e.held then some (k, e) else none
  | none => none
theorem validT_some {ts : List Slt} {i g : Int} {k : Nat} {e : Ent} : validT ts i g = some (k, e) ↔ lookT ts i g = some (k, e) ∧ e.held = true := by
  unfold validT
  cases h : lookT ts i g with
  | none => simp
  | some q =>
    obtain ⟨k', e'⟩ := q
    simp only
    split
    · rename_i hh
      constructor
      · intro h1; cases h1; exact ⟨rfl, hh⟩
      · rintro ⟨h1, _⟩; exact h1
    · rename_i hh
      constructor
      · intro h1; cases h1
      · rintro ⟨h1, h2⟩; cases h1; exact absurd h2 hh

/-! ### Chunks of an owner -/

structure Spc where
  parts : List (Nat × Nat)
  at' : Nat
  fin : Nat
def chunksOf (l : List (Nat × Nat)) : List Nat := l.flatMap fun p => (List.range p.2).map (p.1 + ·)

/-! ### All of it -/

structure CS where
  size : Nat
  own : List Nat
  lays : List Lay
  tab : List Slt
  last : Nat
  par : List (Int × Int)
  rem : List ((Int × Int) × Int)
  sps : List (Int × Nat × Spc)
  mns : List (Int × Nat × List Nat)

/-- An object's words, as they have to be. -/
structure ObjOK (lays : List Lay) (i : Nat) (e : Ent) : Prop where
  may : MayH e.lay e.count i
  lay : ∃ l, lays[e.lay - 1]? = some l ∧ RightL l ∧ sizeL l e.count = (e.ws.length, 0) ∧ ∀ p w, e.ws[p]? = some w → w < 18446744073709551616 ∧ (isRefL l p = true → ∃ k, okL k ∧ w = wordL k)

def endOf (e : Ent) : Nat := e.addr + 1 + e.ws.length
/-- The words lie in chunks of the object's region. -/
def Lies (size : Nat) (own : List Nat) (e : Ent) : Prop := endOf e ≤ own.length * size ∧ ∀ c, e.addr / size ≤ c → c ≤ (e.addr + e.ws.length) / size → ∃ r : Nat, own[c]? = some r ∧ (r : Int) = e.region ∧ 1 ≤ r

structure SpcOK (size : Nat) (own : List Nat) (r : Int) (S : Spc) : Prop where
  at1 : S.at' ≤ S.fin
  fin : S.fin ≠ 0 → ∃ c, S.fin = (c + 1) * size ∧ c * size < S.at' ∧ (c, 1) ∈ S.parts
  parts : ∀ p ∈ S.parts, 1 ≤ p.2 ∧ p.1 + p.2 ≤ own.length
  nodup : (chunksOf S.parts).Nodup
  owned : ∀ c, c ∈ chunksOf S.parts ↔ ∃ q : Nat, own[c]? = some q ∧ (q : Int) = r ∧ q ≠ 0

structure WF (s : CS) : Prop where
  size : 1 ≤ s.size ∧ s.size ≤ 1024
  own : 1 ≤ s.own.length ∧ s.own.length ≤ 63
  slots : 1 ≤ s.tab.length ∧ s.tab.length ≤ 63
  lays : s.lays.length ≤ 64 ∧ ∀ l ∈ s.lays, RightL l
  gen : ∀ (i : Nat) (t : Slt), s.tab[i]? = some t → t.gen ≤ 255 ∧ (t.ent.isSome = true → 1 ≤ t.gen)
  obj : ∀ (i g : Nat) (e : Ent), s.tab[i]? = some ⟨g, some e⟩ → ObjOK s.lays i e ∧ Lies s.size s.own e ∧ (∃ q, (e.region, q) ∈ s.par)
  apart : ∀ (i j g h : Nat) (e f : Ent), i ≠ j → s.tab[i]? = some ⟨g, some e⟩ → s.tab[j]? = some ⟨h, some f⟩ → endOf e ≤ f.addr ∨ endOf f ≤ e.addr
  par : s.par.length ≤ 64 ∧ s.last < 1000000 ∧ ∀ r q, (r, q) ∈ s.par → 1 ≤ r ∧ r ≤ s.last
  skeys : s.sps.map (·.1) = s.par.map (·.1)
  mkeys : s.mns.map (·.1) = s.par.map (·.1)
  spc : ∀ x ∈ s.sps, SpcOK s.size s.own x.1 x.2.2
  free : ∀ x ∈ s.sps, ∀ (i g : Nat) (e : Ent), s.tab[i]? = some ⟨g, some e⟩ → endOf e ≤ x.2.2.at' ∨ x.2.2.fin ≤ e.addr
  live : ∀ (c r : Nat), s.own[c]? = some r → r ≠ 0 → ∃ q, ((r : Int), q) ∈ s.par
  mine : ∀ x ∈ s.mns, x.2.2.Pairwise (· < ·) ∧ ∀ i, i ∈ x.2.2 ↔ ∃ g e, s.tab[i]? = some ⟨g, some e⟩ ∧ e.region = x.1
/-- What the words of a store are. -/
structure MemOK (s : CS) (mem : List Nat) : Prop where
  len : mem.length = s.own.length * s.size
  head : ∀ (i g : Nat) (e : Ent), s.tab[i]? = some ⟨g, some e⟩ → mem[e.addr]? = some (encH e.lay e.count i)
  words : ∀ (i g : Nat) (e : Ent), s.tab[i]? = some ⟨g, some e⟩ → ∀ (p w : Nat), e.ws[p]? = some w → mem[e.addr + 1 + p]? = some w
/-! ### Turns of the state -/

theorem tab_set {ts : List Slt} {i j : Nat} {t u : Slt} (h : (ts.set i t)[j]? = some u) : (j = i ∧ u = t ∧ i < ts.length) ∨ (j ≠ i ∧ ts[j]? = some u) := by
  rw [List.getElem?_set] at h
  by_cases hij : i = j
  · subst hij
    rw [if_pos rfl] at h
    split at h
    · rename_i hl
      injection h with h
      exact .inl ⟨rfl, h.symm, hl⟩
    · cases h
  · rw [if_neg hij] at h
    exact .inr ⟨fun e => hij e.symm, h⟩

/-- The same object, with other words, held or pinned otherwise. -/
structure Alike (e e' : Ent) : Prop where
  addr : e'.addr = e.addr
  region : e'.region = e.region
  lay : e'.lay = e.lay
  count : e'.count = e.count
  len : e'.ws.length = e.ws.length
theorem Alike.end {e e' : Ent} (h : Alike e e') : endOf e' = endOf e := by unfold endOf; rw [h.addr, h.len]
theorem Alike.lies {e e' : Ent} (h : Alike e e') {size : Nat} {own : List Nat} (l : Lies size own e) : Lies size own e' := by
  unfold Lies at *
  rw [h.end, h.addr, h.len, h.region]
  exact l

def setE (s : CS) (i g : Nat) (e : Ent) : CS := { s with tab := s.tab.set i ⟨g, some e⟩ }
theorem WF_setE {s : CS} (h : WF s) {i g : Nat} {e e' : Ent} (hi : s.tab[i]? = some ⟨g, some e⟩) (a : Alike e e') (ok : ObjOK s.lays i e') : WF (setE s i g e') := by
  have ho := h.obj i g e hi
  refine ⟨h.size, h.own, by show 1 ≤ (s.tab.set _ _).length ∧ (s.tab.set _ _).length ≤ 63; rw [List.length_set]; exact h.slots, h.lays, ?_, ?_, ?_, h.par, h.skeys, h.mkeys, h.spc, ?_, h.live, ?_⟩
  · intro j t hj
    rcases tab_set hj with ⟨rfl, rfl, _⟩ | ⟨_, hj⟩
    · exact ⟨(h.gen _ _ hi).1, fun _ => (h.gen _ _ hi).2 rfl⟩
    · exact h.gen _ _ hj
  · intro j k f hj
    rcases tab_set hj with ⟨rfl, ht, _⟩ | ⟨_, hj⟩
    · injection ht with h1 h2
      injection h2 with h2
      subst h1 h2
      exact ⟨ok, a.lies ho.2.1, by rw [a.region]; exact ho.2.2⟩
    · exact h.obj _ _ _ hj
  · intro j k m n f f' hne hj hk
    rcases tab_set hj with ⟨rfl, ht, _⟩ | ⟨hji, hj'⟩ <;> rcases tab_set hk with ⟨rfl, hu, _⟩ | ⟨hki, hk'⟩
    · exact absurd rfl hne
    · injection ht with h1 h2
      injection h2 with h2
      subst h1 h2
      rw [a.end, a.addr]
      exact h.apart _ _ _ n _ _ hne hi hk'
    · injection hu with h1 h2
      injection h2 with h2
      subst h1 h2
      rw [a.end, a.addr]
      exact h.apart _ _ m _ _ _ hne hj' hi
    · exact h.apart _ _ _ _ _ _ hne hj' hk'
  · intro x hx j k f hj
    rcases tab_set hj with ⟨rfl, ht, _⟩ | ⟨_, hj⟩
    · injection ht with h1 h2
      injection h2 with h2
      subst h1 h2
      rw [a.end, a.addr]
      exact h.free x hx _ _ _ hi
    · exact h.free x hx _ _ _ hj
  · intro x hx
    obtain ⟨h1, h2⟩ := h.mine x hx
    refine ⟨h1, fun j => ?_⟩
    rw [h2]
    have hil : i < s.tab.length := (List.getElem?_eq_some_iff.1 hi).1
    constructor
    · rintro ⟨m, f, hj, hf⟩
      by_cases hij : j = i
      · subst hij
        rw [hi] at hj
        cases hj
        exact ⟨g, e', by show (s.tab.set _ _)[_]? = _; simp [hil], by rw [a.region]; exact hf⟩
      · exact ⟨m, f, by show (s.tab.set _ _)[_]? = _; rw [List.getElem?_set_ne (fun q => hij q.symm)]; exact hj, hf⟩
    · rintro ⟨m, f, hj, hf⟩
      rcases tab_set hj with ⟨rfl, ht, _⟩ | ⟨_, hj⟩
      · injection ht with h1 h2
        injection h2 with h2
        subst h1 h2
        exact ⟨_, _, hi, by rw [← a.region]; exact hf⟩
      · exact ⟨m, f, hj, hf⟩
/-- .. and its words in the store. -/
theorem MemOK_setE {s : CS} (h : WF s) {mem : List Nat} (m : MemOK s mem) {i g : Nat} {e e' : Ent} (hi : s.tab[i]? = some ⟨g, some e⟩) (a : Alike e e') {mem' : List Nat} (hl : mem'.length = mem.length)
    (hin : ∀ (p w : Nat), e'.ws[p]? = some w → mem'[e.addr + 1 + p]? = some w) (hh : mem'[e.addr]? = mem[e.addr]?) (hout : ∀ k, k < e.addr ∨ endOf e ≤ k → mem'[k]? = mem[k]?) : MemOK (setE s i g e') mem' := by
  refine ⟨by rw [hl]; exact m.len, ?_, ?_⟩
  · intro j k f hj
    rcases tab_set hj with ⟨rfl, ht, _⟩ | ⟨hji, hj⟩
    · injection ht with h1 h2
      injection h2 with h2
      subst h1 h2
      rw [a.addr, a.lay, a.count, hh]
      exact m.head _ _ _ hi
    · have := h.apart _ _ _ _ _ _ hji hj hi
      rw [hout _ (by unfold endOf at this ⊢; omega)]
      exact m.head _ _ _ hj
  · intro j k f hj p w hw
    rcases tab_set hj with ⟨rfl, ht, _⟩ | ⟨hji, hj⟩
    · injection ht with h1 h2
      injection h2 with h2
      subst h1 h2
      rw [a.addr]
      exact hin p w hw
    · have := h.apart _ _ _ _ _ _ hji hj hi
      have hp := (List.getElem?_eq_some_iff.1 hw).1
      rw [hout _ (by unfold endOf at this ⊢; omega)]
      exact m.words _ _ _ hj p w hw
/-- One word is another one. -/
theorem MemOK_word {s : CS} (h : WF s) {mem : List Nat} (m : MemOK s mem) {i g : Nat} {e : Ent} (hi : s.tab[i]? = some ⟨g, some e⟩) {p x : Nat} (hp : p < e.ws.length) : MemOK (setE s i g { e with ws := e.ws.set p x }) (mem.set (e.addr + 1 + p) x) := by
  have hend : endOf e ≤ mem.length := by rw [m.len]; exact (h.obj i g e hi).2.1.1
  refine MemOK_setE (e' := { e with ws := e.ws.set p x }) h m hi ⟨rfl, rfl, rfl, rfl, by show (e.ws.set p x).length = _; simp⟩ (by simp) ?_ ?_ ?_
  · intro q w hw
    have hw : (e.ws.set p x)[q]? = some w := hw
    rw [List.getElem?_set] at hw
    by_cases hpq : p = q
    · subst hpq
      rw [if_pos rfl, if_pos hp] at hw
      injection hw with hw
      subst hw
      rw [List.getElem?_set_self (by unfold endOf at hend; omega)]
    · rw [if_neg hpq] at hw
      rw [List.getElem?_set_ne (by omega)]
      exact m.words _ _ _ hi q w hw
  · rw [List.getElem?_set_ne (by omega)]
  · intro k hk
    rw [List.getElem?_set_ne (by unfold endOf at hk; omega)]
theorem ObjOK_word {lays : List Lay} {i : Nat} {e : Ent} (h : ObjOK lays i e) {l : Lay} (hl : lays[e.lay - 1]? = some l) {p x : Nat} (hx : x < 18446744073709551616) (hr : isRefL l p = true → ∃ k, okL k ∧ x = wordL k) : ObjOK lays i { e with ws := e.ws.set p x } := by
  obtain ⟨m, l', h1, h2, h3, h4⟩ := h
  rw [hl] at h1
  cases h1
  refine ⟨m, l, hl, h2, by simpa using h3, fun q w hw => ?_⟩
  have hw : (e.ws.set p x)[q]? = some w := hw
  rw [List.getElem?_set] at hw
  by_cases hpq : p = q
  · subst hpq
    rw [if_pos rfl] at hw
    split at hw
    · injection hw with hw
      subst hw
      exact ⟨hx, hr⟩
    · cases hw
  · rw [if_neg hpq] at hw
    exact h4 q w hw
end Go.Proofs.YtipelpbkeiphmaaGreatDoor
namespace Go.Proofs.YtipelpbkeiphmaaGreatDoor
/-! ### An object more -/

theorem Lies.chunk {size : Nat} (h1 : 1 ≤ size) {own : List Nat} {e : Ent} (h : Lies size own e) (c : Nat) : (endOf e ≤ c * size ∨ (c + 1) * size ≤ e.addr) ∨ ∃ r : Nat, own[c]? = some r ∧ (r : Int) = e.region ∧ 1 ≤ r := by
  by_cases ha : c < e.addr / size
  · left; right
    have := (Nat.le_div_iff_mul_le (by omega)).1 (Nat.succ_le_of_lt ha)
    exact this
  · by_cases hb : (e.addr + e.ws.length) / size < c
    · left; left
      have := (Nat.div_lt_iff_lt_mul (by omega)).1 hb
      unfold endOf
      omega
    · right
      exact h.2 c (by omega) (by omega)

/-- What Alloc does. -/
inductive Alloced (size : Nat) (own mem : List Nat) (r : Nat) (S : Spc) (n : Nat) : List Nat → List Nat → Spc → Nat → Prop where
  | room (h : n ≤ S.fin - S.at') : Alloced size own mem r S n own mem { S with at' := S.at' + n } S.at'
  | one {a : Nat} (ha : a + 1 ≤ own.length) (hf : own[a]? = some 0) (hn : n ≤ size) : Alloced size own mem r S n (setR own a 1 r) (setR mem (a * size) (1 * size) 0) ⟨S.parts ++ [(a, 1)], a * size + n, (a + 1) * size⟩ (a * size)
  | run {a k : Nat} (hk : 2 ≤ k) (ha : a + k ≤ own.length) (hf : ∀ c, a ≤ c → c < a + k → own[c]? = some 0) (hn : n ≤ k * size) (hn2 : (k - 1) * size < n) : Alloced size own mem r S n (setR own a k r) (setR mem (a * size) (k * size) 0) ⟨S.parts ++ [(a, k)], S.at', S.fin⟩ (a * size)

theorem chunksOf_append (a b : List (Nat × Nat)) : chunksOf (a ++ b) = chunksOf a ++ chunksOf b := by simp [chunksOf]
theorem chunksOf_one (a k : Nat) : chunksOf [(a, k)] = (List.range k).map (a + ·) := by simp [chunksOf]
theorem mem_run {a k c : Nat} : c ∈ (List.range k).map (a + ·) ↔ a ≤ c ∧ c < a + k := by
  simp only [List.mem_map, List.mem_range]
  constructor
  · rintro ⟨i, h, rfl⟩; omega
  · rintro ⟨h1, h2⟩; exact ⟨c - a, by omega, by omega⟩
theorem nodup_run (a k : Nat) : ((List.range k).map (a + ·)).Nodup := by
  refine List.Pairwise.map _ (fun x y h => ?_) List.nodup_range
  omega

/-- Chunks that were nobody's are somebody's. -/
theorem lies_own {size : Nat} {own : List Nat} {a k r : Nat} (ha : a + k ≤ own.length) (hf : ∀ c, a ≤ c → c < a + k → own[c]? = some 0) {e : Ent} (h : Lies size own e) : Lies size (setR own a k r) e := by
  refine ⟨by rw [setR_length ha]; exact h.1, fun c h1 h2 => ?_⟩
  obtain ⟨q, hq, hr, h1⟩ := h.2 c h1 h2
  rw [setR_get ha, if_neg]
  · exact ⟨q, hq, hr, h1⟩
  · rintro ⟨h2, h3⟩
    rw [hf c h2 h3] at hq
    cases hq
    omega
theorem spc_own {size : Nat} {own : List Nat} {a k r : Nat} (ha : a + k ≤ own.length) (hf : ∀ c, a ≤ c → c < a + k → own[c]? = some 0) {q : Int} {S : Spc} (hq : q ≠ r) (h : SpcOK size own q S) : SpcOK size (setR own a k r) q S := by
  refine ⟨h.at1, h.fin, by rw [setR_length ha]; exact h.parts, h.nodup, fun c => ?_⟩
  rw [h.owned, setR_get ha]
  by_cases hc : a ≤ c ∧ c < a + k
  · rw [if_pos hc, hf c hc.1 hc.2]
    constructor
    · rintro ⟨x, h1, _, h3⟩; cases h1; omega
    · rintro ⟨x, h1, h2, _⟩; cases h1; omega
  · rw [if_neg hc]
theorem spc_more {size : Nat} {own : List Nat} {a k r : Nat} (ha : a + k ≤ own.length) (hf : ∀ c, a ≤ c → c < a + k → own[c]? = some 0) (hk : 1 ≤ k) (hr : 1 ≤ r) {S : Spc} (h : SpcOK size own r S) {x y : Nat}
    (h1 : x ≤ y) (h2 : y ≠ 0 → ∃ c, y = (c + 1) * size ∧ c * size < x ∧ (c, 1) ∈ S.parts ++ [(a, k)]) : SpcOK size (setR own a k r) r ⟨S.parts ++ [(a, k)], x, y⟩ := by
  refine ⟨h1, h2, ?_, ?_, fun c => ?_⟩
  · intro p hp
    rw [setR_length ha]
    rcases List.mem_append.1 hp with hp | hp
    · exact h.parts p hp
    · simp at hp
      subst hp
      exact ⟨hk, ha⟩
  · show (chunksOf (S.parts ++ [(a, k)])).Nodup
    rw [chunksOf_append, chunksOf_one, List.nodup_append]
    refine ⟨h.nodup, nodup_run a k, fun c hc d hd => ?_⟩
    rintro rfl
    obtain ⟨q, h1, _, h3⟩ := (h.owned c).1 hc
    have h4 := mem_run.1 hd
    rw [hf c h4.1 h4.2] at h1
    cases h1
    omega
  · show c ∈ chunksOf (S.parts ++ [(a, k)]) ↔ _
    rw [chunksOf_append, chunksOf_one, List.mem_append, mem_run, h.owned, setR_get ha]
    by_cases hc : a ≤ c ∧ c < a + k
    · rw [if_pos hc]
      constructor
      · intro _; exact ⟨r, rfl, rfl, by omega⟩
      · intro _; exact .inr hc
    · rw [if_neg hc]
      constructor
      · rintro (h | h)
        · exact h
        · exact absurd h hc
      · intro h; exact .inl h

theorem mid_of {α : Type} {a b : List α} {x y : α} (h : x ∈ a ++ b) : x ∈ a ++ y :: b := by
  rcases List.mem_append.1 h with h | h
  · exact List.mem_append.2 (.inl h)
  · exact List.mem_append.2 (.inr (List.mem_cons_of_mem _ h))
theorem of_mid {α : Type} {a b : List α} {x y : α} (h : x ∈ a ++ y :: b) : x = y ∨ x ∈ a ++ b := by
  rcases List.mem_append.1 h with h | h
  · exact .inr (List.mem_append.2 (.inl h))
  · rcases List.mem_cons.1 h with h | h
    · exact .inl h
    · exact .inr (List.mem_append.2 (.inr h))
theorem keys_mid {K V : Type} {g1 g2 : List (K × V)} {x x' : K × V} (h : x'.1 = x.1) : (g1 ++ x' :: g2).map (·.1) = (g1 ++ x :: g2).map (·.1) := by simp [h]

/-- The state with one object more. -/
theorem WF_make {s : CS} (h : WF s) {i g0 : Nat} (hi : s.tab[i]? = some ⟨g0, none⟩) (hg : g0 ≤ 254) {r : Nat} {q q2 : Nat} {S : Spc} {L : List Nat} {p1 p2 : List (Int × Nat × Spc)} {m1 m2 : List (Int × Nat × List Nat)}
    (hs : s.sps = p1 ++ ((r : Int), q, S) :: p2) (hm : s.mns = m1 ++ ((r : Int), q2, L) :: m2) (hnd : (s.par.map (·.1)).Nodup) {e : Ent} (hreg : e.region = r) (ok : ObjOK s.lays i e) {own' mem mem' : List Nat} {S' : Spc}
    (al : Alloced s.size s.own mem r S (e.ws.length + 1) own' mem' S' e.addr) {L' : List Nat} (hL : L'.Pairwise (· < ·)) (hL' : ∀ j, j ∈ L' ↔ j = i ∨ j ∈ L) :
    WF { s with own := own', tab := s.tab.set i ⟨g0 + 1, some e⟩, sps := p1 ++ ((r : Int), q, S') :: p2, mns := m1 ++ ((r : Int), q2, L') :: m2 } := by
  have hs1 := h.size.1
  have hil : i < s.tab.length := (List.getElem?_eq_some_iff.1 hi).1
  have hS : SpcOK s.size s.own r S := h.spc ((r : Int), q, S) (by rw [hs]; simp)
  have hlive : ∃ y, ((r : Int), y) ∈ s.par := by
    have : (r : Int) ∈ s.par.map (·.1) := by rw [← h.skeys, hs]; simp
    obtain ⟨⟨a, b⟩, hab, rfl⟩ := List.mem_map.1 this
    exact ⟨b, hab⟩
  have hr1 : 1 ≤ r := by obtain ⟨y, hy⟩ := hlive; have := (h.par.2.2 _ _ hy).1; omega
  have hnk : ((p1 ++ ((r : Int), q, S) :: p2).map (·.1)).Nodup := by rw [← hs, h.skeys]; exact hnd
  have hother : ∀ x ∈ p1 ++ p2, x ∈ s.sps ∧ x.1 ≠ (r : Int) := by
    intro x hx
    refine ⟨by rw [hs]; exact mid_of hx, fun hx1 => ?_⟩
    rw [List.map_append, List.map_cons, List.nodup_append] at hnk
    obtain ⟨_, h2, h3⟩ := hnk
    rcases List.mem_append.1 hx with hx | hx
    · exact h3 x.1 (List.mem_map.2 ⟨x, hx, rfl⟩) (r : Int) (by simp) hx1
    · rw [List.nodup_cons] at h2
      exact h2.1 (List.mem_map.2 ⟨x, hx, hx1⟩)
  have hmem : ∀ x, x ∈ p1 ++ ((r : Int), q, S') :: p2 → x = ((r : Int), q, S') ∨ x ∈ p1 ++ p2 := by
    exact fun x hx => of_mid hx
  -- the parts that the three ways of getting words have in common
  have key : own'.length = s.own.length ∧ Lies s.size own' e ∧ (∀ f, Lies s.size s.own f → Lies s.size own' f) ∧ SpcOK s.size own' r S' ∧ (∀ x ∈ p1 ++ p2, SpcOK s.size own' x.1 x.2.2) ∧
      (∀ (j g : Nat) (f : Ent), s.tab[j]? = some ⟨g, some f⟩ → (endOf f ≤ e.addr ∨ endOf e ≤ f.addr) ∧ (endOf f ≤ S'.at' ∨ S'.fin ≤ f.addr)) ∧ (endOf e ≤ S'.at' ∨ S'.fin ≤ e.addr) ∧ (∀ (c x : Nat), own'[c]? = some x → x ≠ 0 → x = r ∨ s.own[c]? = some x) := by
    generalize hea : e.addr = ad at al
    cases al with
    | room hn =>
      have hfin : S.fin ≠ 0 := by omega
      obtain ⟨c, hc1, hc2, hc3⟩ := hS.fin hfin
      have hcm : c ∈ chunksOf S.parts := by
        unfold chunksOf
        rw [List.mem_flatMap]
        exact ⟨(c, 1), hc3, by simp⟩
      obtain ⟨y, hy1, hy2, hy3⟩ := (hS.owned c).1 hcm
      have hat := hS.at1
      have e1 : e.addr / s.size = c := by rw [hea]; exact Nat.div_eq_of_lt_le (by omega) (by rw [← hc1]; omega)
      have e2 : (e.addr + e.ws.length) / s.size = c := by rw [hea]; exact Nat.div_eq_of_lt_le (by omega) (by rw [← hc1]; omega)
      have hcl : c < s.own.length := (List.getElem?_eq_some_iff.1 hy1).1
      have hle : (c + 1) * s.size ≤ s.own.length * s.size := Nat.mul_le_mul_right _ hcl
      refine ⟨rfl, ⟨by unfold endOf; omega, fun d h1 h2 => ?_⟩, fun _ hf => hf, ⟨by show S.at' + _ ≤ S.fin; omega, fun _ => ⟨c, hc1, by show c * s.size < S.at' + _; omega, hc3⟩, hS.parts, hS.nodup, hS.owned⟩, fun x hx => h.spc x (hother x hx).1, fun j g f hj => ?_, .inl ?_, fun _ _ h1 _ => .inr h1⟩
      · have : d = c := by omega
        subst this
        exact ⟨y, hy1, by rw [hy2, hreg], by omega⟩
      · have : endOf f ≤ S.at' ∨ S.fin ≤ f.addr := h.free ((r : Int), q, S) (by rw [hs]; simp) _ _ _ hj
        have hee : endOf e = S.at' + (e.ws.length + 1) := by unfold endOf; omega
        rw [hee]
        constructor
        · rcases this with h1 | h1
          · left; exact h1
          · right; show S.at' + _ ≤ f.addr; omega
        · rcases this with h1 | h1
          · left; show endOf f ≤ S.at' + _; omega
          · right; exact h1
      · show endOf e ≤ S.at' + _
        unfold endOf; omega
    | @one a ha hf hn =>
      have hf' : ∀ c, a ≤ c → c < a + 1 → s.own[c]? = some 0 := fun c h1 h2 => by rw [show c = a by omega]; exact hf
      have hsz : (a + 1) * s.size = a * s.size + s.size := Nat.succ_mul _ _
      have hle : (a + 1) * s.size ≤ s.own.length * s.size := Nat.mul_le_mul_right _ ha
      have e1 : e.addr / s.size = a := by rw [hea]; exact Nat.mul_div_cancel _ (by omega)
      have e2 : (e.addr + e.ws.length) / s.size = a := by rw [hea]; exact Nat.div_eq_of_lt_le (by omega) (by omega)
      have hoff : ∀ (j g : Nat) (f : Ent), s.tab[j]? = some ⟨g, some f⟩ → endOf f ≤ a * s.size ∨ (a + 1) * s.size ≤ f.addr := fun j g f hj => by
        rcases (h.obj _ _ _ hj).2.1.chunk hs1 a with h1 | ⟨x, h1, _, h3⟩
        · exact h1
        · rw [hf] at h1; cases h1; omega
      refine ⟨setR_length ha, ⟨by rw [setR_length ha]; unfold endOf; omega, fun d h1 h2 => ?_⟩, fun f hl => lies_own ha hf' hl, ?_, fun x hx => spc_own ha hf' (hother x hx).2 (h.spc x (hother x hx).1), fun j g f hj => ?_, .inl ?_, fun c x h1 h2 => ?_⟩
      · have : d = a := by omega
        subst this
        rw [setR_get ha, if_pos (by omega)]
        exact ⟨r, rfl, hreg.symm, hr1⟩
      · exact spc_more ha hf' (by omega) hr1 hS (by omega) (fun _ => ⟨a, rfl, by omega, by simp⟩)
      · have := hoff j g f hj
        have hee : endOf e = a * s.size + (e.ws.length + 1) := by unfold endOf; omega
        rw [hee]
        constructor
        · rcases this with h1 | h1
          · left; exact h1
          · right; omega
        · rcases this with h1 | h1
          · left; show endOf f ≤ a * s.size + _; omega
          · right; exact h1
      · show endOf e ≤ a * s.size + _
        unfold endOf; omega
      · rw [setR_get ha] at h1
        split at h1
        · cases h1; exact .inl rfl
        · exact .inr h1
    | @run a k hk ha hf hn hn2 =>
      have hsz : (a + k) * s.size = a * s.size + k * s.size := Nat.add_mul _ _ _
      have hsz2 : (k - 1 + 1) * s.size = (k - 1) * s.size + s.size := Nat.succ_mul _ _
      rw [show k - 1 + 1 = k by omega] at hsz2
      have hle : (a + k) * s.size ≤ s.own.length * s.size := Nat.mul_le_mul_right _ ha
      have e1 : e.addr / s.size = a := by rw [hea]; exact Nat.mul_div_cancel _ (by omega)
      have e2 : (e.addr + e.ws.length) / s.size < a + k := by rw [hea, Nat.div_lt_iff_lt_mul (by omega)]; omega
      have hoff : ∀ c, a ≤ c → c < a + k → ∀ (j g : Nat) (f : Ent), s.tab[j]? = some ⟨g, some f⟩ → endOf f ≤ c * s.size ∨ (c + 1) * s.size ≤ f.addr := fun c hc1 hc2 j g f hj => by
        rcases (h.obj _ _ _ hj).2.1.chunk hs1 c with h1 | ⟨x, h1, _, h3⟩
        · exact h1
        · rw [hf c hc1 hc2] at h1; cases h1; omega
      have hoff2 : ∀ (j g : Nat) (f : Ent), s.tab[j]? = some ⟨g, some f⟩ → endOf f ≤ a * s.size ∨ (a + k) * s.size ≤ f.addr := fun j g f hj => by
        have hend : f.addr + 1 ≤ endOf f := by unfold endOf; omega
        by_cases h0 : endOf f ≤ a * s.size
        · exact .inl h0
        · refine .inr ?_
          -- each chunk lies ahead of it
          have : ∀ m, m < k → (a + m + 1) * s.size ≤ f.addr := by
            intro m
            induction m with
            | zero =>
              intro _
              rcases hoff a (by omega) (by omega) j g f hj with h1 | h1
              · exact absurd h1 h0
              · exact h1
            | succ m ih =>
              intro hm
              have h2 := ih (by omega)
              rcases hoff (a + (m + 1)) (by omega) (by omega) j g f hj with h1 | h1
              · rw [show a + (m + 1) = a + m + 1 by omega] at h1; omega
              · exact h1
          have := this (k - 1) (by omega)
          rw [show a + (k - 1) + 1 = a + k by omega] at this
          exact this
      refine ⟨setR_length ha, ⟨by rw [setR_length ha]; unfold endOf; omega, fun d h1 h2 => ?_⟩, fun f hl => lies_own ha hf hl, ?_, fun x hx => spc_own ha hf (hother x hx).2 (h.spc x (hother x hx).1), fun j g f hj => ?_, ?_, fun c x h1 h2 => ?_⟩
      · rw [setR_get ha, if_pos (by omega)]
        exact ⟨r, rfl, hreg.symm, hr1⟩
      · refine spc_more ha hf (by omega) hr1 hS hS.at1 (fun h0 => ?_)
        obtain ⟨c, h1, h2, h3⟩ := hS.fin h0
        exact ⟨c, h1, h2, by simp [h3]⟩
      · have := hoff2 j g f hj
        have hee : endOf e = a * s.size + (e.ws.length + 1) := by unfold endOf; omega
        rw [hee]
        refine ⟨?_, h.free ((r : Int), q, S) (by rw [hs]; simp) _ _ _ hj⟩
        rcases this with h1 | h1
        · left; exact h1
        · right; omega
      · show endOf e ≤ S.at' ∨ S.fin ≤ a * s.size
        by_cases h0 : S.fin = 0
        · right; omega
        obtain ⟨c, hc1, hc2, hc3⟩ := hS.fin h0
        have hcm : c ∈ chunksOf S.parts := by
          unfold chunksOf
          rw [List.mem_flatMap]
          exact ⟨(c, 1), hc3, by simp⟩
        obtain ⟨y, hy1, hy2, hy3⟩ := (hS.owned c).1 hcm
        by_cases hca : c < a
        · right
          have : (c + 1) * s.size ≤ a * s.size := Nat.mul_le_mul_right _ hca
          omega
        · by_cases hcb : c < a + k
          · rw [hf c (by omega) hcb] at hy1; cases hy1; omega
          · left
            have : (a + k) * s.size ≤ c * s.size := Nat.mul_le_mul_right _ (by omega)
            unfold endOf
            omega
      · rw [setR_get ha] at h1
        split at h1
        · cases h1; exact .inl rfl
        · exact .inr h1
  obtain ⟨k1, k2, k3, k4, k5, k6, k7, k8⟩ := key
  have hsk : (p1 ++ ((r : Int), q, S') :: p2).map (·.1) = s.par.map (·.1) := by rw [← h.skeys, hs]; exact keys_mid rfl
  have hmk : (m1 ++ ((r : Int), q2, L') :: m2).map (·.1) = s.par.map (·.1) := by rw [← h.mkeys, hm]; exact keys_mid rfl
  have hnm : ((m1 ++ ((r : Int), q2, L) :: m2).map (·.1)).Nodup := by rw [← hm, h.mkeys]; exact hnd
  refine ⟨h.size, by show 1 ≤ own'.length ∧ own'.length ≤ 63; rw [k1]; exact h.own, by show 1 ≤ (s.tab.set _ _).length ∧ (s.tab.set _ _).length ≤ 63; rw [List.length_set]; exact h.slots, h.lays, ?_, ?_, ?_, h.par, hsk, hmk, ?_, ?_, ?_, ?_⟩
  · intro j t hj
    rcases tab_set hj with ⟨rfl, rfl, _⟩ | ⟨_, hj⟩
    · exact ⟨by show g0 + 1 ≤ 255; omega, fun _ => by show 1 ≤ g0 + 1; omega⟩
    · exact h.gen _ _ hj
  · intro j g f hj
    rcases tab_set hj with ⟨rfl, ht, _⟩ | ⟨_, hj⟩
    · injection ht with h1 h2
      injection h2 with h2
      subst h2
      exact ⟨ok, k2, by rw [hreg]; exact hlive⟩
    · obtain ⟨o1, o2, o3⟩ := h.obj _ _ _ hj
      exact ⟨o1, k3 _ o2, o3⟩
  · intro j k m n f f' hne hj hk
    rcases tab_set hj with ⟨rfl, ht, _⟩ | ⟨hji, hj'⟩ <;> rcases tab_set hk with ⟨rfl, hu, _⟩ | ⟨hki, hk'⟩
    · exact absurd rfl hne
    · injection ht with h1 h2
      injection h2 with h2
      subst h2
      exact (k6 _ _ _ hk').1.symm
    · injection hu with h1 h2
      injection h2 with h2
      subst h2
      exact (k6 _ _ _ hj').1
    · exact h.apart _ _ _ _ _ _ hne hj' hk'
  · intro x hx
    rcases hmem x hx with rfl | hx
    · exact k4
    · exact k5 x hx
  · intro x hx j g f hj
    rcases tab_set hj with ⟨rfl, ht, _⟩ | ⟨_, hj⟩
    · injection ht with h1 h2
      injection h2 with h2
      subst h2
      rcases hmem x hx with rfl | hx
      · exact k7
      · have hok := k5 x hx
        by_cases h0 : x.2.2.fin = 0
        · right; omega
        obtain ⟨c, hc1, hc2, hc3⟩ := hok.fin h0
        have hcm : c ∈ chunksOf x.2.2.parts := by
          unfold chunksOf
          rw [List.mem_flatMap]
          exact ⟨(c, 1), hc3, by simp⟩
        obtain ⟨y, hy1, hy2, hy3⟩ := (hok.owned c).1 hcm
        have hat := hok.at1
        rcases k2.chunk hs1 c with (h1 | h1) | ⟨z, hz1, hz2, hz3⟩
        · left; omega
        · right; omega
        · exact absurd (show x.1 = (r : Int) by rw [hy1] at hz1; cases hz1; rw [← hy2, hz2, hreg]) (hother x hx).2
    · rcases hmem x hx with rfl | hx
      · exact (k6 _ _ _ hj).2
      · exact h.free x (hother x hx).1 _ _ _ hj
  · intro c x hc h0
    rcases k8 c x hc h0 with rfl | h1
    · exact hlive
    · exact h.live c x h1 h0
  · intro x hx
    have hx' : x = ((r : Int), q2, L') ∨ (x ∈ s.mns ∧ x.1 ≠ (r : Int)) := by
      have hx0 : x = ((r : Int), q2, L') ∨ x ∈ m1 ++ m2 := by
        exact of_mid hx
      rcases hx0 with h1 | h1
      · exact .inl h1
      · refine .inr ⟨by rw [hm]; exact mid_of h1, fun hx1 => ?_⟩
        rw [List.map_append, List.map_cons, List.nodup_append] at hnm
        obtain ⟨_, h2, h3⟩ := hnm
        rcases List.mem_append.1 h1 with hx | hx
        · exact h3 x.1 (List.mem_map.2 ⟨x, hx, rfl⟩) (r : Int) (by simp) hx1
        · rw [List.nodup_cons] at h2
          exact h2.1 (List.mem_map.2 ⟨x, hx, hx1⟩)
    rcases hx' with rfl | ⟨hx, hne⟩
    · refine ⟨hL, fun j => ?_⟩
      show j ∈ L' ↔ _
      rw [hL', (h.mine ((r : Int), q2, L) (by rw [hm]; simp)).2]
      constructor
      · rintro (rfl | ⟨g, f, h1, h2⟩)
        · exact ⟨g0 + 1, e, by show (s.tab.set _ _)[_]? = _; simp [hil], hreg⟩
        · by_cases hji : j = i
          · subst hji; rw [hi] at h1; cases h1
          · exact ⟨g, f, by show (s.tab.set _ _)[_]? = _; rw [List.getElem?_set_ne (fun q => hji q.symm)]; exact h1, h2⟩
      · rintro ⟨g, f, h1, h2⟩
        rcases tab_set h1 with ⟨rfl, _, _⟩ | ⟨_, h1⟩
        · exact .inl rfl
        · exact .inr ⟨g, f, h1, h2⟩
    · obtain ⟨h1, h2⟩ := h.mine x hx
      refine ⟨h1, fun j => ?_⟩
      rw [h2]
      constructor
      · rintro ⟨g, f, h3, h4⟩
        by_cases hji : j = i
        · subst hji; rw [hi] at h3; cases h3
        · exact ⟨g, f, by show (s.tab.set _ _)[_]? = _; rw [List.getElem?_set_ne (fun q => hji q.symm)]; exact h3, h4⟩
      · rintro ⟨g, f, h3, h4⟩
        rcases tab_set h3 with ⟨rfl, ht, _⟩ | ⟨_, h3⟩
        · injection ht with _ h5
          injection h5 with h5
          subst h5
          exact absurd (h4.symm.trans hreg) hne
        · exact ⟨g, f, h3, h4⟩

theorem alloc_mem {s : CS} (h : WF s) {mem mem' own' : List Nat} (hm : mem.length = s.own.length * s.size) {r n ad : Nat} {S S' : Spc} (al : Alloced s.size s.own mem r S n own' mem' S' ad) :
    mem'.length = mem.length ∧ ∀ (j g : Nat) (f : Ent), s.tab[j]? = some ⟨g, some f⟩ → ∀ k, f.addr ≤ k → k < endOf f → mem'[k]? = mem[k]? := by
  have hs1 := h.size.1
  have off : ∀ (a K : Nat), a + K ≤ s.own.length → (∀ c, a ≤ c → c < a + K → s.own[c]? = some 0) → (setR mem (a * s.size) (K * s.size) 0).length = mem.length ∧
      ∀ (j g : Nat) (f : Ent), s.tab[j]? = some ⟨g, some f⟩ → ∀ k, f.addr ≤ k → k < endOf f → (setR mem (a * s.size) (K * s.size) 0)[k]? = mem[k]? := by
    intro a K ha hf
    have hsz : (a + K) * s.size = a * s.size + K * s.size := Nat.add_mul _ _ _
    have hle : (a + K) * s.size ≤ s.own.length * s.size := Nat.mul_le_mul_right _ ha
    refine ⟨setR_length (by omega), fun j g f hj k h1 h2 => ?_⟩
    rw [setR_get (by omega), if_neg]
    rintro ⟨h3, h4⟩
    unfold endOf at h2
    have c1 : f.addr / s.size ≤ k / s.size := Nat.div_le_div_right h1
    have c2 : k / s.size ≤ (f.addr + f.ws.length) / s.size := Nat.div_le_div_right (by omega)
    obtain ⟨q, hq, _, hq1⟩ := (h.obj _ _ _ hj).2.1.2 _ c1 c2
    have c3 : a ≤ k / s.size := (Nat.le_div_iff_mul_le (by omega)).2 h3
    have c4 : k / s.size < a + K := (Nat.div_lt_iff_lt_mul (by omega)).2 (by omega)
    rw [hf _ c3 c4] at hq
    cases hq
    omega
  cases al with
  | room _ => exact ⟨rfl, fun _ _ _ _ _ _ _ => rfl⟩
  | @one a ha hf _ => exact off a 1 ha (fun c h1 h2 => by rw [show c = a by omega]; exact hf)
  | @run a k _ ha hf _ _ => exact off a k ha hf

theorem MemOK_make {s : CS} (h : WF s) {mem mem1 mem2 own' : List Nat} (m : MemOK s mem) {r i g0 : Nat} (hi : s.tab[i]? = some ⟨g0, none⟩) {S S' : Spc} {e : Ent} (al : Alloced s.size s.own mem r S (e.ws.length + 1) own' mem1 S' e.addr)
    (hl : mem2.length = mem1.length) (hown : own'.length = s.own.length) (hh : mem2[e.addr]? = some (encH e.lay e.count i)) (hw : ∀ (p w : Nat), e.ws[p]? = some w → mem2[e.addr + 1 + p]? = some w) (hout : ∀ k, k < e.addr ∨ endOf e ≤ k → mem2[k]? = mem1[k]?)
    (hap : ∀ (j g : Nat) (f : Ent), s.tab[j]? = some ⟨g, some f⟩ → endOf f ≤ e.addr ∨ endOf e ≤ f.addr) {s' : CS} (h1 : s'.own = own') (h2 : s'.size = s.size) (h3 : s'.tab = s.tab.set i ⟨g0 + 1, some e⟩) : MemOK s' mem2 := by
  obtain ⟨a1, a2⟩ := alloc_mem h m.len al
  have old : ∀ (j g : Nat) (f : Ent), s.tab[j]? = some ⟨g, some f⟩ → ∀ k, f.addr ≤ k → k < endOf f → mem2[k]? = mem[k]? := fun j g f hj k k1 k2 => by
    rw [← a2 j g f hj k k1 k2]
    refine hout k ?_
    rcases hap j g f hj with h | h
    · left; omega
    · right; omega
  refine ⟨by rw [hl, a1, h1, h2, hown]; exact m.len, ?_, ?_⟩
  · intro j g f hj
    rw [h3] at hj
    rcases tab_set hj with ⟨rfl, ht, _⟩ | ⟨_, hj⟩
    · injection ht with _ h5
      injection h5 with h5
      subst h5
      exact hh
    · rw [old j g f hj f.addr (Nat.le_refl _) (by unfold endOf; omega)]
      exact m.head _ _ _ hj
  · intro j g f hj p w hp
    rw [h3] at hj
    rcases tab_set hj with ⟨rfl, ht, _⟩ | ⟨_, hj⟩
    · injection ht with _ h5
      injection h5 with h5
      subst h5
      exact hw p w hp
    · have hp1 := (List.getElem?_eq_some_iff.1 hp).1
      rw [old j g f hj _ (by omega) (by unfold endOf; omega)]
      exact m.words _ _ _ hj p w hp

/-! ### A region more, a layout more -/

theorem WF_open {s : CS} (h : WF s) {parent : Int} {q q2 : Nat} (hl : s.par.length < 64) (hlast : s.last + 1 < 1000000) :
    WF { s with last := s.last + 1, par := s.par ++ [(((s.last + 1 : Nat) : Int), parent)], sps := s.sps ++ [(((s.last + 1 : Nat) : Int), q, ⟨[], 0, 0⟩)], mns := s.mns ++ [(((s.last + 1 : Nat) : Int), q2, [])] } := by
  have hup : ∀ r x, (r, x) ∈ s.par → r ≠ ((s.last + 1 : Nat) : Int) := fun r x hx => by
    have := (h.par.2.2 r x hx).2; omega
  refine ⟨h.size, h.own, h.slots, h.lays, h.gen, fun i g e hi => ?_, h.apart, ⟨by show (s.par ++ [_]).length ≤ 64; simp; omega, hlast, ?_⟩, ?_, ?_, ?_, ?_, fun c r hc h0 => ?_, ?_⟩
  · obtain ⟨a, b, y, hy⟩ := h.obj i g e hi
    exact ⟨a, b, y, List.mem_append.2 (.inl hy)⟩
  · intro r x hx
    have hx : (r, x) ∈ s.par ++ [_] := hx
    show 1 ≤ r ∧ r ≤ ((s.last + 1 : Nat) : Int)
    rcases List.mem_append.1 hx with hx | hx
    · have := h.par.2.2 r x hx; omega
    · simp at hx; omega
  · have := h.skeys; simp [this]
  · have := h.mkeys; simp [this]
  · intro x hx
    rcases List.mem_append.1 (show x ∈ s.sps ++ [_] from hx) with hx | hx
    · exact h.spc x hx
    · simp at hx
      subst hx
      refine ⟨Nat.le_refl _, fun h0 => absurd rfl h0, fun p hp => (by cases hp), by simp [chunksOf], fun c => ⟨fun hc => by simp [chunksOf] at hc, ?_⟩⟩
      rintro ⟨y, h1, h2, h3⟩
      obtain ⟨z, hz⟩ := h.live c y h1 h3
      exact absurd h2 (hup _ _ hz)
  · intro x hx i g e hi
    rcases List.mem_append.1 (show x ∈ s.sps ++ [_] from hx) with hx | hx
    · exact h.free x hx i g e hi
    · simp at hx
      subst hx
      exact .inr (Nat.zero_le _)
  · obtain ⟨y, hy⟩ := h.live c r hc h0
    exact ⟨y, List.mem_append.2 (.inl hy)⟩
  · intro x hx
    rcases List.mem_append.1 (show x ∈ s.mns ++ [_] from hx) with hx | hx
    · exact h.mine x hx
    · simp at hx
      subst hx
      refine ⟨by simp, fun i => ⟨fun hc => by simp at hc, ?_⟩⟩
      rintro ⟨g, e, h1, h2⟩
      obtain ⟨_, _, y, hy⟩ := h.obj _ _ _ h1
      exact absurd h2 (hup _ _ hy)
theorem ObjOK_more {lays : List Lay} {i : Nat} {e : Ent} (h : ObjOK lays i e) (x : Lay) : ObjOK (lays ++ [x]) i e := by
  obtain ⟨m, l, h1, h2⟩ := h
  exact ⟨m, l, by rw [List.getElem?_append_left (List.getElem?_eq_some_iff.1 h1).1]; exact h1, h2⟩
theorem WF_define {s : CS} (h : WF s) {l : Lay} (hr : RightL l) (hl : s.lays.length < 64) : WF { s with lays := s.lays ++ [l] } := by
  refine ⟨h.size, h.own, h.slots, ⟨by show (s.lays ++ [l]).length ≤ 64; simp; omega, fun x hx => ?_⟩, h.gen, fun i g e hi => ?_, h.apart, h.par, h.skeys, h.mkeys, h.spc, h.free, h.live, h.mine⟩
  · rcases List.mem_append.1 hx with hx | hx
    · exact h.lays.2 x hx
    · simp at hx; subst hx; exact hr
  · obtain ⟨a, b⟩ := h.obj i g e hi
    exact ⟨ObjOK_more a l, b⟩
/-- The remset is as it likes. -/
theorem WF_rem {s : CS} (h : WF s) (m : List ((Int × Int) × Int)) : WF { s with rem := m } := ⟨h.size, h.own, h.slots, h.lays, h.gen, h.obj, h.apart, h.par, h.skeys, h.mkeys, h.spc, h.free, h.live, h.mine⟩
theorem MemOK_rem {s : CS} {mem : List Nat} (h : MemOK s mem) (m : List ((Int × Int) × Int)) : MemOK { s with rem := m } mem := ⟨h.len, h.head, h.words⟩
end Go.Proofs.YtipelpbkeiphmaaGreatDoor
