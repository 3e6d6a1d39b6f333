/- Cells: what is proved on the way: every input of the statement; no condition. Texts joined: TabB TabC TabD CelA CelB. -/
import Derived.Test.YtcaaojbnjfdglaaGreatDoorCan
import Derived.Test.YtcaaojbnjfdglaaGreatDoorCal
set_option linter.unusedVariables false
set_option linter.unusedSimpArgs false
set_option linter.unusedSectionVars false
namespace Go.Proofs.YtcaaojbnjfdglaaGreatDoor
open Go.SL

@[reducible] def tkI2 (i g : Int) : Value := .agg #[.int .i64 i, .int .i64 g]

theorem lookT_none {ts : List Slt} {i g : Int} (h : lookT ts i g = none) : i < 0 ∨ (ts.length : Int) ≤ i ∨ ∃ (k : Nat) (t : Slt), i = k ∧ ts[k]? = some t ∧ (t.ent = none ∨ (t.ent.isSome = true ∧ (t.gen : Int) ≠ g)) := by
  by_cases h0 : i < 0
  · exact .inl h0
  by_cases h1 : (ts.length : Int) ≤ i
  · exact .inr (.inl h1)
  refine .inr (.inr ?_)
  obtain ⟨k, rfl⟩ : ∃ k : Nat, i = k := ⟨i.toNat, by omega⟩
  have hk := List.getElem?_eq_getElem (l := ts) (i := k) (by omega)
  generalize ts[k]'(by omega) = t at hk
  refine ⟨k, t, rfl, hk, ?_⟩
  obtain ⟨n, e⟩ := t
  cases e with
  | none => exact .inl rfl
  | some e =>
    refine .inr ⟨rfl, fun hg => ?_⟩
    rw [(lookT_some (k := k) (e := e)).2 ⟨n, rfl, hg.symm, hk⟩] at h
    cases h

theorem find_open [Extra] (p b c u : Nat) (go : Value) (hgo : go.oneCell' = true) (ts : List Slt) (s : List Value) (hlen : ts.length ≤ 63) (i g : Int) {w : World} {fr : List HProp} (H : Holds w (pts p (row 183 [.slice (some ⟨b, 0, none⟩) ts.length c, pp u, go]) :: pts b (row 193 (ts.flatMap tval ++ s)) :: fr)) :
    Calls Tryz.prog 112 #[pp p, tkI2 i g] w (ret fun v w' => v = (match lookT ts i g with | some (k, _) => .tuple #[.pointer (some ⟨b, k * 6, none⟩), .int .i64 0] | none => .tuple #[.pointer none, .int .i64 8]) ∧
      Holds w' (pts p (row 183 [.slice (some ⟨b, 0, none⟩) ts.length c, pp u, go]) :: pts b (row 193 (ts.flatMap tval ++ s)) :: fr)) := by
  refine calls_of Tryz.func112 rfl (by kernel_rfl) ?_
  repeat refine C_seq ?_
  refine C_region ?_
  (refine Lp_s rfl (St_boxN H rfl rfl ?_); clear H; intro b3 w H)
  refine Lp_pv rfl rfl ?_
  refine Lp_pv rfl rfl ?_
  refine Lp_nil ?_
  repeat refine C_seq ?_
  refine C_region ?_
  refine Lp_pv rfl rfl ?_
  refine Lp_s rfl (St_eqPtrNil rfl rfl (.inl rfl) rfl ?_)
  refine Lp_nil ?_
  repeat refine C_seq ?_
  refine C_false rfl (C_skip ?_)
  cases hL : lookT ts i g with
  | some q =>
    obtain ⟨k, e⟩ := q
    obtain ⟨n, rfl, rfl, hk⟩ := lookT_some.1 hL
    have hkl : k < ts.length := (List.getElem?_eq_some_iff.1 hk).1
    have c1 : (ts.flatMap tval ++ s)[k * 6 + 1]? = some (.bool true) := flat_get tval_len hk rfl
    have c0 : (ts.flatMap tval ++ s)[k * 6 + 0]? = some (.int .i64 n) := flat_get tval_len hk rfl
    have ei : 0 + ((k : Nat) : Int).toNat * 6 = k * 6 := by simp
    repeat refine C_seq ?_
    refine C_drawH H mixed ?_
    clear H; intro w H
    refine A_fieldAddr 0 rfl (Wants.none rfl) rfl (by kernel_rfl) ?_
    refine A_load1 1 [] H rfl (Wants.none rfl) rfl rfl (by kernel_rfl) ?_
    refine A_pv 2 rfl (Wants.none rfl) rfl (by kernel_rfl) ?_
    rw [show decide ((k : Int) < 0) = false from decide_eq_false (by omega)]
    refine A_pv 3 rfl (Wants.none rfl) rfl (by kernel_rfl) ?_
    refine A_fieldAddr 4 rfl (Wants.of rfl rfl rfl) rfl (by kernel_rfl) ?_
    refine A_load1 5 [] H rfl (Wants.of rfl rfl rfl) rfl rfl (by kernel_rfl) ?_
    refine A_pv 6 rfl (Wants.of rfl rfl rfl) rfl (by kernel_rfl) ?_
    refine A_pv 7 rfl (Wants.of rfl rfl rfl) rfl (by kernel_rfl) ?_
    refine A_fieldAddr 8 rfl (Wants.of rfl rfl rfl) rfl (by kernel_rfl) ?_
    refine A_load1 9 [] H rfl (Wants.of rfl rfl rfl) rfl rfl (by kernel_rfl) ?_
    refine A_lenSlice 10 rfl (Wants.of rfl rfl rfl) rfl (by kernel_rfl) ?_
    refine A_pv 11 rfl (Wants.of rfl rfl rfl) rfl (by kernel_rfl) ?_
    rw [show decide ((k : Int) ≥ (ts.length : Int)) = false from decide_eq_false (by omega)]
    refine A_pv 12 rfl (Wants.none rfl) rfl (by kernel_rfl) ?_
    refine A_pv 13 rfl (Wants.none rfl) rfl (by kernel_rfl) ?_
    refine A_pv 14 rfl (Wants.of rfl rfl rfl) rfl (by kernel_rfl) ?_
    refine A_pv 15 rfl (Wants.of rfl rfl rfl) rfl (by kernel_rfl) ?_
    refine A_fieldAddr 16 rfl (Wants.of rfl rfl rfl) rfl (by kernel_rfl) ?_
    refine A_load1 17 [] H rfl (Wants.of rfl rfl rfl) rfl rfl (by kernel_rfl) ?_
    refine A_fieldAddr 18 rfl (Wants.of rfl rfl rfl) rfl (by kernel_rfl) ?_
    refine A_load1 19 [] H rfl (Wants.of rfl rfl rfl) rfl rfl (by kernel_rfl) ?_
    refine A_indexAddr 20 rfl (Wants.of rfl rfl rfl) rfl rfl (by omega) (by omega) (by kernel_rfl) ?_
    rw [ei]
    refine A_fieldAddr 21 rfl (Wants.of rfl rfl rfl) rfl (by kernel_rfl) ?_
    refine A_load1 22 [] H rfl (Wants.of rfl rfl rfl) rfl c1 (by kernel_rfl) ?_
    refine A_pv 23 rfl (Wants.of rfl rfl rfl) rfl (by kernel_rfl) ?_
    refine A_pv 24 rfl (Wants.none rfl) rfl (by kernel_rfl) ?_
    refine A_pv 25 rfl (Wants.none rfl) rfl (by kernel_rfl) ?_
    refine A_pv 26 rfl (Wants.of rfl rfl rfl) rfl (by kernel_rfl) ?_
    refine A_pv 27 rfl (Wants.of rfl rfl rfl) rfl (by kernel_rfl) ?_
    refine A_fieldAddr 28 rfl (Wants.of rfl rfl rfl) rfl (by kernel_rfl) ?_
    refine A_load1 29 [] H rfl (Wants.of rfl rfl rfl) rfl rfl (by kernel_rfl) ?_
    refine A_fieldAddr 30 rfl (Wants.of rfl rfl rfl) rfl (by kernel_rfl) ?_
    refine A_load1 31 [] H rfl (Wants.of rfl rfl rfl) rfl rfl (by kernel_rfl) ?_
    refine A_indexAddr 32 rfl (Wants.of rfl rfl rfl) rfl rfl (by omega) (by omega) (by kernel_rfl) ?_
    rw [ei]
    refine A_fieldAddr 33 rfl (Wants.of rfl rfl rfl) rfl (by kernel_rfl) ?_
    refine A_load1 34 [] H rfl (Wants.of rfl rfl rfl) rfl c0 (by kernel_rfl) ?_
    refine A_fieldAddr 35 rfl (Wants.of rfl rfl rfl) rfl (by kernel_rfl) ?_
    refine A_load1 36 [] H rfl (Wants.of rfl rfl rfl) rfl rfl (by kernel_rfl) ?_
    refine A_pv 37 rfl (Wants.of rfl rfl rfl) rfl (by kernel_rfl) ?_
    rw [show (((n : Nat) : Int) != (n : Int)) = false by simp]
    refine A_pv 38 rfl (Wants.none rfl) rfl (by kernel_rfl) ?_
    refine A_end (by kernel_rfl) (by repeat first | exact .nil | refine .cons (.inr H.at) ?_ | refine .cons (.inr H.mp) ?_ | refine .cons (.inl (by kernel_rfl)) ?_) ?_
    repeat refine C_seq ?_
    refine C_false rfl (C_skip ?_)
    repeat refine C_seq ?_
    refine C_drawH H mixed ?_
    clear H; intro w H
    refine A_pv 0 rfl (Wants.none rfl) rfl (by kernel_rfl) ?_
    refine A_pv 1 rfl (Wants.none rfl) rfl (by kernel_rfl) ?_
    refine A_fieldAddr 2 rfl (Wants.none rfl) rfl (by kernel_rfl) ?_
    refine A_load1 3 [] H rfl (Wants.none rfl) rfl rfl (by kernel_rfl) ?_
    refine A_fieldAddr 4 rfl (Wants.none rfl) rfl (by kernel_rfl) ?_
    refine A_load1 5 [] H rfl (Wants.none rfl) rfl rfl (by kernel_rfl) ?_
    refine A_indexAddr 6 rfl (Wants.none rfl) rfl rfl (by omega) (by omega) (by kernel_rfl) ?_
    rw [ei]
    refine A_pv 7 rfl (Wants.none rfl) rfl (by kernel_rfl) ?_
    refine A_pv 8 rfl (Wants.none rfl) rfl (by kernel_rfl) ?_
    refine A_end (by kernel_rfl) (by repeat first | exact .nil | refine .cons (.inr H.at) ?_ | refine .cons (.inr H.mp) ?_ | refine .cons (.inl (by kernel_rfl)) ?_) ?_
    exact C_ret (fn_end0 _ (.inr rfl) H.drop rfl fun w' H' => ⟨rfl, H'⟩)
  | none =>
    rcases lookT_none hL with h0 | h1 | ⟨k, t, rfl, hk, ht⟩
    · repeat refine C_seq ?_
      refine C_drawH H mixed ?_
      clear H; intro w H
      refine A_fieldAddr 0 rfl (Wants.none rfl) rfl (by kernel_rfl) ?_
      refine A_load1 1 [] H rfl (Wants.none rfl) rfl rfl (by kernel_rfl) ?_
      refine A_pv 2 rfl (Wants.none rfl) rfl (by kernel_rfl) ?_
      rw [show decide (i < 0) = true from decide_eq_true (by omega)]
      refine A_pv 3 rfl (Wants.none rfl) rfl (by kernel_rfl) ?_
      refine A_no 4 rfl (Wants.of rfl rfl rfl) (fun c e => by cases e) (by kernel_rfl) ?_
      refine A_no 5 rfl (Wants.of rfl rfl rfl) (fun c e => by cases e) (by kernel_rfl) ?_
      refine A_no 6 rfl (Wants.of rfl rfl rfl) (fun c e => by cases e) (by kernel_rfl) ?_
      refine A_no 7 rfl (Wants.of rfl rfl rfl) (fun c e => by cases e) (by kernel_rfl) ?_
      refine A_no 8 rfl (Wants.of rfl rfl rfl) (fun c e => by cases e) (by kernel_rfl) ?_
      refine A_no 9 rfl (Wants.of rfl rfl rfl) (fun c e => by cases e) (by kernel_rfl) ?_
      refine A_no 10 rfl (Wants.of rfl rfl rfl) (fun c e => by cases e) (by kernel_rfl) ?_
      refine A_no 11 rfl (Wants.of rfl rfl rfl) (fun c e => by cases e) (by kernel_rfl) ?_
      refine A_pv 12 rfl (Wants.none rfl) rfl (by kernel_rfl) ?_
      refine A_pv 13 rfl (Wants.none rfl) rfl (by kernel_rfl) ?_
      refine A_no 14 rfl (Wants.of rfl rfl rfl) (fun c e => by cases e) (by kernel_rfl) ?_
      refine A_no 15 rfl (Wants.of rfl rfl rfl) (fun c e => by cases e) (by kernel_rfl) ?_
      refine A_no 16 rfl (Wants.of rfl rfl rfl) (fun c e => by cases e) (by kernel_rfl) ?_
      refine A_no 17 rfl (Wants.of rfl rfl rfl) (fun c e => by cases e) (by kernel_rfl) ?_
      refine A_no 18 rfl (Wants.of rfl rfl rfl) (fun c e => by cases e) (by kernel_rfl) ?_
      refine A_no 19 rfl (Wants.of rfl rfl rfl) (fun c e => by cases e) (by kernel_rfl) ?_
      refine A_no 20 rfl (Wants.of rfl rfl rfl) (fun c e => by cases e) (by kernel_rfl) ?_
      refine A_no 21 rfl (Wants.of rfl rfl rfl) (fun c e => by cases e) (by kernel_rfl) ?_
      refine A_no 22 rfl (Wants.of rfl rfl rfl) (fun c e => by cases e) (by kernel_rfl) ?_
      refine A_no 23 rfl (Wants.of rfl rfl rfl) (fun c e => by cases e) (by kernel_rfl) ?_
      refine A_pv 24 rfl (Wants.none rfl) rfl (by kernel_rfl) ?_
      refine A_pv 25 rfl (Wants.none rfl) rfl (by kernel_rfl) ?_
      refine A_no 26 rfl (Wants.of rfl rfl rfl) (fun c e => by cases e) (by kernel_rfl) ?_
      refine A_no 27 rfl (Wants.of rfl rfl rfl) (fun c e => by cases e) (by kernel_rfl) ?_
      refine A_no 28 rfl (Wants.of rfl rfl rfl) (fun c e => by cases e) (by kernel_rfl) ?_
      refine A_no 29 rfl (Wants.of rfl rfl rfl) (fun c e => by cases e) (by kernel_rfl) ?_
      refine A_no 30 rfl (Wants.of rfl rfl rfl) (fun c e => by cases e) (by kernel_rfl) ?_
      refine A_no 31 rfl (Wants.of rfl rfl rfl) (fun c e => by cases e) (by kernel_rfl) ?_
      refine A_no 32 rfl (Wants.of rfl rfl rfl) (fun c e => by cases e) (by kernel_rfl) ?_
      refine A_no 33 rfl (Wants.of rfl rfl rfl) (fun c e => by cases e) (by kernel_rfl) ?_
      refine A_no 34 rfl (Wants.of rfl rfl rfl) (fun c e => by cases e) (by kernel_rfl) ?_
      refine A_no 35 rfl (Wants.of rfl rfl rfl) (fun c e => by cases e) (by kernel_rfl) ?_
      refine A_no 36 rfl (Wants.of rfl rfl rfl) (fun c e => by cases e) (by kernel_rfl) ?_
      refine A_no 37 rfl (Wants.of rfl rfl rfl) (fun c e => by cases e) (by kernel_rfl) ?_
      refine A_pv 38 rfl (Wants.none rfl) rfl (by kernel_rfl) ?_
      refine A_end (by kernel_rfl) (by repeat first | exact .nil | refine .cons (.inr H.at) ?_ | refine .cons (.inr H.mp) ?_ | refine .cons (.inl (by kernel_rfl)) ?_) ?_
      repeat refine C_seq ?_
      refine C_true rfl ?_
      repeat refine C_seq ?_
      refine C_region ?_
      refine Lp_pv rfl rfl ?_
      refine Lp_pv rfl rfl ?_
      refine Lp_nil ?_
      exact C_ret (fn_end0 _ (.inr rfl) H.drop rfl fun w' H' => ⟨rfl, H'⟩)
    · by_cases h0 : i < 0
      · repeat refine C_seq ?_
        refine C_drawH H mixed ?_
        clear H; intro w H
        refine A_fieldAddr 0 rfl (Wants.none rfl) rfl (by kernel_rfl) ?_
        refine A_load1 1 [] H rfl (Wants.none rfl) rfl rfl (by kernel_rfl) ?_
        refine A_pv 2 rfl (Wants.none rfl) rfl (by kernel_rfl) ?_
        rw [show decide (i < 0) = true from decide_eq_true (by omega)]
        refine A_pv 3 rfl (Wants.none rfl) rfl (by kernel_rfl) ?_
        refine A_no 4 rfl (Wants.of rfl rfl rfl) (fun c e => by cases e) (by kernel_rfl) ?_
        refine A_no 5 rfl (Wants.of rfl rfl rfl) (fun c e => by cases e) (by kernel_rfl) ?_
        refine A_no 6 rfl (Wants.of rfl rfl rfl) (fun c e => by cases e) (by kernel_rfl) ?_
        refine A_no 7 rfl (Wants.of rfl rfl rfl) (fun c e => by cases e) (by kernel_rfl) ?_
        refine A_no 8 rfl (Wants.of rfl rfl rfl) (fun c e => by cases e) (by kernel_rfl) ?_
        refine A_no 9 rfl (Wants.of rfl rfl rfl) (fun c e => by cases e) (by kernel_rfl) ?_
        refine A_no 10 rfl (Wants.of rfl rfl rfl) (fun c e => by cases e) (by kernel_rfl) ?_
        refine A_no 11 rfl (Wants.of rfl rfl rfl) (fun c e => by cases e) (by kernel_rfl) ?_
        refine A_pv 12 rfl (Wants.none rfl) rfl (by kernel_rfl) ?_
        refine A_pv 13 rfl (Wants.none rfl) rfl (by kernel_rfl) ?_
        refine A_no 14 rfl (Wants.of rfl rfl rfl) (fun c e => by cases e) (by kernel_rfl) ?_
        refine A_no 15 rfl (Wants.of rfl rfl rfl) (fun c e => by cases e) (by kernel_rfl) ?_
        refine A_no 16 rfl (Wants.of rfl rfl rfl) (fun c e => by cases e) (by kernel_rfl) ?_
        refine A_no 17 rfl (Wants.of rfl rfl rfl) (fun c e => by cases e) (by kernel_rfl) ?_
        refine A_no 18 rfl (Wants.of rfl rfl rfl) (fun c e => by cases e) (by kernel_rfl) ?_
        refine A_no 19 rfl (Wants.of rfl rfl rfl) (fun c e => by cases e) (by kernel_rfl) ?_
        refine A_no 20 rfl (Wants.of rfl rfl rfl) (fun c e => by cases e) (by kernel_rfl) ?_
        refine A_no 21 rfl (Wants.of rfl rfl rfl) (fun c e => by cases e) (by kernel_rfl) ?_
        refine A_no 22 rfl (Wants.of rfl rfl rfl) (fun c e => by cases e) (by kernel_rfl) ?_
        refine A_no 23 rfl (Wants.of rfl rfl rfl) (fun c e => by cases e) (by kernel_rfl) ?_
        refine A_pv 24 rfl (Wants.none rfl) rfl (by kernel_rfl) ?_
        refine A_pv 25 rfl (Wants.none rfl) rfl (by kernel_rfl) ?_
        refine A_no 26 rfl (Wants.of rfl rfl rfl) (fun c e => by cases e) (by kernel_rfl) ?_
        refine A_no 27 rfl (Wants.of rfl rfl rfl) (fun c e => by cases e) (by kernel_rfl) ?_
        refine A_no 28 rfl (Wants.of rfl rfl rfl) (fun c e => by cases e) (by kernel_rfl) ?_
        refine A_no 29 rfl (Wants.of rfl rfl rfl) (fun c e => by cases e) (by kernel_rfl) ?_
        refine A_no 30 rfl (Wants.of rfl rfl rfl) (fun c e => by cases e) (by kernel_rfl) ?_
        refine A_no 31 rfl (Wants.of rfl rfl rfl) (fun c e => by cases e) (by kernel_rfl) ?_
        refine A_no 32 rfl (Wants.of rfl rfl rfl) (fun c e => by cases e) (by kernel_rfl) ?_
        refine A_no 33 rfl (Wants.of rfl rfl rfl) (fun c e => by cases e) (by kernel_rfl) ?_
        refine A_no 34 rfl (Wants.of rfl rfl rfl) (fun c e => by cases e) (by kernel_rfl) ?_
        refine A_no 35 rfl (Wants.of rfl rfl rfl) (fun c e => by cases e) (by kernel_rfl) ?_
        refine A_no 36 rfl (Wants.of rfl rfl rfl) (fun c e => by cases e) (by kernel_rfl) ?_
        refine A_no 37 rfl (Wants.of rfl rfl rfl) (fun c e => by cases e) (by kernel_rfl) ?_
        refine A_pv 38 rfl (Wants.none rfl) rfl (by kernel_rfl) ?_
        refine A_end (by kernel_rfl) (by repeat first | exact .nil | refine .cons (.inr H.at) ?_ | refine .cons (.inr H.mp) ?_ | refine .cons (.inl (by kernel_rfl)) ?_) ?_
        repeat refine C_seq ?_
        refine C_true rfl ?_
        repeat refine C_seq ?_
        refine C_region ?_
        refine Lp_pv rfl rfl ?_
        refine Lp_pv rfl rfl ?_
        refine Lp_nil ?_
        exact C_ret (fn_end0 _ (.inr rfl) H.drop rfl fun w' H' => ⟨rfl, H'⟩)
      · repeat refine C_seq ?_
        refine C_drawH H mixed ?_
        clear H; intro w H
        refine A_fieldAddr 0 rfl (Wants.none rfl) rfl (by kernel_rfl) ?_
        refine A_load1 1 [] H rfl (Wants.none rfl) rfl rfl (by kernel_rfl) ?_
        refine A_pv 2 rfl (Wants.none rfl) rfl (by kernel_rfl) ?_
        rw [show decide (i < 0) = false from decide_eq_false (by omega)]
        refine A_pv 3 rfl (Wants.none rfl) rfl (by kernel_rfl) ?_
        refine A_fieldAddr 4 rfl (Wants.of rfl rfl rfl) rfl (by kernel_rfl) ?_
        refine A_load1 5 [] H rfl (Wants.of rfl rfl rfl) rfl rfl (by kernel_rfl) ?_
        refine A_pv 6 rfl (Wants.of rfl rfl rfl) rfl (by kernel_rfl) ?_
        refine A_pv 7 rfl (Wants.of rfl rfl rfl) rfl (by kernel_rfl) ?_
        refine A_fieldAddr 8 rfl (Wants.of rfl rfl rfl) rfl (by kernel_rfl) ?_
        refine A_load1 9 [] H rfl (Wants.of rfl rfl rfl) rfl rfl (by kernel_rfl) ?_
        refine A_lenSlice 10 rfl (Wants.of rfl rfl rfl) rfl (by kernel_rfl) ?_
        refine A_pv 11 rfl (Wants.of rfl rfl rfl) rfl (by kernel_rfl) ?_
        rw [show decide (i ≥ (ts.length : Int)) = true from decide_eq_true (by omega)]
        refine A_pv 12 rfl (Wants.none rfl) rfl (by kernel_rfl) ?_
        refine A_pv 13 rfl (Wants.none rfl) rfl (by kernel_rfl) ?_
        refine A_no 14 rfl (Wants.of rfl rfl rfl) (fun c e => by cases e) (by kernel_rfl) ?_
        refine A_no 15 rfl (Wants.of rfl rfl rfl) (fun c e => by cases e) (by kernel_rfl) ?_
        refine A_no 16 rfl (Wants.of rfl rfl rfl) (fun c e => by cases e) (by kernel_rfl) ?_
        refine A_no 17 rfl (Wants.of rfl rfl rfl) (fun c e => by cases e) (by kernel_rfl) ?_
        refine A_no 18 rfl (Wants.of rfl rfl rfl) (fun c e => by cases e) (by kernel_rfl) ?_
        refine A_no 19 rfl (Wants.of rfl rfl rfl) (fun c e => by cases e) (by kernel_rfl) ?_
        refine A_no 20 rfl (Wants.of rfl rfl rfl) (fun c e => by cases e) (by kernel_rfl) ?_
        refine A_no 21 rfl (Wants.of rfl rfl rfl) (fun c e => by cases e) (by kernel_rfl) ?_
        refine A_no 22 rfl (Wants.of rfl rfl rfl) (fun c e => by cases e) (by kernel_rfl) ?_
        refine A_no 23 rfl (Wants.of rfl rfl rfl) (fun c e => by cases e) (by kernel_rfl) ?_
        refine A_pv 24 rfl (Wants.none rfl) rfl (by kernel_rfl) ?_
        refine A_pv 25 rfl (Wants.none rfl) rfl (by kernel_rfl) ?_
        refine A_no 26 rfl (Wants.of rfl rfl rfl) (fun c e => by cases e) (by kernel_rfl) ?_
        refine A_no 27 rfl (Wants.of rfl rfl rfl) (fun c e => by cases e) (by kernel_rfl) ?_
        refine A_no 28 rfl (Wants.of rfl rfl rfl) (fun c e => by cases e) (by kernel_rfl) ?_
        refine A_no 29 rfl (Wants.of rfl rfl rfl) (fun c e => by cases e) (by kernel_rfl) ?_
        refine A_no 30 rfl (Wants.of rfl rfl rfl) (fun c e => by cases e) (by kernel_rfl) ?_
        refine A_no 31 rfl (Wants.of rfl rfl rfl) (fun c e => by cases e) (by kernel_rfl) ?_
        refine A_no 32 rfl (Wants.of rfl rfl rfl) (fun c e => by cases e) (by kernel_rfl) ?_
        refine A_no 33 rfl (Wants.of rfl rfl rfl) (fun c e => by cases e) (by kernel_rfl) ?_
        refine A_no 34 rfl (Wants.of rfl rfl rfl) (fun c e => by cases e) (by kernel_rfl) ?_
        refine A_no 35 rfl (Wants.of rfl rfl rfl) (fun c e => by cases e) (by kernel_rfl) ?_
        refine A_no 36 rfl (Wants.of rfl rfl rfl) (fun c e => by cases e) (by kernel_rfl) ?_
        refine A_no 37 rfl (Wants.of rfl rfl rfl) (fun c e => by cases e) (by kernel_rfl) ?_
        refine A_pv 38 rfl (Wants.none rfl) rfl (by kernel_rfl) ?_
        refine A_end (by kernel_rfl) (by repeat first | exact .nil | refine .cons (.inr H.at) ?_ | refine .cons (.inr H.mp) ?_ | refine .cons (.inl (by kernel_rfl)) ?_) ?_
        repeat refine C_seq ?_
        refine C_true rfl ?_
        repeat refine C_seq ?_
        refine C_region ?_
        refine Lp_pv rfl rfl ?_
        refine Lp_pv rfl rfl ?_
        refine Lp_nil ?_
        exact C_ret (fn_end0 _ (.inr rfl) H.drop rfl fun w' H' => ⟨rfl, H'⟩)
    · have hkl : k < ts.length := (List.getElem?_eq_some_iff.1 hk).1
      have c1 : (ts.flatMap tval ++ s)[k * 6 + 1]? = some (.bool t.ent.isSome) := flat_get tval_len hk (tval_used t)
      have c0 : (ts.flatMap tval ++ s)[k * 6 + 0]? = some (.int .i64 t.gen) := flat_get tval_len hk (tval_gen t)
      have ei : 0 + ((k : Nat) : Int).toNat * 6 = k * 6 := by simp
      repeat refine C_seq ?_
      refine C_drawH H mixed ?_
      clear H; intro w H
      refine A_fieldAddr 0 rfl (Wants.none rfl) rfl (by kernel_rfl) ?_
      refine A_load1 1 [] H rfl (Wants.none rfl) rfl rfl (by kernel_rfl) ?_
      refine A_pv 2 rfl (Wants.none rfl) rfl (by kernel_rfl) ?_
      rw [show decide ((k : Int) < 0) = false from decide_eq_false (by omega)]
      refine A_pv 3 rfl (Wants.none rfl) rfl (by kernel_rfl) ?_
      refine A_fieldAddr 4 rfl (Wants.of rfl rfl rfl) rfl (by kernel_rfl) ?_
      refine A_load1 5 [] H rfl (Wants.of rfl rfl rfl) rfl rfl (by kernel_rfl) ?_
      refine A_pv 6 rfl (Wants.of rfl rfl rfl) rfl (by kernel_rfl) ?_
      refine A_pv 7 rfl (Wants.of rfl rfl rfl) rfl (by kernel_rfl) ?_
      refine A_fieldAddr 8 rfl (Wants.of rfl rfl rfl) rfl (by kernel_rfl) ?_
      refine A_load1 9 [] H rfl (Wants.of rfl rfl rfl) rfl rfl (by kernel_rfl) ?_
      refine A_lenSlice 10 rfl (Wants.of rfl rfl rfl) rfl (by kernel_rfl) ?_
      refine A_pv 11 rfl (Wants.of rfl rfl rfl) rfl (by kernel_rfl) ?_
      rw [show decide ((k : Int) ≥ (ts.length : Int)) = false from decide_eq_false (by omega)]
      refine A_pv 12 rfl (Wants.none rfl) rfl (by kernel_rfl) ?_
      refine A_pv 13 rfl (Wants.none rfl) rfl (by kernel_rfl) ?_
      refine A_pv 14 rfl (Wants.of rfl rfl rfl) rfl (by kernel_rfl) ?_
      refine A_pv 15 rfl (Wants.of rfl rfl rfl) rfl (by kernel_rfl) ?_
      refine A_fieldAddr 16 rfl (Wants.of rfl rfl rfl) rfl (by kernel_rfl) ?_
      refine A_load1 17 [] H rfl (Wants.of rfl rfl rfl) rfl rfl (by kernel_rfl) ?_
      refine A_fieldAddr 18 rfl (Wants.of rfl rfl rfl) rfl (by kernel_rfl) ?_
      refine A_load1 19 [] H rfl (Wants.of rfl rfl rfl) rfl rfl (by kernel_rfl) ?_
      refine A_indexAddr 20 rfl (Wants.of rfl rfl rfl) rfl rfl (by omega) (by omega) (by kernel_rfl) ?_
      rw [ei]
      refine A_fieldAddr 21 rfl (Wants.of rfl rfl rfl) rfl (by kernel_rfl) ?_
      refine A_load1 22 [] H rfl (Wants.of rfl rfl rfl) rfl c1 (by kernel_rfl) ?_
      rcases ht with ht | ⟨ht, hne⟩
      · rw [ht]
        refine A_pv 23 rfl (Wants.of rfl rfl rfl) rfl (by kernel_rfl) ?_
        refine A_pv 24 rfl (Wants.none rfl) rfl (by kernel_rfl) ?_
        refine A_pv 25 rfl (Wants.none rfl) rfl (by kernel_rfl) ?_
        refine A_no 26 rfl (Wants.of rfl rfl rfl) (fun c e => by cases e) (by kernel_rfl) ?_
        refine A_no 27 rfl (Wants.of rfl rfl rfl) (fun c e => by cases e) (by kernel_rfl) ?_
        refine A_no 28 rfl (Wants.of rfl rfl rfl) (fun c e => by cases e) (by kernel_rfl) ?_
        refine A_no 29 rfl (Wants.of rfl rfl rfl) (fun c e => by cases e) (by kernel_rfl) ?_
        refine A_no 30 rfl (Wants.of rfl rfl rfl) (fun c e => by cases e) (by kernel_rfl) ?_
        refine A_no 31 rfl (Wants.of rfl rfl rfl) (fun c e => by cases e) (by kernel_rfl) ?_
        refine A_no 32 rfl (Wants.of rfl rfl rfl) (fun c e => by cases e) (by kernel_rfl) ?_
        refine A_no 33 rfl (Wants.of rfl rfl rfl) (fun c e => by cases e) (by kernel_rfl) ?_
        refine A_no 34 rfl (Wants.of rfl rfl rfl) (fun c e => by cases e) (by kernel_rfl) ?_
        refine A_no 35 rfl (Wants.of rfl rfl rfl) (fun c e => by cases e) (by kernel_rfl) ?_
        refine A_no 36 rfl (Wants.of rfl rfl rfl) (fun c e => by cases e) (by kernel_rfl) ?_
        refine A_no 37 rfl (Wants.of rfl rfl rfl) (fun c e => by cases e) (by kernel_rfl) ?_
        refine A_pv 38 rfl (Wants.none rfl) rfl (by kernel_rfl) ?_
        refine A_end (by kernel_rfl) (by repeat first | exact .nil | refine .cons (.inr H.at) ?_ | refine .cons (.inr H.mp) ?_ | refine .cons (.inl (by kernel_rfl)) ?_) ?_
        repeat refine C_seq ?_
        refine C_true rfl ?_
        repeat refine C_seq ?_
        refine C_region ?_
        refine Lp_pv rfl rfl ?_
        refine Lp_pv rfl rfl ?_
        refine Lp_nil ?_
        exact C_ret (fn_end0 _ (.inr rfl) H.drop rfl fun w' H' => ⟨rfl, H'⟩)
      · rw [ht]
        refine A_pv 23 rfl (Wants.of rfl rfl rfl) rfl (by kernel_rfl) ?_
        refine A_pv 24 rfl (Wants.none rfl) rfl (by kernel_rfl) ?_
        refine A_pv 25 rfl (Wants.none rfl) rfl (by kernel_rfl) ?_
        refine A_pv 26 rfl (Wants.of rfl rfl rfl) rfl (by kernel_rfl) ?_
        refine A_pv 27 rfl (Wants.of rfl rfl rfl) rfl (by kernel_rfl) ?_
        refine A_fieldAddr 28 rfl (Wants.of rfl rfl rfl) rfl (by kernel_rfl) ?_
        refine A_load1 29 [] H rfl (Wants.of rfl rfl rfl) rfl rfl (by kernel_rfl) ?_
        refine A_fieldAddr 30 rfl (Wants.of rfl rfl rfl) rfl (by kernel_rfl) ?_
        refine A_load1 31 [] H rfl (Wants.of rfl rfl rfl) rfl rfl (by kernel_rfl) ?_
        refine A_indexAddr 32 rfl (Wants.of rfl rfl rfl) rfl rfl (by omega) (by omega) (by kernel_rfl) ?_
        rw [ei]
        refine A_fieldAddr 33 rfl (Wants.of rfl rfl rfl) rfl (by kernel_rfl) ?_
        refine A_load1 34 [] H rfl (Wants.of rfl rfl rfl) rfl c0 (by kernel_rfl) ?_
        refine A_fieldAddr 35 rfl (Wants.of rfl rfl rfl) rfl (by kernel_rfl) ?_
        refine A_load1 36 [] H rfl (Wants.of rfl rfl rfl) rfl rfl (by kernel_rfl) ?_
        refine A_pv 37 rfl (Wants.of rfl rfl rfl) rfl (by kernel_rfl) ?_
        rw [show (((t.gen : Nat) : Int) != g) = true by simpa using hne]
        refine A_pv 38 rfl (Wants.none rfl) rfl (by kernel_rfl) ?_
        refine A_end (by kernel_rfl) (by repeat first | exact .nil | refine .cons (.inr H.at) ?_ | refine .cons (.inr H.mp) ?_ | refine .cons (.inl (by kernel_rfl)) ?_) ?_
        repeat refine C_seq ?_
        refine C_true rfl ?_
        repeat refine C_seq ?_
        refine C_region ?_
        refine Lp_pv rfl rfl ?_
        refine Lp_pv rfl rfl ?_
        refine Lp_nil ?_
        exact C_ret (fn_end0 _ (.inr rfl) H.drop rfl fun w' H' => ⟨rfl, H'⟩)
end Go.Proofs.YtcaaojbnjfdglaaGreatDoor
namespace Go.Proofs.YtcaaojbnjfdglaaGreatDoor
open Go.SL

theorem goneT_set {ts : List Slt} {k : Nat} {t t' : Slt} (hk : ts[k]? = some t) (hb : (t'.ent.isNone && t'.gen == 255) = (t.ent.isNone && t.gen == 255)) : goneT (ts.set k t') = goneT ts := by
  unfold goneT
  rw [set_split hk]
  conv => rhs; rw [split_at hk]
  rw [List.filter_append, List.filter_append, List.filter_cons, List.filter_cons, hb]
  split <;> simp
theorem TabOk.set {ts : List Slt} {x k : Nat} {t t' : Slt} (h : TabOk ts x) (hk : ts[k]? = some t) (hb : busy t' = busy t) (hg : t'.gen ≤ 255) : TabOk (ts.set k t') x := by
  refine ⟨by rw [List.length_set]; exact h.bits, fun i u hu => ?_, fun i u hu => ?_⟩
  · rcases tab_set hu with ⟨rfl, rfl, _⟩ | ⟨_, hu⟩
    · rw [hb]; exact h.bit _ _ hk
    · exact h.bit _ _ hu
  · rcases tab_set hu with ⟨rfl, rfl, _⟩ | ⟨_, hu⟩
    · exact hg
    · exact h.gen _ _ hu

theorem tGet_spec [Extra] (p : Nat) (ts : List Slt) (i g : Int) {w : World} {fr : List HProp} (H : Holds w (TAB p ts :: fr)) :
    Calls Tryz.prog 44 #[pp p, tkI2 i g] w (ret fun v w' => v = (match lookT ts i g with | some (_, e) => .tuple #[.agg (evl e).toArray, .int .i64 0] | none => .tuple #[.agg #[.int .i64 0, .int .i64 0, .bool false, .bool false], .int .i64 8]) ∧ Holds w' (TAB p ts :: fr)) := by
  obtain ⟨b, c, s, u, x, hok, hc, H, hclose⟩ := TAB_out H
  refine calls_of Tryz.func44 rfl (by kernel_rfl) ?_
  repeat refine C_seq ?_
  refine C_region ?_
  (refine Lp_s rfl (St_boxN H rfl rfl ?_); clear H; intro b3 w H)
  (refine Lp_s rfl (St_alloc H rfl ?_); clear H; intro b4 w H)
  refine Lp_pv rfl rfl ?_
  refine Lp_nil ?_
  repeat refine C_seq ?_
  refine C_region ?_
  refine Lp_pv rfl rfl ?_
  refine Lp_s rfl (St_loadN H rfl (by repeat (first | exact Reads.nil _ | apply Reads.cons rfl)) rfl ?_)
  replace H := Holds.sel [2, 2, 0, 0, 0] 0 H; dsimp only [SL.sel, SL.pull, List.drop] at H
  refine Lp_s rfl (St_call (a := []) (b := []) rfl rfl (call (find_open p b c u _ rfl ts s hok.bits.le i g H) ?_))
  clear H; rintro v w ⟨rfl, H⟩
  cases hL : lookT ts i g with
  | some q =>
    obtain ⟨k, e⟩ := q
    obtain ⟨n, rfl, rfl, hk⟩ := lookT_some.1 hL
    have hrd : Reads (ts.flatMap tval ++ s) (k * 6 + 2) 4 (evl e) := flat_reads (vs := evl e) tval_len hk (by repeat (first | exact Reads.nil _ | apply Reads.cons rfl))
    refine Lp_pv rfl rfl ?_
    refine Lp_pv rfl rfl ?_
    refine Lp_pv rfl rfl ?_
    refine Lp_pv rfl rfl ?_
    refine Lp_pv rfl rfl ?_
    refine Lp_nil ?_
    repeat refine C_seq ?_
    refine C_region ?_
    refine Lp_pv rfl rfl ?_
    refine Lp_pv rfl rfl ?_
    refine Lp_nil ?_
    repeat refine C_seq ?_
    refine C_false rfl (C_skip ?_)
    repeat refine C_seq ?_
    refine C_region ?_
    refine Lp_pv rfl rfl ?_
    refine Lp_pv rfl rfl ?_
    refine Lp_s rfl (St_fieldAddr rfl rfl ?_)
    refine Lp_s rfl (St_loadN H rfl hrd rfl ?_)
    (refine Lp_s rfl (St_storeN H rfl rfl inferInstance rfl rfl (Nat.le_of_ble_eq_true rfl) rfl ?_); clear H; intro w H)
    refine Lp_pv rfl rfl ?_
    refine Lp_nil ?_
    replace H := Holds.sel [2, 0, 0, 1] 1 H; dsimp only [SL.sel, SL.pull, List.drop] at H
    exact C_ret (fn_endC _ (.inr rfl) H (fun w' H' => .cellN H' rfl (by repeat (first | exact Reads.nil _ | apply Reads.cons rfl)) (.tmp .nil)) fun w' H' => ⟨rfl, hclose _ _ ts x rfl rfl hok H'.drop⟩)
  | none =>
    refine Lp_pv rfl rfl ?_
    refine Lp_pv rfl rfl ?_
    refine Lp_pv rfl rfl ?_
    refine Lp_pv rfl rfl ?_
    refine Lp_pv rfl rfl ?_
    refine Lp_nil ?_
    repeat refine C_seq ?_
    refine C_region ?_
    refine Lp_pv rfl rfl ?_
    refine Lp_pv rfl rfl ?_
    refine Lp_nil ?_
    repeat refine C_seq ?_
    refine C_true rfl ?_
    repeat refine C_seq ?_
    refine C_region ?_
    refine Lp_s rfl (St_build rfl rfl ?_)
    refine Lp_pv rfl rfl ?_
    (refine Lp_s rfl (St_storeN H rfl rfl inferInstance rfl rfl (Nat.le_of_ble_eq_true rfl) rfl ?_); clear H; intro w H)
    refine Lp_pv rfl rfl ?_
    refine Lp_nil ?_
    replace H := Holds.sel [2, 0, 0, 1] 1 H; dsimp only [SL.sel, SL.pull, List.drop] at H
    exact C_ret (fn_endC _ (.inr rfl) H (fun w' H' => .cellN H' rfl (by repeat (first | exact Reads.nil _ | apply Reads.cons rfl)) (.tmp .nil)) fun w' H' => ⟨rfl, hclose _ _ ts x rfl rfl hok H'.drop⟩)

theorem tSet_spec [Extra] (p : Nat) (ts : List Slt) (i g : Int) (e' : Ent) {w : World} {fr : List HProp} (H : Holds w (TAB p ts :: fr)) :
    Calls Tryz.prog 60 #[pp p, tkI2 i g, .agg (evl e').toArray] w (ret fun v w' => (∃ k e, lookT ts i g = some (k, e) ∧ v = .int .i64 0 ∧ Holds w' (TAB p (ts.set k ⟨g.toNat, some e'⟩) :: fr)) ∨ (lookT ts i g = none ∧ v = .int .i64 8 ∧ Holds w' (TAB p ts :: fr))) := by
  obtain ⟨b, c, s, u, x, hok, hc, H, hclose⟩ := TAB_out H
  refine calls_of Tryz.func60 rfl (by kernel_rfl) ?_
  repeat refine C_seq ?_
  refine C_region ?_
  (refine Lp_s rfl (St_boxN H rfl rfl ?_); clear H; intro b4 w H)
  (refine Lp_s rfl (St_boxN H rfl rfl ?_); clear H; intro b5 w H)
  refine Lp_pv rfl rfl ?_
  refine Lp_nil ?_
  repeat refine C_seq ?_
  refine C_region ?_
  refine Lp_pv rfl rfl ?_
  refine Lp_s rfl (St_loadN H rfl (by repeat (first | exact Reads.nil _ | apply Reads.cons rfl)) rfl ?_)
  replace H := Holds.sel [2, 2, 0, 0, 0] 0 H; dsimp only [SL.sel, SL.pull, List.drop] at H
  refine Lp_s rfl (St_call (a := []) (b := []) rfl rfl (call (find_open p b c u _ rfl ts s hok.bits.le i g H) ?_))
  clear H; rintro v w ⟨rfl, H⟩
  cases hL : lookT ts i g with
  | some q =>
    obtain ⟨k, e⟩ := q
    obtain ⟨n, rfl, rfl, hk⟩ := lookT_some.1 hL
    refine Lp_pv rfl rfl ?_
    refine Lp_pv rfl rfl ?_
    refine Lp_pv rfl rfl ?_
    refine Lp_pv rfl rfl ?_
    refine Lp_pv rfl rfl ?_
    refine Lp_nil ?_
    repeat refine C_seq ?_
    refine C_region ?_
    refine Lp_pv rfl rfl ?_
    refine Lp_pv rfl rfl ?_
    refine Lp_nil ?_
    repeat refine C_seq ?_
    refine C_join (fun ms σ w => ms = [] ∧ σ 8 = .int .i64 0 ∧ Holds w (TAB p (ts.set k ⟨n, some e'⟩) :: fr)) ?_ ?_
    · refine C_true rfl ?_
      repeat refine C_seq ?_
      refine C_region ?_
      refine Lp_pv rfl rfl ?_
      refine Lp_s rfl (St_loadN H rfl (by repeat (first | exact Reads.nil _ | apply Reads.cons rfl)) rfl ?_)
      refine Lp_pv rfl rfl ?_
      refine Lp_s rfl (St_fieldAddr rfl rfl ?_)
      replace H := Holds.sel [1, 0, 0, 0, 0] 0 H; dsimp only [SL.sel, SL.pull, List.drop] at H
      have hlen := flat_len tval_len ts
      have hkl : k < ts.length := (List.getElem?_eq_some_iff.1 hk).1
      refine Lp_s rfl (St_storeN (vs := evl e') H rfl rfl inferInstance rfl rfl (by rw [List.length_append, hlen]; omega) rfl ?_); clear H; intro w H
      rw [flat_wr (x' := ⟨n, some e'⟩) tval_len hk (by simp) rfl] at H
      refine Lp_nil ?_
      replace H := Holds.sel [1, 0, 2] 2 H; dsimp only [SL.sel, SL.pull, List.drop] at H
      exact ⟨rfl, rfl, rfl, hclose _ _ (ts.set k ⟨n, some e'⟩) x (by simp) (goneT_set hk rfl) (hok.set hk rfl (by have := hok.gen _ _ hk; exact this)) H⟩
    · clear H
      rintro ms σ w ⟨rfl, g8, H⟩
      rw [upd_self g8]
      repeat refine C_seq ?_
      refine C_region ?_
      refine Lp_pv rfl rfl ?_
      refine Lp_pv rfl rfl ?_
      refine Lp_nil ?_
      exact C_ret (fn_end0 _ (.inr rfl) H rfl fun w' H' => .inl ⟨k, e, rfl, rfl, H'⟩)
  | none =>
    refine Lp_pv rfl rfl ?_
    refine Lp_pv rfl rfl ?_
    refine Lp_pv rfl rfl ?_
    refine Lp_pv rfl rfl ?_
    refine Lp_pv rfl rfl ?_
    refine Lp_nil ?_
    repeat refine C_seq ?_
    refine C_region ?_
    refine Lp_pv rfl rfl ?_
    refine Lp_pv rfl rfl ?_
    refine Lp_nil ?_
    repeat refine C_seq ?_
    refine C_false rfl (C_skip ?_)
    repeat refine C_seq ?_
    refine C_region ?_
    refine Lp_pv rfl rfl ?_
    refine Lp_pv rfl rfl ?_
    refine Lp_nil ?_
    replace H := Holds.sel [0, 0, 2] 2 H; dsimp only [SL.sel, SL.pull, List.drop] at H
    exact C_ret (fn_end0 _ (.inr rfl) H rfl fun w' H' => .inr ⟨rfl, rfl, hclose _ _ ts x rfl rfl hok H'⟩)

end Go.Proofs.YtcaaojbnjfdglaaGreatDoor
namespace Go.Proofs.YtcaaojbnjfdglaaGreatDoor
open Go.SL

theorem tAt_spec [Extra] (p : Nat) (ts : List Slt) (k n : Nat) (e : Ent) (hk : ts[k]? = some ⟨n, some e⟩) {w : World} {fr : List HProp} (H : Holds w (TAB p ts :: fr)) :
    Calls Tryz.prog 98 #[pp p, .int .i64 k] w (ret fun v w' => v = .tuple #[tkn k n, .bool true] ∧ Holds w' (TAB p ts :: fr)) := by
  obtain ⟨b, c, s, u, x, hok, hc, H, hclose⟩ := TAB_out H
  have hb := hok.bits.le
  have hkl : k < ts.length := (List.getElem?_eq_some_iff.1 hk).1
  have c1 : (ts.flatMap tval ++ s)[k * 6 + 1]? = some (.bool true) := flat_get tval_len hk rfl
  have c0 : (ts.flatMap tval ++ s)[k * 6 + 0]? = some (.int .i64 n) := flat_get tval_len hk rfl
  have ei : 0 + ((k : Nat) : Int).toNat * 6 = k * 6 := by simp
  refine calls_of Tryz.func98 rfl (by kernel_rfl) ?_
  repeat refine C_seq ?_
  refine C_region ?_
  (refine Lp_s rfl (St_alloc H rfl ?_); clear H; intro b4 w H)
  refine Lp_pv rfl rfl ?_
  refine Lp_nil ?_
  repeat refine C_seq ?_
  refine C_region ?_
  refine Lp_pv rfl rfl ?_
  refine Lp_s rfl (St_eqPtrNil rfl rfl (.inl rfl) rfl ?_)
  refine Lp_pv rfl rfl ?_
  refine Lp_gpv rfl rfl rfl rfl ?_
  refine Lp_gpv rfl rfl rfl rfl ?_
  rw [show decide ((k : Int) < 0) = false from decide_eq_false (by omega)]
  refine Lp_pv rfl rfl ?_
  refine Lp_pv rfl rfl ?_
  refine Lp_gpv rfl rfl rfl rfl ?_
  refine Lp_gpv rfl rfl rfl rfl ?_
  refine Lp_gpv rfl rfl rfl rfl ?_
  refine Lp_g rfl rfl rfl (St_fieldAddr rfl rfl ?_)
  refine Lp_g rfl rfl rfl (St_load1 H rfl rfl rfl ?_)
  refine Lp_g rfl rfl rfl (St_lenSlice rfl rfl ?_)
  refine Lp_gpv rfl rfl rfl rfl ?_
  rw [show decide ((k : Int) ≥ (ts.length : Int)) = false from decide_eq_false (by omega)]
  refine Lp_pv rfl rfl ?_
  refine Lp_pv rfl rfl ?_
  refine Lp_gpv rfl rfl rfl rfl ?_
  refine Lp_gpv rfl rfl rfl rfl ?_
  refine Lp_g rfl rfl rfl (St_fieldAddr rfl rfl ?_)
  refine Lp_g rfl rfl rfl (St_load1 H rfl rfl rfl ?_)
  refine Lp_gpv rfl rfl rfl rfl ?_
  refine Lp_g rfl rfl rfl (St_indexAddr rfl rfl (by omega) (by omega) rfl ?_)
  rw [ei]
  refine Lp_g rfl rfl rfl (St_fieldAddr rfl rfl ?_)
  refine Lp_g rfl rfl rfl (St_load1 H rfl c1 rfl ?_)
  refine Lp_gpv rfl rfl rfl rfl ?_
  refine Lp_pv rfl rfl ?_
  refine Lp_nil ?_
  repeat refine C_seq ?_
  refine C_false rfl (C_skip ?_)
  repeat refine C_seq ?_
  refine C_region ?_
  refine Lp_pv rfl rfl ?_
  refine Lp_pv rfl rfl ?_
  refine Lp_pv rfl rfl ?_
  refine Lp_s rfl (St_fieldAddr rfl rfl ?_)
  refine Lp_s rfl (St_load1 H rfl rfl rfl ?_)
  refine Lp_pv rfl rfl ?_
  refine Lp_s rfl (St_indexAddr rfl rfl (by omega) (by omega) rfl ?_)
  rw [ei]
  refine Lp_s rfl (St_fieldAddr rfl rfl ?_)
  refine Lp_s rfl (St_load1 H rfl c0 rfl ?_)
  refine Lp_s rfl (St_build rfl rfl ?_)
  (refine Lp_s rfl (St_storeN H rfl rfl inferInstance rfl rfl (Nat.le_of_ble_eq_true rfl) rfl ?_); clear H; intro w H)
  refine Lp_pv rfl rfl ?_
  refine Lp_nil ?_
  exact C_ret (fn_endC _ (.inr rfl) H (fun w' H' => .cellN H' rfl (by repeat (first | exact Reads.nil _ | apply Reads.cons rfl)) (.tmp .nil)) fun w' H' => ⟨rfl, hclose _ _ ts x rfl rfl hok H'.drop⟩)

theorem tAdd_spec [Extra] (p : Nat) (ts : List Slt) (e : Ent) {w : World} {fr : List HProp} [hT : HasTab 0 Lib.deBruijn64tab fr] (H : Holds w (TAB p ts :: fr)) :
    Calls Tryz.prog 79 #[pp p, .agg (evl e).toArray] w (ret fun v w' => (∃ k n, ts[k]? = some ⟨n, none⟩ ∧ n ≤ 254 ∧ (∀ j t, j < k → ts[j]? = some t → busy t = true) ∧ v = .tuple #[tkn k (n + 1), .int .i64 0] ∧ Holds w' (TAB p (ts.set k ⟨n + 1, some e⟩) :: fr)) ∨
      ((∀ t ∈ ts, busy t = true) ∧ v = .tuple #[tkn 0 0, .int .i64 12] ∧ Holds w' (TAB p ts :: fr))) := by
  obtain ⟨b, c, s, u, x, hok, hc, H, hclose⟩ := TAB_out H
  have hb := hok.bits.le
  refine calls_of Tryz.func79 rfl (by kernel_rfl) ?_
  repeat refine C_seq ?_
  refine C_region ?_
  (refine Lp_s rfl (St_boxN H rfl rfl ?_); clear H; intro b3 w H)
  (refine Lp_s rfl (St_alloc H rfl ?_); clear H; intro b4 w H)
  refine Lp_pv rfl rfl ?_
  refine Lp_nil ?_
  repeat refine C_seq ?_
  refine C_region ?_
  refine Lp_pv rfl rfl ?_
  refine Lp_s rfl (St_eqPtrNil rfl rfl (.inl rfl) rfl ?_)
  refine Lp_nil ?_
  repeat refine C_seq ?_
  refine C_false rfl (C_skip ?_)
  repeat refine C_seq ?_
  refine C_region ?_
  refine Lp_pv rfl rfl ?_
  refine Lp_pv rfl rfl ?_
  refine Lp_s rfl (St_fieldAddr rfl rfl ?_)
  refine Lp_s rfl (St_load1 H rfl rfl rfl ?_)
  replace H := Holds.sel [4, 0, 0, 0, 0] 0 H; dsimp only [SL.sel, SL.pull, List.drop] at H
  refine Lp_s rfl (St_call (a := []) (b := []) rfl rfl (call (First_spec u ts.length x 0 _ hok.bits (by omega) H) ?_))
  clear H; rintro v w ⟨hF, H⟩
  rcases hF with ⟨k, rfl, _, hk, hoff, hall⟩ | ⟨rfl, hall⟩
  · have ht := List.getElem?_eq_getElem hk
    have hbz : ∀ j t, j < k → ts[j]? = some t → busy t = true := fun j t hj hjt => by rw [← hok.bit j t hjt]; exact hall j (Nat.zero_le _) hj
    generalize ts[k] = t at ht
    have hbk := hok.bit k t ht
    have hg := hok.gen k t ht
    rw [hoff] at hbk
    obtain ⟨n, en⟩ := t
    have hen : en = none ∧ n ≤ 254 := by
      unfold busy at hbk
      cases en with
      | none => simp at hbk hg; exact ⟨rfl, by omega⟩
      | some y => simp at hbk
    obtain ⟨rfl, hn⟩ := hen
    have ei : 0 + ((k : Nat) : Int).toNat * 6 = k * 6 := by simp
    have hlen := flat_len tval_len ts
    refine Lp_pv rfl rfl ?_
    refine Lp_pv rfl rfl ?_
    refine Lp_pv rfl rfl ?_
    refine Lp_pv rfl rfl ?_
    refine Lp_pv rfl rfl ?_
    refine Lp_nil ?_
    repeat refine C_seq ?_
    refine C_region ?_
    refine Lp_pv rfl rfl ?_
    refine Lp_pv rfl rfl ?_
    refine Lp_nil ?_
    repeat refine C_seq ?_
    refine C_false rfl (C_skip ?_)
    repeat refine C_seq ?_
    refine C_region ?_
    refine Lp_pv rfl rfl ?_
    refine Lp_pv rfl rfl ?_
    refine Lp_s rfl (St_fieldAddr rfl rfl ?_)
    refine Lp_s rfl (St_load1 H rfl rfl rfl ?_)
    refine Lp_pv rfl rfl ?_
    refine Lp_s rfl (St_call (a := []) (b := []) rfl rfl (call (bSet_spec u _ x k true hok.bits hk H) ?_))
    clear H; rintro v w ⟨rfl, H⟩
    refine Lp_nil ?_
    repeat refine C_seq ?_
    refine C_region ?_
    refine Lp_pv rfl rfl ?_
    refine Lp_pv rfl rfl ?_
    refine Lp_s rfl (St_fieldAddr rfl rfl ?_)
    refine Lp_s rfl (St_load1 H rfl rfl rfl ?_)
    refine Lp_pv rfl rfl ?_
    refine Lp_s rfl (St_indexAddr rfl rfl (by omega) (by omega) rfl ?_)
    rw [ei]
    refine Lp_pv rfl rfl ?_
    refine Lp_nil ?_
    have c0 : (ts.flatMap tval ++ s)[k * 6 + 0]? = some (.int .i64 n) := flat_get tval_len ht rfl
    replace H := Holds.sel [4, 0, 0, 0, 0] 0 H; dsimp only [SL.sel, SL.pull, List.drop] at H
    repeat refine C_seq ?_
    refine C_region ?_
    refine Lp_pv rfl rfl ?_
    refine Lp_pv rfl rfl ?_
    refine Lp_s rfl (St_fieldAddr rfl rfl ?_)
    refine Lp_s rfl (St_load1 H rfl c0 rfl ?_)
    refine Lp_pv rfl rfl ?_
    refine Lp_pv rfl rfl ?_
    refine Lp_s rfl (St_fieldAddr rfl rfl ?_)
    rw [wrap64 (x := ((n : Nat) : Int) + 1) (by omega) (by omega), show ((n : Nat) : Int) + 1 = ((n + 1 : Nat) : Int) by omega]
    refine Lp_s rfl (St_store1 H rfl rfl inferInstance rfl (by rw [List.length_append, hlen]; omega) rfl ?_); clear H; intro w H
    rw [flat_set (x' := ⟨n + 1, none⟩) tval_len ht (by omega) rfl] at H
    refine Lp_nil ?_
    have ht1 : (ts.set k ⟨n + 1, none⟩)[k]? = some (⟨n + 1, none⟩ : Slt) := List.getElem?_set_self hk
    have hlen1 := flat_len tval_len (ts.set k ⟨n + 1, none⟩)
    rw [List.length_set] at hlen1
    repeat refine C_seq ?_
    refine C_drawH H mixed ?_
    clear H; intro w H
    refine A_pv 0 rfl (Wants.none rfl) rfl (by kernel_rfl) ?_
    refine A_pv 1 rfl (Wants.none rfl) rfl (by kernel_rfl) ?_
    refine A_loadN 2 [8] H rfl (Wants.none rfl) rfl (by repeat (first | exact Reads.nil _ | apply Reads.cons rfl)) (by kernel_rfl) ?_
    refine A_pv 3 rfl (Wants.none rfl) rfl (by kernel_rfl) ?_
    refine A_fieldAddr 4 rfl (Wants.none rfl) rfl (by kernel_rfl) ?_
    refine A_one 5 rfl (by kernel_rfl) (by repeat first | exact .nil | refine .cons (.inr H.at) ?_ | refine .cons (.inr H.mp) ?_ | refine .cons (.inl (by kernel_rfl)) ?_) (Wants.none rfl) (St_store1 H rfl rfl inferInstance rfl (by rw [List.length_append, hlen1]; omega) rfl ?_); clear H; intro w H
    rw [flat_set (x' := ⟨n + 1, some ⟨0, 0, false, false, 0, 0, []⟩⟩) tval_len ht1 (by omega) rfl, List.set_set] at H
    have ht2 : (ts.set k ⟨n + 1, some ⟨0, 0, false, false, 0, 0, []⟩⟩)[k]? = some (⟨n + 1, some ⟨0, 0, false, false, 0, 0, []⟩⟩ : Slt) := List.getElem?_set_self hk
    have hlen2 := flat_len tval_len (ts.set k ⟨n + 1, some ⟨0, 0, false, false, 0, 0, []⟩⟩)
    rw [List.length_set] at hlen2
    refine A_pv 6 rfl (Wants.none rfl) rfl (by kernel_rfl) ?_
    refine A_fieldAddr 7 rfl (Wants.none rfl) rfl (by kernel_rfl) ?_
    refine A_one 8 rfl (by kernel_rfl) (by repeat first | exact .nil | refine .cons (.inr H.at) ?_ | refine .cons (.inr H.mp) ?_ | refine .cons (.inl (by kernel_rfl)) ?_) (Wants.none rfl) (St_storeN (vs := evl e) H rfl rfl inferInstance rfl rfl (by rw [List.length_append, hlen2]; omega) rfl ?_); clear H; intro w H
    rw [flat_wr (x' := ⟨n + 1, some e⟩) tval_len ht2 (by simp) rfl, List.set_set] at H
    refine A_end (by kernel_rfl) (by repeat first | exact .nil | refine .cons (.inr H.at) ?_ | refine .cons (.inr H.mp) ?_ | refine .cons (.inl (by kernel_rfl)) ?_) ?_
    have ht3 : (ts.set k ⟨n + 1, some e⟩)[k]? = some (⟨n + 1, some e⟩ : Slt) := List.getElem?_set_self hk
    have c3 : ((ts.set k ⟨n + 1, some e⟩).flatMap tval ++ s)[k * 6 + 0]? = some (.int .i64 ((n + 1 : Nat) : Int)) := flat_get tval_len ht3 rfl
    repeat refine C_seq ?_
    refine C_region ?_
    refine Lp_pv rfl rfl ?_
    refine Lp_pv rfl rfl ?_
    refine Lp_pv rfl rfl ?_
    refine Lp_s rfl (St_fieldAddr rfl rfl ?_)
    refine Lp_s rfl (St_load1 H rfl c3 rfl ?_)
    refine Lp_s rfl (St_build rfl rfl ?_)
    (refine Lp_s rfl (St_storeN H rfl rfl inferInstance rfl rfl (Nat.le_of_ble_eq_true rfl) rfl ?_); clear H; intro w H)
    refine Lp_pv rfl rfl ?_
    refine Lp_nil ?_
    replace H := Holds.sel [2, 3, 0, 0] 1 H; dsimp only [SL.sel, SL.pull, List.drop] at H
    have hn255 : (n == 255) = false := by simp; omega
    have hok' : TabOk (ts.set k ⟨n + 1, some e⟩) (setB x k true) := by
      refine ⟨by rw [List.length_set]; exact hok.bits.set hk, fun i v hv => ?_, fun i v hv => ?_⟩
      · rw [setB_bit]
        rcases tab_set hv with ⟨rfl, rfl, _⟩ | ⟨hne, hv⟩
        · rw [if_pos rfl]; rfl
        · rw [if_neg hne]; exact hok.bit _ _ hv
      · rcases tab_set hv with ⟨rfl, rfl, _⟩ | ⟨_, hv⟩
        · show n + 1 ≤ 255; omega
        · exact hok.gen _ _ hv
    exact C_ret (fn_endC _ (.inr rfl) H (fun w' H' => .cellN H' rfl (by repeat (first | exact Reads.nil _ | apply Reads.cons rfl)) (.tmp .nil)) fun w' H' => .inl ⟨k, n, ht, hn, hbz, rfl, hclose _ _ (ts.set k ⟨n + 1, some e⟩) (setB x k true) (by simp) (goneT_set ht (by simp [hn255])) hok' H'.drop⟩)
  · first | refine Lp_pv rfl rfl ?_ | refine Lp_mv rfl rfl ?_
    refine Lp_pv rfl rfl ?_
    refine Lp_pv rfl rfl ?_
    refine Lp_pv rfl rfl ?_
    refine Lp_pv rfl rfl ?_
    refine Lp_nil ?_
    repeat refine C_seq ?_
    refine C_region ?_
    refine Lp_pv rfl rfl ?_
    refine Lp_pv rfl rfl ?_
    refine Lp_nil ?_
    repeat refine C_seq ?_
    refine C_true rfl ?_
    repeat refine C_seq ?_
    refine C_region ?_
    refine Lp_s rfl (St_build rfl rfl ?_)
    (refine Lp_s rfl (St_storeN H rfl rfl inferInstance rfl rfl (Nat.le_of_ble_eq_true rfl) rfl ?_); clear H; intro w H)
    refine Lp_pv rfl rfl ?_
    refine Lp_nil ?_
    replace H := Holds.sel [1, 2, 2, 0] 1 H; dsimp only [SL.sel, SL.pull, List.drop] at H
    refine C_ret (fn_endC _ (.inr rfl) H (fun w' H' => .cellN H' rfl (by repeat (first | exact Reads.nil _ | apply Reads.cons rfl)) (.tmp .nil)) fun w' H' => .inr ⟨fun t ht => ?_, rfl, hclose _ _ ts x rfl rfl hok H'.drop⟩)
    obtain ⟨j, hj⟩ := List.getElem?_of_mem ht
    rw [← hok.bit j t hj]
    exact hall j (Nat.zero_le _) (List.getElem?_eq_some_iff.1 hj).1
end Go.Proofs.YtcaaojbnjfdglaaGreatDoor
namespace Go.Proofs.YtcaaojbnjfdglaaGreatDoor
open Go.SL

structure Ptr where
  sp : Nat
  bp : Nat
  ip : Nat
  tp : Nat
  trp : Nat
  rp : Nat
  sm : Nat
  mm : Nat
@[reducible] def ptrv : Nat → Value := fun b => pp b
@[reducible] def spkey (x : Int × Nat × Spc) : Int × Nat := (x.1, x.2.1)
@[reducible] def mnkey (x : Int × Nat × List Nat) : Int × Nat := (x.1, x.2.1)
@[reducible] def spres (sp : Nat) (x : Int × Nat × Spc) : HProp := SPC x.2.1 sp x.1.toNat x.2.2
@[reducible] def mnres (x : Int × Nat × List Nat) : HProp := BAG x.2.1 x.2.2
@[reducible] def CROW (p : Nat) (q : Ptr) : HProp := pts p (row 90 [pp q.sp, pp q.bp, pp q.ip, pp q.tp, pp q.trp, pp q.rp, .map (some q.sm), .map (some q.mm)])
def CELL (p : Nat) (s : CS) : HProp := ex fun x : Ptr × List Nat => star [prop (WF s ∧ MemOK s x.2), CROW p x.1, IMG x.1.ip x.1.sp x.1.bp, BOOK x.1.bp s.lays, ST x.1.sp s.size x.2 s.own, TAB x.1.tp s.tab, TRE x.1.trp s.last s.par, RS x.1.rp s.rem,
  mp (ki .i64) ptrv x.1.sm (s.sps.map spkey), star (s.sps.map (spres x.1.sp)), mp (ki .i64) ptrv x.1.mm (s.mns.map mnkey), star (s.mns.map mnres)]
theorem CELL_out [Extra] {w : World} {p : Nat} {s : CS} {fr : List HProp} (H : Holds w (CELL p s :: fr)) : ∃ (q : Ptr) (mem : List Nat), WF s ∧ MemOK s mem ∧
    Holds w (CROW p q :: IMG q.ip q.sp q.bp :: BOOK q.bp s.lays :: ST q.sp s.size mem s.own :: TAB q.tp s.tab :: TRE q.trp s.last s.par :: RS q.rp s.rem :: mp (ki .i64) ptrv q.sm (s.sps.map spkey) :: star (s.sps.map (spres q.sp)) :: mp (ki .i64) ptrv q.mm (s.mns.map mnkey) :: star (s.mns.map mnres) :: fr) := by
  obtain ⟨⟨q, mem⟩, H⟩ := Holds.ex.1 H
  have H := Holds.star.1 H
  obtain ⟨h, H⟩ := Holds.prop.1 H
  exact ⟨q, mem, h.1, h.2, H⟩
theorem CELL_in [Extra] {w : World} {p : Nat} {s : CS} {fr : List HProp} {q : Ptr} {mem : List Nat} (h : WF s) (hm : MemOK s mem)
    (H : Holds w (CROW p q :: IMG q.ip q.sp q.bp :: BOOK q.bp s.lays :: ST q.sp s.size mem s.own :: TAB q.tp s.tab :: TRE q.trp s.last s.par :: RS q.rp s.rem :: mp (ki .i64) ptrv q.sm (s.sps.map spkey) :: star (s.sps.map (spres q.sp)) :: mp (ki .i64) ptrv q.mm (s.mns.map mnkey) :: star (s.mns.map mnres) :: fr)) : Holds w (CELL p s :: fr) :=
  Holds.ex.2 ⟨(q, mem), Holds.star.2 (Holds.prop.2 ⟨⟨h, hm⟩, H⟩)⟩

def layE (s : CS) (e : Ent) : Lay := (s.lays[e.lay - 1]?).getD ⟨0, [], 0, []⟩
def lnkOf (w : Nat) : Lnk := if w = 0 then .none else if w = 1 then .grave else .obj (w % 4294967296 - 2) (w / 4294967296)
theorem lnkOf_big {x : Nat} (h0 : x ≠ 0) (h1 : x ≠ 1) : lnkOf x = .obj (x % 4294967296 - 2) (x / 4294967296) := by
  unfold lnkOf
  rw [if_neg h0, if_neg h1]
theorem lnk_arith {i g : Nat} (h : i < 4096) : (i + 2 + g * 4294967296) % 4294967296 - 2 = i ∧ (i + 2 + g * 4294967296) / 4294967296 = g := by omega
theorem lnkOf_obj {i g : Nat} (h1 : i < 4096) : lnkOf (wordL (.obj i g)) = .obj i g := by
  rw [wordL_obj, lnkOf_big (by omega) (by omega), (lnk_arith h1).1, (lnk_arith h1).2]
theorem lnkOf_word {k : Lnk} (h : okL k) : lnkOf (wordL k) = k := by
  cases k with
  | none => rfl
  | grave => rfl
  | obj i g => exact lnkOf_obj h.1

theorem img_of {s : CS} (h : WF s) {mem : List Nat} (m : MemOK s mem) {k g : Nat} {e : Ent} (hk : s.tab[k]? = some ⟨g, some e⟩) : ImgAt s.lays s.size mem s.own e.addr e.lay e.count k e.ws.length (layE s e) := by
  obtain ⟨⟨hm, l, h1, h2, h3, h4⟩, hl, _⟩ := h.obj k g e hk
  have hle : layE s e = l := by unfold layE; rw [h1]; rfl
  rw [hle]
  refine ⟨hm, h1, h2, h3, ?_, ?_, ?_⟩
  · rw [List.getD_eq_getElem?_getD, m.head _ _ _ hk, Option.getD_some]
  · have := hl.1
    unfold endOf at this
    rw [m.len]
    exact this
  · intro c c1 c2
    obtain ⟨r, hr, _, hr1⟩ := hl.2 c c1 (by rw [show e.addr + (e.ws.length + 1) - 1 = e.addr + e.ws.length by omega] at c2; exact c2)
    rw [List.getD_eq_getElem?_getD, hr]
    show r ≠ 0
    omega
theorem word_of {s : CS} (h : WF s) {mem : List Nat} (m : MemOK s mem) {k g : Nat} {e : Ent} (hk : s.tab[k]? = some ⟨g, some e⟩) {p : Nat} (hp : p < e.ws.length) : mem.getD (e.addr + 1 + p) 0 = e.ws.getD p 0 := by
  have hx := List.getElem?_eq_getElem hp
  rw [List.getD_eq_getElem?_getD, List.getD_eq_getElem?_getD, m.words _ _ _ hk p _ hx, hx]
/-- What a reference's word tells. -/
theorem link_of {s : CS} (h : WF s) {k g : Nat} {e : Ent} (hk : s.tab[k]? = some ⟨g, some e⟩) {p : Nat} (hp : p < e.ws.length) (hr : isRefL (layE s e) p = true) : okL (lnkOf (e.ws.getD p 0)) ∧ e.ws.getD p 0 = wordL (lnkOf (e.ws.getD p 0)) := by
  obtain ⟨⟨hm, l, h1, h2, h3, h4⟩, hl, _⟩ := h.obj k g e hk
  have hle : layE s e = l := by unfold layE; rw [h1]; rfl
  rw [hle] at hr
  have hx := List.getElem?_eq_getElem hp
  obtain ⟨q, hq, hw⟩ := (h4 p _ hx).2 hr
  have hd : e.ws.getD p 0 = wordL q := by rw [List.getD_eq_getElem?_getD, hx, Option.getD_some]; exact hw
  rw [hd, lnkOf_word hq]
  exact ⟨hq, rfl⟩

/-- An entry, or an error, as values. -/
def getV : Option (Nat × Ent) → Value
  | some (_, e) => .tuple #[.agg (evl e).toArray, .int .i64 0]
  | none => .tuple #[.agg #[.int .i64 0, .int .i64 0, .bool false, .bool false], .int .i64 8]
theorem getV_form (o : Option (Nat × Ent)) : ∃ e1 e2 h1 h2 e4, getV o = .tuple #[.agg #[.int .i64 e1, .int .i64 e2, .bool h1, .bool h2], .int .i64 e4] := by
  cases o <;> exact ⟨_, _, _, _, _, rfl⟩
theorem tGetV_spec [Extra] (p : Nat) (ts : List Slt) (i g : Int) {w : World} {fr : List HProp} (H : Holds w (TAB p ts :: fr)) :
    Calls Tryz.prog 44 #[pp p, tkI2 i g] w (ret fun v w' => v = getV (lookT ts i g) ∧ Holds w' (TAB p ts :: fr)) :=
  call (tGet_spec p ts i g H) fun v w h => ⟨by rw [h.1]; cases lookT ts i g <;> rfl, h.2⟩

theorem valid_spec [Extra] (p : Nat) (s : CS) (i g : Int) {w : World} {fr : List HProp} (H : Holds w (CELL p s :: fr)) :
    Calls Tryz.prog 67 #[pp p, tkI2 i g] w (ret fun v w' => v = getV (validT s.tab i g) ∧ Holds w' (CELL p s :: fr)) := by
  obtain ⟨q, mem, hw, hm, H⟩ := CELL_out H
  refine calls_of Tryz.func67 rfl (by kernel_rfl) ?_
  repeat refine C_seq ?_
  refine C_region ?_
  (refine Lp_s rfl (St_boxN H rfl rfl ?_); clear H; intro b3 w H)
  (refine Lp_s rfl (St_alloc H rfl ?_); clear H; intro b4 w H)
  refine Lp_pv rfl rfl ?_
  refine Lp_nil ?_
  repeat refine C_seq ?_
  refine C_region ?_
  refine Lp_pv rfl rfl ?_
  refine Lp_s rfl (St_eqPtrNil rfl rfl (.inl rfl) rfl ?_)
  refine Lp_nil ?_
  repeat refine C_seq ?_
  refine C_false rfl (C_skip ?_)
  obtain ⟨e1, e2, h1, h2, e4, hsh⟩ := getV_form (lookT s.tab i g)
  repeat refine C_seq ?_
  refine C_join (fun ms σ w => ms = [] ∧ ∃ b6, σ 4 = pp b4 ∧ σ 6 = pp b6 ∧ σ 7 = .int .i64 e4 ∧
    Holds w (pts b4 (row 109 [.int .i64 0, .int .i64 0, .bool false, .bool false]) :: pts b6 (row 109 [.int .i64 e1, .int .i64 e2, .bool h1, .bool h2]) :: CELL p s :: fr)) ?_ ?_
  · replace H := Holds.sel [6, 0, 0, 0, 0, 0, 0, 0, 0, 0, 0, 0, 0] 0 H; dsimp only [SL.sel, SL.pull, List.drop] at H
    repeat refine C_seq ?_
    refine C_drawH H mixed ?_
    clear H; intro w H
    refine A_pv 0 rfl (Wants.none rfl) rfl (by kernel_rfl) ?_
    refine A_pv 1 rfl (Wants.none rfl) rfl (by kernel_rfl) ?_
    refine A_fieldAddr 2 rfl (Wants.none rfl) rfl (by kernel_rfl) ?_
    refine A_load1 3 [5, 10] H rfl (Wants.none rfl) rfl rfl (by kernel_rfl) ?_
    refine A_loadN 4 [5, 10] H rfl (Wants.none rfl) rfl (by repeat (first | exact Reads.nil _ | apply Reads.cons rfl)) (by kernel_rfl) ?_
    refine A_two 5 9 rfl rfl (by kernel_rfl) (by repeat first | exact .nil | refine .cons (.inr H.at) ?_ | refine .cons (.inr H.mp) ?_ | refine .cons (.inl (by kernel_rfl)) ?_) (Wants.none rfl) (Wants.none rfl) (St_call (a := []) (b := []) rfl rfl (call (tGetV_spec q.tp s.tab i g H) ?_)) (St_alloc H rfl ?_)
    · clear H; rintro v w ⟨rfl, H⟩
      rw [hsh]
      refine A_pv 6 rfl (Wants.none rfl) rfl (by kernel_rfl) ?_
      refine A_pv 7 rfl (Wants.none rfl) rfl (by kernel_rfl) ?_
      refine A_pv 8 rfl (Wants.none rfl) rfl (by kernel_rfl) ?_
      refine A_one 9 rfl (by kernel_rfl) (by repeat first | exact .nil | refine .cons (.inr H.at) ?_ | refine .cons (.inr H.mp) ?_ | refine .cons (.inl (by kernel_rfl)) ?_) (Wants.none rfl) (St_alloc H rfl ?_); clear H; intro b6 w H
      refine A_one 10 rfl (by kernel_rfl) (by repeat first | exact .nil | refine .cons (.inr H.at) ?_ | refine .cons (.inr H.mp) ?_ | refine .cons (.inl (by kernel_rfl)) ?_) (Wants.none rfl) (St_storeN H rfl rfl inferInstance rfl rfl (Nat.le_of_ble_eq_true rfl) rfl ?_); clear H; intro w H
      refine A_pv 11 rfl (Wants.none rfl) rfl (by kernel_rfl) ?_
      refine A_end (by kernel_rfl) (by repeat first | exact .nil | refine .cons (.inr H.at) ?_ | refine .cons (.inr H.mp) ?_ | refine .cons (.inl (by kernel_rfl)) ?_) ?_
      replace H := Holds.sel [4, 4, 4, 4, 1, 3, 3, 3, 3, 3, 3, 1, 0] 1 H; dsimp only [SL.sel, SL.pull, List.drop] at H
      refine ⟨rfl, rfl, b6, rfl, rfl, rfl, ?_⟩
      replace H := CELL_in hw hm H
      replace H := Holds.sel [1, 1, 0] 0 H; dsimp only [SL.sel, SL.pull, List.drop] at H
      exact H
    · clear H; intro b6 w H
      refine A_one 5 rfl (by kernel_rfl) (by repeat first | exact .nil | refine .cons (.inr H.at) ?_ | refine .cons (.inr H.mp) ?_ | refine .cons (.inl (by kernel_rfl)) ?_) (Wants.none rfl) (St_call (a := []) (b := []) rfl rfl (call (tGetV_spec q.tp s.tab i g H.swap) ?_)); clear H; rintro v w ⟨rfl, H⟩
      rw [hsh]
      refine A_pv 6 rfl (Wants.none rfl) rfl (by kernel_rfl) ?_
      refine A_pv 7 rfl (Wants.none rfl) rfl (by kernel_rfl) ?_
      refine A_pv 8 rfl (Wants.none rfl) rfl (by kernel_rfl) ?_
      refine A_one 10 rfl (by kernel_rfl) (by repeat first | exact .nil | refine .cons (.inr H.at) ?_ | refine .cons (.inr H.mp) ?_ | refine .cons (.inl (by kernel_rfl)) ?_) (Wants.none rfl) (St_storeN H rfl rfl inferInstance rfl rfl (Nat.le_of_ble_eq_true rfl) rfl ?_); clear H; intro w H
      refine A_pv 11 rfl (Wants.none rfl) rfl (by kernel_rfl) ?_
      refine A_end (by kernel_rfl) (by repeat first | exact .nil | refine .cons (.inr H.at) ?_ | refine .cons (.inr H.mp) ?_ | refine .cons (.inl (by kernel_rfl)) ?_) ?_
      replace H := Holds.sel [4, 4, 4, 4, 0, 3, 3, 3, 3, 3, 3, 1, 0] 1 H; dsimp only [SL.sel, SL.pull, List.drop] at H
      refine ⟨rfl, rfl, b6, rfl, rfl, rfl, ?_⟩
      replace H := CELL_in hw hm H
      replace H := Holds.sel [1, 1, 0] 0 H; dsimp only [SL.sel, SL.pull, List.drop] at H
      exact H
  · clear H
    rintro ms σ w ⟨rfl, b6, g4, g6, g7, H⟩
    rw [upd_self g4, upd_self g6, upd_self g7]
    have hv : validT s.tab i g = (match lookT s.tab i g with | some (k, e) => if e.held then some (k, e) else none | none => none) := rfl
    cases hL : lookT s.tab i g with
    | none =>
      rw [hL] at hsh hv
      have hv : validT s.tab i g = none := hv
      rw [hv]
      cases hsh
      repeat refine C_seq ?_
      refine C_region ?_
      refine Lp_pv rfl rfl ?_
      refine Lp_pv rfl rfl ?_
      refine Lp_pv rfl rfl ?_
      refine Lp_no rfl rfl rfl ?_
      refine Lp_no rfl rfl rfl ?_
      refine Lp_no rfl rfl rfl ?_
      refine Lp_pv rfl rfl ?_
      refine Lp_nil ?_
      repeat refine C_seq ?_
      refine C_true rfl ?_
      repeat refine C_seq ?_
      refine C_region ?_
      refine Lp_s rfl (St_build rfl rfl ?_)
      (refine Lp_s rfl (St_storeN H rfl rfl inferInstance rfl rfl (Nat.le_of_ble_eq_true rfl) rfl ?_); clear H; intro w H)
      refine Lp_pv rfl rfl ?_
      refine Lp_nil ?_
      exact C_ret (fn_endC _ (.inr rfl) H (fun w' H' => .cellN H' rfl (by repeat (first | exact Reads.nil _ | apply Reads.cons rfl)) (.tmp .nil)) fun w' H' => ⟨rfl, H'.drop.drop⟩)
    | some x =>
      obtain ⟨k, e⟩ := x
      obtain ⟨ea, er, eh, ep, el, ec, ew⟩ := e
      rw [hL] at hsh hv
      cases hsh
      cases eh with
      | true =>
        have hv : validT s.tab i g = some (k, ⟨ea, er, true, ep, el, ec, ew⟩) := hv
        rw [hv]
        repeat refine C_seq ?_
        refine C_region ?_
        refine Lp_pv rfl rfl ?_
        refine Lp_pv rfl rfl ?_
        refine Lp_pv rfl rfl ?_
        refine Lp_g rfl rfl rfl (St_fieldAddr rfl rfl ?_)
        refine Lp_g rfl rfl rfl (St_load1 H rfl rfl rfl ?_)
        refine Lp_gpv rfl rfl rfl rfl ?_
        refine Lp_pv rfl rfl ?_
        refine Lp_nil ?_
        repeat refine C_seq ?_
        refine C_false rfl (C_skip ?_)
        repeat refine C_seq ?_
        refine C_region ?_
        refine Lp_s rfl (St_loadN H rfl (by repeat (first | exact Reads.nil _ | apply Reads.cons rfl)) rfl ?_)
        (refine Lp_s rfl (St_storeN H rfl rfl inferInstance rfl rfl (Nat.le_of_ble_eq_true rfl) rfl ?_); clear H; intro w H)
        refine Lp_pv rfl rfl ?_
        refine Lp_nil ?_
        exact C_ret (fn_endC _ (.inr rfl) H (fun w' H' => .cellN H' rfl (by repeat (first | exact Reads.nil _ | apply Reads.cons rfl)) (.tmp .nil)) fun w' H' => ⟨rfl, H'.drop.drop⟩)
      | false =>
        have hv : validT s.tab i g = none := hv
        rw [hv]
        repeat refine C_seq ?_
        refine C_region ?_
        refine Lp_pv rfl rfl ?_
        refine Lp_pv rfl rfl ?_
        refine Lp_pv rfl rfl ?_
        refine Lp_g rfl rfl rfl (St_fieldAddr rfl rfl ?_)
        refine Lp_g rfl rfl rfl (St_load1 H rfl rfl rfl ?_)
        refine Lp_gpv rfl rfl rfl rfl ?_
        refine Lp_pv rfl rfl ?_
        refine Lp_nil ?_
        repeat refine C_seq ?_
        refine C_true rfl ?_
        repeat refine C_seq ?_
        refine C_region ?_
        refine Lp_s rfl (St_build rfl rfl ?_)
        (refine Lp_s rfl (St_storeN H rfl rfl inferInstance rfl rfl (Nat.le_of_ble_eq_true rfl) rfl ?_); clear H; intro w H)
        refine Lp_pv rfl rfl ?_
        refine Lp_nil ?_
        exact C_ret (fn_endC _ (.inr rfl) H (fun w' H' => .cellN H' rfl (by repeat (first | exact Reads.nil _ | apply Reads.cons rfl)) (.tmp .nil)) fun w' H' => ⟨rfl, H'.drop.drop⟩)
end Go.Proofs.YtcaaojbnjfdglaaGreatDoor
namespace Go.Proofs.YtcaaojbnjfdglaaGreatDoor
open Go.SL

theorem with_spec [Extra] (p : Nat) (s : CS) (i g : Int) (f : FuncId) (cs : List Value) [TBody Tryz.prog f] (R : Value → World → Prop) (fr : List HProp)
    (hno : validT s.tab i g = none → ∀ w, Holds w (CELL p s :: fr) → R (.int .i64 8) w)
    (hyes : ∀ k e, validT s.tab i g = some (k, e) → ∀ w, Holds w (CELL p s :: fr) → Calls Tryz.prog f (.agg (evl e).toArray :: cs).toArray w (ret R)) {w : World} (H : Holds w (CELL p s :: fr)) :
    Calls Tryz.prog 56 #[pp p, tkI2 i g, .func (.func f) #[] cs.toArray] w (ret R) := by
  refine calls_of Tryz.func56 rfl (by kernel_rfl) ?_
  repeat refine C_seq ?_
  refine C_region ?_
  (refine Lp_s rfl (St_boxN H rfl rfl ?_); clear H; intro b4 w H)
  refine Lp_pv rfl rfl ?_
  refine Lp_nil ?_
  repeat refine C_seq ?_
  refine C_region ?_
  refine Lp_pv rfl rfl ?_
  refine Lp_s rfl (St_loadN H rfl (by repeat (first | exact Reads.nil _ | apply Reads.cons rfl)) rfl ?_)
  refine Lp_s rfl (St_call (a := []) (b := []) rfl rfl (call (valid_spec p s i g H.swap) ?_))
  clear H; rintro v w ⟨rfl, H⟩
  cases hv : validT s.tab i g with
  | none =>
    refine Lp_pv rfl rfl ?_
    refine Lp_pv rfl rfl ?_
    refine Lp_pv rfl rfl ?_
    (refine Lp_s rfl (St_alloc H rfl ?_); clear H; intro b7 w H)
    (refine Lp_s rfl (St_storeN H rfl rfl inferInstance rfl rfl (Nat.le_of_ble_eq_true rfl) rfl ?_); clear H; intro w H)
    refine Lp_pv rfl rfl ?_
    refine Lp_nil ?_
    repeat refine C_seq ?_
    refine C_region ?_
    refine Lp_pv rfl rfl ?_
    refine Lp_pv rfl rfl ?_
    refine Lp_nil ?_
    repeat refine C_seq ?_
    refine C_true rfl ?_
    repeat refine C_seq ?_
    refine C_region ?_
    refine Lp_pv rfl rfl ?_
    refine Lp_pv rfl rfl ?_
    refine Lp_nil ?_
    replace H := Holds.sel [1] 2 H; dsimp only [SL.sel, SL.pull, List.drop] at H
    exact C_ret (fn_end0 _ (.inr rfl) H rfl fun w' H' => hno hv w' H')
  | some x =>
    obtain ⟨k, e⟩ := x
    refine Lp_pv rfl rfl ?_
    refine Lp_pv rfl rfl ?_
    refine Lp_pv rfl rfl ?_
    (refine Lp_s rfl (St_alloc H rfl ?_); clear H; intro b7 w H)
    (refine Lp_s rfl (St_storeN H rfl rfl inferInstance rfl rfl (Nat.le_of_ble_eq_true rfl) rfl ?_); clear H; intro w H)
    refine Lp_pv rfl rfl ?_
    refine Lp_nil ?_
    repeat refine C_seq ?_
    refine C_region ?_
    refine Lp_pv rfl rfl ?_
    refine Lp_pv rfl rfl ?_
    refine Lp_nil ?_
    repeat refine C_seq ?_
    refine C_false rfl (C_skip ?_)
    repeat refine C_seq ?_
    refine C_region ?_
    refine Lp_pv rfl rfl ?_
    refine Lp_s rfl (St_loadN H rfl (by repeat (first | exact Reads.nil _ | apply Reads.cons rfl)) rfl ?_)
    replace H := Holds.sel [1] 2 H; dsimp only [SL.sel, SL.pull, List.drop] at H
    refine Lp_s rfl (St_call (a := []) (b := cs) rfl rfl (call (hyes k e hv w H) ?_))
    clear H; intro v w hr
    refine Lp_mv rfl rfl ?_
    refine Lp_nil ?_
    exact C_ret (fn_endX (.inr rfl) rfl hr)

/-- What Get answers. -/
def getW (s : CS) (i g place : Int) : Nat × Nat :=
  match validT s.tab i g with
  | none => (0, 8)
  | some (_, e) => if placeE (layE s e) e.ws.length place false = 0 then (e.ws.getD place.toNat 0, 0) else (0, placeE (layE s e) e.ws.length place false)
theorem getW_none {s : CS} {i g place : Int} (h : validT s.tab i g = none) : getW s i g place = (0, 8) := by unfold getW; rw [h]
theorem getW_some {s : CS} {i g place : Int} {k : Nat} {e : Ent} (h : validT s.tab i g = some (k, e)) : getW s i g place = if placeE (layE s e) e.ws.length place false = 0 then (e.ws.getD place.toNat 0, 0) else (0, placeE (layE s e) e.ws.length place false) := by unfold getW; rw [h]
theorem valid_at {s : CS} {i g : Int} {k : Nat} {e : Ent} (h : validT s.tab i g = some (k, e)) : ∃ n : Nat, i = k ∧ g = n ∧ s.tab[k]? = some ⟨n, some e⟩ ∧ e.held = true := by
  obtain ⟨h1, h2⟩ := validT_some.1 h
  obtain ⟨n, a, b, c⟩ := lookT_some.1 h1
  exact ⟨n, a, b, c, h2⟩

theorem Get_spec [Extra] (p : Nat) (s : CS) (i g place : Int) {w : World} {fr : List HProp} (H : Holds w (CELL p s :: fr)) :
    Calls Tryz.prog 19 #[pp p, tkI2 i g, .int .i64 place] w (ret fun v w' => v = .tuple #[.int .u64 ((getW s i g place).1 : Nat), .int .i64 ((getW s i g place).2 : Nat)] ∧ Holds w' (CELL p s :: fr)) := by
  refine calls_of Tryz.func19 rfl (by kernel_rfl) ?_
  repeat refine C_seq ?_
  refine C_region ?_
  (refine Lp_s rfl (St_box1 H rfl rfl rfl ?_); clear H; intro b3 w H)
  (refine Lp_s rfl (St_boxN H rfl rfl ?_); clear H; intro b4 w H)
  (refine Lp_s rfl (St_box1 H rfl rfl rfl ?_); clear H; intro b5 w H)
  refine Lp_pv rfl rfl ?_
  refine Lp_pv rfl rfl ?_
  refine Lp_nil ?_
  repeat refine C_seq ?_
  refine C_region ?_
  (refine Lp_s rfl (St_alloc H rfl ?_); clear H; intro b8 w H)
  refine Lp_nil ?_
  repeat refine C_seq ?_
  refine C_region ?_
  refine Lp_s rfl (St_load1 H rfl rfl rfl ?_)
  refine Lp_s rfl (St_loadN H rfl (by repeat (first | exact Reads.nil _ | apply Reads.cons rfl)) rfl ?_)
  refine Lp_pv rfl rfl ?_
  replace H := Holds.sel [4, 0, 0, 0, 0] 0 H; dsimp only [SL.sel, SL.pull, List.drop] at H
  refine Lp_s rfl (St_call (a := []) (b := []) rfl rfl (call (with_spec p s i g 61 [pp b3, pp b5, pp b8] (fun v w' => v = .int .i64 ((getW s i g place).2 : Nat) ∧ Holds w' (pts b8 (row 29 [.int .u64 ((getW s i g place).1 : Nat)]) :: CELL p s :: fr)) _ ?_ ?_ H) ?_))
  · intro hv w H
    rw [getW_none hv]
    replace H := Holds.sel [1, 0] 3 H; dsimp only [SL.sel, SL.pull, List.drop] at H
    exact ⟨rfl, H⟩
  · intro k e hv w H
    obtain ⟨n, rfl, rfl, hk, hh⟩ := valid_at hv
    obtain ⟨q, mem, hw, hm, H⟩ := CELL_out H
    have hI := img_of hw hm hk
    refine calls_of Tryz.func61 rfl (by kernel_rfl) ?_
    repeat refine C_seq ?_
    refine C_region ?_
    (refine Lp_s rfl (St_boxN H rfl rfl ?_); clear H; intro b4 w H)
    refine Lp_pv rfl rfl ?_
    refine Lp_nil ?_
    replace H := Holds.sel [2, 2, 2, 0, 0, 0, 0, 0, 0, 0, 0, 0, 0, 0, 1] 1 H; dsimp only [SL.sel, SL.pull, List.drop] at H
    have hval : (if placeE (layE s e) e.ws.length place false = 0 then mem.getD (e.addr + 1 + place.toNat) 0 else 0) = (getW s k n place).1 := by
      rw [getW_some hv]
      split
      · rename_i h0
        obtain ⟨x, rfl, hx, _⟩ := placeE_ok h0
        exact word_of hw hm hk hx
      · rfl
    have herr : placeE (layE s e) e.ws.length place false = (getW s k n place).2 := by
      rw [getW_some hv]
      split
      · assumption
      · rfl
    repeat refine C_seq ?_
    refine C_drawH H mixed ?_
    clear H; intro w H
    refine A_load1 0 [7, 11] H rfl (Wants.none rfl) rfl rfl (by kernel_rfl) ?_
    refine A_pv 1 rfl (Wants.none rfl) rfl (by kernel_rfl) ?_
    refine A_fieldAddr 2 rfl (Wants.none rfl) rfl (by kernel_rfl) ?_
    refine A_load1 3 [7, 11] H rfl (Wants.none rfl) rfl rfl (by kernel_rfl) ?_
    refine A_fieldAddr 4 rfl (Wants.none rfl) rfl (by kernel_rfl) ?_
    refine A_load1 5 [7, 11] H rfl (Wants.none rfl) rfl rfl (by kernel_rfl) ?_
    refine A_load1 6 [7, 11] H rfl (Wants.none rfl) rfl rfl (by kernel_rfl) ?_
    refine A_one 7 rfl (by kernel_rfl) (by repeat first | exact .nil | refine .cons (.inr H.at) ?_ | refine .cons (.inr H.mp) ?_ | refine .cons (.inl (by kernel_rfl)) ?_) (Wants.none rfl) (St_call (a := []) (b := []) rfl rfl (call (Load_spec q.ip q.sp q.bp s.size s.lays mem s.own e.addr e.lay e.count k e.ws.length (layE s e) hI place H) ?_))
    clear H; rintro v w ⟨rfl, H⟩
    rw [hval, herr]
    refine A_pv 8 rfl (Wants.none rfl) rfl (by kernel_rfl) ?_
    refine A_pv 9 rfl (Wants.none rfl) rfl (by kernel_rfl) ?_
    refine A_pv 10 rfl (Wants.none rfl) rfl (by kernel_rfl) ?_
    refine A_one 11 rfl (by kernel_rfl) (by repeat first | exact .nil | refine .cons (.inr H.at) ?_ | refine .cons (.inr H.mp) ?_ | refine .cons (.inl (by kernel_rfl)) ?_) (Wants.none rfl) (St_store1 H rfl rfl inferInstance rfl (Nat.le_of_ble_eq_true rfl) rfl ?_); clear H; intro w H
    refine A_pv 12 rfl (Wants.none rfl) rfl (by kernel_rfl) ?_
    refine A_end (by kernel_rfl) (by repeat first | exact .nil | refine .cons (.inr H.at) ?_ | refine .cons (.inr H.mp) ?_ | refine .cons (.inl (by kernel_rfl)) ?_) ?_
    repeat refine C_seq ?_
    refine C_region ?_
    refine Lp_pv rfl rfl ?_
    refine Lp_pv rfl rfl ?_
    refine Lp_nil ?_
    replace H := Holds.sel [4, 0, 0, 0, 1, 1, 1, 1, 1, 1, 1, 1] 3 H; dsimp only [SL.sel, SL.pull, List.drop] at H
    replace H := CELL_in hw hm H
    exact C_ret (fn_end0 _ (.inr rfl) H.swap rfl fun w' H' => ⟨rfl, H'⟩)
  · clear H
    rintro v w ⟨rfl, H⟩
    refine Lp_pv rfl rfl ?_
    refine Lp_nil ?_
    repeat refine C_seq ?_
    refine C_region ?_
    refine Lp_s rfl (St_load1 H rfl rfl rfl ?_)
    refine Lp_pv rfl rfl ?_
    refine Lp_pv rfl rfl ?_
    refine Lp_pv rfl rfl ?_
    refine Lp_nil ?_
    exact C_ret (fn_end0 _ (.inr rfl) H rfl fun w' H' => ⟨rfl, H'.drop⟩)
end Go.Proofs.YtcaaojbnjfdglaaGreatDoor
