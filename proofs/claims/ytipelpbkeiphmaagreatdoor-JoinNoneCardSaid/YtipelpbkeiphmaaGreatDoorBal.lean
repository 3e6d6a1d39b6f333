/- Cells: what is proved on the way: every input of the statement; no condition. Texts joined: TabB TabC TabD CelA CelB CelC CelD CelE CelF CelG. -/
import Derived.Test.YtipelpbkeiphmaaGreatDoorBaf
import Derived.Test.YtipelpbkeiphmaaGreatDoorBak
set_option linter.unusedVariables false
set_option linter.unusedSimpArgs false
set_option linter.unusedSectionVars false
namespace Go.Proofs.YtipelpbkeiphmaaGreatDoor
open Go.SL

@[reducible] def tkI2 (i g : Int) : Value := .agg #[.int .i64 i, .int .i64 g]

theorem lookT_none {ts : List Slt} {i g : Int} (h : lookT ts i g = none) : i < 0 ∨ (ts.length : Int) ≤ i ∨ ∃ (k : Nat) (t : Slt), i = k ∧ ts[k]? = some t ∧ (t.ent = none ∨ (t.ent.isSome = true ∧ (t.gen : Int) ≠ g)) := by
  by_cases h0 : i < 0
  · exact .inl h0
  by_cases h1 : (ts.length : Int) ≤ i
  · exact .inr (.inl h1)
  refine .inr (.inr ?_)
  obtain ⟨k, rfl⟩ : ∃ k : Nat, i = k := ⟨i.toNat, by omega⟩
  have hk := List.getElem?_eq_getElem (l := ts) (i := k) (by omega)
  generalize ts[k]'(by omega) = t at hk
  refine ⟨k, t, rfl, hk, ?_⟩
  obtain ⟨n, e⟩ := t
  cases e with
  | none => exact .inl rfl
  | some e =>
    refine .inr ⟨rfl, fun hg => ?_⟩
    rw [(lookT_some (k := k) (e := e)).2 ⟨n, rfl, hg.symm, hk⟩] at h
    cases h

theorem find_open [Extra] (p b c u : Nat) (go : Value) (hgo : go.oneCell' = true) (ts : List Slt) (s : List Value) (hlen : ts.length ≤ 63) (i g : Int) {w : World} {fr : List HProp} (H : Holds w (pts p (row 216 [.slice (some ⟨b, 0, none⟩) ts.length c, pp u, go]) :: pts b (row 223 (ts.flatMap tval ++ s)) :: fr)) :
    Calls Tryz.prog 126 #[pp p, tkI2 i g] w (ret fun v w' => v = (match lookT ts i g with | some (k, _) => .tuple #[.pointer (some ⟨b, k * 6, none⟩), .int .i64 0] | none => .tuple #[.pointer none, .int .i64 8]) ∧
      Holds w' (pts p (row 216 [.slice (some ⟨b, 0, none⟩) ts.length c, pp u, go]) :: pts b (row 223 (ts.flatMap tval ++ s)) :: fr)) := by
  refine calls_of Tryz.func126 rfl (by kernel_rfl) ?_
  refine J10 H ?_
  clear H; intro b3 w H
  refine J3 H ?_
  refine J178 H ?_
  cases hL : lookT ts i g with
  | some q =>
    obtain ⟨k, e⟩ := q
    obtain ⟨n, rfl, rfl, hk⟩ := lookT_some.1 hL
    have hkl : k < ts.length := (List.getElem?_eq_some_iff.1 hk).1
    have c1 : (ts.flatMap tval ++ s)[k * 6 + 1]? = some (.bool true) := flat_get tval_len hk rfl
    have c0 : (ts.flatMap tval ++ s)[k * 6 + 0]? = some (.int .i64 n) := flat_get tval_len hk rfl
    have ei : 0 + ((k : Nat) : Int).toNat * 6 = k * 6 := by simp
    refine J1 H ?_
    clear H; intro w H
    refine J61 H ?_
    rw [show decide ((k : Int) < 0) = false from decide_eq_false (by omega)]
    refine J45 H ?_
    refine A_fieldAddr 4 rfl (Wants.of rfl rfl rfl) rfl (by kernel_rfl) ?_
    refine J180 H ?_
    refine A_pv 6 rfl (Wants.of rfl rfl rfl) rfl (by kernel_rfl) ?_
    refine A_pv 7 rfl (Wants.of rfl rfl rfl) rfl (by kernel_rfl) ?_
    refine A_fieldAddr 8 rfl (Wants.of rfl rfl rfl) rfl (by kernel_rfl) ?_
    refine J181 H ?_
    refine A_lenSlice 10 rfl (Wants.of rfl rfl rfl) rfl (by kernel_rfl) ?_
    refine J160 H ?_
    rw [show decide ((k : Int) ≥ (ts.length : Int)) = false from decide_eq_false (by omega)]
    refine J87 H ?_
    refine A_pv 14 rfl (Wants.of rfl rfl rfl) rfl (by kernel_rfl) ?_
    refine A_pv 15 rfl (Wants.of rfl rfl rfl) rfl (by kernel_rfl) ?_
    refine A_fieldAddr 16 rfl (Wants.of rfl rfl rfl) rfl (by kernel_rfl) ?_
    refine A_load1 17 [] H rfl (Wants.of rfl rfl rfl) rfl rfl (by kernel_rfl) ?_
    refine A_fieldAddr 18 rfl (Wants.of rfl rfl rfl) rfl (by kernel_rfl) ?_
    refine A_load1 19 [] H rfl (Wants.of rfl rfl rfl) rfl rfl (by kernel_rfl) ?_
    refine A_indexAddr 20 rfl (Wants.of rfl rfl rfl) rfl rfl (by omega) (by omega) (by kernel_rfl) ?_
    rw [ei]
    refine A_fieldAddr 21 rfl (Wants.of rfl rfl rfl) rfl (by kernel_rfl) ?_
    refine A_load1 22 [] H rfl (Wants.of rfl rfl rfl) rfl c1 (by kernel_rfl) ?_
    refine A_pv 23 rfl (Wants.of rfl rfl rfl) rfl (by kernel_rfl) ?_
    refine J103 H ?_
    refine A_pv 26 rfl (Wants.of rfl rfl rfl) rfl (by kernel_rfl) ?_
    refine A_pv 27 rfl (Wants.of rfl rfl rfl) rfl (by kernel_rfl) ?_
    refine A_fieldAddr 28 rfl (Wants.of rfl rfl rfl) rfl (by kernel_rfl) ?_
    refine A_load1 29 [] H rfl (Wants.of rfl rfl rfl) rfl rfl (by kernel_rfl) ?_
    refine A_fieldAddr 30 rfl (Wants.of rfl rfl rfl) rfl (by kernel_rfl) ?_
    refine A_load1 31 [] H rfl (Wants.of rfl rfl rfl) rfl rfl (by kernel_rfl) ?_
    refine A_indexAddr 32 rfl (Wants.of rfl rfl rfl) rfl rfl (by omega) (by omega) (by kernel_rfl) ?_
    rw [ei]
    refine A_fieldAddr 33 rfl (Wants.of rfl rfl rfl) rfl (by kernel_rfl) ?_
    refine A_load1 34 [] H rfl (Wants.of rfl rfl rfl) rfl c0 (by kernel_rfl) ?_
    refine A_fieldAddr 35 rfl (Wants.of rfl rfl rfl) rfl (by kernel_rfl) ?_
    refine A_load1 36 [] H rfl (Wants.of rfl rfl rfl) rfl rfl (by kernel_rfl) ?_
    refine A_pv 37 rfl (Wants.of rfl rfl rfl) rfl (by kernel_rfl) ?_
    rw [show (((n : Nat) : Int) != (n : Int)) = false by simp]
    refine A_pv 38 rfl (Wants.none rfl) rfl (by kernel_rfl) ?_
    refine A_end (by kernel_rfl) (by repeat first | exact .nil | refine .cons (.inr H.at) ?_ | refine .cons (.inr H.mp) ?_ | refine .cons (.inl (by kernel_rfl)) ?_) ?_
    refine J8 H ?_
    refine J1 H ?_
    clear H; intro w H
    refine J101 H ?_
    refine J134 H ?_
    refine A_indexAddr 6 rfl (Wants.none rfl) rfl rfl (by omega) (by omega) (by kernel_rfl) ?_
    rw [ei]
    refine A_pv 7 rfl (Wants.none rfl) rfl (by kernel_rfl) ?_
    refine A_pv 8 rfl (Wants.none rfl) rfl (by kernel_rfl) ?_
    refine J4 H ?_
    exact C_ret (Jy H.drop rfl fun w' H' => ⟨rfl, H'⟩)
  | none =>
    rcases lookT_none hL with h0 | h1 | ⟨k, t, rfl, hk, ht⟩
    · refine J1 H ?_
      clear H; intro w H
      refine J61 H ?_
      rw [show decide (i < 0) = true from decide_eq_true (by omega)]
      refine J45 H ?_
      refine A_no 4 rfl (Wants.of rfl rfl rfl) (fun c e => by cases e) (by kernel_rfl) ?_
      refine A_no 5 rfl (Wants.of rfl rfl rfl) (fun c e => by cases e) (by kernel_rfl) ?_
      refine A_no 6 rfl (Wants.of rfl rfl rfl) (fun c e => by cases e) (by kernel_rfl) ?_
      refine A_no 7 rfl (Wants.of rfl rfl rfl) (fun c e => by cases e) (by kernel_rfl) ?_
      refine A_no 8 rfl (Wants.of rfl rfl rfl) (fun c e => by cases e) (by kernel_rfl) ?_
      refine A_no 9 rfl (Wants.of rfl rfl rfl) (fun c e => by cases e) (by kernel_rfl) ?_
      refine A_no 10 rfl (Wants.of rfl rfl rfl) (fun c e => by cases e) (by kernel_rfl) ?_
      refine A_no 11 rfl (Wants.of rfl rfl rfl) (fun c e => by cases e) (by kernel_rfl) ?_
      refine J87 H ?_
      refine A_no 14 rfl (Wants.of rfl rfl rfl) (fun c e => by cases e) (by kernel_rfl) ?_
      refine A_no 15 rfl (Wants.of rfl rfl rfl) (fun c e => by cases e) (by kernel_rfl) ?_
      refine A_no 16 rfl (Wants.of rfl rfl rfl) (fun c e => by cases e) (by kernel_rfl) ?_
      refine A_no 17 rfl (Wants.of rfl rfl rfl) (fun c e => by cases e) (by kernel_rfl) ?_
      refine A_no 18 rfl (Wants.of rfl rfl rfl) (fun c e => by cases e) (by kernel_rfl) ?_
      refine A_no 19 rfl (Wants.of rfl rfl rfl) (fun c e => by cases e) (by kernel_rfl) ?_
      refine A_no 20 rfl (Wants.of rfl rfl rfl) (fun c e => by cases e) (by kernel_rfl) ?_
      refine A_no 21 rfl (Wants.of rfl rfl rfl) (fun c e => by cases e) (by kernel_rfl) ?_
      refine A_no 22 rfl (Wants.of rfl rfl rfl) (fun c e => by cases e) (by kernel_rfl) ?_
      refine A_no 23 rfl (Wants.of rfl rfl rfl) (fun c e => by cases e) (by kernel_rfl) ?_
      refine J103 H ?_
      refine A_no 26 rfl (Wants.of rfl rfl rfl) (fun c e => by cases e) (by kernel_rfl) ?_
      refine A_no 27 rfl (Wants.of rfl rfl rfl) (fun c e => by cases e) (by kernel_rfl) ?_
      refine A_no 28 rfl (Wants.of rfl rfl rfl) (fun c e => by cases e) (by kernel_rfl) ?_
      refine A_no 29 rfl (Wants.of rfl rfl rfl) (fun c e => by cases e) (by kernel_rfl) ?_
      refine A_no 30 rfl (Wants.of rfl rfl rfl) (fun c e => by cases e) (by kernel_rfl) ?_
      refine A_no 31 rfl (Wants.of rfl rfl rfl) (fun c e => by cases e) (by kernel_rfl) ?_
      refine A_no 32 rfl (Wants.of rfl rfl rfl) (fun c e => by cases e) (by kernel_rfl) ?_
      refine A_no 33 rfl (Wants.of rfl rfl rfl) (fun c e => by cases e) (by kernel_rfl) ?_
      refine A_no 34 rfl (Wants.of rfl rfl rfl) (fun c e => by cases e) (by kernel_rfl) ?_
      refine A_no 35 rfl (Wants.of rfl rfl rfl) (fun c e => by cases e) (by kernel_rfl) ?_
      refine A_no 36 rfl (Wants.of rfl rfl rfl) (fun c e => by cases e) (by kernel_rfl) ?_
      refine A_no 37 rfl (Wants.of rfl rfl rfl) (fun c e => by cases e) (by kernel_rfl) ?_
      refine J129 H ?_
      exact C_ret (Jy H.drop rfl fun w' H' => ⟨rfl, H'⟩)
    · by_cases h0 : i < 0
      · refine J1 H ?_
        clear H; intro w H
        refine J61 H ?_
        rw [show decide (i < 0) = true from decide_eq_true (by omega)]
        refine J45 H ?_
        refine A_no 4 rfl (Wants.of rfl rfl rfl) (fun c e => by cases e) (by kernel_rfl) ?_
        refine A_no 5 rfl (Wants.of rfl rfl rfl) (fun c e => by cases e) (by kernel_rfl) ?_
        refine A_no 6 rfl (Wants.of rfl rfl rfl) (fun c e => by cases e) (by kernel_rfl) ?_
        refine A_no 7 rfl (Wants.of rfl rfl rfl) (fun c e => by cases e) (by kernel_rfl) ?_
        refine A_no 8 rfl (Wants.of rfl rfl rfl) (fun c e => by cases e) (by kernel_rfl) ?_
        refine A_no 9 rfl (Wants.of rfl rfl rfl) (fun c e => by cases e) (by kernel_rfl) ?_
        refine A_no 10 rfl (Wants.of rfl rfl rfl) (fun c e => by cases e) (by kernel_rfl) ?_
        refine A_no 11 rfl (Wants.of rfl rfl rfl) (fun c e => by cases e) (by kernel_rfl) ?_
        refine J87 H ?_
        refine A_no 14 rfl (Wants.of rfl rfl rfl) (fun c e => by cases e) (by kernel_rfl) ?_
        refine A_no 15 rfl (Wants.of rfl rfl rfl) (fun c e => by cases e) (by kernel_rfl) ?_
        refine A_no 16 rfl (Wants.of rfl rfl rfl) (fun c e => by cases e) (by kernel_rfl) ?_
        refine A_no 17 rfl (Wants.of rfl rfl rfl) (fun c e => by cases e) (by kernel_rfl) ?_
        refine A_no 18 rfl (Wants.of rfl rfl rfl) (fun c e => by cases e) (by kernel_rfl) ?_
        refine A_no 19 rfl (Wants.of rfl rfl rfl) (fun c e => by cases e) (by kernel_rfl) ?_
        refine A_no 20 rfl (Wants.of rfl rfl rfl) (fun c e => by cases e) (by kernel_rfl) ?_
        refine A_no 21 rfl (Wants.of rfl rfl rfl) (fun c e => by cases e) (by kernel_rfl) ?_
        refine A_no 22 rfl (Wants.of rfl rfl rfl) (fun c e => by cases e) (by kernel_rfl) ?_
        refine A_no 23 rfl (Wants.of rfl rfl rfl) (fun c e => by cases e) (by kernel_rfl) ?_
        refine J103 H ?_
        refine A_no 26 rfl (Wants.of rfl rfl rfl) (fun c e => by cases e) (by kernel_rfl) ?_
        refine A_no 27 rfl (Wants.of rfl rfl rfl) (fun c e => by cases e) (by kernel_rfl) ?_
        refine A_no 28 rfl (Wants.of rfl rfl rfl) (fun c e => by cases e) (by kernel_rfl) ?_
        refine A_no 29 rfl (Wants.of rfl rfl rfl) (fun c e => by cases e) (by kernel_rfl) ?_
        refine A_no 30 rfl (Wants.of rfl rfl rfl) (fun c e => by cases e) (by kernel_rfl) ?_
        refine A_no 31 rfl (Wants.of rfl rfl rfl) (fun c e => by cases e) (by kernel_rfl) ?_
        refine A_no 32 rfl (Wants.of rfl rfl rfl) (fun c e => by cases e) (by kernel_rfl) ?_
        refine A_no 33 rfl (Wants.of rfl rfl rfl) (fun c e => by cases e) (by kernel_rfl) ?_
        refine A_no 34 rfl (Wants.of rfl rfl rfl) (fun c e => by cases e) (by kernel_rfl) ?_
        refine A_no 35 rfl (Wants.of rfl rfl rfl) (fun c e => by cases e) (by kernel_rfl) ?_
        refine A_no 36 rfl (Wants.of rfl rfl rfl) (fun c e => by cases e) (by kernel_rfl) ?_
        refine A_no 37 rfl (Wants.of rfl rfl rfl) (fun c e => by cases e) (by kernel_rfl) ?_
        refine J129 H ?_
        exact C_ret (Jy H.drop rfl fun w' H' => ⟨rfl, H'⟩)
      · refine J1 H ?_
        clear H; intro w H
        refine J61 H ?_
        rw [show decide (i < 0) = false from decide_eq_false (by omega)]
        refine J45 H ?_
        refine A_fieldAddr 4 rfl (Wants.of rfl rfl rfl) rfl (by kernel_rfl) ?_
        refine J180 H ?_
        refine A_pv 6 rfl (Wants.of rfl rfl rfl) rfl (by kernel_rfl) ?_
        refine A_pv 7 rfl (Wants.of rfl rfl rfl) rfl (by kernel_rfl) ?_
        refine A_fieldAddr 8 rfl (Wants.of rfl rfl rfl) rfl (by kernel_rfl) ?_
        refine J181 H ?_
        refine A_lenSlice 10 rfl (Wants.of rfl rfl rfl) rfl (by kernel_rfl) ?_
        refine J160 H ?_
        rw [show decide (i ≥ (ts.length : Int)) = true from decide_eq_true (by omega)]
        refine J87 H ?_
        refine A_no 14 rfl (Wants.of rfl rfl rfl) (fun c e => by cases e) (by kernel_rfl) ?_
        refine A_no 15 rfl (Wants.of rfl rfl rfl) (fun c e => by cases e) (by kernel_rfl) ?_
        refine A_no 16 rfl (Wants.of rfl rfl rfl) (fun c e => by cases e) (by kernel_rfl) ?_
        refine A_no 17 rfl (Wants.of rfl rfl rfl) (fun c e => by cases e) (by kernel_rfl) ?_
        refine A_no 18 rfl (Wants.of rfl rfl rfl) (fun c e => by cases e) (by kernel_rfl) ?_
        refine A_no 19 rfl (Wants.of rfl rfl rfl) (fun c e => by cases e) (by kernel_rfl) ?_
        refine A_no 20 rfl (Wants.of rfl rfl rfl) (fun c e => by cases e) (by kernel_rfl) ?_
        refine A_no 21 rfl (Wants.of rfl rfl rfl) (fun c e => by cases e) (by kernel_rfl) ?_
        refine A_no 22 rfl (Wants.of rfl rfl rfl) (fun c e => by cases e) (by kernel_rfl) ?_
        refine A_no 23 rfl (Wants.of rfl rfl rfl) (fun c e => by cases e) (by kernel_rfl) ?_
        refine J103 H ?_
        refine A_no 26 rfl (Wants.of rfl rfl rfl) (fun c e => by cases e) (by kernel_rfl) ?_
        refine A_no 27 rfl (Wants.of rfl rfl rfl) (fun c e => by cases e) (by kernel_rfl) ?_
        refine A_no 28 rfl (Wants.of rfl rfl rfl) (fun c e => by cases e) (by kernel_rfl) ?_
        refine A_no 29 rfl (Wants.of rfl rfl rfl) (fun c e => by cases e) (by kernel_rfl) ?_
        refine A_no 30 rfl (Wants.of rfl rfl rfl) (fun c e => by cases e) (by kernel_rfl) ?_
        refine A_no 31 rfl (Wants.of rfl rfl rfl) (fun c e => by cases e) (by kernel_rfl) ?_
        refine A_no 32 rfl (Wants.of rfl rfl rfl) (fun c e => by cases e) (by kernel_rfl) ?_
        refine A_no 33 rfl (Wants.of rfl rfl rfl) (fun c e => by cases e) (by kernel_rfl) ?_
        refine A_no 34 rfl (Wants.of rfl rfl rfl) (fun c e => by cases e) (by kernel_rfl) ?_
        refine A_no 35 rfl (Wants.of rfl rfl rfl) (fun c e => by cases e) (by kernel_rfl) ?_
        refine A_no 36 rfl (Wants.of rfl rfl rfl) (fun c e => by cases e) (by kernel_rfl) ?_
        refine A_no 37 rfl (Wants.of rfl rfl rfl) (fun c e => by cases e) (by kernel_rfl) ?_
        refine J129 H ?_
        exact C_ret (Jy H.drop rfl fun w' H' => ⟨rfl, H'⟩)
    · have hkl : k < ts.length := (List.getElem?_eq_some_iff.1 hk).1
      have c1 : (ts.flatMap tval ++ s)[k * 6 + 1]? = some (.bool t.ent.isSome) := flat_get tval_len hk (tval_used t)
      have c0 : (ts.flatMap tval ++ s)[k * 6 + 0]? = some (.int .i64 t.gen) := flat_get tval_len hk (tval_gen t)
      have ei : 0 + ((k : Nat) : Int).toNat * 6 = k * 6 := by simp
      refine J1 H ?_
      clear H; intro w H
      refine J61 H ?_
      rw [show decide ((k : Int) < 0) = false from decide_eq_false (by omega)]
      refine J45 H ?_
      refine A_fieldAddr 4 rfl (Wants.of rfl rfl rfl) rfl (by kernel_rfl) ?_
      refine J180 H ?_
      refine A_pv 6 rfl (Wants.of rfl rfl rfl) rfl (by kernel_rfl) ?_
      refine A_pv 7 rfl (Wants.of rfl rfl rfl) rfl (by kernel_rfl) ?_
      refine A_fieldAddr 8 rfl (Wants.of rfl rfl rfl) rfl (by kernel_rfl) ?_
      refine J181 H ?_
      refine A_lenSlice 10 rfl (Wants.of rfl rfl rfl) rfl (by kernel_rfl) ?_
      refine J160 H ?_
      rw [show decide ((k : Int) ≥ (ts.length : Int)) = false from decide_eq_false (by omega)]
      refine J87 H ?_
      refine A_pv 14 rfl (Wants.of rfl rfl rfl) rfl (by kernel_rfl) ?_
      refine A_pv 15 rfl (Wants.of rfl rfl rfl) rfl (by kernel_rfl) ?_
      refine A_fieldAddr 16 rfl (Wants.of rfl rfl rfl) rfl (by kernel_rfl) ?_
      refine A_load1 17 [] H rfl (Wants.of rfl rfl rfl) rfl rfl (by kernel_rfl) ?_
      refine A_fieldAddr 18 rfl (Wants.of rfl rfl rfl) rfl (by kernel_rfl) ?_
      refine A_load1 19 [] H rfl (Wants.of rfl rfl rfl) rfl rfl (by kernel_rfl) ?_
      refine A_indexAddr 20 rfl (Wants.of rfl rfl rfl) rfl rfl (by omega) (by omega) (by kernel_rfl) ?_
      rw [ei]
      refine A_fieldAddr 21 rfl (Wants.of rfl rfl rfl) rfl (by kernel_rfl) ?_
      refine A_load1 22 [] H rfl (Wants.of rfl rfl rfl) rfl c1 (by kernel_rfl) ?_
      rcases ht with ht | ⟨ht, hne⟩
      · rw [ht]
        refine A_pv 23 rfl (Wants.of rfl rfl rfl) rfl (by kernel_rfl) ?_
        refine J103 H ?_
        refine A_no 26 rfl (Wants.of rfl rfl rfl) (fun c e => by cases e) (by kernel_rfl) ?_
        refine A_no 27 rfl (Wants.of rfl rfl rfl) (fun c e => by cases e) (by kernel_rfl) ?_
        refine A_no 28 rfl (Wants.of rfl rfl rfl) (fun c e => by cases e) (by kernel_rfl) ?_
        refine A_no 29 rfl (Wants.of rfl rfl rfl) (fun c e => by cases e) (by kernel_rfl) ?_
        refine A_no 30 rfl (Wants.of rfl rfl rfl) (fun c e => by cases e) (by kernel_rfl) ?_
        refine A_no 31 rfl (Wants.of rfl rfl rfl) (fun c e => by cases e) (by kernel_rfl) ?_
        refine A_no 32 rfl (Wants.of rfl rfl rfl) (fun c e => by cases e) (by kernel_rfl) ?_
        refine A_no 33 rfl (Wants.of rfl rfl rfl) (fun c e => by cases e) (by kernel_rfl) ?_
        refine A_no 34 rfl (Wants.of rfl rfl rfl) (fun c e => by cases e) (by kernel_rfl) ?_
        refine A_no 35 rfl (Wants.of rfl rfl rfl) (fun c e => by cases e) (by kernel_rfl) ?_
        refine A_no 36 rfl (Wants.of rfl rfl rfl) (fun c e => by cases e) (by kernel_rfl) ?_
        refine A_no 37 rfl (Wants.of rfl rfl rfl) (fun c e => by cases e) (by kernel_rfl) ?_
        refine J129 H ?_
        exact C_ret (Jy H.drop rfl fun w' H' => ⟨rfl, H'⟩)
      · rw [ht]
        refine A_pv 23 rfl (Wants.of rfl rfl rfl) rfl (by kernel_rfl) ?_
        refine J103 H ?_
        refine A_pv 26 rfl (Wants.of rfl rfl rfl) rfl (by kernel_rfl) ?_
        refine A_pv 27 rfl (Wants.of rfl rfl rfl) rfl (by kernel_rfl) ?_
        refine A_fieldAddr 28 rfl (Wants.of rfl rfl rfl) rfl (by kernel_rfl) ?_
        refine A_load1 29 [] H rfl (Wants.of rfl rfl rfl) rfl rfl (by kernel_rfl) ?_
        refine A_fieldAddr 30 rfl (Wants.of rfl rfl rfl) rfl (by kernel_rfl) ?_
        refine A_load1 31 [] H rfl (Wants.of rfl rfl rfl) rfl rfl (by kernel_rfl) ?_
        refine A_indexAddr 32 rfl (Wants.of rfl rfl rfl) rfl rfl (by omega) (by omega) (by kernel_rfl) ?_
        rw [ei]
        refine A_fieldAddr 33 rfl (Wants.of rfl rfl rfl) rfl (by kernel_rfl) ?_
        refine A_load1 34 [] H rfl (Wants.of rfl rfl rfl) rfl c0 (by kernel_rfl) ?_
        refine A_fieldAddr 35 rfl (Wants.of rfl rfl rfl) rfl (by kernel_rfl) ?_
        refine A_load1 36 [] H rfl (Wants.of rfl rfl rfl) rfl rfl (by kernel_rfl) ?_
        refine A_pv 37 rfl (Wants.of rfl rfl rfl) rfl (by kernel_rfl) ?_
        rw [show (((t.gen : Nat) : Int) != g) = true by simpa using hne]
        refine J129 H ?_
        exact C_ret (Jy H.drop rfl fun w' H' => ⟨rfl, H'⟩)
end Go.Proofs.YtipelpbkeiphmaaGreatDoor
namespace Go.Proofs.YtipelpbkeiphmaaGreatDoor
open Go.SL

theorem goneT_set {ts : List Slt} {k : Nat} {t t' : Slt} (hk : ts[k]? = some t) (hb : (t'.ent.isNone && t'.gen == 255) = (t.ent.isNone && t.gen == 255)) : goneT (ts.set k t') = goneT ts := by
  unfold goneT
  rw [set_split hk]
  conv => rhs; rw [split_at hk]
  rw [List.filter_append, List.filter_append, List.filter_cons, List.filter_cons, hb]
  split <;> simp
theorem TabOk.set {ts : List Slt} {x k : Nat} {t t' : Slt} (h : TabOk ts x) (hk : ts[k]? = some t) (hb : busy t' = busy t) (hg : t'.gen ≤ 255) : TabOk (ts.set k t') x := by
  refine ⟨by rw [List.length_set]; exact h.bits, fun i u hu => ?_, fun i u hu => ?_⟩
  · rcases tab_set hu with ⟨rfl, rfl, _⟩ | ⟨_, hu⟩
    · rw [hb]; exact h.bit _ _ hk
    · exact h.bit _ _ hu
  · rcases tab_set hu with ⟨rfl, rfl, _⟩ | ⟨_, hu⟩
    · exact hg
    · exact h.gen _ _ hu

theorem tGet_spec [Extra] (p : Nat) (ts : List Slt) (i g : Int) {w : World} {fr : List HProp} (H : Holds w (TAB p ts :: fr)) :
    Calls Tryz.prog 39 #[pp p, tkI2 i g] w (ret fun v w' => v = (match lookT ts i g with | some (_, e) => .tuple #[.agg (evl e).toArray, .int .i64 0] | none => .tuple #[.agg #[.int .i64 0, .int .i64 0, .bool false, .bool false], .int .i64 8]) ∧ Holds w' (TAB p ts :: fr)) := by
  obtain ⟨b, c, s, u, x, hok, hc, H, hclose⟩ := TAB_out H
  refine calls_of Tryz.func39 rfl (by kernel_rfl) ?_
  refine J10 H ?_
  clear H; intro b3 w H
  refine J17 H ?_
  clear H; intro b4 w H
  refine J124 H ?_
  replace H := Js [2,2,0,0,0] 0 H
  refine Jc rfl rfl (find_open p b c u _ rfl ts s hok.bits.le i g H) ?_
  clear H; rintro v w ⟨rfl, H⟩
  cases hL : lookT ts i g with
  | some q =>
    obtain ⟨k, e⟩ := q
    obtain ⟨n, rfl, rfl, hk⟩ := lookT_some.1 hL
    have hrd : Reads (ts.flatMap tval ++ s) (k * 6 + 2) 4 (evl e) := flat_reads (vs := evl e) tval_len hk (by repeat (first | exact Reads.nil _ | apply Reads.cons rfl))
    refine J39 H ?_
    refine J2 H ?_
    refine J72 H ?_
    refine Lp_s rfl (St_loadN H rfl hrd rfl ?_)
    refine J7 H ?_
    clear H; intro w H
    refine J0 H ?_
    replace H := Js [2,0,0,1] 1 H
    exact C_ret (Jz H (fun w' H' => .cellN H' rfl (by repeat (first | exact Reads.nil _ | apply Reads.cons rfl)) (.tmp .nil)) fun w' H' => ⟨rfl, hclose _ _ ts x rfl rfl hok H'.drop⟩)
  | none =>
    refine J71 H ?_
    refine J161 H ?_
    clear H; intro w H
    refine J0 H ?_
    replace H := Js [2,0,0,1] 1 H
    exact C_ret (Jz H (fun w' H' => .cellN H' rfl (by repeat (first | exact Reads.nil _ | apply Reads.cons rfl)) (.tmp .nil)) fun w' H' => ⟨rfl, hclose _ _ ts x rfl rfl hok H'.drop⟩)

end Go.Proofs.YtipelpbkeiphmaaGreatDoor
namespace Go.Proofs.YtipelpbkeiphmaaGreatDoor
open Go.SL

theorem tAt_spec [Extra] (p : Nat) (ts : List Slt) (k n : Nat) (e : Ent) (hk : ts[k]? = some ⟨n, some e⟩) {w : World} {fr : List HProp} (H : Holds w (TAB p ts :: fr)) :
    Calls Tryz.prog 73 #[pp p, .int .i64 k] w (ret fun v w' => v = .tuple #[tkn k n, .bool true] ∧ Holds w' (TAB p ts :: fr)) := by
  obtain ⟨b, c, s, u, x, hok, hc, H, hclose⟩ := TAB_out H
  have hb := hok.bits.le
  have hkl : k < ts.length := (List.getElem?_eq_some_iff.1 hk).1
  have c1 : (ts.flatMap tval ++ s)[k * 6 + 1]? = some (.bool true) := flat_get tval_len hk rfl
  have c0 : (ts.flatMap tval ++ s)[k * 6 + 0]? = some (.int .i64 n) := flat_get tval_len hk rfl
  have ei : 0 + ((k : Nat) : Int).toNat * 6 = k * 6 := by simp
  refine calls_of Tryz.func73 rfl (by kernel_rfl) ?_
  refine J22 H ?_
  clear H; intro b4 w H
  refine J0 H ?_
  refine J154 H ?_
  refine J113 H ?_
  rw [show decide ((k : Int) < 0) = false from decide_eq_false (by omega)]
  refine J13 H ?_
  refine J117 H ?_
  rw [show decide ((k : Int) ≥ (ts.length : Int)) = false from decide_eq_false (by omega)]
  refine J13 H ?_
  refine J25 H ?_
  refine J54 H ?_
  refine Lp_g rfl rfl rfl (St_indexAddr rfl rfl (by omega) (by omega) rfl ?_)
  rw [ei]
  refine Lp_g rfl rfl rfl (St_fieldAddr rfl rfl ?_)
  refine Lp_g rfl rfl rfl (St_load1 H rfl c1 rfl ?_)
  refine J74 H ?_
  refine J67 H ?_
  refine J6 H ?_
  refine Lp_s rfl (St_indexAddr rfl rfl (by omega) (by omega) rfl ?_)
  rw [ei]
  refine J72 H ?_
  refine Lp_s rfl (St_load1 H rfl c0 rfl ?_)
  refine J46 H ?_
  refine J7 H ?_
  clear H; intro w H
  refine J0 H ?_
  exact C_ret (Jz H (fun w' H' => .cellN H' rfl (by repeat (first | exact Reads.nil _ | apply Reads.cons rfl)) (.tmp .nil)) fun w' H' => ⟨rfl, hclose _ _ ts x rfl rfl hok H'.drop⟩)

theorem tAdd_spec [Extra] (p : Nat) (ts : List Slt) (e : Ent) {w : World} {fr : List HProp} [hT : HasTab 0 Lib.deBruijn64tab fr] (H : Holds w (TAB p ts :: fr)) :
    Calls Tryz.prog 196 #[pp p, .agg (evl e).toArray] w (ret fun v w' => (∃ k n, ts[k]? = some ⟨n, none⟩ ∧ n ≤ 254 ∧ (∀ j t, j < k → ts[j]? = some t → busy t = true) ∧ v = .tuple #[tkn k (n + 1), .int .i64 0] ∧ Holds w' (TAB p (ts.set k ⟨n + 1, some e⟩) :: fr)) ∨
      ((∀ t ∈ ts, busy t = true) ∧ v = .tuple #[tkn 0 0, .int .i64 12] ∧ Holds w' (TAB p ts :: fr))) := by
  obtain ⟨b, c, s, u, x, hok, hc, H, hclose⟩ := TAB_out H
  have hb := hok.bits.le
  refine calls_of Tryz.func196 rfl (by kernel_rfl) ?_
  refine J10 H ?_
  clear H; intro b3 w H
  refine J17 H ?_
  clear H; intro b4 w H
  refine J126 H ?_
  refine J48 H ?_
  replace H := Js [4,0,0,0,0] 0 H
  refine Jc rfl rfl (First_spec u ts.length x 0 _ hok.bits (by omega) H) ?_
  clear H; rintro v w ⟨hF, H⟩
  rcases hF with ⟨k, rfl, _, hk, hoff, hall⟩ | ⟨rfl, hall⟩
  · have ht := List.getElem?_eq_getElem hk
    have hbz : ∀ j t, j < k → ts[j]? = some t → busy t = true := fun j t hj hjt => by rw [← hok.bit j t hjt]; exact hall j (Nat.zero_le _) hj
    generalize ts[k] = t at ht
    have hbk := hok.bit k t ht
    have hg := hok.gen k t ht
    rw [hoff] at hbk
    obtain ⟨n, en⟩ := t
    have hen : en = none ∧ n ≤ 254 := by
      unfold busy at hbk
      cases en with
      | none => simp at hbk hg; exact ⟨rfl, by omega⟩
      | some y => simp at hbk
    obtain ⟨rfl, hn⟩ := hen
    have ei : 0 + ((k : Nat) : Int).toNat * 6 = k * 6 := by simp
    have hlen := flat_len tval_len ts
    refine J39 H ?_
    refine J18 H ?_
    refine Jc rfl rfl (bSet_spec u _ x k true hok.bits hk H) ?_
    clear H; rintro v w ⟨rfl, H⟩
    refine Lp_nil ?_
    refine J18 H ?_
    refine Lp_s rfl (St_indexAddr rfl rfl (by omega) (by omega) rfl ?_)
    rw [ei]
    refine J0 H ?_
    have c0 : (ts.flatMap tval ++ s)[k * 6 + 0]? = some (.int .i64 n) := flat_get tval_len ht rfl
    replace H := Js [4,0,0,0,0] 0 H
    refine J2 H ?_
    refine J72 H ?_
    refine Lp_s rfl (St_load1 H rfl c0 rfl ?_)
    refine J13 H ?_
    refine J72 H ?_
    rw [wrap64 (x := ((n : Nat) : Int) + 1) (by omega) (by omega), show ((n : Nat) : Int) + 1 = ((n + 1 : Nat) : Int) by omega]
    refine Lp_s rfl (St_store1 H rfl rfl inferInstance rfl (by rw [List.length_append, hlen]; omega) rfl ?_)
    clear H; intro w H
    rw [flat_set (x' := ⟨n + 1, none⟩) tval_len ht (by omega) rfl] at H
    refine Lp_nil ?_
    have ht1 : (ts.set k ⟨n + 1, none⟩)[k]? = some (⟨n + 1, none⟩ : Slt) := List.getElem?_set_self hk
    have hlen1 := flat_len tval_len (ts.set k ⟨n + 1, none⟩)
    rw [List.length_set] at hlen1
    refine J1 H ?_
    clear H; intro w H
    refine J76 H ?_
    refine A_loadN 2 [8] H rfl (Wants.none rfl) rfl (by repeat (first | exact Reads.nil _ | apply Reads.cons rfl)) (by kernel_rfl) ?_
    refine J45 H ?_
    refine J47 H ?_
    refine Jo 5 H ?_
    refine St_store1 H rfl rfl inferInstance rfl (by rw [List.length_append, hlen1]; omega) rfl ?_
    clear H; intro w H
    rw [flat_set (x' := ⟨n + 1, some ⟨0, 0, false, false, 0, 0, []⟩⟩) tval_len ht1 (by omega) rfl, List.set_set] at H
    have ht2 : (ts.set k ⟨n + 1, some ⟨0, 0, false, false, 0, 0, []⟩⟩)[k]? = some (⟨n + 1, some ⟨0, 0, false, false, 0, 0, []⟩⟩ : Slt) := List.getElem?_set_self hk
    have hlen2 := flat_len tval_len (ts.set k ⟨n + 1, some ⟨0, 0, false, false, 0, 0, []⟩⟩)
    rw [List.length_set] at hlen2
    refine J102 H ?_
    refine J64 H ?_
    refine Jo 8 H ?_
    refine St_storeN (vs := evl e) H rfl rfl inferInstance rfl rfl (by rw [List.length_append, hlen2]; omega) rfl ?_
    clear H; intro w H
    rw [flat_wr (x' := ⟨n + 1, some e⟩) tval_len ht2 (by simp) rfl, List.set_set] at H
    refine J4 H ?_
    have ht3 : (ts.set k ⟨n + 1, some e⟩)[k]? = some (⟨n + 1, some e⟩ : Slt) := List.getElem?_set_self hk
    have c3 : ((ts.set k ⟨n + 1, some e⟩).flatMap tval ++ s)[k * 6 + 0]? = some (.int .i64 ((n + 1 : Nat) : Int)) := flat_get tval_len ht3 rfl
    refine J11 H ?_
    refine J72 H ?_
    refine Lp_s rfl (St_load1 H rfl c3 rfl ?_)
    refine J46 H ?_
    refine J7 H ?_
    clear H; intro w H
    refine J0 H ?_
    replace H := Js [2,3,0,0] 1 H
    have hn255 : (n == 255) = false := by simp; omega
    have hok' : TabOk (ts.set k ⟨n + 1, some e⟩) (setB x k true) := by
      refine ⟨by rw [List.length_set]; exact hok.bits.set hk, fun i v hv => ?_, fun i v hv => ?_⟩
      · rw [setB_bit]
        rcases tab_set hv with ⟨rfl, rfl, _⟩ | ⟨hne, hv⟩
        · rw [if_pos rfl]; rfl
        · rw [if_neg hne]; exact hok.bit _ _ hv
      · rcases tab_set hv with ⟨rfl, rfl, _⟩ | ⟨_, hv⟩
        · show n + 1 ≤ 255; omega
        · exact hok.gen _ _ hv
    exact C_ret (Jz H (fun w' H' => .cellN H' rfl (by repeat (first | exact Reads.nil _ | apply Reads.cons rfl)) (.tmp .nil)) fun w' H' => .inl ⟨k, n, ht, hn, hbz, rfl, hclose _ _ (ts.set k ⟨n + 1, some e⟩) (setB x k true) (by simp) (goneT_set ht (by simp [hn255])) hok' H'.drop⟩)
  · refine J116 H ?_
    refine J5 H ?_
    refine J140 H ?_
    clear H; intro w H
    refine J0 H ?_
    replace H := Js [1,2,2,0] 1 H
    refine C_ret (Jz H (fun w' H' => .cellN H' rfl (by repeat (first | exact Reads.nil _ | apply Reads.cons rfl)) (.tmp .nil)) fun w' H' => .inr ⟨fun t ht => ?_, rfl, hclose _ _ ts x rfl rfl hok H'.drop⟩)
    obtain ⟨j, hj⟩ := List.getElem?_of_mem ht
    rw [← hok.bit j t hj]
    exact hall j (Nat.zero_le _) (List.getElem?_eq_some_iff.1 hj).1
end Go.Proofs.YtipelpbkeiphmaaGreatDoor
namespace Go.Proofs.YtipelpbkeiphmaaGreatDoor
open Go.SL

structure Ptr where
  sp : Nat
  bp : Nat
  ip : Nat
  tp : Nat
  trp : Nat
  rp : Nat
  sm : Nat
  mm : Nat
@[reducible] def ptrv : Nat → Value := fun b => pp b
@[reducible] def spkey (x : Int × Nat × Spc) : Int × Nat := (x.1, x.2.1)
@[reducible] def mnkey (x : Int × Nat × List Nat) : Int × Nat := (x.1, x.2.1)
@[reducible] def spres (sp : Nat) (x : Int × Nat × Spc) : HProp := SPC x.2.1 sp x.1.toNat x.2.2
@[reducible] def mnres (x : Int × Nat × List Nat) : HProp := BAG x.2.1 x.2.2
@[reducible] def CROW (p : Nat) (q : Ptr) : HProp := pts p (row 76 [pp q.sp, pp q.bp, pp q.ip, pp q.tp, pp q.trp, pp q.rp, .map (some q.sm), .map (some q.mm)])
def CELL (p : Nat) (s : CS) : HProp := ex fun x : Ptr × List Nat => star [prop (WF s ∧ MemOK s x.2), CROW p x.1, IMG x.1.ip x.1.sp x.1.bp, BOOK x.1.bp s.lays, ST x.1.sp s.size x.2 s.own, TAB x.1.tp s.tab, TRE x.1.trp s.last s.par, RS x.1.rp s.rem,
  mp (ki .i64) ptrv x.1.sm (s.sps.map spkey), star (s.sps.map (spres x.1.sp)), mp (ki .i64) ptrv x.1.mm (s.mns.map mnkey), star (s.mns.map mnres)]
theorem CELL_out [Extra] {w : World} {p : Nat} {s : CS} {fr : List HProp} (H : Holds w (CELL p s :: fr)) : ∃ (q : Ptr) (mem : List Nat), WF s ∧ MemOK s mem ∧
    Holds w (CROW p q :: IMG q.ip q.sp q.bp :: BOOK q.bp s.lays :: ST q.sp s.size mem s.own :: TAB q.tp s.tab :: TRE q.trp s.last s.par :: RS q.rp s.rem :: mp (ki .i64) ptrv q.sm (s.sps.map spkey) :: star (s.sps.map (spres q.sp)) :: mp (ki .i64) ptrv q.mm (s.mns.map mnkey) :: star (s.mns.map mnres) :: fr) := by
  obtain ⟨⟨q, mem⟩, H⟩ := Holds.ex.1 H
  have H := Holds.star.1 H
  obtain ⟨h, H⟩ := Holds.prop.1 H
  exact ⟨q, mem, h.1, h.2, H⟩
theorem CELL_in [Extra] {w : World} {p : Nat} {s : CS} {fr : List HProp} {q : Ptr} {mem : List Nat} (h : WF s) (hm : MemOK s mem)
    (H : Holds w (CROW p q :: IMG q.ip q.sp q.bp :: BOOK q.bp s.lays :: ST q.sp s.size mem s.own :: TAB q.tp s.tab :: TRE q.trp s.last s.par :: RS q.rp s.rem :: mp (ki .i64) ptrv q.sm (s.sps.map spkey) :: star (s.sps.map (spres q.sp)) :: mp (ki .i64) ptrv q.mm (s.mns.map mnkey) :: star (s.mns.map mnres) :: fr)) : Holds w (CELL p s :: fr) :=
  Holds.ex.2 ⟨(q, mem), Holds.star.2 (Holds.prop.2 ⟨⟨h, hm⟩, H⟩)⟩

def layE (s : CS) (e : Ent) : Lay := (s.lays[e.lay - 1]?).getD ⟨0, [], 0, []⟩
def lnkOf (w : Nat) : Lnk := if w = 0 then .none else if w = 1 then .grave else .obj (w % 4294967296 - 2) (w / 4294967296)
theorem lnkOf_big {x : Nat} (h0 : x ≠ 0) (h1 : x ≠ 1) : lnkOf x = .obj (x % 4294967296 - 2) (x / 4294967296) := by
  unfold lnkOf
  rw [if_neg h0, if_neg h1]
theorem lnk_arith {i g : Nat} (h : i < 4096) : (i + 2 + g * 4294967296) % 4294967296 - 2 = i ∧ (i + 2 + g * 4294967296) / 4294967296 = g := by omega
theorem lnkOf_obj {i g : Nat} (h1 : i < 4096) : lnkOf (wordL (.obj i g)) = .obj i g := by
  rw [wordL_obj, lnkOf_big (by omega) (by omega), (lnk_arith h1).1, (lnk_arith h1).2]
theorem lnkOf_word {k : Lnk} (h : okL k) : lnkOf (wordL k) = k := by
  cases k with
  | none => rfl
  | grave => rfl
  | obj i g => exact lnkOf_obj h.1

theorem img_of {s : CS} (h : WF s) {mem : List Nat} (m : MemOK s mem) {k g : Nat} {e : Ent} (hk : s.tab[k]? = some ⟨g, some e⟩) : ImgAt s.lays s.size mem s.own e.addr e.lay e.count k e.ws.length (layE s e) := by
  obtain ⟨⟨hm, l, h1, h2, h3, h4⟩, hl, _⟩ := h.obj k g e hk
  have hle : layE s e = l := by unfold layE; rw [h1]; rfl
  rw [hle]
  refine ⟨hm, h1, h2, h3, ?_, ?_, ?_⟩
  · rw [List.getD_eq_getElem?_getD, m.head _ _ _ hk, Option.getD_some]
  · have := hl.1
    unfold endOf at this
    rw [m.len]
    exact this
  · intro c c1 c2
    obtain ⟨r, hr, _, hr1⟩ := hl.2 c c1 (by rw [show e.addr + (e.ws.length + 1) - 1 = e.addr + e.ws.length by omega] at c2; exact c2)
    rw [List.getD_eq_getElem?_getD, hr]
    show r ≠ 0
    omega
theorem word_of {s : CS} (h : WF s) {mem : List Nat} (m : MemOK s mem) {k g : Nat} {e : Ent} (hk : s.tab[k]? = some ⟨g, some e⟩) {p : Nat} (hp : p < e.ws.length) : mem.getD (e.addr + 1 + p) 0 = e.ws.getD p 0 := by
  have hx := List.getElem?_eq_getElem hp
  rw [List.getD_eq_getElem?_getD, List.getD_eq_getElem?_getD, m.words _ _ _ hk p _ hx, hx]
/-- What a reference's word tells. -/
theorem link_of {s : CS} (h : WF s) {k g : Nat} {e : Ent} (hk : s.tab[k]? = some ⟨g, some e⟩) {p : Nat} (hp : p < e.ws.length) (hr : isRefL (layE s e) p = true) : okL (lnkOf (e.ws.getD p 0)) ∧ e.ws.getD p 0 = wordL (lnkOf (e.ws.getD p 0)) := by
  obtain ⟨⟨hm, l, h1, h2, h3, h4⟩, hl, _⟩ := h.obj k g e hk
  have hle : layE s e = l := by unfold layE; rw [h1]; rfl
  rw [hle] at hr
  have hx := List.getElem?_eq_getElem hp
  obtain ⟨q, hq, hw⟩ := (h4 p _ hx).2 hr
  have hd : e.ws.getD p 0 = wordL q := by rw [List.getD_eq_getElem?_getD, hx, Option.getD_some]; exact hw
  rw [hd, lnkOf_word hq]
  exact ⟨hq, rfl⟩

/-- An entry, or an error, as values. -/
def getV : Option (Nat × Ent) → Value
  | some (_, e) => .tuple #[.agg (evl e).toArray, .int .i64 0]
  | none => .tuple #[.agg #[.int .i64 0, .int .i64 0, .bool false, .bool false], .int .i64 8]
theorem getV_form (o : Option (Nat × Ent)) : ∃ e1 e2 h1 h2 e4, getV o = .tuple #[.agg #[.int .i64 e1, .int .i64 e2, .bool h1, .bool h2], .int .i64 e4] := by
  cases o <;> exact ⟨_, _, _, _, _, rfl⟩
theorem tGetV_spec [Extra] (p : Nat) (ts : List Slt) (i g : Int) {w : World} {fr : List HProp} (H : Holds w (TAB p ts :: fr)) :
    Calls Tryz.prog 39 #[pp p, tkI2 i g] w (ret fun v w' => v = getV (lookT ts i g) ∧ Holds w' (TAB p ts :: fr)) :=
  call (tGet_spec p ts i g H) fun v w h => ⟨by rw [h.1]; cases lookT ts i g <;> rfl, h.2⟩

theorem valid_spec [Extra] (p : Nat) (s : CS) (i g : Int) {w : World} {fr : List HProp} (H : Holds w (CELL p s :: fr)) :
    Calls Tryz.prog 198 #[pp p, tkI2 i g] w (ret fun v w' => v = getV (validT s.tab i g) ∧ Holds w' (CELL p s :: fr)) := by
  obtain ⟨q, mem, hw, hm, H⟩ := CELL_out H
  refine calls_of Tryz.func198 rfl (by kernel_rfl) ?_
  refine J10 H ?_
  clear H; intro b3 w H
  refine J17 H ?_
  clear H; intro b4 w H
  refine J126 H ?_
  obtain ⟨e1, e2, h1, h2, e4, hsh⟩ := getV_form (lookT s.tab i g)
  refine J14 H ?_
  refine C_join (fun ms σ w => ms = [] ∧ ∃ b6, σ 4 = pp b4 ∧ σ 6 = pp b6 ∧ σ 7 = .int .i64 e4 ∧
    Holds w (pts b4 (row 102 [.int .i64 0, .int .i64 0, .bool false, .bool false]) :: pts b6 (row 102 [.int .i64 e1, .int .i64 e2, .bool h1, .bool h2]) :: CELL p s :: fr)) ?_ ?_
  · replace H := Js [6,0,0,0,0,0,0,0,0,0,0,0,0] 0 H
    refine J1 H ?_
    clear H; intro w H
    refine J162 H ?_
    refine A_two 5 9 rfl rfl (by kernel_rfl) (by repeat first | exact .nil | refine .cons (.inr H.at) ?_ | refine .cons (.inr H.mp) ?_ | refine .cons (.inl (by kernel_rfl)) ?_) (Wants.none rfl) (Wants.none rfl) (St_call (a := []) (b := []) rfl rfl (call (tGetV_spec q.tp s.tab i g H) ?_)) (St_alloc H rfl ?_)
    · clear H; rintro v w ⟨rfl, H⟩
      rw [hsh]
      refine J163 H ?_
      clear H; intro b6 w H
      refine J164 H ?_
      clear H; intro w H
      refine J36 H ?_
      replace H := Js [4,4,4,4,1,3,3,3,3,3,3,1,0] 1 H
      refine ⟨rfl, rfl, b6, rfl, rfl, rfl, ?_⟩
      replace H := CELL_in hw hm H
      replace H := Js [1,1,0] 0 H
      exact H
    · clear H; intro b6 w H
      refine Jo 5 H ?_
      refine Jk rfl rfl (tGetV_spec q.tp s.tab i g H.swap) ?_
      clear H; rintro v w ⟨rfl, H⟩
      rw [hsh]
      refine J165 H ?_
      clear H; intro w H
      refine J36 H ?_
      replace H := Js [4,4,4,4,0,3,3,3,3,3,3,1,0] 1 H
      refine ⟨rfl, rfl, b6, rfl, rfl, rfl, ?_⟩
      replace H := CELL_in hw hm H
      replace H := Js [1,1,0] 0 H
      exact H
  · clear H
    rintro ms σ w ⟨rfl, b6, g4, g6, g7, H⟩
    rw [upd_self g4, upd_self g6, upd_self g7]
    have hv : validT s.tab i g = (match lookT s.tab i g with | some (k, e) => if e.held then some (k, e) else none | none => none) := rfl
    cases hL : lookT s.tab i g with
    | none =>
      rw [hL] at hsh hv
      have hv : validT s.tab i g = none := hv
      rw [hv]
      cases hsh
      refine J11 H ?_
      refine J69 H ?_
      refine J150 H ?_
      clear H; intro w H
      refine J0 H ?_
      exact C_ret (Jz H (fun w' H' => .cellN H' rfl (by repeat (first | exact Reads.nil _ | apply Reads.cons rfl)) (.tmp .nil)) fun w' H' => ⟨rfl, H'.drop.drop⟩)
    | some x =>
      obtain ⟨k, e⟩ := x
      obtain ⟨ea, er, eh, ep, el, ec, ew⟩ := e
      rw [hL] at hsh hv
      cases hsh
      cases eh with
      | true =>
        have hv : validT s.tab i g = some (k, ⟨ea, er, true, ep, el, ec, ew⟩) := hv
        rw [hv]
        refine J11 H ?_
        refine J54 H ?_
        refine J35 H ?_
        refine J81 H ?_
        clear H; intro w H
        refine J0 H ?_
        exact C_ret (Jz H (fun w' H' => .cellN H' rfl (by repeat (first | exact Reads.nil _ | apply Reads.cons rfl)) (.tmp .nil)) fun w' H' => ⟨rfl, H'.drop.drop⟩)
      | false =>
        have hv : validT s.tab i g = none := hv
        rw [hv]
        refine J11 H ?_
        refine J54 H ?_
        refine J150 H ?_
        clear H; intro w H
        refine J0 H ?_
        exact C_ret (Jz H (fun w' H' => .cellN H' rfl (by repeat (first | exact Reads.nil _ | apply Reads.cons rfl)) (.tmp .nil)) fun w' H' => ⟨rfl, H'.drop.drop⟩)
end Go.Proofs.YtipelpbkeiphmaaGreatDoor
namespace Go.Proofs.YtipelpbkeiphmaaGreatDoor
open Go.SL

theorem with_spec [Extra] (p : Nat) (s : CS) (i g : Int) (f : FuncId) (cs : List Value) [TBody Tryz.prog f] (R : Value → World → Prop) (fr : List HProp)
    (hno : validT s.tab i g = none → ∀ w, Holds w (CELL p s :: fr) → R (.int .i64 8) w)
    (hyes : ∀ k e, validT s.tab i g = some (k, e) → ∀ w, Holds w (CELL p s :: fr) → Calls Tryz.prog f (.agg (evl e).toArray :: cs).toArray w (ret R)) {w : World} (H : Holds w (CELL p s :: fr)) :
    Calls Tryz.prog 121 #[pp p, tkI2 i g, .func (.func f) #[] cs.toArray] w (ret R) := by
  refine calls_of Tryz.func121 rfl (by kernel_rfl) ?_
  refine J10 H ?_
  clear H; intro b4 w H
  refine J124 H ?_
  refine Jc rfl rfl (valid_spec p s i g H.swap) ?_
  clear H; rintro v w ⟨rfl, H⟩
  cases hv : validT s.tab i g with
  | none =>
    refine J19 H ?_
    clear H; intro b7 w H
    refine J7 H ?_
    clear H; intro w H
    refine J24 H ?_
    refine J31 H ?_
    replace H := Js [1] 2 H
    exact C_ret (Jy H rfl fun w' H' => hno hv w' H')
  | some x =>
    obtain ⟨k, e⟩ := x
    refine J19 H ?_
    clear H; intro b7 w H
    refine J7 H ?_
    clear H; intro w H
    refine J156 H ?_
    replace H := Js [1] 2 H
    refine Lp_s rfl (St_call (a := []) (b := cs) rfl rfl (call (hyes k e hv w H) ?_))
    clear H; intro v w hr
    refine Lp_mv rfl rfl ?_
    refine Lp_nil ?_
    exact C_ret (fn_endX (.inr rfl) rfl hr)

theorem valid_at {s : CS} {i g : Int} {k : Nat} {e : Ent} (h : validT s.tab i g = some (k, e)) : ∃ n : Nat, i = k ∧ g = n ∧ s.tab[k]? = some ⟨n, some e⟩ ∧ e.held = true := by
  obtain ⟨h1, h2⟩ := validT_some.1 h
  obtain ⟨n, a, b, c⟩ := lookT_some.1 h1
  exact ⟨n, a, b, c, h2⟩

end Go.Proofs.YtipelpbkeiphmaaGreatDoor
namespace Go.Proofs.YtipelpbkeiphmaaGreatDoor
open Go.SL

theorem lay_of {s : CS} (h : WF s) {k g : Nat} {e : Ent} (hk : s.tab[k]? = some ⟨g, some e⟩) : s.lays[e.lay - 1]? = some (layE s e) := by
  obtain ⟨⟨hm, l, h1, h2, h3, h4⟩, hl, _⟩ := h.obj k g e hk
  rw [h1]
  unfold layE
  rw [h1]
  rfl

theorem flat_same {ts : List Slt} {k : Nat} {t t' : Slt} (hk : ts[k]? = some t) (h : tval t' = tval t) : (ts.set k t').flatMap tval = ts.flatMap tval := by
  rw [set_split hk]
  conv => rhs; rw [split_at hk]
  simp [h]
/-- Another object's words: the table is the same. -/
theorem TAB_ghost [Extra] {w : World} {p : Nat} {ts : List Slt} {l : List HProp} {k g : Nat} {e e' : Ent} (hk : ts[k]? = some ⟨g, some e⟩) (he : evl e' = evl e) (H : Holds w (TAB p ts :: l)) : Holds w (TAB p (ts.set k ⟨g, some e'⟩) :: l) := by
  obtain ⟨b, c, s, u, x, hok, hc, H, hclose⟩ := TAB_out H
  have hv : tval ⟨g, some e'⟩ = tval ⟨g, some e⟩ := by
    show Value.int .i64 g :: .bool true :: evl e' = .int .i64 g :: .bool true :: evl e
    rw [he]
  refine hclose _ _ (ts.set k ⟨g, some e'⟩) x (by simp) (goneT_set hk rfl) (hok.set hk rfl (by have := hok.gen _ _ hk; exact this)) ?_
  rw [flat_same hk hv]
  exact H

/-- What Look answers. -/
def lookL (s : CS) (i g place : Int) : Lnk × Nat :=
  match validT s.tab i g with
  | none => (.none, 8)
  | some (_, e) => if placeE (layE s e) e.ws.length place true = 0 then (lnkOf (e.ws.getD place.toNat 0), 0) else (.none, placeE (layE s e) e.ws.length place true)
theorem lookL_none {s : CS} {i g place : Int} (h : validT s.tab i g = none) : lookL s i g place = (.none, 8) := by unfold lookL; rw [h]
theorem lookL_some {s : CS} {i g place : Int} {k : Nat} {e : Ent} (h : validT s.tab i g = some (k, e)) : lookL s i g place = if placeE (layE s e) e.ws.length place true = 0 then (lnkOf (e.ws.getD place.toNat 0), 0) else (.none, placeE (layE s e) e.ws.length place true) := by unfold lookL; rw [h]

theorem Look_spec [Extra] (p : Nat) (s : CS) (i g place : Int) {w : World} {fr : List HProp} (H : Holds w (CELL p s :: fr)) :
    Calls Tryz.prog 108 #[pp p, tkI2 i g, .int .i64 place] w (ret fun v w' => v = .tuple #[lkv (lookL s i g place).1, .int .i64 ((lookL s i g place).2 : Nat)] ∧ Holds w' (CELL p s :: fr)) := by
  obtain ⟨a1, a2, a3, hkv⟩ := lkv_agg (lookL s i g place).1
  rw [hkv]
  refine calls_of Tryz.func108 rfl (by kernel_rfl) ?_
  refine J52 H ?_
  clear H; intro b3 w H
  refine Lp_s rfl (St_boxN H rfl rfl ?_)
  clear H; intro b4 w H
  refine Lp_s rfl (St_box1 H rfl rfl rfl ?_)
  clear H; intro b5 w H
  refine J17 H ?_
  clear H; intro b6 w H
  refine J0 H ?_
  refine J22 H ?_
  clear H; intro b8 w H
  refine Lp_nil ?_
  refine J43 H ?_
  refine J44 H ?_
  refine J6 H ?_
  replace H := Js [5,0,0,0,0,0] 0 H
  refine Jc rfl rfl (with_spec p s i g 200 [pp b3, pp b5, pp b8] (fun v w' => v = .int .i64 ((lookL s i g place).2 : Nat) ∧ Holds w' (pts b8 (row 109 [.int .i64 a1, .int .i64 a2, .int .i64 a3]) :: pts b6 (row 109 [.int .i64 0, .int .i64 0, .int .i64 0]) :: CELL p s :: fr)) _ ?_ ?_ H) ?_
  · intro hv w H
    rw [lookL_none hv] at hkv ⊢
    cases hkv
    replace H := Js [1,1,0] 3 H
    exact ⟨rfl, H⟩
  · intro k e hv w H
    obtain ⟨n, rfl, rfl, hk, hh⟩ := valid_at hv
    obtain ⟨q, mem, hw, hm, H⟩ := CELL_out H
    have hI := img_of hw hm hk
    refine calls_of Tryz.func200 rfl (by kernel_rfl) ?_
    refine J10 H ?_
    clear H; intro b4 w H
    refine J0 H ?_
    replace H := Js [2,2,2,0,0,0,0,0,0,0,0,0,0,0,0,1] 1 H
    have hlk : lkv (lookL s k n place).1 = lkv (if placeE (layE s e) e.ws.length place true = 0 then lnkOf (e.ws.getD place.toNat 0) else .none) := by
      rw [lookL_some hv]
      split <;> rfl
    have herr : placeE (layE s e) e.ws.length place true = (lookL s k n place).2 := by
      rw [lookL_some hv]
      split
      · assumption
      · rfl
    have hlf : placeE (layE s e) e.ws.length place true = 0 → okL (if placeE (layE s e) e.ws.length place true = 0 then lnkOf (e.ws.getD place.toNat 0) else .none) ∧ mem.getD (e.addr + 1 + place.toNat) 0 = wordL (if placeE (layE s e) e.ws.length place true = 0 then lnkOf (e.ws.getD place.toNat 0) else .none) := fun h0 => by
      obtain ⟨y, hpy, hy, hr⟩ := placeE_ok h0
      rw [if_pos h0, hpy, Int.toNat_natCast, word_of hw hm hk hy]
      exact link_of hw hk hy hr
    have hF := fun (w : World) (fr : List HProp) (H : Holds w (IMG q.ip q.sp q.bp :: BOOK q.bp s.lays :: ST q.sp s.size mem s.own :: fr)) => Follow_spec q.ip q.sp q.bp s.size s.lays mem s.own e.addr e.lay e.count k e.ws.length (layE s e) hI place (if placeE (layE s e) e.ws.length place true = 0 then lnkOf (e.ws.getD place.toNat 0) else .none) hlf (fun h0 => if_neg h0) H
    rw [← hlk, hkv] at hF
    refine J1 H ?_
    clear H; intro w H
    refine A_load1 0 [7, 11] H rfl (Wants.none rfl) rfl rfl (by kernel_rfl) ?_
    refine J166 H ?_
    refine A_load1 3 [7, 11] H rfl (Wants.none rfl) rfl rfl (by kernel_rfl) ?_
    refine J47 H ?_
    refine A_load1 5 [7, 11] H rfl (Wants.none rfl) rfl rfl (by kernel_rfl) ?_
    refine A_load1 6 [7, 11] H rfl (Wants.none rfl) rfl rfl (by kernel_rfl) ?_
    refine Jo 7 H ?_
    refine Jk rfl rfl (hF _ _ H) ?_
    clear H; rintro v w ⟨rfl, H⟩
    rw [herr]
    refine J65 H ?_
    refine J80 H ?_
    refine J97 H ?_
    clear H; intro w H
    refine J128 H ?_
    refine J5 H ?_
    replace H := Js [4,0,0,0,1,1,1,1,1,1,1,1,1] 3 H
    replace H := CELL_in hw hm H
    replace H := Js [1,1,0] 0 H
    exact C_ret (Jy H rfl fun w' H' => ⟨rfl, H'⟩)
  · clear H
    rintro v w ⟨rfl, H⟩
    refine J0 H ?_
    refine J158 H ?_
    clear H; intro w H
    refine J0 H ?_
    replace H := Js [1,1] 1 H
    exact C_ret (Jz H (fun w' H' => .cellN H' rfl (by repeat (first | exact Reads.nil _ | apply Reads.cons rfl)) (.tmp .nil)) fun w' H' => ⟨rfl, H'.drop⟩)
end Go.Proofs.YtipelpbkeiphmaaGreatDoor
namespace Go.Proofs.YtipelpbkeiphmaaGreatDoor
open Go.SL

end Go.Proofs.YtipelpbkeiphmaaGreatDoor
namespace Go.Proofs.YtipelpbkeiphmaaGreatDoor
open Go.SL

theorem RS_keys [Extra] {w : World} {p : Nat} {m : List (Rf × Int)} {l : List HProp} (H : Holds w (RS p m :: l)) : (m.map (·.1)).Nodup := by
  obtain ⟨bt, bo, bf, H⟩ := RS_out H
  exact keys_nodup bt H

theorem at_ok [Extra] (p : Nat) (s : CS) (k n : Nat) (e : Ent) (hk : s.tab[k]? = some ⟨n, some e⟩) {w : World} {fr : List HProp} (H : Holds w (CELL p s :: fr)) :
    Calls Tryz.prog 153 #[pp p, .int .i64 k] w (ret fun v w' => v = .tuple #[.agg (evl e).toArray, .bool true] ∧ Holds w' (CELL p s :: fr)) := by
  obtain ⟨q, mem, hw, hm, H⟩ := CELL_out H
  have hL : lookT s.tab k n = some (k, e) := lookT_some.2 ⟨n, rfl, rfl, hk⟩
  refine calls_of Tryz.func153 rfl (by kernel_rfl) ?_
  refine J22 H ?_
  clear H; intro b4 w H
  refine J126 H ?_
  refine J18 H ?_
  replace H := Js [5,0,0,0,0,0,0,0,0,0,0,0] 0 H
  refine Jc rfl rfl (tAt_spec q.tp s.tab k n e hk H) ?_
  clear H; rintro v w ⟨rfl, H⟩
  refine J19 H ?_
  clear H; intro b6 w H
  refine J7 H ?_
  clear H; intro w H
  refine J15 H ?_
  refine C_join (fun ms σ w => ms = [] ∧ ∃ b8, σ 4 = pp b4 ∧ σ 7 = .bool true ∧ σ 8 = pp b8 ∧
      Holds w (pts b4 (row 102 [.int .i64 0, .int .i64 0, .bool false, .bool false]) :: pts b8 (row 102 (evl e)) :: CELL p s :: fr)) ?_ ?_
  · replace H := Js [1,0,0,0,0,0,0,0,0,0,0,0,0] 0 H
    refine J1 H ?_
    clear H; intro w H
    refine J162 H ?_
    refine A_two 5 9 rfl rfl (by kernel_rfl) (by repeat first | exact .nil | refine .cons (.inr H.at) ?_ | refine .cons (.inr H.mp) ?_ | refine .cons (.inl (by kernel_rfl)) ?_) (Wants.none rfl) (Wants.none rfl) (St_call (a := []) (b := []) rfl rfl (call (tGetV_spec q.tp s.tab k n H) ?_)) (St_alloc H rfl ?_)
    · clear H; rintro v w ⟨rfl, H⟩
      rw [hL]
      refine J163 H ?_
      clear H; intro b8 w H
      refine J164 H ?_
      clear H; intro w H
      refine J36 H ?_
      replace H := Js [4,4,4,4,1,3,3,3,3,3,3,2,0] 1 H
      replace H := CELL_in hw hm H
      replace H := Js [1,1,0] 0 H
      exact ⟨rfl, rfl, b8, rfl, rfl, rfl, H⟩
    · clear H; intro b8 w H
      refine Jo 5 H ?_
      refine Jk rfl rfl (tGetV_spec q.tp s.tab k n H.swap) ?_
      clear H; rintro v w ⟨rfl, H⟩
      rw [hL]
      refine J165 H ?_
      clear H; intro w H
      refine J36 H ?_
      replace H := Js [4,4,4,4,0,3,3,3,3,3,3,2,0] 1 H
      replace H := CELL_in hw hm H
      replace H := Js [1,1,0] 0 H
      exact ⟨rfl, rfl, b8, rfl, rfl, rfl, H⟩
  · clear H
    rintro ms σ w ⟨rfl, b8, g4, g7, g8, H⟩
    rw [upd_self g4, upd_self g7, upd_self g8]
    refine J158 H ?_
    clear H; intro w H
    refine J0 H ?_
    exact C_ret (Jz H (fun w' H' => .cellN H' rfl (by repeat (first | exact Reads.nil _ | apply Reads.cons rfl)) (.tmp .nil)) fun w' H' => ⟨rfl, H'.drop.drop⟩)

/-- What is remembered behind a note. -/
def noteR (s : CS) (k : Nat) (e : Ent) (place : Int) (l : Lnk) : List (Rf × Int) :=
  match l with
  | .obj a b => match lookT s.tab a b with
    | some (_, f) => if f.region ≠ e.region then ins (era s.rem ((k : Int), place)) ((k : Int), place) (a : Int) else era s.rem ((k : Int), place)
    | none => era s.rem ((k : Int), place)
  | _ => era s.rem ((k : Int), place)

theorem noteR_stale {s : CS} {k a b : Nat} {e : Ent} {place : Int} (h : lookT s.tab a b = none) : noteR s k e place (.obj a b) = era s.rem ((k : Int), place) := by
  show (match lookT s.tab a b with | some (_, f) => if f.region ≠ e.region then ins (era s.rem ((k : Int), place)) ((k : Int), place) (a : Int) else era s.rem ((k : Int), place) | none => era s.rem ((k : Int), place)) = _
  rw [h]
theorem noteR_live {s : CS} {k a b kk : Nat} {e f : Ent} {place : Int} (h : lookT s.tab a b = some (kk, f)) : noteR s k e place (.obj a b) = if f.region ≠ e.region then ins (era s.rem ((k : Int), place)) ((k : Int), place) (a : Int) else era s.rem ((k : Int), place) := by
  show (match lookT s.tab a b with | some (_, f) => if f.region ≠ e.region then ins (era s.rem ((k : Int), place)) ((k : Int), place) (a : Int) else era s.rem ((k : Int), place) | none => era s.rem ((k : Int), place)) = _
  rw [h]

theorem noteN_spec [Extra] (p : Nat) (s : CS) (k n : Nat) (e : Ent) (hk : s.tab[k]? = some ⟨n, some e⟩) (place : Int) (l : Lnk) {w : World} {fr : List HProp} (H : Holds w (CELL p s :: fr)) :
    Calls Tryz.prog 253 #[pp p, .int .i64 k, .int .i64 place, lkv l] w (ret fun v w' => Holds w' (CELL p { s with rem := noteR s k e place l } :: fr)) := by
  obtain ⟨a1, a2, a3, hkv⟩ := lkv_agg l
  rw [hkv]
  obtain ⟨q, mem, hw, hm, H⟩ := CELL_out H
  have hnd := RS_keys (H.pull 6)
  have hnd0 := hnd
  refine calls_of Tryz.func253 rfl (by kernel_rfl) ?_
  refine J10 H ?_
  clear H; intro b7 w H
  refine J89 H ?_
  refine J46 H ?_
  refine J17 H ?_
  clear H; intro b8 w H
  refine J7 H ?_
  clear H; intro w H
  refine Lp_nil ?_
  replace H := Js [8,0,0,0,0,0,0,0,0,0,0,0,0] 0 H
  refine J1 H ?_
  clear H; intro w H
  refine J153 H ?_
  refine Jo 5 H ?_
  refine Jk rfl rfl (rCut_spec q.rp s.rem hnd ((k : Int), place) H) ?_
  clear H; rintro v w ⟨rfl, H⟩
  refine J4 H ?_
  replace H := Js [3,3,3,3,3,3,0,2,2,2,2,0,0] 0 H
  have H := CELL_in (s := { s with rem := era s.rem ((k : Int), place) }) (WF_rem hw _) (MemOK_rem hm _) H
  clear hw hm
  refine J100 H ?_
  refine J0 H ?_
  have hcase : (a1 ≠ 2 ∧ noteR s k e place l = era s.rem ((k : Int), place)) ∨ ∃ a b : Nat, l = .obj a b ∧ a1 = 2 ∧ a2 = a ∧ a3 = b := by
    cases l with
    | none => injection hkv with h; simp at h; exact .inl ⟨by omega, rfl⟩
    | grave => injection hkv with h; simp at h; exact .inl ⟨by omega, rfl⟩
    | obj a b => injection hkv with h; simp at h; exact .inr ⟨a, b, rfl, by omega, by omega, by omega⟩
  rcases hcase with ⟨h2, hn⟩ | ⟨a, b, rfl, rfl, rfl, rfl⟩
  · rw [show (a1 != 2) = true by simpa using h2]
    refine J29 H ?_
    rw [hn]
    replace H := Js [0] 2 H
    exact C_ret (Jy H rfl fun w' H' => H')
  · refine J8 H ?_
    refine J2 H ?_
    refine Jc rfl rfl (at_ok p { s with rem := era s.rem ((k : Int), place) } k n e hk H) ?_
    clear H; rintro v w ⟨rfl, H⟩
    refine J19 H ?_
    clear H; intro b9 w H
    refine J7 H ?_
    clear H; intro w H
    refine J0 H ?_
    replace H := Js [1,0,0,0] 0 H
    obtain ⟨q, mem, hw, hm, H⟩ := CELL_out H
    dsimp only at H
    obtain ⟨e1, e2, h1, h2, e4, hsh⟩ := getV_form (lookT s.tab a b)
    refine J14 H ?_
    refine C_join (fun ms σ w => ms = [] ∧ ∃ b11, σ 0 = pp p ∧ σ 7 = pp b7 ∧ σ 8 = pp b8 ∧ σ 9 = pp b9 ∧ σ 11 = pp b11 ∧ σ 12 = .int .i64 e4 ∧
        Holds w (CELL p { s with rem := era s.rem ((k : Int), place) } :: pts b11 (row 102 [.int .i64 e1, .int .i64 e2, .bool h1, .bool h2]) :: pts b9 (row 102 (evl e)) :: pts b8 (row 166 [.int .i64 k, .int .i64 place]) :: pts b7 (row 109 [.int .i64 2, .int .i64 a, .int .i64 b]) :: fr)) ?_ ?_
    · replace H := Js [4,0,0,0,0,0,0,0,0,0,0,0,0,0] 0 H
      refine J1 H ?_
      clear H; intro w H
      refine J28 H ?_
      refine A_load1 3 [6, 11] H rfl (Wants.none rfl) rfl rfl (by kernel_rfl) ?_
      refine J47 H ?_
      refine A_loadN 5 [6, 11] H rfl (Wants.none rfl) rfl (by repeat (first | exact Reads.nil _ | apply Reads.cons rfl)) (by kernel_rfl) ?_
      refine A_two 6 10 rfl rfl (by kernel_rfl) (by repeat first | exact .nil | refine .cons (.inr H.at) ?_ | refine .cons (.inr H.mp) ?_ | refine .cons (.inl (by kernel_rfl)) ?_) (Wants.none rfl) (Wants.none rfl) (St_call (a := []) (b := []) rfl rfl (call (tGetV_spec q.tp s.tab a b H) ?_)) (St_alloc H rfl ?_)
      · clear H; rintro v w ⟨rfl, H⟩
        rw [hsh]
        refine J155 H ?_
        refine Jo 10 H ?_
        refine St_alloc H rfl ?_
        clear H; intro b11 w H
        refine J97 H ?_
        clear H; intro w H
        refine J128 H ?_
        replace H := Js [2,2,2,2,1,1,1,1,1,1,1,0,0,0,0] 0 H
        have H := CELL_in (s := { s with rem := era s.rem ((k : Int), place) }) hw hm H
        exact ⟨rfl, rfl, b11, rfl, rfl, rfl, rfl, rfl, rfl, H⟩
      · clear H; intro b11 w H
        refine Jo 6 H ?_
        refine Jk rfl rfl (tGetV_spec q.tp s.tab a b H.swap) ?_
        clear H; rintro v w ⟨rfl, H⟩
        rw [hsh]
        refine J155 H ?_
        refine J97 H ?_
        clear H; intro w H
        refine J128 H ?_
        replace H := Js [2,2,2,2,0,1,1,1,1,1,1,0,0,0,0] 0 H
        have H := CELL_in (s := { s with rem := era s.rem ((k : Int), place) }) hw hm H
        exact ⟨rfl, rfl, b11, rfl, rfl, rfl, rfl, rfl, rfl, H⟩
    · clear H
      rintro ms σ w ⟨rfl, b11, g0, g7, g8, g9, g11, g12, H⟩
      rw [upd_self g0, upd_self g7, upd_self g8, upd_self g9, upd_self g11, upd_self g12]
      cases hL : lookT s.tab a b with
      | none =>
        have hn : noteR s k e place (.obj a b) = era s.rem ((k : Int), place) := noteR_stale hL
        rw [hL] at hsh
        cases hsh
        rw [hn]
        refine J11 H ?_
        refine J119 H ?_
        refine J35 H ?_
        replace H := Js [0] 4 H
        exact fn_end0 _ (.inl rfl) H rfl fun w' H' => H'
      | some x =>
        obtain ⟨kk, f⟩ := x
        rw [hL] at hsh
        cases hsh
        refine J11 H ?_
        refine J90 H ?_
        refine J54 H ?_
        by_cases hr : f.region = e.region
        · have hn : noteR s k e place (.obj a b) = era s.rem ((k : Int), place) := by rw [noteR_live hL]; exact if_neg (by simpa using hr)
          rw [hn, show (f.region != e.region) = false by simpa using hr]
          refine J35 H ?_
          replace H := Js [0] 4 H
          exact fn_end0 _ (.inl rfl) H rfl fun w' H' => H'
        · have hn : noteR s k e place (.obj a b) = ins (era s.rem ((k : Int), place)) ((k : Int), place) (a : Int) := by rw [noteR_live hL]; exact if_pos hr
          rw [hn, show (f.region != e.region) = true by simpa using hr]
          refine J0 H ?_
          refine J29 H ?_
          obtain ⟨q, mem, hw, hm, H⟩ := CELL_out H
          dsimp only at H
          replace H := Js [6,0,0,0,0,0,0,0,0,0,0,0,0,0,0] 0 H
          have hnd := RS_keys H
          refine J1 H ?_
          clear H; intro w H
          refine J28 H ?_
          refine J167 H ?_
          refine A_loadN 4 [8] H rfl (Wants.none rfl) rfl (by repeat (first | exact Reads.nil _ | apply Reads.cons rfl)) (by kernel_rfl) ?_
          refine A_fieldAddr 5 rfl (Wants.none rfl) rfl (by kernel_rfl) ?_
          refine J57 H ?_
          refine A_load1 7 [8] H rfl (Wants.none rfl) rfl rfl (by kernel_rfl) ?_
          refine Jo 8 H ?_
          refine Jk rfl rfl (rPut_spec q.rp _ hnd ((k : Int), place) a H) ?_
          clear H; rintro v w ⟨rfl, H⟩
          refine J4 H ?_
          have he : era (era s.rem ((k : Int), place)) ((k : Int), place) = era s.rem ((k : Int), place) := by
            refine era_none ?_
            intro hmem
            exact absurd rfl ((keys_era hnd0).1 hmem).1
          rw [he] at H
          replace H := Js [1,1,1,1,1,1,0,0,0,0,0] 4 H
          have H := CELL_in (s := { s with rem := ins (era s.rem ((k : Int), place)) ((k : Int), place) (a : Int) }) (WF_rem hw _) (MemOK_rem hm _) H
          exact fn_end0 _ (.inl rfl) H rfl fun w' H' => H'
end Go.Proofs.YtipelpbkeiphmaaGreatDoor
namespace Go.Proofs.YtipelpbkeiphmaaGreatDoor
open Go.SL

/-- What a tie leaves, and answers. -/
def tieS (s : CS) (i g place : Int) (l : Lnk) : CS × Nat :=
  match validT s.tab i g with
  | none => (s, 8)
  | some (k, e) => if placeE (layE s e) e.ws.length place true = 0 then ({ setE s k g.toNat { e with ws := e.ws.set place.toNat (wordL l) } with rem := noteR (setE s k g.toNat { e with ws := e.ws.set place.toNat (wordL l) }) k { e with ws := e.ws.set place.toNat (wordL l) } place l }, 0) else (s, placeE (layE s e) e.ws.length place true)
theorem tieS_none {s : CS} {i g place : Int} {l : Lnk} (h : validT s.tab i g = none) : tieS s i g place l = (s, 8) := by unfold tieS; rw [h]
theorem tieS_some {s : CS} {i g place : Int} {l : Lnk} {k : Nat} {e : Ent} (h : validT s.tab i g = some (k, e)) : tieS s i g place l = if placeE (layE s e) e.ws.length place true = 0 then ({ setE s k g.toNat { e with ws := e.ws.set place.toNat (wordL l) } with rem := noteR (setE s k g.toNat { e with ws := e.ws.set place.toNat (wordL l) }) k { e with ws := e.ws.set place.toNat (wordL l) } place l }, 0) else (s, placeE (layE s e) e.ws.length place true) := by unfold tieS; rw [h]

theorem tie_spec [Extra] (p : Nat) (s : CS) (i g place : Int) (l : Lnk) (hl : okL l) {w : World} {fr : List HProp} (H : Holds w (CELL p s :: fr)) :
    Calls Tryz.prog 199 #[pp p, tkI2 i g, .int .i64 place, lkv l] w (ret fun v w' => v = .int .i64 ((tieS s i g place l).2 : Nat) ∧ Holds w' (CELL p (tieS s i g place l).1 :: fr)) := by
  obtain ⟨a1, a2, a3, hkv⟩ := lkv_agg l
  rw [hkv]
  refine calls_of Tryz.func199 rfl (by kernel_rfl) ?_
  refine J52 H ?_
  clear H; intro b4 w H
  refine Lp_s rfl (St_boxN H rfl rfl ?_)
  clear H; intro b5 w H
  refine Lp_s rfl (St_box1 H rfl rfl rfl ?_)
  clear H; intro b6 w H
  refine Lp_s rfl (St_boxN H rfl rfl ?_)
  clear H; intro b7 w H
  refine J0 H ?_
  refine J43 H ?_
  refine J44 H ?_
  refine J6 H ?_
  replace H := Js [4,0,0,0,0] 0 H
  refine Lp_s rfl (St_call (a := []) (b := []) rfl rfl (call (with_spec p s i g 264 [pp b4, pp b6, pp b7] (fun v w' =>
      (validT s.tab i g = none ∧ v = .int .i64 8 ∧ Holds w' (CELL p s :: fr)) ∨
      (∃ k n e, validT s.tab i g = some (k, e) ∧ g = (n : Nat) ∧ i = (k : Nat) ∧ s.tab[k]? = some ⟨n, some e⟩ ∧ ((placeE (layE s e) e.ws.length place true ≠ 0 ∧ v = .int .i64 (placeE (layE s e) e.ws.length place true) ∧ Holds w' (CELL p s :: fr)) ∨
        (placeE (layE s e) e.ws.length place true = 0 ∧ v = .int .i64 0 ∧ Holds w' (pts b4 (row 23 [pp p]) :: pts b5 (row 88 [.int .i64 i, .int .i64 g]) :: pts b6 (row 3 [.int .i64 place]) :: pts b7 (row 109 [.int .i64 a1, .int .i64 a2, .int .i64 a3]) :: CELL p (setE s k n { e with ws := e.ws.set place.toNat (wordL l) }) :: fr))))) _ ?_ ?_ H) ?_))
  · intro hv w H
    replace H := Js [0] 4 H
    exact .inl ⟨hv, rfl, H⟩
  · intro k e hv w H
    obtain ⟨n, rfl, rfl, hk, hh⟩ := valid_at hv
    obtain ⟨q, mem, hw, hm, H⟩ := CELL_out H
    have hI := img_of hw hm hk
    have hT := fun (w : World) (fr : List HProp) (H : Holds w (IMG q.ip q.sp q.bp :: BOOK q.bp s.lays :: ST q.sp s.size mem s.own :: fr)) => iTie_spec q.ip q.sp q.bp s.size s.lays mem s.own e.addr e.lay e.count k e.ws.length (layE s e) hI place l hl H
    rw [hkv] at hT
    refine calls_of Tryz.func264 rfl (by kernel_rfl) ?_
    refine J10 H ?_
    clear H; intro b4 w H
    refine J0 H ?_
    replace H := Js [2,2,2,0,0,0,0,0,0,0,0,0,0,0,0,0] 0 H
    refine J1 H ?_
    clear H; intro w H
    refine A_load1 0 [8] H rfl (Wants.none rfl) rfl rfl (by kernel_rfl) ?_
    refine J166 H ?_
    refine J167 H ?_
    refine J47 H ?_
    refine A_load1 5 [8] H rfl (Wants.none rfl) rfl rfl (by kernel_rfl) ?_
    refine A_load1 6 [8] H rfl (Wants.none rfl) rfl rfl (by kernel_rfl) ?_
    refine A_loadN 7 [8] H rfl (Wants.none rfl) rfl (by repeat (first | exact Reads.nil _ | apply Reads.cons rfl)) (by kernel_rfl) ?_
    refine Jo 8 H ?_
    refine Jk rfl rfl (hT _ _ H) ?_
    clear H; rintro v w ⟨rfl, H⟩
    refine J123 H ?_
    by_cases h0 : placeE (layE s e) e.ws.length place true = 0
    · obtain ⟨y, rfl, hy, hr⟩ := placeE_ok h0
      rw [if_pos h0] at H
      rw [h0]
      have hwl : wordL l < 18446744073709551616 := wordL_lt hl
      have hw' := WF_setE (e' := { e with ws := e.ws.set y (wordL l) }) hw hk ⟨rfl, rfl, rfl, rfl, by show (e.ws.set y (wordL l)).length = _; simp⟩ (ObjOK_word (hw.obj _ _ _ hk).1 (lay_of hw hk) hwl (fun _ => ⟨l, hl, rfl⟩))
      have hm' := MemOK_word hw hm hk hy (x := wordL l)
      replace H := Js [5,4,0,0,0,1,1,1,1,1,1,4,3,2,1] 1 H
      replace H := TAB_ghost (e' := { e with ws := e.ws.set y (wordL l) }) hk rfl H
      replace H := Js [1,1,1,1,0,0,0,0,0,0,0,0,0,0,0] 0 H
      replace H := CELL_in hw' hm' H
      replace H := Js [1,1,1,1,0] 0 H
      exact C_ret (Jy H rfl fun w' H' => .inr ⟨k, n, e, hv, rfl, rfl, hk, .inr ⟨h0, rfl, H'⟩⟩)
    · rw [if_neg h0] at H
      replace H := Js [4,0,0,0,1,1,1,1,1,1,1] 5 H
      replace H := CELL_in hw hm H
      exact C_ret (Jy H rfl fun w' H' => .inr ⟨k, n, e, hv, rfl, rfl, hk, .inl ⟨h0, rfl, H'⟩⟩)
  · clear H
    rintro v w (⟨hv, rfl, H⟩ | ⟨k, n, e, hv, rfl, rfl, hk, (⟨h0, rfl, H⟩ | ⟨h0, rfl, H⟩)⟩)
    · rw [tieS_none hv]
      refine J50 H ?_
      refine J5 H ?_
      exact C_ret (Jy H rfl fun w' H' => ⟨rfl, H'⟩)
    · rw [tieS_some hv, if_neg h0]
      refine J24 H ?_
      rw [show (((placeE (layE s e) e.ws.length place true : Nat) : Int) == 0) = false by simpa using h0]
      refine J8 H ?_
      refine J5 H ?_
      exact C_ret (Jy H rfl fun w' H' => ⟨rfl, H'⟩)
    · rw [tieS_some hv, if_pos h0, Int.toNat_natCast]
      have hN := fun (w : World) (fr : List HProp) (H : Holds w (CELL p (setE s k n { e with ws := e.ws.set place.toNat (wordL l) }) :: fr)) => noteN_spec p (setE s k n { e with ws := e.ws.set place.toNat (wordL l) }) k n { e with ws := e.ws.set place.toNat (wordL l) } (by show (s.tab.set k _)[k]? = _; simp [(List.getElem?_eq_some_iff.1 hk).1]) place l H
      rw [hkv] at hN
      refine J24 H ?_
      refine J14 H ?_
      refine C_join (fun ms σ w => ms = [] ∧ σ 9 = .int .i64 0 ∧ Holds w (CELL p { setE s k n { e with ws := e.ws.set place.toNat (wordL l) } with rem := noteR (setE s k n { e with ws := e.ws.set place.toNat (wordL l) }) k { e with ws := e.ws.set place.toNat (wordL l) } place l } :: fr)) ?_ ?_
      · refine C_true rfl ?_
        refine J43 H ?_
        refine J38 H ?_
        refine J95 H ?_
        refine J44 H ?_
        replace H := Js [4,0,0,0,0] 0 H
        refine Jc rfl rfl (hN _ _ H) ?_
        clear H; intro v w H
        refine Lp_nil ?_
        replace H := Js [0] 4 H
        exact ⟨rfl, rfl, rfl, H⟩
      · clear H
        rintro ms σ w ⟨rfl, g9, H⟩
        rw [upd_self g9]
        refine J5 H ?_
        exact C_ret (Jy H rfl fun w' H' => ⟨rfl, H'⟩)

/-- What Tie leaves, and answers. -/
def TieS (s : CS) (i g place u v : Int) : CS × Nat :=
  if (lookL s i g place).2 ≠ 0 then (s, (lookL s i g place).2)
  else if (validT s.tab u v).isNone then (s, 8) else tieS s i g place (.obj u.toNat v.toNat)

theorem okT_of {s : CS} (h : WF s) {k g : Nat} {e : Ent} (hk : s.tab[k]? = some ⟨g, some e⟩) : okT k g := by
  have h1 := (List.getElem?_eq_some_iff.1 hk).1
  have h2 := h.slots.2
  have h3 := h.gen _ _ hk
  exact ⟨by omega, h3.2 rfl, h3.1⟩

theorem CTie_spec [Extra] (p : Nat) (s : CS) (i g place u v : Int) {w : World} {fr : List HProp} (H : Holds w (CELL p s :: fr)) :
    Calls Tryz.prog 107 #[pp p, tkI2 i g, .int .i64 place, tkI2 u v] w (ret fun x w' => x = .int .i64 ((TieS s i g place u v).2 : Nat) ∧ Holds w' (CELL p (TieS s i g place u v).1 :: fr)) := by
  obtain ⟨a1, a2, a3, hkv⟩ := lkv_agg (lookL s i g place).1
  refine calls_of Tryz.func107 rfl (by kernel_rfl) ?_
  refine J10 H ?_
  clear H; intro b5 w H
  refine Lp_s rfl (St_boxN H rfl rfl ?_)
  clear H; intro b7 w H
  refine J124 H ?_
  refine J6 H ?_
  replace H := Js [2,0,0] 0 H
  refine Jc rfl rfl (Look_spec p s i g place H) ?_
  clear H; rintro v w ⟨rfl, H⟩
  rw [hkv]
  refine J19 H ?_
  clear H; intro b9 w H
  refine J7 H ?_
  clear H; intro w H
  refine J24 H ?_
  by_cases h0 : (lookL s i g place).2 = 0
  · have hT : TieS s i g place u v = if (validT s.tab u v).isNone then (s, 8) else tieS s i g place (.obj u.toNat v.toNat) := by unfold TieS; rw [if_neg (by simpa using h0)]
    rw [hT, h0]
    refine J8 H ?_
    refine J75 H ?_
    replace H := Js [1,0,0,0] 0 H
    refine Jc rfl rfl (valid_spec p s u v H) ?_
    clear H; rintro v w ⟨rfl, H⟩
    cases hv : validT s.tab u v with
    | none =>
      refine J19 H ?_
      clear H; intro b11 w H
      refine J7 H ?_
      clear H; intro w H
      refine J24 H ?_
      refine J31 H ?_
      replace H := Js [1] 4 H
      exact C_ret (Jy H rfl fun w' H' => ⟨rfl, H'⟩)
    | some x =>
      obtain ⟨k, f⟩ := x
      obtain ⟨n, rfl, rfl, hk, hh⟩ := valid_at hv
      have hok : okT k n := by
        obtain ⟨q, mem, hw, hm, _⟩ := CELL_out (H.pull 0)
        exact okT_of hw hk
      refine J19 H ?_
      clear H; intro b11 w H
      refine J7 H ?_
      clear H; intro w H
      refine J156 H ?_
      refine J6 H ?_
      refine J44 H ?_
      refine J46 H ?_
      replace H := Js [1,0,0,0,0] 0 H
      refine Jc rfl rfl (tie_spec p s i g place (.obj k n) hok H) ?_
      clear H; rintro v w ⟨rfl, H⟩
      refine J0 H ?_
      replace H := Js [0] 4 H
      exact C_ret (Jy H rfl fun w' H' => ⟨rfl, H'⟩)
  · have hT : TieS s i g place u v = (s, (lookL s i g place).2) := by unfold TieS; rw [if_pos h0]
    rw [hT]
    rw [show ((((lookL s i g place).2 : Nat) : Int) != 0) = true by simpa using h0]
    refine J31 H ?_
    replace H := Js [1] 3 H
    exact C_ret (Jy H rfl fun w' H' => ⟨rfl, H'⟩)

end Go.Proofs.YtipelpbkeiphmaaGreatDoor
namespace Go.Proofs.YtipelpbkeiphmaaGreatDoor
open Go.SL

end Go.Proofs.YtipelpbkeiphmaaGreatDoor
