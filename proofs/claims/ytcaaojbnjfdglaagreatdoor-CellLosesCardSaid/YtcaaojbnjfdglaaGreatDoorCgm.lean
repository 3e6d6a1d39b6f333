/- Cells: what is proved on the way: every input of the statement; no condition. Texts joined: TabB TabC TabD CelA CelB CelC CelD. -/
import Derived.Test.YtcaaojbnjfdglaaGreatDoorCgf
import Derived.Test.YtcaaojbnjfdglaaGreatDoorCgl
import Derived.Test.YtcaaojbnjfdglaaGreatDoorCgk
set_option linter.unusedVariables false
set_option linter.unusedSimpArgs false
set_option linter.unusedSectionVars false
namespace Go.Proofs.YtcaaojbnjfdglaaGreatDoor
open Go.SL

@[reducible] def tkI2 (i g : Int) : Value := .agg #[.int .i64 i, .int .i64 g]

theorem lookT_none {ts : List Slt} {i g : Int} (h : lookT ts i g = none) : i < 0 ∨ (ts.length : Int) ≤ i ∨ ∃ (k : Nat) (t : Slt), i = k ∧ ts[k]? = some t ∧ (t.ent = none ∨ (t.ent.isSome = true ∧ (t.gen : Int) ≠ g)) := by
  by_cases h0 : i < 0
  · exact .inl h0
  by_cases h1 : (ts.length : Int) ≤ i
  · exact .inr (.inl h1)
  refine .inr (.inr ?_)
  obtain ⟨k, rfl⟩ : ∃ k : Nat, i = k := ⟨i.toNat, by omega⟩
  have hk := List.getElem?_eq_getElem (l := ts) (i := k) (by omega)
  generalize ts[k]'(by omega) = t at hk
  refine ⟨k, t, rfl, hk, ?_⟩
  obtain ⟨n, e⟩ := t
  cases e with
  | none => exact .inl rfl
  | some e =>
    refine .inr ⟨rfl, fun hg => ?_⟩
    rw [(lookT_some (k := k) (e := e)).2 ⟨n, rfl, hg.symm, hk⟩] at h
    cases h

theorem find_open [Extra] (p b c u : Nat) (go : Value) (hgo : go.oneCell' = true) (ts : List Slt) (s : List Value) (hlen : ts.length ≤ 63) (i g : Int) {w : World} {fr : List HProp} (H : Holds w (pts p (row 183 [.slice (some ⟨b, 0, none⟩) ts.length c, pp u, go]) :: pts b (row 193 (ts.flatMap tval ++ s)) :: fr)) :
    Calls Tryz.prog 112 #[pp p, tkI2 i g] w (ret fun v w' => v = (match lookT ts i g with | some (k, _) => .tuple #[.pointer (some ⟨b, k * 6, none⟩), .int .i64 0] | none => .tuple #[.pointer none, .int .i64 8]) ∧
      Holds w' (pts p (row 183 [.slice (some ⟨b, 0, none⟩) ts.length c, pp u, go]) :: pts b (row 193 (ts.flatMap tval ++ s)) :: fr)) := by
  refine calls_of Tryz.func112 rfl (by kernel_rfl) ?_
  refine J5 H ?_
  clear H; intro b3 w H
  refine J219 H ?_
  cases hL : lookT ts i g with
  | some q =>
    obtain ⟨k, e⟩ := q
    obtain ⟨n, rfl, rfl, hk⟩ := lookT_some.1 hL
    have hkl : k < ts.length := (List.getElem?_eq_some_iff.1 hk).1
    have c1 : (ts.flatMap tval ++ s)[k * 6 + 1]? = some (.bool true) := flat_get tval_len hk rfl
    have c0 : (ts.flatMap tval ++ s)[k * 6 + 0]? = some (.int .i64 n) := flat_get tval_len hk rfl
    have ei : 0 + ((k : Nat) : Int).toNat * 6 = k * 6 := by simp
    refine J1 H ?_
    clear H; intro w H
    refine J102 H ?_
    rw [show decide ((k : Int) < 0) = false from decide_eq_false (by omega)]
    refine J60 H ?_
    refine A_fieldAddr 4 rfl (Wants.of rfl rfl rfl) rfl (by kernel_rfl) ?_
    refine J265 H ?_
    refine J173 H ?_
    refine A_pv 7 rfl (Wants.of rfl rfl rfl) rfl (by kernel_rfl) ?_
    refine A_fieldAddr 8 rfl (Wants.of rfl rfl rfl) rfl (by kernel_rfl) ?_
    refine J266 H ?_
    refine A_lenSlice 10 rfl (Wants.of rfl rfl rfl) rfl (by kernel_rfl) ?_
    refine J174 H ?_
    rw [show decide ((k : Int) ≥ (ts.length : Int)) = false from decide_eq_false (by omega)]
    refine J99 H ?_
    refine J175 H ?_
    refine J176 H ?_
    refine A_fieldAddr 16 rfl (Wants.of rfl rfl rfl) rfl (by kernel_rfl) ?_
    refine A_load1 17 [] H rfl (Wants.of rfl rfl rfl) rfl rfl (by kernel_rfl) ?_
    refine J239 H ?_
    refine J267 H ?_
    refine A_indexAddr 20 rfl (Wants.of rfl rfl rfl) rfl rfl (by omega) (by omega) (by kernel_rfl) ?_
    rw [ei]
    refine A_fieldAddr 21 rfl (Wants.of rfl rfl rfl) rfl (by kernel_rfl) ?_
    refine A_load1 22 [] H rfl (Wants.of rfl rfl rfl) rfl c1 (by kernel_rfl) ?_
    refine J240 H ?_
    refine J115 H ?_
    refine J241 H ?_
    refine A_pv 27 rfl (Wants.of rfl rfl rfl) rfl (by kernel_rfl) ?_
    refine A_fieldAddr 28 rfl (Wants.of rfl rfl rfl) rfl (by kernel_rfl) ?_
    refine J268 H ?_
    refine A_fieldAddr 30 rfl (Wants.of rfl rfl rfl) rfl (by kernel_rfl) ?_
    refine A_load1 31 [] H rfl (Wants.of rfl rfl rfl) rfl rfl (by kernel_rfl) ?_
    refine A_indexAddr 32 rfl (Wants.of rfl rfl rfl) rfl rfl (by omega) (by omega) (by kernel_rfl) ?_
    rw [ei]
    refine J242 H ?_
    refine A_load1 34 [] H rfl (Wants.of rfl rfl rfl) rfl c0 (by kernel_rfl) ?_
    refine A_fieldAddr 35 rfl (Wants.of rfl rfl rfl) rfl (by kernel_rfl) ?_
    refine A_load1 36 [] H rfl (Wants.of rfl rfl rfl) rfl rfl (by kernel_rfl) ?_
    refine A_pv 37 rfl (Wants.of rfl rfl rfl) rfl (by kernel_rfl) ?_
    rw [show (((n : Nat) : Int) != (n : Int)) = false by simp]
    refine A_pv 38 rfl (Wants.none rfl) rfl (by kernel_rfl) ?_
    refine A_end (by kernel_rfl) (by repeat first | exact .nil | refine .cons (.inr H.at) ?_ | refine .cons (.inr H.mp) ?_ | refine .cons (.inl (by kernel_rfl)) ?_) ?_
    refine J218 H ?_
    clear H; intro w H
    refine J164 H ?_
    refine J32 H ?_
    refine A_load1 5 [] H rfl (Wants.none rfl) rfl rfl (by kernel_rfl) ?_
    refine A_indexAddr 6 rfl (Wants.none rfl) rfl rfl (by omega) (by omega) (by kernel_rfl) ?_
    rw [ei]
    refine J58 H ?_
    refine J134 H ?_
    exact C_ret (Jy H.drop rfl fun w' H' => ⟨rfl, H'⟩)
  | none =>
    rcases lookT_none hL with h0 | h1 | ⟨k, t, rfl, hk, ht⟩
    · refine J1 H ?_
      clear H; intro w H
      refine J102 H ?_
      rw [show decide (i < 0) = true from decide_eq_true (by omega)]
      refine J60 H ?_
      refine A_no 4 rfl (Wants.of rfl rfl rfl) (fun c e => by cases e) (by kernel_rfl) ?_
      refine A_no 5 rfl (Wants.of rfl rfl rfl) (fun c e => by cases e) (by kernel_rfl) ?_
      refine A_no 6 rfl (Wants.of rfl rfl rfl) (fun c e => by cases e) (by kernel_rfl) ?_
      refine A_no 7 rfl (Wants.of rfl rfl rfl) (fun c e => by cases e) (by kernel_rfl) ?_
      refine A_no 8 rfl (Wants.of rfl rfl rfl) (fun c e => by cases e) (by kernel_rfl) ?_
      refine A_no 9 rfl (Wants.of rfl rfl rfl) (fun c e => by cases e) (by kernel_rfl) ?_
      refine A_no 10 rfl (Wants.of rfl rfl rfl) (fun c e => by cases e) (by kernel_rfl) ?_
      refine A_no 11 rfl (Wants.of rfl rfl rfl) (fun c e => by cases e) (by kernel_rfl) ?_
      refine J99 H ?_
      refine A_no 14 rfl (Wants.of rfl rfl rfl) (fun c e => by cases e) (by kernel_rfl) ?_
      refine A_no 15 rfl (Wants.of rfl rfl rfl) (fun c e => by cases e) (by kernel_rfl) ?_
      refine A_no 16 rfl (Wants.of rfl rfl rfl) (fun c e => by cases e) (by kernel_rfl) ?_
      refine A_no 17 rfl (Wants.of rfl rfl rfl) (fun c e => by cases e) (by kernel_rfl) ?_
      refine A_no 18 rfl (Wants.of rfl rfl rfl) (fun c e => by cases e) (by kernel_rfl) ?_
      refine A_no 19 rfl (Wants.of rfl rfl rfl) (fun c e => by cases e) (by kernel_rfl) ?_
      refine A_no 20 rfl (Wants.of rfl rfl rfl) (fun c e => by cases e) (by kernel_rfl) ?_
      refine A_no 21 rfl (Wants.of rfl rfl rfl) (fun c e => by cases e) (by kernel_rfl) ?_
      refine A_no 22 rfl (Wants.of rfl rfl rfl) (fun c e => by cases e) (by kernel_rfl) ?_
      refine A_no 23 rfl (Wants.of rfl rfl rfl) (fun c e => by cases e) (by kernel_rfl) ?_
      refine J115 H ?_
      refine A_no 26 rfl (Wants.of rfl rfl rfl) (fun c e => by cases e) (by kernel_rfl) ?_
      refine A_no 27 rfl (Wants.of rfl rfl rfl) (fun c e => by cases e) (by kernel_rfl) ?_
      refine A_no 28 rfl (Wants.of rfl rfl rfl) (fun c e => by cases e) (by kernel_rfl) ?_
      refine A_no 29 rfl (Wants.of rfl rfl rfl) (fun c e => by cases e) (by kernel_rfl) ?_
      refine A_no 30 rfl (Wants.of rfl rfl rfl) (fun c e => by cases e) (by kernel_rfl) ?_
      refine A_no 31 rfl (Wants.of rfl rfl rfl) (fun c e => by cases e) (by kernel_rfl) ?_
      refine A_no 32 rfl (Wants.of rfl rfl rfl) (fun c e => by cases e) (by kernel_rfl) ?_
      refine A_no 33 rfl (Wants.of rfl rfl rfl) (fun c e => by cases e) (by kernel_rfl) ?_
      refine A_no 34 rfl (Wants.of rfl rfl rfl) (fun c e => by cases e) (by kernel_rfl) ?_
      refine A_no 35 rfl (Wants.of rfl rfl rfl) (fun c e => by cases e) (by kernel_rfl) ?_
      refine A_no 36 rfl (Wants.of rfl rfl rfl) (fun c e => by cases e) (by kernel_rfl) ?_
      refine A_no 37 rfl (Wants.of rfl rfl rfl) (fun c e => by cases e) (by kernel_rfl) ?_
      refine J177 H ?_
      exact C_ret (Jy H.drop rfl fun w' H' => ⟨rfl, H'⟩)
    · by_cases h0 : i < 0
      · refine J1 H ?_
        clear H; intro w H
        refine J102 H ?_
        rw [show decide (i < 0) = true from decide_eq_true (by omega)]
        refine J60 H ?_
        refine A_no 4 rfl (Wants.of rfl rfl rfl) (fun c e => by cases e) (by kernel_rfl) ?_
        refine A_no 5 rfl (Wants.of rfl rfl rfl) (fun c e => by cases e) (by kernel_rfl) ?_
        refine A_no 6 rfl (Wants.of rfl rfl rfl) (fun c e => by cases e) (by kernel_rfl) ?_
        refine A_no 7 rfl (Wants.of rfl rfl rfl) (fun c e => by cases e) (by kernel_rfl) ?_
        refine A_no 8 rfl (Wants.of rfl rfl rfl) (fun c e => by cases e) (by kernel_rfl) ?_
        refine A_no 9 rfl (Wants.of rfl rfl rfl) (fun c e => by cases e) (by kernel_rfl) ?_
        refine A_no 10 rfl (Wants.of rfl rfl rfl) (fun c e => by cases e) (by kernel_rfl) ?_
        refine A_no 11 rfl (Wants.of rfl rfl rfl) (fun c e => by cases e) (by kernel_rfl) ?_
        refine J99 H ?_
        refine A_no 14 rfl (Wants.of rfl rfl rfl) (fun c e => by cases e) (by kernel_rfl) ?_
        refine A_no 15 rfl (Wants.of rfl rfl rfl) (fun c e => by cases e) (by kernel_rfl) ?_
        refine A_no 16 rfl (Wants.of rfl rfl rfl) (fun c e => by cases e) (by kernel_rfl) ?_
        refine A_no 17 rfl (Wants.of rfl rfl rfl) (fun c e => by cases e) (by kernel_rfl) ?_
        refine A_no 18 rfl (Wants.of rfl rfl rfl) (fun c e => by cases e) (by kernel_rfl) ?_
        refine A_no 19 rfl (Wants.of rfl rfl rfl) (fun c e => by cases e) (by kernel_rfl) ?_
        refine A_no 20 rfl (Wants.of rfl rfl rfl) (fun c e => by cases e) (by kernel_rfl) ?_
        refine A_no 21 rfl (Wants.of rfl rfl rfl) (fun c e => by cases e) (by kernel_rfl) ?_
        refine A_no 22 rfl (Wants.of rfl rfl rfl) (fun c e => by cases e) (by kernel_rfl) ?_
        refine A_no 23 rfl (Wants.of rfl rfl rfl) (fun c e => by cases e) (by kernel_rfl) ?_
        refine J115 H ?_
        refine A_no 26 rfl (Wants.of rfl rfl rfl) (fun c e => by cases e) (by kernel_rfl) ?_
        refine A_no 27 rfl (Wants.of rfl rfl rfl) (fun c e => by cases e) (by kernel_rfl) ?_
        refine A_no 28 rfl (Wants.of rfl rfl rfl) (fun c e => by cases e) (by kernel_rfl) ?_
        refine A_no 29 rfl (Wants.of rfl rfl rfl) (fun c e => by cases e) (by kernel_rfl) ?_
        refine A_no 30 rfl (Wants.of rfl rfl rfl) (fun c e => by cases e) (by kernel_rfl) ?_
        refine A_no 31 rfl (Wants.of rfl rfl rfl) (fun c e => by cases e) (by kernel_rfl) ?_
        refine A_no 32 rfl (Wants.of rfl rfl rfl) (fun c e => by cases e) (by kernel_rfl) ?_
        refine A_no 33 rfl (Wants.of rfl rfl rfl) (fun c e => by cases e) (by kernel_rfl) ?_
        refine A_no 34 rfl (Wants.of rfl rfl rfl) (fun c e => by cases e) (by kernel_rfl) ?_
        refine A_no 35 rfl (Wants.of rfl rfl rfl) (fun c e => by cases e) (by kernel_rfl) ?_
        refine A_no 36 rfl (Wants.of rfl rfl rfl) (fun c e => by cases e) (by kernel_rfl) ?_
        refine A_no 37 rfl (Wants.of rfl rfl rfl) (fun c e => by cases e) (by kernel_rfl) ?_
        refine J177 H ?_
        exact C_ret (Jy H.drop rfl fun w' H' => ⟨rfl, H'⟩)
      · refine J1 H ?_
        clear H; intro w H
        refine J102 H ?_
        rw [show decide (i < 0) = false from decide_eq_false (by omega)]
        refine J60 H ?_
        refine A_fieldAddr 4 rfl (Wants.of rfl rfl rfl) rfl (by kernel_rfl) ?_
        refine J265 H ?_
        refine J173 H ?_
        refine A_pv 7 rfl (Wants.of rfl rfl rfl) rfl (by kernel_rfl) ?_
        refine A_fieldAddr 8 rfl (Wants.of rfl rfl rfl) rfl (by kernel_rfl) ?_
        refine J266 H ?_
        refine A_lenSlice 10 rfl (Wants.of rfl rfl rfl) rfl (by kernel_rfl) ?_
        refine J174 H ?_
        rw [show decide (i ≥ (ts.length : Int)) = true from decide_eq_true (by omega)]
        refine J99 H ?_
        refine A_no 14 rfl (Wants.of rfl rfl rfl) (fun c e => by cases e) (by kernel_rfl) ?_
        refine A_no 15 rfl (Wants.of rfl rfl rfl) (fun c e => by cases e) (by kernel_rfl) ?_
        refine A_no 16 rfl (Wants.of rfl rfl rfl) (fun c e => by cases e) (by kernel_rfl) ?_
        refine A_no 17 rfl (Wants.of rfl rfl rfl) (fun c e => by cases e) (by kernel_rfl) ?_
        refine A_no 18 rfl (Wants.of rfl rfl rfl) (fun c e => by cases e) (by kernel_rfl) ?_
        refine A_no 19 rfl (Wants.of rfl rfl rfl) (fun c e => by cases e) (by kernel_rfl) ?_
        refine A_no 20 rfl (Wants.of rfl rfl rfl) (fun c e => by cases e) (by kernel_rfl) ?_
        refine A_no 21 rfl (Wants.of rfl rfl rfl) (fun c e => by cases e) (by kernel_rfl) ?_
        refine A_no 22 rfl (Wants.of rfl rfl rfl) (fun c e => by cases e) (by kernel_rfl) ?_
        refine A_no 23 rfl (Wants.of rfl rfl rfl) (fun c e => by cases e) (by kernel_rfl) ?_
        refine J115 H ?_
        refine A_no 26 rfl (Wants.of rfl rfl rfl) (fun c e => by cases e) (by kernel_rfl) ?_
        refine A_no 27 rfl (Wants.of rfl rfl rfl) (fun c e => by cases e) (by kernel_rfl) ?_
        refine A_no 28 rfl (Wants.of rfl rfl rfl) (fun c e => by cases e) (by kernel_rfl) ?_
        refine A_no 29 rfl (Wants.of rfl rfl rfl) (fun c e => by cases e) (by kernel_rfl) ?_
        refine A_no 30 rfl (Wants.of rfl rfl rfl) (fun c e => by cases e) (by kernel_rfl) ?_
        refine A_no 31 rfl (Wants.of rfl rfl rfl) (fun c e => by cases e) (by kernel_rfl) ?_
        refine A_no 32 rfl (Wants.of rfl rfl rfl) (fun c e => by cases e) (by kernel_rfl) ?_
        refine A_no 33 rfl (Wants.of rfl rfl rfl) (fun c e => by cases e) (by kernel_rfl) ?_
        refine A_no 34 rfl (Wants.of rfl rfl rfl) (fun c e => by cases e) (by kernel_rfl) ?_
        refine A_no 35 rfl (Wants.of rfl rfl rfl) (fun c e => by cases e) (by kernel_rfl) ?_
        refine A_no 36 rfl (Wants.of rfl rfl rfl) (fun c e => by cases e) (by kernel_rfl) ?_
        refine A_no 37 rfl (Wants.of rfl rfl rfl) (fun c e => by cases e) (by kernel_rfl) ?_
        refine J177 H ?_
        exact C_ret (Jy H.drop rfl fun w' H' => ⟨rfl, H'⟩)
    · have hkl : k < ts.length := (List.getElem?_eq_some_iff.1 hk).1
      have c1 : (ts.flatMap tval ++ s)[k * 6 + 1]? = some (.bool t.ent.isSome) := flat_get tval_len hk (tval_used t)
      have c0 : (ts.flatMap tval ++ s)[k * 6 + 0]? = some (.int .i64 t.gen) := flat_get tval_len hk (tval_gen t)
      have ei : 0 + ((k : Nat) : Int).toNat * 6 = k * 6 := by simp
      refine J1 H ?_
      clear H; intro w H
      refine J102 H ?_
      rw [show decide ((k : Int) < 0) = false from decide_eq_false (by omega)]
      refine J60 H ?_
      refine A_fieldAddr 4 rfl (Wants.of rfl rfl rfl) rfl (by kernel_rfl) ?_
      refine J265 H ?_
      refine J173 H ?_
      refine A_pv 7 rfl (Wants.of rfl rfl rfl) rfl (by kernel_rfl) ?_
      refine A_fieldAddr 8 rfl (Wants.of rfl rfl rfl) rfl (by kernel_rfl) ?_
      refine J266 H ?_
      refine A_lenSlice 10 rfl (Wants.of rfl rfl rfl) rfl (by kernel_rfl) ?_
      refine J174 H ?_
      rw [show decide ((k : Int) ≥ (ts.length : Int)) = false from decide_eq_false (by omega)]
      refine J99 H ?_
      refine J175 H ?_
      refine J176 H ?_
      refine A_fieldAddr 16 rfl (Wants.of rfl rfl rfl) rfl (by kernel_rfl) ?_
      refine A_load1 17 [] H rfl (Wants.of rfl rfl rfl) rfl rfl (by kernel_rfl) ?_
      refine J239 H ?_
      refine J267 H ?_
      refine A_indexAddr 20 rfl (Wants.of rfl rfl rfl) rfl rfl (by omega) (by omega) (by kernel_rfl) ?_
      rw [ei]
      refine A_fieldAddr 21 rfl (Wants.of rfl rfl rfl) rfl (by kernel_rfl) ?_
      refine A_load1 22 [] H rfl (Wants.of rfl rfl rfl) rfl c1 (by kernel_rfl) ?_
      rcases ht with ht | ⟨ht, hne⟩
      · rw [ht]
        refine J240 H ?_
        refine J115 H ?_
        refine A_no 26 rfl (Wants.of rfl rfl rfl) (fun c e => by cases e) (by kernel_rfl) ?_
        refine A_no 27 rfl (Wants.of rfl rfl rfl) (fun c e => by cases e) (by kernel_rfl) ?_
        refine A_no 28 rfl (Wants.of rfl rfl rfl) (fun c e => by cases e) (by kernel_rfl) ?_
        refine A_no 29 rfl (Wants.of rfl rfl rfl) (fun c e => by cases e) (by kernel_rfl) ?_
        refine A_no 30 rfl (Wants.of rfl rfl rfl) (fun c e => by cases e) (by kernel_rfl) ?_
        refine A_no 31 rfl (Wants.of rfl rfl rfl) (fun c e => by cases e) (by kernel_rfl) ?_
        refine A_no 32 rfl (Wants.of rfl rfl rfl) (fun c e => by cases e) (by kernel_rfl) ?_
        refine A_no 33 rfl (Wants.of rfl rfl rfl) (fun c e => by cases e) (by kernel_rfl) ?_
        refine A_no 34 rfl (Wants.of rfl rfl rfl) (fun c e => by cases e) (by kernel_rfl) ?_
        refine A_no 35 rfl (Wants.of rfl rfl rfl) (fun c e => by cases e) (by kernel_rfl) ?_
        refine A_no 36 rfl (Wants.of rfl rfl rfl) (fun c e => by cases e) (by kernel_rfl) ?_
        refine A_no 37 rfl (Wants.of rfl rfl rfl) (fun c e => by cases e) (by kernel_rfl) ?_
        refine J177 H ?_
        exact C_ret (Jy H.drop rfl fun w' H' => ⟨rfl, H'⟩)
      · rw [ht]
        refine J240 H ?_
        refine J115 H ?_
        refine J241 H ?_
        refine A_pv 27 rfl (Wants.of rfl rfl rfl) rfl (by kernel_rfl) ?_
        refine A_fieldAddr 28 rfl (Wants.of rfl rfl rfl) rfl (by kernel_rfl) ?_
        refine J268 H ?_
        refine A_fieldAddr 30 rfl (Wants.of rfl rfl rfl) rfl (by kernel_rfl) ?_
        refine A_load1 31 [] H rfl (Wants.of rfl rfl rfl) rfl rfl (by kernel_rfl) ?_
        refine A_indexAddr 32 rfl (Wants.of rfl rfl rfl) rfl rfl (by omega) (by omega) (by kernel_rfl) ?_
        rw [ei]
        refine J242 H ?_
        refine A_load1 34 [] H rfl (Wants.of rfl rfl rfl) rfl c0 (by kernel_rfl) ?_
        refine A_fieldAddr 35 rfl (Wants.of rfl rfl rfl) rfl (by kernel_rfl) ?_
        refine A_load1 36 [] H rfl (Wants.of rfl rfl rfl) rfl rfl (by kernel_rfl) ?_
        refine A_pv 37 rfl (Wants.of rfl rfl rfl) rfl (by kernel_rfl) ?_
        rw [show (((t.gen : Nat) : Int) != g) = true by simpa using hne]
        refine J177 H ?_
        exact C_ret (Jy H.drop rfl fun w' H' => ⟨rfl, H'⟩)
end Go.Proofs.YtcaaojbnjfdglaaGreatDoor
namespace Go.Proofs.YtcaaojbnjfdglaaGreatDoor
open Go.SL

theorem goneT_set {ts : List Slt} {k : Nat} {t t' : Slt} (hk : ts[k]? = some t) (hb : (t'.ent.isNone && t'.gen == 255) = (t.ent.isNone && t.gen == 255)) : goneT (ts.set k t') = goneT ts := by
  unfold goneT
  rw [set_split hk]
  conv => rhs; rw [split_at hk]
  rw [List.filter_append, List.filter_append, List.filter_cons, List.filter_cons, hb]
  split <;> simp
theorem TabOk.set {ts : List Slt} {x k : Nat} {t t' : Slt} (h : TabOk ts x) (hk : ts[k]? = some t) (hb : busy t' = busy t) (hg : t'.gen ≤ 255) : TabOk (ts.set k t') x := by
  refine ⟨by rw [List.length_set]; exact h.bits, fun i u hu => ?_, fun i u hu => ?_⟩
  · rcases tab_set hu with ⟨rfl, rfl, _⟩ | ⟨_, hu⟩
    · rw [hb]; exact h.bit _ _ hk
    · exact h.bit _ _ hu
  · rcases tab_set hu with ⟨rfl, rfl, _⟩ | ⟨_, hu⟩
    · exact hg
    · exact h.gen _ _ hu

theorem tGet_spec [Extra] (p : Nat) (ts : List Slt) (i g : Int) {w : World} {fr : List HProp} (H : Holds w (TAB p ts :: fr)) :
    Calls Tryz.prog 44 #[pp p, tkI2 i g] w (ret fun v w' => v = (match lookT ts i g with | some (_, e) => .tuple #[.agg (evl e).toArray, .int .i64 0] | none => .tuple #[.agg #[.int .i64 0, .int .i64 0, .bool false, .bool false], .int .i64 8]) ∧ Holds w' (TAB p ts :: fr)) := by
  obtain ⟨b, c, s, u, x, hok, hc, H, hclose⟩ := TAB_out H
  refine calls_of Tryz.func44 rfl (by kernel_rfl) ?_
  refine J5 H ?_
  clear H; intro b3 w H
  refine J17 H ?_
  clear H; intro b4 w H
  refine J97 H ?_
  replace H := Js [2,2,0,0,0] 0 H
  refine Jc rfl rfl (find_open p b c u _ rfl ts s hok.bits.le i g H) ?_
  clear H; rintro v w ⟨rfl, H⟩
  cases hL : lookT ts i g with
  | some q =>
    obtain ⟨k, e⟩ := q
    obtain ⟨n, rfl, rfl, hk⟩ := lookT_some.1 hL
    have hrd : Reads (ts.flatMap tval ++ s) (k * 6 + 2) 4 (evl e) := flat_reads (vs := evl e) tval_len hk (by repeat (first | exact Reads.nil _ | apply Reads.cons rfl))
    refine J38 H ?_
    refine J6 H ?_
    refine J57 H ?_
    refine Lp_s rfl (St_loadN H rfl hrd rfl ?_)
    refine J7 H ?_
    clear H; intro w H
    refine J0 H ?_
    replace H := Js [2,0,0,1] 1 H
    exact C_ret (Jz H (fun w' H' => .cellN H' rfl (by repeat (first | exact Reads.nil _ | apply Reads.cons rfl)) (.tmp .nil)) fun w' H' => ⟨rfl, hclose _ _ ts x rfl rfl hok H'.drop⟩)
  | none =>
    refine J65 H ?_
    refine J243 H ?_
    clear H; intro w H
    refine J0 H ?_
    replace H := Js [2,0,0,1] 1 H
    exact C_ret (Jz H (fun w' H' => .cellN H' rfl (by repeat (first | exact Reads.nil _ | apply Reads.cons rfl)) (.tmp .nil)) fun w' H' => ⟨rfl, hclose _ _ ts x rfl rfl hok H'.drop⟩)

theorem tSet_spec [Extra] (p : Nat) (ts : List Slt) (i g : Int) (e' : Ent) {w : World} {fr : List HProp} (H : Holds w (TAB p ts :: fr)) :
    Calls Tryz.prog 60 #[pp p, tkI2 i g, .agg (evl e').toArray] w (ret fun v w' => (∃ k e, lookT ts i g = some (k, e) ∧ v = .int .i64 0 ∧ Holds w' (TAB p (ts.set k ⟨g.toNat, some e'⟩) :: fr)) ∨ (lookT ts i g = none ∧ v = .int .i64 8 ∧ Holds w' (TAB p ts :: fr))) := by
  obtain ⟨b, c, s, u, x, hok, hc, H, hclose⟩ := TAB_out H
  refine calls_of Tryz.func60 rfl (by kernel_rfl) ?_
  refine J5 H ?_
  clear H; intro b4 w H
  refine J54 H ?_
  clear H; intro b5 w H
  refine J97 H ?_
  replace H := Js [2,2,0,0,0] 0 H
  refine Jc rfl rfl (find_open p b c u _ rfl ts s hok.bits.le i g H) ?_
  clear H; rintro v w ⟨rfl, H⟩
  cases hL : lookT ts i g with
  | some q =>
    obtain ⟨k, e⟩ := q
    obtain ⟨n, rfl, rfl, hk⟩ := lookT_some.1 hL
    refine J65 H ?_
    refine J12 H ?_
    refine C_join (fun ms σ w => ms = [] ∧ σ 8 = .int .i64 0 ∧ Holds w (TAB p (ts.set k ⟨n, some e'⟩) :: fr)) ?_ ?_
    · refine C_true rfl ?_
      refine J244 H ?_
      refine J57 H ?_
      replace H := Js [1,0,0,0,0] 0 H
      have hlen := flat_len tval_len ts
      have hkl : k < ts.length := (List.getElem?_eq_some_iff.1 hk).1
      refine Lp_s rfl (St_storeN (vs := evl e') H rfl rfl inferInstance rfl rfl (by rw [List.length_append, hlen]; omega) rfl ?_)
      clear H; intro w H
      rw [flat_wr (x' := ⟨n, some e'⟩) tval_len hk (by simp) rfl] at H
      refine Lp_nil ?_
      replace H := Js [1,0,2] 2 H
      exact ⟨rfl, rfl, rfl, hclose _ _ (ts.set k ⟨n, some e'⟩) x (by simp) (goneT_set hk rfl) (hok.set hk rfl (by have := hok.gen _ _ hk; exact this)) H⟩
    · clear H
      rintro ms σ w ⟨rfl, g8, H⟩
      rw [upd_self g8]
      refine J3 H ?_
      exact C_ret (Jy H rfl fun w' H' => .inl ⟨k, e, rfl, rfl, H'⟩)
  | none =>
    refine J38 H ?_
    refine J3 H ?_
    replace H := Js [0,0,2] 2 H
    exact C_ret (Jy H rfl fun w' H' => .inr ⟨rfl, rfl, hclose _ _ ts x rfl rfl hok H'⟩)

theorem Used_spec [Extra] (p : Nat) (ts : List Slt) {w : World} {fr : List HProp} (H : Holds w (TAB p ts :: fr)) :
    Calls Tryz.prog 42 #[pp p] w (ret fun v w' => v = .int .i64 ((busyT ts - goneT ts : Nat) : Int) ∧ Holds w' (TAB p ts :: fr)) := by
  obtain ⟨b, c, s, u, x, hok, hc, H, hclose⟩ := TAB_out H
  have hb := hok.bits.le
  have hcnt := hok.cnt
  have hle := cntB_le ts.length x
  have hgb : goneT ts ≤ busyT ts := by
    unfold goneT busyT
    refine List.Sublist.length_le ?_
    have : ts.filter (fun t => t.ent.isNone && t.gen == 255) = (ts.filter busy).filter (fun t => t.ent.isNone && t.gen == 255) := by
      rw [List.filter_filter]
      apply List.filter_congr
      intro t _
      unfold busy
      cases t.ent <;> simp
    rw [this]
    exact List.filter_sublist
  refine calls_of Tryz.func42 rfl (by kernel_rfl) ?_
  refine J127 H ?_
  refine J1 H ?_
  clear H; intro w H
  refine J16 H ?_
  refine A_load1 3 [4] H rfl (Wants.none rfl) rfl rfl (by kernel_rfl) ?_
  refine J44 H ?_
  refine J129 H ?_
  refine A_load1 8 [] H rfl (Wants.none rfl) rfl rfl (by kernel_rfl) ?_
  replace H := Js [2,0,0] 0 H
  refine Jo 4 H ?_
  refine Jk rfl rfl (Count_spec u _ _ _ H) ?_
  clear H; rintro v w ⟨rfl, H⟩
  refine J40 H ?_
  refine J121 H ?_
  replace H := Js [1,1,0] 0 H
  refine C_ret (Jy (hclose _ _ ts x rfl rfl hok H) rfl fun w' H' => ⟨?_, H'⟩)
  show Value.int .i64 (IntKind.i64.wrap ((cntB ts.length x : Int) - (goneT ts : Int))) = _
  rw [wrap64 (by omega) (by omega), ← hcnt]
  congr 1
  omega
end Go.Proofs.YtcaaojbnjfdglaaGreatDoor
namespace Go.Proofs.YtcaaojbnjfdglaaGreatDoor
open Go.SL

theorem tAt_spec [Extra] (p : Nat) (ts : List Slt) (k n : Nat) (e : Ent) (hk : ts[k]? = some ⟨n, some e⟩) {w : World} {fr : List HProp} (H : Holds w (TAB p ts :: fr)) :
    Calls Tryz.prog 98 #[pp p, .int .i64 k] w (ret fun v w' => v = .tuple #[tkn k n, .bool true] ∧ Holds w' (TAB p ts :: fr)) := by
  obtain ⟨b, c, s, u, x, hok, hc, H, hclose⟩ := TAB_out H
  have hb := hok.bits.le
  have hkl : k < ts.length := (List.getElem?_eq_some_iff.1 hk).1
  have c1 : (ts.flatMap tval ++ s)[k * 6 + 1]? = some (.bool true) := flat_get tval_len hk rfl
  have c0 : (ts.flatMap tval ++ s)[k * 6 + 0]? = some (.int .i64 n) := flat_get tval_len hk rfl
  have ei : 0 + ((k : Nat) : Int).toNat * 6 = k * 6 := by simp
  refine calls_of Tryz.func98 rfl (by kernel_rfl) ?_
  refine J22 H ?_
  clear H; intro b4 w H
  refine J0 H ?_
  refine J264 H ?_
  refine J63 H ?_
  rw [show decide ((k : Int) < 0) = false from decide_eq_false (by omega)]
  refine J27 H ?_
  refine J36 H ?_
  refine J195 H ?_
  rw [show decide ((k : Int) ≥ (ts.length : Int)) = false from decide_eq_false (by omega)]
  refine J172 H ?_
  refine Lp_g rfl rfl rfl (St_indexAddr rfl rfl (by omega) (by omega) rfl ?_)
  rw [ei]
  refine Lp_g rfl rfl rfl (St_fieldAddr rfl rfl ?_)
  refine Lp_g rfl rfl rfl (St_load1 H rfl c1 rfl ?_)
  refine J81 H ?_
  refine J231 H ?_
  refine Lp_s rfl (St_indexAddr rfl rfl (by omega) (by omega) rfl ?_)
  rw [ei]
  refine J57 H ?_
  refine Lp_s rfl (St_load1 H rfl c0 rfl ?_)
  refine J45 H ?_
  refine J7 H ?_
  clear H; intro w H
  refine J0 H ?_
  exact C_ret (Jz H (fun w' H' => .cellN H' rfl (by repeat (first | exact Reads.nil _ | apply Reads.cons rfl)) (.tmp .nil)) fun w' H' => ⟨rfl, hclose _ _ ts x rfl rfl hok H'.drop⟩)

theorem tAdd_spec [Extra] (p : Nat) (ts : List Slt) (e : Ent) {w : World} {fr : List HProp} [hT : HasTab 0 Lib.deBruijn64tab fr] (H : Holds w (TAB p ts :: fr)) :
    Calls Tryz.prog 79 #[pp p, .agg (evl e).toArray] w (ret fun v w' => (∃ k n, ts[k]? = some ⟨n, none⟩ ∧ n ≤ 254 ∧ (∀ j t, j < k → ts[j]? = some t → busy t = true) ∧ v = .tuple #[tkn k (n + 1), .int .i64 0] ∧ Holds w' (TAB p (ts.set k ⟨n + 1, some e⟩) :: fr)) ∨
      ((∀ t ∈ ts, busy t = true) ∧ v = .tuple #[tkn 0 0, .int .i64 12] ∧ Holds w' (TAB p ts :: fr))) := by
  obtain ⟨b, c, s, u, x, hok, hc, H, hclose⟩ := TAB_out H
  have hb := hok.bits.le
  refine calls_of Tryz.func79 rfl (by kernel_rfl) ?_
  refine J5 H ?_
  clear H; intro b3 w H
  refine J17 H ?_
  clear H; intro b4 w H
  refine J167 H ?_
  refine J51 H ?_
  replace H := Js [4,0,0,0,0] 0 H
  refine Jc rfl rfl (First_spec u ts.length x 0 _ hok.bits (by omega) H) ?_
  clear H; rintro v w ⟨hF, H⟩
  rcases hF with ⟨k, rfl, _, hk, hoff, hall⟩ | ⟨rfl, hall⟩
  · have ht := List.getElem?_eq_getElem hk
    have hbz : ∀ j t, j < k → ts[j]? = some t → busy t = true := fun j t hj hjt => by rw [← hok.bit j t hjt]; exact hall j (Nat.zero_le _) hj
    generalize ts[k] = t at ht
    have hbk := hok.bit k t ht
    have hg := hok.gen k t ht
    rw [hoff] at hbk
    obtain ⟨n, en⟩ := t
    have hen : en = none ∧ n ≤ 254 := by
      unfold busy at hbk
      cases en with
      | none => simp at hbk hg; exact ⟨rfl, by omega⟩
      | some y => simp at hbk
    obtain ⟨rfl, hn⟩ := hen
    have ei : 0 + ((k : Nat) : Int).toNat * 6 = k * 6 := by simp
    have hlen := flat_len tval_len ts
    refine J38 H ?_
    refine J13 H ?_
    refine Jc rfl rfl (bSet_spec u _ x k true hok.bits hk H) ?_
    clear H; rintro v w ⟨rfl, H⟩
    refine Lp_nil ?_
    refine J13 H ?_
    refine Lp_s rfl (St_indexAddr rfl rfl (by omega) (by omega) rfl ?_)
    rw [ei]
    refine J0 H ?_
    have c0 : (ts.flatMap tval ++ s)[k * 6 + 0]? = some (.int .i64 n) := flat_get tval_len ht rfl
    replace H := Js [4,0,0,0,0] 0 H
    refine J6 H ?_
    refine J57 H ?_
    refine Lp_s rfl (St_load1 H rfl c0 rfl ?_)
    refine J27 H ?_
    refine J57 H ?_
    rw [wrap64 (x := ((n : Nat) : Int) + 1) (by omega) (by omega), show ((n : Nat) : Int) + 1 = ((n + 1 : Nat) : Int) by omega]
    refine Lp_s rfl (St_store1 H rfl rfl inferInstance rfl (by rw [List.length_append, hlen]; omega) rfl ?_)
    clear H; intro w H
    rw [flat_set (x' := ⟨n + 1, none⟩) tval_len ht (by omega) rfl] at H
    refine Lp_nil ?_
    have ht1 : (ts.set k ⟨n + 1, none⟩)[k]? = some (⟨n + 1, none⟩ : Slt) := List.getElem?_set_self hk
    have hlen1 := flat_len tval_len (ts.set k ⟨n + 1, none⟩)
    rw [List.length_set] at hlen1
    refine J1 H ?_
    clear H; intro w H
    refine J258 H ?_
    refine A_loadN 2 [8] H rfl (Wants.none rfl) rfl (by repeat (first | exact Reads.nil _ | apply Reads.cons rfl)) (by kernel_rfl) ?_
    refine J60 H ?_
    refine J32 H ?_
    refine Jo 5 H ?_
    refine St_store1 H rfl rfl inferInstance rfl (by rw [List.length_append, hlen1]; omega) rfl ?_
    clear H; intro w H
    rw [flat_set (x' := ⟨n + 1, some ⟨0, 0, false, false, 0, 0, []⟩⟩) tval_len ht1 (by omega) rfl, List.set_set] at H
    have ht2 : (ts.set k ⟨n + 1, some ⟨0, 0, false, false, 0, 0, []⟩⟩)[k]? = some (⟨n + 1, some ⟨0, 0, false, false, 0, 0, []⟩⟩ : Slt) := List.getElem?_set_self hk
    have hlen2 := flat_len tval_len (ts.set k ⟨n + 1, some ⟨0, 0, false, false, 0, 0, []⟩⟩)
    rw [List.length_set] at hlen2
    refine J129 H ?_
    refine Jo 8 H ?_
    refine St_storeN (vs := evl e) H rfl rfl inferInstance rfl rfl (by rw [List.length_append, hlen2]; omega) rfl ?_
    clear H; intro w H
    rw [flat_wr (x' := ⟨n + 1, some e⟩) tval_len ht2 (by simp) rfl, List.set_set] at H
    refine J2 H ?_
    have ht3 : (ts.set k ⟨n + 1, some e⟩)[k]? = some (⟨n + 1, some e⟩ : Slt) := List.getElem?_set_self hk
    have c3 : ((ts.set k ⟨n + 1, some e⟩).flatMap tval ++ s)[k * 6 + 0]? = some (.int .i64 ((n + 1 : Nat) : Int)) := flat_get tval_len ht3 rfl
    refine J9 H ?_
    refine J57 H ?_
    refine Lp_s rfl (St_load1 H rfl c3 rfl ?_)
    refine J45 H ?_
    refine J7 H ?_
    clear H; intro w H
    refine J0 H ?_
    replace H := Js [2,3,0,0] 1 H
    have hn255 : (n == 255) = false := by simp; omega
    have hok' : TabOk (ts.set k ⟨n + 1, some e⟩) (setB x k true) := by
      refine ⟨by rw [List.length_set]; exact hok.bits.set hk, fun i v hv => ?_, fun i v hv => ?_⟩
      · rw [setB_bit]
        rcases tab_set hv with ⟨rfl, rfl, _⟩ | ⟨hne, hv⟩
        · rw [if_pos rfl]; rfl
        · rw [if_neg hne]; exact hok.bit _ _ hv
      · rcases tab_set hv with ⟨rfl, rfl, _⟩ | ⟨_, hv⟩
        · show n + 1 ≤ 255; omega
        · exact hok.gen _ _ hv
    exact C_ret (Jz H (fun w' H' => .cellN H' rfl (by repeat (first | exact Reads.nil _ | apply Reads.cons rfl)) (.tmp .nil)) fun w' H' => .inl ⟨k, n, ht, hn, hbz, rfl, hclose _ _ (ts.set k ⟨n + 1, some e⟩) (setB x k true) (by simp) (goneT_set ht (by simp [hn255])) hok' H'.drop⟩)
  · refine J152 H ?_
    refine J3 H ?_
    refine J148 H ?_
    clear H; intro w H
    refine J0 H ?_
    replace H := Js [1,2,2,0] 1 H
    refine C_ret (Jz H (fun w' H' => .cellN H' rfl (by repeat (first | exact Reads.nil _ | apply Reads.cons rfl)) (.tmp .nil)) fun w' H' => .inr ⟨fun t ht => ?_, rfl, hclose _ _ ts x rfl rfl hok H'.drop⟩)
    obtain ⟨j, hj⟩ := List.getElem?_of_mem ht
    rw [← hok.bit j t hj]
    exact hall j (Nat.zero_le _) (List.getElem?_eq_some_iff.1 hj).1
end Go.Proofs.YtcaaojbnjfdglaaGreatDoor
namespace Go.Proofs.YtcaaojbnjfdglaaGreatDoor
open Go.SL

structure Ptr where
  sp : Nat
  bp : Nat
  ip : Nat
  tp : Nat
  trp : Nat
  rp : Nat
  sm : Nat
  mm : Nat
@[reducible] def ptrv : Nat → Value := fun b => pp b
@[reducible] def spkey (x : Int × Nat × Spc) : Int × Nat := (x.1, x.2.1)
@[reducible] def mnkey (x : Int × Nat × List Nat) : Int × Nat := (x.1, x.2.1)
@[reducible] def spres (sp : Nat) (x : Int × Nat × Spc) : HProp := SPC x.2.1 sp x.1.toNat x.2.2
@[reducible] def mnres (x : Int × Nat × List Nat) : HProp := BAG x.2.1 x.2.2
@[reducible] def CROW (p : Nat) (q : Ptr) : HProp := pts p (row 90 [pp q.sp, pp q.bp, pp q.ip, pp q.tp, pp q.trp, pp q.rp, .map (some q.sm), .map (some q.mm)])
def CELL (p : Nat) (s : CS) : HProp := ex fun x : Ptr × List Nat => star [prop (WF s ∧ MemOK s x.2), CROW p x.1, IMG x.1.ip x.1.sp x.1.bp, BOOK x.1.bp s.lays, ST x.1.sp s.size x.2 s.own, TAB x.1.tp s.tab, TRE x.1.trp s.last s.par, RS x.1.rp s.rem,
  mp (ki .i64) ptrv x.1.sm (s.sps.map spkey), star (s.sps.map (spres x.1.sp)), mp (ki .i64) ptrv x.1.mm (s.mns.map mnkey), star (s.mns.map mnres)]
theorem CELL_out [Extra] {w : World} {p : Nat} {s : CS} {fr : List HProp} (H : Holds w (CELL p s :: fr)) : ∃ (q : Ptr) (mem : List Nat), WF s ∧ MemOK s mem ∧
    Holds w (CROW p q :: IMG q.ip q.sp q.bp :: BOOK q.bp s.lays :: ST q.sp s.size mem s.own :: TAB q.tp s.tab :: TRE q.trp s.last s.par :: RS q.rp s.rem :: mp (ki .i64) ptrv q.sm (s.sps.map spkey) :: star (s.sps.map (spres q.sp)) :: mp (ki .i64) ptrv q.mm (s.mns.map mnkey) :: star (s.mns.map mnres) :: fr) := by
  obtain ⟨⟨q, mem⟩, H⟩ := Holds.ex.1 H
  have H := Holds.star.1 H
  obtain ⟨h, H⟩ := Holds.prop.1 H
  exact ⟨q, mem, h.1, h.2, H⟩
theorem CELL_in [Extra] {w : World} {p : Nat} {s : CS} {fr : List HProp} {q : Ptr} {mem : List Nat} (h : WF s) (hm : MemOK s mem)
    (H : Holds w (CROW p q :: IMG q.ip q.sp q.bp :: BOOK q.bp s.lays :: ST q.sp s.size mem s.own :: TAB q.tp s.tab :: TRE q.trp s.last s.par :: RS q.rp s.rem :: mp (ki .i64) ptrv q.sm (s.sps.map spkey) :: star (s.sps.map (spres q.sp)) :: mp (ki .i64) ptrv q.mm (s.mns.map mnkey) :: star (s.mns.map mnres) :: fr)) : Holds w (CELL p s :: fr) :=
  Holds.ex.2 ⟨(q, mem), Holds.star.2 (Holds.prop.2 ⟨⟨h, hm⟩, H⟩)⟩

def layE (s : CS) (e : Ent) : Lay := (s.lays[e.lay - 1]?).getD ⟨0, [], 0, []⟩
def lnkOf (w : Nat) : Lnk := if w = 0 then .none else if w = 1 then .grave else .obj (w % 4294967296 - 2) (w / 4294967296)
theorem lnkOf_big {x : Nat} (h0 : x ≠ 0) (h1 : x ≠ 1) : lnkOf x = .obj (x % 4294967296 - 2) (x / 4294967296) := by
  unfold lnkOf
  rw [if_neg h0, if_neg h1]
theorem lnk_arith {i g : Nat} (h : i < 4096) : (i + 2 + g * 4294967296) % 4294967296 - 2 = i ∧ (i + 2 + g * 4294967296) / 4294967296 = g := by omega
theorem lnkOf_obj {i g : Nat} (h1 : i < 4096) : lnkOf (wordL (.obj i g)) = .obj i g := by
  rw [wordL_obj, lnkOf_big (by omega) (by omega), (lnk_arith h1).1, (lnk_arith h1).2]
theorem lnkOf_word {k : Lnk} (h : okL k) : lnkOf (wordL k) = k := by
  cases k with
  | none => rfl
  | grave => rfl
  | obj i g => exact lnkOf_obj h.1

theorem img_of {s : CS} (h : WF s) {mem : List Nat} (m : MemOK s mem) {k g : Nat} {e : Ent} (hk : s.tab[k]? = some ⟨g, some e⟩) : ImgAt s.lays s.size mem s.own e.addr e.lay e.count k e.ws.length (layE s e) := by
  obtain ⟨⟨hm, l, h1, h2, h3, h4⟩, hl, _⟩ := h.obj k g e hk
  have hle : layE s e = l := by unfold layE; rw [h1]; rfl
  rw [hle]
  refine ⟨hm, h1, h2, h3, ?_, ?_, ?_⟩
  · rw [List.getD_eq_getElem?_getD, m.head _ _ _ hk, Option.getD_some]
  · have := hl.1
    unfold endOf at this
    rw [m.len]
    exact this
  · intro c c1 c2
    obtain ⟨r, hr, _, hr1⟩ := hl.2 c c1 (by rw [show e.addr + (e.ws.length + 1) - 1 = e.addr + e.ws.length by omega] at c2; exact c2)
    rw [List.getD_eq_getElem?_getD, hr]
    show r ≠ 0
    omega
theorem word_of {s : CS} (h : WF s) {mem : List Nat} (m : MemOK s mem) {k g : Nat} {e : Ent} (hk : s.tab[k]? = some ⟨g, some e⟩) {p : Nat} (hp : p < e.ws.length) : mem.getD (e.addr + 1 + p) 0 = e.ws.getD p 0 := by
  have hx := List.getElem?_eq_getElem hp
  rw [List.getD_eq_getElem?_getD, List.getD_eq_getElem?_getD, m.words _ _ _ hk p _ hx, hx]
/-- What a reference's word tells. -/
theorem link_of {s : CS} (h : WF s) {k g : Nat} {e : Ent} (hk : s.tab[k]? = some ⟨g, some e⟩) {p : Nat} (hp : p < e.ws.length) (hr : isRefL (layE s e) p = true) : okL (lnkOf (e.ws.getD p 0)) ∧ e.ws.getD p 0 = wordL (lnkOf (e.ws.getD p 0)) := by
  obtain ⟨⟨hm, l, h1, h2, h3, h4⟩, hl, _⟩ := h.obj k g e hk
  have hle : layE s e = l := by unfold layE; rw [h1]; rfl
  rw [hle] at hr
  have hx := List.getElem?_eq_getElem hp
  obtain ⟨q, hq, hw⟩ := (h4 p _ hx).2 hr
  have hd : e.ws.getD p 0 = wordL q := by rw [List.getD_eq_getElem?_getD, hx, Option.getD_some]; exact hw
  rw [hd, lnkOf_word hq]
  exact ⟨hq, rfl⟩

/-- An entry, or an error, as values. -/
def getV : Option (Nat × Ent) → Value
  | some (_, e) => .tuple #[.agg (evl e).toArray, .int .i64 0]
  | none => .tuple #[.agg #[.int .i64 0, .int .i64 0, .bool false, .bool false], .int .i64 8]
theorem getV_form (o : Option (Nat × Ent)) : ∃ e1 e2 h1 h2 e4, getV o = .tuple #[.agg #[.int .i64 e1, .int .i64 e2, .bool h1, .bool h2], .int .i64 e4] := by
  cases o <;> exact ⟨_, _, _, _, _, rfl⟩
theorem tGetV_spec [Extra] (p : Nat) (ts : List Slt) (i g : Int) {w : World} {fr : List HProp} (H : Holds w (TAB p ts :: fr)) :
    Calls Tryz.prog 44 #[pp p, tkI2 i g] w (ret fun v w' => v = getV (lookT ts i g) ∧ Holds w' (TAB p ts :: fr)) :=
  call (tGet_spec p ts i g H) fun v w h => ⟨by rw [h.1]; cases lookT ts i g <;> rfl, h.2⟩

theorem valid_spec [Extra] (p : Nat) (s : CS) (i g : Int) {w : World} {fr : List HProp} (H : Holds w (CELL p s :: fr)) :
    Calls Tryz.prog 67 #[pp p, tkI2 i g] w (ret fun v w' => v = getV (validT s.tab i g) ∧ Holds w' (CELL p s :: fr)) := by
  obtain ⟨q, mem, hw, hm, H⟩ := CELL_out H
  refine calls_of Tryz.func67 rfl (by kernel_rfl) ?_
  refine J5 H ?_
  clear H; intro b3 w H
  refine J17 H ?_
  clear H; intro b4 w H
  refine J167 H ?_
  obtain ⟨e1, e2, h1, h2, e4, hsh⟩ := getV_form (lookT s.tab i g)
  refine J12 H ?_
  refine C_join (fun ms σ w => ms = [] ∧ ∃ b6, σ 4 = pp b4 ∧ σ 6 = pp b6 ∧ σ 7 = .int .i64 e4 ∧
    Holds w (pts b4 (row 109 [.int .i64 0, .int .i64 0, .bool false, .bool false]) :: pts b6 (row 109 [.int .i64 e1, .int .i64 e2, .bool h1, .bool h2]) :: CELL p s :: fr)) ?_ ?_
  · replace H := Js [6,0,0,0,0,0,0,0,0,0,0,0,0] 0 H
    refine J1 H ?_
    clear H; intro w H
    refine J245 H ?_
    refine A_two 5 9 rfl rfl (by kernel_rfl) (by repeat first | exact .nil | refine .cons (.inr H.at) ?_ | refine .cons (.inr H.mp) ?_ | refine .cons (.inl (by kernel_rfl)) ?_) (Wants.none rfl) (Wants.none rfl) (St_call (a := []) (b := []) rfl rfl (call (tGetV_spec q.tp s.tab i g H) ?_)) (St_alloc H rfl ?_)
    · clear H; rintro v w ⟨rfl, H⟩
      rw [hsh]
      refine J246 H ?_
      clear H; intro b6 w H
      refine J247 H ?_
      clear H; intro w H
      refine J100 H ?_
      replace H := Js [4,4,4,4,1,3,3,3,3,3,3,1,0] 1 H
      refine ⟨rfl, rfl, b6, rfl, rfl, rfl, ?_⟩
      replace H := CELL_in hw hm H
      replace H := Js [1,1,0] 0 H
      exact H
    · clear H; intro b6 w H
      refine Jo 5 H ?_
      refine Jk rfl rfl (tGetV_spec q.tp s.tab i g H.swap) ?_
      clear H; rintro v w ⟨rfl, H⟩
      rw [hsh]
      refine J248 H ?_
      clear H; intro w H
      refine J100 H ?_
      replace H := Js [4,4,4,4,0,3,3,3,3,3,3,1,0] 1 H
      refine ⟨rfl, rfl, b6, rfl, rfl, rfl, ?_⟩
      replace H := CELL_in hw hm H
      replace H := Js [1,1,0] 0 H
      exact H
  · clear H
    rintro ms σ w ⟨rfl, b6, g4, g6, g7, H⟩
    rw [upd_self g4, upd_self g6, upd_self g7]
    have hv : validT s.tab i g = (match lookT s.tab i g with | some (k, e) => if e.held then some (k, e) else none | none => none) := rfl
    cases hL : lookT s.tab i g with
    | none =>
      rw [hL] at hsh hv
      have hv : validT s.tab i g = none := hv
      rw [hv]
      cases hsh
      refine J9 H ?_
      refine J131 H ?_
      refine J74 H ?_
      clear H; intro w H
      refine J0 H ?_
      exact C_ret (Jz H (fun w' H' => .cellN H' rfl (by repeat (first | exact Reads.nil _ | apply Reads.cons rfl)) (.tmp .nil)) fun w' H' => ⟨rfl, H'.drop.drop⟩)
    | some x =>
      obtain ⟨k, e⟩ := x
      obtain ⟨ea, er, eh, ep, el, ec, ew⟩ := e
      rw [hL] at hsh hv
      cases hsh
      cases eh with
      | true =>
        have hv : validT s.tab i g = some (k, ⟨ea, er, true, ep, el, ec, ew⟩) := hv
        rw [hv]
        refine J9 H ?_
        refine J61 H ?_
        refine J18 H ?_
        refine J86 H ?_
        clear H; intro w H
        refine J0 H ?_
        exact C_ret (Jz H (fun w' H' => .cellN H' rfl (by repeat (first | exact Reads.nil _ | apply Reads.cons rfl)) (.tmp .nil)) fun w' H' => ⟨rfl, H'.drop.drop⟩)
      | false =>
        have hv : validT s.tab i g = none := hv
        rw [hv]
        refine J9 H ?_
        refine J61 H ?_
        refine J74 H ?_
        clear H; intro w H
        refine J0 H ?_
        exact C_ret (Jz H (fun w' H' => .cellN H' rfl (by repeat (first | exact Reads.nil _ | apply Reads.cons rfl)) (.tmp .nil)) fun w' H' => ⟨rfl, H'.drop.drop⟩)
end Go.Proofs.YtcaaojbnjfdglaaGreatDoor
namespace Go.Proofs.YtcaaojbnjfdglaaGreatDoor
open Go.SL

theorem with_spec [Extra] (p : Nat) (s : CS) (i g : Int) (f : FuncId) (cs : List Value) [TBody Tryz.prog f] (R : Value → World → Prop) (fr : List HProp)
    (hno : validT s.tab i g = none → ∀ w, Holds w (CELL p s :: fr) → R (.int .i64 8) w)
    (hyes : ∀ k e, validT s.tab i g = some (k, e) → ∀ w, Holds w (CELL p s :: fr) → Calls Tryz.prog f (.agg (evl e).toArray :: cs).toArray w (ret R)) {w : World} (H : Holds w (CELL p s :: fr)) :
    Calls Tryz.prog 56 #[pp p, tkI2 i g, .func (.func f) #[] cs.toArray] w (ret R) := by
  refine calls_of Tryz.func56 rfl (by kernel_rfl) ?_
  refine J5 H ?_
  clear H; intro b4 w H
  refine J97 H ?_
  refine Jc rfl rfl (valid_spec p s i g H.swap) ?_
  clear H; rintro v w ⟨rfl, H⟩
  cases hv : validT s.tab i g with
  | none =>
    refine J19 H ?_
    clear H; intro b7 w H
    refine J7 H ?_
    clear H; intro w H
    refine J238 H ?_
    replace H := Js [1] 2 H
    exact C_ret (Jy H rfl fun w' H' => hno hv w' H')
  | some x =>
    obtain ⟨k, e⟩ := x
    refine J19 H ?_
    clear H; intro b7 w H
    refine J7 H ?_
    clear H; intro w H
    refine J37 H ?_
    refine J39 H ?_
    replace H := Js [1] 2 H
    refine Lp_s rfl (St_call (a := []) (b := cs) rfl rfl (call (hyes k e hv w H) ?_))
    clear H; intro v w hr
    refine Lp_mv rfl rfl ?_
    refine Lp_nil ?_
    exact C_ret (fn_endX (.inr rfl) rfl hr)

/-- What Get answers. -/
def getW (s : CS) (i g place : Int) : Nat × Nat :=
  match validT s.tab i g with
  | none => (0, 8)
  | some (_, e) => if placeE (layE s e) e.ws.length place false = 0 then (e.ws.getD place.toNat 0, 0) else (0, placeE (layE s e) e.ws.length place false)
theorem getW_none {s : CS} {i g place : Int} (h : validT s.tab i g = none) : getW s i g place = (0, 8) := by unfold getW; rw [h]
theorem getW_some {s : CS} {i g place : Int} {k : Nat} {e : Ent} (h : validT s.tab i g = some (k, e)) : getW s i g place = if placeE (layE s e) e.ws.length place false = 0 then (e.ws.getD place.toNat 0, 0) else (0, placeE (layE s e) e.ws.length place false) := by unfold getW; rw [h]
theorem valid_at {s : CS} {i g : Int} {k : Nat} {e : Ent} (h : validT s.tab i g = some (k, e)) : ∃ n : Nat, i = k ∧ g = n ∧ s.tab[k]? = some ⟨n, some e⟩ ∧ e.held = true := by
  obtain ⟨h1, h2⟩ := validT_some.1 h
  obtain ⟨n, a, b, c⟩ := lookT_some.1 h1
  exact ⟨n, a, b, c, h2⟩

theorem Get_spec [Extra] (p : Nat) (s : CS) (i g place : Int) {w : World} {fr : List HProp} (H : Holds w (CELL p s :: fr)) :
    Calls Tryz.prog 19 #[pp p, tkI2 i g, .int .i64 place] w (ret fun v w' => v = .tuple #[.int .u64 ((getW s i g place).1 : Nat), .int .i64 ((getW s i g place).2 : Nat)] ∧ Holds w' (CELL p s :: fr)) := by
  refine calls_of Tryz.func19 rfl (by kernel_rfl) ?_
  refine J78 H ?_
  clear H; intro b3 w H
  refine J54 H ?_
  clear H; intro b4 w H
  refine J139 H ?_
  clear H; intro b5 w H
  refine J4 H ?_
  refine J22 H ?_
  clear H; intro b8 w H
  refine Lp_nil ?_
  refine J79 H ?_
  refine J269 H ?_
  replace H := Js [4,0,0,0,0] 0 H
  refine Jc rfl rfl (with_spec p s i g 61 [pp b3, pp b5, pp b8] (fun v w' => v = .int .i64 ((getW s i g place).2 : Nat) ∧ Holds w' (pts b8 (row 29 [.int .u64 ((getW s i g place).1 : Nat)]) :: CELL p s :: fr)) _ ?_ ?_ H) ?_
  · intro hv w H
    rw [getW_none hv]
    replace H := Js [1,0] 3 H
    exact ⟨rfl, H⟩
  · intro k e hv w H
    obtain ⟨n, rfl, rfl, hk, hh⟩ := valid_at hv
    obtain ⟨q, mem, hw, hm, H⟩ := CELL_out H
    have hI := img_of hw hm hk
    refine calls_of Tryz.func61 rfl (by kernel_rfl) ?_
    refine J5 H ?_
    clear H; intro b4 w H
    refine J0 H ?_
    replace H := Js [2,2,2,0,0,0,0,0,0,0,0,0,0,0,1] 1 H
    have hval : (if placeE (layE s e) e.ws.length place false = 0 then mem.getD (e.addr + 1 + place.toNat) 0 else 0) = (getW s k n place).1 := by
      rw [getW_some hv]
      split
      · rename_i h0
        obtain ⟨x, rfl, hx, _⟩ := placeE_ok h0
        exact word_of hw hm hk hx
      · rfl
    have herr : placeE (layE s e) e.ws.length place false = (getW s k n place).2 := by
      rw [getW_some hv]
      split
      · assumption
      · rfl
    refine J1 H ?_
    clear H; intro w H
    refine A_load1 0 [7, 11] H rfl (Wants.none rfl) rfl rfl (by kernel_rfl) ?_
    refine J116 H ?_
    refine A_load1 3 [7, 11] H rfl (Wants.none rfl) rfl rfl (by kernel_rfl) ?_
    refine J32 H ?_
    refine A_load1 5 [7, 11] H rfl (Wants.none rfl) rfl rfl (by kernel_rfl) ?_
    refine A_load1 6 [7, 11] H rfl (Wants.none rfl) rfl rfl (by kernel_rfl) ?_
    refine Jo 7 H ?_
    refine Jk rfl rfl (Load_spec q.ip q.sp q.bp s.size s.lays mem s.own e.addr e.lay e.count k e.ws.length (layE s e) hI place H) ?_
    clear H; rintro v w ⟨rfl, H⟩
    rw [hval, herr]
    refine J249 H ?_
    refine J106 H ?_
    clear H; intro w H
    refine J47 H ?_
    refine J3 H ?_
    replace H := Js [4,0,0,0,1,1,1,1,1,1,1,1] 3 H
    replace H := CELL_in hw hm H
    exact C_ret (Jy H.swap rfl fun w' H' => ⟨rfl, H'⟩)
  · clear H
    rintro v w ⟨rfl, H⟩
    refine Lp_pv rfl rfl ?_
    refine Lp_nil ?_
    repeat refine C_seq ?_
    refine C_region ?_
    refine Lp_s rfl (St_load1 H rfl rfl rfl ?_)
    refine J27 H ?_
    refine J0 H ?_
    exact C_ret (Jy H rfl fun w' H' => ⟨rfl, H'.drop⟩)
end Go.Proofs.YtcaaojbnjfdglaaGreatDoor
namespace Go.Proofs.YtcaaojbnjfdglaaGreatDoor
open Go.SL

theorem lay_of {s : CS} (h : WF s) {k g : Nat} {e : Ent} (hk : s.tab[k]? = some ⟨g, some e⟩) : s.lays[e.lay - 1]? = some (layE s e) := by
  obtain ⟨⟨hm, l, h1, h2, h3, h4⟩, hl, _⟩ := h.obj k g e hk
  rw [h1]
  unfold layE
  rw [h1]
  rfl

theorem flat_same {ts : List Slt} {k : Nat} {t t' : Slt} (hk : ts[k]? = some t) (h : tval t' = tval t) : (ts.set k t').flatMap tval = ts.flatMap tval := by
  rw [set_split hk]
  conv => rhs; rw [split_at hk]
  simp [h]
/-- Another object's words: the table is the same. -/
theorem TAB_ghost [Extra] {w : World} {p : Nat} {ts : List Slt} {l : List HProp} {k g : Nat} {e e' : Ent} (hk : ts[k]? = some ⟨g, some e⟩) (he : evl e' = evl e) (H : Holds w (TAB p ts :: l)) : Holds w (TAB p (ts.set k ⟨g, some e'⟩) :: l) := by
  obtain ⟨b, c, s, u, x, hok, hc, H, hclose⟩ := TAB_out H
  have hv : tval ⟨g, some e'⟩ = tval ⟨g, some e⟩ := by
    show Value.int .i64 g :: .bool true :: evl e' = .int .i64 g :: .bool true :: evl e
    rw [he]
  refine hclose _ _ (ts.set k ⟨g, some e'⟩) x (by simp) (goneT_set hk rfl) (hok.set hk rfl (by have := hok.gen _ _ hk; exact this)) ?_
  rw [flat_same hk hv]
  exact H

/-- What Set leaves, and answers. -/
def setWS (s : CS) (i g place : Int) (x : Nat) : CS × Nat :=
  match validT s.tab i g with
  | none => (s, 8)
  | some (k, e) => if placeE (layE s e) e.ws.length place false = 0 then (setE s k g.toNat { e with ws := e.ws.set place.toNat x }, 0) else (s, placeE (layE s e) e.ws.length place false)
theorem setWS_none {s : CS} {i g place : Int} {x : Nat} (h : validT s.tab i g = none) : setWS s i g place x = (s, 8) := by unfold setWS; rw [h]
theorem setWS_some {s : CS} {i g place : Int} {x k : Nat} {e : Ent} (h : validT s.tab i g = some (k, e)) : setWS s i g place x = if placeE (layE s e) e.ws.length place false = 0 then (setE s k g.toNat { e with ws := e.ws.set place.toNat x }, 0) else (s, placeE (layE s e) e.ws.length place false) := by unfold setWS; rw [h]

theorem Set_spec [Extra] (p : Nat) (s : CS) (i g place : Int) (x : Nat) (hx : x < 18446744073709551616) {w : World} {fr : List HProp} (H : Holds w (CELL p s :: fr)) :
    Calls Tryz.prog 22 #[pp p, tkI2 i g, .int .i64 place, .int .u64 x] w (ret fun v w' => v = .int .i64 ((setWS s i g place x).2 : Nat) ∧ Holds w' (CELL p (setWS s i g place x).1 :: fr)) := by
  refine calls_of Tryz.func22 rfl (by kernel_rfl) ?_
  refine J78 H ?_
  clear H; intro b4 w H
  refine J54 H ?_
  clear H; intro b5 w H
  refine J139 H ?_
  clear H; intro b6 w H
  refine J139 H ?_
  clear H; intro b7 w H
  refine J250 H ?_
  replace H := Js [4,0,0,0,0] 0 H
  refine Jc rfl rfl (with_spec p s i g 65 [pp b4, pp b6, pp b7] (fun v w' => v = .int .i64 ((setWS s i g place x).2 : Nat) ∧ Holds w' (CELL p (setWS s i g place x).1 :: fr)) _ ?_ ?_ H) ?_
  · intro hv w H
    rw [setWS_none hv]
    replace H := Js [0] 4 H
    exact ⟨rfl, H⟩
  · intro k e hv w H
    obtain ⟨n, rfl, rfl, hk, hh⟩ := valid_at hv
    obtain ⟨q, mem, hw, hm, H⟩ := CELL_out H
    have hI := img_of hw hm hk
    refine calls_of Tryz.func65 rfl (by kernel_rfl) ?_
    refine J5 H ?_
    clear H; intro b4 w H
    refine J0 H ?_
    replace H := Js [2,2,2,0,0,0,0,0,0,0,0,0,0,0,1] 1 H
    refine J1 H ?_
    clear H; intro w H
    refine A_load1 0 [8] H rfl (Wants.none rfl) rfl rfl (by kernel_rfl) ?_
    refine J116 H ?_
    refine J178 H ?_
    refine J32 H ?_
    refine A_load1 5 [8] H rfl (Wants.none rfl) rfl rfl (by kernel_rfl) ?_
    refine A_load1 6 [8] H rfl (Wants.none rfl) rfl rfl (by kernel_rfl) ?_
    refine A_load1 7 [8] H rfl (Wants.none rfl) rfl rfl (by kernel_rfl) ?_
    refine Jo 8 H ?_
    refine Jk rfl rfl (Save_spec q.ip q.sp q.bp s.size s.lays mem s.own e.addr e.lay e.count k e.ws.length (layE s e) hI place x H) ?_
    clear H; rintro v w ⟨rfl, H⟩
    refine J40 H ?_
    refine J2 H ?_
    replace H := Js [4,0,0,0,1,1,1,1,1,1,1] 4 H
    rw [setWS_some hv]
    by_cases h0 : placeE (layE s e) e.ws.length place false = 0
    · obtain ⟨y, rfl, hy, hr⟩ := placeE_ok h0
      rw [if_pos h0] at H
      rw [if_pos h0, h0]
      have hw' := WF_setE (e' := { e with ws := e.ws.set y x }) hw hk ⟨rfl, rfl, rfl, rfl, by show (e.ws.set y x).length = _; simp⟩ (ObjOK_word (hw.obj _ _ _ hk).1 (lay_of hw hk) hx (fun h => by rw [hr] at h; cases h))
      have hm' := MemOK_word hw hm hk hy (x := x)
      replace H := Js [4,0,0,0,0,0,0,0,0,0,0] 0 H
      replace H := TAB_ghost (e' := { e with ws := e.ws.set y x }) hk rfl H
      replace H := Js [1,1,1,1,0,0,0,0,0,0,0] 0 H
      replace H := CELL_in hw' hm' H
      exact C_ret (Jy H rfl fun w' H' => ⟨rfl, H'⟩)
    · rw [if_neg h0] at H
      rw [if_neg h0]
      replace H := CELL_in hw hm H
      exact C_ret (Jy H rfl fun w' H' => ⟨rfl, H'⟩)
  · clear H
    rintro v w ⟨rfl, H⟩
    refine J0 H ?_
    exact C_ret (Jy H rfl fun w' H' => ⟨rfl, H'⟩)

/-- What Look answers. -/
def lookL (s : CS) (i g place : Int) : Lnk × Nat :=
  match validT s.tab i g with
  | none => (.none, 8)
  | some (_, e) => if placeE (layE s e) e.ws.length place true = 0 then (lnkOf (e.ws.getD place.toNat 0), 0) else (.none, placeE (layE s e) e.ws.length place true)
theorem lookL_none {s : CS} {i g place : Int} (h : validT s.tab i g = none) : lookL s i g place = (.none, 8) := by unfold lookL; rw [h]
theorem lookL_some {s : CS} {i g place : Int} {k : Nat} {e : Ent} (h : validT s.tab i g = some (k, e)) : lookL s i g place = if placeE (layE s e) e.ws.length place true = 0 then (lnkOf (e.ws.getD place.toNat 0), 0) else (.none, placeE (layE s e) e.ws.length place true) := by unfold lookL; rw [h]

theorem Look_spec [Extra] (p : Nat) (s : CS) (i g place : Int) {w : World} {fr : List HProp} (H : Holds w (CELL p s :: fr)) :
    Calls Tryz.prog 21 #[pp p, tkI2 i g, .int .i64 place] w (ret fun v w' => v = .tuple #[lkv (lookL s i g place).1, .int .i64 ((lookL s i g place).2 : Nat)] ∧ Holds w' (CELL p s :: fr)) := by
  obtain ⟨a1, a2, a3, hkv⟩ := lkv_agg (lookL s i g place).1
  rw [hkv]
  refine calls_of Tryz.func21 rfl (by kernel_rfl) ?_
  refine J78 H ?_
  clear H; intro b3 w H
  refine J54 H ?_
  clear H; intro b4 w H
  refine J139 H ?_
  clear H; intro b5 w H
  refine J17 H ?_
  clear H; intro b6 w H
  refine J0 H ?_
  refine J22 H ?_
  clear H; intro b8 w H
  refine Lp_nil ?_
  refine J79 H ?_
  refine J269 H ?_
  replace H := Js [5,0,0,0,0,0] 0 H
  refine Jc rfl rfl (with_spec p s i g 63 [pp b3, pp b5, pp b8] (fun v w' => v = .int .i64 ((lookL s i g place).2 : Nat) ∧ Holds w' (pts b8 (row 61 [.int .i64 a1, .int .i64 a2, .int .i64 a3]) :: pts b6 (row 61 [.int .i64 0, .int .i64 0, .int .i64 0]) :: CELL p s :: fr)) _ ?_ ?_ H) ?_
  · intro hv w H
    rw [lookL_none hv] at hkv ⊢
    cases hkv
    replace H := Js [1,1,0] 3 H
    exact ⟨rfl, H⟩
  · intro k e hv w H
    obtain ⟨n, rfl, rfl, hk, hh⟩ := valid_at hv
    obtain ⟨q, mem, hw, hm, H⟩ := CELL_out H
    have hI := img_of hw hm hk
    refine calls_of Tryz.func63 rfl (by kernel_rfl) ?_
    refine J5 H ?_
    clear H; intro b4 w H
    refine J0 H ?_
    replace H := Js [2,2,2,0,0,0,0,0,0,0,0,0,0,0,0,1] 1 H
    have hlk : lkv (lookL s k n place).1 = lkv (if placeE (layE s e) e.ws.length place true = 0 then lnkOf (e.ws.getD place.toNat 0) else .none) := by
      rw [lookL_some hv]
      split <;> rfl
    have herr : placeE (layE s e) e.ws.length place true = (lookL s k n place).2 := by
      rw [lookL_some hv]
      split
      · assumption
      · rfl
    have hlf : placeE (layE s e) e.ws.length place true = 0 → okL (if placeE (layE s e) e.ws.length place true = 0 then lnkOf (e.ws.getD place.toNat 0) else .none) ∧ mem.getD (e.addr + 1 + place.toNat) 0 = wordL (if placeE (layE s e) e.ws.length place true = 0 then lnkOf (e.ws.getD place.toNat 0) else .none) := fun h0 => by
      obtain ⟨y, hpy, hy, hr⟩ := placeE_ok h0
      rw [if_pos h0, hpy, Int.toNat_natCast, word_of hw hm hk hy]
      exact link_of hw hk hy hr
    have hF := fun (w : World) (fr : List HProp) (H : Holds w (IMG q.ip q.sp q.bp :: BOOK q.bp s.lays :: ST q.sp s.size mem s.own :: fr)) => Follow_spec q.ip q.sp q.bp s.size s.lays mem s.own e.addr e.lay e.count k e.ws.length (layE s e) hI place (if placeE (layE s e) e.ws.length place true = 0 then lnkOf (e.ws.getD place.toNat 0) else .none) hlf (fun h0 => if_neg h0) H
    rw [← hlk, hkv] at hF
    refine J1 H ?_
    clear H; intro w H
    refine A_load1 0 [7, 11] H rfl (Wants.none rfl) rfl rfl (by kernel_rfl) ?_
    refine J116 H ?_
    refine A_load1 3 [7, 11] H rfl (Wants.none rfl) rfl rfl (by kernel_rfl) ?_
    refine J32 H ?_
    refine A_load1 5 [7, 11] H rfl (Wants.none rfl) rfl rfl (by kernel_rfl) ?_
    refine A_load1 6 [7, 11] H rfl (Wants.none rfl) rfl rfl (by kernel_rfl) ?_
    refine Jo 7 H ?_
    refine Jk rfl rfl (hF _ _ H) ?_
    clear H; rintro v w ⟨rfl, H⟩
    rw [herr]
    refine J251 H ?_
    refine J125 H ?_
    clear H; intro w H
    refine J47 H ?_
    refine J3 H ?_
    replace H := Js [4,0,0,0,1,1,1,1,1,1,1,1,1] 3 H
    replace H := CELL_in hw hm H
    replace H := Js [1,1,0] 0 H
    exact C_ret (Jy H rfl fun w' H' => ⟨rfl, H'⟩)
  · clear H
    rintro v w ⟨rfl, H⟩
    refine J0 H ?_
    refine J76 H ?_
    clear H; intro w H
    refine J0 H ?_
    replace H := Js [1,1] 1 H
    exact C_ret (Jz H (fun w' H' => .cellN H' rfl (by repeat (first | exact Reads.nil _ | apply Reads.cons rfl)) (.tmp .nil)) fun w' H' => ⟨rfl, H'.drop⟩)
end Go.Proofs.YtcaaojbnjfdglaaGreatDoor
namespace Go.Proofs.YtcaaojbnjfdglaaGreatDoor
open Go.SL

/-- What Drop leaves, and answers. -/
def dropS (s : CS) (i g : Int) : CS × Nat :=
  match validT s.tab i g with
  | none => (s, 8)
  | some (k, e) => (setE s k g.toNat { e with held := false }, 0)
theorem dropS_none {s : CS} {i g : Int} (h : validT s.tab i g = none) : dropS s i g = (s, 8) := by unfold dropS; rw [h]
theorem dropS_some {s : CS} {i g : Int} {k : Nat} {e : Ent} (h : validT s.tab i g = some (k, e)) : dropS s i g = (setE s k g.toNat { e with held := false }, 0) := by unfold dropS; rw [h]
/-- What Pin leaves, and answers. -/
def pinS (s : CS) (i g : Int) (on : Bool) : CS × Nat :=
  match validT s.tab i g with
  | none => (s, 8)
  | some (k, e) => if e.pinned = on then (s, 7) else (setE s k g.toNat { e with pinned := on }, 0)
theorem pinS_none {s : CS} {i g : Int} {on : Bool} (h : validT s.tab i g = none) : pinS s i g on = (s, 8) := by unfold pinS; rw [h]
theorem pinS_some {s : CS} {i g : Int} {on : Bool} {k : Nat} {e : Ent} (h : validT s.tab i g = some (k, e)) : pinS s i g on = if e.pinned = on then (s, 7) else (setE s k g.toNat { e with pinned := on }, 0) := by unfold pinS; rw [h]

theorem flags_cell [Extra] {w : World} {p : Nat} {s : CS} {fr : List HProp} {q : Ptr} {mem : List Nat} (hw : WF s) (hm : MemOK s mem) {k n : Nat} {e e' : Ent} (hk : s.tab[k]? = some ⟨n, some e⟩) (a : Alike e e') (hws : e'.ws = e.ws)
    (H : Holds w (CROW p q :: IMG q.ip q.sp q.bp :: BOOK q.bp s.lays :: ST q.sp s.size mem s.own :: TAB q.tp (s.tab.set k ⟨n, some e'⟩) :: TRE q.trp s.last s.par :: RS q.rp s.rem :: mp (ki .i64) ptrv q.sm (s.sps.map spkey) :: star (s.sps.map (spres q.sp)) :: mp (ki .i64) ptrv q.mm (s.mns.map mnkey) :: star (s.mns.map mnres) :: fr)) :
    Holds w (CELL p (setE s k n e') :: fr) :=
  CELL_in (s := setE s k n e') (WF_setE hw hk a (ObjOK_flags (hw.obj _ _ _ hk).1 a hws)) (MemOK_flags hw hm hk a hws) H

theorem Drop_spec [Extra] (p : Nat) (s : CS) (i g : Int) {w : World} {fr : List HProp} (H : Holds w (CELL p s :: fr)) :
    Calls Tryz.prog 18 #[pp p, tkI2 i g] w (ret fun v w' => v = .int .i64 ((dropS s i g).2 : Nat) ∧ Holds w' (CELL p (dropS s i g).1 :: fr)) := by
  refine calls_of Tryz.func18 rfl (by kernel_rfl) ?_
  refine J78 H ?_
  clear H; intro b2 w H
  refine J54 H ?_
  clear H; intro b3 w H
  refine J250 H ?_
  replace H := Js [2,0,0] 0 H
  refine Jc rfl rfl (with_spec p s i g 59 [pp b2, pp b3] (fun v w' => v = .int .i64 ((dropS s i g).2 : Nat) ∧ Holds w' (CELL p (dropS s i g).1 :: fr)) _ ?_ ?_ H) ?_
  · intro hv w H
    rw [dropS_none hv]
    replace H := Js [0] 2 H
    exact ⟨rfl, H⟩
  · intro k e hv w H
    obtain ⟨n, rfl, rfl, hk, hh⟩ := valid_at hv
    obtain ⟨q, mem, hw, hm, H⟩ := CELL_out H
    refine calls_of Tryz.func59 rfl (by kernel_rfl) ?_
    refine J5 H ?_
    clear H; intro b3 w H
    refine J66 H ?_
    refine J107 H ?_
    clear H; intro w H
    refine Lp_nil ?_
    replace H := Js [5,0,0,0,0,0,0,0,0,0,0,0,0,0] 0 H
    refine J1 H ?_
    clear H; intro w H
    refine A_load1 0 [6] H rfl (Wants.none rfl) rfl rfl (by kernel_rfl) ?_
    refine J116 H ?_
    refine A_load1 3 [6] H rfl (Wants.none rfl) rfl rfl (by kernel_rfl) ?_
    refine J224 H ?_
    refine J221 H ?_
    refine Jk rfl rfl (tSet_spec q.tp s.tab k n { e with held := false } H) ?_
    clear H
    rintro v w (⟨k', e', hL, rfl, H⟩ | ⟨hL, rfl, H⟩)
    · have hLk := (validT_some.1 hv).1
      rw [hLk] at hL
      cases hL
      refine J58 H ?_
      refine J2 H ?_
      replace H := Js [2,2,2,2,0,1,1,1,1,1,1] 3 H
      rw [dropS_some hv]
      replace H := flags_cell (e' := { e with held := false }) hw hm hk ⟨rfl, rfl, rfl, rfl, rfl⟩ rfl H
      exact C_ret (Jy H rfl fun w' H' => ⟨rfl, H'⟩)
    · rw [(validT_some.1 hv).1] at hL
      cases hL
  · clear H
    rintro v w ⟨rfl, H⟩
    refine J0 H ?_
    exact C_ret (Jy H rfl fun w' H' => ⟨rfl, H'⟩)

theorem Pin_spec [Extra] (p : Nat) (s : CS) (i g : Int) (on : Bool) {w : World} {fr : List HProp} (H : Holds w (CELL p s :: fr)) :
    Calls Tryz.prog 25 #[pp p, tkI2 i g, .bool on] w (ret fun v w' => v = .int .i64 ((pinS s i g on).2 : Nat) ∧ Holds w' (CELL p (pinS s i g on).1 :: fr)) := by
  refine calls_of Tryz.func25 rfl (by kernel_rfl) ?_
  refine J78 H ?_
  clear H; intro b3 w H
  refine J54 H ?_
  clear H; intro b4 w H
  refine J139 H ?_
  clear H; intro b5 w H
  refine J250 H ?_
  replace H := Js [3,0,0,0] 0 H
  refine Jc rfl rfl (with_spec p s i g 69 [pp b5, pp b3, pp b4] (fun v w' => v = .int .i64 ((pinS s i g on).2 : Nat) ∧ Holds w' (CELL p (pinS s i g on).1 :: fr)) _ ?_ ?_ H) ?_
  · intro hv w H
    rw [pinS_none hv]
    replace H := Js [0] 3 H
    exact ⟨rfl, H⟩
  · intro k e hv w H
    obtain ⟨n, rfl, rfl, hk, hh⟩ := valid_at hv
    obtain ⟨q, mem, hw, hm, H⟩ := CELL_out H
    refine calls_of Tryz.func69 rfl (by kernel_rfl) ?_
    refine J5 H ?_
    clear H; intro b4 w H
    refine J66 H ?_
    refine J28 H ?_
    refine J104 H ?_
    refine J192 H ?_
    rw [pinS_some hv]
    by_cases hp : e.pinned = on
    · rw [show (e.pinned == on) = true by simp [hp], if_pos hp]
      refine J31 H ?_
      replace H := Js [1,1,1,1,1,1,1,1,1,1,1] 4 H
      replace H := CELL_in hw hm H
      exact C_ret (Jy H rfl fun w' H' => ⟨rfl, H'⟩)
    · rw [show (e.pinned == on) = false by simp [hp], if_neg hp]
      refine J8 H ?_
      refine J79 H ?_
      refine J107 H ?_
      clear H; intro w H
      refine Lp_nil ?_
      replace H := Js [5,0,0,0,0,0,0,0,0,0,0,0,0,0,0] 0 H
      refine J1 H ?_
      clear H; intro w H
      refine A_load1 0 [6] H rfl (Wants.none rfl) rfl rfl (by kernel_rfl) ?_
      refine J116 H ?_
      refine A_load1 3 [6] H rfl (Wants.none rfl) rfl rfl (by kernel_rfl) ?_
      refine J224 H ?_
      refine J221 H ?_
      refine Jk rfl rfl (tSet_spec q.tp s.tab k n { e with pinned := on } H) ?_
      clear H
      rintro v w (⟨k', e', hL, rfl, H⟩ | ⟨hL, rfl, H⟩)
      · have hLk := (validT_some.1 hv).1
        rw [hLk] at hL
        cases hL
        refine J58 H ?_
        refine J2 H ?_
        replace H := Js [2,2,2,2,0,1,1,1,1,1,1] 4 H
        replace H := flags_cell (e' := { e with pinned := on }) hw hm hk ⟨rfl, rfl, rfl, rfl, rfl⟩ rfl H
        exact C_ret (Jy H rfl fun w' H' => ⟨rfl, H'⟩)
      · rw [(validT_some.1 hv).1] at hL
        cases hL
  · clear H
    rintro v w ⟨rfl, H⟩
    refine J0 H ?_
    exact C_ret (Jy H rfl fun w' H' => ⟨rfl, H'⟩)

/-- What Tell tells of an entry. -/
@[reducible] def infv (e : Ent) : List Value := [.int .i64 e.region, .int .i64 e.lay, .int .i64 e.count, .int .i64 e.ws.length, .bool e.pinned]
def tellV : Option (Nat × Ent) → Value
  | some (_, e) => .tuple #[.agg (infv e).toArray, .int .i64 0]
  | none => .tuple #[.agg #[.int .i64 0, .int .i64 0, .int .i64 0, .int .i64 0, .bool false], .int .i64 8]

theorem Tell_spec [Extra] (p : Nat) (s : CS) (i g : Int) {w : World} {fr : List HProp} (H : Holds w (CELL p s :: fr)) :
    Calls Tryz.prog 17 #[pp p, tkI2 i g] w (ret fun v w' => v = tellV (validT s.tab i g) ∧ Holds w' (CELL p s :: fr)) := by
  obtain ⟨a1, a2, a3, a4, a5, a6, htv⟩ : ∃ a1 a2 a3 a4 a5 a6, tellV (validT s.tab i g) = .tuple #[.agg #[.int .i64 a1, .int .i64 a2, .int .i64 a3, .int .i64 a4, .bool a5], .int .i64 a6] := by
    cases validT s.tab i g <;> exact ⟨_, _, _, _, _, _, rfl⟩
  rw [htv]
  refine calls_of Tryz.func17 rfl (by kernel_rfl) ?_
  refine J78 H ?_
  clear H; intro b2 w H
  refine J54 H ?_
  clear H; intro b3 w H
  refine J17 H ?_
  clear H; intro b4 w H
  refine J0 H ?_
  refine J22 H ?_
  clear H; intro b6 w H
  refine Lp_nil ?_
  refine J79 H ?_
  refine J269 H ?_
  replace H := Js [4,0,0,0,0] 0 H
  refine Jc rfl rfl (with_spec p s i g 57 [pp b2, pp b6] (fun v w' => v = .int .i64 a6 ∧ Holds w' (pts b6 (row 44 [.int .i64 a1, .int .i64 a2, .int .i64 a3, .int .i64 a4, .bool a5]) :: pts b4 (row 44 [.int .i64 0, .int .i64 0, .int .i64 0, .int .i64 0, .bool false]) :: CELL p s :: fr)) _ ?_ ?_ H) ?_
  · intro hv w H
    rw [hv] at htv
    cases htv
    replace H := Js [1,1,0] 2 H
    exact ⟨rfl, H⟩
  · intro k e hv w H
    rw [hv] at htv
    cases htv
    obtain ⟨n, rfl, rfl, hk, hh⟩ := valid_at hv
    obtain ⟨q, mem, hw, hm, H⟩ := CELL_out H
    have hI := img_of hw hm hk
    have hml := ST_len (H.pull 3)
    have hfit := hI.fit
    refine calls_of Tryz.func57 rfl (by kernel_rfl) ?_
    refine J5 H ?_
    clear H; intro b3 w H
    refine J14 H ?_
    refine C_join (fun ms σ w => ms = [] ∧ ∃ b5, σ 2 = pp b6 ∧ σ 3 = pp b3 ∧ σ 5 = pp b5 ∧ σ 6 = .int .i64 ((e.ws.length + 1 : Nat) : Int) ∧ σ 7 = .int .i64 0 ∧
      Holds w (pts b3 (row 109 (evl e)) :: pts b5 (row 127 [.int .i64 e.lay, .int .i64 e.count, .int .i64 k]) :: pts b6 (row 44 [.int .i64 0, .int .i64 0, .int .i64 0, .int .i64 0, .bool false]) :: pts b4 (row 44 [.int .i64 0, .int .i64 0, .int .i64 0, .int .i64 0, .bool false]) :: CELL p s :: fr)) ?_ ?_
    · replace H := Js [2,2,2,0,0,0,0,0,0,0,0,0,0,0,1] 1 H
      refine J1 H ?_
      clear H; intro w H
      refine A_load1 0 [6, 12] H rfl (Wants.none rfl) rfl rfl (by kernel_rfl) ?_
      refine J116 H ?_
      refine A_load1 3 [6, 12] H rfl (Wants.none rfl) rfl rfl (by kernel_rfl) ?_
      refine J32 H ?_
      refine A_load1 5 [6, 12] H rfl (Wants.none rfl) rfl rfl (by kernel_rfl) ?_
      refine A_two 6 11 rfl rfl (by kernel_rfl) (by repeat first | exact .nil | refine .cons (.inr H.at) ?_ | refine .cons (.inr H.mp) ?_ | refine .cons (.inl (by kernel_rfl)) ?_) (Wants.none rfl) (Wants.none rfl) (St_call (a := []) (b := []) rfl rfl (call (iAt_spec q.ip q.sp q.bp s.size s.lays mem s.own e.addr e.lay e.count k e.ws.length (layE s e) hI H) ?_)) (St_alloc H rfl ?_)
      · clear H; rintro v w ⟨rfl, H⟩
        refine J275 H ?_
        refine J90 H ?_
        refine Jo 11 H ?_
        refine St_alloc H rfl ?_
        clear H; intro b5 w H
        refine J101 H ?_
        clear H; intro w H
        refine J200 H ?_
        refine J252 H ?_
        replace H := Js [5,1,1,1,2,2,2,2,2,2,2,1,0,0,0] 1 H
        replace H := CELL_in hw hm H
        replace H := Js [1,1,1,1,0] 0 H
        exact ⟨rfl, rfl, b5, rfl, rfl, rfl, rfl, rfl, H⟩
      · clear H; intro b5 w H
        replace H := Js [1,1,1,0] 0 H
        refine Jo 6 H ?_
        refine Jk rfl rfl (iAt_spec q.ip q.sp q.bp s.size s.lays mem s.own e.addr e.lay e.count k e.ws.length (layE s e) hI H) ?_
        clear H; rintro v w ⟨rfl, H⟩
        refine J275 H ?_
        refine J90 H ?_
        refine J101 H ?_
        clear H; intro w H
        refine J200 H ?_
        refine J252 H ?_
        replace H := Js [5,0,0,0,2,2,2,2,2,2,2,1,0,0,0] 1 H
        replace H := CELL_in hw hm H
        replace H := Js [1,1,1,1,0] 0 H
        exact ⟨rfl, rfl, b5, rfl, rfl, rfl, rfl, rfl, H⟩
    · clear H
      rintro ms σ w ⟨rfl, b5, g2, g3, g5, g6, g7, H⟩
      rw [upd_self g2, upd_self g3, upd_self g5, upd_self g6, upd_self g7]
      refine J110 H ?_
      refine J28 H ?_
      refine J49 H ?_
      rw [wrap64 (x := ((e.ws.length + 1 : Nat) : Int) - 1) (by omega) (by omega), show ((e.ws.length + 1 : Nat) : Int) - 1 = (e.ws.length : Int) by omega]
      refine J28 H ?_
      refine J45 H ?_
      refine J7 H ?_
      clear H; intro w H
      refine J128 H ?_
      replace H := Js [2,2,2] 2 H
      exact C_ret (Jy H rfl fun w' H' => ⟨rfl, H'⟩)
  · clear H
    rintro v w ⟨rfl, H⟩
    refine J0 H ?_
    refine J76 H ?_
    clear H; intro w H
    refine J0 H ?_
    replace H := Js [1,1] 1 H
    exact C_ret (Jz H (fun w' H' => .cellN H' rfl (by repeat (first | exact Reads.nil _ | apply Reads.cons rfl)) (.tmp .nil)) fun w' H' => ⟨rfl, H'.drop⟩)
end Go.Proofs.YtcaaojbnjfdglaaGreatDoor
