/- Cells: what is proved on the way: every input of the statement; no condition. Texts joined: LawA LawB LawC LawD LawE LawF. -/
import Derived.Test.YtcaaojbnjfdglaaGreatDoorCdf
import Derived.Test.YtcaaojbnjfdglaaGreatDoorCdn
import Derived.Test.YtcaaojbnjfdglaaGreatDoorCde
set_option linter.unusedVariables false
set_option linter.unusedSimpArgs false
set_option linter.unusedSectionVars false
namespace Go.Proofs.YtcaaojbnjfdglaaGreatDoor
open Go.SL

def tkc (l : List (Nat × Nat)) : List Value := l.flatMap fun t => [.int .i64 (t.1 : Nat), .int .i64 (t.2 : Nat)]
theorem tkc_length (l : List (Nat × Nat)) : (tkc l).length = l.length * 2 := by
  induction l with
  | nil => rfl
  | cons p L ih => simp only [tkc, List.flatMap_cons, List.length_append, List.length_cons, List.length_nil] at ih ⊢; omega
theorem tkc_append (a b : List (Nat × Nat)) : tkc (a ++ b) = tkc a ++ tkc b := by simp [tkc]
theorem tkc_get {L : List (Nat × Nat)} {i : Nat} {p : Nat × Nat} (h : L[i]? = some p) : (tkc L)[i * 2]? = some (.int .i64 (p.1 : Nat)) ∧ (tkc L)[i * 2 + 1]? = some (.int .i64 (p.2 : Nat)) := by
  induction L generalizing i with
  | nil => simp at h
  | cons x L ih =>
    cases i with
    | zero =>
      simp at h
      subst h
      exact ⟨rfl, rfl⟩
    | succ i =>
      have := ih (i := i) (by simpa using h)
      rw [show (i + 1) * 2 = i * 2 + 2 by omega]
      exact this
theorem tkc_el {c : List Value} {o n : Nat} {L : List (Nat × Nat)} (h : Reads c o n (tkc L)) {i : Nat} {p : Nat × Nat} (hp : L[i]? = some p) : Reads c (o + i * 2) 2 [.int .i64 (p.1 : Nat), .int .i64 (p.2 : Nat)] := by
  obtain ⟨h1, h2⟩ := tkc_get hp
  refine h.part (es := [.int .i64 (p.1 : Nat), .int .i64 (p.2 : Nat)]) fun j v hj => ?_
  match j, hj with
  | 0, hj => rw [← hj]; exact h1
  | 1, hj => rw [← hj]; exact h2
theorem tkc_reads {L : List (Nat × Nat)} {spare : List Value} {i : Nat} {p : Nat × Nat} (h : L[i]? = some p) : Reads (tkc L ++ spare) (0 + i * 2) 2 [.int .i64 (p.1 : Nat), .int .i64 (p.2 : Nat)] := by
  refine tkc_el (L := L) (n := (tkc L).length) (Reads.of_get fun j v hj => ?_) h
  rw [Nat.zero_add, List.getElem?_append_left (List.getElem?_eq_some_iff.1 hj).1]
  exact hj

@[reducible] def TKL (v : Value) (told : List (Nat × Nat)) : HProp := sls 32 2 v (tkc told)
@[reducible] def RROW (p c mo : Nat) (v : Value) : HProp := pts p (row 40 [pp c, pp mo, v])
structure RQ where
  c : Nat
  mo : Nat
  v : Value
def RUN (p : Nat) (s : CS) (m : MS) (told : List (Nat × Nat)) : HProp := ex fun q : RQ => star [RROW p q.c q.mo q.v, CELL q.c s, MODEL q.mo m, TKL q.v told]
theorem RUN_out [Extra] {w : World} {p : Nat} {s : CS} {m : MS} {told : List (Nat × Nat)} {l : List HProp} (H : Holds w (RUN p s m told :: l)) : ∃ (c mo : Nat) (a : Option Addr) (cap : Nat), Holds w (RROW p c mo (.slice a told.length cap) :: CELL c s :: MODEL mo m :: TKL (.slice a told.length cap) told :: l) := by
  obtain ⟨⟨c, mo, v⟩, H⟩ := Holds.ex.1 H
  have H := Holds.star.1 H
  obtain ⟨a, cap, rfl⟩ := sls_slice (H.drop.drop.drop) (tkc_length told) (by decide)
  exact ⟨c, mo, a, cap, H⟩
theorem RUN_in [Extra] {w : World} {p c mo : Nat} {v : Value} {s : CS} {m : MS} {told : List (Nat × Nat)} {l : List HProp} (H : Holds w (RROW p c mo v :: CELL c s :: MODEL mo m :: TKL v told :: l)) : Holds w (RUN p s m told :: l) :=
  Holds.ex.2 ⟨⟨c, mo, v⟩, Holds.star.2 H⟩

theorem pick_spec [Extra] (p c mo : Nat) (a : Option Addr) (cap : Nat) (told : List (Nat × Nat)) (hlen : told.length ≤ 1000000) (k i g : Int) (raw : Bool) {w : World} {fr : List HProp} (H : Holds w (RROW p c mo (.slice a told.length cap) :: TKL (.slice a told.length cap) told :: fr)) :
    Calls Tryz.prog 16 #[pp p, .int .i64 k, .bool raw, tkI2 i g] w (ret fun v w' => ∃ i' g' o, v = .tuple #[tkI2 i' g', .int .i64 o] ∧ Pick told i' g' o ∧ (raw = false → told ≠ [] → o ≠ -1) ∧ (raw = true ∨ told = [] → i' = i ∧ g' = g) ∧ Holds w' (RROW p c mo (.slice a told.length cap) :: TKL (.slice a told.length cap) told :: fr)) := by
  refine calls_of Tryz.func16 rfl (by kernel_rfl) ?_
  refine J5 H ?_
  clear H; intro b7 w H
  refine J17 H ?_
  clear H; intro b8 w H
  refine J18 H ?_
  refine C_join (fun ms σ w => ms = [] ∧ (∃ q, σ 21 = .bool q ∧ (q = true ↔ raw = false ∧ told ≠ [])) ∧ σ 0 = pp p ∧ σ 1 = .int .i64 k ∧ σ 7 = pp b7 ∧ σ 8 = pp b8 ∧ Holds w (pts b7 (row 32 [.int .i64 i, .int .i64 g]) :: pts b8 (row 32 [.int .i64 0, .int .i64 0]) :: RROW p c mo (.slice a told.length cap) :: TKL (.slice a told.length cap) told :: fr)) ?_ ?_
  · cases raw with
    | true =>
      refine J8 H ?_
      refine J207 H ?_
      refine J0 H ?_
      exact ⟨rfl, rfl, ⟨false, rfl, by simp⟩, rfl, rfl, rfl, rfl, H.swap⟩
    | false =>
      refine J8 H ?_
      refine J25 H ?_
      refine J251 H ?_
      refine J0 H ?_
      refine ⟨rfl, rfl, ⟨_, rfl, ?_⟩, rfl, rfl, rfl, rfl, H.swap⟩
      cases told with
      | nil => simp
      | cons x l =>
        refine ⟨fun _ => ⟨rfl, by simp⟩, fun _ => ?_⟩
        show decide ((((x :: l).length : Nat) : Int) > 0) = true
        exact decide_eq_true (by rw [List.length_cons]; omega)
  clear H
  rintro ms σ w ⟨rfl, ⟨q, g21, hq⟩, g0, g1, g7, g8, H⟩
  rw [upd_self g21, upd_self g0, upd_self g1, upd_self g7, upd_self g8]
  refine J10 H ?_
  refine C_join (fun ms σ w => ms = [] ∧ σ 0 = pp p ∧ σ 7 = pp b7 ∧ σ 8 = pp b8 ∧ ∃ i' g' : Int, (raw = false → told ≠ [] → ∃ n x y : Nat, told[n]? = some (x, y) ∧ i' = x ∧ g' = y) ∧ (raw = true ∨ told = [] → i' = i ∧ g' = g) ∧ Holds w (pts b7 (row 32 [.int .i64 i', .int .i64 g']) :: pts b8 (row 32 [.int .i64 0, .int .i64 0]) :: RROW p c mo (.slice a told.length cap) :: TKL (.slice a told.length cap) told :: fr)) ?_ ?_
  · cases q with
    | true =>
      obtain ⟨hq1, hq2⟩ := hq.1 rfl
      refine J11 H ?_
      refine J1 H ?_
      clear H; intro w H
      refine J14 H ?_
      refine A_load1 3 [16] H rfl (Wants.none rfl) rfl rfl (by kernel_rfl) ?_
      refine J78 H ?_
      refine A_convI 5 rfl (Wants.none rfl) rfl (by kernel_rfl) ?_
      refine J147 H ?_
      refine J120 H ?_
      refine A_load1 9 [16] H rfl (Wants.none rfl) rfl rfl (by kernel_rfl) ?_
      refine A_lenSlice 10 rfl (Wants.none rfl) rfl (by kernel_rfl) ?_
      refine A_convI 11 rfl (Wants.none rfl) rfl (by kernel_rfl) ?_
      obtain ⟨K, hK⟩ : ∃ K : Nat, IntKind.u64.wrap k = K := ⟨(IntKind.u64.wrap k).toNat, by
        have : 0 ≤ IntKind.u64.wrap k := Int.emod_nonneg _ (by decide)
        omega⟩
      have hlp : 0 < told.length := List.length_pos_iff.2 hq2
      have e1 : IntKind.u64.wrap (told.length : Int) = (told.length : Int) := Int.emod_eq_of_lt (by omega) (by show (told.length : Int) < 18446744073709551616; omega)
      rw [hK, e1]
      have hmod := Nat.mod_lt K hlp
      refine A_pv (v := .int .u64 ((K % told.length : Nat) : Int)) 12 rfl (Wants.none rfl) (by
        show (if IntKind.u64 = IntKind.u64 then (if (told.length : Int) = 0 then none else some (Value.int IntKind.u64 (Int.tmod (K : Int) (told.length : Int)))) else none) = _
        rw [if_pos rfl, if_neg (by omega), Int.tmod_eq_emod_of_nonneg (by omega), Int.natCast_emod]) (by kernel_rfl) ?_
      refine A_convI 13 rfl (Wants.none rfl) rfl (by kernel_rfl) ?_
      rw [wrap64 (x := ((K % told.length : Nat) : Int)) (by omega) (by omega)]
      generalize K % told.length = n at hmod
      have hn := List.getElem?_eq_getElem hmod
      generalize told[n] = xy at hn
      obtain ⟨x, y⟩ := xy
      replace H := Js [3,0,0,0] 0 H
      obtain ⟨bT, sT, rfl, H, hcl⟩ := sls_open H hlp
      refine A_indexAddr 14 rfl (Wants.none rfl) rfl rfl (by omega) (by omega) (by kernel_rfl) ?_
      refine A_loadN 15 [16] H rfl (Wants.none rfl) rfl (tkc_reads hn) (by kernel_rfl) ?_
      refine Jo 16 H ?_
      refine J33 H ?_
      clear H; intro w H
      replace H := hcl _ _ H
      refine J2 H ?_
      replace H := Js [1,1,1,0] 0 H
      exact ⟨rfl, rfl, rfl, rfl, rfl, x, y, fun _ _ => ⟨n, x, y, hn, rfl, rfl⟩, fun h => absurd h (by rintro (h | h); exact absurd (hq1.symm.trans h) (by decide); exact hq2 h), H⟩
    | false =>
      refine J6 H ?_
      refine ⟨rfl, rfl, rfl, rfl, rfl, i, g, ?_, fun _ => ⟨rfl, rfl⟩, H⟩
      intro h1 h2
      exact absurd (hq.2 ⟨h1, h2⟩) (by decide)
  clear H
  rintro ms σ w ⟨rfl, g0, g7, g8, i', g', hin, hout, H⟩
  rw [upd_self g0, upd_self g7, upd_self g8]
  refine J122 H ?_
  refine J35 H ?_
  refine C_loop (fun ms σ w q => ms = [] ∧ ∃ j : Nat, j ≤ told.length ∧ q = told.length - j ∧ (∀ (n x y : Nat), n < j → told[n]? = some (x, y) → ¬(i' = x ∧ g' = y)) ∧ σ 7 = pp b7 ∧ σ 8 = pp b8 ∧ σ 41 = .slice a told.length cap ∧ σ 42 = .int .i64 told.length ∧ σ 43 = .int .i64 j ∧ Holds w (TKL (.slice a told.length cap) told :: pts b7 (row 32 [.int .i64 i', .int .i64 g']) :: pts b8 (row 32 [.int .i64 0, .int .i64 0]) :: RROW p c mo (.slice a told.length cap) :: fr)) (m := told.length) ⟨rfl, 0, by omega, rfl, by omega, rfl, rfl, rfl, rfl, rfl, H.sel [3, 0, 0, 0] 0⟩ ?_
  clear H
  rintro ms σ w q ⟨rfl, j, hj, rfl, hno, g7, g8, g41, g42, g43, H⟩
  rw [upd_self g7, upd_self g8, upd_self g41, upd_self g42, upd_self g43]
  refine J26 H ?_
  refine C_dec rfl (fun h => C_skip ?_) (fun h => C_exit ?_)
  · have hlt : j < told.length := by omega
    have hn := List.getElem?_eq_getElem hlt
    generalize told[j] = xy at hn
    obtain ⟨x, y⟩ := xy
    obtain ⟨bT, sT, rfl, H, hcl⟩ := sls_open H (by omega)
    refine J175 H ?_
    refine Lp_s rfl (St_indexAddr rfl rfl (by omega) (by omega) rfl ?_)
    refine Lp_s rfl (St_loadN H rfl (tkc_reads hn) rfl ?_)
    refine J17 H ?_
    clear H; intro b11 w H
    refine J246 H ?_
    clear H; intro w H
    refine Lp_nil ?_
    refine J29 H ?_
    refine J60 H ?_
    refine Lp_s rfl (St_eqPair rfl rfl (.inl rfl) rfl ?_)
    refine Lp_nil ?_
    replace H := H.drop
    refine C_dec (p := ((x : Int), (y : Int)) = (i', g')) rfl (fun he => ?_) (fun he => C_skip ?_)
    · injection he with h1 h2
      subst h1 h2
      refine J88 H ?_
      clear H; intro w H
      refine J0 H ?_
      replace H := hcl _ _ H
      replace H := Js [2,2,0] 1 H
      refine C_ret (Jz H (fun w' H' => .cellN H' rfl (by repeat (first | exact Reads.nil _ | apply Reads.cons rfl)) (.tmp .nil)) fun w' H' => ⟨x, y, j, rfl, .inl ⟨x, y, j, rfl, rfl, rfl, hn⟩, fun _ _ => by omega, hout, H'.drop⟩)
    · replace H := hcl _ _ H
      refine J4 H ?_
      refine ⟨_, ⟨rfl, j + 1, hlt, rfl, ?_, rfl, rfl, rfl, rfl, inc64 (by omega), H⟩, by omega⟩
      intro n x' y' hnj hn' hc
      by_cases hnj' : n = j
      · subst hnj'
        rw [hn] at hn'
        injection hn' with hn'
        injection hn' with h1 h2
        subst h1 h2
        exact he (by rw [hc.1, hc.2])
      · exact hno n x' y' (by omega) hn' hc
  · have hge : j = told.length := by omega
    subst hge
    refine J79 H ?_
    clear H; intro w H
    refine J0 H ?_
    replace H := Js [2,2,0] 1 H
    refine C_ret (Jz H (fun w' H' => .cellN H' rfl (by repeat (first | exact Reads.nil _ | apply Reads.cons rfl)) (.tmp .nil)) fun w' H' => ⟨i', g', -1, rfl, .inr ⟨rfl, ?_⟩, ?_, hout, H'.drop⟩)
    · intro x y n h1 h2 hn
      exact hno n x y (List.getElem?_eq_some_iff.1 hn).1 hn ⟨h1, h2⟩
    · intro h1 h2 _
      obtain ⟨n, x, y, hn, h3, h4⟩ := hin h1 h2
      exact hno n x y (List.getElem?_eq_some_iff.1 hn).1 hn ⟨h3, h4⟩
end Go.Proofs.YtcaaojbnjfdglaaGreatDoor
namespace Go.Proofs.YtcaaojbnjfdglaaGreatDoor
open Go.SL

theorem veq_refl3 (a b c : Int) : veq [.int .i64 a, .int .i64 b, .int .i64 c] [.int .i64 a, .int .i64 b, .int .i64 c] = true := by
  simp [veq]

theorem eql_veq (xs ys : List Value) : (if isEql BinOp.eql = true then veq xs ys else !veq xs ys) = veq xs ys := if_pos rfl

theorem link_spec [Extra] (p c mo : Nat) (a : Option Addr) (cap : Nat) (told : List (Nat × Nat)) (kd t : Nat) (hkd : kd ≤ 2) (ht : kd = 2 → t < told.length) {w : World} {fr : List HProp} (H : Holds w (RROW p c mo (.slice a told.length cap) :: TKL (.slice a told.length cap) told :: fr)) :
    Calls Tryz.prog 50 #[pp p, lkv (lnkM told kd t), .int .i64 kd, .int .i64 t] w (ret fun v w' => v = .bool true ∧ Holds w' (RROW p c mo (.slice a told.length cap) :: TKL (.slice a told.length cap) told :: fr)) := by
  by_cases h2 : kd = 2
  · subst h2
    have hlt := ht rfl
    have hn := List.getElem?_eq_getElem hlt
    generalize told[t] = xy at hn
    obtain ⟨x, y⟩ := xy
    have hln : lnkM told 2 t = .obj x y := by unfold lnkM; rw [if_pos rfl, hn]; rfl
    rw [hln]
    refine calls_of Tryz.func50 rfl (by kernel_rfl) ?_
    refine J5 H ?_
    clear H; intro b5 w H
    refine J28 H ?_
    refine J11 H ?_
    replace H := Js [2,0,0] 0 H
    obtain ⟨bT, sT, rfl, H, hcl⟩ := sls_open H (by omega)
    refine J1 H ?_
    clear H; intro w H
    refine J153 H ?_
    refine A_load1 4 [] H rfl (Wants.none rfl) rfl rfl (by kernel_rfl) ?_
    refine A_lenSlice 5 rfl (Wants.none rfl) rfl (by kernel_rfl) ?_
    refine A_pv 6 rfl (Wants.none rfl) rfl (by kernel_rfl) ?_
    rw [show decide ((t : Int) < (told.length : Int)) = true from decide_eq_true (by omega)]
    refine J63 H ?_
    refine A_loadN 8 [] H rfl (Wants.of rfl rfl rfl) rfl (by repeat (first | exact Reads.nil _ | apply Reads.cons rfl)) (by kernel_rfl) ?_
    refine J237 H ?_
    refine A_pv 10 rfl (Wants.of rfl rfl rfl) rfl (by kernel_rfl) ?_
    refine A_fieldAddr 11 rfl (Wants.of rfl rfl rfl) rfl (by kernel_rfl) ?_
    refine A_load1 12 [] H rfl (Wants.of rfl rfl rfl) rfl rfl (by kernel_rfl) ?_
    refine A_pv 13 rfl (Wants.of rfl rfl rfl) rfl (by kernel_rfl) ?_
    refine A_indexAddr 14 rfl (Wants.of rfl rfl rfl) rfl rfl (by omega) (by omega) (by kernel_rfl) ?_
    refine A_loadN 15 [] H rfl (Wants.of rfl rfl rfl) rfl (tkc_reads hn) (by kernel_rfl) ?_
    refine A_build 16 rfl (Wants.of rfl rfl rfl) rfl (by kernel_rfl) ?_
    refine A_eqAgg 17 rfl (Wants.of rfl rfl rfl) rfl rfl rfl rfl (.inl rfl) (by kernel_rfl) ?_
    rw [eql_veq, veq_refl3]
    refine J169 H ?_
    refine A_pv 19 rfl (Wants.none rfl) rfl (by kernel_rfl) ?_
    refine J2 H ?_
    replace H := hcl _ _ H
    replace H := Js [2,0] 1 H
    exact C_ret (Jy H rfl fun w' H' => ⟨rfl, H'⟩)
  · have hln : lkv (lnkM told kd t) = .agg #[.int .i64 kd, .int .i64 0, .int .i64 0] := by
      unfold lnkM
      rw [if_neg h2]
      by_cases h1 : kd = 1
      · subst h1; rfl
      · obtain rfl : kd = 0 := by omega
        rfl
    rw [hln]
    refine calls_of Tryz.func50 rfl (by kernel_rfl) ?_
    refine J5 H ?_
    clear H; intro b5 w H
    refine J28 H ?_
    rw [show ((kd : Int) == 2) = false by simp; omega]
    refine J6 H ?_
    refine J29 H ?_
    refine J12 H ?_
    refine J55 H ?_
    refine Lp_s rfl (St_eqAgg rfl rfl rfl rfl (.inl rfl) rfl ?_)
    refine J0 H ?_
    have hv := veq_refl3 kd 0 0
    exact C_ret (Jy H.drop rfl fun w' H' => ⟨congrArg Value.bool ((eql_veq _ _).trans hv), H'⟩)
end Go.Proofs.YtcaaojbnjfdglaaGreatDoor
namespace Go.Proofs.YtcaaojbnjfdglaaGreatDoor
open Go.SL

/-- A run of free chunks. -/
def FreeRun (own : List Nat) (n : Nat) : Prop := ∃ a, a + n ≤ own.length ∧ ∀ i, a ≤ i → i < a + n → own.getD i 0 = 0
theorem run_spec [Extra] (p c mo : Nat) (v : Value) (s : CS) {w : World} {fr : List HProp} (H : Holds w (RROW p c mo v :: CELL c s :: fr)) :
    Calls Tryz.prog 116 #[pp p] w (ret fun x w' => ∃ b : Nat, x = .int .i64 b ∧ FreeRun s.own b ∧ Holds w' (RROW p c mo v :: CELL c s :: fr)) := by
  obtain ⟨q, mem, hw, hm, H⟩ := CELL_out H.swap
  have hol := hw.own.2
  refine calls_of Tryz.func116 rfl (by kernel_rfl) ?_
  refine J27 H ?_
  refine J4 H ?_
  replace H := Js [3,0,0,0,0,0,0,0,0,0,0,0] 0 H
  refine J238 H ?_
  refine Jc rfl rfl (Chunks_spec q.sp s.size mem s.own H) ?_
  clear H; rintro v w ⟨rfl, H⟩
  refine J35 H ?_
  refine C_loop (fun ms σ w n => ms = [] ∧ ∃ j row best : Nat, j ≤ s.own.length ∧ n = s.own.length - j ∧ row ≤ j ∧ best ≤ j ∧ (∀ i, j - row ≤ i → i < j → s.own.getD i 0 = 0) ∧ (∃ a, a + best ≤ j ∧ ∀ i, a ≤ i → i < a + best → s.own.getD i 0 = 0) ∧ σ 0 = pp p ∧ σ 3 = .int .i64 best ∧ σ 4 = .int .i64 row ∧ σ 13 = .int .i64 s.own.length ∧ σ 14 = .int .i64 j ∧
    Holds w (ST q.sp s.size mem s.own :: CROW c q :: IMG q.ip q.sp q.bp :: BOOK q.bp s.lays :: TAB q.tp s.tab :: TRE q.trp s.last s.par :: RS q.rp s.rem :: mp (ki .i64) ptrv q.sm (s.sps.map spkey) :: star (s.sps.map (spres q.sp)) :: mp (ki .i64) ptrv q.mm (s.mns.map mnkey) :: star (s.mns.map mnres) :: RROW p c mo v :: fr)) (m := s.own.length) ⟨rfl, 0, 0, 0, by omega, rfl, by omega, by omega, by omega, ⟨0, by omega, by omega⟩, rfl, rfl, rfl, rfl, rfl, H⟩ ?_
  clear H
  rintro ms σ w n ⟨rfl, j, row, best, hj, rfl, hrj, hbj, hrow, hbest, g0, g3, g4, g13, g14, H⟩
  rw [upd_self g0, upd_self g3, upd_self g4, upd_self g13, upd_self g14]
  refine J26 H ?_
  refine C_dec rfl (fun h => C_skip ?_) (fun h => C_exit ?_)
  · have hlt : j < s.own.length := by omega
    refine J164 H ?_
    refine J15 H ?_
    rw [inc64 (by omega)]
    refine J239 H ?_
    refine Jc rfl rfl (Owner_spec q.sp s.size mem s.own j H hlt) ?_
    clear H; rintro v w ⟨rfl, H⟩
    refine J0 H ?_
    by_cases h0 : s.own.getD j 0 = 0
    · rw [show (((s.own.getD j 0 : Nat) : Int) != 0) = false by rw [h0]; rfl]
      refine J205 H ?_
      refine J103 H ?_
      rw [show (if ((row + 1 : Nat) : Int) > ((best : Nat) : Int) then ((row + 1 : Nat) : Int) else ((best : Nat) : Int)) = ((max best (row + 1) : Nat) : Int) by split <;> omega]
      refine J28 H ?_
      rw [inc64 (by omega)]
      refine ⟨_, ⟨rfl, j + 1, row + 1, max best (row + 1), hlt, rfl, by omega, by omega, ?_, ?_, rfl, rfl, rfl, rfl, rfl, H⟩, by omega⟩
      · intro i h1 h2
        by_cases hij : i = j
        · rw [hij]; exact h0
        · exact hrow i (by omega) (by omega)
      · by_cases hb : row + 1 ≤ best
        · obtain ⟨a, h1, h2⟩ := hbest
          rw [Nat.max_eq_left hb]
          exact ⟨a, by omega, h2⟩
        · rw [Nat.max_eq_right (by omega)]
          refine ⟨j - row, by omega, fun i h1 h2 => ?_⟩
          by_cases hij : i = j
          · rw [hij]; exact h0
          · exact hrow i (by omega) (by omega)
    · rw [show (((s.own.getD j 0 : Nat) : Int) != 0) = true by rw [bne_iff_ne]; omega]
      refine J31 H ?_
      refine J7 H ?_
      refine J103 H ?_
      rw [show (if (0 : Int) > ((best : Nat) : Int) then (0 : Int) else ((best : Nat) : Int)) = ((best : Nat) : Int) by split <;> omega]
      refine J28 H ?_
      rw [inc64 (by omega)]
      obtain ⟨a, h1, h2⟩ := hbest
      exact ⟨_, ⟨rfl, j + 1, 0, best, hlt, rfl, by omega, by omega, by omega, ⟨a, by omega, h2⟩, rfl, rfl, rfl, rfl, rfl, H⟩, by omega⟩
  · obtain ⟨a, h1, h2⟩ := hbest
    refine J4 H ?_
    replace H := Js [1,1,1,0,0,0,0,0,0,0,0,0] 0 H
    exact C_ret (Jy ((CELL_in hw hm H).swap) rfl fun w' H' => ⟨best, rfl, ⟨a, by omega, h2⟩, H'⟩)
end Go.Proofs.YtcaaojbnjfdglaaGreatDoor
namespace Go.Proofs.YtcaaojbnjfdglaaGreatDoor
open Go.SL

theorem veq_info (a b c d : Int) (e : Bool) : veq [.int .i64 a, .int .i64 b, .int .i64 c, .int .i64 d, .bool e] [.int .i64 a, .int .i64 b, .int .i64 c, .int .i64 d, .bool e] = true := by
  simp [veq]
theorem tellR_spec [Extra] (p c mo : Nat) (v : Value) (s : CS) (m : MS) (told : List (Nat × Nat)) (R : RelW s m told) (i g o : Int) (P : Vd s m told i g o) {w : World} {fr : List HProp} (H : Holds w (RROW p c mo v :: CELL c s :: MODEL mo m :: fr)) :
    Calls Tryz.prog 55 #[pp p, tkI2 i g, .int .i64 o] w (ret fun x w' => x = .bool true ∧ Holds w' (RROW p c mo v :: CELL c s :: MODEL mo m :: fr)) := by
  have hT := fun (w : World) (fr : List HProp) (H : Holds w (CELL c s :: fr)) => Tell_spec c s i g H
  rw [tell_lawV R P] at hT
  obtain ⟨a1, a2, a3, a4, a5, a6, hsh⟩ : ∃ a1 a2 a3 a4 a5 a6, tellM (valM m o) = .tuple #[.agg #[.int .i64 a1, .int .i64 a2, .int .i64 a3, .int .i64 a4, .bool a5], .int .i64 a6] := by
    cases valM m o <;> exact ⟨_, _, _, _, _, _, rfl⟩
  refine calls_of Tryz.func55 rfl (by kernel_rfl) ?_
  refine J5 H ?_
  clear H; intro b4 w H
  refine J0 H ?_
  replace H := Js [2,0,0,0] 0 H
  refine J10 H ?_
  refine C_join (fun ms σ w => ms = [] ∧ ∃ b7, σ 0 = pp p ∧ σ 2 = .int .i64 o ∧ σ 7 = pp b7 ∧ σ 8 = .int .i64 a6 ∧ Holds w (pts b7 (row 44 [.int .i64 a1, .int .i64 a2, .int .i64 a3, .int .i64 a4, .bool a5]) :: RROW p c mo v :: CELL c s :: MODEL mo m :: fr)) ?_ ?_
  · refine J1 H ?_
    clear H; intro w H
    refine J229 H ?_
    refine A_two 5 9 rfl rfl (by kernel_rfl) (by repeat first | exact .nil | refine .cons (.inr H.at) ?_ | refine .cons (.inr H.mp) ?_ | refine .cons (.inl (by kernel_rfl)) ?_) (Wants.none rfl) (Wants.none rfl) (St_call (a := []) (b := []) rfl rfl (call (hT _ _ H) ?_)) (St_alloc H rfl ?_)
    · clear H; rintro v w ⟨rfl, H⟩
      rw [hsh]
      refine J230 H ?_
      clear H; intro b7 w H
      refine J231 H ?_
      clear H; intro w H
      refine J93 H ?_
      replace H := Js [0,2,0,1] 1 H
      exact ⟨rfl, rfl, b7, rfl, rfl, rfl, rfl, H⟩
    · clear H; intro b7 w H
      refine Jo 5 H ?_
      refine Jk rfl rfl (hT _ _ H.swap) ?_
      clear H; rintro v w ⟨rfl, H⟩
      rw [hsh]
      refine J232 H ?_
      clear H; intro w H
      refine J93 H ?_
      replace H := Js [1,2,0,1] 1 H
      exact ⟨rfl, rfl, b7, rfl, rfl, rfl, rfl, H⟩
  clear H
  rintro ms σ w ⟨rfl, b7, g0, g2, g7, g8, H⟩
  rw [upd_self g0, upd_self g2, upd_self g7, upd_self g8]
  replace H := Js [3,0,0,0] 0 H
  refine J13 H ?_
  refine Jc rfl rfl (Valid_spec mo m o H) ?_
  clear H; rintro v w ⟨rfl, H⟩
  
  cases hv : valM m o with
  | none =>
    rw [hv] at hsh
    cases hsh
    refine J0 H ?_
    refine J11 H ?_
    refine J8 H ?_
    refine J170 H ?_
    refine Lp_g rfl rfl rfl (St_eqAgg rfl rfl rfl rfl (.inl rfl) rfl ?_)
    refine J3 H ?_
    replace H := Js [2,2,0] 1 H
    exact C_ret (Jy H rfl fun w' H' => ⟨congrArg Value.bool ((eql_veq _ _).trans (veq_info 0 0 0 0 false)), H'⟩)
  | some nx =>
    obtain ⟨n, x⟩ := nx
    rw [hv] at hsh
    cases hsh
    obtain ⟨rfl, hx, hh, hg⟩ := valM_some hv
    have hol := (List.getElem?_eq_some_iff.1 hx).1
    obtain ⟨t, lc, aL, cL, bO, cO, sO, ptrs, q, vw, vk, vt, rest, hm, h2, hp, H, hclose⟩ := MODEL_at H hx
    have hm' := set_same hx hm
    obtain ⟨aw, cw, rfl⟩ := sls_slice H.drop (ucells_length _) (by decide)
    refine J19 H ?_
    refine J239 H ?_
    refine Lp_s rfl (St_indexAddr rfl rfl (by omega) (by omega) rfl ?_)
    refine Lp_s rfl (St_load1 H rfl hp rfl ?_)
    refine J0 H ?_
    refine J1 H ?_
    clear H; intro w H
    refine J145 H ?_
    refine A_loadN 3 [] H rfl (Wants.of rfl rfl rfl) rfl (by repeat (first | exact Reads.nil _ | apply Reads.cons rfl)) (by kernel_rfl) ?_
    refine A_pv 4 rfl (Wants.of rfl rfl rfl) rfl (by kernel_rfl) ?_
    refine J171 H ?_
    refine A_fieldAddr 6 rfl (Wants.of rfl rfl rfl) rfl (by kernel_rfl) ?_
    refine A_load1 7 [] H rfl (Wants.of rfl rfl rfl) rfl rfl (by kernel_rfl) ?_
    refine A_pv 8 rfl (Wants.of rfl rfl rfl) rfl (by kernel_rfl) ?_
    refine J237 H ?_
    refine A_fieldAddr 10 rfl (Wants.of rfl rfl rfl) rfl (by kernel_rfl) ?_
    refine A_load1 11 [] H rfl (Wants.of rfl rfl rfl) rfl rfl (by kernel_rfl) ?_
    refine A_pv 12 rfl (Wants.of rfl rfl rfl) rfl (by kernel_rfl) ?_
    refine A_pv 13 rfl (Wants.of rfl rfl rfl) rfl (by kernel_rfl) ?_
    refine A_fieldAddr 14 rfl (Wants.of rfl rfl rfl) rfl (by kernel_rfl) ?_
    refine A_load1 15 [] H rfl (Wants.of rfl rfl rfl) rfl rfl (by kernel_rfl) ?_
    refine A_pv 16 rfl (Wants.of rfl rfl rfl) rfl (by kernel_rfl) ?_
    refine A_pv 17 rfl (Wants.of rfl rfl rfl) rfl (by kernel_rfl) ?_
    refine J225 H ?_
    refine J256 H ?_
    refine A_lenSlice 20 rfl (Wants.of rfl rfl rfl) rfl (by kernel_rfl) ?_
    refine A_pv 21 rfl (Wants.of rfl rfl rfl) rfl (by kernel_rfl) ?_
    refine A_pv 22 rfl (Wants.of rfl rfl rfl) rfl (by kernel_rfl) ?_
    refine A_fieldAddr 23 rfl (Wants.of rfl rfl rfl) rfl (by kernel_rfl) ?_
    refine A_load1 24 [] H rfl (Wants.of rfl rfl rfl) rfl rfl (by kernel_rfl) ?_
    refine A_build 25 rfl (Wants.of rfl rfl rfl) rfl (by kernel_rfl) ?_
    refine A_eqAgg 26 rfl (Wants.of rfl rfl rfl) rfl rfl rfl rfl (.inl rfl) (by kernel_rfl) ?_
    rw [eql_veq, veq_info]
    refine A_pv 27 rfl (Wants.none rfl) rfl (by kernel_rfl) ?_
    refine A_pv 28 rfl (Wants.none rfl) rfl (by kernel_rfl) ?_
    refine J2 H ?_
    replace H := MODEL_same hx (hclose _ _ _ hm' H)
    replace H := Js [2,2,0] 1 H
    exact C_ret (Jy H rfl fun w' H' => ⟨rfl, H'⟩)
end Go.Proofs.YtcaaojbnjfdglaaGreatDoor
namespace Go.SL
section
variable {P : Program} {n : Nat} {r : Option Nat} {ops : Array Oper} {σ : Env} {w : World}
variable {ivs : List (List Nat × (World → Prop))} {T : Env → World → Prop} {f : Nat} {L : Array Bool}
variable {u : TypeId} {p : String} {af : Array Edge} {g : Option (Nat × Bool)} {d : Option Tmp} {x y : Operand}
end
end Go.SL
namespace Go.Proofs.YtcaaojbnjfdglaaGreatDoor
open Go.SL

def shapeT (ts : List Slt) : List (Nat × Bool) := ts.map fun t => (t.gen, t.ent.isSome)
theorem shape_set {ts : List Slt} {k g : Nat} {e e' : Ent} (h : ts[k]? = some ⟨g, some e⟩) : shapeT (ts.set k ⟨g, some e'⟩) = shapeT ts := by
  unfold shapeT
  rw [List.map_set]
  apply List.ext_getElem?
  intro i
  rw [List.getElem?_set]
  split
  · rename_i hi
    subst hi
    have := (List.getElem?_eq_some_iff.1 h).1
    rw [List.getElem?_map, h]
    simp [this]
  · rfl
/-- What an act leaves: no slot is another's, but of what is made. -/
structure Step (s : CS) (m : MS) (told : List (Nat × Nat)) (s' : CS) (m' : MS) (told' : List (Nat × Nat)) : Prop where
  P : m'.P.length ≤ m.P.length + 1
  objs : m'.objs.length ≤ m.objs.length + 1
  tab : (told' = told ∧ shapeT s'.tab = shapeT s.tab) ∨ ∃ k g0 : Nat, told' = told ++ [(k, g0 + 1)] ∧ s.tab[k]? = some ⟨g0, none⟩ ∧ (∀ (j : Nat) (t : Slt), j < k → s.tab[j]? = some t → busy t = true) ∧ shapeT s'.tab = (shapeT s.tab).set k (g0 + 1, true)

/-- What Make does, in its four cases. -/
def Made (s : CS) (region id count : Int) (i g e : Nat) (s' : CS) : Prop :=
  (makeE s region id count ≠ 0 ∧ i = 0 ∧ g = 0 ∧ e = makeE s region id count ∧ s' = s) ∨
  (makeE s region id count = 0 ∧ (∀ t ∈ s.tab, busy t = true) ∧ i = 0 ∧ g = 0 ∧ e = 12 ∧ s' = s) ∨
  (makeE s region id count = 0 ∧ (∀ a, a + (makeN s id count / s.size + 1) ≤ s.own.length → ∃ i, a ≤ i ∧ i < a + (makeN s id count / s.size + 1) ∧ s.own.getD i 0 ≠ 0) ∧ i = 0 ∧ g = 0 ∧ e = 11 ∧ s' = s) ∨
  (makeE s region id count = 0 ∧ e = 0 ∧ ∃ g0 addr, s.tab[i]? = some ⟨g0, none⟩ ∧ g0 ≤ 254 ∧ (∀ (j : Nat) (t : Slt), j < i → s.tab[j]? = some t → busy t = true) ∧ g = g0 + 1 ∧
    s'.size = s.size ∧ s'.lays = s.lays ∧ s'.last = s.last ∧ s'.par = s.par ∧ s'.rem = s.rem ∧ s'.tab = s.tab.set i ⟨g0 + 1, some ⟨addr, region, true, false, id.toNat, count.toNat, List.replicate (makeN s id count) 0⟩⟩ ∧ Grows s.own s'.own (makeN s id count / s.size + 1))
theorem eql_pair (x y : Int × Int) : (if isEql BinOp.eql = true then decide (x = y) else !decide (x = y)) = decide (x = y) := if_pos rfl
theorem Make_all [Extra] (p : Nat) (s : CS) (region id count : Int) (hseq : Seq s) {w : World} {fr : List HProp} [hT : HasTab 0 Lib.deBruijn64tab fr] (H : Holds w (CELL p s :: fr)) :
    Calls Tryz.prog 29 #[pp p, .int .i64 region, .int .i64 id, .int .i64 count] w (ret fun v w' => ∃ i g e s', v = .tuple #[tkn i g, .int .i64 (e : Nat)] ∧ Made s region id count i g e s' ∧ Holds w' (CELL p s' :: fr)) := by
  refine call (Make_spec p s region id count hseq H) ?_
  rintro v w (⟨h1, rfl, H⟩ | ⟨h1, h2, rfl, H⟩ | ⟨h1, h2, rfl, H⟩ | ⟨h1, k, g0, addr, s', h2, h3, h4, rfl, h5, h6, h7, h8, h9, h10, h11, H⟩)
  · exact ⟨0, 0, makeE s region id count, s, rfl, .inl ⟨h1, rfl, rfl, rfl, rfl⟩, H⟩
  · exact ⟨0, 0, 12, s, rfl, .inr (.inl ⟨h1, h2, rfl, rfl, rfl, rfl⟩), H⟩
  · exact ⟨0, 0, 11, s, rfl, .inr (.inr (.inl ⟨h1, h2, rfl, rfl, rfl, rfl⟩)), H⟩
  · exact ⟨k, g0 + 1, 0, s', rfl, .inr (.inr (.inr ⟨h1, rfl, g0, addr, h2, h3, h4, rfl, h5, h6, h7, h8, h9, h10, h11⟩)), H⟩

theorem made_spec [Extra] (p c mo : Nat) (a : Option Addr) (cap : Nat) (s : CS) (m : MS) (told : List (Nat × Nat)) (R : Rel s m told) (hseq : Seq s) (hfew : m.objs.length < 100000) (k A B C X i g : Int) (kX : IntKind) (vW : Value) (raw : Bool) (hvW : vW.oneCell' = true) {w : World} {fr : List HProp} [hT : HasTab 0 Lib.deBruijn64tab fr]
    (H : Holds w (RROW p c mo (.slice a told.length cap) :: CELL c s :: MODEL mo m :: TKL (.slice a told.length cap) told :: fr)) :
    Calls Tryz.prog 48 #[pp p, .agg #[.int .i64 k, .int .i64 A, .int .i64 B, .int .i64 C, .int .u64 X, vW, .bool raw, .int .i64 i, .int .i64 g]] w (ret fun v w' => v = .bool true ∧ ∃ s' m' told' a' cap', Rel s' m' told' ∧ Step s m told s' m' told' ∧ Holds w' (RROW p c mo (.slice a' told'.length cap') :: CELL c s' :: MODEL mo m' :: TKL (.slice a' told'.length cap') told' :: fr)) := by
  refine calls_of Tryz.func48 rfl (by kernel_rfl) ?_
  refine J5 H ?_
  clear H; intro b3 w H
  refine J18 H ?_
  refine C_join (fun ms σ w => ms = [] ∧ ∃ (b5 i' g' e : Nat) (s' : CS), Made s A B C i' g' e s' ∧ σ 0 = pp p ∧ σ 3 = pp b3 ∧ σ 5 = pp b5 ∧ σ 6 = .int .i64 e ∧ Holds w (pts b5 (row 32 [.int .i64 i', .int .i64 g']) :: pts b3 (row 34 [.int .i64 k, .int .i64 A, .int .i64 B, .int .i64 C, .int .u64 X, vW, .bool raw, .int .i64 i, .int .i64 g]) :: RROW p c mo (.slice a told.length cap) :: CELL c s' :: MODEL mo m :: TKL (.slice a told.length cap) told :: fr)) ?_ ?_
  · replace H := Js [2,0,0,0,0] 0 H
    refine J1 H ?_
    clear H; intro w H
    refine J14 H ?_
    refine A_load1 3 [10, 15] H rfl (Wants.none rfl) rfl rfl (by kernel_rfl) ?_
    refine J32 H ?_
    refine A_load1 5 [10, 15] H rfl (Wants.none rfl) rfl rfl (by kernel_rfl) ?_
    refine J66 H ?_
    refine A_load1 7 [10, 15] H rfl (Wants.none rfl) rfl rfl (by kernel_rfl) ?_
    refine J120 H ?_
    refine A_load1 9 [10, 15] H rfl (Wants.none rfl) rfl rfl (by kernel_rfl) ?_
    refine A_two 10 14 rfl rfl (by kernel_rfl) (by repeat first | exact .nil | refine .cons (.inr H.at) ?_ | refine .cons (.inr H.mp) ?_ | refine .cons (.inl (by kernel_rfl)) ?_) (Wants.none rfl) (Wants.none rfl) (St_call (a := []) (b := []) rfl rfl (call (Make_all c s A B C hseq H) ?_)) (St_alloc H rfl ?_)
    · clear H; rintro v w ⟨i', g', e, s', rfl, hM, H⟩
      refine J127 H ?_
      refine J91 H ?_
      refine Jo 14 H ?_
      refine St_alloc H rfl ?_
      clear H; intro b5 w H
      refine Jo 15 H ?_
      refine J33 H ?_
      clear H; intro w H
      refine J82 H ?_
      refine J2 H ?_
      replace H := Js [0,1,1,0,0,0] 0 H
      exact ⟨rfl, rfl, b5, i', g', e, s', hM, rfl, rfl, rfl, rfl, H⟩
    · clear H; intro b5 w H
      refine Jo 10 H ?_
      refine Jk rfl rfl (Make_all c s A B C hseq H.swap) ?_
      clear H; rintro v w ⟨i', g', e, s', rfl, hM, H⟩
      refine J127 H ?_
      refine J91 H ?_
      refine Jo 15 H ?_
      refine J33 H ?_
      clear H; intro w H
      refine J82 H ?_
      refine J2 H ?_
      replace H := Js [1,1,1,0,0,0] 0 H
      exact ⟨rfl, rfl, b5, i', g', e, s', hM, rfl, rfl, rfl, rfl, H⟩
  clear H
  rintro ms σ w ⟨rfl, b5, i', g', e, s', hM, g0, g3, g5, g6, H⟩
  rw [upd_self g0, upd_self g3, upd_self g5, upd_self g6]
  obtain ⟨hm1, hm2⟩ := may_law R A B C
  replace H := Js [4,0,0,0,0,0] 0 H
  refine J1 H ?_
  clear H; intro w H
  refine J14 H ?_
  refine A_load1 3 [10] H rfl (Wants.none rfl) rfl rfl (by kernel_rfl) ?_
  refine J32 H ?_
  refine A_load1 5 [10] H rfl (Wants.none rfl) rfl rfl (by kernel_rfl) ?_
  refine J66 H ?_
  refine A_load1 7 [10] H rfl (Wants.none rfl) rfl rfl (by kernel_rfl) ?_
  refine J120 H ?_
  refine A_load1 9 [10] H rfl (Wants.none rfl) rfl rfl (by kernel_rfl) ?_
  refine Jo 10 H ?_
  refine Jk rfl rfl (May15_spec mo m A B C H) ?_
  clear H; rintro v w ⟨rfl, H⟩
  refine J127 H ?_
  refine J139 H ?_
  refine J30 H ?_
  rcases hM with ⟨h1, rfl, rfl, rfl, rfl⟩ | ⟨h1, h2, rfl, rfl, rfl, rfl⟩ | ⟨h1, h2, rfl, rfl, rfl, rfl⟩ | ⟨h1, rfl, g0', addr, h2, h3, h4, rfl, h5, h6, h7, h8, h9, h10, h11⟩
  · have hw' : (mayM m A B C).2 ≠ 0 := by rw [← hm1]; exact h1
    refine J15 H ?_
    rw [show ((((mayM m A B C).2 : Nat) : Int) != 0) = true by rw [bne_iff_ne]; omega]
    refine J11 H ?_
    refine J8 H ?_
    rw [show ((((makeE s' A B C : Nat) : Int)) == (((mayM m A B C).2 : Nat) : Int)) = true by rw [hm1]; exact beq_self_eq_true _]
    refine J12 H ?_
    refine J170 H ?_
    refine Lp_g rfl rfl rfl (St_eqPair rfl rfl (.inl rfl) rfl ?_)
    refine J3 H ?_
    replace H := Js [3,3,0,2] 2 H
    exact C_ret (Jy H rfl fun w' H' => ⟨rfl, s', m, told, a, cap, R, ⟨by omega, by omega, .inl ⟨rfl, rfl⟩⟩, H'⟩)
  · have hw' : (mayM m A B C).2 = 0 := by rw [← hm1]; exact h1
    rw [hw']
    refine J72 H ?_
    refine J15 H ?_
    refine J11 H ?_
    replace H := Js [4,0,0,0,0,0] 0 H
    obtain ⟨q, mem, hw, hm, H⟩ := CELL_out H
    replace H := Js [4,0,0,0,0,0,0,0,0,0,0,0,0,0,0,0] 0 H
    refine J238 H ?_
    refine Jc rfl rfl (Left_spec q.tp s'.tab H) ?_
    clear H; rintro v w ⟨rfl, H⟩
    have hbt : s'.tab.length - busyT s'.tab = 0 := by
      unfold busyT
      rw [List.filter_eq_self.2 h2, Nat.sub_self]
    rw [hbt]
    refine J20 H ?_
    refine J170 H ?_
    refine Lp_g rfl rfl rfl (St_eqPair rfl rfl (.inl rfl) rfl ?_)
    refine J3 H ?_
    replace H := Js [1,1,1,1,0,0,0,0,0,0,0,0,0,0,0,0] 0 H
    replace H := CELL_in hw hm H
    replace H := Js [4,0,0,2] 2 H
    exact C_ret (Jy H rfl fun w' H' => ⟨rfl, s', m, told, a, cap, R, ⟨by omega, by omega, .inl ⟨rfl, rfl⟩⟩, H'⟩)
  · have hw' : (mayM m A B C).2 = 0 := by rw [← hm1]; exact h1
    have hn := hm2 hw'
    rw [hw', ← hn]
    refine J72 H ?_
    refine J72 H ?_
    refine J15 H ?_
    refine J11 H ?_
    replace H := Js [4,0,0,0,0,0] 0 H
    obtain ⟨q, mem, hw, hm, H⟩ := CELL_out H
    replace H := Js [3,0,0,0,0,0,0,0,0,0,0,0,0,0,0,0] 0 H
    refine J238 H ?_
    refine Jc rfl rfl (Words_spec q.sp s'.size mem s'.own H) ?_
    clear H; rintro v w ⟨rfl, H⟩
    replace H := Js [1,1,1,0,0,0,0,0,0,0,0,0,0,0,0,0] 0 H
    replace H := CELL_in hw hm H
    refine J0 H ?_
    replace H := Js [4,0,0,0,0,0] 0 H
    have hsz := hw.size
    have hpos : s'.size > 0 := by omega
    have hmx : (if (1 : Int) > ((s'.size : Nat) : Int) then (1 : Int) else ((s'.size : Nat) : Int)) = ((s'.size : Nat) : Int) := by split <;> omega
    have hnlt : makeN s' B C < 100000 := by
      obtain ⟨r, la, c', l, _, _, _, _, _, e1, e2, e3⟩ := mayM_ok hw'
      rw [hn, e1, e2]
      show l.fixed + c' * l.record < _
      omega
    refine J1 H ?_
    clear H; intro w H
    refine A_loadN 0 [9, 12] H rfl (Wants.none rfl) rfl (by repeat (first | exact Reads.nil _ | apply Reads.cons rfl)) (by kernel_rfl) ?_
    refine A_build 1 rfl (Wants.none rfl) rfl (by kernel_rfl) ?_
    refine A_eqPair 2 rfl (Wants.none rfl) rfl rfl (.inl rfl) (by kernel_rfl) ?_
    rw [eql_pair, decide_eq_true (show (((0 : Nat) : Int), ((0 : Nat) : Int)) = ((0 : Int), (0 : Int)) from rfl)]
    refine J53 H ?_
    refine A_pv 4 rfl (Wants.of rfl rfl rfl) rfl (by kernel_rfl) ?_
    refine J171 H ?_
    rw [show decide ((s'.size : Int) > 0) = true from decide_eq_true (by omega)]
    refine J147 H ?_
    refine A_pv 8 rfl (Wants.of rfl rfl rfl) rfl (by kernel_rfl) ?_
    refine A_pv 10 rfl (Wants.of rfl rfl rfl) rfl (by kernel_rfl) ?_
    refine J166 H ?_
    refine A_two 9 12 rfl rfl (by kernel_rfl) (by repeat first | exact .nil | refine .cons (.inr H.at) ?_ | refine .cons (.inr H.mp) ?_ | refine .cons (.inl (by kernel_rfl)) ?_) (Wants.of rfl rfl rfl) (Wants.of rfl rfl rfl) (St_call (a := []) (b := []) rfl rfl (call (run_spec p c mo _ s' H) ?_)) (St_max rfl rfl rfl ?_)
    · clear H; rintro v w ⟨bb, rfl, hfr, H⟩
      have hlt : bb < makeN s' B C / s'.size + 1 := by
        refine Nat.lt_of_not_le fun hle => ?_
        obtain ⟨a0, ha, hz⟩ := hfr
        obtain ⟨i0, hi1, hi2, hi3⟩ := h2 a0 (by omega)
        exact hi3 (hz i0 hi1 (by omega))
      have hdl : makeN s' B C / s'.size ≤ makeN s' B C := Nat.div_le_self _ _
      refine Jo 12 H ?_
      refine St_max rfl rfl rfl ?_
      rw [hmx]
      refine A_pv (v := .int .i64 ((makeN s' B C / s'.size : Nat) : Int)) 13 rfl (Wants.of rfl rfl rfl) (by
        show (if IntKind.i64 = IntKind.i64 then (if ((s'.size : Nat) : Int) = 0 then none else some (Value.int IntKind.i64 (IntKind.i64.wrap (Int.tdiv ((makeN s' B C : Nat) : Int) ((s'.size : Nat) : Int))))) else none) = _
        rw [if_pos rfl, if_neg (by omega), quoN (by omega)]) (by kernel_rfl) ?_
      refine J131 H ?_
      rw [inc64 (by omega)]
      refine J167 H ?_
      rw [show decide ((bb : Int) < ((makeN s' B C / s'.size + 1 : Nat) : Int)) = true from decide_eq_true (by omega)]
      refine J82 H ?_
      refine J240 H ?_
      replace H := Js [0,0,0,2] 2 H
      exact C_ret (Jy H rfl fun w' H' => ⟨rfl, s', m, told, a, cap, R, ⟨by omega, by omega, .inl ⟨rfl, rfl⟩⟩, H'⟩)
    · rw [hmx]
      have hdl : makeN s' B C / s'.size ≤ makeN s' B C := Nat.div_le_self _ _
      refine A_pv (v := .int .i64 ((makeN s' B C / s'.size : Nat) : Int)) 13 rfl (Wants.of rfl rfl rfl) (by
        show (if IntKind.i64 = IntKind.i64 then (if ((s'.size : Nat) : Int) = 0 then none else some (Value.int IntKind.i64 (IntKind.i64.wrap (Int.tdiv ((makeN s' B C : Nat) : Int) ((s'.size : Nat) : Int))))) else none) = _
        rw [if_pos rfl, if_neg (by omega), quoN (by omega)]) (by kernel_rfl) ?_
      refine J131 H ?_
      rw [inc64 (by omega)]
      refine Jo 9 H ?_
      refine Jk rfl rfl (run_spec p c mo _ s' H) ?_
      clear H; rintro v w ⟨bb, rfl, hfr, H⟩
      have hlt : bb < makeN s' B C / s'.size + 1 := by
        refine Nat.lt_of_not_le fun hle => ?_
        obtain ⟨a0, ha, hz⟩ := hfr
        obtain ⟨i0, hi1, hi2, hi3⟩ := h2 a0 (by omega)
        exact hi3 (hz i0 hi1 (by omega))
      refine J167 H ?_
      rw [show decide ((bb : Int) < ((makeN s' B C / s'.size + 1 : Nat) : Int)) = true from decide_eq_true (by omega)]
      refine J82 H ?_
      refine J240 H ?_
      replace H := Js [0,0,0,2] 2 H
      exact C_ret (Jy H rfl fun w' H' => ⟨rfl, s', m, told, a, cap, R, ⟨by omega, by omega, .inl ⟨rfl, rfl⟩⟩, H'⟩)
  · have hw' : (mayM m A B C).2 = 0 := by rw [← hm1]; exact h1
    rw [hw']
    obtain ⟨_, _, _, _, _, _, _, hmw, _⟩ := id (MODEL_out H)
    obtain ⟨hnew, R'⟩ := make_rel R hmw hw' h2 h6 h7 h8 h10
    have htl : told.length < 100000 := by rw [R.len]; exact hfew
    refine J72 H ?_
    refine J72 H ?_
    refine J72 H ?_
    refine J15 H ?_
    refine J6 H ?_
    replace H := Js [3,0,0,0,0,0] 0 H
    refine J184 H ?_
    replace H := Js [5,2,2,0,1,0] 0 H
    refine J30 H ?_
    refine C_loop (fun ms σ w q => ms = [] ∧ ∃ j : Nat, j ≤ told.length ∧ q = told.length - j ∧ σ 0 = pp p ∧ σ 3 = pp b3 ∧ σ 5 = pp b5 ∧ σ 102 = .slice a told.length cap ∧ σ 103 = .int .i64 told.length ∧ σ 104 = .int .i64 j ∧ Holds w (TKL (.slice a told.length cap) told :: pts b5 (row 32 [.int .i64 (i' : Nat), .int .i64 ((g0' + 1 : Nat) : Int)]) :: pts b3 (row 34 [.int .i64 k, .int .i64 A, .int .i64 B, .int .i64 C, .int .u64 X, vW, .bool raw, .int .i64 i, .int .i64 g]) :: RROW p c mo (.slice a told.length cap) :: CELL c s' :: MODEL mo m :: fr)) (m := told.length) ⟨rfl, 0, by omega, rfl, rfl, rfl, rfl, rfl, rfl, rfl, H⟩ ?_
    clear H
    rintro ms σ w q ⟨rfl, j, hj, rfl, g0, g3, g5, g102, g103, g104, H⟩
    rw [upd_self g0, upd_self g3, upd_self g5, upd_self g102, upd_self g103, upd_self g104]
    refine J26 H ?_
    refine C_dec rfl (fun h => C_skip ?_) (fun h => C_exit ?_)
    · have hlt : j < told.length := by omega
      have hn := List.getElem?_eq_getElem hlt
      generalize told[j] = xy at hn
      obtain ⟨x, y⟩ := xy
      obtain ⟨bT, sT, rfl, H, hcl⟩ := sls_open H (by omega)
      refine J110 H ?_
      refine Lp_s rfl (St_indexAddr rfl rfl (by omega) (by omega) rfl ?_)
      refine Lp_s rfl (St_loadN H rfl (tkc_reads hn) rfl ?_)
      refine J17 H ?_
      clear H; intro b11 w H
      refine J9 H ?_
      clear H; intro w H
      refine Lp_nil ?_
      refine J29 H ?_
      refine J60 H ?_
      refine Lp_s rfl (St_eqPair rfl rfl (.inl rfl) rfl ?_)
      refine Lp_nil ?_
      replace H := hcl _ _ H.drop
      refine C_dec (p := ((x : Int), (y : Int)) = (((i' : Nat) : Int), ((g0' + 1 : Nat) : Int))) rfl (fun he => ?_) (fun he => C_skip ?_)
      · exfalso
        injection he with e1 e2
        obtain rfl : x = i' := by omega
        obtain rfl : y = g0' + 1 := by omega
        exact hnew j hn
      · refine J4 H ?_
        exact ⟨_, ⟨rfl, j + 1, hlt, rfl, rfl, rfl, rfl, rfl, rfl, inc64 (by omega), H⟩, by omega⟩
    · replace H := Js [5,0,0,0,0,0] 0 H
      refine J1 H ?_
      clear H; intro w H
      refine J14 H ?_
      refine A_load1 3 [10] H rfl (Wants.none rfl) rfl rfl (by kernel_rfl) ?_
      refine J32 H ?_
      refine A_load1 5 [10] H rfl (Wants.none rfl) rfl rfl (by kernel_rfl) ?_
      refine J66 H ?_
      refine A_load1 7 [10] H rfl (Wants.none rfl) rfl rfl (by kernel_rfl) ?_
      refine J120 H ?_
      refine A_load1 9 [10] H rfl (Wants.none rfl) rfl rfl (by kernel_rfl) ?_
      refine Jo 10 H ?_
      refine Jk rfl rfl (Make15_spec mo m A B C hw' hfew H) ?_
      clear H; rintro v w ⟨rfl, H⟩
      refine J2 H ?_
      replace H := Js [1,1,2,0,0,0] 0 H
      refine J1 H ?_
      clear H; intro w H
      refine J153 H ?_
      refine A_load1 4 [7, 10] H rfl (Wants.none rfl) rfl rfl (by kernel_rfl) ?_
      refine J265 H ?_
      refine Jo 6 H ?_
      refine St_buildSlice H rfl rfl rfl ?_
      clear H; intro bS w H
      replace H := H.swap
      refine Jo 7 H ?_
      refine St_append H rfl rfl (by repeat (first | exact Reads.nil _ | apply Reads.cons rfl)) rfl (by decide) (by rw [tkc_length]; simp only [List.length_cons, List.length_nil]; omega) rfl rfl ?_
      clear H; intro vS w H
      have e1 : tkc told ++ [.int .i64 ((i' : Nat) : Int), .int .i64 ((g0' + 1 : Nat) : Int)] = tkc (told ++ [(i', g0' + 1)]) := by
        rw [tkc_append]; rfl
      rw [e1] at H
      obtain ⟨aS, cS, rfl⟩ := sls_slice H (m := (told ++ [(i', g0' + 1)]).length) (tkc_length _) (by decide)
      refine J57 H ?_
      refine A_fieldAddr 9 rfl (Wants.none rfl) rfl (by kernel_rfl) ?_
      refine Jo 10 H ?_
      refine J101 H ?_
      clear H; intro w H
      refine J2 H ?_
      refine J27 H ?_
      replace H := Js [3,5,3,0] 3 H
      refine C_ret (Jy H rfl fun w' H' => ⟨rfl, s', _, _, aS, cS, R', ⟨?_, ?_, .inr ⟨i', g0', rfl, h2, h4, ?_⟩⟩, H'⟩)
      · show m.P.length ≤ _
        omega
      · show (m.objs ++ [_]).length ≤ _
        simp
      · rw [h10]
        unfold shapeT
        rw [List.map_set]
        rfl
end Go.Proofs.YtcaaojbnjfdglaaGreatDoor
namespace Go.Proofs.YtcaaojbnjfdglaaGreatDoor
open Go.SL

theorem shape_setWS (s : CS) (i g p : Int) (x : Nat) : shapeT (setWS s i g p x).1.tab = shapeT s.tab := by
  cases hv : validT s.tab i g with
  | none => rw [setWS_none hv]
  | some q =>
    obtain ⟨k, e⟩ := q
    obtain ⟨n, rfl, rfl, hk, _⟩ := valid_at hv
    rw [setWS_some hv]
    split
    · rw [Int.toNat_natCast]; exact shape_set hk
    · rfl
theorem shape_dropS (s : CS) (i g : Int) : shapeT (dropS s i g).1.tab = shapeT s.tab := by
  cases hv : validT s.tab i g with
  | none => rw [dropS_none hv]
  | some q =>
    obtain ⟨k, e⟩ := q
    obtain ⟨n, rfl, rfl, hk, _⟩ := valid_at hv
    rw [dropS_some hv, Int.toNat_natCast]
    exact shape_set hk
theorem shape_pinS (s : CS) (i g : Int) (on : Bool) : shapeT (pinS s i g on).1.tab = shapeT s.tab := by
  cases hv : validT s.tab i g with
  | none => rw [pinS_none hv]
  | some q =>
    obtain ⟨k, e⟩ := q
    obtain ⟨n, rfl, rfl, hk, _⟩ := valid_at hv
    rw [pinS_some hv]
    split
    · rfl
    · rw [Int.toNat_natCast]; exact shape_set hk
theorem shape_tieS (s : CS) (i g p : Int) (l : Lnk) : shapeT (tieS s i g p l).1.tab = shapeT s.tab := by
  cases hv : validT s.tab i g with
  | none => rw [tieS_none hv]
  | some q =>
    obtain ⟨k, e⟩ := q
    obtain ⟨n, rfl, rfl, hk, _⟩ := valid_at hv
    rw [tieS_some hv]
    split
    · rw [Int.toNat_natCast]; exact shape_set hk
    · rfl
theorem shape_TieS (s : CS) (i g p u v : Int) : shapeT (TieS s i g p u v).1.tab = shapeT s.tab := by
  unfold TieS
  split
  · rfl
  · split
    · rfl
    · exact shape_tieS s i g p _
theorem shape_refS (s : CS) (i g p : Int) : shapeT (refS s i g p).tab = shapeT s.tab := by
  unfold refS
  split
  · rename_i a b _
    cases hl : lookT s.tab a b with
    | none => rw [holdS_none hl]
    | some q =>
      obtain ⟨k, e⟩ := q
      obtain ⟨n, h1, h2, hk⟩ := lookT_some.1 hl
      obtain rfl : b = n := by omega
      rw [holdS_some hl]
      exact shape_set hk
  · rfl
theorem shape_defS (s : CS) (ws : List Nat) : shapeT (defS s ws).1.tab = shapeT s.tab := by
  cases hd : decodeL ws with
  | none => rw [defS_none hd]
  | some l =>
    rw [defS_some hd]
    split <;> rfl
theorem len_setM (m : MS) (k : Nat) (x : Mob) : (setM m k x).objs.length = m.objs.length := List.length_set
theorem objs_cutM (m : MS) (o p : Int) : (cutM m o p).1.objs.length = m.objs.length ∧ (cutM m o p).1.P = m.P := by
  unfold cutM
  split
  · exact ⟨rfl, rfl⟩
  · split
    · exact ⟨len_setM _ _ _, rfl⟩
    · exact ⟨rfl, rfl⟩
theorem objs_tieM (m : MS) (o p u : Int) : (tieM m o p u).1.objs.length = m.objs.length ∧ (tieM m o p u).1.P = m.P := by
  unfold tieM
  split
  · exact ⟨rfl, rfl⟩
  · split
    · split
      · exact ⟨rfl, rfl⟩
      · exact ⟨len_setM _ _ _, rfl⟩
    · exact ⟨rfl, rfl⟩
theorem objs_dropM (m : MS) (o : Int) : (dropM m o).1.objs.length = m.objs.length ∧ (dropM m o).1.P = m.P := by
  unfold dropM
  split
  · exact ⟨rfl, rfl⟩
  · exact ⟨len_setM _ _ _, rfl⟩
theorem objs_pinM (m : MS) (o : Int) (on : Bool) : (pinM m o on).1.objs.length = m.objs.length ∧ (pinM m o on).1.P = m.P := by
  unfold pinM
  split
  · exact ⟨rfl, rfl⟩
  · split
    · exact ⟨rfl, rfl⟩
    · exact ⟨len_setM _ _ _, rfl⟩
theorem objs_holdM (m : MS) (t : Nat) : (holdM m t).objs.length = m.objs.length ∧ (holdM m t).P = m.P := by
  unfold holdM
  split
  · exact ⟨len_setM _ _ _, rfl⟩
  · exact ⟨rfl, rfl⟩
theorem objs_refM (m : MS) (o p : Int) : (refM m o p).1.objs.length = m.objs.length ∧ (refM m o p).1.P = m.P := by
  unfold refM
  split
  · exact ⟨rfl, rfl⟩
  · split
    · show (if _ then _ else _ : MS).objs.length = _ ∧ (if _ then _ else _ : MS).P = _
      split
      · exact objs_holdM m _
      · exact ⟨rfl, rfl⟩
    · exact ⟨rfl, rfl⟩
theorem objs_setWM (m : MS) (o p : Int) (X : Nat) : (setWM m o p X).objs.length = m.objs.length ∧ (setWM m o p X).P = m.P := by
  unfold setWM
  split
  · exact ⟨rfl, rfl⟩
  · split
    · exact ⟨len_setM _ _ _, rfl⟩
    · exact ⟨rfl, rfl⟩
theorem objs_defM (m : MS) (ws : List Nat) : (defM m ws).1.objs = m.objs ∧ (defM m ws).1.P = m.P := by
  unfold defM
  split
  · exact ⟨rfl, rfl⟩
  · split <;> exact ⟨rfl, rfl⟩
theorem Step_eq {s s' : CS} {m m' : MS} {told : List (Nat × Nat)} (h1 : m'.objs.length = m.objs.length) (h2 : m'.P = m.P) (h3 : shapeT s'.tab = shapeT s.tab) : Step s m told s' m' told := ⟨by rw [h2]; omega, by omega, .inl ⟨rfl, h3⟩⟩
end Go.Proofs.YtcaaojbnjfdglaaGreatDoor
