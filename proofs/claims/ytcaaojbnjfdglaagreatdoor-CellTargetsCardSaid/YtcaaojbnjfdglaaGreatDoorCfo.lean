/- Cells: what is proved on the way: every input of the statement; no condition. Texts joined: LawC LawD LawE LawF LawG LawH. -/
import Derived.Test.YtcaaojbnjfdglaaGreatDoorCff
import Derived.Test.YtcaaojbnjfdglaaGreatDoorCfn
set_option linter.unusedVariables false
set_option linter.unusedSimpArgs false
set_option linter.unusedSectionVars false
namespace Go.Proofs.YtcaaojbnjfdglaaGreatDoor
open Go.SL

/-- A run of free chunks. -/
def FreeRun (own : List Nat) (n : Nat) : Prop := ∃ a, a + n ≤ own.length ∧ ∀ i, a ≤ i → i < a + n → own.getD i 0 = 0
theorem run_spec [Extra] (p c mo : Nat) (v : Value) (s : CS) {w : World} {fr : List HProp} (H : Holds w (RROW p c mo v :: CELL c s :: fr)) :
    Calls Tryz.prog 116 #[pp p] w (ret fun x w' => ∃ b : Nat, x = .int .i64 b ∧ FreeRun s.own b ∧ Holds w' (RROW p c mo v :: CELL c s :: fr)) := by
  obtain ⟨q, mem, hw, hm, H⟩ := CELL_out H.swap
  have hol := hw.own.2
  refine calls_of Tryz.func116 rfl (by kernel_rfl) ?_
  refine J21 H ?_
  refine J3 H ?_
  replace H := Js [3,0,0,0,0,0,0,0,0,0,0,0] 0 H
  refine J11 H ?_
  refine J29 H ?_
  refine Jc rfl rfl (Chunks_spec q.sp s.size mem s.own H) ?_
  clear H; rintro v w ⟨rfl, H⟩
  refine J34 H ?_
  refine C_loop (fun ms σ w n => ms = [] ∧ ∃ j row best : Nat, j ≤ s.own.length ∧ n = s.own.length - j ∧ row ≤ j ∧ best ≤ j ∧ (∀ i, j - row ≤ i → i < j → s.own.getD i 0 = 0) ∧ (∃ a, a + best ≤ j ∧ ∀ i, a ≤ i → i < a + best → s.own.getD i 0 = 0) ∧ σ 0 = pp p ∧ σ 3 = .int .i64 best ∧ σ 4 = .int .i64 row ∧ σ 13 = .int .i64 s.own.length ∧ σ 14 = .int .i64 j ∧
    Holds w (ST q.sp s.size mem s.own :: CROW c q :: IMG q.ip q.sp q.bp :: BOOK q.bp s.lays :: TAB q.tp s.tab :: TRE q.trp s.last s.par :: RS q.rp s.rem :: mp (ki .i64) ptrv q.sm (s.sps.map spkey) :: star (s.sps.map (spres q.sp)) :: mp (ki .i64) ptrv q.mm (s.mns.map mnkey) :: star (s.mns.map mnres) :: RROW p c mo v :: fr)) (m := s.own.length) ⟨rfl, 0, 0, 0, by omega, rfl, by omega, by omega, by omega, ⟨0, by omega, by omega⟩, rfl, rfl, rfl, rfl, rfl, H⟩ ?_
  clear H
  rintro ms σ w n ⟨rfl, j, row, best, hj, rfl, hrj, hbj, hrow, hbest, g0, g3, g4, g13, g14, H⟩
  rw [upd_self g0, upd_self g3, upd_self g4, upd_self g13, upd_self g14]
  refine J27 H ?_
  refine C_dec rfl (fun h => C_skip ?_) (fun h => C_exit ?_)
  · have hlt : j < s.own.length := by omega
    refine J28 H ?_
    refine J3 H ?_
    refine J18 H ?_
    rw [inc64 (by omega)]
    refine J11 H ?_
    refine J92 H ?_
    refine Jc rfl rfl (Owner_spec q.sp s.size mem s.own j H hlt) ?_
    clear H; rintro v w ⟨rfl, H⟩
    refine J0 H ?_
    by_cases h0 : s.own.getD j 0 = 0
    · rw [show (((s.own.getD j 0 : Nat) : Int) != 0) = false by rw [h0]; rfl]
      refine J205 H ?_
      refine J124 H ?_
      rw [show (if ((row + 1 : Nat) : Int) > ((best : Nat) : Int) then ((row + 1 : Nat) : Int) else ((best : Nat) : Int)) = ((max best (row + 1) : Nat) : Int) by split <;> omega]
      refine J23 H ?_
      rw [inc64 (by omega)]
      refine ⟨_, ⟨rfl, j + 1, row + 1, max best (row + 1), hlt, rfl, by omega, by omega, ?_, ?_, rfl, rfl, rfl, rfl, rfl, H⟩, by omega⟩
      · intro i h1 h2
        by_cases hij : i = j
        · rw [hij]; exact h0
        · exact hrow i (by omega) (by omega)
      · by_cases hb : row + 1 ≤ best
        · obtain ⟨a, h1, h2⟩ := hbest
          rw [Nat.max_eq_left hb]
          exact ⟨a, by omega, h2⟩
        · rw [Nat.max_eq_right (by omega)]
          refine ⟨j - row, by omega, fun i h1 h2 => ?_⟩
          by_cases hij : i = j
          · rw [hij]; exact h0
          · exact hrow i (by omega) (by omega)
    · rw [show (((s.own.getD j 0 : Nat) : Int) != 0) = true by rw [bne_iff_ne]; omega]
      refine J33 H ?_
      refine J6 H ?_
      refine J124 H ?_
      rw [show (if (0 : Int) > ((best : Nat) : Int) then (0 : Int) else ((best : Nat) : Int)) = ((best : Nat) : Int) by split <;> omega]
      refine J23 H ?_
      rw [inc64 (by omega)]
      obtain ⟨a, h1, h2⟩ := hbest
      exact ⟨_, ⟨rfl, j + 1, 0, best, hlt, rfl, by omega, by omega, by omega, ⟨a, by omega, h2⟩, rfl, rfl, rfl, rfl, rfl, H⟩, by omega⟩
  · obtain ⟨a, h1, h2⟩ := hbest
    refine J3 H ?_
    replace H := Js [1,1,1,0,0,0,0,0,0,0,0,0] 0 H
    exact C_ret (Jy ((CELL_in hw hm H).swap) rfl fun w' H' => ⟨best, rfl, ⟨a, by omega, h2⟩, H'⟩)
end Go.Proofs.YtcaaojbnjfdglaaGreatDoor
namespace Go.Proofs.YtcaaojbnjfdglaaGreatDoor
open Go.SL

theorem veq_info (a b c d : Int) (e : Bool) : veq [.int .i64 a, .int .i64 b, .int .i64 c, .int .i64 d, .bool e] [.int .i64 a, .int .i64 b, .int .i64 c, .int .i64 d, .bool e] = true := by
  simp [veq]
theorem tellR_spec [Extra] (p c mo : Nat) (v : Value) (s : CS) (m : MS) (told : List (Nat × Nat)) (R : RelW s m told) (i g o : Int) (P : Vd s m told i g o) {w : World} {fr : List HProp} (H : Holds w (RROW p c mo v :: CELL c s :: MODEL mo m :: fr)) :
    Calls Tryz.prog 55 #[pp p, tkI2 i g, .int .i64 o] w (ret fun x w' => x = .bool true ∧ Holds w' (RROW p c mo v :: CELL c s :: MODEL mo m :: fr)) := by
  have hT := fun (w : World) (fr : List HProp) (H : Holds w (CELL c s :: fr)) => Tell_spec c s i g H
  rw [tell_lawV R P] at hT
  obtain ⟨a1, a2, a3, a4, a5, a6, hsh⟩ : ∃ a1 a2 a3 a4 a5 a6, tellM (valM m o) = .tuple #[.agg #[.int .i64 a1, .int .i64 a2, .int .i64 a3, .int .i64 a4, .bool a5], .int .i64 a6] := by
    cases valM m o <;> exact ⟨_, _, _, _, _, _, rfl⟩
  refine calls_of Tryz.func55 rfl (by kernel_rfl) ?_
  refine J5 H ?_
  clear H; intro b4 w H
  refine J0 H ?_
  replace H := Js [2,0,0,0] 0 H
  refine J12 H ?_
  refine C_join (fun ms σ w => ms = [] ∧ ∃ b7, σ 0 = pp p ∧ σ 2 = .int .i64 o ∧ σ 7 = pp b7 ∧ σ 8 = .int .i64 a6 ∧ Holds w (pts b7 (row 44 [.int .i64 a1, .int .i64 a2, .int .i64 a3, .int .i64 a4, .bool a5]) :: RROW p c mo v :: CELL c s :: MODEL mo m :: fr)) ?_ ?_
  · refine J1 H ?_
    clear H; intro w H
    refine J225 H ?_
    refine A_two 5 9 rfl rfl (by kernel_rfl) (by repeat first | exact .nil | refine .cons (.inr H.at) ?_ | refine .cons (.inr H.mp) ?_ | refine .cons (.inl (by kernel_rfl)) ?_) (Wants.none rfl) (Wants.none rfl) (St_call (a := []) (b := []) rfl rfl (call (hT _ _ H) ?_)) (St_alloc H rfl ?_)
    · clear H; rintro v w ⟨rfl, H⟩
      rw [hsh]
      refine J226 H ?_
      clear H; intro b7 w H
      refine J227 H ?_
      clear H; intro w H
      refine J49 H ?_
      replace H := Js [0,2,0,1] 1 H
      exact ⟨rfl, rfl, b7, rfl, rfl, rfl, rfl, H⟩
    · clear H; intro b7 w H
      refine Jo 5 H ?_
      refine Jk rfl rfl (hT _ _ H.swap) ?_
      clear H; rintro v w ⟨rfl, H⟩
      rw [hsh]
      refine J228 H ?_
      clear H; intro w H
      refine J49 H ?_
      replace H := Js [1,2,0,1] 1 H
      exact ⟨rfl, rfl, b7, rfl, rfl, rfl, rfl, H⟩
  clear H
  rintro ms σ w ⟨rfl, b7, g0, g2, g7, g8, H⟩
  rw [upd_self g0, upd_self g2, upd_self g7, upd_self g8]
  replace H := Js [3,0,0,0] 0 H
  refine J11 H ?_
  refine Jc rfl rfl (Valid_spec mo m o H) ?_
  clear H; rintro v w ⟨rfl, H⟩
  
  cases hv : valM m o with
  | none =>
    rw [hv] at hsh
    cases hsh
    refine J232 H ?_
    refine J10 H ?_
    refine J114 H ?_
    refine Lp_g rfl rfl rfl (St_eqAgg rfl rfl rfl rfl (.inl rfl) rfl ?_)
    refine J4 H ?_
    replace H := Js [2,2,0] 1 H
    exact C_ret (Jy H rfl fun w' H' => ⟨congrArg Value.bool ((eql_veq _ _).trans (veq_info 0 0 0 0 false)), H'⟩)
  | some nx =>
    obtain ⟨n, x⟩ := nx
    rw [hv] at hsh
    cases hsh
    obtain ⟨rfl, hx, hh, hg⟩ := valM_some hv
    have hol := (List.getElem?_eq_some_iff.1 hx).1
    obtain ⟨t, lc, aL, cL, bO, cO, sO, ptrs, q, vw, vk, vt, rest, hm, h2, hp, H, hclose⟩ := MODEL_at H hx
    have hm' := set_same hx hm
    obtain ⟨aw, cw, rfl⟩ := sls_slice H.drop (ucells_length _) (by decide)
    refine J15 H ?_
    refine J11 H ?_
    refine J92 H ?_
    refine Lp_s rfl (St_indexAddr rfl rfl (by omega) (by omega) rfl ?_)
    refine Lp_s rfl (St_load1 H rfl hp rfl ?_)
    refine J0 H ?_
    refine J1 H ?_
    clear H; intro w H
    refine J184 H ?_
    refine A_loadN 3 [] H rfl (Wants.of rfl rfl rfl) rfl (by repeat (first | exact Reads.nil _ | apply Reads.cons rfl)) (by kernel_rfl) ?_
    refine A_pv 4 rfl (Wants.of rfl rfl rfl) rfl (by kernel_rfl) ?_
    refine J234 H ?_
    refine A_fieldAddr 6 rfl (Wants.of rfl rfl rfl) rfl (by kernel_rfl) ?_
    refine A_load1 7 [] H rfl (Wants.of rfl rfl rfl) rfl rfl (by kernel_rfl) ?_
    refine A_pv 8 rfl (Wants.of rfl rfl rfl) rfl (by kernel_rfl) ?_
    refine A_pv 9 rfl (Wants.of rfl rfl rfl) rfl (by kernel_rfl) ?_
    refine A_fieldAddr 10 rfl (Wants.of rfl rfl rfl) rfl (by kernel_rfl) ?_
    refine A_load1 11 [] H rfl (Wants.of rfl rfl rfl) rfl rfl (by kernel_rfl) ?_
    refine A_pv 12 rfl (Wants.of rfl rfl rfl) rfl (by kernel_rfl) ?_
    refine A_pv 13 rfl (Wants.of rfl rfl rfl) rfl (by kernel_rfl) ?_
    refine A_fieldAddr 14 rfl (Wants.of rfl rfl rfl) rfl (by kernel_rfl) ?_
    refine A_load1 15 [] H rfl (Wants.of rfl rfl rfl) rfl rfl (by kernel_rfl) ?_
    refine A_pv 16 rfl (Wants.of rfl rfl rfl) rfl (by kernel_rfl) ?_
    refine A_pv 17 rfl (Wants.of rfl rfl rfl) rfl (by kernel_rfl) ?_
    refine J222 H ?_
    refine J249 H ?_
    refine A_lenSlice 20 rfl (Wants.of rfl rfl rfl) rfl (by kernel_rfl) ?_
    refine A_pv 21 rfl (Wants.of rfl rfl rfl) rfl (by kernel_rfl) ?_
    refine A_pv 22 rfl (Wants.of rfl rfl rfl) rfl (by kernel_rfl) ?_
    refine A_fieldAddr 23 rfl (Wants.of rfl rfl rfl) rfl (by kernel_rfl) ?_
    refine A_load1 24 [] H rfl (Wants.of rfl rfl rfl) rfl rfl (by kernel_rfl) ?_
    refine A_build 25 rfl (Wants.of rfl rfl rfl) rfl (by kernel_rfl) ?_
    refine A_eqAgg 26 rfl (Wants.of rfl rfl rfl) rfl rfl rfl rfl (.inl rfl) (by kernel_rfl) ?_
    rw [eql_veq, veq_info]
    refine A_pv 27 rfl (Wants.none rfl) rfl (by kernel_rfl) ?_
    refine A_pv 28 rfl (Wants.none rfl) rfl (by kernel_rfl) ?_
    refine J2 H ?_
    replace H := MODEL_same hx (hclose _ _ _ hm' H)
    replace H := Js [2,2,0] 1 H
    exact C_ret (Jy H rfl fun w' H' => ⟨rfl, H'⟩)
end Go.Proofs.YtcaaojbnjfdglaaGreatDoor
namespace Go.SL
section
variable {P : Program} {n : Nat} {r : Option Nat} {ops : Array Oper} {σ : Env} {w : World}
variable {ivs : List (List Nat × (World → Prop))} {T : Env → World → Prop} {f : Nat} {L : Array Bool}
variable {u : TypeId} {p : String} {af : Array Edge} {g : Option (Nat × Bool)} {d : Option Tmp} {x y : Operand}
end
end Go.SL
namespace Go.Proofs.YtcaaojbnjfdglaaGreatDoor
open Go.SL

def shapeT (ts : List Slt) : List (Nat × Bool) := ts.map fun t => (t.gen, t.ent.isSome)
theorem shape_set {ts : List Slt} {k g : Nat} {e e' : Ent} (h : ts[k]? = some ⟨g, some e⟩) : shapeT (ts.set k ⟨g, some e'⟩) = shapeT ts := by
  unfold shapeT
  rw [List.map_set]
  apply List.ext_getElem?
  intro i
  rw [List.getElem?_set]
  split
  · rename_i hi
    subst hi
    have := (List.getElem?_eq_some_iff.1 h).1
    rw [List.getElem?_map, h]
    simp [this]
  · rfl
/-- What an act leaves: no slot is another's, but of what is made. -/
structure Step (s : CS) (m : MS) (told : List (Nat × Nat)) (s' : CS) (m' : MS) (told' : List (Nat × Nat)) : Prop where
  P : m'.P.length ≤ m.P.length + 1
  objs : m'.objs.length ≤ m.objs.length + 1
  tab : (told' = told ∧ shapeT s'.tab = shapeT s.tab) ∨ ∃ k g0 : Nat, told' = told ++ [(k, g0 + 1)] ∧ s.tab[k]? = some ⟨g0, none⟩ ∧ (∀ (j : Nat) (t : Slt), j < k → s.tab[j]? = some t → busy t = true) ∧ shapeT s'.tab = (shapeT s.tab).set k (g0 + 1, true)

/-- What Make does, in its four cases. -/
def Made (s : CS) (region id count : Int) (i g e : Nat) (s' : CS) : Prop :=
  (makeE s region id count ≠ 0 ∧ i = 0 ∧ g = 0 ∧ e = makeE s region id count ∧ s' = s) ∨
  (makeE s region id count = 0 ∧ (∀ t ∈ s.tab, busy t = true) ∧ i = 0 ∧ g = 0 ∧ e = 12 ∧ s' = s) ∨
  (makeE s region id count = 0 ∧ (∀ a, a + (makeN s id count / s.size + 1) ≤ s.own.length → ∃ i, a ≤ i ∧ i < a + (makeN s id count / s.size + 1) ∧ s.own.getD i 0 ≠ 0) ∧ i = 0 ∧ g = 0 ∧ e = 11 ∧ s' = s) ∨
  (makeE s region id count = 0 ∧ e = 0 ∧ ∃ g0 addr, s.tab[i]? = some ⟨g0, none⟩ ∧ g0 ≤ 254 ∧ (∀ (j : Nat) (t : Slt), j < i → s.tab[j]? = some t → busy t = true) ∧ g = g0 + 1 ∧
    s'.size = s.size ∧ s'.lays = s.lays ∧ s'.last = s.last ∧ s'.par = s.par ∧ s'.rem = s.rem ∧ s'.tab = s.tab.set i ⟨g0 + 1, some ⟨addr, region, true, false, id.toNat, count.toNat, List.replicate (makeN s id count) 0⟩⟩ ∧ Grows s.own s'.own (makeN s id count / s.size + 1))
theorem eql_pair (x y : Int × Int) : (if isEql BinOp.eql = true then decide (x = y) else !decide (x = y)) = decide (x = y) := if_pos rfl
theorem Make_all [Extra] (p : Nat) (s : CS) (region id count : Int) (hseq : Seq s) {w : World} {fr : List HProp} [hT : HasTab 0 Lib.deBruijn64tab fr] (H : Holds w (CELL p s :: fr)) :
    Calls Tryz.prog 29 #[pp p, .int .i64 region, .int .i64 id, .int .i64 count] w (ret fun v w' => ∃ i g e s', v = .tuple #[tkn i g, .int .i64 (e : Nat)] ∧ Made s region id count i g e s' ∧ Holds w' (CELL p s' :: fr)) := by
  refine call (Make_spec p s region id count hseq H) ?_
  rintro v w (⟨h1, rfl, H⟩ | ⟨h1, h2, rfl, H⟩ | ⟨h1, h2, rfl, H⟩ | ⟨h1, k, g0, addr, s', h2, h3, h4, rfl, h5, h6, h7, h8, h9, h10, h11, H⟩)
  · exact ⟨0, 0, makeE s region id count, s, rfl, .inl ⟨h1, rfl, rfl, rfl, rfl⟩, H⟩
  · exact ⟨0, 0, 12, s, rfl, .inr (.inl ⟨h1, h2, rfl, rfl, rfl, rfl⟩), H⟩
  · exact ⟨0, 0, 11, s, rfl, .inr (.inr (.inl ⟨h1, h2, rfl, rfl, rfl, rfl⟩)), H⟩
  · exact ⟨k, g0 + 1, 0, s', rfl, .inr (.inr (.inr ⟨h1, rfl, g0, addr, h2, h3, h4, rfl, h5, h6, h7, h8, h9, h10, h11⟩)), H⟩

theorem made_spec [Extra] (p c mo : Nat) (a : Option Addr) (cap : Nat) (s : CS) (m : MS) (told : List (Nat × Nat)) (R : Rel s m told) (hseq : Seq s) (hfew : m.objs.length < 100000) (k A B C X i g : Int) (kX : IntKind) (vW : Value) (raw : Bool) (hvW : vW.oneCell' = true) {w : World} {fr : List HProp} [hT : HasTab 0 Lib.deBruijn64tab fr]
    (H : Holds w (RROW p c mo (.slice a told.length cap) :: CELL c s :: MODEL mo m :: TKL (.slice a told.length cap) told :: fr)) :
    Calls Tryz.prog 48 #[pp p, .agg #[.int .i64 k, .int .i64 A, .int .i64 B, .int .i64 C, .int .u64 X, vW, .bool raw, .int .i64 i, .int .i64 g]] w (ret fun v w' => v = .bool true ∧ ∃ s' m' told' a' cap', Rel s' m' told' ∧ Step s m told s' m' told' ∧ Holds w' (RROW p c mo (.slice a' told'.length cap') :: CELL c s' :: MODEL mo m' :: TKL (.slice a' told'.length cap') told' :: fr)) := by
  refine calls_of Tryz.func48 rfl (by kernel_rfl) ?_
  refine J5 H ?_
  clear H; intro b3 w H
  refine J22 H ?_
  refine C_join (fun ms σ w => ms = [] ∧ ∃ (b5 i' g' e : Nat) (s' : CS), Made s A B C i' g' e s' ∧ σ 0 = pp p ∧ σ 3 = pp b3 ∧ σ 5 = pp b5 ∧ σ 6 = .int .i64 e ∧ Holds w (pts b5 (row 32 [.int .i64 i', .int .i64 g']) :: pts b3 (row 34 [.int .i64 k, .int .i64 A, .int .i64 B, .int .i64 C, .int .u64 X, vW, .bool raw, .int .i64 i, .int .i64 g]) :: RROW p c mo (.slice a told.length cap) :: CELL c s' :: MODEL mo m :: TKL (.slice a told.length cap) told :: fr)) ?_ ?_
  · replace H := Js [2,0,0,0,0] 0 H
    refine J1 H ?_
    clear H; intro w H
    refine J14 H ?_
    refine A_load1 3 [10, 15] H rfl (Wants.none rfl) rfl rfl (by kernel_rfl) ?_
    refine J31 H ?_
    refine A_load1 5 [10, 15] H rfl (Wants.none rfl) rfl rfl (by kernel_rfl) ?_
    refine J65 H ?_
    refine A_load1 7 [10, 15] H rfl (Wants.none rfl) rfl rfl (by kernel_rfl) ?_
    refine J131 H ?_
    refine A_load1 9 [10, 15] H rfl (Wants.none rfl) rfl rfl (by kernel_rfl) ?_
    refine A_two 10 14 rfl rfl (by kernel_rfl) (by repeat first | exact .nil | refine .cons (.inr H.at) ?_ | refine .cons (.inr H.mp) ?_ | refine .cons (.inl (by kernel_rfl)) ?_) (Wants.none rfl) (Wants.none rfl) (St_call (a := []) (b := []) rfl rfl (call (Make_all c s A B C hseq H) ?_)) (St_alloc H rfl ?_)
    · clear H; rintro v w ⟨i', g', e, s', rfl, hM, H⟩
      refine J74 H ?_
      refine J95 H ?_
      refine Jo 14 H ?_
      refine St_alloc H rfl ?_
      clear H; intro b5 w H
      refine Jo 15 H ?_
      refine J42 H ?_
      clear H; intro w H
      refine J109 H ?_
      refine J2 H ?_
      replace H := Js [0,1,1,0,0,0] 0 H
      exact ⟨rfl, rfl, b5, i', g', e, s', hM, rfl, rfl, rfl, rfl, H⟩
    · clear H; intro b5 w H
      refine Jo 10 H ?_
      refine Jk rfl rfl (Make_all c s A B C hseq H.swap) ?_
      clear H; rintro v w ⟨i', g', e, s', rfl, hM, H⟩
      refine J74 H ?_
      refine J95 H ?_
      refine Jo 15 H ?_
      refine J42 H ?_
      clear H; intro w H
      refine J109 H ?_
      refine J2 H ?_
      replace H := Js [1,1,1,0,0,0] 0 H
      exact ⟨rfl, rfl, b5, i', g', e, s', hM, rfl, rfl, rfl, rfl, H⟩
  clear H
  rintro ms σ w ⟨rfl, b5, i', g', e, s', hM, g0, g3, g5, g6, H⟩
  rw [upd_self g0, upd_self g3, upd_self g5, upd_self g6]
  obtain ⟨hm1, hm2⟩ := may_law R A B C
  replace H := Js [4,0,0,0,0,0] 0 H
  refine J1 H ?_
  clear H; intro w H
  refine J14 H ?_
  refine A_load1 3 [10] H rfl (Wants.none rfl) rfl rfl (by kernel_rfl) ?_
  refine J31 H ?_
  refine A_load1 5 [10] H rfl (Wants.none rfl) rfl rfl (by kernel_rfl) ?_
  refine J65 H ?_
  refine A_load1 7 [10] H rfl (Wants.none rfl) rfl rfl (by kernel_rfl) ?_
  refine J131 H ?_
  refine A_load1 9 [10] H rfl (Wants.none rfl) rfl rfl (by kernel_rfl) ?_
  refine Jo 10 H ?_
  refine Jk rfl rfl (May15_spec mo m A B C H) ?_
  clear H; rintro v w ⟨rfl, H⟩
  refine J74 H ?_
  refine J146 H ?_
  refine J28 H ?_
  rcases hM with ⟨h1, rfl, rfl, rfl, rfl⟩ | ⟨h1, h2, rfl, rfl, rfl, rfl⟩ | ⟨h1, h2, rfl, rfl, rfl, rfl⟩ | ⟨h1, rfl, g0', addr, h2, h3, h4, rfl, h5, h6, h7, h8, h9, h10, h11⟩
  · have hw' : (mayM m A B C).2 ≠ 0 := by rw [← hm1]; exact h1
    refine J18 H ?_
    rw [show ((((mayM m A B C).2 : Nat) : Int) != 0) = true by rw [bne_iff_ne]; omega]
    refine J13 H ?_
    refine J10 H ?_
    rw [show ((((makeE s' A B C : Nat) : Int)) == (((mayM m A B C).2 : Nat) : Int)) = true by rw [hm1]; exact beq_self_eq_true _]
    refine J9 H ?_
    refine J114 H ?_
    refine Lp_g rfl rfl rfl (St_eqPair rfl rfl (.inl rfl) rfl ?_)
    refine J4 H ?_
    replace H := Js [3,3,0,2] 2 H
    exact C_ret (Jy H rfl fun w' H' => ⟨rfl, s', m, told, a, cap, R, ⟨by omega, by omega, .inl ⟨rfl, rfl⟩⟩, H'⟩)
  · have hw' : (mayM m A B C).2 = 0 := by rw [← hm1]; exact h1
    rw [hw']
    refine J69 H ?_
    refine J18 H ?_
    refine J13 H ?_
    replace H := Js [4,0,0,0,0,0] 0 H
    obtain ⟨q, mem, hw, hm, H⟩ := CELL_out H
    replace H := Js [4,0,0,0,0,0,0,0,0,0,0,0,0,0,0,0] 0 H
    refine J11 H ?_
    refine J29 H ?_
    refine Jc rfl rfl (Left_spec q.tp s'.tab H) ?_
    clear H; rintro v w ⟨rfl, H⟩
    have hbt : s'.tab.length - busyT s'.tab = 0 := by
      unfold busyT
      rw [List.filter_eq_self.2 h2, Nat.sub_self]
    rw [hbt]
    refine J25 H ?_
    refine J114 H ?_
    refine Lp_g rfl rfl rfl (St_eqPair rfl rfl (.inl rfl) rfl ?_)
    refine J4 H ?_
    replace H := Js [1,1,1,1,0,0,0,0,0,0,0,0,0,0,0,0] 0 H
    replace H := CELL_in hw hm H
    replace H := Js [4,0,0,2] 2 H
    exact C_ret (Jy H rfl fun w' H' => ⟨rfl, s', m, told, a, cap, R, ⟨by omega, by omega, .inl ⟨rfl, rfl⟩⟩, H'⟩)
  · have hw' : (mayM m A B C).2 = 0 := by rw [← hm1]; exact h1
    have hn := hm2 hw'
    rw [hw', ← hn]
    refine J69 H ?_
    refine J69 H ?_
    refine J18 H ?_
    refine J13 H ?_
    replace H := Js [4,0,0,0,0,0] 0 H
    obtain ⟨q, mem, hw, hm, H⟩ := CELL_out H
    replace H := Js [3,0,0,0,0,0,0,0,0,0,0,0,0,0,0,0] 0 H
    refine J11 H ?_
    refine J29 H ?_
    refine Jc rfl rfl (Words_spec q.sp s'.size mem s'.own H) ?_
    clear H; rintro v w ⟨rfl, H⟩
    replace H := Js [1,1,1,0,0,0,0,0,0,0,0,0,0,0,0,0] 0 H
    replace H := CELL_in hw hm H
    refine J0 H ?_
    replace H := Js [4,0,0,0,0,0] 0 H
    have hsz := hw.size
    have hpos : s'.size > 0 := by omega
    have hmx : (if (1 : Int) > ((s'.size : Nat) : Int) then (1 : Int) else ((s'.size : Nat) : Int)) = ((s'.size : Nat) : Int) := by split <;> omega
    have hnlt : makeN s' B C < 100000 := by
      obtain ⟨r, la, c', l, _, _, _, _, _, e1, e2, e3⟩ := mayM_ok hw'
      rw [hn, e1, e2]
      show l.fixed + c' * l.record < _
      omega
    refine J1 H ?_
    clear H; intro w H
    refine A_loadN 0 [9, 12] H rfl (Wants.none rfl) rfl (by repeat (first | exact Reads.nil _ | apply Reads.cons rfl)) (by kernel_rfl) ?_
    refine A_build 1 rfl (Wants.none rfl) rfl (by kernel_rfl) ?_
    refine A_eqPair 2 rfl (Wants.none rfl) rfl rfl (.inl rfl) (by kernel_rfl) ?_
    rw [eql_pair, decide_eq_true (show (((0 : Nat) : Int), ((0 : Nat) : Int)) = ((0 : Int), (0 : Int)) from rfl)]
    refine J56 H ?_
    refine A_pv 4 rfl (Wants.of rfl rfl rfl) rfl (by kernel_rfl) ?_
    refine J234 H ?_
    rw [show decide ((s'.size : Int) > 0) = true from decide_eq_true (by omega)]
    refine J67 H ?_
    refine A_pv 8 rfl (Wants.of rfl rfl rfl) rfl (by kernel_rfl) ?_
    refine A_pv 10 rfl (Wants.of rfl rfl rfl) rfl (by kernel_rfl) ?_
    refine J171 H ?_
    refine A_two 9 12 rfl rfl (by kernel_rfl) (by repeat first | exact .nil | refine .cons (.inr H.at) ?_ | refine .cons (.inr H.mp) ?_ | refine .cons (.inl (by kernel_rfl)) ?_) (Wants.of rfl rfl rfl) (Wants.of rfl rfl rfl) (St_call (a := []) (b := []) rfl rfl (call (run_spec p c mo _ s' H) ?_)) (St_max rfl rfl rfl ?_)
    · clear H; rintro v w ⟨bb, rfl, hfr, H⟩
      have hlt : bb < makeN s' B C / s'.size + 1 := by
        refine Nat.lt_of_not_le fun hle => ?_
        obtain ⟨a0, ha, hz⟩ := hfr
        obtain ⟨i0, hi1, hi2, hi3⟩ := h2 a0 (by omega)
        exact hi3 (hz i0 hi1 (by omega))
      have hdl : makeN s' B C / s'.size ≤ makeN s' B C := Nat.div_le_self _ _
      refine Jo 12 H ?_
      refine St_max rfl rfl rfl ?_
      rw [hmx]
      refine A_pv (v := .int .i64 ((makeN s' B C / s'.size : Nat) : Int)) 13 rfl (Wants.of rfl rfl rfl) (by
        show (if IntKind.i64 = IntKind.i64 then (if ((s'.size : Nat) : Int) = 0 then none else some (Value.int IntKind.i64 (IntKind.i64.wrap (Int.tdiv ((makeN s' B C : Nat) : Int) ((s'.size : Nat) : Int))))) else none) = _
        rw [if_pos rfl, if_neg (by omega), quoN (by omega)]) (by kernel_rfl) ?_
      refine J172 H ?_
      rw [inc64 (by omega)]
      refine J173 H ?_
      rw [show decide ((bb : Int) < ((makeN s' B C / s'.size + 1 : Nat) : Int)) = true from decide_eq_true (by omega)]
      refine J109 H ?_
      refine J235 H ?_
      replace H := Js [0,0,0,2] 2 H
      exact C_ret (Jy H rfl fun w' H' => ⟨rfl, s', m, told, a, cap, R, ⟨by omega, by omega, .inl ⟨rfl, rfl⟩⟩, H'⟩)
    · rw [hmx]
      have hdl : makeN s' B C / s'.size ≤ makeN s' B C := Nat.div_le_self _ _
      refine A_pv (v := .int .i64 ((makeN s' B C / s'.size : Nat) : Int)) 13 rfl (Wants.of rfl rfl rfl) (by
        show (if IntKind.i64 = IntKind.i64 then (if ((s'.size : Nat) : Int) = 0 then none else some (Value.int IntKind.i64 (IntKind.i64.wrap (Int.tdiv ((makeN s' B C : Nat) : Int) ((s'.size : Nat) : Int))))) else none) = _
        rw [if_pos rfl, if_neg (by omega), quoN (by omega)]) (by kernel_rfl) ?_
      refine J172 H ?_
      rw [inc64 (by omega)]
      refine Jo 9 H ?_
      refine Jk rfl rfl (run_spec p c mo _ s' H) ?_
      clear H; rintro v w ⟨bb, rfl, hfr, H⟩
      have hlt : bb < makeN s' B C / s'.size + 1 := by
        refine Nat.lt_of_not_le fun hle => ?_
        obtain ⟨a0, ha, hz⟩ := hfr
        obtain ⟨i0, hi1, hi2, hi3⟩ := h2 a0 (by omega)
        exact hi3 (hz i0 hi1 (by omega))
      refine J173 H ?_
      rw [show decide ((bb : Int) < ((makeN s' B C / s'.size + 1 : Nat) : Int)) = true from decide_eq_true (by omega)]
      refine J109 H ?_
      refine J235 H ?_
      replace H := Js [0,0,0,2] 2 H
      exact C_ret (Jy H rfl fun w' H' => ⟨rfl, s', m, told, a, cap, R, ⟨by omega, by omega, .inl ⟨rfl, rfl⟩⟩, H'⟩)
  · have hw' : (mayM m A B C).2 = 0 := by rw [← hm1]; exact h1
    rw [hw']
    obtain ⟨_, _, _, _, _, _, _, hmw, _⟩ := id (MODEL_out H)
    obtain ⟨hnew, R'⟩ := make_rel R hmw hw' h2 h6 h7 h8 h10
    have htl : told.length < 100000 := by rw [R.len]; exact hfew
    refine J69 H ?_
    refine J69 H ?_
    refine J69 H ?_
    refine J18 H ?_
    refine J8 H ?_
    replace H := Js [3,0,0,0,0,0] 0 H
    refine J153 H ?_
    replace H := Js [5,2,2,0,1,0] 0 H
    refine J28 H ?_
    refine C_loop (fun ms σ w q => ms = [] ∧ ∃ j : Nat, j ≤ told.length ∧ q = told.length - j ∧ σ 0 = pp p ∧ σ 3 = pp b3 ∧ σ 5 = pp b5 ∧ σ 102 = .slice a told.length cap ∧ σ 103 = .int .i64 told.length ∧ σ 104 = .int .i64 j ∧ Holds w (TKL (.slice a told.length cap) told :: pts b5 (row 32 [.int .i64 (i' : Nat), .int .i64 ((g0' + 1 : Nat) : Int)]) :: pts b3 (row 34 [.int .i64 k, .int .i64 A, .int .i64 B, .int .i64 C, .int .u64 X, vW, .bool raw, .int .i64 i, .int .i64 g]) :: RROW p c mo (.slice a told.length cap) :: CELL c s' :: MODEL mo m :: fr)) (m := told.length) ⟨rfl, 0, by omega, rfl, rfl, rfl, rfl, rfl, rfl, rfl, H⟩ ?_
    clear H
    rintro ms σ w q ⟨rfl, j, hj, rfl, g0, g3, g5, g102, g103, g104, H⟩
    rw [upd_self g0, upd_self g3, upd_self g5, upd_self g102, upd_self g103, upd_self g104]
    refine J27 H ?_
    refine C_dec rfl (fun h => C_skip ?_) (fun h => C_exit ?_)
    · have hlt : j < told.length := by omega
      have hn := List.getElem?_eq_getElem hlt
      generalize told[j] = xy at hn
      obtain ⟨x, y⟩ := xy
      obtain ⟨bT, sT, rfl, H, hcl⟩ := sls_open H (by omega)
      refine J101 H ?_
      refine Lp_s rfl (St_indexAddr rfl rfl (by omega) (by omega) rfl ?_)
      refine Lp_s rfl (St_loadN H rfl (tkc_reads hn) rfl ?_)
      refine J17 H ?_
      clear H; intro b11 w H
      refine J7 H ?_
      clear H; intro w H
      refine Lp_nil ?_
      refine J32 H ?_
      refine J53 H ?_
      refine Lp_s rfl (St_eqPair rfl rfl (.inl rfl) rfl ?_)
      refine Lp_nil ?_
      replace H := hcl _ _ H.drop
      refine C_dec (p := ((x : Int), (y : Int)) = (((i' : Nat) : Int), ((g0' + 1 : Nat) : Int))) rfl (fun he => ?_) (fun he => C_skip ?_)
      · exfalso
        injection he with e1 e2
        obtain rfl : x = i' := by omega
        obtain rfl : y = g0' + 1 := by omega
        exact hnew j hn
      · refine J3 H ?_
        exact ⟨_, ⟨rfl, j + 1, hlt, rfl, rfl, rfl, rfl, rfl, rfl, inc64 (by omega), H⟩, by omega⟩
    · replace H := Js [5,0,0,0,0,0] 0 H
      refine J1 H ?_
      clear H; intro w H
      refine J14 H ?_
      refine A_load1 3 [10] H rfl (Wants.none rfl) rfl rfl (by kernel_rfl) ?_
      refine J31 H ?_
      refine A_load1 5 [10] H rfl (Wants.none rfl) rfl rfl (by kernel_rfl) ?_
      refine J65 H ?_
      refine A_load1 7 [10] H rfl (Wants.none rfl) rfl rfl (by kernel_rfl) ?_
      refine J131 H ?_
      refine A_load1 9 [10] H rfl (Wants.none rfl) rfl rfl (by kernel_rfl) ?_
      refine Jo 10 H ?_
      refine Jk rfl rfl (Make15_spec mo m A B C hw' hfew H) ?_
      clear H; rintro v w ⟨rfl, H⟩
      refine J2 H ?_
      replace H := Js [1,1,2,0,0,0] 0 H
      refine J1 H ?_
      clear H; intro w H
      refine J133 H ?_
      refine A_load1 4 [7, 10] H rfl (Wants.none rfl) rfl rfl (by kernel_rfl) ?_
      refine J255 H ?_
      refine Jo 6 H ?_
      refine J103 H ?_
      clear H; intro bS w H
      replace H := H.swap
      refine Jo 7 H ?_
      refine St_append H rfl rfl (by repeat (first | exact Reads.nil _ | apply Reads.cons rfl)) rfl (by decide) (by rw [tkc_length]; simp only [List.length_cons, List.length_nil]; omega) rfl rfl ?_
      clear H; intro vS w H
      have e1 : tkc told ++ [.int .i64 ((i' : Nat) : Int), .int .i64 ((g0' + 1 : Nat) : Int)] = tkc (told ++ [(i', g0' + 1)]) := by
        rw [tkc_append]; rfl
      rw [e1] at H
      obtain ⟨aS, cS, rfl⟩ := sls_slice H (m := (told ++ [(i', g0' + 1)]).length) (tkc_length _) (by decide)
      refine J81 H ?_
      refine A_fieldAddr 9 rfl (Wants.none rfl) rfl (by kernel_rfl) ?_
      refine Jo 10 H ?_
      refine J107 H ?_
      clear H; intro w H
      refine J2 H ?_
      refine J21 H ?_
      replace H := Js [3,5,3,0] 3 H
      refine C_ret (Jy H rfl fun w' H' => ⟨rfl, s', _, _, aS, cS, R', ⟨?_, ?_, .inr ⟨i', g0', rfl, h2, h4, ?_⟩⟩, H'⟩)
      · show m.P.length ≤ _
        omega
      · show (m.objs ++ [_]).length ≤ _
        simp
      · rw [h10]
        unfold shapeT
        rw [List.map_set]
        rfl
end Go.Proofs.YtcaaojbnjfdglaaGreatDoor
namespace Go.Proofs.YtcaaojbnjfdglaaGreatDoor
open Go.SL

theorem shape_setWS (s : CS) (i g p : Int) (x : Nat) : shapeT (setWS s i g p x).1.tab = shapeT s.tab := by
  cases hv : validT s.tab i g with
  | none => rw [setWS_none hv]
  | some q =>
    obtain ⟨k, e⟩ := q
    obtain ⟨n, rfl, rfl, hk, _⟩ := valid_at hv
    rw [setWS_some hv]
    split
    · rw [Int.toNat_natCast]; exact shape_set hk
    · rfl
theorem shape_dropS (s : CS) (i g : Int) : shapeT (dropS s i g).1.tab = shapeT s.tab := by
  cases hv : validT s.tab i g with
  | none => rw [dropS_none hv]
  | some q =>
    obtain ⟨k, e⟩ := q
    obtain ⟨n, rfl, rfl, hk, _⟩ := valid_at hv
    rw [dropS_some hv, Int.toNat_natCast]
    exact shape_set hk
theorem shape_pinS (s : CS) (i g : Int) (on : Bool) : shapeT (pinS s i g on).1.tab = shapeT s.tab := by
  cases hv : validT s.tab i g with
  | none => rw [pinS_none hv]
  | some q =>
    obtain ⟨k, e⟩ := q
    obtain ⟨n, rfl, rfl, hk, _⟩ := valid_at hv
    rw [pinS_some hv]
    split
    · rfl
    · rw [Int.toNat_natCast]; exact shape_set hk
theorem shape_tieS (s : CS) (i g p : Int) (l : Lnk) : shapeT (tieS s i g p l).1.tab = shapeT s.tab := by
  cases hv : validT s.tab i g with
  | none => rw [tieS_none hv]
  | some q =>
    obtain ⟨k, e⟩ := q
    obtain ⟨n, rfl, rfl, hk, _⟩ := valid_at hv
    rw [tieS_some hv]
    split
    · rw [Int.toNat_natCast]; exact shape_set hk
    · rfl
theorem shape_TieS (s : CS) (i g p u v : Int) : shapeT (TieS s i g p u v).1.tab = shapeT s.tab := by
  unfold TieS
  split
  · rfl
  · split
    · rfl
    · exact shape_tieS s i g p _
theorem shape_refS (s : CS) (i g p : Int) : shapeT (refS s i g p).tab = shapeT s.tab := by
  unfold refS
  split
  · rename_i a b _
    cases hl : lookT s.tab a b with
    | none => rw [holdS_none hl]
    | some q =>
      obtain ⟨k, e⟩ := q
      obtain ⟨n, h1, h2, hk⟩ := lookT_some.1 hl
      obtain rfl : b = n := by omega
      rw [holdS_some hl]
      exact shape_set hk
  · rfl
theorem shape_defS (s : CS) (ws : List Nat) : shapeT (defS s ws).1.tab = shapeT s.tab := by
  cases hd : decodeL ws with
  | none => rw [defS_none hd]
  | some l =>
    rw [defS_some hd]
    split <;> rfl
theorem len_setM (m : MS) (k : Nat) (x : Mob) : (setM m k x).objs.length = m.objs.length := List.length_set
theorem objs_cutM (m : MS) (o p : Int) : (cutM m o p).1.objs.length = m.objs.length ∧ (cutM m o p).1.P = m.P := by
  unfold cutM
  split
  · exact ⟨rfl, rfl⟩
  · split
    · exact ⟨len_setM _ _ _, rfl⟩
    · exact ⟨rfl, rfl⟩
theorem objs_tieM (m : MS) (o p u : Int) : (tieM m o p u).1.objs.length = m.objs.length ∧ (tieM m o p u).1.P = m.P := by
  unfold tieM
  split
  · exact ⟨rfl, rfl⟩
  · split
    · split
      · exact ⟨rfl, rfl⟩
      · exact ⟨len_setM _ _ _, rfl⟩
    · exact ⟨rfl, rfl⟩
theorem objs_dropM (m : MS) (o : Int) : (dropM m o).1.objs.length = m.objs.length ∧ (dropM m o).1.P = m.P := by
  unfold dropM
  split
  · exact ⟨rfl, rfl⟩
  · exact ⟨len_setM _ _ _, rfl⟩
theorem objs_pinM (m : MS) (o : Int) (on : Bool) : (pinM m o on).1.objs.length = m.objs.length ∧ (pinM m o on).1.P = m.P := by
  unfold pinM
  split
  · exact ⟨rfl, rfl⟩
  · split
    · exact ⟨rfl, rfl⟩
    · exact ⟨len_setM _ _ _, rfl⟩
theorem objs_holdM (m : MS) (t : Nat) : (holdM m t).objs.length = m.objs.length ∧ (holdM m t).P = m.P := by
  unfold holdM
  split
  · exact ⟨len_setM _ _ _, rfl⟩
  · exact ⟨rfl, rfl⟩
theorem objs_refM (m : MS) (o p : Int) : (refM m o p).1.objs.length = m.objs.length ∧ (refM m o p).1.P = m.P := by
  unfold refM
  split
  · exact ⟨rfl, rfl⟩
  · split
    · show (if _ then _ else _ : MS).objs.length = _ ∧ (if _ then _ else _ : MS).P = _
      split
      · exact objs_holdM m _
      · exact ⟨rfl, rfl⟩
    · exact ⟨rfl, rfl⟩
theorem objs_setWM (m : MS) (o p : Int) (X : Nat) : (setWM m o p X).objs.length = m.objs.length ∧ (setWM m o p X).P = m.P := by
  unfold setWM
  split
  · exact ⟨rfl, rfl⟩
  · split
    · exact ⟨len_setM _ _ _, rfl⟩
    · exact ⟨rfl, rfl⟩
theorem objs_defM (m : MS) (ws : List Nat) : (defM m ws).1.objs = m.objs ∧ (defM m ws).1.P = m.P := by
  unfold defM
  split
  · exact ⟨rfl, rfl⟩
  · split <;> exact ⟨rfl, rfl⟩
theorem Step_eq {s s' : CS} {m m' : MS} {told : List (Nat × Nat)} (h1 : m'.objs.length = m.objs.length) (h2 : m'.P = m.P) (h3 : shapeT s'.tab = shapeT s.tab) : Step s m told s' m' told := ⟨by rw [h2]; omega, by omega, .inl ⟨rfl, h3⟩⟩
end Go.Proofs.YtcaaojbnjfdglaaGreatDoor
namespace Go.Proofs.YtcaaojbnjfdglaaGreatDoor
open Go.SL

theorem beq_int (x : Int) : (x == x) = true := beq_self_eq_true x
theorem Do_spec [Extra] (p : Nat) (s : CS) (m : MS) (told : List (Nat × Nat)) (R : Rel s m told) (hseq : Seq s) (hfew : m.objs.length < 100000) (hP : m.P.length < 100000) (k A B C i g : Int) (X : Nat) (hX : X < 18446744073709551616) (vW : Value) (ws : List Nat) (hws : ∀ x ∈ ws, x < 18446744073709551616) (raw : Bool)
    {w : World} {fr : List HProp} [hT : HasTab 0 Lib.deBruijn64tab fr] (hrW : RdS fr vW ws.length 1 (ucells ws)) (H : Holds w (RUN p s m told :: fr)) :
    Calls Tryz.prog 15 #[pp p, .agg #[.int .i64 k, .int .i64 A, .int .i64 B, .int .i64 C, .int .u64 X, vW, .bool raw, .int .i64 i, .int .i64 g]] w (ret fun v w' => v = .bool true ∧ ∃ s' m' told', Rel s' m' told' ∧ Step s m told s' m' told' ∧ Holds w' (RUN p s' m' told' :: fr)) := by
  obtain ⟨_, adW, capW, rfl, _⟩ := id hrW
  obtain ⟨c, mo, a, cap, H⟩ := RUN_out H
  have hlen : told.length ≤ 1000000 := by rw [R.len]; omega
  obtain ⟨_, _, hw, _, _⟩ := CELL_out H.swap
  obtain ⟨_, _, _, _, _, _, _, hmw, _⟩ := MODEL_out (H.sel [2, 0, 0, 0] 0)
  refine calls_of Tryz.func15 rfl (by kernel_rfl) ?_
  refine J5 H ?_
  clear H; intro b3 w H
  refine J22 H ?_
  refine C_join (fun ms σ w => ms = [] ∧ ∃ (b5 : Nat) (i' g' o : Int), Pick told i' g' o ∧ σ 0 = pp p ∧ σ 3 = pp b3 ∧ σ 5 = pp b5 ∧ σ 6 = .int .i64 o ∧ Holds w (pts b5 (row 32 [.int .i64 i', .int .i64 g']) :: pts b3 (row 34 [.int .i64 k, .int .i64 A, .int .i64 B, .int .i64 C, .int .u64 X, .slice adW ws.length capW, .bool raw, .int .i64 i, .int .i64 g]) :: RROW p c mo (.slice a told.length cap) :: CELL c s :: MODEL mo m :: TKL (.slice a told.length cap) told :: fr)) ?_ ?_
  · replace H := Js [1,3,0,0,0] 0 H
    refine J164 H ?_
    refine J29 H ?_
    refine J76 H ?_
    refine J53 H ?_
    refine Jc rfl rfl (pick_spec p c mo a cap told hlen A i g raw H) ?_
    clear H; rintro v w ⟨i', g', o, rfl, hp, _, _, H⟩
    refine J19 H ?_
    clear H; intro b5 w H
    refine J7 H ?_
    clear H; intro w H
    refine J0 H ?_
    replace H := Js [0,2,0,1,1,0] 0 H
    exact ⟨rfl, rfl, _, i', g', o, hp, rfl, rfl, rfl, rfl, H⟩
  clear H
  rintro ms σ w ⟨rfl, b5, i', g', o, hPk, g0, g3, g5, g6, H⟩
  rw [upd_self g0, upd_self g3, upd_self g5, upd_self g6]
  refine J44 H ?_
  refine Lp_nil ?_
  refine J28 H ?_
  refine J3 H ?_
  by_cases hk0 : k = 0
  · subst hk0
    refine J13 H ?_
    replace H := Js [3,0,0,0,0,0] 0 H
    refine J1 H ?_
    clear H; intro w H
    refine J115 H ?_
    refine Jk rfl rfl (Define_spec c s _ ws hws hrW.there.there.there.there.there H) ?_
    clear H; rintro v w ⟨rfl, H⟩
    obtain ⟨hd, R'⟩ := def_law R hmw ws
    rw [hd]
    refine J104 H ?_
    replace H := Js [4,0,0,0,0,0] 0 H
    refine J1 H ?_
    clear H; intro w H
    refine J115 H ?_
    refine Jk rfl rfl (Define15_spec mo m _ ws hws hrW.there.there.there.there.there H) ?_
    clear H; rintro v w ⟨rfl, H⟩
    refine J104 H ?_
    refine J10 H ?_
    rw [beq_int (((defM m ws).2.1 : Nat) : Int)]
    refine J204 H ?_
    rw [beq_int (((defM m ws).2.2 : Nat) : Int)]
    refine J4 H ?_
    replace H := Js [4,1,0,2] 2 H
    exact C_ret (Jy H rfl fun w' H' => ⟨rfl, _, _, _, R', ⟨by rw [(objs_defM m ws).2]; omega, by rw [(objs_defM m ws).1]; omega, .inl ⟨rfl, shape_defS s ws⟩⟩, RUN_in H'⟩)
  rw [show (k == 0) = false by simpa using hk0]
  refine J38 H ?_
  by_cases hk1 : k = 1
  · subst hk1
    refine J13 H ?_
    have hl := R.last
    have he := err_law R hw A
    replace H := Js [3,0,0,0,0,0] 0 H
    refine J1 H ?_
    clear H; intro w H
    refine J115 H ?_
    refine Jk rfl rfl (Open_spec c s A (by omega) H) ?_
    clear H; rintro v w (⟨h1, rfl, H⟩ | ⟨h1, b, b2, rfl, H⟩)
    · rw [he] at h1 ⊢
      have ho : openM m A = (m, 0, dErr m.P A) := by unfold openM; rw [if_neg h1]
      refine J104 H ?_
      replace H := Js [4,0,0,0,0,0] 0 H
      refine J1 H ?_
      clear H; intro w H
      refine J115 H ?_
      refine Jk rfl rfl (Open15_spec mo m A hP H) ?_
      clear H; rintro v w ⟨rfl, H⟩
      rw [ho] at H ⊢
      refine J104 H ?_
      refine J86 H ?_
      refine J43 H ?_
      rw [beq_int ((dErr m.P A : Nat) : Int)]
      refine J4 H ?_
      replace H := Js [4,1,0,2] 2 H
      exact C_ret (Jy H rfl fun w' H' => ⟨rfl, _, _, _, R, Step_eq rfl rfl rfl, RUN_in H'⟩)
    · rw [he] at h1
      have ho : openM m A = ({ m with P := m.P ++ [A] }, m.P.length, 0) := by unfold openM; rw [if_pos h1]
      refine J104 H ?_
      replace H := Js [4,0,0,0,0,0] 0 H
      refine J1 H ?_
      clear H; intro w H
      refine J115 H ?_
      refine Jk rfl rfl (Open15_spec mo m A hP H) ?_
      clear H; rintro v w ⟨rfl, H⟩
      rw [ho] at H ⊢
      rw [hl]
      refine J104 H ?_
      refine J10 H ?_
      rw [beq_int ((m.P.length : Nat) : Int)]
      refine J204 H ?_
      refine J4 H ?_
      replace H := Js [4,1,0,2] 2 H
      exact C_ret (Jy H rfl fun w' H' => ⟨rfl, _, _, _, open_rel R h1 b b2, ⟨by show (m.P ++ [A]).length ≤ _; simp, by show m.objs.length ≤ _; omega, .inl ⟨rfl, rfl⟩⟩, RUN_in H'⟩)
  rw [show (k == 1) = false by simpa using hk1]
  refine J38 H ?_
  by_cases hk2 : k = 2
  · subst hk2
    refine J13 H ?_
    refine J35 H ?_
    replace H := Js [2,2,2,2,0,0] 0 H
    refine Jc rfl rfl (made_spec p c mo a cap s m told R hseq hfew _ A B C _ i g .i64 _ raw rfl H) ?_
    clear H; rintro v w ⟨rfl, s', m', told', a', cap', R', S', H⟩
    refine J0 H ?_
    replace H := Js [0,0,0,0] 2 H
    exact C_ret (Jy H rfl fun w' H' => ⟨rfl, s', m', told', R', S', RUN_in H'⟩)
  rw [show (k == 2) = false by simpa using hk2]
  refine J38 H ?_
  by_cases hk3 : k = 3
  · subst hk3
    refine J13 H ?_
    replace H := Js [3,0,0,0,0,0] 0 H
    refine J1 H ?_
    clear H; intro w H
    refine A_pv 0 rfl (Wants.none rfl) rfl (by kernel_rfl) ?_
    refine A_pv 1 rfl (Wants.none rfl) rfl (by kernel_rfl) ?_
    refine A_fieldAddr 2 rfl (Wants.none rfl) rfl (by kernel_rfl) ?_
    refine A_load1 3 [7] H rfl (Wants.none rfl) rfl rfl (by kernel_rfl) ?_
    refine A_loadN 4 [7] H rfl (Wants.none rfl) rfl (by repeat (first | exact Reads.nil _ | apply Reads.cons rfl)) (by kernel_rfl) ?_
    refine J54 H ?_
    refine A_load1 6 [7] H rfl (Wants.none rfl) rfl rfl (by kernel_rfl) ?_
    refine Jo 7 H ?_
    refine Jk rfl rfl (Get_spec c s i' g' B H) ?_
    clear H; rintro v w ⟨rfl, H⟩
    rcases get_law R hPk B with ⟨h0, h1⟩ | ⟨h0, n, j, x, rfl, rfl, hx, hj, h1⟩
    · rw [h1]
      refine J91 H ?_
      refine J74 H ?_
      refine J61 H ?_
      replace H := Js [4,0,0,0,0,0] 0 H
      refine J1 H ?_
      clear H; intro w H
      refine J175 H ?_
      refine Jk rfl rfl (Place_spec mo m o B false H) ?_
      clear H; rintro v w ⟨rfl, H⟩
      refine J136 H ?_
      refine J3 H ?_
      rw [show (((placeM m o B false : Nat) : Int) != 0) = true by rw [bne_iff_ne]; omega]
      refine J13 H ?_
      refine J10 H ?_
      rw [beq_int ((placeM m o B false : Nat) : Int)]
      refine J46 H ?_
      refine J4 H ?_
      replace H := Js [4,1,0,2] 2 H
      exact C_ret (Jy H rfl fun w' H' => ⟨rfl, s, m, told, R, Step_eq rfl rfl rfl, RUN_in H'⟩)
    · rw [h1]
      have hnl := (List.getElem?_eq_some_iff.1 hx).1
      have hjx := List.getElem?_eq_getElem hj
      have hjd : x.w.getD j 0 = x.w[j] := by rw [List.getD_eq_getElem?_getD, hjx]; rfl
      have hsm := MODEL_sizes (w := hmw) hx
      rw [hjd]
      generalize x.w[j] = y at hjx
      refine J91 H ?_
      refine J74 H ?_
      refine J61 H ?_
      replace H := Js [4,0,0,0,0,0] 0 H
      refine J1 H ?_
      clear H; intro w H
      refine J175 H ?_
      refine Jk rfl rfl (Place_spec mo m n j false H) ?_
      clear H; rintro v w ⟨rfl, H⟩
      rw [h0]
      refine J136 H ?_
      refine J57 H ?_
      obtain ⟨t, lc, aL, cL, bO, cO, sO, ptrs, q, vw, vk, vt, rest, hm, h2, hp, H, hclose⟩ := MODEL_at H hx
      have hm' := set_same hx hm
      obtain ⟨aw, cw, rfl⟩ := sls_slice H.drop (ucells_length _) (by decide)
      obtain ⟨bW, sW, rfl, H, hcw⟩ := sls_open H.swap (by omega)
      refine J1 H ?_
      clear H; intro w H
      refine J184 H ?_
      refine A_pv 3 rfl (Wants.of rfl rfl rfl) rfl (by kernel_rfl) ?_
      refine A_pv 4 rfl (Wants.of rfl rfl rfl) rfl (by kernel_rfl) ?_
      refine J234 H ?_
      refine A_fieldAddr 6 rfl (Wants.of rfl rfl rfl) rfl (by kernel_rfl) ?_
      refine A_load1 7 [] H rfl (Wants.of rfl rfl rfl) rfl rfl (by kernel_rfl) ?_
      refine A_pv 8 rfl (Wants.of rfl rfl rfl) rfl (by kernel_rfl) ?_
      refine A_fieldAddr 9 rfl (Wants.of rfl rfl rfl) rfl (by kernel_rfl) ?_
      refine A_load1 10 [] H rfl (Wants.of rfl rfl rfl) rfl rfl (by kernel_rfl) ?_
      refine J171 H ?_
      refine A_indexAddr 12 rfl (Wants.of rfl rfl rfl) rfl rfl (by omega) (by omega) (by kernel_rfl) ?_
      refine A_load1 13 [] H rfl (Wants.of rfl rfl rfl) rfl hp (by kernel_rfl) ?_
      refine J172 H ?_
      refine A_fieldAddr 15 rfl (Wants.of rfl rfl rfl) rfl (by kernel_rfl) ?_
      refine A_load1 16 [] H rfl (Wants.of rfl rfl rfl) rfl rfl (by kernel_rfl) ?_
      refine A_fieldAddr 17 rfl (Wants.of rfl rfl rfl) rfl (by kernel_rfl) ?_
      refine A_load1 18 [] H rfl (Wants.of rfl rfl rfl) rfl rfl (by kernel_rfl) ?_
      refine A_indexAddr 19 rfl (Wants.of rfl rfl rfl) rfl rfl (by omega) (by omega) (by kernel_rfl) ?_
      refine A_load1 20 [] H rfl (Wants.of rfl rfl rfl) rfl (ucells_get hjx) (by kernel_rfl) ?_
      refine A_pv 21 rfl (Wants.of rfl rfl rfl) rfl (by kernel_rfl) ?_
      rw [beq_int (y : Int)]
      refine A_pv 22 rfl (Wants.none rfl) rfl (by kernel_rfl) ?_
      refine A_pv 23 rfl (Wants.none rfl) rfl (by kernel_rfl) ?_
      refine J2 H ?_
      replace H := MODEL_same hx (hclose _ _ _ hm' (hcw _ _ H).swap)
      replace H := Js [4,1,0,2] 2 H
      exact C_ret (Jy H rfl fun w' H' => ⟨rfl, s, m, told, R, Step_eq rfl rfl rfl, RUN_in H'⟩)
  rw [show (k == 3) = false by simpa using hk3]
  refine J38 H ?_
  by_cases hk4 : k = 4
  · subst hk4
    refine J13 H ?_
    replace H := Js [3,0,0,0,0,0] 0 H
    refine J1 H ?_
    clear H; intro w H
    refine J14 H ?_
    refine A_load1 3 [9, 17] H rfl (Wants.none rfl) rfl rfl (by kernel_rfl) ?_
    refine A_loadN 4 [9, 17] H rfl (Wants.none rfl) rfl (by repeat (first | exact Reads.nil _ | apply Reads.cons rfl)) (by kernel_rfl) ?_
    refine J54 H ?_
    refine A_load1 6 [9, 17] H rfl (Wants.none rfl) rfl rfl (by kernel_rfl) ?_
    refine A_fieldAddr 7 rfl (Wants.none rfl) rfl (by kernel_rfl) ?_
    refine A_load1 8 [9, 17] H rfl (Wants.none rfl) rfl rfl (by kernel_rfl) ?_
    refine J40 H ?_
    refine J74 H ?_
    refine A_fieldAddr 12 rfl (Wants.none rfl) rfl (by kernel_rfl) ?_
    refine A_load1 13 [17] H rfl (Wants.none rfl) rfl rfl (by kernel_rfl) ?_
    refine J125 H ?_
    refine J194 H ?_
    refine A_load1 16 [17] H rfl (Wants.none rfl) rfl rfl (by kernel_rfl) ?_
    obtain ⟨hd, R'⟩ := set_law R hPk B X
    refine Jo 9 H ?_
    refine Jk rfl rfl (Set_spec c s i' g' B X hX H) ?_
    clear H; rintro v w ⟨rfl, H⟩
    rw [hd]
    replace H := Js [4,0,0,0,0,0] 0 H
    refine Jo 17 H ?_
    refine Jk rfl rfl (Place_spec mo m o B false H) ?_
    clear H; rintro v w ⟨rfl, H⟩
    refine J233 H ?_
    refine A_pv 19 rfl (Wants.none rfl) rfl (by kernel_rfl) ?_
    refine J2 H ?_
    refine J3 H ?_
    have hob := objs_setWM m o B X
    by_cases h0 : placeM m o B false = 0
    · obtain ⟨n, x, hv⟩ : ∃ n x, valM m o = some (n, x) := by
        cases hv : valM m o with
        | none => rw [placeM_none hv] at h0; cases h0
        | some kx => exact ⟨kx.1, kx.2, rfl⟩
      have h0' := h0
      rw [placeM_some hv] at h0'
      rw [setWM_some hv, if_pos h0'] at R' hob
      obtain ⟨rfl, hx, hh, hg⟩ := valM_some hv
      obtain ⟨j, rfl, hj, hr⟩ := placeE_ok h0'
      rw [Int.toNat_natCast] at R' hob
      rw [h0]
      have hnl := (List.getElem?_eq_some_iff.1 hx).1
      have hsm := MODEL_sizes (w := hmw) hx
      refine J13 H ?_
      obtain ⟨t, lc, aL, cL, bO, cO, sO, ptrs, q, vw, vk, vt, rest, hm, h2, hp, H, hclose⟩ := MODEL_at H hx
      obtain ⟨aw, cw, rfl⟩ := sls_slice H.drop (ucells_length _) (by decide)
      obtain ⟨bW, sW, rfl, H, _, _, hcw⟩ := sls_open2 H.swap (by omega)
      have hmx := hm.objs x (List.mem_of_getElem? hx)
      have hm' : MWF (setM m n { x with w := x.w.set j X }) := MWF_set hm (by
        obtain ⟨a1, a2, a3, a4, a5⟩ := hmx
        exact ⟨by show ∃ l, _ ∧ _ ∧ sizeL l _ = ((x.w.set j X).length, 0); rw [List.length_set]; exact a1, a2, by show _ = (x.w.set j X).length; rw [List.length_set]; exact a3, by show _ = (x.w.set j X).length; rw [List.length_set]; exact a4, a5⟩)
      refine J1 H ?_
      clear H; intro w H
      refine J14 H ?_
      refine A_load1 3 [18] H rfl (Wants.none rfl) rfl rfl (by kernel_rfl) ?_
      refine A_pv 4 rfl (Wants.none rfl) rfl (by kernel_rfl) ?_
      refine A_fieldAddr 5 rfl (Wants.none rfl) rfl (by kernel_rfl) ?_
      refine A_load1 6 [18] H rfl (Wants.none rfl) rfl rfl (by kernel_rfl) ?_
      refine J152 H ?_
      refine A_indexAddr 8 rfl (Wants.none rfl) rfl rfl (by omega) (by omega) (by kernel_rfl) ?_
      refine A_load1 9 [18] H rfl (Wants.none rfl) rfl hp (by kernel_rfl) ?_
      refine J40 H ?_
      refine A_fieldAddr 11 rfl (Wants.none rfl) rfl (by kernel_rfl) ?_
      refine A_load1 12 [18] H rfl (Wants.none rfl) rfl rfl (by kernel_rfl) ?_
      refine A_fieldAddr 13 rfl (Wants.none rfl) rfl (by kernel_rfl) ?_
      refine A_load1 14 [18] H rfl (Wants.none rfl) rfl rfl (by kernel_rfl) ?_
      refine J194 H ?_
      refine A_load1 16 [18] H rfl (Wants.none rfl) rfl rfl (by kernel_rfl) ?_
      refine A_indexAddr 17 rfl (Wants.none rfl) rfl rfl (by omega) (by omega) (by kernel_rfl) ?_
      refine Jo 18 H ?_
      refine St_store1 H rfl rfl inferInstance rfl (by simp only [List.length_append, ucells_length]; omega) rfl ?_
      clear H; intro w H
      rw [Int.toNat_natCast, ucells_set (by omega)] at H
      refine J2 H ?_
      refine J168 H ?_
      replace H := hcw _ _ (ucells (x.w.set j X)) (by simp [ucells]) H
      replace H := hclose _ _ { x with w := x.w.set j X } hm' H.swap
      replace H := Js [4,1,0,2] 2 H
      exact C_ret (Jy H rfl fun w' H' => ⟨rfl, _, _, _, R', Step_eq hob.1 hob.2 (shape_setWS s i' g' j X), RUN_in H'⟩)
    · rw [show (((placeM m o B false : Nat) : Int) == 0) = false by simpa using h0]
      have hsw : setWM m o B X = m := by
        cases hv : valM m o with
        | none => rw [setWM_none hv]
        | some kx =>
          obtain ⟨n, x⟩ := kx
          rw [placeM_some hv] at h0
          rw [setWM_some hv, if_neg h0]
      rw [hsw] at R'
      refine J187 H ?_
      rw [beq_int ((placeM m o B false : Nat) : Int)]
      refine J0 H ?_
      replace H := Js [4,1,0,2] 2 H
      exact C_ret (Jy H rfl fun w' H' => ⟨rfl, _, _, _, R', Step_eq rfl rfl (shape_setWS s i' g' B X), RUN_in H'⟩)
  rw [show (k == 4) = false by simpa using hk4]
  refine J38 H ?_
  by_cases hk5 : k = 5
  · subst hk5
    refine J13 H ?_
    replace H := Js [3,0,0,0,0,0] 0 H
    obtain ⟨hd, hln, hk2, hlt, R'⟩ := ref_law R hmw hPk B
    obtain ⟨l1, l2, l3, hlk⟩ := lkv_agg (lookL s i' g' B).1
    have hRf := fun (w : World) (fr : List HProp) (H : Holds w (CELL c s :: fr)) => Ref_spec c s i' g' B H
    rw [hlk, hd] at hRf
    rw [hln] at hlk
    refine J12 H ?_
    refine C_join (fun ms σ w => ms = [] ∧ ∃ b20, σ 0 = pp p ∧ σ 3 = pp b3 ∧ σ 6 = .int .i64 o ∧ σ 20 = pp b20 ∧ σ 21 = .int .i64 ((refM m o B).2.2.2 : Nat) ∧ Holds w (pts b20 (row 61 [.int .i64 l1, .int .i64 l2, .int .i64 l3]) :: pts b3 (row 34 [.int .i64 5, .int .i64 A, .int .i64 B, .int .i64 C, .int .u64 X, .slice adW ws.length capW, .bool raw, .int .i64 i, .int .i64 g]) :: RROW p c mo (.slice a told.length cap) :: CELL c (refS s i' g' B) :: MODEL mo m :: TKL (.slice a told.length cap) told :: fr)) ?_ ?_
    · refine J1 H ?_
      clear H; intro w H
      refine J14 H ?_
      refine J251 H ?_
      refine J252 H ?_
      refine J54 H ?_
      refine J253 H ?_
      refine A_two 7 11 rfl rfl (by kernel_rfl) (by repeat first | exact .nil | refine .cons (.inr H.at) ?_ | refine .cons (.inr H.mp) ?_ | refine .cons (.inl (by kernel_rfl)) ?_) (Wants.none rfl) (Wants.none rfl) (St_call (a := []) (b := []) rfl rfl (call (hRf _ _ H) ?_)) (St_alloc H rfl ?_)
      · clear H; rintro v w ⟨rfl, H⟩
        refine J229 H ?_
        refine St_alloc H rfl ?_
        clear H; intro b20 w H
        refine J97 H ?_
        clear H; intro w H
        refine J94 H ?_
        replace H := Js [0,2,2,0,1,1] 1 H
        exact ⟨rfl, rfl, b20, rfl, rfl, rfl, rfl, rfl, H⟩
      · clear H; intro b20 w H
        refine Jo 7 H ?_
        refine Jk rfl rfl (hRf _ _ H.swap) ?_
        clear H; rintro v w ⟨rfl, H⟩
        refine J91 H ?_
        refine J97 H ?_
        clear H; intro w H
        refine J94 H ?_
        replace H := Js [1,2,2,0,1,1] 1 H
        exact ⟨rfl, rfl, b20, rfl, rfl, rfl, rfl, rfl, H⟩
    clear H
    rintro ms σ w ⟨rfl, b20, g0, g3, g6, g20, g21, H⟩
    rw [upd_self g0, upd_self g3, upd_self g6, upd_self g20, upd_self g21]
    replace H := Js [4,0,0,0,0,0] 0 H
    refine J1 H ?_
    clear H; intro w H
    refine J175 H ?_
    refine Jk rfl rfl (Ref15_spec mo m o B H) ?_
    clear H; rintro v w ⟨rfl, H⟩
    refine J91 H ?_
    refine J193 H ?_
    refine J2 H ?_
    refine J10 H ?_
    rw [beq_int (((refM m o B).2.2.2 : Nat) : Int)]
    replace H := Js [3,4,1,1,1,0] 0 H
    refine J144 H ?_
    refine J64 H ?_
    refine J30 H ?_
    have hlink := fun (w : World) (fr : List HProp) (H : Holds w (RROW p c mo (.slice a told.length cap) :: TKL (.slice a told.length cap) told :: fr)) => link_spec p c mo a cap told (refM m o B).2.1 (refM m o B).2.2.1 hk2 hlt H
    rw [hlk] at hlink
    refine Lp_g rfl rfl rfl (St_call (a := []) (b := []) rfl rfl (call (hlink _ _ H) ?_))
    clear H; rintro v w ⟨rfl, H⟩
    refine J4 H ?_
    replace H := Js [0,3,3,0] 2 H
    exact C_ret (Jy H rfl fun w' H' => ⟨rfl, _, _, _, R', Step_eq (objs_refM m o B).1 (objs_refM m o B).2 (shape_refS s i' g' B), RUN_in H'⟩)
  rw [show (k == 5) = false by simpa using hk5]
  refine J38 H ?_
  by_cases hk6 : k = 6
  · subst hk6
    refine J13 H ?_
    replace H := Js [2,4,0,0,0,0] 0 H
    refine J164 H ?_
    refine J76 H ?_
    refine J53 H ?_
    refine Jc rfl rfl (pick_spec p c mo a cap told hlen C i g false H) ?_
    clear H; rintro v w ⟨u', v', q, rfl, hQ, _, _, H⟩
    refine J19 H ?_
    clear H; intro b25 w H
    refine J7 H ?_
    clear H; intro w H
    refine J0 H ?_
    replace H := Js [5,0,0,0,0,0,0] 0 H
    refine J1 H ?_
    clear H; intro w H
    refine J14 H ?_
    refine A_load1 3 [8, 17] H rfl (Wants.none rfl) rfl rfl (by kernel_rfl) ?_
    refine A_loadN 4 [8, 17] H rfl (Wants.none rfl) rfl (by repeat (first | exact Reads.nil _ | apply Reads.cons rfl)) (by kernel_rfl) ?_
    refine J54 H ?_
    refine A_load1 6 [8, 17] H rfl (Wants.none rfl) rfl rfl (by kernel_rfl) ?_
    refine A_loadN 7 [8, 17] H rfl (Wants.none rfl) rfl (by repeat (first | exact Reads.nil _ | apply Reads.cons rfl)) (by kernel_rfl) ?_
    refine J143 H ?_
    refine A_fieldAddr 11 rfl (Wants.none rfl) rfl (by kernel_rfl) ?_
    refine A_load1 12 [17] H rfl (Wants.none rfl) rfl rfl (by kernel_rfl) ?_
    refine J191 H ?_
    refine A_fieldAddr 14 rfl (Wants.none rfl) rfl (by kernel_rfl) ?_
    refine A_load1 15 [17] H rfl (Wants.none rfl) rfl rfl (by kernel_rfl) ?_
    refine J109 H ?_
    obtain ⟨hd, R'⟩ := tie_law R hw hmw hPk hQ B
    refine Jo 8 H ?_
    refine Jk rfl rfl (CTie_spec c s i' g' B u' v' H) ?_
    clear H; rintro v w ⟨rfl, H⟩
    rw [hd]
    replace H := Js [6,0,0,0,0,0,0] 0 H
    refine Jo 17 H ?_
    refine Jk rfl rfl (Tie15_spec mo m o B q H) ?_
    clear H; rintro v w ⟨rfl, H⟩
    refine J233 H ?_
    rw [beq_int (((tieM m o B q).2 : Nat) : Int)]
    refine A_pv 19 rfl (Wants.none rfl) rfl (by kernel_rfl) ?_
    refine J2 H ?_
    replace H := Js [3,1,0,1] 3 H
    exact C_ret (Jy H rfl fun w' H' => ⟨rfl, _, _, _, R', Step_eq (objs_tieM m o B q).1 (objs_tieM m o B q).2 (shape_TieS s i' g' B u' v'), RUN_in H'⟩)
  rw [show (k == 6) = false by simpa using hk6]
  refine J38 H ?_
  by_cases hk7 : k = 7
  · subst hk7
    refine J13 H ?_
    replace H := Js [3,0,0,0,0,0] 0 H
    refine J1 H ?_
    clear H; intro w H
    refine J14 H ?_
    refine A_load1 3 [7, 15] H rfl (Wants.none rfl) rfl rfl (by kernel_rfl) ?_
    refine A_loadN 4 [7, 15] H rfl (Wants.none rfl) rfl (by repeat (first | exact Reads.nil _ | apply Reads.cons rfl)) (by kernel_rfl) ?_
    refine J54 H ?_
    refine A_load1 6 [7, 15] H rfl (Wants.none rfl) rfl rfl (by kernel_rfl) ?_
    refine A_pv 8 rfl (Wants.none rfl) rfl (by kernel_rfl) ?_
    refine A_pv 9 rfl (Wants.none rfl) rfl (by kernel_rfl) ?_
    refine A_fieldAddr 10 rfl (Wants.none rfl) rfl (by kernel_rfl) ?_
    refine A_load1 11 [15] H rfl (Wants.none rfl) rfl rfl (by kernel_rfl) ?_
    refine J161 H ?_
    refine A_fieldAddr 13 rfl (Wants.none rfl) rfl (by kernel_rfl) ?_
    refine A_load1 14 [15] H rfl (Wants.none rfl) rfl rfl (by kernel_rfl) ?_
    obtain ⟨hd, R'⟩ := cut_law R hmw hPk B
    refine Jo 7 H ?_
    refine Jk rfl rfl (CCut_spec c s i' g' B H) ?_
    clear H; rintro v w ⟨rfl, H⟩
    rw [hd]
    replace H := Js [4,0,0,0,0,0] 0 H
    refine Jo 15 H ?_
    refine Jk rfl rfl (Cut15_spec mo m o B H) ?_
    clear H; rintro v w ⟨rfl, H⟩
    refine J109 H ?_
    rw [beq_int (((cutM m o B).2 : Nat) : Int)]
    refine J235 H ?_
    replace H := Js [4,1,0,2] 2 H
    exact C_ret (Jy H rfl fun w' H' => ⟨rfl, _, _, _, R', Step_eq (objs_cutM m o B).1 (objs_cutM m o B).2 (shape_tieS s i' g' B .none), RUN_in H'⟩)
  rw [show (k == 7) = false by simpa using hk7]
  refine J38 H ?_
  by_cases hk8 : k = 8
  · subst hk8
    refine J13 H ?_
    replace H := Js [3,0,0,0,0,0] 0 H
    refine J1 H ?_
    clear H; intro w H
    refine J14 H ?_
    refine A_load1 3 [5, 11] H rfl (Wants.none rfl) rfl rfl (by kernel_rfl) ?_
    refine A_loadN 4 [5, 11] H rfl (Wants.none rfl) rfl (by repeat (first | exact Reads.nil _ | apply Reads.cons rfl)) (by kernel_rfl) ?_
    refine J67 H ?_
    refine J131 H ?_
    refine A_load1 9 [11] H rfl (Wants.none rfl) rfl rfl (by kernel_rfl) ?_
    refine J40 H ?_
    obtain ⟨hd, R'⟩ := drop_law R hPk
    refine Jo 5 H ?_
    refine Jk rfl rfl (Drop_spec c s i' g' H) ?_
    clear H; rintro v w ⟨rfl, H⟩
    rw [hd]
    replace H := Js [4,0,0,0,0,0] 0 H
    refine Jo 11 H ?_
    refine Jk rfl rfl (Drop15_spec mo m o H) ?_
    clear H; rintro v w ⟨rfl, H⟩
    refine J161 H ?_
    rw [beq_int (((dropM m o).2 : Nat) : Int)]
    refine J94 H ?_
    replace H := Js [4,1,0,2] 2 H
    exact C_ret (Jy H rfl fun w' H' => ⟨rfl, _, _, _, R', Step_eq (objs_dropM m o).1 (objs_dropM m o).2 (shape_dropS s i' g'), RUN_in H'⟩)
  rw [show (k == 8) = false by simpa using hk8]
  refine J38 H ?_
  by_cases hk9 : k = 9
  · subst hk9
    refine J13 H ?_
    replace H := Js [3,0,0,0,0,0] 0 H
    refine J1 H ?_
    clear H; intro w H
    refine J14 H ?_
    refine A_load1 3 [9, 19] H rfl (Wants.none rfl) rfl rfl (by kernel_rfl) ?_
    refine A_loadN 4 [9, 19] H rfl (Wants.none rfl) rfl (by repeat (first | exact Reads.nil _ | apply Reads.cons rfl)) (by kernel_rfl) ?_
    refine J54 H ?_
    refine A_load1 6 [9, 19] H rfl (Wants.none rfl) rfl rfl (by kernel_rfl) ?_
    refine J152 H ?_
    refine J81 H ?_
    refine J40 H ?_
    refine J74 H ?_
    refine A_fieldAddr 12 rfl (Wants.none rfl) rfl (by kernel_rfl) ?_
    refine A_load1 13 [19] H rfl (Wants.none rfl) rfl rfl (by kernel_rfl) ?_
    refine J125 H ?_
    refine J194 H ?_
    refine A_load1 16 [19] H rfl (Wants.none rfl) rfl rfl (by kernel_rfl) ?_
    refine A_pv 17 rfl (Wants.none rfl) rfl (by kernel_rfl) ?_
    refine J233 H ?_
    generalize hon : (bitI .and .u64 (X : Int) 1 == 1) = on
    obtain ⟨hd, R'⟩ := pin_law R hPk on
    refine Jo 9 H ?_
    refine Jk rfl rfl (Pin_spec c s i' g' on H) ?_
    clear H; rintro v w ⟨rfl, H⟩
    rw [hd]
    replace H := Js [4,0,0,0,0,0] 0 H
    refine Jo 19 H ?_
    refine Jk rfl rfl (Pin15_spec mo m o on H) ?_
    clear H; rintro v w ⟨rfl, H⟩
    refine A_pv 20 rfl (Wants.none rfl) rfl (by kernel_rfl) ?_
    rw [beq_int (((pinM m o on).2 : Nat) : Int)]
    refine A_pv 21 rfl (Wants.none rfl) rfl (by kernel_rfl) ?_
    refine J2 H ?_
    replace H := Js [4,1,0,2] 2 H
    exact C_ret (Jy H rfl fun w' H' => ⟨rfl, _, _, _, R', Step_eq (objs_pinM m o on).1 (objs_pinM m o on).2 (shape_pinS s i' g' on), RUN_in H'⟩)
  rw [show (k == 9) = false by simpa using hk9]
  refine J38 H ?_
  by_cases hk10 : k = 10
  · subst hk10
    refine J13 H ?_
    refine J35 H ?_
    refine J9 H ?_
    replace H := Js [2,2,2,2,0,0] 0 H
    refine Jc rfl rfl (tellR_spec p c mo _ s m told R.w i' g' o (rel_valid R hPk) H) ?_
    clear H; rintro v w ⟨rfl, H⟩
    refine J0 H ?_
    replace H := Js [0,0,0,0] 2 H
    exact C_ret (Jy H rfl fun w' H' => ⟨rfl, s, m, told, R, Step_eq rfl rfl rfl, RUN_in H'⟩)
  rw [show (k == 10) = false by simpa using hk10]
  refine J38 H ?_
  by_cases hk11 : k = 11
  · subst hk11
    refine J13 H ?_
    replace H := Js [3,0,0,0,0,0] 0 H
    have hLk := fun (w : World) (fr : List HProp) (H : Holds w (CELL c s :: fr)) => Look_spec c s i' g' B H
    rcases look_law R hPk B with ⟨h0, h1⟩ | ⟨h0, n, j, x, rfl, rfl, hx, hv, hj, hr, hk2, h1⟩
    · rw [h1] at hLk
      obtain ⟨l1, l2, l3, hlk⟩ := lkv_agg .none
      rw [hlk] at hLk
      refine J12 H ?_
      refine C_join (fun ms σ w => ms = [] ∧ ∃ b27, σ 0 = pp p ∧ σ 3 = pp b3 ∧ σ 6 = .int .i64 o ∧ σ 27 = pp b27 ∧ σ 28 = .int .i64 (placeM m o B true : Nat) ∧ Holds w (pts b27 (row 61 [.int .i64 l1, .int .i64 l2, .int .i64 l3]) :: pts b3 (row 34 [.int .i64 11, .int .i64 A, .int .i64 B, .int .i64 C, .int .u64 X, .slice adW ws.length capW, .bool raw, .int .i64 i, .int .i64 g]) :: RROW p c mo (.slice a told.length cap) :: CELL c s :: MODEL mo m :: TKL (.slice a told.length cap) told :: fr)) ?_ ?_
      · refine J1 H ?_
        clear H; intro w H
        refine J14 H ?_
        refine J251 H ?_
        refine J252 H ?_
        refine J54 H ?_
        refine J253 H ?_
        refine A_two 7 11 rfl rfl (by kernel_rfl) (by repeat first | exact .nil | refine .cons (.inr H.at) ?_ | refine .cons (.inr H.mp) ?_ | refine .cons (.inl (by kernel_rfl)) ?_) (Wants.none rfl) (Wants.none rfl) (St_call (a := []) (b := []) rfl rfl (call (hLk _ _ H) ?_)) (St_alloc H rfl ?_)
        · clear H; rintro v w ⟨rfl, H⟩
          refine J229 H ?_
          refine St_alloc H rfl ?_
          clear H; intro b27 w H
          refine J97 H ?_
          clear H; intro w H
          refine J94 H ?_
          replace H := Js [0,2,2,0,1,1] 1 H
          exact ⟨rfl, rfl, b27, rfl, rfl, rfl, rfl, rfl, H⟩
        · clear H; intro b27 w H
          refine Jo 7 H ?_
          refine Jk rfl rfl (hLk _ _ H.swap) ?_
          clear H; rintro v w ⟨rfl, H⟩
          refine J91 H ?_
          refine J97 H ?_
          clear H; intro w H
          refine J94 H ?_
          replace H := Js [1,2,2,0,1,1] 1 H
          exact ⟨rfl, rfl, b27, rfl, rfl, rfl, rfl, rfl, H⟩
      clear H
      rintro ms σ w ⟨rfl, b27, g0, g3, g6, g27, g28, H⟩
      rw [upd_self g0, upd_self g3, upd_self g6, upd_self g27, upd_self g28]
      replace H := Js [4,0,0,0,0,0] 0 H
      refine J1 H ?_
      clear H; intro w H
      refine J175 H ?_
      refine Jk rfl rfl (Place_spec mo m o B true H) ?_
      clear H; rintro v w ⟨rfl, H⟩
      refine J136 H ?_
      refine J3 H ?_
      rw [show (((placeM m o B true : Nat) : Int) != 0) = true by rw [bne_iff_ne]; omega]
      refine J13 H ?_
      cases hlk
      refine J10 H ?_
      rw [beq_int ((placeM m o B true : Nat) : Int)]
      refine J9 H ?_
      refine J114 H ?_
      refine Lp_g rfl rfl rfl (St_eqAgg rfl rfl rfl rfl (.inl rfl) rfl ?_)
      refine J4 H ?_
      replace H := Js [3,3,0,2] 2 H
      exact C_ret (Jy H rfl fun w' H' => ⟨congrArg Value.bool ((eql_veq _ _).trans (veq_refl3 0 0 0)), s, m, told, R, Step_eq rfl rfl rfl, RUN_in H'⟩)
    · have hnl := (List.getElem?_eq_some_iff.1 hx).1
      have hmx := hmw.objs x (List.mem_of_getElem? hx)
      have hkn := hmx.kind
      have htn := hmx.to
      have hsm := MODEL_sizes (w := hmw) hx
      have hkj := List.getElem?_eq_getElem (l := x.kind) (i := j) (by omega)
      have htj := List.getElem?_eq_getElem (l := x.to) (i := j) (by omega)
      have hkd : x.kind.getD j 0 = x.kind[j] := by rw [List.getD_eq_getElem?_getD, hkj]; rfl
      have htd : x.to.getD j 0 = x.to[j] := by rw [List.getD_eq_getElem?_getD, htj]; rfl
      have hgo := hmx.goes j
      rw [htd] at hgo
      rw [hkd] at hk2
      rw [hkd, htd] at h1
      generalize x.kind[j] = kd at *
      generalize x.to[j] = td at *
      have hlt : kd = 2 → td < told.length := fun h => by rw [R.len]; exact hgo (by rw [hkj, h])
      rw [h1] at hLk
      obtain ⟨l1, l2, l3, hlk⟩ := lkv_agg (lnkM told kd td)
      rw [hlk] at hLk
      have hlink := fun (w : World) (fr : List HProp) (H : Holds w (RROW p c mo (.slice a told.length cap) :: TKL (.slice a told.length cap) told :: fr)) => link_spec p c mo a cap told kd td hk2 hlt H
      rw [hlk] at hlink
      refine J12 H ?_
      refine C_join (fun ms σ w => ms = [] ∧ ∃ b27, σ 0 = pp p ∧ σ 3 = pp b3 ∧ σ 6 = .int .i64 n ∧ σ 27 = pp b27 ∧ σ 28 = .int .i64 (0 : Nat) ∧ Holds w (pts b27 (row 61 [.int .i64 l1, .int .i64 l2, .int .i64 l3]) :: pts b3 (row 34 [.int .i64 11, .int .i64 A, .int .i64 (j : Nat), .int .i64 C, .int .u64 X, .slice adW ws.length capW, .bool raw, .int .i64 i, .int .i64 g]) :: RROW p c mo (.slice a told.length cap) :: CELL c s :: MODEL mo m :: TKL (.slice a told.length cap) told :: fr)) ?_ ?_
      · refine J1 H ?_
        clear H; intro w H
        refine J14 H ?_
        refine J251 H ?_
        refine J252 H ?_
        refine J54 H ?_
        refine J253 H ?_
        refine A_two 7 11 rfl rfl (by kernel_rfl) (by repeat first | exact .nil | refine .cons (.inr H.at) ?_ | refine .cons (.inr H.mp) ?_ | refine .cons (.inl (by kernel_rfl)) ?_) (Wants.none rfl) (Wants.none rfl) (St_call (a := []) (b := []) rfl rfl (call (hLk _ _ H) ?_)) (St_alloc H rfl ?_)
        · clear H; rintro v w ⟨rfl, H⟩
          refine J229 H ?_
          refine St_alloc H rfl ?_
          clear H; intro b27 w H
          refine J97 H ?_
          clear H; intro w H
          refine J94 H ?_
          replace H := Js [0,2,2,0,1,1] 1 H
          exact ⟨rfl, rfl, b27, rfl, rfl, rfl, rfl, rfl, H⟩
        · clear H; intro b27 w H
          refine Jo 7 H ?_
          refine Jk rfl rfl (hLk _ _ H.swap) ?_
          clear H; rintro v w ⟨rfl, H⟩
          refine J91 H ?_
          refine J97 H ?_
          clear H; intro w H
          refine J94 H ?_
          replace H := Js [1,2,2,0,1,1] 1 H
          exact ⟨rfl, rfl, b27, rfl, rfl, rfl, rfl, rfl, H⟩
      clear H
      rintro ms σ w ⟨rfl, b27, g0, g3, g6, g27, g28, H⟩
      rw [upd_self g0, upd_self g3, upd_self g6, upd_self g27, upd_self g28]
      replace H := Js [4,0,0,0,0,0] 0 H
      refine J1 H ?_
      clear H; intro w H
      refine J175 H ?_
      refine Jk rfl rfl (Place_spec mo m n j true H) ?_
      clear H; rintro v w ⟨rfl, H⟩
      rw [h0]
      refine J136 H ?_
      refine J57 H ?_
      obtain ⟨t, lc, aL, cL, bO, cO, sO, ptrs, q, vw, vk, vt, rest, hm, h2, hp, H, hclose⟩ := MODEL_at H hx
      have hm' := set_same hx hm
      obtain ⟨ak, ck, rfl⟩ := sls_slice H.drop.drop (ncells_length _) (by decide)
      obtain ⟨at', ct, rfl⟩ := sls_slice H.drop.drop.drop (ncells_length _) (by decide)
      replace H := Js [2,0,0,0] 0 H
      obtain ⟨bk, sk, rfl, H, hck⟩ := sls_open H (by omega)
      replace H := Js [3,0,0,0] 0 H
      obtain ⟨bt, st, rfl, H, hct⟩ := sls_open H (by omega)
      refine J1 H ?_
      clear H; intro w H
      refine J184 H ?_
      refine A_pv 3 rfl (Wants.of rfl rfl rfl) rfl (by kernel_rfl) ?_
      refine A_loadN 4 [39] H rfl (Wants.of rfl rfl rfl) rfl (by repeat (first | exact Reads.nil _ | apply Reads.cons rfl)) (by kernel_rfl) ?_
      refine J234 H ?_
      refine J221 H ?_
      refine A_fieldAddr 7 rfl (Wants.of rfl rfl rfl) rfl (by kernel_rfl) ?_
      refine A_load1 8 [39] H rfl (Wants.of rfl rfl rfl) rfl rfl (by kernel_rfl) ?_
      refine A_pv 9 rfl (Wants.of rfl rfl rfl) rfl (by kernel_rfl) ?_
      refine A_fieldAddr 10 rfl (Wants.of rfl rfl rfl) rfl (by kernel_rfl) ?_
      refine A_load1 11 [39] H rfl (Wants.of rfl rfl rfl) rfl rfl (by kernel_rfl) ?_
      refine A_pv 12 rfl (Wants.of rfl rfl rfl) rfl (by kernel_rfl) ?_
      refine A_indexAddr 13 rfl (Wants.of rfl rfl rfl) rfl rfl (by omega) (by omega) (by kernel_rfl) ?_
      refine A_load1 14 [39] H rfl (Wants.of rfl rfl rfl) rfl hp (by kernel_rfl) ?_
      refine J173 H ?_
      refine A_fieldAddr 16 rfl (Wants.of rfl rfl rfl) rfl (by kernel_rfl) ?_
      refine A_load1 17 [39] H rfl (Wants.of rfl rfl rfl) rfl rfl (by kernel_rfl) ?_
      refine J222 H ?_
      refine A_load1 19 [39] H rfl (Wants.of rfl rfl rfl) rfl rfl (by kernel_rfl) ?_
      refine A_indexAddr 20 rfl (Wants.of rfl rfl rfl) rfl rfl (by omega) (by omega) (by kernel_rfl) ?_
      refine A_load1 21 [39] H rfl (Wants.of rfl rfl rfl) rfl (ncells_get hkj) (by kernel_rfl) ?_
      refine A_pv 22 rfl (Wants.of rfl rfl rfl) rfl (by kernel_rfl) ?_
      refine J223 H ?_
      refine A_fieldAddr 24 rfl (Wants.of rfl rfl rfl) rfl (by kernel_rfl) ?_
      refine A_load1 25 [39] H rfl (Wants.of rfl rfl rfl) rfl rfl (by kernel_rfl) ?_
      refine A_pv 26 rfl (Wants.of rfl rfl rfl) rfl (by kernel_rfl) ?_
      refine A_fieldAddr 27 rfl (Wants.of rfl rfl rfl) rfl (by kernel_rfl) ?_
      refine A_load1 28 [39] H rfl (Wants.of rfl rfl rfl) rfl rfl (by kernel_rfl) ?_
      refine A_pv 29 rfl (Wants.of rfl rfl rfl) rfl (by kernel_rfl) ?_
      refine A_indexAddr 30 rfl (Wants.of rfl rfl rfl) rfl rfl (by omega) (by omega) (by kernel_rfl) ?_
      refine A_load1 31 [39] H rfl (Wants.of rfl rfl rfl) rfl hp (by kernel_rfl) ?_
      refine A_pv 32 rfl (Wants.of rfl rfl rfl) rfl (by kernel_rfl) ?_
      refine A_fieldAddr 33 rfl (Wants.of rfl rfl rfl) rfl (by kernel_rfl) ?_
      refine A_load1 34 [39] H rfl (Wants.of rfl rfl rfl) rfl rfl (by kernel_rfl) ?_
      refine A_fieldAddr 35 rfl (Wants.of rfl rfl rfl) rfl (by kernel_rfl) ?_
      refine A_load1 36 [39] H rfl (Wants.of rfl rfl rfl) rfl rfl (by kernel_rfl) ?_
      refine A_indexAddr 37 rfl (Wants.of rfl rfl rfl) rfl rfl (by omega) (by omega) (by kernel_rfl) ?_
      refine A_load1 38 [39] H rfl (Wants.of rfl rfl rfl) rfl (ncells_get htj) (by kernel_rfl) ?_
      replace H := Js [12,13,0,0,0,0,0,0,0,0,0,0,0,0,0] 0 H
      refine Jo 39 H ?_
      refine Jk rfl rfl (hlink _ _ H) ?_
      clear H; rintro v w ⟨rfl, H⟩
      refine A_pv 40 rfl (Wants.none rfl) rfl (by kernel_rfl) ?_
      refine A_pv 41 rfl (Wants.none rfl) rfl (by kernel_rfl) ?_
      refine J2 H ?_
      replace H := Js [3,2,2,2,2,2,2,2,2,2,2,2,2,0,0] 0 H
      replace H := hck _ _ H
      replace H := Js [1,0,0,0] 0 H
      replace H := hct _ _ H
      replace H := Js [2,2,1,0] 0 H
      replace H := MODEL_same hx (hclose _ _ x hm' H)
      replace H := Js [4,3,0,2] 2 H
      exact C_ret (Jy H rfl fun w' H' => ⟨rfl, s, m, told, R, Step_eq rfl rfl rfl, RUN_in H'⟩)
  rw [show (k == 11) = false by simpa using hk11]
  refine J8 H ?_
  refine J21 H ?_
  replace H := Js [2,2,2,2] 2 H
  exact C_ret (Jy H rfl fun w' H' => ⟨rfl, s, m, told, R, Step_eq rfl rfl rfl, RUN_in H'⟩)
end Go.Proofs.YtcaaojbnjfdglaaGreatDoor
namespace Go.Proofs.YtcaaojbnjfdglaaGreatDoor
open Go.SL

/-- An act. -/
structure Ac where
  k : Int
  A : Int
  B : Int
  C : Int
  X : Nat
  vW : Value
  ws : List Nat
  raw : Bool
  i : Int
  g : Int
def acell (x : Ac) : List Value := [.int .i64 x.k, .int .i64 x.A, .int .i64 x.B, .int .i64 x.C, .int .u64 x.X, x.vW, .bool x.raw, .int .i64 x.i, .int .i64 x.g]
def acells (l : List Ac) : List Value := l.flatMap acell
def AcOK (fr : List HProp) (x : Ac) : Prop := x.X < 18446744073709551616 ∧ (∀ y ∈ x.ws, y < 18446744073709551616) ∧ RdS fr x.vW x.ws.length 1 (ucells x.ws)
theorem acells_length (l : List Ac) : (acells l).length = l.length * 9 := by
  induction l with
  | nil => rfl
  | cons p L ih => simp only [acells, acell, List.flatMap_cons, List.length_append, List.length_cons, List.length_nil] at ih ⊢; omega
theorem acells_get {L : List Ac} {i : Nat} {x : Ac} (h : L[i]? = some x) : ∀ j v, (acell x)[j]? = some v → (acells L)[i * 9 + j]? = some v := by
  induction L generalizing i with
  | nil => simp at h
  | cons y L ih =>
    intro j v hj
    have hj9 : j < 9 := (List.getElem?_eq_some_iff.1 hj).1
    cases i with
    | zero =>
      simp at h
      subst h
      show (acell y ++ L.flatMap acell)[0 * 9 + j]? = _
      rw [Nat.zero_mul, Nat.zero_add, List.getElem?_append_left hj9]
      exact hj
    | succ i =>
      have := ih (i := i) (by simpa using h) j v hj
      show (acell y ++ L.flatMap acell)[(i + 1) * 9 + j]? = _
      rw [List.getElem?_append_right (by show 9 ≤ _; omega)]
      show (L.flatMap acell)[(i + 1) * 9 + j - 9]? = _
      rw [show (i + 1) * 9 + j - 9 = i * 9 + j by omega]
      exact this
theorem acells_el {c : List Value} {o n : Nat} {L : List Ac} (h : Reads c o n (acells L)) {i : Nat} {x : Ac} (hp : L[i]? = some x) : Reads c (o + i * 9) 9 (acell x) :=
  h.part (es := acell x) fun j v hj => acells_get hp j v hj

theorem over_spec [Extra] (v : Value) (l : List Ac) (hl : l.length ≤ 9223372036854775807) {w : World} {fr : List HProp} (hr : RdS fr v l.length 9 (acells l)) (hok : ∀ x ∈ l, AcOK fr x) (H : Holds w fr) :
    Calls Tryz.prog 14 #[v] w (ret fun r w' => ∃ b, r = .bool b ∧ (b = false → l.length ≤ 60) ∧ Holds w' fr) := by
  obtain ⟨h0, ad, cap, rfl, hrd⟩ := hr
  refine calls_of Tryz.func14 rfl (by kernel_rfl) ?_
  refine J119 H ?_
  refine J0 H ?_
  by_cases h60 : (l.length : Int) > 60
  · rw [show decide ((l.length : Int) > 60) = true from decide_eq_true (by omega)]
    refine J33 H ?_
    exact C_ret (Jy H rfl fun w' H' => ⟨true, rfl, (fun h => by cases h), H'⟩)
  rw [show decide ((l.length : Int) > 60) = false from decide_eq_false (by omega)]
  refine J8 H ?_
  refine J100 H ?_
  refine J34 H ?_
  refine C_loop (fun ms σ w n => ms = [] ∧ ∃ i : Nat, i ≤ l.length ∧ n = l.length - i ∧ σ 8 = .slice ad l.length cap ∧ σ 9 = .int .i64 l.length ∧ σ 10 = .int .i64 i ∧ Holds w fr) (m := l.length) ⟨rfl, 0, by omega, rfl, rfl, rfl, rfl, H⟩ ?_
  clear H
  rintro ms σ w n ⟨rfl, i, hi, rfl, g8, g9, g10, H⟩
  rw [upd_self g8, upd_self g9, upd_self g10]
  refine J27 H ?_
  refine C_dec rfl (fun h => C_skip ?_) (fun h => C_exit ?_)
  · have hlt : i < l.length := by omega
    have hy := List.getElem?_eq_getElem hlt
    generalize l[i] = y at hy
    have hym := hok y (List.mem_of_getElem? hy)
    rcases hrd with hz | ⟨b, o, E, fz, c, rfl, hA, hrd⟩
    · omega
    haveI := hA
    obtain ⟨k, A, B, C, X, vW, ws, raw, i1, g1⟩ := y
    obtain ⟨_, _, _, adW, capW, hvW, _⟩ := hym
    replace hvW : vW = .slice adW ws.length capW := hvW
    subst hvW
    refine J101 H ?_
    refine Lp_s rfl (St_indexAddr rfl rfl (by omega) (by omega) rfl ?_)
    refine Lp_s rfl (St_loadN H rfl (acells_el hrd hy) rfl ?_)
    refine J17 H ?_
    clear H; intro b4 w H
    refine J7 H ?_
    clear H; intro w H
    refine Lp_nil ?_
    refine J158 H ?_
    by_cases hk : k = 2
    · subst hk
      refine J116 H ?_
      by_cases hC : C > 40
      · rw [show decide (C > 40) = true from decide_eq_true (by omega)]
        refine J26 H ?_
        refine J160 H ?_
        refine J26 H ?_
        refine J60 H ?_
        refine J50 H ?_
        exact C_ret (Jy H.drop rfl fun w' H' => ⟨true, rfl, (fun h => by cases h), H'⟩)
      · rw [show decide (C > 40) = false from decide_eq_false (by omega)]
        refine J198 H ?_
        by_cases hB : B > 64
        · rw [show decide (B > 64) = true from decide_eq_true (by omega)]
          refine J26 H ?_
          refine J60 H ?_
          refine J50 H ?_
          exact C_ret (Jy H.drop rfl fun w' H' => ⟨true, rfl, (fun h => by cases h), H'⟩)
        · rw [show decide (B > 64) = false from decide_eq_false (by omega)]
          by_cases hw : (ws.length : Int) > 10
          · first | refine Lp_gpv rfl rfl rfl rfl ?_ | refine Lp_no rfl rfl rfl ?_ | refine Lp_nn rfl rfl ?_
            refine J236 H ?_
            rw [show decide ((ws.length : Int) > 10) = true from decide_eq_true (by omega)]
            refine J50 H ?_
            exact C_ret (Jy H.drop rfl fun w' H' => ⟨true, rfl, (fun h => by cases h), H'⟩)
          · first | refine Lp_gpv rfl rfl rfl rfl ?_ | refine Lp_no rfl rfl rfl ?_ | refine Lp_nn rfl rfl ?_
            refine J236 H ?_
            rw [show decide ((ws.length : Int) > 10) = false from decide_eq_false (by omega)]
            refine J15 H ?_
            refine J3 H ?_
            exact ⟨_, ⟨rfl, i + 1, hlt, rfl, rfl, rfl, inc64 (by omega), H.drop⟩, by omega⟩
    · rw [show (k == 2) = false by simpa using hk]
      by_cases hw : (ws.length : Int) > 10
      · first | refine Lp_pv rfl rfl ?_ | refine Lp_mv rfl rfl ?_
        refine J87 H ?_
        refine J196 H ?_
        refine J236 H ?_
        rw [show decide ((ws.length : Int) > 10) = true from decide_eq_true (by omega)]
        refine J50 H ?_
        exact C_ret (Jy H.drop rfl fun w' H' => ⟨true, rfl, (fun h => by cases h), H'⟩)
      · first | refine Lp_pv rfl rfl ?_ | refine Lp_mv rfl rfl ?_
        refine J87 H ?_
        refine J196 H ?_
        refine J236 H ?_
        rw [show decide ((ws.length : Int) > 10) = false from decide_eq_false (by omega)]
        refine J15 H ?_
        refine J3 H ?_
        exact ⟨_, ⟨rfl, i + 1, hlt, rfl, rfl, rfl, inc64 (by omega), H.drop⟩, by omega⟩
  · have hge : i = l.length := by omega
    refine J21 H ?_
    exact C_ret (Jy H rfl fun w' H' => ⟨false, rfl, fun _ => by omega, H'⟩)
end Go.Proofs.YtcaaojbnjfdglaaGreatDoor
