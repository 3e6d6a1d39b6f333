/- Cells: what is proved on the way: every input of the statement; no condition. Texts joined: LawE LawF. -/
import Derived.Test.YtcaaojbnjfdglaaGreatDoorCar
set_option linter.unusedVariables false
set_option linter.unusedSimpArgs false
set_option linter.unusedSectionVars false
namespace Go.SL
section
variable {P : Program} {n : Nat} {r : Option Nat} {ops : Array Oper} {σ : Env} {w : World}
variable {ivs : List (List Nat × (World → Prop))} {T : Env → World → Prop} {f : Nat} {L : Array Bool}
variable {u : TypeId} {p : String} {af : Array Edge} {g : Option (Nat × Bool)} {d : Option Tmp} {x y : Operand}
end
end Go.SL
namespace Go.Proofs.YtcaaojbnjfdglaaGreatDoor
open Go.SL

def shapeT (ts : List Slt) : List (Nat × Bool) := ts.map fun t => (t.gen, t.ent.isSome)
theorem shape_set {ts : List Slt} {k g : Nat} {e e' : Ent} (h : ts[k]? = some ⟨g, some e⟩) : shapeT (ts.set k ⟨g, some e'⟩) = shapeT ts := by
  unfold shapeT
  rw [List.map_set]
  apply List.ext_getElem?
  intro i
  rw [List.getElem?_set]
  split
  · rename_i hi
    subst hi
    have := (List.getElem?_eq_some_iff.1 h).1
    rw [List.getElem?_map, h]
    simp [this]
  · rfl
/-- What an act leaves: no slot is another's, but of what is made. -/
structure Step (s : CS) (m : MS) (told : List (Nat × Nat)) (s' : CS) (m' : MS) (told' : List (Nat × Nat)) : Prop where
  P : m'.P.length ≤ m.P.length + 1
  objs : m'.objs.length ≤ m.objs.length + 1
  tab : (told' = told ∧ shapeT s'.tab = shapeT s.tab) ∨ ∃ k g0 : Nat, told' = told ++ [(k, g0 + 1)] ∧ s.tab[k]? = some ⟨g0, none⟩ ∧ (∀ (j : Nat) (t : Slt), j < k → s.tab[j]? = some t → busy t = true) ∧ shapeT s'.tab = (shapeT s.tab).set k (g0 + 1, true)

/-- What Make does, in its four cases. -/
def Made (s : CS) (region id count : Int) (i g e : Nat) (s' : CS) : Prop :=
  (makeE s region id count ≠ 0 ∧ i = 0 ∧ g = 0 ∧ e = makeE s region id count ∧ s' = s) ∨
  (makeE s region id count = 0 ∧ (∀ t ∈ s.tab, busy t = true) ∧ i = 0 ∧ g = 0 ∧ e = 12 ∧ s' = s) ∨
  (makeE s region id count = 0 ∧ (∀ a, a + (makeN s id count / s.size + 1) ≤ s.own.length → ∃ i, a ≤ i ∧ i < a + (makeN s id count / s.size + 1) ∧ s.own.getD i 0 ≠ 0) ∧ i = 0 ∧ g = 0 ∧ e = 11 ∧ s' = s) ∨
  (makeE s region id count = 0 ∧ e = 0 ∧ ∃ g0 addr, s.tab[i]? = some ⟨g0, none⟩ ∧ g0 ≤ 254 ∧ (∀ (j : Nat) (t : Slt), j < i → s.tab[j]? = some t → busy t = true) ∧ g = g0 + 1 ∧
    s'.size = s.size ∧ s'.lays = s.lays ∧ s'.last = s.last ∧ s'.par = s.par ∧ s'.rem = s.rem ∧ s'.tab = s.tab.set i ⟨g0 + 1, some ⟨addr, region, true, false, id.toNat, count.toNat, List.replicate (makeN s id count) 0⟩⟩ ∧ Grows s.own s'.own (makeN s id count / s.size + 1))
theorem eql_pair (x y : Int × Int) : (if isEql BinOp.eql = true then decide (x = y) else !decide (x = y)) = decide (x = y) := if_pos rfl
theorem Make_all [Extra] (p : Nat) (s : CS) (region id count : Int) (hseq : Seq s) {w : World} {fr : List HProp} [hT : HasTab 0 Lib.deBruijn64tab fr] (H : Holds w (CELL p s :: fr)) :
    Calls Tryz.prog 29 #[pp p, .int .i64 region, .int .i64 id, .int .i64 count] w (ret fun v w' => ∃ i g e s', v = .tuple #[tkn i g, .int .i64 (e : Nat)] ∧ Made s region id count i g e s' ∧ Holds w' (CELL p s' :: fr)) := by
  refine call (Make_spec p s region id count hseq H) ?_
  rintro v w (⟨h1, rfl, H⟩ | ⟨h1, h2, rfl, H⟩ | ⟨h1, h2, rfl, H⟩ | ⟨h1, k, g0, addr, s', h2, h3, h4, rfl, h5, h6, h7, h8, h9, h10, h11, H⟩)
  · exact ⟨0, 0, makeE s region id count, s, rfl, .inl ⟨h1, rfl, rfl, rfl, rfl⟩, H⟩
  · exact ⟨0, 0, 12, s, rfl, .inr (.inl ⟨h1, h2, rfl, rfl, rfl, rfl⟩), H⟩
  · exact ⟨0, 0, 11, s, rfl, .inr (.inr (.inl ⟨h1, h2, rfl, rfl, rfl, rfl⟩)), H⟩
  · exact ⟨k, g0 + 1, 0, s', rfl, .inr (.inr (.inr ⟨h1, rfl, g0, addr, h2, h3, h4, rfl, h5, h6, h7, h8, h9, h10, h11⟩)), H⟩

theorem made_spec [Extra] (p c mo : Nat) (a : Option Addr) (cap : Nat) (s : CS) (m : MS) (told : List (Nat × Nat)) (R : Rel s m told) (hseq : Seq s) (hfew : m.objs.length < 100000) (k A B C X i g : Int) (kX : IntKind) (vW : Value) (raw : Bool) (hvW : vW.oneCell' = true) {w : World} {fr : List HProp} [hT : HasTab 0 Lib.deBruijn64tab fr]
    (H : Holds w (RROW p c mo (.slice a told.length cap) :: CELL c s :: MODEL mo m :: TKL (.slice a told.length cap) told :: fr)) :
    Calls Tryz.prog 48 #[pp p, .agg #[.int .i64 k, .int .i64 A, .int .i64 B, .int .i64 C, .int .u64 X, vW, .bool raw, .int .i64 i, .int .i64 g]] w (ret fun v w' => v = .bool true ∧ ∃ s' m' told' a' cap', Rel s' m' told' ∧ Step s m told s' m' told' ∧ Holds w' (RROW p c mo (.slice a' told'.length cap') :: CELL c s' :: MODEL mo m' :: TKL (.slice a' told'.length cap') told' :: fr)) := by
  refine calls_of Tryz.func48 rfl (by kernel_rfl) ?_
  repeat refine C_seq ?_
  refine C_region ?_
  (refine Lp_s rfl (St_boxN H rfl rfl ?_); clear H; intro b3 w H)
  refine Lp_pv rfl rfl ?_
  refine Lp_nil ?_
  repeat refine C_seq ?_
  refine C_join (fun ms σ w => ms = [] ∧ ∃ (b5 i' g' e : Nat) (s' : CS), Made s A B C i' g' e s' ∧ σ 0 = pp p ∧ σ 3 = pp b3 ∧ σ 5 = pp b5 ∧ σ 6 = .int .i64 e ∧ Holds w (pts b5 (row 32 [.int .i64 i', .int .i64 g']) :: pts b3 (row 34 [.int .i64 k, .int .i64 A, .int .i64 B, .int .i64 C, .int .u64 X, vW, .bool raw, .int .i64 i, .int .i64 g]) :: RROW p c mo (.slice a told.length cap) :: CELL c s' :: MODEL mo m :: TKL (.slice a told.length cap) told :: fr)) ?_ ?_
  · replace H := Holds.sel [2, 0, 0, 0, 0] 0 H; dsimp only [SL.sel, SL.pull, List.drop] at H
    repeat refine C_seq ?_
    refine C_drawH H mixed ?_
    clear H; intro w H
    refine A_pv 0 rfl (Wants.none rfl) rfl (by kernel_rfl) ?_
    refine A_pv 1 rfl (Wants.none rfl) rfl (by kernel_rfl) ?_
    refine A_fieldAddr 2 rfl (Wants.none rfl) rfl (by kernel_rfl) ?_
    refine A_load1 3 [10, 15] H rfl (Wants.none rfl) rfl rfl (by kernel_rfl) ?_
    refine A_fieldAddr 4 rfl (Wants.none rfl) rfl (by kernel_rfl) ?_
    refine A_load1 5 [10, 15] H rfl (Wants.none rfl) rfl rfl (by kernel_rfl) ?_
    refine A_fieldAddr 6 rfl (Wants.none rfl) rfl (by kernel_rfl) ?_
    refine A_load1 7 [10, 15] H rfl (Wants.none rfl) rfl rfl (by kernel_rfl) ?_
    refine A_fieldAddr 8 rfl (Wants.none rfl) rfl (by kernel_rfl) ?_
    refine A_load1 9 [10, 15] H rfl (Wants.none rfl) rfl rfl (by kernel_rfl) ?_
    refine A_two 10 14 rfl rfl (by kernel_rfl) (by repeat first | exact .nil | refine .cons (.inr H.at) ?_ | refine .cons (.inr H.mp) ?_ | refine .cons (.inl (by kernel_rfl)) ?_) (Wants.none rfl) (Wants.none rfl) (St_call (a := []) (b := []) rfl rfl (call (Make_all c s A B C hseq H) ?_)) (St_alloc H rfl ?_)
    · clear H; rintro v w ⟨i', g', e, s', rfl, hM, H⟩
      refine A_pv 11 rfl (Wants.none rfl) rfl (by kernel_rfl) ?_
      refine A_pv 12 rfl (Wants.none rfl) rfl (by kernel_rfl) ?_
      refine A_pv 13 rfl (Wants.none rfl) rfl (by kernel_rfl) ?_
      refine A_one 14 rfl (by kernel_rfl) (by repeat first | exact .nil | refine .cons (.inr H.at) ?_ | refine .cons (.inr H.mp) ?_ | refine .cons (.inl (by kernel_rfl)) ?_) (Wants.none rfl) (St_alloc H rfl ?_); clear H; intro b5 w H
      refine A_one 15 rfl (by kernel_rfl) (by repeat first | exact .nil | refine .cons (.inr H.at) ?_ | refine .cons (.inr H.mp) ?_ | refine .cons (.inl (by kernel_rfl)) ?_) (Wants.none rfl) (St_storeN H rfl rfl inferInstance rfl rfl (Nat.le_of_ble_eq_true rfl) rfl ?_); clear H; intro w H
      refine A_pv 16 rfl (Wants.none rfl) rfl (by kernel_rfl) ?_
      refine A_end (by kernel_rfl) (by repeat first | exact .nil | refine .cons (.inr H.at) ?_ | refine .cons (.inr H.mp) ?_ | refine .cons (.inl (by kernel_rfl)) ?_) ?_
      replace H := Holds.sel [0, 1, 1, 0, 0, 0] 0 H; dsimp only [SL.sel, SL.pull, List.drop] at H
      exact ⟨rfl, rfl, b5, i', g', e, s', hM, rfl, rfl, rfl, rfl, H⟩
    · clear H; intro b5 w H
      refine A_one 10 rfl (by kernel_rfl) (by repeat first | exact .nil | refine .cons (.inr H.at) ?_ | refine .cons (.inr H.mp) ?_ | refine .cons (.inl (by kernel_rfl)) ?_) (Wants.none rfl) (St_call (a := []) (b := []) rfl rfl (call (Make_all c s A B C hseq H.swap) ?_)); clear H; rintro v w ⟨i', g', e, s', rfl, hM, H⟩
      refine A_pv 11 rfl (Wants.none rfl) rfl (by kernel_rfl) ?_
      refine A_pv 12 rfl (Wants.none rfl) rfl (by kernel_rfl) ?_
      refine A_pv 13 rfl (Wants.none rfl) rfl (by kernel_rfl) ?_
      refine A_one 15 rfl (by kernel_rfl) (by repeat first | exact .nil | refine .cons (.inr H.at) ?_ | refine .cons (.inr H.mp) ?_ | refine .cons (.inl (by kernel_rfl)) ?_) (Wants.none rfl) (St_storeN H rfl rfl inferInstance rfl rfl (Nat.le_of_ble_eq_true rfl) rfl ?_); clear H; intro w H
      refine A_pv 16 rfl (Wants.none rfl) rfl (by kernel_rfl) ?_
      refine A_end (by kernel_rfl) (by repeat first | exact .nil | refine .cons (.inr H.at) ?_ | refine .cons (.inr H.mp) ?_ | refine .cons (.inl (by kernel_rfl)) ?_) ?_
      replace H := Holds.sel [1, 1, 1, 0, 0, 0] 0 H; dsimp only [SL.sel, SL.pull, List.drop] at H
      exact ⟨rfl, rfl, b5, i', g', e, s', hM, rfl, rfl, rfl, rfl, H⟩
  clear H
  rintro ms σ w ⟨rfl, b5, i', g', e, s', hM, g0, g3, g5, g6, H⟩
  rw [upd_self g0, upd_self g3, upd_self g5, upd_self g6]
  obtain ⟨hm1, hm2⟩ := may_law R A B C
  replace H := Holds.sel [4, 0, 0, 0, 0, 0] 0 H; dsimp only [SL.sel, SL.pull, List.drop] at H
  repeat refine C_seq ?_
  refine C_drawH H mixed ?_
  clear H; intro w H
  refine A_pv 0 rfl (Wants.none rfl) rfl (by kernel_rfl) ?_
  refine A_pv 1 rfl (Wants.none rfl) rfl (by kernel_rfl) ?_
  refine A_fieldAddr 2 rfl (Wants.none rfl) rfl (by kernel_rfl) ?_
  refine A_load1 3 [10] H rfl (Wants.none rfl) rfl rfl (by kernel_rfl) ?_
  refine A_fieldAddr 4 rfl (Wants.none rfl) rfl (by kernel_rfl) ?_
  refine A_load1 5 [10] H rfl (Wants.none rfl) rfl rfl (by kernel_rfl) ?_
  refine A_fieldAddr 6 rfl (Wants.none rfl) rfl (by kernel_rfl) ?_
  refine A_load1 7 [10] H rfl (Wants.none rfl) rfl rfl (by kernel_rfl) ?_
  refine A_fieldAddr 8 rfl (Wants.none rfl) rfl (by kernel_rfl) ?_
  refine A_load1 9 [10] H rfl (Wants.none rfl) rfl rfl (by kernel_rfl) ?_
  refine A_one 10 rfl (by kernel_rfl) (by repeat first | exact .nil | refine .cons (.inr H.at) ?_ | refine .cons (.inr H.mp) ?_ | refine .cons (.inl (by kernel_rfl)) ?_) (Wants.none rfl) (St_call (a := []) (b := []) rfl rfl (call (May15_spec mo m A B C H) ?_))
  clear H; rintro v w ⟨rfl, H⟩
  refine A_pv 11 rfl (Wants.none rfl) rfl (by kernel_rfl) ?_
  refine A_pv 12 rfl (Wants.none rfl) rfl (by kernel_rfl) ?_
  refine A_pv 13 rfl (Wants.none rfl) rfl (by kernel_rfl) ?_
  refine A_pv 14 rfl (Wants.none rfl) rfl (by kernel_rfl) ?_
  refine A_pv 15 rfl (Wants.none rfl) rfl (by kernel_rfl) ?_
  refine A_end (by kernel_rfl) (by repeat first | exact .nil | refine .cons (.inr H.at) ?_ | refine .cons (.inr H.mp) ?_ | refine .cons (.inl (by kernel_rfl)) ?_) ?_
  repeat refine C_seq ?_
  refine C_block ?_
  rcases hM with ⟨h1, rfl, rfl, rfl, rfl⟩ | ⟨h1, h2, rfl, rfl, rfl, rfl⟩ | ⟨h1, h2, rfl, rfl, rfl, rfl⟩ | ⟨h1, rfl, g0', addr, h2, h3, h4, rfl, h5, h6, h7, h8, h9, h10, h11⟩
  · have hw' : (mayM m A B C).2 ≠ 0 := by rw [← hm1]; exact h1
    repeat refine C_seq ?_
    refine C_region ?_
    refine Lp_pv rfl rfl ?_
    refine Lp_pv rfl rfl ?_
    refine Lp_pv rfl rfl ?_
    refine Lp_nil ?_
    rw [show ((((mayM m A B C).2 : Nat) : Int) != 0) = true by rw [bne_iff_ne]; omega]
    repeat refine C_seq ?_
    refine C_true rfl ?_
    repeat refine C_seq ?_
    refine C_region ?_
    refine Lp_pv rfl rfl ?_
    refine Lp_pv rfl rfl ?_
    refine Lp_pv rfl rfl ?_
    rw [show ((((makeE s' A B C : Nat) : Int)) == (((mayM m A B C).2 : Nat) : Int)) = true by rw [hm1]; exact beq_self_eq_true _]
    refine Lp_pv rfl rfl ?_
    refine Lp_g rfl rfl rfl (St_loadN H rfl (by repeat (first | exact Reads.nil _ | apply Reads.cons rfl)) rfl ?_)
    refine Lp_g rfl rfl rfl (St_build rfl rfl ?_)
    refine Lp_g rfl rfl rfl (St_eqPair rfl rfl (.inl rfl) rfl ?_)
    refine Lp_pv rfl rfl ?_
    refine Lp_pv rfl rfl ?_
    refine Lp_nil ?_
    replace H := Holds.sel [3, 3, 0, 2] 2 H; dsimp only [SL.sel, SL.pull, List.drop] at H
    exact C_ret (fn_end0 _ (.inr rfl) H rfl fun w' H' => ⟨rfl, s', m, told, a, cap, R, ⟨by omega, by omega, .inl ⟨rfl, rfl⟩⟩, H'⟩)
  · have hw' : (mayM m A B C).2 = 0 := by rw [← hm1]; exact h1
    rw [hw']
    repeat refine C_seq ?_
    refine C_region ?_
    refine Lp_pv rfl rfl ?_
    refine Lp_pv rfl rfl ?_
    refine Lp_pv rfl rfl ?_
    refine Lp_nil ?_
    repeat refine C_seq ?_
    refine C_false rfl ?_
    repeat refine C_seq ?_
    refine C_region ?_
    refine Lp_pv rfl rfl ?_
    refine Lp_pv rfl rfl ?_
    refine Lp_pv rfl rfl ?_
    refine Lp_nil ?_
    repeat refine C_seq ?_
    refine C_true rfl ?_
    replace H := Holds.sel [4, 0, 0, 0, 0, 0] 0 H; dsimp only [SL.sel, SL.pull, List.drop] at H
    obtain ⟨q, mem, hw, hm, H⟩ := CELL_out H
    replace H := Holds.sel [4, 0, 0, 0, 0, 0, 0, 0, 0, 0, 0, 0, 0, 0, 0, 0] 0 H; dsimp only [SL.sel, SL.pull, List.drop] at H
    repeat refine C_seq ?_
    refine C_region ?_
    refine Lp_pv rfl rfl ?_
    refine Lp_pv rfl rfl ?_
    refine Lp_s rfl (St_fieldAddr rfl rfl ?_)
    refine Lp_s rfl (St_load1 H rfl rfl rfl ?_)
    refine Lp_pv rfl rfl ?_
    refine Lp_s rfl (St_fieldAddr rfl rfl ?_)
    refine Lp_s rfl (St_load1 H rfl rfl rfl ?_)
    refine Lp_s rfl (St_call (a := []) (b := []) rfl rfl (call (Left_spec q.tp s'.tab H) ?_))
    clear H; rintro v w ⟨rfl, H⟩
    have hbt : s'.tab.length - busyT s'.tab = 0 := by
      unfold busyT
      rw [List.filter_eq_self.2 h2, Nat.sub_self]
    rw [hbt]
    refine Lp_pv rfl rfl ?_
    refine Lp_pv rfl rfl ?_
    refine Lp_g rfl rfl rfl (St_loadN H rfl (by repeat (first | exact Reads.nil _ | apply Reads.cons rfl)) rfl ?_)
    refine Lp_g rfl rfl rfl (St_build rfl rfl ?_)
    refine Lp_g rfl rfl rfl (St_eqPair rfl rfl (.inl rfl) rfl ?_)
    refine Lp_pv rfl rfl ?_
    refine Lp_pv rfl rfl ?_
    refine Lp_nil ?_
    replace H := Holds.sel [1, 1, 1, 1, 0, 0, 0, 0, 0, 0, 0, 0, 0, 0, 0, 0] 0 H; dsimp only [SL.sel, SL.pull, List.drop] at H
    replace H := CELL_in hw hm H
    replace H := Holds.sel [4, 0, 0, 2] 2 H; dsimp only [SL.sel, SL.pull, List.drop] at H
    exact C_ret (fn_end0 _ (.inr rfl) H rfl fun w' H' => ⟨rfl, s', m, told, a, cap, R, ⟨by omega, by omega, .inl ⟨rfl, rfl⟩⟩, H'⟩)
  · have hw' : (mayM m A B C).2 = 0 := by rw [← hm1]; exact h1
    have hn := hm2 hw'
    rw [hw', ← hn]
    repeat refine C_seq ?_
    refine C_region ?_
    refine Lp_pv rfl rfl ?_
    refine Lp_pv rfl rfl ?_
    refine Lp_pv rfl rfl ?_
    refine Lp_nil ?_
    repeat refine C_seq ?_
    refine C_false rfl ?_
    repeat refine C_seq ?_
    refine C_region ?_
    refine Lp_pv rfl rfl ?_
    refine Lp_pv rfl rfl ?_
    refine Lp_pv rfl rfl ?_
    refine Lp_nil ?_
    repeat refine C_seq ?_
    refine C_false rfl ?_
    repeat refine C_seq ?_
    refine C_region ?_
    refine Lp_pv rfl rfl ?_
    refine Lp_pv rfl rfl ?_
    refine Lp_pv rfl rfl ?_
    refine Lp_nil ?_
    repeat refine C_seq ?_
    refine C_true rfl ?_
    replace H := Holds.sel [4, 0, 0, 0, 0, 0] 0 H; dsimp only [SL.sel, SL.pull, List.drop] at H
    obtain ⟨q, mem, hw, hm, H⟩ := CELL_out H
    replace H := Holds.sel [3, 0, 0, 0, 0, 0, 0, 0, 0, 0, 0, 0, 0, 0, 0, 0] 0 H; dsimp only [SL.sel, SL.pull, List.drop] at H
    repeat refine C_seq ?_
    refine C_region ?_
    refine Lp_pv rfl rfl ?_
    refine Lp_pv rfl rfl ?_
    refine Lp_s rfl (St_fieldAddr rfl rfl ?_)
    refine Lp_s rfl (St_load1 H rfl rfl rfl ?_)
    refine Lp_pv rfl rfl ?_
    refine Lp_s rfl (St_fieldAddr rfl rfl ?_)
    refine Lp_s rfl (St_load1 H rfl rfl rfl ?_)
    refine Lp_s rfl (St_call (a := []) (b := []) rfl rfl (call (Words_spec q.sp s'.size mem s'.own H) ?_))
    clear H; rintro v w ⟨rfl, H⟩
    replace H := Holds.sel [1, 1, 1, 0, 0, 0, 0, 0, 0, 0, 0, 0, 0, 0, 0, 0] 0 H; dsimp only [SL.sel, SL.pull, List.drop] at H
    replace H := CELL_in hw hm H
    refine Lp_pv rfl rfl ?_
    refine Lp_nil ?_
    replace H := Holds.sel [4, 0, 0, 0, 0, 0] 0 H; dsimp only [SL.sel, SL.pull, List.drop] at H
    have hsz := hw.size
    have hpos : s'.size > 0 := by omega
    have hmx : (if (1 : Int) > ((s'.size : Nat) : Int) then (1 : Int) else ((s'.size : Nat) : Int)) = ((s'.size : Nat) : Int) := by split <;> omega
    have hnlt : makeN s' B C < 100000 := by
      obtain ⟨r, la, c', l, _, _, _, _, _, e1, e2, e3⟩ := mayM_ok hw'
      rw [hn, e1, e2]
      show l.fixed + c' * l.record < _
      omega
    repeat refine C_seq ?_
    refine C_drawH H mixed ?_
    clear H; intro w H
    refine A_loadN 0 [9, 12] H rfl (Wants.none rfl) rfl (by repeat (first | exact Reads.nil _ | apply Reads.cons rfl)) (by kernel_rfl) ?_
    refine A_build 1 rfl (Wants.none rfl) rfl (by kernel_rfl) ?_
    refine A_eqPair 2 rfl (Wants.none rfl) rfl rfl (.inl rfl) (by kernel_rfl) ?_
    rw [eql_pair, decide_eq_true (show (((0 : Nat) : Int), ((0 : Nat) : Int)) = ((0 : Int), (0 : Int)) from rfl)]
    refine A_pv 3 rfl (Wants.none rfl) rfl (by kernel_rfl) ?_
    refine A_pv 4 rfl (Wants.of rfl rfl rfl) rfl (by kernel_rfl) ?_
    refine A_pv 5 rfl (Wants.of rfl rfl rfl) rfl (by kernel_rfl) ?_
    rw [show decide ((s'.size : Int) > 0) = true from decide_eq_true (by omega)]
    refine A_pv 6 rfl (Wants.none rfl) rfl (by kernel_rfl) ?_
    refine A_pv 7 rfl (Wants.none rfl) rfl (by kernel_rfl) ?_
    refine A_pv 8 rfl (Wants.of rfl rfl rfl) rfl (by kernel_rfl) ?_
    refine A_pv 10 rfl (Wants.of rfl rfl rfl) rfl (by kernel_rfl) ?_
    refine A_pv 11 rfl (Wants.of rfl rfl rfl) rfl (by kernel_rfl) ?_
    refine A_two 9 12 rfl rfl (by kernel_rfl) (by repeat first | exact .nil | refine .cons (.inr H.at) ?_ | refine .cons (.inr H.mp) ?_ | refine .cons (.inl (by kernel_rfl)) ?_) (Wants.of rfl rfl rfl) (Wants.of rfl rfl rfl) (St_call (a := []) (b := []) rfl rfl (call (run_spec p c mo _ s' H) ?_)) (St_max rfl rfl rfl ?_)
    · clear H; rintro v w ⟨bb, rfl, hfr, H⟩
      have hlt : bb < makeN s' B C / s'.size + 1 := by
        refine Nat.lt_of_not_le fun hle => ?_
        obtain ⟨a0, ha, hz⟩ := hfr
        obtain ⟨i0, hi1, hi2, hi3⟩ := h2 a0 (by omega)
        exact hi3 (hz i0 hi1 (by omega))
      have hdl : makeN s' B C / s'.size ≤ makeN s' B C := Nat.div_le_self _ _
      refine A_one 12 rfl (by kernel_rfl) (by repeat first | exact .nil | refine .cons (.inr H.at) ?_ | refine .cons (.inr H.mp) ?_ | refine .cons (.inl (by kernel_rfl)) ?_) (Wants.of rfl rfl rfl) (St_max rfl rfl rfl ?_)
      rw [hmx]
      refine A_pv (v := .int .i64 ((makeN s' B C / s'.size : Nat) : Int)) 13 rfl (Wants.of rfl rfl rfl) (by
        show (if IntKind.i64 = IntKind.i64 then (if ((s'.size : Nat) : Int) = 0 then none else some (Value.int IntKind.i64 (IntKind.i64.wrap (Int.tdiv ((makeN s' B C : Nat) : Int) ((s'.size : Nat) : Int))))) else none) = _
        rw [if_pos rfl, if_neg (by omega), quoN (by omega)]) (by kernel_rfl) ?_
      refine A_pv 14 rfl (Wants.of rfl rfl rfl) rfl (by kernel_rfl) ?_
      rw [inc64 (by omega)]
      refine A_pv 15 rfl (Wants.of rfl rfl rfl) rfl (by kernel_rfl) ?_
      rw [show decide ((bb : Int) < ((makeN s' B C / s'.size + 1 : Nat) : Int)) = true from decide_eq_true (by omega)]
      refine A_pv 16 rfl (Wants.none rfl) rfl (by kernel_rfl) ?_
      refine A_pv 17 rfl (Wants.none rfl) rfl (by kernel_rfl) ?_
      refine A_end (by kernel_rfl) (by repeat first | exact .nil | refine .cons (.inr H.at) ?_ | refine .cons (.inr H.mp) ?_ | refine .cons (.inl (by kernel_rfl)) ?_) ?_
      replace H := Holds.sel [0, 0, 0, 2] 2 H; dsimp only [SL.sel, SL.pull, List.drop] at H
      exact C_ret (fn_end0 _ (.inr rfl) H rfl fun w' H' => ⟨rfl, s', m, told, a, cap, R, ⟨by omega, by omega, .inl ⟨rfl, rfl⟩⟩, H'⟩)
    · rw [hmx]
      have hdl : makeN s' B C / s'.size ≤ makeN s' B C := Nat.div_le_self _ _
      refine A_pv (v := .int .i64 ((makeN s' B C / s'.size : Nat) : Int)) 13 rfl (Wants.of rfl rfl rfl) (by
        show (if IntKind.i64 = IntKind.i64 then (if ((s'.size : Nat) : Int) = 0 then none else some (Value.int IntKind.i64 (IntKind.i64.wrap (Int.tdiv ((makeN s' B C : Nat) : Int) ((s'.size : Nat) : Int))))) else none) = _
        rw [if_pos rfl, if_neg (by omega), quoN (by omega)]) (by kernel_rfl) ?_
      refine A_pv 14 rfl (Wants.of rfl rfl rfl) rfl (by kernel_rfl) ?_
      rw [inc64 (by omega)]
      refine A_one 9 rfl (by kernel_rfl) (by repeat first | exact .nil | refine .cons (.inr H.at) ?_ | refine .cons (.inr H.mp) ?_ | refine .cons (.inl (by kernel_rfl)) ?_) (Wants.of rfl rfl rfl) (St_call (a := []) (b := []) rfl rfl (call (run_spec p c mo _ s' H) ?_)); clear H; rintro v w ⟨bb, rfl, hfr, H⟩
      have hlt : bb < makeN s' B C / s'.size + 1 := by
        refine Nat.lt_of_not_le fun hle => ?_
        obtain ⟨a0, ha, hz⟩ := hfr
        obtain ⟨i0, hi1, hi2, hi3⟩ := h2 a0 (by omega)
        exact hi3 (hz i0 hi1 (by omega))
      refine A_pv 15 rfl (Wants.of rfl rfl rfl) rfl (by kernel_rfl) ?_
      rw [show decide ((bb : Int) < ((makeN s' B C / s'.size + 1 : Nat) : Int)) = true from decide_eq_true (by omega)]
      refine A_pv 16 rfl (Wants.none rfl) rfl (by kernel_rfl) ?_
      refine A_pv 17 rfl (Wants.none rfl) rfl (by kernel_rfl) ?_
      refine A_end (by kernel_rfl) (by repeat first | exact .nil | refine .cons (.inr H.at) ?_ | refine .cons (.inr H.mp) ?_ | refine .cons (.inl (by kernel_rfl)) ?_) ?_
      replace H := Holds.sel [0, 0, 0, 2] 2 H; dsimp only [SL.sel, SL.pull, List.drop] at H
      exact C_ret (fn_end0 _ (.inr rfl) H rfl fun w' H' => ⟨rfl, s', m, told, a, cap, R, ⟨by omega, by omega, .inl ⟨rfl, rfl⟩⟩, H'⟩)
  · have hw' : (mayM m A B C).2 = 0 := by rw [← hm1]; exact h1
    rw [hw']
    obtain ⟨_, _, _, _, _, _, _, hmw, _⟩ := id (MODEL_out H)
    obtain ⟨hnew, R'⟩ := make_rel R hmw hw' h2 h6 h7 h8 h10
    have htl : told.length < 100000 := by rw [R.len]; exact hfew
    repeat refine C_seq ?_
    refine C_region ?_
    refine Lp_pv rfl rfl ?_
    refine Lp_pv rfl rfl ?_
    refine Lp_pv rfl rfl ?_
    refine Lp_nil ?_
    repeat refine C_seq ?_
    refine C_false rfl ?_
    repeat refine C_seq ?_
    refine C_region ?_
    refine Lp_pv rfl rfl ?_
    refine Lp_pv rfl rfl ?_
    refine Lp_pv rfl rfl ?_
    refine Lp_nil ?_
    repeat refine C_seq ?_
    refine C_false rfl ?_
    repeat refine C_seq ?_
    refine C_region ?_
    refine Lp_pv rfl rfl ?_
    refine Lp_pv rfl rfl ?_
    refine Lp_pv rfl rfl ?_
    refine Lp_nil ?_
    repeat refine C_seq ?_
    refine C_false rfl ?_
    repeat refine C_seq ?_
    refine C_region ?_
    refine Lp_pv rfl rfl ?_
    refine Lp_pv rfl rfl ?_
    refine Lp_pv rfl rfl ?_
    refine Lp_nil ?_
    repeat refine C_seq ?_
    refine C_false rfl (C_skip ?_)
    replace H := Holds.sel [3, 0, 0, 0, 0, 0] 0 H; dsimp only [SL.sel, SL.pull, List.drop] at H
    repeat refine C_seq ?_
    refine C_region ?_
    refine Lp_pv rfl rfl ?_
    refine Lp_pv rfl rfl ?_
    refine Lp_s rfl (St_fieldAddr rfl rfl ?_)
    refine Lp_s rfl (St_load1 H rfl rfl rfl ?_)
    refine Lp_s rfl (St_lenSlice rfl rfl ?_)
    refine Lp_pv rfl rfl ?_
    refine Lp_nil ?_
    replace H := Holds.sel [5, 2, 2, 0, 1, 0] 0 H; dsimp only [SL.sel, SL.pull, List.drop] at H
    repeat refine C_seq ?_
    refine C_block ?_
    refine C_loop (fun ms σ w q => ms = [] ∧ ∃ j : Nat, j ≤ told.length ∧ q = told.length - j ∧ σ 0 = pp p ∧ σ 3 = pp b3 ∧ σ 5 = pp b5 ∧ σ 102 = .slice a told.length cap ∧ σ 103 = .int .i64 told.length ∧ σ 104 = .int .i64 j ∧ Holds w (TKL (.slice a told.length cap) told :: pts b5 (row 32 [.int .i64 (i' : Nat), .int .i64 ((g0' + 1 : Nat) : Int)]) :: pts b3 (row 34 [.int .i64 k, .int .i64 A, .int .i64 B, .int .i64 C, .int .u64 X, vW, .bool raw, .int .i64 i, .int .i64 g]) :: RROW p c mo (.slice a told.length cap) :: CELL c s' :: MODEL mo m :: fr)) (m := told.length) ⟨rfl, 0, by omega, rfl, rfl, rfl, rfl, rfl, rfl, rfl, H⟩ ?_
    clear H
    rintro ms σ w q ⟨rfl, j, hj, rfl, g0, g3, g5, g102, g103, g104, H⟩
    rw [upd_self g0, upd_self g3, upd_self g5, upd_self g102, upd_self g103, upd_self g104]
    repeat refine C_seq ?_
    refine C_region ?_
    refine Lp_pv rfl rfl ?_
    refine Lp_nil ?_
    repeat refine C_seq ?_
    refine C_dec rfl (fun h => C_skip ?_) (fun h => C_exit ?_)
    · have hlt : j < told.length := by omega
      have hn := List.getElem?_eq_getElem hlt
      generalize told[j] = xy at hn
      obtain ⟨x, y⟩ := xy
      obtain ⟨bT, sT, rfl, H, hcl⟩ := sls_open H (by omega)
      repeat refine C_seq ?_
      refine C_block ?_
      repeat refine C_seq ?_
      refine C_region ?_
      refine Lp_s rfl (St_indexAddr rfl rfl (by omega) (by omega) rfl ?_)
      refine Lp_s rfl (St_loadN H rfl (tkc_reads hn) rfl ?_)
      (refine Lp_s rfl (St_alloc H rfl ?_); clear H; intro b11 w H)
      (refine Lp_s rfl (St_storeN H rfl rfl inferInstance rfl rfl (Nat.le_of_ble_eq_true rfl) rfl ?_); clear H; intro w H)
      refine Lp_nil ?_
      repeat refine C_seq ?_
      refine C_region ?_
      refine Lp_s rfl (St_loadN H rfl (by repeat (first | exact Reads.nil _ | apply Reads.cons rfl)) rfl ?_)
      refine Lp_s rfl (St_loadN H rfl (by repeat (first | exact Reads.nil _ | apply Reads.cons rfl)) rfl ?_)
      refine Lp_s rfl (St_eqPair rfl rfl (.inl rfl) rfl ?_)
      refine Lp_nil ?_
      replace H := hcl _ _ H.drop
      refine C_dec (p := ((x : Int), (y : Int)) = (((i' : Nat) : Int), ((g0' + 1 : Nat) : Int))) rfl (fun he => ?_) (fun he => C_skip ?_)
      · exfalso
        injection he with e1 e2
        obtain rfl : x = i' := by omega
        obtain rfl : y = g0' + 1 := by omega
        exact hnew j hn
      · repeat refine C_seq ?_
        refine C_region ?_
        refine Lp_pv rfl rfl ?_
        refine Lp_pv rfl rfl ?_
        refine Lp_nil ?_
        exact ⟨_, ⟨rfl, j + 1, hlt, rfl, rfl, rfl, rfl, rfl, rfl, inc64 (by omega), H⟩, by omega⟩
    · replace H := Holds.sel [5, 0, 0, 0, 0, 0] 0 H; dsimp only [SL.sel, SL.pull, List.drop] at H
      repeat refine C_seq ?_
      refine C_drawH H mixed ?_
      clear H; intro w H
      refine A_pv 0 rfl (Wants.none rfl) rfl (by kernel_rfl) ?_
      refine A_pv 1 rfl (Wants.none rfl) rfl (by kernel_rfl) ?_
      refine A_fieldAddr 2 rfl (Wants.none rfl) rfl (by kernel_rfl) ?_
      refine A_load1 3 [10] H rfl (Wants.none rfl) rfl rfl (by kernel_rfl) ?_
      refine A_fieldAddr 4 rfl (Wants.none rfl) rfl (by kernel_rfl) ?_
      refine A_load1 5 [10] H rfl (Wants.none rfl) rfl rfl (by kernel_rfl) ?_
      refine A_fieldAddr 6 rfl (Wants.none rfl) rfl (by kernel_rfl) ?_
      refine A_load1 7 [10] H rfl (Wants.none rfl) rfl rfl (by kernel_rfl) ?_
      refine A_fieldAddr 8 rfl (Wants.none rfl) rfl (by kernel_rfl) ?_
      refine A_load1 9 [10] H rfl (Wants.none rfl) rfl rfl (by kernel_rfl) ?_
      refine A_one 10 rfl (by kernel_rfl) (by repeat first | exact .nil | refine .cons (.inr H.at) ?_ | refine .cons (.inr H.mp) ?_ | refine .cons (.inl (by kernel_rfl)) ?_) (Wants.none rfl) (St_call (a := []) (b := []) rfl rfl (call (Make15_spec mo m A B C hw' hfew H) ?_))
      clear H; rintro v w ⟨rfl, H⟩
      refine A_end (by kernel_rfl) (by repeat first | exact .nil | refine .cons (.inr H.at) ?_ | refine .cons (.inr H.mp) ?_ | refine .cons (.inl (by kernel_rfl)) ?_) ?_
      replace H := Holds.sel [1, 1, 2, 0, 0, 0] 0 H; dsimp only [SL.sel, SL.pull, List.drop] at H
      repeat refine C_seq ?_
      refine C_drawH H mixed ?_
      clear H; intro w H
      refine A_pv 0 rfl (Wants.none rfl) rfl (by kernel_rfl) ?_
      refine A_pv 1 rfl (Wants.none rfl) rfl (by kernel_rfl) ?_
      refine A_pv 2 rfl (Wants.none rfl) rfl (by kernel_rfl) ?_
      refine A_fieldAddr 3 rfl (Wants.none rfl) rfl (by kernel_rfl) ?_
      refine A_load1 4 [7, 10] H rfl (Wants.none rfl) rfl rfl (by kernel_rfl) ?_
      refine A_loadN 5 [6, 7, 10] H rfl (Wants.none rfl) rfl (by repeat (first | exact Reads.nil _ | apply Reads.cons rfl)) (by kernel_rfl) ?_
      refine A_one 6 rfl (by kernel_rfl) (by repeat first | exact .nil | refine .cons (.inr H.at) ?_ | refine .cons (.inr H.mp) ?_ | refine .cons (.inl (by kernel_rfl)) ?_) (Wants.none rfl) (St_buildSlice H rfl rfl rfl ?_); clear H; intro bS w H
      replace H := H.swap
      refine A_one 7 rfl (by kernel_rfl) (by repeat first | exact .nil | refine .cons (.inr H.at) ?_ | refine .cons (.inr H.mp) ?_ | refine .cons (.inl (by kernel_rfl)) ?_) (Wants.none rfl) (St_append H rfl rfl (by repeat (first | exact Reads.nil _ | apply Reads.cons rfl)) rfl (by decide) (by rw [tkc_length]; simp only [List.length_cons, List.length_nil]; omega) rfl rfl ?_); clear H; intro vS w H
      have e1 : tkc told ++ [.int .i64 ((i' : Nat) : Int), .int .i64 ((g0' + 1 : Nat) : Int)] = tkc (told ++ [(i', g0' + 1)]) := by
        rw [tkc_append]; rfl
      rw [e1] at H
      obtain ⟨aS, cS, rfl⟩ := sls_slice H (m := (told ++ [(i', g0' + 1)]).length) (tkc_length _) (by decide)
      refine A_pv 8 rfl (Wants.none rfl) rfl (by kernel_rfl) ?_
      refine A_fieldAddr 9 rfl (Wants.none rfl) rfl (by kernel_rfl) ?_
      refine A_one 10 rfl (by kernel_rfl) (by repeat first | exact .nil | refine .cons (.inr H.at) ?_ | refine .cons (.inr H.mp) ?_ | refine .cons (.inl (by kernel_rfl)) ?_) (Wants.none rfl) (St_store1 H rfl rfl inferInstance rfl (Nat.le_of_ble_eq_true rfl) rfl ?_); clear H; intro w H
      refine A_end (by kernel_rfl) (by repeat first | exact .nil | refine .cons (.inr H.at) ?_ | refine .cons (.inr H.mp) ?_ | refine .cons (.inl (by kernel_rfl)) ?_) ?_
      repeat refine C_seq ?_
      refine C_region ?_
      refine Lp_pv rfl rfl ?_
      refine Lp_nil ?_
      replace H := Holds.sel [3, 5, 3, 0] 3 H; dsimp only [SL.sel, SL.pull, List.drop] at H
      refine C_ret (fn_end0 _ (.inr rfl) H rfl fun w' H' => ⟨rfl, s', _, _, aS, cS, R', ⟨?_, ?_, .inr ⟨i', g0', rfl, h2, h4, ?_⟩⟩, H'⟩)
      · show m.P.length ≤ _
        omega
      · show (m.objs ++ [_]).length ≤ _
        simp
      · rw [h10]
        unfold shapeT
        rw [List.map_set]
        rfl
end Go.Proofs.YtcaaojbnjfdglaaGreatDoor
namespace Go.Proofs.YtcaaojbnjfdglaaGreatDoor
open Go.SL

theorem shape_setWS (s : CS) (i g p : Int) (x : Nat) : shapeT (setWS s i g p x).1.tab = shapeT s.tab := by
  cases hv : validT s.tab i g with
  | none => rw [setWS_none hv]
  | some q =>
    obtain ⟨k, e⟩ := q
    obtain ⟨n, rfl, rfl, hk, _⟩ := valid_at hv
    rw [setWS_some hv]
    split
    · rw [Int.toNat_natCast]; exact shape_set hk
    · rfl
theorem shape_dropS (s : CS) (i g : Int) : shapeT (dropS s i g).1.tab = shapeT s.tab := by
  cases hv : validT s.tab i g with
  | none => rw [dropS_none hv]
  | some q =>
    obtain ⟨k, e⟩ := q
    obtain ⟨n, rfl, rfl, hk, _⟩ := valid_at hv
    rw [dropS_some hv, Int.toNat_natCast]
    exact shape_set hk
theorem shape_pinS (s : CS) (i g : Int) (on : Bool) : shapeT (pinS s i g on).1.tab = shapeT s.tab := by
  cases hv : validT s.tab i g with
  | none => rw [pinS_none hv]
  | some q =>
    obtain ⟨k, e⟩ := q
    obtain ⟨n, rfl, rfl, hk, _⟩ := valid_at hv
    rw [pinS_some hv]
    split
    · rfl
    · rw [Int.toNat_natCast]; exact shape_set hk
theorem shape_tieS (s : CS) (i g p : Int) (l : Lnk) : shapeT (tieS s i g p l).1.tab = shapeT s.tab := by
  cases hv : validT s.tab i g with
  | none => rw [tieS_none hv]
  | some q =>
    obtain ⟨k, e⟩ := q
    obtain ⟨n, rfl, rfl, hk, _⟩ := valid_at hv
    rw [tieS_some hv]
    split
    · rw [Int.toNat_natCast]; exact shape_set hk
    · rfl
theorem shape_TieS (s : CS) (i g p u v : Int) : shapeT (TieS s i g p u v).1.tab = shapeT s.tab := by
  unfold TieS
  split
  · rfl
  · split
    · rfl
    · exact shape_tieS s i g p _
theorem shape_refS (s : CS) (i g p : Int) : shapeT (refS s i g p).tab = shapeT s.tab := by
  unfold refS
  split
  · rename_i a b _
    cases hl : lookT s.tab a b with
    | none => rw [holdS_none hl]
    | some q =>
      obtain ⟨k, e⟩ := q
      obtain ⟨n, h1, h2, hk⟩ := lookT_some.1 hl
      obtain rfl : b = n := by omega
      rw [holdS_some hl]
      exact shape_set hk
  · rfl
theorem shape_defS (s : CS) (ws : List Nat) : shapeT (defS s ws).1.tab = shapeT s.tab := by
  cases hd : decodeL ws with
  | none => rw [defS_none hd]
  | some l =>
    rw [defS_some hd]
    split <;> rfl
theorem len_setM (m : MS) (k : Nat) (x : Mob) : (setM m k x).objs.length = m.objs.length := List.length_set
theorem objs_cutM (m : MS) (o p : Int) : (cutM m o p).1.objs.length = m.objs.length ∧ (cutM m o p).1.P = m.P := by
  unfold cutM
  split
  · exact ⟨rfl, rfl⟩
  · split
    · exact ⟨len_setM _ _ _, rfl⟩
    · exact ⟨rfl, rfl⟩
theorem objs_tieM (m : MS) (o p u : Int) : (tieM m o p u).1.objs.length = m.objs.length ∧ (tieM m o p u).1.P = m.P := by
  unfold tieM
  split
  · exact ⟨rfl, rfl⟩
  · split
    · split
      · exact ⟨rfl, rfl⟩
      · exact ⟨len_setM _ _ _, rfl⟩
    · exact ⟨rfl, rfl⟩
theorem objs_dropM (m : MS) (o : Int) : (dropM m o).1.objs.length = m.objs.length ∧ (dropM m o).1.P = m.P := by
  unfold dropM
  split
  · exact ⟨rfl, rfl⟩
  · exact ⟨len_setM _ _ _, rfl⟩
theorem objs_pinM (m : MS) (o : Int) (on : Bool) : (pinM m o on).1.objs.length = m.objs.length ∧ (pinM m o on).1.P = m.P := by
  unfold pinM
  split
  · exact ⟨rfl, rfl⟩
  · split
    · exact ⟨rfl, rfl⟩
    · exact ⟨len_setM _ _ _, rfl⟩
theorem objs_holdM (m : MS) (t : Nat) : (holdM m t).objs.length = m.objs.length ∧ (holdM m t).P = m.P := by
  unfold holdM
  split
  · exact ⟨len_setM _ _ _, rfl⟩
  · exact ⟨rfl, rfl⟩
theorem objs_refM (m : MS) (o p : Int) : (refM m o p).1.objs.length = m.objs.length ∧ (refM m o p).1.P = m.P := by
  unfold refM
  split
  · exact ⟨rfl, rfl⟩
  · split
    · show (if _ then _ else _ : MS).objs.length = _ ∧ (if _ then _ else _ : MS).P = _
      split
      · exact objs_holdM m _
      · exact ⟨rfl, rfl⟩
    · exact ⟨rfl, rfl⟩
theorem objs_setWM (m : MS) (o p : Int) (X : Nat) : (setWM m o p X).objs.length = m.objs.length ∧ (setWM m o p X).P = m.P := by
  unfold setWM
  split
  · exact ⟨rfl, rfl⟩
  · split
    · exact ⟨len_setM _ _ _, rfl⟩
    · exact ⟨rfl, rfl⟩
theorem objs_defM (m : MS) (ws : List Nat) : (defM m ws).1.objs = m.objs ∧ (defM m ws).1.P = m.P := by
  unfold defM
  split
  · exact ⟨rfl, rfl⟩
  · split <;> exact ⟨rfl, rfl⟩
theorem Step_eq {s s' : CS} {m m' : MS} {told : List (Nat × Nat)} (h1 : m'.objs.length = m.objs.length) (h2 : m'.P = m.P) (h3 : shapeT s'.tab = shapeT s.tab) : Step s m told s' m' told := ⟨by rw [h2]; omega, by omega, .inl ⟨rfl, h3⟩⟩
end Go.Proofs.YtcaaojbnjfdglaaGreatDoor
