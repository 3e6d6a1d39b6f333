/- Cells: what is proved on the way: every input of the statement; no condition. Texts joined: LawC LawD LnkA LnkB LnkC InvP InvQ LawE LawF. -/
import Derived.Test.YtcaaojbnjfdglaaGreatDoorChf
import Derived.Test.YtcaaojbnjfdglaaGreatDoorChn
import Derived.Test.YtcaaojbnjfdglaaGreatDoorChj
import Derived.Test.YtcaaojbnjfdglaaGreatDoorChm
set_option linter.unusedVariables false
set_option linter.unusedSimpArgs false
set_option linter.unusedSectionVars false
namespace Go.Proofs.YtcaaojbnjfdglaaGreatDoor
open Go.SL

/-- A run of free chunks. -/
def FreeRun (own : List Nat) (n : Nat) : Prop := ∃ a, a + n ≤ own.length ∧ ∀ i, a ≤ i → i < a + n → own.getD i 0 = 0
theorem run_spec [Extra] (p c mo : Nat) (v : Value) (s : CS) {w : World} {fr : List HProp} (H : Holds w (RROW p c mo v :: CELL c s :: fr)) :
    Calls Tryz.prog 116 #[pp p] w (ret fun x w' => ∃ b : Nat, x = .int .i64 b ∧ FreeRun s.own b ∧ Holds w' (RROW p c mo v :: CELL c s :: fr)) := by
  obtain ⟨q, mem, hw, hm, H⟩ := CELL_out H.swap
  have hol := hw.own.2
  refine calls_of Tryz.func116 rfl (by kernel_rfl) ?_
  refine J14 H ?_
  refine J3 H ?_
  replace H := Js [3,0,0,0,0,0,0,0,0,0,0,0] 0 H
  refine J256 H ?_
  refine Jc rfl rfl (Chunks_spec q.sp s.size mem s.own H) ?_
  clear H; rintro v w ⟨rfl, H⟩
  refine J75 H ?_
  refine C_loop (fun ms σ w n => ms = [] ∧ ∃ j row best : Nat, j ≤ s.own.length ∧ n = s.own.length - j ∧ row ≤ j ∧ best ≤ j ∧ (∀ i, j - row ≤ i → i < j → s.own.getD i 0 = 0) ∧ (∃ a, a + best ≤ j ∧ ∀ i, a ≤ i → i < a + best → s.own.getD i 0 = 0) ∧ σ 0 = pp p ∧ σ 3 = .int .i64 best ∧ σ 4 = .int .i64 row ∧ σ 13 = .int .i64 s.own.length ∧ σ 14 = .int .i64 j ∧
    Holds w (ST q.sp s.size mem s.own :: CROW c q :: IMG q.ip q.sp q.bp :: BOOK q.bp s.lays :: TAB q.tp s.tab :: TRE q.trp s.last s.par :: RS q.rp s.rem :: mp (ki .i64) ptrv q.sm (s.sps.map spkey) :: star (s.sps.map (spres q.sp)) :: mp (ki .i64) ptrv q.mm (s.mns.map mnkey) :: star (s.mns.map mnres) :: RROW p c mo v :: fr)) (m := s.own.length) ⟨rfl, 0, 0, 0, by omega, rfl, by omega, by omega, by omega, ⟨0, by omega, by omega⟩, rfl, rfl, rfl, rfl, rfl, H⟩ ?_
  clear H
  rintro ms σ w n ⟨rfl, j, row, best, hj, rfl, hrj, hbj, hrow, hbest, g0, g3, g4, g13, g14, H⟩
  rw [upd_self g0, upd_self g3, upd_self g4, upd_self g13, upd_self g14]
  refine J25 H ?_
  refine C_dec rfl (fun h => C_skip ?_) (fun h => C_exit ?_)
  · have hlt : j < s.own.length := by omega
    refine J100 H ?_
    refine J17 H ?_
    rw [inc64 (by omega)]
    refine J13 H ?_
    refine J235 H ?_
    refine Jc rfl rfl (Owner_spec q.sp s.size mem s.own j H hlt) ?_
    clear H; rintro v w ⟨rfl, H⟩
    refine J0 H ?_
    by_cases h0 : s.own.getD j 0 = 0
    · rw [show (((s.own.getD j 0 : Nat) : Int) != 0) = false by rw [h0]; rfl]
      refine J221 H ?_
      refine J124 H ?_
      rw [show (if ((row + 1 : Nat) : Int) > ((best : Nat) : Int) then ((row + 1 : Nat) : Int) else ((best : Nat) : Int)) = ((max best (row + 1) : Nat) : Int) by split <;> omega]
      refine J22 H ?_
      rw [inc64 (by omega)]
      refine ⟨_, ⟨rfl, j + 1, row + 1, max best (row + 1), hlt, rfl, by omega, by omega, ?_, ?_, rfl, rfl, rfl, rfl, rfl, H⟩, by omega⟩
      · intro i h1 h2
        by_cases hij : i = j
        · rw [hij]; exact h0
        · exact hrow i (by omega) (by omega)
      · by_cases hb : row + 1 ≤ best
        · obtain ⟨a, h1, h2⟩ := hbest
          rw [Nat.max_eq_left hb]
          exact ⟨a, by omega, h2⟩
        · rw [Nat.max_eq_right (by omega)]
          refine ⟨j - row, by omega, fun i h1 h2 => ?_⟩
          by_cases hij : i = j
          · rw [hij]; exact h0
          · exact hrow i (by omega) (by omega)
    · rw [show (((s.own.getD j 0 : Nat) : Int) != 0) = true by rw [bne_iff_ne]; omega]
      refine J38 H ?_
      refine J5 H ?_
      refine J124 H ?_
      rw [show (if (0 : Int) > ((best : Nat) : Int) then (0 : Int) else ((best : Nat) : Int)) = ((best : Nat) : Int) by split <;> omega]
      refine J22 H ?_
      rw [inc64 (by omega)]
      obtain ⟨a, h1, h2⟩ := hbest
      exact ⟨_, ⟨rfl, j + 1, 0, best, hlt, rfl, by omega, by omega, by omega, ⟨a, by omega, h2⟩, rfl, rfl, rfl, rfl, rfl, H⟩, by omega⟩
  · obtain ⟨a, h1, h2⟩ := hbest
    refine J3 H ?_
    replace H := Js [1,1,1,0,0,0,0,0,0,0,0,0] 0 H
    exact C_ret (Jy ((CELL_in hw hm H).swap) rfl fun w' H' => ⟨best, rfl, ⟨a, by omega, h2⟩, H'⟩)
end Go.Proofs.YtcaaojbnjfdglaaGreatDoor
namespace Go.Proofs.YtcaaojbnjfdglaaGreatDoor
open Go.SL

theorem veq_info (a b c d : Int) (e : Bool) : veq [.int .i64 a, .int .i64 b, .int .i64 c, .int .i64 d, .bool e] [.int .i64 a, .int .i64 b, .int .i64 c, .int .i64 d, .bool e] = true := by
  simp [veq]
theorem tellR_spec [Extra] (p c mo : Nat) (v : Value) (s : CS) (m : MS) (told : List (Nat × Nat)) (R : RelW s m told) (i g o : Int) (P : Vd s m told i g o) {w : World} {fr : List HProp} (H : Holds w (RROW p c mo v :: CELL c s :: MODEL mo m :: fr)) :
    Calls Tryz.prog 55 #[pp p, tkI2 i g, .int .i64 o] w (ret fun x w' => x = .bool true ∧ Holds w' (RROW p c mo v :: CELL c s :: MODEL mo m :: fr)) := by
  have hT := fun (w : World) (fr : List HProp) (H : Holds w (CELL c s :: fr)) => Tell_spec c s i g H
  rw [tell_lawV R P] at hT
  obtain ⟨a1, a2, a3, a4, a5, a6, hsh⟩ : ∃ a1 a2 a3 a4 a5 a6, tellM (valM m o) = .tuple #[.agg #[.int .i64 a1, .int .i64 a2, .int .i64 a3, .int .i64 a4, .bool a5], .int .i64 a6] := by
    cases valM m o <;> exact ⟨_, _, _, _, _, _, rfl⟩
  refine calls_of Tryz.func55 rfl (by kernel_rfl) ?_
  refine J6 H ?_
  clear H; intro b4 w H
  refine J0 H ?_
  replace H := Js [2,0,0,0] 0 H
  refine J12 H ?_
  refine C_join (fun ms σ w => ms = [] ∧ ∃ b7, σ 0 = pp p ∧ σ 2 = .int .i64 o ∧ σ 7 = pp b7 ∧ σ 8 = .int .i64 a6 ∧ Holds w (pts b7 (row 44 [.int .i64 a1, .int .i64 a2, .int .i64 a3, .int .i64 a4, .bool a5]) :: RROW p c mo v :: CELL c s :: MODEL mo m :: fr)) ?_ ?_
  · refine J1 H ?_
    clear H; intro w H
    refine J15 H ?_
    refine J269 H ?_
    refine J270 H ?_
    refine A_two 5 9 rfl rfl (by kernel_rfl) (by repeat first | exact .nil | refine .cons (.inr H.at) ?_ | refine .cons (.inr H.mp) ?_ | refine .cons (.inl (by kernel_rfl)) ?_) (Wants.none rfl) (Wants.none rfl) (St_call (a := []) (b := []) rfl rfl (call (hT _ _ H) ?_)) (St_alloc H rfl ?_)
    · clear H; rintro v w ⟨rfl, H⟩
      rw [hsh]
      refine J113 H ?_
      refine Jo 9 H ?_
      refine St_alloc H rfl ?_
      clear H; intro b7 w H
      refine J141 H ?_
      clear H; intro w H
      refine J142 H ?_
      replace H := Js [0,2,0,1] 1 H
      exact ⟨rfl, rfl, b7, rfl, rfl, rfl, rfl, H⟩
    · clear H; intro b7 w H
      refine Jo 5 H ?_
      refine Jk rfl rfl (hT _ _ H.swap) ?_
      clear H; rintro v w ⟨rfl, H⟩
      rw [hsh]
      refine J113 H ?_
      refine J141 H ?_
      clear H; intro w H
      refine J142 H ?_
      replace H := Js [1,2,0,1] 1 H
      exact ⟨rfl, rfl, b7, rfl, rfl, rfl, rfl, H⟩
  clear H
  rintro ms σ w ⟨rfl, b7, g0, g2, g7, g8, H⟩
  rw [upd_self g0, upd_self g2, upd_self g7, upd_self g8]
  replace H := Js [3,0,0,0] 0 H
  refine J13 H ?_
  refine Jc rfl rfl (Valid_spec mo m o H) ?_
  clear H; rintro v w ⟨rfl, H⟩
  
  cases hv : valM m o with
  | none =>
    rw [hv] at hsh
    cases hsh
    refine J0 H ?_
    refine J11 H ?_
    refine J10 H ?_
    refine J115 H ?_
    refine Lp_g rfl rfl rfl (St_eqAgg rfl rfl rfl rfl (.inl rfl) rfl ?_)
    refine J4 H ?_
    replace H := Js [2,2,0] 1 H
    exact C_ret (Jy H rfl fun w' H' => ⟨congrArg Value.bool ((eql_veq _ _).trans (veq_info 0 0 0 0 false)), H'⟩)
  | some nx =>
    obtain ⟨n, x⟩ := nx
    rw [hv] at hsh
    cases hsh
    obtain ⟨rfl, hx, hh, hg⟩ := valM_some hv
    have hol := (List.getElem?_eq_some_iff.1 hx).1
    obtain ⟨t, lc, aL, cL, bO, cO, sO, ptrs, q, vw, vk, vt, rest, hm, h2, hp, H, hclose⟩ := MODEL_at H hx
    have hm' := set_same hx hm
    obtain ⟨aw, cw, rfl⟩ := sls_slice H.drop (ucells_length _) (by decide)
    refine J20 H ?_
    refine J13 H ?_
    refine J235 H ?_
    refine Lp_s rfl (St_indexAddr rfl rfl (by omega) (by omega) rfl ?_)
    refine Lp_s rfl (St_load1 H rfl hp rfl ?_)
    refine J0 H ?_
    refine J1 H ?_
    clear H; intro w H
    refine J156 H ?_
    refine A_loadN 3 [] H rfl (Wants.of rfl rfl rfl) rfl (by repeat (first | exact Reads.nil _ | apply Reads.cons rfl)) (by kernel_rfl) ?_
    refine A_pv 4 rfl (Wants.of rfl rfl rfl) rfl (by kernel_rfl) ?_
    refine J188 H ?_
    refine A_fieldAddr 6 rfl (Wants.of rfl rfl rfl) rfl (by kernel_rfl) ?_
    refine A_load1 7 [] H rfl (Wants.of rfl rfl rfl) rfl rfl (by kernel_rfl) ?_
    refine J189 H ?_
    refine J254 H ?_
    refine J257 H ?_
    refine A_load1 11 [] H rfl (Wants.of rfl rfl rfl) rfl rfl (by kernel_rfl) ?_
    refine A_pv 12 rfl (Wants.of rfl rfl rfl) rfl (by kernel_rfl) ?_
    refine A_pv 13 rfl (Wants.of rfl rfl rfl) rfl (by kernel_rfl) ?_
    refine A_fieldAddr 14 rfl (Wants.of rfl rfl rfl) rfl (by kernel_rfl) ?_
    refine A_load1 15 [] H rfl (Wants.of rfl rfl rfl) rfl rfl (by kernel_rfl) ?_
    refine A_pv 16 rfl (Wants.of rfl rfl rfl) rfl (by kernel_rfl) ?_
    refine A_pv 17 rfl (Wants.of rfl rfl rfl) rfl (by kernel_rfl) ?_
    refine J245 H ?_
    refine A_lenSlice 20 rfl (Wants.of rfl rfl rfl) rfl (by kernel_rfl) ?_
    refine A_pv 21 rfl (Wants.of rfl rfl rfl) rfl (by kernel_rfl) ?_
    refine A_pv 22 rfl (Wants.of rfl rfl rfl) rfl (by kernel_rfl) ?_
    refine A_fieldAddr 23 rfl (Wants.of rfl rfl rfl) rfl (by kernel_rfl) ?_
    refine A_load1 24 [] H rfl (Wants.of rfl rfl rfl) rfl rfl (by kernel_rfl) ?_
    refine A_build 25 rfl (Wants.of rfl rfl rfl) rfl (by kernel_rfl) ?_
    refine A_eqAgg 26 rfl (Wants.of rfl rfl rfl) rfl rfl rfl rfl (.inl rfl) (by kernel_rfl) ?_
    rw [eql_veq, veq_info]
    refine A_pv 27 rfl (Wants.none rfl) rfl (by kernel_rfl) ?_
    refine A_pv 28 rfl (Wants.none rfl) rfl (by kernel_rfl) ?_
    refine J2 H ?_
    replace H := MODEL_same hx (hclose _ _ _ hm' H)
    replace H := Js [2,2,0] 1 H
    exact C_ret (Jy H rfl fun w' H' => ⟨rfl, H'⟩)
end Go.Proofs.YtcaaojbnjfdglaaGreatDoor
namespace Go.Proofs.YtcaaojbnjfdglaaGreatDoor
open Go.SL

theorem sortedN_eq : ∀ {a b : List Nat}, a.Pairwise (· < ·) → b.Pairwise (· < ·) → (∀ x, x ∈ a ↔ x ∈ b) → a = b
  | [], [], _, _, _ => rfl
  | [], y :: b, _, _, h => by have := (h y).2 (by simp); cases this
  | x :: a, [], _, _, h => by have := (h x).1 (by simp); cases this
  | x :: a, y :: b, ha, hb, h => by
    rw [List.pairwise_cons] at ha hb
    have hxy : x = y := by
      have h1 := (h x).1 (by simp)
      have h2 := (h y).2 (by simp)
      rw [List.mem_cons] at h1 h2
      rcases h1 with h1 | h1
      · exact h1
      · rcases h2 with h2 | h2
        · exact h2.symm
        · have := hb.1 x h1; have := ha.1 y h2; omega
    subst hxy
    congr 1
    refine sortedN_eq ha.2 hb.2 fun z => ?_
    have hz := h z
    rw [List.mem_cons, List.mem_cons] at hz
    constructor
    · intro h1
      have := ha.1 z h1
      rcases hz.1 (.inr h1) with h2 | h2
      · omega
      · exact h2
    · intro h1
      have := hb.1 z h1
      rcases hz.2 (.inr h1) with h2 | h2
      · omega
      · exact h2

def recOf (l : Lay) (i : Nat) : List Nat := l.recs.map (l.fixed + i * l.record + ·)
def slotsC (l : Lay) (c : Nat) : List Nat := l.refs ++ (List.range c).flatMap (recOf l)
theorem ris_filter {l : List Nat} {n : Nat} (h : RisL l n) : l = (List.range n).filter (fun p => decide (p ∈ l)) := by
  refine sortedN_eq h.2 (List.Pairwise.filter _ List.pairwise_lt_range) fun x => ?_
  rw [List.mem_filter, List.mem_range, decide_eq_true_eq]
  exact ⟨fun hx => ⟨h.1 x hx, hx⟩, fun hx => hx.2⟩
theorem slotsC_eq {l : Lay} (hR : RightL l) : ∀ c : Nat, (c > 0 → l.record ≠ 0) → slotsC l c = (List.range (l.fixed + c * l.record)).filter (isRefL l)
  | 0, _ => by
    unfold slotsC
    rw [Nat.zero_mul, Nat.add_zero, List.range_zero, List.flatMap_nil, List.append_nil]
    refine (ris_filter hR.2.2.2.1).trans (List.filter_congr fun x hx => ?_)
    unfold isRefL
    rw [if_pos (List.mem_range.1 hx)]
  | c + 1, h => by
    have ih := slotsC_eq hR c (fun _ => h (by omega))
    have hr : 0 < l.record := Nat.pos_of_ne_zero (h (by omega))
    have e : slotsC l (c + 1) = slotsC l c ++ recOf l c := by
      unfold slotsC
      rw [List.range_succ, List.flatMap_append, List.append_assoc]
      simp
    have e3 : List.range ((l.fixed + c * l.record) + l.record) = List.range (l.fixed + c * l.record) ++ (List.range l.record).map (l.fixed + c * l.record + ·) := List.range_add
    rw [e, ih, show l.fixed + (c + 1) * l.record = (l.fixed + c * l.record) + l.record by rw [Nat.succ_mul]; omega, e3, List.filter_append]
    congr 1
    rw [List.filter_map]
    unfold recOf
    congr 1
    refine (ris_filter hR.2.2.2.2).trans (List.filter_congr fun x hx => ?_)
    have hx := List.mem_range.1 hx
    show _ = isRefL l (l.fixed + c * l.record + x)
    unfold isRefL
    rw [if_neg (by omega), show l.fixed + c * l.record + x - l.fixed = x + l.record * c by rw [Nat.mul_comm]; omega, Nat.add_mul_mod_self_left, Nat.mod_eq_of_lt hx]

theorem Slots_spec [Extra] (vr vq : Value) (l : Lay) (c : Nat) (h1 : vr.oneCell' = true) (h2 : vq.oneCell' = true) {w : World} {fr : List HProp} (H : Holds w fr) :
    Calls Tryz.prog 143 #[layV l.fixed vr l.record vq, .int .i64 c] w (ret fun v w' => ∃ b1 b2, v = .func (.func 183) #[] #[pp b1, pp b2] ∧ Holds w' (pts b1 (row 101 [.int .i64 l.fixed, vr, .int .i64 l.record, vq]) :: pts b2 (row 3 [.int .i64 c]) :: fr)) := by
  refine calls_of Tryz.func143 rfl (by kernel_rfl) ?_
  refine J6 H ?_
  clear H; intro b2 w H
  refine J94 H ?_
  clear H; intro b3 w H
  refine J22 H ?_
  exact C_ret (Jy H.swap rfl fun w' H' => ⟨b2, b3, rfl, H'⟩)

theorem SlotsIter [Extra] (yl b1 b2 : Nat) (vr vq : Value) (l : Lay) (hR : RightL l) (c : Nat) {n : Nat} (hz : sizeL l c = (n, 0)) (J : List Nat → HProp)
    (hy : ∀ (ks : List Nat) (p : Nat) (rest : List HProp) (w : World), (∃ t, (List.range n).filter (isRefL l) = ks ++ p :: t) → Holds w (J ks :: rest) → SL.Yields Tryz.prog yl #[.int .i64 p] w (fun v w' => v = .bool true ∧ Holds w' (J (ks ++ [p]) :: rest)))
    {w : World} {fr : List HProp} (H : Holds w (J [] :: pts b1 (row 101 [.int .i64 l.fixed, vr, .int .i64 l.record, vq]) :: pts b2 (row 3 [.int .i64 c]) :: NL vr l.refs :: NL vq l.recs :: fr)) :
    Calls Tryz.prog 183 #[.func (.yield yl) #[] #[], pp b1, pp b2] w (ret fun _ w' => Holds w' (J ((List.range n).filter (isRefL l)) :: pts b1 (row 101 [.int .i64 l.fixed, vr, .int .i64 l.record, vq]) :: pts b2 (row 3 [.int .i64 c]) :: NL vr l.refs :: NL vq l.recs :: fr)) := by
  obtain ⟨z1, z2, z3, z4, z5⟩ := sizeL_ok hz
  have hall := slotsC_eq hR c (by omega)
  rw [Int.toNat_natCast] at z3
  rw [← z3] at hall
  rw [← hall] at hy ⊢
  have hfx := hR.1
  have hrc := hR.2.1
  have hl1 := RisL.len hR.2.2.2.1
  have hl2 := RisL.len hR.2.2.2.2
  obtain ⟨ar, cr, rfl⟩ := sls_slice (H.sel [3, 0, 0, 0] 0) (ncells_length _) (by decide)
  obtain ⟨aq, cq, rfl⟩ := sls_slice (H.sel [4, 0, 0, 0, 0] 0) (ncells_length _) (by decide)
  refine calls_of Tryz.func183 rfl (by kernel_rfl) ?_
  refine J30 H ?_
  refine J62 H ?_
  replace H := Js [3,3,0,0,0] 0 H
  obtain ⟨D1, H, hD1, hC1⟩ := sls_rd H (ncells_length _) (by decide)
  obtain ⟨D2, H, hD2, hC2⟩ := sls_rd H.swap (ncells_length _) (by decide)
  refine Jc rfl rfl (Size_spec _ _ l hR c ⟨(hD1 _).there, hD2 _⟩ H) ?_
  clear H; rintro v w ⟨rfl, H⟩
  rw [hz]
  replace H := hC1 _ _ (hC2 _ _ H).swap
  refine J31 H ?_
  replace H := Js [0,0,0,0,0] 0 H
  refine J71 H ?_
  refine J222 H ?_
  refine C_join (fun ms σ w => ms = [] ∧ σ 0 = .func (.yield yl) #[] #[] ∧ σ 1 = pp b1 ∧ σ 4 = .int .i64 n ∧ Holds w (NL (.slice ar l.refs.length cr) l.refs :: NL (.slice aq l.recs.length cq) l.recs :: J l.refs :: pts b1 (row 101 [.int .i64 l.fixed, .slice ar l.refs.length cr, .int .i64 l.record, .slice aq l.recs.length cq]) :: pts b2 (row 3 [.int .i64 c]) :: fr)) ?_ ?_
  · refine C_block ?_
    refine C_loop (fun ms σ w z => ms = [] ∧ ∃ i : Nat, i ≤ l.refs.length ∧ z = l.refs.length - i ∧ σ 0 = .func (.yield yl) #[] #[] ∧ σ 1 = pp b1 ∧ σ 4 = .int .i64 n ∧ σ 20 = .slice ar l.refs.length cr ∧ σ 21 = .int .i64 l.refs.length ∧ σ 22 = .int .i64 i ∧ Holds w (NL (.slice ar l.refs.length cr) l.refs :: NL (.slice aq l.recs.length cq) l.recs :: J (l.refs.take i) :: pts b1 (row 101 [.int .i64 l.fixed, .slice ar l.refs.length cr, .int .i64 l.record, .slice aq l.recs.length cq]) :: pts b2 (row 3 [.int .i64 c]) :: fr)) (m := l.refs.length) ⟨rfl, 0, by omega, rfl, rfl, rfl, rfl, rfl, rfl, rfl, H⟩ ?_
    clear H
    rintro ms σ w z ⟨rfl, i, hi, rfl, g0, g1, g4, g20, g21, g22, H⟩
    rw [upd_self g0, upd_self g1, upd_self g4, upd_self g20, upd_self g21, upd_self g22]
    refine J25 H ?_
    refine C_dec rfl (fun h => C_skip ?_) (fun h => C_exit ?_)
    · have hlt : i < l.refs.length := by omega
      have hn := List.getElem?_eq_getElem hlt
      have htk : l.refs.take (i + 1) = l.refs.take i ++ [l.refs[i]] := by rw [List.take_add_one, hn]; rfl
      have hdr : l.refs = l.refs.take i ++ l.refs[i] :: l.refs.drop (i + 1) := split_at hn
      generalize l.refs[i] = p at hn htk hdr
      obtain ⟨bT, sT, rfl, H, hcl⟩ := sls_open H (by omega)
      refine J58 H ?_
      refine Lp_s rfl (St_indexAddr rfl rfl (by omega) (by omega) rfl ?_)
      refine Lp_s rfl (St_load1 H rfl (ncells_get hn) rfl ?_)
      refine J0 H ?_
      replace H := hcl _ _ H
      replace H := Js [2,0,0,0,0] 0 H
      refine J5 H ?_
      refine Lp_s rfl (St_yield rfl rfl (SL.Yields.mono (hy (l.refs.take i) p _ _ ⟨l.refs.drop (i + 1) ++ (List.range c).flatMap (recOf l), by unfold slotsC; rw [show l.refs.take i ++ p :: (l.refs.drop (i + 1) ++ (List.range c).flatMap (recOf l)) = (l.refs.take i ++ p :: l.refs.drop (i + 1)) ++ (List.range c).flatMap (recOf l) by simp, ← hdr]⟩ H) ?_))
      clear H; rintro v w ⟨rfl, H⟩
      refine J20 H ?_
      replace H := Js [1,1,0,0,0] 0 H
      refine J3 H ?_
      rw [← htk] at H
      exact ⟨_, ⟨rfl, i + 1, hlt, rfl, rfl, rfl, rfl, rfl, rfl, inc64 (by omega), H⟩, by omega⟩
    · have hge : i = l.refs.length := by omega
      subst hge
      rw [List.take_length] at H
      exact ⟨rfl, rfl, rfl, rfl, rfl, H⟩
  clear H
  rintro ms σ w ⟨rfl, g0, g1, g4, H⟩
  rw [upd_self g0, upd_self g1, upd_self g4]
  refine J71 H ?_
  refine J24 H ?_
  refine C_join (fun ms σ w => ms = [] ∧ Holds w (NL (.slice ar l.refs.length cr) l.refs :: NL (.slice aq l.recs.length cq) l.recs :: J (slotsC l c) :: pts b1 (row 101 [.int .i64 l.fixed, .slice ar l.refs.length cr, .int .i64 l.record, .slice aq l.recs.length cq]) :: pts b2 (row 3 [.int .i64 c]) :: fr)) ?_ ?_
  · refine C_block ?_
    refine C_loop (fun ms σ w z => ms = [] ∧ ∃ i A : Nat, i ≤ c ∧ A = l.fixed + i * l.record ∧ z = c - i ∧ σ 0 = .func (.yield yl) #[] #[] ∧ σ 1 = pp b1 ∧ σ 4 = .int .i64 n ∧ σ 8 = .int .i64 A ∧ Holds w (NL (.slice ar l.refs.length cr) l.refs :: NL (.slice aq l.recs.length cq) l.recs :: J (slotsC l i) :: pts b1 (row 101 [.int .i64 l.fixed, .slice ar l.refs.length cr, .int .i64 l.record, .slice aq l.recs.length cq]) :: pts b2 (row 3 [.int .i64 c]) :: fr)) (m := c) ⟨rfl, 0, l.fixed, by omega, by omega, rfl, rfl, rfl, rfl, rfl, by unfold slotsC; rw [List.range_zero, List.flatMap_nil, List.append_nil]; exact H⟩ ?_
    clear H
    rintro ms σ w z ⟨rfl, i, A, hi, hA, rfl, g0, g1, g4, g8, H⟩
    rw [upd_self g0, upd_self g1, upd_self g4, upd_self g8]
    refine J5 H ?_
    refine J24 H ?_
    refine C_dec rfl (fun h => C_skip ?_) (fun h => C_exit ?_)
    · have hic : i < c := by
        refine Nat.lt_of_not_le fun hle => ?_
        have := Nat.mul_le_mul_right l.record hle
        omega
      have hb : A + l.record ≤ n := by
        have := Nat.mul_le_mul_right l.record (Nat.succ_le_of_lt hic)
        rw [Nat.succ_mul] at this
        omega
      have hAl : A < 8192 := by omega
      have hsucc : slotsC l (i + 1) = slotsC l i ++ recOf l i := by
        unfold slotsC
        rw [List.range_succ, List.flatMap_append, List.append_assoc]
        simp
      have hpre : ∃ t, slotsC l c = slotsC l i ++ recOf l i ++ t := by
        rw [← hsucc]
        unfold slotsC
        refine ⟨((List.range (c - (i + 1))).map (i + 1 + ·)).flatMap (recOf l), ?_⟩
        rw [List.append_assoc, ← List.flatMap_append, ← List.range_add, show i + 1 + (c - (i + 1)) = c by omega]
      obtain ⟨tl, hpre⟩ := hpre
      refine J12 H ?_
      refine C_join (fun ms σ w => ms = [] ∧ σ 0 = .func (.yield yl) #[] #[] ∧ σ 1 = pp b1 ∧ σ 4 = .int .i64 n ∧ σ 8 = .int .i64 A ∧ Holds w (NL (.slice ar l.refs.length cr) l.refs :: NL (.slice aq l.recs.length cq) l.recs :: J (slotsC l (i + 1)) :: pts b1 (row 101 [.int .i64 l.fixed, .slice ar l.refs.length cr, .int .i64 l.record, .slice aq l.recs.length cq]) :: pts b2 (row 3 [.int .i64 c]) :: fr)) ?_ ?_
      · refine C_block ?_
        refine J71 H ?_
        refine Lp_s rfl (St_lenSlice rfl rfl ?_)
        refine J75 H ?_
        refine C_loop (fun ms σ w z => ms = [] ∧ ∃ j : Nat, j ≤ l.recs.length ∧ z = l.recs.length - j ∧ σ 0 = .func (.yield yl) #[] #[] ∧ σ 1 = pp b1 ∧ σ 4 = .int .i64 n ∧ σ 8 = .int .i64 A ∧ σ 41 = .slice aq l.recs.length cq ∧ σ 42 = .int .i64 l.recs.length ∧ σ 43 = .int .i64 j ∧ Holds w (NL (.slice ar l.refs.length cr) l.refs :: NL (.slice aq l.recs.length cq) l.recs :: J (slotsC l i ++ (l.recs.take j).map (l.fixed + i * l.record + ·)) :: pts b1 (row 101 [.int .i64 l.fixed, .slice ar l.refs.length cr, .int .i64 l.record, .slice aq l.recs.length cq]) :: pts b2 (row 3 [.int .i64 c]) :: fr)) (m := l.recs.length) ⟨rfl, 0, by omega, rfl, rfl, rfl, rfl, rfl, rfl, rfl, rfl, by rw [List.take_zero, List.map_nil, List.append_nil]; exact H⟩ ?_
        clear H
        rintro ms σ w z ⟨rfl, j, hj, rfl, g0, g1, g4, g8, g41, g42, g43, H⟩
        rw [upd_self g0, upd_self g1, upd_self g4, upd_self g8, upd_self g41, upd_self g42, upd_self g43]
        refine J25 H ?_
        refine C_dec rfl (fun h => C_skip ?_) (fun h => C_exit ?_)
        · have hlt : j < l.recs.length := by omega
          have hn := List.getElem?_eq_getElem hlt
          have htk : l.recs.take (j + 1) = l.recs.take j ++ [l.recs[j]] := by rw [List.take_add_one, hn]; rfl
          have hdr : l.recs = l.recs.take j ++ l.recs[j] :: l.recs.drop (j + 1) := split_at hn
          have hrl := hR.2.2.2.2.1 l.recs[j] (List.getElem_mem _)
          generalize l.recs[j] = p at hn htk hdr hrl
          replace H := Js [1,0,0,0,0] 0 H
          obtain ⟨bT, sT, rfl, H, hcl⟩ := sls_open H (by omega)
          refine J58 H ?_
          refine Lp_s rfl (St_indexAddr rfl rfl (by omega) (by omega) rfl ?_)
          refine Lp_s rfl (St_load1 H rfl (ncells_get hn) rfl ?_)
          refine J0 H ?_
          replace H := hcl _ _ H
          replace H := Js [2,0,0,0,0] 0 H
          refine J105 H ?_
          rw [wrap64 (x := (A : Int) + (p : Int)) (by omega) (by omega), show (A : Int) + (p : Int) = ((A + p : Nat) : Int) by omega]
          refine Lp_s rfl (St_yield rfl rfl (SL.Yields.mono (hy (slotsC l i ++ (l.recs.take j).map (l.fixed + i * l.record + ·)) (A + p) _ _ ⟨(l.recs.drop (j + 1)).map (l.fixed + i * l.record + ·) ++ tl, by
            rw [hpre]
            unfold recOf
            conv => lhs; rw [hdr]
            rw [hA]
            simp⟩ H) ?_))
          clear H; rintro v w ⟨rfl, H⟩
          refine J20 H ?_
          replace H := Js [2,1,0,0,0] 0 H
          refine J3 H ?_
          have e4 : slotsC l i ++ (l.recs.take j).map (l.fixed + i * l.record + ·) ++ [A + p] = slotsC l i ++ (l.recs.take (j + 1)).map (l.fixed + i * l.record + ·) := by rw [htk, hA]; simp
          rw [e4] at H
          exact ⟨_, ⟨rfl, j + 1, hlt, rfl, rfl, rfl, rfl, rfl, rfl, rfl, inc64 (by omega), H⟩, by omega⟩
        · have hge : j = l.recs.length := by omega
          subst hge
          rw [List.take_length] at H
          have e5 : slotsC l i ++ l.recs.map (l.fixed + i * l.record + ·) = slotsC l (i + 1) := hsucc.symm
          rw [e5] at H
          exact ⟨rfl, rfl, rfl, rfl, rfl, rfl, H⟩
      clear H
      rintro ms σ w ⟨rfl, g0, g1, g4, g8, H⟩
      rw [upd_self g0, upd_self g1, upd_self g4, upd_self g8]
      refine J172 H ?_
      refine J4 H ?_
      refine ⟨_, ⟨rfl, i + 1, A + l.record, hic, by rw [hA, Nat.succ_mul]; omega, rfl, rfl, rfl, rfl, ?_, H⟩, by omega⟩
      show Value.int .i64 (IntKind.i64.wrap ((A : Int) + (l.record : Int))) = _
      rw [wrap64 (by omega) (by omega)]
      rfl
    · have hge : i = c := by
        refine Nat.le_antisymm hi (Nat.le_of_not_lt fun hlt => ?_)
        have hrp : 0 < l.record := Nat.pos_of_ne_zero (z5 (by omega))
        have := Nat.mul_lt_mul_of_pos_right hlt hrp
        omega
      subst hge
      exact ⟨rfl, rfl, H⟩
  clear H
  rintro ms σ w ⟨rfl, H⟩
  replace H := Js [2,2,2,0,0] 0 H
  exact fn_end0 _ (.inl rfl) H rfl fun w' H' => H'
end Go.Proofs.YtcaaojbnjfdglaaGreatDoor
namespace Go.Proofs.YtcaaojbnjfdglaaGreatDoor
open Go.SL

def placesL (l : Lay) (n : Nat) : List Nat := (List.range n).filter (isRefL l)
theorem places_at {l : Lay} {n p : Nat} {a t : List Nat} (h : placesL l n = a ++ p :: t) : p < n ∧ isRefL l p = true := by
  have : p ∈ placesL l n := by rw [h]; simp
  unfold placesL at this
  rw [List.mem_filter, List.mem_range] at this
  exact this
/-- An image, and what its references are. -/
structure LkOK (ls : List Lay) (size : Nat) (own : List Nat) (addr i c s n : Nat) (l : Lay) (lk : Nat → Lnk) (mem : List Nat) : Prop where
  img : ImgAt ls size mem own addr i c s n l
  link : ∀ p, p < n → isRefL l p = true → okL (lk p) ∧ mem.getD (addr + 1 + p) 0 = wordL (lk p)

theorem Links_spec [Extra] (ip : Nat) (addr : Nat) {w : World} {fr : List HProp} (H : Holds w fr) :
    Calls Tryz.prog 84 #[pp ip, .int .i64 addr] w (ret fun v w' => ∃ b1 b2, v = .func (.func 142) #[] #[pp b1, pp b2] ∧ Holds w' (pts b1 (row 83 [pp ip]) :: pts b2 (row 3 [.int .i64 addr]) :: fr)) := by
  refine calls_of Tryz.func84 rfl (by kernel_rfl) ?_
  refine J43 H ?_
  clear H; intro b2 w H
  refine J94 H ?_
  clear H; intro b3 w H
  refine J22 H ?_
  exact C_ret (Jy H.swap rfl fun w' H' => ⟨b2, b3, rfl, H'⟩)

theorem LinksIter [Extra] (yl bm ba ip sp bp size : Nat) (ls : List Lay) (own : List Nat) (addr i c s n : Nat) (l : Lay) (lk : Nat → Lnk) (F : List Nat → Prop) (hF : ∀ mem, F mem → LkOK ls size own addr i c s n l lk mem) (J : List Nat → HProp)
    (hy : ∀ (ks : List Nat) (p : Nat) (mem : List Nat) (rest : List HProp) (w : World), F mem → (∃ t, placesL l n = ks ++ p :: t) → Holds w (J ks :: IMG ip sp bp :: BOOK bp ls :: ST sp size mem own :: rest) →
      SL.Yields Tryz.prog yl #[.int .i64 p, lkv (lk p)] w (fun v w' => v = .bool true ∧ ∃ mem', F mem' ∧ Holds w' (J (ks ++ [p]) :: IMG ip sp bp :: BOOK bp ls :: ST sp size mem' own :: rest)))
    {mem : List Nat} (hm : F mem) {w : World} {fr : List HProp} (H : Holds w (J [] :: pts bm (row 83 [pp ip]) :: pts ba (row 3 [.int .i64 addr]) :: IMG ip sp bp :: BOOK bp ls :: ST sp size mem own :: fr)) :
    Calls Tryz.prog 142 #[.func (.yield yl) #[] #[], pp bm, pp ba] w (ret fun _ w' => ∃ mem', F mem' ∧ Holds w' (J (placesL l n) :: pts bm (row 83 [pp ip]) :: pts ba (row 3 [.int .i64 addr]) :: IMG ip sp bp :: BOOK bp ls :: ST sp size mem' own :: fr)) := by
  have hR := (hF _ hm).img.right
  have hz := (hF _ hm).img.siz
  refine calls_of Tryz.func142 rfl (by kernel_rfl) ?_
  refine J43 H ?_
  clear H; intro b3 w H
  refine J114 H ?_
  refine J258 H ?_
  refine J180 H ?_
  replace H := Js [4,4,4,0,0,0,0] 0 H
  refine J64 H ?_
  refine J62 H ?_
  refine Jc rfl rfl (ifind_spec ip sp bp size ls mem own addr i c s n l (hF _ hm).img H) ?_
  clear H; rintro v w ⟨vr, vq, rfl, H⟩
  obtain ⟨ar, cr, rfl⟩ := sls_slice H (ncells_length _) (by decide)
  obtain ⟨aq, cq, rfl⟩ := sls_slice H.drop (ncells_length _) (by decide)
  refine J160 H ?_
  refine J19 H ?_
  clear H; intro b4 w H
  refine J19 H ?_
  clear H; intro b5 w H
  refine J7 H ?_
  clear H; intro w H
  refine J7 H ?_
  clear H; intro w H
  refine J4 H ?_
  refine J233 H ?_
  refine J29 H ?_
  refine Jc rfl rfl (Slots_spec _ _ l c rfl rfl H) ?_
  clear H; rintro v w ⟨b1, b2, rfl, H⟩
  refine J153 H ?_
  refine C_block (C_rangeFunc (a := []) (b := [pp b1, pp b2]) H rfl (fun yl2 D w H => ?_))
  generalize hL : LR _ yl2 _ _ _ _ D .ready = L at H ⊢
  obtain ⟨J2, hJ2⟩ : ∃ J2 : List Nat → HProp, J2 = fun ks => ex fun mem' : List Nat => star [prop (F mem'), L, J ks, pts bm (row 83 [pp ip]), pts ba (row 3 [.int .i64 addr]), pts b3 (row 233 [.func (.yield yl) #[] #[]]), IMG ip sp bp, BOOK bp ls, ST sp size mem' own] := ⟨_, rfl⟩
  have hin : ∀ (ks : List Nat) (mem' : List Nat) (w : World) (l' : List HProp), F mem' → Holds w (L :: J ks :: pts bm (row 83 [pp ip]) :: pts ba (row 3 [.int .i64 addr]) :: pts b3 (row 233 [.func (.yield yl) #[] #[]]) :: IMG ip sp bp :: BOOK bp ls :: ST sp size mem' own :: l') → Holds w (J2 ks :: l') := by
    intro ks mem' w l' h H
    rw [hJ2]
    exact Holds.ex.2 ⟨mem', Holds.star.2 (Holds.prop.2 ⟨h, H⟩)⟩
  have hout : ∀ (ks : List Nat) (w : World) (l' : List HProp), Holds w (J2 ks :: l') → ∃ mem', F mem' ∧ Holds w (L :: J ks :: pts bm (row 83 [pp ip]) :: pts ba (row 3 [.int .i64 addr]) :: pts b3 (row 233 [.func (.yield yl) #[] #[]]) :: IMG ip sp bp :: BOOK bp ls :: ST sp size mem' own :: l') := by
    intro ks w l' H
    rw [hJ2] at H
    obtain ⟨mem', H⟩ := Holds.ex.1 H
    exact ⟨mem', Holds.prop.1 (Holds.star.1 H)⟩
  replace H := Js [0,11,11,11,10,7,7,7,1,1,3,3,0] 2 H
  replace H := hin [] mem _ _ hm H
  refine call (SlotsIter yl2 b1 b2 _ _ l hR c hz J2 ?_ H) ?_
  · clear H
    intro ks p rest w hpre H
    obtain ⟨mem', hm', H⟩ := hout _ _ _ H
    obtain ⟨t, hpre⟩ := hpre
    obtain ⟨hpn, hpr⟩ := places_at hpre
    have hpl : placeE l n (p : Int) true = 0 := by
      unfold placeE
      rw [if_neg (by omega), Int.toNat_natCast, if_neg (by rw [hpr]; decide)]
    have hyy := fun (w : World) (rest : List HProp) => hy ks p mem' rest w hm' ⟨t, hpre⟩
    obtain ⟨a1, a2, a3, hkv⟩ := lkv_agg (lk p)
    rw [hkv] at hyy
    subst hL
    refine Yields_of (args := [.int .i64 p]) H rfl rfl ?_
    refine J14 H ?_
    refine ⟨rfl, _, H, fun w H => C_block ?_⟩
    replace H := Js [5,5,5,0,0,0,0,0] 0 H
    refine J64 H ?_
    refine J62 H ?_
    refine J9 H ?_
    refine Jc rfl rfl (Follow_spec ip sp bp size ls mem' own addr i c s n l (hF _ hm').img p (lk p) (fun _ => by rw [Int.toNat_natCast]; exact (hF _ hm').link p hpn hpr) (fun h => absurd hpl h) H) ?_
    clear H; rintro v w ⟨rfl, H⟩
    rw [hpl, hkv]
    refine J21 H ?_
    clear H; intro b9 w H
    refine J7 H ?_
    clear H; intro w H
    refine J0 H ?_
    replace H := Js [5,1,1,1,1,1,1,1,0] 0 H
    refine J190 H ?_
    refine J54 H ?_
    refine Lp_s rfl (St_yield rfl rfl (SL.Yields.mono (hyy _ _ H) ?_))
    clear H
    rintro v w ⟨rfl, mem'', hm'', H⟩
    refine J20 H ?_
    replace H := Js [4,0,3,3,3,0,0,0] 1 H
    exact ⟨rfl, _, H, fun w H => ⟨rfl, hin _ _ _ _ hm'' H⟩⟩
  · clear H
    rintro v w H
    obtain ⟨mem', hm', H⟩ := hout _ _ _ H
    subst hL
    refine ⟨_, H, fun w H => ?_⟩
    replace H := Js [11,0,0,0,1,1,1] 5 H
    exact fn_end (ms := [D]) _ (.inl rfl) ((Holds.star (k := [pts D (.deferred (some []))])).2 H) rfl fun w' H' => ⟨mem', hm', H'⟩

/-! ### A slot that is not used -/
def Used (ts : List Slt) (i : Int) : Prop := ∃ (k n : Nat) (e : Ent), i = k ∧ ts[k]? = some ⟨n, some e⟩
end Go.Proofs.YtcaaojbnjfdglaaGreatDoor
namespace Go.Proofs.YtcaaojbnjfdglaaGreatDoor
open Go.SL

def lkE (e : Ent) (p : Nat) : Lnk := lnkOf (e.ws.getD p 0)
theorem lkOK_of {s : CS} (h : WF s) {mem : List Nat} (m : MemOK s mem) {k g : Nat} {e : Ent} (hk : s.tab[k]? = some ⟨g, some e⟩) : LkOK s.lays s.size s.own e.addr e.lay e.count k e.ws.length (layE s e) (lkE e) mem :=
  ⟨img_of h m hk, fun p hp hr => by
    have h1 := link_of h hk hp hr
    exact ⟨h1.1, by rw [word_of h m hk hp]; exact h1.2⟩⟩
end Go.Proofs.YtcaaojbnjfdglaaGreatDoor
namespace Go.Proofs.YtcaaojbnjfdglaaGreatDoor
open Go.SL

/-- A reference of an object, to another region's object. -/
def Far (s : CS) (r : Int × Int) (t : Int) : Prop := ∃ (k p g : Nat) (e : Ent) (a b : Nat) (f : Ent), r = ((k : Int), (p : Int)) ∧ s.tab[k]? = some ⟨g, some e⟩ ∧ p < e.ws.length ∧ isRefL (layE s e) p = true ∧ lkE e p = .obj a b ∧ lookT s.tab a b = some (a, f) ∧ f.region ≠ e.region ∧ t = a
structure Inv (s : CS) : Prop where
  nd : (s.rem.map (·.1)).Nodup
  rem : ∀ r t, fnd s.rem r = some t ↔ Far s r t
  link : ∀ (k g : Nat) (e : Ent) (p a b : Nat), s.tab[k]? = some ⟨g, some e⟩ → p < e.ws.length → isRefL (layE s e) p = true → lkE e p = .obj a b → ∃ f, lookT s.tab a b = some (a, f)

theorem lookT_self {ts : List Slt} {a b c : Nat} {f : Ent} (h : lookT ts a b = some (c, f)) : c = a ∧ ts[a]? = some ⟨b, some f⟩ := by
  obtain ⟨n, h1, h2, h3⟩ := lookT_some.1 h
  obtain rfl : c = a := by omega
  obtain rfl : n = b := by omega
  exact ⟨rfl, h3⟩
/-- What one looks at: the same regions, layouts, links. -/
structure SameL (s : CS) (k g : Nat) (e e' : Ent) : Prop where
  at' : s.tab[k]? = some ⟨g, some e⟩
  region : e'.region = e.region
  lay : e'.lay = e.lay
  len : e'.ws.length = e.ws.length
theorem lookT_setE {s : CS} {k g : Nat} {e e' : Ent} (h : s.tab[k]? = some ⟨g, some e⟩) (a b : Nat) : lookT (setE s k g e').tab a b = (lookT s.tab a b).map fun q => if q.1 = k then (k, e') else q := by
  have hkl := (List.getElem?_eq_some_iff.1 h).1
  cases hl : lookT s.tab a b with
  | some q =>
    obtain ⟨c, f⟩ := q
    obtain ⟨rfl, hc⟩ := lookT_self hl
    by_cases hk : c = k
    · subst hk
      rw [h] at hc
      injection hc with hc
      injection hc with h1 h2
      subst h1
      show _ = some (if c = c then (c, e') else _)
      rw [if_pos rfl]
      exact lookT_some.2 ⟨g, rfl, rfl, List.getElem?_set_self hkl⟩
    · show _ = some (if c = k then (k, e') else (c, f))
      rw [if_neg hk]
      exact lookT_some.2 ⟨b, rfl, rfl, by show (s.tab.set k _)[c]? = _; rw [List.getElem?_set_ne (Ne.symm hk)]; exact hc⟩
  | none =>
    show _ = none
    cases hl2 : lookT (setE s k g e').tab a b with
    | none => rfl
    | some q =>
      obtain ⟨c, f⟩ := q
      obtain ⟨rfl, hc⟩ := lookT_self hl2
      have hc : (s.tab.set k ⟨g, some e'⟩)[c]? = some ⟨b, some f⟩ := hc
      rcases tab_set hc with ⟨rfl, h2, _⟩ | ⟨_, h2⟩
      · injection h2 with h2 _
        subst h2
        rw [lookT_some.2 ⟨b, rfl, rfl, h⟩] at hl
        cases hl
      · rw [lookT_some.2 ⟨b, rfl, rfl, h2⟩] at hl
        cases hl
theorem link_setE {s : CS} {k g : Nat} {e e' : Ent} (h : SameL s k g e e') {a b : Nat} : (∃ f, lookT (setE s k g e').tab a b = some (a, f)) ↔ ∃ f, lookT s.tab a b = some (a, f) := by
  rw [lookT_setE h.at']
  constructor
  · rintro ⟨f, hf⟩
    rw [Option.map_eq_some_iff] at hf
    obtain ⟨⟨c, f'⟩, h1, _⟩ := hf
    obtain ⟨rfl, _⟩ := lookT_self h1
    exact ⟨f', h1⟩
  · rintro ⟨f, hf⟩
    rw [hf]
    by_cases hk : a = k
    · exact ⟨e', by show some (if a = k then (k, e') else (a, f)) = _; rw [if_pos hk, hk]⟩
    · exact ⟨f, by show some (if a = k then (k, e') else (a, f)) = _; rw [if_neg hk]⟩
/-- .. of a region. -/
theorem reg_setE {s : CS} {k g : Nat} {e e' : Ent} (h : SameL s k g e e') {a b : Nat} {P : Int → Prop} : (∃ f, lookT (setE s k g e').tab a b = some (a, f) ∧ P f.region) ↔ ∃ f, lookT s.tab a b = some (a, f) ∧ P f.region := by
  rw [lookT_setE h.at']
  constructor
  · rintro ⟨f, hf, hp⟩
    rw [Option.map_eq_some_iff] at hf
    obtain ⟨⟨c, f'⟩, h1, h2⟩ := hf
    obtain ⟨rfl, h3⟩ := lookT_self h1
    refine ⟨f', h1, ?_⟩
    by_cases hk : c = k
    · subst hk
      rw [if_pos rfl] at h2
      injection h2 with _ h2
      subst h2
      rw [h.at'] at h3
      injection h3 with h3
      injection h3 with _ h3
      injection h3 with h3
      subst h3
      rw [h.region] at hp
      exact hp
    · rw [if_neg hk] at h2
      injection h2 with _ h2
      subst h2
      exact hp
  · rintro ⟨f, hf, hp⟩
    rw [hf]
    by_cases hk : a = k
    · subst hk
      obtain ⟨_, h3⟩ := lookT_self hf
      rw [h.at'] at h3
      injection h3 with h3
      injection h3 with _ h3
      injection h3 with h3
      subst h3
      exact ⟨e', by show some (if a = a then (a, e') else (a, e)) = _; rw [if_pos rfl], by rw [h.region]; exact hp⟩
    · exact ⟨f, by show some (if a = k then (k, e') else (a, f)) = _; rw [if_neg hk], hp⟩
/-- An entry that changed, but for nothing that is looked at. -/
theorem inv_same {s : CS} (hI : Inv s) {k g : Nat} {e e' : Ent} (h : SameL s k g e e') (hl : ∀ p, p < e.ws.length → isRefL (layE s e) p = true → lkE e' p = lkE e p) : Inv (setE s k g e') := by
  have hkl := (List.getElem?_eq_some_iff.1 h.at').1
  have hlay : ∀ f, layE (setE s k g e') f = layE s f := fun _ => rfl
  have hle : layE s e' = layE s e := by unfold layE; rw [h.lay]
  refine ⟨hI.nd, fun r t => ?_, ?_⟩
  · show fnd s.rem r = some t ↔ _
    rw [hI.rem]
    constructor
    · rintro ⟨j, p, g1, e1, a, b, f, rfl, h1, h2, h3, h4, h5, h6, rfl⟩
      obtain ⟨f', h5', h6'⟩ := (reg_setE (P := fun r => r ≠ e1.region) h).2 ⟨f, h5, h6⟩
      by_cases hj : j = k
      · subst hj
        rw [h.at'] at h1
        injection h1 with h1
        injection h1 with h0 h1
        injection h1 with h1
        subst h0 h1
        exact ⟨j, p, g, e', a, b, f', rfl, List.getElem?_set_self hkl, by rw [h.len]; exact h2, by rw [hlay, hle]; exact h3, by rw [hl p h2 h3]; exact h4, h5', by rw [h.region]; exact h6', rfl⟩
      · exact ⟨j, p, g1, e1, a, b, f', rfl, by show (s.tab.set k _)[j]? = _; rw [List.getElem?_set_ne (Ne.symm hj)]; exact h1, h2, h3, h4, h5', h6', rfl⟩
    · rintro ⟨j, p, g1, e1, a, b, f, rfl, h1, h2, h3, h4, h5, h6, rfl⟩
      have h1 : (s.tab.set k ⟨g, some e'⟩)[j]? = some ⟨g1, some e1⟩ := h1
      obtain ⟨f', h5', h6'⟩ := (reg_setE (P := fun r => r ≠ e1.region) h).1 ⟨f, h5, h6⟩
      rcases tab_set h1 with ⟨rfl, h7, _⟩ | ⟨_, h7⟩
      · injection h7 with h0 h7
        injection h7 with h7
        subst h0 h7
        rw [hlay, hle] at h3
        rw [h.len] at h2
        rw [hl p h2 h3] at h4
        rw [h.region] at h6'
        exact ⟨j, p, g1, e, a, b, f', rfl, h.at', h2, h3, h4, h5', h6', rfl⟩
      · exact ⟨j, p, g1, e1, a, b, f', rfl, h7, h2, h3, h4, h5', h6', rfl⟩
  · intro j g1 e1 p a b h1 h2 h3 h4
    have h1 : (s.tab.set k ⟨g, some e'⟩)[j]? = some ⟨g1, some e1⟩ := h1
    rw [link_setE h]
    rcases tab_set h1 with ⟨rfl, h7, _⟩ | ⟨_, h7⟩
    · injection h7 with h0 h7
      injection h7 with h7
      subst h0 h7
      rw [hlay, hle] at h3
      rw [h.len] at h2
      rw [hl p h2 h3] at h4
      exact hI.link j g1 e p a b h.at' h2 h3 h4
    · exact hI.link j g1 e1 p a b h7 h2 h3 h4
end Go.Proofs.YtcaaojbnjfdglaaGreatDoor
namespace Go.Proofs.YtcaaojbnjfdglaaGreatDoor
open Go.SL

theorem far_same {s : CS} {k g : Nat} {e e' : Ent} (h : SameL s k g e e') {r : Int × Int} {t : Int} (hl : ∀ p : Nat, r = ((k : Int), (p : Int)) → lkE e' p = lkE e p) : Far (setE s k g e') r t ↔ Far s r t := by
  have hkl := (List.getElem?_eq_some_iff.1 h.at').1
  have hlay : ∀ f, layE (setE s k g e') f = layE s f := fun _ => rfl
  have hle : layE s e' = layE s e := by unfold layE; rw [h.lay]
  constructor
  · rintro ⟨j, p, g1, e1, a, b, f, rfl, h1, h2, h3, h4, h5, h6, rfl⟩
    have h1 : (s.tab.set k ⟨g, some e'⟩)[j]? = some ⟨g1, some e1⟩ := h1
    obtain ⟨f', h5', h6'⟩ := (reg_setE (P := fun r => r ≠ e1.region) h).1 ⟨f, h5, h6⟩
    rcases tab_set h1 with ⟨rfl, h7, _⟩ | ⟨_, h7⟩
    · injection h7 with h0 h7
      injection h7 with h7
      subst h0 h7
      rw [hlay, hle] at h3
      rw [h.len] at h2
      rw [hl p rfl] at h4
      rw [h.region] at h6'
      exact ⟨j, p, g1, e, a, b, f', rfl, h.at', h2, h3, h4, h5', h6', rfl⟩
    · exact ⟨j, p, g1, e1, a, b, f', rfl, h7, h2, h3, h4, h5', h6', rfl⟩
  · rintro ⟨j, p, g1, e1, a, b, f, rfl, h1, h2, h3, h4, h5, h6, rfl⟩
    obtain ⟨f', h5', h6'⟩ := (reg_setE (P := fun r => r ≠ e1.region) h).2 ⟨f, h5, h6⟩
    by_cases hj : j = k
    · subst hj
      rw [h.at'] at h1
      injection h1 with h1
      injection h1 with h0 h1
      injection h1 with h1
      subst h0 h1
      exact ⟨j, p, g, e', a, b, f', rfl, List.getElem?_set_self hkl, by rw [h.len]; exact h2, by rw [hlay, hle]; exact h3, by rw [hl p rfl]; exact h4, h5', by rw [h.region]; exact h6', rfl⟩
    · exact ⟨j, p, g1, e1, a, b, f', rfl, by show (s.tab.set k _)[j]? = _; rw [List.getElem?_set_ne (Ne.symm hj)]; exact h1, h2, h3, h4, h5', h6', rfl⟩
theorem lkE_set {e : Ent} {p q x : Nat} (h : q ≠ p) : lkE { e with ws := e.ws.set p x } q = lkE e q := by
  unfold lkE
  show lnkOf ((e.ws.set p x).getD q 0) = _
  rw [List.getD_eq_getElem?_getD, List.getElem?_set_ne (Ne.symm h), List.getD_eq_getElem?_getD]
theorem lkE_new {e : Ent} {p : Nat} {l : Lnk} (hl : okL l) (hp : p < e.ws.length) : lkE { e with ws := e.ws.set p (wordL l) } p = l := by
  unfold lkE
  show lnkOf ((e.ws.set p (wordL l)).getD p 0) = _
  rw [List.getD_eq_getElem?_getD, List.getElem?_set_self hp, Option.getD_some, lnkOf_word hl]
theorem inv_word {s : CS} (hI : Inv s) {k g p x : Nat} {e : Ent} (hk : s.tab[k]? = some ⟨g, some e⟩) (hr : isRefL (layE s e) p = false) : Inv (setE s k g { e with ws := e.ws.set p x }) :=
  inv_same (e' := { e with ws := e.ws.set p x }) hI ⟨hk, rfl, rfl, by show (e.ws.set p x).length = _; rw [List.length_set]⟩ fun q hq hrq => lkE_set (by rintro rfl; rw [hr] at hrq; cases hrq)
theorem inv_flags {s : CS} (hI : Inv s) {k g : Nat} {e e' : Ent} (hk : s.tab[k]? = some ⟨g, some e⟩) (h1 : e'.region = e.region) (h2 : e'.lay = e.lay) (h3 : e'.ws = e.ws) : Inv (setE s k g e') :=
  inv_same hI ⟨hk, h1, h2, by rw [h3]⟩ fun q _ _ => by unfold lkE; rw [h3]

theorem nodup_noteR {s : CS} (h : (s.rem.map (·.1)).Nodup) (k : Nat) (e : Ent) (p : Int) (l : Lnk) : ((noteR s k e p l).map (·.1)).Nodup := by
  unfold noteR
  repeat' split
  · exact nodup_ins (nodup_era h)
  · exact nodup_era h
  · exact nodup_era h
  · exact nodup_era h
theorem fnd_noteR {s : CS} (h : (s.rem.map (·.1)).Nodup) {k : Nat} {e : Ent} {p : Int} {l : Lnk} {r : Int × Int} (hr : r ≠ ((k : Int), p)) : fnd (noteR s k e p l) r = fnd s.rem r := by
  have h1 : fnd (era s.rem ((k : Int), p)) r = fnd s.rem r := by rw [fnd_era h, if_neg (Ne.symm hr)]
  unfold noteR
  repeat' split
  · rw [fnd_ins, if_neg (Ne.symm hr), h1]
  · exact h1
  · exact h1
  · exact h1
theorem fnd_noteS {s : CS} (h : (s.rem.map (·.1)).Nodup) {k : Nat} {e : Ent} {p : Int} {l : Lnk} {t : Int} : fnd (noteR s k e p l) ((k : Int), p) = some t ↔ ∃ (a b : Nat) (f : Ent), l = .obj a b ∧ lookT s.tab a b = some (a, f) ∧ f.region ≠ e.region ∧ t = a := by
  have h1 : fnd (era s.rem ((k : Int), p)) ((k : Int), p) = none := by rw [fnd_era h, if_pos rfl]
  cases l with
  | none => rw [show noteR s k e p .none = era s.rem ((k : Int), p) from rfl, h1]; exact ⟨fun h => (by cases h), fun ⟨_, _, _, h, _⟩ => (by cases h)⟩
  | grave => rw [show noteR s k e p .grave = era s.rem ((k : Int), p) from rfl, h1]; exact ⟨fun h => (by cases h), fun ⟨_, _, _, h, _⟩ => (by cases h)⟩
  | obj a b =>
    cases hl : lookT s.tab a b with
    | none =>
      rw [noteR_stale hl, h1]
      refine ⟨fun h => (by cases h), ?_⟩
      rintro ⟨a', b', f, h2, h3, _⟩
      injection h2 with h2 h2'
      subst h2 h2'
      rw [hl] at h3
      cases h3
    | some q =>
      obtain ⟨c, f⟩ := q
      obtain ⟨rfl, _⟩ := lookT_self hl
      rw [noteR_live hl]
      split
      · rename_i hne
        rw [fnd_ins, if_pos rfl]
        constructor
        · intro h2
          injection h2 with h2
          exact ⟨c, b, f, rfl, hl, hne, h2.symm⟩
        · rintro ⟨a', b', f', h2, h3, h4, rfl⟩
          injection h2 with h2 h2'
          rw [h2]
      · rename_i hne
        rw [h1]
        refine ⟨fun h => (by cases h), ?_⟩
        rintro ⟨a', b', f', h2, h3, h4, rfl⟩
        injection h2 with h2 h2'
        subst h2 h2'
        rw [hl] at h3
        injection h3 with h3
        injection h3 with _ h3
        subst h3
        exact absurd h4 hne
theorem inv_tie {s : CS} (hI : Inv s) {k g p : Nat} {e : Ent} {l : Lnk} (hk : s.tab[k]? = some ⟨g, some e⟩) (hp : p < e.ws.length) (hr : isRefL (layE s e) p = true) (hl : okL l) (ht : ∀ a b, l = .obj a b → ∃ f, lookT s.tab a b = some (a, f)) :
    Inv { setE s k g { e with ws := e.ws.set p (wordL l) } with rem := noteR (setE s k g { e with ws := e.ws.set p (wordL l) }) k { e with ws := e.ws.set p (wordL l) } p l } := by
  have hlen : ({ e with ws := e.ws.set p (wordL l) } : Ent).ws.length = e.ws.length := by show (e.ws.set p _).length = _; rw [List.length_set]
  have hS : SameL s k g e { e with ws := e.ws.set p (wordL l) } := ⟨hk, rfl, rfl, hlen⟩
  have hkl := (List.getElem?_eq_some_iff.1 hk).1
  have hle : layE s { e with ws := e.ws.set p (wordL l) } = layE s e := rfl
  refine ⟨nodup_noteR (s := setE s k g _) hI.nd _ _ _ _, fun r t => ?_, ?_⟩
  · show fnd (noteR _ k _ p l) r = some t ↔ Far (setE s k g _) r t
    by_cases hrp : r = ((k : Int), (p : Int))
    · subst hrp
      rw [fnd_noteS (s := setE s k g _) hI.nd]
      constructor
      · rintro ⟨a, b, f, rfl, h1, h2, rfl⟩
        exact ⟨k, p, g, _, a, b, f, rfl, List.getElem?_set_self hkl, by rw [hlen]; exact hp, hr, lkE_new hl hp, h1, h2, rfl⟩
      · rintro ⟨j, q, g1, e1, a, b, f, hq, h1, h2, h3, h4, h5, h6, rfl⟩
        injection hq with hq1 hq2
        obtain rfl : k = j := by omega
        obtain rfl : p = q := by omega
        replace h1 : (s.tab.set k _)[k]? = some ⟨g1, some e1⟩ := h1
        rw [List.getElem?_set_self hkl] at h1
        injection h1 with h1
        injection h1 with h0 h1
        injection h1 with h1
        subst h0 h1
        rw [lkE_new hl hp] at h4
        exact ⟨a, b, f, h4, h5, h6, rfl⟩
    · rw [fnd_noteR (s := setE s k g _) hI.nd hrp, far_same hS fun q hq => lkE_set (by rintro rfl; exact hrp hq)]
      exact hI.rem r t
  · intro j g1 e1 q a b h1 h2 h3 h4
    have h1 : (s.tab.set k _)[j]? = some ⟨g1, some e1⟩ := h1
    show ∃ f, lookT (setE s k g _).tab a b = _
    rw [link_setE hS]
    rcases tab_set h1 with ⟨rfl, h7, _⟩ | ⟨_, h7⟩
    · injection h7 with h0 h7
      injection h7 with h7
      subst h0 h7
      by_cases hq : q = p
      · subst hq
        rw [lkE_new hl hp] at h4
        exact ht a b h4
      · rw [lkE_set hq] at h4
        exact hI.link j g1 e q a b hk (by rw [← hlen]; exact h2) h3 h4
    · exact hI.link j g1 e1 q a b h7 h2 h3 h4
theorem inv_setWS {s : CS} (hI : Inv s) (i g p : Int) (x : Nat) : Inv (setWS s i g p x).1 := by
  cases hv : validT s.tab i g with
  | none => rw [setWS_none hv]; exact hI
  | some q =>
    obtain ⟨k, e⟩ := q
    obtain ⟨n, rfl, rfl, hk, _⟩ := valid_at hv
    rw [setWS_some hv]
    split
    · rename_i h0
      obtain ⟨j, rfl, hj, hr⟩ := placeE_ok h0
      exact inv_word hI hk hr
    · exact hI
theorem inv_dropS {s : CS} (hI : Inv s) (i g : Int) : Inv (dropS s i g).1 := by
  cases hv : validT s.tab i g with
  | none => rw [dropS_none hv]; exact hI
  | some q =>
    obtain ⟨k, e⟩ := q
    obtain ⟨n, rfl, rfl, hk, _⟩ := valid_at hv
    rw [dropS_some hv, Int.toNat_natCast]
    exact inv_flags hI hk rfl rfl rfl
theorem inv_pinS {s : CS} (hI : Inv s) (i g : Int) (on : Bool) : Inv (pinS s i g on).1 := by
  cases hv : validT s.tab i g with
  | none => rw [pinS_none hv]; exact hI
  | some q =>
    obtain ⟨k, e⟩ := q
    obtain ⟨n, rfl, rfl, hk, _⟩ := valid_at hv
    rw [pinS_some hv]
    split
    · exact hI
    · rw [Int.toNat_natCast]
      exact inv_flags hI hk rfl rfl rfl
theorem inv_tieS {s : CS} (hI : Inv s) (i g p : Int) {l : Lnk} (hl : okL l) (ht : ∀ a b, l = .obj a b → ∃ f, lookT s.tab a b = some (a, f)) : Inv (tieS s i g p l).1 := by
  cases hv : validT s.tab i g with
  | none => rw [tieS_none hv]; exact hI
  | some q =>
    obtain ⟨k, e⟩ := q
    obtain ⟨n, rfl, rfl, hk, _⟩ := valid_at hv
    rw [tieS_some hv]
    split
    · rename_i h0
      obtain ⟨j, rfl, hj, hr⟩ := placeE_ok h0
      exact inv_tie hI hk hj hr hl ht
    · exact hI
theorem inv_TieS {s : CS} (hw : WF s) (hI : Inv s) (i g p u v : Int) : Inv (TieS s i g p u v).1 := by
  unfold TieS
  split
  · exact hI
  · split
    · exact hI
    · rename_i _ hn
      cases hv : validT s.tab u v with
      | none => rw [hv] at hn; exact absurd rfl hn
      | some q =>
        obtain ⟨k, e⟩ := q
        obtain ⟨n, rfl, rfl, hk, _⟩ := valid_at hv
        refine inv_tieS hI i g p (okT_of hw hk) fun a b hab => ?_
        injection hab with h1 h2
        rw [Int.toNat_natCast] at h1 h2
        subst h1 h2
        exact ⟨e, lookT_some.2 ⟨n, rfl, rfl, hk⟩⟩
theorem inv_refS {s : CS} (hI : Inv s) (i g p : Int) : Inv (refS s i g p) := by
  unfold refS
  split
  · rename_i a b _
    cases hl : lookT s.tab a b with
    | none => rw [holdS_none hl]; exact hI
    | some q =>
      obtain ⟨k, e⟩ := q
      obtain ⟨n, h1, h2, hk⟩ := lookT_some.1 hl
      obtain rfl : b = n := by omega
      rw [holdS_some hl]
      exact inv_flags hI hk rfl rfl rfl
  · exact hI
theorem inv_lays {s : CS} (hw : WF s) (hI : Inv s) (x : Lay) : Inv { s with lays := s.lays ++ [x] } := by
  have hle : ∀ (k g : Nat) (e : Ent), s.tab[k]? = some ⟨g, some e⟩ → layE { s with lays := s.lays ++ [x] } e = layE s e := by
    intro k g e hk
    obtain ⟨⟨_, l, h1, _⟩, _⟩ := hw.obj k g e hk
    show ((s.lays ++ [x])[e.lay - 1]?).getD _ = _
    unfold layE
    rw [List.getElem?_append_left (List.getElem?_eq_some_iff.1 h1).1]
  refine ⟨hI.nd, fun r t => ?_, fun j g1 e1 q a b h1 h2 h3 h4 => hI.link j g1 e1 q a b h1 h2 (by rw [hle _ _ _ h1] at h3; exact h3) h4⟩
  show fnd s.rem r = some t ↔ _
  rw [hI.rem]
  constructor
  · rintro ⟨j, p, g1, e1, a, b, f, rfl, h1, h2, h3, h4⟩
    exact ⟨j, p, g1, e1, a, b, f, rfl, h1, h2, by rw [hle _ _ _ h1]; exact h3, h4⟩
  · rintro ⟨j, p, g1, e1, a, b, f, rfl, h1, h2, h3, h4⟩
    rw [hle _ _ _ h1] at h3
    exact ⟨j, p, g1, e1, a, b, f, rfl, h1, h2, h3, h4⟩
theorem inv_defS {s : CS} (hw : WF s) (hI : Inv s) (ws : List Nat) : Inv (defS s ws).1 := by
  cases hd : decodeL ws with
  | none => rw [defS_none hd]; exact hI
  | some l =>
    rw [defS_some hd]
    split
    · exact hI
    · exact inv_lays hw hI l
theorem inv_openS {s : CS} (hI : Inv s) (q : Int) (b b2 : Nat) : Inv (openS s q b b2) := ⟨hI.nd, hI.rem, hI.link⟩
/-- Of an object more nothing is remembered. -/
theorem inv_more {s s' : CS} (hI : Inv s) {k g0 n : Nat} {e0 : Ent} (hk : s.tab[k]? = some ⟨g0, none⟩) (h1 : s'.lays = s.lays) (h2 : s'.rem = s.rem) (h3 : s'.tab = s.tab.set k ⟨g0 + 1, some e0⟩) (h0 : e0.ws = List.replicate n 0) : Inv s' := by
  have hkl := (List.getElem?_eq_some_iff.1 hk).1
  have hle : ∀ e, layE s' e = layE s e := fun e => by unfold layE; rw [h1]
  have hz : ∀ p, lkE e0 p = .none := fun p => by
    unfold lkE
    rw [h0, List.getD_eq_getElem?_getD, List.getElem?_replicate]
    split <;> rfl
  have hup : ∀ {a b : Nat} {f : Ent}, lookT s.tab a b = some (a, f) → lookT s'.tab a b = some (a, f) := fun {a b f} hf => by
    obtain ⟨_, hf'⟩ := lookT_self hf
    refine lookT_some.2 ⟨b, rfl, rfl, ?_⟩
    rw [h3, List.getElem?_set_ne (by rintro rfl; rw [hk] at hf'; cases hf')]
    exact hf'
  have hat : ∀ {j g1 : Nat} {e1 : Ent}, s.tab[j]? = some ⟨g1, some e1⟩ → s'.tab[j]? = some ⟨g1, some e1⟩ := fun {j g1 e1} hj => by
    rw [h3, List.getElem?_set_ne (by rintro rfl; rw [hk] at hj; cases hj)]
    exact hj
  refine ⟨by rw [h2]; exact hI.nd, fun r t => ?_, ?_⟩
  · rw [h2, hI.rem]
    constructor
    · rintro ⟨j, p, g1, e1, a, b, f, rfl, q1, q2, q3, q4, q5, q6, rfl⟩
      exact ⟨j, p, g1, e1, a, b, f, rfl, hat q1, q2, by rw [hle]; exact q3, q4, hup q5, q6, rfl⟩
    · rintro ⟨j, p, g1, e1, a, b, f, rfl, q1, q2, q3, q4, q5, q6, rfl⟩
      rw [h3] at q1
      rcases tab_set q1 with ⟨rfl, q7, _⟩ | ⟨_, q7⟩
      · injection q7 with _ q7
        injection q7 with q7
        subst q7
        rw [hz] at q4
        cases q4
      · rw [hle] at q3
        obtain ⟨f', hf'⟩ := hI.link j g1 e1 p a b q7 q2 q3 q4
        have h5 := hup hf'
        rw [q5] at h5
        injection h5 with h5
        injection h5 with _ h5
        subst h5
        exact ⟨j, p, g1, e1, a, b, f, rfl, q7, q2, q3, q4, hf', q6, rfl⟩
  · intro j g1 e1 p a b q1 q2 q3 q4
    rw [h3] at q1
    rcases tab_set q1 with ⟨rfl, q7, _⟩ | ⟨_, q7⟩
    · injection q7 with _ q7
      injection q7 with q7
      subst q7
      rw [hz] at q4
      cases q4
    · rw [hle] at q3
      obtain ⟨f', hf'⟩ := hI.link j g1 e1 p a b q7 q2 q3 q4
      exact ⟨f', hup hf'⟩
/-- Where nothing is nothing is remembered. -/
theorem inv_empty {s : CS} (h1 : s.rem = []) (h2 : ∀ (k g : Nat) (e : Ent), s.tab[k]? ≠ some ⟨g, some e⟩) : Inv s :=
  ⟨by rw [h1]; exact List.nodup_nil, fun r t => ⟨fun h => (by rw [h1] at h; cases h), fun ⟨k, p, g, e, _, _, _, _, h, _⟩ => absurd h (h2 k g e)⟩, fun k g e _ _ _ h => absurd h (h2 k g e)⟩
theorem no_free {n : Nat} (k g : Nat) (e : Ent) : (List.replicate n (⟨0, none⟩ : Slt))[k]? ≠ some ⟨g, some e⟩ := by
  intro h
  rw [List.getElem?_replicate] at h
  split at h
  · injection h with h
    injection h with _ h
    cases h
  · cases h
end Go.Proofs.YtcaaojbnjfdglaaGreatDoor
namespace Go.SL
section
variable {P : Program} {n : Nat} {r : Option Nat} {ops : Array Oper} {σ : Env} {w : World}
variable {ivs : List (List Nat × (World → Prop))} {T : Env → World → Prop} {f : Nat} {L : Array Bool}
variable {u : TypeId} {p : String} {af : Array Edge} {g : Option (Nat × Bool)} {d : Option Tmp} {x y : Operand}
end
end Go.SL
namespace Go.Proofs.YtcaaojbnjfdglaaGreatDoor
open Go.SL

def shapeT (ts : List Slt) : List (Nat × Bool) := ts.map fun t => (t.gen, t.ent.isSome)
theorem shape_set {ts : List Slt} {k g : Nat} {e e' : Ent} (h : ts[k]? = some ⟨g, some e⟩) : shapeT (ts.set k ⟨g, some e'⟩) = shapeT ts := by
  unfold shapeT
  rw [List.map_set]
  apply List.ext_getElem?
  intro i
  rw [List.getElem?_set]
  split
  · rename_i hi
    subst hi
    have := (List.getElem?_eq_some_iff.1 h).1
    rw [List.getElem?_map, h]
    simp [this]
  · rfl
/-- What an act leaves: no slot is another's, but of what is made. -/
structure Step (s : CS) (m : MS) (told : List (Nat × Nat)) (s' : CS) (m' : MS) (told' : List (Nat × Nat)) : Prop where
  P : m'.P.length ≤ m.P.length + 1
  objs : m'.objs.length ≤ m.objs.length + 1
  tab : (told' = told ∧ shapeT s'.tab = shapeT s.tab) ∨ ∃ k g0 : Nat, told' = told ++ [(k, g0 + 1)] ∧ s.tab[k]? = some ⟨g0, none⟩ ∧ (∀ (j : Nat) (t : Slt), j < k → s.tab[j]? = some t → busy t = true) ∧ shapeT s'.tab = (shapeT s.tab).set k (g0 + 1, true)
  inv : Inv s → Inv s'

/-- What Make does, in its four cases. -/
def Made (s : CS) (region id count : Int) (i g e : Nat) (s' : CS) : Prop :=
  (makeE s region id count ≠ 0 ∧ i = 0 ∧ g = 0 ∧ e = makeE s region id count ∧ s' = s) ∨
  (makeE s region id count = 0 ∧ (∀ t ∈ s.tab, busy t = true) ∧ i = 0 ∧ g = 0 ∧ e = 12 ∧ s' = s) ∨
  (makeE s region id count = 0 ∧ (∀ a, a + (makeN s id count / s.size + 1) ≤ s.own.length → ∃ i, a ≤ i ∧ i < a + (makeN s id count / s.size + 1) ∧ s.own.getD i 0 ≠ 0) ∧ i = 0 ∧ g = 0 ∧ e = 11 ∧ s' = s) ∨
  (makeE s region id count = 0 ∧ e = 0 ∧ ∃ g0 addr, s.tab[i]? = some ⟨g0, none⟩ ∧ g0 ≤ 254 ∧ (∀ (j : Nat) (t : Slt), j < i → s.tab[j]? = some t → busy t = true) ∧ g = g0 + 1 ∧
    s'.size = s.size ∧ s'.lays = s.lays ∧ s'.last = s.last ∧ s'.par = s.par ∧ s'.rem = s.rem ∧ s'.tab = s.tab.set i ⟨g0 + 1, some ⟨addr, region, true, false, id.toNat, count.toNat, List.replicate (makeN s id count) 0⟩⟩ ∧ Grows s.own s'.own (makeN s id count / s.size + 1))
theorem eql_pair (x y : Int × Int) : (if isEql BinOp.eql = true then decide (x = y) else !decide (x = y)) = decide (x = y) := if_pos rfl
theorem Make_all [Extra] (p : Nat) (s : CS) (region id count : Int) (hseq : Seq s) {w : World} {fr : List HProp} [hT : HasTab 0 Lib.deBruijn64tab fr] (H : Holds w (CELL p s :: fr)) :
    Calls Tryz.prog 29 #[pp p, .int .i64 region, .int .i64 id, .int .i64 count] w (ret fun v w' => ∃ i g e s', v = .tuple #[tkn i g, .int .i64 (e : Nat)] ∧ Made s region id count i g e s' ∧ Holds w' (CELL p s' :: fr)) := by
  refine call (Make_spec p s region id count hseq H) ?_
  rintro v w (⟨h1, rfl, H⟩ | ⟨h1, h2, rfl, H⟩ | ⟨h1, h2, rfl, H⟩ | ⟨h1, k, g0, addr, s', h2, h3, h4, rfl, h5, h6, h7, h8, h9, h10, h11, H⟩)
  · exact ⟨0, 0, makeE s region id count, s, rfl, .inl ⟨h1, rfl, rfl, rfl, rfl⟩, H⟩
  · exact ⟨0, 0, 12, s, rfl, .inr (.inl ⟨h1, h2, rfl, rfl, rfl, rfl⟩), H⟩
  · exact ⟨0, 0, 11, s, rfl, .inr (.inr (.inl ⟨h1, h2, rfl, rfl, rfl, rfl⟩)), H⟩
  · exact ⟨k, g0 + 1, 0, s', rfl, .inr (.inr (.inr ⟨h1, rfl, g0, addr, h2, h3, h4, rfl, h5, h6, h7, h8, h9, h10, h11⟩)), H⟩

theorem made_spec [Extra] (p c mo : Nat) (a : Option Addr) (cap : Nat) (s : CS) (m : MS) (told : List (Nat × Nat)) (R : Rel s m told) (hseq : Seq s) (hfew : m.objs.length < 100000) (k A B C X i g : Int) (kX : IntKind) (vW : Value) (raw : Bool) (hvW : vW.oneCell' = true) {w : World} {fr : List HProp} [hT : HasTab 0 Lib.deBruijn64tab fr]
    (H : Holds w (RROW p c mo (.slice a told.length cap) :: CELL c s :: MODEL mo m :: TKL (.slice a told.length cap) told :: fr)) :
    Calls Tryz.prog 48 #[pp p, .agg #[.int .i64 k, .int .i64 A, .int .i64 B, .int .i64 C, .int .u64 X, vW, .bool raw, .int .i64 i, .int .i64 g]] w (ret fun v w' => v = .bool true ∧ ∃ s' m' told' a' cap', Rel s' m' told' ∧ Step s m told s' m' told' ∧ Holds w' (RROW p c mo (.slice a' told'.length cap') :: CELL c s' :: MODEL mo m' :: TKL (.slice a' told'.length cap') told' :: fr)) := by
  refine calls_of Tryz.func48 rfl (by kernel_rfl) ?_
  refine J6 H ?_
  clear H; intro b3 w H
  refine J24 H ?_
  refine C_join (fun ms σ w => ms = [] ∧ ∃ (b5 i' g' e : Nat) (s' : CS), Made s A B C i' g' e s' ∧ σ 0 = pp p ∧ σ 3 = pp b3 ∧ σ 5 = pp b5 ∧ σ 6 = .int .i64 e ∧ Holds w (pts b5 (row 32 [.int .i64 i', .int .i64 g']) :: pts b3 (row 34 [.int .i64 k, .int .i64 A, .int .i64 B, .int .i64 C, .int .u64 X, vW, .bool raw, .int .i64 i, .int .i64 g]) :: RROW p c mo (.slice a told.length cap) :: CELL c s' :: MODEL mo m :: TKL (.slice a told.length cap) told :: fr)) ?_ ?_
  · replace H := Js [2,0,0,0,0] 0 H
    refine J1 H ?_
    clear H; intro w H
    refine J15 H ?_
    refine A_load1 3 [10, 15] H rfl (Wants.none rfl) rfl rfl (by kernel_rfl) ?_
    refine J44 H ?_
    refine A_load1 5 [10, 15] H rfl (Wants.none rfl) rfl rfl (by kernel_rfl) ?_
    refine J72 H ?_
    refine A_load1 7 [10, 15] H rfl (Wants.none rfl) rfl rfl (by kernel_rfl) ?_
    refine J128 H ?_
    refine A_load1 9 [10, 15] H rfl (Wants.none rfl) rfl rfl (by kernel_rfl) ?_
    refine A_two 10 14 rfl rfl (by kernel_rfl) (by repeat first | exact .nil | refine .cons (.inr H.at) ?_ | refine .cons (.inr H.mp) ?_ | refine .cons (.inl (by kernel_rfl)) ?_) (Wants.none rfl) (Wants.none rfl) (St_call (a := []) (b := []) rfl rfl (call (Make_all c s A B C hseq H) ?_)) (St_alloc H rfl ?_)
    · clear H; rintro v w ⟨i', g', e, s', rfl, hM, H⟩
      refine J179 H ?_
      refine J56 H ?_
      refine Jo 14 H ?_
      refine St_alloc H rfl ?_
      clear H; intro b5 w H
      refine Jo 15 H ?_
      refine J40 H ?_
      clear H; intro w H
      refine J107 H ?_
      refine J2 H ?_
      replace H := Js [0,1,1,0,0,0] 0 H
      exact ⟨rfl, rfl, b5, i', g', e, s', hM, rfl, rfl, rfl, rfl, H⟩
    · clear H; intro b5 w H
      refine Jo 10 H ?_
      refine Jk rfl rfl (Make_all c s A B C hseq H.swap) ?_
      clear H; rintro v w ⟨i', g', e, s', rfl, hM, H⟩
      refine J179 H ?_
      refine J56 H ?_
      refine Jo 15 H ?_
      refine J40 H ?_
      clear H; intro w H
      refine J107 H ?_
      refine J2 H ?_
      replace H := Js [1,1,1,0,0,0] 0 H
      exact ⟨rfl, rfl, b5, i', g', e, s', hM, rfl, rfl, rfl, rfl, H⟩
  clear H
  rintro ms σ w ⟨rfl, b5, i', g', e, s', hM, g0, g3, g5, g6, H⟩
  rw [upd_self g0, upd_self g3, upd_self g5, upd_self g6]
  obtain ⟨hm1, hm2⟩ := may_law R A B C
  replace H := Js [4,0,0,0,0,0] 0 H
  refine J1 H ?_
  clear H; intro w H
  refine J15 H ?_
  refine A_load1 3 [10] H rfl (Wants.none rfl) rfl rfl (by kernel_rfl) ?_
  refine J44 H ?_
  refine A_load1 5 [10] H rfl (Wants.none rfl) rfl rfl (by kernel_rfl) ?_
  refine J72 H ?_
  refine A_load1 7 [10] H rfl (Wants.none rfl) rfl rfl (by kernel_rfl) ?_
  refine J128 H ?_
  refine A_load1 9 [10] H rfl (Wants.none rfl) rfl rfl (by kernel_rfl) ?_
  refine Jo 10 H ?_
  refine Jk rfl rfl (May15_spec mo m A B C H) ?_
  clear H; rintro v w ⟨rfl, H⟩
  refine J179 H ?_
  refine J150 H ?_
  refine J23 H ?_
  rcases hM with ⟨h1, rfl, rfl, rfl, rfl⟩ | ⟨h1, h2, rfl, rfl, rfl, rfl⟩ | ⟨h1, h2, rfl, rfl, rfl, rfl⟩ | ⟨h1, rfl, g0', addr, h2, h3, h4, rfl, h5, h6, h7, h8, h9, h10, h11⟩
  · have hw' : (mayM m A B C).2 ≠ 0 := by rw [← hm1]; exact h1
    refine J17 H ?_
    rw [show ((((mayM m A B C).2 : Nat) : Int) != 0) = true by rw [bne_iff_ne]; omega]
    refine J11 H ?_
    refine J10 H ?_
    rw [show ((((makeE s' A B C : Nat) : Int)) == (((mayM m A B C).2 : Nat) : Int)) = true by rw [hm1]; exact beq_self_eq_true _]
    refine J9 H ?_
    refine J115 H ?_
    refine Lp_g rfl rfl rfl (St_eqPair rfl rfl (.inl rfl) rfl ?_)
    refine J4 H ?_
    replace H := Js [3,3,0,2] 2 H
    exact C_ret (Jy H rfl fun w' H' => ⟨rfl, s', m, told, a, cap, R, ⟨by omega, by omega, .inl ⟨rfl, rfl⟩, id⟩, H'⟩)
  · have hw' : (mayM m A B C).2 = 0 := by rw [← hm1]; exact h1
    rw [hw']
    refine J77 H ?_
    refine J17 H ?_
    refine J11 H ?_
    replace H := Js [4,0,0,0,0,0] 0 H
    obtain ⟨q, mem, hw, hm, H⟩ := CELL_out H
    replace H := Js [4,0,0,0,0,0,0,0,0,0,0,0,0,0,0,0] 0 H
    refine J256 H ?_
    refine Jc rfl rfl (Left_spec q.tp s'.tab H) ?_
    clear H; rintro v w ⟨rfl, H⟩
    have hbt : s'.tab.length - busyT s'.tab = 0 := by
      unfold busyT
      rw [List.filter_eq_self.2 h2, Nat.sub_self]
    rw [hbt]
    refine J28 H ?_
    refine J115 H ?_
    refine Lp_g rfl rfl rfl (St_eqPair rfl rfl (.inl rfl) rfl ?_)
    refine J4 H ?_
    replace H := Js [1,1,1,1,0,0,0,0,0,0,0,0,0,0,0,0] 0 H
    replace H := CELL_in hw hm H
    replace H := Js [4,0,0,2] 2 H
    exact C_ret (Jy H rfl fun w' H' => ⟨rfl, s', m, told, a, cap, R, ⟨by omega, by omega, .inl ⟨rfl, rfl⟩, id⟩, H'⟩)
  · have hw' : (mayM m A B C).2 = 0 := by rw [← hm1]; exact h1
    have hn := hm2 hw'
    rw [hw', ← hn]
    refine J77 H ?_
    refine J77 H ?_
    refine J17 H ?_
    refine J11 H ?_
    replace H := Js [4,0,0,0,0,0] 0 H
    obtain ⟨q, mem, hw, hm, H⟩ := CELL_out H
    replace H := Js [3,0,0,0,0,0,0,0,0,0,0,0,0,0,0,0] 0 H
    refine J256 H ?_
    refine Jc rfl rfl (Words_spec q.sp s'.size mem s'.own H) ?_
    clear H; rintro v w ⟨rfl, H⟩
    replace H := Js [1,1,1,0,0,0,0,0,0,0,0,0,0,0,0,0] 0 H
    replace H := CELL_in hw hm H
    refine J0 H ?_
    replace H := Js [4,0,0,0,0,0] 0 H
    have hsz := hw.size
    have hpos : s'.size > 0 := by omega
    have hmx : (if (1 : Int) > ((s'.size : Nat) : Int) then (1 : Int) else ((s'.size : Nat) : Int)) = ((s'.size : Nat) : Int) := by split <;> omega
    have hnlt : makeN s' B C < 100000 := by
      obtain ⟨r, la, c', l, _, _, _, _, _, e1, e2, e3⟩ := mayM_ok hw'
      rw [hn, e1, e2]
      show l.fixed + c' * l.record < _
      omega
    refine J1 H ?_
    clear H; intro w H
    refine A_loadN 0 [9, 12] H rfl (Wants.none rfl) rfl (by repeat (first | exact Reads.nil _ | apply Reads.cons rfl)) (by kernel_rfl) ?_
    refine A_build 1 rfl (Wants.none rfl) rfl (by kernel_rfl) ?_
    refine A_eqPair 2 rfl (Wants.none rfl) rfl rfl (.inl rfl) (by kernel_rfl) ?_
    rw [eql_pair, decide_eq_true (show (((0 : Nat) : Int), ((0 : Nat) : Int)) = ((0 : Int), (0 : Int)) from rfl)]
    refine J46 H ?_
    refine A_pv 4 rfl (Wants.of rfl rfl rfl) rfl (by kernel_rfl) ?_
    refine J188 H ?_
    rw [show decide ((s'.size : Int) > 0) = true from decide_eq_true (by omega)]
    refine J126 H ?_
    refine J189 H ?_
    refine A_pv 10 rfl (Wants.of rfl rfl rfl) rfl (by kernel_rfl) ?_
    refine J138 H ?_
    refine A_two 9 12 rfl rfl (by kernel_rfl) (by repeat first | exact .nil | refine .cons (.inr H.at) ?_ | refine .cons (.inr H.mp) ?_ | refine .cons (.inl (by kernel_rfl)) ?_) (Wants.of rfl rfl rfl) (Wants.of rfl rfl rfl) (St_call (a := []) (b := []) rfl rfl (call (run_spec p c mo _ s' H) ?_)) (St_max rfl rfl rfl ?_)
    · clear H; rintro v w ⟨bb, rfl, hfr, H⟩
      have hlt : bb < makeN s' B C / s'.size + 1 := by
        refine Nat.lt_of_not_le fun hle => ?_
        obtain ⟨a0, ha, hz⟩ := hfr
        obtain ⟨i0, hi1, hi2, hi3⟩ := h2 a0 (by omega)
        exact hi3 (hz i0 hi1 (by omega))
      have hdl : makeN s' B C / s'.size ≤ makeN s' B C := Nat.div_le_self _ _
      refine Jo 12 H ?_
      refine St_max rfl rfl rfl ?_
      rw [hmx]
      refine A_pv (v := .int .i64 ((makeN s' B C / s'.size : Nat) : Int)) 13 rfl (Wants.of rfl rfl rfl) (by
        show (if IntKind.i64 = IntKind.i64 then (if ((s'.size : Nat) : Int) = 0 then none else some (Value.int IntKind.i64 (IntKind.i64.wrap (Int.tdiv ((makeN s' B C : Nat) : Int) ((s'.size : Nat) : Int))))) else none) = _
        rw [if_pos rfl, if_neg (by omega), quoN (by omega)]) (by kernel_rfl) ?_
      refine J139 H ?_
      rw [inc64 (by omega)]
      refine A_pv 15 rfl (Wants.of rfl rfl rfl) rfl (by kernel_rfl) ?_
      rw [show decide ((bb : Int) < ((makeN s' B C / s'.size + 1 : Nat) : Int)) = true from decide_eq_true (by omega)]
      refine J107 H ?_
      refine J162 H ?_
      refine J2 H ?_
      replace H := Js [0,0,0,2] 2 H
      exact C_ret (Jy H rfl fun w' H' => ⟨rfl, s', m, told, a, cap, R, ⟨by omega, by omega, .inl ⟨rfl, rfl⟩, id⟩, H'⟩)
    · rw [hmx]
      have hdl : makeN s' B C / s'.size ≤ makeN s' B C := Nat.div_le_self _ _
      refine A_pv (v := .int .i64 ((makeN s' B C / s'.size : Nat) : Int)) 13 rfl (Wants.of rfl rfl rfl) (by
        show (if IntKind.i64 = IntKind.i64 then (if ((s'.size : Nat) : Int) = 0 then none else some (Value.int IntKind.i64 (IntKind.i64.wrap (Int.tdiv ((makeN s' B C : Nat) : Int) ((s'.size : Nat) : Int))))) else none) = _
        rw [if_pos rfl, if_neg (by omega), quoN (by omega)]) (by kernel_rfl) ?_
      refine J139 H ?_
      rw [inc64 (by omega)]
      refine Jo 9 H ?_
      refine Jk rfl rfl (run_spec p c mo _ s' H) ?_
      clear H; rintro v w ⟨bb, rfl, hfr, H⟩
      have hlt : bb < makeN s' B C / s'.size + 1 := by
        refine Nat.lt_of_not_le fun hle => ?_
        obtain ⟨a0, ha, hz⟩ := hfr
        obtain ⟨i0, hi1, hi2, hi3⟩ := h2 a0 (by omega)
        exact hi3 (hz i0 hi1 (by omega))
      refine A_pv 15 rfl (Wants.of rfl rfl rfl) rfl (by kernel_rfl) ?_
      rw [show decide ((bb : Int) < ((makeN s' B C / s'.size + 1 : Nat) : Int)) = true from decide_eq_true (by omega)]
      refine J107 H ?_
      refine J162 H ?_
      refine J2 H ?_
      replace H := Js [0,0,0,2] 2 H
      exact C_ret (Jy H rfl fun w' H' => ⟨rfl, s', m, told, a, cap, R, ⟨by omega, by omega, .inl ⟨rfl, rfl⟩, id⟩, H'⟩)
  · have hw' : (mayM m A B C).2 = 0 := by rw [← hm1]; exact h1
    rw [hw']
    obtain ⟨_, _, _, _, _, _, _, hmw, _⟩ := id (MODEL_out H)
    obtain ⟨hnew, R'⟩ := make_rel R hmw hw' h2 h6 h7 h8 h10
    have htl : told.length < 100000 := by rw [R.len]; exact hfew
    refine J77 H ?_
    refine J77 H ?_
    refine J77 H ?_
    refine J5 H ?_
    refine J20 H ?_
    replace H := Js [3,0,0,0,0,0] 0 H
    refine J157 H ?_
    replace H := Js [5,2,2,0,1,0] 0 H
    refine J23 H ?_
    refine C_loop (fun ms σ w q => ms = [] ∧ ∃ j : Nat, j ≤ told.length ∧ q = told.length - j ∧ σ 0 = pp p ∧ σ 3 = pp b3 ∧ σ 5 = pp b5 ∧ σ 102 = .slice a told.length cap ∧ σ 103 = .int .i64 told.length ∧ σ 104 = .int .i64 j ∧ Holds w (TKL (.slice a told.length cap) told :: pts b5 (row 32 [.int .i64 (i' : Nat), .int .i64 ((g0' + 1 : Nat) : Int)]) :: pts b3 (row 34 [.int .i64 k, .int .i64 A, .int .i64 B, .int .i64 C, .int .u64 X, vW, .bool raw, .int .i64 i, .int .i64 g]) :: RROW p c mo (.slice a told.length cap) :: CELL c s' :: MODEL mo m :: fr)) (m := told.length) ⟨rfl, 0, by omega, rfl, rfl, rfl, rfl, rfl, rfl, rfl, H⟩ ?_
    clear H
    rintro ms σ w q ⟨rfl, j, hj, rfl, g0, g3, g5, g102, g103, g104, H⟩
    rw [upd_self g0, upd_self g3, upd_self g5, upd_self g102, upd_self g103, upd_self g104]
    refine J25 H ?_
    refine C_dec rfl (fun h => C_skip ?_) (fun h => C_exit ?_)
    · have hlt : j < told.length := by omega
      have hn := List.getElem?_eq_getElem hlt
      generalize told[j] = xy at hn
      obtain ⟨x, y⟩ := xy
      obtain ⟨bT, sT, rfl, H, hcl⟩ := sls_open H (by omega)
      refine J58 H ?_
      refine Lp_s rfl (St_indexAddr rfl rfl (by omega) (by omega) rfl ?_)
      refine Lp_s rfl (St_loadN H rfl (tkc_reads hn) rfl ?_)
      refine J19 H ?_
      clear H; intro b11 w H
      refine J7 H ?_
      clear H; intro w H
      refine Lp_nil ?_
      refine J30 H ?_
      refine J54 H ?_
      refine Lp_s rfl (St_eqPair rfl rfl (.inl rfl) rfl ?_)
      refine Lp_nil ?_
      replace H := hcl _ _ H.drop
      refine C_dec (p := ((x : Int), (y : Int)) = (((i' : Nat) : Int), ((g0' + 1 : Nat) : Int))) rfl (fun he => ?_) (fun he => C_skip ?_)
      · exfalso
        injection he with e1 e2
        obtain rfl : x = i' := by omega
        obtain rfl : y = g0' + 1 := by omega
        exact hnew j hn
      · refine J3 H ?_
        exact ⟨_, ⟨rfl, j + 1, hlt, rfl, rfl, rfl, rfl, rfl, rfl, inc64 (by omega), H⟩, by omega⟩
    · replace H := Js [5,0,0,0,0,0] 0 H
      refine J1 H ?_
      clear H; intro w H
      refine J15 H ?_
      refine A_load1 3 [10] H rfl (Wants.none rfl) rfl rfl (by kernel_rfl) ?_
      refine J44 H ?_
      refine A_load1 5 [10] H rfl (Wants.none rfl) rfl rfl (by kernel_rfl) ?_
      refine J72 H ?_
      refine A_load1 7 [10] H rfl (Wants.none rfl) rfl rfl (by kernel_rfl) ?_
      refine J128 H ?_
      refine A_load1 9 [10] H rfl (Wants.none rfl) rfl rfl (by kernel_rfl) ?_
      refine Jo 10 H ?_
      refine Jk rfl rfl (Make15_spec mo m A B C hw' hfew H) ?_
      clear H; rintro v w ⟨rfl, H⟩
      refine J2 H ?_
      replace H := Js [1,1,2,0,0,0] 0 H
      refine J1 H ?_
      clear H; intro w H
      refine J170 H ?_
      refine A_load1 4 [7, 10] H rfl (Wants.none rfl) rfl rfl (by kernel_rfl) ?_
      refine J277 H ?_
      refine Jo 6 H ?_
      refine St_buildSlice H rfl rfl rfl ?_
      clear H; intro bS w H
      replace H := H.swap
      refine Jo 7 H ?_
      refine St_append H rfl rfl (by repeat (first | exact Reads.nil _ | apply Reads.cons rfl)) rfl (by decide) (by rw [tkc_length]; simp only [List.length_cons, List.length_nil]; omega) rfl rfl ?_
      clear H; intro vS w H
      have e1 : tkc told ++ [.int .i64 ((i' : Nat) : Int), .int .i64 ((g0' + 1 : Nat) : Int)] = tkc (told ++ [(i', g0' + 1)]) := by
        rw [tkc_append]; rfl
      rw [e1] at H
      obtain ⟨aS, cS, rfl⟩ := sls_slice H (m := (told ++ [(i', g0' + 1)]).length) (tkc_length _) (by decide)
      refine J84 H ?_
      refine A_fieldAddr 9 rfl (Wants.none rfl) rfl (by kernel_rfl) ?_
      refine Jo 10 H ?_
      refine J73 H ?_
      clear H; intro w H
      refine J2 H ?_
      refine J14 H ?_
      replace H := Js [3,5,3,0] 3 H
      refine C_ret (Jy H rfl fun w' H' => ⟨rfl, s', _, _, aS, cS, R', ⟨?_, ?_, .inr ⟨i', g0', rfl, h2, h4, ?_⟩, fun hI => inv_more hI h2 h6 h9 h10 rfl⟩, H'⟩)
      · show m.P.length ≤ _
        omega
      · show (m.objs ++ [_]).length ≤ _
        simp
      · rw [h10]
        unfold shapeT
        rw [List.map_set]
        rfl
end Go.Proofs.YtcaaojbnjfdglaaGreatDoor
namespace Go.Proofs.YtcaaojbnjfdglaaGreatDoor
open Go.SL

theorem shape_setWS (s : CS) (i g p : Int) (x : Nat) : shapeT (setWS s i g p x).1.tab = shapeT s.tab := by
  cases hv : validT s.tab i g with
  | none => rw [setWS_none hv]
  | some q =>
    obtain ⟨k, e⟩ := q
    obtain ⟨n, rfl, rfl, hk, _⟩ := valid_at hv
    rw [setWS_some hv]
    split
    · rw [Int.toNat_natCast]; exact shape_set hk
    · rfl
theorem shape_dropS (s : CS) (i g : Int) : shapeT (dropS s i g).1.tab = shapeT s.tab := by
  cases hv : validT s.tab i g with
  | none => rw [dropS_none hv]
  | some q =>
    obtain ⟨k, e⟩ := q
    obtain ⟨n, rfl, rfl, hk, _⟩ := valid_at hv
    rw [dropS_some hv, Int.toNat_natCast]
    exact shape_set hk
theorem shape_pinS (s : CS) (i g : Int) (on : Bool) : shapeT (pinS s i g on).1.tab = shapeT s.tab := by
  cases hv : validT s.tab i g with
  | none => rw [pinS_none hv]
  | some q =>
    obtain ⟨k, e⟩ := q
    obtain ⟨n, rfl, rfl, hk, _⟩ := valid_at hv
    rw [pinS_some hv]
    split
    · rfl
    · rw [Int.toNat_natCast]; exact shape_set hk
theorem shape_tieS (s : CS) (i g p : Int) (l : Lnk) : shapeT (tieS s i g p l).1.tab = shapeT s.tab := by
  cases hv : validT s.tab i g with
  | none => rw [tieS_none hv]
  | some q =>
    obtain ⟨k, e⟩ := q
    obtain ⟨n, rfl, rfl, hk, _⟩ := valid_at hv
    rw [tieS_some hv]
    split
    · rw [Int.toNat_natCast]; exact shape_set hk
    · rfl
theorem shape_TieS (s : CS) (i g p u v : Int) : shapeT (TieS s i g p u v).1.tab = shapeT s.tab := by
  unfold TieS
  split
  · rfl
  · split
    · rfl
    · exact shape_tieS s i g p _
theorem shape_refS (s : CS) (i g p : Int) : shapeT (refS s i g p).tab = shapeT s.tab := by
  unfold refS
  split
  · rename_i a b _
    cases hl : lookT s.tab a b with
    | none => rw [holdS_none hl]
    | some q =>
      obtain ⟨k, e⟩ := q
      obtain ⟨n, h1, h2, hk⟩ := lookT_some.1 hl
      obtain rfl : b = n := by omega
      rw [holdS_some hl]
      exact shape_set hk
  · rfl
theorem shape_defS (s : CS) (ws : List Nat) : shapeT (defS s ws).1.tab = shapeT s.tab := by
  cases hd : decodeL ws with
  | none => rw [defS_none hd]
  | some l =>
    rw [defS_some hd]
    split <;> rfl
theorem len_setM (m : MS) (k : Nat) (x : Mob) : (setM m k x).objs.length = m.objs.length := List.length_set
theorem objs_cutM (m : MS) (o p : Int) : (cutM m o p).1.objs.length = m.objs.length ∧ (cutM m o p).1.P = m.P := by
  unfold cutM
  split
  · exact ⟨rfl, rfl⟩
  · split
    · exact ⟨len_setM _ _ _, rfl⟩
    · exact ⟨rfl, rfl⟩
theorem objs_tieM (m : MS) (o p u : Int) : (tieM m o p u).1.objs.length = m.objs.length ∧ (tieM m o p u).1.P = m.P := by
  unfold tieM
  split
  · exact ⟨rfl, rfl⟩
  · split
    · split
      · exact ⟨rfl, rfl⟩
      · exact ⟨len_setM _ _ _, rfl⟩
    · exact ⟨rfl, rfl⟩
theorem objs_dropM (m : MS) (o : Int) : (dropM m o).1.objs.length = m.objs.length ∧ (dropM m o).1.P = m.P := by
  unfold dropM
  split
  · exact ⟨rfl, rfl⟩
  · exact ⟨len_setM _ _ _, rfl⟩
theorem objs_pinM (m : MS) (o : Int) (on : Bool) : (pinM m o on).1.objs.length = m.objs.length ∧ (pinM m o on).1.P = m.P := by
  unfold pinM
  split
  · exact ⟨rfl, rfl⟩
  · split
    · exact ⟨rfl, rfl⟩
    · exact ⟨len_setM _ _ _, rfl⟩
theorem objs_holdM (m : MS) (t : Nat) : (holdM m t).objs.length = m.objs.length ∧ (holdM m t).P = m.P := by
  unfold holdM
  split
  · exact ⟨len_setM _ _ _, rfl⟩
  · exact ⟨rfl, rfl⟩
theorem objs_refM (m : MS) (o p : Int) : (refM m o p).1.objs.length = m.objs.length ∧ (refM m o p).1.P = m.P := by
  unfold refM
  split
  · exact ⟨rfl, rfl⟩
  · split
    · show (if _ then _ else _ : MS).objs.length = _ ∧ (if _ then _ else _ : MS).P = _
      split
      · exact objs_holdM m _
      · exact ⟨rfl, rfl⟩
    · exact ⟨rfl, rfl⟩
theorem objs_setWM (m : MS) (o p : Int) (X : Nat) : (setWM m o p X).objs.length = m.objs.length ∧ (setWM m o p X).P = m.P := by
  unfold setWM
  split
  · exact ⟨rfl, rfl⟩
  · split
    · exact ⟨len_setM _ _ _, rfl⟩
    · exact ⟨rfl, rfl⟩
theorem objs_defM (m : MS) (ws : List Nat) : (defM m ws).1.objs = m.objs ∧ (defM m ws).1.P = m.P := by
  unfold defM
  split
  · exact ⟨rfl, rfl⟩
  · split <;> exact ⟨rfl, rfl⟩
theorem Step_eq {s s' : CS} {m m' : MS} {told : List (Nat × Nat)} (h1 : m'.objs.length = m.objs.length) (h2 : m'.P = m.P) (h3 : shapeT s'.tab = shapeT s.tab) (h4 : Inv s → Inv s' := by exact id) : Step s m told s' m' told := ⟨by rw [h2]; omega, by omega, .inl ⟨rfl, h3⟩, h4⟩
end Go.Proofs.YtcaaojbnjfdglaaGreatDoor
