/- Cells: what is proved on the way: every input of the statement; no condition. Texts joined: AudB OpnZ. -/
import Derived.Test.YtipelpbkeiphmaaGreatDoorAad
import Derived.Test.YtipelpbkeiphmaaGreatDoorAae
import Derived.Test.YtipelpbkeiphmaaGreatDoorRows
import Derived.Lib.SmallJoins
import Derived.Lib.LaidIn
import Derived.Stop.LaidErr
import Derived.Stop.Joined
import Derived.ChangeMaps5
import Derived.ChangeSlices
set_option linter.unusedVariables false
set_option linter.unusedSimpArgs false
set_option linter.unusedSectionVars false
namespace Go.Proofs.YtipelpbkeiphmaaGreatDoor
open Go.SL

theorem abs_list [Extra] {w : World} {l : List HProp} (H : Holds w l) : ∃ X, X = l ∧ Holds w X := ⟨l, rfl, H⟩
theorem abs_tail [Extra] {w : World} {a : HProp} {l : List HProp} (H : Holds w (a :: l)) : ∃ X, X = l ∧ Holds w (a :: X) := ⟨l, rfl, H⟩
theorem no_slot {n k g : Nat} {e : Ent} (h : (List.replicate n (⟨0, none⟩ : Slt))[k]? = some ⟨g, some e⟩) : False := by
  have := List.eq_of_mem_replicate (List.mem_of_getElem? h)
  cases this
theorem no_own (n j : Nat) : (List.replicate n 0).getD j 0 = 0 := by
  rw [List.getD_eq_getElem?_getD, List.getElem?_replicate]
  split <;> rfl
set_option maxRecDepth 10000 in
theorem Count_new [Extra] (h c : Nat) {w : World} {fr : List HProp} [hT : HasTab 0 Lib.deBruijn64tab fr] (H : Holds w (HEAP h c :: CELL c (sN 4 8 6) :: fr)) :
    Calls Tryz.prog 13 #[pp h] w (ret fun v w' => v = .tuple #[.agg #[.int .i64 4, .int .i64 4, .int .i64 6, .int .i64 0, .int .i64 0, .int .i64 0, .int .i64 0], .int .i64 0] ∧ Holds w' (HEAP h c :: CELL c (sN 4 8 6) :: fr)) := by
  refine calls_of Tryz.func13 rfl (by kernel_rfl) ?_
  refine J14 H ?_
  clear H; intro b1 w H
  refine Lp_s rfl (St_alloc H rfl ?_)
  clear H; intro b2 w H
  refine Lp_pv rfl rfl ?_
  refine Lp_nil ?_
  repeat refine C_seq ?_
  refine C_region ?_
  refine Lp_s rfl (St_load1 H rfl rfl rfl ?_)
  replace H := Js [2,0,0] 0 H
  refine Jc rfl rfl (none_yes h c H) ?_
  clear H; rintro v w ⟨rfl, H⟩
  refine J38 H ?_
  replace H := Js [3,0,0,0] 0 H
  obtain ⟨q, mem, hw, hm, H⟩ := CELL_out H
  replace H := Js [3,0,9,10,9,0,0,0,0,0,0,0,0,0] 0 H
  repeat refine C_seq ?_
  refine C_join (fun ms σ w => ms = [] ∧ ∃ b4, σ 1 = pp b1 ∧ σ 2 = pp b2 ∧ σ 4 = pp b4 ∧ Holds w (TAB q.tp (sN 4 8 6).tab :: pts b4 (row 30 [.int .i64 4, .int .i64 4, .int .i64 0, .int .i64 0, .int .i64 0, .int .i64 0, .int .i64 0]) :: TRE q.trp (sN 4 8 6).last (sN 4 8 6).par :: ST q.sp (sN 4 8 6).size mem (sN 4 8 6).own :: CROW c q :: HEAP h c :: pts b1 (row 22 [pp h]) :: pts b2 (row 30 [.int .i64 0, .int .i64 0, .int .i64 0, .int .i64 0, .int .i64 0, .int .i64 0, .int .i64 0]) :: IMG q.ip q.sp q.bp :: BOOK q.bp (sN 4 8 6).lays :: RS q.rp (sN 4 8 6).rem :: mp (ki .i64) ptrv q.sm ((sN 4 8 6).sps.map spkey) :: star ((sN 4 8 6).sps.map (spres q.sp)) :: mp (ki .i64) ptrv q.mm ((sN 4 8 6).mns.map mnkey) :: star ((sN 4 8 6).mns.map mnres) :: fr)) ?_ ?_
  · refine J19 H ?_
    clear H; intro w H
    refine A_load1 0 [] H rfl (Wants.none rfl) rfl rfl (by kernel_rfl) ?_
    refine A_pv 1 rfl (Wants.none rfl) rfl (by kernel_rfl) ?_
    refine J26 H ?_
    refine A_load1 3 [] H rfl (Wants.none rfl) rfl rfl (by kernel_rfl) ?_
    refine A_pv 4 rfl (Wants.none rfl) rfl (by kernel_rfl) ?_
    refine A_fieldAddr 5 rfl (Wants.none rfl) rfl (by kernel_rfl) ?_
    refine A_load1 6 [] H rfl (Wants.none rfl) rfl rfl (by kernel_rfl) ?_
    refine A_load1 8 [] H rfl (Wants.none rfl) rfl rfl (by kernel_rfl) ?_
    refine A_pv 9 rfl (Wants.none rfl) rfl (by kernel_rfl) ?_
    refine A_fieldAddr 10 rfl (Wants.none rfl) rfl (by kernel_rfl) ?_
    refine A_load1 11 [] H rfl (Wants.none rfl) rfl rfl (by kernel_rfl) ?_
    refine A_pv 12 rfl (Wants.none rfl) rfl (by kernel_rfl) ?_
    refine A_fieldAddr 13 rfl (Wants.none rfl) rfl (by kernel_rfl) ?_
    refine A_load1 14 [] H rfl (Wants.none rfl) rfl rfl (by kernel_rfl) ?_
    refine A_load1 16 [] H rfl (Wants.none rfl) rfl rfl (by kernel_rfl) ?_
    refine A_pv 17 rfl (Wants.none rfl) rfl (by kernel_rfl) ?_
    refine A_fieldAddr 18 rfl (Wants.none rfl) rfl (by kernel_rfl) ?_
    refine A_load1 19 [] H rfl (Wants.none rfl) rfl rfl (by kernel_rfl) ?_
    refine A_pv 20 rfl (Wants.none rfl) rfl (by kernel_rfl) ?_
    refine A_fieldAddr 21 rfl (Wants.none rfl) rfl (by kernel_rfl) ?_
    refine A_load1 22 [] H rfl (Wants.none rfl) rfl rfl (by kernel_rfl) ?_
    refine A_load1 24 [] H rfl (Wants.none rfl) rfl rfl (by kernel_rfl) ?_
    refine A_pv 25 rfl (Wants.none rfl) rfl (by kernel_rfl) ?_
    refine A_fieldAddr 26 rfl (Wants.none rfl) rfl (by kernel_rfl) ?_
    refine A_load1 27 [] H rfl (Wants.none rfl) rfl rfl (by kernel_rfl) ?_
    refine A_pv 28 rfl (Wants.none rfl) rfl (by kernel_rfl) ?_
    refine A_fieldAddr 29 rfl (Wants.none rfl) rfl (by kernel_rfl) ?_
    refine A_load1 30 [] H rfl (Wants.none rfl) rfl rfl (by kernel_rfl) ?_
    refine A_load1 32 [] H rfl (Wants.none rfl) rfl rfl (by kernel_rfl) ?_
    refine A_pv 33 rfl (Wants.none rfl) rfl (by kernel_rfl) ?_
    refine A_fieldAddr 34 rfl (Wants.none rfl) rfl (by kernel_rfl) ?_
    refine A_load1 35 [] H rfl (Wants.none rfl) rfl rfl (by kernel_rfl) ?_
    refine A_pv 36 rfl (Wants.none rfl) rfl (by kernel_rfl) ?_
    refine A_fieldAddr 37 rfl (Wants.none rfl) rfl (by kernel_rfl) ?_
    refine A_load1 38 [] H rfl (Wants.none rfl) rfl rfl (by kernel_rfl) ?_
    refine A_two 7 41 rfl rfl (by kernel_rfl) (by repeat first | exact .nil | refine .cons (.inr H.at) ?_ | refine .cons (.inr H.mp) ?_ | refine .cons (.inl (by kernel_rfl)) ?_) (Wants.none rfl) (Wants.none rfl) (St_call (a := []) (b := []) rfl rfl (call (Chunks_spec q.sp _ _ _ H) ?_)) (St_alloc H rfl ?_)
    · clear H; rintro v w ⟨hv, H⟩
      obtain rfl : v = .int .i64 4 := hv
      refine A_two 15 41 rfl rfl (by kernel_rfl) (by repeat first | exact .nil | refine .cons (.inr H.at) ?_ | refine .cons (.inr H.mp) ?_ | refine .cons (.inl (by kernel_rfl)) ?_) (Wants.none rfl) (Wants.none rfl) (St_call (a := []) (b := []) rfl rfl (call (Free_spec q.sp _ _ _ H) ?_)) (St_alloc H rfl ?_)
      · clear H; rintro v w ⟨hv, H⟩
        obtain rfl : v = .int .i64 4 := hv
        replace H := Js [7,0,0,0,0,0,0,0] 0 H
        refine A_two 23 41 rfl rfl (by kernel_rfl) (by repeat first | exact .nil | refine .cons (.inr H.at) ?_ | refine .cons (.inr H.mp) ?_ | refine .cons (.inl (by kernel_rfl)) ?_) (Wants.none rfl) (Wants.none rfl) (St_call (a := []) (b := []) rfl rfl (call (Used_spec q.tp _ H) ?_)) (St_alloc H rfl ?_)
        · clear H; rintro v w ⟨hv, H⟩
          obtain rfl : v = .int .i64 0 := hv
          refine A_two 31 41 rfl rfl (by kernel_rfl) (by repeat first | exact .nil | refine .cons (.inr H.at) ?_ | refine .cons (.inr H.mp) ?_ | refine .cons (.inl (by kernel_rfl)) ?_) (Wants.none rfl) (Wants.none rfl) (St_call (a := []) (b := []) rfl rfl (call (Retired_spec q.tp _ H) ?_)) (St_alloc H rfl ?_)
          · clear H; rintro v w ⟨hv, H⟩
            obtain rfl : v = .int .i64 0 := hv
            replace H := Js [8,0,0,0,0,0,0,0,0] 0 H
            refine A_two 39 41 rfl rfl (by kernel_rfl) (by repeat first | exact .nil | refine .cons (.inr H.at) ?_ | refine .cons (.inr H.mp) ?_ | refine .cons (.inl (by kernel_rfl)) ?_) (Wants.none rfl) (Wants.none rfl) (St_call (a := []) (b := []) rfl rfl (call (trLen_spec q.trp _ _ H) ?_)) (St_alloc H rfl ?_)
            · clear H; rintro v w ⟨hv, H⟩
              obtain rfl : v = .int .i64 0 := hv
              refine A_build 40 rfl (Wants.none rfl) rfl (by kernel_rfl) ?_
              refine Jo 41 H ?_
              refine St_alloc H rfl ?_
              clear H; intro b4 w H
              refine Jo 42 H ?_
              refine St_storeN H rfl rfl inferInstance rfl rfl (Nat.le_of_ble_eq_true rfl) rfl ?_
              clear H; intro w H
              refine J8 H ?_
              replace H := Js [2,0,0,0,0,0,0,0,0,0,0,0,0,0,0] 0 H
              exact ⟨rfl, rfl, b4, rfl, rfl, rfl, H⟩
            · clear H; intro b4 w H
              replace H := Js [1,0] 0 H
              refine Jo 39 H ?_
              refine Jk rfl rfl (trLen_spec q.trp _ _ H) ?_
              clear H; rintro v w ⟨hv, H⟩
              obtain rfl : v = .int .i64 0 := hv
              refine J29 H ?_
              clear H; intro w H
              refine J8 H ?_
              replace H := Js [2,1,0,0,0,0,0,0,0,0,0,0,0,0,0] 0 H
              exact ⟨rfl, rfl, b4, rfl, rfl, rfl, H⟩
          · clear H; intro b4 w H
            replace H := Js [1,0] 0 H
            refine Jo 31 H ?_
            refine Jk rfl rfl (Retired_spec q.tp _ H) ?_
            clear H; rintro v w ⟨hv, H⟩
            obtain rfl : v = .int .i64 0 := hv
            replace H := Js [9,0,0,0,0,0,0,0,0,0] 0 H
            refine Jo 39 H ?_
            refine Jk rfl rfl (trLen_spec q.trp _ _ H) ?_
            clear H; rintro v w ⟨hv, H⟩
            obtain rfl : v = .int .i64 0 := hv
            refine J29 H ?_
            clear H; intro w H
            refine J8 H ?_
            replace H := Js [1,1,0,0,0,0,0,0,0,0,0,0,0,0,0] 0 H
            exact ⟨rfl, rfl, b4, rfl, rfl, rfl, H⟩
        · clear H; intro b4 w H
          replace H := Js [1,0] 0 H
          refine Jo 23 H ?_
          refine Jk rfl rfl (Used_spec q.tp _ H) ?_
          clear H; rintro v w ⟨hv, H⟩
          obtain rfl : v = .int .i64 0 := hv
          refine Jo 31 H ?_
          refine Jk rfl rfl (Retired_spec q.tp _ H) ?_
          clear H; rintro v w ⟨hv, H⟩
          obtain rfl : v = .int .i64 0 := hv
          replace H := Js [9,0,0,0,0,0,0,0,0,0] 0 H
          refine Jo 39 H ?_
          refine Jk rfl rfl (trLen_spec q.trp _ _ H) ?_
          clear H; rintro v w ⟨hv, H⟩
          obtain rfl : v = .int .i64 0 := hv
          refine J29 H ?_
          clear H; intro w H
          refine J8 H ?_
          replace H := Js [1,1,0,0,0,0,0,0,0,0,0,0,0,0,0] 0 H
          exact ⟨rfl, rfl, b4, rfl, rfl, rfl, H⟩
      · clear H; intro b4 w H
        replace H := Js [1,0] 0 H
        refine Jo 15 H ?_
        refine Jk rfl rfl (Free_spec q.sp _ _ _ H) ?_
        clear H; rintro v w ⟨hv, H⟩
        obtain rfl : v = .int .i64 4 := hv
        replace H := Js [8,0,0,0,0,0,0,0,0] 0 H
        refine Jo 23 H ?_
        refine Jk rfl rfl (Used_spec q.tp _ H) ?_
        clear H; rintro v w ⟨hv, H⟩
        obtain rfl : v = .int .i64 0 := hv
        refine Jo 31 H ?_
        refine Jk rfl rfl (Retired_spec q.tp _ H) ?_
        clear H; rintro v w ⟨hv, H⟩
        obtain rfl : v = .int .i64 0 := hv
        replace H := Js [9,0,0,0,0,0,0,0,0,0] 0 H
        refine Jo 39 H ?_
        refine Jk rfl rfl (trLen_spec q.trp _ _ H) ?_
        clear H; rintro v w ⟨hv, H⟩
        obtain rfl : v = .int .i64 0 := hv
        refine J29 H ?_
        clear H; intro w H
        refine J8 H ?_
        replace H := Js [1,2,0,0,0,0,0,0,0,0,0,0,0,0,0] 0 H
        exact ⟨rfl, rfl, b4, rfl, rfl, rfl, H⟩
    · clear H; intro b4 w H
      replace H := Js [1,0] 0 H
      refine Jo 7 H ?_
      refine Jk rfl rfl (Chunks_spec q.sp _ _ _ H) ?_
      clear H; rintro v w ⟨hv, H⟩
      obtain rfl : v = .int .i64 4 := hv
      refine Jo 15 H ?_
      refine Jk rfl rfl (Free_spec q.sp _ _ _ H) ?_
      clear H; rintro v w ⟨hv, H⟩
      obtain rfl : v = .int .i64 4 := hv
      replace H := Js [8,0,0,0,0,0,0,0,0] 0 H
      refine Jo 23 H ?_
      refine Jk rfl rfl (Used_spec q.tp _ H) ?_
      clear H; rintro v w ⟨hv, H⟩
      obtain rfl : v = .int .i64 0 := hv
      refine Jo 31 H ?_
      refine Jk rfl rfl (Retired_spec q.tp _ H) ?_
      clear H; rintro v w ⟨hv, H⟩
      obtain rfl : v = .int .i64 0 := hv
      replace H := Js [9,0,0,0,0,0,0,0,0,0] 0 H
      refine Jo 39 H ?_
      refine Jk rfl rfl (trLen_spec q.trp _ _ H) ?_
      clear H; rintro v w ⟨hv, H⟩
      obtain rfl : v = .int .i64 0 := hv
      refine J29 H ?_
      clear H; intro w H
      refine J8 H ?_
      replace H := Js [1,2,0,0,0,0,0,0,0,0,0,0,0,0,0] 0 H
      exact ⟨rfl, rfl, b4, rfl, rfl, rfl, H⟩
  clear H
  rintro ms σ w ⟨rfl, b4, g1, g2, g4, H⟩
  rw [upd_self g1, upd_self g2, upd_self g4]
  refine J19 H ?_
  clear H; intro w H
  refine A_fieldAddr 0 rfl (Wants.none rfl) rfl (by kernel_rfl) ?_
  refine A_load1 1 [15] H rfl (Wants.none rfl) rfl rfl (by kernel_rfl) ?_
  refine J26 H ?_
  refine A_load1 3 [15] H rfl (Wants.none rfl) rfl rfl (by kernel_rfl) ?_
  refine A_pv 4 rfl (Wants.none rfl) rfl (by kernel_rfl) ?_
  refine A_load1 5 [] H rfl (Wants.none rfl) rfl rfl (by kernel_rfl) ?_
  refine J35 H ?_
  refine A_load1 8 [] H rfl (Wants.none rfl) rfl rfl (by kernel_rfl) ?_
  refine A_pv 9 rfl (Wants.none rfl) rfl (by kernel_rfl) ?_
  refine A_fieldAddr 10 rfl (Wants.none rfl) rfl (by kernel_rfl) ?_
  refine A_load1 11 [] H rfl (Wants.none rfl) rfl rfl (by kernel_rfl) ?_
  refine Jo 12 H ?_
  refine Jk rfl rfl (Left_spec q.tp _ H) ?_
  clear H; rintro v w ⟨hv, H⟩
  obtain rfl : v = .int .i64 6 := hv
  refine A_pv 13 rfl (Wants.none rfl) rfl (by kernel_rfl) ?_
  refine A_fieldAddr 14 rfl (Wants.none rfl) rfl (by kernel_rfl) ?_
  refine Jo 15 H ?_
  refine St_store1 H rfl rfl inferInstance rfl (Nat.le_of_ble_eq_true rfl) rfl ?_
  clear H; intro w H
  refine J8 H ?_
  obtain ⟨tq, H, hTAB⟩ := TAB_X H
  refine J30 H ?_
  refine Jc rfl rfl (tAll_spec q.tp H) ?_
  clear H; rintro v w ⟨bt, rfl, H⟩
  refine Lp_nil ?_
  obtain ⟨X, hX, H⟩ : ∃ X, X = _ ∧ Holds w (pts bt (row 70 [pp q.tp]) :: TABX q.tp (sN 4 8 6).tab tq :: X) := ⟨_, rfl, H⟩
  repeat refine C_seq ?_
  refine C_join (fun ms σ w => (∃ D, ms = [D] ∧ Holds w (TAB q.tp (sN 4 8 6).tab :: pts D (.deferred (some [])) :: X)) ∧ σ 1 = pp b1 ∧ σ 2 = pp b2 ∧ σ 4 = pp b4) ?_ ?_
  · refine C_block (C_rangeFunc (a := []) (b := [pp bt]) H rfl (fun yl D w H => ?_))
    generalize hL : LR _ yl _ _ _ _ D .ready = L at H ⊢
    haveI : HasTab 0 Lib.deBruijn64tab X := by rw [hX]; infer_instance
    replace H := Js [0,1,1,0] 0 H
    refine call (TabIter yl bt q.tp _ tq (fun _ => L) (fun ks k g e rest w hk => (no_slot hk).elim) H) ?_
    clear H
    rintro v w H
    subst hL
    refine ⟨_, H, fun w H => ?_⟩
    replace H := hTAB _ _ H.swap
    replace H := Js [0,1] 1 H
    exact ⟨rfl, ⟨D, rfl, H⟩, rfl, rfl, rfl⟩
  clear H
  rintro ms σ w ⟨⟨D, rfl, H⟩, g1, g2, g4⟩
  rw [upd_self g1, upd_self g2, upd_self g4]
  rw [hX] at H
  refine J1 H ?_
  refine Lp_s rfl (St_loadN H rfl (by repeat (first | exact Reads.nil _ | apply Reads.cons rfl)) rfl ?_)
  refine J24 H ?_
  clear H; intro w H
  refine J0 H ?_
  replace H := Js [5,8,8,4,0,2,5,5,5,5,5,0,3,1] 2 H
  replace H := CELL_in hw hm H
  replace H := Js [1,1,1,0] 0 H
  exact C_ret (fn_endCD (ms := [D]) _ (.inr rfl) (Holds.star.2 H) (fun w' H' => .cellN H' rfl (by repeat (first | exact Reads.nil _ | apply Reads.cons rfl)) (.tmp .nil)) fun w' H' => ⟨rfl, H'.drop⟩)

set_option maxRecDepth 10000 in
theorem Check_new [Extra] (h c : Nat) {w : World} {fr : List HProp} [hT : HasTab 0 Lib.deBruijn64tab fr] (H : Holds w (HEAP h c :: CELL c (sN 4 8 6) :: fr)) :
    Calls Tryz.prog 15 #[pp h] w (ret fun v w' => v = .tuple #[.slice none 0 0, .int .i64 0] ∧ Holds w' (HEAP h c :: CELL c (sN 4 8 6) :: fr)) := by
  refine calls_of Tryz.func15 rfl (by kernel_rfl) ?_
  refine J14 H ?_
  clear H; intro b1 w H
  refine J2 H ?_
  refine J9 H ?_
  replace H := Js [1,0] 0 H
  refine Jc rfl rfl (none_yes h c H) ?_
  clear H; rintro v w ⟨rfl, H⟩
  refine J38 H ?_
  refine J1 H ?_
  refine Lp_s rfl (St_alloc H rfl ?_)
  clear H; intro b4 w H
  refine Lp_nil ?_
  replace H := Js [3,0,0,0] 0 H
  obtain ⟨q, mem, hw, hm, H⟩ := CELL_out H
  replace H := Js [4,0,10,10,9,0,0,0,0,0,0,0,0,0] 0 H
  obtain ⟨tq, H, hTAB⟩ := TAB_X H
  refine J30 H ?_
  refine Jc rfl rfl (tAll_spec q.tp H) ?_
  clear H; rintro v w ⟨bt, rfl, H⟩
  refine Lp_nil ?_
  obtain ⟨X, hX, H⟩ : ∃ X, X = _ ∧ Holds w (pts bt (row 70 [pp q.tp]) :: TABX q.tp (sN 4 8 6).tab tq :: X) := ⟨_, rfl, H⟩
  repeat refine C_seq ?_
  refine C_join (fun ms σ w => (∃ D, ms = [D] ∧ Holds w (TAB q.tp (sN 4 8 6).tab :: pts D (.deferred (some [])) :: X)) ∧ σ 1 = pp b1 ∧ σ 4 = pp b4) ?_ ?_
  · refine C_block (C_rangeFunc (a := []) (b := [pp bt]) H rfl (fun yl D w H => ?_))
    generalize hL : LR _ yl _ _ _ _ D .ready = L at H ⊢
    haveI : HasTab 0 Lib.deBruijn64tab X := by rw [hX]; infer_instance
    replace H := Js [0,1,1,0] 0 H
    refine call (TabIter yl bt q.tp _ tq (fun _ => L) (fun ks k g e rest w hk => (no_slot hk).elim) H) ?_
    clear H
    rintro v w H
    subst hL
    refine ⟨_, H, fun w H => ?_⟩
    replace H := hTAB _ _ H.swap
    replace H := Js [0,1] 1 H
    exact ⟨rfl, ⟨D, rfl, H⟩, rfl, rfl⟩
  clear H
  rintro ms σ w ⟨⟨D, rfl, H⟩, g1, g4⟩
  rw [upd_self g1, upd_self g4]
  rw [hX] at H
  clear hX
  refine J1 H ?_
  refine Lp_s rfl (St_makeMap v1 (ki .i64) H rfl ?_)
  clear H; intro bm w H
  refine J0 H ?_
  replace H := Js [14,0,0,0,0,0,0,0,0,0,0,0,0,0,0] 0 H
  refine J30 H ?_
  replace H := mpv_of H
  refine Lp_s rfl (St_range (ki .i64) ptrv H rfl rfl ?_)
  clear H; intro bi w H
  refine Lp_nil ?_
  obtain ⟨X, hX, H⟩ := abs_tail H
  repeat refine C_seq ?_
  refine C_join (fun ms σ w => ms = [D] ∧ σ 1 = pp b1 ∧ σ 4 = pp b4 ∧ σ 7 = .map (some bm) ∧ Holds w (mp (ki .i64) ptrv q.mm ((sN 4 8 6).mns.map mnkey) :: X)) ?_ ?_
  · refine C_block ?_
    refine C_loop (fun ms σ w n => ms = [D] ∧ n = 0 ∧ σ 1 = pp b1 ∧ σ 4 = pp b4 ∧ σ 7 = .map (some bm) ∧ σ 45 = pp bi ∧ Holds w (mit (ki .i64) ptrv (.map (some q.mm)) ((sN 4 8 6).mns.map mnkey) bi [] :: X)) (m := 0) ⟨rfl, rfl, rfl, rfl, rfl, rfl, H⟩ ?_
    clear H
    rintro ms σ w n ⟨rfl, rfl, g1, g4, g7, g45, H⟩
    rw [upd_self g1, upd_self g4, upd_self g7, upd_self g45]
    refine J1 H ?_
    refine Lp_s rfl (St_next H ki_inj rfl rfl (fun hp w H => ?_) (fun q hq _ _ _ w H => by cases hq))
    refine J4 H ?_
    refine C_false rfl (C_exit ?_)
    replace H := mpv_some (mit_mpv H)
    exact ⟨rfl, rfl, rfl, rfl, rfl, H⟩
  clear H
  rintro ms σ w ⟨rfl, g1, g4, g7, H⟩
  rw [upd_self g1, upd_self g4, upd_self g7]
  rw [hX] at H
  clear hX
  replace H := Js [10,0,0,0,0,0,0,0,0,0,0] 0 H
  refine J30 H ?_
  refine Jc rfl rfl (Chunks_spec q.sp _ mem _ H) ?_
  clear H; rintro v w ⟨hv, H⟩
  obtain rfl : v = .int .i64 4 := hv
  refine J0 H ?_
  obtain ⟨X, hX, H⟩ := abs_list H
  repeat refine C_seq ?_
  refine C_join (fun ms σ w => ms = [D] ∧ σ 1 = pp b1 ∧ σ 4 = pp b4 ∧ Holds w X) ?_ ?_
  · refine C_block ?_
    refine C_loop (fun ms σ w n => ms = [D] ∧ ∃ j : Nat, j ≤ 4 ∧ n = 4 - j ∧ σ 1 = pp b1 ∧ σ 4 = pp b4 ∧ σ 7 = .map (some bm) ∧ σ 119 = .int .i64 4 ∧ σ 120 = .int .i64 j ∧ Holds w X) (m := 4) ⟨rfl, 0, by omega, rfl, rfl, rfl, rfl, rfl, rfl, H⟩ ?_
    clear H
    rintro ms σ w n ⟨rfl, j, hj, rfl, g1, g4, g7, g119, g120, H⟩
    rw [upd_self g1, upd_self g4, upd_self g7, upd_self g119, upd_self g120]
    refine J1 H ?_
    refine J4 H ?_
    refine C_dec rfl (fun h => C_skip ?_) (fun h => C_exit ?_)
    · have hlt : j < 4 := by omega
      rw [hX] at H
      refine J25 H ?_
      refine J3 H ?_
      refine J30 H ?_
      refine Lp_pv rfl rfl ?_
      refine Jc rfl rfl (Owner_spec q.sp _ mem _ j H (by simpa using hlt)) ?_
      clear H; rintro v w ⟨hv, H⟩
      obtain rfl : v = .int .i64 0 := by rw [hv, no_own]; rfl
      refine J40 H ?_
      refine J16 H ?_
      refine J3 H ?_
      exact ⟨_, ⟨rfl, j + 1, hlt, rfl, rfl, rfl, rfl, rfl, inc64 (by omega), by rw [hX]; exact H⟩, by omega⟩
    · exact ⟨rfl, rfl, rfl, rfl, H⟩
  clear H
  rintro ms σ w ⟨rfl, g1, g4, H⟩
  rw [upd_self g1, upd_self g4]
  rw [hX] at H
  refine J9 H ?_
  refine Jc rfl rfl (fSort_none _ H) ?_
  clear H; rintro v w ⟨rfl, H⟩
  refine Lp_nil ?_
  refine J9 H ?_
  refine Jc rfl rfl (fCompact_none H) ?_
  clear H; rintro v w ⟨rfl, H⟩
  refine J2 H ?_
  replace H := Js [5,8,8,0,2,6,6,6,6,0,5,1,1] 3 H
  replace H := CELL_in hw hm H
  replace H := Js [1,1,0] 0 H
  exact C_ret (fn_endCD (ms := [D]) _ (.inr rfl) (Holds.star.2 H) (fun w' H' => .tmp (.tmp .nil)) fun w' H' => ⟨rfl, H'⟩)

theorem alive18_spec [Extra] {w : World} {fr : List HProp} [hT : HasTab 0 Lib.deBruijn64tab fr] (H : Holds w fr) :
    Calls Tryz.prog 16 #[] w (ret fun v w' => v = .bool true ∧ Holds w' fr) := by
  refine calls_of Tryz.func16 rfl (by kernel_rfl) ?_
  refine J20 H ?_
  refine Jc rfl rfl (eNew_spec 4 8 6 (by omega) (by omega) (by omega) (by omega) (by omega) (by omega) H) ?_
  clear H; rintro v w ⟨h, c, rfl, H⟩
  refine J12 H ?_
  refine J21 H ?_
  refine Jc rfl rfl (Count_new h c H) ?_
  clear H; rintro v w ⟨rfl, H⟩
  refine J28 H ?_
  clear H; intro b3 w H
  refine J24 H ?_
  clear H; intro w H
  refine J21 H ?_
  replace H := Js [1,1,0] 0 H
  refine Jc rfl rfl (Check_new h c H) ?_
  clear H; rintro v w ⟨rfl, H⟩
  refine J12 H ?_
  refine J36 H ?_
  refine J15 H ?_
  refine J7 H ?_
  refine J47 H ?_
  refine Lp_g rfl rfl rfl (St_build rfl rfl ?_)
  refine Lp_g rfl rfl rfl (St_eqAgg rfl rfl rfl rfl (.inl rfl) rfl ?_)
  refine J23 H ?_
  refine J7 H ?_
  refine J6 H ?_
  refine J39 H ?_
  refine J2 H ?_
  exact C_ret (Jy H.drop.drop.drop rfl fun w' H' => ⟨rfl, H'⟩)

set_option maxRecDepth 10000 in
theorem AuditNone_walk [Extra] (region : Int) {w : World} {fr : List HProp} [hT : HasTab 0 Lib.deBruijn64tab fr] (H : Holds w fr) :
    Calls Tryz.prog 3 #[.int .i64 region] w (ret fun v w' => v = .bool true ∧ Holds w' fr) := by
  refine calls_of Tryz.func3 rfl (by kernel_rfl) ?_
  refine J20 H ?_
  refine J11 H ?_
  clear H; intro b12 w H
  refine Lp_s rfl (St_buildSlice H rfl rfl rfl ?_)
  clear H; intro b13 w H
  refine Lp_s rfl (St_lenSlice rfl rfl ?_)
  refine J4 H ?_
  refine C_join (fun ms σ w => ms = [] ∧ Holds w fr) ?_ ?_
  · refine C_block ?_
    refine C_loop (fun ms σ w n => ms = [] ∧ ∃ i : Nat, i ≤ 2 ∧ n = 2 - i ∧ σ 0 = .int .i64 region ∧ σ 13 = .slice (some ⟨b13, 0, none⟩) 2 2 ∧ σ 14 = .int .i64 2 ∧ σ 15 = .int .i64 i ∧ Holds w (pts b13 (row 22 [.pointer none, pp b12]) :: pts b12 (row 27 [.pointer none, .int .i64 0, .pointer none, .pointer none]) :: fr)) (m := 2) ⟨rfl, 0, by omega, rfl, rfl, rfl, rfl, rfl, H⟩ ?_
    clear H
    rintro ms σ w n ⟨rfl, i, hi, rfl, g0, g13, g14, g15, H⟩
    rw [upd_self g0, upd_self g13, upd_self g14, upd_self g15]
    refine J1 H ?_
    refine J4 H ?_
    refine C_dec rfl (fun h => C_skip ?_) (fun h => C_exit ?_)
    · have hlt : i < 2 := by omega
      obtain ⟨a, ha, hN⟩ : ∃ a, ([Value.pointer none, pp b12])[0 + i * 1]? = some (.pointer a) ∧ NoH a (pts b13 (row 22 [.pointer none, pp b12]) :: pts b12 (row 27 [.pointer none, .int .i64 0, .pointer none, .pointer none]) :: fr) := by
        match i, hlt with
        | 0, _ => exact ⟨none, rfl, .inl rfl⟩
        | 1, _ => exact ⟨_, rfl, .inr ⟨b12, rfl, inferInstance⟩⟩
      refine J25 H ?_
      refine J1 H ?_
      refine Lp_s rfl (St_indexAddr rfl rfl (by omega) (by omega) rfl ?_)
      refine Lp_s rfl (St_load1 H rfl (by simpa using ha) rfl ?_)
      refine J21 H ?_
      refine Jc rfl rfl (Count_no a hN H) ?_
      clear H; rintro v w ⟨rfl, H⟩
      refine J28 H ?_
      clear H; intro b5 w H
      refine J24 H ?_
      clear H; intro w H
      refine J0 H ?_
      refine J5 H ?_
      refine Jc rfl rfl (Of_no a region hN.there H) ?_
      clear H; rintro v w ⟨rfl, H⟩
      refine J28 H ?_
      clear H; intro b7 w H
      refine J24 H ?_
      clear H; intro w H
      refine J21 H ?_
      refine Jc rfl rfl (Check_no a hN.there.there H) ?_
      clear H; rintro v w ⟨rfl, H⟩
      refine J12 H ?_
      refine J36 H ?_
      refine J15 H ?_
      refine J6 H ?_
      refine J23 H ?_
      refine J6 H ?_
      refine J7 H ?_
      refine J47 H ?_
      refine Lp_g rfl rfl rfl (St_build rfl rfl ?_)
      refine Lp_g rfl rfl rfl (St_eqAgg rfl rfl rfl rfl (.inr rfl) rfl ?_)
      refine J7 H ?_
      refine J47 H ?_
      refine Lp_g rfl rfl rfl (St_build rfl rfl ?_)
      refine Lp_g rfl rfl rfl (St_eqAgg rfl rfl rfl rfl (.inr rfl) rfl ?_)
      refine J7 H ?_
      refine J6 H ?_
      refine J39 H ?_
      refine J16 H ?_
      refine J3 H ?_
      replace H := Js [2,2] 2 H
      exact ⟨_, ⟨rfl, i + 1, hlt, rfl, rfl, rfl, rfl, inc64 (by omega), H⟩, by omega⟩
    · exact ⟨rfl, rfl, H.drop.drop⟩
  clear H
  rintro ms σ w ⟨rfl, H⟩
  refine J1 H ?_
  refine Jc rfl rfl (alive18_spec H) ?_
  clear H; rintro v w ⟨rfl, H⟩
  refine J0 H ?_
  exact C_ret (Jy H rfl fun w' H' => ⟨rfl, H'⟩)

end Go.Proofs.YtipelpbkeiphmaaGreatDoor
set_option linter.constructorNameAsVariable false
set_option maxRecDepth 100000
namespace Go.Proofs.YtipelpbkeiphmaaGreatDoor
open Go.SL Go.ChangeShapes Go.WideShapes Go.ChangeAt Go.RowKit Go.Deep

/-! ### The table -/

theorem own0 : ownKnob Tryz.prog.godebug = none := by kernel_rfl
theorem laidOut0 : laidOutB Tryz.prog = true := by kernel_rfl
theorem tab_of_laid {W : World} (h : laidMetH Tryz.prog Rows.auditNoneRow.laid W) : TabIs 0 Lib.deBruijn64tab W ∧ 0 < W.heap.size := by
  have h' : laidMet Tryz.prog [("math/bits.deBruijn64tab", Lib.tabData .u8 (Lib.deBruijn64tab.map fun n : Nat => (n : Int)))] W := h
  have ht := Lib.tabIs_of_head (P := Tryz.prog) (g := 0) (t := 402) (n := 64) (by kernel_rfl) (by kernel_rfl) Tryz.underlying402 (by kernel_rfl) (by kernel_rfl) (by kernel_rfl) h'
  have hc : TabIs 0 Lib.deBruijn64tab W := by
    intro j hj
    have := ht.cell (g := 0) (by kernel_rfl) j (by simpa using hj)
    rw [this]
    congr 2
    rw [List.getD_eq_getElem?_getD, List.getD_eq_getElem?_getD, List.getElem?_map]
    cases Lib.deBruijn64tab[j]? <;> rfl
  refine ⟨hc, ?_⟩
  have h0 := hc 0 (by decide)
  unfold World.cell? at h0
  refine Nat.pos_of_ne_zero fun hz => ?_
  rw [Array.getElem?_eq_none (by omega)] at h0
  cases h0

def litCells : DataW Unit → List Value
  | .agg l => l.map fun
    | .lit (.int k z) => Value.int k z
    | _ => .nilFunc
  | _ => []
def setG (w : World) (g : Nat) (d : DataW Unit) : World := { w with heap := w.heap.modify g fun
    | .cells _ t frozen => .cells (litCells d).toArray t frozen
    | o => o }
/-- A world in which the table is as it is laid. -/
noncomputable def laidWorld (os : Os) : World := setG (World.holding Tryz.prog os ⟨#[], #[], []⟩) 0 Rows.laid_math_bits_deBruijn64tab
theorem laidWorld_met (os : Os) (args : Array Value) : laidMetH Tryz.prog Rows.auditNoneRow.laid ((laidWorld os).forCall (fun _ _ => 0) ⟨#[], args, []⟩).memory := by
  show laidMet Tryz.prog Rows.auditNoneRow.laid _
  exact (LaidIn.of_run [0] 8 (by kernel_rfl) (by kernel_rfl) (by kernel_rfl) (by kernel_rfl)).met
end Go.Proofs.YtipelpbkeiphmaaGreatDoor
