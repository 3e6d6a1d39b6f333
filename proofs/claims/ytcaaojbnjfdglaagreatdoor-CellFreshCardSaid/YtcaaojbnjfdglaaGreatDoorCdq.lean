/- Cells: what is proved on the way: every input of the statement; no condition. Texts joined: LawK LawL LawS. -/
import Derived.Test.YtcaaojbnjfdglaaGreatDoorCdf
import Derived.Test.YtcaaojbnjfdglaaGreatDoorCdp
import Derived.Test.YtcaaojbnjfdglaaGreatDoorCde
set_option linter.unusedVariables false
set_option linter.unusedSimpArgs false
set_option linter.unusedSectionVars false
namespace Go.Proofs.YtcaaojbnjfdglaaGreatDoor
open Go.SL

theorem sorted_eq : ∀ {a b : List Int}, a.Pairwise (· < ·) → b.Pairwise (· < ·) → (∀ x, x ∈ a ↔ x ∈ b) → a = b
  | [], [], _, _, _ => rfl
  | [], y :: b, _, _, h => by have := (h y).2 List.mem_cons_self; cases this
  | x :: a, [], _, _, h => by have := (h x).1 List.mem_cons_self; cases this
  | x :: a, y :: b, ha, hb, h => by
    obtain ⟨ha1, ha2⟩ := List.pairwise_cons.1 ha
    obtain ⟨hb1, hb2⟩ := List.pairwise_cons.1 hb
    have hxy : x = y := by
      have h1 := (h x).1 List.mem_cons_self
      have h2 := (h y).2 List.mem_cons_self
      rcases List.mem_cons.1 h1 with h1 | h1
      · exact h1
      · rcases List.mem_cons.1 h2 with h2 | h2
        · exact h2.symm
        · have := ha1 y h2
          have := hb1 x h1
          omega
    subst hxy
    congr 1
    refine sorted_eq ha2 hb2 fun z => ?_
    constructor
    · intro hz
      rcases List.mem_cons.1 ((h z).1 (List.mem_cons_of_mem _ hz)) with h1 | h1
      · have := ha1 z hz; omega
      · exact h1
    · intro hz
      rcases List.mem_cons.1 ((h z).2 (List.mem_cons_of_mem _ hz)) with h1 | h1
      · have := hb1 z hz; omega
      · exact h1
theorem NL_IL (v : Value) (l : List Nat) : NL v l = IL v (l.map fun x : Nat => (x : Int)) := by
  show sls _ 1 v (ncells l) = _
  rw [ncells_icells]
theorem kids_law {s : CS} {m : MS} {told : List (Nat × Nat)} (R : RelW s m told) {id : Int} (h0 : 0 ≤ id) {K : List Int} (hp : K.Perm ((s.par.map (·.1)).filter (kidB s.par id))) (hs : K.Pairwise (· ≤ ·)) : K = (kidsP m.P id).map fun x : Nat => (x : Int) := by
  have hnd : K.Nodup := hp.nodup_iff.2 (List.Pairwise.filter _ R.nd)
  have hlt : K.Pairwise (· < ·) := by
    have := List.pairwise_and_iff.2 ⟨hs, hnd⟩
    exact this.imp (fun h => by have h1 := h.1; have h2 := h.2; omega)
  refine sorted_eq hlt ?_ fun x => ?_
  · refine List.Pairwise.map _ ?_ (idsTo_sorted m.P _ _)
    intro a b hab
    omega
  · rw [hp.mem_iff, List.mem_filter]
    unfold kidB kidsP
    rw [decide_eq_true_iff]
    constructor
    · rintro ⟨_, h2⟩
      obtain ⟨k, rfl, h3, h4, h5⟩ := (R.tree x id).1 (fnd_mem h2)
      refine List.mem_map.2 ⟨k, idsTo_mem.2 ⟨(List.getElem?_eq_some_iff.1 h4).1, h3, ?_⟩, rfl⟩
      rw [List.getD_eq_getElem?_getD, h4]
      exact beq_self_eq_true id
    · intro h
      obtain ⟨k, hk, rfl⟩ := List.mem_map.1 h
      obtain ⟨h1, h2, h3⟩ := idsTo_mem.1 hk
      have h4 := List.getElem?_eq_getElem h1
      rw [List.getD_eq_getElem?_getD, h4] at h3
      have h5 : m.P[k] = id := by simpa using h3
      rw [h5] at h4
      have h6 := (R.tree k id).2 ⟨k, rfl, h2, h4, h0⟩
      exact ⟨List.mem_map.2 ⟨_, h6, rfl⟩, (fnd_iff R.nd).2 h6⟩

theorem Same15_spec [Extra] (p : Nat) (s : CS) (m : MS) (told : List (Nat × Nat)) (R : RelW s m told) {w : World} {fr : List HProp} (H : Holds w (RUN p s m told :: fr)) :
    Calls Tryz.prog 27 #[pp p] w (ret fun v w' => v = .bool true ∧ Holds w' (RUN p s m told :: fr)) := by
  obtain ⟨c, mo, a, cap, H⟩ := RUN_out H
  obtain ⟨_, _, hw, _, _⟩ := CELL_out H.swap
  obtain ⟨_, _, _, _, _, _, _, hmw, _⟩ := MODEL_out (H.sel [2, 0, 0, 0] 0)
  have hlen : told.length ≤ 100000 := by rw [R.len]; exact hmw.few
  refine calls_of Tryz.func27 rfl (by kernel_rfl) ?_
  refine J27 H ?_
  refine J184 H ?_
  replace H := Js [3,0,0,0] 0 H
  refine J10 H ?_
  refine C_join (fun ms σ w => ms = [] ∧ σ 0 = pp p ∧ Holds w (TKL (.slice a told.length cap) told :: RROW p c mo (.slice a told.length cap) :: CELL c s :: MODEL mo m :: fr)) ?_ ?_
  · refine C_block ?_
    refine C_loop (fun ms σ w n => ms = [] ∧ ∃ i : Nat, i ≤ told.length ∧ n = told.length - i ∧ σ 0 = pp p ∧ σ 18 = .slice a told.length cap ∧ σ 19 = .int .i64 told.length ∧ σ 20 = .int .i64 i ∧ Holds w (TKL (.slice a told.length cap) told :: RROW p c mo (.slice a told.length cap) :: CELL c s :: MODEL mo m :: fr)) (m := told.length) ⟨rfl, 0, by omega, rfl, rfl, rfl, rfl, rfl, H⟩ ?_
    clear H
    rintro ms σ w n ⟨rfl, i, hi, rfl, g0, g18, g19, g20, H⟩
    rw [upd_self g0, upd_self g18, upd_self g19, upd_self g20]
    refine J26 H ?_
    refine C_dec rfl (fun h => C_skip ?_) (fun h => C_exit ?_)
    · have hlt : i < told.length := by omega
      have hn := List.getElem?_eq_getElem hlt
      generalize told[i] = kg at hn
      obtain ⟨k, g⟩ := kg
      have hPk : Vd s m told k g i := rel_validW R hn
      obtain ⟨bT, sT, rfl, H, hcl⟩ := sls_open H (by omega)
      refine J175 H ?_
      refine Lp_s rfl (St_indexAddr rfl rfl (by omega) (by omega) rfl ?_)
      refine Lp_s rfl (St_loadN H rfl (tkc_reads hn) rfl ?_)
      refine J17 H ?_
      clear H; intro b4 w H
      refine J246 H ?_
      clear H; intro w H
      refine Lp_nil ?_
      replace H := hcl _ _ H.swap
      replace H := Js [2,2,2,1,0] 0 H
      refine J228 H ?_
      refine Jc rfl rfl (tellR_spec p c mo _ s m told R k g i hPk H) ?_
      clear H; rintro v w ⟨rfl, H⟩
      refine J19 H ?_
      replace H := Js [2,0,0,0,0] 0 H
      refine J13 H ?_
      refine Jc rfl rfl (Valid_spec mo m i H) ?_
      clear H; rintro v w ⟨rfl, H⟩
      cases hv : valM m i with
      | none =>
        refine J18 H ?_
        refine C_true rfl (C_exit ?_)
        refine J4 H ?_
        replace H := Js [4,1,1,0] 1 H
        exact ⟨_, ⟨rfl, i + 1, hlt, rfl, rfl, rfl, rfl, inc64 (by omega), H⟩, by omega⟩
      | some nx =>
        obtain ⟨n', x⟩ := nx
        obtain ⟨hin, hx, hh, hg⟩ := valM_some hv
        obtain rfl : i = n' := by omega
        obtain ⟨t, lc, aL, cL, bO, cO, sO, ptrs, q, vw, vk, vt, rest, hm, h2, hp, H, hclose⟩ := MODEL_at H hx
        have hm' := set_same hx hm
        have hmx := hm.objs x (List.mem_of_getElem? hx)
        have hkn := hmx.kind
        have htn := hmx.to
        have hsm := MODEL_sizes (w := hm) hx
        have hll := hm.lays.1
        have hol := (List.getElem?_eq_some_iff.1 hx).1
        obtain ⟨y, hy, hyl, hl1, hl2, hR, hsz⟩ := lay_at hm h2 hx
        obtain ⟨aw, cw, rfl⟩ := sls_slice H.drop (ucells_length _) (by decide)
        obtain ⟨ak, ck, rfl⟩ := sls_slice H.drop.drop (ncells_length _) (by decide)
        obtain ⟨at', ct, rfl⟩ := sls_slice H.drop.drop.drop (ncells_length _) (by decide)
        replace H := Js [6,6,0,0,0,0,0,0,0,0] 0 H
        obtain ⟨bL, sL, D1, D2, Rr, rfl, H, hD, hclL⟩ := LAYS_at (by rw [← h2, List.length_map]) H hy
        obtain ⟨vr, vq, ly⟩ := y
        obtain rfl : ly = layM m x := hyl
        have hlcl : lc.length = m.lays.length := by rw [← h2, List.length_map]
        refine J19 H ?_
        refine J239 H ?_
        refine Lp_s rfl (St_indexAddr rfl rfl (by omega) (by omega) rfl ?_)
        refine Lp_s rfl (St_load1 H rfl hp rfl ?_)
        refine J0 H ?_
        refine J122 H ?_
        refine J18 H ?_
        refine C_join (fun ms σ w => ms = [] ∧ σ 0 = pp p ∧ σ 18 = .slice (some ⟨bT, 0, none⟩) told.length cap ∧ σ 19 = .int .i64 told.length ∧ σ 20 = .int .i64 i ∧ Holds w (pts bL (row 101 (bcells lc ++ sL)) :: D1 :: D2 :: Rr :: pts q (mrow (.slice aw x.w.length cw) (.slice ak x.kind.length ck) (.slice at' x.to.length ct) x) :: UL (.slice aw x.w.length cw) x.w :: NL (.slice ak x.kind.length ck) x.kind :: NL (.slice at' x.to.length ct) x.to :: pts bO (row 51 (ptrs ++ sO)) :: pts mo (row 56 [pp t, .slice (some ⟨bL, 0, none⟩) m.lays.length cL, .slice (some ⟨bO, 0, none⟩) m.objs.length cO]) :: RTR t m.P :: star rest :: RROW p c mo (.slice (some ⟨bT, 0, none⟩) told.length cap) :: CELL c s :: pts b4 (row 32 [.int .i64 k, .int .i64 g]) :: TKL (.slice (some ⟨bT, 0, none⟩) told.length cap) told :: fr)) ?_ ?_
        · refine C_block ?_
          refine C_loop (fun ms σ w n => ms = [] ∧ ∃ j : Nat, j ≤ x.w.length ∧ n = x.w.length - j ∧ σ 0 = pp p ∧ σ 4 = pp b4 ∧ σ 5 = pp q ∧ σ 18 = .slice (some ⟨bT, 0, none⟩) told.length cap ∧ σ 19 = .int .i64 told.length ∧ σ 20 = .int .i64 i ∧ σ 51 = .int .i64 x.w.length ∧ σ 52 = .int .i64 j ∧ Holds w (pts bL (row 101 (bcells lc ++ sL)) :: D1 :: D2 :: Rr :: pts q (mrow (.slice aw x.w.length cw) (.slice ak x.kind.length ck) (.slice at' x.to.length ct) x) :: UL (.slice aw x.w.length cw) x.w :: NL (.slice ak x.kind.length ck) x.kind :: NL (.slice at' x.to.length ct) x.to :: pts bO (row 51 (ptrs ++ sO)) :: pts mo (row 56 [pp t, .slice (some ⟨bL, 0, none⟩) m.lays.length cL, .slice (some ⟨bO, 0, none⟩) m.objs.length cO]) :: RTR t m.P :: star rest :: RROW p c mo (.slice (some ⟨bT, 0, none⟩) told.length cap) :: CELL c s :: pts b4 (row 32 [.int .i64 k, .int .i64 g]) :: TKL (.slice (some ⟨bT, 0, none⟩) told.length cap) told :: fr)) (m := x.w.length) ⟨rfl, 0, by omega, rfl, rfl, rfl, rfl, rfl, rfl, rfl, rfl, rfl, H⟩ ?_
          clear H
          rintro ms σ w n ⟨rfl, j, hj, rfl, g0, g4, g5, g18, g19, g20, g51, g52, H⟩
          rw [upd_self g0, upd_self g4, upd_self g5, upd_self g18, upd_self g19, upd_self g20, upd_self g51, upd_self g52]
          refine J26 H ?_
          refine C_dec rfl (fun h => C_skip ?_) (fun h => C_exit ?_)
          · have hjl : j < x.w.length := by omega
            refine J164 H ?_
            refine J1 H ?_
            clear H; intro w H
            refine J14 H ?_
            refine A_load1 3 [15] H rfl (Wants.none rfl) rfl rfl (by kernel_rfl) ?_
            refine J137 H ?_
            refine A_load1 6 [15] H rfl (Wants.none rfl) rfl rfl (by kernel_rfl) ?_
            refine J63 H ?_
            refine J57 H ?_
            refine A_fieldAddr 9 rfl (Wants.none rfl) rfl (by kernel_rfl) ?_
            refine A_load1 10 [15] H rfl (Wants.none rfl) rfl rfl (by kernel_rfl) ?_
            refine J127 H ?_
            rw [show IntKind.i64.wrap ((x.lay : Int) - 1) = ((x.lay - 1 : Nat) : Int) by rw [wrap64 (by omega) (by omega)]; omega]
            refine A_indexAddr 12 rfl (Wants.none rfl) rfl rfl (by omega) (by omega) (by kernel_rfl) ?_
            refine A_loadN 13 [15] H rfl (Wants.none rfl) rfl (bcells_reads hy) (by kernel_rfl) ?_
            refine J105 H ?_
            refine Jo 15 H ?_
            refine Jk rfl rfl (dIsRef_spec vr vq (layM m x) hR j (sizeL_rec hsz (by omega)) (by omega) ((hD _).there) H) ?_
            clear H; rintro v w ⟨rfl, H⟩
            refine J2 H ?_
            cases hb : isRefL (layM m x) j with
            | true =>
              refine J11 H ?_
              have hpl : placeM m i j true = 0 := by rw [placeM_some hv]; unfold placeE; rw [if_neg (by omega), Int.toNat_natCast, if_neg (fun h => h hb)]
              have hkj := List.getElem?_eq_getElem (l := x.kind) (i := j) (by omega)
              have htj := List.getElem?_eq_getElem (l := x.to) (i := j) (by omega)
              have hkd : x.kind.getD j 0 = x.kind[j] := by rw [List.getD_eq_getElem?_getD, hkj]; rfl
              have htd : x.to.getD j 0 = x.to[j] := by rw [List.getD_eq_getElem?_getD, htj]; rfl
              have hgo := hmx.goes j
              rw [htd] at hgo
              obtain ⟨hk2, h1⟩ : x.kind.getD j 0 ≤ 2 ∧ lookL s k g j = (lnkM told (x.kind.getD j 0) (x.to.getD j 0), 0) := by
                rcases look_lawV R hPk j with ⟨h0, _⟩ | ⟨_, n', j', x', e1, e2, e3, _, _, _, e4, e5⟩
                · exact absurd hpl h0
                · obtain rfl : n' = i := by omega
                  obtain rfl : j' = j := by omega
                  rw [hx] at e3
                  injection e3 with e3
                  subst e3
                  exact ⟨e4, e5⟩
              rw [hkd] at hk2
              rw [hkd, htd] at h1
              generalize x.kind[j] = kd at *
              generalize x.to[j] = td at *
              have hltd : kd = 2 → td < told.length := fun h => by rw [R.len]; exact hgo (by rw [hkj, h])
              have hLk := fun (w : World) (fr : List HProp) (H : Holds w (CELL c s :: fr)) => Look_spec c s k g j H
              rw [h1] at hLk
              obtain ⟨l1, l2, l3, hlk⟩ := lkv_agg (lnkM told kd td)
              rw [hlk] at hLk
              have hlink := fun (w : World) (fr : List HProp) (H : Holds w (RROW p c mo (.slice (some ⟨bT, 0, none⟩) told.length cap) :: TKL (.slice (some ⟨bT, 0, none⟩) told.length cap) told :: fr)) => link_spec p c mo (some ⟨bT, 0, none⟩) cap told kd td hk2 hltd H
              rw [hlk] at hlink
              replace H := Js [13,0,0,0,0,0,0,0,0,0,0,0,0,0,0,0] 0 H
              refine J10 H ?_
              refine C_join (fun ms σ w => ms = [] ∧ ∃ b7, σ 7 = pp b7 ∧ σ 8 = .int .i64 0 ∧ σ 0 = pp p ∧ σ 4 = pp b4 ∧ σ 5 = pp q ∧ σ 6 = .int .i64 j ∧ σ 18 = .slice (some ⟨bT, 0, none⟩) told.length cap ∧ σ 19 = .int .i64 told.length ∧ σ 20 = .int .i64 i ∧ σ 51 = .int .i64 x.w.length ∧ σ 52 = .int .i64 j ∧ Holds w (pts b7 (row 61 [.int .i64 l1, .int .i64 l2, .int .i64 l3]) :: pts bL (row 101 (bcells lc ++ sL)) :: D1 :: D2 :: Rr :: pts q (mrow (.slice aw x.w.length cw) (.slice ak x.kind.length ck) (.slice at' x.to.length ct) x) :: UL (.slice aw x.w.length cw) x.w :: NL (.slice ak x.kind.length ck) x.kind :: NL (.slice at' x.to.length ct) x.to :: pts bO (row 51 (ptrs ++ sO)) :: pts mo (row 56 [pp t, .slice (some ⟨bL, 0, none⟩) m.lays.length cL, .slice (some ⟨bO, 0, none⟩) m.objs.length cO]) :: RTR t m.P :: star rest :: RROW p c mo (.slice (some ⟨bT, 0, none⟩) told.length cap) :: CELL c s :: pts b4 (row 32 [.int .i64 k, .int .i64 g]) :: TKL (.slice (some ⟨bT, 0, none⟩) told.length cap) told :: fr)) ?_ ?_
              · refine J1 H ?_
                clear H; intro w H
                refine J161 H ?_
                refine J268 H ?_
                refine J36 H ?_
                refine A_two 6 10 rfl rfl (by kernel_rfl) (by repeat first | exact .nil | refine .cons (.inr H.at) ?_ | refine .cons (.inr H.mp) ?_ | refine .cons (.inl (by kernel_rfl)) ?_) (Wants.none rfl) (Wants.none rfl) (St_call (a := []) (b := []) rfl rfl (call (hLk _ _ H) ?_)) (St_alloc H rfl ?_)
                · clear H; rintro v w ⟨rfl, H⟩
                  refine J162 H ?_
                  clear H; intro b7 w H
                  refine J98 H ?_
                  clear H; intro w H
                  refine J34 H ?_
                  replace H := Js [0,1,1,1,1,1,1,1,1,1,1,1,1,1,0,0,0] 0 H
                  exact ⟨rfl, rfl, b7, rfl, rfl, rfl, rfl, rfl, rfl, rfl, rfl, rfl, rfl, rfl, H⟩
                · clear H; intro b7 w H
                  refine Jo 6 H ?_
                  refine Jk rfl rfl (hLk _ _ H.swap) ?_
                  clear H; rintro v w ⟨rfl, H⟩
                  refine J163 H ?_
                  clear H; intro w H
                  refine J34 H ?_
                  replace H := Js [1,1,1,1,1,1,1,1,1,1,1,1,1,1,0,0,0] 0 H
                  exact ⟨rfl, rfl, b7, rfl, rfl, rfl, rfl, rfl, rfl, rfl, rfl, rfl, rfl, rfl, H⟩
              clear H
              rintro ms σ w ⟨rfl, b7, g7, g8, g0, g4, g5, g6, g18, g19, g20, g51, g52, H⟩
              rw [upd_self g7, upd_self g8, upd_self g0, upd_self g4, upd_self g5, upd_self g6, upd_self g18, upd_self g19, upd_self g20, upd_self g51, upd_self g52]
              replace H := Js [7,7,0,0,0,0,0,0,0,0,0,0,0,0,0,0,0] 0 H
              obtain ⟨bk, sk, rfl, H, hck⟩ := sls_open H (by omega)
              obtain ⟨bt, st, rfl, H, hct⟩ := sls_open H.swap (by omega)
              refine J1 H ?_
              clear H; intro w H
              refine J145 H ?_
              refine A_pv 3 rfl (Wants.of rfl rfl rfl) rfl (by kernel_rfl) ?_
              refine A_loadN 4 [19] H rfl (Wants.of rfl rfl rfl) rfl (by repeat (first | exact Reads.nil _ | apply Reads.cons rfl)) (by kernel_rfl) ?_
              refine J171 H ?_
              refine J165 H ?_
              refine A_fieldAddr 7 rfl (Wants.of rfl rfl rfl) rfl (by kernel_rfl) ?_
              refine A_load1 8 [19] H rfl (Wants.of rfl rfl rfl) rfl rfl (by kernel_rfl) ?_
              refine J237 H ?_
              refine A_indexAddr 10 rfl (Wants.of rfl rfl rfl) rfl rfl (by omega) (by omega) (by kernel_rfl) ?_
              refine A_load1 11 [19] H rfl (Wants.of rfl rfl rfl) rfl (ncells_get hkj) (by kernel_rfl) ?_
              refine A_pv 12 rfl (Wants.of rfl rfl rfl) rfl (by kernel_rfl) ?_
              refine A_pv 13 rfl (Wants.of rfl rfl rfl) rfl (by kernel_rfl) ?_
              refine A_fieldAddr 14 rfl (Wants.of rfl rfl rfl) rfl (by kernel_rfl) ?_
              refine A_load1 15 [19] H rfl (Wants.of rfl rfl rfl) rfl rfl (by kernel_rfl) ?_
              refine A_pv 16 rfl (Wants.of rfl rfl rfl) rfl (by kernel_rfl) ?_
              refine A_indexAddr 17 rfl (Wants.of rfl rfl rfl) rfl rfl (by omega) (by omega) (by kernel_rfl) ?_
              refine A_load1 18 [19] H rfl (Wants.of rfl rfl rfl) rfl (ncells_get htj) (by kernel_rfl) ?_
              replace H := Js [13,15,0,0,0,0,0,0,0,0,0,0,0,0,0,0,0] 0 H
              refine Jo 19 H ?_
              refine Jk rfl rfl (hlink _ _ H) ?_
              clear H; rintro v w ⟨rfl, H⟩
              refine A_pv 20 rfl (Wants.of rfl rfl rfl) rfl (by kernel_rfl) ?_
              refine A_pv 21 rfl (Wants.none rfl) rfl (by kernel_rfl) ?_
              refine J2 H ?_
              refine J6 H ?_
              replace H := Js [2,2,0,0,0,0,0,0,0,0,0,0,0,0,0,0,0] 0 H
              replace H := hct _ _ H
              replace H := hck _ _ H.swap
              replace H := Js [5,5,5,5,5,5,0,0,3,3,3,3,0,2,2,0] 1 H
              refine J4 H ?_
              exact ⟨_, ⟨rfl, j + 1, hjl, rfl, rfl, rfl, rfl, rfl, rfl, rfl, rfl, inc64 (by omega), H⟩, by omega⟩
            | false =>
              repeat refine C_seq ?_
              refine C_false rfl ?_
              have hpl : placeM m i j false = 0 := by rw [placeM_some hv]; unfold placeE; rw [if_neg (by omega), Int.toNat_natCast, if_neg (fun h => h hb)]
              have hjx := List.getElem?_eq_getElem hjl
              have hjd : x.w.getD j 0 = x.w[j] := by rw [List.getD_eq_getElem?_getD, hjx]; rfl
              have h1 : getW s k g j = (x.w.getD j 0, 0) := by
                rcases get_lawV R hPk j with ⟨h0, _⟩ | ⟨_, n', j', x', e1, e2, e3, _, e5⟩
                · exact absurd hpl h0
                · obtain rfl : n' = i := by omega
                  obtain rfl : j' = j := by omega
                  rw [hx] at e3
                  injection e3 with e3
                  subst e3
                  exact e5
              rw [hjd] at h1
              generalize x.w[j] = y at hjx h1
              replace H := Js [13,0,0,0,0,0,0,0,0,0,0,0,0,0,0,0] 0 H
              refine J1 H ?_
              clear H; intro w H
              refine J125 H ?_
              refine J159 H ?_
              refine J36 H ?_
              refine Jo 6 H ?_
              refine Jk rfl rfl (Get_spec c s k g j H) ?_
              clear H; rintro v w ⟨rfl, H⟩
              rw [h1]
              refine J65 H ?_
              replace H := Js [6,0,0,0,0,0,0,0,0,0,0,0,0,0,0,0] 0 H
              obtain ⟨bW, sW, rfl, H, hcw⟩ := sls_open H (by omega)
              refine J8 H ?_
              refine J40 H ?_
              refine J56 H ?_
              refine Lp_g rfl rfl rfl (St_indexAddr rfl rfl (by omega) (by omega) rfl ?_)
              refine Lp_g rfl rfl rfl (St_load1 H rfl (ucells_get hjx) rfl ?_)
              refine J21 H ?_
              rw [show ((y : Int) != (y : Int)) = false by simp]
              refine J19 H ?_
              replace H := hcw _ _ H
              replace H := Js [2,2,2,2,2,0,1,1,1,1,1,1,1,0,0,0] 0 H
              refine J4 H ?_
              exact ⟨_, ⟨rfl, j + 1, hjl, rfl, rfl, rfl, rfl, rfl, rfl, rfl, rfl, inc64 (by omega), H⟩, by omega⟩
          · exact ⟨rfl, rfl, rfl, rfl, rfl, rfl, H⟩
        clear H
        rintro ms σ w ⟨rfl, g0, g18, g19, g20, H⟩
        rw [upd_self g0, upd_self g18, upd_self g19, upd_self g20]
        replace H := hclL _ _ H
        replace H := Js [2,2,2,2,2,2,0,0,0,0] 0 H
        replace H := MODEL_same hx (hclose _ _ _ hm' H)
        refine J4 H ?_
        replace H := Js [4,1,1,0] 1 H
        exact ⟨_, ⟨rfl, i + 1, hlt, rfl, rfl, rfl, rfl, inc64 (by omega), H⟩, by omega⟩
    · exact ⟨rfl, rfl, rfl, H⟩
  clear H
  rintro ms σ w ⟨rfl, g0, H⟩
  rw [upd_self g0]
  replace H := Js [3,0,0,0] 0 H
  obtain ⟨t, lc, oc, aL, cL, aO, cO, hm, h2, h3, hl1, hl2, H⟩ := MODEL_out H
  have hPl := hm.P.2
  replace H := Js [1,0,0,0,0,0,0,0,0] 0 H
  refine J238 H ?_
  refine Jc rfl rfl (All_spec t m.P (by omega) H) ?_
  clear H; intro v w H
  obtain ⟨aA, cA, rfl⟩ := sls_slice H (ncells_length _) (by decide)
  refine J54 H ?_
  clear H; intro b136 w H
  replace H := H.swap
  have hal : (allP m.P).length ≤ 100000 := by
    have : (allP m.P).length ≤ m.P.length := idsTo_len m.P _ _
    omega
  refine Lp_s rfl (St_append H rfl rfl (by repeat (first | exact Reads.nil _ | apply Reads.cons rfl)) rfl (by decide) (by rw [ncells_length]; simp only [List.length_cons, List.length_nil]; omega) rfl rfl ?_)
  clear H; intro vS w H
  have e1 : ncells (allP m.P) ++ [.int .i64 0] = ncells (allP m.P ++ [0]) := by rw [ncells_append]; rfl
  rw [e1] at H
  have hidL : ∀ x ∈ allP m.P ++ [0], ((x : Nat) : Int) = 0 ∨ (fnd s.par ((x : Nat) : Int)).isSome = true := by
    intro x hx
    rcases List.mem_append.1 hx with hx | hx
    · right
      obtain ⟨qq, q1, q2, q3⟩ := all_mem.1 hx
      rw [(fnd_iff R.nd).2 ((R.tree x qq).2 ⟨x, rfl, q2, q1, q3⟩)]
      rfl
    · left
      simp at hx
      omega
  have hLl : (allP m.P ++ [0]).length ≤ 100001 := by simp; omega
  generalize allP m.P ++ [0] = L at H hidL hLl
  obtain ⟨aS, cS, rfl⟩ := sls_slice H (ncells_length L) (by decide)
  refine Lp_s rfl (St_lenSlice rfl rfl ?_)
  refine J0 H ?_
  replace H := Js [0,1,1,1,1,1,1,1,1,1] 1 H
  refine J10 H ?_
  refine C_join (fun ms σ w => ms = [] ∧ σ 0 = pp p ∧ Holds w (NL (.slice aS L.length cS) L :: RTR t m.P :: pts mo (row 56 [pp t, .slice aL m.lays.length cL, .slice aO m.objs.length cO]) :: sls 101 4 (.slice aL m.lays.length cL) (bcells lc) :: star (lc.map bres) :: sls 51 1 (.slice aO m.objs.length cO) (oc.map fun x => pp x.ptr) :: star (oc.map ocr) :: TKL (.slice a told.length cap) told :: RROW p c mo (.slice a told.length cap) :: CELL c s :: fr)) ?_ ?_
  · refine C_block ?_
    refine C_loop (fun ms σ w n => ms = [] ∧ ∃ i : Nat, i ≤ L.length ∧ n = L.length - i ∧ σ 0 = pp p ∧ σ 137 = .slice aS L.length cS ∧ σ 138 = .int .i64 L.length ∧ σ 139 = .int .i64 i ∧ Holds w (NL (.slice aS L.length cS) L :: RTR t m.P :: pts mo (row 56 [pp t, .slice aL m.lays.length cL, .slice aO m.objs.length cO]) :: sls 101 4 (.slice aL m.lays.length cL) (bcells lc) :: star (lc.map bres) :: sls 51 1 (.slice aO m.objs.length cO) (oc.map fun x => pp x.ptr) :: star (oc.map ocr) :: TKL (.slice a told.length cap) told :: RROW p c mo (.slice a told.length cap) :: CELL c s :: fr)) (m := L.length) ⟨rfl, 0, by omega, rfl, rfl, rfl, rfl, rfl, H⟩ ?_
    clear H
    rintro ms σ w n ⟨rfl, i, hi, rfl, g0, g137, g138, g139, H⟩
    rw [upd_self g0, upd_self g137, upd_self g138, upd_self g139]
    refine J26 H ?_
    refine C_dec rfl (fun h => C_skip ?_) (fun h => C_exit ?_)
    · have hlt : i < L.length := by omega
      have hn := List.getElem?_eq_getElem hlt
      generalize L[i] = id at hn
      have hid := hidL id (List.mem_of_getElem? hn)
      obtain ⟨bA, sA, rfl, H, hcA⟩ := sls_open H (by omega)
      refine J110 H ?_
      refine Lp_s rfl (St_indexAddr rfl rfl (by omega) (by omega) rfl ?_)
      refine Lp_s rfl (St_load1 H rfl (ncells_get hn) rfl ?_)
      refine J0 H ?_
      replace H := hcA _ _ H
      replace H := Js [9,0,0,0,0,0,0,0,0,0] 0 H
      obtain ⟨q, mem, hw', hmm, H⟩ := CELL_out H
      replace H := Js [5,0,0,0,0,0,0,0,0,0,0,0,0,0,0,0,0,0,0,0] 0 H
      refine J239 H ?_
      refine Jc rfl rfl (Kids_spec q.trp s.last s.par id hid (by have := hw'.par.1; omega) H) ?_
      clear H; rintro v w ⟨u, K, rfl, hKp, hKs, H⟩
      obtain ⟨aK, cK, rfl⟩ := sls_slice H (icells_length K) (by decide)
      refine J45 H ?_
      have hkk := kids_law R (id := id) (by omega) hKp hKs
      replace H := Js [2,2,2,2,2,1,1,1,1,1,1,0,0,0,0,0,0,0,0,0,0] 0 H
      replace H := CELL_in hw' hmm H
      replace H := Js [3,0,0,0,0,0,0,0,0,0,0] 0 H
      refine J8 H ?_
      refine J40 H ?_
      refine J56 H ?_
      refine J56 H ?_
      refine Lp_g rfl rfl rfl (St_call (a := []) (b := []) rfl rfl (call (dKids_spec t m.P id (by omega) H) ?_))
      clear H; intro v2 w H
      obtain ⟨a2, c2, rfl⟩ := sls_slice H (ncells_length _) (by decide)
      replace H := Js [3,0,0,0,0,0,0,0,0,0,0,0] 0 H
      rw [NL_IL _ (kidsP m.P id)] at H
      refine Lp_g rfl rfl rfl (St_call (a := []) (b := []) rfl rfl (call (Same_spec _ _ K ((kidsP m.P id).map fun x : Nat => (x : Int)) (by rw [hkk, List.length_map]; have : (kidsP m.P id).length ≤ m.P.length := idsTo_len m.P _ _; omega) H) ?_))
      clear H; rintro v w ⟨rfl, H⟩
      rw [decide_eq_true hkk]
      refine J75 H ?_
      refine J4 H ?_
      replace H := Js [4,2,3,3,3,3,3,3,3,2] 2 H
      exact ⟨_, ⟨rfl, i + 1, hlt, rfl, rfl, rfl, rfl, inc64 (by omega), H⟩, by omega⟩
    · exact ⟨rfl, rfl, rfl, H⟩
  clear H
  rintro ms σ w ⟨rfl, g0, H⟩
  rw [upd_self g0]
  replace H := Js [9,0,0,0,0,0,0,0,0,0] 0 H
  obtain ⟨q, mem, hw', hmm, H⟩ := CELL_out H
  replace H := Js [5,0,0,0,0,0,0,0,0,0,0,0,0,0,0,0,0,0,0,0] 0 H
  refine J1 H ?_
  clear H; intro w H
  refine J14 H ?_
  refine A_load1 3 [7, 15] H rfl (Wants.none rfl) rfl rfl (by kernel_rfl) ?_
  refine J137 H ?_
  refine A_load1 6 [7, 15] H rfl (Wants.none rfl) rfl rfl (by kernel_rfl) ?_
  refine J100 H ?_
  refine J200 H ?_
  refine A_load1 11 [15] H rfl (Wants.none rfl) rfl rfl (by kernel_rfl) ?_
  refine J86 H ?_
  refine A_fieldAddr 13 rfl (Wants.none rfl) rfl (by kernel_rfl) ?_
  refine A_load1 14 [15] H rfl (Wants.none rfl) rfl rfl (by kernel_rfl) ?_
  refine Jo 7 H ?_
  refine Jk rfl rfl (trLen_spec q.trp s.last s.par H) ?_
  clear H; rintro v w ⟨rfl, H⟩
  replace H := Js [12,0,0,0,0,0,0,0,0,0,0,0,0,0,0,0,0,0,0,0] 0 H
  refine Jo 15 H ?_
  refine Jk rfl rfl (All_spec t m.P (by omega) H) ?_
  clear H; intro v w H
  obtain ⟨aA2, cA2, rfl⟩ := sls_slice H (ncells_length _) (by decide)
  refine A_lenSlice 16 rfl (Wants.none rfl) rfl (by kernel_rfl) ?_
  refine A_pv 17 rfl (Wants.none rfl) rfl (by kernel_rfl) ?_
  rw [len_law R, beq_int ((allP m.P).length : Int)]
  refine J169 H ?_
  refine J2 H ?_
  replace H := Js [3,3,3,3,3,2,2,2,2,2,2,1,2,2,2,2,2,2,2] 2 H
  replace H := CELL_in hw' hmm H
  replace H := Js [2,1,1,1,1,1,0,0,0] 0 H
  replace H := MODEL_in hm h2 h3 H
  replace H := Js [3,1,0,0] 0 H
  exact C_ret (Jy (RUN_in H) rfl fun w' H' => ⟨rfl, H'⟩)
end Go.Proofs.YtcaaojbnjfdglaaGreatDoor
namespace Go.Proofs.YtcaaojbnjfdglaaGreatDoor
open Go.SL

theorem AcOK.there {A : HProp} {fr : List HProp} {x : Ac} (h : AcOK fr x) : AcOK (A :: fr) x := ⟨h.1, h.2.1, h.2.2.there⟩
end Go.Proofs.YtcaaojbnjfdglaaGreatDoor
namespace Go.Proofs.YtcaaojbnjfdglaaGreatDoor
open Go.SL

theorem make_relW {s s' : CS} {m : MS} {told : List (Nat × Nat)} (R : Rel s m told) {k g0 : Nat} {e : Ent} (hk : s.tab[k]? = some ⟨g0, none⟩) (e1 : s'.lays = s.lays) (e3 : s'.par = s.par) (e5 : s'.tab = s.tab.set k ⟨g0 + 1, some e⟩) : RelW s' m told := by
  refine ⟨R.len, by rw [e1]; exact R.lays, by rw [e3]; exact R.tree, by rw [e3]; exact R.nd, ?_, ?_⟩
  · intro o x k0 g hx ht hg
    obtain ⟨f, h1, h2⟩ := R.obj o x k0 g hx ht hg
    refine ⟨f, ?_, h2⟩
    rw [e5, List.getElem?_set_ne (by rintro rfl; rw [hk] at h1; injection h1 with h1; injection h1 with _ h; cases h)]
    exact h1
  · intro o x k0 g hx ht hg f h1
    rw [e5] at h1
    rcases tab_set h1 with ⟨rfl, h2, _⟩ | ⟨_, h2⟩
    · injection h2 with h2 _
      subst h2
      obtain ⟨t, h3, h4⟩ := R.gens o k0 (g0 + 1) ht
      rw [hk] at h3
      injection h3 with h3
      subst h3
      have h4 : g0 + 1 ≤ g0 := h4
      omega
    · exact R.gone o x k0 g hx ht hg f h2

theorem Fresh_walk [Extra] (z1 z2 z3 : Int) (v : Value) (l : List Ac) (hl : l.length ≤ 9223372036854775807) (x0 x1 x2 : Int) {w : World} {fr : List HProp} [hT : HasTab 0 Lib.deBruijn64tab fr] (hr : RdS fr v l.length 9 (acells l)) (hok : ∀ x ∈ l, AcOK fr x) (H : Holds w fr) :
    Calls Tryz.prog 7 #[.agg #[.int .i64 z1, .int .i64 z2, .int .i64 z3], v, .agg #[.int .i64 x0, .int .i64 x1, .int .i64 x2]] w (ret fun r w' => r = .bool true ∧ Holds w' fr) := by
  obtain ⟨_, ad, cap, rfl, hrd⟩ := id hr
  refine calls_of Tryz.func7 rfl (by kernel_rfl) ?_
  refine J5 H ?_
  clear H; intro b3 w H
  refine J44 H ?_
  clear H; intro b5 w H
  refine J0 H ?_
  refine J29 H ?_
  refine Jc rfl rfl (Of_spec z1 z2 z3 H) ?_
  clear H; rintro r w ⟨p, n, size, slots, rfl, hn1, hn2, hs1, hs2, ht1, ht2, H⟩
  refine J0 H ?_
  refine J71 H ?_
  refine Jc rfl rfl (alive15_spec H) ?_
  clear H; rintro v w ⟨rfl, H⟩
  refine J111 H ?_
  refine J160 H ?_
  refine J111 H ?_
  refine Lp_g rfl rfl rfl (St_call (a := []) (b := []) rfl rfl (call (over_spec _ l hl hr.there.there.there (fun x hx => (hok x hx).there.there.there) H) ?_))
  clear H; rintro r w ⟨b, rfl, hb, H⟩
  cases b with
  | true =>
    refine J0 H ?_
    refine J11 H ?_
    refine J71 H ?_
    refine Jc rfl rfl (alive15_spec H) ?_
    clear H; rintro v w ⟨rfl, H⟩
    refine J114 H ?_
    refine Lp_g rfl rfl rfl (St_eqPtrNil rfl rfl (.inr rfl) rfl ?_)
    refine J3 H ?_
    exact C_ret (Jy H.drop.drop.drop rfl fun w' H' => ⟨rfl, H'⟩)
  | false =>
    have h60 := hb rfl
    refine J19 H ?_
    refine J97 H ?_
    refine J18 H ?_
    refine C_join (fun ms σ w => ms = [] ∧ ∃ s m told, Rel s m told ∧ Fresh s told ∧ m.objs.length ≤ 60 ∧ σ 5 = pp b5 ∧ σ 7 = pp p ∧ Holds w (RUN p s m told :: pts b5 (row 77 [.int .i64 x0, .int .i64 x1, .int .i64 x2]) :: pts b3 (row 23 [.int .i64 z1, .int .i64 z2, .int .i64 z3]) :: fr)) ?_ ?_
    · refine C_block ?_
      refine C_loop (fun ms σ w n => ms = [] ∧ ∃ (i : Nat) (s : CS) (m : MS) (told : List (Nat × Nat)), i ≤ l.length ∧ n = l.length - i ∧ Rel s m told ∧ Fresh s told ∧ m.objs.length ≤ i ∧ m.P.length ≤ i + 1 ∧ σ 5 = pp b5 ∧ σ 7 = pp p ∧ σ 37 = .slice ad l.length cap ∧ σ 38 = .int .i64 l.length ∧ σ 39 = .int .i64 i ∧ Holds w (RUN p s m told :: pts b5 (row 77 [.int .i64 x0, .int .i64 x1, .int .i64 x2]) :: pts b3 (row 23 [.int .i64 z1, .int .i64 z2, .int .i64 z3]) :: fr)) (m := l.length) ⟨rfl, 0, _, _, _, by omega, rfl, rel0 n size slots, fresh0 n size slots, by decide, by decide, rfl, rfl, rfl, rfl, rfl, H⟩ ?_
      clear H
      rintro ms σ w n' ⟨rfl, i, s, m, told, hi, rfl, R, F, hob, hP, g0, gr, gsl, gle, gix, H⟩
      rw [upd_self g0, upd_self gr, upd_self gsl, upd_self gle, upd_self gix]
      refine J26 H ?_
      refine C_dec rfl (fun h => C_skip ?_) (fun h => C_exit ?_)
      · have hlt : i < l.length := by omega
        have hy := List.getElem?_eq_getElem hlt
        generalize l[i] = y at hy
        obtain ⟨hX, hws, hrW⟩ := hok y (List.mem_of_getElem? hy)
        rcases hrd with hz | ⟨b, o, E, fz, c, rfl, hA, hrd⟩
        · omega
        haveI := hA
        obtain ⟨k, A, B, C, X, vW, ws, raw, i1, gg1⟩ := y
        obtain ⟨_, adW, capW, hvW, _⟩ := id hrW
        replace hvW : vW = .slice adW ws.length capW := hvW
        subst hvW
        refine J110 H ?_
        refine Lp_s rfl (St_indexAddr rfl rfl (by omega) (by omega) rfl ?_)
        refine Lp_s rfl (St_loadN H rfl (acells_el hrd hy) rfl ?_)
        refine J17 H ?_
        clear H; intro b9 w H
        refine J9 H ?_
        clear H; intro w H
        refine Lp_nil ?_
        replace H := H.swap
        refine J46 H ?_
        refine Jc rfl rfl (Do_spec p s m told R F.seq (by omega) (by omega) k A B C i1 gg1 X hX _ ws hws raw hrW.there.there.there H) ?_
        clear H; rintro r w ⟨rfl, s', m', told', R', S', H⟩
        refine J118 H ?_
        replace H := (H.swap).drop
        have h1 := S'.objs
        have h2 := S'.P
        exact ⟨_, ⟨rfl, i + 1, s', m', told', hlt, rfl, R', F.step S', by omega, by omega, rfl, rfl, rfl, rfl, inc64 (by omega), H⟩, by omega⟩
      · exact ⟨rfl, rfl, s, m, told, R, F, by omega, rfl, rfl, H⟩
    clear H
    rintro ms σ w ⟨rfl, s, m, told, R, F, hob, g0, gr, H⟩
    rw [upd_self g0, upd_self gr]
    obtain ⟨c, mo, a', cap', H⟩ := RUN_out H
    have htl : told.length ≤ 1000000 := by rw [R.len]; omega
    obtain ⟨_, _, _, _, _, _, _, hmw, _⟩ := MODEL_out (H.sel [2, 0, 0, 0, 0, 0] 0)
    refine J71 H ?_
    refine Lp_s rfl (St_indexArr rfl rfl (by omega) (by decide) rfl ?_)
    refine J116 H ?_
    refine Lp_s rfl (St_min rfl rfl rfl ?_)
    refine J103 H ?_
    generalize (if (if (20 : Int) < x2 then 20 else x2) > -5 then (if (20 : Int) < x2 then 20 else x2) else -5) = B
    refine J0 H ?_
    replace H := Js [1,0,0,0,0,0] 0 H
    refine J10 H ?_
    refine C_join (fun ms σ w => ms = [] ∧ ∃ b11 i g e s', Made s x0 x1 B i g e s' ∧ σ 5 = pp b5 ∧ σ 7 = pp p ∧ σ 10 = .int .i64 B ∧ σ 11 = pp b11 ∧ σ 12 = .int .i64 (e : Nat) ∧ Holds w (pts b11 (row 32 [.int .i64 (i : Nat), .int .i64 (g : Nat)]) :: CELL c s' :: RROW p c mo (.slice a' told.length cap') :: MODEL mo m :: TKL (.slice a' told.length cap') told :: pts b5 (row 77 [.int .i64 x0, .int .i64 x1, .int .i64 x2]) :: fr)) ?_ ?_
    · refine J1 H ?_
      clear H; intro w H
      refine J14 H ?_
      refine A_load1 3 [9, 14] H rfl (Wants.none rfl) rfl rfl (by kernel_rfl) ?_
      refine A_indexArr 4 rfl (Wants.none rfl) rfl rfl (by omega) (by decide) (by kernel_rfl) ?_
      refine A_load1 5 [9, 14] H rfl (Wants.none rfl) rfl rfl (by kernel_rfl) ?_
      refine A_indexArr 6 rfl (Wants.none rfl) rfl rfl (by omega) (by decide) (by kernel_rfl) ?_
      refine A_load1 7 [9, 14] H rfl (Wants.none rfl) rfl rfl (by kernel_rfl) ?_
      refine J57 H ?_
      refine A_two 9 13 rfl rfl (by kernel_rfl) (by repeat first | exact .nil | refine .cons (.inr H.at) ?_ | refine .cons (.inr H.mp) ?_ | refine .cons (.inl (by kernel_rfl)) ?_) (Wants.none rfl) (Wants.none rfl) (St_call (a := []) (b := []) rfl rfl (call (Make_all c s x0 x1 B F.seq H) ?_)) (St_alloc H rfl ?_)
      · clear H; rintro v w ⟨i, g, e, s', rfl, hM, H⟩
        refine J134 H ?_
        refine J86 H ?_
        refine Jo 13 H ?_
        refine St_alloc H rfl ?_
        clear H; intro b11 w H
        refine Jo 14 H ?_
        refine J33 H ?_
        clear H; intro w H
        refine J269 H ?_
        replace H := Js [0,0,0,0,0,0] 1 H
        exact ⟨rfl, rfl, b11, i, g, e, s', hM, rfl, rfl, rfl, rfl, rfl, H⟩
      · clear H; intro b11 w H
        refine Jo 9 H ?_
        refine Jk rfl rfl (Make_all c s x0 x1 B F.seq H.swap) ?_
        clear H; rintro v w ⟨i, g, e, s', rfl, hM, H⟩
        refine J134 H ?_
        refine J86 H ?_
        refine Jo 14 H ?_
        refine J33 H ?_
        clear H; intro w H
        refine J269 H ?_
        replace H := Js [1,0,0,0,0,0] 1 H
        exact ⟨rfl, rfl, b11, i, g, e, s', hM, rfl, rfl, rfl, rfl, rfl, H⟩
    clear H
    rintro ms σ w ⟨rfl, b11, i, g, e, s', hM, g5, g7, g10, g11, g12, H⟩
    rw [upd_self g5, upd_self g7, upd_self g10, upd_self g11, upd_self g12]
    obtain ⟨hm1, hm2⟩ := may_law R x0 x1 B
    refine J4 H ?_
    by_cases he : e = 0
    · subst he
      rcases hM with ⟨h1, _, _, h2, _⟩ | ⟨_, _, _, _, h2, _⟩ | ⟨_, _, _, _, h2, _⟩ | ⟨hE, _, g0, addr, hk, hg0, hbz, rfl, e0, e1, e2, e3, e4, e5, _⟩
      · exact absurd h2.symm h1
      · cases h2
      · cases h2
      have hmay : (mayM m x0 x1 B).2 = 0 := by rw [← hm1]; exact hE
      have RW := make_relW R hk e1 e3 e5
      obtain ⟨r, la, cn, ly, rfl, rfl, rfl, _⟩ := mayM_ok hmay
      have hil := (List.getElem?_eq_some_iff.1 hk).1
      obtain ⟨N, hN⟩ : ∃ N, makeN s ((la + 1 : Nat) : Int) (cn : Int) = N := ⟨_, rfl⟩
      rw [hN] at e5
      obtain ⟨E0, hE0⟩ : ∃ E0 : Ent, E0 = ⟨addr, (r : Int), true, false, la + 1, cn, List.replicate N 0⟩ := ⟨_, rfl⟩
      have hk' : s'.tab[i]? = some ⟨g0 + 1, some E0⟩ := by rw [e5, List.getElem?_set_self hil, hE0]; rfl
      have hv : validT s'.tab i ((g0 + 1 : Nat) : Int) = some (i, E0) := validT_some.2 ⟨lookT_some.2 ⟨g0 + 1, rfl, rfl, hk'⟩, by rw [hE0]⟩
      have hinf : tellV (some (i, E0)) = .tuple #[.agg #[.int .i64 r, .int .i64 ((la + 1 : Nat) : Int), .int .i64 cn, .int .i64 N, .bool false], .int .i64 0] := by
        rw [hE0]
        show Value.tuple #[.agg #[_, _, _, .int .i64 ((List.replicate N 0).length : Nat), _], _] = _
        rw [List.length_replicate]
      have hws : E0.ws.length = N := by rw [hE0]; exact List.length_replicate
      have hwz : ∀ j : Nat, E0.ws.getD j 0 = 0 := fun j => by rw [hE0]; exact rep_get N j
      refine J6 H ?_
      replace H := Js [1,0,0,0,0,0] 0 H
      refine J10 H ?_
      refine C_join (fun ms σ w => ms = [] ∧ ∃ b13, σ 5 = pp b5 ∧ σ 7 = pp p ∧ σ 10 = .int .i64 (cn : Int) ∧ σ 11 = pp b11 ∧ σ 13 = pp b13 ∧ σ 14 = .int .i64 0 ∧ Holds w (pts b13 (row 44 [.int .i64 r, .int .i64 ((la + 1 : Nat) : Int), .int .i64 cn, .int .i64 N, .bool false]) :: CELL c s' :: pts b11 (row 32 [.int .i64 (i : Nat), .int .i64 ((g0 + 1 : Nat) : Int)]) :: RROW p c mo (.slice a' told.length cap') :: MODEL mo m :: TKL (.slice a' told.length cap') told :: pts b5 (row 77 [.int .i64 r, .int .i64 ((la + 1 : Nat) : Int), .int .i64 x2]) :: fr)) ?_ ?_
      · refine J1 H ?_
        clear H; intro w H
        refine J229 H ?_
        refine A_two 5 9 rfl rfl (by kernel_rfl) (by repeat first | exact .nil | refine .cons (.inr H.at) ?_ | refine .cons (.inr H.mp) ?_ | refine .cons (.inl (by kernel_rfl)) ?_) (Wants.none rfl) (Wants.none rfl) (St_call (a := []) (b := []) rfl rfl (call (Tell_spec c s' i ((g0 + 1 : Nat) : Int) H) ?_)) (St_alloc H rfl ?_)
        · clear H; rintro v w ⟨rfl, H⟩
          rw [hv, hinf]
          refine J230 H ?_
          clear H; intro b13 w H
          refine J231 H ?_
          clear H; intro w H
          refine J93 H ?_
          exact ⟨rfl, rfl, b13, rfl, rfl, rfl, rfl, rfl, rfl, H⟩
        · clear H; intro b13 w H
          refine Jo 5 H ?_
          refine Jk rfl rfl (Tell_spec c s' i ((g0 + 1 : Nat) : Int) H.swap) ?_
          clear H; rintro v w ⟨rfl, H⟩
          rw [hv, hinf]
          refine J232 H ?_
          clear H; intro w H
          refine J93 H ?_
          exact ⟨rfl, rfl, b13, rfl, rfl, rfl, rfl, rfl, rfl, H.swap⟩
      clear H
      rintro ms σ w ⟨rfl, b13, g5, g7, g10, g11, g13, g14, H⟩
      rw [upd_self g5, upd_self g7, upd_self g10, upd_self g11, upd_self g13, upd_self g14]
      refine J8 H ?_
      refine J62 H ?_
      refine Lp_g rfl rfl rfl (St_indexArr rfl rfl (by omega) (by decide) rfl ?_)
      refine Lp_g rfl rfl rfl (St_load1 H rfl rfl rfl ?_)
      refine J21 H ?_
      rw [show ((r : Int) != (r : Int)) = false from bne_self_eq_false _]
      refine J174 H ?_
      refine Lp_g rfl rfl rfl (St_indexArr rfl rfl (by omega) (by decide) rfl ?_)
      refine Lp_g rfl rfl rfl (St_load1 H rfl rfl rfl ?_)
      refine J21 H ?_
      rw [show (((la + 1 : Nat) : Int) != ((la + 1 : Nat) : Int)) = false from bne_self_eq_false _]
      refine J174 H ?_
      refine J25 H ?_
      rw [show ((cn : Int) != (cn : Int)) = false from bne_self_eq_false _]
      refine J174 H ?_
      refine J19 H ?_
      refine J141 H ?_
      refine J0 H ?_
      replace H := H.drop
      have hNn : N < 100000 := by
        have := (mayM_ok hmay)
        obtain ⟨_, _, _, _, _, _, _, _, _, a1, a2, a3⟩ := this
        have := hm2 hmay
        rw [← hN, this, a1, a2]
        show _ < 100000
        dsimp only
        omega
      refine J10 H ?_
      refine C_join (fun ms σ w => ms = [] ∧ σ 5 = pp b5 ∧ σ 7 = pp p ∧ σ 11 = pp b11 ∧ Holds w (CELL c s' :: pts b11 (row 32 [.int .i64 (i : Nat), .int .i64 ((g0 + 1 : Nat) : Int)]) :: RROW p c mo (.slice a' told.length cap') :: MODEL mo m :: TKL (.slice a' told.length cap') told :: pts b5 (row 77 [.int .i64 r, .int .i64 ((la + 1 : Nat) : Int), .int .i64 x2]) :: fr)) ?_ ?_
      · refine C_block ?_
        refine C_loop (fun ms σ w n => ms = [] ∧ ∃ j : Nat, j ≤ N ∧ n = N - j ∧ σ 5 = pp b5 ∧ σ 7 = pp p ∧ σ 11 = pp b11 ∧ σ 109 = .int .i64 N ∧ σ 110 = .int .i64 j ∧ Holds w (CELL c s' :: pts b11 (row 32 [.int .i64 (i : Nat), .int .i64 ((g0 + 1 : Nat) : Int)]) :: RROW p c mo (.slice a' told.length cap') :: MODEL mo m :: TKL (.slice a' told.length cap') told :: pts b5 (row 77 [.int .i64 r, .int .i64 ((la + 1 : Nat) : Int), .int .i64 x2]) :: fr)) (m := N) ⟨rfl, 0, by omega, rfl, rfl, rfl, rfl, rfl, rfl, H⟩ ?_
        clear H
        rintro ms σ w n ⟨rfl, j, hj, rfl, g5, g7, g11, g109, g110, H⟩
        rw [upd_self g5, upd_self g7, upd_self g11, upd_self g109, upd_self g110]
        refine J26 H ?_
        refine C_dec rfl (fun h => C_skip ?_) (fun h => C_exit ?_)
        · have hjl : j < N := by omega
          have hpe : ∀ ref, placeE (layE s' E0) E0.ws.length (j : Int) ref = if isRefL (layE s' E0) j ≠ ref then 9 else 0 := fun ref => by
            unfold placeE
            rw [if_neg (by rw [hws]; omega), Int.toNat_natCast]
          have hGL : (getW s' i ((g0 + 1 : Nat) : Int) j = (0, 0) ∧ lookL s' i ((g0 + 1 : Nat) : Int) j = (.none, 9)) ∨ (getW s' i ((g0 + 1 : Nat) : Int) j = (0, 9) ∧ lookL s' i ((g0 + 1 : Nat) : Int) j = (.none, 0)) := by
            rw [getW_some hv, lookL_some hv, hpe, hpe, Int.toNat_natCast, hwz]
            cases isRefL (layE s' E0) j with
            | true => right; exact ⟨rfl, rfl⟩
            | false => left; exact ⟨rfl, rfl⟩
          have hG := fun (w : World) (fr : List HProp) (H : Holds w (CELL c s' :: fr)) => Get_spec c s' i ((g0 + 1 : Nat) : Int) j H
          have hLk := fun (w : World) (fr : List HProp) (H : Holds w (CELL c s' :: fr)) => Look_spec c s' i ((g0 + 1 : Nat) : Int) j H
          refine J164 H ?_
          refine J1 H ?_
          clear H; intro w H
          refine J125 H ?_
          refine J159 H ?_
          refine J36 H ?_
          refine Jo 6 H ?_
          refine Jk rfl rfl (hG _ _ H) ?_
          clear H; rintro v w ⟨rfl, H⟩
          rcases hGL with ⟨hg1, hg2⟩ | ⟨hg1, hg2⟩
          all_goals
            rw [hg1]
            rw [hg2] at hLk
            refine J65 H ?_
            refine J1 H ?_
            clear H; intro w H
            refine J161 H ?_
            refine J268 H ?_
            refine J36 H ?_
            refine A_two 6 10 rfl rfl (by kernel_rfl) (by repeat first | exact .nil | refine .cons (.inr H.at) ?_ | refine .cons (.inr H.mp) ?_ | refine .cons (.inl (by kernel_rfl)) ?_) (Wants.none rfl) (Wants.none rfl) (St_call (a := []) (b := []) rfl rfl (call (hLk _ _ H) ?_)) (St_alloc H rfl ?_)
            · clear H; rintro v w ⟨rfl, H⟩
              refine J162 H ?_
              clear H; intro b18 w H
              refine J98 H ?_
              clear H; intro w H
              refine J34 H ?_
              refine J70 H ?_
              refine Lp_s rfl (St_eqBool rfl rfl (.inl rfl) rfl ?_)
              refine J12 H ?_
              refine J243 H ?_
              refine Lp_g rfl rfl rfl (St_eqAgg rfl rfl rfl rfl (.inr rfl) rfl ?_)
              refine J242 H ?_
              exact ⟨_, ⟨rfl, j + 1, by omega, rfl, rfl, rfl, rfl, rfl, inc64 (by omega), H.drop⟩, by omega⟩
            · clear H; intro b18 w H
              refine Jo 6 H ?_
              refine Jk rfl rfl (hLk _ _ H.swap) ?_
              clear H; rintro v w ⟨rfl, H⟩
              refine J163 H ?_
              clear H; intro w H
              refine J34 H ?_
              refine J70 H ?_
              refine Lp_s rfl (St_eqBool rfl rfl (.inl rfl) rfl ?_)
              refine J12 H ?_
              refine J243 H ?_
              refine Lp_g rfl rfl rfl (St_eqAgg rfl rfl rfl rfl (.inr rfl) rfl ?_)
              refine J242 H ?_
              exact ⟨_, ⟨rfl, j + 1, by omega, rfl, rfl, rfl, rfl, rfl, inc64 (by omega), H.swap.drop⟩, by omega⟩
        · exact ⟨rfl, rfl, rfl, rfl, rfl, H⟩
      clear H
      rintro ms σ w ⟨rfl, g5, g7, g11, H⟩
      rw [upd_self g5, upd_self g7, upd_self g11]
      obtain ⟨q, mem, hw, hm, H⟩ := CELL_out H
      have hreg : (r : Int) ∈ s'.par.map (·.1) := by
        obtain ⟨_, _, qq, hq⟩ := hw.obj i (g0 + 1) E0 hk'
        rw [hE0] at hq
        exact List.mem_map.2 ⟨_, hq, rfl⟩
      obtain ⟨b2, hkM⟩ := fnd_keys (l := s'.mns) (f := fun x => x.1) (g := fun x => x.2.1) (k := (r : Int)) (by rw [hw.mkeys]; exact hreg)
      obtain ⟨⟨r1, b1, L⟩, m1, m2, hmns, h11, h12⟩ := fnd_split hkM
      obtain rfl : r1 = (r : Int) := h11
      obtain rfl : b1 = b2 := h12
      have hkM' : fnd (s'.mns.map mnkey) (r : Int) = some b1 := hkM
      have hL := hw.mine ((r : Int), b1, L) (by rw [hmns]; simp)
      have hiL : i ∈ L := (hL.2 i).2 ⟨g0 + 1, E0, hk', by rw [hE0]⟩
      have hL1 : L.length ≤ 100000 := by
        have := ris_len L 0 s'.tab.length (fun x hx => ⟨Nat.zero_le _, by obtain ⟨_, _, h, _⟩ := (hL.2 x).1 hx; exact (List.getElem?_eq_some_iff.1 h).1⟩) hL.1
        have := hw.slots.2
        omega
      replace H := Js [10,0,0,0,0,0,0,0,0,0,0,0,0,0,0,0] 0 H
      replace H : Holds w (BAG b1 L :: star ((m1 ++ m2).map mnres) :: _) := (Holds.pick (R := mnres) (x := ((r : Int), b1, L)) hmns).1 H
      refine J1 H ?_
      clear H; intro w H
      refine J14 H ?_
      refine A_load1 3 [12, 15] H rfl (Wants.none rfl) rfl rfl (by kernel_rfl) ?_
      refine J137 H ?_
      refine A_load1 6 [12, 15] H rfl (Wants.none rfl) rfl rfl (by kernel_rfl) ?_
      refine A_indexArr 7 rfl (Wants.none rfl) rfl rfl (by omega) (by decide) (by kernel_rfl) ?_
      refine A_load1 8 [12, 15] H rfl (Wants.none rfl) rfl rfl (by kernel_rfl) ?_
      refine A_lookup 9 [12, 15] (key := (r : Int)) H rfl (Wants.none rfl) rfl rfl tkI (by kernel_rfl) ?_
      rw [hkM']
      refine J200 H ?_
      refine A_load1 11 [12, 15] H rfl (Wants.none rfl) rfl rfl (by kernel_rfl) ?_
      refine Jo 12 H ?_
      refine Jk rfl rfl (gHas_spec b1 L i hL.1 hL1 H) ?_
      clear H; rintro v w ⟨rfl, H⟩
      replace H : Holds w (star (s'.mns.map mnres) :: _) := (Holds.pick (R := mnres) (x := ((r : Int), b1, L)) hmns).2 H
      replace H := Js [1,1,1,1,1,1,1,1,1,1,0,0,0,0,0,0] 0 H
      replace H := CELL_in hw hm H
      replace H := Js [2,0,1,1,0,0] 0 H
      replace H := RUN_in H
      rw [decide_eq_true hiL]
      refine J148 H ?_
      refine J131 H ?_
      refine Jo 15 H ?_
      refine Jk rfl rfl (Same15_spec p s' m told RW H) ?_
      clear H; rintro v w ⟨rfl, H⟩
      refine J82 H ?_
      refine J240 H ?_
      exact C_ret (Jy H.drop.drop.drop rfl fun w' H' => ⟨rfl, H'⟩)
    · obtain ⟨rfl, rfl, hs⟩ : i = 0 ∧ g = 0 ∧ s' = s := by
        rcases hM with ⟨_, h1, h2, _, h3⟩ | ⟨_, _, h1, h2, _, h3⟩ | ⟨_, _, h1, h2, _, h3⟩ | ⟨_, h1, _⟩
        · exact ⟨h1, h2, h3⟩
        · exact ⟨h1, h2, h3⟩
        · exact ⟨h1, h2, h3⟩
        · exact absurd h1 he
      rw [hs] at H
      rw [show (((e : Nat) : Int) != 0) = true by rw [bne_iff_ne]; omega]
      refine J11 H ?_
      replace H := Js [2,1,1,1,0] 1 H
      replace H := RUN_in H
      refine J262 H ?_
      refine Lp_s rfl (St_eqPair rfl rfl (.inl rfl) rfl ?_)
      refine J114 H ?_
      refine Lp_g rfl rfl rfl (St_call (a := []) (b := []) rfl rfl (call (Same15_spec p _ m told R.w H) ?_))
      clear H; rintro v w ⟨rfl, H⟩
      refine J3 H ?_
      exact C_ret (Jy H.drop.drop rfl fun w' H' => ⟨rfl, H'⟩)
end Go.Proofs.YtcaaojbnjfdglaaGreatDoor
