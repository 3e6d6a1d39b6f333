/- Cells: what is proved on the way: every input of the statement; no condition. Texts joined: LawV. -/
import Derived.Test.YtcaaojbnjfdglaaGreatDoorCgf
import Derived.Test.YtcaaojbnjfdglaaGreatDoorCgq
import Derived.Test.YtcaaojbnjfdglaaGreatDoorCgo
set_option linter.unusedVariables false
set_option linter.unusedSimpArgs false
set_option linter.unusedSectionVars false
namespace Go.Proofs.YtcaaojbnjfdglaaGreatDoor
open Go.SL

theorem Fresh.at {s : CS} {told : List (Nat × Nat)} (F : Fresh s told) {n k g : Nat} (ht : told[n]? = some (k, g)) : k = n ∧ g = 1 ∧ ∃ e, s.tab[n]? = some ⟨1, some e⟩ := by
  have hlt := (List.getElem?_eq_some_iff.1 ht).1
  have h2 : told[n]? = some (n, 1) := by
    rw [F.told, List.getElem?_map, List.getElem?_range hlt]
    rfl
  rw [ht] at h2
  injection h2 with h2
  injection h2 with h3 h4
  refine ⟨h3, h4, ?_⟩
  obtain ⟨r, hs⟩ := F.shape
  have h5 : (shapeT s.tab)[n]? = some (1, true) := by
    rw [hs, List.getElem?_append_left (by rw [List.length_replicate]; exact hlt), List.getElem?_replicate, if_pos hlt]
  unfold shapeT at h5
  rw [List.getElem?_map, Option.map_eq_some_iff] at h5
  obtain ⟨⟨tg, te⟩, h6, h7⟩ := h5
  injection h7 with h7 h8
  cases te with
  | none => cases h8
  | some e =>
    have h7 : tg = 1 := h7
    subst h7
    exact ⟨e, h6⟩
theorem busy_gone : ∀ ts : List Slt, busyT ts = ts.countP (fun t => t.ent.isSome) + goneT ts
  | [] => rfl
  | t :: ts => by
    have ih := busy_gone ts
    unfold busyT goneT at *
    rw [List.filter_cons, List.filter_cons, List.countP_cons]
    obtain ⟨g, e⟩ := t
    cases e with
    | some e =>
      have a : busy ⟨g, some e⟩ = true := rfl
      have b : ¬ ((⟨g, some e⟩ : Slt).ent.isNone && (⟨g, some e⟩ : Slt).gen == 255) = true := fun h => by cases h
      have c : (⟨g, some e⟩ : Slt).ent.isSome = true := rfl
      rw [if_pos a, if_neg b, if_pos c, List.length_cons]
      omega
    | none =>
      have c : ¬ (⟨g, none⟩ : Slt).ent.isSome = true := fun h => by cases h
      by_cases hg : (g == 255) = true
      · have a : busy ⟨g, none⟩ = true := hg
        have b : ((⟨g, none⟩ : Slt).ent.isNone && (⟨g, none⟩ : Slt).gen == 255) = true := hg
        rw [if_pos a, if_pos b, if_neg c, List.length_cons, List.length_cons]
        omega
      · have a : ¬ busy ⟨g, none⟩ = true := hg
        have b : ¬ ((⟨g, none⟩ : Slt).ent.isNone && (⟨g, none⟩ : Slt).gen == 255) = true := hg
        rw [if_neg a, if_neg b, if_neg c]
        omega
theorem used_less {ts : List Slt} {k n : Nat} {e : Ent} (hk : ts[k]? = some ⟨n, some e⟩) : busyT ts - goneT ts = (busyT (ts.set k ⟨n, none⟩) - goneT (ts.set k ⟨n, none⟩)) + 1 := by
  obtain ⟨hkl, hv⟩ := List.getElem?_eq_some_iff.1 hk
  rw [busy_gone, busy_gone, List.countP_set hkl, hv]
  have : 0 < ts.countP (fun t => t.ent.isSome) := List.countP_pos_iff.2 ⟨_, List.mem_of_getElem? hk, rfl⟩
  show _ = (ts.countP _ - (if true = true then 1 else 0) + (if false = true then 1 else 0) + _ - _) + 1
  rw [if_pos rfl, if_neg (by decide)]
  omega
theorem lose_rel {s s' : CS} {m : MS} {told : List (Nat × Nat)} (R : Rel s m told) {n k g : Nat} {x : Mob} (hx : m.objs[n]? = some x) (ht : told[n]? = some (k, g)) {e : Ent} (hk : s.tab[k]? = some ⟨g, some e⟩) (hL : Lost s k g s') : RelW s' (setM m n { x with gone := true }) told := by
  have hnl := (List.getElem?_eq_some_iff.1 hx).1
  refine ⟨by show told.length = (m.objs.set n _).length; rw [List.length_set]; exact R.len, by rw [hL.lays]; exact R.lays, by rw [hL.par]; exact R.tree, by rw [hL.par]; exact R.nd, ?_, ?_⟩
  · intro o y j i (ho : (m.objs.set n _)[o]? = some y) hj hy
    by_cases hon : n = o
    · subst hon
      rw [List.getElem?_set_self hnl] at ho
      injection ho with ho
      subst ho
      cases hy
    · rw [List.getElem?_set_ne hon] at ho
      obtain ⟨f, h1, h2⟩ := R.obj o y j i ho hj hy
      refine ⟨f, ?_, h2⟩
      rw [hL.tab, List.getElem?_set_ne]
      · exact h1
      · rintro rfl
        rw [hk] at h1
        injection h1 with h1
        injection h1 with h1 _
        subst h1
        exact hon (nd_at R.nodup ht hj)
  · intro o y j i (ho : (m.objs.set n _)[o]? = some y) hj hy f hf
    rw [hL.tab] at hf
    obtain ⟨h1, h2⟩ := tab_less hf
    by_cases hon : n = o
    · subst hon
      rw [ht] at hj
      injection hj with hj
      injection hj with hj _
      exact h1 hj.symm
    · rw [List.getElem?_set_ne hon] at ho
      exact R.gone o y j i ho hj hy f h2

set_option maxRecDepth 10000 in
theorem Loses_walk [Extra] (z1 z2 z3 : Int) (v : Value) (l : List Ac) (hl : l.length ≤ 9223372036854775807) (wh : Int) {w : World} {fr : List HProp} [hT : HasTab 0 Lib.deBruijn64tab fr] (hr : RdS fr v l.length 9 (acells l)) (hok : ∀ x ∈ l, AcOK fr x) (H : Holds w fr) :
    Calls Tryz.prog 11 #[.agg #[.int .i64 z1, .int .i64 z2, .int .i64 z3], v, .int .i64 wh] w (ret fun r w' => r = .bool true ∧ Holds w' fr) := by
  obtain ⟨_, ad, cap, rfl, hrd⟩ := id hr
  refine calls_of Tryz.func11 rfl (by kernel_rfl) ?_
  refine J5 H ?_
  clear H; intro b3 w H
  refine J0 H ?_
  refine J29 H ?_
  refine Jc rfl rfl (Of_spec z1 z2 z3 H) ?_
  clear H; rintro r w ⟨p, n, size, slots, rfl, hn1, hn2, hs1, hs2, ht1, ht2, H⟩
  refine J66 H ?_
  refine Jc rfl rfl (alive15_spec H) ?_
  clear H; rintro v w ⟨rfl, H⟩
  refine J120 H ?_
  refine J169 H ?_
  refine J120 H ?_
  refine Lp_g rfl rfl rfl (St_call (a := []) (b := []) rfl rfl (call (over_spec _ l hl hr.there.there (fun x hx => (hok x hx).there.there) H) ?_))
  clear H; rintro r w ⟨b, rfl, hb, H⟩
  cases b with
  | true =>
    refine J0 H ?_
    refine J11 H ?_
    refine J46 H ?_
    refine Jc rfl rfl (alive15_spec H) ?_
    clear H; rintro v w ⟨rfl, H⟩
    refine J144 H ?_
    refine Lp_g rfl rfl rfl (St_eqPtrNil rfl rfl (.inr rfl) rfl ?_)
    refine J4 H ?_
    exact C_ret (Jy H.drop.drop rfl fun w' H' => ⟨rfl, H'⟩)
  | false =>
    have h60 := hb rfl
    refine J18 H ?_
    refine J103 H ?_
    refine J14 H ?_
    refine C_join (fun ms σ w => ms = [] ∧ ∃ s m told, Rel s m told ∧ Fresh s told ∧ m.objs.length ≤ 60 ∧ σ 2 = .int .i64 wh ∧ σ 7 = pp p ∧ Holds w (RUN p s m told :: pts b3 (row 23 [.int .i64 z1, .int .i64 z2, .int .i64 z3]) :: fr)) ?_ ?_
    · refine C_block ?_
      refine C_loop (fun ms σ w n => ms = [] ∧ ∃ (i : Nat) (s : CS) (m : MS) (told : List (Nat × Nat)), i ≤ l.length ∧ n = l.length - i ∧ Rel s m told ∧ Fresh s told ∧ m.objs.length ≤ i ∧ m.P.length ≤ i + 1 ∧ σ 2 = .int .i64 wh ∧ σ 7 = pp p ∧ σ 33 = .slice ad l.length cap ∧ σ 34 = .int .i64 l.length ∧ σ 35 = .int .i64 i ∧ Holds w (RUN p s m told :: pts b3 (row 23 [.int .i64 z1, .int .i64 z2, .int .i64 z3]) :: fr)) (m := l.length) ⟨rfl, 0, _, _, _, by omega, rfl, rel0 n size slots, fresh0 n size slots, by decide, by decide, rfl, rfl, rfl, rfl, rfl, H⟩ ?_
      clear H
      rintro ms σ w n' ⟨rfl, i, s, m, told, hi, rfl, R, F, hob, hP, g0, gr, gsl, gle, gix, H⟩
      rw [upd_self g0, upd_self gr, upd_self gsl, upd_self gle, upd_self gix]
      refine J21 H ?_
      refine C_dec rfl (fun h => C_skip ?_) (fun h => C_exit ?_)
      · have hlt : i < l.length := by omega
        have hy := List.getElem?_eq_getElem hlt
        generalize l[i] = y at hy
        obtain ⟨hX, hws, hrW⟩ := hok y (List.mem_of_getElem? hy)
        rcases hrd with hz | ⟨b, o, E, fz, c, rfl, hA, hrd⟩
        · omega
        haveI := hA
        obtain ⟨k, A, B, C, X, vW, ws, raw, i1, gg1⟩ := y
        obtain ⟨_, adW, capW, hvW, _⟩ := id hrW
        replace hvW : vW = .slice adW ws.length capW := hvW
        subst hvW
        refine J68 H ?_
        refine Lp_s rfl (St_indexAddr rfl rfl (by omega) (by omega) rfl ?_)
        refine Lp_s rfl (St_loadN H rfl (acells_el hrd hy) rfl ?_)
        refine J17 H ?_
        clear H; intro b9 w H
        refine J7 H ?_
        clear H; intro w H
        refine Lp_nil ?_
        replace H := H.swap
        refine J39 H ?_
        refine Jc rfl rfl (Do_spec p s m told R F.seq (by omega) (by omega) k A B C i1 gg1 X hX _ ws hws raw hrW.there.there H) ?_
        clear H; rintro r w ⟨rfl, s', m', told', R', S', H⟩
        refine J18 H ?_
        refine J3 H ?_
        replace H := (H.swap).drop
        have h1 := S'.objs
        have h2 := S'.P
        exact ⟨_, ⟨rfl, i + 1, s', m', told', hlt, rfl, R', F.step S', by omega, by omega, rfl, rfl, rfl, rfl, inc64 (by omega), H⟩, by omega⟩
      · exact ⟨rfl, rfl, s, m, told, R, F, by omega, rfl, rfl, H⟩
    clear H
    rintro ms σ w ⟨rfl, s, m, told, R, F, hob, g0, gr, H⟩
    rw [upd_self g0, upd_self gr]
    obtain ⟨c, mo, a', cap', H⟩ := RUN_out H
    have htl : told.length ≤ 1000000 := by rw [R.len]; omega
    obtain ⟨_, _, hw, _, _⟩ := CELL_out H.swap
    obtain ⟨_, _, _, _, _, _, _, hmw, _⟩ := MODEL_out (H.sel [2, 0, 0, 0, 0] 0)
    replace H := Js [0,2,0,0,0] 0 H
    refine J112 H ?_
    refine J10 H ?_
    by_cases h0 : told = []
    · rw [show ((told.length : Int) == 0) = true by rw [h0]; rfl]
      refine Lp_nil ?_
      refine J31 H ?_
      exact C_ret (Jy H.drop.drop.drop.drop.drop rfl fun w' H' => ⟨rfl, H'⟩)
    have hne : told.length ≠ 0 := fun h => h0 (List.length_eq_zero_iff.1 h)
    rw [show ((told.length : Int) == 0) = false by rw [beq_eq_false_iff_ne]; omega]
    refine J237 H ?_
    refine J6 H ?_
    refine J45 H ?_
    refine Jc rfl rfl (pick_spec p c mo a' cap' told htl wh 0 0 false H) ?_
    clear H; rintro v w ⟨i', g', o, rfl, hPk, hp1, _, H⟩
    refine J19 H ?_
    clear H; intro b10 w H
    refine J7 H ?_
    clear H; intro w H
    refine J0 H ?_
    rcases hPk with ⟨k, gg, n', rfl, rfl, rfl, ht⟩ | ⟨rfl, _⟩
    case inr => exact absurd rfl (hp1 rfl h0)
    obtain ⟨hkn, hg1, e, hk⟩ := F.at ht
    subst hkn hg1
    have hkl := (List.getElem?_eq_some_iff.1 hk).1
    have hxl : k < m.objs.length := by rw [← R.len]; exact (List.getElem?_eq_some_iff.1 ht).1
    have hx := List.getElem?_eq_getElem hxl
    generalize m.objs[k] = x at hx
    have hxg : x.gone = false := by
      cases hg : x.gone with
      | false => rfl
      | true => exact absurd hk (R.gone k x k 1 hx ht hg e)
    obtain ⟨e2, hk2, hl'⟩ := R.obj k x k 1 hx ht hxg
    rw [hk] at hk2
    injection hk2 with hk2
    injection hk2 with _ hk2
    injection hk2 with hk2
    subst hk2
    replace H := Js [3,0,0,0,0,0] 0 H
    obtain ⟨q, mem, _, hm, H⟩ := CELL_out H
    have hu := used_less hk
    obtain ⟨N, hN⟩ : ∃ N, N = busyT (s.tab.set k ⟨1, none⟩) - goneT (s.tab.set k ⟨1, none⟩) := ⟨_, rfl⟩
    have hN63 : N ≤ 63 := by
      have h1 : busyT (s.tab.set k ⟨1, none⟩) ≤ (s.tab.set k ⟨1, none⟩).length := List.length_filter_le _ _
      rw [List.length_set] at h1
      have := hw.slots.2
      omega
    rw [← hN] at hu
    replace H := Js [4,0,10,0,0,0,0,0,0,0,0,0,0,0,0,0] 0 H
    refine J180 H ?_
    refine Jc rfl rfl (Used_spec q.tp s.tab H) ?_
    clear H; rintro v w ⟨rfl, H⟩
    rw [hu]
    refine J0 H ?_
    replace H := Js [1,2,2,2,0,1,1,1,1,1,1,1,0,0,0,0] 0 H
    replace H := CELL_in hw hm H
    clear hm
    refine J6 H ?_
    rw [show decide (((k : Nat) : Int) < 0) = false from decide_eq_false (by omega)]
    refine J237 H ?_
    replace H := Js [4,2,0,0,0,0] 0 H
    obtain ⟨t, lc, aL, cL, bO, cO, sO, ptrs, qo, vw, vk, vt, rest, hm, h2, hp, H, hclose⟩ := MODEL_at H hx
    have hm' : MWF (setM m k { x with gone := true }) := MWF_set hm (by obtain ⟨a, b, c, d, e⟩ := hm.objs x (List.mem_of_getElem? hx); exact ⟨a, b, c, d, e⟩)
    refine J140 H ?_
    refine Lp_s rfl (St_indexAddr rfl rfl (by omega) (by omega) rfl ?_)
    refine Lp_s rfl (St_load1 H rfl hp rfl ?_)
    refine J10 H ?_
    refine J28 H ?_
    refine J0 H ?_
    replace H := Js [11,0,0,0,0,0,0,0,0,0,0,0,0,0,0] 0 H
    refine J1 H ?_
    clear H; intro w H
    refine J141 H ?_
    refine Jk rfl rfl (Lose_spec c s k 1 e hk (by decide) F.inv.rk H) ?_
    clear H; rintro v w ⟨rfl, s1, hL, H⟩
    refine J2 H ?_
    have RW := lose_rel R hx ht hk hL
    refine J140 H ?_
    refine Lp_s rfl (St_indexAddr rfl rfl (by omega) (by omega) rfl ?_)
    refine Lp_s rfl (St_load1 H rfl hp rfl ?_)
    refine J56 H ?_
    clear H; intro w H
    refine Lp_nil ?_
    replace H := Js [1,1,1,1,1,1,1,1,1,1,1,0,0,0,0] 0 H
    replace H := hclose _ _ { x with gone := true } hm' H
    clear hclose hp
    replace H := Js [2,0,0,0,0,0] 0 H
    obtain ⟨q1, mem1, hw1, hm1, H⟩ := CELL_out H
    obtain ⟨_, _, y, hy⟩ := hw.obj k 1 e hk
    have hrk : (x.region : Int) ∈ s1.mns.map (·.1) := by rw [hw1.mkeys, hL.par, ← hl'.region]; exact List.mem_map.2 ⟨(e.region, y), hy, rfl⟩
    obtain ⟨b2, hkM⟩ := fnd_keys (l := s1.mns) (f := fun x => x.1) (g := fun x => x.2.1) (k := (x.region : Int)) hrk
    obtain ⟨⟨r1, b1, L⟩, m1, m2, hmns, h11, h12⟩ := fnd_split hkM
    have h11 : r1 = (x.region : Int) := h11
    have h12 : b1 = b2 := h12
    subst h11 h12
    have hkM' : fnd (s1.mns.map mnkey) (x.region : Int) = some b1 := hkM
    have hmL := hw1.mine ((x.region : Int), b1, L) (by rw [hmns]; simp)
    have hnk : ∀ g f, s1.tab[k]? ≠ some ⟨g, some f⟩ := fun g f hf => by
      rw [hL.tab] at hf
      exact (tab_less hf).1 rfl
    have hkL : k ∉ L := fun h => by
      obtain ⟨g, f, h3, _⟩ := (hmL.2 k).1 h
      exact hnk g f h3
    have hL1 : L.length ≤ 100000 := by
      have := ris_len L 0 64 (fun x hx => ⟨Nat.zero_le _, by
        obtain ⟨g, f, h3, _⟩ := (hmL.2 x).1 hx
        have h4 := (List.getElem?_eq_some_iff.1 h3).1
        have := hw1.slots.2
        omega⟩) hmL.1
      omega
    replace H := Js [4,0,10,10,8,7,4,0,0,0,0,0,0,0,0,0] 0 H
    refine J1 H ?_
    clear H; intro w H
    refine J164 H ?_
    refine J123 H ?_
    refine A_load1 6 [7] H rfl (Wants.none rfl) rfl rfl (by kernel_rfl) ?_
    refine J88 H ?_
    rw [show IntKind.i64.wrap (((N + 1 : Nat) : Int) - 1) = (N : Int) by rw [wrap64 (by omega) (by omega)]; omega]
    refine Jo 7 H ?_
    refine Jk rfl rfl (Used_spec q1.tp s1.tab H) ?_
    clear H; rintro v w ⟨rfl, H⟩
    rw [hL.tab, ← hN]
    refine J90 H ?_
    rw [show ((N : Int) != (N : Int)) = false from bne_self_eq_false _]
    refine J114 H ?_
    refine J255 H ?_
    refine J254 H ?_
    refine A_fieldAddr 14 rfl (Wants.of rfl rfl rfl) rfl (by kernel_rfl) ?_
    refine A_load1 15 [] H rfl (Wants.of rfl rfl rfl) rfl rfl (by kernel_rfl) ?_
    refine A_pv 16 rfl (Wants.of rfl rfl rfl) rfl (by kernel_rfl) ?_
    refine A_fieldAddr 17 rfl (Wants.of rfl rfl rfl) rfl (by kernel_rfl) ?_
    refine A_load1 18 [23] H rfl (Wants.of rfl rfl rfl) rfl rfl (by kernel_rfl) ?_
    refine A_pv 19 rfl (Wants.of rfl rfl rfl) rfl (by kernel_rfl) ?_
    replace H := Js [4,0,0,0,0,0,0,0,0,0,0,0,0,0,0,0] 0 H
    replace H : Holds w (BAG b1 L :: star ((m1 ++ m2).map mnres) :: _) := (Holds.pick (R := mnres) (x := ((x.region : Int), b1, L)) hmns).1 H
    refine A_lookup 20 [23] (key := (x.region : Int)) H rfl (Wants.of rfl rfl rfl) rfl rfl tkI (by kernel_rfl) ?_
    rw [hkM']
    refine A_fieldAddr 21 rfl (Wants.of rfl rfl rfl) rfl (by kernel_rfl) ?_
    refine A_load1 22 [] H rfl (Wants.of rfl rfl rfl) rfl rfl (by kernel_rfl) ?_
    refine Jo 23 H ?_
    refine Jk rfl rfl (gHas_spec b1 L k hmL.1 hL1 H) ?_
    clear H; rintro v w ⟨rfl, H⟩
    rw [decide_eq_false hkL]
    replace H := (Holds.pick (R := mnres) (x := ((x.region : Int), b1, L)) hmns).2 H
    replace H := Js [6,2,2,2,0,0,0,0,0,0,0,0,0,0,0,0] 0 H
    refine J115 H ?_
    refine J241 H ?_
    refine A_pv 27 rfl (Wants.of rfl rfl rfl) rfl (by kernel_rfl) ?_
    refine A_fieldAddr 28 rfl (Wants.of rfl rfl rfl) rfl (by kernel_rfl) ?_
    refine J268 H ?_
    refine A_pv 30 rfl (Wants.of rfl rfl rfl) rfl (by kernel_rfl) ?_
    refine A_fieldAddr 31 rfl (Wants.of rfl rfl rfl) rfl (by kernel_rfl) ?_
    refine A_load1 32 [35] H rfl (Wants.of rfl rfl rfl) rfl rfl (by kernel_rfl) ?_
    refine J242 H ?_
    refine A_load1 34 [] H rfl (Wants.of rfl rfl rfl) rfl rfl (by kernel_rfl) ?_
    refine Jo 35 H ?_
    refine Jk rfl rfl (rFrom_spec q1.rp s1.rem (rem_len hw1 (hL.rk F.inv.rk)) k H) ?_
    clear H; rintro v w ⟨ks, hks, _, H⟩
    have hk0 : ks = [] := List.eq_nil_iff_forall_not_mem.2 fun r hr => by
      obtain ⟨h1, h2⟩ := (hks r).1 hr
      rw [hL.rem, if_pos h1] at h2
      cases h2
    subst hk0
    obtain ⟨af, cf, rfl⟩ := sls_slice H (m := 0) rfl (by decide)
    replace H := H.drop
    replace H := Js [1,6,6,6,4,5,0,4,4,3,2,0,0,0,0,0] 0 H
    replace H := CELL_in hw1 hm1 H
    refine A_lenSlice 36 rfl (Wants.of rfl rfl rfl) rfl (by kernel_rfl) ?_
    refine A_pv 37 rfl (Wants.of rfl rfl rfl) rfl (by kernel_rfl) ?_
    refine A_pv 38 rfl (Wants.none rfl) rfl (by kernel_rfl) ?_
    refine A_pv 39 rfl (Wants.none rfl) rfl (by kernel_rfl) ?_
    refine A_pv 40 rfl (Wants.of rfl rfl rfl) rfl (by kernel_rfl) ?_
    refine A_pv 41 rfl (Wants.of rfl rfl rfl) rfl (by kernel_rfl) ?_
    refine A_fieldAddr 42 rfl (Wants.of rfl rfl rfl) rfl (by kernel_rfl) ?_
    refine A_load1 43 [] H rfl (Wants.of rfl rfl rfl) rfl rfl (by kernel_rfl) ?_
    refine A_fieldAddr 44 rfl (Wants.of rfl rfl rfl) rfl (by kernel_rfl) ?_
    refine A_load1 45 [] H rfl (Wants.of rfl rfl rfl) rfl rfl (by kernel_rfl) ?_
    have hno : ¬ Used s1.tab (k : Int) := by
      rintro ⟨k2, n2, f, h1, h2⟩
      obtain rfl : k = k2 := by omega
      exact hnk n2 f h2
    refine Jo 46 H ?_
    refine Jk rfl rfl (Targets_no c s1 k hno H) ?_
    clear H; rintro v w ⟨rfl, H⟩
    refine A_lenSlice 47 rfl (Wants.of rfl rfl rfl) rfl (by kernel_rfl) ?_
    refine A_pv 48 rfl (Wants.of rfl rfl rfl) rfl (by kernel_rfl) ?_
    refine A_pv 49 rfl (Wants.none rfl) rfl (by kernel_rfl) ?_
    refine J2 H ?_
    refine J8 H ?_
    obtain ⟨q2, mem2, hw2, hm2, H⟩ := CELL_out H
    have hLn : lookT s1.tab k ((1 : Nat) : Int) = none := by
      cases hv : lookT s1.tab k ((1 : Nat) : Int) with
      | none => rfl
      | some z =>
        obtain ⟨k2, f⟩ := z
        obtain ⟨n2, h1, h2, h3⟩ := lookT_some.1 hv
        obtain rfl : k = k2 := by omega
        exact absurd h3 (hnk n2 f)
    replace H := Js [4,0,9,9,0,0,0,0,0,0,0,0,0,0,0,0] 0 H
    refine J1 H ?_
    clear H; intro w H
    refine J16 H ?_
    refine A_load1 3 [8, 13] H rfl (Wants.none rfl) rfl rfl (by kernel_rfl) ?_
    refine J123 H ?_
    refine A_load1 6 [8, 13] H rfl (Wants.none rfl) rfl rfl (by kernel_rfl) ?_
    refine A_loadN 7 [8, 13] H rfl (Wants.none rfl) rfl (by repeat (first | exact Reads.nil _ | apply Reads.cons rfl)) (by kernel_rfl) ?_
    refine A_two 8 12 rfl rfl (by kernel_rfl) (by repeat first | exact .nil | refine .cons (.inr H.at) ?_ | refine .cons (.inr H.mp) ?_ | refine .cons (.inl (by kernel_rfl)) ?_) (Wants.none rfl) (Wants.none rfl) (St_call (a := []) (b := []) rfl rfl (call (tGetV_spec q2.tp s1.tab k ((1 : Nat) : Int) H) ?_)) (St_alloc H rfl ?_)
    · clear H; rintro v w ⟨rfl, H⟩
      rw [hLn]
      refine J40 H ?_
      refine J142 H ?_
      refine Jo 12 H ?_
      refine St_alloc H rfl ?_
      clear H; intro b14 w H
      refine Jo 13 H ?_
      refine J35 H ?_
      clear H; intro w H
      refine J252 H ?_
      refine J34 H ?_
      replace H := Js [2,4,4,4,1,3,3,3,3,3,3,1,2,2,2,1,0] 0 H
      have H := CELL_in hw2 hm2 H
      replace H := Js [1,0,0,0,0,0,0] 0 H
      replace H := RUN_in (m := setM m k { x with gone := true }) H
      refine J20 H ?_
      refine Jc rfl rfl (Same15_spec p s1 _ told RW H) ?_
      clear H; rintro v w ⟨rfl, H⟩
      refine J0 H ?_
      exact C_ret (Jy H.drop.drop.drop.drop rfl fun w' H' => ⟨rfl, H'⟩)
    · clear H; intro b14 w H
      refine Jo 8 H ?_
      refine Jk rfl rfl (tGetV_spec q2.tp s1.tab k ((1 : Nat) : Int) H.swap) ?_
      clear H; rintro v w ⟨rfl, H⟩
      rw [hLn]
      refine J40 H ?_
      refine J142 H ?_
      replace H := H.swap
      refine Jo 13 H ?_
      refine J35 H ?_
      clear H; intro w H
      refine J252 H ?_
      refine J34 H ?_
      replace H := Js [2,4,4,4,1,3,3,3,3,3,3,1,2,2,2,1,0] 0 H
      have H := CELL_in hw2 hm2 H
      replace H := Js [1,0,0,0,0,0,0] 0 H
      replace H := RUN_in (m := setM m k { x with gone := true }) H
      refine J20 H ?_
      refine Jc rfl rfl (Same15_spec p s1 _ told RW H) ?_
      clear H; rintro v w ⟨rfl, H⟩
      refine J0 H ?_
      exact C_ret (Jy H.drop.drop.drop.drop rfl fun w' H' => ⟨rfl, H'⟩)
end Go.Proofs.YtcaaojbnjfdglaaGreatDoor
