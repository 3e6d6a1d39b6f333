/- TokenSorts: the walk. No condition. -/
import Derived.Test.YtdpephigccnkdaaDoorTokK
import Derived.Test.YtdpephigccnkdaaDoorSlN
set_option linter.unusedVariables false
set_option linter.unusedSimpArgs false
set_option linter.unusedSectionVars false
namespace Go.Proofs.YtdpephigccnkdaaDoor
open Go.SL

/-- Tokens that were handed in, as they lie. -/
def TokIn (W : World) (ad : Option Addr) (ts : List Tk) : Prop :=
  ts = [] ∨ ∃ b o E fz c, ad = some ⟨b, o, none⟩ ∧ W.heap[b]? = some (.cells (List.toArray c) E fz) ∧ ∀ i t, ts[i]? = some t → Reads c (o + i * 2) 2 [.int .i64 t.1, .int .i64 t.2]

theorem reads_toks {c : List Value} : ∀ {ts : List Tk} {o : Nat}, (∀ i t, ts[i]? = some t → Reads c (o + i * 2) 2 [.int .i64 t.1, .int .i64 t.2]) → Reads c o (ts.length * 2) (tcells ts)
  | [], o, _ => .nil o
  | t :: ts, o, h => by
    have h0 := h 0 t rfl
    have ih := reads_toks (ts := ts) (o := o + 2) fun i u hu => by
      have := h (i + 1) u (by simpa using hu)
      rw [show o + 2 + i * 2 = o + (i + 1) * 2 by omega]
      exact this
    rw [List.length_cons, Nat.succ_mul]
    show Reads c o (ts.length * 2 + 2) (.int .i64 t.1 :: .int .i64 t.2 :: tcells ts)
    cases h0 with
    | cons g0 g => cases g with | cons g1 g => exact .cons g0 (.cons g1 ih)

theorem tokIn_rd {W : World} {ad : Option Addr} {cap m : Nat} {ts : List Tk} (h : TokIn W ad ts) (hm : m ≤ ts.length) (fr : List HProp) : RdS (old W :: fr) (.slice ad m cap) m 2 (tcells (ts.take m)) := by
  have hlen : (ts.take m).length = m := by rw [List.length_take]; omega
  refine ⟨by rw [tcells_length, hlen], ad, cap, rfl, ?_⟩
  rcases h with rfl | ⟨b, o, E, fz, c, rfl, hb, hr⟩
  · exact .inl (by simpa using hm)
  · haveI : InOld W b (.cells (List.toArray c) E fz) := ⟨hb⟩
    refine .inr ⟨b, o, E, fz, c, rfl, inferInstance, ?_⟩
    have := reads_toks (c := c) (ts := ts.take m) (o := o) fun i t ht => by
      rw [List.getElem?_take] at ht
      split at ht
      · exact hr i t ht
      · cases ht
    rw [hlen] at this
    exact this

theorem in_snoc (L : List Tk) (j : Nat) (y z : Tk) (h : L[j]? = some z) : decide (y ∈ L.take (j + 1)) = (decide (y ∈ L.take j) || decide (z = y)) := by
  rw [List.take_add_one, h, Bool.eq_iff_iff]
  simp
  exact or_congr Iff.rfl eq_comm

theorem nodup_len {a b : List Tk} (h : a.Nodup) (hs : ∀ t ∈ a, t ∈ b) : a.length ≤ b.length := by
  induction a generalizing b with
  | nil => simp
  | cons x a ih =>
    have h2 := List.nodup_cons.1 h
    have hx := hs x (by simp)
    have := ih (b := b.erase x) h2.2 fun t ht => (List.mem_erase_of_ne (fun e => h2.1 (by rw [← e]; exact ht))).2 (hs t (by simp [ht]))
    rw [List.length_erase_of_mem hx] at this
    have := List.length_pos_of_mem hx
    rw [List.length_cons]
    omega

set_option maxHeartbeats 8000000 in
theorem Sorts_walk {W : World} (hp : Pow W) (ad : Option Addr) (cap : Nat) (ts : List Tk) (hc : ts.length ≤ cap) (hm : ts.length ≤ maxLen) (hin : TokIn W ad ts) {w : World} [Extra] (H : Holds w [old W]) :
    Calls Tryd.prog 6 #[.slice ad ts.length cap] w (ret fun x w' => x = .bool true ∧ Holds w' [old W]) := by
  refine calls_of Tryd.func6 rfl (by kernel_rfl) ?_
  repeat refine C_seq ?_
  refine C_region ?_
  first | refine Lp_pv rfl rfl ?_ | refine Lp_mv rfl rfl ?_
  refine Lp_nil ?_
  repeat refine C_seq ?_
  refine C_region ?_
  refine Lp_s rfl (St_buildSlice0 H rfl ?_); clear H; intro b19 w H
  first | refine Lp_pv rfl rfl ?_ | refine Lp_mv rfl rfl ?_
  first | refine Lp_pv rfl rfl ?_ | refine Lp_mv rfl rfl ?_
  refine Lp_s rfl (St_lenSlice rfl rfl ?_)
  refine Lp_s rfl (St_min rfl rfl rfl ?_)
  rw [show (if (100 : Int) < (ts.length : Int) then (100 : Int) else (ts.length : Int)) = ((min ts.length 100 : Nat) : Int) by split <;> omega]
  refine Lp_s rfl (St_sliceToA rfl rfl (by omega) (by omega) rfl ?_)
  have hlen : (ts.take (min ts.length 100)).length = min ts.length 100 := by rw [List.length_take]; omega
  have hrd := tokIn_rd (cap := cap) (m := min ts.length 100) hin (by omega) []
  generalize ts.take (min ts.length 100) = L at hrd hlen
  have hL : L.length ≤ 100 := by omega
  refine Lp_s rfl (St_appendS H rfl rfl (m := min ts.length 100) hrd (tcells_all L) (by rw [tcells_length, List.length_nil]; omega) rfl rfl ?_); clear H; intro v25 w H
  rw [List.nil_append] at H
  obtain ⟨a0, c0, rfl⟩ := sls_slice H (tcells_length L) (by decide)
  first | refine Lp_pv rfl rfl ?_ | refine Lp_mv rfl rfl ?_
  refine Lp_nil ?_
  obtain ⟨D, H, hD, hclose⟩ := sls_rd H (tcells_length L) (by decide)
  repeat refine C_seq ?_
  refine C_region ?_
  refine Lp_s rfl (St_buildSlice0 H rfl ?_); clear H; intro b26 w H
  refine Lp_pv rfl rfl ?_
  refine Lp_s rfl (St_appendS H rfl rfl (m := L.length) (hD _) (tcells_all L) (by rw [tcells_length, List.length_nil]; omega) rfl rfl ?_); clear H; intro v28 w H
  rw [List.nil_append] at H
  obtain ⟨a3, c3, rfl⟩ := sls_slice H (tcells_length L) (by decide)
  first | refine Lp_pv rfl rfl ?_ | refine Lp_mv rfl rfl ?_
  refine Lp_nil ?_
  repeat refine C_seq ?_
  refine C_region ?_
  first | refine Lp_pv rfl rfl ?_ | refine Lp_mv rfl rfl ?_
  refine Lp_s rfl (St_call (a := []) (b := []) rfl rfl (call (Sort_spec _ L (by omega) (hD _) H.swap) ?_))
  clear H
  rintro x w ⟨v', us, e, rfl, hs, H⟩
  obtain ⟨a4, c4, rfl⟩ := sls_slice H (tcells_length us) (by decide)
  replace H : Holds w [TL (.slice a0 L.length c0) L, TL (.slice a4 us.length c4) us, TL (.slice a3 L.length c3) L, old W] := hclose _ _ H.swap
  first | refine Lp_pv rfl rfl ?_ | refine Lp_mv rfl rfl ?_
  refine Lp_pv rfl rfl ?_
  refine Lp_pv rfl rfl ?_
  first | refine Lp_pv rfl rfl ?_ | refine Lp_mv rfl rfl ?_
  first | refine Lp_pv rfl rfl ?_ | refine Lp_mv rfl rfl ?_
  refine Lp_nil ?_
  repeat refine C_seq ?_
  refine C_region ?_
  first | refine Lp_pv rfl rfl ?_ | refine Lp_mv rfl rfl ?_
  refine Lp_nil ?_
  repeat refine C_seq ?_
  refine C_region ?_
  first | refine Lp_pv rfl rfl ?_ | refine Lp_mv rfl rfl ?_
  refine Lp_s rfl (St_lenSlice rfl rfl ?_)
  first | refine Lp_pv rfl rfl ?_ | refine Lp_mv rfl rfl ?_
  refine Lp_nil ?_
  repeat refine C_seq ?_
  refine C_block ?_
  refine C_loop (fun ms σ w n => ms = [] ∧ ∃ i : Nat, i ≤ L.length ∧ n = L.length - i ∧ σ 0 = .slice a0 L.length c0 ∧ σ 3 = .slice a3 L.length c3 ∧ σ 4 = .slice a4 us.length c4 ∧ σ 5 = .int .i64 e ∧ σ 6 = .bool ((L.take i).any fun t => !rightB t) ∧ σ 34 = .slice a3 L.length c3 ∧ σ 35 = .int .i64 L.length ∧ σ 36 = .int .i64 i ∧
    Holds w [TL (.slice a0 L.length c0) L, TL (.slice a4 us.length c4) us, TL (.slice a3 L.length c3) L, old W]) (m := L.length) ⟨rfl, 0, by omega, rfl, rfl, rfl, rfl, rfl, ?_, rfl, rfl, rfl, H⟩ ?_
  · rw [List.take_zero]; rfl
  clear H hD hclose hrd
  rintro ms σ w n ⟨rfl, i, hi, rfl, g0, g3, g4, g5, g6, g34, g35, g36, H⟩
  rw [upd_self g0, upd_self g3, upd_self g4, upd_self g5, upd_self g6, upd_self g34, upd_self g35, upd_self g36]
  repeat refine C_seq ?_
  refine C_region ?_
  refine Lp_pv rfl rfl ?_
  refine Lp_nil ?_
  repeat refine C_seq ?_
  refine C_dec rfl (fun h => C_skip ?_) (fun h => C_exit ?_)
  · have hlt : i < L.length := by omega
    have hy := List.getElem?_eq_getElem hlt
    generalize L[i] = y at hy
    have htk : L.take (i + 1) = L.take i ++ [y] := by rw [List.take_add_one, hy]; rfl
    obtain ⟨y1, y2⟩ := y
    replace H := Holds.sel [2, 0, 0, 0] 0 H; dsimp only [SL.sel, SL.pull, List.drop] at H
    obtain ⟨bo, so, rfl, H, hclose⟩ := sls_open H (by omega)
    obtain ⟨bo2, so2, rfl, H, hclose2⟩ := sls_open H.swap (by omega)
    repeat refine C_seq ?_
    refine C_block ?_
    repeat refine C_seq ?_
    refine C_region ?_
    first | refine Lp_pv rfl rfl ?_ | refine Lp_mv rfl rfl ?_
    refine Lp_s rfl (St_indexAddr rfl rfl (by omega) (by omega) rfl ?_)
    refine Lp_s rfl (St_loadN H rfl (tcells_reads hy) rfl ?_)
    (refine Lp_s rfl (St_alloc H rfl ?_); clear H; intro b8 w H)
    first | refine Lp_pv rfl rfl ?_ | refine Lp_mv rfl rfl ?_
    first | (refine Lp_s rfl (St_store1 H rfl rfl inferInstance rfl (Nat.le_of_ble_eq_true rfl) rfl ?_); clear H; intro w H) | (refine Lp_s rfl (St_storeN H rfl rfl inferInstance rfl rfl (Nat.le_of_ble_eq_true rfl) rfl ?_); clear H; intro w H)
    refine Lp_nil ?_
    repeat refine C_seq ?_
    refine C_join (fun ms σ w => ms = [] ∧ σ 0 = .slice (some ⟨bo2, 0, none⟩) L.length c0 ∧ σ 3 = .slice (some ⟨bo, 0, none⟩) L.length c3 ∧ σ 4 = .slice a4 us.length c4 ∧ σ 5 = .int .i64 e ∧ σ 6 = .bool ((L.take (i + 1)).any fun t => !rightB t) ∧ σ 7 = .int .i64 i ∧ σ 8 = .pointer (some ⟨b8, 0, none⟩) ∧ σ 34 = .slice (some ⟨bo, 0, none⟩) L.length c3 ∧ σ 35 = .int .i64 L.length ∧ σ 36 = .int .i64 i ∧
      Holds w [pts b8 (row 23 [.int .i64 y1, .int .i64 y2]), pts bo2 (row 23 (tcells L ++ so2)), pts bo (row 23 (tcells L ++ so)), TL (.slice a4 us.length c4) us, old W]) ?_ ?_
    · have hw2 : ((L.take (i + 1)).any fun t => !rightB t) = ((L.take i).any (fun t => !rightB t) || !rightB (y1, y2)) := by
        rw [htk, List.any_append, List.any_cons, List.any_nil, Bool.or_false]
      rw [hw2]
      cases hw : (L.take i).any fun t => !rightB t with
      | true =>
        rw [Bool.true_or]
        repeat refine C_seq ?_
        refine C_region ?_
        first | refine Lp_pv rfl rfl ?_ | refine Lp_mv rfl rfl ?_
        first | refine Lp_pv rfl rfl ?_ | refine Lp_mv rfl rfl ?_
        first | refine Lp_g rfl rfl rfl (St_load1 H rfl rfl rfl ?_) | refine Lp_g rfl rfl rfl (St_loadN H rfl (by repeat (first | exact Reads.nil _ | apply Reads.cons rfl)) rfl ?_) | refine Lp_no rfl rfl rfl ?_ | refine Lp_nn rfl rfl ?_
        refine Lp_no rfl rfl rfl ?_
        first | refine Lp_gpv rfl rfl rfl rfl ?_ | refine Lp_no rfl rfl rfl ?_ | refine Lp_nn rfl rfl ?_
        refine Lp_pv rfl rfl ?_
        first | refine Lp_pv rfl rfl ?_ | refine Lp_mv rfl rfl ?_
        refine Lp_nil ?_
        exact ⟨rfl, rfl, rfl, rfl, rfl, rfl, rfl, rfl, rfl, rfl, rfl, rfl, H⟩
      | false =>
        rw [Bool.false_or]
        repeat refine C_seq ?_
        refine C_region ?_
        first | refine Lp_pv rfl rfl ?_ | refine Lp_mv rfl rfl ?_
        first | refine Lp_pv rfl rfl ?_ | refine Lp_mv rfl rfl ?_
        first | refine Lp_g rfl rfl rfl (St_load1 H rfl rfl rfl ?_) | refine Lp_g rfl rfl rfl (St_loadN H rfl (by repeat (first | exact Reads.nil _ | apply Reads.cons rfl)) rfl ?_) | refine Lp_no rfl rfl rfl ?_ | refine Lp_nn rfl rfl ?_
        refine Lp_g rfl rfl rfl (St_call (a := []) (b := []) rfl rfl (call (rRight_spec (y1, y2) H) ?_))
        clear H; rintro v w ⟨rfl, H⟩
        first | refine Lp_gpv rfl rfl rfl rfl ?_ | refine Lp_no rfl rfl rfl ?_ | refine Lp_nn rfl rfl ?_
        refine Lp_pv rfl rfl ?_
        first | refine Lp_pv rfl rfl ?_ | refine Lp_mv rfl rfl ?_
        refine Lp_nil ?_
        exact ⟨rfl, rfl, rfl, rfl, rfl, rfl, rfl, rfl, rfl, rfl, rfl, rfl, H⟩
    · clear H
      rintro ms σ w ⟨rfl, g0, g3, g4, g5, g6, g7, g8, g34, g35, g36, H⟩
      rw [upd_self g0, upd_self g3, upd_self g4, upd_self g5, upd_self g6, upd_self g7, upd_self g8, upd_self g34, upd_self g35, upd_self g36]
      repeat refine C_seq ?_
      refine C_drawH H mixed ?_
      clear H; intro w H
      refine A_pv 0 rfl (Wants.none rfl) rfl (by kernel_rfl) ?_
      refine A_pv 1 rfl (Wants.none rfl) rfl (by kernel_rfl) ?_
      refine A_indexAddr 2 rfl (Wants.none rfl) rfl rfl (by omega) (by omega) (by kernel_rfl) ?_
      refine A_loadN 3 [] H rfl (Wants.none rfl) rfl (tcells_reads hy) (by kernel_rfl) ?_
      first | refine A_load1 4 [] H rfl (Wants.none rfl) rfl rfl (by kernel_rfl) ?_ | refine A_loadN 4 [] H rfl (Wants.none rfl) rfl (by repeat (first | exact Reads.nil _ | apply Reads.cons rfl)) (by kernel_rfl) ?_
      first | refine A_pv 5 rfl (Wants.none rfl) rfl (by kernel_rfl) ?_ | refine A_eqPair 5 rfl (Wants.none rfl) rfl rfl (.inr rfl) (by kernel_rfl) ?_ | refine A_eqPtrNil 5 rfl (Wants.none rfl) rfl rfl (.inr rfl) (by kernel_rfl) ?_ | refine A_eqBool 5 rfl (Wants.none rfl) rfl rfl (.inr rfl) (by kernel_rfl) ?_ | refine A_eqS 5 rfl (Wants.none rfl) rfl rfl (.inr rfl) (by kernel_rfl) ?_ | refine A_eqStr 5 rfl (Wants.none rfl) rfl rfl (.inr rfl) (by kernel_rfl) ?_
      refine A_end (by kernel_rfl) (by repeat (first | exact InvL.nil | refine InvL.cons (.inr (Holds.at H)) ?_ | refine InvL.cons (.inr (Holds.mp H)) ?_ | refine InvL.cons (.inl (by kernel_rfl)) ?_)) ?_
      repeat refine C_seq ?_
      refine C_cond rfl (fun h => absurd h (by simp [isEql])) (fun h => C_skip ?_)
      repeat refine C_seq ?_
      refine C_region ?_
      refine Lp_pv rfl rfl ?_
      first | refine Lp_pv rfl rfl ?_ | refine Lp_mv rfl rfl ?_
      refine Lp_nil ?_
      replace H := hclose2 _ _ H.drop
      replace H := hclose _ _ H.swap
      replace H := Holds.sel [1, 1, 0, 0] 0 H; dsimp only [SL.sel, SL.pull, List.drop] at H
      exact ⟨_, ⟨rfl, i + 1, hlt, rfl, rfl, rfl, rfl, rfl, rfl, rfl, rfl, inc64 (by omega), H⟩, by omega⟩
  · have hge : i = L.length := by omega
    subst hge
    rw [List.take_length]
    replace H := H.drop
    repeat refine C_seq ?_
    refine C_joinQ (fun ms σ w => ms = [] ∧ e = 0 ∧ RisT us ∧ (∀ t, t ∈ us ↔ t ∈ L) ∧ σ 3 = .slice a3 L.length c3 ∧ σ 4 = .slice a4 us.length c4 ∧ σ 5 = .int .i64 e ∧ Holds w [TL (.slice a4 us.length c4) us, TL (.slice a3 L.length c3) L, old W]) ?_ ?_
    · refine C_block ?_
      by_cases hw : ∃ t ∈ L, rightB t = false
      · have hwb : (L.any fun t => !rightB t) = true := by
          obtain ⟨t, h1, h2⟩ := hw
          exact List.any_eq_true.2 ⟨t, h1, by rw [h2]; rfl⟩
        rw [hwb]
        have he : e = 3 ∧ us = [] := by
          rcases hs with ⟨h1, h2, _⟩ | ⟨_, _, h3, _⟩ | ⟨_, h3, _⟩
          · exact ⟨h1, h2⟩
          · obtain ⟨t, h4, h5⟩ := hw
            rw [h3 t h4] at h5; cases h5
          · obtain ⟨t, h4, h5⟩ := hw
            rw [h3 t h4] at h5; cases h5
        obtain ⟨rfl, rfl⟩ := he
        repeat refine C_seq ?_
        refine C_region ?_
        first | refine Lp_pv rfl rfl ?_ | refine Lp_mv rfl rfl ?_
        first | refine Lp_pv rfl rfl ?_ | refine Lp_mv rfl rfl ?_
        refine Lp_nil ?_
        repeat refine C_seq ?_
        refine C_true rfl ?_
        repeat refine C_seq ?_
        refine C_region ?_
        replace H := Holds.sel [2] 2 H; dsimp only [SL.sel, SL.pull, List.drop] at H
        refine Lp_s rfl (St_call (a := []) (b := []) rfl rfl (call (talive_spec hp H) ?_))
        clear H; rintro v w ⟨rfl, H⟩
        first | refine Lp_pv rfl rfl ?_ | refine Lp_mv rfl rfl ?_
        first | refine Lp_gpv rfl rfl rfl rfl ?_ | refine Lp_no rfl rfl rfl ?_ | refine Lp_nn rfl rfl ?_
        first | refine Lp_gpv rfl rfl rfl rfl ?_ | refine Lp_g rfl rfl rfl (St_eqPtrNil rfl rfl (.inl rfl) rfl ?_) | refine Lp_g rfl rfl rfl (St_eqMapNil rfl rfl (.inl rfl) rfl ?_) | refine Lp_g rfl rfl rfl (St_eqPair rfl rfl (.inl rfl) rfl ?_) | refine Lp_g rfl rfl rfl (St_eqBool rfl rfl (.inl rfl) rfl ?_) | refine Lp_g rfl rfl rfl (St_eqS rfl rfl (.inl rfl) rfl ?_) | refine Lp_g rfl rfl rfl (St_eqSliceNil rfl rfl (.inl rfl) rfl ?_) | refine Lp_g rfl rfl rfl (St_eqStr rfl rfl (.inl rfl) rfl ?_) | refine Lp_no rfl rfl rfl ?_ | refine Lp_nn rfl rfl ?_
        refine Lp_pv rfl rfl ?_
        first | refine Lp_pv rfl rfl ?_ | refine Lp_mv rfl rfl ?_
        first | refine Lp_gpv rfl rfl rfl rfl ?_ | refine Lp_no rfl rfl rfl ?_ | refine Lp_nn rfl rfl ?_
        first | refine Lp_g rfl rfl rfl (St_lenSlice rfl rfl ?_) | refine Lp_no rfl rfl rfl ?_ | refine Lp_nn rfl rfl ?_
        first | refine Lp_gpv rfl rfl rfl rfl ?_ | refine Lp_g rfl rfl rfl (St_eqPtrNil rfl rfl (.inl rfl) rfl ?_) | refine Lp_g rfl rfl rfl (St_eqMapNil rfl rfl (.inl rfl) rfl ?_) | refine Lp_g rfl rfl rfl (St_eqPair rfl rfl (.inl rfl) rfl ?_) | refine Lp_g rfl rfl rfl (St_eqBool rfl rfl (.inl rfl) rfl ?_) | refine Lp_g rfl rfl rfl (St_eqS rfl rfl (.inl rfl) rfl ?_) | refine Lp_g rfl rfl rfl (St_eqSliceNil rfl rfl (.inl rfl) rfl ?_) | refine Lp_g rfl rfl rfl (St_eqStr rfl rfl (.inl rfl) rfl ?_) | refine Lp_no rfl rfl rfl ?_ | refine Lp_nn rfl rfl ?_
        refine Lp_pv rfl rfl ?_
        first | refine Lp_pv rfl rfl ?_ | refine Lp_mv rfl rfl ?_
        refine Lp_nil ?_
        exact C_ret (.inr ⟨by simp, fn_end0 _ (.inr rfl) H rfl fun w' H' => ⟨rfl, H'⟩⟩)
      · have hwb : (L.any fun t => !rightB t) = false := by
          rw [List.any_eq_false]
          intro t h1 h2
          exact hw ⟨t, h1, by simpa using h2⟩
        rw [hwb]
        repeat refine C_seq ?_
        refine C_region ?_
        first | refine Lp_pv rfl rfl ?_ | refine Lp_mv rfl rfl ?_
        first | refine Lp_pv rfl rfl ?_ | refine Lp_mv rfl rfl ?_
        refine Lp_nil ?_
        repeat refine C_seq ?_
        refine C_false rfl ?_
        have hall : ∀ t ∈ L, rightB t = true := fun t ht => by
          cases hr : rightB t with
          | true => rfl
          | false => exact absurd ⟨t, ht, hr⟩ hw
        repeat refine C_seq ?_
        refine C_region ?_
        first | refine Lp_pv rfl rfl ?_ | refine Lp_mv rfl rfl ?_
        refine Lp_s rfl (St_lenSlice rfl rfl ?_)
        refine Lp_pv rfl rfl ?_
        first | refine Lp_pv rfl rfl ?_ | refine Lp_mv rfl rfl ?_
        refine Lp_nil ?_
        repeat refine C_seq ?_
        refine C_dec rfl (fun h64 => ?_) (fun h64 => C_skip ?_)
        · have he : e = 18 ∧ us = [] := by
            rcases hs with ⟨_, _, h3⟩ | ⟨h1, h2, _⟩ | ⟨_, _, h3, _⟩
            · exact absurd h3 hw
            · exact ⟨h1, h2⟩
            · omega
          obtain ⟨rfl, rfl⟩ := he
          repeat refine C_seq ?_
          refine C_region ?_
          replace H := Holds.sel [2] 2 H; dsimp only [SL.sel, SL.pull, List.drop] at H
          refine Lp_s rfl (St_call (a := []) (b := []) rfl rfl (call (talive_spec hp H) ?_))
          clear H; rintro v w ⟨rfl, H⟩
          first | refine Lp_pv rfl rfl ?_ | refine Lp_mv rfl rfl ?_
          first | refine Lp_gpv rfl rfl rfl rfl ?_ | refine Lp_no rfl rfl rfl ?_ | refine Lp_nn rfl rfl ?_
          first | refine Lp_gpv rfl rfl rfl rfl ?_ | refine Lp_g rfl rfl rfl (St_eqPtrNil rfl rfl (.inl rfl) rfl ?_) | refine Lp_g rfl rfl rfl (St_eqMapNil rfl rfl (.inl rfl) rfl ?_) | refine Lp_g rfl rfl rfl (St_eqPair rfl rfl (.inl rfl) rfl ?_) | refine Lp_g rfl rfl rfl (St_eqBool rfl rfl (.inl rfl) rfl ?_) | refine Lp_g rfl rfl rfl (St_eqS rfl rfl (.inl rfl) rfl ?_) | refine Lp_g rfl rfl rfl (St_eqSliceNil rfl rfl (.inl rfl) rfl ?_) | refine Lp_g rfl rfl rfl (St_eqStr rfl rfl (.inl rfl) rfl ?_) | refine Lp_no rfl rfl rfl ?_ | refine Lp_nn rfl rfl ?_
          refine Lp_pv rfl rfl ?_
          first | refine Lp_pv rfl rfl ?_ | refine Lp_mv rfl rfl ?_
          first | refine Lp_gpv rfl rfl rfl rfl ?_ | refine Lp_no rfl rfl rfl ?_ | refine Lp_nn rfl rfl ?_
          first | refine Lp_g rfl rfl rfl (St_lenSlice rfl rfl ?_) | refine Lp_no rfl rfl rfl ?_ | refine Lp_nn rfl rfl ?_
          first | refine Lp_gpv rfl rfl rfl rfl ?_ | refine Lp_g rfl rfl rfl (St_eqPtrNil rfl rfl (.inl rfl) rfl ?_) | refine Lp_g rfl rfl rfl (St_eqMapNil rfl rfl (.inl rfl) rfl ?_) | refine Lp_g rfl rfl rfl (St_eqPair rfl rfl (.inl rfl) rfl ?_) | refine Lp_g rfl rfl rfl (St_eqBool rfl rfl (.inl rfl) rfl ?_) | refine Lp_g rfl rfl rfl (St_eqS rfl rfl (.inl rfl) rfl ?_) | refine Lp_g rfl rfl rfl (St_eqSliceNil rfl rfl (.inl rfl) rfl ?_) | refine Lp_g rfl rfl rfl (St_eqStr rfl rfl (.inl rfl) rfl ?_) | refine Lp_no rfl rfl rfl ?_ | refine Lp_nn rfl rfl ?_
          refine Lp_pv rfl rfl ?_
          first | refine Lp_pv rfl rfl ?_ | refine Lp_mv rfl rfl ?_
          refine Lp_nil ?_
          exact C_ret (.inr ⟨by simp, fn_end0 _ (.inr rfl) H rfl fun w' H' => ⟨rfl, H'⟩⟩)
        · refine .inl ⟨rfl, rfl, ?_⟩
          rcases hs with ⟨_, _, h3⟩ | ⟨_, _, _, h3⟩ | ⟨h1, _, _, h2, h3⟩
          · exact absurd h3 hw
          · omega
          · exact ⟨h1, h2, h3, rfl, rfl, rfl, H⟩
    · clear H hs
      rintro ms σ w ⟨rfl, rfl, hris, hmem, g3, g4, g5, H⟩
      rw [upd_self g3, upd_self g4, upd_self g5]
      have hul : us.length ≤ 100 := by
        have hnd : us.Nodup := hris.imp fun {a b} h e => by subst e; exact ltT_irrefl _ h
        have := nodup_len hnd (fun t ht => (hmem t).1 ht)
        omega
      repeat refine C_seq ?_
      refine C_region ?_
      first | refine Lp_pv rfl rfl ?_ | refine Lp_mv rfl rfl ?_
      refine Lp_s rfl (St_lenSlice rfl rfl ?_)
      first | refine Lp_pv rfl rfl ?_ | refine Lp_mv rfl rfl ?_
      refine Lp_nil ?_
      repeat refine C_seq ?_
      refine C_block ?_
      refine C_loop (fun ms σ w n => ms = [] ∧ ∃ i : Nat, i ≤ us.length ∧ n = us.length - i ∧ σ 3 = .slice a3 L.length c3 ∧ σ 4 = .slice a4 us.length c4 ∧ σ 5 = .int .i64 0 ∧ σ 80 = .slice a4 us.length c4 ∧ σ 81 = .int .i64 us.length ∧ σ 82 = .int .i64 i ∧
        Holds w [TL (.slice a4 us.length c4) us, TL (.slice a3 L.length c3) L, old W]) (m := us.length) ⟨rfl, 0, by omega, rfl, rfl, rfl, rfl, rfl, rfl, rfl, H⟩ ?_
      clear H
      rintro ms σ w n ⟨rfl, i, hi, rfl, g3, g4, g5, g80, g81, g82, H⟩
      rw [upd_self g3, upd_self g4, upd_self g5, upd_self g80, upd_self g81, upd_self g82]
      repeat refine C_seq ?_
      refine C_region ?_
      refine Lp_pv rfl rfl ?_
      refine Lp_nil ?_
      repeat refine C_seq ?_
      refine C_dec rfl (fun h => C_skip ?_) (fun h => C_exit ?_)
      · have hlt : i < us.length := by omega
        have hy := List.getElem?_eq_getElem hlt
        have hxy : ∀ x, us[i - 1]? = some x → 1 ≤ i → ltT x us[i] := by
          intro x hx h1
          have h2 := List.pairwise_iff_getElem.1 hris (i - 1) i (by omega) hlt (by omega)
          rw [(List.getElem?_eq_some_iff.1 hx).2] at h2
          exact h2
        generalize us[i] = y at hy hxy
        have hyL : y ∈ L := (hmem y).1 (List.mem_of_getElem? hy)
        obtain ⟨y1, y2⟩ := y
        obtain ⟨bo, so, rfl, H, hclose⟩ := sls_open H (by omega)
        repeat refine C_seq ?_
        refine C_block ?_
        repeat refine C_seq ?_
        refine C_region ?_
        first | refine Lp_pv rfl rfl ?_ | refine Lp_mv rfl rfl ?_
        refine Lp_s rfl (St_indexAddr rfl rfl (by omega) (by omega) rfl ?_)
        refine Lp_s rfl (St_loadN H rfl (tcells_reads hy) rfl ?_)
        (refine Lp_s rfl (St_alloc H rfl ?_); clear H; intro b10 w H)
        first | refine Lp_pv rfl rfl ?_ | refine Lp_mv rfl rfl ?_
        first | (refine Lp_s rfl (St_store1 H rfl rfl inferInstance rfl (Nat.le_of_ble_eq_true rfl) rfl ?_); clear H; intro w H) | (refine Lp_s rfl (St_storeN H rfl rfl inferInstance rfl rfl (Nat.le_of_ble_eq_true rfl) rfl ?_); clear H; intro w H)
        refine Lp_nil ?_
        replace H := (hclose _ _ H.swap).swap
        repeat refine C_seq ?_
        refine C_region ?_
        first | refine Lp_pv rfl rfl ?_ | refine Lp_mv rfl rfl ?_
        refine Lp_nil ?_
        repeat refine C_seq ?_
        refine C_region ?_
        first | refine Lp_pv rfl rfl ?_ | refine Lp_mv rfl rfl ?_
        refine Lp_s rfl (St_lenSlice rfl rfl ?_)
        first | refine Lp_pv rfl rfl ?_ | refine Lp_mv rfl rfl ?_
        refine Lp_nil ?_
        repeat refine C_seq ?_
        refine C_join (fun ms σ w => ms = [] ∧ σ 3 = .slice a3 L.length c3 ∧ σ 4 = .slice (some ⟨bo, 0, none⟩) us.length c4 ∧ σ 5 = .int .i64 0 ∧ σ 9 = .int .i64 i ∧ σ 10 = .pointer (some ⟨b10, 0, none⟩) ∧ σ 11 = .bool true ∧ σ 80 = .slice (some ⟨bo, 0, none⟩) us.length c4 ∧ σ 81 = .int .i64 us.length ∧ σ 82 = .int .i64 i ∧
          Holds w [pts b10 (row 23 [.int .i64 y1, .int .i64 y2]), TL (.slice (some ⟨bo, 0, none⟩) us.length c4) us, TL (.slice a3 L.length c3) L, old W]) ?_ ?_
        · refine C_block ?_
          refine C_loop (fun ms σ w n => ms = [] ∧ ∃ j : Nat, j ≤ L.length ∧ n = L.length - j ∧ σ 3 = .slice a3 L.length c3 ∧ σ 4 = .slice (some ⟨bo, 0, none⟩) us.length c4 ∧ σ 5 = .int .i64 0 ∧ σ 9 = .int .i64 i ∧ σ 10 = .pointer (some ⟨b10, 0, none⟩) ∧ σ 80 = .slice (some ⟨bo, 0, none⟩) us.length c4 ∧ σ 81 = .int .i64 us.length ∧ σ 82 = .int .i64 i ∧ σ 11 = .bool (decide ((y1, y2) ∈ L.take j)) ∧ σ 87 = .slice a3 L.length c3 ∧ σ 88 = .int .i64 L.length ∧ σ 89 = .int .i64 j ∧
            Holds w [pts b10 (row 23 [.int .i64 y1, .int .i64 y2]), TL (.slice (some ⟨bo, 0, none⟩) us.length c4) us, TL (.slice a3 L.length c3) L, old W]) (m := L.length) ⟨rfl, 0, by omega, rfl, rfl, rfl, rfl, rfl, rfl, rfl, rfl, rfl, ?_, rfl, rfl, rfl, H⟩ ?_
          · rw [decide_eq_false (show ¬ (y1, y2) ∈ L.take 0 by simp)]; rfl
          clear H
          rintro ms σ w n ⟨rfl, j, hj, rfl, g3, g4, g5, g9, g10, g80, g81, g82, g11, g87, g88, g89, H⟩
          rw [upd_self g3, upd_self g4, upd_self g5, upd_self g9, upd_self g10, upd_self g80, upd_self g81, upd_self g82, upd_self g11, upd_self g87, upd_self g88, upd_self g89]
          repeat refine C_seq ?_
          refine C_region ?_
          refine Lp_pv rfl rfl ?_
          refine Lp_nil ?_
          repeat refine C_seq ?_
          refine C_dec rfl (fun h => C_skip ?_) (fun h => C_exit ?_)
          · have hjl : j < L.length := by omega
            have hz := List.getElem?_eq_getElem hjl
            generalize L[j] = z at hz
            have hsn := in_snoc L j (y1, y2) z hz
            obtain ⟨z1, z2⟩ := z
            replace H := Holds.sel [2, 0, 0, 0] 0 H; dsimp only [SL.sel, SL.pull, List.drop] at H
            obtain ⟨bw, sw, rfl, H, hclose3⟩ := sls_open H (by omega)
            repeat refine C_seq ?_
            refine C_block ?_
            repeat refine C_seq ?_
            refine C_region ?_
            refine Lp_s rfl (St_indexAddr rfl rfl (by omega) (by omega) rfl ?_)
            refine Lp_s rfl (St_loadN H rfl (tcells_reads hz) rfl ?_)
            (refine Lp_s rfl (St_alloc H rfl ?_); clear H; intro b13 w H)
            first | (refine Lp_s rfl (St_store1 H rfl rfl inferInstance rfl (Nat.le_of_ble_eq_true rfl) rfl ?_); clear H; intro w H) | (refine Lp_s rfl (St_storeN H rfl rfl inferInstance rfl rfl (Nat.le_of_ble_eq_true rfl) rfl ?_); clear H; intro w H)
            refine Lp_nil ?_
            by_cases hin2 : (y1, y2) ∈ L.take j
            · rw [decide_eq_true hin2, Bool.true_or] at hsn
              rw [decide_eq_true hin2]
              repeat refine C_seq ?_
              refine C_region ?_
              first | refine Lp_pv rfl rfl ?_ | refine Lp_mv rfl rfl ?_
              first | refine Lp_pv rfl rfl ?_ | refine Lp_mv rfl rfl ?_
              first | refine Lp_g rfl rfl rfl (St_load1 H rfl rfl rfl ?_) | refine Lp_g rfl rfl rfl (St_loadN H rfl (by repeat (first | exact Reads.nil _ | apply Reads.cons rfl)) rfl ?_) | refine Lp_no rfl rfl rfl ?_ | refine Lp_nn rfl rfl ?_
              first | refine Lp_g rfl rfl rfl (St_load1 H rfl rfl rfl ?_) | refine Lp_g rfl rfl rfl (St_loadN H rfl (by repeat (first | exact Reads.nil _ | apply Reads.cons rfl)) rfl ?_) | refine Lp_no rfl rfl rfl ?_ | refine Lp_nn rfl rfl ?_
              first | refine Lp_gpv rfl rfl rfl rfl ?_ | refine Lp_g rfl rfl rfl (St_eqPtrNil rfl rfl (.inl rfl) rfl ?_) | refine Lp_g rfl rfl rfl (St_eqMapNil rfl rfl (.inl rfl) rfl ?_) | refine Lp_g rfl rfl rfl (St_eqPair rfl rfl (.inl rfl) rfl ?_) | refine Lp_g rfl rfl rfl (St_eqBool rfl rfl (.inl rfl) rfl ?_) | refine Lp_g rfl rfl rfl (St_eqS rfl rfl (.inl rfl) rfl ?_) | refine Lp_g rfl rfl rfl (St_eqSliceNil rfl rfl (.inl rfl) rfl ?_) | refine Lp_g rfl rfl rfl (St_eqStr rfl rfl (.inl rfl) rfl ?_) | refine Lp_no rfl rfl rfl ?_ | refine Lp_nn rfl rfl ?_
              refine Lp_pv rfl rfl ?_
              first | refine Lp_pv rfl rfl ?_ | refine Lp_mv rfl rfl ?_
              refine Lp_nil ?_
              repeat refine C_seq ?_
              refine C_region ?_
              refine Lp_pv rfl rfl ?_
              first | refine Lp_pv rfl rfl ?_ | refine Lp_mv rfl rfl ?_
              refine Lp_nil ?_
              replace H := hclose3 _ _ H.drop
              replace H := Holds.sel [1, 1, 0, 0] 0 H; dsimp only [SL.sel, SL.pull, List.drop] at H
              refine ⟨_, ⟨rfl, j + 1, hjl, rfl, rfl, rfl, rfl, rfl, rfl, rfl, rfl, rfl, ?_, rfl, rfl, inc64 (by omega), H⟩, by omega⟩
              rw [hsn]; rfl
            · rw [decide_eq_false hin2, Bool.false_or] at hsn
              rw [decide_eq_false hin2]
              repeat refine C_seq ?_
              refine C_region ?_
              first | refine Lp_pv rfl rfl ?_ | refine Lp_mv rfl rfl ?_
              first | refine Lp_pv rfl rfl ?_ | refine Lp_mv rfl rfl ?_
              first | refine Lp_g rfl rfl rfl (St_load1 H rfl rfl rfl ?_) | refine Lp_g rfl rfl rfl (St_loadN H rfl (by repeat (first | exact Reads.nil _ | apply Reads.cons rfl)) rfl ?_) | refine Lp_no rfl rfl rfl ?_ | refine Lp_nn rfl rfl ?_
              first | refine Lp_g rfl rfl rfl (St_load1 H rfl rfl rfl ?_) | refine Lp_g rfl rfl rfl (St_loadN H rfl (by repeat (first | exact Reads.nil _ | apply Reads.cons rfl)) rfl ?_) | refine Lp_no rfl rfl rfl ?_ | refine Lp_nn rfl rfl ?_
              first | refine Lp_gpv rfl rfl rfl rfl ?_ | refine Lp_g rfl rfl rfl (St_eqPtrNil rfl rfl (.inl rfl) rfl ?_) | refine Lp_g rfl rfl rfl (St_eqMapNil rfl rfl (.inl rfl) rfl ?_) | refine Lp_g rfl rfl rfl (St_eqPair rfl rfl (.inl rfl) rfl ?_) | refine Lp_g rfl rfl rfl (St_eqBool rfl rfl (.inl rfl) rfl ?_) | refine Lp_g rfl rfl rfl (St_eqS rfl rfl (.inl rfl) rfl ?_) | refine Lp_g rfl rfl rfl (St_eqSliceNil rfl rfl (.inl rfl) rfl ?_) | refine Lp_g rfl rfl rfl (St_eqStr rfl rfl (.inl rfl) rfl ?_) | refine Lp_no rfl rfl rfl ?_ | refine Lp_nn rfl rfl ?_
              refine Lp_pv rfl rfl ?_
              first | refine Lp_pv rfl rfl ?_ | refine Lp_mv rfl rfl ?_
              refine Lp_nil ?_
              repeat refine C_seq ?_
              refine C_region ?_
              refine Lp_pv rfl rfl ?_
              first | refine Lp_pv rfl rfl ?_ | refine Lp_mv rfl rfl ?_
              refine Lp_nil ?_
              replace H := hclose3 _ _ H.drop
              replace H := Holds.sel [1, 1, 0, 0] 0 H; dsimp only [SL.sel, SL.pull, List.drop] at H
              refine ⟨_, ⟨rfl, j + 1, hjl, rfl, rfl, rfl, rfl, rfl, rfl, rfl, rfl, rfl, ?_, rfl, rfl, inc64 (by omega), H⟩, by omega⟩
              rw [hsn]; rfl
          · have hje : j = L.length := by omega
            subst hje
            refine ⟨rfl, rfl, rfl, rfl, rfl, rfl, rfl, ?_, rfl, rfl, rfl, H⟩
            rw [List.take_length, decide_eq_true hyL]; rfl
        · clear H
          rintro ms σ w ⟨rfl, g3, g4, g5, g9, g10, g11, g80, g81, g82, H⟩
          rw [upd_self g3, upd_self g4, upd_self g5, upd_self g9, upd_self g10, upd_self g11, upd_self g80, upd_self g81, upd_self g82]
          clear hclose
          obtain ⟨bo2, so2, e2, H, hclose⟩ := sls_open H.swap (by omega)
          cases e2
          repeat refine C_seq ?_
          refine C_drawH H mixed ?_
          clear H; intro w H
          refine A_pv 0 rfl (Wants.none rfl) rfl (by kernel_rfl) ?_
          refine A_pv 1 rfl (Wants.none rfl) rfl (by kernel_rfl) ?_
          refine A_pv 2 rfl (Wants.none rfl) rfl (by kernel_rfl) ?_
          first | refine A_pv 3 rfl (Wants.of rfl rfl rfl) rfl (by kernel_rfl) ?_ | refine A_no 3 rfl (Wants.of rfl rfl rfl) (fun c e => by cases e) (by kernel_rfl) ?_ | refine A_no 3 rfl (Wants.skip rfl rfl) (fun c e => by cases e) (by kernel_rfl) ?_
          first | refine A_pv 4 rfl (Wants.of rfl rfl rfl) rfl (by kernel_rfl) ?_ | refine A_no 4 rfl (Wants.of rfl rfl rfl) (fun c e => by cases e) (by kernel_rfl) ?_ | refine A_no 4 rfl (Wants.skip rfl rfl) (fun c e => by cases e) (by kernel_rfl) ?_
          by_cases h0 : i = 0
          · rw [show decide ((i : Int) > 0) = false from decide_eq_false (by omega)]
            first | refine A_pv 5 rfl (Wants.of rfl rfl rfl) rfl (by kernel_rfl) ?_ | refine A_no 5 rfl (Wants.of rfl rfl rfl) (fun c e => by cases e) (by kernel_rfl) ?_ | refine A_no 5 rfl (Wants.skip rfl rfl) (fun c e => by cases e) (by kernel_rfl) ?_
            first | refine A_pv 6 rfl (Wants.of rfl rfl rfl) rfl (by kernel_rfl) ?_ | refine A_no 6 rfl (Wants.of rfl rfl rfl) (fun c e => by cases e) (by kernel_rfl) ?_ | refine A_no 6 rfl (Wants.skip rfl rfl) (fun c e => by cases e) (by kernel_rfl) ?_
            first | refine A_pv 7 rfl (Wants.of rfl rfl rfl) rfl (by kernel_rfl) ?_ | refine A_no 7 rfl (Wants.of rfl rfl rfl) (fun c e => by cases e) (by kernel_rfl) ?_ | refine A_no 7 rfl (Wants.skip rfl rfl) (fun c e => by cases e) (by kernel_rfl) ?_
            first | refine A_pv 8 rfl (Wants.of rfl rfl rfl) rfl (by kernel_rfl) ?_ | refine A_no 8 rfl (Wants.of rfl rfl rfl) (fun c e => by cases e) (by kernel_rfl) ?_ | refine A_no 8 rfl (Wants.skip rfl rfl) (fun c e => by cases e) (by kernel_rfl) ?_
            refine A_no 9 rfl (Wants.of rfl rfl rfl) (fun c e => by cases e) (by kernel_rfl) ?_
            first | refine A_load1 10 [12] H rfl (Wants.of rfl rfl rfl) rfl rfl (by kernel_rfl) ?_ | refine A_loadN 10 [12] H rfl (Wants.of rfl rfl rfl) rfl (by repeat (first | exact Reads.nil _ | apply Reads.cons rfl)) (by kernel_rfl) ?_ | refine A_no 10 rfl (Wants.of rfl rfl rfl) (fun c e => by cases e) (by kernel_rfl) ?_ | refine A_no 10 rfl (Wants.skip rfl rfl) (fun c e => by cases e) (by kernel_rfl) ?_
            first | refine A_load1 11 [12] H rfl (Wants.of rfl rfl rfl) rfl rfl (by kernel_rfl) ?_ | refine A_loadN 11 [12] H rfl (Wants.of rfl rfl rfl) rfl (by repeat (first | exact Reads.nil _ | apply Reads.cons rfl)) (by kernel_rfl) ?_ | refine A_no 11 rfl (Wants.of rfl rfl rfl) (fun c e => by cases e) (by kernel_rfl) ?_ | refine A_no 11 rfl (Wants.skip rfl rfl) (fun c e => by cases e) (by kernel_rfl) ?_
            refine A_no 12 rfl (Wants.of rfl rfl rfl) (fun c e => by cases e) (by kernel_rfl) ?_
            first | refine A_pv 13 rfl (Wants.of rfl rfl rfl) rfl (by kernel_rfl) ?_ | refine A_no 13 rfl (Wants.of rfl rfl rfl) (fun c e => by cases e) (by kernel_rfl) ?_ | refine A_no 13 rfl (Wants.skip rfl rfl) (fun c e => by cases e) (by kernel_rfl) ?_
            first | refine A_pv 14 rfl (Wants.of rfl rfl rfl) rfl (by kernel_rfl) ?_ | refine A_no 14 rfl (Wants.of rfl rfl rfl) (fun c e => by cases e) (by kernel_rfl) ?_ | refine A_no 14 rfl (Wants.skip rfl rfl) (fun c e => by cases e) (by kernel_rfl) ?_
            refine A_pv 15 rfl (Wants.none rfl) rfl (by kernel_rfl) ?_
            refine A_end (by kernel_rfl) (by repeat (first | exact InvL.nil | refine InvL.cons (.inr (Holds.at H)) ?_ | refine InvL.cons (.inr (Holds.mp H)) ?_ | refine InvL.cons (.inl (by kernel_rfl)) ?_)) ?_
            repeat refine C_seq ?_
            refine C_false rfl (C_skip ?_)
            repeat refine C_seq ?_
            refine C_region ?_
            refine Lp_pv rfl rfl ?_
            first | refine Lp_pv rfl rfl ?_ | refine Lp_mv rfl rfl ?_
            refine Lp_nil ?_
            replace H := Holds.sel [0, 1, 1] 1 H; dsimp only [SL.sel, SL.pull, List.drop] at H
            replace H := hclose _ _ H
            exact ⟨_, ⟨rfl, i + 1, hlt, rfl, rfl, rfl, rfl, rfl, rfl, inc64 (by omega), H⟩, by omega⟩
          · have hx := List.getElem?_eq_getElem (l := us) (i := i - 1) (by omega)
            generalize us[i - 1]'(by omega) = x at hx
            have hlx := hxy x hx (by omega)
            obtain ⟨x1, x2⟩ := x
            have hp2 := pred64 (k := i) (by omega) (by omega)
            rw [show decide ((i : Int) > 0) = true from decide_eq_true (by omega)]
            first | refine A_pv 5 rfl (Wants.of rfl rfl rfl) rfl (by kernel_rfl) ?_ | refine A_no 5 rfl (Wants.of rfl rfl rfl) (fun c e => by cases e) (by kernel_rfl) ?_ | refine A_no 5 rfl (Wants.skip rfl rfl) (fun c e => by cases e) (by kernel_rfl) ?_
            first | refine A_pv 6 rfl (Wants.of rfl rfl rfl) rfl (by kernel_rfl) ?_ | refine A_no 6 rfl (Wants.of rfl rfl rfl) (fun c e => by cases e) (by kernel_rfl) ?_ | refine A_no 6 rfl (Wants.skip rfl rfl) (fun c e => by cases e) (by kernel_rfl) ?_
            first | refine A_pv 7 rfl (Wants.of rfl rfl rfl) rfl (by kernel_rfl) ?_ | refine A_no 7 rfl (Wants.of rfl rfl rfl) (fun c e => by cases e) (by kernel_rfl) ?_ | refine A_no 7 rfl (Wants.skip rfl rfl) (fun c e => by cases e) (by kernel_rfl) ?_
            first | refine A_pv 8 rfl (Wants.of rfl rfl rfl) rfl (by kernel_rfl) ?_ | refine A_no 8 rfl (Wants.of rfl rfl rfl) (fun c e => by cases e) (by kernel_rfl) ?_ | refine A_no 8 rfl (Wants.skip rfl rfl) (fun c e => by cases e) (by kernel_rfl) ?_
            rw [hp2]
            refine A_indexAddr 9 rfl (Wants.of rfl rfl rfl) rfl rfl (by omega) (by omega) (by kernel_rfl) ?_
            refine A_loadN 10 [12] H rfl (Wants.of rfl rfl rfl) rfl (tcells_reads hx) (by kernel_rfl) ?_
            first | refine A_load1 11 [12] H rfl (Wants.of rfl rfl rfl) rfl rfl (by kernel_rfl) ?_ | refine A_loadN 11 [12] H rfl (Wants.of rfl rfl rfl) rfl (by repeat (first | exact Reads.nil _ | apply Reads.cons rfl)) (by kernel_rfl) ?_ | refine A_no 11 rfl (Wants.of rfl rfl rfl) (fun c e => by cases e) (by kernel_rfl) ?_ | refine A_no 11 rfl (Wants.skip rfl rfl) (fun c e => by cases e) (by kernel_rfl) ?_
            refine A_one 12 rfl (by kernel_rfl) (by repeat (first | exact InvL.nil | refine InvL.cons (.inr (Holds.at H)) ?_ | refine InvL.cons (.inr (Holds.mp H)) ?_ | refine InvL.cons (.inl (by kernel_rfl)) ?_)) (Wants.of rfl rfl rfl) (St_call (a := []) (b := []) rfl rfl (call (rCompare_spec (x1, x2) (y1, y2) H) ?_))
            clear H; rintro v w ⟨rfl, H⟩
            first | refine A_pv 13 rfl (Wants.of rfl rfl rfl) rfl (by kernel_rfl) ?_ | refine A_no 13 rfl (Wants.of rfl rfl rfl) (fun c e => by cases e) (by kernel_rfl) ?_ | refine A_no 13 rfl (Wants.skip rfl rfl) (fun c e => by cases e) (by kernel_rfl) ?_
            rw [show decide (cmpT (x1, x2) (y1, y2) ≥ 0) = false from decide_eq_false (by have := (cmpT_neg _ _).2 hlx; omega)]
            first | refine A_pv 14 rfl (Wants.of rfl rfl rfl) rfl (by kernel_rfl) ?_ | refine A_no 14 rfl (Wants.of rfl rfl rfl) (fun c e => by cases e) (by kernel_rfl) ?_ | refine A_no 14 rfl (Wants.skip rfl rfl) (fun c e => by cases e) (by kernel_rfl) ?_
            refine A_pv 15 rfl (Wants.none rfl) rfl (by kernel_rfl) ?_
            refine A_end (by kernel_rfl) (by repeat (first | exact InvL.nil | refine InvL.cons (.inr (Holds.at H)) ?_ | refine InvL.cons (.inr (Holds.mp H)) ?_ | refine InvL.cons (.inl (by kernel_rfl)) ?_)) ?_
            repeat refine C_seq ?_
            refine C_false rfl (C_skip ?_)
            repeat refine C_seq ?_
            refine C_region ?_
            refine Lp_pv rfl rfl ?_
            first | refine Lp_pv rfl rfl ?_ | refine Lp_mv rfl rfl ?_
            refine Lp_nil ?_
            replace H := Holds.sel [0, 1, 1] 1 H; dsimp only [SL.sel, SL.pull, List.drop] at H
            replace H := hclose _ _ H
            exact ⟨_, ⟨rfl, i + 1, hlt, rfl, rfl, rfl, rfl, rfl, rfl, inc64 (by omega), H⟩, by omega⟩
      · repeat refine C_seq ?_
        refine C_region ?_
        first | refine Lp_pv rfl rfl ?_ | refine Lp_mv rfl rfl ?_
        refine Lp_s rfl (St_lenSlice rfl rfl ?_)
        first | refine Lp_pv rfl rfl ?_ | refine Lp_mv rfl rfl ?_
        refine Lp_nil ?_
        repeat refine C_seq ?_
        refine C_block ?_
        refine C_loop (fun ms σ w n => ms = [] ∧ ∃ i : Nat, i ≤ L.length ∧ n = L.length - i ∧ σ 4 = .slice a4 us.length c4 ∧ σ 5 = .int .i64 0 ∧ σ 117 = .slice a3 L.length c3 ∧ σ 118 = .int .i64 L.length ∧ σ 119 = .int .i64 i ∧
          Holds w [TL (.slice a4 us.length c4) us, TL (.slice a3 L.length c3) L, old W]) (m := L.length) ⟨rfl, 0, by omega, rfl, rfl, rfl, rfl, rfl, rfl, H⟩ ?_
        clear H
        rintro ms σ w n ⟨rfl, i, hi, rfl, g4, g5, g117, g118, g119, H⟩
        rw [upd_self g4, upd_self g5, upd_self g117, upd_self g118, upd_self g119]
        repeat refine C_seq ?_
        refine C_region ?_
        refine Lp_pv rfl rfl ?_
        refine Lp_nil ?_
        repeat refine C_seq ?_
        refine C_dec rfl (fun h => C_skip ?_) (fun h => C_exit ?_)
        · have hlt : i < L.length := by omega
          have hy := List.getElem?_eq_getElem hlt
          generalize L[i] = y at hy
          have hyu : y ∈ us := (hmem y).2 (List.mem_of_getElem? hy)
          obtain ⟨y1, y2⟩ := y
          obtain ⟨bo, so, rfl, H, hclose⟩ := sls_open H.swap (by omega)
          repeat refine C_seq ?_
          refine C_block ?_
          repeat refine C_seq ?_
          refine C_region ?_
          refine Lp_s rfl (St_indexAddr rfl rfl (by omega) (by omega) rfl ?_)
          refine Lp_s rfl (St_loadN H rfl (tcells_reads hy) rfl ?_)
          (refine Lp_s rfl (St_alloc H rfl ?_); clear H; intro b15 w H)
          first | (refine Lp_s rfl (St_store1 H rfl rfl inferInstance rfl (Nat.le_of_ble_eq_true rfl) rfl ?_); clear H; intro w H) | (refine Lp_s rfl (St_storeN H rfl rfl inferInstance rfl rfl (Nat.le_of_ble_eq_true rfl) rfl ?_); clear H; intro w H)
          refine Lp_nil ?_
          replace H := (hclose _ _ H.swap).swap
          repeat refine C_seq ?_
          refine C_region ?_
          first | refine Lp_pv rfl rfl ?_ | refine Lp_mv rfl rfl ?_
          refine Lp_nil ?_
          repeat refine C_seq ?_
          refine C_region ?_
          first | refine Lp_pv rfl rfl ?_ | refine Lp_mv rfl rfl ?_
          refine Lp_s rfl (St_lenSlice rfl rfl ?_)
          first | refine Lp_pv rfl rfl ?_ | refine Lp_mv rfl rfl ?_
          refine Lp_nil ?_
          repeat refine C_seq ?_
          refine C_join (fun ms σ w => ms = [] ∧ σ 4 = .slice a4 us.length c4 ∧ σ 5 = .int .i64 0 ∧ σ 15 = .pointer (some ⟨b15, 0, none⟩) ∧ σ 16 = .bool true ∧ σ 117 = .slice (some ⟨bo, 0, none⟩) L.length c3 ∧ σ 118 = .int .i64 L.length ∧ σ 119 = .int .i64 i ∧
            Holds w [pts b15 (row 23 [.int .i64 y1, .int .i64 y2]), TL (.slice (some ⟨bo, 0, none⟩) L.length c3) L, TL (.slice a4 us.length c4) us, old W]) ?_ ?_
          · refine C_block ?_
            refine C_loop (fun ms σ w n => ms = [] ∧ ∃ j : Nat, j ≤ us.length ∧ n = us.length - j ∧ σ 4 = .slice a4 us.length c4 ∧ σ 5 = .int .i64 0 ∧ σ 15 = .pointer (some ⟨b15, 0, none⟩) ∧ σ 117 = .slice (some ⟨bo, 0, none⟩) L.length c3 ∧ σ 118 = .int .i64 L.length ∧ σ 119 = .int .i64 i ∧ σ 16 = .bool (decide ((y1, y2) ∈ us.take j)) ∧ σ 123 = .slice a4 us.length c4 ∧ σ 124 = .int .i64 us.length ∧ σ 125 = .int .i64 j ∧
              Holds w [pts b15 (row 23 [.int .i64 y1, .int .i64 y2]), TL (.slice (some ⟨bo, 0, none⟩) L.length c3) L, TL (.slice a4 us.length c4) us, old W]) (m := us.length) ⟨rfl, 0, by omega, rfl, rfl, rfl, rfl, rfl, rfl, rfl, ?_, rfl, rfl, rfl, H⟩ ?_
            · rw [decide_eq_false (show ¬ (y1, y2) ∈ us.take 0 by simp)]; rfl
            clear H
            rintro ms σ w n ⟨rfl, j, hj, rfl, g4, g5, g15, g117, g118, g119, g16, g123, g124, g125, H⟩
            rw [upd_self g4, upd_self g5, upd_self g15, upd_self g117, upd_self g118, upd_self g119, upd_self g16, upd_self g123, upd_self g124, upd_self g125]
            repeat refine C_seq ?_
            refine C_region ?_
            refine Lp_pv rfl rfl ?_
            refine Lp_nil ?_
            repeat refine C_seq ?_
            refine C_dec rfl (fun h => C_skip ?_) (fun h => C_exit ?_)
            · have hjl : j < us.length := by omega
              have hz := List.getElem?_eq_getElem hjl
              generalize us[j] = z at hz
              have hsn := in_snoc us j (y1, y2) z hz
              obtain ⟨z1, z2⟩ := z
              replace H := Holds.sel [2, 0, 0, 0] 0 H; dsimp only [SL.sel, SL.pull, List.drop] at H
              obtain ⟨bw, sw, rfl, H, hclose3⟩ := sls_open H (by omega)
              repeat refine C_seq ?_
              refine C_block ?_
              repeat refine C_seq ?_
              refine C_region ?_
              refine Lp_s rfl (St_indexAddr rfl rfl (by omega) (by omega) rfl ?_)
              refine Lp_s rfl (St_loadN H rfl (tcells_reads hz) rfl ?_)
              (refine Lp_s rfl (St_alloc H rfl ?_); clear H; intro b18 w H)
              first | (refine Lp_s rfl (St_store1 H rfl rfl inferInstance rfl (Nat.le_of_ble_eq_true rfl) rfl ?_); clear H; intro w H) | (refine Lp_s rfl (St_storeN H rfl rfl inferInstance rfl rfl (Nat.le_of_ble_eq_true rfl) rfl ?_); clear H; intro w H)
              refine Lp_nil ?_
              by_cases hin2 : (y1, y2) ∈ us.take j
              · rw [decide_eq_true hin2, Bool.true_or] at hsn
                rw [decide_eq_true hin2]
                repeat refine C_seq ?_
                refine C_region ?_
                first | refine Lp_pv rfl rfl ?_ | refine Lp_mv rfl rfl ?_
                first | refine Lp_pv rfl rfl ?_ | refine Lp_mv rfl rfl ?_
                first | refine Lp_g rfl rfl rfl (St_load1 H rfl rfl rfl ?_) | refine Lp_g rfl rfl rfl (St_loadN H rfl (by repeat (first | exact Reads.nil _ | apply Reads.cons rfl)) rfl ?_) | refine Lp_no rfl rfl rfl ?_ | refine Lp_nn rfl rfl ?_
                first | refine Lp_g rfl rfl rfl (St_load1 H rfl rfl rfl ?_) | refine Lp_g rfl rfl rfl (St_loadN H rfl (by repeat (first | exact Reads.nil _ | apply Reads.cons rfl)) rfl ?_) | refine Lp_no rfl rfl rfl ?_ | refine Lp_nn rfl rfl ?_
                first | refine Lp_gpv rfl rfl rfl rfl ?_ | refine Lp_g rfl rfl rfl (St_eqPtrNil rfl rfl (.inl rfl) rfl ?_) | refine Lp_g rfl rfl rfl (St_eqMapNil rfl rfl (.inl rfl) rfl ?_) | refine Lp_g rfl rfl rfl (St_eqPair rfl rfl (.inl rfl) rfl ?_) | refine Lp_g rfl rfl rfl (St_eqBool rfl rfl (.inl rfl) rfl ?_) | refine Lp_g rfl rfl rfl (St_eqS rfl rfl (.inl rfl) rfl ?_) | refine Lp_g rfl rfl rfl (St_eqSliceNil rfl rfl (.inl rfl) rfl ?_) | refine Lp_g rfl rfl rfl (St_eqStr rfl rfl (.inl rfl) rfl ?_) | refine Lp_no rfl rfl rfl ?_ | refine Lp_nn rfl rfl ?_
                refine Lp_pv rfl rfl ?_
                first | refine Lp_pv rfl rfl ?_ | refine Lp_mv rfl rfl ?_
                refine Lp_nil ?_
                repeat refine C_seq ?_
                refine C_region ?_
                refine Lp_pv rfl rfl ?_
                first | refine Lp_pv rfl rfl ?_ | refine Lp_mv rfl rfl ?_
                refine Lp_nil ?_
                replace H := hclose3 _ _ H.drop
                replace H := Holds.sel [1, 1, 0, 0] 0 H; dsimp only [SL.sel, SL.pull, List.drop] at H
                refine ⟨_, ⟨rfl, j + 1, hjl, rfl, rfl, rfl, rfl, rfl, rfl, rfl, ?_, rfl, rfl, inc64 (by omega), H⟩, by omega⟩
                rw [hsn]; rfl
              · rw [decide_eq_false hin2, Bool.false_or] at hsn
                rw [decide_eq_false hin2]
                repeat refine C_seq ?_
                refine C_region ?_
                first | refine Lp_pv rfl rfl ?_ | refine Lp_mv rfl rfl ?_
                first | refine Lp_pv rfl rfl ?_ | refine Lp_mv rfl rfl ?_
                first | refine Lp_g rfl rfl rfl (St_load1 H rfl rfl rfl ?_) | refine Lp_g rfl rfl rfl (St_loadN H rfl (by repeat (first | exact Reads.nil _ | apply Reads.cons rfl)) rfl ?_) | refine Lp_no rfl rfl rfl ?_ | refine Lp_nn rfl rfl ?_
                first | refine Lp_g rfl rfl rfl (St_load1 H rfl rfl rfl ?_) | refine Lp_g rfl rfl rfl (St_loadN H rfl (by repeat (first | exact Reads.nil _ | apply Reads.cons rfl)) rfl ?_) | refine Lp_no rfl rfl rfl ?_ | refine Lp_nn rfl rfl ?_
                first | refine Lp_gpv rfl rfl rfl rfl ?_ | refine Lp_g rfl rfl rfl (St_eqPtrNil rfl rfl (.inl rfl) rfl ?_) | refine Lp_g rfl rfl rfl (St_eqMapNil rfl rfl (.inl rfl) rfl ?_) | refine Lp_g rfl rfl rfl (St_eqPair rfl rfl (.inl rfl) rfl ?_) | refine Lp_g rfl rfl rfl (St_eqBool rfl rfl (.inl rfl) rfl ?_) | refine Lp_g rfl rfl rfl (St_eqS rfl rfl (.inl rfl) rfl ?_) | refine Lp_g rfl rfl rfl (St_eqSliceNil rfl rfl (.inl rfl) rfl ?_) | refine Lp_g rfl rfl rfl (St_eqStr rfl rfl (.inl rfl) rfl ?_) | refine Lp_no rfl rfl rfl ?_ | refine Lp_nn rfl rfl ?_
                refine Lp_pv rfl rfl ?_
                first | refine Lp_pv rfl rfl ?_ | refine Lp_mv rfl rfl ?_
                refine Lp_nil ?_
                repeat refine C_seq ?_
                refine C_region ?_
                refine Lp_pv rfl rfl ?_
                first | refine Lp_pv rfl rfl ?_ | refine Lp_mv rfl rfl ?_
                refine Lp_nil ?_
                replace H := hclose3 _ _ H.drop
                replace H := Holds.sel [1, 1, 0, 0] 0 H; dsimp only [SL.sel, SL.pull, List.drop] at H
                refine ⟨_, ⟨rfl, j + 1, hjl, rfl, rfl, rfl, rfl, rfl, rfl, rfl, ?_, rfl, rfl, inc64 (by omega), H⟩, by omega⟩
                rw [hsn, show decide ((z1, z2) = (y1, y2)) = decide ((y1, y2) = (z1, z2)) from decide_eq_decide.2 eq_comm]; rfl
            · have hje : j = us.length := by omega
              subst hje
              refine ⟨rfl, rfl, rfl, rfl, rfl, ?_, rfl, rfl, rfl, H⟩
              rw [List.take_length, decide_eq_true hyu]; rfl
          · clear H
            rintro ms σ w ⟨rfl, g4, g5, g15, g16, g117, g118, g119, H⟩
            rw [upd_self g4, upd_self g5, upd_self g15, upd_self g16, upd_self g117, upd_self g118, upd_self g119]
            repeat refine C_seq ?_
            refine C_region ?_
            first | refine Lp_pv rfl rfl ?_ | refine Lp_mv rfl rfl ?_
            refine Lp_pv rfl rfl ?_
            refine Lp_nil ?_
            repeat refine C_seq ?_
            refine C_false rfl (C_skip ?_)
            repeat refine C_seq ?_
            refine C_region ?_
            refine Lp_pv rfl rfl ?_
            first | refine Lp_pv rfl rfl ?_ | refine Lp_mv rfl rfl ?_
            refine Lp_nil ?_
            replace H := Holds.sel [2, 1, 1] 1 H; dsimp only [SL.sel, SL.pull, List.drop] at H
            exact ⟨_, ⟨rfl, i + 1, hlt, rfl, rfl, rfl, rfl, rfl, inc64 (by omega), H⟩, by omega⟩
        · replace H := Holds.sel [2] 2 H; dsimp only [SL.sel, SL.pull, List.drop] at H
          repeat refine C_seq ?_
          refine C_region ?_
          refine Lp_s rfl (St_call (a := []) (b := []) rfl rfl (call (talive_spec hp H) ?_))
          clear H; rintro v w ⟨rfl, H⟩
          first | refine Lp_pv rfl rfl ?_ | refine Lp_mv rfl rfl ?_
          first | refine Lp_gpv rfl rfl rfl rfl ?_ | refine Lp_no rfl rfl rfl ?_ | refine Lp_nn rfl rfl ?_
          first | refine Lp_gpv rfl rfl rfl rfl ?_ | refine Lp_g rfl rfl rfl (St_eqPtrNil rfl rfl (.inl rfl) rfl ?_) | refine Lp_g rfl rfl rfl (St_eqMapNil rfl rfl (.inl rfl) rfl ?_) | refine Lp_g rfl rfl rfl (St_eqPair rfl rfl (.inl rfl) rfl ?_) | refine Lp_g rfl rfl rfl (St_eqBool rfl rfl (.inl rfl) rfl ?_) | refine Lp_g rfl rfl rfl (St_eqS rfl rfl (.inl rfl) rfl ?_) | refine Lp_g rfl rfl rfl (St_eqSliceNil rfl rfl (.inl rfl) rfl ?_) | refine Lp_g rfl rfl rfl (St_eqStr rfl rfl (.inl rfl) rfl ?_) | refine Lp_no rfl rfl rfl ?_ | refine Lp_nn rfl rfl ?_
          refine Lp_pv rfl rfl ?_
          first | refine Lp_pv rfl rfl ?_ | refine Lp_mv rfl rfl ?_
          refine Lp_nil ?_
          exact C_ret (fn_end0 _ (.inr rfl) H rfl fun w' H' => ⟨rfl, H'⟩)
end Go.Proofs.YtdpephigccnkdaaDoor
