/- Tokens: Compact and Sort. No condition. -/
import Derived.Test.YtdpephigccnkdaaDoorTokF
set_option linter.unusedVariables false
set_option linter.unusedSimpArgs false
set_option linter.unusedSectionVars false
namespace Go.Proofs.YtdpephigccnkdaaDoor
open Go.SL

theorem wr_left : ∀ (vs A S : List Value) (o : Nat), o + vs.length ≤ A.length → wr (A ++ S) o vs = wr A o vs ++ S
  | [], A, S, o, _ => rfl
  | v :: vs, A, S, o, h => by
    rw [List.length_cons] at h
    show wr ((A ++ S).set o v) (o + 1) vs = wr (A.set o v) (o + 1) vs ++ S
    rw [List.set_append_left _ _ (by omega)]
    exact wr_left vs _ S (o + 1) (by simp; omega)

theorem comp_small {l : List Tk} (h : l.length < 2) : comp l = l := by
  match l, h with
  | [], _ => rfl
  | [x], _ => rfl
  | _ :: _ :: _, h => simp only [List.length_cons] at h; omega

theorem pred64 {k : Nat} (h0 : 1 ≤ k) (h : k < 1000000000) : IntKind.i64.wrap ((k : Int) - 1) = ((k - 1 : Nat) : Int) := by
  rw [wrap64 (by omega) (by omega)]; omega

set_option maxHeartbeats 4000000 in
theorem Compact_spec [Extra] (v : Value) (ts : List Tk) (hl : ts.length ≤ 1000000) {w : World} {fr : List HProp} (H : Holds w (TL v ts :: fr)) :
    Calls Tryd.prog 27 #[v] w (ret fun v' w' => Holds w' (TL v' (comp ts) :: fr)) := by
  rcases sls_case H with ⟨rfl, h0, H'⟩ | ⟨b, len, cap, spare, rfl, e3, e4, e5, H'⟩
  · have hz : ts = [] := List.eq_nil_of_length_eq_zero (by have := tcells_length ts; rw [h0] at this; simp at this; omega)
    subst hz
    refine calls_of Tryd.func27 rfl (by kernel_rfl) ?_
    repeat refine C_seq ?_
    refine C_region ?_
    first | refine Lp_pv rfl rfl ?_ | refine Lp_mv rfl rfl ?_
    refine Lp_nil ?_
    repeat refine C_seq ?_
    refine C_region ?_
    first | refine Lp_pv rfl rfl ?_ | refine Lp_mv rfl rfl ?_
    refine Lp_s rfl (St_lenSlice rfl rfl ?_)
    refine Lp_pv rfl rfl ?_
    refine Lp_nil ?_
    repeat refine C_seq ?_
    refine C_true rfl ?_
    repeat refine C_seq ?_
    refine C_region ?_
    first | refine Lp_pv rfl rfl ?_ | refine Lp_mv rfl rfl ?_
    first | refine Lp_pv rfl rfl ?_ | refine Lp_mv rfl rfl ?_
    refine Lp_nil ?_
    exact C_ret (fn_end0 _ (.inr rfl) H rfl fun w' H' => H')
  · have hlen : len = ts.length := by rw [tcells_length] at e3; omega
    subst hlen
    have Hs := H
    clear H
    have H := H'
    clear H'
    refine calls_of Tryd.func27 rfl (by kernel_rfl) ?_
    repeat refine C_seq ?_
    refine C_region ?_
    first | refine Lp_pv rfl rfl ?_ | refine Lp_mv rfl rfl ?_
    refine Lp_nil ?_
    repeat refine C_seq ?_
    refine C_region ?_
    first | refine Lp_pv rfl rfl ?_ | refine Lp_mv rfl rfl ?_
    refine Lp_s rfl (St_lenSlice rfl rfl ?_)
    refine Lp_pv rfl rfl ?_
    refine Lp_nil ?_
    repeat refine C_seq ?_
    refine C_dec rfl (fun h => ?_) (fun h => C_skip ?_)
    · repeat refine C_seq ?_
      refine C_region ?_
      first | refine Lp_pv rfl rfl ?_ | refine Lp_mv rfl rfl ?_
      first | refine Lp_pv rfl rfl ?_ | refine Lp_mv rfl rfl ?_
      refine Lp_nil ?_
      refine C_ret (fn_end0 _ (.inr rfl) (sls_of e3 e4 e5 H) rfl fun w' H' => ?_)
      rw [comp_small (by omega)]
      exact H'
    clear Hs
    repeat refine C_seq ?_
    refine C_region ?_
    first | refine Lp_pv rfl rfl ?_ | refine Lp_mv rfl rfl ?_
    refine Lp_nil ?_
    repeat refine C_seq ?_
    refine C_block ?_
    refine C_loop (fun ms σ w n => ms = [] ∧ ∃ i : Nat, 1 ≤ i ∧ i ≤ ts.length ∧ n = ts.length - i ∧ comp (ts.take i) = ts.take i ∧ σ 0 = .slice (some ⟨b, 0, none⟩) ts.length cap ∧ σ 3 = .int .i64 i ∧ Holds w (pts b (row 23 (tcells ts ++ spare)) :: fr)) (m := ts.length - 1) ⟨rfl, 1, by omega, by omega, rfl, comp_small (by rw [List.length_take]; omega), rfl, rfl, H⟩ ?_
    clear H
    rintro ms σ w n ⟨rfl, i, hi1, hi, rfl, hc, h0, h3, H⟩
    rw [upd_self h0, upd_self h3]
    repeat refine C_seq ?_
    refine C_region ?_
    first | refine Lp_pv rfl rfl ?_ | refine Lp_mv rfl rfl ?_
    first | refine Lp_pv rfl rfl ?_ | refine Lp_mv rfl rfl ?_
    refine Lp_s rfl (St_lenSlice rfl rfl ?_)
    refine Lp_pv rfl rfl ?_
    refine Lp_nil ?_
    repeat refine C_seq ?_
    refine C_dec rfl (fun h => C_skip ?_) (fun h => C_exit ?_)
    · have hlt : i < ts.length := by omega
      have hy := List.getElem?_eq_getElem hlt
      have hx := List.getElem?_eq_getElem (l := ts) (i := i - 1) (by omega)
      generalize ts[i] = y at hy
      generalize ts[i - 1]'(by omega) = x at hx
      have hct := comp_take hi1 hx hy
      obtain ⟨x1, x2⟩ := x
      obtain ⟨y1, y2⟩ := y
      have hp := pred64 hi1 (by omega)
      repeat refine C_seq ?_
      refine C_block ?_
      repeat refine C_seq ?_
      refine C_drawH H mixed ?_
      clear H; intro w H
      refine A_pv 0 rfl (Wants.none rfl) rfl (by kernel_rfl) ?_
      refine A_pv 1 rfl (Wants.none rfl) rfl (by kernel_rfl) ?_
      refine A_indexAddr 2 rfl (Wants.none rfl) rfl rfl (by omega) (by omega) (by kernel_rfl) ?_
      refine A_loadN 3 [] H rfl (Wants.none rfl) rfl (tcells_reads hy) (by kernel_rfl) ?_
      refine A_pv 4 rfl (Wants.none rfl) rfl (by kernel_rfl) ?_
      refine A_pv 5 rfl (Wants.none rfl) rfl (by kernel_rfl) ?_
      refine A_pv 6 rfl (Wants.none rfl) rfl (by kernel_rfl) ?_
      rw [hp]
      refine A_indexAddr 7 rfl (Wants.none rfl) rfl rfl (by omega) (by omega) (by kernel_rfl) ?_
      refine A_loadN 8 [] H rfl (Wants.none rfl) rfl (tcells_reads hx) (by kernel_rfl) ?_
      first | refine A_pv 9 rfl (Wants.none rfl) rfl (by kernel_rfl) ?_ | refine A_eqPair 9 rfl (Wants.none rfl) rfl rfl (.inl rfl) (by kernel_rfl) ?_ | refine A_eqPtrNil 9 rfl (Wants.none rfl) rfl rfl (.inl rfl) (by kernel_rfl) ?_ | refine A_eqBool 9 rfl (Wants.none rfl) rfl rfl (.inl rfl) (by kernel_rfl) ?_ | refine A_eqS 9 rfl (Wants.none rfl) rfl rfl (.inl rfl) (by kernel_rfl) ?_ | refine A_eqStr 9 rfl (Wants.none rfl) rfl rfl (.inl rfl) (by kernel_rfl) ?_
      refine A_end (by kernel_rfl) (by repeat (first | exact InvL.nil | refine InvL.cons (.inr (Holds.at H)) ?_ | refine InvL.cons (.inr (Holds.mp H)) ?_ | refine InvL.cons (.inl (by kernel_rfl)) ?_)) ?_
      repeat refine C_seq ?_
      refine C_cond rfl (fun h => ?_) (fun h => C_skip ?_)
      · have he : (x1, x2) = (y1, y2) := by
          have : (y1, y2) = (x1, x2) := by simpa [isEql] using h
          exact this.symm
        rw [if_pos he, hc] at hct
        repeat refine C_seq ?_
        refine C_region ?_
        first | refine Lp_pv rfl rfl ?_ | refine Lp_mv rfl rfl ?_
        first | refine Lp_pv rfl rfl ?_ | refine Lp_mv rfl rfl ?_
        refine Lp_s rfl (St_sliceFrom rfl rfl (by omega) (by omega) (by omega) rfl ?_)
        first | refine Lp_pv rfl rfl ?_ | refine Lp_mv rfl rfl ?_
        refine Lp_nil ?_
        repeat refine C_seq ?_
        refine C_region ?_
        first | refine Lp_pv rfl rfl ?_ | refine Lp_mv rfl rfl ?_
        refine Lp_nil ?_
        repeat refine C_seq ?_
        refine C_block ?_
        refine C_loop (fun ms σ w n => ms = [] ∧ ∃ (j i' : Nat) (cur : List Tk), 1 ≤ j ∧ i + j ≤ ts.length ∧ n = ts.length - i - j ∧ i ≤ i' ∧ i' + 1 ≤ i + j ∧ cur.length = ts.length ∧ cur.take i' = comp (ts.take (i + j)) ∧ (∀ p, i + j ≤ p + 1 → cur[p]? = ts[p]?) ∧ σ 0 = .slice (some ⟨b, 0, none⟩) ts.length cap ∧ σ 3 = .int .i64 i' ∧ σ 4 = .slice (some ⟨b, 0 + i * 2, none⟩) (ts.length - i) (cap - i) ∧ σ 5 = .int .i64 j ∧ Holds w (pts b (row 23 (tcells cur ++ spare)) :: fr)) (m := ts.length - i - 1) ⟨rfl, 1, i, ts, by omega, by omega, rfl, by omega, by omega, rfl, hct.symm, fun _ _ => rfl, rfl, rfl, rfl, rfl, H⟩ ?_
        clear H h0 h3
        rintro ms σ w n ⟨rfl, j, i', cur, hj1, hj, rfl, hi', hij, hcl, hcc, hrest, h0, h3, h4, h5, H⟩
        rw [upd_self h0, upd_self h3, upd_self h4, upd_self h5]
        repeat refine C_seq ?_
        refine C_region ?_
        first | refine Lp_pv rfl rfl ?_ | refine Lp_mv rfl rfl ?_
        first | refine Lp_pv rfl rfl ?_ | refine Lp_mv rfl rfl ?_
        refine Lp_s rfl (St_lenSlice rfl rfl ?_)
        refine Lp_pv rfl rfl ?_
        refine Lp_nil ?_
        repeat refine C_seq ?_
        refine C_dec rfl (fun h => C_skip ?_) (fun h => C_exit ?_)
        · have hlt2 : i + j < ts.length := by omega
          have hy2 := List.getElem?_eq_getElem hlt2
          have hx2 := List.getElem?_eq_getElem (l := ts) (i := i + j - 1) (by omega)
          generalize ts[i + j] = y at hy2
          generalize ts[i + j - 1]'(by omega) = x at hx2
          have hct2 := comp_take (by omega) hx2 hy2
          have hyc : cur[i + j]? = some y := by rw [hrest _ (by omega), hy2]
          have hxc : cur[i + (j - 1)]? = some x := by rw [hrest _ (by omega), show i + (j - 1) = i + j - 1 by omega, hx2]
          clear hy hx he h
          obtain ⟨u1, u2⟩ := x
          obtain ⟨z1, z2⟩ := y
          have hp2 := pred64 hj1 (by omega)
          have hry : Reads (tcells cur ++ spare) (0 + i * 2 + j * 2) 2 [.int .i64 z1, .int .i64 z2] := by
            have := tcells_reads (spare := spare) hyc
            rw [show 0 + (i + j) * 2 = 0 + i * 2 + j * 2 by omega] at this
            exact this
          have hrx : Reads (tcells cur ++ spare) (0 + i * 2 + (j - 1) * 2) 2 [.int .i64 u1, .int .i64 u2] := by
            have := tcells_reads (spare := spare) hxc
            rw [show 0 + (i + (j - 1)) * 2 = 0 + i * 2 + (j - 1) * 2 by omega] at this
            exact this
          repeat refine C_seq ?_
          refine C_block ?_
          repeat refine C_seq ?_
          refine C_drawH H mixed ?_
          clear H; intro w H
          refine A_pv 0 rfl (Wants.none rfl) rfl (by kernel_rfl) ?_
          refine A_pv 1 rfl (Wants.none rfl) rfl (by kernel_rfl) ?_
          refine A_indexAddr 2 rfl (Wants.none rfl) rfl rfl (by omega) (by omega) (by kernel_rfl) ?_
          refine A_loadN 3 [] H rfl (Wants.none rfl) rfl hry (by kernel_rfl) ?_
          refine A_pv 4 rfl (Wants.none rfl) rfl (by kernel_rfl) ?_
          refine A_pv 5 rfl (Wants.none rfl) rfl (by kernel_rfl) ?_
          refine A_pv 6 rfl (Wants.none rfl) rfl (by kernel_rfl) ?_
          rw [hp2]
          refine A_indexAddr 7 rfl (Wants.none rfl) rfl rfl (by omega) (by omega) (by kernel_rfl) ?_
          refine A_loadN 8 [] H rfl (Wants.none rfl) rfl hrx (by kernel_rfl) ?_
          first | refine A_pv 9 rfl (Wants.none rfl) rfl (by kernel_rfl) ?_ | refine A_eqPair 9 rfl (Wants.none rfl) rfl rfl (.inr rfl) (by kernel_rfl) ?_ | refine A_eqPtrNil 9 rfl (Wants.none rfl) rfl rfl (.inr rfl) (by kernel_rfl) ?_ | refine A_eqBool 9 rfl (Wants.none rfl) rfl rfl (.inr rfl) (by kernel_rfl) ?_ | refine A_eqS 9 rfl (Wants.none rfl) rfl rfl (.inr rfl) (by kernel_rfl) ?_ | refine A_eqStr 9 rfl (Wants.none rfl) rfl rfl (.inr rfl) (by kernel_rfl) ?_
          refine A_end (by kernel_rfl) (by repeat (first | exact InvL.nil | refine InvL.cons (.inr (Holds.at H)) ?_ | refine InvL.cons (.inr (Holds.mp H)) ?_ | refine InvL.cons (.inl (by kernel_rfl)) ?_)) ?_
          repeat refine C_seq ?_
          refine C_cond rfl (fun h => ?_) (fun h => C_skip ?_)
          · have hne : ¬ (u1, u2) = (z1, z2) := by
              intro e
              rw [Prod.mk.injEq] at e
              obtain ⟨rfl, rfl⟩ := e
              simp [isEql] at h
            rw [if_neg hne] at hct2
            repeat refine C_seq ?_
            refine C_region ?_
            first | refine Lp_pv rfl rfl ?_ | refine Lp_mv rfl rfl ?_
            first | refine Lp_pv rfl rfl ?_ | refine Lp_mv rfl rfl ?_
            first | refine Lp_pv rfl rfl ?_ | refine Lp_mv rfl rfl ?_
            first | refine Lp_pv rfl rfl ?_ | refine Lp_mv rfl rfl ?_
            refine Lp_s rfl (St_indexAddr rfl rfl (by omega) (by omega) rfl ?_)
            refine Lp_s rfl (St_loadN H rfl hry rfl ?_)
            refine Lp_s rfl (St_indexAddr rfl rfl (by omega) (by omega) rfl ?_)
            refine Lp_s rfl (St_storeN H rfl rfl inferInstance rfl rfl (by rw [List.length_append, tcells_length]; omega) rfl ?_); clear H; intro w H
            refine Lp_nil ?_
            repeat refine C_seq ?_
            refine C_region ?_
            first | refine Lp_pv rfl rfl ?_ | refine Lp_mv rfl rfl ?_
            refine Lp_pv rfl rfl ?_
            first | refine Lp_pv rfl rfl ?_ | refine Lp_mv rfl rfl ?_
            refine Lp_nil ?_
            repeat refine C_seq ?_
            refine C_region ?_
            first | refine Lp_pv rfl rfl ?_ | refine Lp_mv rfl rfl ?_
            refine Lp_pv rfl rfl ?_
            first | refine Lp_pv rfl rfl ?_ | refine Lp_mv rfl rfl ?_
            refine Lp_nil ?_
            have hwr : wr (tcells cur ++ spare) (0 + i' * 2) [.int .i64 z1, .int .i64 z2] = tcells (cur.set i' (z1, z2)) ++ spare := by
              rw [Nat.zero_add, wr_left _ _ _ _ (by rw [tcells_length]; simp; omega), tcells_set cur i' (z1, z2) (by omega)]
            replace H : Holds w (pts b (row 23 (wr (tcells cur ++ spare) (0 + i' * 2) [.int .i64 z1, .int .i64 z2])) :: fr) := H
            rw [hwr] at H
            refine ⟨_, ⟨rfl, j + 1, i' + 1, cur.set i' (z1, z2), by omega, by omega, rfl, by omega, by omega, by simp [hcl], ?_, ?_, rfl, inc64 (by omega), rfl, inc64 (by omega), H⟩, by omega⟩
            · rw [← Nat.add_assoc, hct2, ← hcc, List.take_add_one, List.take_set_of_le (Nat.le_refl _)]
              simp [List.getElem?_set, show i' < cur.length by omega]
            · intro p hpp
              rw [List.getElem?_set_ne (by omega)]
              exact hrest p (by omega)
          · have he2 : (u1, u2) = (z1, z2) := by
              have : (z1, z2) = (u1, u2) := by simpa [isEql] using h
              exact this.symm
            rw [if_pos he2] at hct2
            repeat refine C_seq ?_
            refine C_region ?_
            first | refine Lp_pv rfl rfl ?_ | refine Lp_mv rfl rfl ?_
            refine Lp_pv rfl rfl ?_
            first | refine Lp_pv rfl rfl ?_ | refine Lp_mv rfl rfl ?_
            refine Lp_nil ?_
            exact ⟨_, ⟨rfl, j + 1, i', cur, by omega, by omega, rfl, by omega, by omega, hcl, by rw [← Nat.add_assoc, hct2, hcc], fun p hpp => hrest p (by omega), rfl, rfl, rfl, inc64 (by omega), H⟩, by omega⟩
        · have hje : i + j = ts.length := by omega
          rw [hje, List.take_length] at hcc
          repeat refine C_seq ?_
          refine C_region ?_
          first | refine Lp_pv rfl rfl ?_ | refine Lp_mv rfl rfl ?_
          first | refine Lp_pv rfl rfl ?_ | refine Lp_mv rfl rfl ?_
          refine Lp_s rfl (St_sliceFrom rfl rfl (by omega) (by omega) (by omega) rfl ?_)
          have hzl : (zeros (cellsL (.agg #[.int .i64 0, .int .i64 0])) (ts.length - i')).length = (ts.length - i') * 2 := by
            rw [zeros_length]; rfl
          refine Lp_s rfl (St_clear H rfl (by omega) (by
            show 0 + i' * 2 + (zeros (cellsL (.agg #[.int .i64 0, .int .i64 0])) (ts.length - i')).length ≤ _
            rw [hzl, List.length_append, tcells_length, hcl]; omega) rfl rfl ?_); clear H; intro w H
          refine Lp_nil ?_
          repeat refine C_seq ?_
          refine C_region ?_
          first | refine Lp_pv rfl rfl ?_ | refine Lp_mv rfl rfl ?_
          first | refine Lp_pv rfl rfl ?_ | refine Lp_mv rfl rfl ?_
          refine Lp_s rfl (St_sliceTo rfl rfl (by omega) (by omega) rfl ?_)
          first | refine Lp_pv rfl rfl ?_ | refine Lp_mv rfl rfl ?_
          refine Lp_nil ?_
          replace H : Holds w (pts b (row 23 (wr (tcells cur ++ spare) (0 + i' * 2) (zeros (cellsL (.agg #[.int .i64 0, .int .i64 0])) (ts.length - i')))) :: fr) := H
          have hwl : 0 + i' * 2 + (zeros (cellsL (.agg #[.int .i64 0, .int .i64 0])) (ts.length - i')).length = ts.length * 2 := by rw [hzl]; omega
          rw [wr_eq _ _ _ (by rw [hwl, List.length_append, tcells_length, hcl]; omega), hwl, Nat.zero_add, List.take_append_of_le_length (by rw [tcells_length]; omega), tcells_take, hcc, List.append_assoc] at H
          have hcn : (comp ts).length = i' := by rw [← hcc, List.length_take]; omega
          refine C_ret (fn_end0 _ (.inr rfl) (sls_of (len := i') (cap := cap) (by rw [tcells_length, hcn]) (by omega) ?_ H) rfl fun w' H' => H')
          rw [List.length_append, hzl, List.length_drop, List.length_append, tcells_length, hcl, e5]
          omega
      · have hne : ¬ (x1, x2) = (y1, y2) := by
          intro e
          rw [Prod.mk.injEq] at e
          obtain ⟨rfl, rfl⟩ := e
          simp [isEql] at h
        rw [if_neg hne, hc] at hct
        repeat refine C_seq ?_
        refine C_region ?_
        first | refine Lp_pv rfl rfl ?_ | refine Lp_mv rfl rfl ?_
        refine Lp_pv rfl rfl ?_
        first | refine Lp_pv rfl rfl ?_ | refine Lp_mv rfl rfl ?_
        refine Lp_nil ?_
        refine ⟨_, ⟨rfl, i + 1, by omega, hlt, rfl, ?_, rfl, inc64 (by omega), H⟩, by omega⟩
        rw [hct, List.take_add_one, hy]
        rfl
    · have hge : i = ts.length := by omega
      subst hge
      rw [List.take_length] at hc
      repeat refine C_seq ?_
      refine C_region ?_
      first | refine Lp_pv rfl rfl ?_ | refine Lp_mv rfl rfl ?_
      first | refine Lp_pv rfl rfl ?_ | refine Lp_mv rfl rfl ?_
      refine Lp_nil ?_
      refine C_ret (fn_end0 _ (.inr rfl) (sls_of e3 e4 e5 H) rfl fun w' H' => ?_)
      rw [hc]
      exact H'
end Go.Proofs.YtdpephigccnkdaaDoor
