/- The statements' own helpers: Same, alive, grown. No condition. -/
import Derived.Test.YtdpephigccnkdaaRemE
set_option linter.unusedVariables false
set_option linter.unusedSimpArgs false
set_option linter.unusedSectionVars false
namespace Go.Proofs.Ytdpephigccnkdaa
open Go.SL

@[reducible] def SR (v : Value) (ks : List Rf) : HProp := sls 24 2 v (rcells ks)

theorem take_ext {α : Type} {a b : List α} {i : Nat} {x : α} (h : a.take i = b.take i) (ha : a[i]? = some x) (hb : b[i]? = some x) : a.take (i + 1) = b.take (i + 1) := by
  rw [List.take_add_one, List.take_add_one, h, ha, hb]

theorem Same_spec [Extra] (va vb : Value) (ka kb : List Rf) (hla : ka.length ≤ 1000000) {w : World} {fr : List HProp} (H : Holds w (SR va ka :: SR vb kb :: fr)) :
    Calls Try.prog 20 #[va, vb] w (ret fun v w' => v = .bool (decide (ka = kb)) ∧ Holds w' (SR va ka :: SR vb kb :: fr)) := by
  obtain ⟨a, ca, rfl⟩ := sls_slice H (rcells_length ka) (by decide)
  obtain ⟨b, cb, rfl⟩ := sls_slice H.drop (rcells_length kb) (by decide)
  refine calls_of Try.func20 rfl (by kernel_rfl) ?_
  repeat refine C_seq ?_
  refine C_region ?_
  first | refine Lp_pv rfl rfl ?_ | refine Lp_mv rfl rfl ?_
  refine Lp_nil ?_
  repeat refine C_seq ?_
  refine C_region ?_
  first | refine Lp_pv rfl rfl ?_ | refine Lp_mv rfl rfl ?_
  refine Lp_s rfl (St_lenSlice rfl rfl ?_)
  first | refine Lp_pv rfl rfl ?_ | refine Lp_mv rfl rfl ?_
  refine Lp_s rfl (St_lenSlice rfl rfl ?_)
  first | refine Lp_pv rfl rfl ?_ | refine Lp_s rfl (St_eqPtrNil rfl rfl (.inr rfl) rfl ?_) | refine Lp_s rfl (St_eqMapNil rfl rfl (.inr rfl) rfl ?_) | refine Lp_s rfl (St_eqPair rfl rfl (.inr rfl) rfl ?_) | refine Lp_s rfl (St_eqBool rfl rfl (.inr rfl) rfl ?_) | refine Lp_s rfl (St_eqStr rfl rfl (.inr rfl) rfl ?_)
  refine Lp_nil ?_
  repeat refine C_seq ?_
  refine C_cond rfl (fun h => ?_) (fun h => C_skip ?_)
  · repeat refine C_seq ?_
    refine C_region ?_
    first | refine Lp_pv rfl rfl ?_ | refine Lp_mv rfl rfl ?_
    refine Lp_nil ?_
    have hne : ka ≠ kb := by rintro rfl; simp at h
    exact C_ret (fn_end0 _ (.inr rfl) H rfl fun w' H' => ⟨by show Value.bool false = _; simp [hne], H'⟩)
  · have hl : ka.length = kb.length := by
      have h1 : ((ka.length : Int) != (kb.length : Int)) = false := h
      have h2 : (ka.length : Int) = (kb.length : Int) := by simpa using h1
      omega
    repeat refine C_seq ?_
    refine C_region ?_
    first | refine Lp_pv rfl rfl ?_ | refine Lp_mv rfl rfl ?_
    refine Lp_nil ?_
    repeat refine C_seq ?_
    refine C_block ?_
    refine C_loop (fun ms σ w n => ms = [] ∧ ∃ i : Nat, i ≤ ka.length ∧ n = ka.length - i ∧ σ 0 = .slice a ka.length ca ∧ σ 1 = .slice b kb.length cb ∧ σ 5 = .int .i64 i ∧ ka.take i = kb.take i ∧
      Holds w (SR (.slice a ka.length ca) ka :: SR (.slice b kb.length cb) kb :: fr)) (m := ka.length) ⟨rfl, 0, by omega, rfl, rfl, rfl, rfl, rfl, H⟩ ?_
    clear H
    rintro ms σ w n ⟨rfl, i, hi, rfl, h0, h1, h5, ht, H⟩
    rw [upd_self h0, upd_self h1, upd_self h5]
    repeat refine C_seq ?_
    refine C_region ?_
    first | refine Lp_pv rfl rfl ?_ | refine Lp_mv rfl rfl ?_
    first | refine Lp_pv rfl rfl ?_ | refine Lp_mv rfl rfl ?_
    refine Lp_s rfl (St_lenSlice rfl rfl ?_)
    refine Lp_pv rfl rfl ?_
    refine Lp_nil ?_
    repeat refine C_seq ?_
    refine C_dec rfl (fun h => C_skip ?_) (fun h => C_exit ?_)
    · have hlt : i < ka.length := by omega
      have hra := List.getElem?_eq_getElem hlt
      have hrb := List.getElem?_eq_getElem (l := kb) (i := i) (by omega)
      generalize ka[i] = ra at hra
      generalize kb[i]'(by omega) = rb at hrb
      obtain ⟨a1, a2⟩ := ra
      obtain ⟨b1, b2⟩ := rb
      obtain ⟨ba, sa, rfl, H, ka1⟩ := sls_open H (by omega)
      obtain ⟨bb, sb, rfl, H, kb1⟩ := sls_open H.swap (by omega)
      repeat refine C_seq ?_
      refine C_block ?_
      repeat refine C_seq ?_
      refine C_drawH H mixed ?_
      clear H; intro w H
      refine A_pv 0 rfl (Wants.none rfl) rfl (by kernel_rfl) ?_
      refine A_pv 1 rfl (Wants.none rfl) rfl (by kernel_rfl) ?_
      refine A_indexAddr 2 rfl (Wants.none rfl) rfl rfl (by omega) (by omega) (by kernel_rfl) ?_
      refine A_loadN 3 [] H rfl (Wants.none rfl) rfl (rcells_reads hra) (by kernel_rfl) ?_
      refine A_pv 4 rfl (Wants.none rfl) rfl (by kernel_rfl) ?_
      refine A_pv 5 rfl (Wants.none rfl) rfl (by kernel_rfl) ?_
      refine A_indexAddr 6 rfl (Wants.none rfl) rfl rfl (by omega) (by omega) (by kernel_rfl) ?_
      refine A_loadN 7 [] H rfl (Wants.none rfl) rfl (rcells_reads hrb) (by kernel_rfl) ?_
      first | refine A_pv 8 rfl (Wants.none rfl) rfl (by kernel_rfl) ?_ | refine A_eqPair 8 rfl (Wants.none rfl) rfl rfl (.inr rfl) (by kernel_rfl) ?_ | refine A_eqPtrNil 8 rfl (Wants.none rfl) rfl rfl (.inr rfl) (by kernel_rfl) ?_ | refine A_eqBool 8 rfl (Wants.none rfl) rfl rfl (.inr rfl) (by kernel_rfl) ?_ | refine A_eqStr 8 rfl (Wants.none rfl) rfl rfl (.inr rfl) (by kernel_rfl) ?_
      refine A_end (by kernel_rfl) (by repeat (first | exact InvL.nil | refine InvL.cons (.inr (Holds.at H)) ?_ | refine InvL.cons (.inr (Holds.mp H)) ?_ | refine InvL.cons (.inl (by kernel_rfl)) ?_)) ?_
      replace H := ka1 _ _ (kb1 _ _ H).swap
      repeat refine C_seq ?_
      refine C_cond rfl (fun h => ?_) (fun h => C_skip ?_)
      · have hne : ¬ (a1, a2) = (b1, b2) := by
          intro e
          rw [Prod.mk.injEq] at e
          obtain ⟨rfl, rfl⟩ := e
          simp [isEql] at h
        repeat refine C_seq ?_
        refine C_region ?_
        first | refine Lp_pv rfl rfl ?_ | refine Lp_mv rfl rfl ?_
        refine Lp_nil ?_
        refine C_ret (fn_end0 _ (.inr rfl) H rfl fun w' H' => ⟨?_, H'⟩)
        show Value.bool false = _
        have : ka ≠ kb := by
          rintro rfl
          rw [hra] at hrb
          exact hne (by simpa using hrb)
        simp [this]
      · have he : (a1, a2) = (b1, b2) := by simpa [isEql] using h
        repeat refine C_seq ?_
        refine C_region ?_
        first | refine Lp_pv rfl rfl ?_ | refine Lp_mv rfl rfl ?_
        refine Lp_pv rfl rfl ?_
        first | refine Lp_pv rfl rfl ?_ | refine Lp_mv rfl rfl ?_
        refine Lp_nil ?_
        exact ⟨_, ⟨rfl, i + 1, hlt, rfl, rfl, rfl, inc64 (by omega), take_ext ht hra (by rw [hrb, he]), H⟩, by omega⟩
    · have hge : i = ka.length := by omega
      subst hge
      repeat refine C_seq ?_
      refine C_region ?_
      first | refine Lp_pv rfl rfl ?_ | refine Lp_mv rfl rfl ?_
      refine Lp_nil ?_
      have : ka = kb := by
        rw [List.take_length, hl, List.take_length] at ht
        exact ht
      exact C_ret (fn_end0 _ (.inr rfl) H rfl fun w' H' => ⟨by show Value.bool true = _; simp [this], H'⟩)

theorem rising_unique : ∀ {a b : List Rf}, Rising a → Rising b → (∀ r, r ∈ a ↔ r ∈ b) → a = b
  | [], [], _, _, _ => rfl
  | [], y :: b, _, _, h => absurd ((h y).2 (by simp)) (by simp)
  | x :: a, [], _, _, h => absurd ((h x).1 (by simp)) (by simp)
  | x :: a, y :: b, ha, hb, h => by
    have ha' := List.pairwise_cons.1 ha
    have hb' := List.pairwise_cons.1 hb
    have hxy : x = y := by
      rcases List.mem_cons.1 ((h x).1 (by simp)) with e | h1
      · exact e
      · rcases List.mem_cons.1 ((h y).2 (by simp)) with e | h2
        · exact e.symm
        · have p1 := hb'.1 x h1
          have p2 := ha'.1 y h2
          unfold ltR at p1 p2
          omega
    subst hxy
    have ir : ∀ r, ¬ ltR r r := fun r => by unfold ltR; omega
    rw [rising_unique ha'.2 hb'.2 fun r => ⟨fun hr => ?_, fun hr => ?_⟩]
    · rcases List.mem_cons.1 ((h r).1 (by simp [hr])) with e | h1
      · subst e; exact absurd (ha'.1 r hr) (ir r)
      · exact h1
    · rcases List.mem_cons.1 ((h r).2 (by simp [hr])) with e | h1
      · subst e; exact absurd (hb'.1 r hr) (ir r)
      · exact h1

theorem alive_spec [Extra] {w : World} {fr : List HProp} (H : Holds w fr) : Calls Try.prog 10 #[] w (ret fun v w' => v = .bool true ∧ Holds w' fr) := by
  refine calls_of Try.func10 rfl (by kernel_rfl) ?_
  repeat refine C_seq ?_
  refine C_region ?_
  first | refine Lp_pv rfl rfl ?_ | refine Lp_mv rfl rfl ?_
  refine Lp_nil ?_
  repeat refine C_seq ?_
  refine C_region ?_
  refine Lp_s rfl (St_call (a := []) (b := []) rfl rfl (call (New_spec H) ?_))
  rintro v w ⟨p, rfl, H⟩
  first | refine Lp_pv rfl rfl ?_ | refine Lp_mv rfl rfl ?_
  refine Lp_nil ?_
  repeat refine C_seq ?_
  refine C_region ?_
  first | refine Lp_pv rfl rfl ?_ | refine Lp_mv rfl rfl ?_
  first | refine Lp_pv rfl rfl ?_ | refine Lp_s rfl (St_eqPtrNil rfl rfl (.inl rfl) rfl ?_) | refine Lp_s rfl (St_eqMapNil rfl rfl (.inl rfl) rfl ?_) | refine Lp_s rfl (St_eqPair rfl rfl (.inl rfl) rfl ?_) | refine Lp_s rfl (St_eqBool rfl rfl (.inl rfl) rfl ?_) | refine Lp_s rfl (St_eqStr rfl rfl (.inl rfl) rfl ?_)
  first | refine Lp_pv rfl rfl ?_ | refine Lp_mv rfl rfl ?_
  first | refine Lp_gpv rfl rfl rfl rfl ?_ | refine Lp_no rfl rfl rfl ?_ | refine Lp_nn rfl rfl ?_
  first | refine Lp_g rfl rfl rfl (St_build rfl rfl ?_) | refine Lp_no rfl rfl rfl ?_ | refine Lp_nn rfl rfl ?_
  refine Lp_g rfl rfl rfl (St_call (a := []) (b := []) rfl rfl (call (Put_spec p [] (by simp) (3, 1) 7 H) ?_))
  clear H; rintro v w ⟨rfl, H⟩
  replace H : Holds w (RS p [((3, 1), 7)] :: fr) := H
  first | refine Lp_gpv rfl rfl rfl rfl ?_ | refine Lp_no rfl rfl rfl ?_ | refine Lp_nn rfl rfl ?_
  refine Lp_pv rfl rfl ?_
  first | refine Lp_pv rfl rfl ?_ | refine Lp_mv rfl rfl ?_
  first | refine Lp_gpv rfl rfl rfl rfl ?_ | refine Lp_no rfl rfl rfl ?_ | refine Lp_nn rfl rfl ?_
  first | refine Lp_g rfl rfl rfl (St_build rfl rfl ?_) | refine Lp_no rfl rfl rfl ?_ | refine Lp_nn rfl rfl ?_
  refine Lp_g rfl rfl rfl (St_call (a := []) (b := []) rfl rfl (call (Put_spec p [((3, 1), 7)] (by simp) (2, 5) 7 H) ?_))
  clear H; rintro v w ⟨rfl, H⟩
  replace H : Holds w (RS p [((3, 1), 7), ((2, 5), 7)] :: fr) := H
  first | refine Lp_gpv rfl rfl rfl rfl ?_ | refine Lp_no rfl rfl rfl ?_ | refine Lp_nn rfl rfl ?_
  refine Lp_pv rfl rfl ?_
  first | refine Lp_pv rfl rfl ?_ | refine Lp_mv rfl rfl ?_
  first | refine Lp_gpv rfl rfl rfl rfl ?_ | refine Lp_no rfl rfl rfl ?_ | refine Lp_nn rfl rfl ?_
  first | refine Lp_g rfl rfl rfl (St_build rfl rfl ?_) | refine Lp_no rfl rfl rfl ?_ | refine Lp_nn rfl rfl ?_
  refine Lp_g rfl rfl rfl (St_call (a := []) (b := []) rfl rfl (call (Put_spec p [((3, 1), 7), ((2, 5), 7)] (by simp) (3, 1) 8 H) ?_))
  clear H; rintro v w ⟨rfl, H⟩
  replace H : Holds w (RS p [((2, 5), 7), ((3, 1), 8)] :: fr) := H
  refine Lp_pv rfl rfl ?_
  refine Lp_nil ?_
  repeat refine C_seq ?_
  refine C_false rfl (C_skip ?_)
  repeat refine C_seq ?_
  refine C_region ?_
  first | refine Lp_pv rfl rfl ?_ | refine Lp_mv rfl rfl ?_
  refine Lp_s rfl (St_call (a := []) (b := []) rfl rfl (call (Of_spec p [((2, 5), 7), ((3, 1), 8)] (by simp) 7 H) ?_))
  rintro v w ⟨ks, hk, hs, H⟩
  have e1 : ks = [(2, 5)] := rising_unique hs (List.pairwise_singleton _ _) fun r => by
    rw [hk]
    simp only [fnd]
    repeat' split
    all_goals simp_all [eq_comm]
  subst e1
  refine Lp_s rfl (St_build rfl rfl ?_)
  (refine Lp_s rfl (St_buildSlice H rfl rfl rfl ?_); clear H; intro b25 w H)
  replace H := sls_lit (E := 24) (k := 2) (len := 1) (c := rcells [(2, 5)]) rfl H
  refine Lp_s rfl (St_call (a := []) (b := []) rfl rfl (call (Same_spec _ _ [(2, 5)] [(2, 5)] (by simp) H.swap) ?_))
  clear H; rintro v w ⟨rfl, H⟩
  first | refine Lp_pv rfl rfl ?_ | refine Lp_mv rfl rfl ?_
  first | refine Lp_gpv rfl rfl rfl rfl ?_ | refine Lp_no rfl rfl rfl ?_ | refine Lp_nn rfl rfl ?_
  refine Lp_g rfl rfl rfl (St_call (a := []) (b := []) rfl rfl (call (From_spec p [((2, 5), 7), ((3, 1), 8)] (by simp) 3 (H.drop.drop)) ?_))
  rintro v w ⟨ks, hk, hs, H⟩
  have e1 : ks = [(3, 1)] := rising_unique hs (List.pairwise_singleton _ _) fun r => by
    rw [hk]
    simp only [fnd]
    obtain ⟨r1, r2⟩ := r
    by_cases h1 : ((2, 5) : Rf) = (r1, r2)
    · rw [if_pos h1]; simp at h1 ⊢; omega
    · by_cases h2 : ((3, 1) : Rf) = (r1, r2)
      · rw [if_neg h1, if_pos h2]; simp at h2 ⊢; omega
      · rw [if_neg h1, if_neg h2]; simp at h2 ⊢; omega
  subst e1
  first | refine Lp_g rfl rfl rfl (St_build rfl rfl ?_) | refine Lp_no rfl rfl rfl ?_ | refine Lp_nn rfl rfl ?_
  first | (refine Lp_g rfl rfl rfl (St_buildSlice H rfl rfl rfl ?_); clear H; intro b31 w H) | refine Lp_no rfl rfl rfl ?_ | refine Lp_nn rfl rfl ?_
  replace H := sls_lit (E := 24) (k := 2) (len := 1) (c := rcells [(3, 1)]) rfl H
  refine Lp_g rfl rfl rfl (St_call (a := []) (b := []) rfl rfl (call (Same_spec _ _ [(3, 1)] [(3, 1)] (by simp) H.swap) ?_))
  clear H; rintro v w ⟨rfl, H⟩
  refine Lp_pv rfl rfl ?_
  first | refine Lp_pv rfl rfl ?_ | refine Lp_mv rfl rfl ?_
  first | refine Lp_gpv rfl rfl rfl rfl ?_ | refine Lp_no rfl rfl rfl ?_ | refine Lp_nn rfl rfl ?_
  refine Lp_g rfl rfl rfl (St_call (a := []) (b := []) rfl rfl (call (Len_spec p [((2, 5), 7), ((3, 1), 8)] H.drop.drop) ?_))
  clear H; rintro v w ⟨rfl, H⟩
  first | refine Lp_gpv rfl rfl rfl rfl ?_ | refine Lp_g rfl rfl rfl (St_eqPtrNil rfl rfl (.inl rfl) rfl ?_) | refine Lp_g rfl rfl rfl (St_eqMapNil rfl rfl (.inl rfl) rfl ?_) | refine Lp_g rfl rfl rfl (St_eqPair rfl rfl (.inl rfl) rfl ?_) | refine Lp_g rfl rfl rfl (St_eqBool rfl rfl (.inl rfl) rfl ?_) | refine Lp_g rfl rfl rfl (St_eqStr rfl rfl (.inl rfl) rfl ?_) | refine Lp_no rfl rfl rfl ?_ | refine Lp_nn rfl rfl ?_
  refine Lp_pv rfl rfl ?_
  first | refine Lp_pv rfl rfl ?_ | refine Lp_mv rfl rfl ?_
  refine Lp_nil ?_
  exact C_ret (fn_end0 _ (.inr rfl) H.drop rfl fun w' H' => ⟨rfl, H'⟩)
end Go.Proofs.Ytdpephigccnkdaa
