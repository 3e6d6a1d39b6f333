/- RemsetForgets: the walk. No condition. -/
import Derived.Test.YtdpephigccnkdaaRemG
set_option linter.unusedVariables false
set_option linter.unusedSimpArgs false
set_option linter.unusedSectionVars false
namespace Go.Proofs.Ytdpephigccnkdaa
open Go.SL

theorem To2_spec [Extra] (p : Nat) (m : List (Rf × Int)) (r : Rf) {w : World} {fr : List HProp} (H : Holds w (RS p m :: fr)) :
    Calls Try.prog 8 #[pp p, rf r] w (ret fun v w' => v = .tuple #[.int .i64 ((fnd m r).getD 0), .bool (fnd m r).isSome] ∧ Holds w' (RS p m :: fr)) :=
  To_spec p m r H

def icells (l : List Int) : List Value := l.map fun x => .int .i64 x
theorem icells_length (l : List Int) : (icells l).length = l.length * 1 := by simp [icells]
theorem icells_snoc (l : List Int) (x : Int) : icells (l ++ [x]) = icells l ++ [.int .i64 x] := by simp [icells]
theorem icells_reads {l : List Int} {spare : List Value} {i : Nat} {x : Int} (h : l[i]? = some x) : (icells l ++ spare)[0 + i * 1]? = some (.int .i64 x) := by
  have hi := (List.getElem?_eq_some_iff.1 h).1
  rw [List.getElem?_append_left (by simp [icells]; omega)]
  simp [icells, h]

/-- Where each act's reference goes. -/
def goesOf (m : List (Rf × Int)) (l : List Act) : List Int := l.map fun a => (fnd m a.r).getD 0
theorem goesOf_take {m : List (Rf × Int)} {l : List Act} {i : Nat} {a : Act} (h : l[i]? = some a) : goesOf m (l.take (i + 1)) = goesOf m (l.take i) ++ [(fnd m a.r).getD 0] := by
  unfold goesOf
  rw [List.take_add_one, h]
  simp

theorem era_length_fold : ∀ (ks : List Rf) {m : List (Rf × Int)}, (m.map (·.1)).Nodup → ks.Nodup → (∀ r ∈ ks, (fnd m r).isSome = true) → (ks.foldl era m).length + ks.length = m.length
  | [], m, _, _, _ => by simp
  | k :: ks, m, h, hn, hk => by
    have hn' := List.nodup_cons.1 hn
    have h1 := era_length_fold ks (nodup_era h (x := k)) hn'.2 fun r hr => by
      rw [fnd_era h, if_neg (fun e : k = r => hn'.1 (by rw [e]; exact hr))]
      exact hk r (by simp [hr])
    rw [length_era, hk k (by simp)] at h1
    simp only [if_true] at h1
    have h2 : 0 < m.length := by
      have := fnd_isSome_mem (hk k (by simp))
      have := List.length_pos_of_mem this
      simpa using this
    simp only [List.foldl_cons, List.length_cons]
    omega

theorem rising_nodup {ks : List Rf} (h : Rising ks) : ks.Nodup := h.imp fun {a b} h e => by subst e; unfold ltR at h; omega

theorem Forgets_walk (W : World) (v : Value) (l : List Act) (hl : AL W v l) (src : Int) {w : World} [Extra] (H : Holds w [old W]) :
    Calls Try.prog 7 #[v, .int .i64 src] w (ret fun x w' => x = .bool true ∧ Holds w' [old W]) := by
  obtain ⟨ad, cap, rfl⟩ := hl.slice
  refine calls_of Try.func7 rfl (by kernel_rfl) ?_
  repeat refine C_seq ?_
  refine C_region ?_
  first | refine Lp_pv rfl rfl ?_ | refine Lp_mv rfl rfl ?_
  refine Lp_nil ?_
  repeat refine C_seq ?_
  refine C_region ?_
  first | refine Lp_pv rfl rfl ?_ | refine Lp_mv rfl rfl ?_
  refine Lp_s rfl (St_call (a := []) (b := []) rfl rfl (call (grown_spec W _ l hl H) ?_))
  rintro x w (⟨h100, rfl, H⟩ | ⟨h100, p, rfl, H⟩)
  · first | refine Lp_pv rfl rfl ?_ | refine Lp_mv rfl rfl ?_
    refine Lp_nil ?_
    repeat refine C_seq ?_
    refine C_region ?_
    refine Lp_s rfl (St_call (a := []) (b := []) rfl rfl (call (alive_spec H) ?_))
    clear H; rintro v w ⟨rfl, H⟩
    refine Lp_pv rfl rfl ?_
    first | refine Lp_pv rfl rfl ?_ | refine Lp_mv rfl rfl ?_
    first | refine Lp_gpv rfl rfl rfl rfl ?_ | refine Lp_no rfl rfl rfl ?_ | refine Lp_nn rfl rfl ?_
    first | refine Lp_gpv rfl rfl rfl rfl ?_ | refine Lp_g rfl rfl rfl (St_eqPtrNil rfl rfl (.inl rfl) rfl ?_) | refine Lp_g rfl rfl rfl (St_eqMapNil rfl rfl (.inl rfl) rfl ?_) | refine Lp_g rfl rfl rfl (St_eqPair rfl rfl (.inl rfl) rfl ?_) | refine Lp_g rfl rfl rfl (St_eqBool rfl rfl (.inl rfl) rfl ?_) | refine Lp_g rfl rfl rfl (St_eqStr rfl rfl (.inl rfl) rfl ?_) | refine Lp_no rfl rfl rfl ?_ | refine Lp_nn rfl rfl ?_
    refine Lp_pv rfl rfl ?_
    refine Lp_nil ?_
    repeat refine C_seq ?_
    refine C_true rfl ?_
    repeat refine C_seq ?_
    refine C_region ?_
    refine Lp_s rfl (St_call (a := []) (b := []) rfl rfl (call (alive_spec H) ?_))
    clear H; rintro v w ⟨rfl, H⟩
    first | refine Lp_pv rfl rfl ?_ | refine Lp_mv rfl rfl ?_
    first | refine Lp_gpv rfl rfl rfl rfl ?_ | refine Lp_no rfl rfl rfl ?_ | refine Lp_nn rfl rfl ?_
    first | refine Lp_g rfl rfl rfl (St_lenSlice rfl rfl ?_) | refine Lp_no rfl rfl rfl ?_ | refine Lp_nn rfl rfl ?_
    first | refine Lp_gpv rfl rfl rfl rfl ?_ | refine Lp_no rfl rfl rfl ?_ | refine Lp_nn rfl rfl ?_
    refine Lp_pv rfl rfl ?_
    first | refine Lp_pv rfl rfl ?_ | refine Lp_mv rfl rfl ?_
    refine Lp_nil ?_
    refine C_ret (fn_end0 _ (.inr rfl) H rfl fun w' H' => ⟨?_, H'⟩)
    show Value.bool (decide ((l.length : Int) > 100)) = _
    simp; omega
  · have hnd := nodup_grown l
    have hml : (grownM l).length ≤ 100 := Nat.le_trans (length_grown l) h100
    generalize grownM l = m at H hnd hml
    first | refine Lp_pv rfl rfl ?_ | refine Lp_mv rfl rfl ?_
    refine Lp_nil ?_
    repeat refine C_seq ?_
    refine C_region ?_
    refine Lp_s rfl (St_call (a := []) (b := []) rfl rfl (call (alive_spec H) ?_))
    clear H; rintro v w ⟨rfl, H⟩
    refine Lp_pv rfl rfl ?_
    first | refine Lp_pv rfl rfl ?_ | refine Lp_mv rfl rfl ?_
    first | refine Lp_gpv rfl rfl rfl rfl ?_ | refine Lp_no rfl rfl rfl ?_ | refine Lp_nn rfl rfl ?_
    first | refine Lp_gpv rfl rfl rfl rfl ?_ | refine Lp_g rfl rfl rfl (St_eqPtrNil rfl rfl (.inl rfl) rfl ?_) | refine Lp_g rfl rfl rfl (St_eqMapNil rfl rfl (.inl rfl) rfl ?_) | refine Lp_g rfl rfl rfl (St_eqPair rfl rfl (.inl rfl) rfl ?_) | refine Lp_g rfl rfl rfl (St_eqBool rfl rfl (.inl rfl) rfl ?_) | refine Lp_g rfl rfl rfl (St_eqStr rfl rfl (.inl rfl) rfl ?_) | refine Lp_no rfl rfl rfl ?_ | refine Lp_nn rfl rfl ?_
    refine Lp_pv rfl rfl ?_
    refine Lp_nil ?_
    repeat refine C_seq ?_
    refine C_false rfl (C_skip ?_)
    repeat refine C_seq ?_
    refine C_region ?_
    first | refine Lp_pv rfl rfl ?_ | refine Lp_mv rfl rfl ?_
    first | refine Lp_pv rfl rfl ?_ | refine Lp_mv rfl rfl ?_
    refine Lp_s rfl (St_call (a := []) (b := []) rfl rfl (call (From_spec p m (by omega) src H) ?_))
    rintro v33 w ⟨ks, hks, hs, H⟩
    obtain ⟨a33, c33, rfl⟩ := sls_slice H (rcells_length ks) (by decide)
    first | refine Lp_pv rfl rfl ?_ | refine Lp_mv rfl rfl ?_
    refine Lp_s rfl (St_call (a := []) (b := []) rfl rfl (call (Len_spec p m H.swap) ?_))
    clear H; rintro v w ⟨rfl, H⟩
    first | refine Lp_pv rfl rfl ?_ | refine Lp_mv rfl rfl ?_
    first | refine Lp_pv rfl rfl ?_ | refine Lp_mv rfl rfl ?_
    refine Lp_nil ?_
    repeat refine C_seq ?_
    refine C_region ?_
    first | refine Lp_pv rfl rfl ?_ | refine Lp_mv rfl rfl ?_
    refine Lp_nil ?_
    repeat refine C_seq ?_
    refine C_region ?_
    first | refine Lp_pv rfl rfl ?_ | refine Lp_mv rfl rfl ?_
    refine Lp_s rfl (St_lenSlice rfl rfl ?_)
    first | refine Lp_pv rfl rfl ?_ | refine Lp_mv rfl rfl ?_
    refine Lp_nil ?_
    repeat refine C_seq ?_
    refine C_block ?_
    refine C_loop (fun ms σ w n => ms = [] ∧ ∃ (i : Nat) (g : Value), i ≤ l.length ∧ n = l.length - i ∧ σ 0 = .slice ad l.length cap ∧ σ 1 = .int .i64 src ∧ σ 5 = pp p ∧ σ 6 = .slice a33 ks.length c33 ∧ σ 7 = .int .i64 m.length ∧ σ 36 = .slice ad l.length cap ∧ σ 37 = .int .i64 l.length ∧ σ 38 = .int .i64 i ∧ σ 8 = g ∧
      Holds w [sls 3 1 g (icells (goesOf m (l.take i))), RS p m, old W]) (m := l.length) ⟨rfl, 0, _, by omega, rfl, rfl, rfl, rfl, rfl, rfl, rfl, rfl, rfl, rfl, ?_⟩ ?_
    · replace H := Holds.sel [0, 1] 1 H; dsimp only [SL.sel, SL.pull, List.drop] at H
      exact sls_nil H
    clear H
    rintro ms σ w n ⟨rfl, i, g, hi, rfl, h0, h1, h5, h6, h7, h36, h37, h38, h8, H⟩
    rw [upd_self h0, upd_self h1, upd_self h5, upd_self h6, upd_self h7, upd_self h36, upd_self h37, upd_self h38, upd_self h8]
    repeat refine C_seq ?_
    refine C_region ?_
    refine Lp_pv rfl rfl ?_
    refine Lp_nil ?_
    repeat refine C_seq ?_
    refine C_dec rfl (fun h => C_skip ?_) (fun h => C_exit ?_)
    · have hlt : i < l.length := by omega
      have ha := List.getElem?_eq_getElem hlt
      generalize l[i] = a at ha
      obtain ⟨b, o, E, fz, c, rfl, iold, hrd⟩ := hl.at ha
      have hgt := goesOf_take (m := m) ha
      obtain ⟨kd, ⟨r1, r2⟩, nn⟩ := a
      repeat refine C_seq ?_
      refine C_block ?_
      repeat refine C_seq ?_
      refine C_region ?_
      refine Lp_s rfl (St_indexAddr rfl rfl (by omega) (by omega) rfl ?_)
      refine Lp_s rfl (St_loadN H rfl hrd rfl ?_)
      (refine Lp_s rfl (St_alloc H rfl ?_); clear H; intro b10 w H)
      first | (refine Lp_s rfl (St_store1 H rfl rfl inferInstance rfl (Nat.le_of_ble_eq_true rfl) rfl ?_); clear H; intro w H) | (refine Lp_s rfl (St_storeN H rfl rfl inferInstance rfl rfl (Nat.le_of_ble_eq_true rfl) rfl ?_); clear H; intro w H)
      refine Lp_nil ?_
      repeat refine C_seq ?_
      refine C_region ?_
      first | refine Lp_pv rfl rfl ?_ | refine Lp_mv rfl rfl ?_
      refine Lp_s rfl (St_fieldAddr rfl rfl ?_)
      first | refine Lp_s rfl (St_load1 H rfl rfl rfl ?_) | refine Lp_s rfl (St_loadN H rfl (by repeat (first | exact Reads.nil _ | apply Reads.cons rfl)) rfl ?_)
      replace H := Holds.sel [2, 0, 0, 0] 0 H; dsimp only [SL.sel, SL.pull, List.drop] at H
      refine Lp_s rfl (St_call (a := []) (b := []) rfl rfl (call (To2_spec p m (r1, r2) H) ?_))
      clear H; rintro v w ⟨rfl, H⟩
      first | refine Lp_pv rfl rfl ?_ | refine Lp_mv rfl rfl ?_
      refine Lp_pv rfl rfl ?_
      refine Lp_pv rfl rfl ?_
      first | refine Lp_pv rfl rfl ?_ | refine Lp_mv rfl rfl ?_
      first | refine Lp_pv rfl rfl ?_ | refine Lp_mv rfl rfl ?_
      refine Lp_nil ?_
      repeat refine C_seq ?_
      refine C_region ?_
      first | refine Lp_pv rfl rfl ?_ | refine Lp_mv rfl rfl ?_
      first | refine Lp_pv rfl rfl ?_ | refine Lp_mv rfl rfl ?_
      (refine Lp_s rfl (St_buildSlice H rfl rfl rfl ?_); clear H; intro b51 w H)
      replace H := Holds.sel [3, 0, 0, 1] 1 H; dsimp only [SL.sel, SL.pull, List.drop] at H
      refine Lp_s rfl (St_append H rfl rfl (by repeat (first | exact Reads.nil _ | apply Reads.cons rfl)) rfl (by decide) (by simp only [icells_length, List.length_cons, List.length_nil, goesOf, List.length_map, List.length_take]; omega) rfl rfl ?_); clear H; intro v52 w H
      first | refine Lp_pv rfl rfl ?_ | refine Lp_mv rfl rfl ?_
      refine Lp_nil ?_
      repeat refine C_seq ?_
      refine C_region ?_
      refine Lp_pv rfl rfl ?_
      first | refine Lp_pv rfl rfl ?_ | refine Lp_mv rfl rfl ?_
      refine Lp_nil ?_
      refine ⟨_, ⟨rfl, i + 1, v52, hlt, rfl, rfl, rfl, rfl, rfl, rfl, rfl, rfl, inc64 (by omega), rfl, ?_⟩, by omega⟩
      rw [hgt]
      replace H := Holds.sel [0, 1, 1] 1 H; dsimp only [SL.sel, SL.pull, List.drop] at H
      rw [icells_snoc]
      exact H
    · have hge : i = l.length := by omega
      subst hge
      rw [List.take_length] at H
      have hgl : (goesOf m l).length = l.length := by simp [goesOf]
      obtain ⟨ag, cg, rfl⟩ := sls_slice (m := l.length) H (by rw [icells_length, hgl]) (by decide)
      have hks2 := rising_nodup hs
      have hm2 := era_length_fold ks hnd hks2 fun r hr => ((hks r).1 hr).2
      have hnd2 := nodup_foldl_era ks hnd
      have hf := foldl_forget hnd hks
      replace H := Holds.sel [1, 0, 0] 0 H; dsimp only [SL.sel, SL.pull, List.drop] at H
      repeat refine C_seq ?_
      refine C_region ?_
      first | refine Lp_pv rfl rfl ?_ | refine Lp_mv rfl rfl ?_
      first | refine Lp_pv rfl rfl ?_ | refine Lp_mv rfl rfl ?_
      refine Lp_s rfl (St_call (a := []) (b := []) rfl rfl (call (Forget_spec p m hnd (by omega) src H) ?_))
      rintro x w ⟨ks', hks', hs', rfl, H⟩
      have e1 : ks' = ks := rising_unique hs' hs fun r => by rw [hks', hks]
      subst e1
      generalize hm' : ks'.foldl era m = m' at H hm2 hnd2 hf
      have hno : ∀ r : Rf, ¬ (r.1 = src ∧ (fnd m' r).isSome = true) := by
        rintro r ⟨hr, hsome⟩
        have := fnd_isSome_mem hsome
        rw [hf] at this
        obtain ⟨q, hq, rfl⟩ := List.mem_map.1 this
        have := (List.mem_filter.1 hq).2
        simp at this
        exact this hr
      have eb : ((ks'.length : Int) != (ks'.length : Int)) = false := by simp
      first | refine Lp_pv rfl rfl ?_ | refine Lp_mv rfl rfl ?_
      refine Lp_s rfl (St_lenSlice rfl rfl ?_)
      first | refine Lp_pv rfl rfl ?_ | refine Lp_s rfl (St_eqPtrNil rfl rfl (.inr rfl) rfl ?_) | refine Lp_s rfl (St_eqMapNil rfl rfl (.inr rfl) rfl ?_) | refine Lp_s rfl (St_eqPair rfl rfl (.inr rfl) rfl ?_) | refine Lp_s rfl (St_eqBool rfl rfl (.inr rfl) rfl ?_) | refine Lp_s rfl (St_eqStr rfl rfl (.inr rfl) rfl ?_)
      rw [eb]
      first | refine Lp_pv rfl rfl ?_ | refine Lp_mv rfl rfl ?_
      first | refine Lp_gpv rfl rfl rfl rfl ?_ | refine Lp_no rfl rfl rfl ?_ | refine Lp_nn rfl rfl ?_
      refine Lp_g rfl rfl rfl (St_call (a := []) (b := []) rfl rfl (call (Len_spec p m' H) ?_))
      clear H; rintro v w ⟨rfl, H⟩
      have ew : (((m'.length : Nat) : Int) != IntKind.i64.wrap ((m.length : Int) - (ks'.length : Int))) = false := by
        rw [wrap64 (by omega) (by omega)]
        simp
        omega
      first | refine Lp_gpv rfl rfl rfl rfl ?_ | refine Lp_no rfl rfl rfl ?_ | refine Lp_nn rfl rfl ?_
      first | refine Lp_gpv rfl rfl rfl rfl ?_ | refine Lp_no rfl rfl rfl ?_ | refine Lp_nn rfl rfl ?_
      first | refine Lp_g rfl rfl rfl (St_lenSlice rfl rfl ?_) | refine Lp_no rfl rfl rfl ?_ | refine Lp_nn rfl rfl ?_
      first | refine Lp_gpv rfl rfl rfl rfl ?_ | refine Lp_no rfl rfl rfl ?_ | refine Lp_nn rfl rfl ?_
      first | refine Lp_gpv rfl rfl rfl rfl ?_ | refine Lp_g rfl rfl rfl (St_eqPtrNil rfl rfl (.inr rfl) rfl ?_) | refine Lp_g rfl rfl rfl (St_eqMapNil rfl rfl (.inr rfl) rfl ?_) | refine Lp_g rfl rfl rfl (St_eqPair rfl rfl (.inr rfl) rfl ?_) | refine Lp_g rfl rfl rfl (St_eqBool rfl rfl (.inr rfl) rfl ?_) | refine Lp_g rfl rfl rfl (St_eqStr rfl rfl (.inr rfl) rfl ?_) | refine Lp_no rfl rfl rfl ?_ | refine Lp_nn rfl rfl ?_
      rw [ew]
      refine Lp_pv rfl rfl ?_
      first | refine Lp_pv rfl rfl ?_ | refine Lp_mv rfl rfl ?_
      first | refine Lp_gpv rfl rfl rfl rfl ?_ | refine Lp_no rfl rfl rfl ?_ | refine Lp_nn rfl rfl ?_
      first | refine Lp_gpv rfl rfl rfl rfl ?_ | refine Lp_no rfl rfl rfl ?_ | refine Lp_nn rfl rfl ?_
      refine Lp_g rfl rfl rfl (St_call (a := []) (b := []) rfl rfl (call (From_spec p m' (by omega) src H) ?_))
      rintro v72 w ⟨k3, hk3, hs3, H⟩
      have e3 : k3 = [] := List.eq_nil_iff_forall_not_mem.2 fun r hr => hno r ((hk3 r).1 hr)
      subst e3
      obtain ⟨a72, c72, rfl⟩ := sls_slice H (rcells_length []) (by decide)
      first | refine Lp_g rfl rfl rfl (St_lenSlice rfl rfl ?_) | refine Lp_no rfl rfl rfl ?_ | refine Lp_nn rfl rfl ?_
      first | refine Lp_gpv rfl rfl rfl rfl ?_ | refine Lp_g rfl rfl rfl (St_eqPtrNil rfl rfl (.inr rfl) rfl ?_) | refine Lp_g rfl rfl rfl (St_eqMapNil rfl rfl (.inr rfl) rfl ?_) | refine Lp_g rfl rfl rfl (St_eqPair rfl rfl (.inr rfl) rfl ?_) | refine Lp_g rfl rfl rfl (St_eqBool rfl rfl (.inr rfl) rfl ?_) | refine Lp_g rfl rfl rfl (St_eqStr rfl rfl (.inr rfl) rfl ?_) | refine Lp_no rfl rfl rfl ?_ | refine Lp_nn rfl rfl ?_
      refine Lp_pv rfl rfl ?_
      first | refine Lp_pv rfl rfl ?_ | refine Lp_mv rfl rfl ?_
      first | refine Lp_gpv rfl rfl rfl rfl ?_ | refine Lp_no rfl rfl rfl ?_ | refine Lp_nn rfl rfl ?_
      first | refine Lp_gpv rfl rfl rfl rfl ?_ | refine Lp_no rfl rfl rfl ?_ | refine Lp_nn rfl rfl ?_
      refine Lp_g rfl rfl rfl (St_call (a := []) (b := []) rfl rfl (call (Forget_spec p m' hnd2 (by omega) src H.drop) ?_))
      rintro x w ⟨k4, hk4, hs4, rfl, H⟩
      have e4 : k4 = [] := List.eq_nil_iff_forall_not_mem.2 fun r hr => hno r ((hk4 r).1 hr)
      subst e4
      first | refine Lp_gpv rfl rfl rfl rfl ?_ | refine Lp_g rfl rfl rfl (St_eqPtrNil rfl rfl (.inr rfl) rfl ?_) | refine Lp_g rfl rfl rfl (St_eqMapNil rfl rfl (.inr rfl) rfl ?_) | refine Lp_g rfl rfl rfl (St_eqPair rfl rfl (.inr rfl) rfl ?_) | refine Lp_g rfl rfl rfl (St_eqBool rfl rfl (.inr rfl) rfl ?_) | refine Lp_g rfl rfl rfl (St_eqStr rfl rfl (.inr rfl) rfl ?_) | refine Lp_no rfl rfl rfl ?_ | refine Lp_nn rfl rfl ?_
      refine Lp_pv rfl rfl ?_
      refine Lp_nil ?_
      repeat refine C_seq ?_
      refine C_false rfl (C_skip ?_)
      replace H : Holds w [RS p m', sls 3 1 (.slice ag l.length cg) (icells (goesOf m l)), old W] := H
      repeat refine C_seq ?_
      refine C_region ?_
      first | refine Lp_pv rfl rfl ?_ | refine Lp_mv rfl rfl ?_
      refine Lp_s rfl (St_lenSlice rfl rfl ?_)
      first | refine Lp_pv rfl rfl ?_ | refine Lp_mv rfl rfl ?_
      refine Lp_nil ?_
      repeat refine C_seq ?_
      refine C_block ?_
      refine C_loop (fun ms σ w n => ms = [] ∧ ∃ (i : Nat), i ≤ l.length ∧ n = l.length - i ∧ σ 1 = .int .i64 src ∧ σ 5 = pp p ∧ σ 8 = .slice ag l.length cg ∧ σ 82 = .slice ad l.length cap ∧ σ 83 = .int .i64 l.length ∧ σ 84 = .int .i64 i ∧
        Holds w [RS p m', sls 3 1 (.slice ag l.length cg) (icells (goesOf m l)), old W]) (m := l.length) ⟨rfl, 0, by omega, rfl, rfl, rfl, rfl, rfl, rfl, rfl, H⟩ ?_
      clear H
      rintro ms σ w n ⟨rfl, i, hi, rfl, h1, h5, h8, h82, h83, h84, H⟩
      rw [upd_self h1, upd_self h5, upd_self h8, upd_self h82, upd_self h83, upd_self h84]
      repeat refine C_seq ?_
      refine C_region ?_
      refine Lp_pv rfl rfl ?_
      refine Lp_nil ?_
      repeat refine C_seq ?_
      refine C_dec rfl (fun h => C_skip ?_) (fun h => C_exit ?_)
      · have hlt : i < l.length := by omega
        have ha := List.getElem?_eq_getElem hlt
        generalize l[i] = a at ha
        obtain ⟨b, o, E, fz, c, rfl, iold, hrd⟩ := hl.at ha
        have hgi : (goesOf m l)[i]? = some ((fnd m a.r).getD 0) := by simp [goesOf, ha]
        obtain ⟨kd, ⟨r1, r2⟩, nn⟩ := a
        repeat refine C_seq ?_
        refine C_block ?_
        repeat refine C_seq ?_
        refine C_region ?_
        first | refine Lp_pv rfl rfl ?_ | refine Lp_mv rfl rfl ?_
        refine Lp_s rfl (St_indexAddr rfl rfl (by omega) (by omega) rfl ?_)
        refine Lp_s rfl (St_loadN H rfl hrd rfl ?_)
        (refine Lp_s rfl (St_alloc H rfl ?_); clear H; intro b14 w H)
        first | refine Lp_pv rfl rfl ?_ | refine Lp_mv rfl rfl ?_
        first | (refine Lp_s rfl (St_store1 H rfl rfl inferInstance rfl (Nat.le_of_ble_eq_true rfl) rfl ?_); clear H; intro w H) | (refine Lp_s rfl (St_storeN H rfl rfl inferInstance rfl rfl (Nat.le_of_ble_eq_true rfl) rfl ?_); clear H; intro w H)
        refine Lp_nil ?_
        repeat refine C_seq ?_
        refine C_region ?_
        first | refine Lp_pv rfl rfl ?_ | refine Lp_mv rfl rfl ?_
        refine Lp_s rfl (St_fieldAddr rfl rfl ?_)
        first | refine Lp_s rfl (St_load1 H rfl rfl rfl ?_) | refine Lp_s rfl (St_loadN H rfl (by repeat (first | exact Reads.nil _ | apply Reads.cons rfl)) rfl ?_)
        replace H := Holds.sel [1, 0, 0, 0] 0 H; dsimp only [SL.sel, SL.pull, List.drop] at H
        refine Lp_s rfl (St_call (a := []) (b := []) rfl rfl (call (To2_spec p m' (r1, r2) H) ?_))
        clear H; rintro v w ⟨rfl, H⟩
        first | refine Lp_pv rfl rfl ?_ | refine Lp_mv rfl rfl ?_
        refine Lp_pv rfl rfl ?_
        refine Lp_pv rfl rfl ?_
        first | refine Lp_pv rfl rfl ?_ | refine Lp_mv rfl rfl ?_
        first | refine Lp_pv rfl rfl ?_ | refine Lp_mv rfl rfl ?_
        refine Lp_nil ?_
        by_cases hsrc : r1 = src
        · have hsome : (fnd m' (r1, r2)).isSome = false := by
            have := hno (r1, r2)
            simpa [hsrc] using this
          have hb : (r1 == src) = true := by simpa using hsrc
          rw [hsome]
          repeat refine C_seq ?_
          refine C_region ?_
          refine Lp_s rfl (St_fieldAddr rfl rfl ?_)
          refine Lp_s rfl (St_fieldAddr rfl rfl ?_)
          first | refine Lp_s rfl (St_load1 H rfl rfl rfl ?_) | refine Lp_s rfl (St_loadN H rfl (by repeat (first | exact Reads.nil _ | apply Reads.cons rfl)) rfl ?_)
          first | refine Lp_pv rfl rfl ?_ | refine Lp_mv rfl rfl ?_
          first | refine Lp_pv rfl rfl ?_ | refine Lp_s rfl (St_eqPtrNil rfl rfl (.inl rfl) rfl ?_) | refine Lp_s rfl (St_eqMapNil rfl rfl (.inl rfl) rfl ?_) | refine Lp_s rfl (St_eqPair rfl rfl (.inl rfl) rfl ?_) | refine Lp_s rfl (St_eqBool rfl rfl (.inl rfl) rfl ?_) | refine Lp_s rfl (St_eqStr rfl rfl (.inl rfl) rfl ?_)
          rw [hb]
          first | refine Lp_pv rfl rfl ?_ | refine Lp_mv rfl rfl ?_
          first | refine Lp_gpv rfl rfl rfl rfl ?_ | refine Lp_no rfl rfl rfl ?_ | refine Lp_nn rfl rfl ?_
          refine Lp_pv rfl rfl ?_
          first | refine Lp_pv rfl rfl ?_ | refine Lp_mv rfl rfl ?_
          first | refine Lp_g rfl rfl rfl (St_fieldAddr rfl rfl ?_) | refine Lp_no rfl rfl rfl ?_ | refine Lp_nn rfl rfl ?_
          first | refine Lp_g rfl rfl rfl (St_fieldAddr rfl rfl ?_) | refine Lp_no rfl rfl rfl ?_ | refine Lp_nn rfl rfl ?_
          first | refine Lp_g rfl rfl rfl (St_load1 H rfl rfl rfl ?_) | refine Lp_g rfl rfl rfl (St_loadN H rfl (by repeat (first | exact Reads.nil _ | apply Reads.cons rfl)) rfl ?_) | refine Lp_no rfl rfl rfl ?_ | refine Lp_nn rfl rfl ?_
          first | refine Lp_gpv rfl rfl rfl rfl ?_ | refine Lp_no rfl rfl rfl ?_ | refine Lp_nn rfl rfl ?_
          first | refine Lp_gpv rfl rfl rfl rfl ?_ | refine Lp_g rfl rfl rfl (St_eqPtrNil rfl rfl (.inr rfl) rfl ?_) | refine Lp_g rfl rfl rfl (St_eqMapNil rfl rfl (.inr rfl) rfl ?_) | refine Lp_g rfl rfl rfl (St_eqPair rfl rfl (.inr rfl) rfl ?_) | refine Lp_g rfl rfl rfl (St_eqBool rfl rfl (.inr rfl) rfl ?_) | refine Lp_g rfl rfl rfl (St_eqStr rfl rfl (.inr rfl) rfl ?_) | refine Lp_no rfl rfl rfl ?_ | refine Lp_nn rfl rfl ?_
          rw [show (r1 != src) = false by simpa using hsrc]
          first | refine Lp_gpv rfl rfl rfl rfl ?_ | refine Lp_no rfl rfl rfl ?_ | refine Lp_nn rfl rfl ?_
          first | refine Lp_gpv rfl rfl rfl rfl ?_ | refine Lp_no rfl rfl rfl ?_ | refine Lp_nn rfl rfl ?_
          first | refine Lp_gpv rfl rfl rfl rfl ?_ | refine Lp_no rfl rfl rfl ?_ | refine Lp_nn rfl rfl ?_
          first | refine Lp_gpv rfl rfl rfl rfl ?_ | refine Lp_no rfl rfl rfl ?_ | refine Lp_nn rfl rfl ?_
          refine Lp_no rfl rfl rfl ?_
          first | refine Lp_g rfl rfl rfl (St_load1 H rfl rfl rfl ?_) | refine Lp_g rfl rfl rfl (St_loadN H rfl (by repeat (first | exact Reads.nil _ | apply Reads.cons rfl)) rfl ?_) | refine Lp_no rfl rfl rfl ?_ | refine Lp_nn rfl rfl ?_
          first | refine Lp_gpv rfl rfl rfl rfl ?_ | refine Lp_g rfl rfl rfl (St_eqPtrNil rfl rfl (.inr rfl) rfl ?_) | refine Lp_g rfl rfl rfl (St_eqMapNil rfl rfl (.inr rfl) rfl ?_) | refine Lp_g rfl rfl rfl (St_eqPair rfl rfl (.inr rfl) rfl ?_) | refine Lp_g rfl rfl rfl (St_eqBool rfl rfl (.inr rfl) rfl ?_) | refine Lp_g rfl rfl rfl (St_eqStr rfl rfl (.inr rfl) rfl ?_) | refine Lp_no rfl rfl rfl ?_ | refine Lp_nn rfl rfl ?_
          first | refine Lp_gpv rfl rfl rfl rfl ?_ | refine Lp_no rfl rfl rfl ?_ | refine Lp_nn rfl rfl ?_
          refine Lp_pv rfl rfl ?_
          refine Lp_nil ?_
          repeat refine C_seq ?_
          refine C_false rfl (C_skip ?_)
          repeat refine C_seq ?_
          refine C_region ?_
          refine Lp_pv rfl rfl ?_
          first | refine Lp_pv rfl rfl ?_ | refine Lp_mv rfl rfl ?_
          refine Lp_nil ?_
          replace H := Holds.sel [0, 1, 1] 1 H; dsimp only [SL.sel, SL.pull, List.drop] at H
          exact ⟨_, ⟨rfl, i + 1, hlt, rfl, rfl, rfl, rfl, rfl, rfl, inc64 (by omega), H⟩, by omega⟩
        · have hb : (r1 == src) = false := by simpa using hsrc
          have hfe : fnd m' (r1, r2) = fnd m (r1, r2) := by
            apply Option.ext
            intro y
            rw [fnd_iff hnd2, fnd_iff hnd, hf, List.mem_filter]
            simp [hsrc]
          have hx : ((fnd m' (r1, r2)).getD 0 != (fnd m (r1, r2)).getD 0) = false := by rw [hfe]; simp
          replace H := Holds.sel [2, 0, 0, 0] 0 H; dsimp only [SL.sel, SL.pull, List.drop] at H
          obtain ⟨bg, sg, rfl, H, hclose⟩ := sls_open H (by omega)
          repeat refine C_seq ?_
          refine C_region ?_
          refine Lp_s rfl (St_fieldAddr rfl rfl ?_)
          refine Lp_s rfl (St_fieldAddr rfl rfl ?_)
          first | refine Lp_s rfl (St_load1 H rfl rfl rfl ?_) | refine Lp_s rfl (St_loadN H rfl (by repeat (first | exact Reads.nil _ | apply Reads.cons rfl)) rfl ?_)
          first | refine Lp_pv rfl rfl ?_ | refine Lp_mv rfl rfl ?_
          first | refine Lp_pv rfl rfl ?_ | refine Lp_s rfl (St_eqPtrNil rfl rfl (.inl rfl) rfl ?_) | refine Lp_s rfl (St_eqMapNil rfl rfl (.inl rfl) rfl ?_) | refine Lp_s rfl (St_eqPair rfl rfl (.inl rfl) rfl ?_) | refine Lp_s rfl (St_eqBool rfl rfl (.inl rfl) rfl ?_) | refine Lp_s rfl (St_eqStr rfl rfl (.inl rfl) rfl ?_)
          rw [hb]
          first | refine Lp_pv rfl rfl ?_ | refine Lp_mv rfl rfl ?_
          first | refine Lp_gpv rfl rfl rfl rfl ?_ | refine Lp_no rfl rfl rfl ?_ | refine Lp_nn rfl rfl ?_
          refine Lp_pv rfl rfl ?_
          first | refine Lp_pv rfl rfl ?_ | refine Lp_mv rfl rfl ?_
          first | refine Lp_g rfl rfl rfl (St_fieldAddr rfl rfl ?_) | refine Lp_no rfl rfl rfl ?_ | refine Lp_nn rfl rfl ?_
          first | refine Lp_g rfl rfl rfl (St_fieldAddr rfl rfl ?_) | refine Lp_no rfl rfl rfl ?_ | refine Lp_nn rfl rfl ?_
          first | refine Lp_g rfl rfl rfl (St_load1 H rfl rfl rfl ?_) | refine Lp_g rfl rfl rfl (St_loadN H rfl (by repeat (first | exact Reads.nil _ | apply Reads.cons rfl)) rfl ?_) | refine Lp_no rfl rfl rfl ?_ | refine Lp_nn rfl rfl ?_
          first | refine Lp_gpv rfl rfl rfl rfl ?_ | refine Lp_no rfl rfl rfl ?_ | refine Lp_nn rfl rfl ?_
          first | refine Lp_gpv rfl rfl rfl rfl ?_ | refine Lp_g rfl rfl rfl (St_eqPtrNil rfl rfl (.inr rfl) rfl ?_) | refine Lp_g rfl rfl rfl (St_eqMapNil rfl rfl (.inr rfl) rfl ?_) | refine Lp_g rfl rfl rfl (St_eqPair rfl rfl (.inr rfl) rfl ?_) | refine Lp_g rfl rfl rfl (St_eqBool rfl rfl (.inr rfl) rfl ?_) | refine Lp_g rfl rfl rfl (St_eqStr rfl rfl (.inr rfl) rfl ?_) | refine Lp_no rfl rfl rfl ?_ | refine Lp_nn rfl rfl ?_
          rw [show (r1 != src) = true by simpa using hsrc]
          first | refine Lp_gpv rfl rfl rfl rfl ?_ | refine Lp_no rfl rfl rfl ?_ | refine Lp_nn rfl rfl ?_
          first | refine Lp_gpv rfl rfl rfl rfl ?_ | refine Lp_no rfl rfl rfl ?_ | refine Lp_nn rfl rfl ?_
          first | refine Lp_gpv rfl rfl rfl rfl ?_ | refine Lp_no rfl rfl rfl ?_ | refine Lp_nn rfl rfl ?_
          first | refine Lp_gpv rfl rfl rfl rfl ?_ | refine Lp_no rfl rfl rfl ?_ | refine Lp_nn rfl rfl ?_
          refine Lp_g rfl rfl rfl (St_indexAddr rfl rfl (by omega) (by omega) rfl ?_)
          refine Lp_g rfl rfl rfl (St_load1 H rfl (icells_reads hgi) rfl ?_)
          first | refine Lp_gpv rfl rfl rfl rfl ?_ | refine Lp_g rfl rfl rfl (St_eqPtrNil rfl rfl (.inr rfl) rfl ?_) | refine Lp_g rfl rfl rfl (St_eqMapNil rfl rfl (.inr rfl) rfl ?_) | refine Lp_g rfl rfl rfl (St_eqPair rfl rfl (.inr rfl) rfl ?_) | refine Lp_g rfl rfl rfl (St_eqBool rfl rfl (.inr rfl) rfl ?_) | refine Lp_g rfl rfl rfl (St_eqStr rfl rfl (.inr rfl) rfl ?_) | refine Lp_no rfl rfl rfl ?_ | refine Lp_nn rfl rfl ?_
          rw [hx]
          first | refine Lp_gpv rfl rfl rfl rfl ?_ | refine Lp_no rfl rfl rfl ?_ | refine Lp_nn rfl rfl ?_
          refine Lp_pv rfl rfl ?_
          refine Lp_nil ?_
          repeat refine C_seq ?_
          refine C_false rfl (C_skip ?_)
          repeat refine C_seq ?_
          refine C_region ?_
          refine Lp_pv rfl rfl ?_
          first | refine Lp_pv rfl rfl ?_ | refine Lp_mv rfl rfl ?_
          refine Lp_nil ?_
          replace H := hclose _ _ H
          replace H := Holds.sel [1, 0, 1] 1 H; dsimp only [SL.sel, SL.pull, List.drop] at H
          exact ⟨_, ⟨rfl, i + 1, hlt, rfl, rfl, rfl, rfl, rfl, rfl, inc64 (by omega), H⟩, by omega⟩
      · have hge : i = l.length := by omega
        subst hge
        repeat refine C_seq ?_
        refine C_region ?_
        first | refine Lp_pv rfl rfl ?_ | refine Lp_mv rfl rfl ?_
        refine Lp_nil ?_
        replace H := Holds.sel [2] 2 H; dsimp only [SL.sel, SL.pull, List.drop] at H
        exact C_ret (fn_end0 _ (.inr rfl) H rfl fun w' H' => ⟨rfl, H'⟩)
end Go.Proofs.Ytdpephigccnkdaa
