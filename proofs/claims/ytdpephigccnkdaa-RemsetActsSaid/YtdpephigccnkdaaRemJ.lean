/- RemsetTwice: the walk. No condition. -/
import Derived.Test.YtdpephigccnkdaaRemI
set_option linter.unusedVariables false
set_option linter.unusedSimpArgs false
set_option linter.unusedSectionVars false
namespace Go.Proofs.Ytdpephigccnkdaa
open Go.SL

/-- How often x is among them. -/
def cnt (x : Rf) (l : List Rf) : Nat := (l.filter (fun y => decide (y = x))).length
theorem cnt_take {x y : Rf} {l : List Rf} {i : Nat} (h : l[i]? = some y) : cnt x (l.take (i + 1)) = cnt x (l.take i) + if y = x then 1 else 0 := by
  unfold cnt
  rw [List.take_add_one, h]
  simp only [Option.toList_some, List.filter_append, List.length_append, List.filter_cons, List.filter_nil]
  split <;> rename_i hx
  · have hx : y = x := of_decide_eq_true hx
    simp [hx]
  · have hx : ¬ y = x := by simpa using hx
    simp [hx]
theorem cnt_one {x : Rf} {l : List Rf} (hn : l.Nodup) (hx : x ∈ l) : cnt x l = 1 := by
  unfold cnt
  induction l with
  | nil => simp at hx
  | cons y l ih =>
    have hn' := List.nodup_cons.1 hn
    by_cases e : y = x
    · subst e
      have : l.filter (fun z => decide (z = y)) = [] := List.filter_eq_nil_iff.2 fun z hz => by
        have : z ≠ y := fun e => hn'.1 (e ▸ hz)
        simpa using this
      simp [this]
    · have hx' : x ∈ l := by
        rcases List.mem_cons.1 hx with h | h
        · exact absurd h.symm e
        · exact h
      simp [e]
      exact ih hn'.2 hx'
theorem cnt_le (x : Rf) (l : List Rf) : cnt x l ≤ l.length := List.length_filter_le _ _
theorem rising_len {ks : List Rf} {m : List (Rf × Int)} (hs : Rising ks) (h : ∀ r ∈ ks, (fnd m r).isSome = true) : ks.length ≤ m.length := by
  have := sub_length (rising_nodup hs) (l₂ := m.map (·.1)) fun r hr => fnd_isSome_mem (h r hr)
  simpa using this

set_option maxHeartbeats 4000000 in
theorem Twice_walk (W : World) (v : Value) (l : List Act) (hl : AL W v l) {w : World} [Extra] (H : Holds w [old W]) :
    Calls Try.prog 4 #[v] w (ret fun x w' => x = .bool true ∧ Holds w' [old W]) := by
  obtain ⟨ad, cap, rfl⟩ := hl.slice
  refine calls_of Try.func4 rfl (by kernel_rfl) ?_
  repeat refine C_seq ?_
  refine C_region ?_
  first | refine Lp_pv rfl rfl ?_ | refine Lp_mv rfl rfl ?_
  refine Lp_nil ?_
  repeat refine C_seq ?_
  refine C_region ?_
  first | refine Lp_pv rfl rfl ?_ | refine Lp_mv rfl rfl ?_
  refine Lp_s rfl (St_call (a := []) (b := []) rfl rfl (call (grown_spec W _ l hl H) ?_))
  rintro x w (⟨h100, rfl, H⟩ | ⟨h100, p, rfl, H⟩)
  · first | refine Lp_pv rfl rfl ?_ | refine Lp_mv rfl rfl ?_
    refine Lp_nil ?_
    repeat refine C_seq ?_
    refine C_region ?_
    refine Lp_s rfl (St_call (a := []) (b := []) rfl rfl (call (alive_spec H) ?_))
    clear H; rintro v w ⟨rfl, H⟩
    refine Lp_pv rfl rfl ?_
    first | refine Lp_pv rfl rfl ?_ | refine Lp_mv rfl rfl ?_
    first | refine Lp_gpv rfl rfl rfl rfl ?_ | refine Lp_no rfl rfl rfl ?_ | refine Lp_nn rfl rfl ?_
    first | refine Lp_gpv rfl rfl rfl rfl ?_ | refine Lp_g rfl rfl rfl (St_eqPtrNil rfl rfl (.inl rfl) rfl ?_) | refine Lp_g rfl rfl rfl (St_eqMapNil rfl rfl (.inl rfl) rfl ?_) | refine Lp_g rfl rfl rfl (St_eqPair rfl rfl (.inl rfl) rfl ?_) | refine Lp_g rfl rfl rfl (St_eqBool rfl rfl (.inl rfl) rfl ?_) | refine Lp_g rfl rfl rfl (St_eqStr rfl rfl (.inl rfl) rfl ?_) | refine Lp_no rfl rfl rfl ?_ | refine Lp_nn rfl rfl ?_
    refine Lp_pv rfl rfl ?_
    refine Lp_nil ?_
    repeat refine C_seq ?_
    refine C_true rfl ?_
    repeat refine C_seq ?_
    refine C_region ?_
    refine Lp_s rfl (St_call (a := []) (b := []) rfl rfl (call (alive_spec H) ?_))
    clear H; rintro v w ⟨rfl, H⟩
    first | refine Lp_pv rfl rfl ?_ | refine Lp_mv rfl rfl ?_
    first | refine Lp_gpv rfl rfl rfl rfl ?_ | refine Lp_no rfl rfl rfl ?_ | refine Lp_nn rfl rfl ?_
    first | refine Lp_g rfl rfl rfl (St_lenSlice rfl rfl ?_) | refine Lp_no rfl rfl rfl ?_ | refine Lp_nn rfl rfl ?_
    first | refine Lp_gpv rfl rfl rfl rfl ?_ | refine Lp_no rfl rfl rfl ?_ | refine Lp_nn rfl rfl ?_
    refine Lp_pv rfl rfl ?_
    first | refine Lp_pv rfl rfl ?_ | refine Lp_mv rfl rfl ?_
    refine Lp_nil ?_
    refine C_ret (fn_end0 _ (.inr rfl) H rfl fun w' H' => ⟨?_, H'⟩)
    show Value.bool (decide ((l.length : Int) > 100)) = _
    simp; omega
  · have hnd := nodup_grown l
    have hml : (grownM l).length ≤ 100 := Nat.le_trans (length_grown l) h100
    generalize grownM l = m at H hnd hml
    first | refine Lp_pv rfl rfl ?_ | refine Lp_mv rfl rfl ?_
    refine Lp_nil ?_
    repeat refine C_seq ?_
    refine C_region ?_
    refine Lp_s rfl (St_call (a := []) (b := []) rfl rfl (call (alive_spec H) ?_))
    clear H; rintro v w ⟨rfl, H⟩
    refine Lp_pv rfl rfl ?_
    first | refine Lp_pv rfl rfl ?_ | refine Lp_mv rfl rfl ?_
    first | refine Lp_gpv rfl rfl rfl rfl ?_ | refine Lp_no rfl rfl rfl ?_ | refine Lp_nn rfl rfl ?_
    first | refine Lp_gpv rfl rfl rfl rfl ?_ | refine Lp_g rfl rfl rfl (St_eqPtrNil rfl rfl (.inl rfl) rfl ?_) | refine Lp_g rfl rfl rfl (St_eqMapNil rfl rfl (.inl rfl) rfl ?_) | refine Lp_g rfl rfl rfl (St_eqPair rfl rfl (.inl rfl) rfl ?_) | refine Lp_g rfl rfl rfl (St_eqBool rfl rfl (.inl rfl) rfl ?_) | refine Lp_g rfl rfl rfl (St_eqStr rfl rfl (.inl rfl) rfl ?_) | refine Lp_no rfl rfl rfl ?_ | refine Lp_nn rfl rfl ?_
    refine Lp_pv rfl rfl ?_
    refine Lp_nil ?_
    repeat refine C_seq ?_
    refine C_false rfl (C_skip ?_)
    repeat refine C_seq ?_
    refine C_region ?_
    first | refine Lp_pv rfl rfl ?_ | refine Lp_mv rfl rfl ?_
    refine Lp_s rfl (St_lenSlice rfl rfl ?_)
    first | refine Lp_pv rfl rfl ?_ | refine Lp_mv rfl rfl ?_
    refine Lp_nil ?_
    repeat refine C_seq ?_
    refine C_block ?_
    refine C_loop (fun ms σ w n => ms = [] ∧ ∃ i : Nat, i ≤ l.length ∧ n = l.length - i ∧ σ 3 = pp p ∧ σ 34 = .slice ad l.length cap ∧ σ 35 = .int .i64 l.length ∧ σ 36 = .int .i64 i ∧ Holds w [RS p m, old W]) (m := l.length) ⟨rfl, 0, by omega, rfl, rfl, rfl, rfl, rfl, H⟩ ?_
    clear H
    rintro ms σ w n ⟨rfl, i, hi, rfl, h3, h34, h35, h36, H⟩
    rw [upd_self h3, upd_self h34, upd_self h35, upd_self h36]
    repeat refine C_seq ?_
    refine C_region ?_
    refine Lp_pv rfl rfl ?_
    refine Lp_nil ?_
    repeat refine C_seq ?_
    refine C_dec rfl (fun h => C_skip ?_) (fun h => C_exit ?_)
    · have hlt : i < l.length := by omega
      have ha := List.getElem?_eq_getElem hlt
      generalize l[i] = a at ha
      obtain ⟨b, o, E, fz, c, rfl, iold, hrd⟩ := hl.at ha
      obtain ⟨kd, ⟨r1, r2⟩, nn⟩ := a
      repeat refine C_seq ?_
      refine C_block ?_
      repeat refine C_seq ?_
      refine C_region ?_
      refine Lp_s rfl (St_indexAddr rfl rfl (by omega) (by omega) rfl ?_)
      refine Lp_s rfl (St_loadN H rfl hrd rfl ?_)
      (refine Lp_s rfl (St_alloc H rfl ?_); clear H; intro b5 w H)
      first | (refine Lp_s rfl (St_store1 H rfl rfl inferInstance rfl (Nat.le_of_ble_eq_true rfl) rfl ?_); clear H; intro w H) | (refine Lp_s rfl (St_storeN H rfl rfl inferInstance rfl rfl (Nat.le_of_ble_eq_true rfl) rfl ?_); clear H; intro w H)
      refine Lp_nil ?_
      replace H : Holds w [pts b5 (row 42 [.int .i64 kd, .int .i64 r1, .int .i64 r2, .int .i64 nn]), RS p m, old W] := H
      repeat refine C_seq ?_
      refine C_region ?_
      first | refine Lp_pv rfl rfl ?_ | refine Lp_mv rfl rfl ?_
      refine Lp_s rfl (St_fieldAddr rfl rfl ?_)
      first | refine Lp_s rfl (St_load1 H rfl rfl rfl ?_) | refine Lp_s rfl (St_loadN H rfl (by repeat (first | exact Reads.nil _ | apply Reads.cons rfl)) rfl ?_)
      refine Lp_s rfl (St_call (a := []) (b := []) rfl rfl (call (Of_spec p m (by omega) nn H.swap) ?_))
      rintro v43 w ⟨ks, hks, hs, H⟩
      have hkl := rising_len (m := m) hs fun r hr => by rw [(hks r).1 hr]; rfl
      obtain ⟨a43, c43, rfl⟩ := sls_slice H (rcells_length ks) (by decide)
      refine Lp_s rfl (St_lenSlice rfl rfl ?_)
      first | refine Lp_pv rfl rfl ?_ | refine Lp_mv rfl rfl ?_
      refine Lp_nil ?_
      repeat refine C_seq ?_
      refine C_join (fun ms σ w => ms = [] ∧ σ 3 = pp p ∧ σ 5 = pp b5 ∧ σ 34 = .slice (some ⟨b, o, none⟩) l.length cap ∧ σ 35 = .int .i64 l.length ∧ σ 36 = .int .i64 i ∧ Holds w [RS p m, pts b5 (row 42 [.int .i64 kd, .int .i64 r1, .int .i64 r2, .int .i64 nn]), old W]) ?_ ?_
      · refine C_block ?_
        refine C_loop (fun ms σ w n => ms = [] ∧ ∃ j : Nat, j ≤ ks.length ∧ n = ks.length - j ∧ σ 3 = pp p ∧ σ 5 = pp b5 ∧ σ 34 = .slice (some ⟨b, o, none⟩) l.length cap ∧ σ 35 = .int .i64 l.length ∧ σ 36 = .int .i64 i ∧ σ 43 = .slice a43 ks.length c43 ∧ σ 44 = .int .i64 ks.length ∧ σ 45 = .int .i64 j ∧
          Holds w [SR (.slice a43 ks.length c43) ks, RS p m, pts b5 (row 42 [.int .i64 kd, .int .i64 r1, .int .i64 r2, .int .i64 nn]), old W]) (m := ks.length) ⟨rfl, 0, by omega, rfl, rfl, rfl, rfl, rfl, rfl, rfl, rfl, rfl, H⟩ ?_
        clear H
        rintro ms σ w n ⟨rfl, j, hj, rfl, h3, h5, h34, h35, h36, h43, h44, h45, H⟩
        rw [upd_self h3, upd_self h5, upd_self h34, upd_self h35, upd_self h36, upd_self h43, upd_self h44, upd_self h45]
        repeat refine C_seq ?_
        refine C_region ?_
        refine Lp_pv rfl rfl ?_
        refine Lp_nil ?_
        repeat refine C_seq ?_
        refine C_dec rfl (fun h => C_skip ?_) (fun h => C_exit ?_)
        · have hjt : j < ks.length := by omega
          have hx := List.getElem?_eq_getElem hjt
          generalize ks[j] = x at hx
          have hxk := (hks x).1 (List.mem_of_getElem? hx)
          obtain ⟨x1, x2⟩ := x
          obtain ⟨bb, sb, rfl, H, hclose⟩ := sls_open H (by omega)
          repeat refine C_seq ?_
          refine C_block ?_
          repeat refine C_seq ?_
          refine C_region ?_
          refine Lp_s rfl (St_indexAddr rfl rfl (by omega) (by omega) rfl ?_)
          refine Lp_s rfl (St_loadN H rfl (rcells_reads hx) rfl ?_)
          (refine Lp_s rfl (St_alloc H rfl ?_); clear H; intro b7 w H)
          first | (refine Lp_s rfl (St_store1 H rfl rfl inferInstance rfl (Nat.le_of_ble_eq_true rfl) rfl ?_); clear H; intro w H) | (refine Lp_s rfl (St_storeN H rfl rfl inferInstance rfl rfl (Nat.le_of_ble_eq_true rfl) rfl ?_); clear H; intro w H)
          refine Lp_nil ?_
          replace H := hclose _ _ H.swap
          replace H : Holds w [SR (.slice (some ⟨bb, 0, none⟩) ks.length c43) ks, pts b7 (row 24 [.int .i64 x1, .int .i64 x2]), RS p m, pts b5 (row 42 [.int .i64 kd, .int .i64 r1, .int .i64 r2, .int .i64 nn]), old W] := H
          repeat refine C_seq ?_
          refine C_region ?_
          first | refine Lp_pv rfl rfl ?_ | refine Lp_mv rfl rfl ?_
          refine Lp_nil ?_
          repeat refine C_seq ?_
          refine C_region ?_
          first | refine Lp_pv rfl rfl ?_ | refine Lp_mv rfl rfl ?_
          refine Lp_s rfl (St_fieldAddr rfl rfl ?_)
          first | refine Lp_s rfl (St_load1 H rfl rfl rfl ?_) | refine Lp_s rfl (St_loadN H rfl (by repeat (first | exact Reads.nil _ | apply Reads.cons rfl)) rfl ?_)
          replace H := Holds.sel [2, 0, 0, 0, 0] 0 H; dsimp only [SL.sel, SL.pull, List.drop] at H
          refine Lp_s rfl (St_call (a := []) (b := []) rfl rfl (call (From_spec p m (by omega) x1 H) ?_))
          rintro v52 w ⟨kz, hkz, hsz, H⟩
          obtain ⟨az, cz, rfl⟩ := sls_slice H (rcells_length kz) (by decide)
          have hzl := rising_len (m := m) hsz fun r hr => ((hkz r).1 hr).2
          refine Lp_s rfl (St_lenSlice rfl rfl ?_)
          first | refine Lp_pv rfl rfl ?_ | refine Lp_mv rfl rfl ?_
          refine Lp_nil ?_
          repeat refine C_seq ?_
          refine C_join (fun ms σ w => ms = [] ∧ σ 3 = pp p ∧ σ 5 = pp b5 ∧ σ 7 = pp b7 ∧ σ 8 = .int .i64 1 ∧ σ 34 = .slice (some ⟨b, o, none⟩) l.length cap ∧ σ 35 = .int .i64 l.length ∧ σ 36 = .int .i64 i ∧ σ 43 = .slice (some ⟨bb, 0, none⟩) ks.length c43 ∧ σ 44 = .int .i64 ks.length ∧ σ 45 = .int .i64 j ∧
            Holds w [RS p m, SR (.slice (some ⟨bb, 0, none⟩) ks.length c43) ks, pts b7 (row 24 [.int .i64 x1, .int .i64 x2]), pts b5 (row 42 [.int .i64 kd, .int .i64 r1, .int .i64 r2, .int .i64 nn]), old W]) ?_ ?_
          · refine C_block ?_
            refine C_loop (fun ms σ w n => ms = [] ∧ ∃ k : Nat, k ≤ kz.length ∧ n = kz.length - k ∧ σ 3 = pp p ∧ σ 5 = pp b5 ∧ σ 7 = pp b7 ∧ σ 8 = .int .i64 (cnt (x1, x2) (kz.take k) : Nat) ∧ σ 34 = .slice (some ⟨b, o, none⟩) l.length cap ∧ σ 35 = .int .i64 l.length ∧ σ 36 = .int .i64 i ∧ σ 43 = .slice (some ⟨bb, 0, none⟩) ks.length c43 ∧ σ 44 = .int .i64 ks.length ∧ σ 45 = .int .i64 j ∧
              σ 52 = .slice az kz.length cz ∧ σ 53 = .int .i64 kz.length ∧ σ 54 = .int .i64 k ∧ Holds w [SR (.slice az kz.length cz) kz, RS p m, SR (.slice (some ⟨bb, 0, none⟩) ks.length c43) ks, pts b7 (row 24 [.int .i64 x1, .int .i64 x2]), pts b5 (row 42 [.int .i64 kd, .int .i64 r1, .int .i64 r2, .int .i64 nn]), old W]) (m := kz.length)
              ⟨rfl, 0, by omega, rfl, rfl, rfl, rfl, rfl, rfl, rfl, rfl, rfl, rfl, rfl, rfl, rfl, rfl, H⟩ ?_
            clear H
            rintro ms σ w n ⟨rfl, k, hk, rfl, h3, h5, h7, h8, h34, h35, h36, h43, h44, h45, h52, h53, h54, H⟩
            rw [upd_self h3, upd_self h5, upd_self h7, upd_self h8, upd_self h34, upd_self h35, upd_self h36, upd_self h43, upd_self h44, upd_self h45, upd_self h52, upd_self h53, upd_self h54]
            repeat refine C_seq ?_
            refine C_region ?_
            refine Lp_pv rfl rfl ?_
            refine Lp_nil ?_
            repeat refine C_seq ?_
            refine C_dec rfl (fun h => C_skip ?_) (fun h => C_exit ?_)
            · have hkt : k < kz.length := by omega
              have hy := List.getElem?_eq_getElem hkt
              generalize kz[k] = y at hy
              obtain ⟨y1, y2⟩ := y
              have hct := cnt_take (x := (x1, x2)) hy
              have hcl := cnt_le (x1, x2) (kz.take k)
              rw [List.length_take] at hcl
              obtain ⟨bz, sz, rfl, H, hclz⟩ := sls_open H (by omega)
              repeat refine C_seq ?_
              refine C_block ?_
              repeat refine C_seq ?_
              refine C_region ?_
              refine Lp_s rfl (St_indexAddr rfl rfl (by omega) (by omega) rfl ?_)
              refine Lp_s rfl (St_loadN H rfl (rcells_reads hy) rfl ?_)
              (refine Lp_s rfl (St_alloc H rfl ?_); clear H; intro b10 w H)
              first | (refine Lp_s rfl (St_store1 H rfl rfl inferInstance rfl (Nat.le_of_ble_eq_true rfl) rfl ?_); clear H; intro w H) | (refine Lp_s rfl (St_storeN H rfl rfl inferInstance rfl rfl (Nat.le_of_ble_eq_true rfl) rfl ?_); clear H; intro w H)
              refine Lp_nil ?_
              repeat refine C_seq ?_
              refine C_region ?_
              first | refine Lp_s rfl (St_load1 H rfl rfl rfl ?_) | refine Lp_s rfl (St_loadN H rfl (by repeat (first | exact Reads.nil _ | apply Reads.cons rfl)) rfl ?_)
              first | refine Lp_s rfl (St_load1 H rfl rfl rfl ?_) | refine Lp_s rfl (St_loadN H rfl (by repeat (first | exact Reads.nil _ | apply Reads.cons rfl)) rfl ?_)
              first | refine Lp_pv rfl rfl ?_ | refine Lp_s rfl (St_eqPtrNil rfl rfl (.inl rfl) rfl ?_) | refine Lp_s rfl (St_eqMapNil rfl rfl (.inl rfl) rfl ?_) | refine Lp_s rfl (St_eqPair rfl rfl (.inl rfl) rfl ?_) | refine Lp_s rfl (St_eqBool rfl rfl (.inl rfl) rfl ?_) | refine Lp_s rfl (St_eqStr rfl rfl (.inl rfl) rfl ?_)
              refine Lp_nil ?_
              replace H := hclz _ _ H.drop
              repeat refine C_seq ?_
              refine C_cond rfl (fun he => ?_) (fun he => C_skip ?_)
              · have he : (y1, y2) = (x1, x2) := by simpa [isEql] using he
                rw [if_pos he] at hct
                repeat refine C_seq ?_
                refine C_region ?_
                first | refine Lp_pv rfl rfl ?_ | refine Lp_mv rfl rfl ?_
                refine Lp_pv rfl rfl ?_
                first | refine Lp_pv rfl rfl ?_ | refine Lp_mv rfl rfl ?_
                refine Lp_nil ?_
                repeat refine C_seq ?_
                refine C_region ?_
                refine Lp_pv rfl rfl ?_
                first | refine Lp_pv rfl rfl ?_ | refine Lp_mv rfl rfl ?_
                refine Lp_nil ?_
                refine ⟨_, ⟨rfl, k + 1, hkt, rfl, rfl, rfl, rfl, ?_, rfl, rfl, rfl, rfl, rfl, rfl, rfl, rfl, inc64 (by omega), H⟩, by omega⟩
                rw [hct]
                exact inc64 (by omega)
              · have he : ¬ (y1, y2) = (x1, x2) := by simpa [isEql] using he
                rw [if_neg he] at hct
                repeat refine C_seq ?_
                refine C_region ?_
                refine Lp_pv rfl rfl ?_
                first | refine Lp_pv rfl rfl ?_ | refine Lp_mv rfl rfl ?_
                refine Lp_nil ?_
                refine ⟨_, ⟨rfl, k + 1, hkt, rfl, rfl, rfl, rfl, ?_, rfl, rfl, rfl, rfl, rfl, rfl, rfl, rfl, inc64 (by omega), H⟩, by omega⟩
                rw [hct]
                rfl
            · have hge : k = kz.length := by omega
              subst hge
              rw [List.take_length, cnt_one (rising_nodup hsz) ((hkz (x1, x2)).2 ⟨rfl, by rw [hxk]; rfl⟩)]
              exact ⟨rfl, rfl, rfl, rfl, rfl, rfl, rfl, rfl, rfl, rfl, rfl, rfl, H.drop⟩
          clear H
          rintro ms σ w ⟨rfl, h3, h5, h7, h8, h34, h35, h36, h43, h44, h45, H⟩
          rw [upd_self h3, upd_self h5, upd_self h7, upd_self h8, upd_self h34, upd_self h35, upd_self h36, upd_self h43, upd_self h44, upd_self h45]
          repeat refine C_seq ?_
          refine C_region ?_
          first | refine Lp_pv rfl rfl ?_ | refine Lp_mv rfl rfl ?_
          first | refine Lp_s rfl (St_load1 H rfl rfl rfl ?_) | refine Lp_s rfl (St_loadN H rfl (by repeat (first | exact Reads.nil _ | apply Reads.cons rfl)) rfl ?_)
          refine Lp_s rfl (St_call (a := []) (b := []) rfl rfl (call (To2_spec p m (x1, x2) H) ?_))
          clear H; rintro v w ⟨rfl, H⟩
          rw [hxk]
          first | refine Lp_pv rfl rfl ?_ | refine Lp_mv rfl rfl ?_
          refine Lp_pv rfl rfl ?_
          refine Lp_pv rfl rfl ?_
          first | refine Lp_pv rfl rfl ?_ | refine Lp_mv rfl rfl ?_
          first | refine Lp_pv rfl rfl ?_ | refine Lp_mv rfl rfl ?_
          refine Lp_nil ?_
          repeat refine C_seq ?_
          refine C_region ?_
          first | refine Lp_pv rfl rfl ?_ | refine Lp_mv rfl rfl ?_
          first | refine Lp_pv rfl rfl ?_ | refine Lp_s rfl (St_eqPtrNil rfl rfl (.inr rfl) rfl ?_) | refine Lp_s rfl (St_eqMapNil rfl rfl (.inr rfl) rfl ?_) | refine Lp_s rfl (St_eqPair rfl rfl (.inr rfl) rfl ?_) | refine Lp_s rfl (St_eqBool rfl rfl (.inr rfl) rfl ?_) | refine Lp_s rfl (St_eqStr rfl rfl (.inr rfl) rfl ?_)
          first | refine Lp_pv rfl rfl ?_ | refine Lp_mv rfl rfl ?_
          first | refine Lp_gpv rfl rfl rfl rfl ?_ | refine Lp_no rfl rfl rfl ?_ | refine Lp_nn rfl rfl ?_
          first | refine Lp_gpv rfl rfl rfl rfl ?_ | refine Lp_no rfl rfl rfl ?_ | refine Lp_nn rfl rfl ?_
          refine Lp_pv rfl rfl ?_
          first | refine Lp_pv rfl rfl ?_ | refine Lp_mv rfl rfl ?_
          first | refine Lp_gpv rfl rfl rfl rfl ?_ | refine Lp_no rfl rfl rfl ?_ | refine Lp_nn rfl rfl ?_
          first | refine Lp_g rfl rfl rfl (St_fieldAddr rfl rfl ?_) | refine Lp_no rfl rfl rfl ?_ | refine Lp_nn rfl rfl ?_
          first | refine Lp_g rfl rfl rfl (St_load1 H rfl rfl rfl ?_) | refine Lp_g rfl rfl rfl (St_loadN H rfl (by repeat (first | exact Reads.nil _ | apply Reads.cons rfl)) rfl ?_) | refine Lp_no rfl rfl rfl ?_ | refine Lp_nn rfl rfl ?_
          first | refine Lp_gpv rfl rfl rfl rfl ?_ | refine Lp_g rfl rfl rfl (St_eqPtrNil rfl rfl (.inr rfl) rfl ?_) | refine Lp_g rfl rfl rfl (St_eqMapNil rfl rfl (.inr rfl) rfl ?_) | refine Lp_g rfl rfl rfl (St_eqPair rfl rfl (.inr rfl) rfl ?_) | refine Lp_g rfl rfl rfl (St_eqBool rfl rfl (.inr rfl) rfl ?_) | refine Lp_g rfl rfl rfl (St_eqStr rfl rfl (.inr rfl) rfl ?_) | refine Lp_no rfl rfl rfl ?_ | refine Lp_nn rfl rfl ?_
          rw [show ((some nn).getD 0 != nn) = false by simp]
          refine Lp_pv rfl rfl ?_
          refine Lp_nil ?_
          repeat refine C_seq ?_
          refine C_false rfl (C_skip ?_)
          repeat refine C_seq ?_
          refine C_region ?_
          refine Lp_pv rfl rfl ?_
          first | refine Lp_pv rfl rfl ?_ | refine Lp_mv rfl rfl ?_
          refine Lp_nil ?_
          replace H := Holds.sel [1, 0, 1, 1] 1 H; dsimp only [SL.sel, SL.pull, List.drop] at H
          exact ⟨_, ⟨rfl, j + 1, hjt, rfl, rfl, rfl, rfl, rfl, rfl, rfl, rfl, inc64 (by omega), H⟩, by omega⟩
        · exact ⟨rfl, rfl, rfl, rfl, rfl, rfl, rfl, H.drop⟩
      · clear H
        rintro ms σ w ⟨rfl, h3, h5, h34, h35, h36, H⟩
        rw [upd_self h3, upd_self h5, upd_self h34, upd_self h35, upd_self h36]
        clear hks hs hkl
        repeat refine C_seq ?_
        refine C_region ?_
        first | refine Lp_pv rfl rfl ?_ | refine Lp_mv rfl rfl ?_
        refine Lp_s rfl (St_fieldAddr rfl rfl ?_)
        refine Lp_s rfl (St_fieldAddr rfl rfl ?_)
        first | refine Lp_s rfl (St_load1 H rfl rfl rfl ?_) | refine Lp_s rfl (St_loadN H rfl (by repeat (first | exact Reads.nil _ | apply Reads.cons rfl)) rfl ?_)
        refine Lp_s rfl (St_call (a := []) (b := []) rfl rfl (call (From_spec p m (by omega) r1 H) ?_))
        rintro v87 w ⟨ks, hks, hs, H⟩
        have hkl := rising_len (m := m) hs fun r hr => ((hks r).1 hr).2
        obtain ⟨a87, c87, rfl⟩ := sls_slice H (rcells_length ks) (by decide)
        refine Lp_s rfl (St_lenSlice rfl rfl ?_)
        first | refine Lp_pv rfl rfl ?_ | refine Lp_mv rfl rfl ?_
        refine Lp_nil ?_
        repeat refine C_seq ?_
        refine C_block ?_
        refine C_loop (fun ms σ w n => ms = [] ∧ ∃ j : Nat, j ≤ ks.length ∧ n = ks.length - j ∧ σ 3 = pp p ∧ σ 5 = pp b5 ∧ σ 34 = .slice (some ⟨b, o, none⟩) l.length cap ∧ σ 35 = .int .i64 l.length ∧ σ 36 = .int .i64 i ∧ σ 87 = .slice a87 ks.length c87 ∧ σ 88 = .int .i64 ks.length ∧ σ 89 = .int .i64 j ∧
          Holds w [SR (.slice a87 ks.length c87) ks, RS p m, pts b5 (row 42 [.int .i64 kd, .int .i64 r1, .int .i64 r2, .int .i64 nn]), old W]) (m := ks.length) ⟨rfl, 0, by omega, rfl, rfl, rfl, rfl, rfl, rfl, rfl, rfl, rfl, H⟩ ?_
        clear H
        rintro ms σ w n ⟨rfl, j, hj, rfl, h3, h5, h34, h35, h36, h87, h88, h89, H⟩
        rw [upd_self h3, upd_self h5, upd_self h34, upd_self h35, upd_self h36, upd_self h87, upd_self h88, upd_self h89]
        repeat refine C_seq ?_
        refine C_region ?_
        refine Lp_pv rfl rfl ?_
        refine Lp_nil ?_
        repeat refine C_seq ?_
        refine C_dec rfl (fun h => C_skip ?_) (fun h => C_exit ?_)
        · have hjt : j < ks.length := by omega
          have hx := List.getElem?_eq_getElem hjt
          generalize ks[j] = x at hx
          have hxk := (hks x).1 (List.mem_of_getElem? hx)
          obtain ⟨x1, x2⟩ := x
          obtain ⟨bb, sb, rfl, H, hclose⟩ := sls_open H (by omega)
          obtain ⟨tt, htt⟩ := Option.isSome_iff_exists.1 hxk.2
          repeat refine C_seq ?_
          refine C_block ?_
          repeat refine C_seq ?_
          refine C_region ?_
          refine Lp_s rfl (St_indexAddr rfl rfl (by omega) (by omega) rfl ?_)
          refine Lp_s rfl (St_loadN H rfl (rcells_reads hx) rfl ?_)
          (refine Lp_s rfl (St_alloc H rfl ?_); clear H; intro b14 w H)
          first | (refine Lp_s rfl (St_store1 H rfl rfl inferInstance rfl (Nat.le_of_ble_eq_true rfl) rfl ?_); clear H; intro w H) | (refine Lp_s rfl (St_storeN H rfl rfl inferInstance rfl rfl (Nat.le_of_ble_eq_true rfl) rfl ?_); clear H; intro w H)
          refine Lp_nil ?_
          replace H := hclose _ _ H.swap
          replace H : Holds w [SR (.slice (some ⟨bb, 0, none⟩) ks.length c87) ks, pts b14 (row 24 [.int .i64 x1, .int .i64 x2]), RS p m, pts b5 (row 42 [.int .i64 kd, .int .i64 r1, .int .i64 r2, .int .i64 nn]), old W] := H
          repeat refine C_seq ?_
          refine C_region ?_
          first | refine Lp_pv rfl rfl ?_ | refine Lp_mv rfl rfl ?_
          first | refine Lp_s rfl (St_load1 H rfl rfl rfl ?_) | refine Lp_s rfl (St_loadN H rfl (by repeat (first | exact Reads.nil _ | apply Reads.cons rfl)) rfl ?_)
          replace H := Holds.sel [2, 0, 0, 0, 0] 0 H; dsimp only [SL.sel, SL.pull, List.drop] at H
          refine Lp_s rfl (St_call (a := []) (b := []) rfl rfl (call (To2_spec p m (x1, x2) H) ?_))
          clear H; rintro v w ⟨rfl, H⟩
          rw [htt]
          first | refine Lp_pv rfl rfl ?_ | refine Lp_mv rfl rfl ?_
          refine Lp_pv rfl rfl ?_
          refine Lp_pv rfl rfl ?_
          first | refine Lp_pv rfl rfl ?_ | refine Lp_mv rfl rfl ?_
          first | refine Lp_pv rfl rfl ?_ | refine Lp_mv rfl rfl ?_
          refine Lp_nil ?_
          repeat refine C_seq ?_
          refine C_region ?_
          first | refine Lp_pv rfl rfl ?_ | refine Lp_mv rfl rfl ?_
          refine Lp_nil ?_
          repeat refine C_seq ?_
          refine C_region ?_
          first | refine Lp_pv rfl rfl ?_ | refine Lp_mv rfl rfl ?_
          first | refine Lp_pv rfl rfl ?_ | refine Lp_mv rfl rfl ?_
          refine Lp_s rfl (St_call (a := []) (b := []) rfl rfl (call (Of_spec p m (by omega) tt H) ?_))
          rintro v101 w ⟨kz, hkz, hsz, H⟩
          obtain ⟨az, cz, rfl⟩ := sls_slice H (rcells_length kz) (by decide)
          have hzl := rising_len (m := m) hsz fun r hr => by rw [(hkz r).1 hr]; rfl
          refine Lp_s rfl (St_lenSlice rfl rfl ?_)
          first | refine Lp_pv rfl rfl ?_ | refine Lp_mv rfl rfl ?_
          refine Lp_nil ?_
          repeat refine C_seq ?_
          refine C_join (fun ms σ w => ms = [] ∧ σ 3 = pp p ∧ σ 5 = pp b5 ∧ σ 14 = pp b14 ∧ σ 16 = .bool true ∧ σ 17 = .int .i64 1 ∧ σ 34 = .slice (some ⟨b, o, none⟩) l.length cap ∧ σ 35 = .int .i64 l.length ∧ σ 36 = .int .i64 i ∧ σ 87 = .slice (some ⟨bb, 0, none⟩) ks.length c87 ∧ σ 88 = .int .i64 ks.length ∧ σ 89 = .int .i64 j ∧
            Holds w [RS p m, SR (.slice (some ⟨bb, 0, none⟩) ks.length c87) ks, pts b14 (row 24 [.int .i64 x1, .int .i64 x2]), pts b5 (row 42 [.int .i64 kd, .int .i64 r1, .int .i64 r2, .int .i64 nn]), old W]) ?_ ?_
          · refine C_block ?_
            refine C_loop (fun ms σ w n => ms = [] ∧ ∃ k : Nat, k ≤ kz.length ∧ n = kz.length - k ∧ σ 3 = pp p ∧ σ 5 = pp b5 ∧ σ 14 = pp b14 ∧ σ 16 = .bool true ∧ σ 17 = .int .i64 (cnt (x1, x2) (kz.take k) : Nat) ∧ σ 34 = .slice (some ⟨b, o, none⟩) l.length cap ∧ σ 35 = .int .i64 l.length ∧ σ 36 = .int .i64 i ∧ σ 87 = .slice (some ⟨bb, 0, none⟩) ks.length c87 ∧ σ 88 = .int .i64 ks.length ∧ σ 89 = .int .i64 j ∧
              σ 101 = .slice az kz.length cz ∧ σ 102 = .int .i64 kz.length ∧ σ 103 = .int .i64 k ∧ Holds w [SR (.slice az kz.length cz) kz, RS p m, SR (.slice (some ⟨bb, 0, none⟩) ks.length c87) ks, pts b14 (row 24 [.int .i64 x1, .int .i64 x2]), pts b5 (row 42 [.int .i64 kd, .int .i64 r1, .int .i64 r2, .int .i64 nn]), old W]) (m := kz.length)
              ⟨rfl, 0, by omega, rfl, rfl, rfl, rfl, rfl, rfl, rfl, rfl, rfl, rfl, rfl, rfl, rfl, rfl, rfl, H⟩ ?_
            clear H
            rintro ms σ w n ⟨rfl, k, hk, rfl, h3, h5, h14, h16, h17, h34, h35, h36, h87, h88, h89, h101, h102, h103, H⟩
            rw [upd_self h3, upd_self h5, upd_self h14, upd_self h16, upd_self h17, upd_self h34, upd_self h35, upd_self h36, upd_self h87, upd_self h88, upd_self h89, upd_self h101, upd_self h102, upd_self h103]
            repeat refine C_seq ?_
            refine C_region ?_
            refine Lp_pv rfl rfl ?_
            refine Lp_nil ?_
            repeat refine C_seq ?_
            refine C_dec rfl (fun h => C_skip ?_) (fun h => C_exit ?_)
            · have hkt : k < kz.length := by omega
              have hy := List.getElem?_eq_getElem hkt
              generalize kz[k] = y at hy
              obtain ⟨y1, y2⟩ := y
              have hct := cnt_take (x := (x1, x2)) hy
              have hcl := cnt_le (x1, x2) (kz.take k)
              rw [List.length_take] at hcl
              obtain ⟨bz, sz, rfl, H, hclz⟩ := sls_open H (by omega)
              repeat refine C_seq ?_
              refine C_block ?_
              repeat refine C_seq ?_
              refine C_region ?_
              refine Lp_s rfl (St_indexAddr rfl rfl (by omega) (by omega) rfl ?_)
              refine Lp_s rfl (St_loadN H rfl (rcells_reads hy) rfl ?_)
              (refine Lp_s rfl (St_alloc H rfl ?_); clear H; intro b19 w H)
              first | (refine Lp_s rfl (St_store1 H rfl rfl inferInstance rfl (Nat.le_of_ble_eq_true rfl) rfl ?_); clear H; intro w H) | (refine Lp_s rfl (St_storeN H rfl rfl inferInstance rfl rfl (Nat.le_of_ble_eq_true rfl) rfl ?_); clear H; intro w H)
              refine Lp_nil ?_
              repeat refine C_seq ?_
              refine C_region ?_
              first | refine Lp_s rfl (St_load1 H rfl rfl rfl ?_) | refine Lp_s rfl (St_loadN H rfl (by repeat (first | exact Reads.nil _ | apply Reads.cons rfl)) rfl ?_)
              first | refine Lp_s rfl (St_load1 H rfl rfl rfl ?_) | refine Lp_s rfl (St_loadN H rfl (by repeat (first | exact Reads.nil _ | apply Reads.cons rfl)) rfl ?_)
              first | refine Lp_pv rfl rfl ?_ | refine Lp_s rfl (St_eqPtrNil rfl rfl (.inl rfl) rfl ?_) | refine Lp_s rfl (St_eqMapNil rfl rfl (.inl rfl) rfl ?_) | refine Lp_s rfl (St_eqPair rfl rfl (.inl rfl) rfl ?_) | refine Lp_s rfl (St_eqBool rfl rfl (.inl rfl) rfl ?_) | refine Lp_s rfl (St_eqStr rfl rfl (.inl rfl) rfl ?_)
              refine Lp_nil ?_
              replace H := hclz _ _ H.drop
              repeat refine C_seq ?_
              refine C_cond rfl (fun he => ?_) (fun he => C_skip ?_)
              · have he : (y1, y2) = (x1, x2) := by simpa [isEql] using he
                rw [if_pos he] at hct
                repeat refine C_seq ?_
                refine C_region ?_
                first | refine Lp_pv rfl rfl ?_ | refine Lp_mv rfl rfl ?_
                refine Lp_pv rfl rfl ?_
                first | refine Lp_pv rfl rfl ?_ | refine Lp_mv rfl rfl ?_
                refine Lp_nil ?_
                repeat refine C_seq ?_
                refine C_region ?_
                refine Lp_pv rfl rfl ?_
                first | refine Lp_pv rfl rfl ?_ | refine Lp_mv rfl rfl ?_
                refine Lp_nil ?_
                refine ⟨_, ⟨rfl, k + 1, hkt, rfl, rfl, rfl, rfl, rfl, ?_, rfl, rfl, rfl, rfl, rfl, rfl, rfl, rfl, inc64 (by omega), H⟩, by omega⟩
                rw [hct]
                exact inc64 (by omega)
              · have he : ¬ (y1, y2) = (x1, x2) := by simpa [isEql] using he
                rw [if_neg he] at hct
                repeat refine C_seq ?_
                refine C_region ?_
                refine Lp_pv rfl rfl ?_
                first | refine Lp_pv rfl rfl ?_ | refine Lp_mv rfl rfl ?_
                refine Lp_nil ?_
                refine ⟨_, ⟨rfl, k + 1, hkt, rfl, rfl, rfl, rfl, rfl, ?_, rfl, rfl, rfl, rfl, rfl, rfl, rfl, rfl, inc64 (by omega), H⟩, by omega⟩
                rw [hct]
                rfl
            · have hge : k = kz.length := by omega
              subst hge
              rw [List.take_length, cnt_one (rising_nodup hsz) ((hkz (x1, x2)).2 htt)]
              exact ⟨rfl, rfl, rfl, rfl, rfl, rfl, rfl, rfl, rfl, rfl, rfl, rfl, rfl, H.drop⟩
          clear H
          rintro ms σ w ⟨rfl, h3, h5, h14, h16, h17, h34, h35, h36, h87, h88, h89, H⟩
          rw [upd_self h3, upd_self h5, upd_self h14, upd_self h16, upd_self h17, upd_self h34, upd_self h35, upd_self h36, upd_self h87, upd_self h88, upd_self h89]
          have hx1 : (x1 != r1) = false := by simpa using hxk.1
          repeat refine C_seq ?_
          refine C_region ?_
          first | refine Lp_pv rfl rfl ?_ | refine Lp_mv rfl rfl ?_
          refine Lp_pv rfl rfl ?_
          first | refine Lp_pv rfl rfl ?_ | refine Lp_mv rfl rfl ?_
          first | refine Lp_gpv rfl rfl rfl rfl ?_ | refine Lp_no rfl rfl rfl ?_ | refine Lp_nn rfl rfl ?_
          first | refine Lp_gpv rfl rfl rfl rfl ?_ | refine Lp_g rfl rfl rfl (St_eqPtrNil rfl rfl (.inr rfl) rfl ?_) | refine Lp_g rfl rfl rfl (St_eqMapNil rfl rfl (.inr rfl) rfl ?_) | refine Lp_g rfl rfl rfl (St_eqPair rfl rfl (.inr rfl) rfl ?_) | refine Lp_g rfl rfl rfl (St_eqBool rfl rfl (.inr rfl) rfl ?_) | refine Lp_g rfl rfl rfl (St_eqStr rfl rfl (.inr rfl) rfl ?_) | refine Lp_no rfl rfl rfl ?_ | refine Lp_nn rfl rfl ?_
          refine Lp_pv rfl rfl ?_
          first | refine Lp_pv rfl rfl ?_ | refine Lp_mv rfl rfl ?_
          first | refine Lp_g rfl rfl rfl (St_fieldAddr rfl rfl ?_) | refine Lp_no rfl rfl rfl ?_ | refine Lp_nn rfl rfl ?_
          first | refine Lp_g rfl rfl rfl (St_load1 H rfl rfl rfl ?_) | refine Lp_g rfl rfl rfl (St_loadN H rfl (by repeat (first | exact Reads.nil _ | apply Reads.cons rfl)) rfl ?_) | refine Lp_no rfl rfl rfl ?_ | refine Lp_nn rfl rfl ?_
          first | refine Lp_g rfl rfl rfl (St_fieldAddr rfl rfl ?_) | refine Lp_no rfl rfl rfl ?_ | refine Lp_nn rfl rfl ?_
          first | refine Lp_g rfl rfl rfl (St_fieldAddr rfl rfl ?_) | refine Lp_no rfl rfl rfl ?_ | refine Lp_nn rfl rfl ?_
          first | refine Lp_g rfl rfl rfl (St_load1 H rfl rfl rfl ?_) | refine Lp_g rfl rfl rfl (St_loadN H rfl (by repeat (first | exact Reads.nil _ | apply Reads.cons rfl)) rfl ?_) | refine Lp_no rfl rfl rfl ?_ | refine Lp_nn rfl rfl ?_
          first | refine Lp_gpv rfl rfl rfl rfl ?_ | refine Lp_g rfl rfl rfl (St_eqPtrNil rfl rfl (.inr rfl) rfl ?_) | refine Lp_g rfl rfl rfl (St_eqMapNil rfl rfl (.inr rfl) rfl ?_) | refine Lp_g rfl rfl rfl (St_eqPair rfl rfl (.inr rfl) rfl ?_) | refine Lp_g rfl rfl rfl (St_eqBool rfl rfl (.inr rfl) rfl ?_) | refine Lp_g rfl rfl rfl (St_eqStr rfl rfl (.inr rfl) rfl ?_) | refine Lp_no rfl rfl rfl ?_ | refine Lp_nn rfl rfl ?_
          rw [hx1]
          refine Lp_pv rfl rfl ?_
          refine Lp_nil ?_
          repeat refine C_seq ?_
          refine C_false rfl (C_skip ?_)
          repeat refine C_seq ?_
          refine C_region ?_
          refine Lp_pv rfl rfl ?_
          first | refine Lp_pv rfl rfl ?_ | refine Lp_mv rfl rfl ?_
          refine Lp_nil ?_
          replace H := Holds.sel [1, 0, 1, 1] 1 H; dsimp only [SL.sel, SL.pull, List.drop] at H
          exact ⟨_, ⟨rfl, j + 1, hjt, rfl, rfl, rfl, rfl, rfl, rfl, rfl, rfl, inc64 (by omega), H⟩, by omega⟩
        · replace H := H.drop
          repeat refine C_seq ?_
          refine C_region ?_
          refine Lp_pv rfl rfl ?_
          first | refine Lp_pv rfl rfl ?_ | refine Lp_mv rfl rfl ?_
          refine Lp_nil ?_
          replace H := Holds.sel [0, 1] 1 H; dsimp only [SL.sel, SL.pull, List.drop] at H
          exact ⟨_, ⟨rfl, i + 1, hlt, rfl, rfl, rfl, rfl, inc64 (by omega), H⟩, by omega⟩
    · repeat refine C_seq ?_
      refine C_region ?_
      first | refine Lp_pv rfl rfl ?_ | refine Lp_mv rfl rfl ?_
      refine Lp_nil ?_
      exact C_ret (fn_end0 _ (.inr rfl) H.drop rfl fun w' H' => ⟨rfl, H'⟩)
end Go.Proofs.Ytdpephigccnkdaa
