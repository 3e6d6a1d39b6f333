/- The remset's walks: what is told of a target, of a source; Forget. No condition. -/
import Derived.Test.YtdpephigccnkdaaRemD
set_option linter.unusedVariables false
set_option linter.unusedSimpArgs false
set_option linter.unusedSectionVars false
namespace Go.Proofs.Ytdpephigccnkdaa
open Go.SL

theorem mem_at {g1 g2 : List Gr} {g : Gr} (hn : ((g1 ++ g :: g2).map (·.key)).Nodup) {r : Rf} : mem (g1 ++ g :: g2) g.key r ↔ r ∈ g.m.map (·.1) := by
  rw [mem_mid]
  exact ⟨fun h => h.elim (·.2) fun h => absurd (mem_key h) (rest_key hn), fun h => .inl ⟨rfl, h⟩⟩

theorem mpv_some [Extra] {w : World} {K V : Type} {ek : K → Value} {vv : V → Value} {b : Nat} {m : List (K × V)} {l : List HProp} (H : Holds w (mpv ek vv (.map (some b)) m :: l)) : Holds w (mp ek vv b m :: l) := H.head fun h hm => by
  rcases hm with ⟨h, _⟩ | ⟨b', h, hm⟩
  · cases h
  · cases h; exact hm

theorem fnd_isSome_mem {K V : Type} [DecidableEq K] {m : List (K × V)} {x : K} (h : (fnd m x).isSome = true) : x ∈ m.map (·.1) := by
  cases hf : fnd m x with
  | none => rw [hf] at h; cases h
  | some v => exact List.mem_map_of_mem (f := (·.1)) (fnd_mem hf)

theorem Of_none [Extra] (t : Int) {w : World} {fr : List HProp} (H : Holds w fr) : Calls Try.prog 13 #[.pointer none, .int .i64 t] w (ret fun v w' => v = .slice none 0 0 ∧ Holds w' fr) := by
  refine calls_of Try.func13 rfl (by kernel_rfl) ?_
  repeat refine C_seq ?_
  refine C_region ?_
  first | refine Lp_pv rfl rfl ?_ | refine Lp_mv rfl rfl ?_
  refine Lp_nil ?_
  repeat refine C_seq ?_
  refine C_region ?_
  first | refine Lp_pv rfl rfl ?_ | refine Lp_mv rfl rfl ?_
  first | refine Lp_pv rfl rfl ?_ | refine Lp_s rfl (St_eqPtrNil rfl rfl (.inl rfl) rfl ?_) | refine Lp_s rfl (St_eqMapNil rfl rfl (.inl rfl) rfl ?_) | refine Lp_s rfl (St_eqPair rfl rfl (.inl rfl) rfl ?_) | refine Lp_s rfl (St_eqBool rfl rfl (.inl rfl) rfl ?_) | refine Lp_s rfl (St_eqStr rfl rfl (.inl rfl) rfl ?_)
  refine Lp_nil ?_
  repeat refine C_seq ?_
  refine C_true rfl ?_
  repeat refine C_seq ?_
  refine C_region ?_
  first | refine Lp_pv rfl rfl ?_ | refine Lp_mv rfl rfl ?_
  refine Lp_nil ?_
  exact C_ret (fn_end0 _ (.inr rfl) H rfl fun w' H' => ⟨rfl, H'⟩)

theorem From_none [Extra] (t : Int) {w : World} {fr : List HProp} (H : Holds w fr) : Calls Try.prog 14 #[.pointer none, .int .i64 t] w (ret fun v w' => v = .slice none 0 0 ∧ Holds w' fr) := by
  refine calls_of Try.func14 rfl (by kernel_rfl) ?_
  repeat refine C_seq ?_
  refine C_region ?_
  first | refine Lp_pv rfl rfl ?_ | refine Lp_mv rfl rfl ?_
  refine Lp_nil ?_
  repeat refine C_seq ?_
  refine C_region ?_
  first | refine Lp_pv rfl rfl ?_ | refine Lp_mv rfl rfl ?_
  first | refine Lp_pv rfl rfl ?_ | refine Lp_s rfl (St_eqPtrNil rfl rfl (.inl rfl) rfl ?_) | refine Lp_s rfl (St_eqMapNil rfl rfl (.inl rfl) rfl ?_) | refine Lp_s rfl (St_eqPair rfl rfl (.inl rfl) rfl ?_) | refine Lp_s rfl (St_eqBool rfl rfl (.inl rfl) rfl ?_) | refine Lp_s rfl (St_eqStr rfl rfl (.inl rfl) rfl ?_)
  refine Lp_nil ?_
  repeat refine C_seq ?_
  refine C_true rfl ?_
  repeat refine C_seq ?_
  refine C_region ?_
  first | refine Lp_pv rfl rfl ?_ | refine Lp_mv rfl rfl ?_
  refine Lp_nil ?_
  exact C_ret (fn_end0 _ (.inr rfl) H rfl fun w' H' => ⟨rfl, H'⟩)

theorem Of_spec [Extra] (p : Nat) (m : List (Rf × Int)) (hm : m.length ≤ 1000000) (t : Int) {w : World} {fr : List HProp} (H : Holds w (RS p m :: fr)) :
    Calls Try.prog 13 #[pp p, .int .i64 t] w (ret fun v w' => ∃ ks, (∀ r, r ∈ ks ↔ fnd m r = some t) ∧ Rising ks ∧ Holds w' (sls 24 2 v (rcells ks) :: RS p m :: fr)) := by
  refine calls_of Try.func13 rfl (by kernel_rfl) ?_
  obtain ⟨bt, bo, bf, H⟩ := RS_out H
  repeat refine C_seq ?_
  refine C_region ?_
  first | refine Lp_pv rfl rfl ?_ | refine Lp_mv rfl rfl ?_
  refine Lp_nil ?_
  repeat refine C_seq ?_
  refine C_region ?_
  first | refine Lp_pv rfl rfl ?_ | refine Lp_mv rfl rfl ?_
  first | refine Lp_pv rfl rfl ?_ | refine Lp_s rfl (St_eqPtrNil rfl rfl (.inl rfl) rfl ?_) | refine Lp_s rfl (St_eqMapNil rfl rfl (.inl rfl) rfl ?_) | refine Lp_s rfl (St_eqPair rfl rfl (.inl rfl) rfl ?_) | refine Lp_s rfl (St_eqBool rfl rfl (.inl rfl) rfl ?_) | refine Lp_s rfl (St_eqStr rfl rfl (.inl rfl) rfl ?_)
  refine Lp_nil ?_
  repeat refine C_seq ?_
  refine C_false rfl (C_skip ?_)
  repeat refine C_seq ?_
  refine C_region ?_
  first | refine Lp_pv rfl rfl ?_ | refine Lp_mv rfl rfl ?_
  refine Lp_pv rfl rfl ?_
  refine Lp_s rfl (St_fieldAddr rfl rfl ?_)
  first | refine Lp_s rfl (St_load1 H rfl rfl rfl ?_) | refine Lp_s rfl (St_loadN H rfl (by repeat (first | exact Reads.nil _ | apply Reads.cons rfl)) rfl ?_)
  first | refine Lp_pv rfl rfl ?_ | refine Lp_mv rfl rfl ?_
  replace H := Holds.sel [2, 0, 0, 0] 0 H; dsimp only [SL.sel, SL.pull, List.drop] at H
  obtain ⟨G, hG, H⟩ := GrR_out H
  refine Lp_s rfl (St_lookup (key := t) H rfl rfl tkI rfl ?_)
  have hn0 := keys_nodup bo H
  have hn : (G.map (·.key)).Nodup := by rw [← gkb_keys]; exact hn0
  cases hf : fnd (G.map gkb) t with
  | none =>
    replace H := mpv_nil kp v1 H
    refine Lp_s rfl (St_call (a := []) (b := []) rfl rfl (call (sorted_spec none [] (by simp) (by simp) H) ?_))
    rintro v w ⟨ks, hp, hs, H⟩
    first | refine Lp_pv rfl rfl ?_ | refine Lp_mv rfl rfl ?_
    refine Lp_nil ?_
    have hks : ks = [] := by simpa using hp
    subst hks
    replace H := Holds.sel [2, 2, 2, 2, 2, 0] 1 H; dsimp only [SL.sel, SL.pull, List.drop] at H
    replace H := GrR_in G hG H
    replace H := Holds.sel [1, 1, 0, 0, 0] 0 H; dsimp only [SL.sel, SL.pull, List.drop] at H
    replace H := RS_in bt bo bf (fun _ _ => Iff.rfl) (fun _ _ => Iff.rfl) H
    refine C_ret (fn_end0 _ (.inr rfl) H.swap rfl fun w' H' => ⟨[], fun r => ?_, hs, H'⟩)
    have h1 := fnd_eq_none.1 hf
    rw [gkb_keys] at h1
    exact ⟨fun h => by simp at h, fun h => absurd (mem_key ((hG t r).2 h)) h1⟩
  | some bi =>
    obtain ⟨g, g1, g2, rfl, rfl, rfl⟩ := group_at hf
    have H := (Holds.pick rfl).1 H.swap
    have hi := keys_nodup g.blk H
    have hlen : g.m.length ≤ 1000000 := by
      have := sub_length hi (l₂ := m.map (·.1)) (fun r hr => by
        have := (hG g.key r).1 ((mem_at hn).2 hr)
        exact List.mem_map_of_mem (f := (·.1)) (fnd_mem this))
      simp at this
      omega
    replace H := mpv_of H
    refine Lp_s rfl (St_call (a := []) (b := []) rfl rfl (call (sorted_spec (some g.blk) g.m hlen hi H) ?_))
    rintro v w ⟨ks, hp, hs, H⟩
    first | refine Lp_pv rfl rfl ?_ | refine Lp_mv rfl rfl ?_
    refine Lp_nil ?_
    replace H := mpv_some H.swap
    replace H := Holds.sel [0, 1, 0, 0, 0, 0, 0] 0 H; dsimp only [SL.sel, SL.pull, List.drop] at H
    replace H := (Holds.pick (R := inner) (gs := g1 ++ g :: g2) rfl).2 H
    replace H := Holds.sel [2, 0, 1, 1, 1, 0] 0 H; dsimp only [SL.sel, SL.pull, List.drop] at H
    replace H := GrR_in (g1 ++ g :: g2) hG H
    replace H := Holds.sel [1, 1, 0, 0, 0] 0 H; dsimp only [SL.sel, SL.pull, List.drop] at H
    replace H := RS_in bt bo bf (fun _ _ => Iff.rfl) (fun _ _ => Iff.rfl) H
    refine C_ret (fn_end0 _ (.inr rfl) H.swap rfl fun w' H' => ⟨ks, fun r => ?_, hs, H'⟩)
    rw [hp.mem_iff, ← hG, mem_at hn]

theorem From_spec [Extra] (p : Nat) (m : List (Rf × Int)) (hm : m.length ≤ 1000000) (t : Int) {w : World} {fr : List HProp} (H : Holds w (RS p m :: fr)) :
    Calls Try.prog 14 #[pp p, .int .i64 t] w (ret fun v w' => ∃ ks, (∀ r, r ∈ ks ↔ (r.1 = t ∧ (fnd m r).isSome = true)) ∧ Rising ks ∧ Holds w' (sls 24 2 v (rcells ks) :: RS p m :: fr)) := by
  refine calls_of Try.func14 rfl (by kernel_rfl) ?_
  obtain ⟨bt, bo, bf, H⟩ := RS_out H
  repeat refine C_seq ?_
  refine C_region ?_
  first | refine Lp_pv rfl rfl ?_ | refine Lp_mv rfl rfl ?_
  refine Lp_nil ?_
  repeat refine C_seq ?_
  refine C_region ?_
  first | refine Lp_pv rfl rfl ?_ | refine Lp_mv rfl rfl ?_
  first | refine Lp_pv rfl rfl ?_ | refine Lp_s rfl (St_eqPtrNil rfl rfl (.inl rfl) rfl ?_) | refine Lp_s rfl (St_eqMapNil rfl rfl (.inl rfl) rfl ?_) | refine Lp_s rfl (St_eqPair rfl rfl (.inl rfl) rfl ?_) | refine Lp_s rfl (St_eqBool rfl rfl (.inl rfl) rfl ?_) | refine Lp_s rfl (St_eqStr rfl rfl (.inl rfl) rfl ?_)
  refine Lp_nil ?_
  repeat refine C_seq ?_
  refine C_false rfl (C_skip ?_)
  repeat refine C_seq ?_
  refine C_region ?_
  first | refine Lp_pv rfl rfl ?_ | refine Lp_mv rfl rfl ?_
  refine Lp_pv rfl rfl ?_
  refine Lp_s rfl (St_fieldAddr rfl rfl ?_)
  first | refine Lp_s rfl (St_load1 H rfl rfl rfl ?_) | refine Lp_s rfl (St_loadN H rfl (by repeat (first | exact Reads.nil _ | apply Reads.cons rfl)) rfl ?_)
  first | refine Lp_pv rfl rfl ?_ | refine Lp_mv rfl rfl ?_
  replace H := Holds.sel [3, 0, 0, 0] 0 H; dsimp only [SL.sel, SL.pull, List.drop] at H
  obtain ⟨G, hG, H⟩ := GrR_out H
  refine Lp_s rfl (St_lookup (key := t) H rfl rfl tkI rfl ?_)
  have hn0 := keys_nodup bf H
  have hn : (G.map (·.key)).Nodup := by rw [← gkb_keys]; exact hn0
  cases hf : fnd (G.map gkb) t with
  | none =>
    replace H := mpv_nil kp v1 H
    refine Lp_s rfl (St_call (a := []) (b := []) rfl rfl (call (sorted_spec none [] (by simp) (by simp) H) ?_))
    rintro v w ⟨ks, hp, hs, H⟩
    first | refine Lp_pv rfl rfl ?_ | refine Lp_mv rfl rfl ?_
    refine Lp_nil ?_
    have hks : ks = [] := by simpa using hp
    subst hks
    replace H := Holds.sel [2, 2, 2, 2, 2, 0] 1 H; dsimp only [SL.sel, SL.pull, List.drop] at H
    replace H := GrR_in G hG H
    replace H := Holds.sel [1, 1, 1, 0, 0] 0 H; dsimp only [SL.sel, SL.pull, List.drop] at H
    replace H := RS_in bt bo bf (fun _ _ => Iff.rfl) (fun _ _ => Iff.rfl) H
    refine C_ret (fn_end0 _ (.inr rfl) H.swap rfl fun w' H' => ⟨[], fun r => ?_, hs, H'⟩)
    have h1 := fnd_eq_none.1 hf
    rw [gkb_keys] at h1
    exact ⟨fun h => by simp at h, fun h => absurd (mem_key ((hG t r).2 h)) h1⟩
  | some bi =>
    obtain ⟨g, g1, g2, rfl, rfl, rfl⟩ := group_at hf
    have H := (Holds.pick rfl).1 H.swap
    have hi := keys_nodup g.blk H
    have hlen : g.m.length ≤ 1000000 := by
      have := sub_length hi (l₂ := m.map (·.1)) (fun r hr => by
        have := (hG g.key r).1 ((mem_at hn).2 hr)
        exact fnd_isSome_mem this.2)
      simp at this
      omega
    replace H := mpv_of H
    refine Lp_s rfl (St_call (a := []) (b := []) rfl rfl (call (sorted_spec (some g.blk) g.m hlen hi H) ?_))
    rintro v w ⟨ks, hp, hs, H⟩
    first | refine Lp_pv rfl rfl ?_ | refine Lp_mv rfl rfl ?_
    refine Lp_nil ?_
    replace H := mpv_some H.swap
    replace H := Holds.sel [0, 1, 0, 0, 0, 0, 0] 0 H; dsimp only [SL.sel, SL.pull, List.drop] at H
    replace H := (Holds.pick (R := inner) (gs := g1 ++ g :: g2) rfl).2 H
    replace H := Holds.sel [2, 0, 1, 1, 1, 0] 0 H; dsimp only [SL.sel, SL.pull, List.drop] at H
    replace H := GrR_in (g1 ++ g :: g2) hG H
    replace H := Holds.sel [1, 1, 1, 0, 0] 0 H; dsimp only [SL.sel, SL.pull, List.drop] at H
    replace H := RS_in bt bo bf (fun _ _ => Iff.rfl) (fun _ _ => Iff.rfl) H
    refine C_ret (fn_end0 _ (.inr rfl) H.swap rfl fun w' H' => ⟨ks, fun r => ?_, hs, H'⟩)
    rw [hp.mem_iff, ← hG, mem_at hn]

theorem wrap64 {x : Int} (h1 : -9223372036854775808 ≤ x) (h2 : x ≤ 9223372036854775807) : IntKind.i64.wrap x = x := by
  simp [IntKind.wrap, IntKind.bits, IntKind.signed]; omega

theorem inc64 {i : Nat} (h : i < 1000000000) : Value.int .i64 (IntKind.i64.wrap ((i : Int) + 1)) = .int .i64 ((i + 1 : Nat) : Int) := by
  rw [wrap64 (by omega) (by omega)]; rfl

theorem rcells_reads {ks : List Rf} {spare : List Value} {i : Nat} {r : Rf} (h : ks[i]? = some r) : Reads (rcells ks ++ spare) (0 + i * 2) 2 [.int .i64 r.1, .int .i64 r.2] := by
  have hl := rcells_length ks
  have hi := (List.getElem?_eq_some_iff.1 h).1
  have g : ∀ t, (rcells ks)[t]? = (ks[t / 2]?).bind fun x => (encR x)[t % 2]? := fun t => by rw [rcells_eq]; exact flatMap_get (k := 2) (fun _ => rfl) (by decide) ks t
  refine .cons ?_ (.cons ?_ (.nil _))
  · rw [List.getElem?_append_left (by omega), g, show (0 + i * 2) / 2 = i by omega, show (0 + i * 2) % 2 = 0 by omega, h]; rfl
  · rw [List.getElem?_append_left (by omega), g, show (0 + i * 2 + 1) / 2 = i by omega, show (0 + i * 2 + 1) % 2 = 1 by omega, h]; rfl

theorem rcells_nil {ks : List Rf} (h : rcells ks = []) : ks = [] := by
  have := rcells_length ks
  rw [h] at this
  exact List.eq_nil_of_length_eq_zero (by simp at this; omega)

theorem Forget_none [Extra] (t : Int) {w : World} {fr : List HProp} (H : Holds w fr) : Calls Try.prog 15 #[.pointer none, .int .i64 t] w (ret fun v w' => v = .int .i64 0 ∧ Holds w' fr) := by
  refine calls_of Try.func15 rfl (by kernel_rfl) ?_
  repeat refine C_seq ?_
  refine C_region ?_
  first | refine Lp_pv rfl rfl ?_ | refine Lp_mv rfl rfl ?_
  refine Lp_nil ?_
  repeat refine C_seq ?_
  refine C_region ?_
  first | refine Lp_pv rfl rfl ?_ | refine Lp_mv rfl rfl ?_
  first | refine Lp_pv rfl rfl ?_ | refine Lp_mv rfl rfl ?_
  refine Lp_s rfl (St_call (a := []) (b := []) rfl rfl (call (From_none t H) ?_))
  clear H; rintro v w ⟨rfl, H⟩
  first | refine Lp_pv rfl rfl ?_ | refine Lp_mv rfl rfl ?_
  refine Lp_nil ?_
  repeat refine C_seq ?_
  refine C_region ?_
  first | refine Lp_pv rfl rfl ?_ | refine Lp_mv rfl rfl ?_
  refine Lp_s rfl (St_lenSlice rfl rfl ?_)
  first | refine Lp_pv rfl rfl ?_ | refine Lp_mv rfl rfl ?_
  refine Lp_nil ?_
  repeat refine C_seq ?_
  refine C_block ?_
  refine C_loop (fun ms σ w n => ms = [] ∧ σ 12 = .int .i64 0 ∧ σ 13 = .int .i64 0 ∧ σ 5 = .slice none 0 0 ∧ Holds w fr) (m := 1) ⟨rfl, rfl, rfl, rfl, H⟩ ?_
  clear H
  rintro ms σ w n ⟨rfl, h12, h13, h5, H⟩
  rw [upd_self h12, upd_self h13, upd_self h5]
  repeat refine C_seq ?_
  refine C_region ?_
  refine Lp_pv rfl rfl ?_
  refine Lp_nil ?_
  repeat refine C_seq ?_
  refine C_false rfl (C_exit ?_)
  repeat refine C_seq ?_
  refine C_region ?_
  first | refine Lp_pv rfl rfl ?_ | refine Lp_mv rfl rfl ?_
  refine Lp_s rfl (St_lenSlice rfl rfl ?_)
  first | refine Lp_pv rfl rfl ?_ | refine Lp_mv rfl rfl ?_
  refine Lp_nil ?_
  exact C_ret (fn_end0 _ (.inr rfl) H rfl fun w' H' => ⟨rfl, H'⟩)

theorem nodup_foldl_era : ∀ (ks : List Rf) {m : List (Rf × Int)}, (m.map (·.1)).Nodup → ((ks.foldl era m).map (·.1)).Nodup
  | [], _, h => h
  | k :: ks, _, h => nodup_foldl_era ks (nodup_era h)

theorem Forget_spec [Extra] (p : Nat) (m : List (Rf × Int)) (hn : (m.map (·.1)).Nodup) (hm : m.length ≤ 1000000) (t : Int) {w : World} {fr : List HProp} (H : Holds w (RS p m :: fr)) :
    Calls Try.prog 15 #[pp p, .int .i64 t] w (ret fun v w' => ∃ ks, (∀ r, r ∈ ks ↔ (r.1 = t ∧ (fnd m r).isSome = true)) ∧ Rising ks ∧ v = .int .i64 ks.length ∧ Holds w' (RS p (ks.foldl era m) :: fr)) := by
  refine calls_of Try.func15 rfl (by kernel_rfl) ?_
  repeat refine C_seq ?_
  refine C_region ?_
  first | refine Lp_pv rfl rfl ?_ | refine Lp_mv rfl rfl ?_
  refine Lp_nil ?_
  repeat refine C_seq ?_
  refine C_region ?_
  first | refine Lp_pv rfl rfl ?_ | refine Lp_mv rfl rfl ?_
  first | refine Lp_pv rfl rfl ?_ | refine Lp_mv rfl rfl ?_
  refine Lp_s rfl (St_call (a := []) (b := []) rfl rfl (call (From_spec p m hm t H) ?_))
  rintro v w ⟨ks, hks, hs, H⟩
  first | refine Lp_pv rfl rfl ?_ | refine Lp_mv rfl rfl ?_
  refine Lp_nil ?_
  have hlen : ks.length ≤ 1000000 := by
    have hnd : ks.Nodup := hs.imp fun {a b} h e => by subst e; unfold ltR at h; omega
    have := sub_length hnd (l₂ := m.map (·.1)) fun r hr => fnd_isSome_mem ((hks r).1 hr).2
    simp at this
    omega
  rcases sls_case H with ⟨rfl, h0, H2⟩ | ⟨b, len, cap, spare, rfl, e3, e4, e5, H2⟩ <;> replace H := H2 <;> clear H2
  · have := rcells_nil h0
    subst this
    repeat refine C_seq ?_
    refine C_region ?_
    first | refine Lp_pv rfl rfl ?_ | refine Lp_mv rfl rfl ?_
    refine Lp_s rfl (St_lenSlice rfl rfl ?_)
    first | refine Lp_pv rfl rfl ?_ | refine Lp_mv rfl rfl ?_
    refine Lp_nil ?_
    repeat refine C_seq ?_
    refine C_block ?_
    refine C_loop (fun ms σ w n => ms = [] ∧ σ 12 = .int .i64 0 ∧ σ 13 = .int .i64 0 ∧ σ 5 = .slice none 0 0 ∧ Holds w (RS p m :: fr)) (m := 1) ⟨rfl, rfl, rfl, rfl, H⟩ ?_
    clear H
    rintro ms σ w n ⟨rfl, h12, h13, h5, H⟩
    rw [upd_self h12, upd_self h13, upd_self h5]
    repeat refine C_seq ?_
    refine C_region ?_
    refine Lp_pv rfl rfl ?_
    refine Lp_nil ?_
    repeat refine C_seq ?_
    refine C_false rfl (C_exit ?_)
    repeat refine C_seq ?_
    refine C_region ?_
    first | refine Lp_pv rfl rfl ?_ | refine Lp_mv rfl rfl ?_
    refine Lp_s rfl (St_lenSlice rfl rfl ?_)
    first | refine Lp_pv rfl rfl ?_ | refine Lp_mv rfl rfl ?_
    refine Lp_nil ?_
    exact C_ret (fn_end0 _ (.inr rfl) H rfl fun w' H' => ⟨[], hks, hs, rfl, H'⟩)
  · have hl2 : len = ks.length := by rw [rcells_length] at e3; omega
    subst hl2
    repeat refine C_seq ?_
    refine C_region ?_
    first | refine Lp_pv rfl rfl ?_ | refine Lp_mv rfl rfl ?_
    refine Lp_s rfl (St_lenSlice rfl rfl ?_)
    first | refine Lp_pv rfl rfl ?_ | refine Lp_mv rfl rfl ?_
    refine Lp_nil ?_
    repeat refine C_seq ?_
    refine C_block ?_
    refine C_loop (fun ms σ w n => ms = [] ∧ ∃ i : Nat, i ≤ ks.length ∧ n = ks.length - i ∧ σ 0 = pp p ∧ σ 11 = .slice (some ⟨b, 0, none⟩) ks.length cap ∧ σ 12 = .int .i64 ks.length ∧ σ 13 = .int .i64 i ∧ σ 5 = .slice (some ⟨b, 0, none⟩) ks.length cap ∧
      Holds w (RS p ((ks.take i).foldl era m) :: pts b (row 24 (rcells ks ++ spare)) :: fr)) (m := ks.length) ⟨rfl, 0, by omega, rfl, rfl, rfl, rfl, rfl, rfl, H.swap⟩ ?_
    clear H
    rintro ms σ w n ⟨rfl, i, hi, rfl, h0, h11, h12, h13, h5, H⟩
    rw [upd_self h0, upd_self h11, upd_self h12, upd_self h13, upd_self h5]
    repeat refine C_seq ?_
    refine C_region ?_
    refine Lp_pv rfl rfl ?_
    refine Lp_nil ?_
    repeat refine C_seq ?_
    refine C_dec rfl (fun h => C_skip ?_) (fun h => C_exit ?_)
    · have hlt : i < ks.length := by omega
      have hr := List.getElem?_eq_getElem hlt
      generalize ks[i] = r at hr
      obtain ⟨a, c⟩ := r
      repeat refine C_seq ?_
      refine C_block ?_
      repeat refine C_seq ?_
      refine C_region ?_
      refine Lp_s rfl (St_indexAddr rfl rfl (by omega) (by omega) rfl ?_)
      refine Lp_s rfl (St_loadN H rfl (rcells_reads hr) rfl ?_)
      (refine Lp_s rfl (St_alloc H rfl ?_); clear H; intro b7 w H)
      first | (refine Lp_s rfl (St_store1 H rfl rfl inferInstance rfl (Nat.le_of_ble_eq_true rfl) rfl ?_); clear H; intro w H) | (refine Lp_s rfl (St_storeN H rfl rfl inferInstance rfl rfl (Nat.le_of_ble_eq_true rfl) rfl ?_); clear H; intro w H)
      refine Lp_nil ?_
      repeat refine C_seq ?_
      refine C_region ?_
      first | refine Lp_pv rfl rfl ?_ | refine Lp_mv rfl rfl ?_
      first | refine Lp_s rfl (St_load1 H rfl rfl rfl ?_) | refine Lp_s rfl (St_loadN H rfl (by repeat (first | exact Reads.nil _ | apply Reads.cons rfl)) rfl ?_)
      replace H := Holds.sel [1, 1] 1 H; dsimp only [SL.sel, SL.pull, List.drop] at H
      refine Lp_s rfl (St_call (a := []) (b := []) rfl rfl (call (Cut_spec p _ (nodup_foldl_era _ hn) (a, c) H) ?_))
      clear H; rintro v w ⟨rfl, H⟩
      refine Lp_nil ?_
      repeat refine C_seq ?_
      refine C_region ?_
      refine Lp_pv rfl rfl ?_
      first | refine Lp_pv rfl rfl ?_ | refine Lp_mv rfl rfl ?_
      refine Lp_nil ?_
      refine ⟨_, ⟨rfl, i + 1, hlt, rfl, rfl, rfl, rfl, inc64 (by omega), rfl, ?_⟩, by omega⟩
      rw [List.take_add_one, hr]
      simpa using H
    · have hge : i = ks.length := by omega
      subst hge
      repeat refine C_seq ?_
      refine C_region ?_
      first | refine Lp_pv rfl rfl ?_ | refine Lp_mv rfl rfl ?_
      refine Lp_s rfl (St_lenSlice rfl rfl ?_)
      first | refine Lp_pv rfl rfl ?_ | refine Lp_mv rfl rfl ?_
      refine Lp_nil ?_
      rw [List.take_length] at H
      exact C_ret (fn_end0 _ (.inr rfl) H.swap.drop rfl fun w' H' => ⟨ks, hks, hs, rfl, H'⟩)
end Go.Proofs.Ytdpephigccnkdaa
