/- The remset's walks: the keys of a map, collected. No condition. -/
import Derived.Test.YtdpephigccnkdaaRemB
set_option linter.unusedVariables false
set_option linter.unusedSimpArgs false
set_option linter.unusedSectionVars false
namespace Go.Proofs.Ytdpephigccnkdaa
open Go.SL

theorem kp_inj : ∀ a b : Rf, kp a = kp b → a = b := tkR.inj
theorem rf_eq (r : Rf) : rf r = kp r := rfl

/-- The references' cells, one behind the other. -/
def rcells (l : List Rf) : List Value := l.flatMap fun r => [.int .i64 r.1, .int .i64 r.2]
theorem rcells_length (l : List Rf) : (rcells l).length = l.length * 2 := by
  induction l with
  | nil => rfl
  | cons r l ih => simp only [rcells, List.flatMap_cons, List.length_append, List.length_cons, List.length_nil] at ih ⊢; omega
theorem rcells_append (a b : List Rf) : rcells (a ++ b) = rcells a ++ rcells b := by simp [rcells]

theorem Keys_spec [Extra] (x : Option Nat) (m : List (Rf × Int)) {w : World} {fr : List HProp} (H : Holds w (mpv kp v1 (.map x) m :: fr)) :
    Calls Try.prog 30 #[.map x] w
      (ret fun v w' => ∃ b, v = .func (.func 36) #[] #[pp b] ∧ Holds w' (pts b (row 49 [.map x]) :: mpv kp v1 (.map x) m :: fr)) := by
  refine calls_of Try.func30 rfl (by kernel_rfl) ?_
  repeat refine C_seq ?_
  refine C_region ?_
  first | (refine Lp_s rfl (St_boxN H rfl rfl ?_); clear H; intro b1 w H) | (refine Lp_s rfl (St_box1 H rfl rfl rfl ?_); clear H; intro b1 w H)
  first | refine Lp_pv rfl rfl ?_ | refine Lp_mv rfl rfl ?_
  refine Lp_nil ?_
  repeat refine C_seq ?_
  refine C_region ?_
  refine Lp_pv rfl rfl ?_
  first | refine Lp_pv rfl rfl ?_ | refine Lp_mv rfl rfl ?_
  refine Lp_nil ?_
  refine C_ret (fn_end0 _ (.inr rfl) H rfl fun w' H' => ⟨b1, rfl, H'⟩)

theorem sub_length {α : Type} : ∀ {l₁ l₂ : List α}, l₁.Nodup → (∀ z ∈ l₁, z ∈ l₂) → l₁.length ≤ l₂.length
  | [], _, _, _ => Nat.zero_le _
  | c :: l, l₂, hn, hs => by
    obtain ⟨s, t, rfl⟩ := List.append_of_mem (hs c (by simp))
    have h := List.nodup_cons.1 hn
    have := sub_length (l₂ := s ++ t) h.2 (fun z hz => by
      have h1 := hs z (by simp [hz])
      have h2 : z ≠ c := fun e => h.1 (e ▸ hz)
      simp [h2] at h1
      simpa using h1)
    simp at this ⊢
    omega

theorem KeysIter [Extra] (yl b : Nat) (x : Option Nat) (m : List (Rf × Int)) (J : List Rf → HProp)
    (hy : ∀ ks r rest w, ks.length < m.length → Holds w (J ks :: rest) → SL.Yields Try.prog yl #[rf r] w (fun v w' => v = .bool true ∧ Holds w' (J (ks ++ [r]) :: rest)))
    {w : World} {fr : List HProp} (H : Holds w (J [] :: pts b (row 49 [.map x]) :: mpv kp v1 (.map x) m :: fr)) :
    Calls Try.prog 36 #[.func (.yield yl) #[] #[], pp b] w
      (ret fun _ w' => ∃ ks, ks.Perm (m.map (·.1)) ∧ Holds w' (J ks :: mpv kp v1 (.map x) m :: fr)) := by
  refine calls_of Try.func36 rfl (by kernel_rfl) ?_
  repeat refine C_seq ?_
  refine C_region ?_
  first | refine Lp_s rfl (St_load1 H rfl rfl rfl ?_) | refine Lp_s rfl (St_loadN H rfl (by repeat (first | exact Reads.nil _ | apply Reads.cons rfl)) rfl ?_)
  replace H := Holds.sel [2, 0, 0] 0 H; dsimp only [SL.sel, SL.pull, List.drop] at H
  refine Lp_s rfl (St_range kp v1 H rfl rfl ?_); clear H; intro bi w H
  refine Lp_nil ?_
  refine C_block ?_
  refine C_loop (fun ms σ w n => ms = [] ∧ ∃ ks : List Rf, σ 0 = .func (.yield yl) #[] #[] ∧ σ 5 = pp bi ∧ n = m.length - ks.length ∧ Holds w (mit kp v1 (.map x) m bi ks :: J ks :: pts b (row 49 [.map x]) :: fr)) (m := m.length) ⟨rfl, [], rfl, rfl, rfl, H⟩ ?_
  clear H w
  rintro ms σ w n ⟨rfl, ks, h0, h5, rfl, H⟩
  rw [upd_self h0, upd_self h5]
  repeat refine C_seq ?_
  refine C_region ?_
  refine Lp_s rfl (St_next H kp_inj rfl rfl (fun hp w H => ?_) (fun q hq hn hnd hsub w H => ?_))
  · refine Lp_pv rfl rfl ?_
    refine Lp_nil ?_
    repeat refine C_seq ?_
    refine C_false rfl (C_exit ?_)
    replace H := mit_mpv H
    replace H := Holds.sel [1, 0] 1 H; dsimp only [SL.sel, SL.pull, List.drop] at H
    exact fn_end0 _ (.inl rfl) H rfl fun w' H' => ⟨ks, hp, H'⟩
  · have hlt : ks.length < m.length := by
      have h1 : (ks ++ [q.1]).Nodup := by
        rw [List.nodup_append]
        exact ⟨hnd, by simp, fun c hc c' hc' e0 => by simp at hc'; subst hc'; subst e0; exact hn hc⟩
      have h2 := sub_length h1 (l₂ := m.map (·.1)) (fun z hz => by
        rcases List.mem_append.1 hz with hz | hz
        · exact hsub z hz
        · simp at hz; subst hz; exact List.mem_map_of_mem hq)
      simp at h2
      omega
    refine Lp_pv rfl rfl ?_
    refine Lp_nil ?_
    repeat refine C_seq ?_
    refine C_true rfl (C_skip ?_)
    refine C_block ?_
    repeat refine C_seq ?_
    refine C_region ?_
    refine Lp_s rfl (St_entry H kp_inj hq rfl rfl ?_)
    refine Lp_pv rfl rfl ?_
    (refine Lp_s rfl (St_alloc H rfl ?_); clear H; intro b3 w H)
    first | (refine Lp_s rfl (St_store1 H rfl rfl inferInstance rfl (Nat.le_of_ble_eq_true rfl) rfl ?_); clear H; intro w H) | (refine Lp_s rfl (St_storeN H rfl rfl inferInstance rfl rfl (Nat.le_of_ble_eq_true rfl) rfl ?_); clear H; intro w H)
    refine Lp_nil ?_
    repeat refine C_seq ?_
    refine C_region ?_
    first | refine Lp_pv rfl rfl ?_ | refine Lp_mv rfl rfl ?_
    first | refine Lp_s rfl (St_load1 H rfl rfl rfl ?_) | refine Lp_s rfl (St_loadN H rfl (by repeat (first | exact Reads.nil _ | apply Reads.cons rfl)) rfl ?_)
    replace H := Holds.sel [2, 0, 0, 0] 0 H; dsimp only [SL.sel, SL.pull, List.drop] at H
    refine Lp_s rfl (St_yield rfl rfl (SL.Yields.mono (hy ks q.1 _ _ hlt H) ?_))
    clear H; rintro v w ⟨rfl, H⟩
    refine Lp_pv rfl rfl ?_
    refine Lp_nil ?_
    repeat refine C_seq ?_
    refine C_false rfl (C_skip ?_)
    replace H := Holds.sel [2, 0, 1] 1 H; dsimp only [SL.sel, SL.pull, List.drop] at H
    exact ⟨_, ⟨rfl, ks ++ [q.1], rfl, rfl, rfl, H⟩, by simp; omega⟩

/-- What the collecting loop keeps. -/
def CJ (L : HProp) (b2 : Nat) (ks : List Rf) : HProp := ex fun v : Value => star [sls 24 2 v (rcells ks), L, pts b2 (row 32 [v])]

theorem CJ_out [Extra] {w : World} {L : HProp} {b2 : Nat} {ks : List Rf} {l : List HProp} (H : Holds w (CJ L b2 ks :: l)) : ∃ v, Holds w (sls 24 2 v (rcells ks) :: L :: pts b2 (row 32 [v]) :: l) := by
  obtain ⟨v, H⟩ := Holds.ex.1 H
  exact ⟨v, Holds.star.1 H⟩
theorem CJ_in [Extra] {w : World} {L : HProp} {b2 : Nat} {ks : List Rf} {l : List HProp} {v : Value} (H : Holds w (sls 24 2 v (rcells ks) :: L :: pts b2 (row 32 [v]) :: l)) : Holds w (CJ L b2 ks :: l) :=
  Holds.ex.2 ⟨v, Holds.star.2 H⟩

theorem sls_one [Extra] {w : World} {E k : Nat} {v : Value} {c : List Value} {l : List HProp} (H : Holds w (sls E k v c :: l)) : v.oneCell' = true := by
  rcases sls_case H with ⟨rfl, _⟩ | ⟨_, _, _, _, rfl, _⟩ <;> rfl

theorem AppendSeq_spec [Extra] (b : Nat) (x : Option Nat) (m : List (Rf × Int)) (hm : m.length ≤ 1000000) {w : World} {fr : List HProp} (H : Holds w (pts b (row 49 [.map x]) :: mpv kp v1 (.map x) m :: fr)) :
    Calls Try.prog 38 #[.slice none 0 0, .func (.func 36) #[] #[pp b]] w
      (ret fun v w' => ∃ ks, ks.Perm (m.map (·.1)) ∧ Holds w' (sls 24 2 v (rcells ks) :: mpv kp v1 (.map x) m :: fr)) := by
  refine calls_of Try.func38 rfl (by kernel_rfl) ?_
  repeat refine C_seq ?_
  refine C_region ?_
  first | (refine Lp_s rfl (St_boxN H rfl rfl ?_); clear H; intro b2 w H) | (refine Lp_s rfl (St_box1 H rfl rfl rfl ?_); clear H; intro b2 w H)
  first | refine Lp_pv rfl rfl ?_ | refine Lp_mv rfl rfl ?_
  refine Lp_nil ?_
  repeat refine C_seq ?_
  refine C_region ?_
  first | refine Lp_pv rfl rfl ?_ | refine Lp_mv rfl rfl ?_
  refine Lp_nil ?_
  repeat refine C_seq ?_
  refine C_block (C_rangeFunc (a := []) (b := [pp b]) H rfl (fun yl D w H => ?_))
  generalize hL : LR _ yl _ _ _ _ D .ready = L at H ⊢
  replace H := sls_nil (E := 24) (k := 2) H
  replace H := Holds.sel [0, 0, 1, 1, 1, 0] 0 H; dsimp only [SL.sel, SL.pull, List.drop] at H
  refine call (KeysIter yl b x m (CJ L b2) ?_ (CJ_in (ks := []) H)) ?_
  · intro ks r rest w hlt H
    obtain ⟨a, c⟩ := r
    obtain ⟨v, H⟩ := CJ_out H
    have h1 := sls_one H
    subst hL
    replace H := Holds.sel [1, 0, 0] 0 H; dsimp only [SL.sel, SL.pull, List.drop] at H
    refine Yields_of (args := [rf (a, c)]) H rfl rfl ?_
    repeat refine C_seq ?_
    refine C_region ?_
    (refine Lp_s rfl (St_alloc H rfl ?_); clear H; intro b5 w H)
    first | (refine Lp_s rfl (St_store1 H rfl rfl inferInstance rfl (Nat.le_of_ble_eq_true rfl) rfl ?_); clear H; intro w H) | (refine Lp_s rfl (St_storeN H rfl rfl inferInstance rfl rfl (Nat.le_of_ble_eq_true rfl) rfl ?_); clear H; intro w H)
    refine Lp_nil ?_
    replace H := Holds.sel [1, 1, 0, 0] 0 H; dsimp only [SL.sel, SL.pull, List.drop] at H
    refine ⟨rfl, _, H, fun w H => C_block ?_⟩
    repeat refine C_seq ?_
    refine C_region ?_
    first | refine Lp_s rfl (St_load1 H rfl rfl rfl ?_) | refine Lp_s rfl (St_loadN H rfl (by repeat (first | exact Reads.nil _ | apply Reads.cons rfl)) rfl ?_)
    first | refine Lp_s rfl (St_load1 H rfl rfl rfl ?_) | refine Lp_s rfl (St_loadN H rfl (by repeat (first | exact Reads.nil _ | apply Reads.cons rfl)) rfl ?_)
    (refine Lp_s rfl (St_buildSlice H rfl rfl rfl ?_); clear H; intro b10 w H)
    replace H := Holds.sel [2, 0, 0, 0, 0] 0 H; dsimp only [SL.sel, SL.pull, List.drop] at H
    refine Lp_s rfl (St_append H rfl rfl (by repeat (first | exact Reads.nil _ | apply Reads.cons rfl)) rfl (by decide) (by simp only [rcells_length, List.length_cons, List.length_nil]; omega) rfl rfl ?_); clear H; intro v11 w H
    obtain ⟨a11, c11, rfl⟩ := sls_slice (m := ks.length + 1) H (by simp [rcells_length]; omega) (by decide)
    refine Lp_s rfl (St_store1 H rfl rfl inferInstance (sls_one H) (Nat.le_of_ble_eq_true rfl) rfl ?_); clear H; intro w H
    refine Lp_nil ?_
    replace H := Holds.sel [2, 0, 2] 2 H; dsimp only [SL.sel, SL.pull, List.drop] at H
    refine ⟨rfl, _, H, fun w H => ⟨rfl, CJ_in (v := .slice a11 (ks.length + 1) c11) ?_⟩⟩
    replace H := Holds.sel [1, 0, 0] 0 H; dsimp only [SL.sel, SL.pull, List.drop] at H
    rw [rcells_append]
    exact H
  · rintro v w' ⟨ks, hp, H⟩
    obtain ⟨v2, H⟩ := CJ_out H
    have h1 := sls_one H
    subst hL
    replace H := Holds.sel [1, 0, 0, 0, 0] 0 H; dsimp only [SL.sel, SL.pull, List.drop] at H
    refine ⟨_, H, fun w H => ?_⟩
    repeat refine C_seq ?_
    refine C_region ?_
    first | refine Lp_s rfl (St_load1 H rfl rfl rfl ?_) | refine Lp_s rfl (St_loadN H rfl (by repeat (first | exact Reads.nil _ | apply Reads.cons rfl)) rfl ?_)
    first | refine Lp_pv rfl rfl ?_ | refine Lp_mv rfl rfl ?_
    refine Lp_nil ?_
    replace H := Holds.sel [3, 0, 1] 1 H; dsimp only [SL.sel, SL.pull, List.drop] at H
    exact C_ret (fn_end (ms := [D]) _ (.inr rfl) ((Holds.star (k := [pts D (.deferred (some []))])).2 H) rfl fun w' H' => ⟨ks, hp, H'⟩)

theorem Collect_spec [Extra] (b : Nat) (x : Option Nat) (m : List (Rf × Int)) (hm : m.length ≤ 1000000) {w : World} {fr : List HProp} (H : Holds w (pts b (row 49 [.map x]) :: mpv kp v1 (.map x) m :: fr)) :
    Calls Try.prog 34 #[.func (.func 36) #[] #[pp b]] w
      (ret fun v w' => ∃ ks, ks.Perm (m.map (·.1)) ∧ Holds w' (sls 24 2 v (rcells ks) :: mpv kp v1 (.map x) m :: fr)) := by
  refine calls_of Try.func34 rfl (by kernel_rfl) ?_
  repeat refine C_seq ?_
  refine C_region ?_
  first | refine Lp_pv rfl rfl ?_ | refine Lp_mv rfl rfl ?_
  refine Lp_nil ?_
  repeat refine C_seq ?_
  refine C_region ?_
  first | refine Lp_pv rfl rfl ?_ | refine Lp_mv rfl rfl ?_
  refine Lp_s rfl (St_call (a := []) (b := []) rfl rfl (call (AppendSeq_spec b x m hm H) ?_))
  rintro v w ⟨ks, hp, H⟩
  first | refine Lp_pv rfl rfl ?_ | refine Lp_mv rfl rfl ?_
  refine Lp_nil ?_
  exact C_ret (fn_end0 _ (.inr rfl) H rfl fun w' H' => ⟨ks, hp, H'⟩)
end Go.Proofs.Ytdpephigccnkdaa
