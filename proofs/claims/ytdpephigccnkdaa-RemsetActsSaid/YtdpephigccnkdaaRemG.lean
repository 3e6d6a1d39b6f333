/- The statements' own helpers: acts that are handed in; grown. No condition. -/
import Derived.Test.YtdpephigccnkdaaRemF
set_option linter.unusedVariables false
set_option linter.unusedSimpArgs false
set_option linter.unusedSectionVars false
namespace Go.Proofs.Ytdpephigccnkdaa
open Go.SL

structure Act where
  kind : Int
  r : Rf
  n : Int
  deriving Inhabited

@[reducible] def encA (a : Act) : List Value := [.int .i64 a.kind, .int .i64 a.r.1, .int .i64 a.r.2, .int .i64 a.n]

/-- v is a slice of these acts, in the heap as it was handed in. -/
inductive AL (W : World) : Value → List Act → Prop
  | nl {a : Option Addr} {cap : Nat} : AL W (.slice a 0 cap) []
  | sm {b o cap E : Nat} {fz : Nat × Nat} {c : List Value} {l : List Act} (h : W.heap[b]? = some (.cells c.toArray E fz)) (hc : l.length ≤ cap) (g : ∀ (i : Nat) (a : Act), l[i]? = some a → Reads c (o + i * 4) 4 (encA a)) : AL W (.slice (some ⟨b, o, none⟩) l.length cap) l

theorem AL.slice {W : World} {v : Value} {l : List Act} (h : AL W v l) : ∃ a cap, v = .slice a l.length cap := by
  cases h with
  | nl => exact ⟨_, _, rfl⟩
  | sm h hc g => exact ⟨_, _, rfl⟩

theorem AL.at {W : World} {ad : Option Addr} {m cap : Nat} {l : List Act} (h : AL W (.slice ad m cap) l) {i : Nat} {a : Act} (ha : l[i]? = some a) :
    ∃ b o E fz c, ad = some ⟨b, o, none⟩ ∧ InOld W b (.cells (List.toArray c) E fz) ∧ Reads c (o + i * 4) 4 (encA a) := by
  cases h with
  | nl => simp at ha
  | sm h hc g => exact ⟨_, _, _, _, _, rfl, ⟨h⟩, g i a ha⟩

/-- What an act does to a set's pairs. -/
def act1 (m : List (Rf × Int)) (a : Act) : List (Rf × Int) :=
  if a.kind = 0 then ins (era m a.r) a.r a.n else if a.kind = 1 then era m a.r else if a.kind = 2 then m.filter (fun p => decide (p.1.1 ≠ a.n)) else m

theorem era_filter {m : List (Rf × Int)} (h : (m.map (·.1)).Nodup) (x : Rf) : era m x = m.filter (fun p => decide (p.1 ≠ x)) := by
  induction m with
  | nil => rfl
  | cons p m ih =>
    simp only [List.map_cons, List.nodup_cons] at h
    simp only [era, List.filter_cons]
    by_cases e : p.1 = x
    · subst e
      simp only [if_true, ne_eq, not_true_eq_false, decide_false, Bool.false_eq_true, if_false]
      refine (List.filter_eq_self.2 fun q hq => ?_).symm
      have : q.1 ≠ p.1 := fun e => h.1 (e ▸ List.mem_map_of_mem hq)
      simpa using this
    · simp [e, ih h.2]

theorem foldl_era : ∀ (ks : List Rf) {m : List (Rf × Int)}, (m.map (·.1)).Nodup → ks.foldl era m = m.filter (fun p => decide (p.1 ∉ ks))
  | [], m, _ => (List.filter_eq_self.2 (by simp)).symm
  | k :: ks, m, h => by
    rw [List.foldl_cons, foldl_era ks (nodup_era h), era_filter h, List.filter_filter]
    refine List.filter_congr fun p _ => ?_
    rw [Bool.eq_iff_iff]
    simp [and_comm]

theorem foldl_forget {ks : List Rf} {m : List (Rf × Int)} {t : Int} (h : (m.map (·.1)).Nodup) (hk : ∀ r, r ∈ ks ↔ (r.1 = t ∧ (fnd m r).isSome = true)) : ks.foldl era m = m.filter (fun p => decide (p.1.1 ≠ t)) := by
  rw [foldl_era ks h]
  refine List.filter_congr fun p hp => ?_
  have : (fnd m p.1).isSome = true := by
    rw [(fnd_iff h).2 hp]; rfl
  rw [Bool.eq_iff_iff]
  simp [hk, this]

theorem nodup_act1 {m : List (Rf × Int)} (h : (m.map (·.1)).Nodup) (a : Act) : ((act1 m a).map (·.1)).Nodup := by
  unfold act1
  repeat' split
  · exact nodup_ins (nodup_era h)
  · exact nodup_era h
  · exact h.sublist (List.filter_sublist.map _)
  · exact h

theorem length_act1 (m : List (Rf × Int)) (a : Act) : (act1 m a).length ≤ m.length + 1 := by
  unfold act1
  repeat' split
  · rw [length_ins, length_era]
    repeat' split
    all_goals omega
  · rw [length_era]; split <;> omega
  · have := List.length_filter_le (fun p : Rf × Int => decide (p.1.1 ≠ a.n)) m
    omega
  · omega

def grownM (l : List Act) : List (Rf × Int) := l.foldl act1 []
theorem nodup_foldl_act : ∀ (l : List Act) {m : List (Rf × Int)}, (m.map (·.1)).Nodup → ((l.foldl act1 m).map (·.1)).Nodup
  | [], _, h => h
  | a :: l, _, h => nodup_foldl_act l (nodup_act1 h a)
theorem length_foldl_act : ∀ (l : List Act) (m : List (Rf × Int)), (l.foldl act1 m).length ≤ m.length + l.length
  | [], m => by simp
  | a :: l, m => by
    have h1 := length_foldl_act l (act1 m a)
    have h2 := length_act1 m a
    simp only [List.foldl_cons, List.length_cons]
    omega
theorem nodup_grown (l : List Act) : ((grownM l).map (·.1)).Nodup := nodup_foldl_act l (by simp)
theorem length_grown (l : List Act) : (grownM l).length ≤ l.length := by have := length_foldl_act l []; simpa [grownM] using this
theorem grown_take {l : List Act} {i : Nat} {a : Act} (h : l[i]? = some a) : grownM (l.take (i + 1)) = act1 (grownM (l.take i)) a := by
  unfold grownM
  rw [List.take_add_one, h, List.foldl_append]
  rfl

theorem grown_spec (W : World) (v : Value) (l : List Act) (hl : AL W v l) {w : World} {fr : List HProp} [Extra] (H : Holds w (old W :: fr)) :
    Calls Try.prog 24 #[v] w (ret fun x w' => (100 < l.length ∧ x = .pointer none ∧ Holds w' (old W :: fr)) ∨ (l.length ≤ 100 ∧ ∃ p, x = pp p ∧ Holds w' (RS p (grownM l) :: old W :: fr))) := by
  obtain ⟨ad, cap, rfl⟩ := hl.slice
  refine calls_of Try.func24 rfl (by kernel_rfl) ?_
  repeat refine C_seq ?_
  refine C_region ?_
  first | refine Lp_pv rfl rfl ?_ | refine Lp_mv rfl rfl ?_
  refine Lp_nil ?_
  repeat refine C_seq ?_
  refine C_region ?_
  refine Lp_s rfl (St_call (a := []) (b := []) rfl rfl (call (New_spec H) ?_))
  rintro v w ⟨p, rfl, H⟩
  first | refine Lp_pv rfl rfl ?_ | refine Lp_mv rfl rfl ?_
  refine Lp_nil ?_
  repeat refine C_seq ?_
  refine C_region ?_
  first | refine Lp_pv rfl rfl ?_ | refine Lp_mv rfl rfl ?_
  first | refine Lp_pv rfl rfl ?_ | refine Lp_s rfl (St_eqPtrNil rfl rfl (.inl rfl) rfl ?_) | refine Lp_s rfl (St_eqMapNil rfl rfl (.inl rfl) rfl ?_) | refine Lp_s rfl (St_eqPair rfl rfl (.inl rfl) rfl ?_) | refine Lp_s rfl (St_eqBool rfl rfl (.inl rfl) rfl ?_) | refine Lp_s rfl (St_eqStr rfl rfl (.inl rfl) rfl ?_)
  first | refine Lp_pv rfl rfl ?_ | refine Lp_mv rfl rfl ?_
  first | refine Lp_gpv rfl rfl rfl rfl ?_ | refine Lp_no rfl rfl rfl ?_ | refine Lp_nn rfl rfl ?_
  first | refine Lp_g rfl rfl rfl (St_lenSlice rfl rfl ?_) | refine Lp_no rfl rfl rfl ?_ | refine Lp_nn rfl rfl ?_
  first | refine Lp_gpv rfl rfl rfl rfl ?_ | refine Lp_no rfl rfl rfl ?_ | refine Lp_nn rfl rfl ?_
  refine Lp_pv rfl rfl ?_
  refine Lp_nil ?_
  repeat refine C_seq ?_
  refine C_dec rfl (fun h => ?_) (fun h => C_skip ?_)
  · repeat refine C_seq ?_
    refine C_region ?_
    first | refine Lp_pv rfl rfl ?_ | refine Lp_mv rfl rfl ?_
    refine Lp_nil ?_
    exact C_ret (fn_end0 _ (.inr rfl) H.drop rfl fun w' H' => .inl ⟨by omega, rfl, H'⟩)
  · have h100 : l.length ≤ 100 := by omega
    repeat refine C_seq ?_
    refine C_region ?_
    first | refine Lp_pv rfl rfl ?_ | refine Lp_mv rfl rfl ?_
    refine Lp_s rfl (St_lenSlice rfl rfl ?_)
    first | refine Lp_pv rfl rfl ?_ | refine Lp_mv rfl rfl ?_
    refine Lp_nil ?_
    repeat refine C_seq ?_
    refine C_block ?_
    refine C_loop (fun ms σ w n => ms = [] ∧ ∃ i : Nat, i ≤ l.length ∧ n = l.length - i ∧ σ 3 = pp p ∧ σ 14 = .slice ad l.length cap ∧ σ 15 = .int .i64 l.length ∧ σ 16 = .int .i64 i ∧
      Holds w (RS p (grownM (l.take i)) :: old W :: fr)) (m := l.length) ⟨rfl, 0, by omega, rfl, rfl, rfl, rfl, rfl, H⟩ ?_
    clear H
    rintro ms σ w n ⟨rfl, i, hi, rfl, h3, h14, h15, h16, H⟩
    rw [upd_self h3, upd_self h14, upd_self h15, upd_self h16]
    have hnd := nodup_grown (l.take i)
    have hlen := length_grown (l.take i)
    rw [List.length_take] at hlen
    repeat refine C_seq ?_
    refine C_region ?_
    refine Lp_pv rfl rfl ?_
    refine Lp_nil ?_
    repeat refine C_seq ?_
    refine C_dec rfl (fun h => C_skip ?_) (fun h => C_exit ?_)
    · have hlt : i < l.length := by omega
      have ha := List.getElem?_eq_getElem hlt
      generalize l[i] = a at ha
      obtain ⟨b, o, E, fz, c, rfl, iold, hrd⟩ := hl.at ha
      have hgt := grown_take ha
      obtain ⟨kd, ⟨r1, r2⟩, nn⟩ := a
      repeat refine C_seq ?_
      refine C_block ?_
      repeat refine C_seq ?_
      refine C_region ?_
      refine Lp_s rfl (St_indexAddr rfl rfl (by omega) (by omega) rfl ?_)
      refine Lp_s rfl (St_loadN H rfl hrd rfl ?_)
      (refine Lp_s rfl (St_alloc H rfl ?_); clear H; intro b5 w H)
      first | (refine Lp_s rfl (St_store1 H rfl rfl inferInstance rfl (Nat.le_of_ble_eq_true rfl) rfl ?_); clear H; intro w H) | (refine Lp_s rfl (St_storeN H rfl rfl inferInstance rfl rfl (Nat.le_of_ble_eq_true rfl) rfl ?_); clear H; intro w H)
      refine Lp_nil ?_
      repeat refine C_seq ?_
      refine C_region ?_
      refine Lp_s rfl (St_fieldAddr rfl rfl ?_)
      first | refine Lp_s rfl (St_load1 H rfl rfl rfl ?_) | refine Lp_s rfl (St_loadN H rfl (by repeat (first | exact Reads.nil _ | apply Reads.cons rfl)) rfl ?_)
      refine Lp_nil ?_
      repeat refine C_seq ?_
      refine C_block ?_
      repeat refine C_seq ?_
      refine C_region ?_
      first | refine Lp_pv rfl rfl ?_ | refine Lp_s rfl (St_eqPtrNil rfl rfl (.inl rfl) rfl ?_) | refine Lp_s rfl (St_eqMapNil rfl rfl (.inl rfl) rfl ?_) | refine Lp_s rfl (St_eqPair rfl rfl (.inl rfl) rfl ?_) | refine Lp_s rfl (St_eqBool rfl rfl (.inl rfl) rfl ?_) | refine Lp_s rfl (St_eqStr rfl rfl (.inl rfl) rfl ?_)
      first | refine Lp_pv rfl rfl ?_ | refine Lp_mv rfl rfl ?_
      refine Lp_nil ?_
      repeat refine C_seq ?_
      refine C_cond rfl (fun hk => ?_) (fun hk => ?_)
      · have hk0 : kd = 0 := by simpa using hk
        subst hk0
        repeat refine C_seq ?_
        refine C_region ?_
        first | refine Lp_pv rfl rfl ?_ | refine Lp_mv rfl rfl ?_
        refine Lp_s rfl (St_fieldAddr rfl rfl ?_)
        first | refine Lp_s rfl (St_load1 H rfl rfl rfl ?_) | refine Lp_s rfl (St_loadN H rfl (by repeat (first | exact Reads.nil _ | apply Reads.cons rfl)) rfl ?_)
        refine Lp_s rfl (St_fieldAddr rfl rfl ?_)
        first | refine Lp_s rfl (St_load1 H rfl rfl rfl ?_) | refine Lp_s rfl (St_loadN H rfl (by repeat (first | exact Reads.nil _ | apply Reads.cons rfl)) rfl ?_)
        replace H := Holds.sel [1, 0, 0] 0 H; dsimp only [SL.sel, SL.pull, List.drop] at H
        refine Lp_s rfl (St_call (a := []) (b := []) rfl rfl (call (Put_spec p _ hnd (r1, r2) nn H) ?_))
        clear H; rintro v w ⟨rfl, H⟩
        refine Lp_nil ?_
        repeat refine C_seq ?_
        refine C_region ?_
        refine Lp_pv rfl rfl ?_
        first | refine Lp_pv rfl rfl ?_ | refine Lp_mv rfl rfl ?_
        refine Lp_nil ?_
        refine ⟨_, ⟨rfl, i + 1, hlt, rfl, rfl, rfl, rfl, inc64 (by omega), ?_⟩, by omega⟩
        rw [hgt]
        replace H := Holds.sel [0, 1] 1 H; dsimp only [SL.sel, SL.pull, List.drop] at H
        exact H
      · have hk0 : kd ≠ 0 := by simpa using hk
        repeat refine C_seq ?_
        refine C_region ?_
        first | refine Lp_pv rfl rfl ?_ | refine Lp_s rfl (St_eqPtrNil rfl rfl (.inl rfl) rfl ?_) | refine Lp_s rfl (St_eqMapNil rfl rfl (.inl rfl) rfl ?_) | refine Lp_s rfl (St_eqPair rfl rfl (.inl rfl) rfl ?_) | refine Lp_s rfl (St_eqBool rfl rfl (.inl rfl) rfl ?_) | refine Lp_s rfl (St_eqStr rfl rfl (.inl rfl) rfl ?_)
        first | refine Lp_pv rfl rfl ?_ | refine Lp_mv rfl rfl ?_
        refine Lp_nil ?_
        repeat refine C_seq ?_
        refine C_cond rfl (fun hk => ?_) (fun hk => ?_)
        · have hk1 : kd = 1 := by simpa using hk
          subst hk1
          repeat refine C_seq ?_
          refine C_region ?_
          first | refine Lp_pv rfl rfl ?_ | refine Lp_mv rfl rfl ?_
          refine Lp_s rfl (St_fieldAddr rfl rfl ?_)
          first | refine Lp_s rfl (St_load1 H rfl rfl rfl ?_) | refine Lp_s rfl (St_loadN H rfl (by repeat (first | exact Reads.nil _ | apply Reads.cons rfl)) rfl ?_)
          replace H := Holds.sel [1, 0, 0] 0 H; dsimp only [SL.sel, SL.pull, List.drop] at H
          refine Lp_s rfl (St_call (a := []) (b := []) rfl rfl (call (Cut_spec p _ hnd (r1, r2) H) ?_))
          clear H; rintro v w ⟨rfl, H⟩
          refine Lp_nil ?_
          repeat refine C_seq ?_
          refine C_region ?_
          refine Lp_pv rfl rfl ?_
          first | refine Lp_pv rfl rfl ?_ | refine Lp_mv rfl rfl ?_
          refine Lp_nil ?_
          refine ⟨_, ⟨rfl, i + 1, hlt, rfl, rfl, rfl, rfl, inc64 (by omega), ?_⟩, by omega⟩
          rw [hgt]
          replace H := Holds.sel [0, 1] 1 H; dsimp only [SL.sel, SL.pull, List.drop] at H
          exact H
        · have hk1 : kd ≠ 1 := by simpa using hk
          repeat refine C_seq ?_
          refine C_region ?_
          first | refine Lp_pv rfl rfl ?_ | refine Lp_s rfl (St_eqPtrNil rfl rfl (.inl rfl) rfl ?_) | refine Lp_s rfl (St_eqMapNil rfl rfl (.inl rfl) rfl ?_) | refine Lp_s rfl (St_eqPair rfl rfl (.inl rfl) rfl ?_) | refine Lp_s rfl (St_eqBool rfl rfl (.inl rfl) rfl ?_) | refine Lp_s rfl (St_eqStr rfl rfl (.inl rfl) rfl ?_)
          first | refine Lp_pv rfl rfl ?_ | refine Lp_mv rfl rfl ?_
          refine Lp_nil ?_
          repeat refine C_seq ?_
          refine C_cond rfl (fun hk => ?_) (fun hk => ?_)
          · have hk2 : kd = 2 := by simpa using hk
            subst hk2
            repeat refine C_seq ?_
            refine C_region ?_
            first | refine Lp_pv rfl rfl ?_ | refine Lp_mv rfl rfl ?_
            refine Lp_s rfl (St_fieldAddr rfl rfl ?_)
            first | refine Lp_s rfl (St_load1 H rfl rfl rfl ?_) | refine Lp_s rfl (St_loadN H rfl (by repeat (first | exact Reads.nil _ | apply Reads.cons rfl)) rfl ?_)
            replace H := Holds.sel [1, 0, 0] 0 H; dsimp only [SL.sel, SL.pull, List.drop] at H
            refine Lp_s rfl (St_call (a := []) (b := []) rfl rfl (call (Forget_spec p _ hnd (by omega) nn H) ?_))
            rintro v w ⟨ks, hks, hs, rfl, H⟩
            refine Lp_nil ?_
            repeat refine C_seq ?_
            refine C_region ?_
            refine Lp_pv rfl rfl ?_
            first | refine Lp_pv rfl rfl ?_ | refine Lp_mv rfl rfl ?_
            refine Lp_nil ?_
            refine ⟨_, ⟨rfl, i + 1, hlt, rfl, rfl, rfl, rfl, inc64 (by omega), ?_⟩, by omega⟩
            rw [foldl_forget hnd hks] at H
            rw [hgt]
            replace H := Holds.sel [0, 1] 1 H; dsimp only [SL.sel, SL.pull, List.drop] at H
            exact H
          · have hk2 : kd ≠ 2 := by simpa using hk
            refine C_skip ?_
            repeat refine C_seq ?_
            refine C_region ?_
            refine Lp_pv rfl rfl ?_
            first | refine Lp_pv rfl rfl ?_ | refine Lp_mv rfl rfl ?_
            refine Lp_nil ?_
            refine ⟨_, ⟨rfl, i + 1, hlt, rfl, rfl, rfl, rfl, inc64 (by omega), ?_⟩, by omega⟩
            rw [hgt]
            replace H := Holds.sel [1, 1] 1 H; dsimp only [SL.sel, SL.pull, List.drop] at H
            unfold act1
            rw [if_neg hk0, if_neg hk1, if_neg hk2]
            exact H
    · have hge : i = l.length := by omega
      subst hge
      repeat refine C_seq ?_
      refine C_region ?_
      first | refine Lp_pv rfl rfl ?_ | refine Lp_mv rfl rfl ?_
      first | refine Lp_pv rfl rfl ?_ | refine Lp_mv rfl rfl ?_
      refine Lp_nil ?_
      rw [List.take_length] at H
      exact C_ret (fn_end0 _ (.inr rfl) H rfl fun w' H' => .inr ⟨h100, p, rfl, H'⟩)
end Go.Proofs.Ytdpephigccnkdaa
