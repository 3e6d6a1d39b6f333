/- Tokens: Sort. No condition. -/
import Derived.Test.YtdpephigccnkdaaDoorTokG
set_option linter.unusedVariables false
set_option linter.unusedSimpArgs false
set_option linter.unusedSectionVars false
namespace Go.Proofs.YtdpephigccnkdaaDoor
open Go.SL

theorem cmpT_neg (x y : Tk) : cmpT x y < 0 ↔ ltT x y := by
  unfold cmpT orI cmpI ltT
  constructor
  · intro h
    repeat' split at h
    all_goals omega
  · intro h
    repeat' split
    all_goals omega

open Go.Sort in
theorem ltOf_cmpT (x y : Tk) : ltOf cmpT x y = decide (ltT x y) := by
  unfold ltOf
  rw [Bool.eq_iff_iff]
  simp [cmpT_neg]

open Go.Sort in
theorem swoT : SWO (ltOf cmpT) where
  irrefl x := by rw [ltOf_cmpT]; simp [ltT]
  trans x y z h1 h2 := by
    rw [ltOf_cmpT] at h1 h2 ⊢
    have h1 : ltT x y := of_decide_eq_true h1
    have h2 : ltT y z := of_decide_eq_true h2
    have h3 : ltT x z := by unfold ltT at *; omega
    exact decide_eq_true h3
  ntrans x y z h1 h2 := by
    rw [ltOf_cmpT] at h1 h2 ⊢
    have h1 : ¬ ltT x y := of_decide_eq_false h1
    have h2 : ¬ ltT y z := of_decide_eq_false h2
    have h3 : ¬ ltT x z := by unfold ltT at *; omega
    exact decide_eq_false h3

/-- Tokens in order, each once. -/
def RisT (l : List Tk) : Prop := l.Pairwise ltT

theorem ltT_irrefl (x : Tk) : ¬ ltT x x := by unfold ltT; omega
theorem ltT_tri {x y : Tk} (h : ¬ ltT y x) (hne : x ≠ y) : ltT x y := by
  obtain ⟨a, b⟩ := x
  obtain ⟨c, d⟩ := y
  have : ¬ (a = c ∧ b = d) := fun e => hne (Prod.ext e.1 e.2)
  unfold ltT at *
  dsimp only at *
  omega

theorem risT_unique : ∀ {a b : List Tk}, RisT a → RisT b → (∀ r, r ∈ a ↔ r ∈ b) → a = b
  | [], [], _, _, _ => rfl
  | [], y :: b, _, _, h => absurd ((h y).2 (by simp)) (by simp)
  | x :: a, [], _, _, h => absurd ((h x).1 (by simp)) (by simp)
  | x :: a, y :: b, ha, hb, h => by
    have ha' := List.pairwise_cons.1 ha
    have hb' := List.pairwise_cons.1 hb
    have hxy : x = y := by
      rcases List.mem_cons.1 ((h x).1 (by simp)) with e | h1
      · exact e
      · rcases List.mem_cons.1 ((h y).2 (by simp)) with e | h2
        · exact e.symm
        · have p1 := hb'.1 x h1
          have p2 := ha'.1 y h2
          unfold ltT at p1 p2
          omega
    subst hxy
    rw [risT_unique ha'.2 hb'.2 fun r => ⟨fun hr => ?_, fun hr => ?_⟩]
    · rcases List.mem_cons.1 ((h r).1 (by simp [hr])) with e | h1
      · subst e; exact absurd (ha'.1 r hr) (ltT_irrefl r)
      · exact h1
    · rcases List.mem_cons.1 ((h r).2 (by simp [hr])) with e | h1
      · subst e; exact absurd (hb'.1 r hr) (ltT_irrefl r)
      · exact h1

/-- What is sorted, neighbours that are alike taken once, rises. -/
theorem comp_rises : ∀ (l acc : List Tk), (∀ a ∈ acc, ∀ b ∈ l, ¬ ltT b a) → RisT acc → l.Pairwise (fun a b => ¬ ltT b a) → RisT (l.foldl compStep acc)
  | [], acc, _, h, _ => h
  | x :: l, acc, hax, hr, hp => by
    have hp' := List.pairwise_cons.1 hp
    rw [List.foldl_cons]
    unfold compStep
    split
    · exact comp_rises l acc (fun a ha b hb => hax a ha b (by simp [hb])) hr hp'.2
    · rename_i hlast
      refine comp_rises l _ ?_ ?_ hp'.2
      · intro a ha b hb
        rcases List.mem_append.1 ha with ha | ha
        · exact hax a ha b (by simp [hb])
        · rw [List.mem_singleton.1 ha]
          exact hp'.1 b hb
      · refine List.pairwise_append.2 ⟨hr, List.pairwise_singleton _ _, fun a ha b hb => ?_⟩
        rw [List.mem_singleton.1 hb]
        refine ltT_tri (hax a ha x (by simp)) ?_
        rintro rfl
        -- it would be the last one
        obtain ⟨s, t, rfl⟩ := List.append_of_mem ha
        have hr2 := (List.pairwise_append.1 hr).2.1
        have hr3 := List.pairwise_cons.1 hr2
        cases t with
        | nil => exact hlast (by simp)
        | cons y t =>
          have h1 := hr3.1 y (by simp)
          have h2 := hax y (by simp) a (by simp)
          exact h2 h1

theorem comp_ris {l : List Tk} (h : l.Pairwise (fun a b => ¬ ltT b a)) : RisT (comp l) := comp_rises l [] (by simp) List.Pairwise.nil h

/-- What Sort answers of these. -/
def Sorted (ts us : List Tk) (e : Int) : Prop :=
  (e = 3 ∧ us = [] ∧ ∃ t ∈ ts, rightB t = false) ∨ (e = 18 ∧ us = [] ∧ (∀ t ∈ ts, rightB t = true) ∧ 64 < ts.length) ∨ (e = 0 ∧ (∀ t ∈ ts, rightB t = true) ∧ ts.length ≤ 64 ∧ RisT us ∧ ∀ t, t ∈ us ↔ t ∈ ts)

set_option maxHeartbeats 4000000 in
theorem Sort_spec [Extra] (v : Value) (ts : List Tk) (hl : ts.length < 4611686018427387904) {w : World} {fr : List HProp} (hr : RdS fr v ts.length 2 (tcells ts)) (H : Holds w fr) :
    Calls Tryd.prog 17 #[v] w (ret fun x w' => ∃ v' us e, x = .tuple #[v', .int .i64 e] ∧ Sorted ts us e ∧ Holds w' (TL v' us :: fr)) := by
  have hr0 := hr
  obtain ⟨h0, ad, cap, rfl, hrd⟩ := hr
  refine calls_of Tryd.func17 rfl (by kernel_rfl) ?_
  repeat refine C_seq ?_
  refine C_region ?_
  first | refine Lp_pv rfl rfl ?_ | refine Lp_mv rfl rfl ?_
  first | refine Lp_pv rfl rfl ?_ | refine Lp_mv rfl rfl ?_
  refine Lp_nil ?_
  repeat refine C_seq ?_
  refine C_region ?_
  first | refine Lp_pv rfl rfl ?_ | refine Lp_mv rfl rfl ?_
  refine Lp_s rfl (St_lenSlice rfl rfl ?_)
  first | refine Lp_pv rfl rfl ?_ | refine Lp_mv rfl rfl ?_
  refine Lp_nil ?_
  repeat refine C_seq ?_
  refine C_block ?_
  refine C_loop (fun ms σ w n => ms = [] ∧ ∃ i : Nat, i ≤ ts.length ∧ n = ts.length - i ∧ (∀ t ∈ ts.take i, rightB t = true) ∧ σ 0 = .slice ad ts.length cap ∧ σ 6 = .slice ad ts.length cap ∧ σ 7 = .int .i64 ts.length ∧ σ 8 = .int .i64 i ∧ Holds w fr) (m := ts.length) ⟨rfl, 0, by omega, rfl, by simp, rfl, rfl, rfl, rfl, H⟩ ?_
  clear H
  rintro ms σ w n ⟨rfl, i, hi, rfl, hok, g0, g6, g7, g8, H⟩
  rw [upd_self g0, upd_self g6, upd_self g7, upd_self g8]
  repeat refine C_seq ?_
  refine C_region ?_
  refine Lp_pv rfl rfl ?_
  refine Lp_nil ?_
  repeat refine C_seq ?_
  refine C_dec rfl (fun h => C_skip ?_) (fun h => C_exit ?_)
  · have hlt : i < ts.length := by omega
    have hy := List.getElem?_eq_getElem hlt
    generalize ts[i] = y at hy
    have hym := List.mem_of_getElem? hy
    have htk : ts.take (i + 1) = ts.take i ++ [y] := by rw [List.take_add_one, hy]; rfl
    rcases hrd with hz | ⟨b, o, E, fz, c, rfl, hA, hrd⟩
    · omega
    haveI := hA
    obtain ⟨y1, y2⟩ := y
    repeat refine C_seq ?_
    refine C_block ?_
    repeat refine C_seq ?_
    refine C_region ?_
    refine Lp_s rfl (St_indexAddr rfl rfl (by omega) (by omega) rfl ?_)
    refine Lp_s rfl (St_loadN H rfl (tcells_el hrd hy) rfl ?_)
    (refine Lp_s rfl (St_alloc H rfl ?_); clear H; intro b5 w H)
    first | (refine Lp_s rfl (St_store1 H rfl rfl inferInstance rfl (Nat.le_of_ble_eq_true rfl) rfl ?_); clear H; intro w H) | (refine Lp_s rfl (St_storeN H rfl rfl inferInstance rfl rfl (Nat.le_of_ble_eq_true rfl) rfl ?_); clear H; intro w H)
    refine Lp_nil ?_
    repeat refine C_seq ?_
    refine C_region ?_
    first | refine Lp_s rfl (St_load1 H rfl rfl rfl ?_) | refine Lp_s rfl (St_loadN H rfl (by repeat (first | exact Reads.nil _ | apply Reads.cons rfl)) rfl ?_)
    refine Lp_s rfl (St_call (a := []) (b := []) rfl rfl (call (Right_spec (y1, y2) H) ?_))
    clear H; rintro v w ⟨rfl, H⟩
    refine Lp_pv rfl rfl ?_
    refine Lp_nil ?_
    cases hyr : rightB (y1, y2) with
    | false =>
      repeat refine C_seq ?_
      refine C_true rfl ?_
      repeat refine C_seq ?_
      refine C_region ?_
      first | refine Lp_pv rfl rfl ?_ | refine Lp_mv rfl rfl ?_
      first | refine Lp_pv rfl rfl ?_ | refine Lp_mv rfl rfl ?_
      refine Lp_nil ?_
      exact C_ret (fn_end0 _ (.inr rfl) (sls_nil H.drop) rfl fun w' H' => ⟨_, [], 3, rfl, .inl ⟨rfl, rfl, _, hym, hyr⟩, H'⟩)
    | true =>
      repeat refine C_seq ?_
      refine C_false rfl (C_skip ?_)
      repeat refine C_seq ?_
      refine C_region ?_
      refine Lp_pv rfl rfl ?_
      first | refine Lp_pv rfl rfl ?_ | refine Lp_mv rfl rfl ?_
      refine Lp_nil ?_
      have ei : IntKind.i64.wrap ((i : Int) + 1) = ((i + 1 : Nat) : Int) := by rw [wrap64 (by omega) (by omega)]; omega
      rw [ei]
      refine ⟨_, ⟨rfl, i + 1, hlt, rfl, ?_, rfl, rfl, rfl, rfl, H.drop⟩, by omega⟩
      rw [htk]
      intro t ht
      rcases List.mem_append.1 ht with ht | ht
      · exact hok t ht
      · rw [List.mem_singleton.1 ht]; exact hyr
  · have hge : i = ts.length := by omega
    subst hge
    rw [List.take_length] at hok
    repeat refine C_seq ?_
    refine C_region ?_
    first | refine Lp_pv rfl rfl ?_ | refine Lp_mv rfl rfl ?_
    refine Lp_s rfl (St_lenSlice rfl rfl ?_)
    refine Lp_pv rfl rfl ?_
    refine Lp_nil ?_
    repeat refine C_seq ?_
    refine C_dec rfl (fun h => ?_) (fun h => C_skip ?_)
    · repeat refine C_seq ?_
      refine C_region ?_
      first | refine Lp_pv rfl rfl ?_ | refine Lp_mv rfl rfl ?_
      first | refine Lp_pv rfl rfl ?_ | refine Lp_mv rfl rfl ?_
      refine Lp_nil ?_
      exact C_ret (fn_end0 _ (.inr rfl) (sls_nil H) rfl fun w' H' => ⟨_, [], 18, rfl, .inr (.inl ⟨rfl, rfl, hok, by omega⟩), H'⟩)
    · have h64 : ts.length ≤ 64 := by omega
      repeat refine C_seq ?_
      refine C_region ?_
      first | refine Lp_pv rfl rfl ?_ | refine Lp_mv rfl rfl ?_
      refine Lp_s rfl (St_call (a := []) (b := []) rfl rfl (call (Clone_spec _ ts (by omega) hr0 H) ?_))
      clear H
      intro v2 w H
      obtain ⟨a2, c2, rfl⟩ := sls_slice H (tcells_length ts) (by decide)
      first | refine Lp_pv rfl rfl ?_ | refine Lp_mv rfl rfl ?_
      refine Lp_nil ?_
      repeat refine C_seq ?_
      refine C_region ?_
      first | refine Lp_pv rfl rfl ?_ | refine Lp_mv rfl rfl ?_
      have hs := sortFunc_spec (k := 2) (enc := encT) Tryd.sortTok (t := 23) rfl inferInstance (by decide) (fun _ => rfl) (fun x v hv => by simp [encT] at hv; rcases hv with rfl | rfl <;> rfl) cmpT swoT (g := 15) inferInstance (fun x y W => (tcmp_spec x y W).mono fun e w' h => by
        cases e with
        | returned v => exact ⟨by rw [h.1], h.2⟩
        | panicked c => exact h.elim
        | outgrown => exact h.elim) H (by omega)
      refine Lp_s rfl (St_call (a := []) (b := []) rfl rfl (call (hs) ?_))
      clear H hs
      rintro v3 w ⟨us, hp, hsd, H⟩
      have hul : us.length = ts.length := hp.length_eq
      refine Lp_nil ?_
      repeat refine C_seq ?_
      refine C_region ?_
      first | refine Lp_pv rfl rfl ?_ | refine Lp_mv rfl rfl ?_
      refine Lp_s rfl (St_call (a := []) (b := []) rfl rfl (call (Compact_spec _ us (by omega) H) ?_))
      clear H
      intro v4 w H
      obtain ⟨a4, c4, rfl⟩ := sls_slice H (tcells_length (comp us)) (by decide)
      first | refine Lp_pv rfl rfl ?_ | refine Lp_mv rfl rfl ?_
      first | refine Lp_pv rfl rfl ?_ | refine Lp_mv rfl rfl ?_
      refine Lp_nil ?_
      refine C_ret (fn_end0 _ (.inr rfl) H rfl fun w' H' => ⟨_, comp us, 0, rfl, .inr (.inr ⟨rfl, hok, h64, comp_ris (hsd.imp fun h => ?_), fun t => ?_⟩), H'⟩)
      · rw [ltOf_cmpT] at h
        exact of_decide_eq_false h
      · rw [comp_mem, hp.mem_iff]
end Go.Proofs.YtdpephigccnkdaaDoor
