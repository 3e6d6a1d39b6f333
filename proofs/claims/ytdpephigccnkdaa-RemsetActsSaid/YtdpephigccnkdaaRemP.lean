/- RemsetActs: the plain laws: the document's list and the set's map. No condition. -/
import Derived.Test.YtdpephigccnkdaaRemN
import Derived.Test.YtdpephigccnkdaaRemH
set_option linter.unusedVariables false
set_option linter.unusedSimpArgs false
set_option linter.unusedSectionVars false
namespace Go.Proofs.Ytdpephigccnkdaa
open Go.SL

def Lk (m L : List Pr) : Prop := (m.map (·.1)).Nodup ∧ Rising (L.map (·.1)) ∧ ∀ r, fnd L r = fnd m r

theorem Lk.nodup {m L : List Pr} (h : Lk m L) : (L.map (·.1)).Nodup := rising_nodup h.2.1
theorem Lk.mem {m L : List Pr} (h : Lk m L) (p : Pr) : p ∈ L ↔ p ∈ m := by
  obtain ⟨a, b⟩ := p
  rw [← fnd_iff h.nodup, ← fnd_iff h.1, h.2.2]
theorem nodup_of_keys {m : List Pr} (h : (m.map (·.1)).Nodup) : m.Nodup := (List.pairwise_map.1 h).imp fun hne he => hne (by rw [he])
theorem Lk.length {m L : List Pr} (h : Lk m L) : L.length = m.length :=
  ((List.perm_ext_iff_of_nodup (nodup_of_keys h.nodup) (nodup_of_keys h.1)).2 h.mem).length_eq

theorem Lk.nil : Lk [] [] := ⟨List.nodup_nil, List.Pairwise.nil, fun _ => rfl⟩

theorem rising_filter {L : List Pr} (h : Rising (L.map (·.1))) (f : Pr → Bool) : Rising ((L.filter f).map (·.1)) := h.sublist (List.filter_sublist.map _)

theorem Lk.of {m L : List Pr} (h : Lk m L) {ks : List Rf} {t : Int} (hk : ∀ r, r ∈ ks ↔ fnd m r = some t) (hs : Rising ks) : ofL L t = ks := by
  refine rising_unique (rising_filter h.2.1 _) hs fun r => ?_
  rw [hk, ← h.2.2, fnd_iff h.nodup]
  unfold ofL
  rw [List.mem_map]
  constructor
  · rintro ⟨⟨a, b⟩, hp, rfl⟩
    have := List.mem_filter.1 hp
    have h2 : b = t := by simpa using this.2
    rw [← h2]
    exact this.1
  · intro hp
    exact ⟨_, List.mem_filter.2 ⟨hp, by simp⟩, rfl⟩

theorem Lk.from {m L : List Pr} (h : Lk m L) {ks : List Rf} {s : Int} (hk : ∀ r, r ∈ ks ↔ (r.1 = s ∧ (fnd m r).isSome = true)) (hs : Rising ks) : fromL L s = ks := by
  refine rising_unique (rising_filter h.2.1 _) hs fun r => ?_
  rw [hk, ← h.2.2]
  unfold fromL
  rw [List.mem_map]
  constructor
  · rintro ⟨⟨a, b⟩, hp, rfl⟩
    have := List.mem_filter.1 hp
    refine ⟨by simpa using this.2, ?_⟩
    rw [(fnd_iff h.nodup).2 this.1]
    rfl
  · rintro ⟨h1, h2⟩
    obtain ⟨v, hv⟩ := Option.isSome_iff_exists.1 h2
    exact ⟨(r, v), List.mem_filter.2 ⟨fnd_mem hv, by simpa using h1⟩, rfl⟩

theorem Lk.cutL {m L : List Pr} (h : Lk m L) (r : Rf) : cutL L r = era L r := (era_filter h.nodup r).symm
theorem Lk.cut {m L : List Pr} (h : Lk m L) (r : Rf) : Lk (era m r) (Proofs.Ytdpephigccnkdaa.cutL L r) := by
  refine ⟨nodup_era h.1, rising_filter h.2.1 _, fun x => ?_⟩
  rw [h.cutL, fnd_era h.nodup, fnd_era h.1, h.2.2]
theorem Lk.cut_lt {m L : List Pr} (h : Lk m L) (r : Rf) : decide ((Proofs.Ytdpephigccnkdaa.cutL L r).length < L.length) = (fnd m r).isSome := by
  rw [h.cutL, length_era, h.2.2]
  cases hf : fnd m r with
  | none => simp
  | some v =>
    have : L ≠ [] := by
      rintro rfl
      have := h.2.2 r
      rw [hf] at this
      cases this
    have := List.length_pos_iff.2 this
    simp
    omega

def insL (r : Rf) (t : Int) : List Pr → List Pr
  | [] => [(r, t)]
  | p :: M => if aheadB r p.1 then (r, t) :: p :: M else p :: insL r t M

theorem putS_true (r : Rf) (t : Int) : ∀ (M A : List Pr), M.foldl (putStep r t) (A, true) = (A ++ M, true)
  | [], A => by simp
  | p :: M, A => by
    rw [List.foldl_cons]
    have : putStep r t (A, true) p = (A ++ [p], true) := by simp [putStep]
    rw [this, putS_true r t M]
    simp
theorem putS_false (r : Rf) (t : Int) : ∀ (M A : List Pr), (if (M.foldl (putStep r t) (A, false)).2 then (M.foldl (putStep r t) (A, false)).1 else (M.foldl (putStep r t) (A, false)).1 ++ [(r, t)]) = A ++ insL r t M
  | [], A => by simp [insL]
  | p :: M, A => by
    rw [List.foldl_cons]
    cases h : aheadB r p.1 with
    | true =>
      have : putStep r t (A, false) p = (A ++ [(r, t)] ++ [p], true) := by simp [putStep, h]
      rw [this, putS_true]
      simp [insL, h]
    | false =>
      have : putStep r t (A, false) p = (A ++ [p], false) := by simp [putStep, h]
      rw [this, putS_false r t M]
      simp [insL, h]
theorem putL_eq (r : Rf) (t : Int) (M : List Pr) : putL r t M = insL r t M := by
  have := putS_false r t M []
  rw [List.nil_append] at this
  exact this

theorem fnd_insL {r : Rf} {t : Int} (x : Rf) : ∀ {M : List Pr}, fnd M r = none → fnd (insL r t M) x = if r = x then some t else fnd M x
  | [], _ => by simp [insL, fnd]
  | p :: M, h => by
    have hp : p.1 ≠ r ∧ fnd M r = none := by
      simp only [fnd] at h
      split at h
      · cases h
      · exact ⟨by assumption, h⟩
    simp only [insL]
    split
    · simp only [fnd]
    · simp only [fnd]
      rw [fnd_insL x hp.2]
      split
      · rename_i e
        rw [if_neg (by rw [← e]; exact fun e => hp.1 e.symm)]
      · rfl

theorem keys_insL {r : Rf} {t : Int} {x : Rf} : ∀ {M : List Pr}, x ∈ (insL r t M).map (·.1) ↔ x = r ∨ x ∈ M.map (·.1)
  | [] => by simp [insL]
  | p :: M => by
    simp only [insL]
    split
    · simp
    · rw [List.map_cons, List.mem_cons, keys_insL, List.map_cons, List.mem_cons]
      exact or_left_comm

theorem aheadB_iff (a b : Rf) : aheadB a b = true ↔ ltR a b := by
  unfold aheadB ltR
  simp

theorem rising_insL {r : Rf} {t : Int} : ∀ {M : List Pr}, Rising (M.map (·.1)) → fnd M r = none → Rising ((insL r t M).map (·.1))
  | [], _, _ => by simp [insL, Rising]
  | p :: M, h, hf => by
    have hp : p.1 ≠ r ∧ fnd M r = none := by
      simp only [fnd] at hf
      split at hf
      · cases hf
      · exact ⟨by assumption, hf⟩
    have h2 := List.pairwise_cons.1 h
    simp only [insL]
    split
    · rename_i e
      have e := (aheadB_iff _ _).1 e
      refine List.pairwise_cons.2 ⟨fun y hy => ?_, h⟩
      rw [List.map_cons] at hy
      rcases List.mem_cons.1 hy with rfl | hy
      · exact e
      · have := h2.1 y hy
        unfold ltR at this e ⊢
        dsimp only at this e ⊢
        omega
    · rename_i e
      have e : ¬ ltR r p.1 := fun h => e ((aheadB_iff _ _).2 h)
      refine List.pairwise_cons.2 ⟨fun y hy => ?_, rising_insL h2.2 hp.2⟩
      rcases keys_insL.1 hy with rfl | hy
      · have h3 := hp.1
        obtain ⟨⟨p1, p2⟩, pt⟩ := p
        obtain ⟨r1, r2⟩ := y
        unfold ltR at e ⊢
        simp only [ne_eq, Prod.mk.injEq] at h3
        dsimp only at e ⊢
        omega
      · exact h2.1 y hy

theorem Lk.put {m L : List Pr} (h : Lk m L) (r : Rf) (t : Int) : Lk (ins (era m r) r t) (putL r t (Proofs.Ytdpephigccnkdaa.cutL L r)) := by
  have hc := h.cut r
  have hn : fnd (Proofs.Ytdpephigccnkdaa.cutL L r) r = none := by rw [hc.2.2, fnd_era h.1, if_pos rfl]
  rw [putL_eq]
  refine ⟨nodup_ins hc.1, rising_insL hc.2.1 hn, fun x => ?_⟩
  rw [fnd_insL x hn, fnd_ins, hc.2.2]

theorem Lk.cuts : ∀ (ks : List Rf) {m L : List Pr}, Lk m L → Lk (ks.foldl era m) (ks.foldl Proofs.Ytdpephigccnkdaa.cutL L)
  | [], _, _, h => h
  | k :: ks, _, _, h => Lk.cuts ks (h.cut k)

/-! What is asked. -/
def asks (n : Int) (l : List Act) : List Int := n :: l.flatMap fun a => [a.n, a.r.1]
theorem asks_take {n : Int} {l : List Act} {i : Nat} {a : Act} (h : l[i]? = some a) : asks n (l.take (i + 1)) = asks n (l.take i) ++ [a.n, a.r.1] := by
  unfold asks
  rw [List.take_add_one, h, List.flatMap_append]
  rfl
theorem asks_length (n : Int) (l : List Act) : (asks n l).length = 1 + 2 * l.length := by
  unfold asks
  induction l with
  | nil => rfl
  | cons a l ih => simp only [List.flatMap_cons, List.length_cons, List.length_append, List.length_nil] at ih ⊢; omega
end Go.Proofs.Ytdpephigccnkdaa
