/- RemsetOrder: the plain laws on sources. No condition. -/
import Derived.Test.YtdpephigccnkdaaRemJ
import Derived.Test.YtdpephigccnkdaaSlK
set_option linter.unusedVariables false
set_option linter.unusedSimpArgs false
set_option linter.unusedSectionVars false
namespace Go.Proofs.Ytdpephigccnkdaa
open Go.SL

/-- How many references have one of these sources. -/
def ofSrc (m : List (Rf × Int)) (s : List Int) : Nat := (m.filter (fun p => decide (p.1.1 ∈ s))).length

theorem filter_or {α : Type} (p q : α → Bool) (h : ∀ x, p x = true → q x = false) : ∀ l : List α, (l.filter (fun x => p x || q x)).length = (l.filter p).length + (l.filter q).length
  | [] => rfl
  | x :: l => by
    have ih := filter_or p q h l
    simp only [List.filter_cons]
    cases hp : p x with
    | true => simp [h x hp, ih]; omega
    | false => cases hq : q x <;> simp [ih]; omega

theorem ofSrc_old {m : List (Rf × Int)} {s : List Int} {x : Int} (h : x ∈ s) : ofSrc m (s ++ [x]) = ofSrc m s := by
  unfold ofSrc
  congr 1
  refine List.filter_congr fun p _ => ?_
  rw [Bool.eq_iff_iff]
  simp
  rintro rfl
  exact h

theorem ofSrc_new {m : List (Rf × Int)} {s : List Int} {x : Int} (h : x ∉ s) : ofSrc m (s ++ [x]) = ofSrc m s + ofSrc m [x] := by
  unfold ofSrc
  rw [← filter_or]
  · congr 1
    refine List.filter_congr fun p _ => ?_
    rw [Bool.eq_iff_iff]
    simp
  · intro p hp
    have hp : p.1.1 ∈ s := of_decide_eq_true hp
    simp
    rintro rfl
    exact h hp

/-- What is told of a source is as many. -/
theorem from_len {m : List (Rf × Int)} {ks : List Rf} {x : Int} (hn : (m.map (·.1)).Nodup) (hs : Rising ks) (hk : ∀ r, r ∈ ks ↔ (r.1 = x ∧ (fnd m r).isSome = true)) : ks.length = ofSrc m [x] := by
  have h1 : ks.Perm ((m.filter (fun p => decide (p.1.1 ∈ [x]))).map (·.1)) := by
    refine (List.perm_ext_iff_of_nodup (rising_nodup hs) (hn.sublist (List.filter_sublist.map _))).2 fun r => ?_
    rw [hk, List.mem_map]
    constructor
    · rintro ⟨h1, h2⟩
      obtain ⟨q, hq, rfl⟩ := List.mem_map.1 (fnd_isSome_mem h2)
      exact ⟨q, List.mem_filter.2 ⟨hq, by simpa using h1⟩, rfl⟩
    · rintro ⟨q, hq, rfl⟩
      have h2 := List.mem_filter.1 hq
      exact ⟨by simpa using h2.2, by rw [(fnd_iff hn).2 h2.1]; rfl⟩
  have := h1.length_eq
  simpa [ofSrc] using this

theorem srcs_act {l : List Act} {m : List (Rf × Int)} {S : List Int} (a : Act) (hS : ∀ p ∈ m, p.1.1 ∈ S) : ∀ p ∈ act1 m a, p.1.1 ∈ S ++ [a.r.1] := by
  intro p hp
  have ok : ∀ q ∈ m, q.1.1 ∈ S ++ [a.r.1] := fun q hq => List.mem_append_left _ (hS q hq)
  have hkey : p.1 ∈ (act1 m a).map (·.1) := List.mem_map_of_mem hp
  have sub : ∀ (m' : List (Rf × Int)) (r : Rf), r ∈ (era m' r).map (·.1) → True := fun _ _ _ => trivial
  unfold act1 at hp
  have er : ∀ (m : List (Rf × Int)) (x : Rf), ∀ q ∈ era m x, q ∈ m := by
    intro m x
    induction m with
    | nil => intro q hq; exact hq
    | cons y m ih =>
      intro q hq
      simp only [era] at hq
      split at hq
      · exact List.mem_cons_of_mem _ hq
      · rcases List.mem_cons.1 hq with rfl | hq
        · simp
        · exact List.mem_cons_of_mem _ (ih q hq)
  have inr : ∀ (m : List (Rf × Int)) (x : Rf) (v : Int), ∀ q ∈ ins m x v, q.1 = x ∨ q ∈ m := by
    intro m x v
    induction m with
    | nil => intro q hq; simp [ins] at hq; exact .inl (by rw [hq])
    | cons y m ih =>
      intro q hq
      simp only [ins] at hq
      split at hq
      · rcases List.mem_cons.1 hq with rfl | hq
        · exact .inl rfl
        · exact .inr (List.mem_cons_of_mem _ hq)
      · rcases List.mem_cons.1 hq with rfl | hq
        · exact .inr (by simp)
        · rcases ih q hq with h | h
          · exact .inl h
          · exact .inr (List.mem_cons_of_mem _ h)
  split at hp
  · rcases inr _ _ _ p hp with h | h
    · rw [h]; simp
    · exact ok p (er _ _ p h)
  · split at hp
    · exact ok p (er _ _ p hp)
    · split at hp
      · exact ok p (List.mem_filter.1 hp).1
      · exact ok p hp

theorem srcs_foldl : ∀ (l : List Act) (m : List (Rf × Int)) (S : List Int), (∀ p ∈ m, p.1.1 ∈ S) → ∀ p ∈ l.foldl act1 m, p.1.1 ∈ S ++ l.map (fun a => a.r.1)
  | [], m, S, h => by simpa using h
  | a :: l, m, S, h => by
    have := srcs_foldl l (act1 m a) (S ++ [a.r.1]) (srcs_act (l := l) a h)
    simpa [List.append_assoc] using this

theorem ofSrc_all (l : List Act) : ofSrc (grownM l) (l.map (fun a => a.r.1)) = (grownM l).length := by
  unfold ofSrc
  rw [List.filter_eq_self.2]
  intro p hp
  have := srcs_foldl l [] [] (by simp) p hp
  simpa using this
end Go.Proofs.Ytdpephigccnkdaa
