/- slices.SortFunc's contract, by resources. No condition. -/
import Derived.Test.YtdpephigccnkdaaDoorSlH
import Derived.Shelf.SlSortCmp.NoneTotal
set_option linter.unusedVariables false
set_option linter.unusedSimpArgs false
set_option linter.unusedSectionVars false
namespace Go.SL
open Go.Sort Go.Proofs

section
variable {α : Type} [Inhabited α] {enc : α → List Value} {k : Nat}

theorem flatMap_length (hk : ∀ x, (enc x).length = k) : ∀ l : List α, (l.flatMap enc).length = l.length * k
  | [] => by simp
  | x :: l => by simp only [List.flatMap_cons, List.length_append, hk, flatMap_length hk l, List.length_cons, Nat.succ_mul]; omega

theorem flatMap_get (hk : ∀ x, (enc x).length = k) (k0 : 0 < k) : ∀ (l : List α) (t : Nat), (l.flatMap enc)[t]? = (l[t / k]?).bind fun x => (enc x)[t % k]?
  | [], t => by simp
  | x :: l, t => by
    rw [List.flatMap_cons]
    by_cases h : t < k
    · rw [List.getElem?_append_left (by rw [hk]; exact h), Nat.div_eq_of_lt h, Nat.mod_eq_of_lt h]
      simp
    · rw [List.getElem?_append_right (by rw [hk]; omega), hk, flatMap_get hk k0 l (t - k)]
      have e1 : t / k = (t - k) / k + 1 := Nat.div_eq_sub_div k0 (by omega)
      have e2 : t % k = (t - k) % k := Nat.mod_eq_sub_mod (by omega)
      rw [e1, e2]
      simp

theorem flatK_list (hk : ∀ x, (enc x).length = k) (k0 : 0 < k) (d : Array α) : flatK enc k d = (d.toList.flatMap enc).toArray := by
  apply Array.ext'
  apply List.ext_getElem?
  intro t
  show (flatK enc k d).toList[t]? = (d.toList.flatMap enc)[t]?
  rw [flatMap_get hk k0]
  by_cases h : t < d.size * k
  · have hd : t / k < d.size := (Nat.div_lt_iff_lt_mul k0).2 h
    have hm := Nat.mod_lt t k0
    have h2 := get_flatK enc k d t h
    rw [getElem!_pos _ t (by simpa using h)] at h2
    rw [Array.getElem?_toList, Array.getElem?_eq_getElem (by simpa using h), h2, getElem!_pos d _ hd, getElem!_pos _ _ (by rw [hk]; exact hm)]
    simp [hd, hk, hm]
  · have hd : d.size ≤ t / k := (Nat.le_div_iff_mul_le k0).2 (by omega)
    rw [List.getElem?_eq_none (by simp; omega), List.getElem?_eq_none (by simpa using hd)]
    rfl

theorem putCells_list (F cs spare : List Value) (h : F.length = cs.length) : putCells id 0 F.toArray (cs ++ spare).toArray = (F ++ spare).toArray := by
  apply Array.ext'
  apply List.ext_getElem?
  intro t
  simp only [putCells, Array.getElem?_toList, Array.getElem?_mapIdx, List.getElem?_toArray, Nat.zero_le, true_and, Nat.zero_add, Nat.sub_zero, List.size_toArray, id]
  by_cases ht : t < F.length
  · rw [List.getElem?_append_left (by omega), List.getElem?_append_left ht]
    have h2 : t < cs.length := by omega
    simp [h2, ht]
  · rw [List.getElem?_append_right (by omega), List.getElem?_append_right (by omega), h]
    have h2 : ¬ t < cs.length := by omega
    simp [ht, h2]

theorem sort_holds [Extra] (hk : ∀ x, (enc x).length = k) (k0 : 0 < k) {w : World} {b m E : Nat} {d' : Array α} {os : Array Obj} {cs spare : List Value} {l : List HProp} (H : Holds w (pts b (row E (cs ++ spare)) :: l)) (hl : cs.length = d'.size * k) :
    Holds (sortWorldK enc k w b 0 m d' os) (pts b (row E (d'.toList.flatMap enc ++ spare)) :: l) := by
  have hb := H.pts
  have hlt := H.fresh
  have e1 : (putRowK enc k (Sort.ahead w m) b 0 d').heap = w.heap.modify b (onCells (putCells id 0 (flatK enc k d'))) := rfl
  have H1 : Holds (putRowK enc k (Sort.ahead w m) b 0 d') (pts b (row E (d'.toList.flatMap enc ++ spare)) :: l) := by
    refine H.set ?_ ?_
    · rw [e1, Array.getElem?_modify, if_pos rfl, hb]
      simp only [Option.map_some, row, onCells]
      rw [flatK_list hk k0, putCells_list _ _ _ (by rw [flatMap_length hk, hl]; simp)]
    · intro c hc
      rw [e1, Array.getElem?_modify, if_neg (Ne.symm hc)]
  refine H1.up (fun c o hc => ?_) ⟨rfl, rfl⟩
  show ((putRowK enc k (Sort.ahead w m) b 0 d').heap ++ os)[c]? = some o
  have := (Array.getElem?_eq_some_iff.1 hc).1
  rw [Array.getElem?_append_left this]
  exact hc

open Go.Proofs Go.Shelf in
/-- slices.SortFunc of structs of k cells. -/
theorem sortFunc_spec [Extra] {P : Program} {ρ : Ren} (L : SlLaysF0.n6 P ρ) {t : TypeId} (ht : ρ.t 24 = t) (hN : TN P t k) (k0 : 0 < k) (hk : ∀ x, (enc x).length = k) (h1 : ∀ x, ∀ v ∈ enc x, v.oneCell' = true)
    (cf : α → α → Int) (hO : SWO (ltOf cf)) {g : Nat} (hg : TBody P g)
    (hc : ∀ (x y : α) (W : World), Calls P g #[.agg (enc x).toArray, .agg (enc y).toArray] W fun e w' => e = .returned (.int .i64 (cf x y)) ∧ ∃ q os', w' = grow (W.drewN q) os')
    {E : TypeId} {v : Value} {d : List α} {w : World} {l : List HProp} (H : Holds w (sls E k v (d.flatMap enc) :: l)) (hsz : d.length < 4611686018427387904) :
    Calls P (ρ.f 6) #[v, .func (.func g) #[] #[]] w (ret fun _ w' => ∃ d' : List α, d'.Perm d ∧ d'.Pairwise (fun a b => ltOf cf b a = false) ∧ Holds w' (sls E k v (d'.flatMap enc) :: l)) := by
  subst ht
  rcases sls_case H with ⟨rfl, h0, H'⟩ | ⟨b, len, cap, spare, rfl, e3, e4, e5, H'⟩
  · have hd : d = [] := by
      have := flatMap_length hk d
      rw [h0] at this
      have h2 : d.length * k = 0 := this.symm
      rcases Nat.mul_eq_zero.1 h2 with h | h
      · exact List.eq_nil_of_length_eq_zero h
      · omega
    subst hd
    refine (AnyF.slices_SortFunc_none L none 0 _ w).mono ?_
    rintro e w' ⟨rfl, rfl⟩
    exact ⟨[], List.Perm.refl _, List.Pairwise.nil, sls_nil H'⟩
  · have hb := H'.pts
    have hlen : len = d.length := by
      have := flatMap_length hk d
      rw [e3] at this
      exact Nat.eq_of_mul_eq_mul_right k0 this
    subst hlen
    have hH : HoldsK enc k w b 0 d.toArray := by
      intro j hj
      rw [size_flatK] at hj
      rw [flatK_list hk k0, Nat.zero_add]
      have hj' : j < (d.flatMap enc).length := by rw [e3]; simpa using hj
      refine ⟨?_, frozen_row hb⟩
      refine cell_row hb ?_
      rw [List.getElem?_append_left hj', List.getElem?_eq_getElem hj']
      show some _ = some ((d.flatMap enc).toArray[j]!)
      rw [getElem!_pos _ j (by simpa using hj')]
      simp
    have := AnyQ.slices_SortFunc L k (fun w => run_isAggN hN) (fun w => run_sizeOf' hN.size) enc hk h1 cf hO g #[] b 0 cap d.toArray w (fun args w => run_callFunc hg args) (fun m os dk hs x y => by simpa using hc x y _) hH H'.fresh (by simpa using hsz)
    rw [show d.toArray.size = d.length by simp] at this
    refine this.mono ?_
    rintro e w' ⟨rfl, d', n, os, hp, hs, rfl⟩
    have hsize : d'.size = d.length := by rw [hp.1]; simp
    have hx : ∀ a : Array α, a.size = d.length → a.extract 0 d.length = a := fun a ha => by rw [← ha]; simp
    refine ⟨d'.toList, ?_, ?_, ?_⟩
    · have h2 := hp.2.2
      rw [hx d' hsize, hx d.toArray (by simp)] at h2
      simpa using h2
    · rw [List.pairwise_iff_getElem]
      intro i j hi hj hij
      have := hs i j (Nat.zero_le _) hij (by simp at hj ⊢; omega)
      rw [getElem!_pos d' i (by simpa using hi), getElem!_pos d' j (by simpa using hj)] at this
      simpa using this
    · have hl : (d'.toList.flatMap enc).length = d.length * k := by rw [flatMap_length hk]; simp [hsize]
      exact sls_of hl e4 e5 (sort_holds hk k0 H' (by rw [e3, hsize]))
end
theorem Holds.grow [Extra] {w : World} {l : List HProp} {q : Nat} {os' : Array Obj} (H : Holds w l) : Holds (Go.Sort.grow (w.drewN q) os') l := by
  refine H.up (fun c o hc => ?_) ⟨rfl, rfl⟩
  show (w.heap ++ os')[c]? = some o
  have := (Array.getElem?_eq_some_iff.1 hc).1
  rw [Array.getElem?_append_left this]
  exact hc

end Go.SL
