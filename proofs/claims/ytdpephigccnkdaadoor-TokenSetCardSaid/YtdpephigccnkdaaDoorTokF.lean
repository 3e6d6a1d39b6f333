/- Tokens: Clone, Compact. No condition. -/
import Derived.Test.YtdpephigccnkdaaDoorTokE
import Derived.Test.YtdpephigccnkdaaDoorSlM
set_option linter.unusedVariables false
set_option linter.unusedSimpArgs false
set_option linter.unusedSectionVars false
namespace Go.Proofs.YtdpephigccnkdaaDoor
open Go.SL

def encT (t : Tk) : List Value := [.int .i64 t.1, .int .i64 t.2]
def tcells (l : List Tk) : List Value := l.flatMap encT
theorem tcells_length (l : List Tk) : (tcells l).length = l.length * 2 := by
  induction l with
  | nil => rfl
  | cons p L ih => simp only [tcells, encT, List.flatMap_cons, List.length_append, List.length_cons, List.length_nil] at ih ⊢; omega
theorem tcells_append (a b : List Tk) : tcells (a ++ b) = tcells a ++ tcells b := by simp [tcells]
theorem tcells_get {L : List Tk} {i : Nat} {p : Tk} (h : L[i]? = some p) : (tcells L)[i * 2]? = some (.int .i64 p.1) ∧ (tcells L)[i * 2 + 1]? = some (.int .i64 p.2) := by
  induction L generalizing i with
  | nil => simp at h
  | cons x L ih =>
    cases i with
    | zero =>
      simp at h
      subst h
      exact ⟨rfl, rfl⟩
    | succ i =>
      have := ih (i := i) (by simpa using h)
      rw [show (i + 1) * 2 = i * 2 + 2 by omega]
      exact this
theorem tcells_el {c : List Value} {o n : Nat} {L : List Tk} (h : Reads c o n (tcells L)) {i : Nat} {p : Tk} (hp : L[i]? = some p) : Reads c (o + i * 2) 2 [.int .i64 p.1, .int .i64 p.2] := by
  obtain ⟨h1, h2⟩ := tcells_get hp
  refine h.part (es := [.int .i64 p.1, .int .i64 p.2]) fun j v hj => ?_
  match j, hj with
  | 0, hj => rw [← hj]; exact h1
  | 1, hj => rw [← hj]; exact h2
theorem tcells_all (L : List Tk) : (tcells L).all (·.oneCell') = true := by
  induction L with
  | nil => rfl
  | cons p L ih =>
    rw [tcells, List.flatMap_cons, List.all_append]
    have : (encT p).all (·.oneCell') = true := rfl
    rw [this, Bool.true_and]
    exact ih
theorem tcells_reads {L : List Tk} {spare : List Value} {i : Nat} {p : Tk} (h : L[i]? = some p) : Reads (tcells L ++ spare) (0 + i * 2) 2 [.int .i64 p.1, .int .i64 p.2] := by
  refine tcells_el (L := L) (n := (tcells L).length) (Reads.of_get fun j v hj => ?_) h
  rw [Nat.zero_add, List.getElem?_append_left (List.getElem?_eq_some_iff.1 hj).1]
  exact hj
theorem tcells_take (L : List Tk) (i : Nat) : (tcells L).take (i * 2) = tcells (L.take i) := by
  induction L generalizing i with
  | nil => simp [tcells]
  | cons p L ih =>
    cases i with
    | zero => simp [tcells]
    | succ i =>
      rw [List.take_succ_cons]
      show (encT p ++ tcells L).take ((i + 1) * 2) = encT p ++ tcells (L.take i)
      rw [← ih, show (i + 1) * 2 = (encT p).length + i * 2 by simp [encT]; omega, List.take_length_add_append]
theorem tcells_set (L : List Tk) (i : Nat) (p : Tk) (h : i < L.length) : wr (tcells L) (i * 2) [.int .i64 p.1, .int .i64 p.2] = tcells (L.set i p) := by
  induction L generalizing i with
  | nil => simp at h
  | cons x L ih =>
    cases i with
    | zero => rfl
    | succ i =>
      have ih := ih i (by simpa using h)
      rw [List.set_cons_succ]
      show wr (encT x ++ tcells L) ((i + 1) * 2) _ = encT x ++ tcells (L.set i p)
      rw [← ih, show (i + 1) * 2 = i * 2 + 2 by omega]
      rfl

@[reducible] def TL (v : Value) (l : List Tk) : HProp := sls 23 2 v (tcells l)

theorem Clone_spec [Extra] (v : Value) (ts : List Tk) (hl : ts.length ≤ 1000000) {w : World} {fr : List HProp} (hr : RdS fr v ts.length 2 (tcells ts)) (H : Holds w fr) :
    Calls Tryd.prog 25 #[v] w (ret fun v' w' => Holds w' (TL v' ts :: fr)) := by
  obtain ⟨h0, ad, cap, rfl, h⟩ := hr
  refine calls_of Tryd.func25 rfl (by kernel_rfl) ?_
  repeat refine C_seq ?_
  refine C_region ?_
  first | refine Lp_pv rfl rfl ?_ | refine Lp_mv rfl rfl ?_
  refine Lp_nil ?_
  repeat refine C_seq ?_
  refine C_region ?_
  first | refine Lp_pv rfl rfl ?_ | refine Lp_mv rfl rfl ?_
  first | refine Lp_pv rfl rfl ?_ | refine Lp_s rfl (St_eqPtrNil rfl rfl (.inl rfl) rfl ?_) | refine Lp_s rfl (St_eqMapNil rfl rfl (.inl rfl) rfl ?_) | refine Lp_s rfl (St_eqPair rfl rfl (.inl rfl) rfl ?_) | refine Lp_s rfl (St_eqBool rfl rfl (.inl rfl) rfl ?_) | refine Lp_s rfl (St_eqS rfl rfl (.inl rfl) rfl ?_) | refine Lp_s rfl (St_eqSliceNil rfl rfl (.inl rfl) rfl ?_) | refine Lp_s rfl (St_eqStr rfl rfl (.inl rfl) rfl ?_)
  refine Lp_nil ?_
  cases ad with
  | none =>
    repeat refine C_seq ?_
    refine C_true rfl ?_
    repeat refine C_seq ?_
    refine C_region ?_
    first | refine Lp_pv rfl rfl ?_ | refine Lp_mv rfl rfl ?_
    refine Lp_nil ?_
    have hz : ts = [] := by
      rcases h with h | ⟨b, o, E, fz, c, h, _⟩
      · exact List.eq_nil_of_length_eq_zero h
      · cases h
    subst hz
    exact C_ret (fn_end0 _ (.inr rfl) (sls_nil H) rfl fun w' H' => H')
  | some a =>
    repeat refine C_seq ?_
    refine C_false rfl (C_skip ?_)
    repeat refine C_seq ?_
    refine C_region ?_
    refine Lp_s rfl (St_buildSlice0 H rfl ?_); clear H; intro b5 w H
    refine Lp_pv rfl rfl ?_
    refine Lp_s rfl (St_appendS H rfl rfl (m := ts.length) ⟨h0, _, _, rfl, h⟩ (tcells_all ts) (by rw [h0, List.length_nil]; omega) rfl rfl ?_); clear H; intro v7 w H
    first | refine Lp_pv rfl rfl ?_ | refine Lp_mv rfl rfl ?_
    refine Lp_nil ?_
    exact C_ret (fn_end0 _ (.inr rfl) H rfl fun w' H' => H')

/-! ### slices.Compact -/

def compStep (acc : List Tk) (x : Tk) : List Tk := if acc.getLast? = some x then acc else acc ++ [x]
/-- Neighbours that are alike: one of them. -/
def comp (l : List Tk) : List Tk := l.foldl compStep []

theorem comp_snoc (l : List Tk) (x : Tk) : comp (l ++ [x]) = compStep (comp l) x := by simp [comp]
theorem comp_last (l : List Tk) : (comp l).getLast? = l.getLast? := by
  have : ∀ (l : List Tk) (acc : List Tk), (l.foldl compStep acc).getLast? = (l.getLast?).or acc.getLast? := by
    intro l
    induction l with
    | nil => intro acc; simp
    | cons x l ih =>
      intro acc
      rw [List.foldl_cons, ih, List.getLast?_cons]
      unfold compStep
      cases hl : l.getLast? with
      | some y => simp
      | none =>
        split
        · rename_i e; simp [e]
        · simp
  have h := this l []
  unfold comp
  rw [h]
  simp
theorem comp_take {l : List Tk} {i : Nat} {x y : Tk} (h0 : 1 ≤ i) (hx : l[i - 1]? = some x) (hy : l[i]? = some y) : comp (l.take (i + 1)) = if x = y then comp (l.take i) else comp (l.take i) ++ [y] := by
  rw [List.take_add_one, hy]
  show comp (l.take i ++ [y]) = _
  rw [comp_snoc]
  unfold compStep
  rw [comp_last]
  have : (l.take i).getLast? = some x := by
    rw [List.getLast?_eq_getElem?, List.length_take, List.getElem?_take]
    have := (List.getElem?_eq_some_iff.1 hx).1
    have h2 := (List.getElem?_eq_some_iff.1 hy).1
    rw [show min i l.length - 1 = i - 1 by omega, if_pos (by omega), hx]
  rw [this]
  by_cases e : x = y
  · rw [if_pos e, if_pos (by rw [e])]
  · rw [if_neg e, if_neg (by intro h; exact e (Option.some.inj h))]
theorem comp_len (l : List Tk) : (comp l).length ≤ l.length := by
  have : ∀ (l acc : List Tk), (l.foldl compStep acc).length ≤ acc.length + l.length := by
    intro l
    induction l with
    | nil => intro acc; simp
    | cons x l ih =>
      intro acc
      rw [List.foldl_cons]
      have h1 := ih (compStep acc x)
      have h2 : (compStep acc x).length ≤ acc.length + 1 := by
        unfold compStep
        split <;> simp
      rw [List.length_cons]
      omega
  have := this l []
  simpa [comp] using this
theorem comp_mem (l : List Tk) (t : Tk) : t ∈ comp l ↔ t ∈ l := by
  have : ∀ (l acc : List Tk), t ∈ l.foldl compStep acc ↔ t ∈ acc ∨ t ∈ l := by
    intro l
    induction l with
    | nil => intro acc; simp
    | cons x l ih =>
      intro acc
      rw [List.foldl_cons, ih, List.mem_cons]
      unfold compStep
      split
      · rename_i e
        have hx : x ∈ acc := List.mem_of_getLast? e
        constructor
        · rintro (h | h)
          · exact .inl h
          · exact .inr (.inr h)
        · rintro (h | rfl | h)
          · exact .inl h
          · exact .inl hx
          · exact .inr h
      · rw [List.mem_append, List.mem_singleton, or_assoc]
  have := this l []
  simpa [comp] using this
end Go.Proofs.YtdpephigccnkdaaDoor
