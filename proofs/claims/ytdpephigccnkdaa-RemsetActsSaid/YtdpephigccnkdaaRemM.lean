/- The document's set of pairs: what its functions do. No condition. -/
import Derived.Test.YtdpephigccnkdaaRemG
set_option linter.unusedVariables false
set_option linter.unusedSimpArgs false
set_option linter.unusedSectionVars false
namespace Go.Proofs.Ytdpephigccnkdaa
open Go.SL

abbrev Pr := Rf × Int
def pcells (L : List Pr) : List Value := L.flatMap fun p => [.int .i64 p.1.1, .int .i64 p.1.2, .int .i64 p.2]
theorem pcells_length (L : List Pr) : (pcells L).length = L.length * 3 := by
  induction L with
  | nil => rfl
  | cons p L ih => simp only [pcells, List.flatMap_cons, List.length_append, List.length_cons, List.length_nil] at ih ⊢; omega
theorem pcells_append (a b : List Pr) : pcells (a ++ b) = pcells a ++ pcells b := by simp [pcells]
theorem pcells_get {L : List Pr} {spare : List Value} {i : Nat} {p : Pr} (h : L[i]? = some p) :
    (pcells L ++ spare)[i * 3]? = some (.int .i64 p.1.1) ∧ (pcells L ++ spare)[i * 3 + 1]? = some (.int .i64 p.1.2) ∧ (pcells L ++ spare)[i * 3 + 2]? = some (.int .i64 p.2) := by
  induction L generalizing i with
  | nil => simp at h
  | cons x L ih =>
    cases i with
    | zero =>
      simp at h
      subst h
      exact ⟨rfl, rfl, rfl⟩
    | succ i =>
      have := ih (i := i) (by simpa using h)
      have e : (i + 1) * 3 = i * 3 + 3 := by omega
      rw [e]
      exact this
theorem pcells_reads {L : List Pr} {spare : List Value} {i : Nat} {p : Pr} (h : L[i]? = some p) : Reads (pcells L ++ spare) (0 + i * 3) 3 [.int .i64 p.1.1, .int .i64 p.1.2, .int .i64 p.2] := by
  obtain ⟨h1, h2, h3⟩ := pcells_get (spare := spare) h
  rw [Nat.zero_add]
  exact .cons h1 (.cons h2 (.cons h3 (.nil _)))
theorem pcells_key {L : List Pr} {spare : List Value} {i : Nat} {p : Pr} (h : L[i]? = some p) : Reads (pcells L ++ spare) (0 + i * 3 + 0) 2 [.int .i64 p.1.1, .int .i64 p.1.2] := by
  obtain ⟨h1, h2, h3⟩ := pcells_get (spare := spare) h
  rw [Nat.zero_add]
  exact .cons h1 (.cons h2 (.nil _))
theorem pcells_src {L : List Pr} {spare : List Value} {i : Nat} {p : Pr} (h : L[i]? = some p) : (pcells L ++ spare)[0 + i * 3 + 0 + 0]? = some (.int .i64 p.1.1) := by
  rw [Nat.zero_add]; exact (pcells_get h).1
theorem pcells_to {L : List Pr} {spare : List Value} {i : Nat} {p : Pr} (h : L[i]? = some p) : (pcells L ++ spare)[0 + i * 3 + 2]? = some (.int .i64 p.2) := by
  rw [Nat.zero_add]; exact (pcells_get h).2.2
theorem pcells_one (x1 x2 t : Int) : [Value.int .i64 x1, .int .i64 x2, .int .i64 t] = pcells [((x1, x2), t)] := rfl
theorem rcells_one (x1 x2 : Int) : [Value.int .i64 x1, .int .i64 x2] = rcells [(x1, x2)] := rfl

@[reducible] def PL (v : Value) (L : List Pr) : HProp := sls 57 3 v (pcells L)
def PS (q : Nat) (L : List Pr) : HProp := ex fun v : Value => star [pts q (row 39 [v]), PL v L]
theorem PS_out [Extra] {w : World} {q : Nat} {L : List Pr} {l : List HProp} (H : Holds w (PS q L :: l)) :
    ∃ a c, Holds w (pts q (row 39 [.slice a L.length c]) :: PL (.slice a L.length c) L :: l) := by
  obtain ⟨v, H⟩ := Holds.ex.1 H
  have H : Holds w (pts q (row 39 [v]) :: PL v L :: l) := Holds.star.1 H
  obtain ⟨a, c, rfl⟩ := sls_slice H.drop (pcells_length L) (by decide)
  exact ⟨a, c, H⟩
theorem PS_in [Extra] {w : World} {q : Nat} {L : List Pr} {v : Value} {l : List HProp} (H : Holds w (pts q (row 39 [v]) :: PL v L :: l)) : Holds w (PS q L :: l) :=
  Holds.ex.2 ⟨v, Holds.star.2 H⟩

/-! ### Plain -/

def cutL (L : List Pr) (r : Rf) : List Pr := L.filter fun p => decide (p.1 ≠ r)
def ofL (L : List Pr) (t : Int) : List Rf := (L.filter fun p => decide (p.2 = t)).map (·.1)
def fromL (L : List Pr) (s : Int) : List Rf := (L.filter fun p => decide (p.1.1 = s)).map (·.1)
def aheadB (a b : Rf) : Bool := decide (a.1 < b.1) || (a.1 == b.1 && decide (a.2 < b.2))
def putStep (r : Rf) (t : Int) (s : List Pr × Bool) (p : Pr) : List Pr × Bool := if aheadB r p.1 && !s.2 then (s.1 ++ [(r, t)] ++ [p], true) else (s.1 ++ [p], s.2)
def putS (r : Rf) (t : Int) (L : List Pr) : List Pr × Bool := L.foldl (putStep r t) ([], false)
def putL (r : Rf) (t : Int) (L : List Pr) : List Pr := if (putS r t L).2 then (putS r t L).1 else (putS r t L).1 ++ [(r, t)]

theorem filter_take {α : Type} {L : List α} {i : Nat} {x : α} (f : α → Bool) (h : L[i]? = some x) : (L.take (i + 1)).filter f = (L.take i).filter f ++ (if f x then [x] else []) := by
  rw [List.take_add_one, h, List.filter_append]
  simp only [Option.toList_some, List.filter_cons, List.filter_nil]
theorem putS_take {r : Rf} {t : Int} {L : List Pr} {i : Nat} {x : Pr} (h : L[i]? = some x) : putS r t (L.take (i + 1)) = putStep r t (putS r t (L.take i)) x := by
  unfold putS
  rw [List.take_add_one, h, List.foldl_append]
  rfl
theorem putStep_length {r : Rf} {t : Int} {s : List Pr × Bool} {p : Pr} : (putStep r t s p).1.length + (if (putStep r t s p).2 then 0 else 1) = s.1.length + (if s.2 then 0 else 1) + 1 := by
  unfold putStep
  obtain ⟨a, b⟩ := s
  cases b <;> cases aheadB r p.1 <;> simp
theorem putS_length (r : Rf) (t : Int) (L : List Pr) : (putS r t L).1.length ≤ L.length + 1 := by
  have : ∀ (L : List Pr) (s : List Pr × Bool), (L.foldl (putStep r t) s).1.length + (if (L.foldl (putStep r t) s).2 then 0 else 1) = s.1.length + (if s.2 then 0 else 1) + L.length := by
    intro L
    induction L with
    | nil => intro s; rfl
    | cons p L ih =>
      intro s
      rw [List.foldl_cons, ih, putStep_length, List.length_cons]
      omega
  have := this L ([], false)
  unfold putS
  simp at this ⊢
  omega
theorem cutL_length (L : List Pr) (r : Rf) : (cutL L r).length ≤ L.length := List.length_filter_le _ _

/-! ### The walks -/

theorem ahead_spec [Extra] (a b : Rf) {w : World} {fr : List HProp} (H : Holds w fr) : Calls Try.prog 28 #[rf a, rf b] w (ret fun v w' => v = .bool (aheadB a b) ∧ Holds w' fr) := by
  obtain ⟨a1, a2⟩ := a
  obtain ⟨x1, x2⟩ := b
  refine calls_of Try.func28 rfl (by kernel_rfl) ?_
  repeat refine C_seq ?_
  refine C_region ?_
  first | (refine Lp_s rfl (St_boxN H rfl rfl ?_); clear H; intro b2 w H) | (refine Lp_s rfl (St_box1 H rfl rfl rfl ?_); clear H; intro b2 w H)
  first | (refine Lp_s rfl (St_boxN H rfl rfl ?_); clear H; intro b3 w H) | (refine Lp_s rfl (St_box1 H rfl rfl rfl ?_); clear H; intro b3 w H)
  first | refine Lp_pv rfl rfl ?_ | refine Lp_mv rfl rfl ?_
  refine Lp_nil ?_
  repeat refine C_seq ?_
  refine C_region ?_
  refine Lp_s rfl (St_fieldAddr rfl rfl ?_)
  first | refine Lp_s rfl (St_load1 H rfl rfl rfl ?_) | refine Lp_s rfl (St_loadN H rfl (by repeat (first | exact Reads.nil _ | apply Reads.cons rfl)) rfl ?_)
  refine Lp_s rfl (St_fieldAddr rfl rfl ?_)
  first | refine Lp_s rfl (St_load1 H rfl rfl rfl ?_) | refine Lp_s rfl (St_loadN H rfl (by repeat (first | exact Reads.nil _ | apply Reads.cons rfl)) rfl ?_)
  refine Lp_pv rfl rfl ?_
  by_cases h1 : a1 < x1
  · rw [show decide (a1 < x1) = true from decide_eq_true h1]
    first | refine Lp_pv rfl rfl ?_ | refine Lp_mv rfl rfl ?_
    first | refine Lp_g rfl rfl rfl (St_fieldAddr rfl rfl ?_) | refine Lp_no rfl rfl rfl ?_ | refine Lp_nn rfl rfl ?_
    first | refine Lp_g rfl rfl rfl (St_load1 H rfl rfl rfl ?_) | refine Lp_g rfl rfl rfl (St_loadN H rfl (by repeat (first | exact Reads.nil _ | apply Reads.cons rfl)) rfl ?_) | refine Lp_no rfl rfl rfl ?_ | refine Lp_nn rfl rfl ?_
    first | refine Lp_g rfl rfl rfl (St_fieldAddr rfl rfl ?_) | refine Lp_no rfl rfl rfl ?_ | refine Lp_nn rfl rfl ?_
    first | refine Lp_g rfl rfl rfl (St_load1 H rfl rfl rfl ?_) | refine Lp_g rfl rfl rfl (St_loadN H rfl (by repeat (first | exact Reads.nil _ | apply Reads.cons rfl)) rfl ?_) | refine Lp_no rfl rfl rfl ?_ | refine Lp_nn rfl rfl ?_
    first | refine Lp_gpv rfl rfl rfl rfl ?_ | refine Lp_g rfl rfl rfl (St_eqPtrNil rfl rfl (.inl rfl) rfl ?_) | refine Lp_g rfl rfl rfl (St_eqMapNil rfl rfl (.inl rfl) rfl ?_) | refine Lp_g rfl rfl rfl (St_eqPair rfl rfl (.inl rfl) rfl ?_) | refine Lp_g rfl rfl rfl (St_eqBool rfl rfl (.inl rfl) rfl ?_) | refine Lp_g rfl rfl rfl (St_eqStr rfl rfl (.inl rfl) rfl ?_) | refine Lp_no rfl rfl rfl ?_ | refine Lp_nn rfl rfl ?_
    first | refine Lp_gpv rfl rfl rfl rfl ?_ | refine Lp_no rfl rfl rfl ?_ | refine Lp_nn rfl rfl ?_
    first | refine Lp_g rfl rfl rfl (St_fieldAddr rfl rfl ?_) | refine Lp_no rfl rfl rfl ?_ | refine Lp_nn rfl rfl ?_
    first | refine Lp_g rfl rfl rfl (St_load1 H rfl rfl rfl ?_) | refine Lp_g rfl rfl rfl (St_loadN H rfl (by repeat (first | exact Reads.nil _ | apply Reads.cons rfl)) rfl ?_) | refine Lp_no rfl rfl rfl ?_ | refine Lp_nn rfl rfl ?_
    first | refine Lp_g rfl rfl rfl (St_fieldAddr rfl rfl ?_) | refine Lp_no rfl rfl rfl ?_ | refine Lp_nn rfl rfl ?_
    first | refine Lp_g rfl rfl rfl (St_load1 H rfl rfl rfl ?_) | refine Lp_g rfl rfl rfl (St_loadN H rfl (by repeat (first | exact Reads.nil _ | apply Reads.cons rfl)) rfl ?_) | refine Lp_no rfl rfl rfl ?_ | refine Lp_nn rfl rfl ?_
    first | refine Lp_gpv rfl rfl rfl rfl ?_ | refine Lp_no rfl rfl rfl ?_ | refine Lp_nn rfl rfl ?_
    first | refine Lp_gpv rfl rfl rfl rfl ?_ | refine Lp_no rfl rfl rfl ?_ | refine Lp_nn rfl rfl ?_
    refine Lp_pv rfl rfl ?_
    first | refine Lp_pv rfl rfl ?_ | refine Lp_mv rfl rfl ?_
    refine Lp_nil ?_
    refine C_ret (fn_end0 _ (.inr rfl) H.drop.drop rfl fun w' H' => ⟨?_, H'⟩)
    show Value.bool true = _
    simp [aheadB, h1]
  · rw [show decide (a1 < x1) = false from decide_eq_false h1]
    first | refine Lp_pv rfl rfl ?_ | refine Lp_mv rfl rfl ?_
    first | refine Lp_g rfl rfl rfl (St_fieldAddr rfl rfl ?_) | refine Lp_no rfl rfl rfl ?_ | refine Lp_nn rfl rfl ?_
    first | refine Lp_g rfl rfl rfl (St_load1 H rfl rfl rfl ?_) | refine Lp_g rfl rfl rfl (St_loadN H rfl (by repeat (first | exact Reads.nil _ | apply Reads.cons rfl)) rfl ?_) | refine Lp_no rfl rfl rfl ?_ | refine Lp_nn rfl rfl ?_
    first | refine Lp_g rfl rfl rfl (St_fieldAddr rfl rfl ?_) | refine Lp_no rfl rfl rfl ?_ | refine Lp_nn rfl rfl ?_
    first | refine Lp_g rfl rfl rfl (St_load1 H rfl rfl rfl ?_) | refine Lp_g rfl rfl rfl (St_loadN H rfl (by repeat (first | exact Reads.nil _ | apply Reads.cons rfl)) rfl ?_) | refine Lp_no rfl rfl rfl ?_ | refine Lp_nn rfl rfl ?_
    first | refine Lp_gpv rfl rfl rfl rfl ?_ | refine Lp_g rfl rfl rfl (St_eqPtrNil rfl rfl (.inl rfl) rfl ?_) | refine Lp_g rfl rfl rfl (St_eqMapNil rfl rfl (.inl rfl) rfl ?_) | refine Lp_g rfl rfl rfl (St_eqPair rfl rfl (.inl rfl) rfl ?_) | refine Lp_g rfl rfl rfl (St_eqBool rfl rfl (.inl rfl) rfl ?_) | refine Lp_g rfl rfl rfl (St_eqStr rfl rfl (.inl rfl) rfl ?_) | refine Lp_no rfl rfl rfl ?_ | refine Lp_nn rfl rfl ?_
    by_cases h2 : a1 = x1
    · rw [show (a1 == x1) = true by simpa using h2]
      first | refine Lp_gpv rfl rfl rfl rfl ?_ | refine Lp_no rfl rfl rfl ?_ | refine Lp_nn rfl rfl ?_
      first | refine Lp_g rfl rfl rfl (St_fieldAddr rfl rfl ?_) | refine Lp_no rfl rfl rfl ?_ | refine Lp_nn rfl rfl ?_
      first | refine Lp_g rfl rfl rfl (St_load1 H rfl rfl rfl ?_) | refine Lp_g rfl rfl rfl (St_loadN H rfl (by repeat (first | exact Reads.nil _ | apply Reads.cons rfl)) rfl ?_) | refine Lp_no rfl rfl rfl ?_ | refine Lp_nn rfl rfl ?_
      first | refine Lp_g rfl rfl rfl (St_fieldAddr rfl rfl ?_) | refine Lp_no rfl rfl rfl ?_ | refine Lp_nn rfl rfl ?_
      first | refine Lp_g rfl rfl rfl (St_load1 H rfl rfl rfl ?_) | refine Lp_g rfl rfl rfl (St_loadN H rfl (by repeat (first | exact Reads.nil _ | apply Reads.cons rfl)) rfl ?_) | refine Lp_no rfl rfl rfl ?_ | refine Lp_nn rfl rfl ?_
      first | refine Lp_gpv rfl rfl rfl rfl ?_ | refine Lp_no rfl rfl rfl ?_ | refine Lp_nn rfl rfl ?_
      first | refine Lp_gpv rfl rfl rfl rfl ?_ | refine Lp_no rfl rfl rfl ?_ | refine Lp_nn rfl rfl ?_
      refine Lp_pv rfl rfl ?_
      first | refine Lp_pv rfl rfl ?_ | refine Lp_mv rfl rfl ?_
      refine Lp_nil ?_
      refine C_ret (fn_end0 _ (.inr rfl) H.drop.drop rfl fun w' H' => ⟨?_, H'⟩)
      show Value.bool (decide (a2 < x2)) = _
      simp [aheadB, h2]
    · rw [show (a1 == x1) = false by simpa using h2]
      first | refine Lp_gpv rfl rfl rfl rfl ?_ | refine Lp_no rfl rfl rfl ?_ | refine Lp_nn rfl rfl ?_
      first | refine Lp_g rfl rfl rfl (St_fieldAddr rfl rfl ?_) | refine Lp_no rfl rfl rfl ?_ | refine Lp_nn rfl rfl ?_
      first | refine Lp_g rfl rfl rfl (St_load1 H rfl rfl rfl ?_) | refine Lp_g rfl rfl rfl (St_loadN H rfl (by repeat (first | exact Reads.nil _ | apply Reads.cons rfl)) rfl ?_) | refine Lp_no rfl rfl rfl ?_ | refine Lp_nn rfl rfl ?_
      first | refine Lp_g rfl rfl rfl (St_fieldAddr rfl rfl ?_) | refine Lp_no rfl rfl rfl ?_ | refine Lp_nn rfl rfl ?_
      first | refine Lp_g rfl rfl rfl (St_load1 H rfl rfl rfl ?_) | refine Lp_g rfl rfl rfl (St_loadN H rfl (by repeat (first | exact Reads.nil _ | apply Reads.cons rfl)) rfl ?_) | refine Lp_no rfl rfl rfl ?_ | refine Lp_nn rfl rfl ?_
      first | refine Lp_gpv rfl rfl rfl rfl ?_ | refine Lp_no rfl rfl rfl ?_ | refine Lp_nn rfl rfl ?_
      first | refine Lp_gpv rfl rfl rfl rfl ?_ | refine Lp_no rfl rfl rfl ?_ | refine Lp_nn rfl rfl ?_
      refine Lp_pv rfl rfl ?_
      first | refine Lp_pv rfl rfl ?_ | refine Lp_mv rfl rfl ?_
      refine Lp_nil ?_
      refine C_ret (fn_end0 _ (.inr rfl) H.drop.drop rfl fun w' H' => ⟨?_, H'⟩)
      show Value.bool false = _
      simp [aheadB, h1, h2]

theorem rTo_spec [Extra] (q : Nat) (L : List Pr) (hL : L.length ≤ 1000000) (r : Rf) {w : World} {fr : List HProp} (H : Holds w (PS q L :: fr)) :
    Calls Try.prog 23 #[pp q, rf r] w (ret fun v w' => v = .tuple #[.int .i64 ((fnd L r).getD 0), .bool (fnd L r).isSome] ∧ Holds w' (PS q L :: fr)) := by
  obtain ⟨r1, r2⟩ := r
  obtain ⟨a, c, H⟩ := PS_out H
  refine calls_of Try.func23 rfl (by kernel_rfl) ?_
  repeat refine C_seq ?_
  refine C_region ?_
  first | (refine Lp_s rfl (St_boxN H rfl rfl ?_); clear H; intro b3 w H) | (refine Lp_s rfl (St_box1 H rfl rfl rfl ?_); clear H; intro b3 w H)
  first | refine Lp_pv rfl rfl ?_ | refine Lp_mv rfl rfl ?_
  first | refine Lp_pv rfl rfl ?_ | refine Lp_mv rfl rfl ?_
  refine Lp_nil ?_
  repeat refine C_seq ?_
  refine C_region ?_
  first | refine Lp_pv rfl rfl ?_ | refine Lp_mv rfl rfl ?_
  refine Lp_nil ?_
  repeat refine C_seq ?_
  refine C_block ?_
  refine C_loop (fun ms σ w n => ms = [] ∧ ∃ i : Nat, i ≤ L.length ∧ n = L.length - i ∧ σ 0 = pp q ∧ σ 3 = pp b3 ∧ σ 6 = .int .i64 i ∧ fnd L (r1, r2) = fnd (L.drop i) (r1, r2) ∧
    Holds w (pts b3 (row 24 [.int .i64 r1, .int .i64 r2]) :: pts q (row 39 [.slice a L.length c]) :: PL (.slice a L.length c) L :: fr)) (m := L.length) ⟨rfl, 0, by omega, rfl, rfl, rfl, rfl, rfl, H⟩ ?_
  clear H
  rintro ms σ w n ⟨rfl, i, hi, rfl, h0, h3, h6, hf, H⟩
  rw [upd_self h0, upd_self h3, upd_self h6]
  repeat refine C_seq ?_
  refine C_region ?_
  first | refine Lp_pv rfl rfl ?_ | refine Lp_mv rfl rfl ?_
  first | refine Lp_pv rfl rfl ?_ | refine Lp_mv rfl rfl ?_
  refine Lp_pv rfl rfl ?_
  refine Lp_s rfl (St_fieldAddr rfl rfl ?_)
  first | refine Lp_s rfl (St_load1 H rfl rfl rfl ?_) | refine Lp_s rfl (St_loadN H rfl (by repeat (first | exact Reads.nil _ | apply Reads.cons rfl)) rfl ?_)
  refine Lp_s rfl (St_lenSlice rfl rfl ?_)
  refine Lp_pv rfl rfl ?_
  refine Lp_nil ?_
  repeat refine C_seq ?_
  refine C_dec rfl (fun h => C_skip ?_) (fun h => C_exit ?_)
  · have hlt : i < L.length := by omega
    have ha := List.getElem?_eq_getElem hlt
    have hd : L.drop i = L[i] :: L.drop (i + 1) := List.drop_eq_getElem_cons hlt
    generalize L[i] = x at ha hd
    obtain ⟨⟨x1, x2⟩, xt⟩ := x
    rw [hd] at hf
    replace H := Holds.sel [2, 0, 0] 0 H; dsimp only [SL.sel, SL.pull, List.drop] at H
    obtain ⟨bo, so, rfl, H, hclose⟩ := sls_open H (by omega)
    repeat refine C_seq ?_
    refine C_block ?_
    repeat refine C_seq ?_
    refine C_drawH H mixed ?_
    clear H; intro w H
    refine A_pv 0 rfl (Wants.none rfl) rfl (by kernel_rfl) ?_
    refine A_pv 1 rfl (Wants.none rfl) rfl (by kernel_rfl) ?_
    refine A_fieldAddr 2 rfl (Wants.none rfl) rfl (by kernel_rfl) ?_
    first | refine A_load1 3 [] H rfl (Wants.none rfl) rfl rfl (by kernel_rfl) ?_ | refine A_loadN 3 [] H rfl (Wants.none rfl) rfl (by repeat (first | exact Reads.nil _ | apply Reads.cons rfl)) (by kernel_rfl) ?_
    refine A_pv 4 rfl (Wants.none rfl) rfl (by kernel_rfl) ?_
    refine A_indexAddr 5 rfl (Wants.none rfl) rfl rfl (by omega) (by omega) (by kernel_rfl) ?_
    refine A_fieldAddr 6 rfl (Wants.none rfl) rfl (by kernel_rfl) ?_
    refine A_loadN 7 [] H rfl (Wants.none rfl) rfl (pcells_key ha) (by kernel_rfl) ?_
    first | refine A_load1 8 [] H rfl (Wants.none rfl) rfl rfl (by kernel_rfl) ?_ | refine A_loadN 8 [] H rfl (Wants.none rfl) rfl (by repeat (first | exact Reads.nil _ | apply Reads.cons rfl)) (by kernel_rfl) ?_
    first | refine A_pv 9 rfl (Wants.none rfl) rfl (by kernel_rfl) ?_ | refine A_eqPair 9 rfl (Wants.none rfl) rfl rfl (.inl rfl) (by kernel_rfl) ?_ | refine A_eqPtrNil 9 rfl (Wants.none rfl) rfl rfl (.inl rfl) (by kernel_rfl) ?_ | refine A_eqBool 9 rfl (Wants.none rfl) rfl rfl (.inl rfl) (by kernel_rfl) ?_ | refine A_eqStr 9 rfl (Wants.none rfl) rfl rfl (.inl rfl) (by kernel_rfl) ?_
    refine A_end (by kernel_rfl) (by repeat (first | exact InvL.nil | refine InvL.cons (.inr (Holds.at H)) ?_ | refine InvL.cons (.inr (Holds.mp H)) ?_ | refine InvL.cons (.inl (by kernel_rfl)) ?_)) ?_
    repeat refine C_seq ?_
    refine C_cond rfl (fun h => ?_) (fun h => C_skip ?_)
    · have he : (x1, x2) = (r1, r2) := by simpa [isEql] using h
      repeat refine C_seq ?_
      refine C_region ?_
      first | refine Lp_pv rfl rfl ?_ | refine Lp_mv rfl rfl ?_
      refine Lp_pv rfl rfl ?_
      refine Lp_s rfl (St_fieldAddr rfl rfl ?_)
      first | refine Lp_s rfl (St_load1 H rfl rfl rfl ?_) | refine Lp_s rfl (St_loadN H rfl (by repeat (first | exact Reads.nil _ | apply Reads.cons rfl)) rfl ?_)
      first | refine Lp_pv rfl rfl ?_ | refine Lp_mv rfl rfl ?_
      refine Lp_s rfl (St_indexAddr rfl rfl (by omega) (by omega) rfl ?_)
      refine Lp_s rfl (St_fieldAddr rfl rfl ?_)
      refine Lp_s rfl (St_load1 H rfl (pcells_to ha) rfl ?_)
      first | refine Lp_pv rfl rfl ?_ | refine Lp_mv rfl rfl ?_
      first | refine Lp_pv rfl rfl ?_ | refine Lp_mv rfl rfl ?_
      refine Lp_nil ?_
      replace H := hclose _ _ H
      replace H := Holds.sel [2, 0] 1 H; dsimp only [SL.sel, SL.pull, List.drop] at H
      have hq : fnd L (r1, r2) = some xt := by rw [hf, ← he]; simp [fnd]
      refine C_ret (fn_end0 _ (.inr rfl) (PS_in H) rfl fun w' H' => ⟨?_, H'⟩)
      rw [hq]; rfl
    · have he : ¬ (x1, x2) = (r1, r2) := by
        intro e
        rw [Prod.mk.injEq] at e
        obtain ⟨rfl, rfl⟩ := e
        simp [isEql] at h
      repeat refine C_seq ?_
      refine C_region ?_
      first | refine Lp_pv rfl rfl ?_ | refine Lp_mv rfl rfl ?_
      refine Lp_pv rfl rfl ?_
      first | refine Lp_pv rfl rfl ?_ | refine Lp_mv rfl rfl ?_
      refine Lp_nil ?_
      replace H := hclose _ _ H
      replace H := Holds.sel [1, 1, 0] 0 H; dsimp only [SL.sel, SL.pull, List.drop] at H
      refine ⟨_, ⟨rfl, i + 1, hlt, rfl, rfl, rfl, inc64 (by omega), ?_, H⟩, by omega⟩
      rw [hf]
      simp only [fnd, if_neg he]
  · have hge : i = L.length := by omega
    subst hge
    rw [List.drop_length] at hf
    repeat refine C_seq ?_
    refine C_region ?_
    first | refine Lp_pv rfl rfl ?_ | refine Lp_mv rfl rfl ?_
    first | refine Lp_pv rfl rfl ?_ | refine Lp_mv rfl rfl ?_
    refine Lp_nil ?_
    refine C_ret (fn_end0 _ (.inr rfl) (PS_in H.drop) rfl fun w' H' => ⟨?_, H'⟩)
    rw [hf]; rfl

theorem rOf_spec [Extra] (q : Nat) (L : List Pr) (hL : L.length ≤ 1000000) (t : Int) {w : World} {fr : List HProp} (H : Holds w (PS q L :: fr)) :
    Calls Try.prog 21 #[pp q, .int .i64 t] w (ret fun v w' => Holds w' (SR v (ofL L t) :: PS q L :: fr)) := by
  obtain ⟨a, c, H⟩ := PS_out H
  refine calls_of Try.func21 rfl (by kernel_rfl) ?_
  repeat refine C_seq ?_
  refine C_region ?_
  first | refine Lp_pv rfl rfl ?_ | refine Lp_mv rfl rfl ?_
  refine Lp_nil ?_
  repeat refine C_seq ?_
  refine C_region ?_
  first | refine Lp_pv rfl rfl ?_ | refine Lp_mv rfl rfl ?_
  refine Lp_nil ?_
  repeat refine C_seq ?_
  refine C_region ?_
  first | refine Lp_pv rfl rfl ?_ | refine Lp_mv rfl rfl ?_
  refine Lp_nil ?_
  repeat refine C_seq ?_
  refine C_block ?_
  refine C_loop (fun ms σ w n => ms = [] ∧ ∃ (i : Nat) (g : Value), i ≤ L.length ∧ n = L.length - i ∧ σ 0 = pp q ∧ σ 1 = .int .i64 t ∧ σ 5 = g ∧ σ 6 = .int .i64 i ∧
    Holds w (SR g (ofL (L.take i) t) :: pts q (row 39 [.slice a L.length c]) :: PL (.slice a L.length c) L :: fr)) (m := L.length) ⟨rfl, 0, _, by omega, rfl, rfl, rfl, rfl, rfl, sls_nil H⟩ ?_
  clear H
  rintro ms σ w n ⟨rfl, i, g, hi, rfl, h0, h1, h5, h6, H⟩
  rw [upd_self h0, upd_self h1, upd_self h5, upd_self h6]
  repeat refine C_seq ?_
  refine C_region ?_
  first | refine Lp_pv rfl rfl ?_ | refine Lp_mv rfl rfl ?_
  first | refine Lp_pv rfl rfl ?_ | refine Lp_mv rfl rfl ?_
  refine Lp_pv rfl rfl ?_
  refine Lp_s rfl (St_fieldAddr rfl rfl ?_)
  first | refine Lp_s rfl (St_load1 H rfl rfl rfl ?_) | refine Lp_s rfl (St_loadN H rfl (by repeat (first | exact Reads.nil _ | apply Reads.cons rfl)) rfl ?_)
  refine Lp_s rfl (St_lenSlice rfl rfl ?_)
  refine Lp_pv rfl rfl ?_
  refine Lp_nil ?_
  repeat refine C_seq ?_
  refine C_dec rfl (fun h => C_skip ?_) (fun h => C_exit ?_)
  · have hlt : i < L.length := by omega
    have ha := List.getElem?_eq_getElem hlt
    generalize L[i] = x at ha
    obtain ⟨⟨x1, x2⟩, xt⟩ := x
    have hle : (ofL (L.take i) t).length ≤ L.length := by
      have h1 := List.length_filter_le (fun p : Pr => decide (p.2 = t)) (L.take i)
      have h2 := List.length_filter_le (fun p : Pr => decide (p.1.1 = t)) (L.take i)
      rw [List.length_take] at h1 h2
      simp only [ofL, fromL, List.length_map]
      omega
    replace H := Holds.sel [2, 0, 0] 0 H; dsimp only [SL.sel, SL.pull, List.drop] at H
    obtain ⟨bo, so, rfl, H, hclose⟩ := sls_open H (by omega)
    repeat refine C_seq ?_
    refine C_block ?_
    repeat refine C_seq ?_
    refine C_region ?_
    first | refine Lp_pv rfl rfl ?_ | refine Lp_mv rfl rfl ?_
    refine Lp_pv rfl rfl ?_
    refine Lp_s rfl (St_fieldAddr rfl rfl ?_)
    first | refine Lp_s rfl (St_load1 H rfl rfl rfl ?_) | refine Lp_s rfl (St_loadN H rfl (by repeat (first | exact Reads.nil _ | apply Reads.cons rfl)) rfl ?_)
    first | refine Lp_pv rfl rfl ?_ | refine Lp_mv rfl rfl ?_
    refine Lp_s rfl (St_indexAddr rfl rfl (by omega) (by omega) rfl ?_)
    refine Lp_s rfl (St_fieldAddr rfl rfl ?_)
    refine Lp_s rfl (St_load1 H rfl (pcells_to ha) rfl ?_)
    first | refine Lp_pv rfl rfl ?_ | refine Lp_mv rfl rfl ?_
    first | refine Lp_pv rfl rfl ?_ | refine Lp_s rfl (St_eqPtrNil rfl rfl (.inl rfl) rfl ?_) | refine Lp_s rfl (St_eqMapNil rfl rfl (.inl rfl) rfl ?_) | refine Lp_s rfl (St_eqPair rfl rfl (.inl rfl) rfl ?_) | refine Lp_s rfl (St_eqBool rfl rfl (.inl rfl) rfl ?_) | refine Lp_s rfl (St_eqStr rfl rfl (.inl rfl) rfl ?_)
    refine Lp_nil ?_
    repeat refine C_seq ?_
    refine C_cond rfl (fun h => ?_) (fun h => C_skip ?_)
    · have he : xt = t := by simpa using h
      repeat refine C_seq ?_
      refine C_region ?_
      first | refine Lp_pv rfl rfl ?_ | refine Lp_mv rfl rfl ?_
      first | refine Lp_pv rfl rfl ?_ | refine Lp_mv rfl rfl ?_
      refine Lp_pv rfl rfl ?_
      refine Lp_s rfl (St_fieldAddr rfl rfl ?_)
      first | refine Lp_s rfl (St_load1 H rfl rfl rfl ?_) | refine Lp_s rfl (St_loadN H rfl (by repeat (first | exact Reads.nil _ | apply Reads.cons rfl)) rfl ?_)
      first | refine Lp_pv rfl rfl ?_ | refine Lp_mv rfl rfl ?_
      refine Lp_s rfl (St_indexAddr rfl rfl (by omega) (by omega) rfl ?_)
      refine Lp_s rfl (St_fieldAddr rfl rfl ?_)
      refine Lp_s rfl (St_loadN H rfl (pcells_key ha) rfl ?_)
      (refine Lp_s rfl (St_buildSlice H rfl rfl rfl ?_); clear H; intro b35 w H)
      replace H := Holds.sel [1, 1, 0, 0] 0 H; dsimp only [SL.sel, SL.pull, List.drop] at H
      replace H := hclose _ _ H
      replace H := Holds.sel [1, 1, 1, 0] 0 H; dsimp only [SL.sel, SL.pull, List.drop] at H
      refine Lp_s rfl (St_append H rfl rfl (by repeat (first | exact Reads.nil _ | apply Reads.cons rfl)) rfl (by decide) (by simp only [rcells_length, List.length_cons, List.length_nil]; omega) rfl rfl ?_); clear H; intro v36 w H
      first | refine Lp_pv rfl rfl ?_ | refine Lp_mv rfl rfl ?_
      refine Lp_nil ?_
      repeat refine C_seq ?_
      refine C_region ?_
      first | refine Lp_pv rfl rfl ?_ | refine Lp_mv rfl rfl ?_
      refine Lp_pv rfl rfl ?_
      first | refine Lp_pv rfl rfl ?_ | refine Lp_mv rfl rfl ?_
      refine Lp_nil ?_
      replace H := Holds.sel [0, 1, 1] 1 H; dsimp only [SL.sel, SL.pull, List.drop] at H
      refine ⟨_, ⟨rfl, i + 1, v36, hlt, rfl, rfl, rfl, rfl, inc64 (by omega), ?_⟩, by omega⟩
      have hs : ofL (L.take (i + 1)) t = ofL (L.take i) t ++ [(x1, x2)] := by
        unfold ofL
        rw [filter_take _ ha, if_pos (decide_eq_true he), List.map_append]
        rfl
      rw [rcells_one, ← rcells_append] at H
      rw [hs]
      exact H
    · have he : ¬ xt = t := by simpa using h
      repeat refine C_seq ?_
      refine C_region ?_
      first | refine Lp_pv rfl rfl ?_ | refine Lp_mv rfl rfl ?_
      refine Lp_pv rfl rfl ?_
      first | refine Lp_pv rfl rfl ?_ | refine Lp_mv rfl rfl ?_
      refine Lp_nil ?_
      replace H := hclose _ _ H
      replace H := Holds.sel [1, 1, 0] 0 H; dsimp only [SL.sel, SL.pull, List.drop] at H
      refine ⟨_, ⟨rfl, i + 1, g, hlt, rfl, rfl, rfl, rfl, inc64 (by omega), ?_⟩, by omega⟩
      have hs : ofL (L.take (i + 1)) t = ofL (L.take i) t := by
        unfold ofL
        rw [filter_take _ ha, if_neg (by simpa using he), List.append_nil]
      rw [hs]
      exact H
  · have hge : i = L.length := by omega
    subst hge
    rw [List.take_length] at H
    repeat refine C_seq ?_
    refine C_region ?_
    first | refine Lp_pv rfl rfl ?_ | refine Lp_mv rfl rfl ?_
    first | refine Lp_pv rfl rfl ?_ | refine Lp_mv rfl rfl ?_
    refine Lp_nil ?_
    replace H := Holds.sel [1, 1, 0] 0 H; dsimp only [SL.sel, SL.pull, List.drop] at H
    refine C_ret (fn_end0 _ (.inr rfl) (PS_in H).swap rfl fun w' H' => H')

theorem rFrom_spec [Extra] (q : Nat) (L : List Pr) (hL : L.length ≤ 1000000) (t : Int) {w : World} {fr : List HProp} (H : Holds w (PS q L :: fr)) :
    Calls Try.prog 22 #[pp q, .int .i64 t] w (ret fun v w' => Holds w' (SR v (fromL L t) :: PS q L :: fr)) := by
  obtain ⟨a, c, H⟩ := PS_out H
  refine calls_of Try.func22 rfl (by kernel_rfl) ?_
  repeat refine C_seq ?_
  refine C_region ?_
  first | refine Lp_pv rfl rfl ?_ | refine Lp_mv rfl rfl ?_
  refine Lp_nil ?_
  repeat refine C_seq ?_
  refine C_region ?_
  first | refine Lp_pv rfl rfl ?_ | refine Lp_mv rfl rfl ?_
  refine Lp_nil ?_
  repeat refine C_seq ?_
  refine C_region ?_
  first | refine Lp_pv rfl rfl ?_ | refine Lp_mv rfl rfl ?_
  refine Lp_nil ?_
  repeat refine C_seq ?_
  refine C_block ?_
  refine C_loop (fun ms σ w n => ms = [] ∧ ∃ (i : Nat) (g : Value), i ≤ L.length ∧ n = L.length - i ∧ σ 0 = pp q ∧ σ 1 = .int .i64 t ∧ σ 5 = g ∧ σ 6 = .int .i64 i ∧
    Holds w (SR g (fromL (L.take i) t) :: pts q (row 39 [.slice a L.length c]) :: PL (.slice a L.length c) L :: fr)) (m := L.length) ⟨rfl, 0, _, by omega, rfl, rfl, rfl, rfl, rfl, sls_nil H⟩ ?_
  clear H
  rintro ms σ w n ⟨rfl, i, g, hi, rfl, h0, h1, h5, h6, H⟩
  rw [upd_self h0, upd_self h1, upd_self h5, upd_self h6]
  repeat refine C_seq ?_
  refine C_region ?_
  first | refine Lp_pv rfl rfl ?_ | refine Lp_mv rfl rfl ?_
  first | refine Lp_pv rfl rfl ?_ | refine Lp_mv rfl rfl ?_
  refine Lp_pv rfl rfl ?_
  refine Lp_s rfl (St_fieldAddr rfl rfl ?_)
  first | refine Lp_s rfl (St_load1 H rfl rfl rfl ?_) | refine Lp_s rfl (St_loadN H rfl (by repeat (first | exact Reads.nil _ | apply Reads.cons rfl)) rfl ?_)
  refine Lp_s rfl (St_lenSlice rfl rfl ?_)
  refine Lp_pv rfl rfl ?_
  refine Lp_nil ?_
  repeat refine C_seq ?_
  refine C_dec rfl (fun h => C_skip ?_) (fun h => C_exit ?_)
  · have hlt : i < L.length := by omega
    have ha := List.getElem?_eq_getElem hlt
    generalize L[i] = x at ha
    obtain ⟨⟨x1, x2⟩, xt⟩ := x
    have hle : (fromL (L.take i) t).length ≤ L.length := by
      have h1 := List.length_filter_le (fun p : Pr => decide (p.2 = t)) (L.take i)
      have h2 := List.length_filter_le (fun p : Pr => decide (p.1.1 = t)) (L.take i)
      rw [List.length_take] at h1 h2
      simp only [ofL, fromL, List.length_map]
      omega
    replace H := Holds.sel [2, 0, 0] 0 H; dsimp only [SL.sel, SL.pull, List.drop] at H
    obtain ⟨bo, so, rfl, H, hclose⟩ := sls_open H (by omega)
    repeat refine C_seq ?_
    refine C_block ?_
    repeat refine C_seq ?_
    refine C_region ?_
    first | refine Lp_pv rfl rfl ?_ | refine Lp_mv rfl rfl ?_
    refine Lp_pv rfl rfl ?_
    refine Lp_s rfl (St_fieldAddr rfl rfl ?_)
    first | refine Lp_s rfl (St_load1 H rfl rfl rfl ?_) | refine Lp_s rfl (St_loadN H rfl (by repeat (first | exact Reads.nil _ | apply Reads.cons rfl)) rfl ?_)
    first | refine Lp_pv rfl rfl ?_ | refine Lp_mv rfl rfl ?_
    refine Lp_s rfl (St_indexAddr rfl rfl (by omega) (by omega) rfl ?_)
    refine Lp_s rfl (St_fieldAddr rfl rfl ?_)
    refine Lp_s rfl (St_fieldAddr rfl rfl ?_)
    refine Lp_s rfl (St_load1 H rfl (pcells_src ha) rfl ?_)
    first | refine Lp_pv rfl rfl ?_ | refine Lp_mv rfl rfl ?_
    first | refine Lp_pv rfl rfl ?_ | refine Lp_s rfl (St_eqPtrNil rfl rfl (.inl rfl) rfl ?_) | refine Lp_s rfl (St_eqMapNil rfl rfl (.inl rfl) rfl ?_) | refine Lp_s rfl (St_eqPair rfl rfl (.inl rfl) rfl ?_) | refine Lp_s rfl (St_eqBool rfl rfl (.inl rfl) rfl ?_) | refine Lp_s rfl (St_eqStr rfl rfl (.inl rfl) rfl ?_)
    refine Lp_nil ?_
    repeat refine C_seq ?_
    refine C_cond rfl (fun h => ?_) (fun h => C_skip ?_)
    · have he : x1 = t := by simpa using h
      repeat refine C_seq ?_
      refine C_region ?_
      first | refine Lp_pv rfl rfl ?_ | refine Lp_mv rfl rfl ?_
      first | refine Lp_pv rfl rfl ?_ | refine Lp_mv rfl rfl ?_
      refine Lp_pv rfl rfl ?_
      refine Lp_s rfl (St_fieldAddr rfl rfl ?_)
      first | refine Lp_s rfl (St_load1 H rfl rfl rfl ?_) | refine Lp_s rfl (St_loadN H rfl (by repeat (first | exact Reads.nil _ | apply Reads.cons rfl)) rfl ?_)
      first | refine Lp_pv rfl rfl ?_ | refine Lp_mv rfl rfl ?_
      refine Lp_s rfl (St_indexAddr rfl rfl (by omega) (by omega) rfl ?_)
      refine Lp_s rfl (St_fieldAddr rfl rfl ?_)
      refine Lp_s rfl (St_loadN H rfl (pcells_key ha) rfl ?_)
      (refine Lp_s rfl (St_buildSlice H rfl rfl rfl ?_); clear H; intro b36 w H)
      replace H := Holds.sel [1, 1, 0, 0] 0 H; dsimp only [SL.sel, SL.pull, List.drop] at H
      replace H := hclose _ _ H
      replace H := Holds.sel [1, 1, 1, 0] 0 H; dsimp only [SL.sel, SL.pull, List.drop] at H
      refine Lp_s rfl (St_append H rfl rfl (by repeat (first | exact Reads.nil _ | apply Reads.cons rfl)) rfl (by decide) (by simp only [rcells_length, List.length_cons, List.length_nil]; omega) rfl rfl ?_); clear H; intro v36 w H
      first | refine Lp_pv rfl rfl ?_ | refine Lp_mv rfl rfl ?_
      refine Lp_nil ?_
      repeat refine C_seq ?_
      refine C_region ?_
      first | refine Lp_pv rfl rfl ?_ | refine Lp_mv rfl rfl ?_
      refine Lp_pv rfl rfl ?_
      first | refine Lp_pv rfl rfl ?_ | refine Lp_mv rfl rfl ?_
      refine Lp_nil ?_
      replace H := Holds.sel [0, 1, 1] 1 H; dsimp only [SL.sel, SL.pull, List.drop] at H
      refine ⟨_, ⟨rfl, i + 1, v36, hlt, rfl, rfl, rfl, rfl, inc64 (by omega), ?_⟩, by omega⟩
      have hs : fromL (L.take (i + 1)) t = fromL (L.take i) t ++ [(x1, x2)] := by
        unfold fromL
        rw [filter_take _ ha, if_pos (decide_eq_true he), List.map_append]
        rfl
      rw [rcells_one, ← rcells_append] at H
      rw [hs]
      exact H
    · have he : ¬ x1 = t := by simpa using h
      repeat refine C_seq ?_
      refine C_region ?_
      first | refine Lp_pv rfl rfl ?_ | refine Lp_mv rfl rfl ?_
      refine Lp_pv rfl rfl ?_
      first | refine Lp_pv rfl rfl ?_ | refine Lp_mv rfl rfl ?_
      refine Lp_nil ?_
      replace H := hclose _ _ H
      replace H := Holds.sel [1, 1, 0] 0 H; dsimp only [SL.sel, SL.pull, List.drop] at H
      refine ⟨_, ⟨rfl, i + 1, g, hlt, rfl, rfl, rfl, rfl, inc64 (by omega), ?_⟩, by omega⟩
      have hs : fromL (L.take (i + 1)) t = fromL (L.take i) t := by
        unfold fromL
        rw [filter_take _ ha, if_neg (by simpa using he), List.append_nil]
      rw [hs]
      exact H
  · have hge : i = L.length := by omega
    subst hge
    rw [List.take_length] at H
    repeat refine C_seq ?_
    refine C_region ?_
    first | refine Lp_pv rfl rfl ?_ | refine Lp_mv rfl rfl ?_
    first | refine Lp_pv rfl rfl ?_ | refine Lp_mv rfl rfl ?_
    refine Lp_nil ?_
    replace H := Holds.sel [1, 1, 0] 0 H; dsimp only [SL.sel, SL.pull, List.drop] at H
    refine C_ret (fn_end0 _ (.inr rfl) (PS_in H).swap rfl fun w' H' => H')
end Go.Proofs.Ytdpephigccnkdaa
