/- Tokens: the library's functions on strings at one byte; numerals. No condition. -/
import Derived.Test.YtdpephigccnkdaaDoorTokA
import Derived.Test.YtdpephigccnkdaaDoorSrt
import Derived.Lib.LaidTab
set_option linter.unusedVariables false
set_option linter.unusedSimpArgs false
set_option linter.unusedSectionVars false
namespace Go.Proofs.YtdpephigccnkdaaDoor
open Go.SL

/-! ### Plain -/

/-- A text cut at a byte: ahead of it, behind it, is it there. -/
def cutB : List UInt8 → UInt8 → List UInt8 × List UInt8 × Bool
  | [], _ => ([], [], false)
  | b :: l, c => if b = c then ([], l, true) else (b :: (cutB l c).1, (cutB l c).2.1, (cutB l c).2.2)

theorem index_cut : ∀ (l : List UInt8) (c : UInt8), (Lib.indexByte l c = -1 ∧ cutB l c = (l, [], false)) ∨ (∃ i : Nat, Lib.indexByte l c = i ∧ i < l.length ∧ cutB l c = (l.take i, l.drop (i + 1), true))
  | [], _ => .inl ⟨rfl, rfl⟩
  | b :: l, c => by
    by_cases h : b = c
    · subst h
      exact .inr ⟨0, by simp [Lib.indexByte], by simp, by simp [cutB]⟩
    · have hb : (b == c) = false := by simpa using h
      rcases index_cut l c with ⟨h1, h2⟩ | ⟨i, h1, h2, h3⟩
      · exact .inl ⟨by simp [Lib.indexByte, hb, h1], by simp [cutB, h, h2]⟩
      · refine .inr ⟨i + 1, ?_, by simpa using h2, by simp [cutB, h, h3]⟩
        have : ¬ ((i : Int) == -1) = true := by simp
        simp only [Lib.indexByte, hb, h1, this]
        simp

def digs (l : List UInt8) : Nat := l.foldl (fun n b => 10 * n + (b.toNat - 48)) 0
def isDig (b : UInt8) : Bool := decide (48 ≤ b.toNat) && decide (b.toNat ≤ 57)
def numB (l : List UInt8) : Int := if l = [] ∨ 4 < l.length ∨ (1 < l.length ∧ l.head? = some 48) ∨ l.all isDig = false then -1 else (digs l : Int)

theorem digs_snoc (l : List UInt8) (b : UInt8) : digs (l ++ [b]) = 10 * digs l + (b.toNat - 48) := by simp [digs]
theorem digs_from : ∀ (l : List UInt8) (n k : Nat), n < 10 ^ k → l.all isDig = true → l.foldl (fun n b => 10 * n + (b.toNat - 48)) n < 10 ^ (k + l.length)
  | [], n, k, h, _ => h
  | b :: l, n, k, h, hd => by
    simp only [List.all_cons, Bool.and_eq_true] at hd
    have h2 := hd.1
    simp only [isDig, Bool.and_eq_true, decide_eq_true_eq] at h2
    have := digs_from l (10 * n + (b.toNat - 48)) (k + 1) (by rw [Nat.pow_succ]; omega) hd.2
    rw [List.foldl_cons, List.length_cons, show k + (l.length + 1) = k + 1 + l.length by omega]
    exact this
theorem digs_lt (l : List UInt8) (h : l.all isDig = true) : digs l < 10 ^ l.length := by
  have := digs_from l 0 0 (by decide) h
  rw [Nat.zero_add] at this
  exact this

/-! ### Walks -/

theorem HasPrefix_spec [Extra] (s p : List UInt8) {w : World} {fr : List HProp} (H : Holds w fr) : Calls Tryd.prog 35 #[str s, str p] w (ret fun v w' => v = .bool (decide (s.take p.length = p)) ∧ Holds w' fr) := by
  refine calls_of Tryd.func35 rfl (by kernel_rfl) ?_
  repeat refine C_seq ?_
  refine C_region ?_
  first | refine Lp_pv rfl rfl ?_ | refine Lp_mv rfl rfl ?_
  refine Lp_nil ?_
  repeat refine C_seq ?_
  refine C_region ?_
  first | refine Lp_pv rfl rfl ?_ | refine Lp_mv rfl rfl ?_
  first | refine Lp_s rfl (St_lenStr rfl rfl ?_) | refine Lp_s rfl (St_lenString rfl rfl ?_)
  first | refine Lp_pv rfl rfl ?_ | refine Lp_mv rfl rfl ?_
  first | refine Lp_s rfl (St_lenStr rfl rfl ?_) | refine Lp_s rfl (St_lenString rfl rfl ?_)
  refine Lp_pv rfl rfl ?_
  by_cases h : (s.length : Int) ≥ p.length
  · rw [show decide ((s.length : Int) ≥ p.length) = true from decide_eq_true h]
    first | refine Lp_pv rfl rfl ?_ | refine Lp_mv rfl rfl ?_
    first | refine Lp_gpv rfl rfl rfl rfl ?_ | refine Lp_no rfl rfl rfl ?_ | refine Lp_nn rfl rfl ?_
    first | refine Lp_gpv rfl rfl rfl rfl ?_ | refine Lp_no rfl rfl rfl ?_ | refine Lp_nn rfl rfl ?_
    first | refine Lp_g rfl rfl rfl (St_lenStr rfl rfl ?_) | refine Lp_g rfl rfl rfl (St_lenString rfl rfl ?_) | refine Lp_no rfl rfl rfl ?_ | refine Lp_nn rfl rfl ?_
    refine Lp_g rfl rfl rfl (St_strTo rfl rfl (by omega) (by omega) rfl ?_)
    first | refine Lp_gpv rfl rfl rfl rfl ?_ | refine Lp_no rfl rfl rfl ?_ | refine Lp_nn rfl rfl ?_
    first | refine Lp_gpv rfl rfl rfl rfl ?_ | refine Lp_g rfl rfl rfl (St_eqPtrNil rfl rfl (.inl rfl) rfl ?_) | refine Lp_g rfl rfl rfl (St_eqMapNil rfl rfl (.inl rfl) rfl ?_) | refine Lp_g rfl rfl rfl (St_eqPair rfl rfl (.inl rfl) rfl ?_) | refine Lp_g rfl rfl rfl (St_eqBool rfl rfl (.inl rfl) rfl ?_) | refine Lp_g rfl rfl rfl (St_eqS rfl rfl (.inl rfl) rfl ?_) | refine Lp_g rfl rfl rfl (St_eqSliceNil rfl rfl (.inl rfl) rfl ?_) | refine Lp_g rfl rfl rfl (St_eqStr rfl rfl (.inl rfl) rfl ?_) | refine Lp_no rfl rfl rfl ?_ | refine Lp_nn rfl rfl ?_
    refine Lp_pv rfl rfl ?_
    first | refine Lp_pv rfl rfl ?_ | refine Lp_mv rfl rfl ?_
    refine Lp_nil ?_
    exact C_ret (fn_end0 _ (.inr rfl) H rfl fun w' H' => ⟨rfl, H'⟩)
  · rw [show decide ((s.length : Int) ≥ p.length) = false from decide_eq_false h]
    first | refine Lp_pv rfl rfl ?_ | refine Lp_mv rfl rfl ?_
    first | refine Lp_gpv rfl rfl rfl rfl ?_ | refine Lp_no rfl rfl rfl ?_ | refine Lp_nn rfl rfl ?_
    first | refine Lp_gpv rfl rfl rfl rfl ?_ | refine Lp_no rfl rfl rfl ?_ | refine Lp_nn rfl rfl ?_
    first | refine Lp_g rfl rfl rfl (St_lenStr rfl rfl ?_) | refine Lp_g rfl rfl rfl (St_lenString rfl rfl ?_) | refine Lp_no rfl rfl rfl ?_ | refine Lp_nn rfl rfl ?_
    refine Lp_no rfl rfl rfl ?_
    first | refine Lp_gpv rfl rfl rfl rfl ?_ | refine Lp_no rfl rfl rfl ?_ | refine Lp_nn rfl rfl ?_
    first | refine Lp_gpv rfl rfl rfl rfl ?_ | refine Lp_g rfl rfl rfl (St_eqPtrNil rfl rfl (.inl rfl) rfl ?_) | refine Lp_g rfl rfl rfl (St_eqMapNil rfl rfl (.inl rfl) rfl ?_) | refine Lp_g rfl rfl rfl (St_eqPair rfl rfl (.inl rfl) rfl ?_) | refine Lp_g rfl rfl rfl (St_eqBool rfl rfl (.inl rfl) rfl ?_) | refine Lp_g rfl rfl rfl (St_eqS rfl rfl (.inl rfl) rfl ?_) | refine Lp_g rfl rfl rfl (St_eqSliceNil rfl rfl (.inl rfl) rfl ?_) | refine Lp_g rfl rfl rfl (St_eqStr rfl rfl (.inl rfl) rfl ?_) | refine Lp_no rfl rfl rfl ?_ | refine Lp_nn rfl rfl ?_
    refine Lp_pv rfl rfl ?_
    first | refine Lp_pv rfl rfl ?_ | refine Lp_mv rfl rfl ?_
    refine Lp_nil ?_
    refine C_ret (fn_end0 _ (.inr rfl) H rfl fun w' H' => ⟨?_, H'⟩)
    show Value.bool false = _
    rw [decide_eq_false]
    intro e
    have := congrArg List.length e
    rw [List.length_take] at this
    omega

theorem CutPrefixL_spec [Extra] (s p : List UInt8) {w : World} {fr : List HProp} (H : Holds w fr) : Calls Tryd.prog 29 #[str s, str p] w (ret fun v w' => v = .tuple #[str (if s.take p.length = p then s.drop p.length else s), .bool (decide (s.take p.length = p))] ∧ Holds w' fr) := by
  refine calls_of Tryd.func29 rfl (by kernel_rfl) ?_
  repeat refine C_seq ?_
  refine C_region ?_
  first | refine Lp_pv rfl rfl ?_ | refine Lp_mv rfl rfl ?_
  first | refine Lp_pv rfl rfl ?_ | refine Lp_mv rfl rfl ?_
  refine Lp_nil ?_
  repeat refine C_seq ?_
  refine C_region ?_
  first | refine Lp_pv rfl rfl ?_ | refine Lp_mv rfl rfl ?_
  first | refine Lp_pv rfl rfl ?_ | refine Lp_mv rfl rfl ?_
  refine Lp_s rfl (St_call (a := []) (b := []) rfl rfl (call (HasPrefix_spec s p H) ?_))
  clear H; rintro v w ⟨rfl, H⟩
  refine Lp_pv rfl rfl ?_
  refine Lp_nil ?_
  by_cases h : s.take p.length = p
  · rw [decide_eq_true h]
    repeat refine C_seq ?_
    refine C_false rfl (C_skip ?_)
    repeat refine C_seq ?_
    refine C_region ?_
    first | refine Lp_pv rfl rfl ?_ | refine Lp_mv rfl rfl ?_
    first | refine Lp_pv rfl rfl ?_ | refine Lp_mv rfl rfl ?_
    first | refine Lp_s rfl (St_lenStr rfl rfl ?_) | refine Lp_s rfl (St_lenString rfl rfl ?_)
    have hl : p.length ≤ s.length := by
      have := congrArg List.length h
      rw [List.length_take] at this
      omega
    refine Lp_s rfl (St_strFrom rfl rfl (by omega) (by omega) rfl ?_)
    first | refine Lp_pv rfl rfl ?_ | refine Lp_mv rfl rfl ?_
    first | refine Lp_pv rfl rfl ?_ | refine Lp_mv rfl rfl ?_
    refine Lp_nil ?_
    exact C_ret (fn_end0 _ (.inr rfl) H rfl fun w' H' => ⟨by rw [if_pos h]; rfl, H'⟩)
  · rw [decide_eq_false h]
    repeat refine C_seq ?_
    refine C_true rfl ?_
    repeat refine C_seq ?_
    refine C_region ?_
    first | refine Lp_pv rfl rfl ?_ | refine Lp_mv rfl rfl ?_
    first | refine Lp_pv rfl rfl ?_ | refine Lp_mv rfl rfl ?_
    first | refine Lp_pv rfl rfl ?_ | refine Lp_mv rfl rfl ?_
    refine Lp_nil ?_
    exact C_ret (fn_end0 _ (.inr rfl) H rfl fun w' H' => ⟨by rw [if_neg h]; rfl, H'⟩)

theorem CutPrefix_spec [Extra] (s p : List UInt8) {w : World} {fr : List HProp} (H : Holds w fr) : Calls Tryd.prog 20 #[str s, str p] w (ret fun v w' => v = .tuple #[str (if s.take p.length = p then s.drop p.length else s), .bool (decide (s.take p.length = p))] ∧ Holds w' fr) := by
  refine calls_of Tryd.func20 rfl (by kernel_rfl) ?_
  repeat refine C_seq ?_
  refine C_region ?_
  first | refine Lp_pv rfl rfl ?_ | refine Lp_mv rfl rfl ?_
  first | refine Lp_pv rfl rfl ?_ | refine Lp_mv rfl rfl ?_
  refine Lp_nil ?_
  repeat refine C_seq ?_
  refine C_region ?_
  first | refine Lp_pv rfl rfl ?_ | refine Lp_mv rfl rfl ?_
  first | refine Lp_pv rfl rfl ?_ | refine Lp_mv rfl rfl ?_
  refine Lp_s rfl (St_call (a := []) (b := []) rfl rfl (call (CutPrefixL_spec s p H) ?_))
  clear H; rintro v w ⟨rfl, H⟩
  refine Lp_pv rfl rfl ?_
  refine Lp_pv rfl rfl ?_
  first | refine Lp_pv rfl rfl ?_ | refine Lp_mv rfl rfl ?_
  first | refine Lp_pv rfl rfl ?_ | refine Lp_mv rfl rfl ?_
  refine Lp_nil ?_
  exact C_ret (fn_end0 _ (.inr rfl) H rfl fun w' H' => ⟨rfl, H'⟩)

theorem IndexByte_spec [Extra] (s : List UInt8) (c : UInt8) {w : World} {fr : List HProp} (H : Holds w fr) : Calls Tryd.prog 51 #[str s, .int .u8 c.toNat] w (ret fun v w' => v = .int .i64 (Lib.indexByte s c) ∧ Holds w' fr) := by
  refine calls_of Tryd.func51 rfl (by kernel_rfl) ?_
  repeat refine C_seq ?_
  refine C_region ?_
  first | refine Lp_pv rfl rfl ?_ | refine Lp_mv rfl rfl ?_
  refine Lp_nil ?_
  repeat refine C_seq ?_
  refine C_region ?_
  first | refine Lp_pv rfl rfl ?_ | refine Lp_mv rfl rfl ?_
  first | refine Lp_pv rfl rfl ?_ | refine Lp_mv rfl rfl ?_
  refine Lp_s rfl (St_ext rfl (by
    have := Lib.run_indexByteString (P := Tryd.prog) ⟨s.toArray⟩ (c.toNat : Int) w
    have e : ((c.toNat : Int)).toNat.toUInt8 = c := by simp
    rw [e] at this
    exact this) rfl ?_)
  first | refine Lp_pv rfl rfl ?_ | refine Lp_mv rfl rfl ?_
  refine Lp_nil ?_
  exact C_ret (fn_end0 _ (.inr rfl) H rfl fun w' H' => ⟨rfl, H'⟩)

theorem Index1_spec [Extra] (s : List UInt8) (c : UInt8) {w : World} {fr : List HProp} (H : Holds w fr) : Calls Tryd.prog 36 #[str s, str [c]] w (ret fun v w' => v = .int .i64 (Lib.indexByte s c) ∧ Holds w' fr) := by
  refine calls_of Tryd.func36 rfl (by kernel_rfl) ?_
  repeat refine C_seq ?_
  refine C_region ?_
  first | refine Lp_pv rfl rfl ?_ | refine Lp_mv rfl rfl ?_
  refine Lp_nil ?_
  repeat refine C_seq ?_
  refine C_region ?_
  first | refine Lp_pv rfl rfl ?_ | refine Lp_mv rfl rfl ?_
  first | refine Lp_s rfl (St_lenStr rfl rfl ?_) | refine Lp_s rfl (St_lenString rfl rfl ?_)
  first | refine Lp_pv rfl rfl ?_ | refine Lp_mv rfl rfl ?_
  refine Lp_nil ?_
  repeat refine C_seq ?_
  refine C_block ?_
  repeat refine C_seq ?_
  refine C_region ?_
  first | refine Lp_pv rfl rfl ?_ | refine Lp_mv rfl rfl ?_
  first | refine Lp_pv rfl rfl ?_ | refine Lp_s rfl (St_eqPtrNil rfl rfl (.inl rfl) rfl ?_) | refine Lp_s rfl (St_eqMapNil rfl rfl (.inl rfl) rfl ?_) | refine Lp_s rfl (St_eqPair rfl rfl (.inl rfl) rfl ?_) | refine Lp_s rfl (St_eqBool rfl rfl (.inl rfl) rfl ?_) | refine Lp_s rfl (St_eqS rfl rfl (.inl rfl) rfl ?_) | refine Lp_s rfl (St_eqSliceNil rfl rfl (.inl rfl) rfl ?_) | refine Lp_s rfl (St_eqStr rfl rfl (.inl rfl) rfl ?_)
  first | refine Lp_pv rfl rfl ?_ | refine Lp_mv rfl rfl ?_
  first | refine Lp_gpv rfl rfl rfl rfl ?_ | refine Lp_no rfl rfl rfl ?_ | refine Lp_nn rfl rfl ?_
  first | refine Lp_gpv rfl rfl rfl rfl ?_ | refine Lp_no rfl rfl rfl ?_ | refine Lp_nn rfl rfl ?_
  first | refine Lp_gpv rfl rfl rfl rfl ?_ | refine Lp_g rfl rfl rfl (St_eqPtrNil rfl rfl (.inl rfl) rfl ?_) | refine Lp_g rfl rfl rfl (St_eqMapNil rfl rfl (.inl rfl) rfl ?_) | refine Lp_g rfl rfl rfl (St_eqPair rfl rfl (.inl rfl) rfl ?_) | refine Lp_g rfl rfl rfl (St_eqBool rfl rfl (.inl rfl) rfl ?_) | refine Lp_g rfl rfl rfl (St_eqS rfl rfl (.inl rfl) rfl ?_) | refine Lp_g rfl rfl rfl (St_eqSliceNil rfl rfl (.inl rfl) rfl ?_) | refine Lp_g rfl rfl rfl (St_eqStr rfl rfl (.inl rfl) rfl ?_) | refine Lp_no rfl rfl rfl ?_ | refine Lp_nn rfl rfl ?_
  refine Lp_pv rfl rfl ?_
  first | refine Lp_pv rfl rfl ?_ | refine Lp_mv rfl rfl ?_
  refine Lp_nil ?_
  repeat refine C_seq ?_
  refine C_cond rfl (fun h => ?_) (fun h => ?_)
  · have he : [c] = s := by simpa [isEql] using h
    subst he
    repeat refine C_seq ?_
    refine C_region ?_
    first | refine Lp_pv rfl rfl ?_ | refine Lp_mv rfl rfl ?_
    refine Lp_nil ?_
    refine C_ret (fn_end0 _ (.inr rfl) H rfl fun w' H' => ⟨?_, H'⟩)
    show Value.int .i64 0 = _
    simp [Lib.indexByte]
  · repeat refine C_seq ?_
    refine C_region ?_
    first | refine Lp_pv rfl rfl ?_ | refine Lp_mv rfl rfl ?_
    first | refine Lp_pv rfl rfl ?_ | refine Lp_s rfl (St_eqPtrNil rfl rfl (.inl rfl) rfl ?_) | refine Lp_s rfl (St_eqMapNil rfl rfl (.inl rfl) rfl ?_) | refine Lp_s rfl (St_eqPair rfl rfl (.inl rfl) rfl ?_) | refine Lp_s rfl (St_eqBool rfl rfl (.inl rfl) rfl ?_) | refine Lp_s rfl (St_eqS rfl rfl (.inl rfl) rfl ?_) | refine Lp_s rfl (St_eqSliceNil rfl rfl (.inl rfl) rfl ?_) | refine Lp_s rfl (St_eqStr rfl rfl (.inl rfl) rfl ?_)
    first | refine Lp_pv rfl rfl ?_ | refine Lp_mv rfl rfl ?_
    refine Lp_nil ?_
    repeat refine C_seq ?_
    refine C_true rfl ?_
    repeat refine C_seq ?_
    refine C_region ?_
    first | refine Lp_pv rfl rfl ?_ | refine Lp_mv rfl rfl ?_
    first | refine Lp_pv rfl rfl ?_ | refine Lp_mv rfl rfl ?_
    refine Lp_s rfl (St_indexStr (b := c) rfl rfl (by decide) rfl rfl ?_)
    
    refine Lp_s rfl (St_call (a := []) (b := []) rfl rfl (call (IndexByte_spec s c H) ?_))
    clear H; rintro v w ⟨rfl, H⟩
    first | refine Lp_pv rfl rfl ?_ | refine Lp_mv rfl rfl ?_
    refine Lp_nil ?_
    exact C_ret (fn_end0 _ (.inr rfl) H rfl fun w' H' => ⟨rfl, H'⟩)

theorem CutL_spec [Extra] (s : List UInt8) (c : UInt8) (hl : s.length ≤ 9223372036854775807) {w : World} {fr : List HProp} (H : Holds w fr) : Calls Tryd.prog 30 #[str s, str [c]] w (ret fun v w' => v = .tuple #[str (cutB s c).1, str (cutB s c).2.1, .bool (cutB s c).2.2] ∧ Holds w' fr) := by
  refine calls_of Tryd.func30 rfl (by kernel_rfl) ?_
  repeat refine C_seq ?_
  refine C_region ?_
  first | refine Lp_pv rfl rfl ?_ | refine Lp_mv rfl rfl ?_
  first | refine Lp_pv rfl rfl ?_ | refine Lp_mv rfl rfl ?_
  first | refine Lp_pv rfl rfl ?_ | refine Lp_mv rfl rfl ?_
  refine Lp_nil ?_
  repeat refine C_seq ?_
  refine C_region ?_
  first | refine Lp_pv rfl rfl ?_ | refine Lp_mv rfl rfl ?_
  first | refine Lp_pv rfl rfl ?_ | refine Lp_mv rfl rfl ?_
  refine Lp_s rfl (St_call (a := []) (b := []) rfl rfl (call (Index1_spec s c H) ?_))
  clear H; rintro v w ⟨rfl, H⟩
  rcases index_cut s c with ⟨h1, h2⟩ | ⟨i, h1, hi, h2⟩
  · rw [h1, h2]
    first | refine Lp_pv rfl rfl ?_ | refine Lp_mv rfl rfl ?_
    refine Lp_nil ?_
    repeat refine C_seq ?_
    refine C_region ?_
    first | refine Lp_pv rfl rfl ?_ | refine Lp_mv rfl rfl ?_
    refine Lp_pv rfl rfl ?_
    refine Lp_nil ?_
    repeat refine C_seq ?_
    refine C_false rfl (C_skip ?_)
    repeat refine C_seq ?_
    refine C_region ?_
    first | refine Lp_pv rfl rfl ?_ | refine Lp_mv rfl rfl ?_
    first | refine Lp_pv rfl rfl ?_ | refine Lp_mv rfl rfl ?_
    first | refine Lp_pv rfl rfl ?_ | refine Lp_mv rfl rfl ?_
    first | refine Lp_pv rfl rfl ?_ | refine Lp_mv rfl rfl ?_
    refine Lp_nil ?_
    exact C_ret (fn_end0 _ (.inr rfl) H rfl fun w' H' => ⟨rfl, H'⟩)
  · rw [h1, h2]
    first | refine Lp_pv rfl rfl ?_ | refine Lp_mv rfl rfl ?_
    refine Lp_nil ?_
    repeat refine C_seq ?_
    refine C_region ?_
    first | refine Lp_pv rfl rfl ?_ | refine Lp_mv rfl rfl ?_
    refine Lp_pv rfl rfl ?_
    refine Lp_nil ?_
    repeat refine C_seq ?_
    refine C_dec rfl (fun h => ?_) (fun h => absurd (show (0 : Int) ≤ (i : Int) by omega) h)
    have ew : IntKind.i64.wrap ((i : Int) + (([c] : List UInt8).length : Nat)) = ((i + 1 : Nat) : Int) := by
      rw [wrap64 (by simp; omega) (by simp; omega)]; simp
    repeat refine C_seq ?_
    refine C_drawH H mixed ?_
    clear H; intro w H
    refine A_pv 0 rfl (Wants.none rfl) rfl (by kernel_rfl) ?_
    refine A_pv 1 rfl (Wants.none rfl) rfl (by kernel_rfl) ?_
    refine A_strTo 2 rfl (Wants.none rfl) rfl rfl (by omega) (by omega) (by kernel_rfl) ?_
    refine A_pv 3 rfl (Wants.none rfl) rfl (by kernel_rfl) ?_
    refine A_pv 4 rfl (Wants.none rfl) rfl (by kernel_rfl) ?_
    refine A_pv 5 rfl (Wants.none rfl) rfl (by kernel_rfl) ?_
    first | refine A_lenStr 6 rfl (Wants.none rfl) rfl (by kernel_rfl) ?_ | refine A_lenString 6 rfl (Wants.none rfl) rfl (by kernel_rfl) ?_
    refine A_pv 7 rfl (Wants.none rfl) rfl (by kernel_rfl) ?_
    rw [ew]
    refine A_strFrom 8 rfl (Wants.none rfl) rfl rfl (by omega) (by omega) (by kernel_rfl) ?_
    refine A_pv 9 rfl (Wants.none rfl) rfl (by kernel_rfl) ?_
    refine A_pv 10 rfl (Wants.none rfl) rfl (by kernel_rfl) ?_
    refine A_pv 11 rfl (Wants.none rfl) rfl (by kernel_rfl) ?_
    refine A_end (by kernel_rfl) (by repeat (first | exact InvL.nil | refine InvL.cons (.inr (Holds.at H)) ?_ | refine InvL.cons (.inr (Holds.mp H)) ?_ | refine InvL.cons (.inl (by kernel_rfl)) ?_)) ?_
    exact C_ret (fn_end0 _ (.inr rfl) H rfl fun w' H' => ⟨rfl, H'⟩)

theorem Cut_spec [Extra] (s : List UInt8) (c : UInt8) (hl : s.length ≤ 9223372036854775807) {w : World} {fr : List HProp} (H : Holds w fr) : Calls Tryd.prog 21 #[str s, str [c]] w (ret fun v w' => v = .tuple #[str (cutB s c).1, str (cutB s c).2.1, .bool (cutB s c).2.2] ∧ Holds w' fr) := by
  refine calls_of Tryd.func21 rfl (by kernel_rfl) ?_
  repeat refine C_seq ?_
  refine C_region ?_
  first | refine Lp_pv rfl rfl ?_ | refine Lp_mv rfl rfl ?_
  first | refine Lp_pv rfl rfl ?_ | refine Lp_mv rfl rfl ?_
  first | refine Lp_pv rfl rfl ?_ | refine Lp_mv rfl rfl ?_
  refine Lp_nil ?_
  repeat refine C_seq ?_
  refine C_region ?_
  first | refine Lp_pv rfl rfl ?_ | refine Lp_mv rfl rfl ?_
  first | refine Lp_pv rfl rfl ?_ | refine Lp_mv rfl rfl ?_
  refine Lp_s rfl (St_call (a := []) (b := []) rfl rfl (call (CutL_spec s c hl H) ?_))
  clear H; rintro v w ⟨rfl, H⟩
  refine Lp_pv rfl rfl ?_
  refine Lp_pv rfl rfl ?_
  refine Lp_pv rfl rfl ?_
  first | refine Lp_pv rfl rfl ?_ | refine Lp_mv rfl rfl ?_
  first | refine Lp_pv rfl rfl ?_ | refine Lp_mv rfl rfl ?_
  first | refine Lp_pv rfl rfl ?_ | refine Lp_mv rfl rfl ?_
  refine Lp_nil ?_
  exact C_ret (fn_end0 _ (.inr rfl) H rfl fun w' H' => ⟨rfl, H'⟩)
end Go.Proofs.YtdpephigccnkdaaDoor
