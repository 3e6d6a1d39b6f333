/- Tokens: numbers out of texts, and texts of numbers. No condition. -/
import Derived.Test.YtdpephigccnkdaaDoorTokB
set_option linter.unusedVariables false
set_option linter.unusedSimpArgs false
set_option linter.unusedSectionVars false
namespace Go.Proofs.YtdpephigccnkdaaDoor
open Go.SL

/-! ### token.number -/

def badB (l : List UInt8) : Prop := l = [] ∨ 4 < l.length ∨ (1 < l.length ∧ l[0]? = some 48)
instance (l : List UInt8) : Decidable (badB l) := by unfold badB; exact inferInstance

theorem u8_lit {b : UInt8} {k : Nat} (hk : k < 256) : ((b.toNat : Int) == (k : Int)) = decide (b = UInt8.ofNat k) := by
  rw [Bool.eq_iff_iff]
  simp only [beq_iff_eq, decide_eq_true_eq]
  constructor
  · intro h
    have : b.toNat = k := by omega
    rw [← this]
    simp
  · rintro rfl
    simp
    omega

theorem number_spec [Extra] (l : List UInt8) (hl : l.length ≤ 9223372036854775807) {w : World} {fr : List HProp} (H : Holds w fr) : Calls Tryd.prog 22 #[str l] w (ret fun v w' => v = .int .i64 (numB l) ∧ Holds w' fr) := by
  refine calls_of Tryd.func22 rfl (by kernel_rfl) ?_
  repeat refine C_seq ?_
  refine C_region ?_
  first | refine Lp_pv rfl rfl ?_ | refine Lp_mv rfl rfl ?_
  refine Lp_nil ?_
  repeat refine C_seq ?_
  refine C_join (fun ms σ w => ms = [] ∧ σ 0 = str l ∧ σ 21 = .bool (decide (badB l)) ∧ Holds w fr) ?_ ?_
  · repeat refine C_seq ?_
    refine C_region ?_
    first | refine Lp_pv rfl rfl ?_ | refine Lp_mv rfl rfl ?_
    first | refine Lp_pv rfl rfl ?_ | refine Lp_s rfl (St_eqPtrNil rfl rfl (.inl rfl) rfl ?_) | refine Lp_s rfl (St_eqMapNil rfl rfl (.inl rfl) rfl ?_) | refine Lp_s rfl (St_eqPair rfl rfl (.inl rfl) rfl ?_) | refine Lp_s rfl (St_eqBool rfl rfl (.inl rfl) rfl ?_) | refine Lp_s rfl (St_eqS rfl rfl (.inl rfl) rfl ?_) | refine Lp_s rfl (St_eqSliceNil rfl rfl (.inl rfl) rfl ?_) | refine Lp_s rfl (St_eqStr rfl rfl (.inl rfl) rfl ?_)
    by_cases h0 : l = []
    · subst h0
      first | refine Lp_pv rfl rfl ?_ | refine Lp_mv rfl rfl ?_
      first | refine Lp_gpv rfl rfl rfl rfl ?_ | refine Lp_no rfl rfl rfl ?_ | refine Lp_nn rfl rfl ?_
      first | refine Lp_g rfl rfl rfl (St_lenStr rfl rfl ?_) | refine Lp_g rfl rfl rfl (St_lenString rfl rfl ?_) | refine Lp_no rfl rfl rfl ?_ | refine Lp_nn rfl rfl ?_
      first | refine Lp_gpv rfl rfl rfl rfl ?_ | refine Lp_no rfl rfl rfl ?_ | refine Lp_nn rfl rfl ?_
      refine Lp_pv rfl rfl ?_
      first | refine Lp_pv rfl rfl ?_ | refine Lp_mv rfl rfl ?_
      first | refine Lp_gpv rfl rfl rfl rfl ?_ | refine Lp_no rfl rfl rfl ?_ | refine Lp_nn rfl rfl ?_
      first | refine Lp_g rfl rfl rfl (St_lenStr rfl rfl ?_) | refine Lp_g rfl rfl rfl (St_lenString rfl rfl ?_) | refine Lp_no rfl rfl rfl ?_ | refine Lp_nn rfl rfl ?_
      first | refine Lp_gpv rfl rfl rfl rfl ?_ | refine Lp_no rfl rfl rfl ?_ | refine Lp_nn rfl rfl ?_
      first | refine Lp_gpv rfl rfl rfl rfl ?_ | refine Lp_no rfl rfl rfl ?_ | refine Lp_nn rfl rfl ?_
      first | refine Lp_gpv rfl rfl rfl rfl ?_ | refine Lp_no rfl rfl rfl ?_ | refine Lp_nn rfl rfl ?_
      refine Lp_nn rfl rfl ?_
      first | refine Lp_gpv rfl rfl rfl rfl ?_ | refine Lp_g rfl rfl rfl (St_eqPtrNil rfl rfl (.inl rfl) rfl ?_) | refine Lp_g rfl rfl rfl (St_eqMapNil rfl rfl (.inl rfl) rfl ?_) | refine Lp_g rfl rfl rfl (St_eqPair rfl rfl (.inl rfl) rfl ?_) | refine Lp_g rfl rfl rfl (St_eqBool rfl rfl (.inl rfl) rfl ?_) | refine Lp_g rfl rfl rfl (St_eqS rfl rfl (.inl rfl) rfl ?_) | refine Lp_g rfl rfl rfl (St_eqSliceNil rfl rfl (.inl rfl) rfl ?_) | refine Lp_g rfl rfl rfl (St_eqStr rfl rfl (.inl rfl) rfl ?_) | refine Lp_no rfl rfl rfl ?_ | refine Lp_nn rfl rfl ?_
      first | refine Lp_gpv rfl rfl rfl rfl ?_ | refine Lp_no rfl rfl rfl ?_ | refine Lp_nn rfl rfl ?_
      refine Lp_pv rfl rfl ?_
      refine Lp_nil ?_
      exact ⟨rfl, rfl, rfl, rfl, H⟩
    · rw [decide_eq_false h0]
      first | refine Lp_pv rfl rfl ?_ | refine Lp_mv rfl rfl ?_
      first | refine Lp_gpv rfl rfl rfl rfl ?_ | refine Lp_no rfl rfl rfl ?_ | refine Lp_nn rfl rfl ?_
      first | refine Lp_g rfl rfl rfl (St_lenStr rfl rfl ?_) | refine Lp_g rfl rfl rfl (St_lenString rfl rfl ?_) | refine Lp_no rfl rfl rfl ?_ | refine Lp_nn rfl rfl ?_
      first | refine Lp_gpv rfl rfl rfl rfl ?_ | refine Lp_no rfl rfl rfl ?_ | refine Lp_nn rfl rfl ?_
      by_cases h4 : (l.length : Int) > 4
      · rw [decide_eq_true h4]
        refine Lp_pv rfl rfl ?_
        first | refine Lp_pv rfl rfl ?_ | refine Lp_mv rfl rfl ?_
        first | refine Lp_gpv rfl rfl rfl rfl ?_ | refine Lp_no rfl rfl rfl ?_ | refine Lp_nn rfl rfl ?_
        first | refine Lp_g rfl rfl rfl (St_lenStr rfl rfl ?_) | refine Lp_g rfl rfl rfl (St_lenString rfl rfl ?_) | refine Lp_no rfl rfl rfl ?_ | refine Lp_nn rfl rfl ?_
        first | refine Lp_gpv rfl rfl rfl rfl ?_ | refine Lp_no rfl rfl rfl ?_ | refine Lp_nn rfl rfl ?_
        first | refine Lp_gpv rfl rfl rfl rfl ?_ | refine Lp_no rfl rfl rfl ?_ | refine Lp_nn rfl rfl ?_
        first | refine Lp_gpv rfl rfl rfl rfl ?_ | refine Lp_no rfl rfl rfl ?_ | refine Lp_nn rfl rfl ?_
        refine Lp_nn rfl rfl ?_
        first | refine Lp_gpv rfl rfl rfl rfl ?_ | refine Lp_g rfl rfl rfl (St_eqPtrNil rfl rfl (.inl rfl) rfl ?_) | refine Lp_g rfl rfl rfl (St_eqMapNil rfl rfl (.inl rfl) rfl ?_) | refine Lp_g rfl rfl rfl (St_eqPair rfl rfl (.inl rfl) rfl ?_) | refine Lp_g rfl rfl rfl (St_eqBool rfl rfl (.inl rfl) rfl ?_) | refine Lp_g rfl rfl rfl (St_eqS rfl rfl (.inl rfl) rfl ?_) | refine Lp_g rfl rfl rfl (St_eqSliceNil rfl rfl (.inl rfl) rfl ?_) | refine Lp_g rfl rfl rfl (St_eqStr rfl rfl (.inl rfl) rfl ?_) | refine Lp_no rfl rfl rfl ?_ | refine Lp_nn rfl rfl ?_
        first | refine Lp_gpv rfl rfl rfl rfl ?_ | refine Lp_no rfl rfl rfl ?_ | refine Lp_nn rfl rfl ?_
        refine Lp_pv rfl rfl ?_
        refine Lp_nil ?_
        refine ⟨rfl, rfl, rfl, ?_, H⟩
        rw [decide_eq_true (show badB l from .inr (.inl (by omega)))]
        rfl
      · rw [decide_eq_false h4]
        refine Lp_pv rfl rfl ?_
        first | refine Lp_pv rfl rfl ?_ | refine Lp_mv rfl rfl ?_
        first | refine Lp_gpv rfl rfl rfl rfl ?_ | refine Lp_no rfl rfl rfl ?_ | refine Lp_nn rfl rfl ?_
        first | refine Lp_g rfl rfl rfl (St_lenStr rfl rfl ?_) | refine Lp_g rfl rfl rfl (St_lenString rfl rfl ?_) | refine Lp_no rfl rfl rfl ?_ | refine Lp_nn rfl rfl ?_
        first | refine Lp_gpv rfl rfl rfl rfl ?_ | refine Lp_no rfl rfl rfl ?_ | refine Lp_nn rfl rfl ?_
        by_cases h1 : (l.length : Int) > 1
        · rw [decide_eq_true h1]
          first | refine Lp_gpv rfl rfl rfl rfl ?_ | refine Lp_no rfl rfl rfl ?_ | refine Lp_nn rfl rfl ?_
          first | refine Lp_gpv rfl rfl rfl rfl ?_ | refine Lp_no rfl rfl rfl ?_ | refine Lp_nn rfl rfl ?_
          have hb := List.getElem?_eq_getElem (l := l) (i := 0) (by omega)
          generalize l[0]'(by omega) = b at hb
          refine Lp_g rfl rfl rfl (St_indexStr (b := b) rfl rfl (by decide) hb rfl ?_)
          first | refine Lp_gpv rfl rfl rfl rfl ?_ | refine Lp_g rfl rfl rfl (St_eqPtrNil rfl rfl (.inl rfl) rfl ?_) | refine Lp_g rfl rfl rfl (St_eqMapNil rfl rfl (.inl rfl) rfl ?_) | refine Lp_g rfl rfl rfl (St_eqPair rfl rfl (.inl rfl) rfl ?_) | refine Lp_g rfl rfl rfl (St_eqBool rfl rfl (.inl rfl) rfl ?_) | refine Lp_g rfl rfl rfl (St_eqS rfl rfl (.inl rfl) rfl ?_) | refine Lp_g rfl rfl rfl (St_eqSliceNil rfl rfl (.inl rfl) rfl ?_) | refine Lp_g rfl rfl rfl (St_eqStr rfl rfl (.inl rfl) rfl ?_) | refine Lp_no rfl rfl rfl ?_ | refine Lp_nn rfl rfl ?_
          first | refine Lp_gpv rfl rfl rfl rfl ?_ | refine Lp_no rfl rfl rfl ?_ | refine Lp_nn rfl rfl ?_
          refine Lp_pv rfl rfl ?_
          refine Lp_nil ?_
          refine ⟨rfl, rfl, rfl, ?_, H⟩
          show Value.bool ((b.toNat : Int) == 48) = _
          rw [show ((b.toNat : Int) == 48) = decide (b = 48) from u8_lit (k := 48) (by decide)]
          congr 1
          refine decide_eq_decide.2 ?_
          unfold badB
          rw [hb]
          constructor
          · intro e
            exact .inr (.inr ⟨by omega, by rw [e]⟩)
          · rintro (e | e | ⟨_, e⟩)
            · exact absurd e h0
            · omega
            · exact Option.some.inj e
        · rw [decide_eq_false h1]
          first | refine Lp_gpv rfl rfl rfl rfl ?_ | refine Lp_no rfl rfl rfl ?_ | refine Lp_nn rfl rfl ?_
          first | refine Lp_gpv rfl rfl rfl rfl ?_ | refine Lp_no rfl rfl rfl ?_ | refine Lp_nn rfl rfl ?_
          refine Lp_no rfl rfl rfl ?_
          first | refine Lp_gpv rfl rfl rfl rfl ?_ | refine Lp_g rfl rfl rfl (St_eqPtrNil rfl rfl (.inl rfl) rfl ?_) | refine Lp_g rfl rfl rfl (St_eqMapNil rfl rfl (.inl rfl) rfl ?_) | refine Lp_g rfl rfl rfl (St_eqPair rfl rfl (.inl rfl) rfl ?_) | refine Lp_g rfl rfl rfl (St_eqBool rfl rfl (.inl rfl) rfl ?_) | refine Lp_g rfl rfl rfl (St_eqS rfl rfl (.inl rfl) rfl ?_) | refine Lp_g rfl rfl rfl (St_eqSliceNil rfl rfl (.inl rfl) rfl ?_) | refine Lp_g rfl rfl rfl (St_eqStr rfl rfl (.inl rfl) rfl ?_) | refine Lp_no rfl rfl rfl ?_ | refine Lp_nn rfl rfl ?_
          first | refine Lp_gpv rfl rfl rfl rfl ?_ | refine Lp_no rfl rfl rfl ?_ | refine Lp_nn rfl rfl ?_
          refine Lp_pv rfl rfl ?_
          refine Lp_nil ?_
          refine ⟨rfl, rfl, rfl, ?_, H⟩
          rw [decide_eq_false (show ¬ badB l by
            unfold badB
            rintro (e | e | ⟨e, _⟩)
            · exact h0 e
            · omega
            · omega)]
          rfl
  · clear H
    rintro ms σ w ⟨rfl, h0, h21, H⟩
    rw [upd_self h0, upd_self h21]
    refine C_dec rfl (fun hbad => ?_) (fun hbad => C_skip ?_)
    · repeat refine C_seq ?_
      refine C_region ?_
      first | refine Lp_pv rfl rfl ?_ | refine Lp_mv rfl rfl ?_
      refine Lp_nil ?_
      refine C_ret (fn_end0 _ (.inr rfl) H rfl fun w' H' => ⟨?_, H'⟩)
      show Value.int .i64 (-1) = _
      unfold numB
      rw [if_pos]
      rcases hbad with h | h | h
      · exact .inl h
      · exact .inr (.inl h)
      · exact .inr (.inr (.inl ⟨h.1, by rw [List.head?_eq_getElem?]; exact h.2⟩))
    · have hb4 : l.length ≤ 4 := by
        have : ¬ 4 < l.length := fun h => hbad (.inr (.inl h))
        omega
      repeat refine C_seq ?_
      refine C_region ?_
      first | refine Lp_pv rfl rfl ?_ | refine Lp_mv rfl rfl ?_
      refine Lp_nil ?_
      repeat refine C_seq ?_
      refine C_region ?_
      first | refine Lp_pv rfl rfl ?_ | refine Lp_mv rfl rfl ?_
      first | refine Lp_s rfl (St_lenStr rfl rfl ?_) | refine Lp_s rfl (St_lenString rfl rfl ?_)
      first | refine Lp_pv rfl rfl ?_ | refine Lp_mv rfl rfl ?_
      refine Lp_nil ?_
      repeat refine C_seq ?_
      refine C_block ?_
      refine C_loop (fun ms σ w n => ms = [] ∧ ∃ i : Nat, i ≤ l.length ∧ n = l.length - i ∧ (l.take i).all isDig = true ∧ σ 0 = str l ∧ σ 3 = .int .i64 (digs (l.take i) : Nat) ∧ σ 23 = .int .i64 l.length ∧ σ 24 = .int .i64 i ∧ Holds w fr) (m := l.length) ⟨rfl, 0, by omega, rfl, rfl, rfl, rfl, rfl, rfl, H⟩ ?_
      clear H
      rintro ms σ w n ⟨rfl, i, hi, rfl, hd, h0, h3, h23, h24, H⟩
      rw [upd_self h0, upd_self h3, upd_self h23, upd_self h24]
      have hlt4 := digs_lt _ hd
      rw [List.length_take] at hlt4
      repeat refine C_seq ?_
      refine C_region ?_
      refine Lp_pv rfl rfl ?_
      refine Lp_nil ?_
      repeat refine C_seq ?_
      refine C_dec rfl (fun h => C_skip ?_) (fun h => C_exit ?_)
      · have hlt : i < l.length := by omega
        have hb := List.getElem?_eq_getElem hlt
        generalize l[i] = b at hb
        have htk : l.take (i + 1) = l.take i ++ [b] := by rw [List.take_add_one, hb]; rfl
        have hbl := UInt8.toNat_lt b
        have h1000 : digs (l.take i) < 10000 := Nat.lt_of_lt_of_le hlt4 (Nat.pow_le_pow_right (by decide) (show min i l.length ≤ 4 by omega))
        repeat refine C_seq ?_
        refine C_block ?_
        repeat refine C_seq ?_
        refine C_region ?_
        first | refine Lp_pv rfl rfl ?_ | refine Lp_mv rfl rfl ?_
        first | refine Lp_pv rfl rfl ?_ | refine Lp_mv rfl rfl ?_
        refine Lp_nil ?_
        repeat refine C_seq ?_
        refine C_join (fun ms σ w => ms = [] ∧ σ 0 = str l ∧ σ 3 = .int .i64 (digs (l.take i) : Nat) ∧ σ 4 = .int .i64 i ∧ σ 23 = .int .i64 l.length ∧ σ 24 = .int .i64 i ∧ σ 36 = .bool (!isDig b) ∧ Holds w fr) ?_ ?_
        · repeat refine C_seq ?_
          refine C_region ?_
          first | refine Lp_pv rfl rfl ?_ | refine Lp_mv rfl rfl ?_
          first | refine Lp_pv rfl rfl ?_ | refine Lp_mv rfl rfl ?_
          refine Lp_s rfl (St_indexStr (b := b) rfl rfl (by omega) hb rfl ?_)
          refine Lp_pv rfl rfl ?_
          by_cases h48 : (b.toNat : Int) < 48
          · rw [decide_eq_true h48]
            first | refine Lp_pv rfl rfl ?_ | refine Lp_mv rfl rfl ?_
            first | refine Lp_gpv rfl rfl rfl rfl ?_ | refine Lp_no rfl rfl rfl ?_ | refine Lp_nn rfl rfl ?_
            first | refine Lp_gpv rfl rfl rfl rfl ?_ | refine Lp_no rfl rfl rfl ?_ | refine Lp_nn rfl rfl ?_
            refine Lp_no rfl rfl rfl ?_
            first | refine Lp_gpv rfl rfl rfl rfl ?_ | refine Lp_no rfl rfl rfl ?_ | refine Lp_nn rfl rfl ?_
            refine Lp_pv rfl rfl ?_
            refine Lp_nil ?_
            refine ⟨rfl, rfl, rfl, rfl, rfl, rfl, rfl, ?_, H⟩
            rw [show isDig b = false by unfold isDig; rw [decide_eq_false (by omega), Bool.false_and]]
            rfl
          · rw [decide_eq_false h48]
            first | refine Lp_pv rfl rfl ?_ | refine Lp_mv rfl rfl ?_
            first | refine Lp_gpv rfl rfl rfl rfl ?_ | refine Lp_no rfl rfl rfl ?_ | refine Lp_nn rfl rfl ?_
            first | refine Lp_gpv rfl rfl rfl rfl ?_ | refine Lp_no rfl rfl rfl ?_ | refine Lp_nn rfl rfl ?_
            refine Lp_g rfl rfl rfl (St_indexStr (b := b) rfl rfl (by omega) hb rfl ?_)
            first | refine Lp_gpv rfl rfl rfl rfl ?_ | refine Lp_no rfl rfl rfl ?_ | refine Lp_nn rfl rfl ?_
            refine Lp_pv rfl rfl ?_
            refine Lp_nil ?_
            refine ⟨rfl, rfl, rfl, rfl, rfl, rfl, rfl, ?_, H⟩
            show Value.bool (decide ((b.toNat : Int) > 57)) = _
            unfold isDig
            rw [decide_eq_true (show 48 ≤ b.toNat by omega), Bool.true_and, ← decide_not]
            congr 1
            exact decide_eq_decide.2 (by omega)
        · clear H
          rintro ms σ w ⟨rfl, h0, h3, h4, h23, h24, h36, H⟩
          rw [upd_self h0, upd_self h3, upd_self h4, upd_self h23, upd_self h24, upd_self h36]
          refine C_cond rfl (fun hx => ?_) (fun hx => C_skip ?_)
          · have hx : isDig b = false := by simpa using hx
            repeat refine C_seq ?_
            refine C_region ?_
            first | refine Lp_pv rfl rfl ?_ | refine Lp_mv rfl rfl ?_
            refine Lp_nil ?_
            refine C_ret (fn_end0 _ (.inr rfl) H rfl fun w' H' => ⟨?_, H'⟩)
            show Value.int .i64 (-1) = _
            unfold numB
            rw [if_pos]
            refine .inr (.inr (.inr ?_))
            rw [List.all_eq_false]
            exact ⟨b, List.mem_of_getElem? hb, by rw [hx]; decide⟩
          · have hx : isDig b = true := by simpa using hx
            have hx2 := hx
            simp only [isDig, Bool.and_eq_true, decide_eq_true_eq] at hx2
            repeat refine C_seq ?_
            refine C_region ?_
            first | refine Lp_pv rfl rfl ?_ | refine Lp_mv rfl rfl ?_
            refine Lp_pv rfl rfl ?_
            first | refine Lp_pv rfl rfl ?_ | refine Lp_mv rfl rfl ?_
            first | refine Lp_pv rfl rfl ?_ | refine Lp_mv rfl rfl ?_
            refine Lp_s rfl (St_indexStr (b := b) rfl rfl (by omega) hb rfl ?_)
            refine Lp_pv rfl rfl ?_
            refine Lp_s rfl (St_convI rfl rfl ?_)
            refine Lp_pv rfl rfl ?_
            first | refine Lp_pv rfl rfl ?_ | refine Lp_mv rfl rfl ?_
            refine Lp_nil ?_
            have ev : IntKind.i64.wrap (IntKind.i64.wrap (10 * (digs (l.take i) : Nat)) + IntKind.i64.wrap (IntKind.u8.wrap ((b.toNat : Int) - 48))) = ((10 * digs (l.take i) + (b.toNat - 48) : Nat) : Int) := by
              have e1 : IntKind.u8.wrap ((b.toNat : Int) - 48) = (b.toNat : Int) - 48 := by simp [IntKind.wrap, IntKind.bits, IntKind.signed]; omega
              rw [e1, wrap64 (x := 10 * (digs (l.take i) : Nat)) (by omega) (by omega), wrap64 (x := (b.toNat : Int) - 48) (by omega) (by omega), wrap64 (by omega) (by omega)]
              omega
            repeat refine C_seq ?_
            refine C_region ?_
            refine Lp_pv rfl rfl ?_
            first | refine Lp_pv rfl rfl ?_ | refine Lp_mv rfl rfl ?_
            refine Lp_nil ?_
            refine ⟨_, ⟨rfl, i + 1, hlt, rfl, ?_, rfl, ?_, rfl, inc64 (by omega), H⟩, by omega⟩
            · rw [htk, List.all_append, hd]
              simp [hx]
            · rw [htk, digs_snoc, ← ev]
              rfl
      · have hge : i = l.length := by omega
        subst hge
        rw [List.take_length] at hd ⊢
        repeat refine C_seq ?_
        refine C_region ?_
        first | refine Lp_pv rfl rfl ?_ | refine Lp_mv rfl rfl ?_
        first | refine Lp_pv rfl rfl ?_ | refine Lp_mv rfl rfl ?_
        refine Lp_nil ?_
        refine C_ret (fn_end0 _ (.inr rfl) H rfl fun w' H' => ⟨?_, H'⟩)
        show Value.int .i64 (digs l : Nat) = _
        unfold numB
        rw [if_neg]
        rintro (h | h | h | h)
        · exact hbad (.inl h)
        · exact hbad (.inr (.inl h))
        · exact hbad (.inr (.inr ⟨h.1, by rw [← List.head?_eq_getElem?]; exact h.2⟩))
        · rw [hd] at h
          cases h
end Go.Proofs.YtdpephigccnkdaaDoor
