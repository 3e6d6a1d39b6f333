/- Tokens: the plain laws: a text tells its token, a token its text. No condition. -/
import Derived.Test.YtdpephigccnkdaaDoorTokH
set_option linter.unusedVariables false
set_option linter.unusedSimpArgs false
set_option linter.unusedSectionVars false
namespace Go.Proofs.YtdpephigccnkdaaDoor
open Go.SL

theorem u8_toNat {k : Nat} (h : k < 256) : (UInt8.ofNat k).toNat = k := by simp; omega

theorem dec_ne (n : Nat) : Lib.decDigits n ≠ [] := by
  by_cases h : n < 10
  · rw [dec_small h]; simp
  · rw [dec_big h]; simp

theorem dec_strong {p : Nat → Prop} (hs : ∀ n, n < 10 → p n) (hb : ∀ n, ¬ n < 10 → p (n / 10) → p n) (n : Nat) : p n := by
  induction n using Nat.strongRecOn with
  | _ n ih =>
    by_cases h : n < 10
    · exact hs n h
    · exact hb n h (ih (n / 10) (by omega))

theorem dec_dig (n : Nat) : (Lib.decDigits n).all isDig = true := by
  refine dec_strong (p := fun n => (Lib.decDigits n).all isDig = true) (fun n h => ?_) (fun n h ih => ?_) n
  · rw [dec_small h, List.all_cons, List.all_nil, Bool.and_true]
    unfold isDig
    rw [u8_toNat (by omega)]
    simp
    omega
  · rw [dec_big h, List.all_append, ih, List.all_cons, List.all_nil, Bool.true_and, Bool.and_true]
    unfold isDig
    rw [u8_toNat (by omega)]
    simp
    omega

theorem dec_digs (n : Nat) : digs (Lib.decDigits n) = n := by
  refine dec_strong (p := fun n => digs (Lib.decDigits n) = n) (fun n h => ?_) (fun n h ih => ?_) n
  · rw [dec_small h]
    show 10 * 0 + ((UInt8.ofNat (48 + n)).toNat - 48) = n
    rw [u8_toNat (by omega)]
    omega
  · rw [dec_big h, digs_snoc, ih, u8_toNat (by omega)]
    omega

theorem dec_le : ∀ (k n : Nat), n < 10 ^ (k + 1) → (Lib.decDigits n).length ≤ k + 1
  | 0, n, h => by rw [dec_small (by simpa using h)]; simp
  | k + 1, n, h => by
    by_cases h10 : n < 10
    · rw [dec_small h10]; simp
    · rw [dec_big h10, List.length_append]
      have := dec_le k (n / 10) (by rw [Nat.pow_succ] at h; omega)
      simp only [List.length_singleton]
      omega

theorem dec_head (n : Nat) : 1 ≤ n → (Lib.decDigits n)[0]? ≠ some 48 := by
  refine dec_strong (p := fun n => 1 ≤ n → (Lib.decDigits n)[0]? ≠ some 48) (fun n h h1 e => ?_) (fun n h ih h1 e => ?_) n
  · rw [dec_small h] at e
    have e : UInt8.ofNat (48 + n) = 48 := by simpa using e
    have := congrArg UInt8.toNat e
    rw [u8_toNat (by omega)] at this
    have h48 : (48 : UInt8).toNat = 48 := rfl
    omega
  · rw [dec_big h, List.getElem?_append_left (by have := List.length_pos_iff.2 (dec_ne (n / 10)); omega)] at e
    exact ih (by omega) e

theorem dec_good {n : Nat} (h : n < 10000) : numB (Lib.decDigits n) = n := by
  unfold numB
  rw [if_neg, dec_digs]
  rintro (h1 | h1 | ⟨h1, h2⟩ | h1)
  · exact dec_ne n h1
  · have := dec_le 3 n h
    omega
  · rw [List.head?_eq_getElem?] at h2
    by_cases h0 : n = 0
    · subst h0
      rw [dec_small (by decide)] at h1
      simp at h1
    · exact dec_head n (by omega) h2
  · rw [dec_dig] at h1
    cases h1

theorem digs_pos : ∀ {l : List UInt8}, l.all isDig = true → l ≠ [] → l[0]? ≠ some 48 → 1 ≤ digs l := by
  intro l h hne h0
  cases l with
  | nil => exact absurd rfl hne
  | cons b l =>
    have key : ∀ (l : List UInt8) (n : Nat), 1 ≤ n → 1 ≤ l.foldl (fun n b => 10 * n + (b.toNat - 48)) n := by
      intro l
      induction l with
      | nil => intro n h; exact h
      | cons b l ih => intro n h; rw [List.foldl_cons]; exact ih _ (by omega)
    show 1 ≤ l.foldl _ (10 * 0 + (b.toNat - 48))
    refine key _ _ ?_
    simp only [List.all_cons, Bool.and_eq_true] at h
    have h2 := h.1
    simp only [isDig, Bool.and_eq_true, decide_eq_true_eq] at h2
    have : b ≠ 48 := fun e => h0 (by rw [e]; rfl)
    have : b.toNat ≠ 48 := fun e => this (by rw [← UInt8.toNat_inj]; exact e)
    omega

theorem digs_dec : ∀ (k : Nat) (l : List UInt8), l.length = k → l.all isDig = true → l ≠ [] → (1 < l.length → l[0]? ≠ some 48) → Lib.decDigits (digs l) = l
  | 0, l, hk, _, hne, _ => absurd (List.eq_nil_of_length_eq_zero hk) hne
  | k + 1, l, hk, hd, hne, h0 => by
    have hl := List.dropLast_concat_getLast hne
    generalize l.dropLast = l' at hl
    generalize l.getLast hne = b at hl
    subst hl
    rw [List.all_append, Bool.and_eq_true, List.all_cons, List.all_nil, Bool.and_true] at hd
    have h2 := hd.2
    simp only [isDig, Bool.and_eq_true, decide_eq_true_eq] at h2
    rw [digs_snoc]
    by_cases hn : l' = []
    · subst hn
      have : digs [] = 0 := rfl
      rw [this, dec_small (by omega), show 48 + (10 * 0 + (b.toNat - 48)) = b.toNat by omega]
      simp
    · have hlp := List.length_pos_iff.2 hn
      have h0' : l'[0]? ≠ some 48 := by
        have := h0 (by rw [List.length_append, List.length_singleton]; omega)
        rw [List.getElem?_append_left hlp] at this
        exact this
      have hp := digs_pos hd.1 hn h0'
      have ih := digs_dec k l' (by rw [List.length_append, List.length_singleton] at hk; omega) hd.1 hn (fun _ => h0')
      rw [dec_big (by omega), show (10 * digs l' + (b.toNat - 48)) / 10 = digs l' by omega, ih, show 48 + (10 * digs l' + (b.toNat - 48)) % 10 = b.toNat by omega]
      simp

theorem num_dec {l : List UInt8} (h : 0 ≤ numB l) : Lib.decDigits (numB l).toNat = l := by
  unfold numB at h ⊢
  split at h
  · omega
  · rename_i hb
    rw [if_neg hb]
    refine digs_dec _ l rfl ?_ (fun e => hb (.inl e)) (fun h1 e => hb (.inr (.inr (.inl ⟨h1, by rw [List.head?_eq_getElem?]; exact e⟩))))
    cases ha : l.all isDig with
    | true => rfl
    | false => exact absurd (.inr (.inr (.inr ha))) hb

theorem dig_ne {l : List UInt8} (h : l.all isDig = true) : (46 : UInt8) ∉ l := fun hm => by
  have := List.all_eq_true.1 h _ hm
  simp [isDig] at this

theorem cutB_at : ∀ (a b : List UInt8) (c : UInt8), c ∉ a → cutB (a ++ c :: b) c = (a, b, true)
  | [], b, c, _ => by simp [cutB]
  | x :: a, b, c, h => by
    have hx : x ≠ c := fun e => h (by simp [e])
    have ih := cutB_at a b c (fun e => h (by simp [e]))
    show cutB (x :: (a ++ c :: b)) c = _
    unfold cutB
    rw [if_neg hx, ih]
theorem cutB_true : ∀ (l : List UInt8) (c : UInt8), (cutB l c).2.2 = true → l = (cutB l c).1 ++ c :: (cutB l c).2.1
  | [], _, h => by simp [cutB] at h
  | x :: l, c, h => by
    unfold cutB at h ⊢
    by_cases hx : x = c
    · rw [if_pos hx, hx]; rfl
    · rw [if_neg hx] at h ⊢
      have := cutB_true l c h
      show x :: l = x :: ((cutB l c).1 ++ c :: (cutB l c).2.1)
      rw [← this]

/-- A right token's text tells it. -/
theorem text_good {t : Tk} (h : rightB t = true) : goodB (textT t) ∧ tokB (textT t) = t := by
  obtain ⟨a, g, rfl, h1, h2, h3⟩ := right_nat h
  have ht : textT ((a : Int), (g : Int)) = 35 :: (Lib.decDigits a ++ 46 :: Lib.decDigits g) := by
    show [35] ++ Lib.decDigits a ++ [46] ++ Lib.decDigits g = _
    simp
  have hr : restB (textT ((a : Int), (g : Int))) = Lib.decDigits a ++ 46 :: Lib.decDigits g := by rw [ht]; rfl
  have hc := cutB_at (Lib.decDigits a) (Lib.decDigits g) 46 (dig_ne (dec_dig a))
  have htk : tokB (textT ((a : Int), (g : Int))) = ((a : Int), (g : Int)) := by
    unfold tokB
    rw [hr, hc, dec_good (by omega), dec_good (by omega)]
  refine ⟨⟨by rw [ht]; rfl, by rw [hr, hc], by rw [htk]; exact h⟩, htk⟩

/-- A text that tells a token is its text. -/
theorem good_text {s : List UInt8} (h : goodB s) : textT (tokB s) = s := by
  obtain ⟨h1, h2, h3⟩ := h
  have hs : s = 35 :: restB s := by
    unfold restB
    rw [if_pos h1]
    conv => lhs; rw [← List.take_append_drop 1 s, h1]
    rfl
  have hc := cutB_true _ _ h2
  have hr := of_decide_eq_true h3
  have ha : Lib.decDigits (tokB s).1.toNat = (cutB (restB s) 46).1 := num_dec hr.1
  have hb : Lib.decDigits (tokB s).2.toNat = (cutB (restB s) 46).2.1 := num_dec (by have := hr.2.2.1; unfold tokB at this; dsimp only at this; omega)
  unfold textT
  rw [ha, hb]
  conv => rhs; rw [hs, hc]
  simp

theorem scan_dig0 : ∀ (l : List UInt8) (n k : Nat) (m : Int), l.all isDig = true → n < 10 ^ k → k + l.length ≤ 6 → l.foldl scanStep ((n : Int), m, false) = (((l.foldl (fun n b => 10 * n + (b.toNat - 48)) n : Nat) : Int), m, false)
  | [], n, k, m, _, _, _ => rfl
  | b :: l, n, k, m, h, hn, hk => by
    simp only [List.all_cons, Bool.and_eq_true] at h
    have h2 := h.1
    simp only [isDig, Bool.and_eq_true, decide_eq_true_eq] at h2
    rw [List.length_cons] at hk
    have hb : b ≠ 46 := by
      rintro rfl
      have : (46 : UInt8).toNat = 46 := rfl
      omega
    have hlt : n * 10 + (b.toNat - 48) < 10 ^ (k + 1) := by rw [Nat.pow_succ]; omega
    have hle : 10 ^ (k + 1) ≤ 1000000 := Nat.pow_le_pow_right (n := 10) (by decide) (show k + 1 ≤ 6 by omega)
    have hs : scanStep ((n : Int), m, false) b = (((10 * n + (b.toNat - 48) : Nat) : Int), m, false) := by
      unfold scanStep scan1
      rw [if_neg hb]
      have : ((n : Int) * 10 + (b.toNat : Int) - 48).tmod 1000000 = ((10 * n + (b.toNat - 48) : Nat) : Int) := by
        rw [Int.tmod_eq_emod_of_nonneg (by omega)]
        omega
      simp [this]
    rw [List.foldl_cons, List.foldl_cons, hs]
    exact scan_dig0 l _ (k + 1) m h.2 (by omega) (by omega)

theorem scan_dig1 : ∀ (l : List UInt8) (n k : Nat) (m : Int), l.all isDig = true → n < 10 ^ k → k + l.length ≤ 6 → l.foldl scanStep (m, (n : Int), true) = (m, ((l.foldl (fun n b => 10 * n + (b.toNat - 48)) n : Nat) : Int), true)
  | [], n, k, m, _, _, _ => rfl
  | b :: l, n, k, m, h, hn, hk => by
    simp only [List.all_cons, Bool.and_eq_true] at h
    have h2 := h.1
    simp only [isDig, Bool.and_eq_true, decide_eq_true_eq] at h2
    rw [List.length_cons] at hk
    have hb : b ≠ 46 := by
      rintro rfl
      have : (46 : UInt8).toNat = 46 := rfl
      omega
    have hlt : n * 10 + (b.toNat - 48) < 10 ^ (k + 1) := by rw [Nat.pow_succ]; omega
    have hle : 10 ^ (k + 1) ≤ 1000000 := Nat.pow_le_pow_right (n := 10) (by decide) (show k + 1 ≤ 6 by omega)
    have hs : scanStep (m, (n : Int), true) b = (m, ((10 * n + (b.toNat - 48) : Nat) : Int), true) := by
      unfold scanStep scan1
      rw [if_neg hb]
      have : ((n : Int) * 10 + (b.toNat : Int) - 48).tmod 1000000 = ((10 * n + (b.toNat - 48) : Nat) : Int) := by
        rw [Int.tmod_eq_emod_of_nonneg (by omega)]
        omega
      simp [this]
    rw [List.foldl_cons, List.foldl_cons, hs]
    exact scan_dig1 l _ (k + 1) m h.2 (by omega) (by omega)

theorem scan_text {t : Tk} (h : rightB t = true) : scanT (textT t) = t ∧ (textT t).length ≤ 20 := by
  obtain ⟨a, g, rfl, h1, h2, h3⟩ := right_nat h
  have ha := dec_le 3 a (by omega)
  have hg := dec_le 3 g (by omega)
  have ht : textT ((a : Int), (g : Int)) = 35 :: (Lib.decDigits a ++ 46 :: Lib.decDigits g) := by
    show [35] ++ Lib.decDigits a ++ [46] ++ Lib.decDigits g = _
    simp
  have hd : (textT ((a : Int), (g : Int))).drop 1 = Lib.decDigits a ++ 46 :: Lib.decDigits g := by rw [ht]; rfl
  have hs : scanS (Lib.decDigits a ++ 46 :: Lib.decDigits g) = ((a : Int), (g : Int), true) := by
    unfold scanS
    rw [List.foldl_append]
    have e0 : (Lib.decDigits a).foldl scanStep (((0 : Nat) : Int), 0, false) = _ := scan_dig0 (Lib.decDigits a) 0 0 0 (dec_dig a) (by decide) (by omega)
    have e0' : (Lib.decDigits a).foldl scanStep (0, 0, false) = ((a : Int), 0, false) := by
      have h := e0
      rw [show (Lib.decDigits a).foldl (fun n b => 10 * n + (b.toNat - 48)) 0 = a from dec_digs a] at h
      exact h
    rw [e0', List.foldl_cons]
    have es : scanStep ((a : Int), 0, false) 46 = ((a : Int), ((0 : Nat) : Int), true) := rfl
    have e1 := scan_dig1 (Lib.decDigits g) 0 0 (a : Int) (dec_dig g) (by decide) (by omega)
    rw [show (Lib.decDigits g).foldl (fun n b => 10 * n + (b.toNat - 48)) 0 = g from dec_digs g] at e1
    rw [es, e1]
  refine ⟨?_, ?_⟩
  · unfold scanT
    rw [hd, hs]
  · rw [ht, List.length_cons, List.length_append, List.length_cons]
    omega

/-- The program's Parse and the document's tell the same. -/
theorem good_iff (s : List UInt8) : goodB s ↔ rgoodB s := by
  constructor
  · intro h
    have h1 := good_text h
    have h2 := scan_text h.2.2
    rw [h1] at h2
    exact ⟨h2.2, by rw [h2.1]; exact h.2.2, by rw [h2.1]; exact h1⟩
  · rintro ⟨_, h2, h3⟩
    have := (text_good h2).1
    rw [h3] at this
    exact this
theorem good_same {s : List UInt8} (h : goodB s) : tokB s = scanT s := by
  have h1 := good_text h
  have h2 := scan_text h.2.2
  rw [h1] at h2
  exact h2.1.symm

/-! Order. -/
theorem cmpT_vals (x y : Tk) : cmpT x y = -1 ∨ cmpT x y = 0 ∨ cmpT x y = 1 := by
  unfold cmpT orI cmpI
  repeat' split
  all_goals omega
theorem cmpT_neg' (x y : Tk) : cmpT y x = - cmpT x y := by
  unfold cmpT orI cmpI
  repeat' split
  all_goals omega
theorem cmpT_zero (x y : Tk) : cmpT x y = 0 ↔ x = y := by
  obtain ⟨a, b⟩ := x
  obtain ⟨c, d⟩ := y
  rw [Prod.mk.injEq]
  unfold cmpT orI cmpI
  dsimp only
  constructor
  · intro h
    repeat' split at h
    all_goals omega
  · rintro ⟨rfl, rfl⟩
    simp
theorem cmpT_le (x y : Tk) : cmpT x y ≤ 0 ↔ ¬ ltT y x := by
  rw [← cmpT_neg, cmpT_neg' x y]
  omega
theorem cmpT_trans1 (x y z : Tk) (h1 : cmpT x y ≤ 0) (h2 : cmpT y z ≤ 0) : cmpT x z ≤ 0 := by
  rw [cmpT_le] at *
  unfold ltT at *
  omega
theorem cmpT_trans2 (x y z : Tk) (h1 : cmpT x y < 0) (h2 : cmpT y z ≤ 0) : cmpT x z < 0 := by
  rw [cmpT_le] at h2
  rw [cmpT_neg] at *
  unfold ltT at *
  omega
end Go.Proofs.YtdpephigccnkdaaDoor
