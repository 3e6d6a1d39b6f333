/- Cells: what is proved on the way: every input of the statement; no condition. Texts joined: CelR BumA ImgA ImgB ImgC ImgD SrtI BagA. -/
import Derived.Test.YtipelpbkeiphmaaGreatDoorBai
import Derived.Test.YtipelpbkeiphmaaGreatDoorBaf
import Derived.Test.YtipelpbkeiphmaaGreatDoorBae
set_option linter.unusedVariables false
set_option linter.unusedSimpArgs false
namespace Go.Proofs.YtipelpbkeiphmaaGreatDoor
/-! ### An object more -/

theorem Lies.chunk {size : Nat} (h1 : 1 ≤ size) {own : List Nat} {e : Ent} (h : Lies size own e) (c : Nat) : (endOf e ≤ c * size ∨ (c + 1) * size ≤ e.addr) ∨ ∃ r : Nat, own[c]? = some r ∧ (r : Int) = e.region ∧ 1 ≤ r := by
  by_cases ha : c < e.addr / size
  · left; right
    have := (Nat.le_div_iff_mul_le (by omega)).1 (Nat.succ_le_of_lt ha)
    exact this
  · by_cases hb : (e.addr + e.ws.length) / size < c
    · left; left
      have := (Nat.div_lt_iff_lt_mul (by omega)).1 hb
      unfold endOf
      omega
    · right
      exact h.2 c (by omega) (by omega)

/-- What Alloc does. -/
inductive Alloced (size : Nat) (own mem : List Nat) (r : Nat) (S : Spc) (n : Nat) : List Nat → List Nat → Spc → Nat → Prop where
  | room (h : n ≤ S.fin - S.at') : Alloced size own mem r S n own mem { S with at' := S.at' + n } S.at'
  | one {a : Nat} (ha : a + 1 ≤ own.length) (hf : own[a]? = some 0) (hn : n ≤ size) : Alloced size own mem r S n (setR own a 1 r) (setR mem (a * size) (1 * size) 0) ⟨S.parts ++ [(a, 1)], a * size + n, (a + 1) * size⟩ (a * size)
  | run {a k : Nat} (hk : 2 ≤ k) (ha : a + k ≤ own.length) (hf : ∀ c, a ≤ c → c < a + k → own[c]? = some 0) (hn : n ≤ k * size) (hn2 : (k - 1) * size < n) : Alloced size own mem r S n (setR own a k r) (setR mem (a * size) (k * size) 0) ⟨S.parts ++ [(a, k)], S.at', S.fin⟩ (a * size)

theorem chunksOf_append (a b : List (Nat × Nat)) : chunksOf (a ++ b) = chunksOf a ++ chunksOf b := by simp [chunksOf]
theorem chunksOf_one (a k : Nat) : chunksOf [(a, k)] = (List.range k).map (a + ·) := by simp [chunksOf]
theorem mem_run {a k c : Nat} : c ∈ (List.range k).map (a + ·) ↔ a ≤ c ∧ c < a + k := by
  simp only [List.mem_map, List.mem_range]
  constructor
  · rintro ⟨i, h, rfl⟩; omega
  · rintro ⟨h1, h2⟩; exact ⟨c - a, by omega, by omega⟩
theorem nodup_run (a k : Nat) : ((List.range k).map (a + ·)).Nodup := by
  refine List.Pairwise.map _ (fun x y h => ?_) List.nodup_range
  omega

/-- Chunks that were nobody's are somebody's. -/
theorem lies_own {size : Nat} {own : List Nat} {a k r : Nat} (ha : a + k ≤ own.length) (hf : ∀ c, a ≤ c → c < a + k → own[c]? = some 0) {e : Ent} (h : Lies size own e) : Lies size (setR own a k r) e := by
  refine ⟨by rw [setR_length ha]; exact h.1, fun c h1 h2 => ?_⟩
  obtain ⟨q, hq, hr, h1⟩ := h.2 c h1 h2
  rw [setR_get ha, if_neg]
  · exact ⟨q, hq, hr, h1⟩
  · rintro ⟨h2, h3⟩
    rw [hf c h2 h3] at hq
    cases hq
    omega
theorem spc_own {size : Nat} {own : List Nat} {a k r : Nat} (ha : a + k ≤ own.length) (hf : ∀ c, a ≤ c → c < a + k → own[c]? = some 0) {q : Int} {S : Spc} (hq : q ≠ r) (h : SpcOK size own q S) : SpcOK size (setR own a k r) q S := by
  refine ⟨h.at1, h.fin, by rw [setR_length ha]; exact h.parts, h.nodup, fun c => ?_⟩
  rw [h.owned, setR_get ha]
  by_cases hc : a ≤ c ∧ c < a + k
  · rw [if_pos hc, hf c hc.1 hc.2]
    constructor
    · rintro ⟨x, h1, _, h3⟩; cases h1; omega
    · rintro ⟨x, h1, h2, _⟩; cases h1; omega
  · rw [if_neg hc]
theorem spc_more {size : Nat} {own : List Nat} {a k r : Nat} (ha : a + k ≤ own.length) (hf : ∀ c, a ≤ c → c < a + k → own[c]? = some 0) (hk : 1 ≤ k) (hr : 1 ≤ r) {S : Spc} (h : SpcOK size own r S) {x y : Nat}
    (h1 : x ≤ y) (h2 : y ≠ 0 → ∃ c, y = (c + 1) * size ∧ c * size < x ∧ (c, 1) ∈ S.parts ++ [(a, k)]) : SpcOK size (setR own a k r) r ⟨S.parts ++ [(a, k)], x, y⟩ := by
  refine ⟨h1, h2, ?_, ?_, fun c => ?_⟩
  · intro p hp
    rw [setR_length ha]
    rcases List.mem_append.1 hp with hp | hp
    · exact h.parts p hp
    · simp at hp
      subst hp
      exact ⟨hk, ha⟩
  · show (chunksOf (S.parts ++ [(a, k)])).Nodup
    rw [chunksOf_append, chunksOf_one, List.nodup_append]
    refine ⟨h.nodup, nodup_run a k, fun c hc d hd => ?_⟩
    rintro rfl
    obtain ⟨q, h1, _, h3⟩ := (h.owned c).1 hc
    have h4 := mem_run.1 hd
    rw [hf c h4.1 h4.2] at h1
    cases h1
    omega
  · show c ∈ chunksOf (S.parts ++ [(a, k)]) ↔ _
    rw [chunksOf_append, chunksOf_one, List.mem_append, mem_run, h.owned, setR_get ha]
    by_cases hc : a ≤ c ∧ c < a + k
    · rw [if_pos hc]
      constructor
      · intro _; exact ⟨r, rfl, rfl, by omega⟩
      · intro _; exact .inr hc
    · rw [if_neg hc]
      constructor
      · rintro (h | h)
        · exact h
        · exact absurd h hc
      · intro h; exact .inl h

theorem mid_of {α : Type} {a b : List α} {x y : α} (h : x ∈ a ++ b) : x ∈ a ++ y :: b := by
  rcases List.mem_append.1 h with h | h
  · exact List.mem_append.2 (.inl h)
  · exact List.mem_append.2 (.inr (List.mem_cons_of_mem _ h))
theorem of_mid {α : Type} {a b : List α} {x y : α} (h : x ∈ a ++ y :: b) : x = y ∨ x ∈ a ++ b := by
  rcases List.mem_append.1 h with h | h
  · exact .inr (List.mem_append.2 (.inl h))
  · rcases List.mem_cons.1 h with h | h
    · exact .inl h
    · exact .inr (List.mem_append.2 (.inr h))
theorem keys_mid {K V : Type} {g1 g2 : List (K × V)} {x x' : K × V} (h : x'.1 = x.1) : (g1 ++ x' :: g2).map (·.1) = (g1 ++ x :: g2).map (·.1) := by simp [h]

/-- The state with one object more. -/
theorem WF_make {s : CS} (h : WF s) {i g0 : Nat} (hi : s.tab[i]? = some ⟨g0, none⟩) (hg : g0 ≤ 254) {r : Nat} {q q2 : Nat} {S : Spc} {L : List Nat} {p1 p2 : List (Int × Nat × Spc)} {m1 m2 : List (Int × Nat × List Nat)}
    (hs : s.sps = p1 ++ ((r : Int), q, S) :: p2) (hm : s.mns = m1 ++ ((r : Int), q2, L) :: m2) (hnd : (s.par.map (·.1)).Nodup) {e : Ent} (hreg : e.region = r) (ok : ObjOK s.lays i e) {own' mem mem' : List Nat} {S' : Spc}
    (al : Alloced s.size s.own mem r S (e.ws.length + 1) own' mem' S' e.addr) {L' : List Nat} (hL : L'.Pairwise (· < ·)) (hL' : ∀ j, j ∈ L' ↔ j = i ∨ j ∈ L) :
    WF { s with own := own', tab := s.tab.set i ⟨g0 + 1, some e⟩, sps := p1 ++ ((r : Int), q, S') :: p2, mns := m1 ++ ((r : Int), q2, L') :: m2 } := by
  have hs1 := h.size.1
  have hil : i < s.tab.length := (List.getElem?_eq_some_iff.1 hi).1
  have hS : SpcOK s.size s.own r S := h.spc ((r : Int), q, S) (by rw [hs]; simp)
  have hlive : ∃ y, ((r : Int), y) ∈ s.par := by
    have : (r : Int) ∈ s.par.map (·.1) := by rw [← h.skeys, hs]; simp
    obtain ⟨⟨a, b⟩, hab, rfl⟩ := List.mem_map.1 this
    exact ⟨b, hab⟩
  have hr1 : 1 ≤ r := by obtain ⟨y, hy⟩ := hlive; have := (h.par.2.2 _ _ hy).1; omega
  have hnk : ((p1 ++ ((r : Int), q, S) :: p2).map (·.1)).Nodup := by rw [← hs, h.skeys]; exact hnd
  have hother : ∀ x ∈ p1 ++ p2, x ∈ s.sps ∧ x.1 ≠ (r : Int) := by
    intro x hx
    refine ⟨by rw [hs]; exact mid_of hx, fun hx1 => ?_⟩
    rw [List.map_append, List.map_cons, List.nodup_append] at hnk
    obtain ⟨_, h2, h3⟩ := hnk
    rcases List.mem_append.1 hx with hx | hx
    · exact h3 x.1 (List.mem_map.2 ⟨x, hx, rfl⟩) (r : Int) (by simp) hx1
    · rw [List.nodup_cons] at h2
      exact h2.1 (List.mem_map.2 ⟨x, hx, hx1⟩)
  have hmem : ∀ x, x ∈ p1 ++ ((r : Int), q, S') :: p2 → x = ((r : Int), q, S') ∨ x ∈ p1 ++ p2 := by
    exact fun x hx => of_mid hx
  -- the parts that the three ways of getting words have in common
  have key : own'.length = s.own.length ∧ Lies s.size own' e ∧ (∀ f, Lies s.size s.own f → Lies s.size own' f) ∧ SpcOK s.size own' r S' ∧ (∀ x ∈ p1 ++ p2, SpcOK s.size own' x.1 x.2.2) ∧
      (∀ (j g : Nat) (f : Ent), s.tab[j]? = some ⟨g, some f⟩ → (endOf f ≤ e.addr ∨ endOf e ≤ f.addr) ∧ (endOf f ≤ S'.at' ∨ S'.fin ≤ f.addr)) ∧ (endOf e ≤ S'.at' ∨ S'.fin ≤ e.addr) ∧ (∀ (c x : Nat), own'[c]? = some x → x ≠ 0 → x = r ∨ s.own[c]? = some x) := by
    generalize hea : e.addr = ad at al
    cases al with
    | room hn =>
      have hfin : S.fin ≠ 0 := by omega
      obtain ⟨c, hc1, hc2, hc3⟩ := hS.fin hfin
      have hcm : c ∈ chunksOf S.parts := by
        unfold chunksOf
        rw [List.mem_flatMap]
        exact ⟨(c, 1), hc3, by simp⟩
      obtain ⟨y, hy1, hy2, hy3⟩ := (hS.owned c).1 hcm
      have hat := hS.at1
      have e1 : e.addr / s.size = c := by rw [hea]; exact Nat.div_eq_of_lt_le (by omega) (by rw [← hc1]; omega)
      have e2 : (e.addr + e.ws.length) / s.size = c := by rw [hea]; exact Nat.div_eq_of_lt_le (by omega) (by rw [← hc1]; omega)
      have hcl : c < s.own.length := (List.getElem?_eq_some_iff.1 hy1).1
      have hle : (c + 1) * s.size ≤ s.own.length * s.size := Nat.mul_le_mul_right _ hcl
      refine ⟨rfl, ⟨by unfold endOf; omega, fun d h1 h2 => ?_⟩, fun _ hf => hf, ⟨by show S.at' + _ ≤ S.fin; omega, fun _ => ⟨c, hc1, by show c * s.size < S.at' + _; omega, hc3⟩, hS.parts, hS.nodup, hS.owned⟩, fun x hx => h.spc x (hother x hx).1, fun j g f hj => ?_, .inl ?_, fun _ _ h1 _ => .inr h1⟩
      · have : d = c := by omega
        subst this
        exact ⟨y, hy1, by rw [hy2, hreg], by omega⟩
      · have : endOf f ≤ S.at' ∨ S.fin ≤ f.addr := h.free ((r : Int), q, S) (by rw [hs]; simp) _ _ _ hj
        have hee : endOf e = S.at' + (e.ws.length + 1) := by unfold endOf; omega
        rw [hee]
        constructor
        · rcases this with h1 | h1
          · left; exact h1
          · right; show S.at' + _ ≤ f.addr; omega
        · rcases this with h1 | h1
          · left; show endOf f ≤ S.at' + _; omega
          · right; exact h1
      · show endOf e ≤ S.at' + _
        unfold endOf; omega
    | @one a ha hf hn =>
      have hf' : ∀ c, a ≤ c → c < a + 1 → s.own[c]? = some 0 := fun c h1 h2 => by rw [show c = a by omega]; exact hf
      have hsz : (a + 1) * s.size = a * s.size + s.size := Nat.succ_mul _ _
      have hle : (a + 1) * s.size ≤ s.own.length * s.size := Nat.mul_le_mul_right _ ha
      have e1 : e.addr / s.size = a := by rw [hea]; exact Nat.mul_div_cancel _ (by omega)
      have e2 : (e.addr + e.ws.length) / s.size = a := by rw [hea]; exact Nat.div_eq_of_lt_le (by omega) (by omega)
      have hoff : ∀ (j g : Nat) (f : Ent), s.tab[j]? = some ⟨g, some f⟩ → endOf f ≤ a * s.size ∨ (a + 1) * s.size ≤ f.addr := fun j g f hj => by
        rcases (h.obj _ _ _ hj).2.1.chunk hs1 a with h1 | ⟨x, h1, _, h3⟩
        · exact h1
        · rw [hf] at h1; cases h1; omega
      refine ⟨setR_length ha, ⟨by rw [setR_length ha]; unfold endOf; omega, fun d h1 h2 => ?_⟩, fun f hl => lies_own ha hf' hl, ?_, fun x hx => spc_own ha hf' (hother x hx).2 (h.spc x (hother x hx).1), fun j g f hj => ?_, .inl ?_, fun c x h1 h2 => ?_⟩
      · have : d = a := by omega
        subst this
        rw [setR_get ha, if_pos (by omega)]
        exact ⟨r, rfl, hreg.symm, hr1⟩
      · exact spc_more ha hf' (by omega) hr1 hS (by omega) (fun _ => ⟨a, rfl, by omega, by simp⟩)
      · have := hoff j g f hj
        have hee : endOf e = a * s.size + (e.ws.length + 1) := by unfold endOf; omega
        rw [hee]
        constructor
        · rcases this with h1 | h1
          · left; exact h1
          · right; omega
        · rcases this with h1 | h1
          · left; show endOf f ≤ a * s.size + _; omega
          · right; exact h1
      · show endOf e ≤ a * s.size + _
        unfold endOf; omega
      · rw [setR_get ha] at h1
        split at h1
        · cases h1; exact .inl rfl
        · exact .inr h1
    | @run a k hk ha hf hn hn2 =>
      have hsz : (a + k) * s.size = a * s.size + k * s.size := Nat.add_mul _ _ _
      have hsz2 : (k - 1 + 1) * s.size = (k - 1) * s.size + s.size := Nat.succ_mul _ _
      rw [show k - 1 + 1 = k by omega] at hsz2
      have hle : (a + k) * s.size ≤ s.own.length * s.size := Nat.mul_le_mul_right _ ha
      have e1 : e.addr / s.size = a := by rw [hea]; exact Nat.mul_div_cancel _ (by omega)
      have e2 : (e.addr + e.ws.length) / s.size < a + k := by rw [hea, Nat.div_lt_iff_lt_mul (by omega)]; omega
      have hoff : ∀ c, a ≤ c → c < a + k → ∀ (j g : Nat) (f : Ent), s.tab[j]? = some ⟨g, some f⟩ → endOf f ≤ c * s.size ∨ (c + 1) * s.size ≤ f.addr := fun c hc1 hc2 j g f hj => by
        rcases (h.obj _ _ _ hj).2.1.chunk hs1 c with h1 | ⟨x, h1, _, h3⟩
        · exact h1
        · rw [hf c hc1 hc2] at h1; cases h1; omega
      have hoff2 : ∀ (j g : Nat) (f : Ent), s.tab[j]? = some ⟨g, some f⟩ → endOf f ≤ a * s.size ∨ (a + k) * s.size ≤ f.addr := fun j g f hj => by
        have hend : f.addr + 1 ≤ endOf f := by unfold endOf; omega
        by_cases h0 : endOf f ≤ a * s.size
        · exact .inl h0
        · refine .inr ?_
          -- each chunk lies ahead of it
          have : ∀ m, m < k → (a + m + 1) * s.size ≤ f.addr := by
            intro m
            induction m with
            | zero =>
              intro _
              rcases hoff a (by omega) (by omega) j g f hj with h1 | h1
              · exact absurd h1 h0
              · exact h1
            | succ m ih =>
              intro hm
              have h2 := ih (by omega)
              rcases hoff (a + (m + 1)) (by omega) (by omega) j g f hj with h1 | h1
              · rw [show a + (m + 1) = a + m + 1 by omega] at h1; omega
              · exact h1
          have := this (k - 1) (by omega)
          rw [show a + (k - 1) + 1 = a + k by omega] at this
          exact this
      refine ⟨setR_length ha, ⟨by rw [setR_length ha]; unfold endOf; omega, fun d h1 h2 => ?_⟩, fun f hl => lies_own ha hf hl, ?_, fun x hx => spc_own ha hf (hother x hx).2 (h.spc x (hother x hx).1), fun j g f hj => ?_, ?_, fun c x h1 h2 => ?_⟩
      · rw [setR_get ha, if_pos (by omega)]
        exact ⟨r, rfl, hreg.symm, hr1⟩
      · refine spc_more ha hf (by omega) hr1 hS hS.at1 (fun h0 => ?_)
        obtain ⟨c, h1, h2, h3⟩ := hS.fin h0
        exact ⟨c, h1, h2, by simp [h3]⟩
      · have := hoff2 j g f hj
        have hee : endOf e = a * s.size + (e.ws.length + 1) := by unfold endOf; omega
        rw [hee]
        refine ⟨?_, h.free ((r : Int), q, S) (by rw [hs]; simp) _ _ _ hj⟩
        rcases this with h1 | h1
        · left; exact h1
        · right; omega
      · show endOf e ≤ S.at' ∨ S.fin ≤ a * s.size
        by_cases h0 : S.fin = 0
        · right; omega
        obtain ⟨c, hc1, hc2, hc3⟩ := hS.fin h0
        have hcm : c ∈ chunksOf S.parts := by
          unfold chunksOf
          rw [List.mem_flatMap]
          exact ⟨(c, 1), hc3, by simp⟩
        obtain ⟨y, hy1, hy2, hy3⟩ := (hS.owned c).1 hcm
        by_cases hca : c < a
        · right
          have : (c + 1) * s.size ≤ a * s.size := Nat.mul_le_mul_right _ hca
          omega
        · by_cases hcb : c < a + k
          · rw [hf c (by omega) hcb] at hy1; cases hy1; omega
          · left
            have : (a + k) * s.size ≤ c * s.size := Nat.mul_le_mul_right _ (by omega)
            unfold endOf
            omega
      · rw [setR_get ha] at h1
        split at h1
        · cases h1; exact .inl rfl
        · exact .inr h1
  obtain ⟨k1, k2, k3, k4, k5, k6, k7, k8⟩ := key
  have hsk : (p1 ++ ((r : Int), q, S') :: p2).map (·.1) = s.par.map (·.1) := by rw [← h.skeys, hs]; exact keys_mid rfl
  have hmk : (m1 ++ ((r : Int), q2, L') :: m2).map (·.1) = s.par.map (·.1) := by rw [← h.mkeys, hm]; exact keys_mid rfl
  have hnm : ((m1 ++ ((r : Int), q2, L) :: m2).map (·.1)).Nodup := by rw [← hm, h.mkeys]; exact hnd
  refine ⟨h.size, by show 1 ≤ own'.length ∧ own'.length ≤ 63; rw [k1]; exact h.own, by show 1 ≤ (s.tab.set _ _).length ∧ (s.tab.set _ _).length ≤ 63; rw [List.length_set]; exact h.slots, h.lays, ?_, ?_, ?_, h.par, hsk, hmk, ?_, ?_, ?_, ?_⟩
  · intro j t hj
    rcases tab_set hj with ⟨rfl, rfl, _⟩ | ⟨_, hj⟩
    · exact ⟨by show g0 + 1 ≤ 255; omega, fun _ => by show 1 ≤ g0 + 1; omega⟩
    · exact h.gen _ _ hj
  · intro j g f hj
    rcases tab_set hj with ⟨rfl, ht, _⟩ | ⟨_, hj⟩
    · injection ht with h1 h2
      injection h2 with h2
      subst h2
      exact ⟨ok, k2, by rw [hreg]; exact hlive⟩
    · obtain ⟨o1, o2, o3⟩ := h.obj _ _ _ hj
      exact ⟨o1, k3 _ o2, o3⟩
  · intro j k m n f f' hne hj hk
    rcases tab_set hj with ⟨rfl, ht, _⟩ | ⟨hji, hj'⟩ <;> rcases tab_set hk with ⟨rfl, hu, _⟩ | ⟨hki, hk'⟩
    · exact absurd rfl hne
    · injection ht with h1 h2
      injection h2 with h2
      subst h2
      exact (k6 _ _ _ hk').1.symm
    · injection hu with h1 h2
      injection h2 with h2
      subst h2
      exact (k6 _ _ _ hj').1
    · exact h.apart _ _ _ _ _ _ hne hj' hk'
  · intro x hx
    rcases hmem x hx with rfl | hx
    · exact k4
    · exact k5 x hx
  · intro x hx j g f hj
    rcases tab_set hj with ⟨rfl, ht, _⟩ | ⟨_, hj⟩
    · injection ht with h1 h2
      injection h2 with h2
      subst h2
      rcases hmem x hx with rfl | hx
      · exact k7
      · have hok := k5 x hx
        by_cases h0 : x.2.2.fin = 0
        · right; omega
        obtain ⟨c, hc1, hc2, hc3⟩ := hok.fin h0
        have hcm : c ∈ chunksOf x.2.2.parts := by
          unfold chunksOf
          rw [List.mem_flatMap]
          exact ⟨(c, 1), hc3, by simp⟩
        obtain ⟨y, hy1, hy2, hy3⟩ := (hok.owned c).1 hcm
        have hat := hok.at1
        rcases k2.chunk hs1 c with (h1 | h1) | ⟨z, hz1, hz2, hz3⟩
        · left; omega
        · right; omega
        · exact absurd (show x.1 = (r : Int) by rw [hy1] at hz1; cases hz1; rw [← hy2, hz2, hreg]) (hother x hx).2
    · rcases hmem x hx with rfl | hx
      · exact (k6 _ _ _ hj).2
      · exact h.free x (hother x hx).1 _ _ _ hj
  · intro c x hc h0
    rcases k8 c x hc h0 with rfl | h1
    · exact hlive
    · exact h.live c x h1 h0
  · intro x hx
    have hx' : x = ((r : Int), q2, L') ∨ (x ∈ s.mns ∧ x.1 ≠ (r : Int)) := by
      have hx0 : x = ((r : Int), q2, L') ∨ x ∈ m1 ++ m2 := by
        exact of_mid hx
      rcases hx0 with h1 | h1
      · exact .inl h1
      · refine .inr ⟨by rw [hm]; exact mid_of h1, fun hx1 => ?_⟩
        rw [List.map_append, List.map_cons, List.nodup_append] at hnm
        obtain ⟨_, h2, h3⟩ := hnm
        rcases List.mem_append.1 h1 with hx | hx
        · exact h3 x.1 (List.mem_map.2 ⟨x, hx, rfl⟩) (r : Int) (by simp) hx1
        · rw [List.nodup_cons] at h2
          exact h2.1 (List.mem_map.2 ⟨x, hx, hx1⟩)
    rcases hx' with rfl | ⟨hx, hne⟩
    · refine ⟨hL, fun j => ?_⟩
      show j ∈ L' ↔ _
      rw [hL', (h.mine ((r : Int), q2, L) (by rw [hm]; simp)).2]
      constructor
      · rintro (rfl | ⟨g, f, h1, h2⟩)
        · exact ⟨g0 + 1, e, by show (s.tab.set _ _)[_]? = _; simp [hil], hreg⟩
        · by_cases hji : j = i
          · subst hji; rw [hi] at h1; cases h1
          · exact ⟨g, f, by show (s.tab.set _ _)[_]? = _; rw [List.getElem?_set_ne (fun q => hji q.symm)]; exact h1, h2⟩
      · rintro ⟨g, f, h1, h2⟩
        rcases tab_set h1 with ⟨rfl, _, _⟩ | ⟨_, h1⟩
        · exact .inl rfl
        · exact .inr ⟨g, f, h1, h2⟩
    · obtain ⟨h1, h2⟩ := h.mine x hx
      refine ⟨h1, fun j => ?_⟩
      rw [h2]
      constructor
      · rintro ⟨g, f, h3, h4⟩
        by_cases hji : j = i
        · subst hji; rw [hi] at h3; cases h3
        · exact ⟨g, f, by show (s.tab.set _ _)[_]? = _; rw [List.getElem?_set_ne (fun q => hji q.symm)]; exact h3, h4⟩
      · rintro ⟨g, f, h3, h4⟩
        rcases tab_set h3 with ⟨rfl, ht, _⟩ | ⟨_, h3⟩
        · injection ht with _ h5
          injection h5 with h5
          subst h5
          exact absurd (h4.symm.trans hreg) hne
        · exact ⟨g, f, h3, h4⟩

theorem alloc_mem {s : CS} (h : WF s) {mem mem' own' : List Nat} (hm : mem.length = s.own.length * s.size) {r n ad : Nat} {S S' : Spc} (al : Alloced s.size s.own mem r S n own' mem' S' ad) :
    mem'.length = mem.length ∧ ∀ (j g : Nat) (f : Ent), s.tab[j]? = some ⟨g, some f⟩ → ∀ k, f.addr ≤ k → k < endOf f → mem'[k]? = mem[k]? := by
  have hs1 := h.size.1
  have off : ∀ (a K : Nat), a + K ≤ s.own.length → (∀ c, a ≤ c → c < a + K → s.own[c]? = some 0) → (setR mem (a * s.size) (K * s.size) 0).length = mem.length ∧
      ∀ (j g : Nat) (f : Ent), s.tab[j]? = some ⟨g, some f⟩ → ∀ k, f.addr ≤ k → k < endOf f → (setR mem (a * s.size) (K * s.size) 0)[k]? = mem[k]? := by
    intro a K ha hf
    have hsz : (a + K) * s.size = a * s.size + K * s.size := Nat.add_mul _ _ _
    have hle : (a + K) * s.size ≤ s.own.length * s.size := Nat.mul_le_mul_right _ ha
    refine ⟨setR_length (by omega), fun j g f hj k h1 h2 => ?_⟩
    rw [setR_get (by omega), if_neg]
    rintro ⟨h3, h4⟩
    unfold endOf at h2
    have c1 : f.addr / s.size ≤ k / s.size := Nat.div_le_div_right h1
    have c2 : k / s.size ≤ (f.addr + f.ws.length) / s.size := Nat.div_le_div_right (by omega)
    obtain ⟨q, hq, _, hq1⟩ := (h.obj _ _ _ hj).2.1.2 _ c1 c2
    have c3 : a ≤ k / s.size := (Nat.le_div_iff_mul_le (by omega)).2 h3
    have c4 : k / s.size < a + K := (Nat.div_lt_iff_lt_mul (by omega)).2 (by omega)
    rw [hf _ c3 c4] at hq
    cases hq
    omega
  cases al with
  | room _ => exact ⟨rfl, fun _ _ _ _ _ _ _ => rfl⟩
  | @one a ha hf _ => exact off a 1 ha (fun c h1 h2 => by rw [show c = a by omega]; exact hf)
  | @run a k _ ha hf _ _ => exact off a k ha hf

theorem MemOK_make {s : CS} (h : WF s) {mem mem1 mem2 own' : List Nat} (m : MemOK s mem) {r i g0 : Nat} (hi : s.tab[i]? = some ⟨g0, none⟩) {S S' : Spc} {e : Ent} (al : Alloced s.size s.own mem r S (e.ws.length + 1) own' mem1 S' e.addr)
    (hl : mem2.length = mem1.length) (hown : own'.length = s.own.length) (hh : mem2[e.addr]? = some (encH e.lay e.count i)) (hw : ∀ (p w : Nat), e.ws[p]? = some w → mem2[e.addr + 1 + p]? = some w) (hout : ∀ k, k < e.addr ∨ endOf e ≤ k → mem2[k]? = mem1[k]?)
    (hap : ∀ (j g : Nat) (f : Ent), s.tab[j]? = some ⟨g, some f⟩ → endOf f ≤ e.addr ∨ endOf e ≤ f.addr) {s' : CS} (h1 : s'.own = own') (h2 : s'.size = s.size) (h3 : s'.tab = s.tab.set i ⟨g0 + 1, some e⟩) : MemOK s' mem2 := by
  obtain ⟨a1, a2⟩ := alloc_mem h m.len al
  have old : ∀ (j g : Nat) (f : Ent), s.tab[j]? = some ⟨g, some f⟩ → ∀ k, f.addr ≤ k → k < endOf f → mem2[k]? = mem[k]? := fun j g f hj k k1 k2 => by
    rw [← a2 j g f hj k k1 k2]
    refine hout k ?_
    rcases hap j g f hj with h | h
    · left; omega
    · right; omega
  refine ⟨by rw [hl, a1, h1, h2, hown]; exact m.len, ?_, ?_⟩
  · intro j g f hj
    rw [h3] at hj
    rcases tab_set hj with ⟨rfl, ht, _⟩ | ⟨_, hj⟩
    · injection ht with _ h5
      injection h5 with h5
      subst h5
      exact hh
    · rw [old j g f hj f.addr (Nat.le_refl _) (by unfold endOf; omega)]
      exact m.head _ _ _ hj
  · intro j g f hj p w hp
    rw [h3] at hj
    rcases tab_set hj with ⟨rfl, ht, _⟩ | ⟨_, hj⟩
    · injection ht with _ h5
      injection h5 with h5
      subst h5
      exact hw p w hp
    · have hp1 := (List.getElem?_eq_some_iff.1 hp).1
      rw [old j g f hj _ (by omega) (by unfold endOf; omega)]
      exact m.words _ _ _ hj p w hp

/-! ### A region more, a layout more -/

theorem WF_open {s : CS} (h : WF s) {parent : Int} {q q2 : Nat} (hl : s.par.length < 64) (hlast : s.last + 1 < 1000000) :
    WF { s with last := s.last + 1, par := s.par ++ [(((s.last + 1 : Nat) : Int), parent)], sps := s.sps ++ [(((s.last + 1 : Nat) : Int), q, ⟨[], 0, 0⟩)], mns := s.mns ++ [(((s.last + 1 : Nat) : Int), q2, [])] } := by
  have hup : ∀ r x, (r, x) ∈ s.par → r ≠ ((s.last + 1 : Nat) : Int) := fun r x hx => by
    have := (h.par.2.2 r x hx).2; omega
  refine ⟨h.size, h.own, h.slots, h.lays, h.gen, fun i g e hi => ?_, h.apart, ⟨by show (s.par ++ [_]).length ≤ 64; simp; omega, hlast, ?_⟩, ?_, ?_, ?_, ?_, fun c r hc h0 => ?_, ?_⟩
  · obtain ⟨a, b, y, hy⟩ := h.obj i g e hi
    exact ⟨a, b, y, List.mem_append.2 (.inl hy)⟩
  · intro r x hx
    have hx : (r, x) ∈ s.par ++ [_] := hx
    show 1 ≤ r ∧ r ≤ ((s.last + 1 : Nat) : Int)
    rcases List.mem_append.1 hx with hx | hx
    · have := h.par.2.2 r x hx; omega
    · simp at hx; omega
  · have := h.skeys; simp [this]
  · have := h.mkeys; simp [this]
  · intro x hx
    rcases List.mem_append.1 (show x ∈ s.sps ++ [_] from hx) with hx | hx
    · exact h.spc x hx
    · simp at hx
      subst hx
      refine ⟨Nat.le_refl _, fun h0 => absurd rfl h0, fun p hp => (by cases hp), by simp [chunksOf], fun c => ⟨fun hc => by simp [chunksOf] at hc, ?_⟩⟩
      rintro ⟨y, h1, h2, h3⟩
      obtain ⟨z, hz⟩ := h.live c y h1 h3
      exact absurd h2 (hup _ _ hz)
  · intro x hx i g e hi
    rcases List.mem_append.1 (show x ∈ s.sps ++ [_] from hx) with hx | hx
    · exact h.free x hx i g e hi
    · simp at hx
      subst hx
      exact .inr (Nat.zero_le _)
  · obtain ⟨y, hy⟩ := h.live c r hc h0
    exact ⟨y, List.mem_append.2 (.inl hy)⟩
  · intro x hx
    rcases List.mem_append.1 (show x ∈ s.mns ++ [_] from hx) with hx | hx
    · exact h.mine x hx
    · simp at hx
      subst hx
      refine ⟨by simp, fun i => ⟨fun hc => by simp at hc, ?_⟩⟩
      rintro ⟨g, e, h1, h2⟩
      obtain ⟨_, _, y, hy⟩ := h.obj _ _ _ h1
      exact absurd h2 (hup _ _ hy)
theorem ObjOK_more {lays : List Lay} {i : Nat} {e : Ent} (h : ObjOK lays i e) (x : Lay) : ObjOK (lays ++ [x]) i e := by
  obtain ⟨m, l, h1, h2⟩ := h
  exact ⟨m, l, by rw [List.getElem?_append_left (List.getElem?_eq_some_iff.1 h1).1]; exact h1, h2⟩
theorem WF_define {s : CS} (h : WF s) {l : Lay} (hr : RightL l) (hl : s.lays.length < 64) : WF { s with lays := s.lays ++ [l] } := by
  refine ⟨h.size, h.own, h.slots, ⟨by show (s.lays ++ [l]).length ≤ 64; simp; omega, fun x hx => ?_⟩, h.gen, fun i g e hi => ?_, h.apart, h.par, h.skeys, h.mkeys, h.spc, h.free, h.live, h.mine⟩
  · rcases List.mem_append.1 hx with hx | hx
    · exact h.lays.2 x hx
    · simp at hx; subst hx; exact hr
  · obtain ⟨a, b⟩ := h.obj i g e hi
    exact ⟨ObjOK_more a l, b⟩
/-- The remset is as it likes. -/
theorem WF_rem {s : CS} (h : WF s) (m : List ((Int × Int) × Int)) : WF { s with rem := m } := ⟨h.size, h.own, h.slots, h.lays, h.gen, h.obj, h.apart, h.par, h.skeys, h.mkeys, h.spc, h.free, h.live, h.mine⟩
theorem MemOK_rem {s : CS} {mem : List Nat} (h : MemOK s mem) (m : List ((Int × Int) × Int)) : MemOK { s with rem := m } mem := ⟨h.len, h.head, h.words⟩
end Go.Proofs.YtipelpbkeiphmaaGreatDoor
set_option linter.unusedSectionVars false
namespace Go.Proofs.YtipelpbkeiphmaaGreatDoor
open Go.SL

@[reducible] def ptv (q : Nat × Nat) : List Value := [.int .i64 q.1, .int .i64 q.2]
theorem ptv_len (q : Nat × Nat) : (ptv q).length = 2 := rfl
def SPC (p sp owner : Nat) (S : Spc) : HProp := ex fun v : Value => star [pts p (row 269 [pp sp, .int .i64 owner, v, .int .i64 S.at', .int .i64 S.fin]), sls 271 2 v (S.parts.flatMap ptv)]
theorem SPC_out [Extra] {w : World} {p sp owner : Nat} {S : Spc} {l : List HProp} (H : Holds w (SPC p sp owner S :: l)) : ∃ a c, Holds w (pts p (row 269 [pp sp, .int .i64 owner, .slice a S.parts.length c, .int .i64 S.at', .int .i64 S.fin]) :: sls 271 2 (.slice a S.parts.length c) (S.parts.flatMap ptv) :: l) := by
  obtain ⟨v, H⟩ := Holds.ex.1 H
  have H := Holds.star.1 H
  obtain ⟨a, c, rfl⟩ := sls_slice H.drop (flat_len ptv_len _) (by decide)
  exact ⟨a, c, H⟩
theorem SPC_in [Extra] {w : World} {p sp owner : Nat} {S : Spc} {l : List HProp} {v : Value} (H : Holds w (pts p (row 269 [pp sp, .int .i64 owner, v, .int .i64 S.at', .int .i64 S.fin]) :: sls 271 2 v (S.parts.flatMap ptv) :: l)) : Holds w (SPC p sp owner S :: l) :=
  Holds.ex.2 ⟨v, Holds.star.2 H⟩

theorem uNew_spec [Extra] (sp owner : Nat) (ho : 1 ≤ owner) {w : World} {fr : List HProp} (H : Holds w fr) :
    Calls Tryz.prog 95 #[pp sp, .int .i64 owner] w (ret fun v w' => ∃ p, v = .tuple #[pp p, .int .i64 0] ∧ Holds w' (SPC p sp owner ⟨[], 0, 0⟩ :: fr)) := by
  refine calls_of Tryz.func95 rfl (by kernel_rfl) ?_
  refine J146 H ?_
  refine C_joinQ (fun ms σ w => ms = [] ∧ σ 0 = pp sp ∧ σ 1 = .int .i64 owner ∧ Holds w fr) ?_ ?_
  · refine J60 H ?_
    refine J20 H ?_
    rw [show decide ((owner : Int) < 1) = false from decide_eq_false (by omega)]
    refine J8 H ?_
    exact .inl ⟨rfl, rfl, rfl, rfl, H⟩
  · clear H
    rintro ms σ w ⟨rfl, g0, g1, H⟩
    rw [upd_self g0, upd_self g1]
    refine J2 H ?_
    refine J59 H ?_
    clear H; intro b15 w H
    refine J3 H ?_
    have H := (sls_nil (E := 271) (k := 2) H).swap
    exact C_ret (Jy H rfl fun w' H' => ⟨_, rfl, SPC_in (S := ⟨[], 0, 0⟩) H'⟩)

theorem Room_spec [Extra] (p sp owner : Nat) (S : Spc) (h1 : S.at' ≤ S.fin) (h2 : S.fin ≤ 1048576) {w : World} {fr : List HProp} (H : Holds w (SPC p sp owner S :: fr)) :
    Calls Tryz.prog 181 #[pp p] w (ret fun v w' => v = .int .i64 ((S.fin - S.at' : Nat) : Int) ∧ Holds w' (SPC p sp owner S :: fr)) := by
  obtain ⟨a, c, H⟩ := SPC_out H
  refine calls_of Tryz.func181 rfl (by kernel_rfl) ?_
  refine J175 H ?_
  refine J1 H ?_
  clear H; intro w H
  refine J101 H ?_
  refine J82 H ?_
  refine J57 H ?_
  refine A_load1 7 [] H rfl (Wants.none rfl) rfl rfl (by kernel_rfl) ?_
  refine J65 H ?_
  refine J123 H ?_
  refine C_ret (Jy (SPC_in H) rfl fun w' H' => ⟨?_, H'⟩)
  show Value.int .i64 (IntKind.i64.wrap ((S.fin : Int) - (S.at' : Int))) = _
  rw [wrap64 (by omega) (by omega)]
  congr 1
  omega

theorem Alloc_spec [Extra] (p sp owner size n : Nat) (S : Spc) (mem own : List Nat) (ho : 1 ≤ owner) (hn1 : 1 ≤ n) (hn2 : n ≤ 100000) (h1 : S.at' ≤ S.fin) (h2 : S.fin ≤ 1048576) (h63 : own.length ≤ 63) (hs1 : 1 ≤ size) (hs2 : size ≤ 1024) (hp : S.parts.length ≤ 1000) {w : World} {fr : List HProp} [hT : HasTab 0 Lib.deBruijn64tab fr]
    (H : Holds w (SPC p sp owner S :: ST sp size mem own :: fr)) :
    Calls Tryz.prog 99 #[pp p, .int .i64 n] w (ret fun v w' => (∃ a own' mem' S', v = .tuple #[.int .i64 ((a : Nat) : Int), .int .i64 0] ∧ Alloced size own mem owner S n own' mem' S' a ∧ Holds w' (SPC p sp owner S' :: ST sp size mem' own' :: fr)) ∨
      (v = .tuple #[.int .i64 0, .int .i64 11] ∧ (∀ a, a + ((n - 1) / size + 1) ≤ own.length → ∃ i, a ≤ i ∧ i < a + ((n - 1) / size + 1) ∧ own.getD i 0 ≠ 0) ∧ Holds w' (SPC p sp owner S :: ST sp size mem own :: fr))) := by
  refine calls_of Tryz.func99 rfl (by kernel_rfl) ?_
  refine J146 H ?_
  refine C_joinQ (fun ms σ w => ms = [] ∧ σ 0 = pp p ∧ σ 1 = .int .i64 n ∧ Holds w (SPC p sp owner S :: ST sp size mem own :: fr)) ?_ ?_
  · refine J60 H ?_
    refine J20 H ?_
    rw [show decide ((n : Int) < 1) = false from decide_eq_false (by omega)]
    refine J111 H ?_
    refine J2 H ?_
    refine Jc rfl rfl (Room_spec p sp owner S h1 h2 H) ?_
    clear H; rintro v w ⟨rfl, H⟩
    refine J3 H ?_
    by_cases hr : n ≤ S.fin - S.at'
    · rw [show decide ((n : Int) ≤ ((S.fin - S.at' : Nat) : Int)) = true from decide_eq_true (by omega)]
      refine J29 H ?_
      obtain ⟨a, c, H⟩ := SPC_out H
      refine J37 H ?_
      rw [wrap64 (x := (S.at' : Int) + (n : Int)) (by omega) (by omega), show (S.at' : Int) + (n : Int) = ((S.at' + n : Nat) : Int) by omega]
      refine J51 H ?_
      clear H; intro w H
      refine Lp_nil ?_
      refine J37 H ?_
      refine J3 H ?_
      refine C_ret (.inr ⟨by simp, Jy (SPC_in (S := { S with at' := S.at' + n }) H) rfl fun w' H' => .inl ⟨S.at', own, mem, _, ?_, .room hr, H'⟩⟩)
      show Value.tuple #[.int .i64 (IntKind.i64.wrap (((S.at' + n : Nat) : Int) - (n : Int))), _] = _
      rw [wrap64 (by omega) (by omega), show ((S.at' + n : Nat) : Int) - (n : Int) = (S.at' : Int) by omega]
      rfl
    · rw [show decide ((n : Int) ≤ ((S.fin - S.at' : Nat) : Int)) = false from decide_eq_false (by omega)]
      refine J8 H ?_
      exact .inl ⟨rfl, rfl, rfl, rfl, H⟩
  · clear H
    rintro ms σ w ⟨rfl, g0, g1, H⟩
    rw [upd_self g0, upd_self g1]
    obtain ⟨a, c, H⟩ := SPC_out H
    have hk : (n - 1) / size + 1 ≤ n := by have := Nat.div_le_self (n - 1) size; omega
    have hk1 : (n - 1) / size * size ≤ n - 1 := Nat.div_mul_le_self _ _
    have hk2 : n ≤ ((n - 1) / size + 1) * size := by
      have := Nat.lt_div_mul_add (a := n - 1) (b := size) (by omega)
      rw [Nat.succ_mul]
      omega
    refine J48 H ?_
    replace H := Js [2,0,0] 0 H
    refine Jc rfl rfl (Words_spec sp size mem own H) ?_
    clear H; rintro v w ⟨rfl, H⟩
    refine J0 H ?_
    refine J11 H ?_
    rw [wrap64 (x := (n : Int) - 1) (by omega) (by omega), show (n : Int) - 1 = ((n - 1 : Nat) : Int) by omega]
    refine Lp_pv (v := .int .i64 (((n - 1) / size : Nat) : Int)) (by
      show (if IntKind.i64 = IntKind.i64 then (if (size : Int) = 0 then none else some _) else none) = _
      rw [if_pos rfl, if_neg (by omega), quoN (by omega)]) rfl ?_
    refine J3 H ?_
    generalize hkk : (n - 1) / size = q at hk hk1 hk2
    rw [wrap64 (x := ((q : Nat) : Int) + 1) (by omega) (by omega), show ((q : Nat) : Int) + 1 = ((q + 1 : Nat) : Int) by omega]
    refine J1 H ?_
    clear H; intro w H
    refine J28 H ?_
    refine A_load1 3 [9] H rfl (Wants.none rfl) rfl rfl (by kernel_rfl) ?_
    refine J82 H ?_
    refine J57 H ?_
    refine A_load1 7 [9] H rfl (Wants.none rfl) rfl rfl (by kernel_rfl) ?_
    refine J65 H ?_
    refine Jo 9 H ?_
    refine Jk rfl rfl (TakeRun_spec sp size mem own owner (q + 1) h63 ho (by omega) (by omega) H) ?_
    clear H; rintro v w (⟨b, rfl, hb, hfree, H⟩ | ⟨rfl, hno, H⟩)
    · have hf : ∀ c, b ≤ c → c < b + (q + 1) → own[c]? = some 0 := fun c e1 e2 => by
        have := hfree c e1 e2
        rw [List.getD_eq_getElem?_getD, List.getElem?_eq_getElem (by omega)] at this
        rw [List.getElem?_eq_getElem (by omega)]
        simpa using this
      have hbs : (b + (q + 1)) * size ≤ 63 * 1024 := Nat.mul_le_mul (by omega) hs2
      have hbs2 : (b + (q + 1)) * size = b * size + (q + 1) * size := Nat.add_mul _ _ _
      have hbs3 : (b + 1) * size = b * size + size := Nat.succ_mul _ _
      have hsq : size ≤ (q + 1) * size := Nat.le_mul_of_pos_left _ (by omega)
      refine J77 H ?_
      refine J118 H ?_
      refine J176 H ?_
      refine J4 H ?_
      refine J106 H ?_
      refine J67 H ?_
      refine J13 H ?_
      refine J46 H ?_
      refine J34 H ?_
      clear H; intro b69 w H
      replace H := Js [3,0,1,0] 0 H
      refine Lp_s rfl (St_append H rfl rfl (by repeat (first | exact Reads.nil _ | apply Reads.cons rfl)) rfl (by decide) (by rw [flat_len ptv_len]; simp only [List.length_cons, List.length_nil]; omega) rfl rfl ?_)
      clear H; intro v70 w H
      obtain ⟨a70, m70, c70, rfl⟩ := sls_any H
      have e1 : S.parts.flatMap ptv ++ [.int .i64 b, .int .i64 ((q + 1 : Nat) : Int)] = (S.parts ++ [(b, q + 1)]).flatMap ptv := by simp
      rw [e1] at H
      refine J51 H ?_
      clear H; intro w H
      refine J68 H ?_
      by_cases hq : q = 0
      · subst hq
        rw [show (((0 + 1 : Nat) : Int) == 1) = true from rfl]
        refine J14 H ?_
        refine C_join (fun ms σ w => ms = [] ∧ σ 6 = .int .i64 size ∧ σ 8 = .int .i64 b ∧ Holds w (SPC p sp owner ⟨S.parts ++ [(b, 1)], b * size + n, (b + 1) * size⟩ :: ST sp size (setR mem (b * size) (1 * size) 0) (setR own b 1 owner) :: fr)) ?_ ?_
        · refine C_true rfl ?_
          have m1 : (b : Int) * (size : Int) = ((b * size : Nat) : Int) := (Int.natCast_mul _ _).symm
          have m2 : ((b : Int) + 1) * (size : Int) = (((b + 1) * size : Nat) : Int) := by rw [Int.natCast_mul, Int.natCast_add]; rfl
          refine J2 H ?_
          refine J32 H ?_
          refine J32 H ?_
          refine J6 H ?_
          rw [wrap64 (x := (b : Int) + 1) (by omega) (by omega), m1, m2, wrap64 (x := ((b * size : Nat) : Int)) (by omega) (by omega), wrap64 (x := (((b + 1) * size : Nat) : Int)) (by omega) (by omega), wrap64 (x := ((b * size : Nat) : Int) + (n : Int)) (by omega) (by omega), show ((b * size : Nat) : Int) + (n : Int) = ((b * size + n : Nat) : Int) by omega]
          refine J51 H ?_
          clear H; intro w H
          refine J51 H ?_
          clear H; intro w H
          refine Lp_nil ?_
          replace H := Js [2,0,1] 1 H
          exact ⟨rfl, rfl, rfl, rfl, SPC_in (S := ⟨S.parts ++ [(b, 1)], b * size + n, (b + 1) * size⟩) H⟩
        · clear H
          rintro ms σ w ⟨rfl, g6, g8, H⟩
          rw [upd_self g6, upd_self g8]
          refine J84 H ?_
          refine C_ret (Jy H rfl fun w' H' => .inl ⟨b * size, _, _, _, ?_, .one (by omega) (hf b (by omega) (by omega)) (by omega), H'⟩)
          show Value.tuple #[.int .i64 (IntKind.i64.wrap ((b : Int) * (size : Int))), _] = _
          rw [← Int.natCast_mul, wrap64 (by omega) (by omega)]
          rfl
      · rw [show (((q + 1 : Nat) : Int) == 1) = false by simp; omega]
        refine J8 H ?_
        refine J84 H ?_
        replace H := Js [2,0,1] 1 H
        refine C_ret (Jy (SPC_in (S := ⟨S.parts ++ [(b, q + 1)], S.at', S.fin⟩) H) rfl fun w' H' => .inl ⟨b * size, _, _, _, ?_, .run (k := q + 1) (by omega) hb hf hk2 (by rw [Nat.add_sub_cancel]; omega), H'⟩)
        show Value.tuple #[.int .i64 (IntKind.i64.wrap ((b : Int) * (size : Int))), _] = _
        rw [← Int.natCast_mul, wrap64 (by omega) (by omega)]
        rfl
    · refine J77 H ?_
      refine J118 H ?_
      refine J176 H ?_
      refine J4 H ?_
      refine J5 H ?_
      refine J179 H ?_
      replace H := Js [1,1,0] 0 H
      exact C_ret (Jy (SPC_in H) rfl fun w' H' => .inr ⟨rfl, hno, H'⟩)
end Go.Proofs.YtipelpbkeiphmaaGreatDoor
namespace Go.Proofs.YtipelpbkeiphmaaGreatDoor
open Go.SL

@[reducible] def IMG (ip sp bp : Nat) : HProp := pts ip (row 262 [pp sp, pp bp])

/-- An object's image: its layout's number, its count, its slot, its size, its layout. -/
structure ImgAt (ls : List Lay) (size : Nat) (mem own : List Nat) (addr i c s n : Nat) (l : Lay) : Prop where
  may : MayH i c s
  lay : ls[i - 1]? = some l
  right : RightL l
  siz : sizeL l c = (n, 0)
  head : mem.getD addr 0 = encH i c s
  fit : addr + 1 + n ≤ mem.length
  owned : Owned size own addr (n + 1)
theorem Owned.sub {size : Nat} {own : List Nat} {a n b m : Nat} (h : Owned size own a n) (h1 : a ≤ b) (h2 : b + m ≤ a + n) (h3 : 1 ≤ m) : Owned size own b m := fun c c1 c2 =>
  h c (Nat.le_trans (Nat.div_le_div_right h1) c1) (Nat.le_trans c2 (Nat.div_le_div_right (by omega)))

theorem iNew_spec [Extra] (sp bp : Nat) {w : World} {fr : List HProp} (H : Holds w fr) :
    Calls Tryz.prog 189 #[pp sp, pp bp] w (ret fun v w' => ∃ ip, v = .tuple #[pp ip, .int .i64 0] ∧ Holds w' (IMG ip sp bp :: fr)) := by
  refine calls_of Tryz.func189 rfl (by kernel_rfl) ?_
  refine J5 H ?_
  refine J154 H ?_
  refine J6 H ?_
  refine J127 H ?_
  refine J2 H ?_
  refine J59 H ?_
  clear H; intro b15 w H
  refine J3 H ?_
  exact C_ret (Jy H rfl fun w' H' => ⟨_, rfl, H'⟩)

theorem bGetN_spec [Extra] (p : Nat) (ls : List Lay) (i : Nat) (h1 : 1 ≤ i) (l : Lay) (hk : ls[i - 1]? = some l) {w : World} {fr : List HProp} (H : Holds w (BOOK p ls :: fr)) :
    Calls Tryz.prog 194 #[pp p, .int .i64 i] w (ret fun x w' => ∃ vr vq, x = .tuple #[layV l.fixed vr l.record vq, .int .i64 0] ∧ Holds w' (NL vr l.refs :: NL vq l.recs :: BOOK p ls :: fr)) := by
  obtain ⟨k, rfl⟩ : ∃ k, i = k + 1 := ⟨i - 1, by omega⟩
  rw [Nat.add_sub_cancel] at hk
  rw [show (((k + 1 : Nat) : Int)) = (k : Int) + 1 by omega]
  exact bGet_spec p ls k l hk H

theorem isize_spec [Extra] (ip sp bp : Nat) (ls : List Lay) (i c s n : Nat) (l : Lay) (hm : MayH i c s) (hl : ls[i - 1]? = some l) (hR : RightL l) (hz : sizeL l c = (n, 0)) {w : World} {fr : List HProp} (H : Holds w (IMG ip sp bp :: BOOK bp ls :: fr)) :
    Calls Tryz.prog 214 #[pp ip, hdv i c s] w (ret fun v w' => ∃ vr vq, v = .tuple #[layV l.fixed vr l.record vq, .int .i64 n, .int .i64 0] ∧ Holds w' (NL vr l.refs :: NL vq l.recs :: IMG ip sp bp :: BOOK bp ls :: fr)) := by
  have hi := hm.1
  refine calls_of Tryz.func214 rfl (by kernel_rfl) ?_
  refine J10 H ?_
  clear H; intro b3 w H
  refine J17 H ?_
  clear H; intro b4 w H
  refine J62 H ?_
  refine C_join (fun ms σ w => ms = [] ∧ ∃ b7 vr vq, σ 3 = pp b3 ∧ σ 4 = pp b4 ∧ σ 7 = pp b7 ∧ σ 8 = .int .i64 0 ∧
    Holds w (pts b7 (row 201 [.int .i64 l.fixed, vr, .int .i64 l.record, vq]) :: NL vr l.refs :: NL vq l.recs :: pts b4 (row 201 [.int .i64 0, .slice none 0 0, .int .i64 0, .slice none 0 0]) :: pts b3 (row 180 [.int .i64 i, .int .i64 c, .int .i64 s]) :: IMG ip sp bp :: BOOK bp ls :: fr)) ?_ ?_
  · replace H := Js [3,0,0,0] 0 H
    refine J1 H ?_
    clear H; intro w H
    refine J28 H ?_
    refine A_load1 3 [6, 11] H rfl (Wants.none rfl) rfl rfl (by kernel_rfl) ?_
    refine J47 H ?_
    refine A_load1 5 [6, 11] H rfl (Wants.none rfl) rfl rfl (by kernel_rfl) ?_
    refine A_two 6 10 rfl rfl (by kernel_rfl) (by repeat first | exact .nil | refine .cons (.inr H.at) ?_ | refine .cons (.inr H.mp) ?_ | refine .cons (.inl (by kernel_rfl)) ?_) (Wants.none rfl) (Wants.none rfl) (St_call (a := []) (b := []) rfl rfl (call (bGetN_spec bp ls i hi l hl H) ?_)) (St_alloc H rfl ?_)
    · clear H; rintro v w ⟨vr, vq, rfl, H⟩
      obtain ⟨aa, ma, ca, rfl⟩ := sls_any H
      obtain ⟨ab, mb, cb, rfl⟩ := sls_any H.drop
      refine J155 H ?_
      refine Jo 10 H ?_
      refine St_alloc H rfl ?_
      clear H; intro b7 w H
      refine J97 H ?_
      clear H; intro w H
      refine J128 H ?_
      replace H := Js [0,0,0,1,1,1,0] 0 H
      exact ⟨rfl, rfl, b7, _, _, rfl, rfl, rfl, rfl, H⟩
    · clear H; intro b7 w H
      refine Jo 6 H ?_
      refine Jk rfl rfl (bGetN_spec bp ls i hi l hl H.swap) ?_
      clear H; rintro v w ⟨vr, vq, rfl, H⟩
      obtain ⟨aa, ma, ca, rfl⟩ := sls_any H
      obtain ⟨ab, mb, cb, rfl⟩ := sls_any H.drop
      refine J155 H ?_
      refine J97 H ?_
      clear H; intro w H
      refine J128 H ?_
      replace H := Js [3,0,0,1,1,1,0] 0 H
      exact ⟨rfl, rfl, b7, _, _, rfl, rfl, rfl, rfl, H⟩
  · clear H
    rintro ms σ w ⟨rfl, b7, vr, vq, g3, g4, g7, g8, H⟩
    rw [upd_self g3, upd_self g4, upd_self g7, upd_self g8]
    obtain ⟨aa, ma, rfl⟩ := sls_slice H.drop (ncells_length _) (by decide)
    obtain ⟨ab, mb, rfl⟩ := sls_slice H.drop.drop (ncells_length _) (by decide)
    refine J106 H ?_
    refine J26 H ?_
    refine J38 H ?_
    replace H := Js [1,1,0,0,0,0,0] 0 H
    obtain ⟨D1, H, hD1, hC1⟩ := sls_rd H (ncells_length _) (by decide)
    obtain ⟨D2, H, hD2, hC2⟩ := sls_rd H.swap (ncells_length _) (by decide)
    refine Jc rfl rfl (Size_spec _ _ l hR c ⟨(hD1 _).there, hD2 _⟩ H) ?_
    clear H; rintro v w ⟨rfl, H⟩
    rw [hz]
    replace H := hC1 _ _ (hC2 _ _ H).swap
    refine J27 H ?_
    refine J26 H ?_
    refine J13 H ?_
    refine J7 H ?_
    clear H; intro w H
    refine J3 H ?_
    replace H := Js [3,0,0,2,2] 2 H
    exact C_ret (Jz H (fun w' H' => .cellN H' rfl (by repeat (first | exact Reads.nil _ | apply Reads.cons rfl)) (.tmp (.tmp .nil))) fun w' H' => ⟨_, _, rfl, H'.drop⟩)

theorem ifind_spec [Extra] (ip sp bp size : Nat) (ls : List Lay) (mem own : List Nat) (addr i c s n : Nat) (l : Lay) (h : ImgAt ls size mem own addr i c s n l) {w : World} {fr : List HProp} (H : Holds w (IMG ip sp bp :: BOOK bp ls :: ST sp size mem own :: fr)) :
    Calls Tryz.prog 128 #[pp ip, .int .i64 addr] w (ret fun v w' => ∃ vr vq, v = .tuple #[hdv i c s, layV l.fixed vr l.record vq, .int .i64 n, .int .i64 0] ∧ Holds w' (NL vr l.refs :: NL vq l.recs :: IMG ip sp bp :: BOOK bp ls :: ST sp size mem own :: fr)) := by
  obtain ⟨hm, hl, hR, hz, hh, hf, ho⟩ := h
  refine calls_of Tryz.func128 rfl (by kernel_rfl) ?_
  refine J22 H ?_
  clear H; intro b4 w H
  refine J17 H ?_
  clear H; intro b5 w H
  refine J3 H ?_
  refine J18 H ?_
  replace H := Js [4,0,0,0,0] 0 H
  refine Jc rfl rfl (Read_spec sp size mem own addr (by omega) (ho.sub (Nat.le_refl _) (by omega) (by omega)) H) ?_
  clear H; rintro v w ⟨rfl, H⟩
  rw [hh]
  refine J39 H ?_
  refine J16 H ?_
  refine Jc rfl rfl (Decode_spec i c s hm H) ?_
  clear H; rintro v w ⟨rfl, H⟩
  refine J19 H ?_
  clear H; intro b10 w H
  refine J7 H ?_
  clear H; intro w H
  refine J156 H ?_
  replace H := Js [4,4,1,1,1,0] 0 H
  refine Jc rfl rfl (isize_spec ip sp bp ls i c s n l hm hl hR hz H) ?_
  clear H; rintro v w ⟨vr, vq, rfl, H⟩
  obtain ⟨aa, ma, ca, rfl⟩ := sls_any H
  obtain ⟨ab, mb, cb, rfl⟩ := sls_any H.drop
  refine J32 H ?_
  refine J17 H ?_
  clear H; intro b11 w H
  refine J7 H ?_
  clear H; intro w H
  refine J3 H ?_
  refine J1 H ?_
  clear H; intro w H
  refine A_loadN 0 [4, 5] H rfl (Wants.none rfl) rfl (by repeat (first | exact Reads.nil _ | apply Reads.cons rfl)) (by kernel_rfl) ?_
  refine A_loadN 1 [5] H rfl (Wants.none rfl) rfl (by repeat (first | exact Reads.nil _ | apply Reads.cons rfl)) (by kernel_rfl) ?_
  refine J93 H ?_
  refine J45 H ?_
  refine Jo 4 H ?_
  refine J66 H ?_
  clear H; intro w H
  refine Jo 5 H ?_
  refine J66 H ?_
  clear H; intro w H
  refine J102 H ?_
  refine J91 H ?_
  refine J4 H ?_
  replace H := Js [7,6,1,1,1,1,1] 2 H
  exact C_ret (Jz H (fun w' H' => .cellN H' rfl (by repeat (first | exact Reads.nil _ | apply Reads.cons rfl)) (.cellN H' rfl (by repeat (first | exact Reads.nil _ | apply Reads.cons rfl)) (.tmp (.tmp .nil)))) fun w' H' => ⟨_, _, rfl, H'.drop.drop⟩)
end Go.Proofs.YtipelpbkeiphmaaGreatDoor
namespace Go.Proofs.YtipelpbkeiphmaaGreatDoor
open Go.SL

/-- What is wrong with a place. -/
def placeE (l : Lay) (n : Nat) (place : Int) (ref : Bool) : Nat := if place < 0 ∨ (n : Int) ≤ place then 3 else if isRefL l place.toNat ≠ ref then 9 else 0
theorem placeE_ok {l : Lay} {n : Nat} {place : Int} {ref : Bool} (h : placeE l n place ref = 0) : ∃ p : Nat, place = p ∧ p < n ∧ isRefL l p = ref := by
  unfold placeE at h
  split at h
  · omega
  · split at h
    · omega
    · rename_i h1 h2
      exact ⟨place.toNat, by omega, by omega, by simpa using h2⟩

theorem ST_len [Extra] {w : World} {p size : Nat} {mem own : List Nat} {l : List HProp} (H : Holds w (ST p size mem own :: l)) : mem.length ≤ 1048576 := by
  obtain ⟨v, v2, u, ws, many, hok, _⟩ := ST_out H
  rw [hok.len]
  exact Nat.mul_le_mul hok.c2 hok.s2

theorem word_spec [Extra] (ip sp bp size : Nat) (ls : List Lay) (mem own : List Nat) (addr i c s n : Nat) (l : Lay) (h : ImgAt ls size mem own addr i c s n l) (place : Int) (ref : Bool) {w : World} {fr : List HProp} (H : Holds w (IMG ip sp bp :: BOOK bp ls :: ST sp size mem own :: fr)) :
    Calls Tryz.prog 166 #[pp ip, .int .i64 addr, .int .i64 place, .bool ref] w (ret fun v w' => v = .tuple #[.int .i64 ((if placeE l n place ref = 0 then addr + 1 + place.toNat else 0 : Nat) : Int), .int .i64 (placeE l n place ref)] ∧ Holds w' (IMG ip sp bp :: BOOK bp ls :: ST sp size mem own :: fr)) := by
  have hml := ST_len (H.pull 2)
  have h' := h
  obtain ⟨hm, hl, hR, hz, hh, hf, ho⟩ := h'
  refine calls_of Tryz.func166 rfl (by kernel_rfl) ?_
  refine J143 H ?_
  refine J2 H ?_
  refine Jc rfl rfl (ifind_spec ip sp bp size ls mem own addr i c s n l h H) ?_
  clear H; rintro v w ⟨vr, vq, rfl, H⟩
  obtain ⟨aa, ca, rfl⟩ := sls_slice H (ncells_length _) (by decide)
  obtain ⟨ab, cb, rfl⟩ := sls_slice H.drop (ncells_length _) (by decide)
  refine J32 H ?_
  refine J6 H ?_
  refine J17 H ?_
  clear H; intro b10 w H
  refine J17 H ?_
  clear H; intro b11 w H
  refine J7 H ?_
  clear H; intro w H
  refine J7 H ?_
  clear H; intro w H
  refine J3 H ?_
  refine J106 H ?_
  refine J26 H ?_
  refine Lp_s rfl (St_fieldAddr rfl rfl ?_)
  refine Lp_s rfl (St_load1 H rfl rfl rfl ?_)
  refine Lp_pv rfl rfl ?_
  replace H := Js [2,2,0,0,0,0,0] 0 H
  obtain ⟨D1, H, hD1, hC1⟩ := sls_rd H (ncells_length _) (by decide)
  obtain ⟨D2, H, hD2, hC2⟩ := sls_rd H.swap (ncells_length _) (by decide)
  by_cases hp : place < 0 ∨ (n : Int) ≤ place
  · have he : placeE l n place ref = 3 := by unfold placeE; rw [if_pos hp]
    rw [he]
    refine Jc rfl rfl (IsRef_no _ _ l hR c place hz hp ⟨(hD1 _).there, hD2 _⟩ H) ?_
    clear H; rintro v w ⟨rfl, H⟩
    replace H := hC1 _ _ (hC2 _ _ H).swap
    refine J32 H ?_
    refine J49 H ?_
    refine J20 H ?_
    refine J179 H ?_
    replace H := Js [4,4,4] 4 H
    exact C_ret (Jy H rfl fun w' H' => ⟨rfl, H'⟩)
  · obtain ⟨p, rfl⟩ : ∃ p : Nat, place = p := ⟨place.toNat, by omega⟩
    refine Jc rfl rfl (IsRef_spec _ _ l hR c p hz (by omega) ⟨(hD1 _).there, hD2 _⟩ H) ?_
    clear H; rintro v w ⟨rfl, H⟩
    replace H := hC1 _ _ (hC2 _ _ H).swap
    refine J32 H ?_
    refine J15 H ?_
    refine C_joinQ (fun ms σ w => ms = [] ∧ isRefL l p = ref ∧ σ 1 = .int .i64 addr ∧ σ 2 = .int .i64 p ∧ Holds w (IMG ip sp bp :: BOOK bp ls :: ST sp size mem own :: fr)) ?_ ?_
    · refine C_block ?_
      refine J2 H ?_
      refine J96 H ?_
      refine J2 H ?_
      refine Lp_s rfl (St_eqBool rfl rfl (.inr rfl) rfl ?_)
      refine J0 H ?_
      by_cases hr : isRefL l p = ref
      · rw [show (!(isRefL l p == ref)) = false by simp [hr]]
        refine J8 H ?_
        replace H := Js [4,4,4] 4 H
        exact .inl ⟨rfl, rfl, hr, rfl, rfl, H⟩
      · have he : placeE l n (p : Int) ref = 9 := by unfold placeE; rw [if_neg hp, if_pos (by simpa using hr)]
        rw [show (!(isRefL l p == ref)) = true by simpa using hr]
        refine J31 H ?_
        replace H := Js [4,4,4] 4 H
        exact C_ret (.inr ⟨by simp, Jy H rfl fun w' H' => ⟨by rw [he]; rfl, H'⟩⟩)
    · clear H
      rintro ms σ w ⟨rfl, hr, g1, g2, H⟩
      have he : placeE l n (p : Int) ref = 0 := by unfold placeE; rw [if_neg hp, if_neg (by simpa using hr)]
      rw [he, upd_self g1, upd_self g2]
      refine J142 H ?_
      refine J3 H ?_
      rw [wrap64 (x := (addr : Int) + 1) (by omega) (by omega), wrap64 (x := (addr : Int) + 1 + (p : Int)) (by omega) (by omega)]
      refine C_ret (Jy H rfl fun w' H' => ⟨?_, H'⟩)
      show Value.tuple #[.int .i64 ((addr : Int) + 1 + (p : Int)), _] = _
      rw [if_pos rfl, show (addr : Int) + 1 + (p : Int) = ((addr + 1 + (p : Int).toNat : Nat) : Int) by simp]
      rfl
end Go.Proofs.YtipelpbkeiphmaaGreatDoor
namespace Go.Proofs.YtipelpbkeiphmaaGreatDoor
open Go.SL

theorem lkv_agg (k : Lnk) : ∃ a b d : Int, lkv k = .agg #[.int .i64 a, .int .i64 b, .int .i64 d] := by cases k <;> exact ⟨_, _, _, rfl⟩

theorem Follow_spec [Extra] (ip sp bp size : Nat) (ls : List Lay) (mem own : List Nat) (addr i c s n : Nat) (l : Lay) (h : ImgAt ls size mem own addr i c s n l) (place : Int) (k : Lnk) (hk : placeE l n place true = 0 → okL k ∧ mem.getD (addr + 1 + place.toNat) 0 = wordL k) (hk2 : placeE l n place true ≠ 0 → k = .none) {w : World} {fr : List HProp} (H : Holds w (IMG ip sp bp :: BOOK bp ls :: ST sp size mem own :: fr)) :
    Calls Tryz.prog 41 #[pp ip, .int .i64 addr, .int .i64 place] w (ret fun v w' => v = .tuple #[lkv k, .int .i64 (placeE l n place true)] ∧ Holds w' (IMG ip sp bp :: BOOK bp ls :: ST sp size mem own :: fr)) := by
  have hlk : ∀ (q : Nat) (k : Lnk) (w : World) (fr : List HProp), q < mem.length → Owned size own q 1 → okL k → mem.getD q 0 = wordL k → Holds w (ST sp size mem own :: fr) →
      Calls Tryz.prog 131 #[pp sp, .int .i64 q] w (ret fun v w' => v = .tuple #[lkv k, .int .i64 0] ∧ Holds w' (ST sp size mem own :: fr)) := by
    intro q k w fr h1 h2 h3 h4 H
    refine calls_of Tryz.func131 rfl (by kernel_rfl) ?_
    refine J22 H ?_
    clear H; intro b4 w H
    refine J157 H ?_
    refine Jc rfl rfl (Read_spec sp size mem own q h1 h2 H.swap) ?_
    clear H; rintro v w ⟨rfl, H⟩
    rw [h4]
    refine J39 H ?_
    refine J16 H ?_
    refine Jc rfl rfl (Link_spec k h3 H) ?_
    clear H; rintro v w ⟨rfl, H⟩
    obtain ⟨a, b, d, hkv⟩ := lkv_agg k
    rw [hkv]
    refine J13 H ?_
    refine J7 H ?_
    clear H; intro w H
    refine J0 H ?_
    exact C_ret (Jz H.swap (fun w' H' => .cellN H' rfl (by repeat (first | exact Reads.nil _ | apply Reads.cons rfl)) (.tmp .nil)) fun w' H' => ⟨rfl, H'.drop⟩)
  have hrd : ∀ (w : World) (fr : List HProp), Holds w (IMG ip sp bp :: BOOK bp ls :: ST sp size mem own :: fr) → Calls Tryz.prog 130 #[pp ip, .int .i64 addr, .int .i64 place, .bool true, .func (.func 131) #[] #[]] w (ret fun v w' => v = .tuple #[lkv k, .int .i64 (placeE l n place true)] ∧ Holds w' (IMG ip sp bp :: BOOK bp ls :: ST sp size mem own :: fr)) := by
    intro w fr H
    refine calls_of Tryz.func130 rfl (by kernel_rfl) ?_
    refine J22 H ?_
    clear H; intro b10 w H
    refine J0 H ?_
    refine J22 H ?_
    clear H; intro b12 w H
    refine Lp_nil ?_
    refine J142 H ?_
    replace H := Js [2,2,2,0,0] 0 H
    refine Jc rfl rfl (word_spec ip sp bp size ls mem own addr i c s n l h place true H) ?_
    clear H; rintro v w ⟨rfl, H⟩
    refine J71 H ?_
    by_cases he : placeE l n place true = 0
    · obtain ⟨hk3, hk4⟩ := hk he
      obtain ⟨p, rfl, hp, hr⟩ := placeE_ok he
      rw [he]
      refine J8 H ?_
      refine J67 H ?_
      refine J6 H ?_
      replace H := Js [2,0,0,0,0] 0 H
      refine Jc rfl rfl (hlk (addr + 1 + p) k _ _ (by have := h.fit; omega) (h.owned.sub (by omega) (by omega) (by omega)) hk3 hk4 H) ?_
      clear H; rintro v w ⟨rfl, H⟩
      obtain ⟨a, b, d, hkv⟩ := lkv_agg k
      rw [hkv]
      refine J19 H ?_
      clear H; intro b15 w H
      refine J7 H ?_
      clear H; intro w H
      refine J50 H ?_
      refine J81 H ?_
      clear H; intro w H
      refine J0 H ?_
      replace H := Js [5,2,2,1] 2 H
      exact C_ret (Jz H (fun w' H' => .cellN H' rfl (by repeat (first | exact Reads.nil _ | apply Reads.cons rfl)) (.tmp .nil)) fun w' H' => ⟨rfl, H'.drop⟩)
    · obtain rfl := hk2 he
      rw [if_neg he]
      rw [show (((placeE l n place true : Nat) : Int) != 0) = true by simpa using he]
      refine J29 H ?_
      refine J158 H ?_
      clear H; intro w H
      refine J0 H ?_
      replace H := Js [4,0,0,0] 1 H
      exact C_ret (Jz H (fun w' H' => .cellN H' rfl (by repeat (first | exact Reads.nil _ | apply Reads.cons rfl)) (.tmp .nil)) fun w' H' => ⟨rfl, H'.drop⟩)
  refine calls_of Tryz.func41 rfl (by kernel_rfl) ?_
  refine J22 H ?_
  clear H; intro b6 w H
  refine J0 H ?_
  refine J11 H ?_
  replace H := Js [1,1,1,0] 0 H
  refine Jc rfl rfl (hrd _ _ H) ?_
  clear H; rintro v w ⟨rfl, H⟩
  obtain ⟨a, b, d, hkv⟩ := lkv_agg k
  rw [hkv]
  refine J13 H ?_
  refine J7 H ?_
  clear H; intro w H
  refine J0 H ?_
  replace H := Js [3,0,0,0] 0 H
  exact C_ret (Jz H (fun w' H' => .cellN H' rfl (by repeat (first | exact Reads.nil _ | apply Reads.cons rfl)) (.tmp .nil)) fun w' H' => ⟨rfl, H'.drop⟩)

theorem iTie_spec [Extra] (ip sp bp size : Nat) (ls : List Lay) (mem own : List Nat) (addr i c s n : Nat) (l : Lay) (h : ImgAt ls size mem own addr i c s n l) (place : Int) (k : Lnk) (hk : okL k) {w : World} {fr : List HProp} (H : Holds w (IMG ip sp bp :: BOOK bp ls :: ST sp size mem own :: fr)) :
    Calls Tryz.prog 86 #[pp ip, .int .i64 addr, .int .i64 place, lkv k] w (ret fun v w' => v = .int .i64 (placeE l n place true) ∧ Holds w' (IMG ip sp bp :: BOOK bp ls :: ST sp size (if placeE l n place true = 0 then mem.set (addr + 1 + place.toNat) (wordL k) else mem) own :: fr)) := by
  obtain ⟨a, b, d, hkv⟩ := lkv_agg k
  have hW := fun (w : World) (fr : List HProp) (H : Holds w fr) => Word_spec k hk H
  rw [hkv] at hW ⊢
  refine calls_of Tryz.func86 rfl (by kernel_rfl) ?_
  refine J10 H ?_
  clear H; intro b7 w H
  refine J0 H ?_
  replace H := Js [1,1,1,0] 0 H
  refine J11 H ?_
  refine Jc rfl rfl (word_spec ip sp bp size ls mem own addr i c s n l h place true H) ?_
  clear H; rintro v w ⟨rfl, H⟩
  refine J71 H ?_
  by_cases he : placeE l n place true = 0
  · obtain ⟨p, rfl, hp, hr⟩ := placeE_ok he
    rw [he]
    refine J8 H ?_
    refine J26 H ?_
    refine Jc rfl rfl (hW _ _ H) ?_
    clear H; rintro v w ⟨rfl, H⟩
    refine J39 H ?_
    refine J48 H ?_
    refine J3 H ?_
    replace H := Js [2,0,0] 1 H
    refine J11 H ?_
    refine Lp_s rfl (St_call (a := [pp sp]) (b := []) rfl rfl (call (Write_spec sp size mem own (addr + 1 + p) (wordL k) (by have := h.fit; omega) (h.owned.sub (by omega) (by omega) (by omega)) H) ?_))
    clear H; rintro v w ⟨rfl, H⟩
    refine J0 H ?_
    replace H := Js [1,1,0] 0 H
    exact C_ret (Jy H rfl fun w' H' => ⟨rfl, H'⟩)
  · rw [if_neg he, if_neg he]
    rw [show (((placeE l n place true : Nat) : Int) != 0) = true by simpa using he]
    refine J31 H ?_
    replace H := Js [0,0,0] 1 H
    exact C_ret (Jy H rfl fun w' H' => ⟨rfl, H'⟩)

end Go.Proofs.YtipelpbkeiphmaaGreatDoor
namespace Go.Proofs.YtipelpbkeiphmaaGreatDoor
open Go.SL

theorem iMake_spec [Extra] (ip sp bp size : Nat) (ls : List Lay) (mem own : List Nat) (addr i c s n : Nat) (l : Lay) (hm : MayH i c s) (hl : ls[i - 1]? = some l) (hR : RightL l) (hz : sizeL l c = (n, 0)) (hf : addr + 1 + n ≤ mem.length) (ho : Owned size own addr (n + 1)) {w : World} {fr : List HProp} (H : Holds w (IMG ip sp bp :: BOOK bp ls :: ST sp size mem own :: fr)) :
    Calls Tryz.prog 197 #[pp ip, .int .i64 addr, hdv i c s] w (ret fun v w' => v = .tuple #[.int .i64 ((n + 1 : Nat) : Int), .int .i64 0] ∧ Holds w' (IMG ip sp bp :: BOOK bp ls :: ST sp size (setR (mem.set addr (encH i c s)) (addr + 1) n 0) own :: fr)) := by
  have hml := ST_len (H.pull 2)
  refine calls_of Tryz.func197 rfl (by kernel_rfl) ?_
  refine J10 H ?_
  clear H; intro b5 w H
  refine J3 H ?_
  refine J178 H ?_
  refine J26 H ?_
  refine Jc rfl rfl (Encode_spec i c s hm H) ?_
  clear H; rintro v w ⟨rfl, H⟩
  refine J39 H ?_
  refine J75 H ?_
  replace H := Js [1,1,1,0] 0 H
  refine Jc rfl rfl (isize_spec ip sp bp ls i c s n l hm hl hR hz H) ?_
  clear H; rintro v w ⟨vr, vq, rfl, H⟩
  obtain ⟨aa, ma, ca, rfl⟩ := sls_any H
  obtain ⟨ab, mb, cb, rfl⟩ := sls_any H.drop
  refine J32 H ?_
  refine J17 H ?_
  clear H; intro b10 w H
  refine J7 H ?_
  clear H; intro w H
  refine J3 H ?_
  refine J106 H ?_
  refine J48 H ?_
  refine J32 H ?_
  replace H := Js [5,3,3] 4 H
  rw [wrap64 (x := ((n : Nat) : Int) + 1) (by omega) (by omega), show ((n : Nat) : Int) + 1 = ((n + 1 : Nat) : Int) by omega]
  refine Jc rfl rfl (CopySame_spec sp size mem own addr (n + 1) (by omega) (by omega) ho H) ?_
  clear H; rintro v w ⟨rfl, H⟩
  refine J50 H ?_
  refine J37 H ?_
  refine Jc rfl rfl (Write_spec sp size mem own addr (encH i c s) (by omega) (ho.sub (Nat.le_refl _) (by omega) (by omega)) H) ?_
  clear H; rintro v w ⟨rfl, H⟩
  refine J68 H ?_
  generalize hmm : mem.set addr (encH i c s) = m2 at H
  have hm2 : m2.length = mem.length := by rw [← hmm, List.length_set]
  refine J21 H ?_
  refine C_loop (fun ms σ w q => ms = [] ∧ ∃ j : Nat, j ≤ n ∧ q = n - j ∧ σ 0 = pp ip ∧ σ 1 = .int .i64 addr ∧ σ 11 = .int .i64 n ∧ σ 53 = .int .i64 n ∧ σ 54 = .int .i64 j ∧ Holds w (ST sp size (setR m2 (addr + 1) j 0) own :: IMG ip sp bp :: BOOK bp ls :: fr)) (m := n) ⟨rfl, 0, by omega, rfl, rfl, rfl, rfl, rfl, rfl, by rw [setR_zero]; exact H⟩ ?_
  clear H
  rintro ms σ w q ⟨rfl, j, hj, rfl, g0, g1, g11, g53, g54, H⟩
  rw [upd_self g0, upd_self g1, upd_self g11, upd_self g53, upd_self g54]
  refine J12 H ?_
  refine C_dec rfl (fun h => C_skip ?_) (fun h => C_exit ?_)
  · have hlt : j < n := by omega
    refine J110 H ?_
    refine J48 H ?_
    refine J32 H ?_
    rw [wrap64 (x := (addr : Int) + 1) (by omega) (by omega), wrap64 (x := (addr : Int) + 1 + (j : Int)) (by omega) (by omega), show (addr : Int) + 1 + (j : Int) = ((addr + 1 + j : Nat) : Int) by omega]
    refine Jc rfl rfl (Write_spec sp size _ own (addr + 1 + j) 0 (by rw [setR_length (by omega)]; omega) (ho.sub (by omega) (by omega) (by omega)) H) ?_
    clear H; rintro v w ⟨rfl, H⟩
    rw [setR_succ (by omega)] at H
    refine J68 H ?_
    exact ⟨_, ⟨rfl, j + 1, hlt, rfl, rfl, rfl, rfl, rfl, inc64 (by omega), H⟩, by omega⟩
  · have hge : j = n := by omega
    subst hge
    refine J2 H ?_
    refine J3 H ?_
    rw [wrap64 (x := ((j : Nat) : Int) + 1) (by omega) (by omega), show ((j : Nat) : Int) + 1 = ((j + 1 : Nat) : Int) by omega]
    replace H := Js [1,1,0] 0 H
    exact C_ret (Jy H rfl fun w' H' => ⟨rfl, H'⟩)
end Go.Proofs.YtipelpbkeiphmaaGreatDoor
namespace Go.Proofs.YtipelpbkeiphmaaGreatDoor
open Go.SL

def icells (l : List Int) : List Value := l.map fun x => Value.int .i64 x
theorem icells_length (l : List Int) : (icells l).length = l.length * 1 := by simp [icells]
theorem icells_append (a b : List Int) : icells (a ++ b) = icells a ++ icells b := by simp [icells]
theorem ncells_icells (l : List Nat) : ncells l = icells (l.map fun x : Nat => (x : Int)) := by simp [ncells, icells]
@[reducible] def IL (v : Value) (l : List Int) : HProp := sls 3 1 v (icells l)

theorem Sort_spec [Extra] (v : Value) (l : List Int) (hl : l.length ≤ 1000000) {w : World} {fr : List HProp} (H : Holds w (IL v l :: fr)) :
    Calls Tryz.prog 120 #[v] w (ret fun x w' => x = .tuple #[] ∧ Holds w' (IL v (l.mergeSort fun x y => decide (x ≤ y)) :: fr)) := by
  obtain ⟨a, c, rfl⟩ := sls_slice H (icells_length l) (by decide)
  have hlen : (l.mergeSort fun x y => decide (x ≤ y)).length = l.length := List.length_mergeSort l
  by_cases h0 : l = []
  · subst h0
    refine (Any.slices_Sort_int_none Tryz.laysSort a c w).mono ?_
    rintro e w' ⟨rfl, rfl⟩
    rw [List.mergeSort_nil]
    exact ⟨rfl, H⟩
  · have hpos : 0 < l.length := List.length_pos_iff.2 h0
    obtain ⟨b, s, rfl, H, h1, h2, hclose⟩ := sls_open2 H hpos
    have hb := H.pts
    refine (Any.slices_Sort_int Tryz.laysSort b 0 c l w (fun j hj => ⟨?_, frozen_row hb⟩) H.fresh (by omega)).mono ?_
    · refine cell_row hb ?_
      have hj' : j < l.length := by simpa using hj
      rw [Nat.zero_add, List.getElem?_append_left (by simpa [icells] using hj')]
      simp [icells, hj']
    · rintro e w' ⟨rfl, m, os, rfl⟩
      refine ⟨rfl, hclose _ _ (icells (l.mergeSort fun x y => decide (x ≤ y))) (by rw [icells_length, icells_length, hlen]) ?_⟩
      have e1 : (Go.Sort.putRow (Value.int .i64) (Go.Sort.ahead w m) b 0 (l.mergeSort fun x y => decide (x ≤ y)).toArray).heap = w.heap.modify b (Go.Sort.onCells (Go.Sort.putCells (Value.int .i64) 0 (l.mergeSort fun x y => decide (x ≤ y)).toArray)) := rfl
      have H1 : Holds (Go.Sort.putRow (Value.int .i64) (Go.Sort.ahead w m) b 0 (l.mergeSort fun x y => decide (x ≤ y)).toArray) (pts b (row 3 (icells (l.mergeSort fun x y => decide (x ≤ y)) ++ s)) :: fr) := by
        refine H.set ?_ ?_
        · rw [e1, Array.getElem?_modify, if_pos rfl, hb]
          simp only [Option.map_some, row, Go.Sort.onCells]
          congr 2
          apply Array.ext'
          apply List.ext_getElem?
          intro t
          simp only [Go.Sort.putCells, Array.getElem?_toList, Array.getElem?_mapIdx, List.getElem?_toArray, Nat.zero_le, true_and, Nat.zero_add, Nat.sub_zero, List.size_toArray]
          have l1 : (icells l).length = l.length := by simp [icells]
          have l2 : (icells (l.mergeSort fun x y => decide (x ≤ y))).length = l.length := by simp [icells]
          by_cases ht : t < l.length
          · rw [List.getElem?_append_left (by omega), List.getElem?_append_left (by omega)]
            have ht' : t < (l.mergeSort fun x y => decide (x ≤ y)).length := by omega
            simp only [icells, List.getElem?_map, List.getElem?_eq_getElem ht, List.getElem?_eq_getElem ht', Option.map_some, if_pos ht']
            rw [getElem!_pos _ t (by simpa using ht')]
            simp
          · rw [List.getElem?_append_right (by omega), List.getElem?_append_right (by omega), l1, l2]
            have ht' : ¬ t < (l.mergeSort fun x y => decide (x ≤ y)).length := by omega
            cases s[t - l.length]? with
            | none => rfl
            | some y => simp; intro h; omega
        · intro c hc
          rw [e1, Array.getElem?_modify, if_neg (Ne.symm hc)]
      refine H1.up (fun c o hc => ?_) ⟨rfl, rfl⟩
      show ((Go.Sort.putRow (Value.int .i64) (Go.Sort.ahead w m) b 0 (l.mergeSort fun x y => decide (x ≤ y)).toArray).heap ++ os)[c]? = some o
      have := (Array.getElem?_eq_some_iff.1 hc).1
      rw [Array.getElem?_append_left this]
      exact hc

theorem Compact_few [Extra] (a : Option Addr) (n c : Nat) (hn : n < 2) {w : World} {fr : List HProp} (H : Holds w fr) :
    Calls Tryz.prog 164 #[.slice a n c] w (ret fun x w' => x = .slice a n c ∧ Holds w' fr) := by
  refine calls_of Tryz.func164 rfl (by kernel_rfl) ?_
  refine J9 H ?_
  refine J70 H ?_
  rw [show decide ((n : Int) < 2) = true from decide_eq_true (by omega)]
  refine J31 H ?_
  exact C_ret (Jy H rfl fun w' H' => ⟨rfl, H'⟩)

theorem Insert_end [Extra] (v : Value) (l : List Nat) (x : Nat) (hl : l.length ≤ 1000000) (b : Nat) {w : World} {fr : List HProp} (H : Holds w (NL v l :: pts b (row 3 [.int .i64 x]) :: fr)) :
    Calls Tryz.prog 252 #[v, .int .i64 l.length, .slice (some ⟨b, 0, none⟩) 1 1] w (ret fun v w' => Holds w' (NL v (l ++ [x]) :: fr)) := by
  obtain ⟨a, c, rfl⟩ := sls_slice H (ncells_length l) (by decide)
  refine calls_of Tryz.func252 rfl (by kernel_rfl) ?_
  refine J9 H ?_
  refine J2 H ?_
  refine Lp_s rfl (St_sliceFromE rfl rfl (Nat.le_refl _) rfl fun v12 => ?_)
  refine Lp_nil ?_
  refine J92 H ?_
  refine J50 H ?_
  refine J70 H ?_
  refine J20 H ?_
  rw [show (((l.length : Nat) : Int) == (l.length : Int)) = true by simp]
  refine J29 H ?_
  refine J2 H ?_
  refine Lp_s rfl (St_append H rfl rfl (by repeat (first | exact Reads.nil _ | apply Reads.cons rfl)) rfl (by decide) (by rw [ncells_length]; simp only [List.length_cons, List.length_nil]; omega) rfl rfl ?_)
  clear H; intro v25 w H
  obtain ⟨a25, m25, c25, rfl⟩ := sls_any H
  refine J0 H ?_
  have e1 : ncells l ++ [.int .i64 x] = ncells (l ++ [x]) := by rw [ncells_append]; rfl
  rw [e1] at H
  exact C_ret (Jy (Holds.drop H.swap) rfl fun w' H' => H')
end Go.Proofs.YtipelpbkeiphmaaGreatDoor
namespace Go.Proofs.YtipelpbkeiphmaaGreatDoor
open Go.SL

def BAG (p : Nat) (l : List Nat) : HProp := ex fun v : Value => star [pts p (row 234 [v]), NL v l]
theorem BAG_out [Extra] {w : World} {p : Nat} {l : List Nat} {fr : List HProp} (H : Holds w (BAG p l :: fr)) : ∃ a c, Holds w (pts p (row 234 [.slice a l.length c]) :: NL (.slice a l.length c) l :: fr) := by
  obtain ⟨v, H⟩ := Holds.ex.1 H
  have H := Holds.star.1 H
  obtain ⟨a, c, rfl⟩ := sls_slice H.drop (ncells_length l) (by decide)
  exact ⟨a, c, H⟩
theorem BAG_in [Extra] {w : World} {p : Nat} {l : List Nat} {v : Value} {fr : List HProp} (H : Holds w (pts p (row 234 [v]) :: NL v l :: fr)) : Holds w (BAG p l :: fr) :=
  Holds.ex.2 ⟨v, Holds.star.2 H⟩

theorem gNew_spec [Extra] {w : World} {fr : List HProp} (H : Holds w fr) : Calls Tryz.prog 82 #[.slice none 0 0] w (ret fun v w' => ∃ p, v = pp p ∧ Holds w' (BAG p [] :: fr)) := by
  refine calls_of Tryz.func82 rfl (by kernel_rfl) ?_
  refine J121 H ?_
  refine Jc rfl rfl (Clone_spec (.slice none 0 0) [] (by simp) ⟨rfl, none, 0, rfl, .inl rfl⟩ H) ?_
  clear H; rintro v w H
  obtain ⟨a, c, rfl⟩ := sls_slice H (ncells_length []) (by decide)
  refine J138 H ?_
  refine Jc rfl rfl (Sort_spec _ [] (by simp) H) ?_
  clear H; rintro v w ⟨rfl, H⟩
  rw [List.mergeSort_nil] at H
  refine J159 H ?_
  refine Jc rfl rfl (Compact_few a 0 c (by omega) H) ?_
  clear H; rintro v w ⟨rfl, H⟩
  refine J59 H ?_
  clear H; intro b10 w H
  refine J0 H ?_
  exact C_ret (Jy H rfl fun w' H' => ⟨_, rfl, BAG_in (l := []) H'⟩)

theorem posL_end {l : List Nat} {x : Nat} (h : ∀ a ∈ l, a < x) : posL l x = l.length := by
  unfold posL
  rw [List.countP_eq_length]
  intro a ha
  simpa using h a ha

theorem gPut_spec [Extra] (p : Nat) (l : List Nat) (x : Nat) (hs : l.Pairwise (· < ·)) (hl : l.length ≤ 100000) (hx : ∀ a ∈ l, a < x) {w : World} {fr : List HProp} (H : Holds w (BAG p l :: fr)) :
    Calls Tryz.prog 179 #[pp p, .int .i64 x] w (ret fun v w' => v = .bool true ∧ Holds w' (BAG p (l ++ [x]) :: fr)) := by
  obtain ⟨a, c, H⟩ := BAG_out H
  have hn : x ∉ l := fun h => by have := hx x h; omega
  refine calls_of Tryz.func179 rfl (by kernel_rfl) ?_
  refine J85 H ?_
  obtain ⟨D1, H, hD1, hC1⟩ := sls_rd H.swap (ncells_length _) (by decide)
  refine Jc rfl rfl (Search_spec _ l (by omega) hs x (hD1 _) H) ?_
  clear H; rintro v w ⟨rfl, H⟩
  replace H := hC1 _ _ H
  rw [posL_end hx, decide_eq_false hn]
  refine J71 H ?_
  refine J14 H ?_
  refine C_join (fun ms σ w => ms = [] ∧ σ 6 = .bool false ∧ Holds w (BAG p (l ++ [x]) :: fr)) ?_ ?_
  · refine C_true rfl ?_
    refine J67 H ?_
    refine J13 H ?_
    refine J34 H ?_
    clear H; intro b27 w H
    replace H := Js [1,0,0] 0 H
    refine Jc rfl rfl (Insert_end _ l x (by omega) _ H) ?_
    clear H; intro v w H
    obtain ⟨a28, m28, c28, rfl⟩ := sls_any H
    refine J51 H ?_
    clear H; intro w H
    refine Lp_nil ?_
    exact ⟨rfl, rfl, rfl, BAG_in H.swap⟩
  · clear H
    rintro ms σ w ⟨rfl, g6, H⟩
    rw [upd_self g6]
    refine J20 H ?_
    exact C_ret (Jy H rfl fun w' H' => ⟨rfl, H'⟩)

theorem gHas_spec [Extra] (p : Nat) (l : List Nat) (x : Nat) (hs : l.Pairwise (· < ·)) (hl : l.length ≤ 100000) {w : World} {fr : List HProp} (H : Holds w (BAG p l :: fr)) :
    Calls Tryz.prog 84 #[pp p, .int .i64 x] w (ret fun v w' => v = .bool (decide (x ∈ l)) ∧ Holds w' (BAG p l :: fr)) := by
  obtain ⟨a, c, H⟩ := BAG_out H
  refine calls_of Tryz.func84 rfl (by kernel_rfl) ?_
  refine J85 H ?_
  obtain ⟨D1, H, hD1, hC1⟩ := sls_rd H.swap (ncells_length _) (by decide)
  refine Jc rfl rfl (Search_spec _ l (by omega) hs x (hD1 _) H) ?_
  clear H; rintro v w ⟨rfl, H⟩
  replace H := hC1 _ _ H
  refine J71 H ?_
  exact C_ret (Jy (BAG_in H.swap) rfl fun w' H' => ⟨rfl, H'⟩)

end Go.Proofs.YtipelpbkeiphmaaGreatDoor
