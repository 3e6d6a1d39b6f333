/- Cells: what is proved on the way: every input of the statement; no condition. Texts joined: LawR LawA LawB LawC LawD LnkA LnkB LnkC InvP InvQ LawE LawF LawG LawH LawI LawJ LawY LawK LawL. -/
import Derived.Test.YtcaaojbnjfdglaaGreatDoorCil
import Derived.Test.YtcaaojbnjfdglaaGreatDoorCie
import Derived.Test.YtcaaojbnjfdglaaGreatDoorCij
import Derived.Test.YtcaaojbnjfdglaaGreatDoorCik
import Derived.Test.YtcaaojbnjfdglaaGreatDoorCif
set_option linter.unusedVariables false
set_option linter.unusedSimpArgs false
set_option linter.unusedSectionVars false
namespace Go.Proofs.YtcaaojbnjfdglaaGreatDoor
open Go.SL

theorem live_law {s : CS} {m : MS} {told : List (Nat × Nat)} (R : Rel s m told) (id : Int) : (fnd s.par id).isSome = liveP m.P id := by
  unfold liveP
  cases hf : fnd s.par id with
  | some q =>
    obtain ⟨k, rfl, h1, h2, h3⟩ := (R.tree id q).1 (fnd_mem hf)
    have h4 := (List.getElem?_eq_some_iff.1 h2).1
    symm
    show decide _ = true
    rw [decide_eq_true]
    refine ⟨by omega, by omega, ?_⟩
    rw [Int.toNat_natCast, List.getD_eq_getElem?_getD, h2]
    exact h3
  | none =>
    symm
    show decide _ = false
    rw [decide_eq_false]
    rintro ⟨h1, h2, h3⟩
    obtain ⟨k, rfl⟩ : ∃ k : Nat, id = k := ⟨id.toNat, by omega⟩
    have hk : k < m.P.length := by omega
    have h4 := List.getElem?_eq_getElem hk
    rw [Int.toNat_natCast, List.getD_eq_getElem?_getD, h4] at h3
    have h5 := (R.tree k m.P[k]).2 ⟨k, rfl, by omega, h4, h3⟩
    rw [(fnd_iff R.nd).2 h5] at hf
    cases hf
theorem open_rel {s : CS} {m : MS} {told : List (Nat × Nat)} (R : Rel s m told) {parent : Int} (h : dErr m.P parent = 0) (b b2 : Nat) : Rel (openS s parent b b2) { m with P := m.P ++ [parent] } told := by
  have hp : 0 ≤ parent := by
    unfold dErr at h
    split at h
    · cases h
    · rename_i hn
      by_cases h0 : parent = 0
      · omega
      · have : liveP m.P parent = true := by
          cases hl : liveP m.P parent with
          | true => rfl
          | false => exact absurd ⟨h0, hl⟩ hn
        unfold liveP at this
        have := of_decide_eq_true this
        omega
  have hl := R.last
  refine ⟨R.len, R.lays, ?_, ?_, ?_, R.obj, R.gone, R.used, R.gens, R.nodup⟩
  · intro r q
    show (r, q) ∈ s.par ++ [(((s.last + 1 : Nat) : Int), parent)] ↔ ∃ k : Nat, r = k ∧ 1 ≤ k ∧ (m.P ++ [parent])[k]? = some q ∧ 0 ≤ q
    rw [List.mem_append, R.tree r q]
    constructor
    · rintro (⟨k, rfl, a, b, c⟩ | h)
      · exact ⟨k, rfl, a, by rw [List.getElem?_append_left (List.getElem?_eq_some_iff.1 b).1]; exact b, c⟩
      · simp only [List.mem_singleton] at h
        injection h with h1 h2
        subst h1 h2
        exact ⟨s.last + 1, rfl, by omega, by rw [hl, List.getElem?_append_right (Nat.le_refl _), Nat.sub_self]; rfl, hp⟩
    · rintro ⟨k, rfl, a, b, c⟩
      by_cases hk : k < m.P.length
      · rw [List.getElem?_append_left hk] at b
        exact .inl ⟨k, rfl, a, b, c⟩
      · right
        have hk2 := (List.getElem?_eq_some_iff.1 b).1
        simp at hk2
        obtain rfl : k = m.P.length := by omega
        rw [List.getElem?_append_right (Nat.le_refl _), Nat.sub_self] at b
        injection b with b
        simp only [List.mem_singleton]
        rw [hl, ← b]
  · show ((s.par ++ [(((s.last + 1 : Nat) : Int), parent)]).map (·.1)).Nodup
    rw [List.map_append]
    refine List.nodup_append.2 ⟨R.nd, by simp, ?_⟩
    intro a ha b hb
    simp only [List.map_cons, List.map_nil, List.mem_singleton] at hb
    subst hb
    obtain ⟨⟨r, q⟩, hq, rfl⟩ := List.mem_map.1 ha
    obtain ⟨k, h1, _, h2, _⟩ := (R.tree r q).1 hq
    have := (List.getElem?_eq_some_iff.1 h2).1
    intro h3
    have h4 : r = ((s.last + 1 : Nat) : Int) := h3
    omega
  · show s.last + 1 + 1 = (m.P ++ [parent]).length
    simp; omega

theorem layX_app {ls : List Lay} {l : Lay} {i : Nat} (h : i - 1 < ls.length) : layX (ls ++ [l]) i = layX ls i := by
  unfold layX
  rw [List.getElem?_append_left h]
theorem Like_lays {ls : List Lay} {told : List (Nat × Nat)} {e : Ent} {x : Mob} (h : Like ls told e x) {l : Lay} (hi : x.lay - 1 < ls.length) : Like (ls ++ [l]) told e x := by
  refine ⟨h.region, h.lay, h.count, h.held, h.pinned, h.len, ?_, ?_, ?_⟩
  · rw [layX_app hi]; exact h.ref
  · rw [layX_app hi]; exact h.word
  · rw [layX_app hi]; exact h.kind
theorem def_law {s : CS} {m : MS} {told : List (Nat × Nat)} (R : Rel s m told) (hm : MWF m) (ws : List Nat) : (defS s ws).2 = (defM m ws).2 ∧ Rel (defS s ws).1 (defM m ws).1 told := by
  cases hd : decodeL ws with
  | none =>
    have h1 : defM m ws = (m, 0, 4) := by unfold defM; rw [hd]
    rw [h1, defS_none hd]
    exact ⟨rfl, R⟩
  | some l =>
    have h1 : defM m ws = if 64 ≤ m.lays.length then (m, 0, 5) else ({ m with lays := m.lays ++ [l] }, m.lays.length + 1, 0) := by unfold defM; rw [hd]
    rw [h1, defS_some hd, R.lays]
    have := hm.lays.1
    by_cases h64 : m.lays.length = 64
    · rw [if_pos h64, if_pos (by omega)]
      exact ⟨rfl, R⟩
    · rw [if_neg h64, if_neg (by omega)]
      refine ⟨rfl, R.len, rfl, R.tree, R.nd, R.last, ?_, R.gone, R.used, R.gens, R.nodup⟩
      intro o x k g hx ht hg
      obtain ⟨e, h1, h2⟩ := R.obj o x k g hx ht hg
      have hmo := hm.objs x (List.mem_of_getElem? hx)
      obtain ⟨l', h3, _⟩ := hmo.lay
      exact ⟨e, h1, Like_lays h2 (List.getElem?_eq_some_iff.1 h3).1⟩

theorem may_law {s : CS} {m : MS} {told : List (Nat × Nat)} (R : Rel s m told) (region id count : Int) : makeE s region id count = (mayM m region id count).2 ∧ ((mayM m region id count).2 = 0 → makeN s id count = (mayM m region id count).1) := by
  unfold makeE makeN mayM layI
  rw [live_law R, R.lays]
  by_cases h1 : liveP m.P region = false
  · rw [if_pos h1, if_pos h1]
    exact ⟨rfl, fun h => by cases h⟩
  · rw [if_neg h1, if_neg h1]
    by_cases h2 : id < 1 ∨ (m.lays.length : Int) < id
    · rw [if_pos h2, if_pos h2]
      exact ⟨rfl, fun h => by cases h⟩
    · rw [if_neg h2, if_neg h2]
      exact ⟨rfl, fun _ => rfl⟩

theorem Like_told {ls : List Lay} {told : List (Nat × Nat)} {e : Ent} {x : Mob} (h : Like ls told e x) {t : Nat × Nat} (hx : ∀ p, x.kind[p]? = some 2 → x.to.getD p 0 < told.length) : Like ls (told ++ [t]) e x := by
  refine ⟨h.region, h.lay, h.count, h.held, h.pinned, h.len, ?_, h.word, h.kind⟩
  intro p hp hr
  rw [h.ref p hp hr]
  unfold lnkM
  by_cases h2 : x.kind.getD p 0 = 2
  · rw [if_pos h2, if_pos h2]
    have h3 : x.kind[p]? = some 2 := by
      rw [List.getD_eq_getElem?_getD] at h2
      cases hk : x.kind[p]? with
      | none => rw [hk] at h2; cases h2
      | some q => rw [hk] at h2; exact congrArg some h2
    rw [List.getElem?_append_left (hx p h3)]
  · rw [if_neg h2, if_neg h2]
theorem rep_get (n p : Nat) : (List.replicate n 0).getD p 0 = 0 := by
  rw [List.getD_eq_getElem?_getD, List.getElem?_replicate]
  split <;> rfl
theorem make_rel {s s' : CS} {m : MS} {told : List (Nat × Nat)} (R : Rel s m told) (hm : MWF m) {region id count : Int} (hmay : (mayM m region id count).2 = 0) {k g0 addr : Nat} (hk : s.tab[k]? = some ⟨g0, none⟩)
    (e1 : s'.lays = s.lays) (e2 : s'.last = s.last) (e3 : s'.par = s.par) (e4 : s'.tab = s.tab.set k ⟨g0 + 1, some ⟨addr, region, true, false, id.toNat, count.toNat, List.replicate (makeN s id count) 0⟩⟩) :
    (∀ n : Nat, told[n]? ≠ some (k, g0 + 1)) ∧ Rel s' (makeM m region id count) (told ++ [(k, g0 + 1)]) := by
  have hkl := (List.getElem?_eq_some_iff.1 hk).1
  have hn : makeN s id count = (mayM m region id count).1 := (may_law R region id count).2 hmay
  have hr : makeM m region id count = { m with objs := m.objs ++ [newM region id count (mayM m region id count).1] } := rfl
  have hreg : region = (region.toNat : Int) := by
    obtain ⟨r, la, c, l, rfl, _⟩ := mayM_ok hmay
    rfl
  have hnew : ∀ n : Nat, told[n]? ≠ some (k, g0 + 1) := by
    intro n hn
    obtain ⟨t, h1, h2⟩ := R.gens n k (g0 + 1) hn
    rw [hk] at h1
    injection h1 with h1
    subst h1
    have h2 : g0 + 1 ≤ g0 := h2
    omega
  refine ⟨hnew, ?_⟩
  rw [hr]
  have hne : ∀ (o k0 g : Nat) (e : Ent), s.tab[k0]? = some ⟨g, some e⟩ → k ≠ k0 := by
    rintro o k0 g e h rfl
    rw [hk] at h
    injection h with h
    injection h with _ h
    cases h
  refine ⟨by show (told ++ [_]).length = (m.objs ++ [_]).length; rw [List.length_append, List.length_append, R.len]; rfl, by rw [e1]; exact R.lays, by rw [e3]; exact R.tree, by rw [e3]; exact R.nd, by rw [e2]; exact R.last, ?_, ?_, ?_, ?_, ?_⟩
  · intro o x k0 g (hx : (m.objs ++ [newM region id count (mayM m region id count).1])[o]? = some x) ht hg
    by_cases ho : o < m.objs.length
    · rw [List.getElem?_append_left ho] at hx
      rw [List.getElem?_append_left (by rw [R.len]; exact ho)] at ht
      obtain ⟨e, h1, h2⟩ := R.obj o x k0 g hx ht hg
      refine ⟨e, ?_, Like_told h2 (by rw [R.len]; exact (hm.objs x (List.mem_of_getElem? hx)).goes)⟩
      rw [e4, List.getElem?_set_ne (hne o k0 g e h1)]
      exact h1
    · have hol := (List.getElem?_eq_some_iff.1 hx).1
      rw [List.length_append] at hol
      obtain rfl : o = m.objs.length := by simp at hol; omega
      rw [List.getElem?_append_right (Nat.le_refl _), Nat.sub_self] at hx
      rw [← R.len, List.getElem?_append_right (Nat.le_refl _), Nat.sub_self] at ht
      injection hx with hx
      injection ht with ht
      injection ht with h1 h2
      subst hx h1 h2
      refine ⟨_, by rw [e4, List.getElem?_set_self hkl], ?_⟩
      rw [hn]
      refine ⟨hreg, rfl, rfl, rfl, rfl, rfl, ?_, ?_, ?_⟩
      · intro p hp _
        show lnkOf ((List.replicate _ 0).getD p 0) = lnkM _ ((List.replicate _ 0).getD p 0) ((List.replicate _ 0).getD p 0)
        rw [rep_get]
        rfl
      · intro p hp _
        rfl
      · intro p hp (hk : (List.replicate _ 0).getD p 0 ≠ 0)
        exact absurd (rep_get _ p) hk
  · intro o x k0 g (hx : (m.objs ++ [newM region id count (mayM m region id count).1])[o]? = some x) ht hg
    by_cases ho : o < m.objs.length
    · rw [List.getElem?_append_left ho] at hx
      rw [List.getElem?_append_left (by rw [R.len]; exact ho)] at ht
      intro e h1
      rw [e4] at h1
      rcases tab_set h1 with ⟨rfl, h2, _⟩ | ⟨_, h2⟩
      · injection h2 with h2 _
        subst h2
        exact hnew o ht
      · exact R.gone o x k0 g hx ht hg e h2
    · have hol := (List.getElem?_eq_some_iff.1 hx).1
      rw [List.length_append] at hol
      obtain rfl : o = m.objs.length := by simp at hol; omega
      rw [List.getElem?_append_right (Nat.le_refl _), Nat.sub_self] at hx
      injection hx with hx
      subst hx
      cases hg
  · intro k0 g e h1
    rw [e4] at h1
    rcases tab_set h1 with ⟨rfl, h2, _⟩ | ⟨_, h2⟩
    · injection h2 with h2 _
      subst h2
      exact ⟨told.length, by rw [List.getElem?_append_right (Nat.le_refl _), Nat.sub_self]; rfl⟩
    · obtain ⟨o, ho⟩ := R.used k0 g e h2
      exact ⟨o, by rw [List.getElem?_append_left (List.getElem?_eq_some_iff.1 ho).1]; exact ho⟩
  · intro o k0 g ht
    rw [e4]
    by_cases ho : o < told.length
    · rw [List.getElem?_append_left ho] at ht
      obtain ⟨t, h1, h2⟩ := R.gens o k0 g ht
      by_cases hkk : k = k0
      · subst hkk
        rw [hk] at h1
        injection h1 with h1
        subst h1
        exact ⟨_, List.getElem?_set_self hkl, by show g ≤ g0 + 1; have h2 : g ≤ g0 := h2; omega⟩
      · exact ⟨t, by rw [List.getElem?_set_ne hkk]; exact h1, h2⟩
    · have hol := (List.getElem?_eq_some_iff.1 ht).1
      rw [List.length_append] at hol
      obtain rfl : o = told.length := by simp at hol; omega
      rw [List.getElem?_append_right (Nat.le_refl _), Nat.sub_self] at ht
      injection ht with ht
      injection ht with h1 h2
      subst h1 h2
      exact ⟨_, List.getElem?_set_self hkl, Nat.le_refl _⟩
  · refine List.nodup_append.2 ⟨R.nodup, by simp, ?_⟩
    intro a ha b hb
    simp only [List.mem_singleton] at hb
    subst hb
    rintro rfl
    obtain ⟨n, h⟩ := List.mem_iff_getElem?.1 ha
    exact hnew n h
end Go.Proofs.YtcaaojbnjfdglaaGreatDoor
namespace Go.Proofs.YtcaaojbnjfdglaaGreatDoor
open Go.SL

end Go.Proofs.YtcaaojbnjfdglaaGreatDoor
namespace Go.Proofs.YtcaaojbnjfdglaaGreatDoor
open Go.SL

end Go.Proofs.YtcaaojbnjfdglaaGreatDoor
namespace Go.Proofs.YtcaaojbnjfdglaaGreatDoor
open Go.SL

end Go.Proofs.YtcaaojbnjfdglaaGreatDoor
namespace Go.Proofs.YtcaaojbnjfdglaaGreatDoor
open Go.SL

end Go.Proofs.YtcaaojbnjfdglaaGreatDoor
namespace Go.Proofs.YtcaaojbnjfdglaaGreatDoor
open Go.SL

end Go.Proofs.YtcaaojbnjfdglaaGreatDoor
namespace Go.Proofs.YtcaaojbnjfdglaaGreatDoor
open Go.SL

/-! ### A slot that is not used -/
end Go.Proofs.YtcaaojbnjfdglaaGreatDoor
namespace Go.Proofs.YtcaaojbnjfdglaaGreatDoor
open Go.SL

def lkE (e : Ent) (p : Nat) : Lnk := lnkOf (e.ws.getD p 0)
end Go.Proofs.YtcaaojbnjfdglaaGreatDoor
namespace Go.Proofs.YtcaaojbnjfdglaaGreatDoor
open Go.SL

/-- A reference of an object, to another region's object. -/
def Far (s : CS) (r : Int × Int) (t : Int) : Prop := ∃ (k p g : Nat) (e : Ent) (a b : Nat) (f : Ent), r = ((k : Int), (p : Int)) ∧ s.tab[k]? = some ⟨g, some e⟩ ∧ p < e.ws.length ∧ isRefL (layE s e) p = true ∧ lkE e p = .obj a b ∧ lookT s.tab a b = some (a, f) ∧ f.region ≠ e.region ∧ t = a
structure Inv (s : CS) : Prop where
  nd : (s.rem.map (·.1)).Nodup
  rem : ∀ r t, fnd s.rem r = some t ↔ Far s r t
  link : ∀ (k g : Nat) (e : Ent) (p a b : Nat), s.tab[k]? = some ⟨g, some e⟩ → p < e.ws.length → isRefL (layE s e) p = true → lkE e p = .obj a b → ∃ f, lookT s.tab a b = some (a, f)

theorem lookT_self {ts : List Slt} {a b c : Nat} {f : Ent} (h : lookT ts a b = some (c, f)) : c = a ∧ ts[a]? = some ⟨b, some f⟩ := by
  obtain ⟨n, h1, h2, h3⟩ := lookT_some.1 h
  obtain rfl : c = a := by omega
  obtain rfl : n = b := by omega
  exact ⟨rfl, h3⟩
end Go.Proofs.YtcaaojbnjfdglaaGreatDoor
namespace Go.Proofs.YtcaaojbnjfdglaaGreatDoor
open Go.SL

/-- Of an object more nothing is remembered. -/
theorem inv_more {s s' : CS} (hI : Inv s) {k g0 n : Nat} {e0 : Ent} (hk : s.tab[k]? = some ⟨g0, none⟩) (h1 : s'.lays = s.lays) (h2 : s'.rem = s.rem) (h3 : s'.tab = s.tab.set k ⟨g0 + 1, some e0⟩) (h0 : e0.ws = List.replicate n 0) : Inv s' := by
  have hkl := (List.getElem?_eq_some_iff.1 hk).1
  have hle : ∀ e, layE s' e = layE s e := fun e => by unfold layE; rw [h1]
  have hz : ∀ p, lkE e0 p = .none := fun p => by
    unfold lkE
    rw [h0, List.getD_eq_getElem?_getD, List.getElem?_replicate]
    split <;> rfl
  have hup : ∀ {a b : Nat} {f : Ent}, lookT s.tab a b = some (a, f) → lookT s'.tab a b = some (a, f) := fun {a b f} hf => by
    obtain ⟨_, hf'⟩ := lookT_self hf
    refine lookT_some.2 ⟨b, rfl, rfl, ?_⟩
    rw [h3, List.getElem?_set_ne (by rintro rfl; rw [hk] at hf'; cases hf')]
    exact hf'
  have hat : ∀ {j g1 : Nat} {e1 : Ent}, s.tab[j]? = some ⟨g1, some e1⟩ → s'.tab[j]? = some ⟨g1, some e1⟩ := fun {j g1 e1} hj => by
    rw [h3, List.getElem?_set_ne (by rintro rfl; rw [hk] at hj; cases hj)]
    exact hj
  refine ⟨by rw [h2]; exact hI.nd, fun r t => ?_, ?_⟩
  · rw [h2, hI.rem]
    constructor
    · rintro ⟨j, p, g1, e1, a, b, f, rfl, q1, q2, q3, q4, q5, q6, rfl⟩
      exact ⟨j, p, g1, e1, a, b, f, rfl, hat q1, q2, by rw [hle]; exact q3, q4, hup q5, q6, rfl⟩
    · rintro ⟨j, p, g1, e1, a, b, f, rfl, q1, q2, q3, q4, q5, q6, rfl⟩
      rw [h3] at q1
      rcases tab_set q1 with ⟨rfl, q7, _⟩ | ⟨_, q7⟩
      · injection q7 with _ q7
        injection q7 with q7
        subst q7
        rw [hz] at q4
        cases q4
      · rw [hle] at q3
        obtain ⟨f', hf'⟩ := hI.link j g1 e1 p a b q7 q2 q3 q4
        have h5 := hup hf'
        rw [q5] at h5
        injection h5 with h5
        injection h5 with _ h5
        subst h5
        exact ⟨j, p, g1, e1, a, b, f, rfl, q7, q2, q3, q4, hf', q6, rfl⟩
  · intro j g1 e1 p a b q1 q2 q3 q4
    rw [h3] at q1
    rcases tab_set q1 with ⟨rfl, q7, _⟩ | ⟨_, q7⟩
    · injection q7 with _ q7
      injection q7 with q7
      subst q7
      rw [hz] at q4
      cases q4
    · rw [hle] at q3
      obtain ⟨f', hf'⟩ := hI.link j g1 e1 p a b q7 q2 q3 q4
      exact ⟨f', hup hf'⟩
/-- Where nothing is nothing is remembered. -/
theorem inv_empty {s : CS} (h1 : s.rem = []) (h2 : ∀ (k g : Nat) (e : Ent), s.tab[k]? ≠ some ⟨g, some e⟩) : Inv s :=
  ⟨by rw [h1]; exact List.nodup_nil, fun r t => ⟨fun h => (by rw [h1] at h; cases h), fun ⟨k, p, g, e, _, _, _, _, h, _⟩ => absurd h (h2 k g e)⟩, fun k g e _ _ _ h => absurd h (h2 k g e)⟩
theorem no_free {n : Nat} (k g : Nat) (e : Ent) : (List.replicate n (⟨0, none⟩ : Slt))[k]? ≠ some ⟨g, some e⟩ := by
  intro h
  rw [List.getElem?_replicate] at h
  split at h
  · injection h with h
    injection h with _ h
    cases h
  · cases h
end Go.Proofs.YtcaaojbnjfdglaaGreatDoor
namespace Go.SL
section
variable {P : Program} {n : Nat} {r : Option Nat} {ops : Array Oper} {σ : Env} {w : World}
variable {ivs : List (List Nat × (World → Prop))} {T : Env → World → Prop} {f : Nat} {L : Array Bool}
variable {u : TypeId} {p : String} {af : Array Edge} {g : Option (Nat × Bool)} {d : Option Tmp} {x y : Operand}
end
end Go.SL
namespace Go.Proofs.YtcaaojbnjfdglaaGreatDoor
open Go.SL

def shapeT (ts : List Slt) : List (Nat × Bool) := ts.map fun t => (t.gen, t.ent.isSome)
/-- What an act leaves: no slot is another's, but of what is made. -/
structure Step (s : CS) (m : MS) (told : List (Nat × Nat)) (s' : CS) (m' : MS) (told' : List (Nat × Nat)) : Prop where
  P : m'.P.length ≤ m.P.length + 1
  objs : m'.objs.length ≤ m.objs.length + 1
  tab : (told' = told ∧ shapeT s'.tab = shapeT s.tab) ∨ ∃ k g0 : Nat, told' = told ++ [(k, g0 + 1)] ∧ s.tab[k]? = some ⟨g0, none⟩ ∧ (∀ (j : Nat) (t : Slt), j < k → s.tab[j]? = some t → busy t = true) ∧ shapeT s'.tab = (shapeT s.tab).set k (g0 + 1, true)
  inv : Inv s → Inv s'

/-- What Make does, in its four cases. -/
def Made (s : CS) (region id count : Int) (i g e : Nat) (s' : CS) : Prop :=
  (makeE s region id count ≠ 0 ∧ i = 0 ∧ g = 0 ∧ e = makeE s region id count ∧ s' = s) ∨
  (makeE s region id count = 0 ∧ (∀ t ∈ s.tab, busy t = true) ∧ i = 0 ∧ g = 0 ∧ e = 12 ∧ s' = s) ∨
  (makeE s region id count = 0 ∧ (∀ a, a + (makeN s id count / s.size + 1) ≤ s.own.length → ∃ i, a ≤ i ∧ i < a + (makeN s id count / s.size + 1) ∧ s.own.getD i 0 ≠ 0) ∧ i = 0 ∧ g = 0 ∧ e = 11 ∧ s' = s) ∨
  (makeE s region id count = 0 ∧ e = 0 ∧ ∃ g0 addr, s.tab[i]? = some ⟨g0, none⟩ ∧ g0 ≤ 254 ∧ (∀ (j : Nat) (t : Slt), j < i → s.tab[j]? = some t → busy t = true) ∧ g = g0 + 1 ∧
    s'.size = s.size ∧ s'.lays = s.lays ∧ s'.last = s.last ∧ s'.par = s.par ∧ s'.rem = s.rem ∧ s'.tab = s.tab.set i ⟨g0 + 1, some ⟨addr, region, true, false, id.toNat, count.toNat, List.replicate (makeN s id count) 0⟩⟩ ∧ Grows s.own s'.own (makeN s id count / s.size + 1))
theorem Make_all [Extra] (p : Nat) (s : CS) (region id count : Int) (hseq : Seq s) {w : World} {fr : List HProp} [hT : HasTab 0 Lib.deBruijn64tab fr] (H : Holds w (CELL p s :: fr)) :
    Calls Tryz.prog 29 #[pp p, .int .i64 region, .int .i64 id, .int .i64 count] w (ret fun v w' => ∃ i g e s', v = .tuple #[tkn i g, .int .i64 (e : Nat)] ∧ Made s region id count i g e s' ∧ Holds w' (CELL p s' :: fr)) := by
  refine call (Make_spec p s region id count hseq H) ?_
  rintro v w (⟨h1, rfl, H⟩ | ⟨h1, h2, rfl, H⟩ | ⟨h1, h2, rfl, H⟩ | ⟨h1, k, g0, addr, s', h2, h3, h4, rfl, h5, h6, h7, h8, h9, h10, h11, H⟩)
  · exact ⟨0, 0, makeE s region id count, s, rfl, .inl ⟨h1, rfl, rfl, rfl, rfl⟩, H⟩
  · exact ⟨0, 0, 12, s, rfl, .inr (.inl ⟨h1, h2, rfl, rfl, rfl, rfl⟩), H⟩
  · exact ⟨0, 0, 11, s, rfl, .inr (.inr (.inl ⟨h1, h2, rfl, rfl, rfl, rfl⟩)), H⟩
  · exact ⟨k, g0 + 1, 0, s', rfl, .inr (.inr (.inr ⟨h1, rfl, g0, addr, h2, h3, h4, rfl, h5, h6, h7, h8, h9, h10, h11⟩)), H⟩

end Go.Proofs.YtcaaojbnjfdglaaGreatDoor
namespace Go.Proofs.YtcaaojbnjfdglaaGreatDoor
open Go.SL

end Go.Proofs.YtcaaojbnjfdglaaGreatDoor
namespace Go.Proofs.YtcaaojbnjfdglaaGreatDoor
open Go.SL

end Go.Proofs.YtcaaojbnjfdglaaGreatDoor
namespace Go.Proofs.YtcaaojbnjfdglaaGreatDoor
open Go.SL

/-- An act. -/
structure Ac where
  k : Int
  A : Int
  B : Int
  C : Int
  X : Nat
  vW : Value
  ws : List Nat
  raw : Bool
  i : Int
  g : Int
def AcOK (fr : List HProp) (x : Ac) : Prop := x.X < 18446744073709551616 ∧ (∀ y ∈ x.ws, y < 18446744073709551616) ∧ RdS fr x.vW x.ws.length 1 (ucells x.ws)
end Go.Proofs.YtcaaojbnjfdglaaGreatDoor
namespace Go.Proofs.YtcaaojbnjfdglaaGreatDoor
open Go.SL

def cs0 (n size slots : Nat) : CS := ⟨size, List.replicate n 0, [], List.replicate slots ⟨0, none⟩, 0, [], [], [], []⟩
theorem rel0 (n size slots : Nat) : Rel (cs0 n size slots) ms0 [] := by
  have hno : ∀ (k g : Nat) (e : Ent), (List.replicate slots (⟨0, none⟩ : Slt))[k]? ≠ some ⟨g, some e⟩ := by
    intro k g e h
    rw [List.getElem?_replicate] at h
    split at h <;> cases h
  refine ⟨rfl, rfl, ?_, List.nodup_nil, rfl, ?_, ?_, fun k g e h => absurd h (hno k g e), ?_, List.nodup_nil⟩
  · intro r q
    constructor
    · intro h; cases h
    · rintro ⟨k, _, h1, h2, _⟩
      have : k < 1 := (List.getElem?_eq_some_iff.1 h2).1
      omega
  · intro o x k g h; cases h
  · intro o x k g h; cases h
  · intro o k g h; cases h

/-- While nothing is freed: the first slots are taken, once each. -/
structure Fresh (s : CS) (told : List (Nat × Nat)) : Prop where
  shape : ∃ r, shapeT s.tab = List.replicate told.length (1, true) ++ List.replicate r (0, false)
  told : told = (List.range told.length).map fun i => (i, 1)
  inv : Inv s
theorem shape_at {ts : List Slt} {n r k : Nat} {t : Slt} (h : shapeT ts = List.replicate n (1, true) ++ List.replicate r (0, false)) (hk : ts[k]? = some t) : (k < n ∧ t.gen = 1 ∧ t.ent.isSome = true) ∨ (n ≤ k ∧ k < n + r ∧ t.gen = 0 ∧ t.ent = none) := by
  have h1 : (shapeT ts)[k]? = some (t.gen, t.ent.isSome) := by
    unfold shapeT
    rw [List.getElem?_map, hk]
    rfl
  rw [h] at h1
  by_cases hkn : k < n
  · rw [List.getElem?_append_left (by simpa using hkn), List.getElem?_replicate, if_pos hkn] at h1
    injection h1 with h1
    injection h1 with h2 h3
    exact .inl ⟨hkn, h2.symm, h3.symm⟩
  · rw [List.getElem?_append_right (by simp; omega), List.length_replicate, List.getElem?_replicate] at h1
    split at h1
    · injection h1 with h1
      injection h1 with h2 h3
      refine .inr ⟨by omega, by omega, h2.symm, ?_⟩
      cases he : t.ent with
      | none => rfl
      | some e => rw [he] at h3; cases h3
    · cases h1
theorem Fresh.seq {s : CS} {told : List (Nat × Nat)} (h : Fresh s told) : Seq s := by
  obtain ⟨⟨r, hs⟩, _, _⟩ := h
  intro i j t g e hij hi hj
  rcases shape_at hs hj with ⟨h1, _⟩ | ⟨_, _, _, h1⟩
  · rcases shape_at hs hi with ⟨_, _, h2⟩ | ⟨h2, _⟩
    · unfold busy; rw [h2]; rfl
    · omega
  · cases h1
theorem Fresh.step {s s' : CS} {m m' : MS} {told told' : List (Nat × Nat)} (h : Fresh s told) (st : Step s m told s' m' told') : Fresh s' told' := by
  obtain ⟨⟨r, hs⟩, ht, hI⟩ := h
  rcases st.tab with ⟨rfl, h1⟩ | ⟨k, g0, rfl, h1, h2, h3⟩
  · exact ⟨⟨r, by rw [h1]; exact hs⟩, ht, st.inv hI⟩
  · rcases shape_at hs h1 with ⟨_, _, h4⟩ | ⟨h4, h5, h6, _⟩
    · cases h4
    · have h6 : g0 = 0 := h6
      subst h6
      have hl : s.tab.length = told.length + r := by
        have := congrArg List.length hs
        simpa [shapeT] using this
      have hk : k = told.length := by
        refine Classical.byContradiction fun hne => ?_
        have hlt : told.length < k := by omega
        have hn := List.getElem?_eq_getElem (l := s.tab) (i := told.length) (by omega)
        have hb := h2 told.length _ hlt hn
        rcases shape_at hs hn with ⟨h7, _⟩ | ⟨_, _, h7, h8⟩
        · omega
        · unfold busy at hb
          rw [h7, h8] at hb
          cases hb
      subst hk
      refine ⟨⟨r - 1, ?_⟩, ?_, st.inv hI⟩
      · rw [h3, hs, List.length_append]
        obtain ⟨r', rfl⟩ : ∃ r', r = r' + 1 := ⟨r - 1, by omega⟩
        rw [List.set_append_right _ _ (by simp), List.length_replicate, Nat.sub_self, List.replicate_succ, List.set_cons_zero, Nat.add_sub_cancel]
        show _ = List.replicate (told.length + 1) (1, true) ++ _
        rw [List.replicate_succ', List.append_assoc]
        rfl
      · rw [List.length_append]
        show told ++ [(told.length, 1)] = (List.range (told.length + 1)).map _
        rw [List.range_succ, List.map_append, ← ht]
        rfl

end Go.Proofs.YtcaaojbnjfdglaaGreatDoor
namespace Go.Proofs.YtcaaojbnjfdglaaGreatDoor
open Go.SL

def L0 : Lay := ⟨2, [1], 0, []⟩
def mB : MS := ⟨[-1, 0], [L0], []⟩
def mC : MS := makeM mB 1 1 0
def mD : MS := makeM mC 1 1 0
theorem dec0 : decodeL [2, 2, 0] = some L0 := by rfl
theorem right0 : RightL L0 := by decide
theorem mwfB : MWF mB := ⟨⟨by simp [mB], by simp [mB]⟩, ⟨by simp [mB], fun l h => by simp [mB] at h; subst h; exact right0⟩, (fun x h => by simp [mB] at h), by simp [mB]⟩
theorem mwf0 : MWF ms0 := ⟨⟨by simp [ms0], by simp [ms0]⟩, ⟨by simp [ms0], fun l h => by simp [ms0] at h⟩, (fun x h => by simp [ms0] at h), by simp [ms0]⟩
theorem mayB : mayM mB 1 1 0 = (2, 0) := by decide
theorem mayC : mayM mC 1 1 0 = (2, 0) := by decide
theorem mwfC : MWF mC := MWF_make (by rw [mayB]) mwfB (by simp [mB])
theorem mwfD : MWF mD := MWF_make (by rw [mayC]) mwfC (by show (mB.objs ++ [_]).length < _; simp [mB])

def mE : MS := (tieM mD 0 1 1).1
def mF : MS := (dropM mE 1).1
def mG : MS := (refM mF 0 1).1
theorem mwfE : MWF mE := by
  show MWF (setM mD 0 { newM 1 1 0 2 with kind := (newM 1 1 0 2).kind.set 1 2, to := (newM 1 1 0 2).to.set 1 1 })
  exact MWF_set mwfD (MobOK_cut (mwfD.objs _ (show newM 1 1 0 2 ∈ [newM 1 1 0 2, newM 1 1 0 2] from List.mem_cons_self)) 1 2 1 (fun _ => by decide))
theorem mwfF : MWF mF := by
  show MWF (setM mE 1 { newM 1 1 0 2 with held := false })
  obtain ⟨a, b, c, d, e⟩ := mwfD.objs _ (show newM 1 1 0 2 ∈ [newM 1 1 0 2, newM 1 1 0 2] from List.mem_cons_self)
  exact MWF_set mwfE ⟨a, b, c, d, e⟩
theorem alive_make {s s' : CS} {m : MS} {told : List (Nat × Nat)} {i g e : Nat} (R : Rel s m told) (hm : MWF m) (F : Fresh s told) (hM : Made s 1 1 0 i g e s') (hmay : mayM m 1 1 0 = (2, 0)) (hsz : s.size = 8) (hlen : told.length < s.tab.length) (hfree : ∃ a, a < s.own.length ∧ s.own.getD a 0 = 0) :
    e = 0 ∧ i = told.length ∧ g = 1 ∧ Rel s' (makeM m 1 1 0) (told ++ [(told.length, 1)]) ∧ Fresh s' (told ++ [(told.length, 1)]) ∧ s'.size = 8 ∧ Grows s.own s'.own 1 ∧ s'.tab.length = s.tab.length := by
  obtain ⟨hm1, hm2⟩ := may_law R 1 1 0
  rw [hmay] at hm1
  have hn : makeN s 1 0 = 2 := by rw [hm2 (by rw [hmay]), hmay]
  have hk : makeN s 1 0 / s.size + 1 = 1 := by rw [hn, hsz]
  obtain ⟨⟨r, hs⟩, ht, _⟩ := id F
  have hnb : ∀ t, s.tab[told.length]? = some t → busy t = false := by
    intro t h
    rcases shape_at hs h with ⟨h7, _⟩ | ⟨_, _, h7, h8⟩
    · omega
    · unfold busy
      rw [h7, h8]
      rfl
  have hat := List.getElem?_eq_getElem (l := s.tab) (i := told.length) hlen
  rcases hM with ⟨h1, _⟩ | ⟨h1, h2, _⟩ | ⟨h1, h2, _⟩ | ⟨h1, rfl, g0, addr, h2, h3, h4, rfl, h5, h6, h7, h8, h9, h10, h11⟩
  · exact absurd hm1 h1
  · have h3 := h2 _ (List.mem_of_getElem? hat)
    rw [hnb _ hat] at h3
    cases h3
  · obtain ⟨a, ha, hz⟩ := hfree
    rw [hk] at h2
    obtain ⟨j, h3, h4, h5⟩ := h2 a (by omega)
    obtain rfl : j = a := by omega
    exact absurd hz h5
  · rw [hk] at h11
    have hi : i = told.length := by
      rcases shape_at hs h2 with ⟨_, _, h12⟩ | ⟨h12, _⟩
      · cases h12
      · refine Classical.byContradiction fun hne => ?_
        have h13 := h4 told.length _ (by omega) hat
        rw [hnb _ hat] at h13
        cases h13
    subst hi
    have hg : g0 = 0 := by
      rcases shape_at hs h2 with ⟨_, _, h12⟩ | ⟨_, _, h12, _⟩
      · cases h12
      · exact h12
    subst hg
    obtain ⟨_, R'⟩ := make_rel R hm (by rw [hmay]) h2 h6 h7 h8 h10
    refine ⟨rfl, rfl, rfl, R', ?_, by rw [h5, hsz], h11, by rw [h10, List.length_set]⟩
    exact F.step (m := m) (m' := makeM m 1 1 0) ⟨by show m.P.length ≤ _; omega, by show (m.objs ++ [_]).length ≤ _; simp, .inr ⟨told.length, 0, rfl, h2, h4, by rw [h10]; unfold shapeT; rw [List.map_set]; rfl⟩, fun hI => inv_more hI h2 h6 h9 h10 rfl⟩

theorem alive15_spec [Extra] {w : World} {fr : List HProp} [hT : HasTab 0 Lib.deBruijn64tab fr] (H : Holds w fr) :
    Calls Tryz.prog 13 #[] w (ret fun v w' => v = .bool true ∧ Holds w' fr) := by
  have Rs0 := rel0 4 8 4
  have hdS : defS (cs0 4 8 4) [2, 2, 0] = ({ cs0 4 8 4 with lays := [L0] }, 1, 0) := by rw [defS_some dec0]; rfl
  refine calls_of Tryz.func13 rfl (by kernel_rfl) ?_
  refine J14 H ?_
  refine J38 H ?_
  refine Jc rfl rfl (cNew_spec 4 8 4 (by omega) (by omega) (by omega) (by omega) (by omega) (by omega) H) ?_
  clear H; rintro v w ⟨c, rfl, H⟩
  replace H : Holds w (CELL c (cs0 4 8 4) :: fr) := H
  refine J19 H ?_
  refine J12 H ?_
  refine J21 H ?_
  refine Lp_g rfl rfl rfl (St_eqPtrNil rfl rfl (.inl rfl) rfl ?_)
  refine J20 H ?_
  refine J15 H ?_
  refine J59 H ?_
  clear H; intro b29 w H

  replace H := H.swap
  have hrd : RdS (pts b29 (row 29 [.int .u64 2, .int .u64 2, .int .u64 0]) :: fr) (.slice (some ⟨b29, 0, none⟩) 3 3) 3 1 (ucells [2, 2, 0]) := ⟨rfl, _, _, rfl, .inr ⟨b29, 0, _, _, _, rfl, inferInstance, .cons rfl (.cons rfl (.cons rfl (.nil _)))⟩⟩
  refine Jc rfl rfl (Define_spec c (cs0 4 8 4) _ [2, 2, 0] (by decide) hrd H) ?_
  clear H; rintro v w ⟨rfl, H⟩
  rw [hdS] at H ⊢
  have RA : Rel { cs0 4 8 4 with lays := [L0] } ⟨[-1], [L0], []⟩ [] := by
    have h := (def_law Rs0 mwf0 [2, 2, 0]).2
    rw [hdS] at h
    exact h
  refine J98 H ?_
  refine Jc rfl rfl (Open_spec c _ 0 (by decide) H) ?_
  clear H; rintro v w (⟨h1, rfl, H⟩ | ⟨_, ob, ob2, rfl, H⟩)
  · exact absurd rfl h1
  have RB := open_rel RA (parent := 0) rfl ob ob2
  generalize hsB : openS { cs0 4 8 4 with lays := [L0] } 0 ob ob2 = sB at H RB
  have hB1 : sB.size = 8 := by rw [← hsB]; rfl
  have hB2 : sB.own = List.replicate 4 0 := by rw [← hsB]; rfl
  have hB3 : sB.tab = List.replicate 4 ⟨0, none⟩ := by rw [← hsB]; rfl
  have hB4 : sB.last = 1 := by rw [← hsB]; rfl
  have FB : Fresh sB [] := ⟨⟨4, by rw [hB3]; rfl⟩, rfl, inv_empty (by rw [← hsB]; rfl) (by rw [hB3]; exact no_free)⟩
  replace RB : Rel sB mB [] := RB
  refine J98 H ?_
  refine Jc rfl rfl (Make_all c sB 1 1 0 FB.seq H) ?_
  clear H; rintro v w ⟨i1, g1, e1, sC, rfl, hM1, H⟩
  obtain ⟨rfl, rfl, rfl, RC, FC, hC1, hC2, hC3⟩ := alive_make RB mwfB FB hM1 mayB hB1 (by rw [hB3]; decide) ⟨0, by rw [hB2]; decide, by rw [hB2]; rfl⟩
  rw [hB3] at hC3
  rw [hB2] at hC2
  replace RC : Rel sC mC [(0, 1)] := RC
  replace FC : Fresh sC [(0, 1)] := FC
  have hfree : ∃ a, a < sC.own.length ∧ sC.own.getD a 0 = 0 := by
    obtain ⟨hl, a0, k0, hk0, hg⟩ := hC2
    have hz : ∀ a, a ≠ a0 → sC.own.getD a 0 = 0 := by
      intro a ha
      refine Classical.byContradiction fun h => ?_
      rcases hg a h with h1 | h1
      · exact h1 (rep_get 4 a)
      · omega
    have hl4 : sC.own.length = 4 := hl
    by_cases h0 : a0 = 0
    · exact ⟨1, by omega, hz 1 (by omega)⟩
    · exact ⟨0, by omega, hz 0 (by omega)⟩
  refine J11 H ?_
  clear H; intro b7 w H
  refine J4 H ?_
  clear H; intro w H
  refine J0 H ?_
  replace H := H.swap
  refine J15 H ?_
  refine Jc rfl rfl (Make_all c sC 1 1 0 FC.seq H) ?_
  clear H; rintro v w ⟨i2, g2, e2, sD, rfl, hM2, H⟩
  obtain ⟨rfl, rfl, rfl, RD, FD, hD1, hD2, hD3⟩ := alive_make RC mwfC FC hM2 mayC hC1 (by rw [hC3]; decide) hfree
  replace RD : Rel sD mD [(0, 1), (1, 1)] := RD
  refine J11 H ?_
  clear H; intro b9 w H
  refine J4 H ?_
  clear H; intro w H
  refine J0 H ?_
  replace H := Js [1,0,0] 0 H
  refine J12 H ?_
  refine J27 H ?_
  refine J27 H ?_
  refine J27 H ?_
  refine J27 H ?_
  refine J52 H ?_
  refine Lp_g rfl rfl rfl (St_build rfl rfl ?_)
  refine Lp_g rfl rfl rfl (St_eqPair rfl rfl (.inr rfl) rfl ?_)
  refine J7 H ?_
  refine J27 H ?_
  refine J52 H ?_
  refine Lp_g rfl rfl rfl (St_build rfl rfl ?_)
  refine Lp_g rfl rfl rfl (St_eqPair rfl rfl (.inr rfl) rfl ?_)
  refine J7 H ?_
  refine J128 H ?_
  refine J52 H ?_
  obtain ⟨_, _, hwD, _, _⟩ := CELL_out H
  have P0 : Pick [(0, 1), (1, 1)] 0 1 0 := .inl ⟨0, 1, 0, rfl, rfl, rfl, rfl⟩
  have P1 : Pick [(0, 1), (1, 1)] 1 1 1 := .inl ⟨1, 1, 1, rfl, rfl, rfl, rfl⟩
  obtain ⟨t1, RE⟩ := tie_law RD hwD mwfD P0 P1 1
  rw [show (tieM mD 0 1 1).2 = 0 by decide] at t1
  replace RE : Rel (TieS sD 0 1 1 1 1).1 mE [(0, 1), (1, 1)] := RE
  refine Lp_g rfl rfl rfl (St_call (a := []) (b := []) rfl rfl (call (CTie_spec c sD 0 1 1 1 1 H) ?_))
  clear H; rintro v w ⟨rfl, H⟩
  rw [t1]
  generalize (TieS sD 0 1 1 1 1).1 = sE at H RE
  refine J132 H ?_
  refine J128 H ?_
  obtain ⟨t2, RF⟩ := drop_law RE P1
  rw [show (dropM mE 1).2 = 0 by decide] at t2
  replace RF : Rel (dropS sE 1 1).1 mF [(0, 1), (1, 1)] := RF
  refine Lp_g rfl rfl rfl (St_call (a := []) (b := []) rfl rfl (call (Drop_spec c sE 1 1 H) ?_))
  clear H; rintro v w ⟨rfl, H⟩
  rw [t2]
  generalize (dropS sE 1 1).1 = sF at H RF
  refine J56 H ?_
  have t3 : getW sF 1 1 0 = (0, 8) := by
    rcases get_law RF P1 0 with ⟨h1, h2⟩ | ⟨h1, _⟩
    · rw [h2]; rfl
    · exact absurd h1 (by decide)
  refine J34 H ?_
  refine Jc rfl rfl (Get_spec c sF 1 1 0 H) ?_
  clear H; rintro v w ⟨rfl, H⟩
  rw [t3]
  refine J19 H ?_
  have t4 : lookL sF 0 1 1 = (.obj 1 1, 0) := by
    obtain ⟨h1, h2, _⟩ := ref_law RF mwfF P0 1
    rw [show (refM mF 0 1).2 = (2, 1, 0) by decide] at h1 h2
    exact Prod.ext h2 h1
  obtain ⟨_, _, _, _, RG⟩ := ref_law RF mwfF P0 1
  replace RG : Rel (refS sF 0 1 1) mG [(0, 1), (1, 1)] := RG
  refine J34 H ?_
  refine Jc rfl rfl (Ref_spec c sF 0 1 1 H) ?_
  clear H; rintro v w ⟨rfl, H⟩
  rw [t4]
  generalize refS sF 0 1 1 = sG at H RG
  have t5 : getW sG 1 1 0 = (0, 0) := by
    rcases get_law RG P1 0 with ⟨h1, h2⟩ | ⟨h1, n, j, x, h2, h3, h4, _, h5⟩
    · exact absurd rfl h1
    · obtain rfl : n = 1 := by omega
      obtain rfl : j = 0 := by omega
      rw [h5]
      have h6 : mG.objs[1]? = some ⟨1, 1, 0, [0, 0], [0, 0], [0, 0], true, false, false⟩ := rfl
      rw [h6] at h4
      injection h4 with h4
      rw [← h4]
      rfl
  refine J11 H ?_
  clear H; intro b13 w H
  refine J4 H ?_
  clear H; intro w H
  refine J0 H ?_
  replace H := H.swap
  refine J34 H ?_
  refine Jc rfl rfl (Get_spec c sG 1 1 0 H) ?_
  clear H; rintro v w ⟨rfl, H⟩
  rw [t5]
  refine J19 H ?_
  refine J12 H ?_
  refine J27 H ?_
  refine J52 H ?_
  refine J52 H ?_
  refine Lp_g rfl rfl rfl (St_build rfl rfl ?_)
  refine Lp_g rfl rfl rfl (St_eqAgg rfl rfl rfl rfl (.inl rfl) rfl ?_)
  refine J7 H ?_
  refine J27 H ?_
  refine J22 H ?_
  refine J3 H ?_
  replace H : Holds w fr := H.drop.drop.drop.drop.drop
  exact C_ret (Jy H rfl fun w' H' => ⟨rfl, H'⟩)
end Go.Proofs.YtcaaojbnjfdglaaGreatDoor
namespace Go.Proofs.YtcaaojbnjfdglaaGreatDoor
open Go.SL

set_option maxRecDepth 10000 in
theorem News_walk [Extra] (z1 z2 z3 : Int) (v : Value) (ws : List Nat) (hws : ∀ x ∈ ws, x < 18446744073709551616) {w : World} {fr : List HProp} [hT : HasTab 0 Lib.deBruijn64tab fr] (hr : RdS fr v ws.length 1 (ucells ws)) (H : Holds w fr) :
    Calls Tryz.prog 10 #[.agg #[.int .i64 z1, .int .i64 z2, .int .i64 z3], v] w (ret fun r w' => r = .bool true ∧ Holds w' fr) := by
  obtain ⟨_, ad, cap, rfl, _⟩ := id hr
  refine calls_of Tryz.func10 rfl (by kernel_rfl) ?_
  refine J6 H ?_
  clear H; intro b2 w H
  refine J0 H ?_
  refine J106 H ?_
  refine J16 H ?_
  clear H; intro b6 w H
  refine J4 H ?_
  clear H; intro w H
  refine J47 H ?_
  refine Jc rfl rfl (Define_nil _ H) ?_
  clear H; rintro v w ⟨rfl, H⟩
  refine J98 H ?_
  refine Jc rfl rfl (Open_nil 0 H) ?_
  clear H; rintro v w ⟨rfl, H⟩
  refine J98 H ?_
  refine Jc rfl rfl (Make_nil 1 1 0 H) ?_
  clear H; rintro v w ⟨rfl, H⟩
  refine J11 H ?_
  clear H; intro b11 w H
  refine J4 H ?_
  clear H; intro w H
  refine J66 H ?_
  refine Jc rfl rfl (Get_nil 0 1 0 H) ?_
  clear H; rintro v w ⟨rfl, H⟩
  refine J19 H ?_
  refine J34 H ?_
  refine Jc rfl rfl (Ref_nil 0 1 0 H) ?_
  clear H; rintro v w ⟨rfl, H⟩
  refine J11 H ?_
  clear H; intro b15 w H
  refine J4 H ?_
  clear H; intro w H
  refine J66 H ?_
  refine Jc rfl rfl (Look_nil 0 1 0 H) ?_
  clear H; rintro v w ⟨rfl, H⟩
  refine J11 H ?_
  clear H; intro b17 w H
  refine J4 H ?_
  clear H; intro w H
  refine J66 H ?_
  refine Jc rfl rfl (Tell_nil 0 1 H) ?_
  clear H; rintro v w ⟨rfl, H⟩
  refine J11 H ?_
  clear H; intro b19 w H
  refine J4 H ?_
  clear H; intro w H
  refine J0 H ?_
  refine J15 H ?_
  refine Jc rfl rfl (Note_nil 0 H) ?_
  clear H; rintro v w ⟨rfl, H⟩
  refine Lp_nil ?_
  refine J15 H ?_
  refine Jc rfl rfl (Lose_nil 0 H) ?_
  clear H; rintro v w ⟨rfl, H⟩
  refine Lp_nil ?_
  refine J38 H ?_
  refine Jc rfl rfl (alive15_spec H) ?_
  clear H; rintro v w ⟨rfl, H⟩
  refine J7 H ?_
  refine J27 H ?_
  refine J177 H ?_
  refine J177 H ?_
  refine J177 H ?_
  refine J128 H ?_
  refine Lp_g rfl rfl rfl (St_call (a := []) (b := []) rfl rfl (call (Set_nil 0 1 0 1 H) ?_))
  clear H; rintro v w ⟨rfl, H⟩
  refine J167 H ?_
  refine J52 H ?_
  refine Lp_g rfl rfl rfl (St_call (a := []) (b := []) rfl rfl (call (Tie_nil 0 1 0 0 1 H) ?_))
  clear H; rintro v w ⟨rfl, H⟩
  refine J167 H ?_
  refine Lp_g rfl rfl rfl (St_call (a := []) (b := []) rfl rfl (call (Cut_nil 0 1 0 H) ?_))
  clear H; rintro v w ⟨rfl, H⟩
  refine J167 H ?_
  refine Lp_g rfl rfl rfl (St_call (a := []) (b := []) rfl rfl (call (Drop_nil 0 1 H) ?_))
  clear H; rintro v w ⟨rfl, H⟩
  refine J167 H ?_
  refine Lp_g rfl rfl rfl (St_call (a := []) (b := []) rfl rfl (call (Pin_nil 0 1 true H) ?_))
  clear H; rintro v w ⟨rfl, H⟩
  refine J27 H ?_
  refine J21 H ?_
  refine Lp_g rfl rfl rfl (St_call (a := []) (b := []) rfl rfl (call (Targets_nil 0 H) ?_))
  clear H; rintro v w ⟨rfl, H⟩
  refine Lp_g rfl rfl rfl (St_lenSlice rfl rfl ?_)
  refine J56 H ?_
  refine J119 H ?_
  refine J82 H ?_
  by_cases hbad : z1 < 1 ∨ z1 > 1024 ∨ z2 < 1 ∨ z2 > 1024 ∨ z3 < 1 ∨ z3 > 4096
  · refine Jc rfl rfl (cNew_bad z1 z2 z3 hbad H) ?_
    clear H; rintro v w ⟨rfl, H⟩
    refine J19 H ?_
    refine J68 H ?_
    by_cases a0 : z1 < 1
    · rw [show decide (z1 < 1) = true from decide_eq_true (by omega)]
      refine J116 H ?_
      refine J87 H ?_
      refine J87 H ?_
      refine J103 H ?_
      exact C_ret (Jy H.drop.drop.drop.drop.drop.drop rfl fun w' H' => ⟨rfl, H'⟩)
    rw [show decide (z1 < 1) = false from decide_eq_false (by omega)]
    refine J69 H ?_
    by_cases a1 : z1 > 1024
    · rw [show decide (z1 > 1024) = true from decide_eq_true (by omega)]
      refine J87 H ?_
      refine J87 H ?_
      refine J103 H ?_
      exact C_ret (Jy H.drop.drop.drop.drop.drop.drop rfl fun w' H' => ⟨rfl, H'⟩)
    rw [show decide (z1 > 1024) = false from decide_eq_false (by omega)]
    refine J33 H ?_
    by_cases a2 : z2 < 1
    · rw [show decide (z2 < 1) = true from decide_eq_true (by omega)]
      refine J87 H ?_
      refine J143 H ?_
      refine J103 H ?_
      exact C_ret (Jy H.drop.drop.drop.drop.drop.drop rfl fun w' H' => ⟨rfl, H'⟩)
    rw [show decide (z2 < 1) = false from decide_eq_false (by omega)]
    refine J33 H ?_
    by_cases a3 : z2 > 1024
    · rw [show decide (z2 > 1024) = true from decide_eq_true (by omega)]
      refine J87 H ?_
      refine J103 H ?_
      exact C_ret (Jy H.drop.drop.drop.drop.drop.drop rfl fun w' H' => ⟨rfl, H'⟩)
    rw [show decide (z2 > 1024) = false from decide_eq_false (by omega)]
    refine J33 H ?_
    by_cases a4 : z3 < 1
    · rw [show decide (z3 < 1) = true from decide_eq_true (by omega)]
      refine J143 H ?_
      refine J103 H ?_
      exact C_ret (Jy H.drop.drop.drop.drop.drop.drop rfl fun w' H' => ⟨rfl, H'⟩)
    rw [show decide (z3 < 1) = false from decide_eq_false (by omega)]
    refine J33 H ?_
    rw [show decide (z3 > 4096) = true from decide_eq_true (by omega)]
    refine J103 H ?_
    exact C_ret (Jy H.drop.drop.drop.drop.drop.drop rfl fun w' H' => ⟨rfl, H'⟩)
  obtain ⟨n, rfl⟩ : ∃ n : Nat, z1 = n := ⟨z1.toNat, by omega⟩
  obtain ⟨size, rfl⟩ : ∃ n : Nat, z2 = n := ⟨z2.toNat, by omega⟩
  obtain ⟨slots, rfl⟩ : ∃ n : Nat, z3 = n := ⟨z3.toNat, by omega⟩
  have hfr : ((List.replicate n 0 : List Nat).length - ((List.replicate n 0 : List Nat).filter (· != 0)).length) = n := by
    rw [List.filter_eq_nil_iff.2 (fun x hx => by rw [List.eq_of_mem_replicate hx]; decide), List.length_replicate]
    rfl
  refine Jc rfl rfl (cNewB_spec n size slots (by omega) (by omega) (by omega) (by omega) (by omega) (by omega) H) ?_
  clear H; rintro v w ⟨c, u, a, q, rfl, H⟩
  refine J19 H ?_
  refine J68 H ?_
  rw [show decide ((n : Int) < 1) = false from decide_eq_false (by omega)]
  refine J69 H ?_
  rw [show decide ((n : Int) > 1024) = false from decide_eq_false (by omega)]
  refine J33 H ?_
  rw [show decide ((size : Int) < 1) = false from decide_eq_false (by omega)]
  refine J33 H ?_
  rw [show decide ((size : Int) > 1024) = false from decide_eq_false (by omega)]
  refine J33 H ?_
  rw [show decide ((slots : Int) < 1) = false from decide_eq_false (by omega)]
  refine J33 H ?_
  rw [show decide ((slots : Int) > 4096) = false from decide_eq_false (by omega)]
  refine J20 H ?_
  refine J12 H ?_
  refine J21 H ?_
  refine Lp_g rfl rfl rfl (St_eqPtrNil rfl rfl (.inl rfl) rfl ?_)
  refine J20 H ?_
  refine J2 H ?_
  refine Jc rfl rfl (DefineB_spec c q _ ws hws (hr.there.there.there.there.there.there.there.there.there) H) ?_
  clear H; rintro v w ⟨hd, H⟩
  rcases hd with ⟨hd, rfl⟩ | ⟨⟨l, hd⟩, rfl⟩
  · refine J80 H ?_
    refine J15 H ?_
    refine Jc rfl rfl (dDecode_spec _ ws hws (hr.there.there.there.there.there.there.there.there.there.there) H) ?_
    clear H; rintro v w (⟨hd2, rfl, H⟩ | ⟨l2, vr, vq, hd2, rfl, H⟩)
    · first | refine Lp_pv rfl rfl ?_ | refine Lp_mv rfl rfl ?_
      refine Lp_pv rfl rfl ?_
      refine Lp_pv rfl rfl ?_
      refine J16 H ?_
      clear H; intro b25 w H
      refine J4 H ?_
      clear H; intro w H
      refine J0 H ?_
      replace H := Js [2,1,1,1] 1 H
      refine J1 H ?_
      clear H; intro w H
      refine J138 H ?_
      refine A_eqBool 3 rfl (Wants.none rfl) rfl rfl (.inl rfl) (by kernel_rfl) ?_
      refine J41 H ?_
      refine A_pv 5 rfl (Wants.of rfl rfl rfl) rfl (by kernel_rfl) ?_
      refine J155 H ?_
      refine A_pv 8 rfl (Wants.of rfl rfl rfl) rfl (by kernel_rfl) ?_
      refine A_pv 9 rfl (Wants.of rfl rfl rfl) rfl (by kernel_rfl) ?_
      refine J115 H ?_
      refine A_pv 12 rfl (Wants.of rfl rfl rfl) rfl (by kernel_rfl) ?_
      refine A_pv 13 rfl (Wants.of rfl rfl rfl) rfl (by kernel_rfl) ?_
      refine J156 H ?_
      refine A_eqBool 15 rfl (Wants.of rfl rfl rfl) rfl rfl (.inl rfl) (by kernel_rfl) ?_
      refine A_pv 16 rfl (Wants.none rfl) rfl (by kernel_rfl) ?_
      refine A_pv 17 rfl (Wants.none rfl) rfl (by kernel_rfl) ?_
      refine A_pv 18 rfl (Wants.of rfl rfl rfl) rfl (by kernel_rfl) ?_
      refine A_pv 19 rfl (Wants.of rfl rfl rfl) rfl (by kernel_rfl) ?_
      refine A_fieldAddr 20 rfl (Wants.of rfl rfl rfl) rfl (by kernel_rfl) ?_
      refine A_load1 21 [22] H rfl (Wants.of rfl rfl rfl) rfl rfl (by kernel_rfl) ?_
      refine A_fieldAddr 23 rfl (Wants.of rfl rfl rfl) rfl (by kernel_rfl) ?_
      refine A_load1 24 [] H rfl (Wants.of rfl rfl rfl) rfl rfl (by kernel_rfl) ?_
      refine Jo 22 H ?_
      refine Jk rfl rfl (Free_spec q.sp size _ _ H) ?_
      clear H; rintro v w ⟨rfl, H⟩
      rw [hfr]
      refine A_pv 25 rfl (Wants.of rfl rfl rfl) rfl (by kernel_rfl) ?_
      rw [show (((n : Nat) : Int) == ((n : Nat) : Int)) = true from beq_self_eq_true _]
      refine A_pv 26 rfl (Wants.none rfl) rfl (by kernel_rfl) ?_
      refine A_pv 27 rfl (Wants.none rfl) rfl (by kernel_rfl) ?_
      refine A_pv 28 rfl (Wants.of rfl rfl rfl) rfl (by kernel_rfl) ?_
      refine A_pv 29 rfl (Wants.of rfl rfl rfl) rfl (by kernel_rfl) ?_
      refine J157 H ?_
      refine A_load1 31 [32] H rfl (Wants.of rfl rfl rfl) rfl rfl (by kernel_rfl) ?_
      refine J158 H ?_
      refine A_load1 34 [] H rfl (Wants.of rfl rfl rfl) rfl rfl (by kernel_rfl) ?_
      replace H := Js [2,2,1,0] 0 H
      refine Jo 32 H ?_
      refine Jk rfl rfl (Left_raw q.tp u slots a _ (by omega) H) ?_
      clear H; rintro v w ⟨rfl, H⟩
      refine A_pv 35 rfl (Wants.of rfl rfl rfl) rfl (by kernel_rfl) ?_
      rw [show (((slots : Nat) : Int) == ((slots : Nat) : Int)) = true from beq_self_eq_true _]
      refine A_pv 36 rfl (Wants.none rfl) rfl (by kernel_rfl) ?_
      refine A_pv 37 rfl (Wants.none rfl) rfl (by kernel_rfl) ?_
      refine J5 H ?_
      exact C_ret (Jy (H.drop.drop.drop.drop.drop.drop.drop.drop) rfl fun w' H' => ⟨rfl, H'⟩)
    · rw [hd] at hd2
      cases hd2
  · refine J80 H ?_
    refine J15 H ?_
    refine Jc rfl rfl (dDecode_spec _ ws hws (hr.there.there.there.there.there.there.there.there.there.there) H) ?_
    clear H; rintro v w (⟨hd2, rfl, H⟩ | ⟨l2, vr, vq, hd2, rfl, H⟩)
    · rw [hd] at hd2
      cases hd2
    · obtain ⟨aa, ma, rfl⟩ := sls_slice H (ncells_length _) (by decide)
      obtain ⟨ab, mb, rfl⟩ := sls_slice H.drop (ncells_length _) (by decide)
      refine J11 H ?_
      clear H; intro b25 w H
      refine J4 H ?_
      clear H; intro w H
      refine J0 H ?_
      replace H := Js [4,3,3,3] 3 H
      refine J1 H ?_
      clear H; intro w H
      refine J138 H ?_
      refine A_eqBool 3 rfl (Wants.none rfl) rfl rfl (.inl rfl) (by kernel_rfl) ?_
      refine J41 H ?_
      refine A_pv 5 rfl (Wants.of rfl rfl rfl) rfl (by kernel_rfl) ?_
      refine A_pv 6 rfl (Wants.of rfl rfl rfl) rfl (by kernel_rfl) ?_
      refine A_no 7 rfl (Wants.of rfl rfl rfl) (fun c e => by cases e) (by kernel_rfl) ?_
      refine A_no 8 rfl (Wants.of rfl rfl rfl) (fun c e => by cases e) (by kernel_rfl) ?_
      refine A_pv 9 rfl (Wants.of rfl rfl rfl) rfl (by kernel_rfl) ?_
      refine J115 H ?_
      refine A_pv 12 rfl (Wants.of rfl rfl rfl) rfl (by kernel_rfl) ?_
      refine A_pv 13 rfl (Wants.of rfl rfl rfl) rfl (by kernel_rfl) ?_
      refine J156 H ?_
      refine A_eqBool 15 rfl (Wants.of rfl rfl rfl) rfl rfl (.inl rfl) (by kernel_rfl) ?_
      refine A_pv 16 rfl (Wants.none rfl) rfl (by kernel_rfl) ?_
      refine A_pv 17 rfl (Wants.none rfl) rfl (by kernel_rfl) ?_
      refine A_pv 18 rfl (Wants.of rfl rfl rfl) rfl (by kernel_rfl) ?_
      refine A_pv 19 rfl (Wants.of rfl rfl rfl) rfl (by kernel_rfl) ?_
      refine A_fieldAddr 20 rfl (Wants.of rfl rfl rfl) rfl (by kernel_rfl) ?_
      refine A_load1 21 [22] H rfl (Wants.of rfl rfl rfl) rfl rfl (by kernel_rfl) ?_
      refine A_fieldAddr 23 rfl (Wants.of rfl rfl rfl) rfl (by kernel_rfl) ?_
      refine A_load1 24 [] H rfl (Wants.of rfl rfl rfl) rfl rfl (by kernel_rfl) ?_
      refine Jo 22 H ?_
      refine Jk rfl rfl (Free_spec q.sp size _ _ H) ?_
      clear H; rintro v w ⟨rfl, H⟩
      rw [hfr]
      refine A_pv 25 rfl (Wants.of rfl rfl rfl) rfl (by kernel_rfl) ?_
      rw [show (((n : Nat) : Int) == ((n : Nat) : Int)) = true from beq_self_eq_true _]
      refine A_pv 26 rfl (Wants.none rfl) rfl (by kernel_rfl) ?_
      refine A_pv 27 rfl (Wants.none rfl) rfl (by kernel_rfl) ?_
      refine A_pv 28 rfl (Wants.of rfl rfl rfl) rfl (by kernel_rfl) ?_
      refine A_pv 29 rfl (Wants.of rfl rfl rfl) rfl (by kernel_rfl) ?_
      refine J157 H ?_
      refine A_load1 31 [32] H rfl (Wants.of rfl rfl rfl) rfl rfl (by kernel_rfl) ?_
      refine J158 H ?_
      refine A_load1 34 [] H rfl (Wants.of rfl rfl rfl) rfl rfl (by kernel_rfl) ?_
      replace H := Js [2,2,1,0] 0 H
      refine Jo 32 H ?_
      refine Jk rfl rfl (Left_raw q.tp u slots a _ (by omega) H) ?_
      clear H; rintro v w ⟨rfl, H⟩
      refine A_pv 35 rfl (Wants.of rfl rfl rfl) rfl (by kernel_rfl) ?_
      rw [show (((slots : Nat) : Int) == ((slots : Nat) : Int)) = true from beq_self_eq_true _]
      refine A_pv 36 rfl (Wants.none rfl) rfl (by kernel_rfl) ?_
      refine A_pv 37 rfl (Wants.none rfl) rfl (by kernel_rfl) ?_
      refine J5 H ?_
      exact C_ret (Jy (H.drop.drop.drop.drop.drop.drop.drop.drop) rfl fun w' H' => ⟨rfl, H'⟩)
end Go.Proofs.YtcaaojbnjfdglaaGreatDoor
namespace Go.Proofs.YtcaaojbnjfdglaaGreatDoor
open Go.SL

end Go.Proofs.YtcaaojbnjfdglaaGreatDoor
namespace Go.Proofs.YtcaaojbnjfdglaaGreatDoor
open Go.SL

theorem AcOK.there {A : HProp} {fr : List HProp} {x : Ac} (h : AcOK fr x) : AcOK (A :: fr) x := ⟨h.1, h.2.1, h.2.2.there⟩
end Go.Proofs.YtcaaojbnjfdglaaGreatDoor
