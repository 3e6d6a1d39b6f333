/- Cells: what is proved on the way: every input of the statement; no condition. Texts joined: InvQ LawE LawF LawG. -/
import Derived.Test.YtcaaojbnjfdglaaGreatDoorCgo
import Derived.Test.YtcaaojbnjfdglaaGreatDoorCgf
set_option linter.unusedVariables false
set_option linter.unusedSimpArgs false
set_option linter.unusedSectionVars false
namespace Go.Proofs.YtcaaojbnjfdglaaGreatDoor
open Go.SL

theorem far_same {s : CS} {k g : Nat} {e e' : Ent} (h : SameL s k g e e') {r : Int × Int} {t : Int} (hl : ∀ p : Nat, r = ((k : Int), (p : Int)) → lkE e' p = lkE e p) : Far (setE s k g e') r t ↔ Far s r t := by
  have hkl := (List.getElem?_eq_some_iff.1 h.at').1
  have hlay : ∀ f, layE (setE s k g e') f = layE s f := fun _ => rfl
  have hle : layE s e' = layE s e := by unfold layE; rw [h.lay]
  constructor
  · rintro ⟨j, p, g1, e1, a, b, f, rfl, h1, h2, h3, h4, h5, h6, rfl⟩
    have h1 : (s.tab.set k ⟨g, some e'⟩)[j]? = some ⟨g1, some e1⟩ := h1
    obtain ⟨f', h5', h6'⟩ := (reg_setE (P := fun r => r ≠ e1.region) h).1 ⟨f, h5, h6⟩
    rcases tab_set h1 with ⟨rfl, h7, _⟩ | ⟨_, h7⟩
    · injection h7 with h0 h7
      injection h7 with h7
      subst h0 h7
      rw [hlay, hle] at h3
      rw [h.len] at h2
      rw [hl p rfl] at h4
      rw [h.region] at h6'
      exact ⟨j, p, g1, e, a, b, f', rfl, h.at', h2, h3, h4, h5', h6', rfl⟩
    · exact ⟨j, p, g1, e1, a, b, f', rfl, h7, h2, h3, h4, h5', h6', rfl⟩
  · rintro ⟨j, p, g1, e1, a, b, f, rfl, h1, h2, h3, h4, h5, h6, rfl⟩
    obtain ⟨f', h5', h6'⟩ := (reg_setE (P := fun r => r ≠ e1.region) h).2 ⟨f, h5, h6⟩
    by_cases hj : j = k
    · subst hj
      rw [h.at'] at h1
      injection h1 with h1
      injection h1 with h0 h1
      injection h1 with h1
      subst h0 h1
      exact ⟨j, p, g, e', a, b, f', rfl, List.getElem?_set_self hkl, by rw [h.len]; exact h2, by rw [hlay, hle]; exact h3, by rw [hl p rfl]; exact h4, h5', by rw [h.region]; exact h6', rfl⟩
    · exact ⟨j, p, g1, e1, a, b, f', rfl, by show (s.tab.set k _)[j]? = _; rw [List.getElem?_set_ne (Ne.symm hj)]; exact h1, h2, h3, h4, h5', h6', rfl⟩
theorem lkE_set {e : Ent} {p q x : Nat} (h : q ≠ p) : lkE { e with ws := e.ws.set p x } q = lkE e q := by
  unfold lkE
  show lnkOf ((e.ws.set p x).getD q 0) = _
  rw [List.getD_eq_getElem?_getD, List.getElem?_set_ne (Ne.symm h), List.getD_eq_getElem?_getD]
theorem lkE_new {e : Ent} {p : Nat} {l : Lnk} (hl : okL l) (hp : p < e.ws.length) : lkE { e with ws := e.ws.set p (wordL l) } p = l := by
  unfold lkE
  show lnkOf ((e.ws.set p (wordL l)).getD p 0) = _
  rw [List.getD_eq_getElem?_getD, List.getElem?_set_self hp, Option.getD_some, lnkOf_word hl]
theorem inv_word {s : CS} (hI : Inv s) {k g p x : Nat} {e : Ent} (hk : s.tab[k]? = some ⟨g, some e⟩) (hr : isRefL (layE s e) p = false) : Inv (setE s k g { e with ws := e.ws.set p x }) :=
  inv_same (e' := { e with ws := e.ws.set p x }) hI ⟨hk, rfl, rfl, by show (e.ws.set p x).length = _; rw [List.length_set]⟩ fun q hq hrq => lkE_set (by rintro rfl; rw [hr] at hrq; cases hrq)
theorem inv_flags {s : CS} (hI : Inv s) {k g : Nat} {e e' : Ent} (hk : s.tab[k]? = some ⟨g, some e⟩) (h1 : e'.region = e.region) (h2 : e'.lay = e.lay) (h3 : e'.ws = e.ws) : Inv (setE s k g e') :=
  inv_same hI ⟨hk, h1, h2, by rw [h3]⟩ fun q _ _ => by unfold lkE; rw [h3]

theorem nodup_noteR {s : CS} (h : (s.rem.map (·.1)).Nodup) (k : Nat) (e : Ent) (p : Int) (l : Lnk) : ((noteR s k e p l).map (·.1)).Nodup := by
  unfold noteR
  repeat' split
  · exact nodup_ins (nodup_era h)
  · exact nodup_era h
  · exact nodup_era h
  · exact nodup_era h
theorem fnd_noteR {s : CS} (h : (s.rem.map (·.1)).Nodup) {k : Nat} {e : Ent} {p : Int} {l : Lnk} {r : Int × Int} (hr : r ≠ ((k : Int), p)) : fnd (noteR s k e p l) r = fnd s.rem r := by
  have h1 : fnd (era s.rem ((k : Int), p)) r = fnd s.rem r := by rw [fnd_era h, if_neg (Ne.symm hr)]
  unfold noteR
  repeat' split
  · rw [fnd_ins, if_neg (Ne.symm hr), h1]
  · exact h1
  · exact h1
  · exact h1
theorem fnd_noteS {s : CS} (h : (s.rem.map (·.1)).Nodup) {k : Nat} {e : Ent} {p : Int} {l : Lnk} {t : Int} : fnd (noteR s k e p l) ((k : Int), p) = some t ↔ ∃ (a b : Nat) (f : Ent), l = .obj a b ∧ lookT s.tab a b = some (a, f) ∧ f.region ≠ e.region ∧ t = a := by
  have h1 : fnd (era s.rem ((k : Int), p)) ((k : Int), p) = none := by rw [fnd_era h, if_pos rfl]
  cases l with
  | none => rw [show noteR s k e p .none = era s.rem ((k : Int), p) from rfl, h1]; exact ⟨fun h => (by cases h), fun ⟨_, _, _, h, _⟩ => (by cases h)⟩
  | grave => rw [show noteR s k e p .grave = era s.rem ((k : Int), p) from rfl, h1]; exact ⟨fun h => (by cases h), fun ⟨_, _, _, h, _⟩ => (by cases h)⟩
  | obj a b =>
    cases hl : lookT s.tab a b with
    | none =>
      rw [noteR_stale hl, h1]
      refine ⟨fun h => (by cases h), ?_⟩
      rintro ⟨a', b', f, h2, h3, _⟩
      injection h2 with h2 h2'
      subst h2 h2'
      rw [hl] at h3
      cases h3
    | some q =>
      obtain ⟨c, f⟩ := q
      obtain ⟨rfl, _⟩ := lookT_self hl
      rw [noteR_live hl]
      split
      · rename_i hne
        rw [fnd_ins, if_pos rfl]
        constructor
        · intro h2
          injection h2 with h2
          exact ⟨c, b, f, rfl, hl, hne, h2.symm⟩
        · rintro ⟨a', b', f', h2, h3, h4, rfl⟩
          injection h2 with h2 h2'
          rw [h2]
      · rename_i hne
        rw [h1]
        refine ⟨fun h => (by cases h), ?_⟩
        rintro ⟨a', b', f', h2, h3, h4, rfl⟩
        injection h2 with h2 h2'
        subst h2 h2'
        rw [hl] at h3
        injection h3 with h3
        injection h3 with _ h3
        subst h3
        exact absurd h4 hne
theorem inv_tie {s : CS} (hI : Inv s) {k g p : Nat} {e : Ent} {l : Lnk} (hk : s.tab[k]? = some ⟨g, some e⟩) (hp : p < e.ws.length) (hr : isRefL (layE s e) p = true) (hl : okL l) (ht : ∀ a b, l = .obj a b → ∃ f, lookT s.tab a b = some (a, f)) :
    Inv { setE s k g { e with ws := e.ws.set p (wordL l) } with rem := noteR (setE s k g { e with ws := e.ws.set p (wordL l) }) k { e with ws := e.ws.set p (wordL l) } p l } := by
  have hlen : ({ e with ws := e.ws.set p (wordL l) } : Ent).ws.length = e.ws.length := by show (e.ws.set p _).length = _; rw [List.length_set]
  have hS : SameL s k g e { e with ws := e.ws.set p (wordL l) } := ⟨hk, rfl, rfl, hlen⟩
  have hkl := (List.getElem?_eq_some_iff.1 hk).1
  have hle : layE s { e with ws := e.ws.set p (wordL l) } = layE s e := rfl
  refine ⟨nodup_noteR (s := setE s k g _) hI.nd _ _ _ _, fun r t => ?_, ?_⟩
  · show fnd (noteR _ k _ p l) r = some t ↔ Far (setE s k g _) r t
    by_cases hrp : r = ((k : Int), (p : Int))
    · subst hrp
      rw [fnd_noteS (s := setE s k g _) hI.nd]
      constructor
      · rintro ⟨a, b, f, rfl, h1, h2, rfl⟩
        exact ⟨k, p, g, _, a, b, f, rfl, List.getElem?_set_self hkl, by rw [hlen]; exact hp, hr, lkE_new hl hp, h1, h2, rfl⟩
      · rintro ⟨j, q, g1, e1, a, b, f, hq, h1, h2, h3, h4, h5, h6, rfl⟩
        injection hq with hq1 hq2
        obtain rfl : k = j := by omega
        obtain rfl : p = q := by omega
        replace h1 : (s.tab.set k _)[k]? = some ⟨g1, some e1⟩ := h1
        rw [List.getElem?_set_self hkl] at h1
        injection h1 with h1
        injection h1 with h0 h1
        injection h1 with h1
        subst h0 h1
        rw [lkE_new hl hp] at h4
        exact ⟨a, b, f, h4, h5, h6, rfl⟩
    · rw [fnd_noteR (s := setE s k g _) hI.nd hrp, far_same hS fun q hq => lkE_set (by rintro rfl; exact hrp hq)]
      exact hI.rem r t
  · intro j g1 e1 q a b h1 h2 h3 h4
    have h1 : (s.tab.set k _)[j]? = some ⟨g1, some e1⟩ := h1
    show ∃ f, lookT (setE s k g _).tab a b = _
    rw [link_setE hS]
    rcases tab_set h1 with ⟨rfl, h7, _⟩ | ⟨_, h7⟩
    · injection h7 with h0 h7
      injection h7 with h7
      subst h0 h7
      by_cases hq : q = p
      · subst hq
        rw [lkE_new hl hp] at h4
        exact ht a b h4
      · rw [lkE_set hq] at h4
        exact hI.link j g1 e q a b hk (by rw [← hlen]; exact h2) h3 h4
    · exact hI.link j g1 e1 q a b h7 h2 h3 h4
theorem inv_setWS {s : CS} (hI : Inv s) (i g p : Int) (x : Nat) : Inv (setWS s i g p x).1 := by
  cases hv : validT s.tab i g with
  | none => rw [setWS_none hv]; exact hI
  | some q =>
    obtain ⟨k, e⟩ := q
    obtain ⟨n, rfl, rfl, hk, _⟩ := valid_at hv
    rw [setWS_some hv]
    split
    · rename_i h0
      obtain ⟨j, rfl, hj, hr⟩ := placeE_ok h0
      exact inv_word hI hk hr
    · exact hI
theorem inv_dropS {s : CS} (hI : Inv s) (i g : Int) : Inv (dropS s i g).1 := by
  cases hv : validT s.tab i g with
  | none => rw [dropS_none hv]; exact hI
  | some q =>
    obtain ⟨k, e⟩ := q
    obtain ⟨n, rfl, rfl, hk, _⟩ := valid_at hv
    rw [dropS_some hv, Int.toNat_natCast]
    exact inv_flags hI hk rfl rfl rfl
theorem inv_pinS {s : CS} (hI : Inv s) (i g : Int) (on : Bool) : Inv (pinS s i g on).1 := by
  cases hv : validT s.tab i g with
  | none => rw [pinS_none hv]; exact hI
  | some q =>
    obtain ⟨k, e⟩ := q
    obtain ⟨n, rfl, rfl, hk, _⟩ := valid_at hv
    rw [pinS_some hv]
    split
    · exact hI
    · rw [Int.toNat_natCast]
      exact inv_flags hI hk rfl rfl rfl
theorem inv_tieS {s : CS} (hI : Inv s) (i g p : Int) {l : Lnk} (hl : okL l) (ht : ∀ a b, l = .obj a b → ∃ f, lookT s.tab a b = some (a, f)) : Inv (tieS s i g p l).1 := by
  cases hv : validT s.tab i g with
  | none => rw [tieS_none hv]; exact hI
  | some q =>
    obtain ⟨k, e⟩ := q
    obtain ⟨n, rfl, rfl, hk, _⟩ := valid_at hv
    rw [tieS_some hv]
    split
    · rename_i h0
      obtain ⟨j, rfl, hj, hr⟩ := placeE_ok h0
      exact inv_tie hI hk hj hr hl ht
    · exact hI
theorem inv_TieS {s : CS} (hw : WF s) (hI : Inv s) (i g p u v : Int) : Inv (TieS s i g p u v).1 := by
  unfold TieS
  split
  · exact hI
  · split
    · exact hI
    · rename_i _ hn
      cases hv : validT s.tab u v with
      | none => rw [hv] at hn; exact absurd rfl hn
      | some q =>
        obtain ⟨k, e⟩ := q
        obtain ⟨n, rfl, rfl, hk, _⟩ := valid_at hv
        refine inv_tieS hI i g p (okT_of hw hk) fun a b hab => ?_
        injection hab with h1 h2
        rw [Int.toNat_natCast] at h1 h2
        subst h1 h2
        exact ⟨e, lookT_some.2 ⟨n, rfl, rfl, hk⟩⟩
theorem inv_refS {s : CS} (hI : Inv s) (i g p : Int) : Inv (refS s i g p) := by
  unfold refS
  split
  · rename_i a b _
    cases hl : lookT s.tab a b with
    | none => rw [holdS_none hl]; exact hI
    | some q =>
      obtain ⟨k, e⟩ := q
      obtain ⟨n, h1, h2, hk⟩ := lookT_some.1 hl
      obtain rfl : b = n := by omega
      rw [holdS_some hl]
      exact inv_flags hI hk rfl rfl rfl
  · exact hI
theorem inv_lays {s : CS} (hw : WF s) (hI : Inv s) (x : Lay) : Inv { s with lays := s.lays ++ [x] } := by
  have hle : ∀ (k g : Nat) (e : Ent), s.tab[k]? = some ⟨g, some e⟩ → layE { s with lays := s.lays ++ [x] } e = layE s e := by
    intro k g e hk
    obtain ⟨⟨_, l, h1, _⟩, _⟩ := hw.obj k g e hk
    show ((s.lays ++ [x])[e.lay - 1]?).getD _ = _
    unfold layE
    rw [List.getElem?_append_left (List.getElem?_eq_some_iff.1 h1).1]
  refine ⟨hI.nd, fun r t => ?_, fun j g1 e1 q a b h1 h2 h3 h4 => hI.link j g1 e1 q a b h1 h2 (by rw [hle _ _ _ h1] at h3; exact h3) h4⟩
  show fnd s.rem r = some t ↔ _
  rw [hI.rem]
  constructor
  · rintro ⟨j, p, g1, e1, a, b, f, rfl, h1, h2, h3, h4⟩
    exact ⟨j, p, g1, e1, a, b, f, rfl, h1, h2, by rw [hle _ _ _ h1]; exact h3, h4⟩
  · rintro ⟨j, p, g1, e1, a, b, f, rfl, h1, h2, h3, h4⟩
    rw [hle _ _ _ h1] at h3
    exact ⟨j, p, g1, e1, a, b, f, rfl, h1, h2, h3, h4⟩
theorem inv_defS {s : CS} (hw : WF s) (hI : Inv s) (ws : List Nat) : Inv (defS s ws).1 := by
  cases hd : decodeL ws with
  | none => rw [defS_none hd]; exact hI
  | some l =>
    rw [defS_some hd]
    split
    · exact hI
    · exact inv_lays hw hI l
theorem inv_openS {s : CS} (hI : Inv s) (q : Int) (b b2 : Nat) : Inv (openS s q b b2) := ⟨hI.nd, hI.rem, hI.link⟩
/-- Of an object more nothing is remembered. -/
theorem inv_more {s s' : CS} (hI : Inv s) {k g0 n : Nat} {e0 : Ent} (hk : s.tab[k]? = some ⟨g0, none⟩) (h1 : s'.lays = s.lays) (h2 : s'.rem = s.rem) (h3 : s'.tab = s.tab.set k ⟨g0 + 1, some e0⟩) (h0 : e0.ws = List.replicate n 0) : Inv s' := by
  have hkl := (List.getElem?_eq_some_iff.1 hk).1
  have hle : ∀ e, layE s' e = layE s e := fun e => by unfold layE; rw [h1]
  have hz : ∀ p, lkE e0 p = .none := fun p => by
    unfold lkE
    rw [h0, List.getD_eq_getElem?_getD, List.getElem?_replicate]
    split <;> rfl
  have hup : ∀ {a b : Nat} {f : Ent}, lookT s.tab a b = some (a, f) → lookT s'.tab a b = some (a, f) := fun {a b f} hf => by
    obtain ⟨_, hf'⟩ := lookT_self hf
    refine lookT_some.2 ⟨b, rfl, rfl, ?_⟩
    rw [h3, List.getElem?_set_ne (by rintro rfl; rw [hk] at hf'; cases hf')]
    exact hf'
  have hat : ∀ {j g1 : Nat} {e1 : Ent}, s.tab[j]? = some ⟨g1, some e1⟩ → s'.tab[j]? = some ⟨g1, some e1⟩ := fun {j g1 e1} hj => by
    rw [h3, List.getElem?_set_ne (by rintro rfl; rw [hk] at hj; cases hj)]
    exact hj
  refine ⟨by rw [h2]; exact hI.nd, fun r t => ?_, ?_⟩
  · rw [h2, hI.rem]
    constructor
    · rintro ⟨j, p, g1, e1, a, b, f, rfl, q1, q2, q3, q4, q5, q6, rfl⟩
      exact ⟨j, p, g1, e1, a, b, f, rfl, hat q1, q2, by rw [hle]; exact q3, q4, hup q5, q6, rfl⟩
    · rintro ⟨j, p, g1, e1, a, b, f, rfl, q1, q2, q3, q4, q5, q6, rfl⟩
      rw [h3] at q1
      rcases tab_set q1 with ⟨rfl, q7, _⟩ | ⟨_, q7⟩
      · injection q7 with _ q7
        injection q7 with q7
        subst q7
        rw [hz] at q4
        cases q4
      · rw [hle] at q3
        obtain ⟨f', hf'⟩ := hI.link j g1 e1 p a b q7 q2 q3 q4
        have h5 := hup hf'
        rw [q5] at h5
        injection h5 with h5
        injection h5 with _ h5
        subst h5
        exact ⟨j, p, g1, e1, a, b, f, rfl, q7, q2, q3, q4, hf', q6, rfl⟩
  · intro j g1 e1 p a b q1 q2 q3 q4
    rw [h3] at q1
    rcases tab_set q1 with ⟨rfl, q7, _⟩ | ⟨_, q7⟩
    · injection q7 with _ q7
      injection q7 with q7
      subst q7
      rw [hz] at q4
      cases q4
    · rw [hle] at q3
      obtain ⟨f', hf'⟩ := hI.link j g1 e1 p a b q7 q2 q3 q4
      exact ⟨f', hup hf'⟩
/-- Where nothing is nothing is remembered. -/
theorem inv_empty {s : CS} (h1 : s.rem = []) (h2 : ∀ (k g : Nat) (e : Ent), s.tab[k]? ≠ some ⟨g, some e⟩) : Inv s :=
  ⟨by rw [h1]; exact List.nodup_nil, fun r t => ⟨fun h => (by rw [h1] at h; cases h), fun ⟨k, p, g, e, _, _, _, _, h, _⟩ => absurd h (h2 k g e)⟩, fun k g e _ _ _ h => absurd h (h2 k g e)⟩
theorem no_free {n : Nat} (k g : Nat) (e : Ent) : (List.replicate n (⟨0, none⟩ : Slt))[k]? ≠ some ⟨g, some e⟩ := by
  intro h
  rw [List.getElem?_replicate] at h
  split at h
  · injection h with h
    injection h with _ h
    cases h
  · cases h
end Go.Proofs.YtcaaojbnjfdglaaGreatDoor
namespace Go.SL
section
variable {P : Program} {n : Nat} {r : Option Nat} {ops : Array Oper} {σ : Env} {w : World}
variable {ivs : List (List Nat × (World → Prop))} {T : Env → World → Prop} {f : Nat} {L : Array Bool}
variable {u : TypeId} {p : String} {af : Array Edge} {g : Option (Nat × Bool)} {d : Option Tmp} {x y : Operand}
end
end Go.SL
namespace Go.Proofs.YtcaaojbnjfdglaaGreatDoor
open Go.SL

def shapeT (ts : List Slt) : List (Nat × Bool) := ts.map fun t => (t.gen, t.ent.isSome)
theorem shape_set {ts : List Slt} {k g : Nat} {e e' : Ent} (h : ts[k]? = some ⟨g, some e⟩) : shapeT (ts.set k ⟨g, some e'⟩) = shapeT ts := by
  unfold shapeT
  rw [List.map_set]
  apply List.ext_getElem?
  intro i
  rw [List.getElem?_set]
  split
  · rename_i hi
    subst hi
    have := (List.getElem?_eq_some_iff.1 h).1
    rw [List.getElem?_map, h]
    simp [this]
  · rfl
/-- What an act leaves: no slot is another's, but of what is made. -/
structure Step (s : CS) (m : MS) (told : List (Nat × Nat)) (s' : CS) (m' : MS) (told' : List (Nat × Nat)) : Prop where
  P : m'.P.length ≤ m.P.length + 1
  objs : m'.objs.length ≤ m.objs.length + 1
  tab : (told' = told ∧ shapeT s'.tab = shapeT s.tab) ∨ ∃ k g0 : Nat, told' = told ++ [(k, g0 + 1)] ∧ s.tab[k]? = some ⟨g0, none⟩ ∧ (∀ (j : Nat) (t : Slt), j < k → s.tab[j]? = some t → busy t = true) ∧ shapeT s'.tab = (shapeT s.tab).set k (g0 + 1, true)
  inv : Inv s → Inv s'

/-- What Make does, in its four cases. -/
def Made (s : CS) (region id count : Int) (i g e : Nat) (s' : CS) : Prop :=
  (makeE s region id count ≠ 0 ∧ i = 0 ∧ g = 0 ∧ e = makeE s region id count ∧ s' = s) ∨
  (makeE s region id count = 0 ∧ (∀ t ∈ s.tab, busy t = true) ∧ i = 0 ∧ g = 0 ∧ e = 12 ∧ s' = s) ∨
  (makeE s region id count = 0 ∧ (∀ a, a + (makeN s id count / s.size + 1) ≤ s.own.length → ∃ i, a ≤ i ∧ i < a + (makeN s id count / s.size + 1) ∧ s.own.getD i 0 ≠ 0) ∧ i = 0 ∧ g = 0 ∧ e = 11 ∧ s' = s) ∨
  (makeE s region id count = 0 ∧ e = 0 ∧ ∃ g0 addr, s.tab[i]? = some ⟨g0, none⟩ ∧ g0 ≤ 254 ∧ (∀ (j : Nat) (t : Slt), j < i → s.tab[j]? = some t → busy t = true) ∧ g = g0 + 1 ∧
    s'.size = s.size ∧ s'.lays = s.lays ∧ s'.last = s.last ∧ s'.par = s.par ∧ s'.rem = s.rem ∧ s'.tab = s.tab.set i ⟨g0 + 1, some ⟨addr, region, true, false, id.toNat, count.toNat, List.replicate (makeN s id count) 0⟩⟩ ∧ Grows s.own s'.own (makeN s id count / s.size + 1))
theorem eql_pair (x y : Int × Int) : (if isEql BinOp.eql = true then decide (x = y) else !decide (x = y)) = decide (x = y) := if_pos rfl
theorem Make_all [Extra] (p : Nat) (s : CS) (region id count : Int) (hseq : Seq s) {w : World} {fr : List HProp} [hT : HasTab 0 Lib.deBruijn64tab fr] (H : Holds w (CELL p s :: fr)) :
    Calls Tryz.prog 29 #[pp p, .int .i64 region, .int .i64 id, .int .i64 count] w (ret fun v w' => ∃ i g e s', v = .tuple #[tkn i g, .int .i64 (e : Nat)] ∧ Made s region id count i g e s' ∧ Holds w' (CELL p s' :: fr)) := by
  refine call (Make_spec p s region id count hseq H) ?_
  rintro v w (⟨h1, rfl, H⟩ | ⟨h1, h2, rfl, H⟩ | ⟨h1, h2, rfl, H⟩ | ⟨h1, k, g0, addr, s', h2, h3, h4, rfl, h5, h6, h7, h8, h9, h10, h11, H⟩)
  · exact ⟨0, 0, makeE s region id count, s, rfl, .inl ⟨h1, rfl, rfl, rfl, rfl⟩, H⟩
  · exact ⟨0, 0, 12, s, rfl, .inr (.inl ⟨h1, h2, rfl, rfl, rfl, rfl⟩), H⟩
  · exact ⟨0, 0, 11, s, rfl, .inr (.inr (.inl ⟨h1, h2, rfl, rfl, rfl, rfl⟩)), H⟩
  · exact ⟨k, g0 + 1, 0, s', rfl, .inr (.inr (.inr ⟨h1, rfl, g0, addr, h2, h3, h4, rfl, h5, h6, h7, h8, h9, h10, h11⟩)), H⟩

theorem made_spec [Extra] (p c mo : Nat) (a : Option Addr) (cap : Nat) (s : CS) (m : MS) (told : List (Nat × Nat)) (R : Rel s m told) (hseq : Seq s) (hfew : m.objs.length < 100000) (k A B C X i g : Int) (kX : IntKind) (vW : Value) (raw : Bool) (hvW : vW.oneCell' = true) {w : World} {fr : List HProp} [hT : HasTab 0 Lib.deBruijn64tab fr]
    (H : Holds w (RROW p c mo (.slice a told.length cap) :: CELL c s :: MODEL mo m :: TKL (.slice a told.length cap) told :: fr)) :
    Calls Tryz.prog 48 #[pp p, .agg #[.int .i64 k, .int .i64 A, .int .i64 B, .int .i64 C, .int .u64 X, vW, .bool raw, .int .i64 i, .int .i64 g]] w (ret fun v w' => v = .bool true ∧ ∃ s' m' told' a' cap', Rel s' m' told' ∧ Step s m told s' m' told' ∧ Holds w' (RROW p c mo (.slice a' told'.length cap') :: CELL c s' :: MODEL mo m' :: TKL (.slice a' told'.length cap') told' :: fr)) := by
  refine calls_of Tryz.func48 rfl (by kernel_rfl) ?_
  refine J5 H ?_
  clear H; intro b3 w H
  refine J14 H ?_
  refine C_join (fun ms σ w => ms = [] ∧ ∃ (b5 i' g' e : Nat) (s' : CS), Made s A B C i' g' e s' ∧ σ 0 = pp p ∧ σ 3 = pp b3 ∧ σ 5 = pp b5 ∧ σ 6 = .int .i64 e ∧ Holds w (pts b5 (row 32 [.int .i64 i', .int .i64 g']) :: pts b3 (row 34 [.int .i64 k, .int .i64 A, .int .i64 B, .int .i64 C, .int .u64 X, vW, .bool raw, .int .i64 i, .int .i64 g]) :: RROW p c mo (.slice a told.length cap) :: CELL c s' :: MODEL mo m :: TKL (.slice a told.length cap) told :: fr)) ?_ ?_
  · replace H := Js [2,0,0,0,0] 0 H
    refine J1 H ?_
    clear H; intro w H
    refine J16 H ?_
    refine A_load1 3 [10, 15] H rfl (Wants.none rfl) rfl rfl (by kernel_rfl) ?_
    refine J32 H ?_
    refine A_load1 5 [10, 15] H rfl (Wants.none rfl) rfl rfl (by kernel_rfl) ?_
    refine J71 H ?_
    refine A_load1 7 [10, 15] H rfl (Wants.none rfl) rfl rfl (by kernel_rfl) ?_
    refine J132 H ?_
    refine A_load1 9 [10, 15] H rfl (Wants.none rfl) rfl rfl (by kernel_rfl) ?_
    refine A_two 10 14 rfl rfl (by kernel_rfl) (by repeat first | exact .nil | refine .cons (.inr H.at) ?_ | refine .cons (.inr H.mp) ?_ | refine .cons (.inl (by kernel_rfl)) ?_) (Wants.none rfl) (Wants.none rfl) (St_call (a := []) (b := []) rfl rfl (call (Make_all c s A B C hseq H) ?_)) (St_alloc H rfl ?_)
    · clear H; rintro v w ⟨i', g', e, s', rfl, hM, H⟩
      refine J114 H ?_
      refine J99 H ?_
      refine Jo 14 H ?_
      refine St_alloc H rfl ?_
      clear H; intro b5 w H
      refine Jo 15 H ?_
      refine J35 H ?_
      clear H; intro w H
      refine J109 H ?_
      refine J2 H ?_
      replace H := Js [0,1,1,0,0,0] 0 H
      exact ⟨rfl, rfl, b5, i', g', e, s', hM, rfl, rfl, rfl, rfl, H⟩
    · clear H; intro b5 w H
      refine Jo 10 H ?_
      refine Jk rfl rfl (Make_all c s A B C hseq H.swap) ?_
      clear H; rintro v w ⟨i', g', e, s', rfl, hM, H⟩
      refine J114 H ?_
      refine J99 H ?_
      refine Jo 15 H ?_
      refine J35 H ?_
      clear H; intro w H
      refine J109 H ?_
      refine J2 H ?_
      replace H := Js [1,1,1,0,0,0] 0 H
      exact ⟨rfl, rfl, b5, i', g', e, s', hM, rfl, rfl, rfl, rfl, H⟩
  clear H
  rintro ms σ w ⟨rfl, b5, i', g', e, s', hM, g0, g3, g5, g6, H⟩
  rw [upd_self g0, upd_self g3, upd_self g5, upd_self g6]
  obtain ⟨hm1, hm2⟩ := may_law R A B C
  replace H := Js [4,0,0,0,0,0] 0 H
  refine J1 H ?_
  clear H; intro w H
  refine J16 H ?_
  refine A_load1 3 [10] H rfl (Wants.none rfl) rfl rfl (by kernel_rfl) ?_
  refine J32 H ?_
  refine A_load1 5 [10] H rfl (Wants.none rfl) rfl rfl (by kernel_rfl) ?_
  refine J71 H ?_
  refine A_load1 7 [10] H rfl (Wants.none rfl) rfl rfl (by kernel_rfl) ?_
  refine J132 H ?_
  refine A_load1 9 [10] H rfl (Wants.none rfl) rfl rfl (by kernel_rfl) ?_
  refine Jo 10 H ?_
  refine Jk rfl rfl (May15_spec mo m A B C H) ?_
  clear H; rintro v w ⟨rfl, H⟩
  refine J114 H ?_
  refine J146 H ?_
  refine J30 H ?_
  rcases hM with ⟨h1, rfl, rfl, rfl, rfl⟩ | ⟨h1, h2, rfl, rfl, rfl, rfl⟩ | ⟨h1, h2, rfl, rfl, rfl, rfl⟩ | ⟨h1, rfl, g0', addr, h2, h3, h4, rfl, h5, h6, h7, h8, h9, h10, h11⟩
  · have hw' : (mayM m A B C).2 ≠ 0 := by rw [← hm1]; exact h1
    refine J15 H ?_
    rw [show ((((mayM m A B C).2 : Nat) : Int) != 0) = true by rw [bne_iff_ne]; omega]
    refine J11 H ?_
    refine J9 H ?_
    rw [show ((((makeE s' A B C : Nat) : Int)) == (((mayM m A B C).2 : Nat) : Int)) = true by rw [hm1]; exact beq_self_eq_true _]
    refine J10 H ?_
    refine J117 H ?_
    refine Lp_g rfl rfl rfl (St_eqPair rfl rfl (.inl rfl) rfl ?_)
    refine J4 H ?_
    replace H := Js [3,3,0,2] 2 H
    exact C_ret (Jy H rfl fun w' H' => ⟨rfl, s', m, told, a, cap, R, ⟨by omega, by omega, .inl ⟨rfl, rfl⟩, id⟩, H'⟩)
  · have hw' : (mayM m A B C).2 = 0 := by rw [← hm1]; exact h1
    rw [hw']
    refine J75 H ?_
    refine J15 H ?_
    refine J11 H ?_
    replace H := Js [4,0,0,0,0,0] 0 H
    obtain ⟨q, mem, hw, hm, H⟩ := CELL_out H
    replace H := Js [4,0,0,0,0,0,0,0,0,0,0,0,0,0,0,0] 0 H
    refine J180 H ?_
    refine Jc rfl rfl (Left_spec q.tp s'.tab H) ?_
    clear H; rintro v w ⟨rfl, H⟩
    have hbt : s'.tab.length - busyT s'.tab = 0 := by
      unfold busyT
      rw [List.filter_eq_self.2 h2, Nat.sub_self]
    rw [hbt]
    refine J27 H ?_
    refine J117 H ?_
    refine Lp_g rfl rfl rfl (St_eqPair rfl rfl (.inl rfl) rfl ?_)
    refine J4 H ?_
    replace H := Js [1,1,1,1,0,0,0,0,0,0,0,0,0,0,0,0] 0 H
    replace H := CELL_in hw hm H
    replace H := Js [4,0,0,2] 2 H
    exact C_ret (Jy H rfl fun w' H' => ⟨rfl, s', m, told, a, cap, R, ⟨by omega, by omega, .inl ⟨rfl, rfl⟩, id⟩, H'⟩)
  · have hw' : (mayM m A B C).2 = 0 := by rw [← hm1]; exact h1
    have hn := hm2 hw'
    rw [hw', ← hn]
    refine J75 H ?_
    refine J75 H ?_
    refine J15 H ?_
    refine J11 H ?_
    replace H := Js [4,0,0,0,0,0] 0 H
    obtain ⟨q, mem, hw, hm, H⟩ := CELL_out H
    replace H := Js [3,0,0,0,0,0,0,0,0,0,0,0,0,0,0,0] 0 H
    refine J180 H ?_
    refine Jc rfl rfl (Words_spec q.sp s'.size mem s'.own H) ?_
    clear H; rintro v w ⟨rfl, H⟩
    replace H := Js [1,1,1,0,0,0,0,0,0,0,0,0,0,0,0,0] 0 H
    replace H := CELL_in hw hm H
    refine J0 H ?_
    replace H := Js [4,0,0,0,0,0] 0 H
    have hsz := hw.size
    have hpos : s'.size > 0 := by omega
    have hmx : (if (1 : Int) > ((s'.size : Nat) : Int) then (1 : Int) else ((s'.size : Nat) : Int)) = ((s'.size : Nat) : Int) := by split <;> omega
    have hnlt : makeN s' B C < 100000 := by
      obtain ⟨r, la, c', l, _, _, _, _, _, e1, e2, e3⟩ := mayM_ok hw'
      rw [hn, e1, e2]
      show l.fixed + c' * l.record < _
      omega
    refine J1 H ?_
    clear H; intro w H
    refine A_loadN 0 [9, 12] H rfl (Wants.none rfl) rfl (by repeat (first | exact Reads.nil _ | apply Reads.cons rfl)) (by kernel_rfl) ?_
    refine A_build 1 rfl (Wants.none rfl) rfl (by kernel_rfl) ?_
    refine A_eqPair 2 rfl (Wants.none rfl) rfl rfl (.inl rfl) (by kernel_rfl) ?_
    rw [eql_pair, decide_eq_true (show (((0 : Nat) : Int), ((0 : Nat) : Int)) = ((0 : Int), (0 : Int)) from rfl)]
    refine J60 H ?_
    refine A_pv 4 rfl (Wants.of rfl rfl rfl) rfl (by kernel_rfl) ?_
    refine J181 H ?_
    rw [show decide ((s'.size : Int) > 0) = true from decide_eq_true (by omega)]
    refine J155 H ?_
    refine A_pv 8 rfl (Wants.of rfl rfl rfl) rfl (by kernel_rfl) ?_
    refine A_pv 10 rfl (Wants.of rfl rfl rfl) rfl (by kernel_rfl) ?_
    refine J174 H ?_
    refine A_two 9 12 rfl rfl (by kernel_rfl) (by repeat first | exact .nil | refine .cons (.inr H.at) ?_ | refine .cons (.inr H.mp) ?_ | refine .cons (.inl (by kernel_rfl)) ?_) (Wants.of rfl rfl rfl) (Wants.of rfl rfl rfl) (St_call (a := []) (b := []) rfl rfl (call (run_spec p c mo _ s' H) ?_)) (St_max rfl rfl rfl ?_)
    · clear H; rintro v w ⟨bb, rfl, hfr, H⟩
      have hlt : bb < makeN s' B C / s'.size + 1 := by
        refine Nat.lt_of_not_le fun hle => ?_
        obtain ⟨a0, ha, hz⟩ := hfr
        obtain ⟨i0, hi1, hi2, hi3⟩ := h2 a0 (by omega)
        exact hi3 (hz i0 hi1 (by omega))
      have hdl : makeN s' B C / s'.size ≤ makeN s' B C := Nat.div_le_self _ _
      refine Jo 12 H ?_
      refine St_max rfl rfl rfl ?_
      rw [hmx]
      refine A_pv (v := .int .i64 ((makeN s' B C / s'.size : Nat) : Int)) 13 rfl (Wants.of rfl rfl rfl) (by
        show (if IntKind.i64 = IntKind.i64 then (if ((s'.size : Nat) : Int) = 0 then none else some (Value.int IntKind.i64 (IntKind.i64.wrap (Int.tdiv ((makeN s' B C : Nat) : Int) ((s'.size : Nat) : Int))))) else none) = _
        rw [if_pos rfl, if_neg (by omega), quoN (by omega)]) (by kernel_rfl) ?_
      refine J175 H ?_
      rw [inc64 (by omega)]
      refine J176 H ?_
      rw [show decide ((bb : Int) < ((makeN s' B C / s'.size + 1 : Nat) : Int)) = true from decide_eq_true (by omega)]
      refine J109 H ?_
      refine J130 H ?_
      refine J2 H ?_
      replace H := Js [0,0,0,2] 2 H
      exact C_ret (Jy H rfl fun w' H' => ⟨rfl, s', m, told, a, cap, R, ⟨by omega, by omega, .inl ⟨rfl, rfl⟩, id⟩, H'⟩)
    · rw [hmx]
      have hdl : makeN s' B C / s'.size ≤ makeN s' B C := Nat.div_le_self _ _
      refine A_pv (v := .int .i64 ((makeN s' B C / s'.size : Nat) : Int)) 13 rfl (Wants.of rfl rfl rfl) (by
        show (if IntKind.i64 = IntKind.i64 then (if ((s'.size : Nat) : Int) = 0 then none else some (Value.int IntKind.i64 (IntKind.i64.wrap (Int.tdiv ((makeN s' B C : Nat) : Int) ((s'.size : Nat) : Int))))) else none) = _
        rw [if_pos rfl, if_neg (by omega), quoN (by omega)]) (by kernel_rfl) ?_
      refine J175 H ?_
      rw [inc64 (by omega)]
      refine Jo 9 H ?_
      refine Jk rfl rfl (run_spec p c mo _ s' H) ?_
      clear H; rintro v w ⟨bb, rfl, hfr, H⟩
      have hlt : bb < makeN s' B C / s'.size + 1 := by
        refine Nat.lt_of_not_le fun hle => ?_
        obtain ⟨a0, ha, hz⟩ := hfr
        obtain ⟨i0, hi1, hi2, hi3⟩ := h2 a0 (by omega)
        exact hi3 (hz i0 hi1 (by omega))
      refine J176 H ?_
      rw [show decide ((bb : Int) < ((makeN s' B C / s'.size + 1 : Nat) : Int)) = true from decide_eq_true (by omega)]
      refine J109 H ?_
      refine J130 H ?_
      refine J2 H ?_
      replace H := Js [0,0,0,2] 2 H
      exact C_ret (Jy H rfl fun w' H' => ⟨rfl, s', m, told, a, cap, R, ⟨by omega, by omega, .inl ⟨rfl, rfl⟩, id⟩, H'⟩)
  · have hw' : (mayM m A B C).2 = 0 := by rw [← hm1]; exact h1
    rw [hw']
    obtain ⟨_, _, _, _, _, _, _, hmw, _⟩ := id (MODEL_out H)
    obtain ⟨hnew, R'⟩ := make_rel R hmw hw' h2 h6 h7 h8 h10
    have htl : told.length < 100000 := by rw [R.len]; exact hfew
    refine J75 H ?_
    refine J75 H ?_
    refine J75 H ?_
    refine J15 H ?_
    refine J8 H ?_
    replace H := Js [3,0,0,0,0,0] 0 H
    refine J193 H ?_
    replace H := Js [5,2,2,0,1,0] 0 H
    refine J30 H ?_
    refine C_loop (fun ms σ w q => ms = [] ∧ ∃ j : Nat, j ≤ told.length ∧ q = told.length - j ∧ σ 0 = pp p ∧ σ 3 = pp b3 ∧ σ 5 = pp b5 ∧ σ 102 = .slice a told.length cap ∧ σ 103 = .int .i64 told.length ∧ σ 104 = .int .i64 j ∧ Holds w (TKL (.slice a told.length cap) told :: pts b5 (row 32 [.int .i64 (i' : Nat), .int .i64 ((g0' + 1 : Nat) : Int)]) :: pts b3 (row 34 [.int .i64 k, .int .i64 A, .int .i64 B, .int .i64 C, .int .u64 X, vW, .bool raw, .int .i64 i, .int .i64 g]) :: RROW p c mo (.slice a told.length cap) :: CELL c s' :: MODEL mo m :: fr)) (m := told.length) ⟨rfl, 0, by omega, rfl, rfl, rfl, rfl, rfl, rfl, rfl, H⟩ ?_
    clear H
    rintro ms σ w q ⟨rfl, j, hj, rfl, g0, g3, g5, g102, g103, g104, H⟩
    rw [upd_self g0, upd_self g3, upd_self g5, upd_self g102, upd_self g103, upd_self g104]
    refine J21 H ?_
    refine C_dec rfl (fun h => C_skip ?_) (fun h => C_exit ?_)
    · have hlt : j < told.length := by omega
      have hn := List.getElem?_eq_getElem hlt
      generalize told[j] = xy at hn
      obtain ⟨x, y⟩ := xy
      obtain ⟨bT, sT, rfl, H, hcl⟩ := sls_open H (by omega)
      refine J68 H ?_
      refine Lp_s rfl (St_indexAddr rfl rfl (by omega) (by omega) rfl ?_)
      refine Lp_s rfl (St_loadN H rfl (tkc_reads hn) rfl ?_)
      refine J17 H ?_
      clear H; intro b11 w H
      refine J7 H ?_
      clear H; intro w H
      refine Lp_nil ?_
      refine J29 H ?_
      refine J55 H ?_
      refine Lp_s rfl (St_eqPair rfl rfl (.inl rfl) rfl ?_)
      refine Lp_nil ?_
      replace H := hcl _ _ H.drop
      refine C_dec (p := ((x : Int), (y : Int)) = (((i' : Nat) : Int), ((g0' + 1 : Nat) : Int))) rfl (fun he => ?_) (fun he => C_skip ?_)
      · exfalso
        injection he with e1 e2
        obtain rfl : x = i' := by omega
        obtain rfl : y = g0' + 1 := by omega
        exact hnew j hn
      · refine J3 H ?_
        exact ⟨_, ⟨rfl, j + 1, hlt, rfl, rfl, rfl, rfl, rfl, rfl, inc64 (by omega), H⟩, by omega⟩
    · replace H := Js [5,0,0,0,0,0] 0 H
      refine J1 H ?_
      clear H; intro w H
      refine J16 H ?_
      refine A_load1 3 [10] H rfl (Wants.none rfl) rfl rfl (by kernel_rfl) ?_
      refine J32 H ?_
      refine A_load1 5 [10] H rfl (Wants.none rfl) rfl rfl (by kernel_rfl) ?_
      refine J71 H ?_
      refine A_load1 7 [10] H rfl (Wants.none rfl) rfl rfl (by kernel_rfl) ?_
      refine J132 H ?_
      refine A_load1 9 [10] H rfl (Wants.none rfl) rfl rfl (by kernel_rfl) ?_
      refine Jo 10 H ?_
      refine Jk rfl rfl (Make15_spec mo m A B C hw' hfew H) ?_
      clear H; rintro v w ⟨rfl, H⟩
      refine J2 H ?_
      replace H := Js [1,1,2,0,0,0] 0 H
      refine J1 H ?_
      clear H; intro w H
      refine J160 H ?_
      refine A_load1 4 [7, 10] H rfl (Wants.none rfl) rfl rfl (by kernel_rfl) ?_
      refine J274 H ?_
      refine Jo 6 H ?_
      refine St_buildSlice H rfl rfl rfl ?_
      clear H; intro bS w H
      replace H := H.swap
      refine Jo 7 H ?_
      refine St_append H rfl rfl (by repeat (first | exact Reads.nil _ | apply Reads.cons rfl)) rfl (by decide) (by rw [tkc_length]; simp only [List.length_cons, List.length_nil]; omega) rfl rfl ?_
      clear H; intro vS w H
      have e1 : tkc told ++ [.int .i64 ((i' : Nat) : Int), .int .i64 ((g0' + 1 : Nat) : Int)] = tkc (told ++ [(i', g0' + 1)]) := by
        rw [tkc_append]; rfl
      rw [e1] at H
      obtain ⟨aS, cS, rfl⟩ := sls_slice H (m := (told ++ [(i', g0' + 1)]).length) (tkc_length _) (by decide)
      refine J70 H ?_
      refine A_fieldAddr 9 rfl (Wants.none rfl) rfl (by kernel_rfl) ?_
      refine Jo 10 H ?_
      refine J106 H ?_
      clear H; intro w H
      refine J201 H ?_
      replace H := Js [3,5,3,0] 3 H
      refine C_ret (Jy H rfl fun w' H' => ⟨rfl, s', _, _, aS, cS, R', ⟨?_, ?_, .inr ⟨i', g0', rfl, h2, h4, ?_⟩, fun hI => inv_more hI h2 h6 h9 h10 rfl⟩, H'⟩)
      · show m.P.length ≤ _
        omega
      · show (m.objs ++ [_]).length ≤ _
        simp
      · rw [h10]
        unfold shapeT
        rw [List.map_set]
        rfl
end Go.Proofs.YtcaaojbnjfdglaaGreatDoor
namespace Go.Proofs.YtcaaojbnjfdglaaGreatDoor
open Go.SL

theorem shape_setWS (s : CS) (i g p : Int) (x : Nat) : shapeT (setWS s i g p x).1.tab = shapeT s.tab := by
  cases hv : validT s.tab i g with
  | none => rw [setWS_none hv]
  | some q =>
    obtain ⟨k, e⟩ := q
    obtain ⟨n, rfl, rfl, hk, _⟩ := valid_at hv
    rw [setWS_some hv]
    split
    · rw [Int.toNat_natCast]; exact shape_set hk
    · rfl
theorem shape_dropS (s : CS) (i g : Int) : shapeT (dropS s i g).1.tab = shapeT s.tab := by
  cases hv : validT s.tab i g with
  | none => rw [dropS_none hv]
  | some q =>
    obtain ⟨k, e⟩ := q
    obtain ⟨n, rfl, rfl, hk, _⟩ := valid_at hv
    rw [dropS_some hv, Int.toNat_natCast]
    exact shape_set hk
theorem shape_pinS (s : CS) (i g : Int) (on : Bool) : shapeT (pinS s i g on).1.tab = shapeT s.tab := by
  cases hv : validT s.tab i g with
  | none => rw [pinS_none hv]
  | some q =>
    obtain ⟨k, e⟩ := q
    obtain ⟨n, rfl, rfl, hk, _⟩ := valid_at hv
    rw [pinS_some hv]
    split
    · rfl
    · rw [Int.toNat_natCast]; exact shape_set hk
theorem shape_tieS (s : CS) (i g p : Int) (l : Lnk) : shapeT (tieS s i g p l).1.tab = shapeT s.tab := by
  cases hv : validT s.tab i g with
  | none => rw [tieS_none hv]
  | some q =>
    obtain ⟨k, e⟩ := q
    obtain ⟨n, rfl, rfl, hk, _⟩ := valid_at hv
    rw [tieS_some hv]
    split
    · rw [Int.toNat_natCast]; exact shape_set hk
    · rfl
theorem shape_TieS (s : CS) (i g p u v : Int) : shapeT (TieS s i g p u v).1.tab = shapeT s.tab := by
  unfold TieS
  split
  · rfl
  · split
    · rfl
    · exact shape_tieS s i g p _
theorem shape_refS (s : CS) (i g p : Int) : shapeT (refS s i g p).tab = shapeT s.tab := by
  unfold refS
  split
  · rename_i a b _
    cases hl : lookT s.tab a b with
    | none => rw [holdS_none hl]
    | some q =>
      obtain ⟨k, e⟩ := q
      obtain ⟨n, h1, h2, hk⟩ := lookT_some.1 hl
      obtain rfl : b = n := by omega
      rw [holdS_some hl]
      exact shape_set hk
  · rfl
theorem shape_defS (s : CS) (ws : List Nat) : shapeT (defS s ws).1.tab = shapeT s.tab := by
  cases hd : decodeL ws with
  | none => rw [defS_none hd]
  | some l =>
    rw [defS_some hd]
    split <;> rfl
theorem len_setM (m : MS) (k : Nat) (x : Mob) : (setM m k x).objs.length = m.objs.length := List.length_set
theorem objs_cutM (m : MS) (o p : Int) : (cutM m o p).1.objs.length = m.objs.length ∧ (cutM m o p).1.P = m.P := by
  unfold cutM
  split
  · exact ⟨rfl, rfl⟩
  · split
    · exact ⟨len_setM _ _ _, rfl⟩
    · exact ⟨rfl, rfl⟩
theorem objs_tieM (m : MS) (o p u : Int) : (tieM m o p u).1.objs.length = m.objs.length ∧ (tieM m o p u).1.P = m.P := by
  unfold tieM
  split
  · exact ⟨rfl, rfl⟩
  · split
    · split
      · exact ⟨rfl, rfl⟩
      · exact ⟨len_setM _ _ _, rfl⟩
    · exact ⟨rfl, rfl⟩
theorem objs_dropM (m : MS) (o : Int) : (dropM m o).1.objs.length = m.objs.length ∧ (dropM m o).1.P = m.P := by
  unfold dropM
  split
  · exact ⟨rfl, rfl⟩
  · exact ⟨len_setM _ _ _, rfl⟩
theorem objs_pinM (m : MS) (o : Int) (on : Bool) : (pinM m o on).1.objs.length = m.objs.length ∧ (pinM m o on).1.P = m.P := by
  unfold pinM
  split
  · exact ⟨rfl, rfl⟩
  · split
    · exact ⟨rfl, rfl⟩
    · exact ⟨len_setM _ _ _, rfl⟩
theorem objs_holdM (m : MS) (t : Nat) : (holdM m t).objs.length = m.objs.length ∧ (holdM m t).P = m.P := by
  unfold holdM
  split
  · exact ⟨len_setM _ _ _, rfl⟩
  · exact ⟨rfl, rfl⟩
theorem objs_refM (m : MS) (o p : Int) : (refM m o p).1.objs.length = m.objs.length ∧ (refM m o p).1.P = m.P := by
  unfold refM
  split
  · exact ⟨rfl, rfl⟩
  · split
    · show (if _ then _ else _ : MS).objs.length = _ ∧ (if _ then _ else _ : MS).P = _
      split
      · exact objs_holdM m _
      · exact ⟨rfl, rfl⟩
    · exact ⟨rfl, rfl⟩
theorem objs_setWM (m : MS) (o p : Int) (X : Nat) : (setWM m o p X).objs.length = m.objs.length ∧ (setWM m o p X).P = m.P := by
  unfold setWM
  split
  · exact ⟨rfl, rfl⟩
  · split
    · exact ⟨len_setM _ _ _, rfl⟩
    · exact ⟨rfl, rfl⟩
theorem objs_defM (m : MS) (ws : List Nat) : (defM m ws).1.objs = m.objs ∧ (defM m ws).1.P = m.P := by
  unfold defM
  split
  · exact ⟨rfl, rfl⟩
  · split <;> exact ⟨rfl, rfl⟩
theorem Step_eq {s s' : CS} {m m' : MS} {told : List (Nat × Nat)} (h1 : m'.objs.length = m.objs.length) (h2 : m'.P = m.P) (h3 : shapeT s'.tab = shapeT s.tab) (h4 : Inv s → Inv s' := by exact id) : Step s m told s' m' told := ⟨by rw [h2]; omega, by omega, .inl ⟨rfl, h3⟩, h4⟩
end Go.Proofs.YtcaaojbnjfdglaaGreatDoor
namespace Go.Proofs.YtcaaojbnjfdglaaGreatDoor
open Go.SL

theorem beq_int (x : Int) : (x == x) = true := beq_self_eq_true x
theorem Do_spec [Extra] (p : Nat) (s : CS) (m : MS) (told : List (Nat × Nat)) (R : Rel s m told) (hseq : Seq s) (hfew : m.objs.length < 100000) (hP : m.P.length < 100000) (k A B C i g : Int) (X : Nat) (hX : X < 18446744073709551616) (vW : Value) (ws : List Nat) (hws : ∀ x ∈ ws, x < 18446744073709551616) (raw : Bool)
    {w : World} {fr : List HProp} [hT : HasTab 0 Lib.deBruijn64tab fr] (hrW : RdS fr vW ws.length 1 (ucells ws)) (H : Holds w (RUN p s m told :: fr)) :
    Calls Tryz.prog 15 #[pp p, .agg #[.int .i64 k, .int .i64 A, .int .i64 B, .int .i64 C, .int .u64 X, vW, .bool raw, .int .i64 i, .int .i64 g]] w (ret fun v w' => v = .bool true ∧ ∃ s' m' told', Rel s' m' told' ∧ Step s m told s' m' told' ∧ Holds w' (RUN p s' m' told' :: fr)) := by
  obtain ⟨_, adW, capW, rfl, _⟩ := id hrW
  obtain ⟨c, mo, a, cap, H⟩ := RUN_out H
  have hlen : told.length ≤ 1000000 := by rw [R.len]; omega
  obtain ⟨_, _, hw, _, _⟩ := CELL_out H.swap
  obtain ⟨_, _, _, _, _, _, _, hmw, _⟩ := MODEL_out (H.sel [2, 0, 0, 0] 0)
  refine calls_of Tryz.func15 rfl (by kernel_rfl) ?_
  refine J5 H ?_
  clear H; intro b3 w H
  refine J14 H ?_
  refine C_join (fun ms σ w => ms = [] ∧ ∃ (b5 : Nat) (i' g' o : Int), Pick told i' g' o ∧ σ 0 = pp p ∧ σ 3 = pp b3 ∧ σ 5 = pp b5 ∧ σ 6 = .int .i64 o ∧ Holds w (pts b5 (row 32 [.int .i64 i', .int .i64 g']) :: pts b3 (row 34 [.int .i64 k, .int .i64 A, .int .i64 B, .int .i64 C, .int .u64 X, .slice adW ws.length capW, .bool raw, .int .i64 i, .int .i64 g]) :: RROW p c mo (.slice a told.length cap) :: CELL c s :: MODEL mo m :: TKL (.slice a told.length cap) told :: fr)) ?_ ?_
  · replace H := Js [1,3,0,0,0] 0 H
    refine J20 H ?_
    refine J28 H ?_
    refine J28 H ?_
    refine J57 H ?_
    refine J55 H ?_
    refine Jc rfl rfl (pick_spec p c mo a cap told hlen A i g raw H) ?_
    clear H; rintro v w ⟨i', g', o, rfl, hp, _, _, H⟩
    refine J19 H ?_
    clear H; intro b5 w H
    refine J7 H ?_
    clear H; intro w H
    refine J0 H ?_
    replace H := Js [0,2,0,1,1,0] 0 H
    exact ⟨rfl, rfl, _, i', g', o, hp, rfl, rfl, rfl, rfl, H⟩
  clear H
  rintro ms σ w ⟨rfl, b5, i', g', o, hPk, g0, g3, g5, g6, H⟩
  rw [upd_self g0, upd_self g3, upd_self g5, upd_self g6]
  refine J110 H ?_
  refine Lp_nil ?_
  refine J232 H ?_
  by_cases hk0 : k = 0
  · subst hk0
    refine J11 H ?_
    replace H := Js [3,0,0,0,0,0] 0 H
    refine J1 H ?_
    clear H; intro w H
    refine J141 H ?_
    refine Jk rfl rfl (Define_spec c s _ ws hws hrW.there.there.there.there.there H) ?_
    clear H; rintro v w ⟨rfl, H⟩
    obtain ⟨hd, R'⟩ := def_law R hmw ws
    rw [hd]
    refine J85 H ?_
    replace H := Js [4,0,0,0,0,0] 0 H
    refine J1 H ?_
    clear H; intro w H
    refine J141 H ?_
    refine Jk rfl rfl (Define15_spec mo m _ ws hws hrW.there.there.there.there.there H) ?_
    clear H; rintro v w ⟨rfl, H⟩
    refine J85 H ?_
    refine J9 H ?_
    rw [beq_int (((defM m ws).2.1 : Nat) : Int)]
    refine J213 H ?_
    rw [beq_int (((defM m ws).2.2 : Nat) : Int)]
    refine J4 H ?_
    replace H := Js [4,1,0,2] 2 H
    exact C_ret (Jy H rfl fun w' H' => ⟨rfl, _, _, _, R', ⟨by rw [(objs_defM m ws).2]; omega, by rw [(objs_defM m ws).1]; omega, .inl ⟨rfl, shape_defS s ws⟩, fun hI => inv_defS hw hI ws⟩, RUN_in H'⟩)
  rw [show (k == 0) = false by simpa using hk0]
  refine J41 H ?_
  by_cases hk1 : k = 1
  · subst hk1
    refine J11 H ?_
    have hl := R.last
    have he := err_law R hw A
    replace H := Js [3,0,0,0,0,0] 0 H
    refine J1 H ?_
    clear H; intro w H
    refine J141 H ?_
    refine Jk rfl rfl (Open_spec c s A (by omega) H) ?_
    clear H; rintro v w (⟨h1, rfl, H⟩ | ⟨h1, b, b2, rfl, H⟩)
    · rw [he] at h1 ⊢
      have ho : openM m A = (m, 0, dErr m.P A) := by unfold openM; rw [if_neg h1]
      refine J85 H ?_
      replace H := Js [4,0,0,0,0,0] 0 H
      refine J1 H ?_
      clear H; intro w H
      refine J141 H ?_
      refine Jk rfl rfl (Open15_spec mo m A hP H) ?_
      clear H; rintro v w ⟨rfl, H⟩
      rw [ho] at H ⊢
      refine J85 H ?_
      refine J108 H ?_
      refine J36 H ?_
      rw [beq_int ((dErr m.P A : Nat) : Int)]
      refine J4 H ?_
      replace H := Js [4,1,0,2] 2 H
      exact C_ret (Jy H rfl fun w' H' => ⟨rfl, _, _, _, R, Step_eq rfl rfl rfl, RUN_in H'⟩)
    · rw [he] at h1
      have ho : openM m A = ({ m with P := m.P ++ [A] }, m.P.length, 0) := by unfold openM; rw [if_pos h1]
      refine J85 H ?_
      replace H := Js [4,0,0,0,0,0] 0 H
      refine J1 H ?_
      clear H; intro w H
      refine J141 H ?_
      refine Jk rfl rfl (Open15_spec mo m A hP H) ?_
      clear H; rintro v w ⟨rfl, H⟩
      rw [ho] at H ⊢
      rw [hl]
      refine J85 H ?_
      refine J9 H ?_
      rw [beq_int ((m.P.length : Nat) : Int)]
      refine J213 H ?_
      refine J4 H ?_
      replace H := Js [4,1,0,2] 2 H
      exact C_ret (Jy H rfl fun w' H' => ⟨rfl, _, _, _, open_rel R h1 b b2, ⟨by show (m.P ++ [A]).length ≤ _; simp, by show m.objs.length ≤ _; omega, .inl ⟨rfl, rfl⟩, fun hI => inv_openS hI A b b2⟩, RUN_in H'⟩)
  rw [show (k == 1) = false by simpa using hk1]
  refine J41 H ?_
  by_cases hk2 : k = 2
  · subst hk2
    refine J11 H ?_
    refine J39 H ?_
    replace H := Js [2,2,2,2,0,0] 0 H
    refine Jc rfl rfl (made_spec p c mo a cap s m told R hseq hfew _ A B C _ i g .i64 _ raw rfl H) ?_
    clear H; rintro v w ⟨rfl, s', m', told', a', cap', R', S', H⟩
    refine J0 H ?_
    replace H := Js [0,0,0,0] 2 H
    exact C_ret (Jy H rfl fun w' H' => ⟨rfl, s', m', told', R', S', RUN_in H'⟩)
  rw [show (k == 2) = false by simpa using hk2]
  refine J41 H ?_
  by_cases hk3 : k = 3
  · subst hk3
    refine J11 H ?_
    replace H := Js [3,0,0,0,0,0] 0 H
    refine J1 H ?_
    clear H; intro w H
    refine A_pv 0 rfl (Wants.none rfl) rfl (by kernel_rfl) ?_
    refine A_pv 1 rfl (Wants.none rfl) rfl (by kernel_rfl) ?_
    refine A_fieldAddr 2 rfl (Wants.none rfl) rfl (by kernel_rfl) ?_
    refine A_load1 3 [7] H rfl (Wants.none rfl) rfl rfl (by kernel_rfl) ?_
    refine A_loadN 4 [7] H rfl (Wants.none rfl) rfl (by repeat (first | exact Reads.nil _ | apply Reads.cons rfl)) (by kernel_rfl) ?_
    refine J59 H ?_
    refine A_load1 6 [7] H rfl (Wants.none rfl) rfl rfl (by kernel_rfl) ?_
    refine Jo 7 H ?_
    refine Jk rfl rfl (Get_spec c s i' g' B H) ?_
    clear H; rintro v w ⟨rfl, H⟩
    rcases get_law R hPk B with ⟨h0, h1⟩ | ⟨h0, n, j, x, rfl, rfl, hx, hj, h1⟩
    · rw [h1]
      refine J88 H ?_
      refine J142 H ?_
      refine J47 H ?_
      replace H := Js [4,0,0,0,0,0] 0 H
      refine J1 H ?_
      clear H; intro w H
      refine J182 H ?_
      refine Jk rfl rfl (Place_spec mo m o B false H) ?_
      clear H; rintro v w ⟨rfl, H⟩
      refine J134 H ?_
      refine J3 H ?_
      rw [show (((placeM m o B false : Nat) : Int) != 0) = true by rw [bne_iff_ne]; omega]
      refine J11 H ?_
      refine J9 H ?_
      rw [beq_int ((placeM m o B false : Nat) : Int)]
      refine J63 H ?_
      refine J4 H ?_
      replace H := Js [4,1,0,2] 2 H
      exact C_ret (Jy H rfl fun w' H' => ⟨rfl, s, m, told, R, Step_eq rfl rfl rfl, RUN_in H'⟩)
    · rw [h1]
      have hnl := (List.getElem?_eq_some_iff.1 hx).1
      have hjx := List.getElem?_eq_getElem hj
      have hjd : x.w.getD j 0 = x.w[j] := by rw [List.getD_eq_getElem?_getD, hjx]; rfl
      have hsm := MODEL_sizes (w := hmw) hx
      rw [hjd]
      generalize x.w[j] = y at hjx
      refine J88 H ?_
      refine J142 H ?_
      refine J47 H ?_
      replace H := Js [4,0,0,0,0,0] 0 H
      refine J1 H ?_
      clear H; intro w H
      refine J182 H ?_
      refine Jk rfl rfl (Place_spec mo m n j false H) ?_
      clear H; rintro v w ⟨rfl, H⟩
      rw [h0]
      refine J134 H ?_
      refine J34 H ?_
      obtain ⟨t, lc, aL, cL, bO, cO, sO, ptrs, q, vw, vk, vt, rest, hm, h2, hp, H, hclose⟩ := MODEL_at H hx
      have hm' := set_same hx hm
      obtain ⟨aw, cw, rfl⟩ := sls_slice H.drop (ucells_length _) (by decide)
      obtain ⟨bW, sW, rfl, H, hcw⟩ := sls_open H.swap (by omega)
      refine J1 H ?_
      clear H; intro w H
      refine J153 H ?_
      refine A_pv 3 rfl (Wants.of rfl rfl rfl) rfl (by kernel_rfl) ?_
      refine A_pv 4 rfl (Wants.of rfl rfl rfl) rfl (by kernel_rfl) ?_
      refine J181 H ?_
      refine A_fieldAddr 6 rfl (Wants.of rfl rfl rfl) rfl (by kernel_rfl) ?_
      refine A_load1 7 [] H rfl (Wants.of rfl rfl rfl) rfl rfl (by kernel_rfl) ?_
      refine A_pv 8 rfl (Wants.of rfl rfl rfl) rfl (by kernel_rfl) ?_
      refine A_fieldAddr 9 rfl (Wants.of rfl rfl rfl) rfl (by kernel_rfl) ?_
      refine A_load1 10 [] H rfl (Wants.of rfl rfl rfl) rfl rfl (by kernel_rfl) ?_
      refine J174 H ?_
      refine A_indexAddr 12 rfl (Wants.of rfl rfl rfl) rfl rfl (by omega) (by omega) (by kernel_rfl) ?_
      refine A_load1 13 [] H rfl (Wants.of rfl rfl rfl) rfl hp (by kernel_rfl) ?_
      refine J175 H ?_
      refine A_fieldAddr 15 rfl (Wants.of rfl rfl rfl) rfl (by kernel_rfl) ?_
      refine A_load1 16 [] H rfl (Wants.of rfl rfl rfl) rfl rfl (by kernel_rfl) ?_
      refine A_fieldAddr 17 rfl (Wants.of rfl rfl rfl) rfl (by kernel_rfl) ?_
      refine A_load1 18 [] H rfl (Wants.of rfl rfl rfl) rfl rfl (by kernel_rfl) ?_
      refine A_indexAddr 19 rfl (Wants.of rfl rfl rfl) rfl rfl (by omega) (by omega) (by kernel_rfl) ?_
      refine A_load1 20 [] H rfl (Wants.of rfl rfl rfl) rfl (ucells_get hjx) (by kernel_rfl) ?_
      refine A_pv 21 rfl (Wants.of rfl rfl rfl) rfl (by kernel_rfl) ?_
      rw [beq_int (y : Int)]
      refine A_pv 22 rfl (Wants.none rfl) rfl (by kernel_rfl) ?_
      refine A_pv 23 rfl (Wants.none rfl) rfl (by kernel_rfl) ?_
      refine J2 H ?_
      replace H := MODEL_same hx (hclose _ _ _ hm' (hcw _ _ H).swap)
      replace H := Js [4,1,0,2] 2 H
      exact C_ret (Jy H rfl fun w' H' => ⟨rfl, s, m, told, R, Step_eq rfl rfl rfl, RUN_in H'⟩)
  rw [show (k == 3) = false by simpa using hk3]
  refine J41 H ?_
  by_cases hk4 : k = 4
  · subst hk4
    refine J11 H ?_
    replace H := Js [3,0,0,0,0,0] 0 H
    refine J1 H ?_
    clear H; intro w H
    refine J16 H ?_
    refine A_load1 3 [9, 17] H rfl (Wants.none rfl) rfl rfl (by kernel_rfl) ?_
    refine A_loadN 4 [9, 17] H rfl (Wants.none rfl) rfl (by repeat (first | exact Reads.nil _ | apply Reads.cons rfl)) (by kernel_rfl) ?_
    refine J59 H ?_
    refine A_load1 6 [9, 17] H rfl (Wants.none rfl) rfl rfl (by kernel_rfl) ?_
    refine A_fieldAddr 7 rfl (Wants.none rfl) rfl (by kernel_rfl) ?_
    refine A_load1 8 [9, 17] H rfl (Wants.none rfl) rfl rfl (by kernel_rfl) ?_
    refine J142 H ?_
    refine A_fieldAddr 12 rfl (Wants.none rfl) rfl (by kernel_rfl) ?_
    refine A_load1 13 [17] H rfl (Wants.none rfl) rfl rfl (by kernel_rfl) ?_
    refine J156 H ?_
    refine J204 H ?_
    refine A_load1 16 [17] H rfl (Wants.none rfl) rfl rfl (by kernel_rfl) ?_
    obtain ⟨hd, R'⟩ := set_law R hPk B X
    refine Jo 9 H ?_
    refine Jk rfl rfl (Set_spec c s i' g' B X hX H) ?_
    clear H; rintro v w ⟨rfl, H⟩
    rw [hd]
    replace H := Js [4,0,0,0,0,0] 0 H
    refine Jo 17 H ?_
    refine Jk rfl rfl (Place_spec mo m o B false H) ?_
    clear H; rintro v w ⟨rfl, H⟩
    refine J179 H ?_
    refine A_pv 19 rfl (Wants.none rfl) rfl (by kernel_rfl) ?_
    refine J2 H ?_
    refine J3 H ?_
    have hob := objs_setWM m o B X
    by_cases h0 : placeM m o B false = 0
    · obtain ⟨n, x, hv⟩ : ∃ n x, valM m o = some (n, x) := by
        cases hv : valM m o with
        | none => rw [placeM_none hv] at h0; cases h0
        | some kx => exact ⟨kx.1, kx.2, rfl⟩
      have h0' := h0
      rw [placeM_some hv] at h0'
      rw [setWM_some hv, if_pos h0'] at R' hob
      obtain ⟨rfl, hx, hh, hg⟩ := valM_some hv
      obtain ⟨j, rfl, hj, hr⟩ := placeE_ok h0'
      rw [Int.toNat_natCast] at R' hob
      rw [h0]
      have hnl := (List.getElem?_eq_some_iff.1 hx).1
      have hsm := MODEL_sizes (w := hmw) hx
      refine J11 H ?_
      obtain ⟨t, lc, aL, cL, bO, cO, sO, ptrs, q, vw, vk, vt, rest, hm, h2, hp, H, hclose⟩ := MODEL_at H hx
      obtain ⟨aw, cw, rfl⟩ := sls_slice H.drop (ucells_length _) (by decide)
      obtain ⟨bW, sW, rfl, H, _, _, hcw⟩ := sls_open2 H.swap (by omega)
      have hmx := hm.objs x (List.mem_of_getElem? hx)
      have hm' : MWF (setM m n { x with w := x.w.set j X }) := MWF_set hm (by
        obtain ⟨a1, a2, a3, a4, a5⟩ := hmx
        exact ⟨by show ∃ l, _ ∧ _ ∧ sizeL l _ = ((x.w.set j X).length, 0); rw [List.length_set]; exact a1, a2, by show _ = (x.w.set j X).length; rw [List.length_set]; exact a3, by show _ = (x.w.set j X).length; rw [List.length_set]; exact a4, a5⟩)
      refine J1 H ?_
      clear H; intro w H
      refine J16 H ?_
      refine A_load1 3 [18] H rfl (Wants.none rfl) rfl rfl (by kernel_rfl) ?_
      refine J123 H ?_
      refine A_load1 6 [18] H rfl (Wants.none rfl) rfl rfl (by kernel_rfl) ?_
      refine J58 H ?_
      refine A_indexAddr 8 rfl (Wants.none rfl) rfl rfl (by omega) (by omega) (by kernel_rfl) ?_
      refine A_load1 9 [18] H rfl (Wants.none rfl) rfl hp (by kernel_rfl) ?_
      refine J90 H ?_
      refine A_fieldAddr 11 rfl (Wants.none rfl) rfl (by kernel_rfl) ?_
      refine A_load1 12 [18] H rfl (Wants.none rfl) rfl rfl (by kernel_rfl) ?_
      refine A_fieldAddr 13 rfl (Wants.none rfl) rfl (by kernel_rfl) ?_
      refine A_load1 14 [18] H rfl (Wants.none rfl) rfl rfl (by kernel_rfl) ?_
      refine J204 H ?_
      refine A_load1 16 [18] H rfl (Wants.none rfl) rfl rfl (by kernel_rfl) ?_
      refine A_indexAddr 17 rfl (Wants.none rfl) rfl rfl (by omega) (by omega) (by kernel_rfl) ?_
      refine Jo 18 H ?_
      refine St_store1 H rfl rfl inferInstance rfl (by simp only [List.length_append, ucells_length]; omega) rfl ?_
      clear H; intro w H
      rw [Int.toNat_natCast, ucells_set (by omega)] at H
      refine J2 H ?_
      refine J165 H ?_
      replace H := hcw _ _ (ucells (x.w.set j X)) (by simp [ucells]) H
      replace H := hclose _ _ { x with w := x.w.set j X } hm' H.swap
      replace H := Js [4,1,0,2] 2 H
      exact C_ret (Jy H rfl fun w' H' => ⟨rfl, _, _, _, R', Step_eq hob.1 hob.2 (shape_setWS s i' g' j X) (fun hI => inv_setWS hI i' g' j X), RUN_in H'⟩)
    · rw [show (((placeM m o B false : Nat) : Int) == 0) = false by simpa using h0]
      have hsw : setWM m o B X = m := by
        cases hv : valM m o with
        | none => rw [setWM_none hv]
        | some kx =>
          obtain ⟨n, x⟩ := kx
          rw [placeM_some hv] at h0
          rw [setWM_some hv, if_neg h0]
      rw [hsw] at R'
      refine J8 H ?_
      refine J9 H ?_
      rw [beq_int ((placeM m o B false : Nat) : Int)]
      refine J0 H ?_
      replace H := Js [4,1,0,2] 2 H
      exact C_ret (Jy H rfl fun w' H' => ⟨rfl, _, _, _, R', Step_eq rfl rfl (shape_setWS s i' g' B X) (fun hI => inv_setWS hI i' g' B X), RUN_in H'⟩)
  rw [show (k == 4) = false by simpa using hk4]
  refine J41 H ?_
  by_cases hk5 : k = 5
  · subst hk5
    refine J11 H ?_
    replace H := Js [3,0,0,0,0,0] 0 H
    obtain ⟨hd, hln, hk2, hlt, R'⟩ := ref_law R hmw hPk B
    obtain ⟨l1, l2, l3, hlk⟩ := lkv_agg (lookL s i' g' B).1
    have hRf := fun (w : World) (fr : List HProp) (H : Holds w (CELL c s :: fr)) => Ref_spec c s i' g' B H
    rw [hlk, hd] at hRf
    rw [hln] at hlk
    refine J12 H ?_
    refine C_join (fun ms σ w => ms = [] ∧ ∃ b20, σ 0 = pp p ∧ σ 3 = pp b3 ∧ σ 6 = .int .i64 o ∧ σ 20 = pp b20 ∧ σ 21 = .int .i64 ((refM m o B).2.2.2 : Nat) ∧ Holds w (pts b20 (row 61 [.int .i64 l1, .int .i64 l2, .int .i64 l3]) :: pts b3 (row 34 [.int .i64 5, .int .i64 A, .int .i64 B, .int .i64 C, .int .u64 X, .slice adW ws.length capW, .bool raw, .int .i64 i, .int .i64 g]) :: RROW p c mo (.slice a told.length cap) :: CELL c (refS s i' g' B) :: MODEL mo m :: TKL (.slice a told.length cap) told :: fr)) ?_ ?_
    · refine J1 H ?_
      clear H; intro w H
      refine J16 H ?_
      refine J270 H ?_
      refine J271 H ?_
      refine J59 H ?_
      refine J272 H ?_
      refine A_two 7 11 rfl rfl (by kernel_rfl) (by repeat first | exact .nil | refine .cons (.inr H.at) ?_ | refine .cons (.inr H.mp) ?_ | refine .cons (.inl (by kernel_rfl)) ?_) (Wants.none rfl) (Wants.none rfl) (St_call (a := []) (b := []) rfl rfl (call (hRf _ _ H) ?_)) (St_alloc H rfl ?_)
      · clear H; rintro v w ⟨rfl, H⟩
        refine J249 H ?_
        refine St_alloc H rfl ?_
        clear H; intro b20 w H
        refine J101 H ?_
        clear H; intro w H
        refine J98 H ?_
        replace H := Js [0,2,2,0,1,1] 1 H
        exact ⟨rfl, rfl, b20, rfl, rfl, rfl, rfl, rfl, H⟩
      · clear H; intro b20 w H
        refine Jo 7 H ?_
        refine Jk rfl rfl (hRf _ _ H.swap) ?_
        clear H; rintro v w ⟨rfl, H⟩
        refine J251 H ?_
        refine J101 H ?_
        clear H; intro w H
        refine J98 H ?_
        replace H := Js [1,2,2,0,1,1] 1 H
        exact ⟨rfl, rfl, b20, rfl, rfl, rfl, rfl, rfl, H⟩
    clear H
    rintro ms σ w ⟨rfl, b20, g0, g3, g6, g20, g21, H⟩
    rw [upd_self g0, upd_self g3, upd_self g6, upd_self g20, upd_self g21]
    replace H := Js [4,0,0,0,0,0] 0 H
    refine J1 H ?_
    clear H; intro w H
    refine J182 H ?_
    refine Jk rfl rfl (Ref15_spec mo m o B H) ?_
    clear H; rintro v w ⟨rfl, H⟩
    refine J88 H ?_
    refine J203 H ?_
    refine J2 H ?_
    refine J9 H ?_
    rw [beq_int (((refM m o B).2.2.2 : Nat) : Int)]
    replace H := Js [3,4,1,1,1,0] 0 H
    refine J144 H ?_
    refine J69 H ?_
    refine J33 H ?_
    have hlink := fun (w : World) (fr : List HProp) (H : Holds w (RROW p c mo (.slice a told.length cap) :: TKL (.slice a told.length cap) told :: fr)) => link_spec p c mo a cap told (refM m o B).2.1 (refM m o B).2.2.1 hk2 hlt H
    rw [hlk] at hlink
    refine Lp_g rfl rfl rfl (St_call (a := []) (b := []) rfl rfl (call (hlink _ _ H) ?_))
    clear H; rintro v w ⟨rfl, H⟩
    refine J4 H ?_
    replace H := Js [0,3,3,0] 2 H
    exact C_ret (Jy H rfl fun w' H' => ⟨rfl, _, _, _, R', Step_eq (objs_refM m o B).1 (objs_refM m o B).2 (shape_refS s i' g' B) (fun hI => inv_refS hI i' g' B), RUN_in H'⟩)
  rw [show (k == 5) = false by simpa using hk5]
  refine J41 H ?_
  by_cases hk6 : k = 6
  · subst hk6
    refine J11 H ?_
    replace H := Js [2,4,0,0,0,0] 0 H
    refine J20 H ?_
    refine J28 H ?_
    refine J57 H ?_
    refine J55 H ?_
    refine Jc rfl rfl (pick_spec p c mo a cap told hlen C i g false H) ?_
    clear H; rintro v w ⟨u', v', q, rfl, hQ, _, _, H⟩
    refine J19 H ?_
    clear H; intro b25 w H
    refine J7 H ?_
    clear H; intro w H
    refine J0 H ?_
    replace H := Js [5,0,0,0,0,0,0] 0 H
    refine J1 H ?_
    clear H; intro w H
    refine J16 H ?_
    refine A_load1 3 [8, 17] H rfl (Wants.none rfl) rfl rfl (by kernel_rfl) ?_
    refine A_loadN 4 [8, 17] H rfl (Wants.none rfl) rfl (by repeat (first | exact Reads.nil _ | apply Reads.cons rfl)) (by kernel_rfl) ?_
    refine J59 H ?_
    refine A_load1 6 [8, 17] H rfl (Wants.none rfl) rfl rfl (by kernel_rfl) ?_
    refine A_loadN 7 [8, 17] H rfl (Wants.none rfl) rfl (by repeat (first | exact Reads.nil _ | apply Reads.cons rfl)) (by kernel_rfl) ?_
    refine J40 H ?_
    refine J90 H ?_
    refine A_fieldAddr 11 rfl (Wants.none rfl) rfl (by kernel_rfl) ?_
    refine A_load1 12 [17] H rfl (Wants.none rfl) rfl rfl (by kernel_rfl) ?_
    refine J200 H ?_
    refine A_fieldAddr 14 rfl (Wants.none rfl) rfl (by kernel_rfl) ?_
    refine A_load1 15 [17] H rfl (Wants.none rfl) rfl rfl (by kernel_rfl) ?_
    refine J109 H ?_
    obtain ⟨hd, R'⟩ := tie_law R hw hmw hPk hQ B
    refine Jo 8 H ?_
    refine Jk rfl rfl (CTie_spec c s i' g' B u' v' H) ?_
    clear H; rintro v w ⟨rfl, H⟩
    rw [hd]
    replace H := Js [6,0,0,0,0,0,0] 0 H
    refine Jo 17 H ?_
    refine Jk rfl rfl (Tie15_spec mo m o B q H) ?_
    clear H; rintro v w ⟨rfl, H⟩
    refine J179 H ?_
    rw [beq_int (((tieM m o B q).2 : Nat) : Int)]
    refine A_pv 19 rfl (Wants.none rfl) rfl (by kernel_rfl) ?_
    refine J2 H ?_
    replace H := Js [3,1,0,1] 3 H
    exact C_ret (Jy H rfl fun w' H' => ⟨rfl, _, _, _, R', Step_eq (objs_tieM m o B q).1 (objs_tieM m o B q).2 (shape_TieS s i' g' B u' v') (fun hI => inv_TieS hw hI i' g' B u' v'), RUN_in H'⟩)
  rw [show (k == 6) = false by simpa using hk6]
  refine J41 H ?_
  by_cases hk7 : k = 7
  · subst hk7
    refine J11 H ?_
    replace H := Js [3,0,0,0,0,0] 0 H
    refine J1 H ?_
    clear H; intro w H
    refine J16 H ?_
    refine A_load1 3 [7, 15] H rfl (Wants.none rfl) rfl rfl (by kernel_rfl) ?_
    refine A_loadN 4 [7, 15] H rfl (Wants.none rfl) rfl (by repeat (first | exact Reads.nil _ | apply Reads.cons rfl)) (by kernel_rfl) ?_
    refine J59 H ?_
    refine A_load1 6 [7, 15] H rfl (Wants.none rfl) rfl rfl (by kernel_rfl) ?_
    refine J88 H ?_
    refine A_fieldAddr 10 rfl (Wants.none rfl) rfl (by kernel_rfl) ?_
    refine A_load1 11 [15] H rfl (Wants.none rfl) rfl rfl (by kernel_rfl) ?_
    refine J133 H ?_
    refine A_fieldAddr 13 rfl (Wants.none rfl) rfl (by kernel_rfl) ?_
    refine A_load1 14 [15] H rfl (Wants.none rfl) rfl rfl (by kernel_rfl) ?_
    obtain ⟨hd, R'⟩ := cut_law R hmw hPk B
    refine Jo 7 H ?_
    refine Jk rfl rfl (CCut_spec c s i' g' B H) ?_
    clear H; rintro v w ⟨rfl, H⟩
    rw [hd]
    replace H := Js [4,0,0,0,0,0] 0 H
    refine Jo 15 H ?_
    refine Jk rfl rfl (Cut15_spec mo m o B H) ?_
    clear H; rintro v w ⟨rfl, H⟩
    refine J109 H ?_
    rw [beq_int (((cutM m o B).2 : Nat) : Int)]
    refine J130 H ?_
    refine J2 H ?_
    replace H := Js [4,1,0,2] 2 H
    exact C_ret (Jy H rfl fun w' H' => ⟨rfl, _, _, _, R', Step_eq (objs_cutM m o B).1 (objs_cutM m o B).2 (shape_tieS s i' g' B .none) (fun hI => inv_tieS hI i' g' B trivial fun a b h => by cases h), RUN_in H'⟩)
  rw [show (k == 7) = false by simpa using hk7]
  refine J41 H ?_
  by_cases hk8 : k = 8
  · subst hk8
    refine J11 H ?_
    replace H := Js [3,0,0,0,0,0] 0 H
    refine J1 H ?_
    clear H; intro w H
    refine J16 H ?_
    refine A_load1 3 [5, 11] H rfl (Wants.none rfl) rfl rfl (by kernel_rfl) ?_
    refine A_loadN 4 [5, 11] H rfl (Wants.none rfl) rfl (by repeat (first | exact Reads.nil _ | apply Reads.cons rfl)) (by kernel_rfl) ?_
    refine J155 H ?_
    refine J132 H ?_
    refine A_load1 9 [11] H rfl (Wants.none rfl) rfl rfl (by kernel_rfl) ?_
    refine J90 H ?_
    obtain ⟨hd, R'⟩ := drop_law R hPk
    refine Jo 5 H ?_
    refine Jk rfl rfl (Drop_spec c s i' g' H) ?_
    clear H; rintro v w ⟨rfl, H⟩
    rw [hd]
    replace H := Js [4,0,0,0,0,0] 0 H
    refine Jo 11 H ?_
    refine Jk rfl rfl (Drop15_spec mo m o H) ?_
    clear H; rintro v w ⟨rfl, H⟩
    refine J133 H ?_
    rw [beq_int (((dropM m o).2 : Nat) : Int)]
    refine J98 H ?_
    replace H := Js [4,1,0,2] 2 H
    exact C_ret (Jy H rfl fun w' H' => ⟨rfl, _, _, _, R', Step_eq (objs_dropM m o).1 (objs_dropM m o).2 (shape_dropS s i' g') (fun hI => inv_dropS hI i' g'), RUN_in H'⟩)
  rw [show (k == 8) = false by simpa using hk8]
  refine J41 H ?_
  by_cases hk9 : k = 9
  · subst hk9
    refine J11 H ?_
    replace H := Js [3,0,0,0,0,0] 0 H
    refine J1 H ?_
    clear H; intro w H
    refine J16 H ?_
    refine A_load1 3 [9, 19] H rfl (Wants.none rfl) rfl rfl (by kernel_rfl) ?_
    refine A_loadN 4 [9, 19] H rfl (Wants.none rfl) rfl (by repeat (first | exact Reads.nil _ | apply Reads.cons rfl)) (by kernel_rfl) ?_
    refine J59 H ?_
    refine A_load1 6 [9, 19] H rfl (Wants.none rfl) rfl rfl (by kernel_rfl) ?_
    refine J58 H ?_
    refine J70 H ?_
    refine J142 H ?_
    refine A_fieldAddr 12 rfl (Wants.none rfl) rfl (by kernel_rfl) ?_
    refine A_load1 13 [19] H rfl (Wants.none rfl) rfl rfl (by kernel_rfl) ?_
    refine J156 H ?_
    refine J204 H ?_
    refine A_load1 16 [19] H rfl (Wants.none rfl) rfl rfl (by kernel_rfl) ?_
    refine J130 H ?_
    refine J179 H ?_
    generalize hon : (bitI .and .u64 (X : Int) 1 == 1) = on
    obtain ⟨hd, R'⟩ := pin_law R hPk on
    refine Jo 9 H ?_
    refine Jk rfl rfl (Pin_spec c s i' g' on H) ?_
    clear H; rintro v w ⟨rfl, H⟩
    rw [hd]
    replace H := Js [4,0,0,0,0,0] 0 H
    refine Jo 19 H ?_
    refine Jk rfl rfl (Pin15_spec mo m o on H) ?_
    clear H; rintro v w ⟨rfl, H⟩
    refine A_pv 20 rfl (Wants.none rfl) rfl (by kernel_rfl) ?_
    rw [beq_int (((pinM m o on).2 : Nat) : Int)]
    refine A_pv 21 rfl (Wants.none rfl) rfl (by kernel_rfl) ?_
    refine J2 H ?_
    replace H := Js [4,1,0,2] 2 H
    exact C_ret (Jy H rfl fun w' H' => ⟨rfl, _, _, _, R', Step_eq (objs_pinM m o on).1 (objs_pinM m o on).2 (shape_pinS s i' g' on) (fun hI => inv_pinS hI i' g' on), RUN_in H'⟩)
  rw [show (k == 9) = false by simpa using hk9]
  refine J41 H ?_
  by_cases hk10 : k = 10
  · subst hk10
    refine J11 H ?_
    refine J244 H ?_
    replace H := Js [2,2,2,2,0,0] 0 H
    refine Jc rfl rfl (tellR_spec p c mo _ s m told R.w i' g' o (rel_valid R hPk) H) ?_
    clear H; rintro v w ⟨rfl, H⟩
    refine J0 H ?_
    replace H := Js [0,0,0,0] 2 H
    exact C_ret (Jy H rfl fun w' H' => ⟨rfl, s, m, told, R, Step_eq rfl rfl rfl, RUN_in H'⟩)
  rw [show (k == 10) = false by simpa using hk10]
  refine J41 H ?_
  by_cases hk11 : k = 11
  · subst hk11
    refine J11 H ?_
    replace H := Js [3,0,0,0,0,0] 0 H
    have hLk := fun (w : World) (fr : List HProp) (H : Holds w (CELL c s :: fr)) => Look_spec c s i' g' B H
    rcases look_law R hPk B with ⟨h0, h1⟩ | ⟨h0, n, j, x, rfl, rfl, hx, hv, hj, hr, hk2, h1⟩
    · rw [h1] at hLk
      obtain ⟨l1, l2, l3, hlk⟩ := lkv_agg .none
      rw [hlk] at hLk
      refine J12 H ?_
      refine C_join (fun ms σ w => ms = [] ∧ ∃ b27, σ 0 = pp p ∧ σ 3 = pp b3 ∧ σ 6 = .int .i64 o ∧ σ 27 = pp b27 ∧ σ 28 = .int .i64 (placeM m o B true : Nat) ∧ Holds w (pts b27 (row 61 [.int .i64 l1, .int .i64 l2, .int .i64 l3]) :: pts b3 (row 34 [.int .i64 11, .int .i64 A, .int .i64 B, .int .i64 C, .int .u64 X, .slice adW ws.length capW, .bool raw, .int .i64 i, .int .i64 g]) :: RROW p c mo (.slice a told.length cap) :: CELL c s :: MODEL mo m :: TKL (.slice a told.length cap) told :: fr)) ?_ ?_
      · refine J1 H ?_
        clear H; intro w H
        refine J16 H ?_
        refine J270 H ?_
        refine J271 H ?_
        refine J59 H ?_
        refine J272 H ?_
        refine A_two 7 11 rfl rfl (by kernel_rfl) (by repeat first | exact .nil | refine .cons (.inr H.at) ?_ | refine .cons (.inr H.mp) ?_ | refine .cons (.inl (by kernel_rfl)) ?_) (Wants.none rfl) (Wants.none rfl) (St_call (a := []) (b := []) rfl rfl (call (hLk _ _ H) ?_)) (St_alloc H rfl ?_)
        · clear H; rintro v w ⟨rfl, H⟩
          refine J249 H ?_
          refine St_alloc H rfl ?_
          clear H; intro b27 w H
          refine J101 H ?_
          clear H; intro w H
          refine J98 H ?_
          replace H := Js [0,2,2,0,1,1] 1 H
          exact ⟨rfl, rfl, b27, rfl, rfl, rfl, rfl, rfl, H⟩
        · clear H; intro b27 w H
          refine Jo 7 H ?_
          refine Jk rfl rfl (hLk _ _ H.swap) ?_
          clear H; rintro v w ⟨rfl, H⟩
          refine J251 H ?_
          refine J101 H ?_
          clear H; intro w H
          refine J98 H ?_
          replace H := Js [1,2,2,0,1,1] 1 H
          exact ⟨rfl, rfl, b27, rfl, rfl, rfl, rfl, rfl, H⟩
      clear H
      rintro ms σ w ⟨rfl, b27, g0, g3, g6, g27, g28, H⟩
      rw [upd_self g0, upd_self g3, upd_self g6, upd_self g27, upd_self g28]
      replace H := Js [4,0,0,0,0,0] 0 H
      refine J1 H ?_
      clear H; intro w H
      refine J182 H ?_
      refine Jk rfl rfl (Place_spec mo m o B true H) ?_
      clear H; rintro v w ⟨rfl, H⟩
      refine J134 H ?_
      refine J3 H ?_
      rw [show (((placeM m o B true : Nat) : Int) != 0) = true by rw [bne_iff_ne]; omega]
      refine J11 H ?_
      cases hlk
      refine J9 H ?_
      rw [beq_int ((placeM m o B true : Nat) : Int)]
      refine J10 H ?_
      refine J117 H ?_
      refine Lp_g rfl rfl rfl (St_eqAgg rfl rfl rfl rfl (.inl rfl) rfl ?_)
      refine J4 H ?_
      replace H := Js [3,3,0,2] 2 H
      exact C_ret (Jy H rfl fun w' H' => ⟨congrArg Value.bool ((eql_veq _ _).trans (veq_refl3 0 0 0)), s, m, told, R, Step_eq rfl rfl rfl, RUN_in H'⟩)
    · have hnl := (List.getElem?_eq_some_iff.1 hx).1
      have hmx := hmw.objs x (List.mem_of_getElem? hx)
      have hkn := hmx.kind
      have htn := hmx.to
      have hsm := MODEL_sizes (w := hmw) hx
      have hkj := List.getElem?_eq_getElem (l := x.kind) (i := j) (by omega)
      have htj := List.getElem?_eq_getElem (l := x.to) (i := j) (by omega)
      have hkd : x.kind.getD j 0 = x.kind[j] := by rw [List.getD_eq_getElem?_getD, hkj]; rfl
      have htd : x.to.getD j 0 = x.to[j] := by rw [List.getD_eq_getElem?_getD, htj]; rfl
      have hgo := hmx.goes j
      rw [htd] at hgo
      rw [hkd] at hk2
      rw [hkd, htd] at h1
      generalize x.kind[j] = kd at *
      generalize x.to[j] = td at *
      have hlt : kd = 2 → td < told.length := fun h => by rw [R.len]; exact hgo (by rw [hkj, h])
      rw [h1] at hLk
      obtain ⟨l1, l2, l3, hlk⟩ := lkv_agg (lnkM told kd td)
      rw [hlk] at hLk
      have hlink := fun (w : World) (fr : List HProp) (H : Holds w (RROW p c mo (.slice a told.length cap) :: TKL (.slice a told.length cap) told :: fr)) => link_spec p c mo a cap told kd td hk2 hlt H
      rw [hlk] at hlink
      refine J12 H ?_
      refine C_join (fun ms σ w => ms = [] ∧ ∃ b27, σ 0 = pp p ∧ σ 3 = pp b3 ∧ σ 6 = .int .i64 n ∧ σ 27 = pp b27 ∧ σ 28 = .int .i64 (0 : Nat) ∧ Holds w (pts b27 (row 61 [.int .i64 l1, .int .i64 l2, .int .i64 l3]) :: pts b3 (row 34 [.int .i64 11, .int .i64 A, .int .i64 (j : Nat), .int .i64 C, .int .u64 X, .slice adW ws.length capW, .bool raw, .int .i64 i, .int .i64 g]) :: RROW p c mo (.slice a told.length cap) :: CELL c s :: MODEL mo m :: TKL (.slice a told.length cap) told :: fr)) ?_ ?_
      · refine J1 H ?_
        clear H; intro w H
        refine J16 H ?_
        refine J270 H ?_
        refine J271 H ?_
        refine J59 H ?_
        refine J272 H ?_
        refine A_two 7 11 rfl rfl (by kernel_rfl) (by repeat first | exact .nil | refine .cons (.inr H.at) ?_ | refine .cons (.inr H.mp) ?_ | refine .cons (.inl (by kernel_rfl)) ?_) (Wants.none rfl) (Wants.none rfl) (St_call (a := []) (b := []) rfl rfl (call (hLk _ _ H) ?_)) (St_alloc H rfl ?_)
        · clear H; rintro v w ⟨rfl, H⟩
          refine J249 H ?_
          refine St_alloc H rfl ?_
          clear H; intro b27 w H
          refine J101 H ?_
          clear H; intro w H
          refine J98 H ?_
          replace H := Js [0,2,2,0,1,1] 1 H
          exact ⟨rfl, rfl, b27, rfl, rfl, rfl, rfl, rfl, H⟩
        · clear H; intro b27 w H
          refine Jo 7 H ?_
          refine Jk rfl rfl (hLk _ _ H.swap) ?_
          clear H; rintro v w ⟨rfl, H⟩
          refine J251 H ?_
          refine J101 H ?_
          clear H; intro w H
          refine J98 H ?_
          replace H := Js [1,2,2,0,1,1] 1 H
          exact ⟨rfl, rfl, b27, rfl, rfl, rfl, rfl, rfl, H⟩
      clear H
      rintro ms σ w ⟨rfl, b27, g0, g3, g6, g27, g28, H⟩
      rw [upd_self g0, upd_self g3, upd_self g6, upd_self g27, upd_self g28]
      replace H := Js [4,0,0,0,0,0] 0 H
      refine J1 H ?_
      clear H; intro w H
      refine J182 H ?_
      refine Jk rfl rfl (Place_spec mo m n j true H) ?_
      clear H; rintro v w ⟨rfl, H⟩
      rw [h0]
      refine J134 H ?_
      refine J34 H ?_
      obtain ⟨t, lc, aL, cL, bO, cO, sO, ptrs, q, vw, vk, vt, rest, hm, h2, hp, H, hclose⟩ := MODEL_at H hx
      have hm' := set_same hx hm
      obtain ⟨ak, ck, rfl⟩ := sls_slice H.drop.drop (ncells_length _) (by decide)
      obtain ⟨at', ct, rfl⟩ := sls_slice H.drop.drop.drop (ncells_length _) (by decide)
      replace H := Js [2,0,0,0] 0 H
      obtain ⟨bk, sk, rfl, H, hck⟩ := sls_open H (by omega)
      replace H := Js [3,0,0,0] 0 H
      obtain ⟨bt, st, rfl, H, hct⟩ := sls_open H (by omega)
      refine J1 H ?_
      clear H; intro w H
      refine J153 H ?_
      refine A_pv 3 rfl (Wants.of rfl rfl rfl) rfl (by kernel_rfl) ?_
      refine A_loadN 4 [39] H rfl (Wants.of rfl rfl rfl) rfl (by repeat (first | exact Reads.nil _ | apply Reads.cons rfl)) (by kernel_rfl) ?_
      refine J181 H ?_
      refine J173 H ?_
      refine A_fieldAddr 7 rfl (Wants.of rfl rfl rfl) rfl (by kernel_rfl) ?_
      refine A_load1 8 [39] H rfl (Wants.of rfl rfl rfl) rfl rfl (by kernel_rfl) ?_
      refine J253 H ?_
      refine A_fieldAddr 10 rfl (Wants.of rfl rfl rfl) rfl (by kernel_rfl) ?_
      refine A_load1 11 [39] H rfl (Wants.of rfl rfl rfl) rfl rfl (by kernel_rfl) ?_
      refine J255 H ?_
      refine A_indexAddr 13 rfl (Wants.of rfl rfl rfl) rfl rfl (by omega) (by omega) (by kernel_rfl) ?_
      refine A_load1 14 [39] H rfl (Wants.of rfl rfl rfl) rfl hp (by kernel_rfl) ?_
      refine J176 H ?_
      refine A_fieldAddr 16 rfl (Wants.of rfl rfl rfl) rfl (by kernel_rfl) ?_
      refine A_load1 17 [39] H rfl (Wants.of rfl rfl rfl) rfl rfl (by kernel_rfl) ?_
      refine J239 H ?_
      refine A_load1 19 [39] H rfl (Wants.of rfl rfl rfl) rfl rfl (by kernel_rfl) ?_
      refine A_indexAddr 20 rfl (Wants.of rfl rfl rfl) rfl rfl (by omega) (by omega) (by kernel_rfl) ?_
      refine A_load1 21 [39] H rfl (Wants.of rfl rfl rfl) rfl (ncells_get hkj) (by kernel_rfl) ?_
      refine A_pv 22 rfl (Wants.of rfl rfl rfl) rfl (by kernel_rfl) ?_
      refine J240 H ?_
      refine A_fieldAddr 24 rfl (Wants.of rfl rfl rfl) rfl (by kernel_rfl) ?_
      refine A_load1 25 [39] H rfl (Wants.of rfl rfl rfl) rfl rfl (by kernel_rfl) ?_
      refine J241 H ?_
      refine A_fieldAddr 27 rfl (Wants.of rfl rfl rfl) rfl (by kernel_rfl) ?_
      refine A_load1 28 [39] H rfl (Wants.of rfl rfl rfl) rfl rfl (by kernel_rfl) ?_
      refine A_pv 29 rfl (Wants.of rfl rfl rfl) rfl (by kernel_rfl) ?_
      refine A_indexAddr 30 rfl (Wants.of rfl rfl rfl) rfl rfl (by omega) (by omega) (by kernel_rfl) ?_
      refine A_load1 31 [39] H rfl (Wants.of rfl rfl rfl) rfl hp (by kernel_rfl) ?_
      refine A_pv 32 rfl (Wants.of rfl rfl rfl) rfl (by kernel_rfl) ?_
      refine J242 H ?_
      refine A_load1 34 [39] H rfl (Wants.of rfl rfl rfl) rfl rfl (by kernel_rfl) ?_
      refine A_fieldAddr 35 rfl (Wants.of rfl rfl rfl) rfl (by kernel_rfl) ?_
      refine A_load1 36 [39] H rfl (Wants.of rfl rfl rfl) rfl rfl (by kernel_rfl) ?_
      refine A_indexAddr 37 rfl (Wants.of rfl rfl rfl) rfl rfl (by omega) (by omega) (by kernel_rfl) ?_
      refine A_load1 38 [39] H rfl (Wants.of rfl rfl rfl) rfl (ncells_get htj) (by kernel_rfl) ?_
      replace H := Js [12,13,0,0,0,0,0,0,0,0,0,0,0,0,0] 0 H
      refine Jo 39 H ?_
      refine Jk rfl rfl (hlink _ _ H) ?_
      clear H; rintro v w ⟨rfl, H⟩
      refine A_pv 40 rfl (Wants.none rfl) rfl (by kernel_rfl) ?_
      refine A_pv 41 rfl (Wants.none rfl) rfl (by kernel_rfl) ?_
      refine J2 H ?_
      replace H := Js [3,2,2,2,2,2,2,2,2,2,2,2,2,0,0] 0 H
      replace H := hck _ _ H
      replace H := Js [1,0,0,0] 0 H
      replace H := hct _ _ H
      replace H := Js [2,2,1,0] 0 H
      replace H := MODEL_same hx (hclose _ _ x hm' H)
      replace H := Js [4,3,0,2] 2 H
      exact C_ret (Jy H rfl fun w' H' => ⟨rfl, s, m, told, R, Step_eq rfl rfl rfl, RUN_in H'⟩)
  rw [show (k == 11) = false by simpa using hk11]
  refine J234 H ?_
  replace H := Js [2,2,2,2] 2 H
  exact C_ret (Jy H rfl fun w' H' => ⟨rfl, s, m, told, R, Step_eq rfl rfl rfl, RUN_in H'⟩)
end Go.Proofs.YtcaaojbnjfdglaaGreatDoor
