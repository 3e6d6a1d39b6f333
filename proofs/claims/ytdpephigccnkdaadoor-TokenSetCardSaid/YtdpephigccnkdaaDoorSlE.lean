/- Maps, as lists of keys and values. No condition. -/
import Derived.Test.YtdpephigccnkdaaDoorSlD
import Derived.Laws.StructEq
set_option linter.unusedVariables false
set_option linter.unusedSimpArgs false
set_option linter.unusedSectionVars false
namespace Go.SL

class TMap (P : Program) (t : TypeId) (k : outParam TypeId) (e : outParam TypeId) : Prop where
  und : P.underlying t = some (.map k e)

/-- A key's type: what its values are, and that they are told apart. -/
structure TKey (P : Program) (k : TypeId) {K : Type} (ek : K → Value) : Prop where
  inj : ∀ a b, ek a = ek b → a = b
  check : ∀ (w : World) (em : Bool) (x : K), (Instr.checkKey em 10000 k (ek x)).run P w = .ok () w
  stays : ∀ (w : World) (x : K), (Instr.keyThatStays (ek x) (ek x)).run P w = .ok (ek x) w
  find : ∀ (w : World) (x : K) (es : List MapEntry) (ks : List K), es.map (·.key) = ks.map ek → 
    ((Instr.findKey k (ek x) es).run P w = .ok none w ∧ x ∉ ks) ∨ ∃ j e, (Instr.findKey k (ek x) es).run P w = .ok (some (j, e.val)) w ∧ es[j]? = some e ∧ ks[j]? = some x

/-! ### 1. Lists of pairs -/
section
variable {K V : Type} [DecidableEq K]

def fnd : List (K × V) → K → Option V
  | [], _ => none
  | p :: l, x => if p.1 = x then some p.2 else fnd l x
def ins (m : List (K × V)) (x : K) (v : V) : List (K × V) :=
  match m with
  | [] => [(x, v)]
  | p :: l => if p.1 = x then (x, v) :: l else p :: ins l x v
def era : List (K × V) → K → List (K × V)
  | [], _ => []
  | p :: l, x => if p.1 = x then l else p :: era l x

theorem fnd_none {m : List (K × V)} {x : K} (h : x ∉ m.map (·.1)) : fnd m x = none := by
  induction m with
  | nil => rfl
  | cons p l ih =>
    simp only [List.map_cons, List.mem_cons, not_or] at h
    simp only [fnd, if_neg (Ne.symm h.1), ih h.2]

theorem fnd_at {m : List (K × V)} {x : K} {v : V} : ∀ {j : Nat}, (m.map (·.1)).Nodup → m[j]? = some (x, v) → fnd m x = some v := by
  induction m with
  | nil => intro j _ h; simp at h
  | cons p l ih =>
    intro j hn h
    simp only [List.map_cons, List.nodup_cons] at hn
    cases j with
    | zero => simp at h; subst h; simp [fnd]
    | succ j =>
      have h' : l[j]? = some (x, v) := by simpa using h
      have hm : x ∈ l.map (·.1) := List.mem_map.2 ⟨(x, v), List.mem_of_getElem? h', rfl⟩
      have hne : p.1 ≠ x := fun e => hn.1 (e ▸ hm)
      simp only [fnd, if_neg hne, ih hn.2 h']

theorem ins_none {m : List (K × V)} {x : K} {v : V} (h : x ∉ m.map (·.1)) : ins m x v = m ++ [(x, v)] := by
  induction m with
  | nil => rfl
  | cons p l ih =>
    simp only [List.map_cons, List.mem_cons, not_or] at h
    simp only [ins, if_neg (Ne.symm h.1), ih h.2, List.cons_append]

theorem ins_at {m : List (K × V)} {x : K} {v u : V} : ∀ {j : Nat}, (m.map (·.1)).Nodup → m[j]? = some (x, u) → ins m x v = m.set j (x, v) := by
  induction m with
  | nil => intro j _ h; simp at h
  | cons p l ih =>
    intro j hn h
    simp only [List.map_cons, List.nodup_cons] at hn
    cases j with
    | zero => simp at h; subst h; simp [ins]
    | succ j =>
      have h' : l[j]? = some (x, u) := by simpa using h
      have hm : x ∈ l.map (·.1) := List.mem_map.2 ⟨(x, u), List.mem_of_getElem? h', rfl⟩
      have hne : p.1 ≠ x := fun e => hn.1 (e ▸ hm)
      simp only [ins, if_neg hne, ih hn.2 h', List.set_cons_succ]

theorem era_none {m : List (K × V)} {x : K} (h : x ∉ m.map (·.1)) : era m x = m := by
  induction m with
  | nil => rfl
  | cons p l ih =>
    simp only [List.map_cons, List.mem_cons, not_or] at h
    simp only [era, if_neg (Ne.symm h.1), ih h.2]

theorem era_at {m : List (K × V)} {x : K} {u : V} : ∀ {j : Nat}, (m.map (·.1)).Nodup → m[j]? = some (x, u) → era m x = m.eraseIdx j := by
  induction m with
  | nil => intro j _ h; simp at h
  | cons p l ih =>
    intro j hn h
    simp only [List.map_cons, List.nodup_cons] at hn
    cases j with
    | zero => simp at h; subst h; simp [era]
    | succ j =>
      have h' : l[j]? = some (x, u) := by simpa using h
      have hm : x ∈ l.map (·.1) := List.mem_map.2 ⟨(x, u), List.mem_of_getElem? h', rfl⟩
      have hne : p.1 ≠ x := fun e => hn.1 (e ▸ hm)
      simp only [era, if_neg hne, ih hn.2 h', List.eraseIdx_cons_succ]

theorem keys_ins {m : List (K × V)} {x y : K} {v : V} : y ∈ (ins m x v).map (·.1) ↔ y = x ∨ y ∈ m.map (·.1) := by
  induction m with
  | nil => simp [ins]
  | cons p l ih =>
    simp only [ins]
    split
    · rename_i e; subst e; simp
    · simp only [List.map_cons, List.mem_cons, ih]
      constructor
      · rintro (h | h | h)
        · exact .inr (.inl h)
        · exact .inl h
        · exact .inr (.inr h)
      · rintro (h | h | h)
        · exact .inr (.inl h)
        · exact .inl h
        · exact .inr (.inr h)

theorem nodup_ins {m : List (K × V)} {x : K} {v : V} (h : (m.map (·.1)).Nodup) : ((ins m x v).map (·.1)).Nodup := by
  induction m with
  | nil => simp [ins]
  | cons p l ih =>
    simp only [List.map_cons, List.nodup_cons] at h
    simp only [ins]
    split
    · rename_i e; subst e; simpa using h
    · rename_i e
      simp only [List.map_cons, List.nodup_cons]
      exact ⟨fun hm => (keys_ins.1 hm).elim e h.1, ih h.2⟩

theorem keys_era {m : List (K × V)} {x y : K} (h : (m.map (·.1)).Nodup) : y ∈ (era m x).map (·.1) ↔ y ≠ x ∧ y ∈ m.map (·.1) := by
  induction m with
  | nil => simp [era]
  | cons p l ih =>
    simp only [List.map_cons, List.nodup_cons] at h
    simp only [era]
    split
    · rename_i e; subst e
      constructor
      · exact fun hm => ⟨fun e => h.1 (e ▸ hm), by simp [hm]⟩
      · rintro ⟨h1, h2⟩
        simp only [List.map_cons, List.mem_cons] at h2
        exact h2.resolve_left h1
    · rename_i e
      simp only [List.map_cons, List.mem_cons, ih h.2]
      constructor
      · rintro (rfl | h)
        · exact ⟨e, .inl rfl⟩
        · exact ⟨h.1, .inr h.2⟩
      · rintro ⟨h1, h2 | h2⟩
        · exact .inl h2
        · exact .inr ⟨h1, h2⟩

theorem nodup_era {m : List (K × V)} {x : K} (h : (m.map (·.1)).Nodup) : ((era m x).map (·.1)).Nodup := by
  induction m with
  | nil => simp [era]
  | cons p l ih =>
    have h0 := h
    simp only [List.map_cons, List.nodup_cons] at h
    simp only [era]
    split
    · exact h.2
    · simp only [List.map_cons, List.nodup_cons]
      exact ⟨fun hm => h.1 ((keys_era h.2).1 hm).2, ih h.2⟩

theorem fnd_ins {m : List (K × V)} {x y : K} {v : V} : fnd (ins m x v) y = if x = y then some v else fnd m y := by
  induction m with
  | nil => simp [ins, fnd]
  | cons p l ih =>
    simp only [ins]
    split
    · rename_i e; subst e; simp only [fnd]; split <;> rfl
    · rename_i e
      simp only [fnd, ih]
      by_cases h : p.1 = y
      · subst h; rw [if_pos rfl, if_neg (Ne.symm e), if_pos rfl]
      · rw [if_neg h, if_neg h]

theorem fnd_era {m : List (K × V)} {x y : K} (h : (m.map (·.1)).Nodup) : fnd (era m x) y = if x = y then none else fnd m y := by
  induction m with
  | nil => simp [era, fnd]
  | cons p l ih =>
    simp only [List.map_cons, List.nodup_cons] at h
    simp only [era]
    split
    · rename_i e; subst e
      split
      · rename_i e; subst e; exact fnd_none h.1
      · rename_i e; simp only [fnd, if_neg e]
    · rename_i e
      simp only [fnd, ih h.2]
      by_cases h' : p.1 = y
      · subst h'; rw [if_pos rfl, if_neg (Ne.symm e), if_pos rfl]
      · rw [if_neg h', if_neg h']

theorem fnd_mem {m : List (K × V)} {x : K} {v : V} (h : fnd m x = some v) : (x, v) ∈ m := by
  induction m with
  | nil => cases h
  | cons p l ih =>
    simp only [fnd] at h
    split at h
    · rename_i e; subst e; cases h; exact List.mem_cons_self ..
    · exact List.mem_cons_of_mem _ (ih h)

theorem fnd_iff {m : List (K × V)} {x : K} {v : V} (hn : (m.map (·.1)).Nodup) : fnd m x = some v ↔ (x, v) ∈ m :=
  ⟨fnd_mem, fun h => by obtain ⟨j, hj, e⟩ := List.getElem_of_mem h; exact fnd_at hn (j := j) (by rw [List.getElem?_eq_getElem hj, e])⟩

theorem fnd_eq_none {m : List (K × V)} {x : K} : fnd m x = none ↔ x ∉ m.map (·.1) := by
  refine ⟨fun h hm => ?_, fnd_none⟩
  induction m with
  | nil => simp at hm
  | cons p l ih =>
    simp only [fnd] at h
    split at h
    · cases h
    · rename_i e
      simp only [List.map_cons, List.mem_cons] at hm
      exact hm.elim (fun h' => e h'.symm) (ih h)

theorem map_eraseIdx' {α β : Type} (g : α → β) : ∀ (l : List α) (j : Nat), (l.map g).eraseIdx j = (l.eraseIdx j).map g
  | [], _ => rfl
  | _ :: _, 0 => rfl
  | a :: l, j + 1 => by simp only [List.map_cons, List.eraseIdx_cons_succ, map_eraseIdx' g l j]

theorem length_ins {m : List (K × V)} {x : K} {v : V} : (ins m x v).length = if (fnd m x).isSome then m.length else m.length + 1 := by
  induction m with
  | nil => rfl
  | cons p l ih =>
    simp only [ins, fnd]
    split
    · rfl
    · simp only [List.length_cons, ih]; split <;> rfl

theorem length_era {m : List (K × V)} {x : K} : (era m x).length = if (fnd m x).isSome then m.length - 1 else m.length := by
  induction m with
  | nil => rfl
  | cons p l ih =>
    simp only [era, fnd]
    split
    · simp
    · simp only [List.length_cons, ih]
      split
      · rename_i h
        cases l with
        | nil => cases h
        | cons q l => simp
      · rfl
end

/-! ### 2. A map's block -/

structure MapOK {K V : Type} (ek : K → Value) (vv : V → Value) (es : Array MapEntry) (clock : Nat) (m : List (K × V)) : Prop where
  ents : es.toList.map (fun e => (e.key, e.val)) = m.map (fun p => (ek p.1, vv p.2))
  nodup : (m.map (·.1)).Nodup
  rise : (es.toList.map (·.born)).Pairwise (· < ·)
  born : ∀ e ∈ es.toList, e.born < clock

/-- Block b is a map of these. -/
def mp {K V : Type} (ek : K → Value) (vv : V → Value) (b : Nat) (m : List (K × V)) : HProp := fun h => ∃ es clock, h b = some (.map es clock) ∧ MapOK ek vv es clock m

class AtM {K V : outParam Type} (ek : outParam (K → Value)) (vv : outParam (V → Value)) (b : Nat) (m : outParam (List (K × V))) (l : List HProp) : Prop where
  get : ∀ h, sat l h → mp ek vv b m h
class PutM {K V : Type} (ek : K → Value) (vv : V → Value) (b : Nat) (m : List (K × V)) (l : List HProp) (m' : List (K × V)) (l' : outParam (List HProp)) : Prop where
  get : ∀ h, sat l h → mp ek vv b m h
  set : ∀ h h', sat l h → mp ek vv b m' h' → (∀ c, c ≠ b → h' c = h c) → sat l' h'

section
variable {K V : Type} {ek : K → Value} {vv : V → Value} {b : Nat} {m m' : List (K × V)} {l l' : List HProp}

theorem mp_up {f g : Hp} (s : Sub f g) : mp ek vv b m f → mp ek vv b m g := fun ⟨es, c, h1, h2⟩ => ⟨es, c, s _ _ h1, h2⟩

instance (priority := high) AtM.here : AtM ek vv b m (mp ek vv b m :: l) := ⟨fun _ ⟨_, _, a, _, _, x, _⟩ => mp_up a x⟩
instance AtM.there {A : HProp} [i : AtM ek vv b m l] : AtM ek vv b m (A :: l) := ⟨fun _ s => i.get _ (sat_drop s)⟩

instance (priority := high) PutM.here : PutM ek vv b m (mp ek vv b m :: l) m' (mp ek vv b m' :: l) where
  get := fun _ ⟨_, _, a, _, _, x, _⟩ => mp_up a x
  set := fun h h' ⟨f, g, a, e, d, ⟨es, c, h1, h2⟩, y⟩ ⟨es', c', h3, h4⟩ hs => by
    have s : sat (pts b (.map es c) :: l) h := ⟨f, g, a, e, d, h1, y⟩
    exact sat_head (fun k hk => ⟨es', c', hk, h4⟩) (sat_set s h3 hs)

instance PutM.there {A : HProp} [i : PutM ek vv b m l m' l'] : PutM ek vv b m (A :: l) m' (A :: l') where
  get := fun _ s => i.get _ (sat_drop s)
  set := fun h h' ⟨f, g, a, e, d, x, y⟩ ⟨es', c', h3, h4⟩ hs => by
    obtain ⟨es, c, h1, h2⟩ := i.get g y
    refine ⟨f, fun k => if k = b then some (.map es' c') else g k, ?_, ?_, ?_, x, i.set g _ y ⟨es', c', by simp, h4⟩ (fun k hk => by simp [hk])⟩
    · intro k p hk
      have hkb : k ≠ b := fun h0 => by subst h0; exact d k p _ hk h1
      rw [hs k hkb]; exact a k p hk
    · intro k p hk
      by_cases hkb : k = b
      · subst hkb; simp at hk; subst hk; exact h3
      · simp [hkb] at hk; rw [hs k hkb]; exact e k p hk
    · intro k p p' hk hk'
      by_cases hkb : k = b
      · subst hkb; exact d k p _ hk h1
      · simp [hkb] at hk'; exact d k p p' hk hk'

theorem Holds.mp [Extra] {w : World} (h : Holds w l) [i : AtM ek vv b m l] : ∃ es clock, w.heap[b]? = some (.map es clock) ∧ MapOK ek vv es clock m := i.get _ h.1
theorem Holds.putM [Extra] {w w' : World} (h : Holds w l) [i : PutM ek vv b m l m' l'] {es : Array MapEntry} {clock : Nat} (e1 : w'.heap[b]? = some (.map es clock)) (ok : MapOK ek vv es clock m') (e2 : ∀ c, c ≠ b → w'.heap[c]? = w.heap[c]?) (e : Same w w') : Holds w' l' := ⟨i.set _ _ h.1 ⟨es, clock, e1, ok⟩ e2, h.2.same e⟩
end

section
variable {P : Program} {w : World} {K V : Type} [DecidableEq K] {ek : K → Value} {vv : V → Value} {b : Nat} {m : List (K × V)} {t k e : TypeId}

theorem MapOK.keys {es : Array MapEntry} {clock : Nat} (h : MapOK ek vv es clock m) : es.toList.map (·.key) = (m.map (·.1)).map ek := by
  have := congrArg (List.map Prod.fst) h.ents
  simpa [List.map_map, Function.comp_def] using this

theorem MapOK.at {es : Array MapEntry} {clock : Nat} (h : MapOK ek vv es clock m) {j : Nat} {x : MapEntry} (hj : es.toList[j]? = some x) : ∃ p, m[j]? = some p ∧ x.key = ek p.1 ∧ x.val = vv p.2 := by
  have h1 := congrArg (fun l => l[j]?) h.ents
  simp only [List.getElem?_map, hj, Option.map_some] at h1
  cases hm : m[j]? with
  | none => rw [hm] at h1; cases h1
  | some p => rw [hm] at h1; simp at h1; exact ⟨p, rfl, h1.1, h1.2⟩

/-- Where a key is, if it is there. -/
theorem MapOK.find {es : Array MapEntry} {clock : Nat} (h : MapOK ek vv es clock m) (T : TKey P k ek) (w : World) (x : K) :
    ((Instr.findKey k (ek x) es.toList).run P w = .ok none w ∧ x ∉ m.map (·.1)) ∨ ∃ j y v, (Instr.findKey k (ek x) es.toList).run P w = .ok (some (j, vv v)) w ∧ es.toList[j]? = some y ∧ y.key = ek x ∧ m[j]? = some (x, v) := by
  rcases T.find w x es.toList (m.map (·.1)) h.keys with h1 | ⟨j, y, h1, h2, h3⟩
  · exact .inl h1
  · obtain ⟨⟨a, v⟩, h4, h5, h6⟩ := h.at h2
    have : a = x := by simpa [h4] using h3
    subst this
    exact .inr ⟨j, y, v, by rw [h1, h6], h2, h5, h4⟩

theorem run_getMap {es : Array MapEntry} {clock : Nat} (h : w.heap[b]? = some (.map es clock)) : (getObj b).run P w = .ok (.map es clock) w := by
  simp [getObj, Sem.run, h]

theorem run_setMap {es : Array MapEntry} {clock : Nat} (o : Obj) (h : w.heap[b]? = some (.map es clock)) : (setObj b o).run P w = .ok () (w.putObj b o) := by
  simp [setObj, Sem.run, h, World.putObj]

theorem run_und {t : TypeId} {d : TypeDesc} (h : P.underlying t = some d) : (underlying t).run P w = .ok d w := by
  unfold underlying
  simp only [Sem.run_bind, run_program, Result.andThen_ok, h, Sem.run_pure]

def lookV (zv : Value) (vv : V → Value) : Option V → Value
  | none => zv
  | some v => vv v

theorem run_lookup (hM : TMap P t k e) (T : TKey P k ek) {zv : Value} (hz : TZero P e zv) (h : ∃ es clock, w.heap[b]? = some (.map es clock) ∧ MapOK ek vv es clock m) (x : K) (ok : Bool) :
    (Instr.lookup t (.map (some b)) (ek x) ok).run P w = .ok (if ok then .tuple #[lookV zv vv (fnd m x), .bool (fnd m x).isSome] else lookV zv vv (fnd m x)) w := by
  obtain ⟨es, clock, h1, h2⟩ := h
  unfold Instr.lookup
  simp only [Sem.run_bind, run_und hM.und, Result.andThen_ok, run_getMap h1, Sem.run_pure, T.check]
  rcases h2.find T w x with ⟨h3, h4⟩ | ⟨j, y, v, h3, h4, h5, h6⟩
  · simp only [h3, Result.andThen_ok, Sem.run_bind, run_zeroValue hz, Sem.run_pure, fnd_none h4]
    cases ok <;> rfl
  · simp only [h3, Result.andThen_ok, Sem.run_pure, fnd_at h2.nodup h6]
    cases ok <;> rfl

theorem run_lookup_nil (hM : TMap P t k e) (T : TKey P k ek) {zv : Value} (hz : TZero P e zv) (x : K) (ok : Bool) :
    (Instr.lookup t (.map none) (ek x) ok).run P w = .ok (if ok then .tuple #[zv, .bool false] else zv) w := by
  unfold Instr.lookup
  simp only [Sem.run_bind, run_und hM.und, Result.andThen_ok, Sem.run_pure, T.check]
  have h3 : (Instr.findKey k (ek x) (#[] : Array MapEntry).toList).run P w = .ok none w := by
    rcases T.find w x [] [] rfl with ⟨h, _⟩ | ⟨j, y, _, h, _⟩
    · exact h
    · simp at h
  simp only [h3, Result.andThen_ok, Sem.run_bind, run_zeroValue hz, Sem.run_pure]

theorem run_mapUpdate (hM : TMap P t k e) (T : TKey P k ek) (h : ∃ es clock, w.heap[b]? = some (.map es clock) ∧ MapOK ek vv es clock m) (x : K) (v : V) :
    ∃ w' es clock, (Instr.mapUpdate t (.map (some b)) (ek x) (vv v)).run P w = .ok () w' ∧ w'.heap[b]? = some (.map es clock) ∧ MapOK ek vv es clock (ins m x v) ∧ (∀ c, c ≠ b → w'.heap[c]? = w.heap[c]?) ∧ Same w w' := by
  obtain ⟨es, clock, h1, h2⟩ := h
  have hlt : b < w.heap.size := (Array.getElem?_eq_some_iff.1 h1).1
  unfold Instr.mapUpdate
  simp only [Sem.run_bind, run_und hM.und, Result.andThen_ok, run_getMap h1, Sem.run_pure, T.check]
  rcases h2.find T w x with ⟨h3, h4⟩ | ⟨j, y, u, h3, h4, h5, h6⟩
  · refine ⟨_, es.push { key := ek x, val := vv v, born := clock }, clock + 1, by rw [h3]; simp only [Result.andThen_ok]; exact run_setMap _ h1, World.putObj_heap_same hlt, ?_, fun c hc => World.putObj_heap_other hc, ⟨rfl, rfl⟩⟩
    rw [ins_none h4]
    refine ⟨by simp [h2.ents], ?_, ?_, ?_⟩
    · have := nodup_ins (x := x) (v := v) h2.nodup; rwa [ins_none h4] at this
    · simp only [Array.toList_push, List.map_append, List.map_cons, List.map_nil]
      refine List.pairwise_append.2 ⟨h2.rise, by simp, fun a ha c hc => ?_⟩
      obtain ⟨q, hq, rfl⟩ := List.mem_map.1 ha
      simp at hc; subst hc
      exact h2.born q hq
    · intro q hq
      simp only [Array.toList_push, List.mem_append, List.mem_singleton] at hq
      rcases hq with hq | rfl
      · exact Nat.lt_succ_of_lt (h2.born q hq)
      · exact Nat.lt_succ_self _
  · have hy : es[j]? = some y := by simpa using h4
    have hk : ((es[j]?).map (·.key)).getD (ek x) = ek x := by rw [hy]; simp [h5]
    have hjl : j < es.size := (Array.getElem?_eq_some_iff.1 hy).1
    refine ⟨_, es.modify j fun q => { q with key := ek x, val := vv v }, clock, by rw [h3]; simp only [Result.andThen_ok, Sem.run_bind, hk, T.stays]; exact run_setMap _ h1, World.putObj_heap_same hlt, ?_, fun c hc => World.putObj_heap_other hc, ⟨rfl, rfl⟩⟩
    have ems : (es.modify j fun q => { q with key := ek x, val := vv v }).toList = es.toList.set j { y with key := ek x, val := vv v } := by
      rw [Array.toList_modify]
      apply List.ext_getElem?
      intro i
      rw [List.getElem?_modify, List.getElem?_set]
      by_cases hij : j = i
      · subst hij
        rw [if_pos rfl, if_pos (by simpa using hjl), h4]
        simp
      · rw [if_neg hij]
        simp [hij]
    rw [ins_at h2.nodup h6]
    have hb' : (es.toList.set j { y with key := ek x, val := vv v }).map (·.born) = es.toList.map (·.born) := by
      rw [List.map_set]
      apply List.ext_getElem?
      intro i
      rw [List.getElem?_set]
      split
      · rename_i hij; subst hij
        simp only [List.length_map]
        rw [if_pos (by simpa using hjl), List.getElem?_map, h4]
        rfl
      · rfl
    refine ⟨?_, ?_, ?_, ?_⟩
    · rw [ems, List.map_set, List.map_set, h2.ents]
    · have := nodup_ins (x := x) (v := v) h2.nodup; rwa [ins_at h2.nodup h6] at this
    · rw [ems, hb']; exact h2.rise
    · intro q hq
      rw [ems] at hq
      rcases List.mem_or_eq_of_mem_set hq with hq | rfl
      · exact h2.born q hq
      · exact h2.born y (List.mem_of_getElem? h4)

theorem run_delete (hM : TMap P t k e) (T : TKey P k ek) (h : ∃ es clock, w.heap[b]? = some (.map es clock) ∧ MapOK ek vv es clock m) (x : K) (ty : TypeId) (u : TypeId) :
    ∃ w' es clock, (Builtin.delete_ #[t, u] ty #[.map (some b), ek x]).run P w = .ok (.tuple #[]) w' ∧ w'.heap[b]? = some (.map es clock) ∧ MapOK ek vv es clock (era m x) ∧ (∀ c, c ≠ b → w'.heap[c]? = w.heap[c]?) ∧ Same w w' := by
  obtain ⟨es, clock, h1, h2⟩ := h
  have hlt : b < w.heap.size := (Array.getElem?_eq_some_iff.1 h1).1
  unfold Builtin.delete_
  simp only [Sem.run_bind, run_und hM.und, Result.andThen_ok, run_getMap h1, Sem.run_pure, T.check, List.getElem?_toArray, List.getElem?_cons_zero, List.getElem?_cons_succ]
  rcases h2.find T w x with ⟨h3, h4⟩ | ⟨j, y, v, h3, h4, h5, h6⟩
  · refine ⟨_, es, clock, by rw [h3]; simp only [Result.andThen_ok, Sem.run_bind, run_setMap _ h1, Sem.run_pure], World.putObj_heap_same hlt, by rw [era_none h4]; exact h2, fun c hc => World.putObj_heap_other hc, ⟨rfl, rfl⟩⟩
  · have hy : es[j]? = some y := by simpa using h4
    have hjl : j < es.size := (Array.getElem?_eq_some_iff.1 hy).1
    refine ⟨_, es.eraseIdxIfInBounds j, clock, by rw [h3]; simp only [Result.andThen_ok, Sem.run_bind, run_setMap _ h1, Sem.run_pure], World.putObj_heap_same hlt, ?_, fun c hc => World.putObj_heap_other hc, ⟨rfl, rfl⟩⟩
    have ems : (es.eraseIdxIfInBounds j).toList = es.toList.eraseIdx j := by
      simp [Array.eraseIdxIfInBounds, hjl]
    have hsub : (es.toList.eraseIdx j).Sublist es.toList := List.eraseIdx_sublist _ _
    rw [era_at h2.nodup h6]
    refine ⟨?_, ?_, ?_, ?_⟩
    · rw [ems]
      have h7 := congrArg (fun l => l.eraseIdx j) h2.ents
      simpa [map_eraseIdx'] using h7
    · have := nodup_era (x := x) h2.nodup; rwa [era_at h2.nodup h6] at this
    · rw [ems]; exact h2.rise.sublist (hsub.map _)
    · intro q hq; rw [ems] at hq; exact h2.born q (hsub.subset hq)

theorem run_delete_nil (hM : TMap P t k e) (T : TKey P k ek) (x : K) (ty : TypeId) (u : TypeId) : (Builtin.delete_ #[t, u] ty #[.map none, ek x]).run P w = .ok (.tuple #[]) w := by
  unfold Builtin.delete_
  simp only [Sem.run_bind, run_und hM.und, Result.andThen_ok, Sem.run_pure, T.check, List.getElem?_toArray, List.getElem?_cons_zero, List.getElem?_cons_succ]

theorem MapOK.len {es : Array MapEntry} {clock : Nat} (h : MapOK ek vv es clock m) : es.size = m.length := by
  have := congrArg List.length h.ents
  simpa using this

theorem run_lenMap (hM : TMap P t k e) (h : ∃ es clock, w.heap[b]? = some (.map es clock) ∧ MapOK ek vv es clock m) (ty : TypeId) :
    (Builtin.len_ #[t] ty #[.map (some b)]).run P w = .ok (.int .i64 m.length) w := by
  obtain ⟨es, clock, h1, h2⟩ := h
  unfold Builtin.len_
  simp only [Sem.run_bind, run_und hM.und, Result.andThen_ok, run_getMap h1, Sem.run_pure, List.getElem?_toArray, List.getElem?_cons_zero, h2.len, goInt]

theorem run_lenMap_nil (hM : TMap P t k e) (ty : TypeId) : (Builtin.len_ #[t] ty #[.map none]).run P w = .ok (.int .i64 0) w := by
  unfold Builtin.len_
  simp only [Sem.run_bind, run_und hM.und, Result.andThen_ok, Sem.run_pure, List.getElem?_toArray, List.getElem?_cons_zero, goInt]
end
end Go.SL
