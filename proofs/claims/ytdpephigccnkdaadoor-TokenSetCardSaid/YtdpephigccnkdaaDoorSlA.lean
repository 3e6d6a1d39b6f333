/- A small separation logic over the model's heap: lists of resources that hold apart of one another; what is not named stays. No condition. -/
import Derived.RangeFuncLeaves
import Derived.OrdersIn
import Derived.TacticsIn
import Derived.RangeFuncRecord
namespace Go.SL

/-! ### 1. Part heaps and resources -/

abbrev Hp := Nat → Option Obj
abbrev HProp := Hp → Prop

def Sub (g h : Hp) : Prop := ∀ b o, g b = some o → h b = some o
def Dis (g h : Hp) : Prop := ∀ b o o', g b = some o → h b = some o' → False

theorem Sub.rfl' (h : Hp) : Sub h h := fun _ _ e => e
theorem Sub.trans {f g h : Hp} (a : Sub f g) (b : Sub g h) : Sub f h := fun x o e => b x o (a x o e)
theorem Dis.symm {g h : Hp} (d : Dis g h) : Dis h g := fun b o o' e e' => d b o' o e' e
theorem Dis.mono {f g f' g' : Hp} (d : Dis f g) (a : Sub f' f) (b : Sub g' g) : Dis f' g' := fun x o o' e e' => d x o o' (a x o e) (b x o' e')

/-- The resources hold of parts of the heap that share no block. -/
def sat : List HProp → Hp → Prop
  | [], _ => True
  | A :: l, h => ∃ f g, Sub f h ∧ Sub g h ∧ Dis f g ∧ A f ∧ sat l g

def pts (b : Nat) (o : Obj) : HProp := fun h => h b = some o
def prop (p : Prop) : HProp := fun _ => p
def star (l : List HProp) : HProp := sat l
def ex {α : Type} (A : α → HProp) : HProp := fun h => ∃ x, A x h
/-- All blocks of a world's heap, as they were. -/
def old (w : World) : HProp := fun h => ∀ b, b < w.heap.size → h b = w.heap[b]?

theorem sat_up : ∀ {l : List HProp} {g h : Hp}, Sub g h → sat l g → sat l h
  | [], _, _, _, _ => trivial
  | _ :: _, _, _, s, ⟨f, k, a, b, d, x, y⟩ => ⟨f, k, a.trans s, b.trans s, d, x, y⟩

theorem sat_tail {A : HProp} {l l' : List HProp} {h : Hp} (i : ∀ g, sat l g → sat l' g) : sat (A :: l) h → sat (A :: l') h :=
  fun ⟨f, g, a, b, d, x, y⟩ => ⟨f, g, a, b, d, x, i _ y⟩

theorem sat_head {A A' : HProp} {l : List HProp} {h : Hp} (i : ∀ g, A g → A' g) : sat (A :: l) h → sat (A' :: l) h :=
  fun ⟨f, g, a, b, d, x, y⟩ => ⟨f, g, a, b, d, i _ x, y⟩

theorem sat_drop {A : HProp} {l : List HProp} {h : Hp} : sat (A :: l) h → sat l h :=
  fun ⟨_, _, _, b, _, _, y⟩ => sat_up b y

def join (f g : Hp) : Hp := fun c => match f c with | some o => some o | none => g c
theorem join_some {f g : Hp} {c : Nat} {o : Obj} (h : join f g c = some o) : f c = some o ∨ f c = none ∧ g c = some o := by
  unfold join at h
  split at h
  · rename_i o' e; left; rw [e]; exact h
  · rename_i e; exact .inr ⟨e, h⟩
theorem join_left {f g : Hp} : Sub f (join f g) := fun c o e => by unfold join; rw [e]
theorem join_right {f g : Hp} (d : Dis f g) : Sub g (join f g) := fun c o e => by
  unfold join
  cases hc : f c with
  | none => exact e
  | some p => exact (d c p o hc e).elim
theorem join_sub {f g h : Hp} (a : Sub f h) (b : Sub g h) : Sub (join f g) h := fun c o e => by
  rcases join_some e with e | ⟨_, e⟩
  · exact a c o e
  · exact b c o e
theorem join_dis {f g h : Hp} (a : Dis f h) (b : Dis g h) : Dis (join f g) h := fun c o o' e e' => by
  rcases join_some e with e | ⟨_, e⟩
  · exact a c o o' e e'
  · exact b c o o' e e'

theorem sat_swap {A B : HProp} {l : List HProp} {h : Hp} : sat (A :: B :: l) h → sat (B :: A :: l) h := by
  rintro ⟨f, g, a, b, d, x, f', g', a', b', d', x', y⟩
  have dg : Dis f g' := d.mono (Sub.rfl' f) b'
  exact ⟨f', join f g', a'.trans b, join_sub a (b'.trans b), (join_dis (d.mono (Sub.rfl' f) a') d'.symm).symm, x', f, g', join_left, join_right dg, dg, x, y⟩

theorem sat_perm {l l' : List HProp} (p : l.Perm l') : ∀ {h : Hp}, sat l h → sat l' h := by
  induction p with
  | nil => exact fun x => x
  | cons A _ ih => exact fun x => sat_tail (fun _ => ih) x
  | swap A B l => exact fun x => sat_swap x
  | trans _ _ i j => exact fun x => j (i x)

/-- The resource number i goes ahead. -/
def pull {α : Type} : Nat → List α → List α
  | 0, l => l
  | _ + 1, [] => []
  | i + 1, a :: l => match pull i l with
    | [] => [a]
    | b :: r => b :: a :: r

theorem pull_perm {α : Type} : ∀ (i : Nat) (l : List α), l.Perm (pull i l)
  | 0, l => List.Perm.refl l
  | _ + 1, [] => List.Perm.refl []
  | i + 1, a :: l => by
    have h := pull_perm i l
    simp only [pull]
    cases hp : pull i l with
    | nil => rw [hp] at h; simpa using h
    | cons b r => rw [hp] at h; exact (h.cons a).trans (List.Perm.swap b a r)

theorem sat_nil (h : Hp) : sat [] h := trivial

theorem sat_join {l : List HProp} {f : Hp} : ∀ {k : List HProp} {g h : Hp}, Sub f h → Sub g h → Dis g f → sat k g → sat l f → sat (k ++ l) h
  | [], _, _, a, _, _, _, y => sat_up a y
  | _ :: k, _, _, a, b, d, ⟨f1, g1, a1, b1, d1, x, z⟩, y =>
    have dg := d.mono b1 (Sub.rfl' f)
    ⟨f1, join g1 f, a1.trans b, join_sub (b1.trans b) a, (join_dis d1.symm (d.mono a1 (Sub.rfl' f)).symm).symm, x,
      sat_join (k := k) (join_right dg) join_left dg z y⟩

theorem sat_part {l : List HProp} : ∀ {k : List HProp} {h : Hp}, sat (k ++ l) h → ∃ g f, Sub g h ∧ Sub f h ∧ Dis g f ∧ sat k g ∧ sat l f
  | [], h, s => ⟨fun _ => none, h, fun _ _ e => (by cases e), Sub.rfl' h, fun _ _ _ e => (by cases e), trivial, s⟩
  | A :: k, h, ⟨f1, g1, a, b, d, x, y⟩ =>
    let ⟨g, f, a', b', d', x', y'⟩ := sat_part (k := k) y
    have d1 := d.mono (Sub.rfl' f1) a'
    ⟨join f1 g, f, join_sub a (a'.trans b), b'.trans b, join_dis (d.mono (Sub.rfl' f1) b') d', ⟨f1, g, join_left, join_right d1, d1, x, x'⟩, y'⟩

theorem sat_star {k l : List HProp} {h : Hp} : sat (star k :: l) h ↔ sat (k ++ l) h :=
  ⟨fun ⟨_, _, a, b, d, x, y⟩ => sat_join b a d x y, fun s => let ⟨g, f, a, b, d, x, y⟩ := sat_part s; ⟨g, f, a, b, d, x, y⟩⟩

theorem sat_ex {α : Type} {A : α → HProp} {l : List HProp} {h : Hp} : sat (ex A :: l) h ↔ ∃ x, sat (A x :: l) h :=
  ⟨fun ⟨f, g, a, b, d, ⟨x, hx⟩, y⟩ => ⟨x, f, g, a, b, d, hx, y⟩, fun ⟨x, f, g, a, b, d, hx, y⟩ => ⟨f, g, a, b, d, ⟨x, hx⟩, y⟩⟩

theorem sat_prop {p : Prop} {l : List HProp} {h : Hp} : sat (prop p :: l) h ↔ p ∧ sat l h :=
  ⟨fun ⟨_, _, _, b, _, x, y⟩ => ⟨x, sat_up b y⟩, fun ⟨x, y⟩ => ⟨fun _ => none, h, fun _ _ e => (by cases e), Sub.rfl' h, fun _ _ _ e => (by cases e), x, y⟩⟩

/-! ### 2. Of worlds -/

def hp (w : World) : Hp := fun b => w.heap[b]?
/-- What no step turns: the system, and what was printed. -/
class Extra where
  os : Os
  output : Array (Nat × ByteArray)
def Ok [X : Extra] (w : World) : Prop := w.os = X.os ∧ w.output = X.output
def Same (w w' : World) : Prop := w'.os = w.os ∧ w'.output = w.output
theorem Same.refl (w : World) : Same w w := ⟨rfl, rfl⟩
theorem Same.trans {a b c : World} (h : Same a b) (k : Same b c) : Same a c := ⟨k.1.trans h.1, k.2.trans h.2⟩
theorem Ok.same [Extra] {w w' : World} (h : Ok w) (s : Same w w') : Ok w' := ⟨s.1.trans h.1, s.2.trans h.2⟩

def Holds [Extra] (w : World) (l : List HProp) : Prop := sat l (hp w) ∧ Ok w

theorem Holds.pull [Extra] {w : World} {l : List HProp} (i : Nat) (h : Holds w l) : Holds w (SL.pull i l) := ⟨sat_perm (pull_perm i l) h.1, h.2⟩
theorem Holds.perm [Extra] {w : World} {l l' : List HProp} (h : Holds w l) (p : l.Perm l') : Holds w l' := ⟨sat_perm p h.1, h.2⟩
theorem Holds.drop [Extra] {w : World} {A : HProp} {l : List HProp} (h : Holds w (A :: l)) : Holds w l := ⟨sat_drop h.1, h.2⟩
theorem Holds.swap [Extra] {w : World} {A B : HProp} {l : List HProp} (h : Holds w (A :: B :: l)) : Holds w (B :: A :: l) := ⟨sat_swap h.1, h.2⟩
theorem Holds.head [Extra] {w : World} {A A' : HProp} {l : List HProp} (h : Holds w (A :: l)) (i : ∀ g, A g → A' g) : Holds w (A' :: l) := ⟨sat_head i h.1, h.2⟩
theorem Holds.star [Extra] {w : World} {k l : List HProp} : Holds w (SL.star k :: l) ↔ Holds w (k ++ l) := ⟨fun h => ⟨sat_star.1 h.1, h.2⟩, fun h => ⟨sat_star.2 h.1, h.2⟩⟩
theorem Holds.ex [Extra] {w : World} {α : Type} {A : α → HProp} {l : List HProp} : Holds w (SL.ex A :: l) ↔ ∃ x, Holds w (A x :: l) := ⟨fun h => let ⟨x, y⟩ := sat_ex.1 h.1; ⟨x, y, h.2⟩, fun ⟨x, y⟩ => ⟨sat_ex.2 ⟨x, y.1⟩, y.2⟩⟩
theorem Holds.prop [Extra] {w : World} {p : Prop} {l : List HProp} : Holds w (SL.prop p :: l) ↔ p ∧ Holds w l := ⟨fun h => let ⟨x, y⟩ := sat_prop.1 h.1; ⟨x, y, h.2⟩, fun ⟨x, y⟩ => ⟨sat_prop.2 ⟨x, y.1⟩, y.2⟩⟩
theorem Holds.nil [Extra] (w : World) (ok : Ok w) : Holds w [] := ⟨trivial, ok⟩

/-- Only the heap is looked at, and what is there may grow. -/
theorem Holds.up [Extra] {w w' : World} {l : List HProp} (h : Holds w l) (s : ∀ (b : Nat) (o : Obj), w.heap[b]? = some o → w'.heap[b]? = some o) (e : Same w w') : Holds w' l := ⟨sat_up s h.1, h.2.same e⟩
theorem Holds.heap [Extra] {w w' : World} {l : List HProp} (h : Holds w l) (s : w'.heap = w.heap) (e : Same w w' := by exact ⟨rfl, rfl⟩) : Holds w' l := by
  refine ⟨?_, h.2.same e⟩
  have h1 := h.1
  unfold hp at *; rw [s]; exact h1

theorem Holds.pts [Extra] {w : World} {b : Nat} {o : Obj} {l : List HProp} (h : Holds w (SL.pts b o :: l)) : w.heap[b]? = some o := by
  obtain ⟨f, _, a, _, _, x, _⟩ := h.1
  exact a b o x

theorem Holds.old [Extra] {w w₀ : World} {b : Nat} {l : List HProp} (h : Holds w (SL.old w₀ :: l)) (hb : b < w₀.heap.size) : w.heap[b]? = w₀.heap[b]? := by
  obtain ⟨f, _, a, _, _, x, _⟩ := h.1
  have e := x b hb
  cases ho : w₀.heap[b]? with
  | none => have := Array.getElem?_eq_none_iff.1 ho; omega
  | some o => rw [ho] at e; exact a b o e

theorem Holds.start [Extra] (w : World) (ok : Ok w) : Holds w [SL.old w] :=
  ⟨⟨hp w, fun _ => none, Sub.rfl' _, fun _ _ e => (by cases e), fun _ _ _ _ e => (by cases e), fun _ _ => rfl, trivial⟩, ok⟩

/-- One block is another object now. -/
theorem sat_set {b : Nat} {o o' : Obj} {l : List HProp} {h h' : Hp} (s : sat (pts b o :: l) h) (hb : h' b = some o') (ho : ∀ c, c ≠ b → h' c = h c) : sat (pts b o' :: l) h' := by
  obtain ⟨f, g, a, e, d, x, y⟩ := s
  refine ⟨fun c => if c = b then some o' else none, g, ?_, ?_, ?_, by simp [SL.pts], y⟩
  · intro c p hc
    by_cases hcb : c = b
    · subst hcb; simp at hc; subst hc; exact hb
    · simp [hcb] at hc
  · intro c p hc
    have hcb : c ≠ b := fun h0 => by subst h0; exact d c o p x hc
    rw [ho c hcb]; exact e c p hc
  · intro c p p' hc hc'
    by_cases hcb : c = b
    · subst hcb; exact d c o p' x hc'
    · simp [hcb] at hc

theorem sat_new {b : Nat} {o : Obj} {l : List HProp} {h h' : Hp} (s : sat l h) (hn : h b = none) (hb : h' b = some o) (ho : ∀ c, c ≠ b → h' c = h c) : sat (pts b o :: l) h' := by
  refine ⟨fun c => if c = b then some o else none, h, ?_, ?_, ?_, by simp [SL.pts], s⟩
  · intro c p hc
    by_cases hcb : c = b
    · subst hcb; simp at hc; subst hc; exact hb
    · simp [hcb] at hc
  · intro c p hc
    have hcb : c ≠ b := fun h0 => by subst h0; rw [hn] at hc; cases hc
    rw [ho c hcb]; exact hc
  · intro c p p' hc hc'
    by_cases hcb : c = b
    · subst hcb; rw [hn] at hc'; cases hc'
    · simp [hcb] at hc

/-- 'w' with one block turned: the form in which a store leaves it. -/
theorem Holds.set [Extra] {w w' : World} {b : Nat} {o o' : Obj} {l : List HProp} (h : Holds w (SL.pts b o :: l)) (hb : w'.heap[b]? = some o') (ho : ∀ c, c ≠ b → w'.heap[c]? = w.heap[c]?) (e : Same w w' := by exact ⟨rfl, rfl⟩) : Holds w' (SL.pts b o' :: l) :=
  ⟨sat_set h.1 hb ho, h.2.same e⟩

theorem Holds.new [Extra] {w : World} {l : List HProp} (h : Holds w l) (o : Obj) : Holds { w with heap := w.heap.push o } (SL.pts w.heap.size o :: l) :=
  ⟨sat_new h.1 (by simp [hp]) (by simp [hp]) (by
    intro c hc
    simp only [hp]
    rw [Array.getElem?_push, if_neg hc]), h.2⟩

/-- Two resources of one block do not hold apart. -/
theorem Holds.ne [Extra] {w : World} {b c : Nat} {o p : Obj} {l : List HProp} (h : Holds w (SL.pts b o :: SL.pts c p :: l)) : b ≠ c := by
  rintro rfl
  obtain ⟨f, g, _, _, d, x, f', g', a', _, _, x', _⟩ := h.1
  exact d b o p x (a' b p x')

theorem Holds.fresh [Extra] {w : World} {b : Nat} {o : Obj} {l : List HProp} (h : Holds w (SL.pts b o :: l)) : b < w.heap.size :=
  (Array.getElem?_eq_some_iff.1 h.pts).1

theorem Holds.old_ne [Extra] {w w₀ : World} {b : Nat} {o : Obj} {l : List HProp} (h : Holds w (SL.pts b o :: SL.old w₀ :: l)) : w₀.heap.size ≤ b := by
  rcases Nat.lt_or_ge b w₀.heap.size with hb | hb
  · obtain ⟨f, g, _, _, d, x, f', g', a', _, _, x', _⟩ := h.1
    have e := x' b hb
    rw [Array.getElem?_eq_getElem hb] at e
    exact (d b o _ x (a' b _ e)).elim
  · exact hb

end Go.SL
