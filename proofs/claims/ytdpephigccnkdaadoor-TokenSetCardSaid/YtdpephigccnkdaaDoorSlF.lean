/- The rules on maps, slices and comparisons, for the walk. No condition. -/
import Derived.Test.YtdpephigccnkdaaDoorSlE
set_option linter.unusedVariables false
set_option linter.unusedSimpArgs false
set_option linter.unusedSectionVars false
namespace Go.SL

/-! ### Keys -/
section
variable {P : Program} {k : TypeId}

class TInt (P : Program) (t : TypeId) (q : outParam IntKind) : Prop where
  und : P.underlying t = some (.int q)

@[reducible] def ki (q : IntKind) : Int → Value := fun x => .int q x
@[reducible] def kp : Int × Int → Value := fun x => .agg #[.int .i64 x.1, .int .i64 x.2]
@[reducible] def ks : ByteArray → Value := fun x => .string x

theorem findNow_ints {q : IntKind} (x : Int) : ∀ (es : List MapEntry) (ks : List Int) (i : Nat), es.map (·.key) = ks.map (ki q) →
    (Instr.findNow (.int q) (ki q x) es i = some none ∧ x ∉ ks) ∨ ∃ j e, Instr.findNow (.int q) (ki q x) es i = some (some (i + j, e.val)) ∧ es[j]? = some e ∧ ks[j]? = some x
  | [], [], _, _ => .inl ⟨rfl, by simp⟩
  | [], _ :: _, _, h => by simp at h
  | _ :: _, [], _, h => by simp at h
  | e :: es, y :: ks, i, h => by
    simp only [List.map_cons, List.cons.injEq] at h
    by_cases hxy : x = y
    · subst hxy
      exact .inr ⟨0, e, by simp [Instr.findNow, Instr.sameNow, h.1], rfl, rfl⟩
    · have hb : (x == y) = false := by simpa using hxy
      rcases findNow_ints x es ks (i + 1) h.2 with ⟨h1, h2⟩ | ⟨j, e', h1, h2, h3⟩
      · exact .inl ⟨by simp [Instr.findNow, Instr.sameNow, h.1, hb, h1], by simp [hxy, h2]⟩
      · exact .inr ⟨j + 1, e', by simp [Instr.findNow, Instr.sameNow, h.1, hb, h1]; omega, by simpa using h2, by simpa using h3⟩

theorem bytes_beq (a b : ByteArray) : (a == b) = decide (a = b) := by
  obtain ⟨⟨x⟩⟩ := a
  obtain ⟨⟨y⟩⟩ := b
  show ((⟨x⟩ : Array UInt8) == ⟨y⟩) = _
  rw [Bool.eq_iff_iff]
  simp

theorem findNow_strs (x : ByteArray) : ∀ (es : List MapEntry) (l : List ByteArray) (i : Nat), es.map (·.key) = l.map ks →
    (Instr.findNow .string (ks x) es i = some none ∧ x ∉ l) ∨ ∃ j e, Instr.findNow .string (ks x) es i = some (some (i + j, e.val)) ∧ es[j]? = some e ∧ l[j]? = some x
  | [], [], _, _ => .inl ⟨rfl, by simp⟩
  | [], _ :: _, _, h => by simp at h
  | _ :: _, [], _, h => by simp at h
  | e :: es, y :: l, i, h => by
    simp only [List.map_cons, List.cons.injEq] at h
    by_cases hxy : x = y
    · subst hxy
      exact .inr ⟨0, e, by simp [Instr.findNow, Instr.sameNow, h.1, bytes_beq], rfl, rfl⟩
    · have hb : (x == y) = false := by simpa [bytes_beq] using hxy
      rcases findNow_strs x es l (i + 1) h.2 with ⟨h1, h2⟩ | ⟨j, e', h1, h2, h3⟩
      · exact .inl ⟨by simp [Instr.findNow, Instr.sameNow, h.1, hb, h1], by simp [hxy, h2]⟩
      · exact .inr ⟨j + 1, e', by simp [Instr.findNow, Instr.sameNow, h.1, hb, h1]; omega, by simpa using h2, by simpa using h3⟩

theorem tkey_int {q : IntKind} (h : TInt P k q) : TKey P k (ki q) where
  inj := fun a b e => by simpa using e
  check := fun w em x => by
    unfold Instr.checkKey
    simp only [Sem.run_bind, run_und h.und, Result.andThen_ok, ki]
    rfl
  stays := fun w x => by simp [Instr.keyThatStays, Instr.sameBits]
  find := fun w x es l hl => by
    unfold Instr.findKey
    simp only [Sem.run_bind, run_und h.und, Result.andThen_ok]
    rcases findNow_ints x es l 0 hl with ⟨h1, h2⟩ | ⟨j, e, h1, h2, h3⟩
    · exact .inl ⟨by rw [h1]; rfl, h2⟩
    · exact .inr ⟨j, e, by rw [h1]; simp, h2, h3⟩

theorem tkey_str (h : TString P k) : TKey P k ks where
  inj := fun a b e => by simpa using e
  check := fun w em x => by
    unfold Instr.checkKey
    simp only [Sem.run_bind, run_und h.und, Result.andThen_ok, ks]
    rfl
  stays := fun w x => by simp [Instr.keyThatStays, Instr.sameBits, bytes_beq]
  find := fun w x es l hl => by
    unfold Instr.findKey
    simp only [Sem.run_bind, run_und h.und, Result.andThen_ok]
    rcases findNow_strs x es l 0 hl with ⟨h1, h2⟩ | ⟨j, e, h1, h2, h3⟩
    · exact .inl ⟨by rw [h1]; rfl, h2⟩
    · exact .inr ⟨j, e, by rw [h1]; simp, h2, h3⟩

/-- Two values of a type, told to be the same or not. -/
structure TEq (P : Program) (t : TypeId) {A : Type} (enc : A → Value) (eq : A → A → Bool) : Prop where
  run : ∀ (d : Nat) (w : World) (x y : A), (Op.equalIn (d + 3) t (enc x) (enc y)).run P w = .ok (eq x y) w

/-- A struct of two numbers. -/
class TPair (P : Program) (t : TypeId) : Prop where
  und : ∃ f g a b, P.underlying t = some (.struct #[f, g]) ∧ f.name ≠ "_" ∧ g.name ≠ "_" ∧ f.offset = 0 ∧ g.offset = 1 ∧ P.underlying f.type = some (.int a) ∧ P.underlying g.type = some (.int b)
  one : ∀ f g, P.underlying t = some (.struct #[f, g]) → T1 P f.type ∧ T1 P g.type
  held : P.stoodInHeld t = false
  guard : P.eqGuardType P.depth t = false

theorem teq_pair {t : TypeId} (h : TPair P t) : TEq P t kp (fun x y => x.1 == y.1 && x.2 == y.2) where
  run := fun d w x y => by
    obtain ⟨f, g, a, b, h1, h2, h3, h4, h5, h6, h7⟩ := h.und
    obtain ⟨o1, o2⟩ := h.one f g h1
    have hf : P.fieldsOf t = #[f, g] := by simp [Program.fieldsOf, h1]
    rw [run_equalIn_struct w (d + 2) t _ _ (by rw [hf]; exact h1) h.held, hf]
    have p1 : ∀ (u v : Int), (part f.type #[.int .i64 u, .int .i64 v] f.offset).run P w = .ok (.int .i64 u) w := fun u v => part1 o1 (c := [.int .i64 u, .int .i64 v]) (by rw [h4]; rfl)
    have p2 : ∀ (u v : Int), (part g.type #[.int .i64 u, .int .i64 v] g.offset).run P w = .ok (.int .i64 v) w := fun u v => part1 o2 (c := [.int .i64 u, .int .i64 v]) (by rw [h5]; rfl)
    simp only [Op.eqFields, h2, h3, ne_eq, not_false_eq_true, if_true, Sem.run_bind, p1, p2, Result.andThen_ok, run_equalIn_int w (d + 1) f.type .i64 a _ _ h6, run_equalIn_int w (d + 1) g.type .i64 b _ _ h7]
    cases h8 : (x.1 == y.1)
    · simp
    · cases h9 : (x.2 == y.2) <;> simp [p2, run_equalIn_int w (d + 1) g.type .i64 b _ _ h7, h9]

theorem findNow_pair {fs : Array Field} (x : Int × Int) (e : MapEntry) (es : List MapEntry) (i : Nat) : Instr.findNow (.struct fs) (kp x) (e :: es) i = none := by
  simp [Instr.findNow, Instr.sameNow]

theorem findAsking_eq {A : Type} {enc : A → Value} {eq : A → A → Bool} (E : TEq P k enc eq) (he : ∀ a b, eq a b = true ↔ a = b) (w : World) (x : A) : ∀ (es : List MapEntry) (l : List A) (i : Nat), es.map (·.key) = l.map enc →
    ((Instr.findAsking k (enc x) es i).run P w = .ok none w ∧ x ∉ l) ∨ ∃ j e, (Instr.findAsking k (enc x) es i).run P w = .ok (some (i + j, e.val)) w ∧ es[j]? = some e ∧ l[j]? = some x
  | [], [], _, _ => .inl ⟨rfl, by simp⟩
  | [], _ :: _, _, h => by simp at h
  | _ :: _, [], _, h => by simp at h
  | e :: es, y :: l, i, h => by
    simp only [List.map_cons, List.cons.injEq] at h
    have hr : (Op.equal k (enc x) e.key).run P w = .ok (eq x y) w := by rw [h.1]; exact E.run 9997 w x y
    unfold Instr.findAsking
    simp only [Sem.run_bind, hr, Result.andThen_ok]
    by_cases hxy : x = y
    · subst hxy
      rw [(he x x).2 rfl]
      exact .inr ⟨0, e, by simp, rfl, rfl⟩
    · have hb : eq x y = false := by
        cases hq : eq x y with
        | false => rfl
        | true => exact absurd ((he x y).1 hq) hxy
      rw [hb]
      simp only [Bool.false_eq_true, if_false]
      rcases findAsking_eq E he w x es l (i + 1) h.2 with ⟨h1, h2⟩ | ⟨j, e', h1, h2, h3⟩
      · exact .inl ⟨h1, by simp [hxy, h2]⟩
      · exact .inr ⟨j + 1, e', by rw [h1]; congr 3; omega, by simpa using h2, by simpa using h3⟩

theorem tkey_pair (h : TPair P k) : TKey P k kp where
  inj := fun a b e => by
    obtain ⟨a1, a2⟩ := a
    obtain ⟨b1, b2⟩ := b
    simpa using e
  check := fun w em x => by
    obtain ⟨f, g, a, b, h1, h2, h3, h4, h5, h6, h7⟩ := h.und
    obtain ⟨o1, o2⟩ := h.one f g h1
    have p1 : (part f.type #[.int .i64 x.1, .int .i64 x.2] f.offset).run P w = .ok (.int .i64 x.1) w := part1 o1 (c := [.int .i64 x.1, .int .i64 x.2]) (by rw [h4]; rfl)
    have p2 : (part g.type #[.int .i64 x.1, .int .i64 x.2] g.offset).run P w = .ok (.int .i64 x.2) w := part1 o2 (c := [.int .i64 x.1, .int .i64 x.2]) (by rw [h5]; rfl)
    have c1 : ∀ (t : TypeId) (q : IntKind) (u : Int), P.underlying t = some (.int q) → (Instr.checkKey em 9999 t (.int .i64 u)).run P w = .ok () w := fun t q u ht => by
      unfold Instr.checkKey
      simp only [Sem.run_bind, run_und ht, Result.andThen_ok]
      rfl
    unfold Instr.checkKey
    simp only [Sem.run_bind, run_und h1, Result.andThen_ok, kp]
    simp [h2, h3, p1, p2, c1 _ _ _ h6, c1 _ _ _ h7]
  stays := fun w x => by simp [Instr.keyThatStays, Instr.sameBits]
  find := fun w x es l hl => by
    obtain ⟨f, g, a, b, h1, _⟩ := h.und
    unfold Instr.findKey
    simp only [Sem.run_bind, run_und h1, Result.andThen_ok]
    have key := findAsking_eq (teq_pair h) (fun a b => by
      obtain ⟨a1, a2⟩ := a
      obtain ⟨b1, b2⟩ := b
      simp) w x es l 0 hl
    cases es with
    | nil =>
      cases l with
      | nil => exact .inl ⟨by simp [Instr.findNow], by simp⟩
      | cons y l => simp at hl
    | cons e es =>
      rw [findNow_pair]
      simpa using key
end

/-! ### Comparisons -/
section
variable {P : Program} {w : World}

def isEql : BinOp → Bool
  | .eql => true
  | _ => false

theorem run_eqPtrNil {t : TypeId} (h : TPtr P t) (op : BinOp) (a : Option Addr) (X Y : Operand) (u : TypeId) (ho : op = .eql ∨ op = .neq) :
    (do eqGuard op t X Y (.pointer a) (.pointer none); binOp op t (.pointer a) (.pointer none) : Sem Value).run P w = .ok (.bool (if isEql op then a.isNone else a.isSome)) w := by
  obtain ⟨e, h⟩ := h.und
  have h1 : (Op.equal t (.pointer a) (.pointer none)).run P w = .ok a.isNone w := by
    unfold Op.equal Op.maxDepth Op.equalIn
    simp only [Sem.run_bind, run_und h, Result.andThen_ok]
    cases a <;> rfl
  rcases ho with rfl | rfl
  · simp [eqGuard, binOp, h1, isEql]
  · simp [eqGuard, binOp, h1, isEql]

theorem run_eqMapNil {t k e : TypeId} (h : TMap P t k e) (op : BinOp) (a : Option Nat) (X Y : Operand) (ho : op = .eql ∨ op = .neq) :
    (do eqGuard op t X Y (.map a) (.map none); binOp op t (.map a) (.map none) : Sem Value).run P w = .ok (.bool (if isEql op then a.isNone else a.isSome)) w := by
  have h1 : (Op.equal t (.map a) (.map none)).run P w = .ok a.isNone w := by
    unfold Op.equal Op.maxDepth Op.equalIn
    simp only [Sem.run_bind, run_und h.und, Result.andThen_ok]
    cases a <;> rfl
  rcases ho with rfl | rfl
  · simp [eqGuard, binOp, h1, isEql]
  · simp [eqGuard, binOp, h1, isEql]

class TBool (P : Program) (t : TypeId) : Prop where
  und : P.underlying t = some .bool

theorem run_eqBool {t : TypeId} (h : TBool P t) (op : BinOp) (a b : Bool) (X Y : Operand) (ho : op = .eql ∨ op = .neq) :
    (do eqGuard op t X Y (.bool a) (.bool b); binOp op t (.bool a) (.bool b) : Sem Value).run P w = .ok (.bool (if isEql op then a == b else !(a == b))) w := by
  have h1 : (Op.equal t (.bool a) (.bool b)).run P w = .ok (a == b) w := by
    unfold Op.equal Op.maxDepth Op.equalIn
    simp only [Sem.run_bind, run_und h.und, Result.andThen_ok]
    rfl
  rcases ho with rfl | rfl
  · simp [eqGuard, binOp, h1, isEql]
  · simp [eqGuard, binOp, h1, isEql]

theorem strs_beq (a b : ByteArray) : (a.toList == b.toList) = decide (a = b) := by
  rw [ByteArray.toList_eq, ByteArray.toList_eq, Bool.eq_iff_iff]
  simp only [beq_iff_eq, decide_eq_true_eq]
  constructor
  · intro h
    obtain ⟨⟨x⟩⟩ := a
    obtain ⟨⟨y⟩⟩ := b
    have h2 : x = y := h
    rw [h2]
  · intro h; rw [h]

theorem run_eqStr {t : TypeId} (h : TString P t) (op : BinOp) (a b : ByteArray) (X Y : Operand) (ho : op = .eql ∨ op = .neq) :
    (do eqGuard op t X Y (.string a) (.string b); binOp op t (.string a) (.string b) : Sem Value).run P w = .ok (.bool (if isEql op then decide (a = b) else !decide (a = b))) w := by
  rcases ho with rfl | rfl
  · simp [eqGuard, binOp, Op.stringOp, strs_beq, isEql]
  · simp [eqGuard, binOp, Op.stringOp, strs_beq, isEql]

theorem run_eqPair {t : TypeId} (h : TPair P t) (op : BinOp) (a b c d : Int) (X Y : Operand) (ho : op = .eql ∨ op = .neq) :
    (do eqGuard op t X Y (.agg #[.int .i64 a, .int .i64 b]) (.agg #[.int .i64 c, .int .i64 d]); binOp op t (.agg #[.int .i64 a, .int .i64 b]) (.agg #[.int .i64 c, .int .i64 d]) : Sem Value).run P w =
      .ok (.bool (if isEql op then decide ((a, b) = (c, d)) else !decide ((a, b) = (c, d)))) w := by
  have h0 := run_eqGuard_agg (P := P) w op t X Y #[.int .i64 a, .int .i64 b] #[.int .i64 c, .int .i64 d] h.guard
  have h1 := (teq_pair h).run 9997 w (a, b) (c, d)
  have e : (a == c && b == d) = decide ((a, b) = (c, d)) := by
    rw [Bool.eq_iff_iff]; simp
  simp only [e] at h1
  simp only [Sem.run_bind, h0, Result.andThen_ok]
  rcases ho with rfl | rfl
  · rw [run_eql_struct, h1]; rfl
  · rw [run_neq_struct, h1]; rfl
end

section
variable {P : Program} {n : Nat} {r : Option Nat} {ops : Array Oper} {Q : Post} {ms : List Nat} {σ : Env} {w : World} {rest : List Oper} {o : Oper} {K : Env → World → Prop} {l l' : List HProp}
variable {ivs : List (List Nat × (World → Prop))} {T : Env → World → Prop} {f : Nat} {L : Array Bool}
variable {u t : TypeId} {p : String} {af : Array Edge} {g : Option (Nat × Bool)} {d : Option Tmp} {x y z : Operand}

/-! ### As the walk takes them -/

theorem St_eqPtrNil {op : BinOp} {yt : TypeId} {a : Option Addr} [h : TPtr P t] (hx : ev σ x = .pointer a) (hy : ev σ y = .pointer none) (ho : op = .eql ∨ op = .neq) (hd : okd n d = true)
    (k : K (put σ d (.bool (if isEql op then a.isNone else a.isSome))) w) : St P n r ⟨d, .binOp op t x y yt, u, p, af, g⟩ σ w K :=
  St_value hd (fun c e => by cases e) (by simp only [execOp, hx, hy, Sem.run_bind]; rw [← Sem.run_bind, run_eqPtrNil h op a x y yt ho]; rfl) k

theorem St_eqMapNil {op : BinOp} {yt k e : TypeId} {a : Option Nat} [h : TMap P t k e] (hx : ev σ x = .map a) (hy : ev σ y = .map none) (ho : op = .eql ∨ op = .neq) (hd : okd n d = true)
    (k : K (put σ d (.bool (if isEql op then a.isNone else a.isSome))) w) : St P n r ⟨d, .binOp op t x y yt, u, p, af, g⟩ σ w K :=
  St_value hd (fun c e => by cases e) (by simp only [execOp, hx, hy, Sem.run_bind]; rw [← Sem.run_bind, run_eqMapNil h op a x y ho]; rfl) k

theorem St_eqBool {op : BinOp} {yt : TypeId} {a b : Bool} [h : TBool P t] (hx : ev σ x = .bool a) (hy : ev σ y = .bool b) (ho : op = .eql ∨ op = .neq) (hd : okd n d = true)
    (k : K (put σ d (.bool (if isEql op then a == b else !(a == b)))) w) : St P n r ⟨d, .binOp op t x y yt, u, p, af, g⟩ σ w K :=
  St_value hd (fun c e => by cases e) (by simp only [execOp, hx, hy, Sem.run_bind]; rw [← Sem.run_bind, run_eqBool h op a b x y ho]; rfl) k

theorem St_eqStr {op : BinOp} {yt : TypeId} {a b : ByteArray} [h : TString P t] (hx : ev σ x = .string a) (hy : ev σ y = .string b) (ho : op = .eql ∨ op = .neq) (hd : okd n d = true)
    (k : K (put σ d (.bool (if isEql op then decide (a = b) else !decide (a = b)))) w) : St P n r ⟨d, .binOp op t x y yt, u, p, af, g⟩ σ w K :=
  St_value hd (fun c e => by cases e) (by simp only [execOp, hx, hy, Sem.run_bind]; rw [← Sem.run_bind, run_eqStr h op a b x y ho]; rfl) k

theorem St_eqPair {op : BinOp} {yt : TypeId} {a b c e : Int} [h : TPair P t] (hx : ev σ x = .agg #[.int .i64 a, .int .i64 b]) (hy : ev σ y = .agg #[.int .i64 c, .int .i64 e]) (ho : op = .eql ∨ op = .neq) (hd : okd n d = true)
    (k : K (put σ d (.bool (if isEql op then decide ((a, b) = (c, e)) else !decide ((a, b) = (c, e))))) w) : St P n r ⟨d, .binOp op t x y yt, u, p, af, g⟩ σ w K :=
  St_value hd (fun c e => by cases e) (by simp only [execOp, hx, hy, Sem.run_bind]; rw [← Sem.run_bind, run_eqPair h op a b c e x y ho]; rfl) k

theorem Lp_pv {op : Op} {v : Value} (h : pv σ op = some v) (hd : okd n d = true) (k : Lp P n r ops Q rest ms (put σ d v) w) : Lp P n r ops Q (⟨d, op, u, p, af, none⟩ :: rest) ms σ w :=
  Lp_st (Wants.none rfl) (St_pv (o := ⟨d, op, u, p, af, none⟩) h hd k)

/-- What is handed on as it is, whatever it be. -/
def mvv (σ : Env) : Op → Option Value
  | .move x | .assign x => some (ev σ x)
  | _ => none
theorem Lp_mv {op : Op} {v : Value} (h : mvv σ op = some v) (hd : okd n d = true) (k : Lp P n r ops Q rest ms (put σ d v) w) : Lp P n r ops Q (⟨d, op, u, p, af, none⟩ :: rest) ms σ w := by
  refine Lp_st (Wants.none rfl) (St_value hd (fun c e => ?_) ?_ k)
  · have e : op = .defer c := e
    subst e
    cases h
  · cases op <;> simp only [mvv] at h <;> first | (cases h; rfl) | cases h

theorem Lp_s (hg : o.guard = none) (h : St P n r o σ w (fun σ' w' => Lp P n r ops Q rest ms σ' w')) : Lp P n r ops Q (o :: rest) ms σ w := Lp_st (Wants.none hg) h

/-- One of a list of resources is taken out; the others stay together. -/
theorem Holds.pick [Extra] {G : Type} {R : G → HProp} {gs g1 g2 : List G} {x : G} (e : gs = g1 ++ x :: g2) : Holds w (SL.star (gs.map R) :: l) ↔ Holds w (R x :: SL.star ((g1 ++ g2).map R) :: l) := by
  subst e
  have p : ((g1 ++ x :: g2).map R ++ l).Perm (R x :: ((g1 ++ g2).map R ++ l)) := by
    simp only [List.map_append, List.map_cons, List.append_assoc, List.cons_append]
    exact List.perm_middle
  constructor
  · exact fun h => ⟨sat_tail (fun _ => sat_star.2) ((Holds.star.1 h).perm p).1, h.2⟩
  · exact fun h => Holds.star.2 (Holds.perm ⟨sat_tail (fun _ => sat_star.1) h.1, h.2⟩ p.symm)

/-! #### maps -/
variable {A B : Type} [DecidableEq A] {ek : A → Value} {vv : B → Value} {b : Nat} {m : List (A × B)} {kt et : TypeId}

theorem St_makeMap [Extra] (vv : B → Value) (ek : A → Value) (H : Holds w l) [hM : TMap P t kt et] (hd : okd n d = true) (k : ∀ b w', Holds w' (mp ek vv b [] :: l) → K (put σ d (.map (some b))) w') :
    St P n r ⟨d, .makeMap t none, u, p, af, g⟩ σ w K := by
  refine St_value (v := .map (some w.heap.size)) (w' := { w with heap := w.heap.push (.map #[] 0) }) hd (fun c e => by cases e) ?_ (k _ _ ((H.new (.map #[] 0)).head fun h e => ⟨#[], 0, e, ?_⟩))
  · simp [execOp, Instr.makeMap]
  · exact ⟨rfl, by simp, by simp, by simp⟩

theorem St_lookup [Extra] {ix : Operand} {ok : Bool} {key : A} {zv : Value} (H : Holds w l) (hx : ev σ x = .map (some b)) (hk : ev σ ix = ek key) (TK : TKey P kt ek) [hM : TMap P t kt et] [hz : TZero P et zv] [i : AtM ek vv b m l] (hd : okd n d = true)
    (k : K (put σ d (if ok then .tuple #[lookV zv vv (fnd m key), .bool (fnd m key).isSome] else lookV zv vv (fnd m key))) w) : St P n r ⟨d, .lookup t x ix ok, u, p, af, g⟩ σ w K :=
  St_value hd (fun c e => by cases e) (by simp only [execOp, hx, hk, Sem.run_bind]; rw [run_lookup hM TK hz (i.get _ H.1) key ok]; rfl) k

theorem St_lookup_nil {ix : Operand} {ok : Bool} {key : A} {zv : Value} (hx : ev σ x = .map none) (hk : ev σ ix = ek key) (TK : TKey P kt ek) [hM : TMap P t kt et] [hz : TZero P et zv] (hd : okd n d = true)
    (k : K (put σ d (if ok then .tuple #[zv, .bool false] else zv)) w) : St P n r ⟨d, .lookup t x ix ok, u, p, af, g⟩ σ w K :=
  St_value hd (fun c e => by cases e) (by simp only [execOp, hx, hk, Sem.run_bind]; rw [run_lookup_nil hM TK hz key ok]; rfl) k

theorem St_mapUpdate [Extra] {ix : Operand} {key : A} {v : B} (H : Holds w l) (hx : ev σ x = .map (some b)) (hk : ev σ ix = ek key) (hv : ev σ y = vv v) (TK : TKey P kt ek) [hM : TMap P t kt et] [i0 : AtM ek vv b m l] [i : PutM ek vv b m l (ins m key v) l'] (hd : okd n d = true)
    (k : ∀ w', Holds w' l' → K (put σ d undef) w') : St P n r ⟨d, .mapUpdate t x ix y, u, p, af, g⟩ σ w K := by
  obtain ⟨w', es, c, h1, h2, h3, h4, h5⟩ := run_mapUpdate hM TK (i.get _ H.1) key v
  exact St_skip (w' := w') hd (fun c e => by cases e) (by simp only [execOp, hx, hk, hv, Sem.run_bind, h1, Result.andThen_ok]; rfl) (k w' ⟨i.set _ _ H.1 ⟨es, c, h2, h3⟩ h4, H.2.same h5⟩)

theorem St_delete [Extra] {ix : Operand} {key : A} {t2 : TypeId} (H : Holds w l) (hx : ev σ x = .map (some b)) (hk : ev σ ix = ek key) (TK : TKey P kt ek) [hM : TMap P t kt et] [i0 : AtM ek vv b m l] [i : PutM ek vv b m l (era m key) l'] (hd : okd n d = true)
    (k : ∀ w', Holds w' l' → K (put σ d (.tuple #[])) w') : St P n r ⟨d, .call { callee := .builtin .delete, args := #[x, ix], argTypes := #[t, t2] }, u, p, af, g⟩ σ w K := by
  obtain ⟨w', es, c, h1, h2, h3, h4, h5⟩ := run_delete hM TK (i.get _ H.1) key u t2
  refine St_value (v := .tuple #[]) (w' := w') hd (fun c e => by cases e) ?_ (k w' ⟨i.set _ _ H.1 ⟨es, c, h2, h3⟩ h4, H.2.same h5⟩)
  simp [execOp, resolve, invoke, builtin, hx, hk, h1]

theorem St_delete_nil {ix : Operand} {key : A} {t2 : TypeId} (hx : ev σ x = .map none) (hk : ev σ ix = ek key) (TK : TKey P kt ek) [hM : TMap P t kt et] (hd : okd n d = true)
    (k : K (put σ d (.tuple #[])) w) : St P n r ⟨d, .call { callee := .builtin .delete, args := #[x, ix], argTypes := #[t, t2] }, u, p, af, g⟩ σ w K := by
  refine St_value (v := .tuple #[]) (w' := w) hd (fun c e => by cases e) ?_ k
  simp [execOp, resolve, invoke, builtin, hx, hk, run_delete_nil (P := P) (w := w) hM TK key u t2]

theorem St_lenMap [Extra] (ek : A → Value) (vv : B → Value) (H : Holds w l) (hx : ev σ x = .map (some b)) [hM : TMap P t kt et] [i : AtM ek vv b m l] (hd : okd n d = true)
    (k : K (put σ d (.int .i64 m.length)) w) : St P n r ⟨d, .call { callee := .builtin .len, args := #[x], argTypes := #[t] }, u, p, af, g⟩ σ w K := by
  refine St_value (v := .int .i64 m.length) (w' := w) hd (fun c e => by cases e) ?_ k
  simp [execOp, resolve, invoke, builtin, hx, run_lenMap (P := P) hM (i.get _ H.1) u]

theorem St_lenMap_nil (hx : ev σ x = .map none) [hM : TMap P t kt et] (hd : okd n d = true)
    (k : K (put σ d (.int .i64 0)) w) : St P n r ⟨d, .call { callee := .builtin .len, args := #[x], argTypes := #[t] }, u, p, af, g⟩ σ w K := by
  refine St_value (v := .int .i64 0) (w' := w) hd (fun c e => by cases e) ?_ k
  simp [execOp, resolve, invoke, builtin, hx, run_lenMap_nil (P := P) (w := w) hM u]

/-! #### in a region that draws -/

theorem A_fieldAddr {s : TypeId} {fi off b i₀ : Nat} (i : Nat) (hi : ops[i]? = some ⟨d, .fieldAddr s x fi, u, p, af, g⟩) (hg : Wants ops σ ⟨d, .fieldAddr s x fi, u, p, af, g⟩ true) [hf : TField P s fi off] (hx : ev σ x = .pointer (some ⟨b, i₀, none⟩)) (hs : stB n ops (ivs.map (·.1)) L i [] = true)
    (h : Any P n r ops ivs T f (L.setIfInBounds i true) (put σ d (.pointer (some ⟨b, i₀ + off, none⟩))) w) : Any P n r ops ivs T (f + 1) L σ w := by
  refine A_val (v := .pointer (some ⟨b, i₀ + off, none⟩)) i hi hg (fun c e => by cases e) (fun w => ?_) hs h
  obtain ⟨fs, fd, h1, h2, h3, i', h4, h5⟩ := hf.field
  simp only [execOp, hx, Instr.fieldAt, Sem.run_bind, underlying, run_program, Result.andThen_ok, h1, Sem.run_pure, h2, Instr.sureAddr, fieldPlace]
  have hs : (sizeOf fd.type).run P w = .ok i' w := run_sizeOf' h4
  simp only [hs, Result.andThen_ok, if_neg h5, add_lit', h3, Sem.run_pure]

theorem A_load1 [Extra] {b i₀ E : Nat} {fz : Nat × Nat} {c : List Value} {v : Value} (i : Nat) (D : List Nat) (H : Holds w l) (hi : ops[i]? = some ⟨d, .load t x, u, p, af, g⟩) (hg : Wants ops σ ⟨d, .load t x, u, p, af, g⟩ true) (hx : ev σ x = .pointer (some ⟨b, i₀, none⟩)) [h1 : T1 P t] [ha : At b (.cells c.toArray E fz) l] (hv : c[i₀]? = some v)
    (hs : stB n ops (ivs.map (·.1)) L i D = true) (h : Any P n r ops ((D, fun w => w.heap[b]? = some (.cells c.toArray E fz)) :: ivs) T f (L.setIfInBounds i true) (put σ d v) w) : Any P n r ops ivs T (f + 1) L σ w :=
  A_read i D hi hg (fun c e => by cases e) (fun w hw => by simp only [execOp, hx, Instr.loadAt, Instr.sureAddr, Sem.run_bind, Sem.run_pure, Result.andThen_ok, run_loadVar1 (P := P) h1 hw hv]) hs h

theorem A_loadN [Extra] {b i₀ E k : Nat} {fz : Nat × Nat} {c vs : List Value} (i : Nat) (D : List Nat) (H : Holds w l) (hi : ops[i]? = some ⟨d, .load t x, u, p, af, g⟩) (hg : Wants ops σ ⟨d, .load t x, u, p, af, g⟩ true) (hx : ev σ x = .pointer (some ⟨b, i₀, none⟩)) [h1 : TN P t k] [ha : At b (.cells c.toArray E fz) l] (hv : Reads c i₀ k vs)
    (hs : stB n ops (ivs.map (·.1)) L i D = true) (h : Any P n r ops ((D, fun w => w.heap[b]? = some (.cells c.toArray E fz)) :: ivs) T f (L.setIfInBounds i true) (put σ d (.agg vs.toArray)) w) : Any P n r ops ivs T (f + 1) L σ w :=
  A_read i D hi hg (fun c e => by cases e) (fun w hw => by simp only [execOp, hx, Instr.loadAt, Instr.sureAddr, Sem.run_bind, Sem.run_pure, Result.andThen_ok, run_loadVarN (P := P) h1 hw hv]) hs h

theorem A_lookup [Extra] {ix : Operand} {ok : Bool} {key : A} {zv : Value} (i : Nat) (D : List Nat) (H : Holds w l) (hi : ops[i]? = some ⟨d, .lookup t x ix ok, u, p, af, g⟩) (hg : Wants ops σ ⟨d, .lookup t x ix ok, u, p, af, g⟩ true) (hx : ev σ x = .map (some b)) (hk : ev σ ix = ek key) (TK : TKey P kt ek) [hM : TMap P t kt et] [hz : TZero P et zv] [ha : AtM ek vv b m l]
    (hs : stB n ops (ivs.map (·.1)) L i D = true) (h : Any P n r ops ((D, fun w => mp ek vv b m (hp w)) :: ivs) T f (L.setIfInBounds i true) (put σ d (if ok then .tuple #[lookV zv vv (fnd m key), .bool (fnd m key).isSome] else lookV zv vv (fnd m key))) w) : Any P n r ops ivs T (f + 1) L σ w :=
  A_still i D hi ⟨_, hi, fun c e => (by cases e), .inl ⟨hg, fun w hw => by simp only [execOp, hx, hk, Sem.run_bind]; rw [run_lookup hM TK hz hw key ok]; rfl⟩⟩ hs h
end
end Go.SL
