/- Numbers of other kinds, strings, arrays, named results, for the walk. No condition. -/
import Derived.Test.YtdpephigccnkdaaDoorSlK
import Derived.Laws.IdiomStrings
import Derived.Lib.Bytealg
import Derived.Laws.Externs
import Derived.Laws.Slices
set_option linter.unusedVariables false
set_option linter.unusedSimpArgs false
set_option linter.unusedSectionVars false
namespace Go.SL

/-- The string of these bytes. -/
@[reducible] def str (l : List UInt8) : Value := .string ⟨l.toArray⟩
theorem str_data (s : ByteArray) : s = ⟨s.data.toList.toArray⟩ := by cases s; simp
theorem str_inj {a b : List UInt8} : (⟨a.toArray⟩ : ByteArray) = ⟨b.toArray⟩ ↔ a = b := by
  constructor
  · intro h
    have := congrArg (fun s => s.data.toList) h
    simpa using this
  · rintro rfl; rfl

section
variable {P : Program} {n : Nat} {r : Option Nat} {ops : Array Oper} {Q : Post} {ms : List Nat} {σ : Env} {w : World} {rest : List Oper} {o : Oper} {K : Env → World → Prop} {l l' : List HProp}
variable {ivs : List (List Nat × (World → Prop))} {T : Env → World → Prop} {f : Nat} {L : Array Bool}
variable {u t s : TypeId} {p : String} {af : Array Edge} {g : Option (Nat × Bool)} {d : Option Tmp} {x y z : Operand}

/-- Where a part of the code ends, one word serves for what is behind it. -/
theorem C_joinQ {c : Code} {Q : Post} (I : List Nat → Env → World → Prop) (h : C P n r c (fun e ms σ w => (e = .normal ∧ I ms σ w) ∨ (e ≠ .normal ∧ Q e ms σ w)) ms σ w) (k : ∀ ms σ w, I ms σ w → Q .normal ms σ w) : C P n r c Q ms σ w :=
  C_mono h fun e ms σ w q => by
    rcases q with ⟨rfl, q⟩ | ⟨_, q⟩
    · exact k _ _ _ q
    · exact q

/-! ### Integers of another kind -/

theorem run_convI {k k' q : IntKind} {i : Int} (hs : TInt P s k') (ht : TInt P t k) : (convert s t (.int q i)).run P w = .ok (.int k (k.wrap i)) w := by
  unfold convert
  simp only [Sem.run_bind, run_und hs.und, run_und ht.und, Result.andThen_ok, Conv.intToInt, Sem.run_pure]

theorem St_convI {k k' q : IntKind} {i : Int} [hs : TInt P s k'] [ht : TInt P t k] (hx : ev σ x = .int q i) (hd : okd n d = true) (h : K (put σ d (.int k (k.wrap i))) w) : St P n r ⟨d, .convert s t x, u, p, af, g⟩ σ w K :=
  St_value hd (fun c e => by cases e) (by simp only [execOp, hx, Sem.run_bind, run_convI hs ht, Result.andThen_ok, Sem.run_pure]) h

theorem A_convI {k k' q : IntKind} {i : Int} (j : Nat) (hj : ops[j]? = some ⟨d, .convert s t x, u, p, af, g⟩) (hg : Wants ops σ ⟨d, .convert s t x, u, p, af, g⟩ true) [hs : TInt P s k'] [ht : TInt P t k] (hx : ev σ x = .int q i)
    (hb : stB n ops (ivs.map (·.1)) L j [] = true) (h : Any P n r ops ivs T f (L.setIfInBounds j true) (put σ d (.int k (k.wrap i))) w) : Any P n r ops ivs T (f + 1) L σ w :=
  A_val j hj hg (fun c e => by cases e) (fun w => by simp only [execOp, hx, Sem.run_bind, run_convI hs ht, Result.andThen_ok, Sem.run_pure]) hb h

/-! ### Strings -/

theorem run_concat {a b : List UInt8} (h : a.length + b.length ≤ 9223372036854775807) (X Y : Operand) : (do eqGuard .add t X Y (str a) (str b); binOp .add t (str a) (str b) : Sem Value).run P w = .ok (str (a ++ b)) w := by
  have e : (⟨a.toArray⟩ ++ ⟨b.toArray⟩ : ByteArray) = ⟨(a ++ b).toArray⟩ := by
    apply ByteArray.ext
    simp
  have hs : ¬ ((((⟨a.toArray⟩ : ByteArray).size + (⟨b.toArray⟩ : ByteArray).size : Nat) : Int) > IntKind.i64.max) := by
    have h1 : (⟨a.toArray⟩ : ByteArray).size = a.length := by simp [ByteArray.size]
    have h2 : (⟨b.toArray⟩ : ByteArray).size = b.length := by simp [ByteArray.size]
    rw [h1, h2]
    simp [IntKind.max, IntKind.signed, IntKind.bits]
    omega
  simp only [eqGuard, binOp, Op.stringOp, if_neg hs, e]
  rfl

theorem St_concat {a b : List UInt8} {yt : TypeId} (hx : ev σ x = str a) (hy : ev σ y = str b) (hl : a.length + b.length ≤ 9223372036854775807) (hd : okd n d = true) (h : K (put σ d (str (a ++ b))) w) : St P n r ⟨d, .binOp .add t x y yt, u, p, af, g⟩ σ w K :=
  St_value hd (fun c e => by cases e) (by simp only [execOp, hx, hy, Sem.run_bind]; rw [← Sem.run_bind, run_concat hl x y]; rfl) h

theorem A_concat {a b : List UInt8} {yt : TypeId} (j : Nat) (hj : ops[j]? = some ⟨d, .binOp .add t x y yt, u, p, af, g⟩) (hg : Wants ops σ ⟨d, .binOp .add t x y yt, u, p, af, g⟩ true) (hx : ev σ x = str a) (hy : ev σ y = str b) (hl : a.length + b.length ≤ 9223372036854775807)
    (hb : stB n ops (ivs.map (·.1)) L j [] = true) (h : Any P n r ops ivs T f (L.setIfInBounds j true) (put σ d (str (a ++ b))) w) : Any P n r ops ivs T (f + 1) L σ w :=
  A_val j hj hg (fun c e => by cases e) (fun w => by simp only [execOp, hx, hy, Sem.run_bind]; rw [← Sem.run_bind, run_concat hl x y]; rfl) hb h

theorem str_get {a : List UInt8} {i : Nat} : (⟨a.toArray⟩ : ByteArray)[i]? = a[i]? := by
  have h1 : (⟨a.toArray⟩ : ByteArray).size = a.length := by simp [ByteArray.size]
  by_cases h : i < a.length
  · rw [getElem?_pos (⟨a.toArray⟩ : ByteArray) i (by rw [h1]; exact h), List.getElem?_eq_getElem h]
    rfl
  · rw [getElem?_neg (⟨a.toArray⟩ : ByteArray) i (by rw [h1]; exact h), List.getElem?_eq_none (by omega)]

theorem run_indexStr {a : List UInt8} {q : IntKind} {i : Int} {b : UInt8} (ht : TString P t) (h0 : 0 ≤ i) (hi : a[i.toNat]? = some b) : (Instr.index t (str a) (.int q i)).run P w = .ok (.int .u8 b.toNat) w := by
  unfold Instr.index
  simp only [asIntOf, Sem.run_bind, Sem.run_pure, Result.andThen_ok, run_und ht.und, if_pos h0, str_get, hi]

theorem St_indexStr {a : List UInt8} {q : IntKind} {i : Int} {b : UInt8} [ht : TString P t] (hx : ev σ x = str a) (hy : ev σ y = .int q i) (h0 : 0 ≤ i) (hi : a[i.toNat]? = some b) (hd : okd n d = true) (h : K (put σ d (.int .u8 b.toNat)) w) : St P n r ⟨d, .index t x y, u, p, af, g⟩ σ w K :=
  St_value hd (fun c e => by cases e) (by simp only [execOp, hx, hy, Sem.run_bind, run_indexStr ht h0 hi, Result.andThen_ok, Sem.run_pure]) h

theorem A_indexStr {a : List UInt8} {q : IntKind} {i : Int} {b : UInt8} (j : Nat) (hj : ops[j]? = some ⟨d, .index t x y, u, p, af, g⟩) (hg : Wants ops σ ⟨d, .index t x y, u, p, af, g⟩ true) [ht : TString P t] (hx : ev σ x = str a) (hy : ev σ y = .int q i) (h0 : 0 ≤ i) (hi : a[i.toNat]? = some b)
    (hb : stB n ops (ivs.map (·.1)) L j [] = true) (h : Any P n r ops ivs T f (L.setIfInBounds j true) (put σ d (.int .u8 b.toNat)) w) : Any P n r ops ivs T (f + 1) L σ w :=
  A_val j hj hg (fun c e => by cases e) (fun w => by simp only [execOp, hx, hy, Sem.run_bind, run_indexStr ht h0 hi, Result.andThen_ok, Sem.run_pure]) hb h

theorem size_str (a : List UInt8) : (⟨a.toArray⟩ : ByteArray).size = a.length := by simp [ByteArray.size]

theorem run_strFrom {a : List UInt8} {q : IntKind} {i : Int} (ht : TString P t) (h0 : 0 ≤ i) (hi : i ≤ a.length) : (Instr.sliceAt t (str a) (some (.int q i)) none none).run P w = .ok (str (a.drop i.toNat)) w := by
  unfold Instr.sliceAt
  simp only [Sem.run_bind, run_und ht.und, Result.andThen_ok]
  rw [run_slice_string_l w t ⟨a.toArray⟩ ht.und q i h0 (by rw [size_str]; exact hi)]
  rw [Lib.extract_eq, size_str]
  have : (a.drop i.toNat).take (a.length - i.toNat) = a.drop i.toNat := List.take_of_length_le (by simp)
  simp only [this]

theorem run_strTo {a : List UInt8} {q : IntKind} {i : Int} (ht : TString P t) (h0 : 0 ≤ i) (hi : i ≤ a.length) : (Instr.sliceAt t (str a) none (some (.int q i)) none).run P w = .ok (str (a.take i.toNat)) w := by
  unfold Instr.sliceAt
  simp only [Sem.run_bind, run_und ht.und, Result.andThen_ok]
  rw [run_slice_string_h w t ⟨a.toArray⟩ ht.und q i h0 (by rw [size_str]; exact hi)]
  rw [Lib.extract_eq]
  simp

theorem St_strFrom {a : List UInt8} {q : IntKind} {i : Int} [ht : TString P t] (hx : ev σ x = str a) (hy : ev σ y = .int q i) (h0 : 0 ≤ i) (hi : i ≤ a.length) (hd : okd n d = true) (h : K (put σ d (str (a.drop i.toNat))) w) : St P n r ⟨d, .slice t x (some y) none none, u, p, af, g⟩ σ w K :=
  St_value hd (fun c e => by cases e) (by simp only [execOp, hx, hy, Option.map_some, Option.map_none, Sem.run_bind, run_strFrom ht h0 hi, Result.andThen_ok, Sem.run_pure]) h

theorem St_strTo {a : List UInt8} {q : IntKind} {i : Int} [ht : TString P t] (hx : ev σ x = str a) (hy : ev σ y = .int q i) (h0 : 0 ≤ i) (hi : i ≤ a.length) (hd : okd n d = true) (h : K (put σ d (str (a.take i.toNat))) w) : St P n r ⟨d, .slice t x none (some y) none, u, p, af, g⟩ σ w K :=
  St_value hd (fun c e => by cases e) (by simp only [execOp, hx, hy, Option.map_some, Option.map_none, Sem.run_bind, run_strTo ht h0 hi, Result.andThen_ok, Sem.run_pure]) h

theorem A_strFrom {a : List UInt8} {q : IntKind} {i : Int} (j : Nat) (hj : ops[j]? = some ⟨d, .slice t x (some y) none none, u, p, af, g⟩) (hg : Wants ops σ ⟨d, .slice t x (some y) none none, u, p, af, g⟩ true) [ht : TString P t] (hx : ev σ x = str a) (hy : ev σ y = .int q i) (h0 : 0 ≤ i) (hi : i ≤ a.length)
    (hb : stB n ops (ivs.map (·.1)) L j [] = true) (h : Any P n r ops ivs T f (L.setIfInBounds j true) (put σ d (str (a.drop i.toNat))) w) : Any P n r ops ivs T (f + 1) L σ w :=
  A_val j hj hg (fun c e => by cases e) (fun w => by simp only [execOp, hx, hy, Option.map_some, Option.map_none, Sem.run_bind, run_strFrom ht h0 hi, Result.andThen_ok, Sem.run_pure]) hb h

theorem A_strTo {a : List UInt8} {q : IntKind} {i : Int} (j : Nat) (hj : ops[j]? = some ⟨d, .slice t x none (some y) none, u, p, af, g⟩) (hg : Wants ops σ ⟨d, .slice t x none (some y) none, u, p, af, g⟩ true) [ht : TString P t] (hx : ev σ x = str a) (hy : ev σ y = .int q i) (h0 : 0 ≤ i) (hi : i ≤ a.length)
    (hb : stB n ops (ivs.map (·.1)) L j [] = true) (h : Any P n r ops ivs T f (L.setIfInBounds j true) (put σ d (str (a.take i.toNat))) w) : Any P n r ops ivs T (f + 1) L σ w :=
  A_val j hj hg (fun c e => by cases e) (fun w => by simp only [execOp, hx, hy, Option.map_some, Option.map_none, Sem.run_bind, run_strTo ht h0 hi, Result.andThen_ok, Sem.run_pure]) hb h

theorem St_lenStr {a : List UInt8} [hT : TString P t] (hx : ev σ x = str a) (hd : okd n d = true) (k : K (put σ d (.int .i64 a.length)) w) :
    St P n r ⟨d, .call { callee := .builtin .len, args := #[x], argTypes := #[t] }, u, p, af, g⟩ σ w K := St_lenString hx hd (by rw [size_str]; exact k)

theorem A_lenStr {a : List UInt8} (j : Nat) (hj : ops[j]? = some ⟨d, .call { callee := .builtin .len, args := #[x], argTypes := #[t] }, u, p, af, g⟩) (hg : Wants ops σ ⟨d, .call { callee := .builtin .len, args := #[x], argTypes := #[t] }, u, p, af, g⟩ true) [hT : TString P t] (hx : ev σ x = str a)
    (hs : stB n ops (ivs.map (·.1)) L j [] = true) (h : Any P n r ops ivs T f (L.setIfInBounds j true) (put σ d (.int .i64 a.length)) w) : Any P n r ops ivs T (f + 1) L σ w :=
  A_lenString j hj hg hx hs (by rw [size_str]; exact h)

theorem St_eqS {op : BinOp} {yt : TypeId} {a b : List UInt8} [hT : TString P t] (hx : ev σ x = str a) (hy : ev σ y = str b) (ho : op = .eql ∨ op = .neq) (hd : okd n d = true)
    (k : K (put σ d (.bool (if isEql op then decide (a = b) else !decide (a = b)))) w) : St P n r ⟨d, .binOp op t x y yt, u, p, af, g⟩ σ w K :=
  St_eqStr hx hy ho hd (by rw [show decide ((⟨a.toArray⟩ : ByteArray) = ⟨b.toArray⟩) = decide (a = b) from decide_eq_decide.2 str_inj]; exact k)

theorem A_eqS {op : BinOp} {yt : TypeId} {a b : List UInt8} (j : Nat) (hj : ops[j]? = some ⟨d, .binOp op t x y yt, u, p, af, g⟩) (hg : Wants ops σ ⟨d, .binOp op t x y yt, u, p, af, g⟩ true) [hT : TString P t] (hx : ev σ x = str a) (hy : ev σ y = str b) (ho : op = .eql ∨ op = .neq)
    (hs : stB n ops (ivs.map (·.1)) L j [] = true) (h : Any P n r ops ivs T f (L.setIfInBounds j true) (put σ d (.bool (if isEql op then decide (a = b) else !decide (a = b)))) w) : Any P n r ops ivs T (f + 1) L σ w :=
  A_eqStr j hj hg hx hy ho hs (by rw [show decide ((⟨a.toArray⟩ : ByteArray) = ⟨b.toArray⟩) = decide (a = b) from decide_eq_decide.2 str_inj]; exact h)

theorem run_toStr {e blk o2 len cap E : Nat} {fz : Nat × Nat} {c : List Value} {a : List UInt8} (hs : P.underlying s = some (.slice e)) (he : P.underlying e = some (.int .u8)) (ht : TString P t) (hb : w.heap[blk]? = some (.cells c.toArray E fz)) (hl : len = a.length)
    (hr : Reads c o2 len (a.map fun b => Value.int .u8 b.toNat)) : (convert s t (.slice (some ⟨blk, o2, none⟩) len cap)).run P w = .ok (str a) w := by
  subst hl
  exact run_convert_bytes_back w s t e ⟨blk, o2, none⟩ cap a hs he ht.und fun j hj => by
    rw [add_lit']
    refine cell_row hb (hr.get j _ ?_)
    rw [List.getElem?_map, List.getElem?_eq_getElem hj]
    rfl

/-- 'string(bytes)'. -/
theorem St_toStr [Extra] {e size bytes blk o2 len cap E : Nat} {fz : Nat × Nat} {c : List Value} {a : List UInt8} (H : Holds w l) [hS : TSlice P s e size bytes] [hE : TInt P e .u8] [ht : TString P t] (hx : ev σ x = .slice (some ⟨blk, o2, none⟩) len cap) [ha : At blk (.cells c.toArray E fz) l] (hl : len = a.length)
    (hr : Reads c o2 len (a.map fun b => Value.int .u8 b.toNat)) (hd : okd n d = true) (k : K (put σ d (str a)) w) : St P n r ⟨d, .convert s t x, u, p, af, g⟩ σ w K :=
  St_value hd (fun c e => by cases e) (by simp only [execOp, hx, Sem.run_bind, run_toStr hS.und hE.und ht (ha.get _ H.1) hl hr, Result.andThen_ok, Sem.run_pure]) k

/-! ### Arrays -/

theorem run_indexArr {len e size b o2 : Nat} {q : IntKind} {i : Int} (hT : TArr P t len e size) (h0 : 0 ≤ i) (h1 : i < len) :
    (Instr.indexAt t (.pointer (some ⟨b, o2, none⟩)) (.int q i)).run P w = .ok (.pointer (some ⟨b, o2 + i.toNat * size, none⟩)) w := by
  unfold Instr.indexAt
  simp only [asIntOf, Sem.run_bind, Sem.run_pure, Result.andThen_ok, run_und hT.und, Instr.sureAddr]
  simp [h0, h1, run_sizeOf' hT.info, add_lit']

theorem St_indexArr {len e size b o2 : Nat} {q : IntKind} {i : Int} [hT : TArr P t len e size] (hx : ev σ x = .pointer (some ⟨b, o2, none⟩)) (hi : ev σ y = .int q i) (h0 : 0 ≤ i) (h1 : i < len) (hd : okd n d = true)
    (k : K (put σ d (.pointer (some ⟨b, o2 + i.toNat * size, none⟩))) w) : St P n r ⟨d, .indexAddr t x y, u, p, af, g⟩ σ w K :=
  St_value hd (fun c e => by cases e) (by simp only [execOp, hx, hi, Sem.run_bind, run_indexArr hT h0 h1, Result.andThen_ok, Sem.run_pure]) k

theorem A_indexArr {len e size b o2 : Nat} {q : IntKind} {i : Int} (j : Nat) (hj : ops[j]? = some ⟨d, .indexAddr t x y, u, p, af, g⟩) (hg : Wants ops σ ⟨d, .indexAddr t x y, u, p, af, g⟩ true) [hT : TArr P t len e size] (hx : ev σ x = .pointer (some ⟨b, o2, none⟩)) (hi : ev σ y = .int q i) (h0 : 0 ≤ i) (h1 : i < len)
    (hs : stB n ops (ivs.map (·.1)) L j [] = true) (h : Any P n r ops ivs T f (L.setIfInBounds j true) (put σ d (.pointer (some ⟨b, o2 + i.toNat * size, none⟩))) w) : Any P n r ops ivs T (f + 1) L σ w :=
  A_val j hj hg (fun c e => by cases e) (fun w => by simp only [execOp, hx, hi, Sem.run_bind, run_indexArr hT h0 h1, Result.andThen_ok, Sem.run_pure]) hs h

/-! ### A slice, and nil -/

theorem run_eqSliceNil {e size bytes len cap : Nat} {a : Option Addr} (hT : TSlice P t e size bytes) (op : BinOp) (X Y : Operand) (ho : op = .eql ∨ op = .neq) :
    (do eqGuard op t X Y (.slice a len cap) (.slice none 0 0); binOp op t (.slice a len cap) (.slice none 0 0) : Sem Value).run P w = .ok (.bool (if isEql op then a.isNone else a.isSome)) w := by
  have h1 : (Op.equal t (.slice a len cap) (.slice none 0 0)).run P w = .ok a.isNone w := by
    unfold Op.equal Op.maxDepth Op.equalIn
    simp only [Sem.run_bind, run_und hT.und, Result.andThen_ok]
    cases a <;> rfl
  rcases ho with rfl | rfl
  · simp [eqGuard, binOp, h1, isEql]
  · simp [eqGuard, binOp, h1, isEql]

theorem St_eqSliceNil {op : BinOp} {yt : TypeId} {e size bytes len cap : Nat} {a : Option Addr} [hT : TSlice P t e size bytes] (hx : ev σ x = .slice a len cap) (hy : ev σ y = .slice none 0 0) (ho : op = .eql ∨ op = .neq) (hd : okd n d = true)
    (k : K (put σ d (.bool (if isEql op then a.isNone else a.isSome))) w) : St P n r ⟨d, .binOp op t x y yt, u, p, af, g⟩ σ w K :=
  St_value hd (fun c e => by cases e) (by simp only [execOp, hx, hy, Sem.run_bind]; rw [← Sem.run_bind, run_eqSliceNil hT op x y ho]; rfl) k

/-! ### Named results -/

inductive ResAt (P : Program) (σ : Env) (w : World) : List ResultVar → List Value → Prop
  | nil : ResAt P σ w [] []
  | tmp {t : Tmp} {rs : List ResultVar} {vs : List Value} (h : ResAt P σ w rs vs) : ResAt P σ w (.tmp t :: rs) (σ t :: vs)
  | cell {a : Tmp} {t : TypeId} {b i : Nat} {v : Value} {rs : List ResultVar} {vs : List Value} (ha : σ a = .pointer (some ⟨b, i, none⟩)) (hv : (loadVar t ⟨b, i, none⟩).run P w = .ok v w) (h : ResAt P σ w rs vs) : ResAt P σ w (.cell a t :: rs) (v :: vs)

theorem run_mapM_at {G : ResultVar → Sem Value} (h1 : ∀ t, G (.tmp t) = pure (σ t)) (h2 : ∀ a t, G (.cell a t) = (do loadVar t (← asAddr (σ a)))) : ∀ {rs : List ResultVar} {vs : List Value}, ResAt P σ w rs vs → (rs.mapM G).run P w = .ok vs w
  | _, _, .nil => rfl
  | _, _, .tmp h => by
    rw [List.mapM_cons, h1]
    have ih := run_mapM_at h1 h2 h
    simp only [Sem.run_bind, ih, Result.andThen, Sem.run_pure]
  | _, _, .cell ha hv h => by
    rw [List.mapM_cons, h2, ha]
    have ih := run_mapM_at h1 h2 h
    simp only [asAddr, Sem.run_bind, Sem.run_pure, Result.andThen, hv, ih]

theorem results_at {fn : Func} {a : Act} {vs : List Value} (ra : Rel n ms σ a) (h : ResAt P σ w fn.results.toList vs) : (results fn a.tmps).run P w = .ok (resV vs) w := by
  unfold results
  rw [← Array.toArray_toList (xs := fn.results), List.mapM_toArray]
  simp only [Sem.run_bind, Sem.run_map]
  rw [run_mapM_at (σ := σ) (fun t => by simp only [ra.val]) (fun a t => by simp only [ra.val]) h]
  simp only [Result.andThen]
  cases vs with
  | nil => rfl
  | cons v vs => cases vs <;> rfl

/-- The end of a function whose results lie in cells. -/
theorem fn_endC [Extra] {fn : Func} {R : Value → World → Prop} {e : Exit} {vs : List Value} (l : List HProp) (he : e = .normal ∨ e = .ret) (H : Holds w l)
    (hv : ∀ w', Holds w' l → ResAt P σ w' fn.results.toList vs) (hR : ∀ w', Holds w' l → R (resV vs) w') : fnPost P n fn R e [] σ w :=
  ⟨he, .inl ⟨l, mk_nil H, fun w' H' a ra => ⟨_, results_at ra (hv w' H'), hR w' H'⟩⟩⟩

theorem ResAt.cellN [Extra] {a : Tmp} {t : TypeId} {b i E m : Nat} {fz : Nat × Nat} {c vs : List Value} {rs : List ResultVar} {us : List Value} (H : Holds w l) (ha : σ a = .pointer (some ⟨b, i, none⟩)) [h1 : TN P t m] [hA : At b (.cells c.toArray E fz) l] (hv : Reads c i m vs) (h : ResAt P σ w rs us) : ResAt P σ w (.cell a t :: rs) (.agg vs.toArray :: us) :=
  .cell ha (run_loadVarN (P := P) h1 (hA.get _ H.1) hv) h
theorem ResAt.cell1 [Extra] {a : Tmp} {t : TypeId} {b i E : Nat} {fz : Nat × Nat} {c : List Value} {v : Value} {rs : List ResultVar} {us : List Value} (H : Holds w l) (ha : σ a = .pointer (some ⟨b, i, none⟩)) [h1 : T1 P t] [hA : At b (.cells c.toArray E fz) l] (hv : c[i]? = some v) (h : ResAt P σ w rs us) : ResAt P σ w (.cell a t :: rs) (v :: us) :=
  .cell ha (run_loadVar1 (P := P) h1 (hA.get _ H.1) hv) h

/-! ### Functions that the model carries out itself -/

class TExt (P : Program) (F : FuncId) (e : outParam (Array Value → Sem Value)) : Prop where
  run : ∃ fn, P.funcs[F]? = some fn ∧ (fn.name == "runtime.NumGoroutine") = false ∧ fn.body.isNone = true ∧ Extern.findNext fn = none ∧ Extern.find fn = some e

theorem run_ext {F : FuncId} {e : Array Value → Sem Value} [h : TExt P F e] {args : Array Value} {v : Value} {w' : World} (hr : (e args).run P w = .ok v w') : (callFunc F args).run P w = .ok (.value v) w' := by
  obtain ⟨fn, h1, h2, h3, h4, h5⟩ := h.run
  rw [run_callFunc_extern h1 h2 h3 h4 h5, hr]
  rfl

theorem St_ext {F : FuncId} {xs : List Operand} {ts : Array TypeId} {v : Value} {w' : World} {e : Array Value → Sem Value} [h : TExt P F e] (hx : ev σ x = .func (.func F) #[] #[]) (hr : (e (xs.map (ev σ)).toArray).run P w = .ok v w') (hd : okd n d = true)
    (k : K (put σ d v) w') : St P n r ⟨d, .call { callee := .value x, args := xs.toArray, argTypes := ts }, u, p, af, g⟩ σ w K := by
  refine St_value (v := v) (w' := w') hd (fun c e => by cases e) ?_ k
  have hr' := run_ext (P := P) (F := F) hr
  simp only [execOp, resolve, hx, Deferred.ofValue, Sem.run_bind, Sem.run_pure, Result.andThen_ok, invoke]
  rw [← hr']
  simp
end
end Go.SL
