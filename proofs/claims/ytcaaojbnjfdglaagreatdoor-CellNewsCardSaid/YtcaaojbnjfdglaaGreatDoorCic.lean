/- Cells: what is proved on the way: every input of the statement; no condition. Texts joined: SlG SlH SlK SlL. -/
import Derived.Test.YtcaaojbnjfdglaaGreatDoorCib
import Derived.Laws.AppendOwn
import Derived.Laws.Tables
import Derived.Great.BuildSlice
import Derived.RangeFuncIn
import Derived.RangeFuncRecord
import Derived.Laws.IdiomRangeMap
import Derived.Laws.IdiomStrings
import Derived.Lib.Bytealg
import Derived.Laws.Externs
import Derived.Laws.Slices
set_option linter.unusedVariables false
set_option linter.unusedSimpArgs false
set_option linter.unusedSectionVars false
namespace Go.SL

section
variable {P : Program} {n : Nat} {r : Option Nat} {ops : Array Oper} {Q : Post} {ms : List Nat} {σ : Env} {w : World} {rest : List Oper} {o : Oper} {K : Env → World → Prop} {l l' : List HProp}
variable {ivs : List (List Nat × (World → Prop))} {T : Env → World → Prop} {f : Nat} {L : Array Bool}
variable {u t : TypeId} {p : String} {af : Array Edge} {g : Option (Nat × Bool)} {d : Option Tmp} {x y z : Operand}

/-! ### Where an element is; how many there are -/

theorem run_indexAddr {e size bytes b o len cap : Nat} {q : IntKind} {i : Int} (hT : TSlice P t e size bytes) (h0 : 0 ≤ i) (h1 : i < len) :
    (Instr.indexAt t (.slice (some ⟨b, o, none⟩) len cap) (.int q i)).run P w = .ok (.pointer (some ⟨b, o + i.toNat * size, none⟩)) w := by
  have hs : (sizeOf e).run P w = .ok size w := by
    obtain ⟨k, hk, e2⟩ := Option.map_eq_some_iff.1 hT.info
    simp only [Prod.mk.injEq] at e2
    exact run_sizeOf' (by rw [hk]; simp [e2.1])
  unfold Instr.indexAt
  simp only [asIntOf, Sem.run_bind, Sem.run_pure, Result.andThen_ok, run_und hT.und]
  simp [h0, h1, hs, add_lit']

theorem St_indexAddr {e size bytes b o len cap : Nat} {q : IntKind} {i : Int} {ix : Operand} [hT : TSlice P t e size bytes] (hx : ev σ x = .slice (some ⟨b, o, none⟩) len cap) (hi : ev σ ix = .int q i) (h0 : 0 ≤ i) (h1 : i < len) (hd : okd n d = true)
    (k : K (put σ d (.pointer (some ⟨b, o + i.toNat * size, none⟩))) w) : St P n r ⟨d, .indexAddr t x ix, u, p, af, g⟩ σ w K :=
  St_value hd (fun c e => by cases e) (by simp only [execOp, hx, hi, Sem.run_bind, run_indexAddr hT h0 h1, Result.andThen_ok, Sem.run_pure]) k

theorem A_indexAddr {e size bytes b o len cap : Nat} {q : IntKind} {i : Int} {ix : Operand} (j : Nat) (hj : ops[j]? = some ⟨d, .indexAddr t x ix, u, p, af, g⟩) (hg : Wants ops σ ⟨d, .indexAddr t x ix, u, p, af, g⟩ true) [hT : TSlice P t e size bytes] (hx : ev σ x = .slice (some ⟨b, o, none⟩) len cap) (hi : ev σ ix = .int q i) (h0 : 0 ≤ i) (h1 : i < len)
    (hs : stB n ops (ivs.map (·.1)) L j [] = true) (h : Any P n r ops ivs T f (L.setIfInBounds j true) (put σ d (.pointer (some ⟨b, o + i.toNat * size, none⟩))) w) : Any P n r ops ivs T (f + 1) L σ w :=
  A_val j hj hg (fun c e => by cases e) (fun w => by simp only [execOp, hx, hi, Sem.run_bind, run_indexAddr hT h0 h1, Result.andThen_ok, Sem.run_pure]) hs h

theorem run_lenSlice {e size bytes len cap : Nat} {a : Option Addr} (hT : TSlice P t e size bytes) (ty : TypeId) : (Builtin.len_ #[t] ty #[.slice a len cap]).run P w = .ok (.int .i64 len) w := by
  unfold Builtin.len_
  simp only [Sem.run_bind, run_und hT.und, Result.andThen_ok, Sem.run_pure, List.getElem?_toArray, List.getElem?_cons_zero, goInt]

theorem St_lenSlice {e size bytes len cap : Nat} {a : Option Addr} [hT : TSlice P t e size bytes] (hx : ev σ x = .slice a len cap) (hd : okd n d = true) (k : K (put σ d (.int .i64 len)) w) :
    St P n r ⟨d, .call { callee := .builtin .len, args := #[x], argTypes := #[t] }, u, p, af, g⟩ σ w K := by
  refine St_value (v := .int .i64 len) (w' := w) hd (fun c e => by cases e) ?_ k
  simp [execOp, resolve, invoke, builtin, hx, run_lenSlice (P := P) (w := w) hT u]

theorem A_lenSlice {e size bytes len cap : Nat} {a : Option Addr} (j : Nat) (hj : ops[j]? = some ⟨d, .call { callee := .builtin .len, args := #[x], argTypes := #[t] }, u, p, af, g⟩) (hg : Wants ops σ ⟨d, .call { callee := .builtin .len, args := #[x], argTypes := #[t] }, u, p, af, g⟩ true) [hT : TSlice P t e size bytes] (hx : ev σ x = .slice a len cap)
    (hs : stB n ops (ivs.map (·.1)) L j [] = true) (h : Any P n r ops ivs T f (L.setIfInBounds j true) (put σ d (.int .i64 len)) w) : Any P n r ops ivs T (f + 1) L σ w :=
  A_val (v := .int .i64 len) j hj hg (fun c e => by cases e) (fun w => by simp [execOp, resolve, invoke, builtin, hx, run_lenSlice (P := P) (w := w) hT u]) hs h

/-! ### Owned slices -/

/-- v is a slice, from its block's first cell on, of these cells; what is behind them is nobody else's. Or nil. -/
def sls (E k : Nat) (v : Value) (c : List Value) : HProp := fun h =>
  (v = .slice none 0 0 ∧ c = []) ∨ ∃ b len cap spare, v = .slice (some ⟨b, 0, none⟩) len cap ∧ h b = some (row E (c ++ spare)) ∧ c.length = len * k ∧ (len ≤ cap ∧ cap ≤ 9223372036854775807) ∧ spare.length = (cap - len) * k

theorem cellsL_eq (v : Value) : v.cells.size = (cellsL v).length := by rw [cells_eq]; simp

theorem sls_case [Extra] {E k : Nat} {v : Value} {c : List Value} (H : Holds w (sls E k v c :: l)) :
    (v = .slice none 0 0 ∧ c = [] ∧ Holds w l) ∨ ∃ b len cap spare, v = .slice (some ⟨b, 0, none⟩) len cap ∧ c.length = len * k ∧ (len ≤ cap ∧ cap ≤ 9223372036854775807) ∧ spare.length = (cap - len) * k ∧ Holds w (pts b (row E (c ++ spare)) :: l) := by
  obtain ⟨⟨f, g, a, b, d, x, y⟩, ok⟩ := H
  rcases x with ⟨e1, e2⟩ | ⟨bb, len, cap, spare, e1, e2, e3, e4, e5⟩
  · exact .inl ⟨e1, e2, sat_up b y, ok⟩
  · exact .inr ⟨bb, len, cap, spare, e1, e3, e4, e5, ⟨f, g, a, b, d, e2, y⟩, ok⟩

theorem sls_nil [Extra] {E k : Nat} (H : Holds w l) : Holds w (sls E k (.slice none 0 0) [] :: l) :=
  ⟨⟨fun _ => none, hp w, fun _ _ e => (by cases e), Sub.rfl' _, fun _ _ _ e => (by cases e), .inl ⟨rfl, rfl⟩, H.1⟩, H.2⟩

theorem sls_of [Extra] {E k b len cap : Nat} {c spare : List Value} (h1 : c.length = len * k) (h2 : len ≤ cap ∧ cap ≤ 9223372036854775807) (h3 : spare.length = (cap - len) * k) (H : Holds w (pts b (row E (c ++ spare)) :: l)) : Holds w (sls E k (.slice (some ⟨b, 0, none⟩) len cap) c :: l) :=
  H.head fun h e => .inr ⟨b, len, cap, spare, rfl, e, h1, h2, h3⟩

/-- What an append of the cells 'new' (m elements) leaves. -/
theorem run_append [Extra] {e size bytes : Nat} {zv : Value} (hT : TSlice P t e size bytes) (hz : TZero P e zv) (hzl : (cellsL zv).length = size) (hsz : 0 < size) (hby : 0 < bytes) {s : Value} {cs new : List Value} {m c : Nat} {a : Addr} {l : List HProp} (H : Holds w (sls e size s cs :: l))
    (ty : TypeId) (hm : 0 < m) (hnl : new.length = m * size) (hnews : ∀ j v, new[j]? = some v → w.cell? (a.add j) = some v) (h1 : ∀ v ∈ new, v.oneCell' = true)
    (hb : (cs.length + new.length) * bytes ≤ 140737488355328) :
    ∃ v' w', (Builtin.append_ #[t, t] ty #[s, .slice (some a) m c]).run P w = .ok v' w' ∧ Holds w' (sls e size v' (cs ++ new) :: l) := by
  obtain ⟨i, hi, e2⟩ := Option.map_eq_some_iff.1 hT.info
  simp only [Prod.mk.injEq] at e2
  obtain ⟨i1, i2⟩ := e2
  obtain ⟨i', hi', hz'⟩ := Option.map_eq_some_iff.1 hz.zero
  have : i' = i := by rw [hi] at hi'; cases hi'; rfl
  subst this
  have hzc : zv.cells.size = size := by rw [cellsL_eq, hzl]
  have mb : ∀ k, k ≤ k * size := fun k => Nat.le_mul_of_pos_right k hsz
  have bb : ∀ k, k ≤ k * bytes := fun k => Nat.le_mul_of_pos_right k hby
  have hnb : m * bytes ≤ new.length * bytes := Nat.mul_le_mul_right _ (by rw [hnl]; exact mb m)
  have hspl : (cs.length + new.length) * bytes = cs.length * bytes + new.length * bytes := Nat.add_mul _ _ _
  rcases sls_case H with ⟨rfl, rfl, H2⟩ | ⟨b, len, cap, spare, rfl, e3, e4, e5, H2⟩
  · have hr := run_append_nil (P := P) w t ty e i' zv hT.und hi hz' a m c new (by rw [i1]; exact hnl) hnews hm (by have := bb m; omega) (by rw [i2]; omega)
    refine ⟨_, _, hr, ?_⟩
    have hg : m ≤ grownCap w m 0 e ∧ grownCap w m 0 e ≤ 9223372036854775807 := ⟨grownCap_ge w m 0 e, grownCap_le_maxLen w m 0 e (by have := bb m; unfold maxLen; omega)⟩
    refine sls_of (spare := (Builtin.zeroCells zv.cells (grownCap w m 0 e - m)).toList) (by simpa using hnl) hg (by simp [size_zeroCells, hzc]) ?_
    have H' : Holds w.drew l := H2.heap rfl
    have := H'.new (.cells (new.toArray ++ Builtin.zeroCells zv.cells (grownCap w m 0 e - m)) e (0, 0))
    refine this.head fun h x => ?_
    have e : new.toArray ++ Builtin.zeroCells zv.cells (grownCap w m 0 e - m) = ([] ++ new ++ (Builtin.zeroCells zv.cells (grownCap w m 0 e - m)).toList).toArray := by apply Array.ext'; simp
    rw [e] at x
    exact x
  · have hbk := H2.pts
    have hlen : len * bytes ≤ cs.length * bytes := Nat.mul_le_mul_right _ (by rw [e3]; exact mb len)
    by_cases hroom : len + m ≤ cap
    · have hsp : m * size ≤ spare.length := by rw [e5]; exact Nat.mul_le_mul_right _ (by omega)
      have hr := run_append_room (P := P) w t ty e i' hT.und hi b len cap (cs ++ spare).toArray hbk a m c new (by rw [i1]; exact hnl) hnews h1 hroom (by
        simp only [List.size_toArray, List.length_append, i1, e3, hnl]; omega)
      refine ⟨_, _, hr, ?_⟩
      refine sls_of (spare := spare.drop new.length) (by simp [e3, hnl, Nat.add_mul]) ⟨hroom, e4.2⟩ ?_ ?_
      · simp only [List.length_drop, e5, hnl, ← Nat.sub_mul]; congr 1; omega
      · have hh := setRow_heap w b (cs ++ spare).toArray ((cs ++ spare).toArray.toList.take (len * i'.size) ++ new ++ (cs ++ spare).toArray.toList.drop (len * i'.size + new.length)).toArray e _ hbk
        refine (H2.set hh (fun k hk => setRow_other w b k _ hk)).head fun h x => ?_
        have e : (cs ++ spare).toArray.toList.take (len * i'.size) ++ new ++ (cs ++ spare).toArray.toList.drop (len * i'.size + new.length) = cs ++ new ++ spare.drop new.length := by
          rw [i1, ← e3]
          show (cs ++ spare).take cs.length ++ new ++ (cs ++ spare).drop (cs.length + new.length) = _
          rw [List.take_left, ← List.drop_drop, List.drop_left]
        rw [e] at x
        exact x
    · have holds : ∀ j u, cs[j]? = some u → w.cell? ((⟨b, 0, none⟩ : Addr).add j) = some u := fun j u hj => by
        rw [add_lit']
        refine cell_row hbk ?_
        rw [Nat.zero_add, List.getElem?_append_left ((List.getElem?_eq_some_iff.1 hj).1)]
        exact hj
      have hadd : (len + m) * bytes = len * bytes + m * bytes := Nat.add_mul _ _ _
      have hr := run_append_grow (P := P) w t ty e i' zv hT.und hi hz' ⟨b, 0, none⟩ len cap cs (by rw [i1]; exact e3) holds a m c new (by rw [i1]; exact hnl) hnews (by omega) (by have := bb (len + m); omega)
        (growslice_fits (by omega) (by rw [i2]; omega))
      refine ⟨_, _, hr, ?_⟩
      have hg : len + m ≤ grownCap w (len + m) cap e ∧ grownCap w (len + m) cap e ≤ 9223372036854775807 := ⟨grownCap_ge w (len + m) cap e, grownCap_le_maxLen w (len + m) cap e (by have := bb (len + m); unfold maxLen; omega)⟩
      refine sls_of (spare := (Builtin.zeroCells zv.cells (grownCap w (len + m) cap e - (len + m))).toList) (by simp [e3, hnl, Nat.add_mul]) hg (by simp [size_zeroCells, hzc]) ?_
      have H' : Holds w.drew l := H2.drop.heap rfl
      have := H'.new (.cells (cs.toArray ++ new.toArray ++ Builtin.zeroCells zv.cells (grownCap w (len + m) cap e - (len + m))) e (0, 0))
      refine this.head fun h x => ?_
      have e : cs.toArray ++ new.toArray ++ Builtin.zeroCells zv.cells (grownCap w (len + m) cap e - (len + m)) = (cs ++ new ++ (Builtin.zeroCells zv.cells (grownCap w (len + m) cap e - (len + m))).toList).toArray := by apply Array.ext'; simp
      rw [e] at x
      exact x

theorem St_append [Extra] {e size bytes : Nat} {zv : Value} [hT : TSlice P t e size bytes] [hz : TZero P e zv] {s : Value} {cs new c2 : List Value} {m cap b o E : Nat} {fz : Nat × Nat} (H : Holds w (sls e size s cs :: l))
    (hx : ev σ x = s) (hy : ev σ y = .slice (some ⟨b, o, none⟩) m cap) [ha : At b (.cells c2.toArray E fz) l] (hn : Reads c2 o (m * size) new) (h1 : new.all (·.oneCell') = true) (hm : 0 < m)
    (hb : (cs.length + new.length) * bytes ≤ 140737488355328) (hd : okd n d = true) (hq : (decide ((cellsL zv).length = size) && decide (0 < size) && decide (0 < bytes)) = true)
    (k : ∀ v' w', Holds w' (sls e size v' (cs ++ new) :: l) → K (put σ d v') w') : St P n r ⟨d, .call { callee := .builtin .append, args := #[x, y], argTypes := #[t, t] }, u, p, af, g⟩ σ w K := by
  simp only [Bool.and_eq_true, decide_eq_true_eq] at hq
  have hbk : w.heap[b]? = some (.cells c2.toArray E fz) := ha.get _ H.drop.1
  obtain ⟨v', w', hr, H'⟩ := run_append (w := w) (c := cap) (a := ⟨b, o, none⟩) (m := m) hT hz hq.1.1 hq.1.2 hq.2 H u hm hn.len (fun j v hj => by rw [add_lit']; exact cell_row hbk (hn.get j v hj)) (List.all_eq_true.1 h1) hb
  refine St_value (v := v') (w' := w') hd (fun c e => by cases e) ?_ (k v' w' H')
  simp [execOp, resolve, invoke, builtin, hx, hy, hr]

/-! ### Values that are put together -/

def normL : List Value → Option (List Value)
  | [] => some []
  | a :: l => match fo a, normL l with
    | some b, some m => some (b :: m)
    | _, _ => none
theorem normL_eq : ∀ {l m : List Value}, normL l = some m → l = m
  | [], m, h => by simp only [normL, Option.some.injEq] at h; exact h
  | a :: l, m, h => by
    simp only [normL] at h
    split at h
    · rename_i b m' h1 h2
      cases h
      rw [fo_eq h1, normL_eq h2]
    · cases h

def fillL (pl : Nat → Option (Nat × Nat)) (c : List Value) : List (Nat × Value) → Option (List Value)
  | [] => some c
  | (i, v) :: r => match pl i with
    | none => none
    | some (off, size) => if Nat.beq (cellsL v).length size && Nat.ble (off + size) c.length then fillL pl (wr c off (cellsL v)) r else none

theorem foldl_wr : ∀ (vs : List Value) (c : List Value) (o j : Nat), (vs.zipIdx j).foldl (fun (cs : Array Value) (p : Value × Nat) => cs.setIfInBounds (o + p.2) p.1) c.toArray = (wr c (o + j) vs).toArray
  | [], c, o, j => rfl
  | v :: vs, c, o, j => by
    simp only [List.zipIdx_cons, List.foldl_cons, List.setIfInBounds_toArray]
    rw [foldl_wr vs _ o (j + 1)]
    rfl

def fillN (pl : Nat → Option (Nat × Nat)) (c : List Value) (ps : List (Nat × Value)) : Option (List Value) := (fillL pl c ps).bind normL
theorem fillN_eq {pl : Nat → Option (Nat × Nat)} {c c' : List Value} {ps : List (Nat × Value)} (h : fillN pl c ps = some c') : fillL pl c ps = some c' := by
  unfold fillN at h
  cases hf : fillL pl c ps with
  | none => rw [hf] at h; cases h
  | some m =>
    rw [hf] at h
    rw [normL_eq (show normL m = some c' from h)]

theorem fill_list {pl : Nat → Option (Nat × Nat)} : ∀ (ps : List (Nat × Value)) (c c' : List Value), fillL pl c ps = some c' → Instr.fill pl c.toArray ps = some c'.toArray
  | [], c, c', h => by simp only [fillL, Option.some.injEq] at h; subst h; rfl
  | (i, v) :: r, c, c', h => by
    simp only [fillL] at h
    unfold Instr.fill
    cases hp : pl i with
    | none => rw [hp] at h; cases h
    | some q =>
      obtain ⟨off, size⟩ := q
      rw [hp] at h
      simp only at h ⊢
      split at h
      · rename_i hc
        simp only [Bool.and_eq_true, Nat.ble_eq] at hc
        have e1 : v.cells.size = size := by rw [cellsL_eq]; exact Nat.eq_of_beq_eq_true hc.1
        rw [if_neg (by simp [e1]; omega)]
        have e2 := foldl_wr (cellsL v) c off 0
        rw [Nat.add_zero] at e2
        have e3 : v.cells.zipIdx.foldl (fun (cs : Array Value) (p : Value × Nat) => cs.setIfInBounds (off + p.2) p.1) c.toArray = (wr c off (cellsL v)).toArray := by
          rw [← e2, cells_eq, ← Array.foldl_toList, Array.toList_zipIdx]
        have := fill_list r _ _ h
        rw [← e3] at this
        exact this
      · cases h

/-- A struct's places. -/
class TBuild (P : Program) (t : TypeId) (places : outParam (List (Nat × Nat))) : Prop where
  und : ∃ fs, P.underlying t = some (.struct fs) ∧ fs.toList.mapM (fun f => (P.info? f.type).map fun i => (f.offset, i.size)) = some places

theorem run_buildStruct {places : List (Nat × Nat)} {zv : Value} (hB : TBuild P t places) (hz : TZero P t zv) (ps : List (Nat × Value)) {c : List Value} (hf : fillL (places[·]?) (cellsL zv) ps = some c) : (Instr.build t ps.toArray).run P w = .ok (.agg c.toArray) w := by
  obtain ⟨fs, h1, h2⟩ := hB.und
  obtain ⟨it, h3, h4⟩ := Option.map_eq_some_iff.1 hz.zero
  refine run_build w t _ _ ?_
  unfold Program.built
  simp only [h1, h3, h4, h2, cells_eq]
  have := fill_list ps _ _ hf
  simpa using this

theorem St_build {places : List (Nat × Nat)} {zv : Value} {xs : List (Nat × Operand)} {c : List Value} [hB : TBuild P t places] [hz : TZero P t zv] (hf' : fillN (places[·]?) (cellsL zv) (xs.map fun q => (q.1, ev σ q.2)) = some c) (hd : okd n d = true)
    (k : K (put σ d (.agg c.toArray)) w) : St P n r ⟨d, .build t xs.toArray, u, p, af, g⟩ σ w K := by
  have hf := fillN_eq hf'
  refine St_value (v := .agg c.toArray) (w' := w) hd (fun c e => by cases e) ?_ k
  have := run_buildStruct (w := w) hB hz _ hf
  simp only [execOp, Sem.run_bind]
  have e : (xs.toArray.map fun x => (x.1, ev σ x.2)) = (xs.map fun q => (q.1, ev σ q.2)).toArray := by simp
  rw [e, this]
  rfl

/-- n times z's cells. -/
def zeros (z : List Value) : Nat → List Value
  | 0 => []
  | k + 1 => z ++ zeros z k

theorem zeros_length (z : List Value) : ∀ k, (zeros z k).length = k * z.length
  | 0 => by simp [zeros]
  | k + 1 => by simp [zeros, zeros_length z k, Nat.succ_mul]; omega

theorem zeros_get (z : List Value) : ∀ (k i : Nat), i < k * z.length → (zeros z k)[i]? = z[i % z.length]?
  | 0, i, h => by simp at h
  | k + 1, i, h => by
    simp only [zeros]
    rw [Nat.succ_mul] at h
    by_cases hi : i < z.length
    · rw [List.getElem?_append_left hi, Nat.mod_eq_of_lt hi]
    · rw [List.getElem?_append_right (by omega), zeros_get z k (i - z.length) (by omega)]
      congr 1
      rw [Nat.mod_eq_sub_mod (by omega : z.length ≤ i)]

theorem zeros_range (z : List Value) (k : Nat) : (Array.range (k * z.length)).map (fun i => z.toArray[i % z.toArray.size]!) = (zeros z k).toArray := by
  apply Array.ext'
  apply List.ext_getElem?
  intro i
  by_cases hi : i < k * z.length
  · have hz : 0 < z.length := by rcases Nat.eq_zero_or_pos z.length with h | h; · rw [h] at hi; omega
                                 · exact h
    have hm := Nat.mod_lt i hz
    simp only [Array.toList_map, List.getElem?_map, Array.toList_range, List.getElem?_range hi, Option.map_some, zeros_get z k i hi, List.size_toArray]
    simp [hm]
  · have := zeros_length z k
    rw [List.getElem?_eq_none (by simp; omega), List.getElem?_eq_none (by show (zeros z k).length ≤ i; omega)]

theorem St_buildSlice [Extra] {e size bytes len : Nat} {zv : Value} {xs : List (Nat × Operand)} {c : List Value} (H : Holds w l) [hT : TSlice P t e size bytes] [hz : TZero P e zv]
    (hf' : fillN (fun i => some (i * size, size)) (zeros (cellsL zv) len) (xs.map fun q => (q.1, ev σ q.2)) = some c) (hq : (decide ((cellsL zv).length = size) && decide (0 < len * size) && decide (len * size ≤ 16777216)) = true) (hd : okd n d = true)
    (k : ∀ b w', Holds w' (pts b (row e c) :: l) → K (put σ d (.slice (some ⟨b, 0, none⟩) len len)) w') : St P n r ⟨d, .buildSlice t len xs.toArray, u, p, af, g⟩ σ w K := by
  have hf := fillN_eq hf'
  simp only [Bool.and_eq_true, decide_eq_true_eq] at hq
  obtain ⟨i, hi, e2⟩ := Option.map_eq_some_iff.1 hT.info
  simp only [Prod.mk.injEq] at e2
  obtain ⟨i1, i2⟩ := e2
  obtain ⟨i', hi', hz'⟩ := Option.map_eq_some_iff.1 hz.zero
  have : i' = i := by rw [hi] at hi'; cases hi'; rfl
  subst this
  have hr := run_buildSlice (P := P) w t e len (xs.map fun q => (q.1, ev σ q.2)).toArray c.toArray i' zv hT.und hi hz' (by rw [i1]; omega) (by rw [i1]; omega) (by
    have := fill_list _ _ _ hf
    rw [← zeros_range, hq.1.1] at this
    rw [i1, cells_eq]
    exact this)
  refine St_value (v := .slice (some ⟨w.heap.size, 0, none⟩) len len) (w' := w.alloc (.cells c.toArray e)) hd (fun c e => by cases e) ?_ (k _ _ (H.new (row e c)))
  simp only [execOp, Sem.run_bind]
  have e : (xs.toArray.map fun x => (x.1, ev σ x.2)) = (xs.map fun q => (q.1, ev σ q.2)).toArray := by simp
  rw [e, hr]
  rfl

theorem sls_lit [Extra] {E k b len : Nat} {c : List Value} (h1 : c.length = len * k) (H : Holds w (pts b (row E c) :: l)) (h2 : len ≤ 9223372036854775807 := by first | decide | omega) : Holds w (sls E k (.slice (some ⟨b, 0, none⟩) len len) c :: l) :=
  sls_of (spare := []) h1 ⟨Nat.le_refl _, h2⟩ (by simp) (by simpa using H)

theorem C_drawH [Extra] {id : Nat} {o : List Oper} (H : Holds w l) (hm : P.follows .mixedOrders = true)
    (h : ∀ w', Holds w' l → Any P n r o.toArray [] (fun σ w => Q .normal ms σ w) o.length (Array.replicate o.length false) σ w') : C P n r (.region id o.toArray true) Q ms σ w :=
  C_draw hm (h _ (H.heap rfl))

theorem St_box1 [Extra] {E : TypeId} {v : Value} (H : Holds w l) (hx : fo (ev σ x) = some v) (ho : v.oneCell' = true) (hd : okd n d = true)
    (k : ∀ b w', Holds w' (pts b (row E [v]) :: l) → K (put σ d (.pointer (some ⟨b, 0, none⟩))) w') : St P n r ⟨d, .box E x, u, p, af, g⟩ σ w K :=
  St_box H (fo_eq hx) hd (by
    have hc : cellsL v = [v] := by cases v <;> first | rfl | (simp [Value.oneCell'] at ho)
    rw [hc]; exact k)

theorem St_boxN [Extra] {E : TypeId} {c : List Value} (H : Holds w l) (hx : ev σ x = .agg c.toArray) (hd : okd n d = true)
    (k : ∀ b w', Holds w' (pts b (row E c) :: l) → K (put σ d (.pointer (some ⟨b, 0, none⟩))) w') : St P n r ⟨d, .box E x, u, p, af, g⟩ σ w K :=
  St_box H hx hd (by
    have hc : cellsL (.agg c.toArray) = c := by simp [cellsL]
    rw [hc]; exact k)

/-- The resources of these places, then the others but the first d of them. -/
def sel {α : Type} : List Nat → Nat → List α → List α
  | [], d, l => l.drop d
  | i :: is, d, l => match pull i l with
    | [] => []
    | b :: r => b :: sel is d r

theorem sat_sel : ∀ (is : List Nat) (d : Nat) {l : List HProp} {h : Hp}, sat l h → sat (sel is d l) h
  | [], 0, l, h, s => s
  | [], d + 1, [], h, s => s
  | [], d + 1, _ :: l, h, s => sat_sel [] d (sat_drop s)
  | i :: is, d, l, h, s => by
    have s' := sat_perm (pull_perm i l) s
    simp only [sel]
    cases hp : pull i l with
    | nil => exact trivial
    | cons b r => rw [hp] at s'; exact sat_tail (fun _ => sat_sel is d) s'

theorem Holds.sel [Extra] (is : List Nat) (d : Nat) (H : Holds w l) : Holds w (SL.sel is d l) := ⟨sat_sel is d H.1, H.2⟩

/-! ### Comparisons, and parts of values, in a region that draws -/
theorem A_eqBool {op : BinOp} {yt : TypeId} {a b : Bool} (i : Nat) (hi : ops[i]? = some ⟨d, .binOp op t x y yt, u, p, af, g⟩) (hg : Wants ops σ ⟨d, .binOp op t x y yt, u, p, af, g⟩ true) [h : TBool P t] (hx : ev σ x = .bool a) (hy : ev σ y = .bool b) (ho : op = .eql ∨ op = .neq)
    (hs : stB n ops (ivs.map (·.1)) L i [] = true) (k : Any P n r ops ivs T f (L.setIfInBounds i true) (put σ d (.bool (if isEql op then a == b else !(a == b)))) w) : Any P n r ops ivs T (f + 1) L σ w :=
  A_val i hi hg (fun c e => by cases e) (fun w => by simp only [execOp, hx, hy, Sem.run_bind]; rw [← Sem.run_bind, run_eqBool h op a b x y ho]; rfl) hs k

theorem A_build {places : List (Nat × Nat)} {zv : Value} {xs : List (Nat × Operand)} {c : List Value} (i : Nat) (hi : ops[i]? = some ⟨d, .build t xs.toArray, u, p, af, g⟩) (hg : Wants ops σ ⟨d, .build t xs.toArray, u, p, af, g⟩ true) [hB : TBuild P t places] [hz : TZero P t zv] (hf' : fillN (places[·]?) (cellsL zv) (xs.map fun q => (q.1, ev σ q.2)) = some c)
    (hs : stB n ops (ivs.map (·.1)) L i [] = true) (k : Any P n r ops ivs T f (L.setIfInBounds i true) (put σ d (.agg c.toArray)) w) : Any P n r ops ivs T (f + 1) L σ w :=
  A_val i hi hg (fun c e => by cases e) (fun w => by
    have hf := fillN_eq hf'
    have := run_buildStruct (w := w) hB hz _ hf
    simp only [execOp, Sem.run_bind]
    have e : (xs.toArray.map fun x => (x.1, ev σ x.2)) = (xs.map fun q => (q.1, ev σ q.2)).toArray := by simp
    rw [e, this]
    rfl) hs k

/-! ### An owned slice, at a place -/
theorem sls_slice [Extra] {E k m : Nat} {v : Value} {c : List Value} (H : Holds w (sls E k v c :: l)) (hc : c.length = m * k) (k0 : 0 < k) : ∃ a cap, v = .slice a m cap := by
  rcases sls_case H with ⟨rfl, h0, _⟩ | ⟨b, len, cap, spare, rfl, e3, _⟩
  · rw [h0] at hc
    have : m = 0 := by
      rcases Nat.mul_eq_zero.1 hc.symm with h | h
      · exact h
      · omega
    subst this
    exact ⟨none, 0, rfl⟩
  · rw [e3] at hc
    have := Nat.eq_of_mul_eq_mul_right k0 hc
    subst this
    exact ⟨_, _, rfl⟩

theorem sls_open [Extra] {E k m cap : Nat} {a : Option Addr} {c : List Value} (H : Holds w (sls E k (.slice a m cap) c :: l)) (h0 : 0 < m) :
    ∃ b spare, a = some ⟨b, 0, none⟩ ∧ Holds w (pts b (row E (c ++ spare)) :: l) ∧ ∀ w' l', Holds w' (pts b (row E (c ++ spare)) :: l') → Holds w' (sls E k (.slice a m cap) c :: l') := by
  rcases sls_case H with ⟨h, _⟩ | ⟨b, len, cap', spare, h, e3, e4, e5, H2⟩
  · injection h with h1 h2; omega
  · injection h with h1 h2 h3
    subst h1 h2 h3
    exact ⟨b, spare, rfl, H2, fun w' l' H' => sls_of e3 e4 e5 H'⟩

/-! ### The world to the letter -/
/-! ### Guards -/
theorem Wants.of {o : Oper} {j : Nat} {want b t : Bool} (h : o.guard = some (j, want)) (hg : gv ops σ j = some b) (ht : (b == want) = t) : Wants ops σ o t := by
  unfold Wants; rw [h]; exact ⟨some b, hg, by rw [← ht]; cases b <;> cases want <;> rfl⟩
theorem Wants.skip {o : Oper} {j : Nat} {want : Bool} (h : o.guard = some (j, want)) (hg : gv ops σ j = Option.none) : Wants ops σ o false := by
  unfold Wants; rw [h]; exact ⟨Option.none, hg, rfl⟩
theorem Lp_g {j : Nat} {want b : Bool} (h : o.guard = some (j, want)) (hg : gv ops σ j = some b) (ht : (b == want) = true) (k : St P n r o σ w (fun σ' w' => Lp P n r ops Q rest ms σ' w')) : Lp P n r ops Q (o :: rest) ms σ w := Lp_st (Wants.of h hg ht) k
theorem Lp_gpv {op : Op} {j : Nat} {want b : Bool} {v : Value} (hg : gv ops σ j = some b) (ht : (b == want) = true) (hv : pv σ op = some v) (hd : okd n d = true) (k : Lp P n r ops Q rest ms (put σ d v) w) : Lp P n r ops Q (⟨d, op, u, p, af, some (j, want)⟩ :: rest) ms σ w := Lp_st (Wants.of rfl hg ht) (St_pv (o := ⟨d, op, u, p, af, some (j, want)⟩) hv hd k)
theorem Lp_no {op : Op} {j : Nat} {want b : Bool} (hg : gv ops σ j = some b) (ht : (b == want) = false) (hd : okd n d = true) (k : Lp P n r ops Q rest ms (put σ d undef) w) : Lp P n r ops Q (⟨d, op, u, p, af, some (j, want)⟩ :: rest) ms σ w := Lp_pass (Wants.of rfl hg ht) hd k
theorem Lp_nn {op : Op} {j : Nat} {want : Bool} (hg : gv ops σ j = none) (hd : okd n d = true) (k : Lp P n r ops Q rest ms (put σ d undef) w) : Lp P n r ops Q (⟨d, op, u, p, af, some (j, want)⟩ :: rest) ms σ w := Lp_pass (Wants.skip rfl hg) hd k
end
end Go.SL
namespace Go.SL

/-! ### 1. The record of a loop -/

section
variable {P : Program} {n : Nat} {r : Option Nat} {Q : Post} {ms : List Nat} {σ : Env} {w : World} {l : List HProp}

end

/-! ### 2. Ranges over maps -/

section
variable {P : Program} {n : Nat} {r : Option Nat} {σ : Env} {w : World} {K' : Env → World → Prop} {l : List HProp}
variable {K V : Type} [DecidableEq K] {ek : K → Value} {vv : V → Value} {m : List (K × V)} {t k e : TypeId}
variable {u ut : TypeId} {p : String} {af : Array Edge} {g : Option (Nat × Bool)} {d : Option Tmp} {x : Operand}

end
end Go.SL
namespace Go.SL

section
variable {P : Program} {n : Nat} {r : Option Nat} {σ : Env} {w : World} {K : Env → World → Prop}
variable {u t : TypeId} {p : String} {af : Array Edge} {g : Option (Nat × Bool)} {d : Option Tmp} {x y z : Operand}

end
end Go.SL
namespace Go.SL

section
variable {P : Program} {n : Nat} {r : Option Nat} {ops : Array Oper} {Q : Post} {ms : List Nat} {σ : Env} {w : World} {rest : List Oper} {o : Oper} {K : Env → World → Prop} {l l' : List HProp}
variable {ivs : List (List Nat × (World → Prop))} {T : Env → World → Prop} {f : Nat} {L : Array Bool}
variable {u t s : TypeId} {p : String} {af : Array Edge} {g : Option (Nat × Bool)} {d : Option Tmp} {x y z : Operand}

/-- Where a part of the code ends, one word serves for what is behind it. -/
theorem C_joinQ {c : Code} {Q : Post} (I : List Nat → Env → World → Prop) (h : C P n r c (fun e ms σ w => (e = .normal ∧ I ms σ w) ∨ (e ≠ .normal ∧ Q e ms σ w)) ms σ w) (k : ∀ ms σ w, I ms σ w → Q .normal ms σ w) : C P n r c Q ms σ w :=
  C_mono h fun e ms σ w q => by
    rcases q with ⟨rfl, q⟩ | ⟨_, q⟩
    · exact k _ _ _ q
    · exact q

/-! ### Integers of another kind -/

theorem run_convI {k k' q : IntKind} {i : Int} (hs : TInt P s k') (ht : TInt P t k) : (convert s t (.int q i)).run P w = .ok (.int k (k.wrap i)) w := by
  unfold convert
  simp only [Sem.run_bind, run_und hs.und, run_und ht.und, Result.andThen_ok, Conv.intToInt, Sem.run_pure]

theorem A_convI {k k' q : IntKind} {i : Int} (j : Nat) (hj : ops[j]? = some ⟨d, .convert s t x, u, p, af, g⟩) (hg : Wants ops σ ⟨d, .convert s t x, u, p, af, g⟩ true) [hs : TInt P s k'] [ht : TInt P t k] (hx : ev σ x = .int q i)
    (hb : stB n ops (ivs.map (·.1)) L j [] = true) (h : Any P n r ops ivs T f (L.setIfInBounds j true) (put σ d (.int k (k.wrap i))) w) : Any P n r ops ivs T (f + 1) L σ w :=
  A_val j hj hg (fun c e => by cases e) (fun w => by simp only [execOp, hx, Sem.run_bind, run_convI hs ht, Result.andThen_ok, Sem.run_pure]) hb h

/-! ### Strings -/

/-! ### Arrays -/

/-! ### A slice, and nil -/

theorem run_eqSliceNil {e size bytes len cap : Nat} {a : Option Addr} (hT : TSlice P t e size bytes) (op : BinOp) (X Y : Operand) (ho : op = .eql ∨ op = .neq) :
    (do eqGuard op t X Y (.slice a len cap) (.slice none 0 0); binOp op t (.slice a len cap) (.slice none 0 0) : Sem Value).run P w = .ok (.bool (if isEql op then a.isNone else a.isSome)) w := by
  have h1 : (Op.equal t (.slice a len cap) (.slice none 0 0)).run P w = .ok a.isNone w := by
    unfold Op.equal Op.maxDepth Op.equalIn
    simp only [Sem.run_bind, run_und hT.und, Result.andThen_ok]
    cases a <;> rfl
  rcases ho with rfl | rfl
  · simp [eqGuard, binOp, h1, isEql]
  · simp [eqGuard, binOp, h1, isEql]

theorem St_eqSliceNil {op : BinOp} {yt : TypeId} {e size bytes len cap : Nat} {a : Option Addr} [hT : TSlice P t e size bytes] (hx : ev σ x = .slice a len cap) (hy : ev σ y = .slice none 0 0) (ho : op = .eql ∨ op = .neq) (hd : okd n d = true)
    (k : K (put σ d (.bool (if isEql op then a.isNone else a.isSome))) w) : St P n r ⟨d, .binOp op t x y yt, u, p, af, g⟩ σ w K :=
  St_value hd (fun c e => by cases e) (by simp only [execOp, hx, hy, Sem.run_bind]; rw [← Sem.run_bind, run_eqSliceNil hT op x y ho]; rfl) k

/-! ### Named results -/

inductive ResAt (P : Program) (σ : Env) (w : World) : List ResultVar → List Value → Prop
  | nil : ResAt P σ w [] []
  | tmp {t : Tmp} {rs : List ResultVar} {vs : List Value} (h : ResAt P σ w rs vs) : ResAt P σ w (.tmp t :: rs) (σ t :: vs)
  | cell {a : Tmp} {t : TypeId} {b i : Nat} {v : Value} {rs : List ResultVar} {vs : List Value} (ha : σ a = .pointer (some ⟨b, i, none⟩)) (hv : (loadVar t ⟨b, i, none⟩).run P w = .ok v w) (h : ResAt P σ w rs vs) : ResAt P σ w (.cell a t :: rs) (v :: vs)

theorem run_mapM_at {G : ResultVar → Sem Value} (h1 : ∀ t, G (.tmp t) = pure (σ t)) (h2 : ∀ a t, G (.cell a t) = (do loadVar t (← asAddr (σ a)))) : ∀ {rs : List ResultVar} {vs : List Value}, ResAt P σ w rs vs → (rs.mapM G).run P w = .ok vs w
  | _, _, .nil => rfl
  | _, _, .tmp h => by
    rw [List.mapM_cons, h1]
    have ih := run_mapM_at h1 h2 h
    simp only [Sem.run_bind, ih, Result.andThen, Sem.run_pure]
  | _, _, .cell ha hv h => by
    rw [List.mapM_cons, h2, ha]
    have ih := run_mapM_at h1 h2 h
    simp only [asAddr, Sem.run_bind, Sem.run_pure, Result.andThen, hv, ih]

theorem results_at {fn : Func} {a : Act} {vs : List Value} (ra : Rel n ms σ a) (h : ResAt P σ w fn.results.toList vs) : (results fn a.tmps).run P w = .ok (resV vs) w := by
  unfold results
  rw [← Array.toArray_toList (xs := fn.results), List.mapM_toArray]
  simp only [Sem.run_bind, Sem.run_map]
  rw [run_mapM_at (σ := σ) (fun t => by simp only [ra.val]) (fun a t => by simp only [ra.val]) h]
  simp only [Result.andThen]
  cases vs with
  | nil => rfl
  | cons v vs => cases vs <;> rfl

/-- The end of a function whose results lie in cells. -/
theorem fn_endC [Extra] {fn : Func} {R : Value → World → Prop} {e : Exit} {vs : List Value} (l : List HProp) (he : e = .normal ∨ e = .ret) (H : Holds w l)
    (hv : ∀ w', Holds w' l → ResAt P σ w' fn.results.toList vs) (hR : ∀ w', Holds w' l → R (resV vs) w') : fnPost P n fn R e [] σ w :=
  ⟨he, .inl ⟨l, mk_nil H, fun w' H' a ra => ⟨_, results_at ra (hv w' H'), hR w' H'⟩⟩⟩

theorem ResAt.cellN [Extra] {a : Tmp} {t : TypeId} {b i E m : Nat} {fz : Nat × Nat} {c vs : List Value} {rs : List ResultVar} {us : List Value} (H : Holds w l) (ha : σ a = .pointer (some ⟨b, i, none⟩)) [h1 : TN P t m] [hA : At b (.cells c.toArray E fz) l] (hv : Reads c i m vs) (h : ResAt P σ w rs us) : ResAt P σ w (.cell a t :: rs) (.agg vs.toArray :: us) :=
  .cell ha (run_loadVarN (P := P) h1 (hA.get _ H.1) hv) h
/-! ### Functions that the model carries out itself -/

end
end Go.SL
