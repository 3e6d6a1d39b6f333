/- Cells: what is proved on the way: every input of the statement; no condition. Texts joined: SlH SlK SlL. -/
import Derived.Test.YtipelpbkeiphmaaGreatDoorAab
import Derived.RangeFuncIn
import Derived.RangeFuncRecord
import Derived.Laws.IdiomRangeMap
import Derived.Laws.IdiomStrings
import Derived.Lib.Bytealg
import Derived.Laws.Externs
import Derived.Laws.Slices
set_option linter.unusedVariables false
set_option linter.unusedSimpArgs false
set_option linter.unusedSectionVars false
namespace Go.SL

/-! ### 1. The record of a loop -/

/-- The loop's record: the activation's temporaries are σ. -/
def LR (n l : Nat) (ps : List Tmp) (assign body : Code) (σ : Env) (D : Nat) (st : LoopState) : HProp := fun h =>
  ∃ fn tmps, tmps.size = n ∧ (∀ i, tmps.getD i undef = σ i) ∧ h l = some (.loop { state := st, pending := none, fn, tmps, params := ps.toArray, assign, body, defers := D })

def bindP : Env → List Tmp → List Value → Env
  | σ, p :: ps, a :: as => bindP (upd σ p a) ps as
  | σ, _, _ => σ

section
variable {P : Program} {n : Nat} {r : Option Nat} {Q : Post} {ms : List Nat} {σ : Env} {w : World} {l : List HProp}

theorem LR_case [Extra] {m : Nat} {lb : Nat} {ps : List Tmp} {assign body : Code} {D : Nat} {st : LoopState} (H : Holds w (LR m lb ps assign body σ D st :: l)) :
    ∃ fn tmps, tmps.size = m ∧ (∀ i, tmps.getD i undef = σ i) ∧ Holds w (pts lb (.loop { state := st, pending := none, fn, tmps, params := ps.toArray, assign, body, defers := D }) :: l) := by
  obtain ⟨⟨f, g, a, b, d, ⟨fn, tmps, h1, h2, h3⟩, y⟩, ok⟩ := H
  exact ⟨fn, tmps, h1, h2, ⟨f, g, a, b, d, h3, y⟩, ok⟩

theorem LR_of [Extra] {m : Nat} {lb : Nat} {ps : List Tmp} {assign body : Code} {D : Nat} {st : LoopState} {fn : FuncId} {tmps : Array Value} (h1 : tmps.size = m) (h2 : ∀ i, tmps.getD i undef = σ i)
    (H : Holds w (pts lb (.loop { state := st, pending := none, fn, tmps, params := ps.toArray, assign, body, defers := D }) :: l)) : Holds w (LR m lb ps assign body σ D st :: l) :=
  H.head fun h e => ⟨fn, tmps, h1, h2, e⟩

theorem rel_bind {m : Nat} : ∀ (ps : List Tmp) (args : List Value) (σ : Env) (tmps : Array Value), (ps.all (fun p => Nat.blt p m)) = true → Rel m [] σ { tmps := tmps, defers := [] } →
    Rel m [] (bindP σ ps args) { tmps := (ps.zip args).foldl (fun tmps x => tmps.setIfInBounds x.1 x.2) tmps, defers := [] }
  | [], args, σ, tmps, _, h => by simpa [bindP] using h
  | p :: ps, [], σ, tmps, _, h => by simpa [bindP] using h
  | p :: ps, a :: args, σ, tmps, hp, h => by
    simp only [List.all_cons, Bool.and_eq_true] at hp
    have h1 := h.put (d := some p) a (by simpa [okd] using hp.1)
    exact rel_bind ps args _ _ hp.2 h1

theorem Yields_of [Extra] {m yl D : Nat} {ps : List Tmp} {args : List Value} {assign body : Code} {R : Value → World → Prop} (H : Holds w (LR m yl ps assign body σ D .ready :: l)) (hl : args.length = ps.length) (hp : (ps.all (fun p => Nat.blt p m)) = true)
    (h : C P m (some yl) assign (fun e ms σ1 w1 => e = .normal ∧ ∃ l1, Holds w1 (LR m yl ps assign body σ D .ready :: l1) ∧ ∀ w2, Holds w2 (LR m yl ps assign body σ D .busy :: l1) →
      C P m (some yl) body (fun e ms' σ2 w3 => e = .normal ∧ ∃ l3, Holds w3 (LR m yl ps assign body σ D .busy :: l3) ∧ ∀ w4, Holds w4 (LR m yl ps assign body σ D .ready :: l3) → R (.bool true) w4) ms σ1 w2) [] (bindP σ ps args) w) :
    Yields P yl args.toArray w R := by
  obtain ⟨fn, tmps, h1, h2, H1⟩ := LR_case H
  have hb := H1.pts
  refine ⟨_, _, _, _, run_yield hb (by simpa using hl), roundIn_of_wpIn (F := Fence.wide) trivial ?_⟩
  have ra : Rel m [] σ { tmps := tmps, defers := [] } := ⟨h1, rfl, h2⟩
  have rb := rel_bind ps args σ tmps hp ra
  have e0 : ((ps.toArray.zip args.toArray).foldl (fun tmps x => tmps.setIfInBounds x.1 x.2) tmps) = (ps.zip args).foldl (fun tmps x => tmps.setIfInBounds x.1 x.2) tmps := by
    rw [← Array.foldl_toList]; simp
  have hw := h _ rb
  rw [F_some] at hw
  show assign.wpIn (Fence.wide.inRound yl) 0 P _ { tmps := (ps.toArray.zip args.toArray).foldl (fun tmps x => tmps.setIfInBounds x.1 x.2) tmps, defers := [] } w
  rw [e0]
  refine wpIn_mono hw ?_
  intro e a w1 q
  cases e with
  | outgrown => exact q.elim
  | ret => obtain ⟨_, _, _, q, _⟩ := q; cases q
  | exit id => obtain ⟨_, _, _, q, _⟩ := q; cases q
  | goto t => obtain ⟨_, _, _, q, _⟩ := q; cases q
  | panic c => obtain ⟨_, _, _, q, _⟩ := q; cases q
  | normal =>
    obtain ⟨ms1, σ1, r1, _, l1, H1, k⟩ := q
    obtain ⟨fn', tmps', h1', h2', H2⟩ := LR_case H1
    have hb1 := H2.pts
    refine ⟨_, run_beginRound hb1 rfl, ?_⟩
    have H3 : Holds _ (LR m yl ps assign body σ D .busy :: l1) := LR_of (fn := fn') (tmps := tmps') h1' h2' (H2.set (World.putObj_heap_same H2.fresh) (fun c hc => World.putObj_heap_other hc))
    have hw2 := k _ H3 a r1
    rw [F_some] at hw2
    refine wpIn_mono hw2 ?_
    intro e a w3 q
    cases e with
    | outgrown => exact q.elim
    | ret => obtain ⟨_, _, _, q, _⟩ := q; cases q
    | exit id => obtain ⟨_, _, _, q, _⟩ := q; cases q
    | goto t => obtain ⟨_, _, _, q, _⟩ := q; cases q
    | panic c => obtain ⟨_, _, _, q, _⟩ := q; cases q
    | normal =>
      obtain ⟨ms3, σ3, r3, _, l3, H4, k4⟩ := q
      obtain ⟨fn3, tmps3, h13, h23, H5⟩ := LR_case H4
      refine ⟨_, _, run_endRound none H5.pts, ?_⟩
      exact k4 _ (LR_of (fn := fn3) (tmps := tmps3) h13 h23 (H5.set (World.putObj_heap_same H5.fresh) (fun c hc => World.putObj_heap_other hc)))

/-- A range over a function, no round of which breaks off. -/
theorem C_rangeFunc [Extra] {g : Operand} {ps : List Tmp} {assign body : Code} {f : FuncId} {a b : List Value} (H : Holds w l) (hg : ev σ g = .func (.func f) a.toArray b.toArray) [hB : TBody P f]
    (k : ∀ yl D w1, Holds w1 (LR n yl ps assign body σ D .ready :: pts D (.deferred (some [])) :: l) →
      Calls P f ((a ++ [Value.func (.yield yl) #[] #[]]) ++ b).toArray w1 (ret fun _ w2 => ∃ l2, Holds w2 (LR n yl ps assign body σ D .ready :: l2) ∧ ∀ w3, Holds w3 l2 → Q .normal (D :: ms) σ w3)) :
    C P n none (.rangeFunc g ps.toArray assign body) Q ms σ w := by
  intro act ra
  refine wpIn_rangeFunc ?_
  intro fn _
  have H1 := H.new (.deferred (some []))
  have H2 := H1.new (.loop { state := .ready, pending := none, fn, tmps := act.tmps, params := ps.toArray, assign, body, defers := w.heap.size })
  have hsz : ({ w with heap := w.heap.push (.deferred (some [])) } : World).heap.size = w.heap.size + 1 := by simp
  rw [hsz] at H2
  have H3 := LR_of (m := n) ra.size ra.val H2
  have hc := k _ _ _ H3
  refine ⟨w.heap.size + 1, [{ target := .collected w.heap.size, args := #[] }], (w.alloc (.deferred (some []))).alloc (.loop { state := .ready, pending := none, fn, tmps := act.tmps, params := ps.toArray, assign, body, defers := w.heap.size }),
    { target := .fn (.func f) b.toArray, args := (a ++ [Value.func (.yield (w.heap.size + 1)) #[] #[]]).toArray }, (w.alloc (.deferred (some []))).alloc (.loop { state := .ready, pending := none, fn, tmps := act.tmps, params := ps.toArray, assign, body, defers := w.heap.size }), f,
    ((a ++ [Value.func (.yield (w.heap.size + 1)) #[] #[]]) ++ b).toArray, (w.alloc (.deferred (some []))).alloc (.loop { state := .ready, pending := none, fn, tmps := act.tmps, params := ps.toArray, assign, body, defers := w.heap.size }), run_enterLoop_outer fn act.tmps ps.toArray assign body, ?_, fun _ _ => trivial, ?_, fun hs => by simp [F] at hs, callsIn_F (r := none) ?_⟩
  · rw [ra.eval]
    simp only [rangeCall, resolve, hg, Deferred.ofValue, Sem.run_bind, Sem.run_pure, Result.andThen_ok]
    simp [ev]
  · simp only [invoke]
    rw [run_callFunc hB]
    simp
  · refine hc.mono fun e w2 q => ?_
    cases e with
    | panicked c => exact q.elim
    | outgrown => exact q.elim
    | returned v =>
      obtain ⟨l2, H4, kq⟩ := q
      obtain ⟨fn3, tmps3, h13, h23, H5⟩ := LR_case H4
      refine ⟨none, _, run_endLoop H5.pts (by simp), ?_⟩
      have H6 := (H5.set (w' := w2.putObj (w.heap.size + 1) (.loop { state := .exhausted, pending := none, fn := fn3, tmps := tmps3, params := ps.toArray, assign, body, defers := w.heap.size })) (World.putObj_heap_same H5.fresh) (fun c hc => World.putObj_heap_other hc)).drop
      refine ⟨w.heap.size :: ms, σ, ⟨ra.size, ?_, ra.val⟩, kq _ H6⟩
      show [({ target := .collected w.heap.size, args := #[] } : Deferred)] ++ act.defers = _
      rw [ra.defs]
      rfl
end

/-! ### 2. Ranges over maps -/

/-- v is a map's value: nil, or a map. -/
def mpv {K V : Type} (ek : K → Value) (vv : V → Value) (v : Value) (m : List (K × V)) : HProp := fun h => (v = .map none ∧ m = []) ∨ ∃ b, v = .map (some b) ∧ mp ek vv b m h

/-- An iterator over it that has handed out the keys ks. -/
def mit {K V : Type} (ek : K → Value) (vv : V → Value) (v : Value) (m : List (K × V)) (bi : Nat) (ks : List K) : HProp := fun h =>
  (v = .map none ∧ m = [] ∧ ks = [] ∧ h bi = some (.mapIter none 0 #[] 0)) ∨
  ∃ (b : Nat) (es : Array MapEntry) (clock since : Nat) (seen : Array Nat), v = .map (some b) ∧ h b = some (.map es clock) ∧ MapOK ek vv es clock m ∧ h bi = some (.mapIter (some b) since seen clock) ∧ since ≤ clock ∧ (∀ e ∈ es.toList, e.born < since) ∧
    ks.Nodup ∧ (∀ y ∈ ks, y ∈ m.map (·.1)) ∧ (∀ e ∈ es.toList, ∀ y, e.key = ek y → (y ∈ ks ↔ e.born ∈ seen)) ∧ (∀ y, ks.getLast? = some y → ∃ e ∈ es.toList, seen.back? = some e.born ∧ e.key = ek y)

theorem uniq_of {α β : Type} {f : α → β} : ∀ {l : List α}, (l.map f).Nodup → ∀ {a b : α}, a ∈ l → b ∈ l → f a = f b → a = b
  | c :: l, hn, a, b, ha, hb, e => by
    simp only [List.map_cons, List.nodup_cons] at hn
    rcases List.mem_cons.1 ha with rfl | ha2 <;> rcases List.mem_cons.1 hb with rfl | hb2
    · rfl
    · exact absurd (by rw [e]; exact List.mem_map_of_mem hb2) hn.1
    · exact absurd (by rw [← e]; exact List.mem_map_of_mem ha2) hn.1
    · exact uniq_of hn.2 ha2 hb2 e

theorem nodup_inj {α β : Type} {f : α → β} (hf : ∀ a b, f a = f b → a = b) : ∀ {l : List α}, l.Nodup → (l.map f).Nodup
  | [], _ => by simp
  | c :: l, hn => by
    simp only [List.map_cons, List.nodup_cons] at hn ⊢
    refine ⟨fun hm => ?_, nodup_inj hf hn.2⟩
    obtain ⟨d, hd, e⟩ := List.mem_map.1 hm
    exact hn.1 (hf _ _ e ▸ hd)

section
variable {P : Program} {n : Nat} {r : Option Nat} {σ : Env} {w : World} {K' : Env → World → Prop} {l : List HProp}
variable {K V : Type} [DecidableEq K] {ek : K → Value} {vv : V → Value} {m : List (K × V)} {t k e : TypeId}
variable {u ut : TypeId} {p : String} {af : Array Edge} {g : Option (Nat × Bool)} {d : Option Tmp} {x : Operand}

theorem mpv_of [Extra] {b : Nat} (H : Holds w (mp ek vv b m :: l)) : Holds w (mpv ek vv (.map (some b)) m :: l) := H.head fun h hm => .inr ⟨b, rfl, hm⟩
theorem mit_mpv [Extra] {v : Value} {bi : Nat} {ks : List K} (H : Holds w (mit ek vv v m bi ks :: l)) : Holds w (mpv ek vv v m :: l) := H.head fun h hm => by
  rcases hm with ⟨h1, h2, _⟩ | ⟨b, es, clock, since, seen, h1, h2, h3, _⟩
  · exact .inl ⟨h1, h2⟩
  · exact .inr ⟨b, h1, es, clock, h2, h3⟩

theorem St_range [Extra] {v : Value} (ek : K → Value) (vv : V → Value) {m : List (K × V)} (H : Holds w (mpv ek vv v m :: l)) (hx : ev σ x = v) [hM : TMap P t k e] (hd : okd n d = true)
    (kk : ∀ bi w', Holds w' (mit ek vv v m bi [] :: l) → K' (put σ d (.pointer (some ⟨bi, 0, none⟩))) w') : St P n r ⟨d, .range t x, u, p, af, g⟩ σ w K' := by
  obtain ⟨⟨f, g', a, b', dd, hm, y⟩, okw⟩ := H
  rcases hm with ⟨rfl, rfl⟩ | ⟨b, rfl, es, clock, h2, h3⟩
  · refine St_value (v := .pointer (some ⟨w.heap.size, 0, none⟩)) (w' := w.alloc (.mapIter none 0 #[] 0)) hd (fun c e => by cases e) ?_ (kk _ _ ?_)
    · simp only [execOp, hx, Sem.run_bind, run_range_nilMap w t k e hM.und, Result.andThen_ok]; rfl
    · have H' : Holds w l := ⟨sat_up b' y, okw⟩
      exact (H'.new (.mapIter none 0 #[] 0)).head fun h e => .inl ⟨rfl, rfl, rfl, e⟩
  · have hb := a _ _ h2
    refine St_value (v := .pointer (some ⟨w.heap.size, 0, none⟩)) (w' := w.alloc (.mapIter (some b) clock #[] clock)) hd (fun c e => by cases e) ?_ (kk _ _ ?_)
    · simp only [execOp, hx, Sem.run_bind, run_range_map w t k e b es clock hM.und hb, Result.andThen_ok]; rfl
    · have hne : b ≠ w.heap.size := by
        have := (Array.getElem?_eq_some_iff.1 hb).1
        omega
      have H' : Holds w (pts b (.map es clock) :: l) := ⟨⟨f, g', a, b', dd, h2, y⟩, okw⟩
      have H2 := H'.new (.mapIter (some b) clock #[] clock)
      obtain ⟨⟨f1, g1, a1, b1, d1, x1, f2, g2, a2, b2, d2, x2, y2⟩, ok2⟩ := H2
      refine ⟨⟨join f1 f2, g2, join_sub a1 (a2.trans b1), b2.trans b1, join_dis (d1.mono (Sub.rfl' _) b2) d2, ?_, y2⟩, ok2⟩
      refine .inr ⟨b, es, clock, clock, #[], rfl, join_right (d1.mono (Sub.rfl' _) a2) _ _ x2, h3, join_left _ _ x1, Nat.le_refl _, h3.born, by simp, by simp, by simp, by simp⟩

theorem run_nextM {ty : TypeId} {b bi since clock : Nat} {seen : Array Nat} {es : Array MapEntry} (hbi : w.heap[bi]? = some (.mapIter (some b) since seen clock)) (hb : w.heap[b]? = some (.map es clock)) (hold : ∀ x ∈ es.toList, x.born < since) (hsc : since ≤ clock) :
    ((leftOf es seen).size = 0 ∧ ∃ w', (Instr.next (.pointer (some ⟨bi, 0, none⟩)) false ty).run P w = .ok (.tuple #[.bool false]) w' ∧ w'.heap = w.heap ∧ Same w w') ∨
    ∃ e ∈ (leftOf es seen).toList, ∃ w' : World, (Instr.next (.pointer (some ⟨bi, 0, none⟩)) false ty).run P w = .ok (.tuple #[.bool true, e.key, e.val]) w' ∧
      w'.heap[bi]? = some (.mapIter (some b) since (seen.push e.born) clock) ∧ (∀ c, c ≠ bi → w'.heap[c]? = w.heap[c]?) ∧ Same w w' := by
  have hlt : bi < w.heap.size := (Array.getElem?_eq_some_iff.1 hbi).1
  simp only [Instr.next, getObj, Sem.run_bind, Sem.run, hbi, hb, Result.andThen, next_test_false seen es since clock hold hsc, Bool.false_eq_true, if_false]
  unfold leftOf
  have hmem : ∀ x ∈ (Array.filter (fun e => !seen.contains e.born) es).toList, x.born < since := fun x hx => hold x (by simp at hx ⊢; exact hx.1)
  generalize Array.filter (fun e => !seen.contains e.born) es = L at hmem ⊢
  have e1 : L.filter (fun x => decide (x.born < since)) = L := Array.filter_eq_self.2 (fun x hx => by simpa using hmem x (by simpa using hx))
  have e2 : L.filter (fun x => decide (x.born ≥ since)) = #[] := by
    rw [Array.filter_eq_empty_iff]
    intro x hx
    have := hmem x (by simpa using hx)
    simp
    omega
  simp only [e1, e2, Array.append_empty]
  by_cases h0 : L.size = 0
  · left
    have : L = #[] := Array.eq_empty_of_size_eq_zero h0
    subst this
    refine ⟨rfl, w, ?_, rfl, Same.refl w⟩
    simp [choose, Sem.run, Question.forced]
  · right
    have hne : L.isEmpty = false := by simp [Array.isEmpty, h0]
    simp only [hne, Bool.false_eq_true, if_false, Array.empty_append, Array.size_map]
    have hch : ∃ (j : Nat) (w1 : World), j < L.size ∧ (w1.heap = w.heap ∧ Same w w1) ∧ (choose (Question.mapNext L.size)).run P w = .ok j w1 := by
      by_cases hf : L.size ≤ 1
      · exact ⟨0, w, by omega, ⟨rfl, rfl, rfl⟩, by simp [choose, Sem.run, Question.forced, hf]⟩
      · exact ⟨_, w.drew, Nat.mod_lt _ (by omega), ⟨rfl, rfl, rfl⟩, by
          simp only [choose, Sem.run, Question.forced, decide_eq_true_eq, hf, if_false, Question.cut]
          rfl⟩
    obtain ⟨j, w1, hj, ⟨hal, hsm⟩, hrun⟩ := hch
    have hbi1 : w1.heap[bi]? = some (.mapIter (some b) since seen clock) := by rw [hal]; exact hbi
    refine ⟨L[j], by simp, w1.putObj bi (.mapIter (some b) since (seen.push L[j].born) clock), ?_, World.putObj_heap_same (by rw [hal]; exact hlt), fun c hc => by rw [World.putObj_heap_other hc, hal], hsm⟩
    simp only [hrun, Array.getElem?_map, Array.getElem?_eq_getElem hj, Option.map_some, Sem.run_bind, Result.andThen]
    have hset : (setObj bi (.mapIter (some b) since (seen.push L[j].born) clock)).run P w1 = .ok () (w1.putObj bi (.mapIter (some b) since (seen.push L[j].born) clock)) := by
      simp [setObj, Sem.run, hbi1, World.putObj]
    simp only [hset]
    rfl

theorem St_next [Extra] {v : Value} {bi : Nat} {ks : List K} (H : Holds w (mit ek vv v m bi ks :: l)) (hi : ∀ a b, ek a = ek b → a = b) (hx : ev σ x = .pointer (some ⟨bi, 0, none⟩)) (hd : okd n d = true)
    (kend : ks.Perm (m.map (·.1)) → ∀ w', Holds w' (mit ek vv v m bi ks :: l) → K' (put σ d (.tuple #[.bool false])) w')
    (kstep : ∀ q ∈ m, q.1 ∉ ks → ks.Nodup → (∀ y ∈ ks, y ∈ m.map (·.1)) → ∀ w', Holds w' (mit ek vv v m bi (ks ++ [q.1]) :: l) → K' (put σ d (.tuple #[.bool true, ek q.1, vv q.2])) w') : St P n r ⟨d, .next x false, u, p, af, g⟩ σ w K' := by
  obtain ⟨⟨f, g', a, b', dd, hm, y⟩, okw⟩ := H
  rcases hm with ⟨rfl, rfl, rfl, h0⟩ | ⟨b, es, clock, since, seen, rfl, h1, h2, h3, h4, h5, h6, h7, h8, h9⟩
  · have hb : w.heap[bi]? = some (.mapIter none 0 #[] 0) := a _ _ h0
    refine St_value (v := .tuple #[.bool false]) (w' := w) hd (fun c e => by cases e) ?_ (kend (by simp) w ⟨⟨f, g', a, b', dd, .inl ⟨rfl, rfl, rfl, h0⟩, y⟩, okw⟩)
    simp only [execOp, hx, Instr.next, getObj, Sem.run_bind, Sem.run, hb, Result.andThen]
    rfl
  · have hb : w.heap[b]? = some (.map es clock) := a _ _ h1
    have hbi : w.heap[bi]? = some (.mapIter (some b) since seen clock) := a _ _ h3
    have bn : (es.toList.map (·.born)).Nodup := h2.rise.imp fun h => Nat.ne_of_lt h
    have kn : (es.toList.map (·.key)).Nodup := by rw [h2.keys]; exact nodup_inj hi h2.nodup
    rcases run_nextM (P := P) (ty := u) hbi hb h5 h4 with ⟨h0, w', hr, hw, hsm⟩ | ⟨e, he, w', hr, hbi', hoth, hsm⟩
    · refine St_value (v := .tuple #[.bool false]) (w' := w') hd (fun c e => by cases e) ?_ (kend ?_ w' ?_)
      · simp only [execOp, hx, Sem.run_bind, hr, Result.andThen_ok]; rfl
      · refine (List.perm_ext_iff_of_nodup h6 h2.nodup).2 fun z => ⟨h7 z, fun hz => ?_⟩
        have : ek z ∈ es.toList.map (·.key) := by rw [h2.keys]; exact List.mem_map_of_mem hz
        obtain ⟨e, he, ee⟩ := List.mem_map.1 this
        refine (h8 e he z ee).2 ?_
        have hl : leftOf es seen = #[] := Array.eq_empty_of_size_eq_zero h0
        unfold leftOf at hl
        rw [Array.filter_eq_empty_iff] at hl
        have := hl e (by simpa using he)
        simpa using this
      · exact Holds.heap (w := w) ⟨⟨f, g', a, b', dd, .inr ⟨b, es, clock, since, seen, rfl, h1, h2, h3, h4, h5, h6, h7, h8, h9⟩, y⟩, okw⟩ hw hsm
    · have he' : e ∈ es.toList ∧ e.born ∉ seen := by
        have := mem_left he
        refine ⟨this.1, ?_⟩
        simpa using this.2
      obtain ⟨j, hj⟩ := List.getElem?_of_mem he'.1
      obtain ⟨q, hq, ek1, ev1⟩ := h2.at hj
      have hqm : q ∈ m := List.mem_of_getElem? hq
      have hqn : q.1 ∉ ks := fun hk => he'.2 ((h8 e he'.1 q.1 ek1).1 hk)
      refine St_value (v := .tuple #[.bool true, ek q.1, vv q.2]) (w' := w') hd (fun c e => by cases e) ?_ (kstep q hqm hqn h6 h7 w' ?_)
      · simp only [execOp, hx, Sem.run_bind, hr, Result.andThen_ok, ek1, ev1]; rfl
      · have hne : b ≠ bi := fun e0 => by rw [e0, hbi] at hb; cases hb
        refine ⟨⟨fun c => if c = bi then some (.mapIter (some b) since (seen.push e.born) clock) else f c, g', ?_, ?_, ?_, .inr ⟨b, es, clock, since, seen.push e.born, rfl, ?_, h2, ?_, h4, h5, ?_, ?_, ?_, ?_⟩, y⟩, okw.same hsm⟩
        · intro c o hc
          by_cases hcb : c = bi
          · subst hcb; simp at hc; subst hc; exact hbi'
          · simp [hcb] at hc; exact (hoth c hcb).trans (a c o hc)
        · intro c o hc
          have hcb : c ≠ bi := fun e0 => by subst e0; exact dd _ _ _ h3 hc
          exact (hoth c hcb).trans (b' c o hc)
        · intro c o o' hc hc'
          by_cases hcb : c = bi
          · subst hcb; exact dd _ _ _ h3 hc'
          · simp [hcb] at hc; exact dd _ _ _ hc hc'
        · simp [hne, h1]
        · simp
        · rw [List.nodup_append]
          exact ⟨h6, by simp, fun c hc c' hc' e0 => by simp at hc'; subst hc'; subst e0; exact hqn hc⟩
        · intro z hz
          rcases List.mem_append.1 hz with hz | hz
          · exact h7 z hz
          · simp at hz; subst hz; exact List.mem_map_of_mem hqm
        · intro e2 he2 z hz
          rw [List.mem_append, Array.mem_push, h8 e2 he2 z hz]
          simp only [List.mem_singleton]
          constructor
          · rintro (h | rfl)
            · exact .inl h
            · exact .inr (by rw [uniq_of kn he2 he'.1 (hz.trans ek1.symm)])
          · rintro (h | h)
            · exact .inl h
            · have := uniq_of bn he2 he'.1 h
              subst this
              exact .inr (hi _ _ (hz.symm.trans ek1))
        · intro z hz
          simp at hz
          subst hz
          exact ⟨e, he'.1, by simp, ek1⟩

end
end Go.SL
namespace Go.SL

section
variable {P : Program} {n : Nat} {r : Option Nat} {σ : Env} {w : World} {K : Env → World → Prop}
variable {u t : TypeId} {p : String} {af : Array Edge} {g : Option (Nat × Bool)} {d : Option Tmp} {x y z : Operand}

end
end Go.SL
namespace Go.SL

/-- The string of these bytes. -/
@[reducible] def str (l : List UInt8) : Value := .string ⟨l.toArray⟩
theorem str_inj {a b : List UInt8} : (⟨a.toArray⟩ : ByteArray) = ⟨b.toArray⟩ ↔ a = b := by
  constructor
  · intro h
    have := congrArg (fun s => s.data.toList) h
    simpa using this
  · rintro rfl; rfl

section
variable {P : Program} {n : Nat} {r : Option Nat} {ops : Array Oper} {Q : Post} {ms : List Nat} {σ : Env} {w : World} {rest : List Oper} {o : Oper} {K : Env → World → Prop} {l l' : List HProp}
variable {ivs : List (List Nat × (World → Prop))} {T : Env → World → Prop} {f : Nat} {L : Array Bool}
variable {u t s : TypeId} {p : String} {af : Array Edge} {g : Option (Nat × Bool)} {d : Option Tmp} {x y z : Operand}

/-- Where a part of the code ends, one word serves for what is behind it. -/
theorem C_joinQ {c : Code} {Q : Post} (I : List Nat → Env → World → Prop) (h : C P n r c (fun e ms σ w => (e = .normal ∧ I ms σ w) ∨ (e ≠ .normal ∧ Q e ms σ w)) ms σ w) (k : ∀ ms σ w, I ms σ w → Q .normal ms σ w) : C P n r c Q ms σ w :=
  C_mono h fun e ms σ w q => by
    rcases q with ⟨rfl, q⟩ | ⟨_, q⟩
    · exact k _ _ _ q
    · exact q

/-! ### Integers of another kind -/

theorem run_convI {k k' q : IntKind} {i : Int} (hs : TInt P s k') (ht : TInt P t k) : (convert s t (.int q i)).run P w = .ok (.int k (k.wrap i)) w := by
  unfold convert
  simp only [Sem.run_bind, run_und hs.und, run_und ht.und, Result.andThen_ok, Conv.intToInt, Sem.run_pure]

theorem St_convI {k k' q : IntKind} {i : Int} [hs : TInt P s k'] [ht : TInt P t k] (hx : ev σ x = .int q i) (hd : okd n d = true) (h : K (put σ d (.int k (k.wrap i))) w) : St P n r ⟨d, .convert s t x, u, p, af, g⟩ σ w K :=
  St_value hd (fun c e => by cases e) (by simp only [execOp, hx, Sem.run_bind, run_convI hs ht, Result.andThen_ok, Sem.run_pure]) h

/-! ### Strings -/

theorem St_eqS {op : BinOp} {yt : TypeId} {a b : List UInt8} [hT : TString P t] (hx : ev σ x = str a) (hy : ev σ y = str b) (ho : op = .eql ∨ op = .neq) (hd : okd n d = true)
    (k : K (put σ d (.bool (if isEql op then decide (a = b) else !decide (a = b)))) w) : St P n r ⟨d, .binOp op t x y yt, u, p, af, g⟩ σ w K :=
  St_eqStr hx hy ho hd (by rw [show decide ((⟨a.toArray⟩ : ByteArray) = ⟨b.toArray⟩) = decide (a = b) from decide_eq_decide.2 str_inj]; exact k)

/-! ### Arrays -/

/-! ### A slice, and nil -/

theorem run_eqSliceNil {e size bytes len cap : Nat} {a : Option Addr} (hT : TSlice P t e size bytes) (op : BinOp) (X Y : Operand) (ho : op = .eql ∨ op = .neq) :
    (do eqGuard op t X Y (.slice a len cap) (.slice none 0 0); binOp op t (.slice a len cap) (.slice none 0 0) : Sem Value).run P w = .ok (.bool (if isEql op then a.isNone else a.isSome)) w := by
  have h1 : (Op.equal t (.slice a len cap) (.slice none 0 0)).run P w = .ok a.isNone w := by
    unfold Op.equal Op.maxDepth Op.equalIn
    simp only [Sem.run_bind, run_und hT.und, Result.andThen_ok]
    cases a <;> rfl
  rcases ho with rfl | rfl
  · simp [eqGuard, binOp, h1, isEql]
  · simp [eqGuard, binOp, h1, isEql]

theorem St_eqSliceNil {op : BinOp} {yt : TypeId} {e size bytes len cap : Nat} {a : Option Addr} [hT : TSlice P t e size bytes] (hx : ev σ x = .slice a len cap) (hy : ev σ y = .slice none 0 0) (ho : op = .eql ∨ op = .neq) (hd : okd n d = true)
    (k : K (put σ d (.bool (if isEql op then a.isNone else a.isSome))) w) : St P n r ⟨d, .binOp op t x y yt, u, p, af, g⟩ σ w K :=
  St_value hd (fun c e => by cases e) (by simp only [execOp, hx, hy, Sem.run_bind]; rw [← Sem.run_bind, run_eqSliceNil hT op x y ho]; rfl) k

/-! ### Named results -/

inductive ResAt (P : Program) (σ : Env) (w : World) : List ResultVar → List Value → Prop
  | nil : ResAt P σ w [] []
  | tmp {t : Tmp} {rs : List ResultVar} {vs : List Value} (h : ResAt P σ w rs vs) : ResAt P σ w (.tmp t :: rs) (σ t :: vs)
  | cell {a : Tmp} {t : TypeId} {b i : Nat} {v : Value} {rs : List ResultVar} {vs : List Value} (ha : σ a = .pointer (some ⟨b, i, none⟩)) (hv : (loadVar t ⟨b, i, none⟩).run P w = .ok v w) (h : ResAt P σ w rs vs) : ResAt P σ w (.cell a t :: rs) (v :: vs)

theorem run_mapM_at {G : ResultVar → Sem Value} (h1 : ∀ t, G (.tmp t) = pure (σ t)) (h2 : ∀ a t, G (.cell a t) = (do loadVar t (← asAddr (σ a)))) : ∀ {rs : List ResultVar} {vs : List Value}, ResAt P σ w rs vs → (rs.mapM G).run P w = .ok vs w
  | _, _, .nil => rfl
  | _, _, .tmp h => by
    rw [List.mapM_cons, h1]
    have ih := run_mapM_at h1 h2 h
    simp only [Sem.run_bind, ih, Result.andThen, Sem.run_pure]
  | _, _, .cell ha hv h => by
    rw [List.mapM_cons, h2, ha]
    have ih := run_mapM_at h1 h2 h
    simp only [asAddr, Sem.run_bind, Sem.run_pure, Result.andThen, hv, ih]

theorem results_at {fn : Func} {a : Act} {vs : List Value} (ra : Rel n ms σ a) (h : ResAt P σ w fn.results.toList vs) : (results fn a.tmps).run P w = .ok (resV vs) w := by
  unfold results
  rw [← Array.toArray_toList (xs := fn.results), List.mapM_toArray]
  simp only [Sem.run_bind, Sem.run_map]
  rw [run_mapM_at (σ := σ) (fun t => by simp only [ra.val]) (fun a t => by simp only [ra.val]) h]
  simp only [Result.andThen]
  cases vs with
  | nil => rfl
  | cons v vs => cases vs <;> rfl

/-- The end of a function whose results lie in cells. -/
theorem fn_endC [Extra] {fn : Func} {R : Value → World → Prop} {e : Exit} {vs : List Value} (l : List HProp) (he : e = .normal ∨ e = .ret) (H : Holds w l)
    (hv : ∀ w', Holds w' l → ResAt P σ w' fn.results.toList vs) (hR : ∀ w', Holds w' l → R (resV vs) w') : fnPost P n fn R e [] σ w :=
  ⟨he, .inl ⟨l, mk_nil H, fun w' H' a ra => ⟨_, results_at ra (hv w' H'), hR w' H'⟩⟩⟩

theorem ResAt.cellN [Extra] {a : Tmp} {t : TypeId} {b i E m : Nat} {fz : Nat × Nat} {c vs : List Value} {rs : List ResultVar} {us : List Value} (H : Holds w l) (ha : σ a = .pointer (some ⟨b, i, none⟩)) [h1 : TN P t m] [hA : At b (.cells c.toArray E fz) l] (hv : Reads c i m vs) (h : ResAt P σ w rs us) : ResAt P σ w (.cell a t :: rs) (.agg vs.toArray :: us) :=
  .cell ha (run_loadVarN (P := P) h1 (hA.get _ H.1) hv) h
/-! ### Functions that the model carries out itself -/

end
end Go.SL
