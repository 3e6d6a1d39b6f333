/- Cells: what is proved on the way: every input of the statement; no condition. Texts joined: SlD SlE SlF SlG SlH SlK. -/
import Derived.Test.YtipelpbkeiphmaaGreatDoorAaa
import Derived.Laws.StructEq
import Derived.Laws.AppendOwn
import Derived.Laws.Tables
import Derived.Great.BuildSlice
import Derived.RangeFuncIn
import Derived.RangeFuncRecord
import Derived.Laws.IdiomRangeMap
set_option linter.unusedVariables false
set_option linter.unusedSimpArgs false
namespace Go.SL

section
variable {P : Program} {n : Nat} {r : Option Nat} {ops : Array Oper} {Q : Post} {ms : List Nat}

/-- Operation i comes up: it is carried out, or passed over. -/
def Op1 (P : Program) (n : Nat) (r : Option Nat) (ops : Array Oper) (i : Nat) (σ : Env) (w : World) (K : Env → World → Prop) : Prop :=
  ∃ o, ops[i]? = some o ∧ ((Wants ops σ o true ∧ St P n r o σ w K) ∨ (Wants ops σ o false ∧ okd n o.dst = true ∧ K (put σ o.dst undef) w))

/-- Is one of D listed? -/
def hit (D : List Nat) (L : Array Bool) : Bool := D.any fun d => L.getD d false
/-- What has been read stays so, until one of D is done. -/
def InvL (ivs : List (List Nat × (World → Prop))) (L : Array Bool) (w : World) : Prop := ∀ p ∈ ivs, hit p.1 L = true ∨ p.2 w
theorem InvL.nil {L : Array Bool} {w : World} : InvL [] L w := fun _ h => by cases h
theorem InvL.cons {D : List Nat} {rd : World → Prop} {ivs : List (List Nat × (World → Prop))} {L : Array Bool} {w : World} (h : hit D L = true ∨ rd w) (t : InvL ivs L w) : InvL ((D, rd) :: ivs) L w := fun p hp => by
  rcases List.mem_cons.1 hp with rfl | hp
  · exact h
  · exact t p hp

/-- Whatever order is picked from here on; between any two operations Inv holds. -/
def Any (P : Program) (n : Nat) (r : Option Nat) (ops : Array Oper) (ivs : List (List Nat × (World → Prop))) (T : Env → World → Prop) : Nat → Array Bool → Env → World → Prop
  | 0, listed, σ, w => InvL ivs listed w ∧ Region.ready .any ops listed = [] ∧ T σ w
  | f + 1, listed, σ, w => InvL ivs listed w ∧ (Region.ready .any ops listed = [] → T σ w) ∧ ∀ i ∈ Region.ready .any ops listed, Op1 P n r ops i σ w (Any P n r ops ivs T f (listed.setIfInBounds i true))

theorem Op1.mono {i : Nat} {σ : Env} {w : World} {K K' : Env → World → Prop} (h : Op1 P n r ops i σ w K) (hk : ∀ σ w, K σ w → K' σ w) : Op1 P n r ops i σ w K' := by
  obtain ⟨o, ho, ⟨h1, h2⟩ | ⟨h1, h2, h3⟩⟩ := h
  · exact ⟨o, ho, .inl ⟨h1, St_mono h2 hk⟩⟩
  · exact ⟨o, ho, .inr ⟨h1, h2, hk _ _ h3⟩⟩

theorem Op1.sound {i : Nat} {σ : Env} {w : World} {K : Env → World → Prop} {K' : Act → World → Prop} (h : Op1 P n r ops i σ w K) (hk : ∀ σ w a, Rel n ms σ a → K σ w → K' a w) {a : Act} (ra : Rel n ms σ a) :
    wpOpIn (F r) 0 P ops (lift n Q) i K' a w := by
  obtain ⟨o, ho, ⟨h1, h2⟩ | ⟨h1, h2, h3⟩⟩ := h
  · unfold wpOpIn
    simp only [ho, h1.wanted ra, if_true]
    exact Oper.wpIn_mono (fun a' w' ⟨σ', ra', q⟩ => hk σ' w' a' ra' q) (h2 ms a _ ra)
  · unfold wpOpIn
    simp only [ho, h1.wanted ra, Bool.false_eq_true, if_false]
    exact ⟨fun _ _ => trivial, hk _ _ _ (ra.put undef h2) h3⟩

theorem Any.sound {ivs : List (List Nat × (World → Prop))} {T : Env → World → Prop} (hT : ∀ σ w, T σ w → Q .normal ms σ w) : ∀ (f : Nat) (listed : Array Bool) (σ : Env) (w : World) (a : Act), Any P n r ops ivs T f listed σ w → Rel n ms σ a →
    wpAnyIn (F r) 0 P .any ops (lift n Q) f listed a w
  | 0, _, σ, w, a, h, ra => ⟨h.2.1, ms, σ, ra, hT _ _ h.2.2⟩
  | f + 1, _, σ, w, a, h, ra => ⟨fun h0 => ⟨ms, σ, ra, hT _ _ (h.2.1 h0)⟩, fun i hi => (h.2.2 i hi).sound (fun σ' w' a' ra' q => Any.sound hT f _ σ' w' a' q ra') ra⟩

/-- A region that draws its order. -/
theorem C_draw {id : Nat} {l : List Oper} {σ : Env} {w : World} (hm : P.follows .mixedOrders = true)
    (h : Any P n r l.toArray [] (fun σ w => Q .normal ms σ w) l.length (Array.replicate l.length false) σ { w with drawn := w.drawn + 1 }) : C P n r (.region id l.toArray true) Q ms σ w := fun a ra =>
  wpIn_region_any hm (Any.sound (fun _ _ h => h) _ _ σ _ a (by simpa using h) ra)

/-! ### An operation that is taken first -/

/-- Op1 without the world: it yields v in each world of Inv, and leaves it alone. -/
def Still (P : Program) (ops : Array Oper) (Inv : World → Prop) (i : Nat) (σ : Env) (v : Value) : Prop :=
  ∃ o, ops[i]? = some o ∧ (∀ c, o.op ≠ .defer c) ∧ ((Wants ops σ o true ∧ ∀ w, Inv w → (execOp (ev σ) o).run P w = .ok (.value v) w) ∨ (Wants ops σ o false ∧ v = undef))

theorem Still.op1 {Inv : World → Prop} {i : Nat} {σ : Env} {v : Value} {w : World} {K : Env → World → Prop} (h : Still P ops Inv i σ v) (hw : Inv w) (hd : okd n ((ops[i]?).bind (·.dst)) = true) (hk : K (put σ ((ops[i]?).bind (·.dst)) v) w) :
    Op1 P n r ops i σ w K := by
  obtain ⟨o, ho, hdf, h⟩ := h
  have ed : (ops[i]?).bind (·.dst) = o.dst := by rw [ho]; rfl
  rw [ed] at hd hk
  rcases h with ⟨h1, h2⟩ | ⟨h1, rfl⟩
  · exact ⟨o, ho, .inl ⟨h1, St_value hd hdf (h2 w hw) hk⟩⟩
  · exact ⟨o, ho, .inr ⟨h1, hd, hk⟩⟩

theorem ev_put {σ : Env} {d : Option Tmp} {v : Value} {x : Operand} (h : ∀ t, d = some t → x ≠ .tmp t) : ev (put σ d v) x = ev σ x := by
  cases d with
  | none => rfl
  | some t =>
    cases x with
    | tmp u =>
      have hne : u ≠ t := fun e => h t rfl (by rw [e])
      show (bif Nat.beq u t then v else σ u) = σ u
      cases hb : Nat.beq u t with
      | false => rfl
      | true => exact absurd (Nat.eq_of_beq_eq_true hb) hne
    | const v => rfl
    | global g => rfl
    | func f => rfl

theorem upd_comm {σ : Env} {d e : Nat} {v u : Value} (h : d ≠ e) : upd (upd σ d v) e u = upd (upd σ e u) d v := by
  funext j
  unfold upd
  cases h1 : Nat.beq j e <;> cases h2 : Nat.beq j d <;> try rfl
  exact absurd ((Nat.eq_of_beq_eq_true h2).symm.trans (Nat.eq_of_beq_eq_true h1)) h

theorem put_comm {σ : Env} {x y : Option Tmp} {v u : Value} (h : ∀ d, x = some d → y ≠ some d) : put (put σ x v) y u = put (put σ y u) x v := by
  cases x with
  | none => rfl
  | some d =>
    cases y with
    | none => rfl
    | some e => exact upd_comm (fun he => h d rfl (by rw [he]))

theorem execOp_put' (o : Oper) (hs : ∀ cs b, o.op ≠ .select cs b) (σ : Env) (dst : Option Tmp) (v : Value) (h : ∀ d, dst = some d → d ∉ o.looksAt ops) : execOp (ev (put σ dst v)) o = execOp (ev σ) o :=
  execOp_congr o hs fun x hx => ev_put fun d hd hxd => h d hd (by
    subst hxd
    exact List.mem_append_left _ (List.mem_filterMap.2 ⟨.tmp d, by simpa using hx, rfl⟩))

theorem gv_put {σ : Env} {d : Option Tmp} {v : Value} {j : Nat} (h : ∀ t, d = some t → t ∉ ((ops[j]?).bind (·.dst)).toList) : gv ops (put σ d v) j = gv ops σ j := by
  unfold gv
  cases hj : (ops[j]?).bind (·.dst) with
  | none => rfl
  | some t =>
    have : put σ d v t = σ t := ev_put (σ := σ) (d := d) (v := v) (x := .tmp t) (fun u hu e => h u hu (by rw [hj]; cases e; simp))
    simp only [Option.map_some, this]

theorem Wants_put {o : Oper} {σ : Env} {d : Option Tmp} {v : Value} {t : Bool} (h : ∀ u, d = some u → u ∉ o.looksAt ops) : Wants ops (put σ d v) o t ↔ Wants ops σ o t := by
  unfold Wants
  cases hg : o.guard with
  | none => rfl
  | some jw =>
    obtain ⟨j, want⟩ := jw
    have e : gv ops (put σ d v) j = gv ops σ j := gv_put (fun u hu hm => h u hu (by
      unfold Oper.looksAt
      rw [hg]
      exact List.mem_append_right _ hm))
    simp only [e]

theorem Still.put {Inv : World → Prop} {i j : Nat} {oi oj : Oper} {σ : Env} {v u : Value} (hi : ops[i]? = some oi) (hj : ops[j]? = some oj) (hap : oi.apart ops oj = true) (hsi : ∀ cs b, oi.op ≠ .select cs b)
    (h : Still P ops Inv i σ v) : Still P ops Inv i (put σ oj.dst u) v := by
  obtain ⟨o, ho, hdf, h⟩ := h
  have : o = oi := Option.some.inj (ho.symm.trans hi)
  subst this
  obtain ⟨h1, h2, h3⟩ := Oper.apart_spec hap
  refine ⟨o, ho, hdf, ?_⟩
  rcases h with ⟨a, b⟩ | ⟨a, b⟩
  · exact .inl ⟨(Wants_put h3).2 a, fun w hw => by rw [execOp_put' (ops := ops) o hsi σ oj.dst u h3]; exact b w hw⟩
  · exact .inr ⟨(Wants_put h3).2 a, b⟩

theorem St_put {oi oj : Oper} {σ : Env} {v : Value} {w : World} {K : Env → World → Prop} (hap : oi.apart ops oj = true) (hsj : ∀ cs b, oj.op ≠ .select cs b) (hdj : ∀ c, oj.op ≠ .defer c)
    (hd : okd n oi.dst = true) (hd' : okd n oj.dst = true) (h : St P n r oj (put σ oi.dst v) w K) : St P n r oj σ w (fun σ' w' => ∃ u, σ' = put σ oj.dst u ∧ K (put σ' oi.dst v) w') := fun ms a Q ra => by
  obtain ⟨h1, h2, h3⟩ := Oper.apart_spec hap
  have h := (h ms (a.put oi.dst v) (fun _ _ _ => False) (ra.put v hd)).2
  refine ⟨fun _ _ => trivial, ?_⟩
  have ra' := ra.put v hd
  rw [Oper.semAt_eq _ _ _ hdj, ra'.eval, execOp_put' (ops := ops) oj hsj σ oi.dst v h1] at h
  rw [Oper.semAt_eq _ _ _ hdj, ra.eval]
  have hok : ∀ (u : Value) (w' : World), (∃ σ', Rel n ms σ' ((a.put oi.dst v).put oj.dst u) ∧ K σ' w') → ∃ σ', Rel n ms σ' (a.put oj.dst u) ∧ ∃ u', σ' = put σ oj.dst u' ∧ K (put σ' oi.dst v) w' := by
    rintro u w' ⟨σ', ra2, hk⟩
    have ra3 := (ra.put v hd).put u hd'
    have e : σ' = put (put σ oi.dst v) oj.dst u := by
      funext i
      rw [← ra2.val, ← ra3.val]
    subst e
    refine ⟨_, ra.put u hd', u, rfl, ?_⟩
    rw [← put_comm h2]; exact hk
  generalize (execOp (ev σ) oj).run P w = res at *
  cases res with
  | ok x w' =>
    cases x <;> simp only [Oper.uponIn] at h ⊢
    case value u => exact hok u w' h
    case skip => exact hok undef w' h
    case defer d =>
      obtain ⟨σ', ra2, _⟩ := h
      have e1 := ra2.defs
      have e2 := ra'.defs
      exfalso
      have e3 : (d :: (a.put oi.dst v).defers) = marks ms := by
        rw [← e1]; cases oj.dst <;> rfl
      rw [e2] at e3
      have := congrArg List.length e3
      simp at this
    case enter f args =>
      refine ⟨h.1, CallsIn.mono h.2 fun e w'' he => ?_⟩
      cases e with
      | returned u => exact hok u w'' he
      | panicked c => exact he.elim
      | outgrown => obtain ⟨_, _, q⟩ := he; exact q.elim
    case row row args => exact ⟨h.1, RowsIn.mono h.2 fun u w'' he => hok u w'' he⟩
    case round l f tmps assign body =>
      refine ⟨h.1, RoundIn.mono h.2 fun e w'' he => ?_⟩
      cases e with
      | returned u => exact hok u w'' he
      | panicked c => exact he.elim
      | outgrown => obtain ⟨_, _, q⟩ := he; exact q.elim
  | halt x w' =>
    cases x <;> simp only [Oper.uponIn] at h ⊢

/-- The static look: every other operation that is still to come, and does not wait for i, is apart from it; none is a select or a defer; places are there. -/
def fitB (n : Nat) (ops : Array Oper) : Bool := ops.toList.all fun o => okd n o.dst && (match o.op with | .select _ _ => false | .defer _ => false | _ => true)

theorem fitB_spec (h : fitB n ops = true) {j : Nat} {o : Oper} (hj : ops[j]? = some o) : okd n o.dst = true ∧ (∀ cs b, o.op ≠ .select cs b) ∧ (∀ c, o.op ≠ .defer c) := by
  have hm : o ∈ ops.toList := by
    have := Array.mem_of_getElem? hj
    simpa using this
  have := List.all_eq_true.1 h o hm
  simp only [Bool.and_eq_true] at this
  refine ⟨this.1, fun cs b e => ?_, fun c e => ?_⟩
  · have h2 := this.2; rw [e] at h2; cases h2
  · have h2 := this.2; rw [e] at h2; cases h2

theorem Op1_put {i j : Nat} {oi : Oper} {σ : Env} {v : Value} {w : World} {K : Env → World → Prop} (hf : fitB n ops = true) (hi : ops[i]? = some oi) (hap : ∀ oj, ops[j]? = some oj → oi.apart ops oj = true)
    (h : Op1 P n r ops j (put σ oi.dst v) w K) : Op1 P n r ops j σ w (fun σ' w' => ∃ oj u, ops[j]? = some oj ∧ σ' = put σ oj.dst u ∧ K (put σ' oi.dst v) w') := by
  obtain ⟨oj, hj, h⟩ := h
  obtain ⟨d1, _, _⟩ := fitB_spec hf hi
  obtain ⟨d2, s2, f2⟩ := fitB_spec hf hj
  have ha := hap oj hj
  obtain ⟨h1, h2, h3⟩ := Oper.apart_spec ha
  refine ⟨oj, hj, ?_⟩
  rcases h with ⟨a, b⟩ | ⟨a, b, c⟩
  · exact .inl ⟨(Wants_put h1).1 a, St_mono (St_put ha s2 f2 d1 d2 b) fun σ' w' ⟨u, e, k⟩ => ⟨oj, u, hj, e, k⟩⟩
  · exact .inr ⟨(Wants_put h1).1 a, b, oj, undef, hj, rfl, by rw [← put_comm h2]; exact c⟩

/-- j waits for i, if not at once then by way of others. -/
def tw (ops : Array Oper) (i : Nat) : Nat → Nat → Bool
  | 0, _ => false
  | f + 1, j => match ops[j]? with
    | some o => o.after.any fun e => Region.binds .any e && (e.on == i || tw ops i f e.on)
    | none => false

def Closed (ops : Array Oper) (L : Array Bool) : Prop := ∀ j oj, ops[j]? = some oj → L.getD j false = true → ∀ e ∈ oj.after, Region.binds .any e = true → L.getD e.on false = true

theorem Closed.set {L : Array Bool} {i : Nat} (h : Closed ops L) (hi : i ∈ Region.ready .any ops L) : Closed ops (L.setIfInBounds i true) := fun j oj hj hl e he hb => by
  obtain ⟨_, oi, hoi, hall⟩ := mem_ready.1 hi
  by_cases hij : i = j
  · subst hij
    have : oj = oi := Option.some.inj (hj.symm.trans hoi)
    subst this
    exact getD_set_true (hall e he hb)
  · rw [getD_set_ne false hij] at hl
    exact getD_set_true (h j oj hj hl e he hb)

theorem tw_not {i : Nat} {L : Array Bool} (hc : Closed ops L) (hi : L.getD i false = false) : ∀ (f j : Nat), tw ops i f j = true → L.getD j false = false ∧ j ∉ Region.ready .any ops L
  | 0, _, h => by cases h
  | f + 1, j, h => by
    unfold tw at h
    split at h
    · rename_i o ho
      obtain ⟨e, he, hb⟩ := Array.any_eq_true'.1 h
      simp only [Bool.and_eq_true, Bool.or_eq_true, beq_iff_eq] at hb
      have hun : L.getD e.on false = false := by
        rcases hb.2 with h3 | h3
        · rw [h3]; exact hi
        · exact (tw_not hc hi f e.on h3).1
      refine ⟨?_, fun hr => ?_⟩
      · cases hl : L.getD j false with
        | false => rfl
        | true => rw [hc j o ho hl e he hb.1] at hun; cases hun
      · obtain ⟨_, o', ho', hall⟩ := mem_ready.1 hr
        have : o = o' := Option.some.inj (ho.symm.trans ho')
        subst this
        rw [hall e he hb.1] at hun; cases hun
    · cases h

theorem hit_set {D : List Nat} {L : Array Bool} {j : Nat} (h : hit D L = false) (hj : j ∉ D) : hit D (L.setIfInBounds j true) = false := by
  unfold hit at *
  rw [List.any_eq_false] at *
  intro d hd
  have := h d hd
  have hne : j ≠ d := fun e => hj (e ▸ hd)
  rw [getD_set_ne false hne]
  exact this

theorem hit_unset {D : List Nat} {L : Array Bool} {j : Nat} (h : hit D (L.setIfInBounds j true) = true) (hj : j ∉ D) : hit D L = true := by
  cases e : hit D L with
  | true => rfl
  | false => rw [hit_set e hj] at h; cases h

theorem Any.mono {ivs ivs' : List (List Nat × (World → Prop))} {T : Env → World → Prop} (hI : ∀ p ∈ ivs, p ∈ ivs') : ∀ (f : Nat) (listed : Array Bool) (σ : Env) (w : World), Any P n r ops ivs' T f listed σ w → Any P n r ops ivs T f listed σ w
  | 0, _, _, w, h => ⟨fun p hp => h.1 p (hI p hp), h.2⟩
  | f + 1, _, _, w, h => ⟨fun p hp => h.1 p (hI p hp), h.2.1, fun j hj => (h.2.2 j hj).mono fun σ w => Any.mono hI f _ σ w⟩

theorem Any.inv {ivs : List (List Nat × (World → Prop))} {T : Env → World → Prop} : ∀ {f : Nat} {listed : Array Bool} {σ : Env} {w : World}, Any P n r ops ivs T f listed σ w → InvL ivs listed w
  | 0, _, _, _, h => h.1
  | _ + 1, _, _, _, h => h.1

theorem ready_unlisted {i : Nat} {L : Array Bool} (h : i ∈ Region.ready .any ops L) : L.getD i false = false := by
  obtain ⟨h0, o, ho, _⟩ := mem_ready.1 h
  rcases Nat.lt_or_ge i L.size with h' | h'
  · simp [h'] at h0 ⊢; exact h0
  · simp [Array.getElem?_eq_none h'] at h0

/-- An operation that is taken first: its value is the same whatever comes ahead of it. Those of D come behind it. -/
theorem Any.first {ivs : List (List Nat × (World → Prop))} {rd : World → Prop} {T : Env → World → Prop} {i : Nat} {oi : Oper} {v : Value} (D : List Nat)
    (hf : fitB n ops = true) (hi : ops[i]? = some oi) (hD : ∀ d ∈ D, d ≠ i ∧ tw ops i ops.size d = true) (hiv : ∀ p ∈ ivs, i ∉ p.1) :
    ∀ (f : Nat) (listed : Array Bool) (σ : Env) (w : World), Closed ops listed → hit D listed = false →
      (∀ j oj, ops[j]? = some oj → j ≠ i → listed.getD j true = false → (∀ e ∈ oj.after, Region.binds .any e = true → e.on ≠ i) → oi.apart ops oj = true) →
      i ∈ Region.ready .any ops listed → Still P ops rd i σ v →
      Any P n r ops ((D, rd) :: ivs) T f (listed.setIfInBounds i true) (put σ oi.dst v) w → Any P n r ops ivs T (f + 1) listed σ w := by
  have hdi : okd n ((ops[i]?).bind (·.dst)) = true := by rw [hi]; exact (fitB_spec hf hi).1
  have edi : (ops[i]?).bind (·.dst) = oi.dst := by rw [hi]; rfl
  have hiD : i ∉ D := fun h => (hD i h).1 rfl
  have hsub : ∀ p ∈ ivs, p ∈ (D, rd) :: ivs := fun p hp => List.mem_cons_of_mem _ hp
  have hpr : ∀ L w, InvL ((D, rd) :: ivs) (L.setIfInBounds i true) w → InvL ivs L w := fun L w h p hp => (h p (hsub p hp)).imp (fun e => hit_unset e (hiv p hp)) id
  have hrd : ∀ L w, hit D L = false → InvL ((D, rd) :: ivs) (L.setIfInBounds i true) w → rd w := fun L w hh h => (h (D, rd) (List.mem_cons_self ..)).resolve_left (by rw [hit_set hh hiD]; simp)
  intro f
  induction f with
  | zero =>
    intro listed σ w hc hh _ hr hy H
    refine ⟨hpr _ w H.inv, fun h => (by rw [h] at hr; cases hr), fun j hj => ?_⟩
    by_cases hji : j = i
    · subst hji; exact hy.op1 (hrd _ w hh H.inv) hdi (by rw [edi]; exact Any.mono hsub _ _ _ _ H)
    · have := ready_mono hj hji
      rw [H.2.1] at this
      cases this
  | succ f ih =>
    intro listed σ w hc hh hfree hr hy H
    refine ⟨hpr _ w H.inv, fun h => (by rw [h] at hr; cases hr), fun j hj => ?_⟩
    by_cases hji : j = i
    · subst hji; exact hy.op1 (hrd _ w hh H.inv) hdi (by rw [edi]; exact Any.mono hsub _ _ _ _ H)
    · have hjD : j ∉ D := fun h => (tw_not hc (ready_unlisted hr) _ _ (hD j h).2).2 hj
      have h1 := H.2.2 j (ready_mono hj hji)
      obtain ⟨hjun, oj, hoj, hall⟩ := mem_ready.1 hj
      have hnot : ∀ e ∈ oj.after, Region.binds .any e = true → e.on ≠ i := fun e he hb heq => by
        have h1 := hall e he hb
        rw [heq, ready_unlisted hr] at h1
        cases h1
      have hap := hfree j oj hoj hji hjun hnot
      refine (Op1_put hf hi (fun o ho => by rw [Option.some.inj (ho.symm.trans hoj)]; exact hap) h1).mono ?_
      rintro σ' w' ⟨oj', u, hoj', rfl, h3⟩
      have ej : oj' = oj := Option.some.inj (hoj'.symm.trans hoj)
      subst ej
      have hfree' : ∀ k ok, ops[k]? = some ok → k ≠ i → (listed.setIfInBounds j true).getD k true = false →
          (∀ e ∈ ok.after, Region.binds .any e = true → e.on ≠ i) → oi.apart ops ok = true := fun k ok hk hki hun hno => by
        refine hfree k ok hk hki ?_ hno
        by_cases hjk : j = k
        · subst hjk; exact hjun
        · rw [getD_set_ne true hjk] at hun; exact hun
      rw [← Array.setIfInBounds_comm _ _ hji] at h3
      exact ih (listed.setIfInBounds j true) _ w' (hc.set hj) (hit_set hh hjD) hfree' (ready_mono hr (Ne.symm hji)) (hy.put hi hoj hap (fitB_spec hf hi).2.1) h3

/-! ### The steps -/

def clB (ops : Array Oper) (L : Array Bool) : Bool := (List.range ops.size).all fun j => !L.getD j false || match ops[j]? with
  | some o => o.after.all fun e => !Region.binds .any e || L.getD e.on false
  | none => true

theorem clB_spec {L : Array Bool} (h : clB ops L = true) : Closed ops L := fun j oj hj hl e he hb => by
  have hlt : j < ops.size := (Array.getElem?_eq_some_iff.1 hj).1
  have h1 := List.all_eq_true.1 h j (List.mem_range.2 hlt)
  rw [hl, hj] at h1
  simp only [Bool.not_true, Bool.false_or] at h1
  have h2 := Array.all_eq_true_iff_forall_mem.1 h1 e he
  simpa [hb] using h2

/-- What is looked at once for a step: that i is ready, and apart of those that may come ahead of it; those of D come behind it. -/
def stB (n : Nat) (ops : Array Oper) (ivs : List (List Nat)) (L : Array Bool) (i : Nat) (D : List Nat) : Bool :=
  fitB n ops && clB ops L && (D.all fun d => d != i && tw ops i ops.size d) && !hit D L && Region.free .any ops L i && (Region.ready .any ops L).contains i && ivs.all fun p => !p.contains i

variable {ivs : List (List Nat × (World → Prop))} {T : Env → World → Prop} {f : Nat} {L : Array Bool} {σ : Env} {w : World} {l : List HProp}

theorem A_still {o : Oper} {v : Value} {rd : World → Prop} (i : Nat) (D : List Nat) (hi : ops[i]? = some o) (hy : Still P ops rd i σ v) (hs : stB n ops (ivs.map (·.1)) L i D = true)
    (h : Any P n r ops ((D, rd) :: ivs) T f (L.setIfInBounds i true) (put σ o.dst v) w) : Any P n r ops ivs T (f + 1) L σ w := by
  simp only [stB, Bool.and_eq_true, Bool.not_eq_true'] at hs
  obtain ⟨⟨⟨⟨⟨⟨h1, h2⟩, h3⟩, h4⟩, h5⟩, h6⟩, h7⟩ := hs
  refine Any.first D h1 hi (fun d hd => ?_) (fun p hp => ?_) f L σ w (clB_spec h2) h4 (Region.free_spec hi h5) (by simpa using h6) hy h
  · have := List.all_eq_true.1 h3 d hd
    simp only [Bool.and_eq_true, bne_iff_ne] at this
    exact this
  · have := List.all_eq_true.1 h7 p.1 (List.mem_map_of_mem hp)
    simpa using this

/-- An operation that looks at no memory. -/
theorem A_val {o : Oper} {v : Value} (i : Nat) (hi : ops[i]? = some o) (hg : Wants ops σ o true) (hdf : ∀ c, o.op ≠ .defer c) (hv : ∀ w, (execOp (ev σ) o).run P w = .ok (.value v) w) (hs : stB n ops (ivs.map (·.1)) L i [] = true) (h : Any P n r ops ivs T f (L.setIfInBounds i true) (put σ o.dst v) w) :
    Any P n r ops ivs T (f + 1) L σ w :=
  A_still (rd := fun _ => True) i [] hi ⟨o, hi, hdf, .inl ⟨hg, fun w _ => hv w⟩⟩ hs (Any.mono (ivs := ([], fun _ => True) :: ivs) (ivs' := ([], fun _ => True) :: ivs) (fun _ h => h) _ _ _ _ (by
    have key : ∀ (f : Nat) (L : Array Bool) (σ : Env) (w : World), Any P n r ops ivs T f L σ w → Any P n r ops (([], fun _ => True) :: ivs) T f L σ w := by
      intro f
      induction f with
      | zero => exact fun L σ w h => ⟨InvL.cons (.inr trivial) h.1, h.2⟩
      | succ f ih => exact fun L σ w h => ⟨InvL.cons (.inr trivial) h.1, h.2.1, fun j hj => (h.2.2 j hj).mono fun σ w => ih _ σ w⟩
    exact key _ _ _ _ h))

theorem A_pv {d : Option Tmp} {op : Op} {u : TypeId} {p : String} {af : Array Edge} {g : Option (Nat × Bool)} {v : Value} (i : Nat) (hi : ops[i]? = some ⟨d, op, u, p, af, g⟩) (hg : Wants ops σ ⟨d, op, u, p, af, g⟩ true) (hv : pv σ op = some v) (hs : stB n ops (ivs.map (·.1)) L i [] = true) (h : Any P n r ops ivs T f (L.setIfInBounds i true) (put σ d v) w) :
    Any P n r ops ivs T (f + 1) L σ w :=
  A_val i hi hg (pv_defer (o := ⟨d, op, u, p, af, g⟩) hv) (fun _ => run_pv (o := ⟨d, op, u, p, af, g⟩) hv) hs h

/-- An operation whose guard says no. -/
theorem A_no {d : Option Tmp} {op : Op} {u : TypeId} {p : String} {af : Array Edge} {g : Option (Nat × Bool)} (i : Nat) (hi : ops[i]? = some ⟨d, op, u, p, af, g⟩) (hg : Wants ops σ ⟨d, op, u, p, af, g⟩ false) (hdf : ∀ c, op ≠ .defer c) (hs : stB n ops (ivs.map (·.1)) L i [] = true) (h : Any P n r ops ivs T f (L.setIfInBounds i true) (put σ d undef) w) :
    Any P n r ops ivs T (f + 1) L σ w :=
  A_still (rd := fun _ => True) i [] hi ⟨_, hi, hdf, .inr ⟨hg, rfl⟩⟩ hs (by
    have key : ∀ (f : Nat) (L : Array Bool) (σ : Env) (w : World), Any P n r ops ivs T f L σ w → Any P n r ops (([], fun _ => True) :: ivs) T f L σ w := by
      intro f
      induction f with
      | zero => exact fun L σ w h => ⟨InvL.cons (.inr trivial) h.1, h.2⟩
      | succ f ih => exact fun L σ w h => ⟨InvL.cons (.inr trivial) h.1, h.2.1, fun j hj => (h.2.2 j hj).mono fun σ w => ih _ σ w⟩
    exact key _ _ _ _ h)

/-- A read of one block; it is locked until one of D is done. -/
theorem A_read {o : Oper} {v : Value} {b : Nat} {ob : Obj} (i : Nat) (D : List Nat) (hi : ops[i]? = some o) (hg : Wants ops σ o true) (hdf : ∀ c, o.op ≠ .defer c) (hv : ∀ w, w.heap[b]? = some ob → (execOp (ev σ) o).run P w = .ok (.value v) w) (hs : stB n ops (ivs.map (·.1)) L i D = true)
    (h : Any P n r ops ((D, fun w => w.heap[b]? = some ob) :: ivs) T f (L.setIfInBounds i true) (put σ o.dst v) w) : Any P n r ops ivs T (f + 1) L σ w :=
  A_still i D hi ⟨o, hi, hdf, .inl ⟨hg, hv⟩⟩ hs h

/-- The only one that is ready. -/
theorem A_one {o : Oper} (i : Nat) (hi : ops[i]? = some o) (hr : Region.ready .any ops L = [i]) (hI : InvL ivs L w) (hg : Wants ops σ o true) (h : St P n r o σ w (Any P n r ops ivs T f (L.setIfInBounds i true))) : Any P n r ops ivs T (f + 1) L σ w :=
  ⟨hI, fun h0 => (by rw [hr] at h0; cases h0), fun j hj => by
    rw [hr] at hj
    have : j = i := by simpa using hj
    subst this
    exact ⟨o, hi, .inl ⟨hg, h⟩⟩⟩

/-- All are done. -/
theorem A_end (hr : Region.ready .any ops L = []) (hI : InvL ivs L w) (h : T σ w) : Any P n r ops ivs T f L σ w := by
  cases f with
  | zero => exact ⟨hI, hr, h⟩
  | succ f => exact ⟨hI, fun _ => h, fun j hj => by rw [hr] at hj; cases hj⟩
end
end Go.SL
set_option linter.unusedSectionVars false
namespace Go.SL

class TMap (P : Program) (t : TypeId) (k : outParam TypeId) (e : outParam TypeId) : Prop where
  und : P.underlying t = some (.map k e)

/-! ### 1. Lists of pairs -/
section
variable {K V : Type} [DecidableEq K]

def fnd : List (K × V) → K → Option V
  | [], _ => none
  | p :: l, x => if p.1 = x then some p.2 else fnd l x
end

/-! ### 2. A map's block -/

structure MapOK {K V : Type} (ek : K → Value) (vv : V → Value) (es : Array MapEntry) (clock : Nat) (m : List (K × V)) : Prop where
  ents : es.toList.map (fun e => (e.key, e.val)) = m.map (fun p => (ek p.1, vv p.2))
  nodup : (m.map (·.1)).Nodup
  rise : (es.toList.map (·.born)).Pairwise (· < ·)
  born : ∀ e ∈ es.toList, e.born < clock

/-- Block b is a map of these. -/
def mp {K V : Type} (ek : K → Value) (vv : V → Value) (b : Nat) (m : List (K × V)) : HProp := fun h => ∃ es clock, h b = some (.map es clock) ∧ MapOK ek vv es clock m

class AtM {K V : outParam Type} (ek : outParam (K → Value)) (vv : outParam (V → Value)) (b : Nat) (m : outParam (List (K × V))) (l : List HProp) : Prop where
  get : ∀ h, sat l h → mp ek vv b m h
class PutM {K V : Type} (ek : K → Value) (vv : V → Value) (b : Nat) (m : List (K × V)) (l : List HProp) (m' : List (K × V)) (l' : outParam (List HProp)) : Prop where
  get : ∀ h, sat l h → mp ek vv b m h
  set : ∀ h h', sat l h → mp ek vv b m' h' → (∀ c, c ≠ b → h' c = h c) → sat l' h'

section
variable {K V : Type} {ek : K → Value} {vv : V → Value} {b : Nat} {m m' : List (K × V)} {l l' : List HProp}

theorem mp_up {f g : Hp} (s : Sub f g) : mp ek vv b m f → mp ek vv b m g := fun ⟨es, c, h1, h2⟩ => ⟨es, c, s _ _ h1, h2⟩

instance (priority := high) AtM.here : AtM ek vv b m (mp ek vv b m :: l) := ⟨fun _ ⟨_, _, a, _, _, x, _⟩ => mp_up a x⟩
instance AtM.there {A : HProp} [i : AtM ek vv b m l] : AtM ek vv b m (A :: l) := ⟨fun _ s => i.get _ (sat_drop s)⟩

instance (priority := high) PutM.here : PutM ek vv b m (mp ek vv b m :: l) m' (mp ek vv b m' :: l) where
  get := fun _ ⟨_, _, a, _, _, x, _⟩ => mp_up a x
  set := fun h h' ⟨f, g, a, e, d, ⟨es, c, h1, h2⟩, y⟩ ⟨es', c', h3, h4⟩ hs => by
    have s : sat (pts b (.map es c) :: l) h := ⟨f, g, a, e, d, h1, y⟩
    exact sat_head (fun k hk => ⟨es', c', hk, h4⟩) (sat_set s h3 hs)

instance PutM.there {A : HProp} [i : PutM ek vv b m l m' l'] : PutM ek vv b m (A :: l) m' (A :: l') where
  get := fun _ s => i.get _ (sat_drop s)
  set := fun h h' ⟨f, g, a, e, d, x, y⟩ ⟨es', c', h3, h4⟩ hs => by
    obtain ⟨es, c, h1, h2⟩ := i.get g y
    refine ⟨f, fun k => if k = b then some (.map es' c') else g k, ?_, ?_, ?_, x, i.set g _ y ⟨es', c', by simp, h4⟩ (fun k hk => by simp [hk])⟩
    · intro k p hk
      have hkb : k ≠ b := fun h0 => by subst h0; exact d k p _ hk h1
      rw [hs k hkb]; exact a k p hk
    · intro k p hk
      by_cases hkb : k = b
      · subst hkb; simp at hk; subst hk; exact h3
      · simp [hkb] at hk; rw [hs k hkb]; exact e k p hk
    · intro k p p' hk hk'
      by_cases hkb : k = b
      · subst hkb; exact d k p _ hk h1
      · simp [hkb] at hk'; exact d k p p' hk hk'

theorem Holds.mp [Extra] {w : World} (h : Holds w l) [i : AtM ek vv b m l] : ∃ es clock, w.heap[b]? = some (.map es clock) ∧ MapOK ek vv es clock m := i.get _ h.1
end

section
variable {P : Program} {w : World} {K V : Type} [DecidableEq K] {ek : K → Value} {vv : V → Value} {b : Nat} {m : List (K × V)} {t k e : TypeId}

theorem MapOK.keys {es : Array MapEntry} {clock : Nat} (h : MapOK ek vv es clock m) : es.toList.map (·.key) = (m.map (·.1)).map ek := by
  have := congrArg (List.map Prod.fst) h.ents
  simpa [List.map_map, Function.comp_def] using this

theorem MapOK.at {es : Array MapEntry} {clock : Nat} (h : MapOK ek vv es clock m) {j : Nat} {x : MapEntry} (hj : es.toList[j]? = some x) : ∃ p, m[j]? = some p ∧ x.key = ek p.1 ∧ x.val = vv p.2 := by
  have h1 := congrArg (fun l => l[j]?) h.ents
  simp only [List.getElem?_map, hj, Option.map_some] at h1
  cases hm : m[j]? with
  | none => rw [hm] at h1; cases h1
  | some p => rw [hm] at h1; simp at h1; exact ⟨p, rfl, h1.1, h1.2⟩

theorem run_getMap {es : Array MapEntry} {clock : Nat} (h : w.heap[b]? = some (.map es clock)) : (getObj b).run P w = .ok (.map es clock) w := by
  simp [getObj, Sem.run, h]

theorem run_und {t : TypeId} {d : TypeDesc} (h : P.underlying t = some d) : (underlying t).run P w = .ok d w := by
  unfold underlying
  simp only [Sem.run_bind, run_program, Result.andThen_ok, h, Sem.run_pure]

theorem MapOK.len {es : Array MapEntry} {clock : Nat} (h : MapOK ek vv es clock m) : es.size = m.length := by
  have := congrArg List.length h.ents
  simpa using this

theorem run_lenMap (hM : TMap P t k e) (h : ∃ es clock, w.heap[b]? = some (.map es clock) ∧ MapOK ek vv es clock m) (ty : TypeId) :
    (Builtin.len_ #[t] ty #[.map (some b)]).run P w = .ok (.int .i64 m.length) w := by
  obtain ⟨es, clock, h1, h2⟩ := h
  unfold Builtin.len_
  simp only [Sem.run_bind, run_und hM.und, Result.andThen_ok, run_getMap h1, Sem.run_pure, List.getElem?_toArray, List.getElem?_cons_zero, h2.len, goInt]

end
end Go.SL
namespace Go.SL

/-! ### Keys -/
section
variable {P : Program} {k : TypeId}

class TInt (P : Program) (t : TypeId) (q : outParam IntKind) : Prop where
  und : P.underlying t = some (.int q)

@[reducible] def ki (q : IntKind) : Int → Value := fun x => .int q x
@[reducible] def kp : Int × Int → Value := fun x => .agg #[.int .i64 x.1, .int .i64 x.2]
@[reducible] def ks : ByteArray → Value := fun x => .string x

/-- A struct of two numbers. -/
class TPair (P : Program) (t : TypeId) : Prop where
  und : ∃ f g a b, P.underlying t = some (.struct #[f, g]) ∧ f.name ≠ "_" ∧ g.name ≠ "_" ∧ f.offset = 0 ∧ g.offset = 1 ∧ P.underlying f.type = some (.int a) ∧ P.underlying g.type = some (.int b)
  one : ∀ f g, P.underlying t = some (.struct #[f, g]) → T1 P f.type ∧ T1 P g.type
  held : P.stoodInHeld t = false
  guard : P.eqGuardType P.depth t = false

end

/-! ### Comparisons -/
section
variable {P : Program} {w : World}

def isEql : BinOp → Bool
  | .eql => true
  | _ => false

theorem run_eqPtrNil {t : TypeId} (h : TPtr P t) (op : BinOp) (a : Option Addr) (X Y : Operand) (u : TypeId) (ho : op = .eql ∨ op = .neq) :
    (do eqGuard op t X Y (.pointer a) (.pointer none); binOp op t (.pointer a) (.pointer none) : Sem Value).run P w = .ok (.bool (if isEql op then a.isNone else a.isSome)) w := by
  obtain ⟨e, h⟩ := h.und
  have h1 : (Op.equal t (.pointer a) (.pointer none)).run P w = .ok a.isNone w := by
    unfold Op.equal Op.maxDepth Op.equalIn
    simp only [Sem.run_bind, run_und h, Result.andThen_ok]
    cases a <;> rfl
  rcases ho with rfl | rfl
  · simp [eqGuard, binOp, h1, isEql]
  · simp [eqGuard, binOp, h1, isEql]

class TBool (P : Program) (t : TypeId) : Prop where
  und : P.underlying t = some .bool

end

section
variable {P : Program} {n : Nat} {r : Option Nat} {ops : Array Oper} {Q : Post} {ms : List Nat} {σ : Env} {w : World} {rest : List Oper} {o : Oper} {K : Env → World → Prop} {l l' : List HProp}
variable {ivs : List (List Nat × (World → Prop))} {T : Env → World → Prop} {f : Nat} {L : Array Bool}
variable {u t : TypeId} {p : String} {af : Array Edge} {g : Option (Nat × Bool)} {d : Option Tmp} {x y z : Operand}

/-! ### As the walk takes them -/

theorem St_eqPtrNil {op : BinOp} {yt : TypeId} {a : Option Addr} [h : TPtr P t] (hx : ev σ x = .pointer a) (hy : ev σ y = .pointer none) (ho : op = .eql ∨ op = .neq) (hd : okd n d = true)
    (k : K (put σ d (.bool (if isEql op then a.isNone else a.isSome))) w) : St P n r ⟨d, .binOp op t x y yt, u, p, af, g⟩ σ w K :=
  St_value hd (fun c e => by cases e) (by simp only [execOp, hx, hy, Sem.run_bind]; rw [← Sem.run_bind, run_eqPtrNil h op a x y yt ho]; rfl) k

theorem Lp_pv {op : Op} {v : Value} (h : pv σ op = some v) (hd : okd n d = true) (k : Lp P n r ops Q rest ms (put σ d v) w) : Lp P n r ops Q (⟨d, op, u, p, af, none⟩ :: rest) ms σ w :=
  Lp_st (Wants.none rfl) (St_pv (o := ⟨d, op, u, p, af, none⟩) h hd k)

theorem Lp_s (hg : o.guard = none) (h : St P n r o σ w (fun σ' w' => Lp P n r ops Q rest ms σ' w')) : Lp P n r ops Q (o :: rest) ms σ w := Lp_st (Wants.none hg) h

/-- One of a list of resources is taken out; the others stay together. -/
theorem Holds.pick [Extra] {G : Type} {R : G → HProp} {gs g1 g2 : List G} {x : G} (e : gs = g1 ++ x :: g2) : Holds w (SL.star (gs.map R) :: l) ↔ Holds w (R x :: SL.star ((g1 ++ g2).map R) :: l) := by
  subst e
  have p : ((g1 ++ x :: g2).map R ++ l).Perm (R x :: ((g1 ++ g2).map R ++ l)) := by
    simp only [List.map_append, List.map_cons, List.append_assoc, List.cons_append]
    exact List.perm_middle
  constructor
  · exact fun h => ⟨sat_tail (fun _ => sat_star.2) ((Holds.star.1 h).perm p).1, h.2⟩
  · exact fun h => Holds.star.2 (Holds.perm ⟨sat_tail (fun _ => sat_star.1) h.1, h.2⟩ p.symm)

/-! #### maps -/
variable {A B : Type} [DecidableEq A] {ek : A → Value} {vv : B → Value} {b : Nat} {m : List (A × B)} {kt et : TypeId}

theorem St_makeMap [Extra] (vv : B → Value) (ek : A → Value) (H : Holds w l) [hM : TMap P t kt et] (hd : okd n d = true) (k : ∀ b w', Holds w' (mp ek vv b [] :: l) → K (put σ d (.map (some b))) w') :
    St P n r ⟨d, .makeMap t none, u, p, af, g⟩ σ w K := by
  refine St_value (v := .map (some w.heap.size)) (w' := { w with heap := w.heap.push (.map #[] 0) }) hd (fun c e => by cases e) ?_ (k _ _ ((H.new (.map #[] 0)).head fun h e => ⟨#[], 0, e, ?_⟩))
  · simp [execOp, Instr.makeMap]
  · exact ⟨rfl, by simp, by simp, by simp⟩

theorem St_lenMap [Extra] (ek : A → Value) (vv : B → Value) (H : Holds w l) (hx : ev σ x = .map (some b)) [hM : TMap P t kt et] [i : AtM ek vv b m l] (hd : okd n d = true)
    (k : K (put σ d (.int .i64 m.length)) w) : St P n r ⟨d, .call { callee := .builtin .len, args := #[x], argTypes := #[t] }, u, p, af, g⟩ σ w K := by
  refine St_value (v := .int .i64 m.length) (w' := w) hd (fun c e => by cases e) ?_ k
  simp [execOp, resolve, invoke, builtin, hx, run_lenMap (P := P) hM (i.get _ H.1) u]

/-! #### in a region that draws -/

theorem A_fieldAddr {s : TypeId} {fi off b i₀ : Nat} (i : Nat) (hi : ops[i]? = some ⟨d, .fieldAddr s x fi, u, p, af, g⟩) (hg : Wants ops σ ⟨d, .fieldAddr s x fi, u, p, af, g⟩ true) [hf : TField P s fi off] (hx : ev σ x = .pointer (some ⟨b, i₀, none⟩)) (hs : stB n ops (ivs.map (·.1)) L i [] = true)
    (h : Any P n r ops ivs T f (L.setIfInBounds i true) (put σ d (.pointer (some ⟨b, i₀ + off, none⟩))) w) : Any P n r ops ivs T (f + 1) L σ w := by
  refine A_val (v := .pointer (some ⟨b, i₀ + off, none⟩)) i hi hg (fun c e => by cases e) (fun w => ?_) hs h
  obtain ⟨fs, fd, h1, h2, h3, i', h4, h5⟩ := hf.field
  simp only [execOp, hx, Instr.fieldAt, Sem.run_bind, underlying, run_program, Result.andThen_ok, h1, Sem.run_pure, h2, Instr.sureAddr, fieldPlace]
  have hs : (sizeOf fd.type).run P w = .ok i' w := run_sizeOf' h4
  simp only [hs, Result.andThen_ok, if_neg h5, add_lit', h3, Sem.run_pure]

theorem A_load1 [Extra] {b i₀ E : Nat} {fz : Nat × Nat} {c : List Value} {v : Value} (i : Nat) (D : List Nat) (H : Holds w l) (hi : ops[i]? = some ⟨d, .load t x, u, p, af, g⟩) (hg : Wants ops σ ⟨d, .load t x, u, p, af, g⟩ true) (hx : ev σ x = .pointer (some ⟨b, i₀, none⟩)) [h1 : T1 P t] [ha : At b (.cells c.toArray E fz) l] (hv : c[i₀]? = some v)
    (hs : stB n ops (ivs.map (·.1)) L i D = true) (h : Any P n r ops ((D, fun w => w.heap[b]? = some (.cells c.toArray E fz)) :: ivs) T f (L.setIfInBounds i true) (put σ d v) w) : Any P n r ops ivs T (f + 1) L σ w :=
  A_read i D hi hg (fun c e => by cases e) (fun w hw => by simp only [execOp, hx, Instr.loadAt, Instr.sureAddr, Sem.run_bind, Sem.run_pure, Result.andThen_ok, run_loadVar1 (P := P) h1 hw hv]) hs h

theorem A_loadN [Extra] {b i₀ E k : Nat} {fz : Nat × Nat} {c vs : List Value} (i : Nat) (D : List Nat) (H : Holds w l) (hi : ops[i]? = some ⟨d, .load t x, u, p, af, g⟩) (hg : Wants ops σ ⟨d, .load t x, u, p, af, g⟩ true) (hx : ev σ x = .pointer (some ⟨b, i₀, none⟩)) [h1 : TN P t k] [ha : At b (.cells c.toArray E fz) l] (hv : Reads c i₀ k vs)
    (hs : stB n ops (ivs.map (·.1)) L i D = true) (h : Any P n r ops ((D, fun w => w.heap[b]? = some (.cells c.toArray E fz)) :: ivs) T f (L.setIfInBounds i true) (put σ d (.agg vs.toArray)) w) : Any P n r ops ivs T (f + 1) L σ w :=
  A_read i D hi hg (fun c e => by cases e) (fun w hw => by simp only [execOp, hx, Instr.loadAt, Instr.sureAddr, Sem.run_bind, Sem.run_pure, Result.andThen_ok, run_loadVarN (P := P) h1 hw hv]) hs h

end
end Go.SL
namespace Go.SL

section
variable {P : Program} {n : Nat} {r : Option Nat} {ops : Array Oper} {Q : Post} {ms : List Nat} {σ : Env} {w : World} {rest : List Oper} {o : Oper} {K : Env → World → Prop} {l l' : List HProp}
variable {ivs : List (List Nat × (World → Prop))} {T : Env → World → Prop} {f : Nat} {L : Array Bool}
variable {u t : TypeId} {p : String} {af : Array Edge} {g : Option (Nat × Bool)} {d : Option Tmp} {x y z : Operand}

/-! ### Where an element is; how many there are -/

theorem run_indexAddr {e size bytes b o len cap : Nat} {q : IntKind} {i : Int} (hT : TSlice P t e size bytes) (h0 : 0 ≤ i) (h1 : i < len) :
    (Instr.indexAt t (.slice (some ⟨b, o, none⟩) len cap) (.int q i)).run P w = .ok (.pointer (some ⟨b, o + i.toNat * size, none⟩)) w := by
  have hs : (sizeOf e).run P w = .ok size w := by
    obtain ⟨k, hk, e2⟩ := Option.map_eq_some_iff.1 hT.info
    simp only [Prod.mk.injEq] at e2
    exact run_sizeOf' (by rw [hk]; simp [e2.1])
  unfold Instr.indexAt
  simp only [asIntOf, Sem.run_bind, Sem.run_pure, Result.andThen_ok, run_und hT.und]
  simp [h0, h1, hs, add_lit']

theorem St_indexAddr {e size bytes b o len cap : Nat} {q : IntKind} {i : Int} {ix : Operand} [hT : TSlice P t e size bytes] (hx : ev σ x = .slice (some ⟨b, o, none⟩) len cap) (hi : ev σ ix = .int q i) (h0 : 0 ≤ i) (h1 : i < len) (hd : okd n d = true)
    (k : K (put σ d (.pointer (some ⟨b, o + i.toNat * size, none⟩))) w) : St P n r ⟨d, .indexAddr t x ix, u, p, af, g⟩ σ w K :=
  St_value hd (fun c e => by cases e) (by simp only [execOp, hx, hi, Sem.run_bind, run_indexAddr hT h0 h1, Result.andThen_ok, Sem.run_pure]) k

theorem A_indexAddr {e size bytes b o len cap : Nat} {q : IntKind} {i : Int} {ix : Operand} (j : Nat) (hj : ops[j]? = some ⟨d, .indexAddr t x ix, u, p, af, g⟩) (hg : Wants ops σ ⟨d, .indexAddr t x ix, u, p, af, g⟩ true) [hT : TSlice P t e size bytes] (hx : ev σ x = .slice (some ⟨b, o, none⟩) len cap) (hi : ev σ ix = .int q i) (h0 : 0 ≤ i) (h1 : i < len)
    (hs : stB n ops (ivs.map (·.1)) L j [] = true) (h : Any P n r ops ivs T f (L.setIfInBounds j true) (put σ d (.pointer (some ⟨b, o + i.toNat * size, none⟩))) w) : Any P n r ops ivs T (f + 1) L σ w :=
  A_val j hj hg (fun c e => by cases e) (fun w => by simp only [execOp, hx, hi, Sem.run_bind, run_indexAddr hT h0 h1, Result.andThen_ok, Sem.run_pure]) hs h

theorem run_lenSlice {e size bytes len cap : Nat} {a : Option Addr} (hT : TSlice P t e size bytes) (ty : TypeId) : (Builtin.len_ #[t] ty #[.slice a len cap]).run P w = .ok (.int .i64 len) w := by
  unfold Builtin.len_
  simp only [Sem.run_bind, run_und hT.und, Result.andThen_ok, Sem.run_pure, List.getElem?_toArray, List.getElem?_cons_zero, goInt]

theorem St_lenSlice {e size bytes len cap : Nat} {a : Option Addr} [hT : TSlice P t e size bytes] (hx : ev σ x = .slice a len cap) (hd : okd n d = true) (k : K (put σ d (.int .i64 len)) w) :
    St P n r ⟨d, .call { callee := .builtin .len, args := #[x], argTypes := #[t] }, u, p, af, g⟩ σ w K := by
  refine St_value (v := .int .i64 len) (w' := w) hd (fun c e => by cases e) ?_ k
  simp [execOp, resolve, invoke, builtin, hx, run_lenSlice (P := P) (w := w) hT u]

theorem A_lenSlice {e size bytes len cap : Nat} {a : Option Addr} (j : Nat) (hj : ops[j]? = some ⟨d, .call { callee := .builtin .len, args := #[x], argTypes := #[t] }, u, p, af, g⟩) (hg : Wants ops σ ⟨d, .call { callee := .builtin .len, args := #[x], argTypes := #[t] }, u, p, af, g⟩ true) [hT : TSlice P t e size bytes] (hx : ev σ x = .slice a len cap)
    (hs : stB n ops (ivs.map (·.1)) L j [] = true) (h : Any P n r ops ivs T f (L.setIfInBounds j true) (put σ d (.int .i64 len)) w) : Any P n r ops ivs T (f + 1) L σ w :=
  A_val (v := .int .i64 len) j hj hg (fun c e => by cases e) (fun w => by simp [execOp, resolve, invoke, builtin, hx, run_lenSlice (P := P) (w := w) hT u]) hs h

/-! ### Owned slices -/

/-- v is a slice, from its block's first cell on, of these cells; what is behind them is nobody else's. Or nil. -/
def sls (E k : Nat) (v : Value) (c : List Value) : HProp := fun h =>
  (v = .slice none 0 0 ∧ c = []) ∨ ∃ b len cap spare, v = .slice (some ⟨b, 0, none⟩) len cap ∧ h b = some (row E (c ++ spare)) ∧ c.length = len * k ∧ (len ≤ cap ∧ cap ≤ 9223372036854775807) ∧ spare.length = (cap - len) * k

theorem cellsL_eq (v : Value) : v.cells.size = (cellsL v).length := by rw [cells_eq]; simp

theorem sls_case [Extra] {E k : Nat} {v : Value} {c : List Value} (H : Holds w (sls E k v c :: l)) :
    (v = .slice none 0 0 ∧ c = [] ∧ Holds w l) ∨ ∃ b len cap spare, v = .slice (some ⟨b, 0, none⟩) len cap ∧ c.length = len * k ∧ (len ≤ cap ∧ cap ≤ 9223372036854775807) ∧ spare.length = (cap - len) * k ∧ Holds w (pts b (row E (c ++ spare)) :: l) := by
  obtain ⟨⟨f, g, a, b, d, x, y⟩, ok⟩ := H
  rcases x with ⟨e1, e2⟩ | ⟨bb, len, cap, spare, e1, e2, e3, e4, e5⟩
  · exact .inl ⟨e1, e2, sat_up b y, ok⟩
  · exact .inr ⟨bb, len, cap, spare, e1, e3, e4, e5, ⟨f, g, a, b, d, e2, y⟩, ok⟩

theorem sls_nil [Extra] {E k : Nat} (H : Holds w l) : Holds w (sls E k (.slice none 0 0) [] :: l) :=
  ⟨⟨fun _ => none, hp w, fun _ _ e => (by cases e), Sub.rfl' _, fun _ _ _ e => (by cases e), .inl ⟨rfl, rfl⟩, H.1⟩, H.2⟩

theorem sls_of [Extra] {E k b len cap : Nat} {c spare : List Value} (h1 : c.length = len * k) (h2 : len ≤ cap ∧ cap ≤ 9223372036854775807) (h3 : spare.length = (cap - len) * k) (H : Holds w (pts b (row E (c ++ spare)) :: l)) : Holds w (sls E k (.slice (some ⟨b, 0, none⟩) len cap) c :: l) :=
  H.head fun h e => .inr ⟨b, len, cap, spare, rfl, e, h1, h2, h3⟩

/-! ### Values that are put together -/

def normL : List Value → Option (List Value)
  | [] => some []
  | a :: l => match fo a, normL l with
    | some b, some m => some (b :: m)
    | _, _ => none
theorem normL_eq : ∀ {l m : List Value}, normL l = some m → l = m
  | [], m, h => by simp only [normL, Option.some.injEq] at h; exact h
  | a :: l, m, h => by
    simp only [normL] at h
    split at h
    · rename_i b m' h1 h2
      cases h
      rw [fo_eq h1, normL_eq h2]
    · cases h

def fillL (pl : Nat → Option (Nat × Nat)) (c : List Value) : List (Nat × Value) → Option (List Value)
  | [] => some c
  | (i, v) :: r => match pl i with
    | none => none
    | some (off, size) => if Nat.beq (cellsL v).length size && Nat.ble (off + size) c.length then fillL pl (wr c off (cellsL v)) r else none

theorem foldl_wr : ∀ (vs : List Value) (c : List Value) (o j : Nat), (vs.zipIdx j).foldl (fun (cs : Array Value) (p : Value × Nat) => cs.setIfInBounds (o + p.2) p.1) c.toArray = (wr c (o + j) vs).toArray
  | [], c, o, j => rfl
  | v :: vs, c, o, j => by
    simp only [List.zipIdx_cons, List.foldl_cons, List.setIfInBounds_toArray]
    rw [foldl_wr vs _ o (j + 1)]
    rfl

def fillN (pl : Nat → Option (Nat × Nat)) (c : List Value) (ps : List (Nat × Value)) : Option (List Value) := (fillL pl c ps).bind normL
theorem fillN_eq {pl : Nat → Option (Nat × Nat)} {c c' : List Value} {ps : List (Nat × Value)} (h : fillN pl c ps = some c') : fillL pl c ps = some c' := by
  unfold fillN at h
  cases hf : fillL pl c ps with
  | none => rw [hf] at h; cases h
  | some m =>
    rw [hf] at h
    rw [normL_eq (show normL m = some c' from h)]

theorem fill_list {pl : Nat → Option (Nat × Nat)} : ∀ (ps : List (Nat × Value)) (c c' : List Value), fillL pl c ps = some c' → Instr.fill pl c.toArray ps = some c'.toArray
  | [], c, c', h => by simp only [fillL, Option.some.injEq] at h; subst h; rfl
  | (i, v) :: r, c, c', h => by
    simp only [fillL] at h
    unfold Instr.fill
    cases hp : pl i with
    | none => rw [hp] at h; cases h
    | some q =>
      obtain ⟨off, size⟩ := q
      rw [hp] at h
      simp only at h ⊢
      split at h
      · rename_i hc
        simp only [Bool.and_eq_true, Nat.ble_eq] at hc
        have e1 : v.cells.size = size := by rw [cellsL_eq]; exact Nat.eq_of_beq_eq_true hc.1
        rw [if_neg (by simp [e1]; omega)]
        have e2 := foldl_wr (cellsL v) c off 0
        rw [Nat.add_zero] at e2
        have e3 : v.cells.zipIdx.foldl (fun (cs : Array Value) (p : Value × Nat) => cs.setIfInBounds (off + p.2) p.1) c.toArray = (wr c off (cellsL v)).toArray := by
          rw [← e2, cells_eq, ← Array.foldl_toList, Array.toList_zipIdx]
        have := fill_list r _ _ h
        rw [← e3] at this
        exact this
      · cases h

/-- A struct's places. -/
class TBuild (P : Program) (t : TypeId) (places : outParam (List (Nat × Nat))) : Prop where
  und : ∃ fs, P.underlying t = some (.struct fs) ∧ fs.toList.mapM (fun f => (P.info? f.type).map fun i => (f.offset, i.size)) = some places

theorem run_buildStruct {places : List (Nat × Nat)} {zv : Value} (hB : TBuild P t places) (hz : TZero P t zv) (ps : List (Nat × Value)) {c : List Value} (hf : fillL (places[·]?) (cellsL zv) ps = some c) : (Instr.build t ps.toArray).run P w = .ok (.agg c.toArray) w := by
  obtain ⟨fs, h1, h2⟩ := hB.und
  obtain ⟨it, h3, h4⟩ := Option.map_eq_some_iff.1 hz.zero
  refine run_build w t _ _ ?_
  unfold Program.built
  simp only [h1, h3, h4, h2, cells_eq]
  have := fill_list ps _ _ hf
  simpa using this

theorem St_build {places : List (Nat × Nat)} {zv : Value} {xs : List (Nat × Operand)} {c : List Value} [hB : TBuild P t places] [hz : TZero P t zv] (hf' : fillN (places[·]?) (cellsL zv) (xs.map fun q => (q.1, ev σ q.2)) = some c) (hd : okd n d = true)
    (k : K (put σ d (.agg c.toArray)) w) : St P n r ⟨d, .build t xs.toArray, u, p, af, g⟩ σ w K := by
  have hf := fillN_eq hf'
  refine St_value (v := .agg c.toArray) (w' := w) hd (fun c e => by cases e) ?_ k
  have := run_buildStruct (w := w) hB hz _ hf
  simp only [execOp, Sem.run_bind]
  have e : (xs.toArray.map fun x => (x.1, ev σ x.2)) = (xs.map fun q => (q.1, ev σ q.2)).toArray := by simp
  rw [e, this]
  rfl

/-- n times z's cells. -/
def zeros (z : List Value) : Nat → List Value
  | 0 => []
  | k + 1 => z ++ zeros z k

theorem zeros_length (z : List Value) : ∀ k, (zeros z k).length = k * z.length
  | 0 => by simp [zeros]
  | k + 1 => by simp [zeros, zeros_length z k, Nat.succ_mul]; omega

theorem zeros_get (z : List Value) : ∀ (k i : Nat), i < k * z.length → (zeros z k)[i]? = z[i % z.length]?
  | 0, i, h => by simp at h
  | k + 1, i, h => by
    simp only [zeros]
    rw [Nat.succ_mul] at h
    by_cases hi : i < z.length
    · rw [List.getElem?_append_left hi, Nat.mod_eq_of_lt hi]
    · rw [List.getElem?_append_right (by omega), zeros_get z k (i - z.length) (by omega)]
      congr 1
      rw [Nat.mod_eq_sub_mod (by omega : z.length ≤ i)]

theorem zeros_range (z : List Value) (k : Nat) : (Array.range (k * z.length)).map (fun i => z.toArray[i % z.toArray.size]!) = (zeros z k).toArray := by
  apply Array.ext'
  apply List.ext_getElem?
  intro i
  by_cases hi : i < k * z.length
  · have hz : 0 < z.length := by rcases Nat.eq_zero_or_pos z.length with h | h; · rw [h] at hi; omega
                                 · exact h
    have hm := Nat.mod_lt i hz
    simp only [Array.toList_map, List.getElem?_map, Array.toList_range, List.getElem?_range hi, Option.map_some, zeros_get z k i hi, List.size_toArray]
    simp [hm]
  · have := zeros_length z k
    rw [List.getElem?_eq_none (by simp; omega), List.getElem?_eq_none (by show (zeros z k).length ≤ i; omega)]

theorem St_buildSlice [Extra] {e size bytes len : Nat} {zv : Value} {xs : List (Nat × Operand)} {c : List Value} (H : Holds w l) [hT : TSlice P t e size bytes] [hz : TZero P e zv]
    (hf' : fillN (fun i => some (i * size, size)) (zeros (cellsL zv) len) (xs.map fun q => (q.1, ev σ q.2)) = some c) (hq : (decide ((cellsL zv).length = size) && decide (0 < len * size) && decide (len * size ≤ 16777216)) = true) (hd : okd n d = true)
    (k : ∀ b w', Holds w' (pts b (row e c) :: l) → K (put σ d (.slice (some ⟨b, 0, none⟩) len len)) w') : St P n r ⟨d, .buildSlice t len xs.toArray, u, p, af, g⟩ σ w K := by
  have hf := fillN_eq hf'
  simp only [Bool.and_eq_true, decide_eq_true_eq] at hq
  obtain ⟨i, hi, e2⟩ := Option.map_eq_some_iff.1 hT.info
  simp only [Prod.mk.injEq] at e2
  obtain ⟨i1, i2⟩ := e2
  obtain ⟨i', hi', hz'⟩ := Option.map_eq_some_iff.1 hz.zero
  have : i' = i := by rw [hi] at hi'; cases hi'; rfl
  subst this
  have hr := run_buildSlice (P := P) w t e len (xs.map fun q => (q.1, ev σ q.2)).toArray c.toArray i' zv hT.und hi hz' (by rw [i1]; omega) (by rw [i1]; omega) (by
    have := fill_list _ _ _ hf
    rw [← zeros_range, hq.1.1] at this
    rw [i1, cells_eq]
    exact this)
  refine St_value (v := .slice (some ⟨w.heap.size, 0, none⟩) len len) (w' := w.alloc (.cells c.toArray e)) hd (fun c e => by cases e) ?_ (k _ _ (H.new (row e c)))
  simp only [execOp, Sem.run_bind]
  have e : (xs.toArray.map fun x => (x.1, ev σ x.2)) = (xs.map fun q => (q.1, ev σ q.2)).toArray := by simp
  rw [e, hr]
  rfl

theorem sls_lit [Extra] {E k b len : Nat} {c : List Value} (h1 : c.length = len * k) (H : Holds w (pts b (row E c) :: l)) (h2 : len ≤ 9223372036854775807 := by first | decide | omega) : Holds w (sls E k (.slice (some ⟨b, 0, none⟩) len len) c :: l) :=
  sls_of (spare := []) h1 ⟨Nat.le_refl _, h2⟩ (by simp) (by simpa using H)

theorem C_drawH [Extra] {id : Nat} {o : List Oper} (H : Holds w l) (hm : P.follows .mixedOrders = true)
    (h : ∀ w', Holds w' l → Any P n r o.toArray [] (fun σ w => Q .normal ms σ w) o.length (Array.replicate o.length false) σ w') : C P n r (.region id o.toArray true) Q ms σ w :=
  C_draw hm (h _ (H.heap rfl))

theorem St_box1 [Extra] {E : TypeId} {v : Value} (H : Holds w l) (hx : fo (ev σ x) = some v) (ho : v.oneCell' = true) (hd : okd n d = true)
    (k : ∀ b w', Holds w' (pts b (row E [v]) :: l) → K (put σ d (.pointer (some ⟨b, 0, none⟩))) w') : St P n r ⟨d, .box E x, u, p, af, g⟩ σ w K :=
  St_box H (fo_eq hx) hd (by
    have hc : cellsL v = [v] := by cases v <;> first | rfl | (simp [Value.oneCell'] at ho)
    rw [hc]; exact k)

theorem St_boxN [Extra] {E : TypeId} {c : List Value} (H : Holds w l) (hx : ev σ x = .agg c.toArray) (hd : okd n d = true)
    (k : ∀ b w', Holds w' (pts b (row E c) :: l) → K (put σ d (.pointer (some ⟨b, 0, none⟩))) w') : St P n r ⟨d, .box E x, u, p, af, g⟩ σ w K :=
  St_box H hx hd (by
    have hc : cellsL (.agg c.toArray) = c := by simp [cellsL]
    rw [hc]; exact k)

/-- The resources of these places, then the others but the first d of them. -/
def sel {α : Type} : List Nat → Nat → List α → List α
  | [], d, l => l.drop d
  | i :: is, d, l => match pull i l with
    | [] => []
    | b :: r => b :: sel is d r

theorem sat_sel : ∀ (is : List Nat) (d : Nat) {l : List HProp} {h : Hp}, sat l h → sat (sel is d l) h
  | [], 0, l, h, s => s
  | [], d + 1, [], h, s => s
  | [], d + 1, _ :: l, h, s => sat_sel [] d (sat_drop s)
  | i :: is, d, l, h, s => by
    have s' := sat_perm (pull_perm i l) s
    simp only [sel]
    cases hp : pull i l with
    | nil => exact trivial
    | cons b r => rw [hp] at s'; exact sat_tail (fun _ => sat_sel is d) s'

theorem Holds.sel [Extra] (is : List Nat) (d : Nat) (H : Holds w l) : Holds w (SL.sel is d l) := ⟨sat_sel is d H.1, H.2⟩

/-! ### Comparisons, and parts of values, in a region that draws -/
theorem A_build {places : List (Nat × Nat)} {zv : Value} {xs : List (Nat × Operand)} {c : List Value} (i : Nat) (hi : ops[i]? = some ⟨d, .build t xs.toArray, u, p, af, g⟩) (hg : Wants ops σ ⟨d, .build t xs.toArray, u, p, af, g⟩ true) [hB : TBuild P t places] [hz : TZero P t zv] (hf' : fillN (places[·]?) (cellsL zv) (xs.map fun q => (q.1, ev σ q.2)) = some c)
    (hs : stB n ops (ivs.map (·.1)) L i [] = true) (k : Any P n r ops ivs T f (L.setIfInBounds i true) (put σ d (.agg c.toArray)) w) : Any P n r ops ivs T (f + 1) L σ w :=
  A_val i hi hg (fun c e => by cases e) (fun w => by
    have hf := fillN_eq hf'
    have := run_buildStruct (w := w) hB hz _ hf
    simp only [execOp, Sem.run_bind]
    have e : (xs.toArray.map fun x => (x.1, ev σ x.2)) = (xs.map fun q => (q.1, ev σ q.2)).toArray := by simp
    rw [e, this]
    rfl) hs k

/-! ### An owned slice, at a place -/
theorem sls_slice [Extra] {E k m : Nat} {v : Value} {c : List Value} (H : Holds w (sls E k v c :: l)) (hc : c.length = m * k) (k0 : 0 < k) : ∃ a cap, v = .slice a m cap := by
  rcases sls_case H with ⟨rfl, h0, _⟩ | ⟨b, len, cap, spare, rfl, e3, _⟩
  · rw [h0] at hc
    have : m = 0 := by
      rcases Nat.mul_eq_zero.1 hc.symm with h | h
      · exact h
      · omega
    subst this
    exact ⟨none, 0, rfl⟩
  · rw [e3] at hc
    have := Nat.eq_of_mul_eq_mul_right k0 hc
    subst this
    exact ⟨_, _, rfl⟩

theorem sls_open [Extra] {E k m cap : Nat} {a : Option Addr} {c : List Value} (H : Holds w (sls E k (.slice a m cap) c :: l)) (h0 : 0 < m) :
    ∃ b spare, a = some ⟨b, 0, none⟩ ∧ Holds w (pts b (row E (c ++ spare)) :: l) ∧ ∀ w' l', Holds w' (pts b (row E (c ++ spare)) :: l') → Holds w' (sls E k (.slice a m cap) c :: l') := by
  rcases sls_case H with ⟨h, _⟩ | ⟨b, len, cap', spare, h, e3, e4, e5, H2⟩
  · injection h with h1 h2; omega
  · injection h with h1 h2 h3
    subst h1 h2 h3
    exact ⟨b, spare, rfl, H2, fun w' l' H' => sls_of e3 e4 e5 H'⟩

/-! ### The world to the letter -/
/-! ### Guards -/
theorem Wants.of {o : Oper} {j : Nat} {want b t : Bool} (h : o.guard = some (j, want)) (hg : gv ops σ j = some b) (ht : (b == want) = t) : Wants ops σ o t := by
  unfold Wants; rw [h]; exact ⟨some b, hg, by rw [← ht]; cases b <;> cases want <;> rfl⟩
theorem Wants.skip {o : Oper} {j : Nat} {want : Bool} (h : o.guard = some (j, want)) (hg : gv ops σ j = Option.none) : Wants ops σ o false := by
  unfold Wants; rw [h]; exact ⟨Option.none, hg, rfl⟩
theorem Lp_g {j : Nat} {want b : Bool} (h : o.guard = some (j, want)) (hg : gv ops σ j = some b) (ht : (b == want) = true) (k : St P n r o σ w (fun σ' w' => Lp P n r ops Q rest ms σ' w')) : Lp P n r ops Q (o :: rest) ms σ w := Lp_st (Wants.of h hg ht) k
theorem Lp_gpv {op : Op} {j : Nat} {want b : Bool} {v : Value} (hg : gv ops σ j = some b) (ht : (b == want) = true) (hv : pv σ op = some v) (hd : okd n d = true) (k : Lp P n r ops Q rest ms (put σ d v) w) : Lp P n r ops Q (⟨d, op, u, p, af, some (j, want)⟩ :: rest) ms σ w := Lp_st (Wants.of rfl hg ht) (St_pv (o := ⟨d, op, u, p, af, some (j, want)⟩) hv hd k)
theorem Lp_no {op : Op} {j : Nat} {want b : Bool} (hg : gv ops σ j = some b) (ht : (b == want) = false) (hd : okd n d = true) (k : Lp P n r ops Q rest ms (put σ d undef) w) : Lp P n r ops Q (⟨d, op, u, p, af, some (j, want)⟩ :: rest) ms σ w := Lp_pass (Wants.of rfl hg ht) hd k
end
end Go.SL
namespace Go.SL

/-! ### 1. The record of a loop -/

/-- The loop's record: the activation's temporaries are σ. -/
def LR (n l : Nat) (ps : List Tmp) (assign body : Code) (σ : Env) (D : Nat) (st : LoopState) : HProp := fun h =>
  ∃ fn tmps, tmps.size = n ∧ (∀ i, tmps.getD i undef = σ i) ∧ h l = some (.loop { state := st, pending := none, fn, tmps, params := ps.toArray, assign, body, defers := D })

def bindP : Env → List Tmp → List Value → Env
  | σ, p :: ps, a :: as => bindP (upd σ p a) ps as
  | σ, _, _ => σ

section
variable {P : Program} {n : Nat} {r : Option Nat} {Q : Post} {ms : List Nat} {σ : Env} {w : World} {l : List HProp}

theorem LR_case [Extra] {m : Nat} {lb : Nat} {ps : List Tmp} {assign body : Code} {D : Nat} {st : LoopState} (H : Holds w (LR m lb ps assign body σ D st :: l)) :
    ∃ fn tmps, tmps.size = m ∧ (∀ i, tmps.getD i undef = σ i) ∧ Holds w (pts lb (.loop { state := st, pending := none, fn, tmps, params := ps.toArray, assign, body, defers := D }) :: l) := by
  obtain ⟨⟨f, g, a, b, d, ⟨fn, tmps, h1, h2, h3⟩, y⟩, ok⟩ := H
  exact ⟨fn, tmps, h1, h2, ⟨f, g, a, b, d, h3, y⟩, ok⟩

theorem LR_of [Extra] {m : Nat} {lb : Nat} {ps : List Tmp} {assign body : Code} {D : Nat} {st : LoopState} {fn : FuncId} {tmps : Array Value} (h1 : tmps.size = m) (h2 : ∀ i, tmps.getD i undef = σ i)
    (H : Holds w (pts lb (.loop { state := st, pending := none, fn, tmps, params := ps.toArray, assign, body, defers := D }) :: l)) : Holds w (LR m lb ps assign body σ D st :: l) :=
  H.head fun h e => ⟨fn, tmps, h1, h2, e⟩

theorem rel_bind {m : Nat} : ∀ (ps : List Tmp) (args : List Value) (σ : Env) (tmps : Array Value), (ps.all (fun p => Nat.blt p m)) = true → Rel m [] σ { tmps := tmps, defers := [] } →
    Rel m [] (bindP σ ps args) { tmps := (ps.zip args).foldl (fun tmps x => tmps.setIfInBounds x.1 x.2) tmps, defers := [] }
  | [], args, σ, tmps, _, h => by simpa [bindP] using h
  | p :: ps, [], σ, tmps, _, h => by simpa [bindP] using h
  | p :: ps, a :: args, σ, tmps, hp, h => by
    simp only [List.all_cons, Bool.and_eq_true] at hp
    have h1 := h.put (d := some p) a (by simpa [okd] using hp.1)
    exact rel_bind ps args _ _ hp.2 h1

theorem Yields_of [Extra] {m yl D : Nat} {ps : List Tmp} {args : List Value} {assign body : Code} {R : Value → World → Prop} (H : Holds w (LR m yl ps assign body σ D .ready :: l)) (hl : args.length = ps.length) (hp : (ps.all (fun p => Nat.blt p m)) = true)
    (h : C P m (some yl) assign (fun e ms σ1 w1 => e = .normal ∧ ∃ l1, Holds w1 (LR m yl ps assign body σ D .ready :: l1) ∧ ∀ w2, Holds w2 (LR m yl ps assign body σ D .busy :: l1) →
      C P m (some yl) body (fun e ms' σ2 w3 => e = .normal ∧ ∃ l3, Holds w3 (LR m yl ps assign body σ D .busy :: l3) ∧ ∀ w4, Holds w4 (LR m yl ps assign body σ D .ready :: l3) → R (.bool true) w4) ms σ1 w2) [] (bindP σ ps args) w) :
    Yields P yl args.toArray w R := by
  obtain ⟨fn, tmps, h1, h2, H1⟩ := LR_case H
  have hb := H1.pts
  refine ⟨_, _, _, _, run_yield hb (by simpa using hl), roundIn_of_wpIn (F := Fence.wide) trivial ?_⟩
  have ra : Rel m [] σ { tmps := tmps, defers := [] } := ⟨h1, rfl, h2⟩
  have rb := rel_bind ps args σ tmps hp ra
  have e0 : ((ps.toArray.zip args.toArray).foldl (fun tmps x => tmps.setIfInBounds x.1 x.2) tmps) = (ps.zip args).foldl (fun tmps x => tmps.setIfInBounds x.1 x.2) tmps := by
    rw [← Array.foldl_toList]; simp
  have hw := h _ rb
  rw [F_some] at hw
  show assign.wpIn (Fence.wide.inRound yl) 0 P _ { tmps := (ps.toArray.zip args.toArray).foldl (fun tmps x => tmps.setIfInBounds x.1 x.2) tmps, defers := [] } w
  rw [e0]
  refine wpIn_mono hw ?_
  intro e a w1 q
  cases e with
  | outgrown => exact q.elim
  | ret => obtain ⟨_, _, _, q, _⟩ := q; cases q
  | exit id => obtain ⟨_, _, _, q, _⟩ := q; cases q
  | goto t => obtain ⟨_, _, _, q, _⟩ := q; cases q
  | panic c => obtain ⟨_, _, _, q, _⟩ := q; cases q
  | normal =>
    obtain ⟨ms1, σ1, r1, _, l1, H1, k⟩ := q
    obtain ⟨fn', tmps', h1', h2', H2⟩ := LR_case H1
    have hb1 := H2.pts
    refine ⟨_, run_beginRound hb1 rfl, ?_⟩
    have H3 : Holds _ (LR m yl ps assign body σ D .busy :: l1) := LR_of (fn := fn') (tmps := tmps') h1' h2' (H2.set (World.putObj_heap_same H2.fresh) (fun c hc => World.putObj_heap_other hc))
    have hw2 := k _ H3 a r1
    rw [F_some] at hw2
    refine wpIn_mono hw2 ?_
    intro e a w3 q
    cases e with
    | outgrown => exact q.elim
    | ret => obtain ⟨_, _, _, q, _⟩ := q; cases q
    | exit id => obtain ⟨_, _, _, q, _⟩ := q; cases q
    | goto t => obtain ⟨_, _, _, q, _⟩ := q; cases q
    | panic c => obtain ⟨_, _, _, q, _⟩ := q; cases q
    | normal =>
      obtain ⟨ms3, σ3, r3, _, l3, H4, k4⟩ := q
      obtain ⟨fn3, tmps3, h13, h23, H5⟩ := LR_case H4
      refine ⟨_, _, run_endRound none H5.pts, ?_⟩
      exact k4 _ (LR_of (fn := fn3) (tmps := tmps3) h13 h23 (H5.set (World.putObj_heap_same H5.fresh) (fun c hc => World.putObj_heap_other hc)))

/-- A range over a function, no round of which breaks off. -/
theorem C_rangeFunc [Extra] {g : Operand} {ps : List Tmp} {assign body : Code} {f : FuncId} {a b : List Value} (H : Holds w l) (hg : ev σ g = .func (.func f) a.toArray b.toArray) [hB : TBody P f]
    (k : ∀ yl D w1, Holds w1 (LR n yl ps assign body σ D .ready :: pts D (.deferred (some [])) :: l) →
      Calls P f ((a ++ [Value.func (.yield yl) #[] #[]]) ++ b).toArray w1 (ret fun _ w2 => ∃ l2, Holds w2 (LR n yl ps assign body σ D .ready :: l2) ∧ ∀ w3, Holds w3 l2 → Q .normal (D :: ms) σ w3)) :
    C P n none (.rangeFunc g ps.toArray assign body) Q ms σ w := by
  intro act ra
  refine wpIn_rangeFunc ?_
  intro fn _
  have H1 := H.new (.deferred (some []))
  have H2 := H1.new (.loop { state := .ready, pending := none, fn, tmps := act.tmps, params := ps.toArray, assign, body, defers := w.heap.size })
  have hsz : ({ w with heap := w.heap.push (.deferred (some [])) } : World).heap.size = w.heap.size + 1 := by simp
  rw [hsz] at H2
  have H3 := LR_of (m := n) ra.size ra.val H2
  have hc := k _ _ _ H3
  refine ⟨w.heap.size + 1, [{ target := .collected w.heap.size, args := #[] }], (w.alloc (.deferred (some []))).alloc (.loop { state := .ready, pending := none, fn, tmps := act.tmps, params := ps.toArray, assign, body, defers := w.heap.size }),
    { target := .fn (.func f) b.toArray, args := (a ++ [Value.func (.yield (w.heap.size + 1)) #[] #[]]).toArray }, (w.alloc (.deferred (some []))).alloc (.loop { state := .ready, pending := none, fn, tmps := act.tmps, params := ps.toArray, assign, body, defers := w.heap.size }), f,
    ((a ++ [Value.func (.yield (w.heap.size + 1)) #[] #[]]) ++ b).toArray, (w.alloc (.deferred (some []))).alloc (.loop { state := .ready, pending := none, fn, tmps := act.tmps, params := ps.toArray, assign, body, defers := w.heap.size }), run_enterLoop_outer fn act.tmps ps.toArray assign body, ?_, fun _ _ => trivial, ?_, fun hs => by simp [F] at hs, callsIn_F (r := none) ?_⟩
  · rw [ra.eval]
    simp only [rangeCall, resolve, hg, Deferred.ofValue, Sem.run_bind, Sem.run_pure, Result.andThen_ok]
    simp [ev]
  · simp only [invoke]
    rw [run_callFunc hB]
    simp
  · refine hc.mono fun e w2 q => ?_
    cases e with
    | panicked c => exact q.elim
    | outgrown => exact q.elim
    | returned v =>
      obtain ⟨l2, H4, kq⟩ := q
      obtain ⟨fn3, tmps3, h13, h23, H5⟩ := LR_case H4
      refine ⟨none, _, run_endLoop H5.pts (by simp), ?_⟩
      have H6 := (H5.set (w' := w2.putObj (w.heap.size + 1) (.loop { state := .exhausted, pending := none, fn := fn3, tmps := tmps3, params := ps.toArray, assign, body, defers := w.heap.size })) (World.putObj_heap_same H5.fresh) (fun c hc => World.putObj_heap_other hc)).drop
      refine ⟨w.heap.size :: ms, σ, ⟨ra.size, ?_, ra.val⟩, kq _ H6⟩
      show [({ target := .collected w.heap.size, args := #[] } : Deferred)] ++ act.defers = _
      rw [ra.defs]
      rfl
end

/-! ### 2. Ranges over maps -/

/-- v is a map's value: nil, or a map. -/
def mpv {K V : Type} (ek : K → Value) (vv : V → Value) (v : Value) (m : List (K × V)) : HProp := fun h => (v = .map none ∧ m = []) ∨ ∃ b, v = .map (some b) ∧ mp ek vv b m h

/-- An iterator over it that has handed out the keys ks. -/
def mit {K V : Type} (ek : K → Value) (vv : V → Value) (v : Value) (m : List (K × V)) (bi : Nat) (ks : List K) : HProp := fun h =>
  (v = .map none ∧ m = [] ∧ ks = [] ∧ h bi = some (.mapIter none 0 #[] 0)) ∨
  ∃ (b : Nat) (es : Array MapEntry) (clock since : Nat) (seen : Array Nat), v = .map (some b) ∧ h b = some (.map es clock) ∧ MapOK ek vv es clock m ∧ h bi = some (.mapIter (some b) since seen clock) ∧ since ≤ clock ∧ (∀ e ∈ es.toList, e.born < since) ∧
    ks.Nodup ∧ (∀ y ∈ ks, y ∈ m.map (·.1)) ∧ (∀ e ∈ es.toList, ∀ y, e.key = ek y → (y ∈ ks ↔ e.born ∈ seen)) ∧ (∀ y, ks.getLast? = some y → ∃ e ∈ es.toList, seen.back? = some e.born ∧ e.key = ek y)

theorem uniq_of {α β : Type} {f : α → β} : ∀ {l : List α}, (l.map f).Nodup → ∀ {a b : α}, a ∈ l → b ∈ l → f a = f b → a = b
  | c :: l, hn, a, b, ha, hb, e => by
    simp only [List.map_cons, List.nodup_cons] at hn
    rcases List.mem_cons.1 ha with rfl | ha2 <;> rcases List.mem_cons.1 hb with rfl | hb2
    · rfl
    · exact absurd (by rw [e]; exact List.mem_map_of_mem hb2) hn.1
    · exact absurd (by rw [← e]; exact List.mem_map_of_mem ha2) hn.1
    · exact uniq_of hn.2 ha2 hb2 e

theorem nodup_inj {α β : Type} {f : α → β} (hf : ∀ a b, f a = f b → a = b) : ∀ {l : List α}, l.Nodup → (l.map f).Nodup
  | [], _ => by simp
  | c :: l, hn => by
    simp only [List.map_cons, List.nodup_cons] at hn ⊢
    refine ⟨fun hm => ?_, nodup_inj hf hn.2⟩
    obtain ⟨d, hd, e⟩ := List.mem_map.1 hm
    exact hn.1 (hf _ _ e ▸ hd)

section
variable {P : Program} {n : Nat} {r : Option Nat} {σ : Env} {w : World} {K' : Env → World → Prop} {l : List HProp}
variable {K V : Type} [DecidableEq K] {ek : K → Value} {vv : V → Value} {m : List (K × V)} {t k e : TypeId}
variable {u ut : TypeId} {p : String} {af : Array Edge} {g : Option (Nat × Bool)} {d : Option Tmp} {x : Operand}

theorem mpv_of [Extra] {b : Nat} (H : Holds w (mp ek vv b m :: l)) : Holds w (mpv ek vv (.map (some b)) m :: l) := H.head fun h hm => .inr ⟨b, rfl, hm⟩
theorem mit_mpv [Extra] {v : Value} {bi : Nat} {ks : List K} (H : Holds w (mit ek vv v m bi ks :: l)) : Holds w (mpv ek vv v m :: l) := H.head fun h hm => by
  rcases hm with ⟨h1, h2, _⟩ | ⟨b, es, clock, since, seen, h1, h2, h3, _⟩
  · exact .inl ⟨h1, h2⟩
  · exact .inr ⟨b, h1, es, clock, h2, h3⟩

theorem St_range [Extra] {v : Value} (ek : K → Value) (vv : V → Value) {m : List (K × V)} (H : Holds w (mpv ek vv v m :: l)) (hx : ev σ x = v) [hM : TMap P t k e] (hd : okd n d = true)
    (kk : ∀ bi w', Holds w' (mit ek vv v m bi [] :: l) → K' (put σ d (.pointer (some ⟨bi, 0, none⟩))) w') : St P n r ⟨d, .range t x, u, p, af, g⟩ σ w K' := by
  obtain ⟨⟨f, g', a, b', dd, hm, y⟩, okw⟩ := H
  rcases hm with ⟨rfl, rfl⟩ | ⟨b, rfl, es, clock, h2, h3⟩
  · refine St_value (v := .pointer (some ⟨w.heap.size, 0, none⟩)) (w' := w.alloc (.mapIter none 0 #[] 0)) hd (fun c e => by cases e) ?_ (kk _ _ ?_)
    · simp only [execOp, hx, Sem.run_bind, run_range_nilMap w t k e hM.und, Result.andThen_ok]; rfl
    · have H' : Holds w l := ⟨sat_up b' y, okw⟩
      exact (H'.new (.mapIter none 0 #[] 0)).head fun h e => .inl ⟨rfl, rfl, rfl, e⟩
  · have hb := a _ _ h2
    refine St_value (v := .pointer (some ⟨w.heap.size, 0, none⟩)) (w' := w.alloc (.mapIter (some b) clock #[] clock)) hd (fun c e => by cases e) ?_ (kk _ _ ?_)
    · simp only [execOp, hx, Sem.run_bind, run_range_map w t k e b es clock hM.und hb, Result.andThen_ok]; rfl
    · have hne : b ≠ w.heap.size := by
        have := (Array.getElem?_eq_some_iff.1 hb).1
        omega
      have H' : Holds w (pts b (.map es clock) :: l) := ⟨⟨f, g', a, b', dd, h2, y⟩, okw⟩
      have H2 := H'.new (.mapIter (some b) clock #[] clock)
      obtain ⟨⟨f1, g1, a1, b1, d1, x1, f2, g2, a2, b2, d2, x2, y2⟩, ok2⟩ := H2
      refine ⟨⟨join f1 f2, g2, join_sub a1 (a2.trans b1), b2.trans b1, join_dis (d1.mono (Sub.rfl' _) b2) d2, ?_, y2⟩, ok2⟩
      refine .inr ⟨b, es, clock, clock, #[], rfl, join_right (d1.mono (Sub.rfl' _) a2) _ _ x2, h3, join_left _ _ x1, Nat.le_refl _, h3.born, by simp, by simp, by simp, by simp⟩

theorem run_nextM {ty : TypeId} {b bi since clock : Nat} {seen : Array Nat} {es : Array MapEntry} (hbi : w.heap[bi]? = some (.mapIter (some b) since seen clock)) (hb : w.heap[b]? = some (.map es clock)) (hold : ∀ x ∈ es.toList, x.born < since) (hsc : since ≤ clock) :
    ((leftOf es seen).size = 0 ∧ ∃ w', (Instr.next (.pointer (some ⟨bi, 0, none⟩)) false ty).run P w = .ok (.tuple #[.bool false]) w' ∧ w'.heap = w.heap ∧ Same w w') ∨
    ∃ e ∈ (leftOf es seen).toList, ∃ w' : World, (Instr.next (.pointer (some ⟨bi, 0, none⟩)) false ty).run P w = .ok (.tuple #[.bool true, e.key, e.val]) w' ∧
      w'.heap[bi]? = some (.mapIter (some b) since (seen.push e.born) clock) ∧ (∀ c, c ≠ bi → w'.heap[c]? = w.heap[c]?) ∧ Same w w' := by
  have hlt : bi < w.heap.size := (Array.getElem?_eq_some_iff.1 hbi).1
  simp only [Instr.next, getObj, Sem.run_bind, Sem.run, hbi, hb, Result.andThen, next_test_false seen es since clock hold hsc, Bool.false_eq_true, if_false]
  unfold leftOf
  have hmem : ∀ x ∈ (Array.filter (fun e => !seen.contains e.born) es).toList, x.born < since := fun x hx => hold x (by simp at hx ⊢; exact hx.1)
  generalize Array.filter (fun e => !seen.contains e.born) es = L at hmem ⊢
  have e1 : L.filter (fun x => decide (x.born < since)) = L := Array.filter_eq_self.2 (fun x hx => by simpa using hmem x (by simpa using hx))
  have e2 : L.filter (fun x => decide (x.born ≥ since)) = #[] := by
    rw [Array.filter_eq_empty_iff]
    intro x hx
    have := hmem x (by simpa using hx)
    simp
    omega
  simp only [e1, e2, Array.append_empty]
  by_cases h0 : L.size = 0
  · left
    have : L = #[] := Array.eq_empty_of_size_eq_zero h0
    subst this
    refine ⟨rfl, w, ?_, rfl, Same.refl w⟩
    simp [choose, Sem.run, Question.forced]
  · right
    have hne : L.isEmpty = false := by simp [Array.isEmpty, h0]
    simp only [hne, Bool.false_eq_true, if_false, Array.empty_append, Array.size_map]
    have hch : ∃ (j : Nat) (w1 : World), j < L.size ∧ (w1.heap = w.heap ∧ Same w w1) ∧ (choose (Question.mapNext L.size)).run P w = .ok j w1 := by
      by_cases hf : L.size ≤ 1
      · exact ⟨0, w, by omega, ⟨rfl, rfl, rfl⟩, by simp [choose, Sem.run, Question.forced, hf]⟩
      · exact ⟨_, w.drew, Nat.mod_lt _ (by omega), ⟨rfl, rfl, rfl⟩, by
          simp only [choose, Sem.run, Question.forced, decide_eq_true_eq, hf, if_false, Question.cut]
          rfl⟩
    obtain ⟨j, w1, hj, ⟨hal, hsm⟩, hrun⟩ := hch
    have hbi1 : w1.heap[bi]? = some (.mapIter (some b) since seen clock) := by rw [hal]; exact hbi
    refine ⟨L[j], by simp, w1.putObj bi (.mapIter (some b) since (seen.push L[j].born) clock), ?_, World.putObj_heap_same (by rw [hal]; exact hlt), fun c hc => by rw [World.putObj_heap_other hc, hal], hsm⟩
    simp only [hrun, Array.getElem?_map, Array.getElem?_eq_getElem hj, Option.map_some, Sem.run_bind, Result.andThen]
    have hset : (setObj bi (.mapIter (some b) since (seen.push L[j].born) clock)).run P w1 = .ok () (w1.putObj bi (.mapIter (some b) since (seen.push L[j].born) clock)) := by
      simp [setObj, Sem.run, hbi1, World.putObj]
    simp only [hset]
    rfl

theorem St_next [Extra] {v : Value} {bi : Nat} {ks : List K} (H : Holds w (mit ek vv v m bi ks :: l)) (hi : ∀ a b, ek a = ek b → a = b) (hx : ev σ x = .pointer (some ⟨bi, 0, none⟩)) (hd : okd n d = true)
    (kend : ks.Perm (m.map (·.1)) → ∀ w', Holds w' (mit ek vv v m bi ks :: l) → K' (put σ d (.tuple #[.bool false])) w')
    (kstep : ∀ q ∈ m, q.1 ∉ ks → ks.Nodup → (∀ y ∈ ks, y ∈ m.map (·.1)) → ∀ w', Holds w' (mit ek vv v m bi (ks ++ [q.1]) :: l) → K' (put σ d (.tuple #[.bool true, ek q.1, vv q.2])) w') : St P n r ⟨d, .next x false, u, p, af, g⟩ σ w K' := by
  obtain ⟨⟨f, g', a, b', dd, hm, y⟩, okw⟩ := H
  rcases hm with ⟨rfl, rfl, rfl, h0⟩ | ⟨b, es, clock, since, seen, rfl, h1, h2, h3, h4, h5, h6, h7, h8, h9⟩
  · have hb : w.heap[bi]? = some (.mapIter none 0 #[] 0) := a _ _ h0
    refine St_value (v := .tuple #[.bool false]) (w' := w) hd (fun c e => by cases e) ?_ (kend (by simp) w ⟨⟨f, g', a, b', dd, .inl ⟨rfl, rfl, rfl, h0⟩, y⟩, okw⟩)
    simp only [execOp, hx, Instr.next, getObj, Sem.run_bind, Sem.run, hb, Result.andThen]
    rfl
  · have hb : w.heap[b]? = some (.map es clock) := a _ _ h1
    have hbi : w.heap[bi]? = some (.mapIter (some b) since seen clock) := a _ _ h3
    have bn : (es.toList.map (·.born)).Nodup := h2.rise.imp fun h => Nat.ne_of_lt h
    have kn : (es.toList.map (·.key)).Nodup := by rw [h2.keys]; exact nodup_inj hi h2.nodup
    rcases run_nextM (P := P) (ty := u) hbi hb h5 h4 with ⟨h0, w', hr, hw, hsm⟩ | ⟨e, he, w', hr, hbi', hoth, hsm⟩
    · refine St_value (v := .tuple #[.bool false]) (w' := w') hd (fun c e => by cases e) ?_ (kend ?_ w' ?_)
      · simp only [execOp, hx, Sem.run_bind, hr, Result.andThen_ok]; rfl
      · refine (List.perm_ext_iff_of_nodup h6 h2.nodup).2 fun z => ⟨h7 z, fun hz => ?_⟩
        have : ek z ∈ es.toList.map (·.key) := by rw [h2.keys]; exact List.mem_map_of_mem hz
        obtain ⟨e, he, ee⟩ := List.mem_map.1 this
        refine (h8 e he z ee).2 ?_
        have hl : leftOf es seen = #[] := Array.eq_empty_of_size_eq_zero h0
        unfold leftOf at hl
        rw [Array.filter_eq_empty_iff] at hl
        have := hl e (by simpa using he)
        simpa using this
      · exact Holds.heap (w := w) ⟨⟨f, g', a, b', dd, .inr ⟨b, es, clock, since, seen, rfl, h1, h2, h3, h4, h5, h6, h7, h8, h9⟩, y⟩, okw⟩ hw hsm
    · have he' : e ∈ es.toList ∧ e.born ∉ seen := by
        have := mem_left he
        refine ⟨this.1, ?_⟩
        simpa using this.2
      obtain ⟨j, hj⟩ := List.getElem?_of_mem he'.1
      obtain ⟨q, hq, ek1, ev1⟩ := h2.at hj
      have hqm : q ∈ m := List.mem_of_getElem? hq
      have hqn : q.1 ∉ ks := fun hk => he'.2 ((h8 e he'.1 q.1 ek1).1 hk)
      refine St_value (v := .tuple #[.bool true, ek q.1, vv q.2]) (w' := w') hd (fun c e => by cases e) ?_ (kstep q hqm hqn h6 h7 w' ?_)
      · simp only [execOp, hx, Sem.run_bind, hr, Result.andThen_ok, ek1, ev1]; rfl
      · have hne : b ≠ bi := fun e0 => by rw [e0, hbi] at hb; cases hb
        refine ⟨⟨fun c => if c = bi then some (.mapIter (some b) since (seen.push e.born) clock) else f c, g', ?_, ?_, ?_, .inr ⟨b, es, clock, since, seen.push e.born, rfl, ?_, h2, ?_, h4, h5, ?_, ?_, ?_, ?_⟩, y⟩, okw.same hsm⟩
        · intro c o hc
          by_cases hcb : c = bi
          · subst hcb; simp at hc; subst hc; exact hbi'
          · simp [hcb] at hc; exact (hoth c hcb).trans (a c o hc)
        · intro c o hc
          have hcb : c ≠ bi := fun e0 => by subst e0; exact dd _ _ _ h3 hc
          exact (hoth c hcb).trans (b' c o hc)
        · intro c o o' hc hc'
          by_cases hcb : c = bi
          · subst hcb; exact dd _ _ _ h3 hc'
          · simp [hcb] at hc; exact dd _ _ _ hc hc'
        · simp [hne, h1]
        · simp
        · rw [List.nodup_append]
          exact ⟨h6, by simp, fun c hc c' hc' e0 => by simp at hc'; subst hc'; subst e0; exact hqn hc⟩
        · intro z hz
          rcases List.mem_append.1 hz with hz | hz
          · exact h7 z hz
          · simp at hz; subst hz; exact List.mem_map_of_mem hqm
        · intro e2 he2 z hz
          rw [List.mem_append, Array.mem_push, h8 e2 he2 z hz]
          simp only [List.mem_singleton]
          constructor
          · rintro (h | rfl)
            · exact .inl h
            · exact .inr (by rw [uniq_of kn he2 he'.1 (hz.trans ek1.symm)])
          · rintro (h | h)
            · exact .inl h
            · have := uniq_of bn he2 he'.1 h
              subst this
              exact .inr (hi _ _ (hz.symm.trans ek1))
        · intro z hz
          simp at hz
          subst hz
          exact ⟨e, he'.1, by simp, ek1⟩

end
end Go.SL
namespace Go.SL

section
variable {P : Program} {n : Nat} {r : Option Nat} {σ : Env} {w : World} {K : Env → World → Prop}
variable {u t : TypeId} {p : String} {af : Array Edge} {g : Option (Nat × Bool)} {d : Option Tmp} {x y z : Operand}

end
end Go.SL
