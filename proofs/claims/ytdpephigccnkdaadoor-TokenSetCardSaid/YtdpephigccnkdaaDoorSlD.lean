/- Regions whose operations may come in more than one order. No condition. -/
import Derived.Test.YtdpephigccnkdaaDoorSlC
set_option linter.unusedVariables false
set_option linter.unusedSimpArgs false
namespace Go.SL

section
variable {P : Program} {n : Nat} {r : Option Nat} {ops : Array Oper} {Q : Post} {ms : List Nat}

/-- Operation i comes up: it is carried out, or passed over. -/
def Op1 (P : Program) (n : Nat) (r : Option Nat) (ops : Array Oper) (i : Nat) (σ : Env) (w : World) (K : Env → World → Prop) : Prop :=
  ∃ o, ops[i]? = some o ∧ ((Wants ops σ o true ∧ St P n r o σ w K) ∨ (Wants ops σ o false ∧ okd n o.dst = true ∧ K (put σ o.dst undef) w))

/-- Is one of D listed? -/
def hit (D : List Nat) (L : Array Bool) : Bool := D.any fun d => L.getD d false
/-- What has been read stays so, until one of D is done. -/
def InvL (ivs : List (List Nat × (World → Prop))) (L : Array Bool) (w : World) : Prop := ∀ p ∈ ivs, hit p.1 L = true ∨ p.2 w
theorem InvL.nil {L : Array Bool} {w : World} : InvL [] L w := fun _ h => by cases h
theorem InvL.cons {D : List Nat} {rd : World → Prop} {ivs : List (List Nat × (World → Prop))} {L : Array Bool} {w : World} (h : hit D L = true ∨ rd w) (t : InvL ivs L w) : InvL ((D, rd) :: ivs) L w := fun p hp => by
  rcases List.mem_cons.1 hp with rfl | hp
  · exact h
  · exact t p hp

/-- Whatever order is picked from here on; between any two operations Inv holds. -/
def Any (P : Program) (n : Nat) (r : Option Nat) (ops : Array Oper) (ivs : List (List Nat × (World → Prop))) (T : Env → World → Prop) : Nat → Array Bool → Env → World → Prop
  | 0, listed, σ, w => InvL ivs listed w ∧ Region.ready .any ops listed = [] ∧ T σ w
  | f + 1, listed, σ, w => InvL ivs listed w ∧ (Region.ready .any ops listed = [] → T σ w) ∧ ∀ i ∈ Region.ready .any ops listed, Op1 P n r ops i σ w (Any P n r ops ivs T f (listed.setIfInBounds i true))

theorem Op1.mono {i : Nat} {σ : Env} {w : World} {K K' : Env → World → Prop} (h : Op1 P n r ops i σ w K) (hk : ∀ σ w, K σ w → K' σ w) : Op1 P n r ops i σ w K' := by
  obtain ⟨o, ho, ⟨h1, h2⟩ | ⟨h1, h2, h3⟩⟩ := h
  · exact ⟨o, ho, .inl ⟨h1, St_mono h2 hk⟩⟩
  · exact ⟨o, ho, .inr ⟨h1, h2, hk _ _ h3⟩⟩

theorem Op1.sound {i : Nat} {σ : Env} {w : World} {K : Env → World → Prop} {K' : Act → World → Prop} (h : Op1 P n r ops i σ w K) (hk : ∀ σ w a, Rel n ms σ a → K σ w → K' a w) {a : Act} (ra : Rel n ms σ a) :
    wpOpIn (F r) 0 P ops (lift n Q) i K' a w := by
  obtain ⟨o, ho, ⟨h1, h2⟩ | ⟨h1, h2, h3⟩⟩ := h
  · unfold wpOpIn
    simp only [ho, h1.wanted ra, if_true]
    exact Oper.wpIn_mono (fun a' w' ⟨σ', ra', q⟩ => hk σ' w' a' ra' q) (h2 ms a _ ra)
  · unfold wpOpIn
    simp only [ho, h1.wanted ra, Bool.false_eq_true, if_false]
    exact ⟨fun _ _ => trivial, hk _ _ _ (ra.put undef h2) h3⟩

theorem Any.sound {ivs : List (List Nat × (World → Prop))} {T : Env → World → Prop} (hT : ∀ σ w, T σ w → Q .normal ms σ w) : ∀ (f : Nat) (listed : Array Bool) (σ : Env) (w : World) (a : Act), Any P n r ops ivs T f listed σ w → Rel n ms σ a →
    wpAnyIn (F r) 0 P .any ops (lift n Q) f listed a w
  | 0, _, σ, w, a, h, ra => ⟨h.2.1, ms, σ, ra, hT _ _ h.2.2⟩
  | f + 1, _, σ, w, a, h, ra => ⟨fun h0 => ⟨ms, σ, ra, hT _ _ (h.2.1 h0)⟩, fun i hi => (h.2.2 i hi).sound (fun σ' w' a' ra' q => Any.sound hT f _ σ' w' a' q ra') ra⟩

/-- A region that draws its order. -/
theorem C_draw {id : Nat} {l : List Oper} {σ : Env} {w : World} (hm : P.follows .mixedOrders = true)
    (h : Any P n r l.toArray [] (fun σ w => Q .normal ms σ w) l.length (Array.replicate l.length false) σ { w with drawn := w.drawn + 1 }) : C P n r (.region id l.toArray true) Q ms σ w := fun a ra =>
  wpIn_region_any hm (Any.sound (fun _ _ h => h) _ _ σ _ a (by simpa using h) ra)

/-! ### An operation that is taken first -/

/-- Op1 without the world: it yields v in each world of Inv, and leaves it alone. -/
def Still (P : Program) (ops : Array Oper) (Inv : World → Prop) (i : Nat) (σ : Env) (v : Value) : Prop :=
  ∃ o, ops[i]? = some o ∧ (∀ c, o.op ≠ .defer c) ∧ ((Wants ops σ o true ∧ ∀ w, Inv w → (execOp (ev σ) o).run P w = .ok (.value v) w) ∨ (Wants ops σ o false ∧ v = undef))

theorem Still.op1 {Inv : World → Prop} {i : Nat} {σ : Env} {v : Value} {w : World} {K : Env → World → Prop} (h : Still P ops Inv i σ v) (hw : Inv w) (hd : okd n ((ops[i]?).bind (·.dst)) = true) (hk : K (put σ ((ops[i]?).bind (·.dst)) v) w) :
    Op1 P n r ops i σ w K := by
  obtain ⟨o, ho, hdf, h⟩ := h
  have ed : (ops[i]?).bind (·.dst) = o.dst := by rw [ho]; rfl
  rw [ed] at hd hk
  rcases h with ⟨h1, h2⟩ | ⟨h1, rfl⟩
  · exact ⟨o, ho, .inl ⟨h1, St_value hd hdf (h2 w hw) hk⟩⟩
  · exact ⟨o, ho, .inr ⟨h1, hd, hk⟩⟩

theorem ev_put {σ : Env} {d : Option Tmp} {v : Value} {x : Operand} (h : ∀ t, d = some t → x ≠ .tmp t) : ev (put σ d v) x = ev σ x := by
  cases d with
  | none => rfl
  | some t =>
    cases x with
    | tmp u =>
      have hne : u ≠ t := fun e => h t rfl (by rw [e])
      show (bif Nat.beq u t then v else σ u) = σ u
      cases hb : Nat.beq u t with
      | false => rfl
      | true => exact absurd (Nat.eq_of_beq_eq_true hb) hne
    | const v => rfl
    | global g => rfl
    | func f => rfl

theorem upd_comm {σ : Env} {d e : Nat} {v u : Value} (h : d ≠ e) : upd (upd σ d v) e u = upd (upd σ e u) d v := by
  funext j
  unfold upd
  cases h1 : Nat.beq j e <;> cases h2 : Nat.beq j d <;> try rfl
  exact absurd ((Nat.eq_of_beq_eq_true h2).symm.trans (Nat.eq_of_beq_eq_true h1)) h

theorem put_comm {σ : Env} {x y : Option Tmp} {v u : Value} (h : ∀ d, x = some d → y ≠ some d) : put (put σ x v) y u = put (put σ y u) x v := by
  cases x with
  | none => rfl
  | some d =>
    cases y with
    | none => rfl
    | some e => exact upd_comm (fun he => h d rfl (by rw [he]))

theorem execOp_put' (o : Oper) (hs : ∀ cs b, o.op ≠ .select cs b) (σ : Env) (dst : Option Tmp) (v : Value) (h : ∀ d, dst = some d → d ∉ o.looksAt ops) : execOp (ev (put σ dst v)) o = execOp (ev σ) o :=
  execOp_congr o hs fun x hx => ev_put fun d hd hxd => h d hd (by
    subst hxd
    exact List.mem_append_left _ (List.mem_filterMap.2 ⟨.tmp d, by simpa using hx, rfl⟩))

theorem gv_put {σ : Env} {d : Option Tmp} {v : Value} {j : Nat} (h : ∀ t, d = some t → t ∉ ((ops[j]?).bind (·.dst)).toList) : gv ops (put σ d v) j = gv ops σ j := by
  unfold gv
  cases hj : (ops[j]?).bind (·.dst) with
  | none => rfl
  | some t =>
    have : put σ d v t = σ t := ev_put (σ := σ) (d := d) (v := v) (x := .tmp t) (fun u hu e => h u hu (by rw [hj]; cases e; simp))
    simp only [Option.map_some, this]

theorem Wants_put {o : Oper} {σ : Env} {d : Option Tmp} {v : Value} {t : Bool} (h : ∀ u, d = some u → u ∉ o.looksAt ops) : Wants ops (put σ d v) o t ↔ Wants ops σ o t := by
  unfold Wants
  cases hg : o.guard with
  | none => rfl
  | some jw =>
    obtain ⟨j, want⟩ := jw
    have e : gv ops (put σ d v) j = gv ops σ j := gv_put (fun u hu hm => h u hu (by
      unfold Oper.looksAt
      rw [hg]
      exact List.mem_append_right _ hm))
    simp only [e]

theorem Still.put {Inv : World → Prop} {i j : Nat} {oi oj : Oper} {σ : Env} {v u : Value} (hi : ops[i]? = some oi) (hj : ops[j]? = some oj) (hap : oi.apart ops oj = true) (hsi : ∀ cs b, oi.op ≠ .select cs b)
    (h : Still P ops Inv i σ v) : Still P ops Inv i (put σ oj.dst u) v := by
  obtain ⟨o, ho, hdf, h⟩ := h
  have : o = oi := Option.some.inj (ho.symm.trans hi)
  subst this
  obtain ⟨h1, h2, h3⟩ := Oper.apart_spec hap
  refine ⟨o, ho, hdf, ?_⟩
  rcases h with ⟨a, b⟩ | ⟨a, b⟩
  · exact .inl ⟨(Wants_put h3).2 a, fun w hw => by rw [execOp_put' (ops := ops) o hsi σ oj.dst u h3]; exact b w hw⟩
  · exact .inr ⟨(Wants_put h3).2 a, b⟩

theorem St_put {oi oj : Oper} {σ : Env} {v : Value} {w : World} {K : Env → World → Prop} (hap : oi.apart ops oj = true) (hsj : ∀ cs b, oj.op ≠ .select cs b) (hdj : ∀ c, oj.op ≠ .defer c)
    (hd : okd n oi.dst = true) (hd' : okd n oj.dst = true) (h : St P n r oj (put σ oi.dst v) w K) : St P n r oj σ w (fun σ' w' => ∃ u, σ' = put σ oj.dst u ∧ K (put σ' oi.dst v) w') := fun ms a Q ra => by
  obtain ⟨h1, h2, h3⟩ := Oper.apart_spec hap
  have h := (h ms (a.put oi.dst v) (fun _ _ _ => False) (ra.put v hd)).2
  refine ⟨fun _ _ => trivial, ?_⟩
  have ra' := ra.put v hd
  rw [Oper.semAt_eq _ _ _ hdj, ra'.eval, execOp_put' (ops := ops) oj hsj σ oi.dst v h1] at h
  rw [Oper.semAt_eq _ _ _ hdj, ra.eval]
  have hok : ∀ (u : Value) (w' : World), (∃ σ', Rel n ms σ' ((a.put oi.dst v).put oj.dst u) ∧ K σ' w') → ∃ σ', Rel n ms σ' (a.put oj.dst u) ∧ ∃ u', σ' = put σ oj.dst u' ∧ K (put σ' oi.dst v) w' := by
    rintro u w' ⟨σ', ra2, hk⟩
    have ra3 := (ra.put v hd).put u hd'
    have e : σ' = put (put σ oi.dst v) oj.dst u := by
      funext i
      rw [← ra2.val, ← ra3.val]
    subst e
    refine ⟨_, ra.put u hd', u, rfl, ?_⟩
    rw [← put_comm h2]; exact hk
  generalize (execOp (ev σ) oj).run P w = res at *
  cases res with
  | ok x w' =>
    cases x <;> simp only [Oper.uponIn] at h ⊢
    case value u => exact hok u w' h
    case skip => exact hok undef w' h
    case defer d =>
      obtain ⟨σ', ra2, _⟩ := h
      have e1 := ra2.defs
      have e2 := ra'.defs
      exfalso
      have e3 : (d :: (a.put oi.dst v).defers) = marks ms := by
        rw [← e1]; cases oj.dst <;> rfl
      rw [e2] at e3
      have := congrArg List.length e3
      simp at this
    case enter f args =>
      refine ⟨h.1, CallsIn.mono h.2 fun e w'' he => ?_⟩
      cases e with
      | returned u => exact hok u w'' he
      | panicked c => exact he.elim
      | outgrown => obtain ⟨_, _, q⟩ := he; exact q.elim
    case row row args => exact ⟨h.1, RowsIn.mono h.2 fun u w'' he => hok u w'' he⟩
    case round l f tmps assign body =>
      refine ⟨h.1, RoundIn.mono h.2 fun e w'' he => ?_⟩
      cases e with
      | returned u => exact hok u w'' he
      | panicked c => exact he.elim
      | outgrown => obtain ⟨_, _, q⟩ := he; exact q.elim
  | halt x w' =>
    cases x <;> simp only [Oper.uponIn] at h ⊢

/-- The static look: every other operation that is still to come, and does not wait for i, is apart from it; none is a select or a defer; places are there. -/
def fitB (n : Nat) (ops : Array Oper) : Bool := ops.toList.all fun o => okd n o.dst && (match o.op with | .select _ _ => false | .defer _ => false | _ => true)

theorem fitB_spec (h : fitB n ops = true) {j : Nat} {o : Oper} (hj : ops[j]? = some o) : okd n o.dst = true ∧ (∀ cs b, o.op ≠ .select cs b) ∧ (∀ c, o.op ≠ .defer c) := by
  have hm : o ∈ ops.toList := by
    have := Array.mem_of_getElem? hj
    simpa using this
  have := List.all_eq_true.1 h o hm
  simp only [Bool.and_eq_true] at this
  refine ⟨this.1, fun cs b e => ?_, fun c e => ?_⟩
  · have h2 := this.2; rw [e] at h2; cases h2
  · have h2 := this.2; rw [e] at h2; cases h2

theorem Op1_put {i j : Nat} {oi : Oper} {σ : Env} {v : Value} {w : World} {K : Env → World → Prop} (hf : fitB n ops = true) (hi : ops[i]? = some oi) (hap : ∀ oj, ops[j]? = some oj → oi.apart ops oj = true)
    (h : Op1 P n r ops j (put σ oi.dst v) w K) : Op1 P n r ops j σ w (fun σ' w' => ∃ oj u, ops[j]? = some oj ∧ σ' = put σ oj.dst u ∧ K (put σ' oi.dst v) w') := by
  obtain ⟨oj, hj, h⟩ := h
  obtain ⟨d1, _, _⟩ := fitB_spec hf hi
  obtain ⟨d2, s2, f2⟩ := fitB_spec hf hj
  have ha := hap oj hj
  obtain ⟨h1, h2, h3⟩ := Oper.apart_spec ha
  refine ⟨oj, hj, ?_⟩
  rcases h with ⟨a, b⟩ | ⟨a, b, c⟩
  · exact .inl ⟨(Wants_put h1).1 a, St_mono (St_put ha s2 f2 d1 d2 b) fun σ' w' ⟨u, e, k⟩ => ⟨oj, u, hj, e, k⟩⟩
  · exact .inr ⟨(Wants_put h1).1 a, b, oj, undef, hj, rfl, by rw [← put_comm h2]; exact c⟩

/-- j waits for i, if not at once then by way of others. -/
def tw (ops : Array Oper) (i : Nat) : Nat → Nat → Bool
  | 0, _ => false
  | f + 1, j => match ops[j]? with
    | some o => o.after.any fun e => Region.binds .any e && (e.on == i || tw ops i f e.on)
    | none => false

def Closed (ops : Array Oper) (L : Array Bool) : Prop := ∀ j oj, ops[j]? = some oj → L.getD j false = true → ∀ e ∈ oj.after, Region.binds .any e = true → L.getD e.on false = true

theorem Closed.set {L : Array Bool} {i : Nat} (h : Closed ops L) (hi : i ∈ Region.ready .any ops L) : Closed ops (L.setIfInBounds i true) := fun j oj hj hl e he hb => by
  obtain ⟨_, oi, hoi, hall⟩ := mem_ready.1 hi
  by_cases hij : i = j
  · subst hij
    have : oj = oi := Option.some.inj (hj.symm.trans hoi)
    subst this
    exact getD_set_true (hall e he hb)
  · rw [getD_set_ne false hij] at hl
    exact getD_set_true (h j oj hj hl e he hb)

theorem tw_not {i : Nat} {L : Array Bool} (hc : Closed ops L) (hi : L.getD i false = false) : ∀ (f j : Nat), tw ops i f j = true → L.getD j false = false ∧ j ∉ Region.ready .any ops L
  | 0, _, h => by cases h
  | f + 1, j, h => by
    unfold tw at h
    split at h
    · rename_i o ho
      obtain ⟨e, he, hb⟩ := Array.any_eq_true'.1 h
      simp only [Bool.and_eq_true, Bool.or_eq_true, beq_iff_eq] at hb
      have hun : L.getD e.on false = false := by
        rcases hb.2 with h3 | h3
        · rw [h3]; exact hi
        · exact (tw_not hc hi f e.on h3).1
      refine ⟨?_, fun hr => ?_⟩
      · cases hl : L.getD j false with
        | false => rfl
        | true => rw [hc j o ho hl e he hb.1] at hun; cases hun
      · obtain ⟨_, o', ho', hall⟩ := mem_ready.1 hr
        have : o = o' := Option.some.inj (ho.symm.trans ho')
        subst this
        rw [hall e he hb.1] at hun; cases hun
    · cases h

theorem hit_set {D : List Nat} {L : Array Bool} {j : Nat} (h : hit D L = false) (hj : j ∉ D) : hit D (L.setIfInBounds j true) = false := by
  unfold hit at *
  rw [List.any_eq_false] at *
  intro d hd
  have := h d hd
  have hne : j ≠ d := fun e => hj (e ▸ hd)
  rw [getD_set_ne false hne]
  exact this

theorem hit_unset {D : List Nat} {L : Array Bool} {j : Nat} (h : hit D (L.setIfInBounds j true) = true) (hj : j ∉ D) : hit D L = true := by
  cases e : hit D L with
  | true => rfl
  | false => rw [hit_set e hj] at h; cases h

theorem Any.mono {ivs ivs' : List (List Nat × (World → Prop))} {T : Env → World → Prop} (hI : ∀ p ∈ ivs, p ∈ ivs') : ∀ (f : Nat) (listed : Array Bool) (σ : Env) (w : World), Any P n r ops ivs' T f listed σ w → Any P n r ops ivs T f listed σ w
  | 0, _, _, w, h => ⟨fun p hp => h.1 p (hI p hp), h.2⟩
  | f + 1, _, _, w, h => ⟨fun p hp => h.1 p (hI p hp), h.2.1, fun j hj => (h.2.2 j hj).mono fun σ w => Any.mono hI f _ σ w⟩

theorem Any.inv {ivs : List (List Nat × (World → Prop))} {T : Env → World → Prop} : ∀ {f : Nat} {listed : Array Bool} {σ : Env} {w : World}, Any P n r ops ivs T f listed σ w → InvL ivs listed w
  | 0, _, _, _, h => h.1
  | _ + 1, _, _, _, h => h.1

theorem ready_unlisted {i : Nat} {L : Array Bool} (h : i ∈ Region.ready .any ops L) : L.getD i false = false := by
  obtain ⟨h0, o, ho, _⟩ := mem_ready.1 h
  rcases Nat.lt_or_ge i L.size with h' | h'
  · simp [h'] at h0 ⊢; exact h0
  · simp [Array.getElem?_eq_none h'] at h0

/-- An operation that is taken first: its value is the same whatever comes ahead of it. Those of D come behind it. -/
theorem Any.first {ivs : List (List Nat × (World → Prop))} {rd : World → Prop} {T : Env → World → Prop} {i : Nat} {oi : Oper} {v : Value} (D : List Nat)
    (hf : fitB n ops = true) (hi : ops[i]? = some oi) (hD : ∀ d ∈ D, d ≠ i ∧ tw ops i ops.size d = true) (hiv : ∀ p ∈ ivs, i ∉ p.1) :
    ∀ (f : Nat) (listed : Array Bool) (σ : Env) (w : World), Closed ops listed → hit D listed = false →
      (∀ j oj, ops[j]? = some oj → j ≠ i → listed.getD j true = false → (∀ e ∈ oj.after, Region.binds .any e = true → e.on ≠ i) → oi.apart ops oj = true) →
      i ∈ Region.ready .any ops listed → Still P ops rd i σ v →
      Any P n r ops ((D, rd) :: ivs) T f (listed.setIfInBounds i true) (put σ oi.dst v) w → Any P n r ops ivs T (f + 1) listed σ w := by
  have hdi : okd n ((ops[i]?).bind (·.dst)) = true := by rw [hi]; exact (fitB_spec hf hi).1
  have edi : (ops[i]?).bind (·.dst) = oi.dst := by rw [hi]; rfl
  have hiD : i ∉ D := fun h => (hD i h).1 rfl
  have hsub : ∀ p ∈ ivs, p ∈ (D, rd) :: ivs := fun p hp => List.mem_cons_of_mem _ hp
  have hpr : ∀ L w, InvL ((D, rd) :: ivs) (L.setIfInBounds i true) w → InvL ivs L w := fun L w h p hp => (h p (hsub p hp)).imp (fun e => hit_unset e (hiv p hp)) id
  have hrd : ∀ L w, hit D L = false → InvL ((D, rd) :: ivs) (L.setIfInBounds i true) w → rd w := fun L w hh h => (h (D, rd) (List.mem_cons_self ..)).resolve_left (by rw [hit_set hh hiD]; simp)
  intro f
  induction f with
  | zero =>
    intro listed σ w hc hh _ hr hy H
    refine ⟨hpr _ w H.inv, fun h => (by rw [h] at hr; cases hr), fun j hj => ?_⟩
    by_cases hji : j = i
    · subst hji; exact hy.op1 (hrd _ w hh H.inv) hdi (by rw [edi]; exact Any.mono hsub _ _ _ _ H)
    · have := ready_mono hj hji
      rw [H.2.1] at this
      cases this
  | succ f ih =>
    intro listed σ w hc hh hfree hr hy H
    refine ⟨hpr _ w H.inv, fun h => (by rw [h] at hr; cases hr), fun j hj => ?_⟩
    by_cases hji : j = i
    · subst hji; exact hy.op1 (hrd _ w hh H.inv) hdi (by rw [edi]; exact Any.mono hsub _ _ _ _ H)
    · have hjD : j ∉ D := fun h => (tw_not hc (ready_unlisted hr) _ _ (hD j h).2).2 hj
      have h1 := H.2.2 j (ready_mono hj hji)
      obtain ⟨hjun, oj, hoj, hall⟩ := mem_ready.1 hj
      have hnot : ∀ e ∈ oj.after, Region.binds .any e = true → e.on ≠ i := fun e he hb heq => by
        have h1 := hall e he hb
        rw [heq, ready_unlisted hr] at h1
        cases h1
      have hap := hfree j oj hoj hji hjun hnot
      refine (Op1_put hf hi (fun o ho => by rw [Option.some.inj (ho.symm.trans hoj)]; exact hap) h1).mono ?_
      rintro σ' w' ⟨oj', u, hoj', rfl, h3⟩
      have ej : oj' = oj := Option.some.inj (hoj'.symm.trans hoj)
      subst ej
      have hfree' : ∀ k ok, ops[k]? = some ok → k ≠ i → (listed.setIfInBounds j true).getD k true = false →
          (∀ e ∈ ok.after, Region.binds .any e = true → e.on ≠ i) → oi.apart ops ok = true := fun k ok hk hki hun hno => by
        refine hfree k ok hk hki ?_ hno
        by_cases hjk : j = k
        · subst hjk; exact hjun
        · rw [getD_set_ne true hjk] at hun; exact hun
      rw [← Array.setIfInBounds_comm _ _ hji] at h3
      exact ih (listed.setIfInBounds j true) _ w' (hc.set hj) (hit_set hh hjD) hfree' (ready_mono hr (Ne.symm hji)) (hy.put hi hoj hap (fitB_spec hf hi).2.1) h3

/-! ### The steps -/

def clB (ops : Array Oper) (L : Array Bool) : Bool := (List.range ops.size).all fun j => !L.getD j false || match ops[j]? with
  | some o => o.after.all fun e => !Region.binds .any e || L.getD e.on false
  | none => true

theorem clB_spec {L : Array Bool} (h : clB ops L = true) : Closed ops L := fun j oj hj hl e he hb => by
  have hlt : j < ops.size := (Array.getElem?_eq_some_iff.1 hj).1
  have h1 := List.all_eq_true.1 h j (List.mem_range.2 hlt)
  rw [hl, hj] at h1
  simp only [Bool.not_true, Bool.false_or] at h1
  have h2 := Array.all_eq_true_iff_forall_mem.1 h1 e he
  simpa [hb] using h2

/-- What is looked at once for a step: that i is ready, and apart of those that may come ahead of it; those of D come behind it. -/
def stB (n : Nat) (ops : Array Oper) (ivs : List (List Nat)) (L : Array Bool) (i : Nat) (D : List Nat) : Bool :=
  fitB n ops && clB ops L && (D.all fun d => d != i && tw ops i ops.size d) && !hit D L && Region.free .any ops L i && (Region.ready .any ops L).contains i && ivs.all fun p => !p.contains i

variable {ivs : List (List Nat × (World → Prop))} {T : Env → World → Prop} {f : Nat} {L : Array Bool} {σ : Env} {w : World} {l : List HProp}

theorem A_still {o : Oper} {v : Value} {rd : World → Prop} (i : Nat) (D : List Nat) (hi : ops[i]? = some o) (hy : Still P ops rd i σ v) (hs : stB n ops (ivs.map (·.1)) L i D = true)
    (h : Any P n r ops ((D, rd) :: ivs) T f (L.setIfInBounds i true) (put σ o.dst v) w) : Any P n r ops ivs T (f + 1) L σ w := by
  simp only [stB, Bool.and_eq_true, Bool.not_eq_true'] at hs
  obtain ⟨⟨⟨⟨⟨⟨h1, h2⟩, h3⟩, h4⟩, h5⟩, h6⟩, h7⟩ := hs
  refine Any.first D h1 hi (fun d hd => ?_) (fun p hp => ?_) f L σ w (clB_spec h2) h4 (Region.free_spec hi h5) (by simpa using h6) hy h
  · have := List.all_eq_true.1 h3 d hd
    simp only [Bool.and_eq_true, bne_iff_ne] at this
    exact this
  · have := List.all_eq_true.1 h7 p.1 (List.mem_map_of_mem hp)
    simpa using this

/-- An operation that looks at no memory. -/
theorem A_val {o : Oper} {v : Value} (i : Nat) (hi : ops[i]? = some o) (hg : Wants ops σ o true) (hdf : ∀ c, o.op ≠ .defer c) (hv : ∀ w, (execOp (ev σ) o).run P w = .ok (.value v) w) (hs : stB n ops (ivs.map (·.1)) L i [] = true) (h : Any P n r ops ivs T f (L.setIfInBounds i true) (put σ o.dst v) w) :
    Any P n r ops ivs T (f + 1) L σ w :=
  A_still (rd := fun _ => True) i [] hi ⟨o, hi, hdf, .inl ⟨hg, fun w _ => hv w⟩⟩ hs (Any.mono (ivs := ([], fun _ => True) :: ivs) (ivs' := ([], fun _ => True) :: ivs) (fun _ h => h) _ _ _ _ (by
    have key : ∀ (f : Nat) (L : Array Bool) (σ : Env) (w : World), Any P n r ops ivs T f L σ w → Any P n r ops (([], fun _ => True) :: ivs) T f L σ w := by
      intro f
      induction f with
      | zero => exact fun L σ w h => ⟨InvL.cons (.inr trivial) h.1, h.2⟩
      | succ f ih => exact fun L σ w h => ⟨InvL.cons (.inr trivial) h.1, h.2.1, fun j hj => (h.2.2 j hj).mono fun σ w => ih _ σ w⟩
    exact key _ _ _ _ h))

theorem A_pv {d : Option Tmp} {op : Op} {u : TypeId} {p : String} {af : Array Edge} {g : Option (Nat × Bool)} {v : Value} (i : Nat) (hi : ops[i]? = some ⟨d, op, u, p, af, g⟩) (hg : Wants ops σ ⟨d, op, u, p, af, g⟩ true) (hv : pv σ op = some v) (hs : stB n ops (ivs.map (·.1)) L i [] = true) (h : Any P n r ops ivs T f (L.setIfInBounds i true) (put σ d v) w) :
    Any P n r ops ivs T (f + 1) L σ w :=
  A_val i hi hg (pv_defer (o := ⟨d, op, u, p, af, g⟩) hv) (fun _ => run_pv (o := ⟨d, op, u, p, af, g⟩) hv) hs h

/-- An operation whose guard says no. -/
theorem A_no {d : Option Tmp} {op : Op} {u : TypeId} {p : String} {af : Array Edge} {g : Option (Nat × Bool)} (i : Nat) (hi : ops[i]? = some ⟨d, op, u, p, af, g⟩) (hg : Wants ops σ ⟨d, op, u, p, af, g⟩ false) (hdf : ∀ c, op ≠ .defer c) (hs : stB n ops (ivs.map (·.1)) L i [] = true) (h : Any P n r ops ivs T f (L.setIfInBounds i true) (put σ d undef) w) :
    Any P n r ops ivs T (f + 1) L σ w :=
  A_still (rd := fun _ => True) i [] hi ⟨_, hi, hdf, .inr ⟨hg, rfl⟩⟩ hs (by
    have key : ∀ (f : Nat) (L : Array Bool) (σ : Env) (w : World), Any P n r ops ivs T f L σ w → Any P n r ops (([], fun _ => True) :: ivs) T f L σ w := by
      intro f
      induction f with
      | zero => exact fun L σ w h => ⟨InvL.cons (.inr trivial) h.1, h.2⟩
      | succ f ih => exact fun L σ w h => ⟨InvL.cons (.inr trivial) h.1, h.2.1, fun j hj => (h.2.2 j hj).mono fun σ w => ih _ σ w⟩
    exact key _ _ _ _ h)

/-- A read of one block; it is locked until one of D is done. -/
theorem A_read {o : Oper} {v : Value} {b : Nat} {ob : Obj} (i : Nat) (D : List Nat) (hi : ops[i]? = some o) (hg : Wants ops σ o true) (hdf : ∀ c, o.op ≠ .defer c) (hv : ∀ w, w.heap[b]? = some ob → (execOp (ev σ) o).run P w = .ok (.value v) w) (hs : stB n ops (ivs.map (·.1)) L i D = true)
    (h : Any P n r ops ((D, fun w => w.heap[b]? = some ob) :: ivs) T f (L.setIfInBounds i true) (put σ o.dst v) w) : Any P n r ops ivs T (f + 1) L σ w :=
  A_still i D hi ⟨o, hi, hdf, .inl ⟨hg, hv⟩⟩ hs h

/-- The only one that is ready. -/
theorem A_one {o : Oper} (i : Nat) (hi : ops[i]? = some o) (hr : Region.ready .any ops L = [i]) (hI : InvL ivs L w) (hg : Wants ops σ o true) (h : St P n r o σ w (Any P n r ops ivs T f (L.setIfInBounds i true))) : Any P n r ops ivs T (f + 1) L σ w :=
  ⟨hI, fun h0 => (by rw [hr] at h0; cases h0), fun j hj => by
    rw [hr] at hj
    have : j = i := by simpa using hj
    subst this
    exact ⟨o, hi, .inl ⟨hg, h⟩⟩⟩

/-- All are done. -/
theorem A_end (hr : Region.ready .any ops L = []) (hI : InvL ivs L w) (h : T σ w) : Any P n r ops ivs T f L σ w := by
  cases f with
  | zero => exact ⟨hI, hr, h⟩
  | succ f => exact ⟨hI, fun _ => h, fun j hj => by rw [hr] at hj; cases hj⟩
end
end Go.SL
