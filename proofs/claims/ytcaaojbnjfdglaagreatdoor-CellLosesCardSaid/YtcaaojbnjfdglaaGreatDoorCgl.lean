/- Cells: what is proved on the way: every input of the statement; no condition. Texts joined: ModA ModB ModC ModD ModE TabA. -/
import Derived.Test.YtcaaojbnjfdglaaGreatDoorCgf
import Derived.Test.YtcaaojbnjfdglaaGreatDoorCgk
import Derived.Test.YtcaaojbnjfdglaaGreatDoorCgj
set_option linter.unusedVariables false
set_option linter.unusedSimpArgs false
set_option linter.unusedSectionVars false
namespace Go.Proofs.YtcaaojbnjfdglaaGreatDoor
open Go.SL

structure Mob where
  region : Nat
  lay : Nat
  count : Nat
  w : List Nat
  kind : List Nat
  to : List Nat
  held : Bool
  pinned : Bool
  gone : Bool
structure MS where
  P : List Int
  lays : List Lay
  objs : List Mob
structure MobOK (lays : List Lay) (n : Nat) (x : Mob) : Prop where
  lay : ∃ l, lays[x.lay - 1]? = some l ∧ RightL l ∧ sizeL l x.count = (x.w.length, 0)
  lay1 : 1 ≤ x.lay
  kind : x.kind.length = x.w.length
  to : x.to.length = x.w.length
  goes : ∀ p, x.kind[p]? = some 2 → x.to.getD p 0 < n
structure MWF (m : MS) : Prop where
  P : 1 ≤ m.P.length ∧ m.P.length ≤ 100000
  lays : m.lays.length ≤ 64 ∧ ∀ l ∈ m.lays, RightL l
  objs : ∀ x ∈ m.objs, MobOK m.lays m.objs.length x
  few : m.objs.length ≤ 100000
def layM (m : MS) (x : Mob) : Lay := (m.lays[x.lay - 1]?).getD ⟨0, [], 0, []⟩
theorem layM_ok {lays : List Lay} {P : List Int} {os : List Mob} {n : Nat} {x : Mob} (h : MobOK lays n x) : lays[x.lay - 1]? = some (layM ⟨P, lays, os⟩ x) ∧ RightL (layM ⟨P, lays, os⟩ x) ∧ sizeL (layM ⟨P, lays, os⟩ x) x.count = (x.w.length, 0) := by
  obtain ⟨l, h1, h2, h3⟩ := h.lay
  have : layM ⟨P, lays, os⟩ x = l := by unfold layM; rw [h1]; rfl
  rw [this]
  exact ⟨h1, h2, h3⟩

/-- An object's block, its slices' values, what it is. -/
structure OC where
  ptr : Nat
  vw : Value
  vk : Value
  vt : Value
  ob : Mob
@[reducible] def mrow (vw vk vt : Value) (x : Mob) : Obj := row 50 [.int .i64 x.region, .int .i64 x.lay, .int .i64 x.count, vw, vk, vt, .bool x.held, .bool x.pinned, .bool x.gone]
@[reducible] def ocr (x : OC) : HProp := star [pts x.ptr (mrow x.vw x.vk x.vt x.ob), UL x.vw x.ob.w, NL x.vk x.ob.kind, NL x.vt x.ob.to]
structure MQ where
  t : Nat
  vL : Value
  lc : List LyC
  vO : Value
  oc : List OC
def MODEL (p : Nat) (m : MS) : HProp := ex fun q : MQ => star [prop (MWF m ∧ q.lc.map (·.2.2) = m.lays ∧ q.oc.map (·.ob) = m.objs), pts p (row 56 [pp q.t, q.vL, q.vO]), RTR q.t m.P, sls 101 4 q.vL (bcells q.lc), star (q.lc.map bres), sls 51 1 q.vO (q.oc.map fun x => pp x.ptr), star (q.oc.map ocr)]
theorem MODEL_out [Extra] {w : World} {p : Nat} {m : MS} {l : List HProp} (H : Holds w (MODEL p m :: l)) : ∃ (t : Nat) (lc : List LyC) (oc : List OC) (aL : Option Addr) (cL : Nat) (aO : Option Addr) (cO : Nat), MWF m ∧ lc.map (·.2.2) = m.lays ∧ oc.map (·.ob) = m.objs ∧ lc.length = m.lays.length ∧ oc.length = m.objs.length ∧
    Holds w (pts p (row 56 [pp t, .slice aL m.lays.length cL, .slice aO m.objs.length cO]) :: RTR t m.P :: sls 101 4 (.slice aL m.lays.length cL) (bcells lc) :: star (lc.map bres) :: sls 51 1 (.slice aO m.objs.length cO) (oc.map fun x => pp x.ptr) :: star (oc.map ocr) :: l) := by
  obtain ⟨⟨t, vL, lc, vO, oc⟩, H⟩ := Holds.ex.1 H
  have H := Holds.star.1 H
  obtain ⟨⟨h1, h2, h3⟩, H⟩ := Holds.prop.1 H
  have hl1 : lc.length = m.lays.length := by rw [← h2, List.length_map]
  have hl2 : oc.length = m.objs.length := by rw [← h3, List.length_map]
  obtain ⟨aL, cL, rfl⟩ := sls_slice (H.drop.drop) (bcells_length lc) (by decide)
  obtain ⟨aO, cO, rfl⟩ := sls_slice (m := oc.length) (H.drop.drop.drop.drop) (by simp) (by decide)
  refine ⟨t, lc, oc, aL, cL, aO, cO, h1, h2, h3, hl1, hl2, ?_⟩
  rw [← hl1, ← hl2]
  exact H
theorem MODEL_in [Extra] {w : World} {p t : Nat} {m : MS} {l : List HProp} {lc : List LyC} {oc : List OC} {vL vO : Value} (h1 : MWF m) (h2 : lc.map (·.2.2) = m.lays) (h3 : oc.map (·.ob) = m.objs)
    (H : Holds w (pts p (row 56 [pp t, vL, vO]) :: RTR t m.P :: sls 101 4 vL (bcells lc) :: star (lc.map bres) :: sls 51 1 vO (oc.map fun x => pp x.ptr) :: star (oc.map ocr) :: l)) : Holds w (MODEL p m :: l) :=
  Holds.ex.2 ⟨⟨t, vL, lc, vO, oc⟩, Holds.star.2 (Holds.prop.2 ⟨⟨h1, h2, h3⟩, H⟩)⟩

/-- One object, taken out. -/
theorem MODEL_at [Extra] {w : World} {p : Nat} {m : MS} {l : List HProp} (H : Holds w (MODEL p m :: l)) {o : Nat} {x : Mob} (ho : m.objs[o]? = some x) : ∃ (t : Nat) (lc : List LyC) (aL : Option Addr) (cL bO cO : Nat) (s ptrs : List Value) (q : Nat) (vw vk vt : Value) (rest : List HProp), MWF m ∧ lc.map (·.2.2) = m.lays ∧ (ptrs ++ s)[0 + o * 1]? = some (pp q) ∧
    Holds w (pts q (mrow vw vk vt x) :: UL vw x.w :: NL vk x.kind :: NL vt x.to :: pts bO (row 51 (ptrs ++ s)) :: pts p (row 56 [pp t, .slice aL m.lays.length cL, .slice (some ⟨bO, 0, none⟩) m.objs.length cO]) :: sls 101 4 (.slice aL m.lays.length cL) (bcells lc) :: star (lc.map bres) :: RTR t m.P :: star rest :: l) ∧
    ∀ (w' : World) (l' : List HProp) (x' : Mob), MWF { m with objs := m.objs.set o x' } → Holds w' (pts q (mrow vw vk vt x') :: UL vw x'.w :: NL vk x'.kind :: NL vt x'.to :: pts bO (row 51 (ptrs ++ s)) :: pts p (row 56 [pp t, .slice aL m.lays.length cL, .slice (some ⟨bO, 0, none⟩) m.objs.length cO]) :: sls 101 4 (.slice aL m.lays.length cL) (bcells lc) :: star (lc.map bres) :: RTR t m.P :: star rest :: l') → Holds w' (MODEL p { m with objs := m.objs.set o x' } :: l') := by
  obtain ⟨t, lc, oc, aL, cL, aO, cO, h1, h2, h3, hl1, hl2, H⟩ := MODEL_out H
  have hol : o < m.objs.length := (List.getElem?_eq_some_iff.1 ho).1
  obtain ⟨y, hy, hyx⟩ : ∃ y, oc[o]? = some y ∧ y.ob = x := by
    rw [← h3, List.getElem?_map, Option.map_eq_some_iff] at ho
    exact ho
  obtain ⟨q, vw, vk, vt, x1⟩ := y
  obtain rfl : x1 = x := hyx
  have hpk := SL.split_at hy
  replace H := Js [4,4,0,0,0,0] 0 H
  obtain ⟨bO, s, rfl, H, hclose⟩ := sls_open H (by omega)
  replace H := Js [1,0,0,0,0,0] 0 H
  have H := Holds.star.1 ((Holds.pick (R := ocr) hpk).1 H)
  replace H : Holds w (pts q (mrow vw vk vt x1) :: UL vw x1.w :: NL vk x1.kind :: NL vt x1.to :: star ((oc.take o ++ oc.drop (o + 1)).map ocr) :: pts bO (row 51 ((oc.map fun x => pp x.ptr) ++ s)) :: pts p (row 56 [pp t, .slice aL m.lays.length cL, .slice (some ⟨bO, 0, none⟩) m.objs.length cO]) :: RTR t m.P :: sls 101 4 (.slice aL m.lays.length cL) (bcells lc) :: star (lc.map bres) :: l) := H
  refine ⟨t, lc, aL, cL, bO, cO, s, oc.map fun x => pp x.ptr, q, vw, vk, vt, (oc.take o ++ oc.drop (o + 1)).map ocr, h1, h2, ?_, ?_, ?_⟩
  · rw [Nat.zero_add, Nat.mul_one, List.getElem?_append_left (by simp; omega), List.getElem?_map, hy]
    rfl
  · replace H := Js [0,0,0,0,1,1,2,2,1,0] 0 H
    exact H
  · intro w' l' x' hm' H
    replace H := Js [0,0,0,0,5,0,0,2,0,0] 0 H
    have H := (Holds.pick (R := ocr) (x := ⟨q, vw, vk, vt, x'⟩) (g1 := oc.take o) (g2 := oc.drop (o + 1)) rfl).2 (Holds.star.2 H)
    rw [← SL.set_split hy] at H
    replace H := Js [1,0,0,0,0,0] 0 H
    have H := hclose _ _ H
    have hp : (oc.map fun x => pp x.ptr) = ((oc.set o ⟨q, vw, vk, vt, x'⟩).map fun x => pp x.ptr) := by
      rw [List.map_set]
      symm
      apply List.ext_getElem?
      intro i
      rw [List.getElem?_set]
      split
      · rename_i hi
        subst hi
        rw [List.getElem?_map, hy]
        simp; omega
      · rfl
    rw [hp] at H
    replace H := Js [2,2,2,2,0,0] 0 H
    have hs : ({ m with objs := m.objs.set o x' } : MS).objs = m.objs.set o x' := rfl
    exact MODEL_in (m := { m with objs := m.objs.set o x' }) hm' h2 (by rw [List.map_set, h3]) H

def valM (m : MS) (o : Int) : Option (Nat × Mob) :=
  if 0 ≤ o then
    match m.objs[o.toNat]? with
    | some x => if x.held && !x.gone then some (o.toNat, x) else none
    | none => none
  else none
theorem valM_nat (m : MS) (o : Nat) : valM m o = match m.objs[o]? with | some x => if x.held && !x.gone then some (o, x) else none | none => none := by
  unfold valM
  rw [if_pos (by omega), Int.toNat_natCast]
def placeM (m : MS) (o place : Int) (ref : Bool) : Nat :=
  match valM m o with
  | none => 8
  | some (_, x) => placeE (layM m x) x.w.length place ref

theorem MODEL_same [Extra] {w : World} {p : Nat} {m : MS} {l : List HProp} {o : Nat} {x : Mob} (ho : m.objs[o]? = some x) (H : Holds w (MODEL p { m with objs := m.objs.set o x } :: l)) : Holds w (MODEL p m :: l) := by
  have : m.objs.set o x = m.objs := by
    apply List.ext_getElem?
    intro i
    rw [List.getElem?_set]
    split
    · rename_i hi
      subst hi
      rw [ho]
      have := (List.getElem?_eq_some_iff.1 ho).1
      simp [this]
    · rfl
  rw [this] at H
  exact H
theorem set_same {m : MS} {o : Nat} {x : Mob} (ho : m.objs[o]? = some x) (h : MWF m) : MWF { m with objs := m.objs.set o x } := by
  have : m.objs.set o x = m.objs := by
    apply List.ext_getElem?
    intro i
    rw [List.getElem?_set]
    split
    · rename_i hi
      subst hi
      rw [ho]
      have := (List.getElem?_eq_some_iff.1 ho).1
      simp [this]
    · rfl
  rw [this]
  exact h

theorem Valid_spec [Extra] (p : Nat) (m : MS) (o : Int) {w : World} {fr : List HProp} (H : Holds w (MODEL p m :: fr)) :
    Calls Tryz.prog 26 #[pp p, .int .i64 o] w (ret fun v w' => v = .bool (valM m o).isSome ∧ Holds w' (MODEL p m :: fr)) := by
  by_cases h0 : o ≥ 0
  · obtain ⟨k, rfl⟩ : ∃ k : Nat, o = k := ⟨o.toNat, by omega⟩
    by_cases h1 : k < m.objs.length
    · have hx := List.getElem?_eq_getElem h1
      generalize m.objs[k] = x at hx
      have hv : valM m k = if x.held && !x.gone then some (k, x) else none := by rw [valM_nat, hx]
      obtain ⟨t, lc, aL, cL, bO, cO, s, ptrs, q, vw, vk, vt, rest, hm, h2, hp, H, hclose⟩ := MODEL_at H hx
      have hm' := set_same hx hm
      obtain ⟨xr, xl, xc, xw, xk, xt, xh, xp, xg⟩ := x
      refine calls_of Tryz.func26 rfl (by kernel_rfl) ?_
      refine J77 H ?_
      rw [show decide ((k : Int) ≥ 0) = true from decide_eq_true (by omega)]
      refine J96 H ?_
      rw [show decide ((k : Int) < (m.objs.length : Int)) = true from decide_eq_true (by omega)]
      refine J172 H ?_
      refine Lp_g rfl rfl rfl (St_indexAddr rfl rfl (by omega) (by omega) rfl ?_)
      refine Lp_g rfl rfl rfl (St_load1 H rfl hp rfl ?_)
      cases xh with
      | true =>
        refine J24 H ?_
        refine J67 H ?_
        refine J172 H ?_
        refine Lp_g rfl rfl rfl (St_indexAddr rfl rfl (by omega) (by omega) rfl ?_)
        refine Lp_g rfl rfl rfl (St_load1 H rfl hp rfl ?_)
        refine J209 H ?_
        refine J4 H ?_
        refine C_ret (Jy (MODEL_same hx (hclose _ _ _ hm' H)) rfl fun w' H' => ⟨?_, H'⟩)
        rw [hv]
        cases xg <;> rfl
      | false =>
        refine J24 H ?_
        refine J67 H ?_
        refine J64 H ?_
        refine J157 H ?_
        refine J4 H ?_
        refine C_ret (Jy (MODEL_same hx (hclose _ _ _ hm' H)) rfl fun w' H' => ⟨?_, H'⟩)
        rw [hv]
        rfl
    · have hv : valM m k = none := by rw [valM_nat, List.getElem?_eq_none (by omega)]
      obtain ⟨t, lc, oc, aL, cL, aO, cO, a1, a2, a3, a4, a5, H⟩ := MODEL_out H
      refine calls_of Tryz.func26 rfl (by kernel_rfl) ?_
      refine J77 H ?_
      rw [show decide ((k : Int) ≥ 0) = true from decide_eq_true (by omega)]
      refine J96 H ?_
      rw [show decide ((k : Int) < (m.objs.length : Int)) = false from decide_eq_false (by omega)]
      refine J135 H ?_
      refine J94 H ?_
      refine J64 H ?_
      refine J157 H ?_
      refine J4 H ?_
      refine C_ret (Jy (MODEL_in a1 a2 a3 H) rfl fun w' H' => ⟨?_, H'⟩)
      rw [hv]
      rfl
  · have hv : valM m o = none := by unfold valM; rw [if_neg (by omega)]
    refine calls_of Tryz.func26 rfl (by kernel_rfl) ?_
    refine J77 H ?_
    rw [show decide (o ≥ 0) = false from decide_eq_false (by omega)]
    refine J161 H ?_
    refine J135 H ?_
    refine J94 H ?_
    refine J64 H ?_
    refine J157 H ?_
    refine J4 H ?_
    refine C_ret (Jy H rfl fun w' H' => ⟨?_, H'⟩)
    rw [hv]
    rfl
end Go.Proofs.YtcaaojbnjfdglaaGreatDoor
namespace Go.Proofs.YtcaaojbnjfdglaaGreatDoor
open Go.SL

theorem LAYS_at [Extra] {w : World} {aL : Option Addr} {n cL : Nat} {lc : List LyC} {l : List HProp} (hn : lc.length = n) (H : Holds w (sls 101 4 (.slice aL n cL) (bcells lc) :: star (lc.map bres) :: l)) {i : Nat} {y : LyC} (hy : lc[i]? = some y) :
    ∃ (bL : Nat) (s : List Value) (D1 D2 R : HProp), aL = some ⟨bL, 0, none⟩ ∧ Holds w (pts bL (row 101 (bcells lc ++ s)) :: D1 :: D2 :: R :: l) ∧ (∀ l', RdL (D1 :: D2 :: l') y.1 y.2.1 y.2.2) ∧
      ∀ (w' : World) (l' : List HProp), Holds w' (pts bL (row 101 (bcells lc ++ s)) :: D1 :: D2 :: R :: l') → Holds w' (sls 101 4 (.slice aL n cL) (bcells lc) :: star (lc.map bres) :: l') := by
  have hi : i < lc.length := (List.getElem?_eq_some_iff.1 hy).1
  have hpk := SL.split_at hy
  obtain ⟨vr, vq, l'⟩ := y
  obtain ⟨bL, s, rfl, H, hclose⟩ := sls_open H (by omega)
  have H := Holds.star.1 ((Holds.pick (R := bres) hpk).1 H.swap)
  replace H : Holds w (NL vr l'.refs :: NL vq l'.recs :: star ((lc.take i ++ lc.drop (i + 1)).map bres) :: pts bL (row 101 (bcells lc ++ s)) :: l) := H
  obtain ⟨D1, H, hD1, hC1⟩ := sls_rd H (ncells_length _) (by decide)
  obtain ⟨D2, H, hD2, hC2⟩ := sls_rd H.swap (ncells_length _) (by decide)
  replace H := Js [3,0,0,0] 0 H
  refine ⟨bL, s, D2, D1, star ((lc.take i ++ lc.drop (i + 1)).map bres), rfl, H, fun l' => ⟨(hD1 _).there, hD2 _⟩, ?_⟩
  intro w' l2 H
  replace H := Js [1,1,1,0] 0 H
  have H := hC1 _ _ (hC2 _ _ H).swap
  replace H := Js [0,0,0,0] 0 H
  have H := (Holds.pick (R := bres) hpk).2 (Holds.star.2 H)
  exact hclose _ _ H.swap
theorem MODEL_sizes {m : MS} {w : MWF m} {x : Mob} {o : Nat} (h : m.objs[o]? = some x) : x.w.length < 8192 := by
  obtain ⟨l, _, _, h⟩ := (w.objs x (List.mem_of_getElem? h)).lay
  unfold sizeL at h
  split at h
  · injection h with h1 h2; cases h2
  · split at h
    · injection h with h1 h2; cases h2
    · injection h with h1 h2; omega
theorem valM_some {m : MS} {o : Int} {k : Nat} {x : Mob} (h : valM m o = some (k, x)) : o = k ∧ m.objs[k]? = some x ∧ x.held = true ∧ x.gone = false := by
  unfold valM at h
  split at h
  · split at h
    · rename_i y hy
      split at h
      · rename_i hh
        injection h with h
        injection h with h1 h2
        subst h1 h2
        have hh' := Bool.and_eq_true_iff.1 hh
        exact ⟨by omega, hy, hh'.1, by simpa using hh'.2⟩
      · cases h
    · cases h
  · cases h
theorem lay_at {m : MS} (h : MWF m) {lc : List LyC} (hl : lc.map (·.2.2) = m.lays) {x : Mob} {o : Nat} (hx : m.objs[o]? = some x) : ∃ y : LyC, lc[x.lay - 1]? = some y ∧ y.2.2 = layM m x ∧ 1 ≤ x.lay ∧ x.lay ≤ lc.length ∧ RightL (layM m x) ∧ sizeL (layM m x) x.count = (x.w.length, 0) := by
  have hm := h.objs x (List.mem_of_getElem? hx)
  obtain ⟨h1, h2, h3⟩ := layM_ok (P := m.P) (os := m.objs) hm
  have h1' : m.lays[x.lay - 1]? = some (layM m x) := h1
  have h3' : (lc.map (·.2.2))[x.lay - 1]? = some (layM m x) := by rw [hl]; exact h1'
  rw [List.getElem?_map, Option.map_eq_some_iff] at h3'
  obtain ⟨y, hy, e⟩ := h3'
  have := (List.getElem?_eq_some_iff.1 hy).1
  have := hm.lay1
  exact ⟨y, hy, e, hm.lay1, by omega, h2, h3⟩
theorem sizeL_rec {l : Lay} {c : Nat} {n p : Nat} (h : sizeL l c = (n, 0)) (hp : p < n) : l.record ≠ 0 ∨ p < l.fixed := by
  unfold sizeL at h
  split at h
  · injection h with h1 h2; cases h2
  · split at h
    · injection h with h1 h2; cases h2
    · injection h with h1 h2
      by_cases h0 : l.record = 0
      · rw [h0] at h1; right; omega
      · left; exact h0

theorem Place_spec [Extra] (p : Nat) (m : MS) (o place : Int) (ref : Bool) {w : World} {fr : List HProp} (H : Holds w (MODEL p m :: fr)) :
    Calls Tryz.prog 28 #[pp p, .int .i64 o, .int .i64 place, .bool ref] w (ret fun v w' => v = .int .i64 (placeM m o place ref : Nat) ∧ Holds w' (MODEL p m :: fr)) := by
  refine calls_of Tryz.func28 rfl (by kernel_rfl) ?_
  refine J77 H ?_
  refine Jc rfl rfl (Valid_spec p m o H) ?_
  clear H; rintro v w ⟨rfl, H⟩
  refine J0 H ?_
  cases hv : valM m o with
  | none =>
    have hr : placeM m o place ref = 8 := by unfold placeM; rw [hv]
    refine J235 H ?_
    refine C_ret (Jy H rfl fun w' H' => ⟨by rw [hr]; rfl, H'⟩)
  | some kx =>
    obtain ⟨k, x⟩ := kx
    obtain ⟨rfl, hx, hh, hg⟩ := valM_some hv
    have hr : placeM m k place ref = placeE (layM m x) x.w.length place ref := by unfold placeM; rw [hv]
    have hkl := (List.getElem?_eq_some_iff.1 hx).1
    obtain ⟨t, lc, aL, cL, bO, cO, s, ptrs, q, vw, vk, vt, rest, hm, h2, hp, H, hclose⟩ := MODEL_at H hx
    have hm' := set_same hx hm
    obtain ⟨y, hy, hyl, hl1, hl2, hR, hsz⟩ := lay_at hm h2 hx
    obtain ⟨aw, cw, rfl⟩ := sls_slice H.drop (ucells_length _) (by decide)
    refine J34 H ?_
    refine J13 H ?_
    refine Lp_s rfl (St_indexAddr rfl rfl (by omega) (by omega) rfl ?_)
    refine Lp_s rfl (St_load1 H rfl hp rfl ?_)
    refine J171 H ?_
    by_cases h1 : place < 0 ∨ (x.w.length : Int) ≤ place
    · have hr' : placeM m k place ref = 3 := by rw [hr]; unfold placeE; rw [if_pos h1]
      by_cases h0 : place < 0
      · rw [show decide (place < 0) = true from decide_eq_true (by omega)]
        refine J161 H ?_
        refine J53 H ?_
        refine C_ret (Jy (MODEL_same hx (hclose _ _ _ hm' H)) rfl fun w' H' => ⟨by rw [hr']; rfl, H'⟩)
      · rw [show decide (place < 0) = false from decide_eq_false (by omega)]
        refine J96 H ?_
        rw [show decide (place ≥ (x.w.length : Int)) = true from decide_eq_true (by omega)]
        refine J53 H ?_
        refine C_ret (Jy (MODEL_same hx (hclose _ _ _ hm' H)) rfl fun w' H' => ⟨by rw [hr']; rfl, H'⟩)
    · obtain ⟨j, rfl⟩ : ∃ j : Nat, place = j := ⟨place.toNat, by omega⟩
      have hsm := MODEL_sizes (w := hm) hx
      rw [show decide ((j : Int) < 0) = false from decide_eq_false (by omega)]
      refine J96 H ?_
      rw [show decide ((j : Int) ≥ (x.w.length : Int)) = false from decide_eq_false (by omega)]
      refine J18 H ?_
      replace H := Js [6,6,0,0,0,0,0,0,0,0] 0 H
      obtain ⟨bL, sL, D1, D2, R, rfl, H, hD, hcl⟩ := LAYS_at (by rw [← h2, List.length_map]) H hy
      obtain ⟨vr, vq, ly⟩ := y
      obtain rfl : ly = layM m x := hyl
      refine J1 H ?_
      clear H; intro w H
      refine J16 H ?_
      refine A_load1 3 [12] H rfl (Wants.none rfl) rfl rfl (by kernel_rfl) ?_
      refine J225 H ?_
      refine A_load1 7 [12] H rfl (Wants.none rfl) rfl rfl (by kernel_rfl) ?_
      refine J70 H ?_
      rw [show IntKind.i64.wrap ((x.lay : Int) - 1) = ((x.lay - 1 : Nat) : Int) by rw [wrap64 (by omega) (by have := hm.lays.1; rw [← h2, List.length_map] at this; omega)]; omega]
      refine A_indexAddr 9 rfl (Wants.none rfl) rfl rfl (by omega) (by rw [← h2, List.length_map]; omega) (by kernel_rfl) ?_
      refine A_loadN 10 [12] H rfl (Wants.none rfl) rfl (bcells_reads hy) (by kernel_rfl) ?_
      refine J114 H ?_
      refine Jo 12 H ?_
      refine Jk rfl rfl (dIsRef_spec vr vq (layM m x) hR j (sizeL_rec hsz (by omega)) (by omega) ((hD _).there) H) ?_
      clear H; rintro v w ⟨rfl, H⟩
      refine J98 H ?_
      replace H := hcl _ _ H
      replace H := Js [2,2,2,2,2,2,0,0,0,0] 0 H
      replace H := MODEL_same hx (hclose _ _ _ hm' H)
      generalize hbb : isRefL (layM m x) j = bb
      cases bb with
      | true =>
        cases ref with
        | true =>
          refine J236 H ?_
          have hr' : placeM m k j true = 0 := by rw [hr]; unfold placeE; rw [if_neg h1, Int.toNat_natCast, if_neg (by rw [hbb]; decide)]
          refine J234 H ?_
          refine C_ret (Jy H rfl fun w' H' => ⟨by rw [hr']; rfl, H'⟩)
        | false =>
          refine J236 H ?_
          have hr' : placeM m k j false = 9 := by rw [hr]; unfold placeE; rw [if_neg h1, Int.toNat_natCast, if_pos (by rw [hbb]; decide)]
          refine J31 H ?_
          refine C_ret (Jy H rfl fun w' H' => ⟨by rw [hr']; rfl, H'⟩)
      | false =>
        cases ref with
        | true =>
          refine J236 H ?_
          have hr' : placeM m k j true = 9 := by rw [hr]; unfold placeE; rw [if_neg h1, Int.toNat_natCast, if_pos (by rw [hbb]; decide)]
          refine J31 H ?_
          refine C_ret (Jy H rfl fun w' H' => ⟨by rw [hr']; rfl, H'⟩)
        | false =>
          refine J236 H ?_
          have hr' : placeM m k j false = 0 := by rw [hr]; unfold placeE; rw [if_neg h1, Int.toNat_natCast, if_neg (by rw [hbb]; decide)]
          refine J234 H ?_
          refine C_ret (Jy H rfl fun w' H' => ⟨by rw [hr']; rfl, H'⟩)

@[reducible] def setM (m : MS) (k : Nat) (x : Mob) : MS := { m with objs := m.objs.set k x }
theorem MWF_set {m : MS} (h : MWF m) {o : Nat} {x : Mob} (hx : MobOK m.lays m.objs.length x) : MWF (setM m o x) := by
  refine ⟨h.P, h.lays, fun y hy => ?_, by show (m.objs.set o x).length ≤ _; rw [List.length_set]; exact h.few⟩
  have hl : (m.objs.set o x).length = m.objs.length := List.length_set
  show MobOK m.lays (m.objs.set o x).length y
  rw [hl]
  rcases List.mem_or_eq_of_mem_set hy with hy | rfl
  · exact h.objs y hy
  · exact hx

def dropM (m : MS) (o : Int) : MS × Nat :=
  match valM m o with
  | none => (m, 8)
  | some (k, x) => (setM m k { x with held := false }, 0)
theorem Drop15_spec [Extra] (p : Nat) (m : MS) (o : Int) {w : World} {fr : List HProp} (H : Holds w (MODEL p m :: fr)) :
    Calls Tryz.prog 53 #[pp p, .int .i64 o] w (ret fun v w' => v = .int .i64 ((dropM m o).2 : Nat) ∧ Holds w' (MODEL p (dropM m o).1 :: fr)) := by
  refine calls_of Tryz.func53 rfl (by kernel_rfl) ?_
  refine J77 H ?_
  refine Jc rfl rfl (Valid_spec p m o H) ?_
  clear H; rintro v w ⟨rfl, H⟩
  refine J0 H ?_
  cases hv : valM m o with
  | none =>
    have hr : dropM m o = (m, 8) := by unfold dropM; rw [hv]
    rw [hr]
    refine J235 H ?_
    refine C_ret (Jy H rfl fun w' H' => ⟨rfl, H'⟩)
  | some kx =>
    obtain ⟨k, x⟩ := kx
    have hr : dropM m o = (setM m k { x with held := false }, 0) := by unfold dropM; rw [hv]
    rw [hr]
    obtain ⟨rfl, hx, hh, hg⟩ := valM_some hv
    have hkl := (List.getElem?_eq_some_iff.1 hx).1
    obtain ⟨t, lc, aL, cL, bO, cO, s, ptrs, q, vw, vk, vt, rest, hm, h2, hp, H, hclose⟩ := MODEL_at H hx
    have hm' : MWF (setM m k { x with held := false }) := MWF_set hm (by obtain ⟨a, b, c, d, e⟩ := hm.objs x (List.mem_of_getElem? hx); exact ⟨a, b, c, d, e⟩)
    refine J34 H ?_
    refine J13 H ?_
    refine Lp_s rfl (St_indexAddr rfl rfl (by omega) (by omega) rfl ?_)
    refine Lp_s rfl (St_load1 H rfl hp rfl ?_)
    refine J56 H ?_
    clear H; intro w H
    refine J145 H ?_
    refine C_ret (Jy (hclose _ _ _ hm' H) rfl fun w' H' => ⟨rfl, H'⟩)

def pinM (m : MS) (o : Int) (on : Bool) : MS × Nat :=
  match valM m o with
  | none => (m, 8)
  | some (k, x) => if x.pinned = on then (m, 7) else (setM m k { x with pinned := on }, 0)
theorem Pin15_spec [Extra] (p : Nat) (m : MS) (o : Int) (on : Bool) {w : World} {fr : List HProp} (H : Holds w (MODEL p m :: fr)) :
    Calls Tryz.prog 54 #[pp p, .int .i64 o, .bool on] w (ret fun v w' => v = .int .i64 ((pinM m o on).2 : Nat) ∧ Holds w' (MODEL p (pinM m o on).1 :: fr)) := by
  refine calls_of Tryz.func54 rfl (by kernel_rfl) ?_
  refine J77 H ?_
  refine Jc rfl rfl (Valid_spec p m o H) ?_
  clear H; rintro v w ⟨rfl, H⟩
  refine J0 H ?_
  cases hv : valM m o with
  | none =>
    have hr : pinM m o on = (m, 8) := by unfold pinM; rw [hv]
    rw [hr]
    refine J235 H ?_
    refine C_ret (Jy H rfl fun w' H' => ⟨rfl, H'⟩)
  | some kx =>
    obtain ⟨k, x⟩ := kx
    have hr : pinM m o on = if x.pinned = on then (m, 7) else (setM m k { x with pinned := on }, 0) := by unfold pinM; rw [hv]
    rw [hr]
    obtain ⟨rfl, hx, hh, hg⟩ := valM_some hv
    have hkl := (List.getElem?_eq_some_iff.1 hx).1
    obtain ⟨t, lc, aL, cL, bO, cO, s, ptrs, q, vw, vk, vt, rest, hm, h2, hp, H, hclose⟩ := MODEL_at H hx
    have hm0 := set_same hx hm
    have hm' : MWF (setM m k { x with pinned := on }) := MWF_set hm (by obtain ⟨a, b, c, d, e⟩ := hm.objs x (List.mem_of_getElem? hx); exact ⟨a, b, c, d, e⟩)
    refine J34 H ?_
    obtain ⟨xr, xl, xc, xw, xk, xt, xh, xp, xg⟩ := x
    refine J13 H ?_
    refine Lp_s rfl (St_indexAddr rfl rfl (by omega) (by omega) rfl ?_)
    refine Lp_s rfl (St_load1 H rfl hp rfl ?_)
    cases xp with
    | true =>
      cases on with
      | true =>
        refine J80 H ?_
        refine J192 H ?_
        refine J31 H ?_
        refine C_ret (Jy (MODEL_same hx (hclose _ _ _ hm0 H)) rfl fun w' H' => ⟨rfl, H'⟩)
      | false =>
        refine J80 H ?_
        refine Lp_s rfl (St_eqBool rfl rfl (.inl rfl) rfl ?_)
        refine J237 H ?_
        refine J13 H ?_
        refine Lp_s rfl (St_indexAddr rfl rfl (by omega) (by omega) rfl ?_)
        refine Lp_s rfl (St_load1 H rfl hp rfl ?_)
        refine J27 H ?_
        refine J107 H ?_
        clear H; intro w H
        refine J145 H ?_
        refine C_ret (Jy (hclose _ _ _ hm' H) rfl fun w' H' => ⟨rfl, H'⟩)
    | false =>
      cases on with
      | true =>
        refine J80 H ?_
        refine Lp_s rfl (St_eqBool rfl rfl (.inl rfl) rfl ?_)
        refine J237 H ?_
        refine J13 H ?_
        refine Lp_s rfl (St_indexAddr rfl rfl (by omega) (by omega) rfl ?_)
        refine Lp_s rfl (St_load1 H rfl hp rfl ?_)
        refine J27 H ?_
        refine J107 H ?_
        clear H; intro w H
        refine J145 H ?_
        refine C_ret (Jy (hclose _ _ _ hm' H) rfl fun w' H' => ⟨rfl, H'⟩)
      | false =>
        refine J80 H ?_
        refine J192 H ?_
        refine J31 H ?_
        refine C_ret (Jy (MODEL_same hx (hclose _ _ _ hm0 H)) rfl fun w' H' => ⟨rfl, H'⟩)
end Go.Proofs.YtcaaojbnjfdglaaGreatDoor
namespace Go.Proofs.YtcaaojbnjfdglaaGreatDoor
open Go.SL

theorem ncells_setI {l : List Nat} {spare : List Value} {i x : Nat} {v : Int} (h : i < l.length) (hv : v = (x : Nat)) : (ncells l ++ spare).set (0 + i * 1) (.int .i64 v) = ncells (l.set i x) ++ spare := by subst hv; exact ncells_set h
theorem placeM_some {m : MS} {o place : Int} {ref : Bool} {k : Nat} {x : Mob} (h : valM m o = some (k, x)) : placeM m o place ref = placeE (layM m x) x.w.length place ref := by unfold placeM; rw [h]
theorem placeM_none {m : MS} {o place : Int} {ref : Bool} (h : valM m o = none) : placeM m o place ref = 8 := by unfold placeM; rw [h]

def cutM (m : MS) (o place : Int) : MS × Nat :=
  match valM m o with
  | none => (m, 8)
  | some (k, x) => if placeE (layM m x) x.w.length place true = 0 then (setM m k { x with kind := x.kind.set place.toNat 0, to := x.to.set place.toNat 0 }, 0) else (m, placeE (layM m x) x.w.length place true)
theorem cutM_none {m : MS} {o place : Int} (h : valM m o = none) : cutM m o place = (m, 8) := by unfold cutM; rw [h]
theorem cutM_some {m : MS} {o place : Int} {k : Nat} {x : Mob} (h : valM m o = some (k, x)) : cutM m o place = if placeE (layM m x) x.w.length place true = 0 then (setM m k { x with kind := x.kind.set place.toNat 0, to := x.to.set place.toNat 0 }, 0) else (m, placeE (layM m x) x.w.length place true) := by unfold cutM; rw [h]
theorem MobOK_cut {ls : List Lay} {n : Nat} {x : Mob} (h : MobOK ls n x) (j kd t : Nat) (hk : kd = 2 → t < n) : MobOK ls n { x with kind := x.kind.set j kd, to := x.to.set j t } := by
  obtain ⟨a, b, c, d, e⟩ := h
  refine ⟨a, b, by show (x.kind.set j kd).length = _; rw [List.length_set]; exact c, by show (x.to.set j t).length = _; rw [List.length_set]; exact d, ?_⟩
  intro i (hi : (x.kind.set j kd)[i]? = some 2)
  show (x.to.set j t).getD i 0 < n
  by_cases hji : j = i
  · subst hji
    have hl : j < x.kind.length := by
      have := (List.getElem?_eq_some_iff.1 hi).1
      simpa using this
    rw [List.getElem?_set_self hl] at hi
    injection hi with hi
    rw [List.getD_eq_getElem?_getD, List.getElem?_set_self (by omega)]
    exact hk hi
  · rw [List.getElem?_set_ne hji] at hi
    have := e i hi
    rw [List.getD_eq_getElem?_getD, List.getElem?_set_ne hji, ← List.getD_eq_getElem?_getD]
    exact this

theorem Cut15_spec [Extra] (p : Nat) (m : MS) (o place : Int) {w : World} {fr : List HProp} (H : Holds w (MODEL p m :: fr)) :
    Calls Tryz.prog 52 #[pp p, .int .i64 o, .int .i64 place] w (ret fun v w' => v = .int .i64 ((cutM m o place).2 : Nat) ∧ Holds w' (MODEL p (cutM m o place).1 :: fr)) := by
  refine calls_of Tryz.func52 rfl (by kernel_rfl) ?_
  refine J105 H ?_
  refine Jc rfl rfl (Place_spec p m o place true H) ?_
  clear H; rintro v w ⟨rfl, H⟩
  refine J26 H ?_
  by_cases h0 : placeM m o place true = 0
  · obtain ⟨k, x, hv⟩ : ∃ k x, valM m o = some (k, x) := by
      cases hv : valM m o with
      | none => rw [placeM_none hv] at h0; cases h0
      | some kx => exact ⟨kx.1, kx.2, rfl⟩
    rw [placeM_some hv] at h0 ⊢
    rw [cutM_some hv, if_pos h0, h0]
    obtain ⟨rfl, hx, hh, hg⟩ := valM_some hv
    have hkl := (List.getElem?_eq_some_iff.1 hx).1
    obtain ⟨j, rfl, hj, hr⟩ := placeE_ok h0
    rw [Int.toNat_natCast]
    obtain ⟨t, lc, aL, cL, bO, cO, s, ptrs, q, vw, vk, vt, rest, hm, h2, hp, H, hclose⟩ := MODEL_at H hx
    have hob := hm.objs x (List.mem_of_getElem? hx)
    have hkn := hob.kind
    have htn := hob.to
    have hsm := MODEL_sizes (w := hm) hx
    obtain ⟨ak, ck, rfl⟩ := sls_slice H.drop.drop (ncells_length _) (by decide)
    obtain ⟨at', ct, rfl⟩ := sls_slice H.drop.drop.drop (ncells_length _) (by decide)
    replace H := Js [2,0,0,0] 0 H
    obtain ⟨bk, sk, rfl, H, _, _, hck⟩ := sls_open2 H (by omega)
    replace H := Js [3,0,0,0] 0 H
    obtain ⟨bt, st, rfl, H, _, _, hct⟩ := sls_open2 H (by omega)
    refine J11 H ?_
    refine J13 H ?_
    refine Lp_s rfl (St_indexAddr rfl rfl (by omega) (by omega) rfl ?_)
    refine Lp_s rfl (St_load1 H rfl hp rfl ?_)
    refine J80 H ?_
    refine Lp_s rfl (St_indexAddr rfl rfl (by omega) (by omega) rfl ?_)
    refine Lp_s rfl (St_store1 H rfl rfl inferInstance rfl (by simp only [List.length_append, ncells_length]; omega) rfl ?_)
    clear H; intro w H
    rw [Int.toNat_natCast, ncells_setI (v := 0) (x := 0) (by omega) rfl] at H
    refine Lp_nil ?_
    refine J13 H ?_
    refine Lp_s rfl (St_indexAddr rfl rfl (by omega) (by omega) rfl ?_)
    refine Lp_s rfl (St_load1 H rfl hp rfl ?_)
    refine J80 H ?_
    refine Lp_s rfl (St_indexAddr rfl rfl (by omega) (by omega) rfl ?_)
    refine Lp_s rfl (St_store1 H rfl rfl inferInstance rfl (by simp only [List.length_append, ncells_length]; omega) rfl ?_)
    clear H; intro w H
    rw [Int.toNat_natCast, ncells_setI (v := 0) (x := 0) (by omega) rfl] at H
    refine Lp_nil ?_
    replace H := Js [1,0,0,0] 0 H
    replace H := hck _ _ (ncells (x.kind.set j 0)) (by simp [ncells]) H
    replace H := Js [1,0,0,0] 0 H
    replace H := hct _ _ (ncells (x.to.set j 0)) (by simp [ncells]) H
    replace H := Js [2,2,1,0] 0 H
    replace H := hclose _ _ { x with kind := x.kind.set j 0, to := x.to.set j 0 } (MWF_set hm (MobOK_cut hob j 0 0 (by omega))) H
    refine J3 H ?_
    exact C_ret (Jy H rfl fun w' H' => ⟨rfl, H'⟩)
  · have hc : cutM m o place = (m, placeM m o place true) := by
      cases hv : valM m o with
      | none => rw [cutM_none hv, placeM_none hv]
      | some kx =>
        obtain ⟨k, x⟩ := kx
        rw [placeM_some hv] at h0 ⊢
        rw [cutM_some hv, if_neg h0]
    rw [hc, show (((placeM m o place true : Nat) : Int) == 0) = false by simpa using h0]
    refine J8 H ?_
    refine J3 H ?_
    exact C_ret (Jy H rfl fun w' H' => ⟨rfl, H'⟩)

def tieM (m : MS) (o place u : Int) : MS × Nat :=
  match valM m o with
  | none => (m, 8)
  | some (k, x) => if placeE (layM m x) x.w.length place true = 0 then match valM m u with
    | none => (m, 8)
    | some (ku, _) => (setM m k { x with kind := x.kind.set place.toNat 2, to := x.to.set place.toNat ku }, 0)
    else (m, placeE (layM m x) x.w.length place true)
theorem Tie15_spec [Extra] (p : Nat) (m : MS) (o place u : Int) {w : World} {fr : List HProp} (H : Holds w (MODEL p m :: fr)) :
    Calls Tryz.prog 51 #[pp p, .int .i64 o, .int .i64 place, .int .i64 u] w (ret fun v w' => v = .int .i64 ((tieM m o place u).2 : Nat) ∧ Holds w' (MODEL p (tieM m o place u).1 :: fr)) := by
  refine calls_of Tryz.func51 rfl (by kernel_rfl) ?_
  refine J105 H ?_
  refine Jc rfl rfl (Place_spec p m o place true H) ?_
  clear H; rintro v w ⟨rfl, H⟩
  refine J26 H ?_
  by_cases h0 : placeM m o place true = 0
  · obtain ⟨k, x, hv⟩ : ∃ k x, valM m o = some (k, x) := by
      cases hv : valM m o with
      | none => rw [placeM_none hv] at h0; cases h0
      | some kx => exact ⟨kx.1, kx.2, rfl⟩
    rw [placeM_some hv] at h0 ⊢
    rw [h0]
    refine J214 H ?_
    refine Jc rfl rfl (Valid_spec p m u H) ?_
    clear H; rintro v w ⟨rfl, H⟩
    refine J0 H ?_
    cases hu : valM m u with
    | none =>
      have hr : tieM m o place u = (m, 8) := by unfold tieM; rw [hv]; show (if placeE _ _ _ _ = 0 then _ else _) = _; rw [if_pos h0, hu]
      rw [hr]
      refine J235 H ?_
      exact C_ret (Jy H rfl fun w' H' => ⟨rfl, H'⟩)
    | some kx =>
    obtain ⟨ku, xu⟩ := kx
    have hr : tieM m o place u = (setM m k { x with kind := x.kind.set place.toNat 2, to := x.to.set place.toNat ku }, 0) := by unfold tieM; rw [hv]; show (if placeE _ _ _ _ = 0 then _ else _) = _; rw [if_pos h0, hu]
    rw [hr]
    obtain ⟨rfl, hx, hh, hg⟩ := valM_some hv
    obtain ⟨rfl, hxu, _, _⟩ := valM_some hu
    have hkl := (List.getElem?_eq_some_iff.1 hx).1
    have hkul := (List.getElem?_eq_some_iff.1 hxu).1
    obtain ⟨j, rfl, hj, hr⟩ := placeE_ok h0
    rw [Int.toNat_natCast]
    refine J34 H ?_
    obtain ⟨t, lc, aL, cL, bO, cO, s, ptrs, q, vw, vk, vt, rest, hm, h2, hp, H, hclose⟩ := MODEL_at H hx
    have hob := hm.objs x (List.mem_of_getElem? hx)
    have hkn := hob.kind
    have htn := hob.to
    have hsm := MODEL_sizes (w := hm) hx
    obtain ⟨ak, ck, rfl⟩ := sls_slice H.drop.drop (ncells_length _) (by decide)
    obtain ⟨at', ct, rfl⟩ := sls_slice H.drop.drop.drop (ncells_length _) (by decide)
    replace H := Js [2,0,0,0] 0 H
    obtain ⟨bk, sk, rfl, H, _, _, hck⟩ := sls_open2 H (by omega)
    replace H := Js [3,0,0,0] 0 H
    obtain ⟨bt, st, rfl, H, _, _, hct⟩ := sls_open2 H (by omega)
    refine J13 H ?_
    refine Lp_s rfl (St_indexAddr rfl rfl (by omega) (by omega) rfl ?_)
    refine Lp_s rfl (St_load1 H rfl hp rfl ?_)
    refine J80 H ?_
    refine Lp_s rfl (St_indexAddr rfl rfl (by omega) (by omega) rfl ?_)
    refine Lp_s rfl (St_store1 H rfl rfl inferInstance rfl (by simp only [List.length_append, ncells_length]; omega) rfl ?_)
    clear H; intro w H
    rw [Int.toNat_natCast, ncells_setI (v := 2) (x := 2) (by omega) rfl] at H
    refine Lp_nil ?_
    refine J13 H ?_
    refine Lp_s rfl (St_indexAddr rfl rfl (by omega) (by omega) rfl ?_)
    refine Lp_s rfl (St_load1 H rfl hp rfl ?_)
    refine J10 H ?_
    refine J49 H ?_
    refine Lp_s rfl (St_indexAddr rfl rfl (by omega) (by omega) rfl ?_)
    refine Lp_s rfl (St_store1 H rfl rfl inferInstance rfl (by simp only [List.length_append, ncells_length]; omega) rfl ?_)
    clear H; intro w H
    rw [Int.toNat_natCast, ncells_setI (v := ku) (x := ku) (by omega) rfl] at H
    refine Lp_nil ?_
    replace H := Js [1,0,0,0] 0 H
    replace H := hck _ _ (ncells (x.kind.set j 2)) (by simp [ncells]) H
    replace H := Js [1,0,0,0] 0 H
    replace H := hct _ _ (ncells (x.to.set j ku)) (by simp [ncells]) H
    replace H := Js [2,2,1,0] 0 H
    replace H := hclose _ _ { x with kind := x.kind.set j 2, to := x.to.set j ku } (MWF_set hm (MobOK_cut hob j 2 ku (fun _ => hkul))) H
    refine J23 H ?_
    exact C_ret (Jy H rfl fun w' H' => ⟨rfl, H'⟩)
  · have hc : tieM m o place u = (m, placeM m o place true) := by
      cases hv : valM m o with
      | none => unfold tieM; rw [hv, placeM_none hv]
      | some kx =>
        obtain ⟨k, x⟩ := kx
        rw [placeM_some hv] at h0 ⊢
        unfold tieM; rw [hv]; show (if placeE _ _ _ _ = 0 then _ else _) = _; rw [if_neg h0]
    rw [hc, show (((placeM m o place true : Nat) : Int) != 0) = true by simpa using h0]
    refine J25 H ?_
    exact C_ret (Jy H rfl fun w' H' => ⟨rfl, H'⟩)

def holdM (m : MS) (t : Nat) : MS := match m.objs[t]? with | some y => setM m t { y with held := true } | none => m
def refM (m : MS) (o place : Int) : MS × Nat × Nat × Nat :=
  match valM m o with
  | none => (m, 0, 0, 8)
  | some (_, x) => if placeE (layM m x) x.w.length place true = 0 then (if x.kind.getD place.toNat 0 = 2 then holdM m (x.to.getD place.toNat 0) else m, x.kind.getD place.toNat 0, x.to.getD place.toNat 0, 0) else (m, 0, 0, placeE (layM m x) x.w.length place true)
theorem Ref15_spec [Extra] (p : Nat) (m : MS) (o place : Int) {w : World} {fr : List HProp} (H : Holds w (MODEL p m :: fr)) :
    Calls Tryz.prog 49 #[pp p, .int .i64 o, .int .i64 place] w (ret fun v w' => v = .tuple #[.int .i64 ((refM m o place).2.1 : Nat), .int .i64 ((refM m o place).2.2.1 : Nat), .int .i64 ((refM m o place).2.2.2 : Nat)] ∧ Holds w' (MODEL p (refM m o place).1 :: fr)) := by
  refine calls_of Tryz.func49 rfl (by kernel_rfl) ?_
  refine J15 H ?_
  refine J9 H ?_
  refine Jc rfl rfl (Place_spec p m o place true H) ?_
  clear H; rintro v w ⟨rfl, H⟩
  refine J26 H ?_
  by_cases h0 : placeM m o place true = 0
  · obtain ⟨k, x, hv⟩ : ∃ k x, valM m o = some (k, x) := by
      cases hv : valM m o with
      | none => rw [placeM_none hv] at h0; cases h0
      | some kx => exact ⟨kx.1, kx.2, rfl⟩
    rw [placeM_some hv] at h0 ⊢
    have hrm : refM m o place = (if x.kind.getD place.toNat 0 = 2 then holdM m (x.to.getD place.toNat 0) else m, x.kind.getD place.toNat 0, x.to.getD place.toNat 0, 0) := by unfold refM; rw [hv]; show (if placeE _ _ _ _ = 0 then _ else _) = _; rw [if_pos h0]
    rw [hrm, h0]
    refine J8 H ?_
    obtain ⟨rfl, hx, hh, hg⟩ := valM_some hv
    have hkl := (List.getElem?_eq_some_iff.1 hx).1
    obtain ⟨j, rfl, hj, hr⟩ := placeE_ok h0
    rw [Int.toNat_natCast]
    obtain ⟨t, lc, aL, cL, bO, cO, s, ptrs, q, vw, vk, vt, rest, hm, h2, hp, H, hclose⟩ := MODEL_at H hx
    have hob := hm.objs x (List.mem_of_getElem? hx)
    have hkn := hob.kind
    have htn := hob.to
    have hsm := MODEL_sizes (w := hm) hx
    obtain ⟨ak, ck, rfl⟩ := sls_slice H.drop.drop (ncells_length _) (by decide)
    obtain ⟨at', ct, rfl⟩ := sls_slice H.drop.drop.drop (ncells_length _) (by decide)
    replace H := Js [2,0,0,0] 0 H
    obtain ⟨bk, sk, rfl, H, _, _, hck⟩ := sls_open2 H (by omega)
    replace H := Js [3,0,0,0] 0 H
    obtain ⟨bt, st, rfl, H, _, _, hct⟩ := sls_open2 H (by omega)
    have hkj := List.getElem?_eq_getElem (l := x.kind) (i := j) (by omega)
    have htj := List.getElem?_eq_getElem (l := x.to) (i := j) (by omega)
    have hkd : x.kind.getD j 0 = x.kind[j] := by rw [List.getD_eq_getElem?_getD, hkj]; rfl
    have htd : x.to.getD j 0 = x.to[j] := by rw [List.getD_eq_getElem?_getD, htj]; rfl
    have hgo := hob.goes j
    rw [htd] at hgo
    rw [hkd, htd]
    generalize x.kind[j] = kd at *
    generalize x.to[j] = td at *
    refine J13 H ?_
    refine Lp_s rfl (St_indexAddr rfl rfl (by omega) (by omega) rfl ?_)
    refine Lp_s rfl (St_load1 H rfl hp rfl ?_)
    refine J80 H ?_
    refine Lp_s rfl (St_indexAddr rfl rfl (by omega) (by omega) rfl ?_)
    refine Lp_s rfl (St_load1 H rfl (ncells_get hkj) rfl ?_)
    refine J0 H ?_
    refine J13 H ?_
    refine Lp_s rfl (St_indexAddr rfl rfl (by omega) (by omega) rfl ?_)
    refine Lp_s rfl (St_load1 H rfl hp rfl ?_)
    refine J80 H ?_
    refine Lp_s rfl (St_indexAddr rfl rfl (by omega) (by omega) rfl ?_)
    refine Lp_s rfl (St_load1 H rfl (ncells_get htj) rfl ?_)
    refine J0 H ?_
    replace H := Js [1,0,0,0] 0 H
    replace H := hck _ _ (ncells x.kind) rfl H
    replace H := Js [1,0,0,0] 0 H
    replace H := hct _ _ (ncells x.to) rfl H
    replace H := Js [2,2,1,0] 0 H
    replace H := MODEL_same hx (hclose _ _ x (set_same hx hm) H)
    clear hck hct hclose
    refine J3 H ?_
    by_cases h2' : kd = 2
    · subst h2'
      rw [if_pos rfl]
      have htl := hgo hkj
      have hy := List.getElem?_eq_getElem htl
      generalize m.objs[td] = y at hy
      have hh' : holdM m td = setM m td { y with held := true } := by unfold holdM; rw [hy]
      rw [hh']
      refine J11 H ?_
      obtain ⟨t', lc', aL', cL', bO', cO', s', ptrs', q', vw', vk', vt', rest', hm', h2', hp', H, hclose⟩ := MODEL_at H hy
      refine J13 H ?_
      refine Lp_s rfl (St_indexAddr rfl rfl (by omega) (by omega) rfl ?_)
      refine Lp_s rfl (St_load1 H rfl hp' rfl ?_)
      refine J56 H ?_
      clear H; intro w H
      refine Lp_nil ?_
      refine J72 H ?_
      refine C_ret (Jy (hclose _ _ { y with held := true } (MWF_set hm (by obtain ⟨a, b, c, d, e⟩ := hm.objs y (List.mem_of_getElem? hy); exact ⟨a, b, c, d, e⟩)) H) rfl fun w' H' => ⟨rfl, H'⟩)
    · rw [if_neg h2', show ((kd : Int) == 2) = false by simp; omega]
      refine J8 H ?_
      refine J72 H ?_
      exact C_ret (Jy H rfl fun w' H' => ⟨rfl, H'⟩)
  · have hc : refM m o place = (m, 0, 0, placeM m o place true) := by
      cases hv : valM m o with
      | none => unfold refM; rw [hv, placeM_none hv]
      | some kx =>
        obtain ⟨k, x⟩ := kx
        rw [placeM_some hv] at h0 ⊢
        unfold refM; rw [hv]; show (if placeE _ _ _ _ = 0 then _ else _) = _; rw [if_neg h0]
    rw [hc, show (((placeM m o place true : Nat) : Int) != 0) = true by simpa using h0]
    refine J11 H ?_
    refine J165 H ?_
    exact C_ret (Jy H rfl fun w' H' => ⟨rfl, H'⟩)
end Go.Proofs.YtcaaojbnjfdglaaGreatDoor
namespace Go.Proofs.YtcaaojbnjfdglaaGreatDoor
open Go.SL

def ms0 : MS := ⟨[-1], [], []⟩
theorem New15_spec [Extra] {w : World} {fr : List HProp} (H : Holds w fr) : Calls Tryz.prog 45 #[] w (ret fun v w' => ∃ p, v = pp p ∧ Holds w' (MODEL p ms0 :: fr)) := by
  refine calls_of Tryz.func45 rfl (by kernel_rfl) ?_
  refine J163 H ?_
  refine Jc rfl rfl (dNew_spec H) ?_
  clear H; rintro v w ⟨t, rfl, H⟩
  refine J50 H ?_
  clear H; intro b3 w H
  refine J0 H ?_
  have H : Holds w (star (([] : List OC).map ocr) :: pts b3 (row 56 [pp t, .slice none 0 0, .slice none 0 0]) :: RTR t [-1] :: fr) := Holds.star.2 H
  have H := sls_nil (E := 51) (k := 1) H
  have H : Holds w (star (([] : List LyC).map bres) :: _) := Holds.star.2 H
  have H := sls_nil (E := 101) (k := 4) H
  replace H := Js [4,4,0,0,0,0] 0 H
  have hm : MWF ms0 := ⟨⟨by simp [ms0], by simp [ms0]⟩, ⟨by simp [ms0], fun l h => by cases h⟩, (fun l h => by cases h), by simp [ms0]⟩
  exact C_ret (Jy (MODEL_in (m := ms0) hm (lc := []) (oc := []) rfl rfl H) rfl fun w' H' => ⟨_, rfl, H'⟩)

/-- What Open leaves, and answers. -/
def openM (m : MS) (parent : Int) : MS × Nat × Nat := if dErr m.P parent = 0 then ({ m with P := m.P ++ [parent] }, m.P.length, 0) else (m, 0, dErr m.P parent)
theorem Open15_spec [Extra] (p : Nat) (m : MS) (parent : Int) (hP : m.P.length < 100000) {w : World} {fr : List HProp} (H : Holds w (MODEL p m :: fr)) :
    Calls Tryz.prog 47 #[pp p, .int .i64 parent] w (ret fun v w' => v = .tuple #[.int .i64 ((openM m parent).2.1 : Nat), .int .i64 ((openM m parent).2.2 : Nat)] ∧ Holds w' (MODEL p (openM m parent).1 :: fr)) := by
  obtain ⟨t, lc, oc, aL, cL, aO, cO, hm, h2, h3, hl1, hl2, H⟩ := MODEL_out H
  refine calls_of Tryz.func47 rfl (by kernel_rfl) ?_
  refine J3 H ?_
  refine J13 H ?_
  replace H := Js [1,0] 0 H
  refine Jc rfl rfl (dAdd_spec t m.P parent (by omega) hm.P.1 H) ?_
  clear H; rintro v w (⟨he, rfl, H⟩ | ⟨he, rfl, H⟩)
  · have hr : openM m parent = (m, 0, dErr m.P parent) := by unfold openM; rw [if_neg he]
    rw [hr]
    refine J170 H ?_
    exact C_ret (Jy (MODEL_in hm h2 h3 H.swap) rfl fun w' H' => ⟨rfl, H'⟩)
  · have hr : openM m parent = ({ m with P := m.P ++ [parent] }, m.P.length, 0) := by unfold openM; rw [if_pos he]
    rw [hr]
    have hm' : MWF { m with P := m.P ++ [parent] } := ⟨⟨by simp, by simp; omega⟩, hm.lays, hm.objs, hm.few⟩
    refine J170 H ?_
    exact C_ret (Jy (MODEL_in (m := { m with P := m.P ++ [parent] }) hm' h2 h3 H.swap) rfl fun w' H' => ⟨rfl, H'⟩)

/-- What Define leaves, and answers. -/
def defM (m : MS) (ws : List Nat) : MS × Nat × Nat :=
  match decodeL ws with
  | none => (m, 0, 4)
  | some l => if 64 ≤ m.lays.length then (m, 0, 5) else ({ m with lays := m.lays ++ [l] }, m.lays.length + 1, 0)
theorem MobOK_lays {ls : List Lay} {l : Lay} {n : Nat} {x : Mob} (h : MobOK ls n x) : MobOK (ls ++ [l]) n x := by
  obtain ⟨⟨l', a, a2⟩, b, c, d, e⟩ := h
  exact ⟨⟨l', by rw [List.getElem?_append_left (List.getElem?_eq_some_iff.1 a).1]; exact a, a2⟩, b, c, d, e⟩
theorem Define15_spec [Extra] (p : Nat) (m : MS) (v : Value) (ws : List Nat) (hws : ∀ x ∈ ws, x < 18446744073709551616) {w : World} {fr : List HProp} (hr : RdS fr v ws.length 1 (ucells ws)) (H : Holds w (MODEL p m :: fr)) :
    Calls Tryz.prog 46 #[pp p, v] w (ret fun r w' => r = .tuple #[.int .i64 ((defM m ws).2.1 : Nat), .int .i64 ((defM m ws).2.2 : Nat)] ∧ Holds w' (MODEL p (defM m ws).1 :: fr)) := by
  obtain ⟨_, ad, cap, rfl, hr'⟩ := id hr
  refine calls_of Tryz.func46 rfl (by kernel_rfl) ?_
  refine J3 H ?_
  refine J20 H ?_
  refine Jc rfl rfl (dDecode_spec _ ws hws hr.there H) ?_
  clear H; rintro r w (⟨hd, rfl, H⟩ | ⟨l, vr, vq, hd, rfl, H⟩)
  · have hdr : defM m ws = (m, 0, 4) := by unfold defM; rw [hd]
    rw [hdr]
    refine J19 H ?_
    clear H; intro b6 w H
    refine J7 H ?_
    clear H; intro w H
    refine J238 H ?_
    exact C_ret (Jy H.drop rfl fun w' H' => ⟨rfl, H'⟩)
  · obtain ⟨a1, m1, c1, rfl⟩ := sls_any H
    obtain ⟨a2, m2, c2, rfl⟩ := sls_any H.swap
    replace H := Js [2,0,0] 0 H
    obtain ⟨t, lc, oc, aL, cL, aO, cO, hm, h2, h3, hl1, hl2, H⟩ := MODEL_out H
    refine J19 H ?_
    clear H; intro b6 w H
    refine J7 H ?_
    clear H; intro w H
    refine J37 H ?_
    refine J193 H ?_
    by_cases h64 : 64 ≤ m.lays.length
    · have hdr : defM m ws = (m, 0, 5) := by unfold defM; rw [hd]; show (if _ then _ else _) = _; rw [if_pos h64]
      rw [hdr]
      rw [show decide ((m.lays.length : Int) ≥ 64) = true from decide_eq_true (by omega)]
      refine J25 H ?_
      have H := MODEL_in hm h2 h3 H.drop
      replace H := Js [0] 2 H
      exact C_ret (Jy H rfl fun w' H' => ⟨rfl, H'⟩)
    · have hdr : defM m ws = ({ m with lays := m.lays ++ [l] }, m.lays.length + 1, 0) := by unfold defM; rw [hd]; show (if _ then _ else _) = _; rw [if_neg h64]
      rw [hdr]
      have hR : RightL l := by
        unfold decodeL at hd
        split at hd
        · split at hd
          · injection hd with hd; rename_i hx; rw [← hd]; exact hx.2
          · cases hd
        · cases hd
      have hm' : MWF { m with lays := m.lays ++ [l] } := ⟨hm.P, ⟨by show (m.lays ++ [l]).length ≤ 64; simp; omega, fun x hx => by
        rcases List.mem_append.1 hx with hx | hx
        · exact hm.lays.2 x hx
        · simp at hx; subst hx; exact hR⟩, fun x hx => MobOK_lays (hm.objs x hx), hm.few⟩
      rw [show decide ((m.lays.length : Int) ≥ 64) = false from decide_eq_false (by omega)]
      refine J218 H ?_
      clear H; intro w H
      refine J160 H ?_
      refine A_load1 4 [7, 10] H rfl (Wants.none rfl) rfl rfl (by kernel_rfl) ?_
      refine J274 H ?_
      refine Jo 6 H ?_
      refine St_buildSlice H rfl rfl rfl ?_
      clear H; intro b27 w H
      replace H := Js [4,0,0,0,0] 0 H
      refine Jo 7 H ?_
      refine St_append H rfl rfl (by repeat (first | exact Reads.nil _ | apply Reads.cons rfl)) rfl (by decide) (by rw [bcells_length]; simp only [List.length_cons, List.length_nil]; omega) rfl rfl ?_
      clear H; intro v28 w H
      have e1 : bcells lc ++ [.int .i64 l.fixed, .slice a1 m1 c1, .int .i64 l.record, .slice a2 m2 c2] = bcells (lc ++ [(.slice a1 m1 c1, .slice a2 m2 c2, l)]) := by
        rw [bcells_append]; rfl
      rw [e1] at H
      have hql' : (lc ++ [((.slice a1 m1 c1 : Value), (.slice a2 m2 c2 : Value), l)]).length = m.lays.length + 1 := by simp [hl1]
      obtain ⟨a28, c28, rfl⟩ := sls_slice H (m := m.lays.length + 1) (by rw [bcells_length, hql']) (by decide)
      refine J70 H ?_
      refine A_fieldAddr 9 rfl (Wants.none rfl) rfl (by kernel_rfl) ?_
      refine Jo 10 H ?_
      refine J106 H ?_
      clear H; intro w H
      refine J2 H ?_
      refine J112 H ?_
      refine J4 H ?_
      replace H := Js [8,8,5,3,3,0,2,2] 2 H
      have H1 : Holds w (star ((lc ++ [((.slice a1 m1 c1 : Value), (.slice a2 m2 c2 : Value), l)]).map bres) :: pts p (row 56 [pp t, .slice a28 (m.lays.length + 1) c28, .slice aO m.objs.length cO]) :: RTR t m.P :: sls 101 4 (.slice a28 (m.lays.length + 1) c28) (bcells (lc ++ [(.slice a1 m1 c1, .slice a2 m2 c2, l)])) :: sls 51 1 (.slice aO m.objs.length cO) (oc.map fun x => pp x.ptr) :: star (oc.map ocr) :: fr) := by
        refine (Holds.pick (x := ((.slice a1 m1 c1 : Value), (.slice a2 m2 c2 : Value), l)) (g1 := lc) (g2 := []) rfl).2 ?_
        rw [List.append_nil]
        refine Holds.star.2 ?_
        exact H
      replace H1 := Js [1,1,1,0,0,0] 0 H1
      have H2 := MODEL_in (m := { m with lays := m.lays ++ [l] }) hm' (lc := lc ++ [((.slice a1 m1 c1 : Value), (.slice a2 m2 c2 : Value), l)]) (by rw [List.map_append, h2]; rfl) h3 H1
      exact C_ret (Jy H2 rfl fun w' H' => ⟨rfl, H'⟩)

/-- What is wrong with an object that is to be made; how many words it has. -/
def mayM (m : MS) (region lay count : Int) : Nat × Nat :=
  if liveP m.P region = false then (0, 15) else if lay < 1 ∨ (m.lays.length : Int) < lay then (0, 6) else sizeL ((m.lays[lay.toNat - 1]?).getD ⟨0, [], 0, []⟩) count
theorem May15_spec [Extra] (p : Nat) (m : MS) (region lay count : Int) {w : World} {fr : List HProp} (H : Holds w (MODEL p m :: fr)) :
    Calls Tryz.prog 115 #[pp p, .int .i64 region, .int .i64 lay, .int .i64 count] w (ret fun v w' => v = .tuple #[.int .i64 ((mayM m region lay count).1 : Nat), .int .i64 ((mayM m region lay count).2 : Nat)] ∧ Holds w' (MODEL p m :: fr)) := by
  obtain ⟨t, lc, oc, aL, cL, aO, cO, hm, h2, h3, hl1, hl2, H⟩ := MODEL_out H
  refine calls_of Tryz.func115 rfl (by kernel_rfl) ?_
  refine J3 H ?_
  refine J13 H ?_
  replace H := Js [1,0] 0 H
  refine Jc rfl rfl (dLive_spec t m.P region H) ?_
  clear H; rintro v w ⟨rfl, H⟩
  generalize hlv : liveP m.P region = lv
  have hlays := hm.lays.1
  cases lv with
  | false =>
    have hr : mayM m region lay count = (0, 15) := by unfold mayM; rw [if_pos hlv]
    rw [hr]
    refine J238 H ?_
    exact C_ret (Jy (MODEL_in hm h2 h3 H.swap) rfl fun w' H' => ⟨rfl, H'⟩)
  | true =>
    replace H := Js [1,0] 0 H
    refine J37 H ?_
    by_cases h1 : lay < 1
    · have hr : mayM m region lay count = (0, 6) := by unfold mayM; rw [if_neg (by rw [hlv]; decide), if_pos (.inl h1)]
      rw [hr]
      refine J6 H ?_
      rw [show decide (lay < 1) = true from decide_eq_true (by omega)]
      refine J161 H ?_
      refine J190 H ?_
      exact C_ret (Jy (MODEL_in hm h2 h3 H) rfl fun w' H' => ⟨rfl, H'⟩)
    · refine J6 H ?_
      rw [show decide (lay < 1) = false from decide_eq_false (by omega)]
      refine J96 H ?_
      by_cases h2' : (m.lays.length : Int) < lay
      · have hr : mayM m region lay count = (0, 6) := by unfold mayM; rw [if_neg (by rw [hlv]; decide), if_pos (.inr h2')]
        rw [hr]
        rw [show decide (lay > (m.lays.length : Int)) = true from decide_eq_true (by omega)]
        refine J190 H ?_
        exact C_ret (Jy (MODEL_in hm h2 h3 H) rfl fun w' H' => ⟨rfl, H'⟩)
      · obtain ⟨la, rfl⟩ : ∃ la : Nat, lay = ((la + 1 : Nat) : Int) := ⟨lay.toNat - 1, by omega⟩
        have hla : la < lc.length := by omega
        have hy := List.getElem?_eq_getElem hla
        generalize lc[la] = y at hy
        have hyl : m.lays[la]? = some y.2.2 := by rw [← h2, List.getElem?_map, hy]; rfl
        have hr : mayM m region ((la + 1 : Nat) : Int) count = sizeL y.2.2 count := by
          unfold mayM
          rw [if_neg (by rw [hlv]; decide), if_neg (by omega), Int.toNat_natCast, Nat.add_sub_cancel, hyl]
          rfl
        rw [hr]
        have hR := hm.lays.2 _ (List.mem_of_getElem? hyl)
        rw [show decide (((la + 1 : Nat) : Int) > (m.lays.length : Int)) = false from decide_eq_false (by omega)]
        refine J18 H ?_
        replace H := Js [2,2,0,0,0,0] 0 H
        obtain ⟨bL, sL, D1, D2, R, rfl, H, hD, hcl⟩ := LAYS_at hl1 H hy
        obtain ⟨vr, vq, l⟩ := y
        refine J42 H ?_
        rw [show IntKind.i64.wrap (((la + 1 : Nat) : Int) - 1) = (la : Int) by rw [wrap64 (by omega) (by omega)]; omega]
        refine Lp_s rfl (St_indexAddr rfl rfl (by omega) (by omega) rfl ?_)
        refine Lp_s rfl (St_loadN H rfl (bcells_reads hy) rfl ?_)
        refine J10 H ?_
        refine Jc rfl rfl (dSize_spec vr vq l hR count ((hD _).there) H) ?_
        clear H; rintro v w ⟨rfl, H⟩
        refine J170 H ?_
        replace H := hcl _ _ H
        replace H := Js [2,2,0,0,0,0] 0 H
        exact C_ret (Jy (MODEL_in hm h2 h3 H) rfl fun w' H' => ⟨rfl, H'⟩)
end Go.Proofs.YtcaaojbnjfdglaaGreatDoor
namespace Go.Proofs.YtcaaojbnjfdglaaGreatDoor
open Go.SL

def newM (region lay count : Int) (n : Nat) : Mob := ⟨region.toNat, lay.toNat, count.toNat, List.replicate n 0, List.replicate n 0, List.replicate n 0, true, false, false⟩
def makeM (m : MS) (region lay count : Int) : MS := { m with objs := m.objs ++ [newM region lay count (mayM m region lay count).1] }
theorem mayM_ok {m : MS} {region lay count : Int} (h : (mayM m region lay count).2 = 0) : ∃ (r la c : Nat) (l : Lay), region = r ∧ lay = (la + 1 : Nat) ∧ count = c ∧ liveP m.P region = true ∧ m.lays[la]? = some l ∧ mayM m region lay count = sizeL l c ∧ sizeL l c = (l.fixed + c * l.record, 0) ∧ l.fixed + c * l.record < 8192 := by
  unfold mayM at h ⊢
  by_cases h1 : liveP m.P region = false
  · rw [if_pos h1] at h; cases h
  · rw [if_neg h1] at h ⊢
    by_cases h2 : lay < 1 ∨ (m.lays.length : Int) < lay
    · rw [if_pos h2] at h; cases h
    · rw [if_neg h2] at h ⊢
      have h3 : liveP m.P region = true := by simpa using h1
      have h4 : 0 < region := by
        unfold liveP at h3
        exact (of_decide_eq_true h3).1
      obtain ⟨la, rfl⟩ : ∃ la : Nat, lay = ((la + 1 : Nat) : Int) := ⟨lay.toNat - 1, by omega⟩
      have hla : la < m.lays.length := by omega
      have hl := List.getElem?_eq_getElem hla
      generalize m.lays[la] = l at hl
      rw [Int.toNat_natCast, Nat.add_sub_cancel, hl] at h ⊢
      replace h : (sizeL l count).2 = 0 := h
      unfold sizeL at h
      split at h
      · cases h
      · rename_i hc
        split at h
        · cases h
        · rename_i hs
          obtain ⟨c, rfl⟩ : ∃ c : Nat, count = c := ⟨count.toNat, by omega⟩
          rw [Int.toNat_natCast] at hs
          refine ⟨region.toNat, la, c, l, by omega, rfl, rfl, h3, hl, rfl, ?_, by omega⟩
          unfold sizeL
          rw [if_neg hc, Int.toNat_natCast, if_neg hs]
theorem MWF_make {m : MS} {region lay count : Int} (h : (mayM m region lay count).2 = 0) (hm : MWF m) (hf : m.objs.length < 100000) : MWF (makeM m region lay count) := by
  obtain ⟨r, la, c, l, rfl, rfl, rfl, hl, hla, hmay, hsz, hlt⟩ := mayM_ok h
  have hlen : (m.objs ++ [newM r ((la + 1 : Nat) : Int) c (mayM m r ((la + 1 : Nat) : Int) c).1]).length = m.objs.length + 1 := by simp
  refine ⟨hm.P, hm.lays, fun x hx => ?_, by show (m.objs ++ [_]).length ≤ _; rw [hlen]; omega⟩
  show MobOK m.lays (m.objs ++ [_]).length x
  rw [hlen]
  rcases List.mem_append.1 hx with hx | hx
  · obtain ⟨a, b, c, d, e⟩ := hm.objs x hx
    exact ⟨a, b, c, d, fun p hp => by have := e p hp; omega⟩
  · simp only [List.mem_singleton] at hx
    subst hx
    rw [hmay, hsz]
    refine ⟨⟨l, ?_, hm.lays.2 l (List.mem_of_getElem? hla), ?_⟩, ?_, rfl, rfl, ?_⟩
    · show m.lays[(((la + 1 : Nat) : Int).toNat) - 1]? = _
      rw [Int.toNat_natCast]; exact hla
    · show sizeL l ((((c : Nat) : Int).toNat : Nat) : Int) = ((List.replicate (l.fixed + c * l.record) 0).length, 0)
      rw [Int.toNat_natCast, hsz, List.length_replicate]
    · show 1 ≤ ((la + 1 : Nat) : Int).toNat
      omega
    · intro p hp
      have : (List.replicate (l.fixed + c * l.record) 0)[p]? = some 2 := hp
      rw [List.getElem?_replicate] at this
      split at this <;> cases this

theorem make_in [Extra] {w : World} {p t bO bW bK bT n rr la c : Nat} {m : MS} {lc : List LyC} {oc : List OC} {aL aS : Option Addr} {cL cS : Nat} {fr : List HProp} (hm' : MWF { m with objs := m.objs ++ [newM (rr : Int) ((la + 1 : Nat) : Int) (c : Int) n] }) (h2 : lc.map (·.2.2) = m.lays) (h3 : oc.map (·.ob) = m.objs) (hl1 : lc.length = m.lays.length)
    (H : Holds w (pts bO (row 50 [.int .i64 rr, .int .i64 ((la + 1 : Nat) : Int), .int .i64 c, .slice (some ⟨bW, 0, none⟩) n n, .slice (some ⟨bK, 0, none⟩) n n, .slice (some ⟨bT, 0, none⟩) n n, .bool true, .bool false, .bool false]) :: UL (.slice (some ⟨bW, 0, none⟩) n n) (List.replicate n 0) :: NL (.slice (some ⟨bK, 0, none⟩) n n) (List.replicate n 0) :: NL (.slice (some ⟨bT, 0, none⟩) n n) (List.replicate n 0) :: star (oc.map ocr) ::
      pts p (row 56 [pp t, .slice aL m.lays.length cL, .slice aS (m.objs.length + 1) cS]) :: RTR t m.P :: sls 101 4 (.slice aL m.lays.length cL) (bcells lc) :: star (lc.map bres) :: sls 51 1 (.slice aS (m.objs.length + 1) cS) ((oc.map fun x => pp x.ptr) ++ [pp bO]) :: fr)) :
    Holds w (MODEL p { m with objs := m.objs ++ [newM (rr : Int) ((la + 1 : Nat) : Int) (c : Int) n] } :: fr) := by
  have H1 : Holds w (star ((oc ++ [(⟨bO, .slice (some ⟨bW, 0, none⟩) n n, .slice (some ⟨bK, 0, none⟩) n n, .slice (some ⟨bT, 0, none⟩) n n, newM (rr : Int) ((la + 1 : Nat) : Int) (c : Int) n⟩ : OC)]).map ocr) :: pts p (row 56 [pp t, .slice aL m.lays.length cL, .slice aS (m.objs.length + 1) cS]) :: RTR t m.P :: sls 101 4 (.slice aL m.lays.length cL) (bcells lc) :: star (lc.map bres) :: sls 51 1 (.slice aS (m.objs.length + 1) cS) ((oc.map fun x => pp x.ptr) ++ [pp bO]) :: fr) := by
    refine (Holds.pick (g1 := oc) (g2 := []) rfl).2 ?_
    rw [List.append_nil]
    exact Holds.star.2 H
  replace H1 := Js [1,1,1,1,1,0] 0 H1
  exact MODEL_in (m := { m with objs := m.objs ++ [newM (rr : Int) ((la + 1 : Nat) : Int) (c : Int) n] }) (oc := oc ++ [(⟨bO, .slice (some ⟨bW, 0, none⟩) n n, .slice (some ⟨bK, 0, none⟩) n n, .slice (some ⟨bT, 0, none⟩) n n, newM (rr : Int) ((la + 1 : Nat) : Int) (c : Int) n⟩ : OC)]) hm' h2 (by rw [List.map_append, h3]; rfl) (by rw [List.map_append]; exact H1)

theorem Make15_spec [Extra] (p : Nat) (m : MS) (region lay count : Int) (hmay : (mayM m region lay count).2 = 0) (hf : m.objs.length < 100000) {w : World} {fr : List HProp} (H : Holds w (MODEL p m :: fr)) :
    Calls Tryz.prog 117 #[pp p, .int .i64 region, .int .i64 lay, .int .i64 count] w (ret fun v w' => v = .tuple #[] ∧ Holds w' (MODEL p (makeM m region lay count) :: fr)) := by
  refine calls_of Tryz.func117 rfl (by kernel_rfl) ?_
  refine J108 H ?_
  refine Jc rfl rfl (May15_spec p m region lay count H) ?_
  clear H; rintro v w ⟨rfl, H⟩
  have hr : makeM m region lay count = { m with objs := m.objs ++ [newM region lay count (mayM m region lay count).1] } := rfl
  rw [hr]
  obtain ⟨t, lc, oc, aL, cL, aO, cO, hm, h2, h3, hl1, hl2, H⟩ := MODEL_out H
  have hm' : MWF _ := MWF_make hmay hm hf
  rw [hr] at hm'
  obtain ⟨rr, la, c, l, rfl, rfl, rfl, hlv, hla, hmm, hsz, hlt⟩ := mayM_ok hmay
  have hn1 : (mayM m (rr : Int) ((la + 1 : Nat) : Int) (c : Int)).1 = l.fixed + c * l.record := by rw [hmm, hsz]
  rw [hmm, hsz] at hm' ⊢
  generalize l.fixed + c * l.record = n at *
  have z1 : zeros (cellsL (.int .u64 0)) n = ucells (List.replicate n 0) := by
    rw [show cellsL (.int .u64 0) = [.int .u64 0] from rfl, zeros1]; simp [ucells]
  have z2 : zeros (cellsL (.int .i64 0)) n = ncells (List.replicate n 0) := by
    rw [show cellsL (.int .i64 0) = [.int .i64 0] from rfl, zeros1]; simp [ncells]
  refine J189 H ?_
  clear H; intro w H
  refine J160 H ?_
  refine A_load1 4 [17, 20] H rfl (Wants.none rfl) rfl rfl (by kernel_rfl) ?_
  refine J44 H ?_
  refine A_pv 6 rfl (Wants.none rfl) rfl (by kernel_rfl) ?_
  refine A_pv 7 rfl (Wants.none rfl) rfl (by kernel_rfl) ?_
  refine A_pv 8 rfl (Wants.none rfl) rfl (by kernel_rfl) ?_
  refine J90 H ?_
  refine J133 H ?_
  refine A_three 9 11 13 rfl rfl rfl (by kernel_rfl) (by repeat first | exact .nil | refine .cons (.inr H.at) ?_ | refine .cons (.inr H.mp) ?_ | refine .cons (.inl (by kernel_rfl)) ?_) (Wants.none rfl) (Wants.none rfl) (Wants.none rfl) (St_makeSlice H rfl rfl (by decide) (by omega) rfl ?_) (St_makeSlice H rfl rfl (by decide) (by omega) rfl ?_) (St_makeSlice H rfl rfl (by decide) (by omega) rfl ?_)
  · clear H; intro bW w H
    rw [z1] at H
    refine A_two 11 13 rfl rfl (by kernel_rfl) (by repeat first | exact .nil | refine .cons (.inr H.at) ?_ | refine .cons (.inr H.mp) ?_ | refine .cons (.inl (by kernel_rfl)) ?_) (Wants.none rfl) (Wants.none rfl) (St_makeSlice H rfl rfl (by decide) (by omega) rfl ?_) (St_makeSlice H rfl rfl (by decide) (by omega) rfl ?_)
    · clear H; intro bK w H
      rw [z2] at H
      refine Jo 13 H ?_
      refine St_makeSlice H rfl rfl (by decide) (by omega) rfl ?_
      clear H; intro bT w H
      rw [z2] at H
      replace H := Js [2,1,0] 0 H
      refine J136 H ?_
      clear H; intro bO w H
      
      refine J137 H ?_
      clear H; intro bS w H
      replace H := Js [9,0,0,0,0,0,0,0,0,0,0] 0 H
      refine Jo 17 H ?_
      refine St_append H rfl rfl (by repeat (first | exact Reads.nil _ | apply Reads.cons rfl)) rfl (by decide) (by simp; omega) rfl rfl ?_
      clear H; intro vS w H
      obtain ⟨aS, cS, rfl⟩ := sls_slice H (m := m.objs.length + 1) (by simp [hl2]) (by decide)
      refine J138 H ?_
      clear H; intro w H
      refine J2 H ?_
      replace H := Js [2,2,2,2,6,2,2,2,2,0] 1 H
      exact fn_end0 _ (.inl rfl) (make_in hm' h2 h3 hl1 H) rfl fun w' H' => ⟨rfl, H'⟩
    · clear H; intro bT w H
      rw [z2] at H
      refine Jo 11 H ?_
      refine St_makeSlice H rfl rfl (by decide) (by omega) rfl ?_
      clear H; intro bK w H
      rw [z2] at H
      replace H := Js [2,0,0] 0 H
      refine J136 H ?_
      clear H; intro bO w H
      
      refine J137 H ?_
      clear H; intro bS w H
      replace H := Js [9,0,0,0,0,0,0,0,0,0,0] 0 H
      refine Jo 17 H ?_
      refine St_append H rfl rfl (by repeat (first | exact Reads.nil _ | apply Reads.cons rfl)) rfl (by decide) (by simp; omega) rfl rfl ?_
      clear H; intro vS w H
      obtain ⟨aS, cS, rfl⟩ := sls_slice H (m := m.objs.length + 1) (by simp [hl2]) (by decide)
      refine J138 H ?_
      clear H; intro w H
      refine J2 H ?_
      replace H := Js [2,2,2,2,6,2,2,2,2,0] 1 H
      exact fn_end0 _ (.inl rfl) (make_in hm' h2 h3 hl1 H) rfl fun w' H' => ⟨rfl, H'⟩
  · clear H; intro bK w H
    rw [z2] at H
    refine A_two 9 13 rfl rfl (by kernel_rfl) (by repeat first | exact .nil | refine .cons (.inr H.at) ?_ | refine .cons (.inr H.mp) ?_ | refine .cons (.inl (by kernel_rfl)) ?_) (Wants.none rfl) (Wants.none rfl) (St_makeSlice H rfl rfl (by decide) (by omega) rfl ?_) (St_makeSlice H rfl rfl (by decide) (by omega) rfl ?_)
    · clear H; intro bW w H
      rw [z1] at H
      refine Jo 13 H ?_
      refine St_makeSlice H rfl rfl (by decide) (by omega) rfl ?_
      clear H; intro bT w H
      rw [z2] at H
      replace H := Js [1,1,0] 0 H
      refine J136 H ?_
      clear H; intro bO w H
      
      refine J137 H ?_
      clear H; intro bS w H
      replace H := Js [9,0,0,0,0,0,0,0,0,0,0] 0 H
      refine Jo 17 H ?_
      refine St_append H rfl rfl (by repeat (first | exact Reads.nil _ | apply Reads.cons rfl)) rfl (by decide) (by simp; omega) rfl rfl ?_
      clear H; intro vS w H
      obtain ⟨aS, cS, rfl⟩ := sls_slice H (m := m.objs.length + 1) (by simp [hl2]) (by decide)
      refine J138 H ?_
      clear H; intro w H
      refine J2 H ?_
      replace H := Js [2,2,2,2,6,2,2,2,2,0] 1 H
      exact fn_end0 _ (.inl rfl) (make_in hm' h2 h3 hl1 H) rfl fun w' H' => ⟨rfl, H'⟩
    · clear H; intro bT w H
      rw [z2] at H
      refine Jo 9 H ?_
      refine St_makeSlice H rfl rfl (by decide) (by omega) rfl ?_
      clear H; intro bW w H
      rw [z1] at H
      replace H := Js [0,1,0] 0 H
      refine J136 H ?_
      clear H; intro bO w H
      
      refine J137 H ?_
      clear H; intro bS w H
      replace H := Js [9,0,0,0,0,0,0,0,0,0,0] 0 H
      refine Jo 17 H ?_
      refine St_append H rfl rfl (by repeat (first | exact Reads.nil _ | apply Reads.cons rfl)) rfl (by decide) (by simp; omega) rfl rfl ?_
      clear H; intro vS w H
      obtain ⟨aS, cS, rfl⟩ := sls_slice H (m := m.objs.length + 1) (by simp [hl2]) (by decide)
      refine J138 H ?_
      clear H; intro w H
      refine J2 H ?_
      replace H := Js [2,2,2,2,6,2,2,2,2,0] 1 H
      exact fn_end0 _ (.inl rfl) (make_in hm' h2 h3 hl1 H) rfl fun w' H' => ⟨rfl, H'⟩
  · clear H; intro bT w H
    rw [z2] at H
    refine A_two 9 11 rfl rfl (by kernel_rfl) (by repeat first | exact .nil | refine .cons (.inr H.at) ?_ | refine .cons (.inr H.mp) ?_ | refine .cons (.inl (by kernel_rfl)) ?_) (Wants.none rfl) (Wants.none rfl) (St_makeSlice H rfl rfl (by decide) (by omega) rfl ?_) (St_makeSlice H rfl rfl (by decide) (by omega) rfl ?_)
    · clear H; intro bW w H
      rw [z1] at H
      refine Jo 11 H ?_
      refine St_makeSlice H rfl rfl (by decide) (by omega) rfl ?_
      clear H; intro bK w H
      rw [z2] at H
      replace H := Js [1,0,0] 0 H
      refine J136 H ?_
      clear H; intro bO w H
      
      refine J137 H ?_
      clear H; intro bS w H
      replace H := Js [9,0,0,0,0,0,0,0,0,0,0] 0 H
      refine Jo 17 H ?_
      refine St_append H rfl rfl (by repeat (first | exact Reads.nil _ | apply Reads.cons rfl)) rfl (by decide) (by simp; omega) rfl rfl ?_
      clear H; intro vS w H
      obtain ⟨aS, cS, rfl⟩ := sls_slice H (m := m.objs.length + 1) (by simp [hl2]) (by decide)
      refine J138 H ?_
      clear H; intro w H
      refine J2 H ?_
      replace H := Js [2,2,2,2,6,2,2,2,2,0] 1 H
      exact fn_end0 _ (.inl rfl) (make_in hm' h2 h3 hl1 H) rfl fun w' H' => ⟨rfl, H'⟩
    · clear H; intro bK w H
      rw [z2] at H
      refine Jo 9 H ?_
      refine St_makeSlice H rfl rfl (by decide) (by omega) rfl ?_
      clear H; intro bW w H
      rw [z1] at H
      replace H := Js [0,0,0] 0 H
      refine J136 H ?_
      clear H; intro bO w H
      
      refine J137 H ?_
      clear H; intro bS w H
      replace H := Js [9,0,0,0,0,0,0,0,0,0,0] 0 H
      refine Jo 17 H ?_
      refine St_append H rfl rfl (by repeat (first | exact Reads.nil _ | apply Reads.cons rfl)) rfl (by decide) (by simp; omega) rfl rfl ?_
      clear H; intro vS w H
      obtain ⟨aS, cS, rfl⟩ := sls_slice H (m := m.objs.length + 1) (by simp [hl2]) (by decide)
      refine J138 H ?_
      clear H; intro w H
      refine J2 H ?_
      replace H := Js [2,2,2,2,6,2,2,2,2,0] 1 H
      exact fn_end0 _ (.inl rfl) (make_in hm' h2 h3 hl1 H) rfl fun w' H' => ⟨rfl, H'⟩
end Go.Proofs.YtcaaojbnjfdglaaGreatDoor
namespace Go.Proofs.YtcaaojbnjfdglaaGreatDoor
open Go.SL

@[reducible] def evl (e : Ent) : List Value := [.int .i64 e.addr, .int .i64 e.region, .bool e.held, .bool e.pinned]
def tval (t : Slt) : List Value := match t.ent with
  | none => [.int .i64 t.gen, .bool false, .int .i64 0, .int .i64 0, .bool false, .bool false]
  | some e => [.int .i64 t.gen, .bool true, .int .i64 e.addr, .int .i64 e.region, .bool e.held, .bool e.pinned]
theorem tval_len (t : Slt) : (tval t).length = 6 := by unfold tval; split <;> rfl
theorem tval_gen (t : Slt) : (tval t)[0]? = some (.int .i64 t.gen) := by unfold tval; split <;> rfl
theorem tval_used (t : Slt) : (tval t)[1]? = some (.bool t.ent.isSome) := by
  unfold tval
  split
  · rename_i h; rw [h]; rfl
  · rename_i h; rw [h]; rfl
def busy (t : Slt) : Bool := t.ent.isSome || t.gen == 255
def goneT (ts : List Slt) : Nat := (ts.filter fun t => t.ent.isNone && t.gen == 255).length
def busyT (ts : List Slt) : Nat := (ts.filter busy).length

structure TabOk (ts : List Slt) (x : Nat) : Prop where
  bits : Bits ts.length x
  bit : ∀ (i : Nat) (t : Slt), ts[i]? = some t → x.testBit i = busy t
  gen : ∀ (i : Nat) (t : Slt), ts[i]? = some t → t.gen ≤ 255

theorem cnt_filter {α : Type} {ts : List α} {f : α → Bool} {x : Nat} (h : ∀ (i : Nat) (t : α), ts[i]? = some t → x.testBit i = f t) : cntB ts.length x = (ts.filter f).length := by
  unfold cntB
  have e2 : ∀ (l : List α) (k : Nat), (∀ (i : Nat) (t : α), l[i]? = some t → x.testBit (k + i) = f t) → ((List.range' k l.length).filter fun i => x.testBit i).length = (l.filter f).length := by
    intro l
    induction l with
    | nil => intro k _; rfl
    | cons a l ih =>
      intro k hk
      have h0 := hk 0 a rfl
      have hr := ih (k + 1) (fun i t ht => by rw [show k + 1 + i = k + (i + 1) by omega]; exact hk (i + 1) t (by simpa using ht))
      rw [List.length_cons, List.range'_succ, List.filter_cons, List.filter_cons]
      rw [Nat.add_zero] at h0
      rw [h0]
      split
      · simp [hr]
      · exact hr
  rw [List.range_eq_range']
  exact e2 ts 0 (fun i t ht => by rw [Nat.zero_add]; exact h i t ht)
theorem TabOk.cnt {ts : List Slt} {x : Nat} (h : TabOk ts x) : cntB ts.length x = busyT ts := cnt_filter h.bit

def TAB (p : Nat) (ts : List Slt) : HProp := ex fun q : Value × Nat × Nat => star [prop (TabOk ts q.2.2), pts p (row 183 [q.1, pp q.2.1, .int .i64 (goneT ts)]), sls 193 6 q.1 (ts.flatMap tval), BM1 q.2.1 ts.length q.2.2]
theorem TAB_out [Extra] {w : World} {p : Nat} {ts : List Slt} {l : List HProp} (H : Holds w (TAB p ts :: l)) : ∃ b c s u x, TabOk ts x ∧ ts.length ≤ c ∧
    Holds w (pts p (row 183 [.slice (some ⟨b, 0, none⟩) ts.length c, pp u, .int .i64 (goneT ts)]) :: pts b (row 193 (ts.flatMap tval ++ s)) :: BM1 u ts.length x :: l) ∧
    ∀ w' l' ts' x', ts'.length = ts.length → goneT ts' = goneT ts → TabOk ts' x' → Holds w' (pts p (row 183 [.slice (some ⟨b, 0, none⟩) ts.length c, pp u, .int .i64 (goneT ts)]) :: pts b (row 193 (ts'.flatMap tval ++ s)) :: BM1 u ts.length x' :: l') → Holds w' (TAB p ts' :: l') := by
  obtain ⟨⟨v, u, x⟩, H⟩ := Holds.ex.1 H
  have H := Holds.star.1 H
  obtain ⟨h, H⟩ := Holds.prop.1 H
  replace H : Holds w (pts p (row 183 [v, pp u, .int .i64 (goneT ts)]) :: sls 193 6 v (ts.flatMap tval) :: BM1 u ts.length x :: l) := H
  obtain ⟨a, c, rfl⟩ := sls_slice H.drop (flat_len tval_len ts) (by decide)
  obtain ⟨b, s, rfl, H, hcap, hsp, hclose⟩ := sls_open2 H.swap h.bits.pos
  refine ⟨b, c, s, u, x, h, hcap, H.swap, fun w' l' ts' x' e1 e2 h' H' => ?_⟩
  have H' := hclose w' _ (ts'.flatMap tval) (by rw [flat_len tval_len, flat_len tval_len, e1]) H'.swap
  refine Holds.ex.2 ⟨(.slice (some ⟨b, 0, none⟩) ts.length c, u, x'), Holds.star.2 (Holds.prop.2 ⟨h', ?_⟩)⟩
  show Holds w' (pts p (row 183 [_, pp u, .int .i64 (goneT ts')]) :: sls 193 6 _ _ :: BM1 u ts'.length x' :: l')
  rw [e1, e2]
  exact H'.swap
theorem tNew_spec [Extra] (n : Nat) (h1 : 1 ≤ n) (h2 : n ≤ 63) {w : World} {fr : List HProp} (H : Holds w fr) :
    Calls Tryz.prog 103 #[.int .i64 n] w (ret fun v w' => ∃ p, v = .tuple #[pp p, .int .i64 0] ∧ Holds w' (TAB p (List.replicate n ⟨0, none⟩) :: fr)) := by
  refine calls_of Tryz.func103 rfl (by kernel_rfl) ?_
  refine J233 H ?_
  rw [show decide ((n : Int) < 1) = false from decide_eq_false (by omega)]
  refine J63 H ?_
  rw [show decide ((n : Int) > 4096) = false from decide_eq_false (by omega)]
  refine J18 H ?_
  refine J20 H ?_
  refine Jc rfl rfl (bNew_spec n (by omega) (by omega) H) ?_
  clear H; rintro v w ⟨u, rfl, H⟩
  refine J43 H ?_
  refine J20 H ?_
  refine Lp_s rfl (St_makeSlice H rfl rfl (by decide) (by omega) rfl ?_)
  clear H; intro b18 w H
  refine J10 H ?_
  refine J50 H ?_
  clear H; intro b21 w H
  refine J4 H ?_
  have hz : zeros (cellsL (.agg #[.int .i64 0, .bool false, .int .i64 0, .int .i64 0, .bool false, .bool false])) n = (List.replicate n (⟨0, none⟩ : Slt)).flatMap tval := by
    clear H
    clear h1 h2
    induction n with
    | zero => rfl
    | succ n ih => show _ ++ zeros _ n = _; rw [ih, List.replicate_succ, List.flatMap_cons]; rfl
  have hlen : (List.replicate n (⟨0, none⟩ : Slt)).length = n := by simp
  have hgone : goneT (List.replicate n (⟨0, none⟩ : Slt)) = 0 := by
    unfold goneT
    rw [List.filter_eq_nil_iff.2 (fun t ht => by rw [List.eq_of_mem_replicate ht]; simp)]
    rfl
  have hok : TabOk (List.replicate n (⟨0, none⟩ : Slt)) 0 := by
    refine ⟨by rw [hlen]; exact ⟨by omega, h2, Nat.two_pow_pos _⟩, fun i t ht => ?_, fun i t ht => ?_⟩
    · rw [List.eq_of_mem_replicate (List.mem_of_getElem? ht), Nat.zero_testBit]; rfl
    · rw [List.eq_of_mem_replicate (List.mem_of_getElem? ht)]; simp
  have hbm : BM u n (List.replicate ((n + 63) / 64) 0) 0 = BM1 u n 0 := by
    rw [show (n + 63) / 64 = 1 by omega]
    have : cntB n 0 = 0 := by
      unfold cntB
      rw [List.filter_eq_nil_iff.2 (fun i _ => by simp)]
      rfl
    show BM u n [0] 0 = BM u n [0] (cntB n 0)
    rw [this]
  rw [hz, hbm] at H
  refine C_ret (Jy H rfl fun w' H' => ⟨_, rfl, Holds.ex.2 ⟨(.slice (some ⟨b18, 0, none⟩) n n, u, 0), Holds.star.2 (Holds.prop.2 ⟨hok, ?_⟩)⟩⟩)
  show Holds w' (pts b21 (row 183 [_, pp u, .int .i64 (goneT (List.replicate n (⟨0, none⟩ : Slt)))]) :: sls 193 6 _ _ :: BM1 u (List.replicate n (⟨0, none⟩ : Slt)).length 0 :: fr)
  rw [hgone, hlen]
  exact H'

theorem Left_spec [Extra] (p : Nat) (ts : List Slt) {w : World} {fr : List HProp} (H : Holds w (TAB p ts :: fr)) :
    Calls Tryz.prog 41 #[pp p] w (ret fun v w' => v = .int .i64 ((ts.length - busyT ts : Nat) : Int) ∧ Holds w' (TAB p ts :: fr)) := by
  obtain ⟨b, c, s, u, x, hok, hc, H, hclose⟩ := TAB_out H
  have hb := hok.bits.le
  have hcnt := hok.cnt
  have hle := cntB_le ts.length x
  refine calls_of Tryz.func41 rfl (by kernel_rfl) ?_
  refine J127 H ?_
  refine J1 H ?_
  clear H; intro w H
  refine J164 H ?_
  refine A_lenSlice 4 rfl (Wants.none rfl) rfl (by kernel_rfl) ?_
  refine J44 H ?_
  refine J129 H ?_
  refine A_load1 8 [9] H rfl (Wants.none rfl) rfl rfl (by kernel_rfl) ?_
  replace H := Js [2,0,0] 0 H
  refine Jo 9 H ?_
  refine Jk rfl rfl (Count_spec u _ _ _ H) ?_
  clear H; rintro v w ⟨rfl, H⟩
  refine J263 H ?_
  replace H := Js [1,1,0] 0 H
  refine C_ret (Jy (hclose _ _ ts x rfl rfl hok H) rfl fun w' H' => ⟨?_, H'⟩)
  show Value.int .i64 (IntKind.i64.wrap ((ts.length : Int) - (cntB ts.length x : Int))) = _
  rw [wrap64 (by omega) (by omega), ← hcnt]
  congr 1
  omega
end Go.Proofs.YtcaaojbnjfdglaaGreatDoor
