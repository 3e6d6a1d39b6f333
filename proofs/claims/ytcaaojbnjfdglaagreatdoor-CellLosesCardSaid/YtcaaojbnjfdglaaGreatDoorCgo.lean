/- Cells: what is proved on the way: every input of the statement; no condition. Texts joined: LawQ LawR LawA LawB LawC LawD LnkA LnkB LnkC InvP. -/
import Derived.Test.YtcaaojbnjfdglaaGreatDoorCgn
import Derived.Test.YtcaaojbnjfdglaaGreatDoorCgf
import Derived.Test.YtcaaojbnjfdglaaGreatDoorCge
import Derived.Test.YtcaaojbnjfdglaaGreatDoorCgj
set_option linter.unusedVariables false
set_option linter.unusedSimpArgs false
set_option linter.unusedSectionVars false
namespace Go.Proofs.YtcaaojbnjfdglaaGreatDoor
open Go.SL

theorem getD_set {α : Type} {l : List α} {i j : Nat} {a d : α} (h : i < l.length) : (l.set i a).getD j d = if i = j then a else l.getD j d := by
  rw [List.getD_eq_getElem?_getD, List.getD_eq_getElem?_getD, List.getElem?_set]
  split
  · rename_i hij; subst hij; simp [h]
  · rfl

def setWM (m : MS) (o place : Int) (X : Nat) : MS :=
  match valM m o with
  | none => m
  | some (k, x) => if placeE (layM m x) x.w.length place false = 0 then setM m k { x with w := x.w.set place.toNat X } else m
theorem setWM_none {m : MS} {o place : Int} {X : Nat} (h : valM m o = none) : setWM m o place X = m := by unfold setWM; rw [h]
theorem setWM_some {m : MS} {o place : Int} {X k : Nat} {x : Mob} (h : valM m o = some (k, x)) : setWM m o place X = if placeE (layM m x) x.w.length place false = 0 then setM m k { x with w := x.w.set place.toNat X } else m := by unfold setWM; rw [h]
theorem set_law {s : CS} {m : MS} {told : List (Nat × Nat)} (R : Rel s m told) {i g o : Int} (P : Pick told i g o) (place : Int) (X : Nat) :
    (setWS s i g place X).2 = placeM m o place false ∧ Rel (setWS s i g place X).1 (setWM m o place X) told := by
  rcases rel_valid R P with ⟨h1, h2⟩ | ⟨k, gg, n, e, x, rfl, rfl, rfl, ht, hk, hx, hg, hl, h1, h2⟩
  · rw [placeM_none h2, setWS_none h1, setWM_none h2]
    exact ⟨rfl, R⟩
  · rw [placeM_some h2, setWS_some h1, setWM_some h2, lay_same R.w hl, hl.len]
    by_cases h0 : placeE (layM m x) x.w.length place false = 0
    · obtain ⟨j, rfl, hj, hr⟩ := placeE_ok h0
      rw [if_pos h0, if_pos h0, h0, Int.toNat_natCast, Int.toNat_natCast]
      refine ⟨rfl, Rel_set R ht hk hx hg (by exact hg) ?_ s.rem⟩
      refine ⟨hl.region, hl.lay, hl.count, hl.held, hl.pinned, by simp [hl.len], ?_, ?_, ?_⟩
      · intro p hp hr'
        have hp' : p < x.w.length := by simpa using hp
        show lnkOf ((e.ws.set j X).getD p 0) = _
        rw [getD_set (by rw [hl.len]; exact hj)]
        rw [if_neg (by rintro rfl; exact absurd (hr'.symm.trans hr) (by decide))]
        exact hl.ref p hp' hr'
      · intro p hp hr'
        have hp' : p < x.w.length := by simpa using hp
        show (e.ws.set j X).getD p 0 = (x.w.set j X).getD p 0
        rw [getD_set (by rw [hl.len]; exact hj), getD_set hj]
        split
        · rfl
        · exact hl.word p hp' hr'
      · intro p hp hn
        have hp' : p < x.w.length := by simpa using hp
        exact hl.kind p hp' hn
    · rw [if_neg h0, if_neg h0]
      exact ⟨rfl, R⟩

theorem Like_held {ls : List Lay} {told : List (Nat × Nat)} {e : Ent} {x : Mob} (h : Like ls told e x) (b : Bool) : Like ls told { e with held := b } { x with held := b } := ⟨h.region, h.lay, h.count, rfl, h.pinned, h.len, h.ref, h.word, h.kind⟩
theorem Like_pinned {ls : List Lay} {told : List (Nat × Nat)} {e : Ent} {x : Mob} (h : Like ls told e x) (b : Bool) : Like ls told { e with pinned := b } { x with pinned := b } := ⟨h.region, h.lay, h.count, h.held, rfl, h.len, h.ref, h.word, h.kind⟩

theorem drop_law {s : CS} {m : MS} {told : List (Nat × Nat)} (R : Rel s m told) {i g o : Int} (P : Pick told i g o) :
    (dropS s i g).2 = (dropM m o).2 ∧ Rel (dropS s i g).1 (dropM m o).1 told := by
  rcases rel_valid R P with ⟨h1, h2⟩ | ⟨k, gg, n, e, x, rfl, rfl, rfl, ht, hk, hx, hg, hl, h1, h2⟩
  · have : dropM m o = (m, 8) := by unfold dropM; rw [h2]
    rw [this, dropS_none h1]
    exact ⟨rfl, R⟩
  · have : dropM m n = (setM m n { x with held := false }, 0) := by unfold dropM; rw [h2]
    rw [this, dropS_some h1, Int.toNat_natCast]
    exact ⟨rfl, Rel_set R ht hk hx hg (by exact hg) (Like_held hl false) s.rem⟩
theorem pin_law {s : CS} {m : MS} {told : List (Nat × Nat)} (R : Rel s m told) {i g o : Int} (P : Pick told i g o) (on : Bool) :
    (pinS s i g on).2 = (pinM m o on).2 ∧ Rel (pinS s i g on).1 (pinM m o on).1 told := by
  rcases rel_valid R P with ⟨h1, h2⟩ | ⟨k, gg, n, e, x, rfl, rfl, rfl, ht, hk, hx, hg, hl, h1, h2⟩
  · have : pinM m o on = (m, 8) := by unfold pinM; rw [h2]
    rw [this, pinS_none h1]
    exact ⟨rfl, R⟩
  · have : pinM m n on = if x.pinned = on then (m, 7) else (setM m n { x with pinned := on }, 0) := by unfold pinM; rw [h2]
    rw [this, pinS_some h1, Int.toNat_natCast, hl.pinned]
    by_cases hb : x.pinned = on
    · rw [if_pos hb, if_pos hb]
      exact ⟨rfl, R⟩
    · rw [if_neg hb, if_neg hb]
      exact ⟨rfl, Rel_set R ht hk hx hg (by exact hg) (Like_pinned hl on) s.rem⟩

theorem look_lawV {s : CS} {m : MS} {told : List (Nat × Nat)} (R : RelW s m told) {i g o : Int} (V : Vd s m told i g o) (place : Int) :
    (placeM m o place true ≠ 0 ∧ lookL s i g place = (.none, placeM m o place true)) ∨ (placeM m o place true = 0 ∧ ∃ (n j : Nat) (x : Mob), o = n ∧ place = j ∧ m.objs[n]? = some x ∧ valM m o = some (n, x) ∧ j < x.w.length ∧ isRefL (layX m.lays x.lay) j = true ∧ x.kind.getD j 0 ≤ 2 ∧ lookL s i g place = (lnkM told (x.kind.getD j 0) (x.to.getD j 0), 0)) := by
  rcases V with ⟨h1, h2⟩ | ⟨k, gg, n, e, x, rfl, rfl, rfl, ht, hk, hx, hg, hl, h1, h2⟩
  · left
    rw [placeM_none h2, lookL_none h1]
    exact ⟨by omega, rfl⟩
  · rw [placeM_some h2, lookL_some h1, lay_same R hl, hl.len]
    by_cases h0 : placeE (layM m x) x.w.length place true = 0
    · right
      obtain ⟨j, rfl, hj, hr⟩ := placeE_ok h0
      refine ⟨h0, n, j, x, rfl, rfl, hx, h2, hj, hr, ?_, ?_⟩
      · by_cases hz : x.kind.getD j 0 = 0
        · omega
        · exact (hl.kind j hj hz).2
      · rw [if_pos h0, Int.toNat_natCast, hl.ref j hj hr]
    · left
      exact ⟨h0, by rw [if_neg h0]⟩

theorem look_law {s : CS} {m : MS} {told : List (Nat × Nat)} (R : Rel s m told) {i g o : Int} (P : Pick told i g o) (place : Int) :
    (placeM m o place true ≠ 0 ∧ lookL s i g place = (.none, placeM m o place true)) ∨ (placeM m o place true = 0 ∧ ∃ (n j : Nat) (x : Mob), o = n ∧ place = j ∧ m.objs[n]? = some x ∧ valM m o = some (n, x) ∧ j < x.w.length ∧ isRefL (layX m.lays x.lay) j = true ∧ x.kind.getD j 0 ≤ 2 ∧ lookL s i g place = (lnkM told (x.kind.getD j 0) (x.to.getD j 0), 0)) := look_lawV R.w (rel_valid R P) place
theorem Like_tie {ls : List Lay} {told : List (Nat × Nat)} {e : Ent} {x : Mob} {n : Nat} (h : Like ls told e x) (hm : MobOK ls n x) {j : Nat} (hj : j < x.w.length) (hr : isRefL (layX ls x.lay) j = true) (kd t : Nat) (hkd : kd ≤ 2) (W : Nat) (hW : lnkOf W = lnkM told kd t) : Like ls told { e with ws := e.ws.set j W } { x with kind := x.kind.set j kd, to := x.to.set j t } := by
  refine ⟨h.region, h.lay, h.count, h.held, h.pinned, by simp [h.len], ?_, ?_, ?_⟩
  · intro p hp hr'
    show lnkOf ((e.ws.set j W).getD p 0) = lnkM told ((x.kind.set j kd).getD p 0) ((x.to.set j t).getD p 0)
    rw [getD_set (by rw [h.len]; exact hj), getD_set (by rw [hm.kind]; exact hj), getD_set (by rw [hm.to]; exact hj)]
    split
    · exact hW
    · exact h.ref p hp hr'
  · intro p hp hr'
    show (e.ws.set j W).getD p 0 = x.w.getD p 0
    rw [getD_set (by rw [h.len]; exact hj), if_neg (by rintro rfl; exact absurd (hr.symm.trans hr') (by decide))]
    exact h.word p hp hr'
  · intro p hp (hn : (x.kind.set j kd).getD p 0 ≠ 0)
    show _ ∧ (x.kind.set j kd).getD p 0 ≤ 2
    rw [getD_set (by rw [hm.kind]; exact hj)] at hn ⊢
    by_cases hjp : j = p
    · subst hjp
      rw [if_pos rfl]
      exact ⟨hr, hkd⟩
    · rw [if_neg hjp] at hn ⊢
      exact h.kind p hp hn

theorem cut_law {s : CS} {m : MS} {told : List (Nat × Nat)} (R : Rel s m told) (hm : MWF m) {i g o : Int} (P : Pick told i g o) (place : Int) :
    (tieS s i g place .none).2 = (cutM m o place).2 ∧ Rel (tieS s i g place .none).1 (cutM m o place).1 told := by
  rcases rel_valid R P with ⟨h1, h2⟩ | ⟨k, gg, n, e, x, rfl, rfl, rfl, ht, hk, hx, hg, hl, h1, h2⟩
  · rw [cutM_none h2, tieS_none h1]
    exact ⟨rfl, R⟩
  · rw [cutM_some h2, tieS_some h1, lay_same R.w hl, hl.len]
    by_cases h0 : placeE (layM m x) x.w.length place true = 0
    · obtain ⟨j, rfl, hj, hr⟩ := placeE_ok h0
      rw [if_pos h0, if_pos h0, Int.toNat_natCast, Int.toNat_natCast]
      exact ⟨rfl, Rel_set R ht hk hx hg (by exact hg) (Like_tie hl (hm.objs x (List.mem_of_getElem? hx)) hj hr 0 0 (by omega) _ rfl) _⟩
    · rw [if_neg h0, if_neg h0]
      exact ⟨rfl, R⟩

theorem tie_law {s : CS} {m : MS} {told : List (Nat × Nat)} (R : Rel s m told) (hw : WF s) (hm : MWF m) {i g o u v q : Int} (P : Pick told i g o) (Q : Pick told u v q) (place : Int) :
    (TieS s i g place u v).2 = (tieM m o place q).2 ∧ Rel (TieS s i g place u v).1 (tieM m o place q).1 told := by
  rcases rel_valid R P with ⟨h1, h2⟩ | ⟨k, gg, n, e, x, rfl, rfl, rfl, ht, hk, hx, hg, hl, h1, h2⟩
  · have h3 : tieM m o place q = (m, 8) := by unfold tieM; rw [h2]
    have h4 : TieS s i g place u v = (s, 8) := by unfold TieS; rw [lookL_none h1]; rw [if_pos (by decide)]
    rw [h3, h4]
    exact ⟨rfl, R⟩
  · by_cases h0 : placeE (layM m x) x.w.length place true = 0
    · have hz : (lookL s k gg place).2 = 0 := by rw [lookL_some h1, lay_same R.w hl, hl.len, if_pos h0]
      rcases rel_valid R Q with ⟨h3, h4⟩ | ⟨k', gg', n', e', x', rfl, rfl, rfl, ht', hk', hx', hg', hl', h3, h4⟩
      · have h5 : tieM m n place q = (m, 8) := by unfold tieM; rw [h2]; show (if placeE _ _ _ _ = 0 then _ else _) = _; rw [if_pos h0, h4]
        have h6 : TieS s k gg place u v = (s, 8) := by unfold TieS; rw [hz, if_neg (by decide), h3]; rfl
        rw [h5, h6]
        exact ⟨rfl, R⟩
      · have h5 : tieM m n place n' = (setM m n { x with kind := x.kind.set place.toNat 2, to := x.to.set place.toNat n' }, 0) := by unfold tieM; rw [h2]; show (if placeE _ _ _ _ = 0 then _ else _) = _; rw [if_pos h0, h4]
        have h6 : TieS s k gg place k' gg' = tieS s k gg place (.obj k' gg') := by unfold TieS; rw [hz, if_neg (by decide), h3]; rfl
        rw [h5, h6, tieS_some h1, lay_same R.w hl, hl.len, if_pos h0]
        obtain ⟨j, rfl, hj, hr⟩ := placeE_ok h0
        rw [Int.toNat_natCast, Int.toNat_natCast]
        have hok := okT_of hw hk'
        exact ⟨rfl, Rel_set R ht hk hx hg (by exact hg) (Like_tie hl (hm.objs x (List.mem_of_getElem? hx)) hj hr 2 n' (by omega) _ (by rw [lnkOf_obj hok.1]; unfold lnkM; rw [if_pos rfl, ht']; rfl)) _⟩
    · have hz : lookL s k gg place = (.none, placeE (layM m x) x.w.length place true) := by rw [lookL_some h1, lay_same R.w hl, hl.len, if_neg h0]
      have h5 : tieM m n place q = (m, placeE (layM m x) x.w.length place true) := by unfold tieM; rw [h2]; show (if placeE _ _ _ _ = 0 then _ else _) = _; rw [if_neg h0]
      have h6 : TieS s k gg place u v = (s, placeE (layM m x) x.w.length place true) := by unfold TieS; rw [hz, if_pos h0]
      rw [h5, h6]
      exact ⟨rfl, R⟩

theorem ref_law {s : CS} {m : MS} {told : List (Nat × Nat)} (R : Rel s m told) (hm : MWF m) {i g o : Int} (P : Pick told i g o) (place : Int) :
    (lookL s i g place).2 = (refM m o place).2.2.2 ∧ (lookL s i g place).1 = lnkM told (refM m o place).2.1 (refM m o place).2.2.1 ∧ (refM m o place).2.1 ≤ 2 ∧ ((refM m o place).2.1 = 2 → (refM m o place).2.2.1 < told.length) ∧ Rel (refS s i g place) (refM m o place).1 told := by
  rcases look_law R P place with ⟨h0, h1⟩ | ⟨h0, n, j, x, rfl, rfl, hx, hv, hj, hr, hk2, h1⟩
  · have h3 : refM m o place = (m, 0, 0, placeM m o place true) := by
      cases hv : valM m o with
      | none => unfold refM; rw [hv, placeM_none hv]
      | some kx =>
        obtain ⟨k, x⟩ := kx
        rw [placeM_some hv] at h0 ⊢
        unfold refM; rw [hv]; show (if placeE _ _ _ _ = 0 then _ else _) = _; rw [if_neg h0]
    have h4 : refS s i g place = s := by unfold refS; rw [h1]
    rw [h3, h4, h1]
    exact ⟨rfl, rfl, by show 0 ≤ 2; omega, fun h => (by cases h), R⟩
  · rw [placeM_some hv] at h0
    have h3 : refM m n j = (if x.kind.getD j 0 = 2 then holdM m (x.to.getD j 0) else m, x.kind.getD j 0, x.to.getD j 0, 0) := by unfold refM; rw [hv]; show (if placeE _ _ _ _ = 0 then _ else _) = _; rw [if_pos h0, Int.toNat_natCast]
    have hmo := hm.objs x (List.mem_of_getElem? hx)
    rw [h3, h1]
    by_cases hkd : x.kind.getD j 0 = 2
    · have hjk : j < x.kind.length := by rw [hmo.kind]; exact hj
      have hjk2 := List.getElem?_eq_getElem hjk
      have hgo := hmo.goes j (by rw [hjk2]; rw [List.getD_eq_getElem?_getD, hjk2] at hkd; exact congrArg some hkd)
      have hgt : x.to.getD j 0 < told.length := by rw [R.len]; exact hgo
      generalize htd : x.to.getD j 0 = td at *
      rw [hkd, if_pos rfl]
      have hy := List.getElem?_eq_getElem hgo
      generalize m.objs[td] = y at hy
      have htt := List.getElem?_eq_getElem hgt
      generalize told[td] = ab at htt
      obtain ⟨a, b⟩ := ab
      have hln : lnkM told 2 td = .obj a b := by unfold lnkM; rw [if_pos rfl, htt]; rfl
      have h4 : refS s i g j = holdS s a b := by unfold refS; rw [h1, hkd, hln]; rfl
      have h5 : holdM m td = setM m td { y with held := true } := by unfold holdM; rw [hy]
      rw [h4, h5]
      refine ⟨rfl, rfl, by show 2 ≤ 2; omega, fun _ => hgt, ?_⟩
      by_cases hyg : y.gone = true
      · have h6 : lookT s.tab a b = none := by
          cases hlk : lookT s.tab a b with
          | none => rfl
          | some q =>
            obtain ⟨k', e'⟩ := q
            obtain ⟨n', h1, h2, h3⟩ := lookT_some.1 hlk
            obtain rfl : a = k' := by omega
            obtain rfl : b = n' := by omega
            exact absurd h3 (R.gone td y a b hy htt hyg e')
        rw [holdS_none h6]
        exact Rel_gone R hy hyg (by exact hyg)
      · have hyg : y.gone = false := by simpa using hyg
        obtain ⟨e', he', hl'⟩ := R.obj td y a b hy htt hyg
        have h6 : lookT s.tab a b = some (a, e') := lookT_some.2 ⟨b, rfl, rfl, he'⟩
        rw [holdS_some h6]
        exact Rel_set R htt he' hy hyg (by exact hyg) (Like_held hl' true) s.rem
    · have h4 : refS s i g j = s := by
        unfold refS
        rw [h1]
        have : ∀ a b, lnkM told (x.kind.getD j 0) (x.to.getD j 0) ≠ .obj a b := by
          intro a b
          unfold lnkM
          rw [if_neg hkd]
          split <;> intro h <;> cases h
        generalize lnkM told (x.kind.getD j 0) (x.to.getD j 0) = L at this
        cases L with
        | none => rfl
        | grave => rfl
        | obj a b => exact absurd rfl (this a b)
      rw [h4, if_neg hkd]
      exact ⟨rfl, rfl, hk2, fun h => absurd h hkd, R⟩

/-- What is told of the document's object. -/
def tellM : Option (Nat × Mob) → Value
  | some (_, x) => .tuple #[.agg #[.int .i64 x.region, .int .i64 x.lay, .int .i64 x.count, .int .i64 x.w.length, .bool x.pinned], .int .i64 0]
  | none => .tuple #[.agg #[.int .i64 0, .int .i64 0, .int .i64 0, .int .i64 0, .bool false], .int .i64 8]
theorem tell_lawV {s : CS} {m : MS} {told : List (Nat × Nat)} (R : RelW s m told) {i g o : Int} (V : Vd s m told i g o) : tellV (validT s.tab i g) = tellM (valM m o) := by
  rcases V with ⟨h1, h2⟩ | ⟨k, gg, n, e, x, rfl, rfl, rfl, ht, hk, hx, hg, hl, h1, h2⟩
  · rw [h1, h2]; rfl
  · rw [h1, h2]
    show Value.tuple #[.agg (infv e).toArray, .int .i64 0] = _
    show Value.tuple #[.agg #[.int .i64 e.region, .int .i64 e.lay, .int .i64 e.count, .int .i64 e.ws.length, .bool e.pinned], .int .i64 0] = Value.tuple #[.agg #[.int .i64 x.region, .int .i64 x.lay, .int .i64 x.count, .int .i64 x.w.length, .bool x.pinned], .int .i64 0]
    rw [hl.region, hl.lay, hl.count, hl.len, hl.pinned]
end Go.Proofs.YtcaaojbnjfdglaaGreatDoor
namespace Go.Proofs.YtcaaojbnjfdglaaGreatDoor
open Go.SL

theorem live_law {s : CS} {m : MS} {told : List (Nat × Nat)} (R : Rel s m told) (id : Int) : (fnd s.par id).isSome = liveP m.P id := by
  unfold liveP
  cases hf : fnd s.par id with
  | some q =>
    obtain ⟨k, rfl, h1, h2, h3⟩ := (R.tree id q).1 (fnd_mem hf)
    have h4 := (List.getElem?_eq_some_iff.1 h2).1
    symm
    show decide _ = true
    rw [decide_eq_true]
    refine ⟨by omega, by omega, ?_⟩
    rw [Int.toNat_natCast, List.getD_eq_getElem?_getD, h2]
    exact h3
  | none =>
    symm
    show decide _ = false
    rw [decide_eq_false]
    rintro ⟨h1, h2, h3⟩
    obtain ⟨k, rfl⟩ : ∃ k : Nat, id = k := ⟨id.toNat, by omega⟩
    have hk : k < m.P.length := by omega
    have h4 := List.getElem?_eq_getElem hk
    rw [Int.toNat_natCast, List.getD_eq_getElem?_getD, h4] at h3
    have h5 := (R.tree k m.P[k]).2 ⟨k, rfl, by omega, h4, h3⟩
    rw [(fnd_iff R.nd).2 h5] at hf
    cases hf
theorem all_mem {P : List Int} {k : Nat} : k ∈ allP P ↔ ∃ q, P[k]? = some q ∧ 1 ≤ k ∧ 0 ≤ q := by
  unfold allP
  rw [idsTo_mem]
  constructor
  · rintro ⟨h1, h2, h3⟩
    have h4 := List.getElem?_eq_getElem h1
    rw [List.getD_eq_getElem?_getD, h4] at h3
    exact ⟨_, h4, h2, by simpa using h3⟩
  · rintro ⟨q, h1, h2, h3⟩
    refine ⟨(List.getElem?_eq_some_iff.1 h1).1, h2, ?_⟩
    rw [List.getD_eq_getElem?_getD, h1]
    simpa using h3
theorem all_nodup (P : List Int) : (allP P).Nodup := (idsTo_sorted P _ _).imp (fun h => by omega)
theorem len_law {s : CS} {m : MS} {told : List (Nat × Nat)} (R : RelW s m told) : s.par.length = (allP m.P).length := by
  have h1 : ((allP m.P).map fun k : Nat => (k : Int)).Nodup := by
    refine List.Pairwise.map _ ?_ (all_nodup m.P)
    intro a b hab
    omega
  have h2 := sub_length R.nd (l₂ := (allP m.P).map fun k : Nat => (k : Int)) (by
    intro z hz
    obtain ⟨⟨r, q⟩, hq, rfl⟩ := List.mem_map.1 hz
    obtain ⟨k, rfl, a, b, c⟩ := (R.tree r q).1 hq
    exact List.mem_map.2 ⟨k, all_mem.2 ⟨q, b, a, c⟩, rfl⟩)
  have h3 := sub_length h1 (l₂ := s.par.map (·.1)) (by
    intro z hz
    obtain ⟨k, hk, rfl⟩ := List.mem_map.1 hz
    obtain ⟨q, a, b, c⟩ := all_mem.1 hk
    exact List.mem_map.2 ⟨((k : Int), q), (R.tree k q).2 ⟨k, rfl, b, a, c⟩, rfl⟩)
  rw [List.length_map, List.length_map] at h2 h3
  omega
theorem err_law {s : CS} {m : MS} {told : List (Nat × Nat)} (R : Rel s m told) (hw : WF s) (parent : Int) : addErr s.par parent = dErr m.P parent := by
  unfold addErr dErr
  rw [live_law R, len_law R.w]
  have := hw.par.1
  rw [len_law R.w] at this
  by_cases h : parent ≠ 0 ∧ liveP m.P parent = false
  · rw [if_pos h, if_pos h]
  · rw [if_neg h, if_neg h]
    by_cases h2 : (allP m.P).length = 64
    · rw [if_pos h2, if_pos (by omega)]
    · rw [if_neg h2, if_neg (by omega)]
theorem open_rel {s : CS} {m : MS} {told : List (Nat × Nat)} (R : Rel s m told) {parent : Int} (h : dErr m.P parent = 0) (b b2 : Nat) : Rel (openS s parent b b2) { m with P := m.P ++ [parent] } told := by
  have hp : 0 ≤ parent := by
    unfold dErr at h
    split at h
    · cases h
    · rename_i hn
      by_cases h0 : parent = 0
      · omega
      · have : liveP m.P parent = true := by
          cases hl : liveP m.P parent with
          | true => rfl
          | false => exact absurd ⟨h0, hl⟩ hn
        unfold liveP at this
        have := of_decide_eq_true this
        omega
  have hl := R.last
  refine ⟨R.len, R.lays, ?_, ?_, ?_, R.obj, R.gone, R.used, R.gens, R.nodup⟩
  · intro r q
    show (r, q) ∈ s.par ++ [(((s.last + 1 : Nat) : Int), parent)] ↔ ∃ k : Nat, r = k ∧ 1 ≤ k ∧ (m.P ++ [parent])[k]? = some q ∧ 0 ≤ q
    rw [List.mem_append, R.tree r q]
    constructor
    · rintro (⟨k, rfl, a, b, c⟩ | h)
      · exact ⟨k, rfl, a, by rw [List.getElem?_append_left (List.getElem?_eq_some_iff.1 b).1]; exact b, c⟩
      · simp only [List.mem_singleton] at h
        injection h with h1 h2
        subst h1 h2
        exact ⟨s.last + 1, rfl, by omega, by rw [hl, List.getElem?_append_right (Nat.le_refl _), Nat.sub_self]; rfl, hp⟩
    · rintro ⟨k, rfl, a, b, c⟩
      by_cases hk : k < m.P.length
      · rw [List.getElem?_append_left hk] at b
        exact .inl ⟨k, rfl, a, b, c⟩
      · right
        have hk2 := (List.getElem?_eq_some_iff.1 b).1
        simp at hk2
        obtain rfl : k = m.P.length := by omega
        rw [List.getElem?_append_right (Nat.le_refl _), Nat.sub_self] at b
        injection b with b
        simp only [List.mem_singleton]
        rw [hl, ← b]
  · show ((s.par ++ [(((s.last + 1 : Nat) : Int), parent)]).map (·.1)).Nodup
    rw [List.map_append]
    refine List.nodup_append.2 ⟨R.nd, by simp, ?_⟩
    intro a ha b hb
    simp only [List.map_cons, List.map_nil, List.mem_singleton] at hb
    subst hb
    obtain ⟨⟨r, q⟩, hq, rfl⟩ := List.mem_map.1 ha
    obtain ⟨k, h1, _, h2, _⟩ := (R.tree r q).1 hq
    have := (List.getElem?_eq_some_iff.1 h2).1
    intro h3
    have h4 : r = ((s.last + 1 : Nat) : Int) := h3
    omega
  · show s.last + 1 + 1 = (m.P ++ [parent]).length
    simp; omega

theorem layX_app {ls : List Lay} {l : Lay} {i : Nat} (h : i - 1 < ls.length) : layX (ls ++ [l]) i = layX ls i := by
  unfold layX
  rw [List.getElem?_append_left h]
theorem Like_lays {ls : List Lay} {told : List (Nat × Nat)} {e : Ent} {x : Mob} (h : Like ls told e x) {l : Lay} (hi : x.lay - 1 < ls.length) : Like (ls ++ [l]) told e x := by
  refine ⟨h.region, h.lay, h.count, h.held, h.pinned, h.len, ?_, ?_, ?_⟩
  · rw [layX_app hi]; exact h.ref
  · rw [layX_app hi]; exact h.word
  · rw [layX_app hi]; exact h.kind
theorem def_law {s : CS} {m : MS} {told : List (Nat × Nat)} (R : Rel s m told) (hm : MWF m) (ws : List Nat) : (defS s ws).2 = (defM m ws).2 ∧ Rel (defS s ws).1 (defM m ws).1 told := by
  cases hd : decodeL ws with
  | none =>
    have h1 : defM m ws = (m, 0, 4) := by unfold defM; rw [hd]
    rw [h1, defS_none hd]
    exact ⟨rfl, R⟩
  | some l =>
    have h1 : defM m ws = if 64 ≤ m.lays.length then (m, 0, 5) else ({ m with lays := m.lays ++ [l] }, m.lays.length + 1, 0) := by unfold defM; rw [hd]
    rw [h1, defS_some hd, R.lays]
    have := hm.lays.1
    by_cases h64 : m.lays.length = 64
    · rw [if_pos h64, if_pos (by omega)]
      exact ⟨rfl, R⟩
    · rw [if_neg h64, if_neg (by omega)]
      refine ⟨rfl, R.len, rfl, R.tree, R.nd, R.last, ?_, R.gone, R.used, R.gens, R.nodup⟩
      intro o x k g hx ht hg
      obtain ⟨e, h1, h2⟩ := R.obj o x k g hx ht hg
      have hmo := hm.objs x (List.mem_of_getElem? hx)
      obtain ⟨l', h3, _⟩ := hmo.lay
      exact ⟨e, h1, Like_lays h2 (List.getElem?_eq_some_iff.1 h3).1⟩

theorem may_law {s : CS} {m : MS} {told : List (Nat × Nat)} (R : Rel s m told) (region id count : Int) : makeE s region id count = (mayM m region id count).2 ∧ ((mayM m region id count).2 = 0 → makeN s id count = (mayM m region id count).1) := by
  unfold makeE makeN mayM layI
  rw [live_law R, R.lays]
  by_cases h1 : liveP m.P region = false
  · rw [if_pos h1, if_pos h1]
    exact ⟨rfl, fun h => by cases h⟩
  · rw [if_neg h1, if_neg h1]
    by_cases h2 : id < 1 ∨ (m.lays.length : Int) < id
    · rw [if_pos h2, if_pos h2]
      exact ⟨rfl, fun h => by cases h⟩
    · rw [if_neg h2, if_neg h2]
      exact ⟨rfl, fun _ => rfl⟩

theorem Like_told {ls : List Lay} {told : List (Nat × Nat)} {e : Ent} {x : Mob} (h : Like ls told e x) {t : Nat × Nat} (hx : ∀ p, x.kind[p]? = some 2 → x.to.getD p 0 < told.length) : Like ls (told ++ [t]) e x := by
  refine ⟨h.region, h.lay, h.count, h.held, h.pinned, h.len, ?_, h.word, h.kind⟩
  intro p hp hr
  rw [h.ref p hp hr]
  unfold lnkM
  by_cases h2 : x.kind.getD p 0 = 2
  · rw [if_pos h2, if_pos h2]
    have h3 : x.kind[p]? = some 2 := by
      rw [List.getD_eq_getElem?_getD] at h2
      cases hk : x.kind[p]? with
      | none => rw [hk] at h2; cases h2
      | some q => rw [hk] at h2; exact congrArg some h2
    rw [List.getElem?_append_left (hx p h3)]
  · rw [if_neg h2, if_neg h2]
theorem rep_get (n p : Nat) : (List.replicate n 0).getD p 0 = 0 := by
  rw [List.getD_eq_getElem?_getD, List.getElem?_replicate]
  split <;> rfl
theorem make_rel {s s' : CS} {m : MS} {told : List (Nat × Nat)} (R : Rel s m told) (hm : MWF m) {region id count : Int} (hmay : (mayM m region id count).2 = 0) {k g0 addr : Nat} (hk : s.tab[k]? = some ⟨g0, none⟩)
    (e1 : s'.lays = s.lays) (e2 : s'.last = s.last) (e3 : s'.par = s.par) (e4 : s'.tab = s.tab.set k ⟨g0 + 1, some ⟨addr, region, true, false, id.toNat, count.toNat, List.replicate (makeN s id count) 0⟩⟩) :
    (∀ n : Nat, told[n]? ≠ some (k, g0 + 1)) ∧ Rel s' (makeM m region id count) (told ++ [(k, g0 + 1)]) := by
  have hkl := (List.getElem?_eq_some_iff.1 hk).1
  have hn : makeN s id count = (mayM m region id count).1 := (may_law R region id count).2 hmay
  have hr : makeM m region id count = { m with objs := m.objs ++ [newM region id count (mayM m region id count).1] } := rfl
  have hreg : region = (region.toNat : Int) := by
    obtain ⟨r, la, c, l, rfl, _⟩ := mayM_ok hmay
    rfl
  have hnew : ∀ n : Nat, told[n]? ≠ some (k, g0 + 1) := by
    intro n hn
    obtain ⟨t, h1, h2⟩ := R.gens n k (g0 + 1) hn
    rw [hk] at h1
    injection h1 with h1
    subst h1
    have h2 : g0 + 1 ≤ g0 := h2
    omega
  refine ⟨hnew, ?_⟩
  rw [hr]
  have hne : ∀ (o k0 g : Nat) (e : Ent), s.tab[k0]? = some ⟨g, some e⟩ → k ≠ k0 := by
    rintro o k0 g e h rfl
    rw [hk] at h
    injection h with h
    injection h with _ h
    cases h
  refine ⟨by show (told ++ [_]).length = (m.objs ++ [_]).length; rw [List.length_append, List.length_append, R.len]; rfl, by rw [e1]; exact R.lays, by rw [e3]; exact R.tree, by rw [e3]; exact R.nd, by rw [e2]; exact R.last, ?_, ?_, ?_, ?_, ?_⟩
  · intro o x k0 g (hx : (m.objs ++ [newM region id count (mayM m region id count).1])[o]? = some x) ht hg
    by_cases ho : o < m.objs.length
    · rw [List.getElem?_append_left ho] at hx
      rw [List.getElem?_append_left (by rw [R.len]; exact ho)] at ht
      obtain ⟨e, h1, h2⟩ := R.obj o x k0 g hx ht hg
      refine ⟨e, ?_, Like_told h2 (by rw [R.len]; exact (hm.objs x (List.mem_of_getElem? hx)).goes)⟩
      rw [e4, List.getElem?_set_ne (hne o k0 g e h1)]
      exact h1
    · have hol := (List.getElem?_eq_some_iff.1 hx).1
      rw [List.length_append] at hol
      obtain rfl : o = m.objs.length := by simp at hol; omega
      rw [List.getElem?_append_right (Nat.le_refl _), Nat.sub_self] at hx
      rw [← R.len, List.getElem?_append_right (Nat.le_refl _), Nat.sub_self] at ht
      injection hx with hx
      injection ht with ht
      injection ht with h1 h2
      subst hx h1 h2
      refine ⟨_, by rw [e4, List.getElem?_set_self hkl], ?_⟩
      rw [hn]
      refine ⟨hreg, rfl, rfl, rfl, rfl, rfl, ?_, ?_, ?_⟩
      · intro p hp _
        show lnkOf ((List.replicate _ 0).getD p 0) = lnkM _ ((List.replicate _ 0).getD p 0) ((List.replicate _ 0).getD p 0)
        rw [rep_get]
        rfl
      · intro p hp _
        rfl
      · intro p hp (hk : (List.replicate _ 0).getD p 0 ≠ 0)
        exact absurd (rep_get _ p) hk
  · intro o x k0 g (hx : (m.objs ++ [newM region id count (mayM m region id count).1])[o]? = some x) ht hg
    by_cases ho : o < m.objs.length
    · rw [List.getElem?_append_left ho] at hx
      rw [List.getElem?_append_left (by rw [R.len]; exact ho)] at ht
      intro e h1
      rw [e4] at h1
      rcases tab_set h1 with ⟨rfl, h2, _⟩ | ⟨_, h2⟩
      · injection h2 with h2 _
        subst h2
        exact hnew o ht
      · exact R.gone o x k0 g hx ht hg e h2
    · have hol := (List.getElem?_eq_some_iff.1 hx).1
      rw [List.length_append] at hol
      obtain rfl : o = m.objs.length := by simp at hol; omega
      rw [List.getElem?_append_right (Nat.le_refl _), Nat.sub_self] at hx
      injection hx with hx
      subst hx
      cases hg
  · intro k0 g e h1
    rw [e4] at h1
    rcases tab_set h1 with ⟨rfl, h2, _⟩ | ⟨_, h2⟩
    · injection h2 with h2 _
      subst h2
      exact ⟨told.length, by rw [List.getElem?_append_right (Nat.le_refl _), Nat.sub_self]; rfl⟩
    · obtain ⟨o, ho⟩ := R.used k0 g e h2
      exact ⟨o, by rw [List.getElem?_append_left (List.getElem?_eq_some_iff.1 ho).1]; exact ho⟩
  · intro o k0 g ht
    rw [e4]
    by_cases ho : o < told.length
    · rw [List.getElem?_append_left ho] at ht
      obtain ⟨t, h1, h2⟩ := R.gens o k0 g ht
      by_cases hkk : k = k0
      · subst hkk
        rw [hk] at h1
        injection h1 with h1
        subst h1
        exact ⟨_, List.getElem?_set_self hkl, by show g ≤ g0 + 1; have h2 : g ≤ g0 := h2; omega⟩
      · exact ⟨t, by rw [List.getElem?_set_ne hkk]; exact h1, h2⟩
    · have hol := (List.getElem?_eq_some_iff.1 ht).1
      rw [List.length_append] at hol
      obtain rfl : o = told.length := by simp at hol; omega
      rw [List.getElem?_append_right (Nat.le_refl _), Nat.sub_self] at ht
      injection ht with ht
      injection ht with h1 h2
      subst h1 h2
      exact ⟨_, List.getElem?_set_self hkl, Nat.le_refl _⟩
  · refine List.nodup_append.2 ⟨R.nodup, by simp, ?_⟩
    intro a ha b hb
    simp only [List.mem_singleton] at hb
    subst hb
    rintro rfl
    obtain ⟨n, h⟩ := List.mem_iff_getElem?.1 ha
    exact hnew n h
end Go.Proofs.YtcaaojbnjfdglaaGreatDoor
namespace Go.Proofs.YtcaaojbnjfdglaaGreatDoor
open Go.SL

def tkc (l : List (Nat × Nat)) : List Value := l.flatMap fun t => [.int .i64 (t.1 : Nat), .int .i64 (t.2 : Nat)]
theorem tkc_length (l : List (Nat × Nat)) : (tkc l).length = l.length * 2 := by
  induction l with
  | nil => rfl
  | cons p L ih => simp only [tkc, List.flatMap_cons, List.length_append, List.length_cons, List.length_nil] at ih ⊢; omega
theorem tkc_append (a b : List (Nat × Nat)) : tkc (a ++ b) = tkc a ++ tkc b := by simp [tkc]
theorem tkc_get {L : List (Nat × Nat)} {i : Nat} {p : Nat × Nat} (h : L[i]? = some p) : (tkc L)[i * 2]? = some (.int .i64 (p.1 : Nat)) ∧ (tkc L)[i * 2 + 1]? = some (.int .i64 (p.2 : Nat)) := by
  induction L generalizing i with
  | nil => simp at h
  | cons x L ih =>
    cases i with
    | zero =>
      simp at h
      subst h
      exact ⟨rfl, rfl⟩
    | succ i =>
      have := ih (i := i) (by simpa using h)
      rw [show (i + 1) * 2 = i * 2 + 2 by omega]
      exact this
theorem tkc_el {c : List Value} {o n : Nat} {L : List (Nat × Nat)} (h : Reads c o n (tkc L)) {i : Nat} {p : Nat × Nat} (hp : L[i]? = some p) : Reads c (o + i * 2) 2 [.int .i64 (p.1 : Nat), .int .i64 (p.2 : Nat)] := by
  obtain ⟨h1, h2⟩ := tkc_get hp
  refine h.part (es := [.int .i64 (p.1 : Nat), .int .i64 (p.2 : Nat)]) fun j v hj => ?_
  match j, hj with
  | 0, hj => rw [← hj]; exact h1
  | 1, hj => rw [← hj]; exact h2
theorem tkc_reads {L : List (Nat × Nat)} {spare : List Value} {i : Nat} {p : Nat × Nat} (h : L[i]? = some p) : Reads (tkc L ++ spare) (0 + i * 2) 2 [.int .i64 (p.1 : Nat), .int .i64 (p.2 : Nat)] := by
  refine tkc_el (L := L) (n := (tkc L).length) (Reads.of_get fun j v hj => ?_) h
  rw [Nat.zero_add, List.getElem?_append_left (List.getElem?_eq_some_iff.1 hj).1]
  exact hj

@[reducible] def TKL (v : Value) (told : List (Nat × Nat)) : HProp := sls 32 2 v (tkc told)
@[reducible] def RROW (p c mo : Nat) (v : Value) : HProp := pts p (row 40 [pp c, pp mo, v])
structure RQ where
  c : Nat
  mo : Nat
  v : Value
def RUN (p : Nat) (s : CS) (m : MS) (told : List (Nat × Nat)) : HProp := ex fun q : RQ => star [RROW p q.c q.mo q.v, CELL q.c s, MODEL q.mo m, TKL q.v told]
theorem RUN_out [Extra] {w : World} {p : Nat} {s : CS} {m : MS} {told : List (Nat × Nat)} {l : List HProp} (H : Holds w (RUN p s m told :: l)) : ∃ (c mo : Nat) (a : Option Addr) (cap : Nat), Holds w (RROW p c mo (.slice a told.length cap) :: CELL c s :: MODEL mo m :: TKL (.slice a told.length cap) told :: l) := by
  obtain ⟨⟨c, mo, v⟩, H⟩ := Holds.ex.1 H
  have H := Holds.star.1 H
  obtain ⟨a, cap, rfl⟩ := sls_slice (H.drop.drop.drop) (tkc_length told) (by decide)
  exact ⟨c, mo, a, cap, H⟩
theorem RUN_in [Extra] {w : World} {p c mo : Nat} {v : Value} {s : CS} {m : MS} {told : List (Nat × Nat)} {l : List HProp} (H : Holds w (RROW p c mo v :: CELL c s :: MODEL mo m :: TKL v told :: l)) : Holds w (RUN p s m told :: l) :=
  Holds.ex.2 ⟨⟨c, mo, v⟩, Holds.star.2 H⟩

theorem pick_spec [Extra] (p c mo : Nat) (a : Option Addr) (cap : Nat) (told : List (Nat × Nat)) (hlen : told.length ≤ 1000000) (k i g : Int) (raw : Bool) {w : World} {fr : List HProp} (H : Holds w (RROW p c mo (.slice a told.length cap) :: TKL (.slice a told.length cap) told :: fr)) :
    Calls Tryz.prog 16 #[pp p, .int .i64 k, .bool raw, tkI2 i g] w (ret fun v w' => ∃ i' g' o, v = .tuple #[tkI2 i' g', .int .i64 o] ∧ Pick told i' g' o ∧ (raw = false → told ≠ [] → o ≠ -1) ∧ (raw = true ∨ told = [] → i' = i ∧ g' = g) ∧ Holds w' (RROW p c mo (.slice a told.length cap) :: TKL (.slice a told.length cap) told :: fr)) := by
  refine calls_of Tryz.func16 rfl (by kernel_rfl) ?_
  refine J5 H ?_
  clear H; intro b7 w H
  refine J17 H ?_
  clear H; intro b8 w H
  refine J14 H ?_
  refine C_join (fun ms σ w => ms = [] ∧ (∃ q, σ 21 = .bool q ∧ (q = true ↔ raw = false ∧ told ≠ [])) ∧ σ 0 = pp p ∧ σ 1 = .int .i64 k ∧ σ 7 = pp b7 ∧ σ 8 = pp b8 ∧ Holds w (pts b7 (row 32 [.int .i64 i, .int .i64 g]) :: pts b8 (row 32 [.int .i64 0, .int .i64 0]) :: RROW p c mo (.slice a told.length cap) :: TKL (.slice a told.length cap) told :: fr)) ?_ ?_
  · cases raw with
    | true =>
      refine J9 H ?_
      refine J93 H ?_
      refine J94 H ?_
      refine J0 H ?_
      exact ⟨rfl, rfl, ⟨false, rfl, by simp⟩, rfl, rfl, rfl, rfl, H.swap⟩
    | false =>
      refine J199 H ?_
      refine J195 H ?_
      refine J0 H ?_
      refine ⟨rfl, rfl, ⟨_, rfl, ?_⟩, rfl, rfl, rfl, rfl, H.swap⟩
      cases told with
      | nil => simp
      | cons x l =>
        refine ⟨fun _ => ⟨rfl, by simp⟩, fun _ => ?_⟩
        show decide ((((x :: l).length : Nat) : Int) > 0) = true
        exact decide_eq_true (by rw [List.length_cons]; omega)
  clear H
  rintro ms σ w ⟨rfl, ⟨q, g21, hq⟩, g0, g1, g7, g8, H⟩
  rw [upd_self g21, upd_self g0, upd_self g1, upd_self g7, upd_self g8]
  refine J12 H ?_
  refine C_join (fun ms σ w => ms = [] ∧ σ 0 = pp p ∧ σ 7 = pp b7 ∧ σ 8 = pp b8 ∧ ∃ i' g' : Int, (raw = false → told ≠ [] → ∃ n x y : Nat, told[n]? = some (x, y) ∧ i' = x ∧ g' = y) ∧ (raw = true ∨ told = [] → i' = i ∧ g' = g) ∧ Holds w (pts b7 (row 32 [.int .i64 i', .int .i64 g']) :: pts b8 (row 32 [.int .i64 0, .int .i64 0]) :: RROW p c mo (.slice a told.length cap) :: TKL (.slice a told.length cap) told :: fr)) ?_ ?_
  · cases q with
    | true =>
      obtain ⟨hq1, hq2⟩ := hq.1 rfl
      refine J11 H ?_
      refine J1 H ?_
      clear H; intro w H
      refine J16 H ?_
      refine A_load1 3 [16] H rfl (Wants.none rfl) rfl rfl (by kernel_rfl) ?_
      refine J84 H ?_
      refine A_convI 5 rfl (Wants.none rfl) rfl (by kernel_rfl) ?_
      refine J155 H ?_
      refine J132 H ?_
      refine A_load1 9 [16] H rfl (Wants.none rfl) rfl rfl (by kernel_rfl) ?_
      refine A_lenSlice 10 rfl (Wants.none rfl) rfl (by kernel_rfl) ?_
      refine A_convI 11 rfl (Wants.none rfl) rfl (by kernel_rfl) ?_
      obtain ⟨K, hK⟩ : ∃ K : Nat, IntKind.u64.wrap k = K := ⟨(IntKind.u64.wrap k).toNat, by
        have : 0 ≤ IntKind.u64.wrap k := Int.emod_nonneg _ (by decide)
        omega⟩
      have hlp : 0 < told.length := List.length_pos_iff.2 hq2
      have e1 : IntKind.u64.wrap (told.length : Int) = (told.length : Int) := Int.emod_eq_of_lt (by omega) (by show (told.length : Int) < 18446744073709551616; omega)
      rw [hK, e1]
      have hmod := Nat.mod_lt K hlp
      refine A_pv (v := .int .u64 ((K % told.length : Nat) : Int)) 12 rfl (Wants.none rfl) (by
        show (if IntKind.u64 = IntKind.u64 then (if (told.length : Int) = 0 then none else some (Value.int IntKind.u64 (Int.tmod (K : Int) (told.length : Int)))) else none) = _
        rw [if_pos rfl, if_neg (by omega), Int.tmod_eq_emod_of_nonneg (by omega), Int.natCast_emod]) (by kernel_rfl) ?_
      refine A_convI 13 rfl (Wants.none rfl) rfl (by kernel_rfl) ?_
      rw [wrap64 (x := ((K % told.length : Nat) : Int)) (by omega) (by omega)]
      generalize K % told.length = n at hmod
      have hn := List.getElem?_eq_getElem hmod
      generalize told[n] = xy at hn
      obtain ⟨x, y⟩ := xy
      replace H := Js [3,0,0,0] 0 H
      obtain ⟨bT, sT, rfl, H, hcl⟩ := sls_open H hlp
      refine A_indexAddr 14 rfl (Wants.none rfl) rfl rfl (by omega) (by omega) (by kernel_rfl) ?_
      refine A_loadN 15 [16] H rfl (Wants.none rfl) rfl (tkc_reads hn) (by kernel_rfl) ?_
      refine Jo 16 H ?_
      refine J35 H ?_
      clear H; intro w H
      replace H := hcl _ _ H
      refine J2 H ?_
      replace H := Js [1,1,1,0] 0 H
      exact ⟨rfl, rfl, rfl, rfl, rfl, x, y, fun _ _ => ⟨n, x, y, hn, rfl, rfl⟩, fun h => absurd h (by rintro (h | h); exact absurd (hq1.symm.trans h) (by decide); exact hq2 h), H⟩
    | false =>
      refine J8 H ?_
      refine ⟨rfl, rfl, rfl, rfl, rfl, i, g, ?_, fun _ => ⟨rfl, rfl⟩, H⟩
      intro h1 h2
      exact absurd (hq.2 ⟨h1, h2⟩) (by decide)
  clear H
  rintro ms σ w ⟨rfl, g0, g7, g8, i', g', hin, hout, H⟩
  rw [upd_self g0, upd_self g7, upd_self g8]
  refine J112 H ?_
  refine J89 H ?_
  refine C_loop (fun ms σ w q => ms = [] ∧ ∃ j : Nat, j ≤ told.length ∧ q = told.length - j ∧ (∀ (n x y : Nat), n < j → told[n]? = some (x, y) → ¬(i' = x ∧ g' = y)) ∧ σ 7 = pp b7 ∧ σ 8 = pp b8 ∧ σ 41 = .slice a told.length cap ∧ σ 42 = .int .i64 told.length ∧ σ 43 = .int .i64 j ∧ Holds w (TKL (.slice a told.length cap) told :: pts b7 (row 32 [.int .i64 i', .int .i64 g']) :: pts b8 (row 32 [.int .i64 0, .int .i64 0]) :: RROW p c mo (.slice a told.length cap) :: fr)) (m := told.length) ⟨rfl, 0, by omega, rfl, by omega, rfl, rfl, rfl, rfl, rfl, H.sel [3, 0, 0, 0] 0⟩ ?_
  clear H
  rintro ms σ w q ⟨rfl, j, hj, rfl, hno, g7, g8, g41, g42, g43, H⟩
  rw [upd_self g7, upd_self g8, upd_self g41, upd_self g42, upd_self g43]
  refine J21 H ?_
  refine C_dec rfl (fun h => C_skip ?_) (fun h => C_exit ?_)
  · have hlt : j < told.length := by omega
    have hn := List.getElem?_eq_getElem hlt
    generalize told[j] = xy at hn
    obtain ⟨x, y⟩ := xy
    obtain ⟨bT, sT, rfl, H, hcl⟩ := sls_open H (by omega)
    refine J184 H ?_
    refine Lp_s rfl (St_indexAddr rfl rfl (by omega) (by omega) rfl ?_)
    refine Lp_s rfl (St_loadN H rfl (tkc_reads hn) rfl ?_)
    refine J17 H ?_
    clear H; intro b11 w H
    refine J259 H ?_
    clear H; intro w H
    refine Lp_nil ?_
    refine J29 H ?_
    refine J55 H ?_
    refine Lp_s rfl (St_eqPair rfl rfl (.inl rfl) rfl ?_)
    refine Lp_nil ?_
    replace H := H.drop
    refine C_dec (p := ((x : Int), (y : Int)) = (i', g')) rfl (fun he => ?_) (fun he => C_skip ?_)
    · injection he with h1 h2
      subst h1 h2
      refine J76 H ?_
      clear H; intro w H
      refine J0 H ?_
      replace H := hcl _ _ H
      replace H := Js [2,2,0] 1 H
      refine C_ret (Jz H (fun w' H' => .cellN H' rfl (by repeat (first | exact Reads.nil _ | apply Reads.cons rfl)) (.tmp .nil)) fun w' H' => ⟨x, y, j, rfl, .inl ⟨x, y, j, rfl, rfl, rfl, hn⟩, fun _ _ => by omega, hout, H'.drop⟩)
    · replace H := hcl _ _ H
      refine J3 H ?_
      refine ⟨_, ⟨rfl, j + 1, hlt, rfl, ?_, rfl, rfl, rfl, rfl, inc64 (by omega), H⟩, by omega⟩
      intro n x' y' hnj hn' hc
      by_cases hnj' : n = j
      · subst hnj'
        rw [hn] at hn'
        injection hn' with hn'
        injection hn' with h1 h2
        subst h1 h2
        exact he (by rw [hc.1, hc.2])
      · exact hno n x' y' (by omega) hn' hc
  · have hge : j = told.length := by omega
    subst hge
    refine J86 H ?_
    clear H; intro w H
    refine J0 H ?_
    replace H := Js [2,2,0] 1 H
    refine C_ret (Jz H (fun w' H' => .cellN H' rfl (by repeat (first | exact Reads.nil _ | apply Reads.cons rfl)) (.tmp .nil)) fun w' H' => ⟨i', g', -1, rfl, .inr ⟨rfl, ?_⟩, ?_, hout, H'.drop⟩)
    · intro x y n h1 h2 hn
      exact hno n x y (List.getElem?_eq_some_iff.1 hn).1 hn ⟨h1, h2⟩
    · intro h1 h2 _
      obtain ⟨n, x, y, hn, h3, h4⟩ := hin h1 h2
      exact hno n x y (List.getElem?_eq_some_iff.1 hn).1 hn ⟨h3, h4⟩
end Go.Proofs.YtcaaojbnjfdglaaGreatDoor
namespace Go.Proofs.YtcaaojbnjfdglaaGreatDoor
open Go.SL

theorem veq_refl3 (a b c : Int) : veq [.int .i64 a, .int .i64 b, .int .i64 c] [.int .i64 a, .int .i64 b, .int .i64 c] = true := by
  simp [veq]

theorem eql_veq (xs ys : List Value) : (if isEql BinOp.eql = true then veq xs ys else !veq xs ys) = veq xs ys := if_pos rfl

theorem link_spec [Extra] (p c mo : Nat) (a : Option Addr) (cap : Nat) (told : List (Nat × Nat)) (kd t : Nat) (hkd : kd ≤ 2) (ht : kd = 2 → t < told.length) {w : World} {fr : List HProp} (H : Holds w (RROW p c mo (.slice a told.length cap) :: TKL (.slice a told.length cap) told :: fr)) :
    Calls Tryz.prog 50 #[pp p, lkv (lnkM told kd t), .int .i64 kd, .int .i64 t] w (ret fun v w' => v = .bool true ∧ Holds w' (RROW p c mo (.slice a told.length cap) :: TKL (.slice a told.length cap) told :: fr)) := by
  by_cases h2 : kd = 2
  · subst h2
    have hlt := ht rfl
    have hn := List.getElem?_eq_getElem hlt
    generalize told[t] = xy at hn
    obtain ⟨x, y⟩ := xy
    have hln : lnkM told 2 t = .obj x y := by unfold lnkM; rw [if_pos rfl, hn]; rfl
    rw [hln]
    refine calls_of Tryz.func50 rfl (by kernel_rfl) ?_
    refine J5 H ?_
    clear H; intro b5 w H
    refine J26 H ?_
    refine J11 H ?_
    replace H := Js [2,0,0] 0 H
    obtain ⟨bT, sT, rfl, H, hcl⟩ := sls_open H (by omega)
    refine J1 H ?_
    clear H; intro w H
    refine J160 H ?_
    refine A_load1 4 [] H rfl (Wants.none rfl) rfl rfl (by kernel_rfl) ?_
    refine A_lenSlice 5 rfl (Wants.none rfl) rfl (by kernel_rfl) ?_
    refine A_pv 6 rfl (Wants.none rfl) rfl (by kernel_rfl) ?_
    rw [show decide ((t : Int) < (told.length : Int)) = true from decide_eq_true (by omega)]
    refine J58 H ?_
    refine A_loadN 8 [] H rfl (Wants.of rfl rfl rfl) rfl (by repeat (first | exact Reads.nil _ | apply Reads.cons rfl)) (by kernel_rfl) ?_
    refine J253 H ?_
    refine A_pv 10 rfl (Wants.of rfl rfl rfl) rfl (by kernel_rfl) ?_
    refine A_fieldAddr 11 rfl (Wants.of rfl rfl rfl) rfl (by kernel_rfl) ?_
    refine A_load1 12 [] H rfl (Wants.of rfl rfl rfl) rfl rfl (by kernel_rfl) ?_
    refine J254 H ?_
    refine A_indexAddr 14 rfl (Wants.of rfl rfl rfl) rfl rfl (by omega) (by omega) (by kernel_rfl) ?_
    refine A_loadN 15 [] H rfl (Wants.of rfl rfl rfl) rfl (tkc_reads hn) (by kernel_rfl) ?_
    refine A_build 16 rfl (Wants.of rfl rfl rfl) rfl (by kernel_rfl) ?_
    refine A_eqAgg 17 rfl (Wants.of rfl rfl rfl) rfl rfl rfl rfl (.inl rfl) (by kernel_rfl) ?_
    rw [eql_veq, veq_refl3]
    refine J179 H ?_
    refine A_pv 19 rfl (Wants.none rfl) rfl (by kernel_rfl) ?_
    refine J2 H ?_
    replace H := hcl _ _ H
    replace H := Js [2,0] 1 H
    exact C_ret (Jy H rfl fun w' H' => ⟨rfl, H'⟩)
  · have hln : lkv (lnkM told kd t) = .agg #[.int .i64 kd, .int .i64 0, .int .i64 0] := by
      unfold lnkM
      rw [if_neg h2]
      by_cases h1 : kd = 1
      · subst h1; rfl
      · obtain rfl : kd = 0 := by omega
        rfl
    rw [hln]
    refine calls_of Tryz.func50 rfl (by kernel_rfl) ?_
    refine J5 H ?_
    clear H; intro b5 w H
    refine J26 H ?_
    rw [show ((kd : Int) == 2) = false by simp; omega]
    refine J8 H ?_
    refine J29 H ?_
    refine J10 H ?_
    refine J45 H ?_
    refine Lp_s rfl (St_eqAgg rfl rfl rfl rfl (.inl rfl) rfl ?_)
    refine J0 H ?_
    have hv := veq_refl3 kd 0 0
    exact C_ret (Jy H.drop rfl fun w' H' => ⟨congrArg Value.bool ((eql_veq _ _).trans hv), H'⟩)
end Go.Proofs.YtcaaojbnjfdglaaGreatDoor
namespace Go.Proofs.YtcaaojbnjfdglaaGreatDoor
open Go.SL

/-- A run of free chunks. -/
def FreeRun (own : List Nat) (n : Nat) : Prop := ∃ a, a + n ≤ own.length ∧ ∀ i, a ≤ i → i < a + n → own.getD i 0 = 0
theorem run_spec [Extra] (p c mo : Nat) (v : Value) (s : CS) {w : World} {fr : List HProp} (H : Holds w (RROW p c mo v :: CELL c s :: fr)) :
    Calls Tryz.prog 116 #[pp p] w (ret fun x w' => ∃ b : Nat, x = .int .i64 b ∧ FreeRun s.own b ∧ Holds w' (RROW p c mo v :: CELL c s :: fr)) := by
  obtain ⟨q, mem, hw, hm, H⟩ := CELL_out H.swap
  have hol := hw.own.2
  refine calls_of Tryz.func116 rfl (by kernel_rfl) ?_
  refine J23 H ?_
  refine J3 H ?_
  replace H := Js [3,0,0,0,0,0,0,0,0,0,0,0] 0 H
  refine J180 H ?_
  refine Jc rfl rfl (Chunks_spec q.sp s.size mem s.own H) ?_
  clear H; rintro v w ⟨rfl, H⟩
  refine J89 H ?_
  refine C_loop (fun ms σ w n => ms = [] ∧ ∃ j row best : Nat, j ≤ s.own.length ∧ n = s.own.length - j ∧ row ≤ j ∧ best ≤ j ∧ (∀ i, j - row ≤ i → i < j → s.own.getD i 0 = 0) ∧ (∃ a, a + best ≤ j ∧ ∀ i, a ≤ i → i < a + best → s.own.getD i 0 = 0) ∧ σ 0 = pp p ∧ σ 3 = .int .i64 best ∧ σ 4 = .int .i64 row ∧ σ 13 = .int .i64 s.own.length ∧ σ 14 = .int .i64 j ∧
    Holds w (ST q.sp s.size mem s.own :: CROW c q :: IMG q.ip q.sp q.bp :: BOOK q.bp s.lays :: TAB q.tp s.tab :: TRE q.trp s.last s.par :: RS q.rp s.rem :: mp (ki .i64) ptrv q.sm (s.sps.map spkey) :: star (s.sps.map (spres q.sp)) :: mp (ki .i64) ptrv q.mm (s.mns.map mnkey) :: star (s.mns.map mnres) :: RROW p c mo v :: fr)) (m := s.own.length) ⟨rfl, 0, 0, 0, by omega, rfl, by omega, by omega, by omega, ⟨0, by omega, by omega⟩, rfl, rfl, rfl, rfl, rfl, H⟩ ?_
  clear H
  rintro ms σ w n ⟨rfl, j, row, best, hj, rfl, hrj, hbj, hrow, hbest, g0, g3, g4, g13, g14, H⟩
  rw [upd_self g0, upd_self g3, upd_self g4, upd_self g13, upd_self g14]
  refine J21 H ?_
  refine C_dec rfl (fun h => C_skip ?_) (fun h => C_exit ?_)
  · have hlt : j < s.own.length := by omega
    refine J232 H ?_
    refine J15 H ?_
    rw [inc64 (by omega)]
    refine J140 H ?_
    refine Jc rfl rfl (Owner_spec q.sp s.size mem s.own j H hlt) ?_
    clear H; rintro v w ⟨rfl, H⟩
    refine J0 H ?_
    by_cases h0 : s.own.getD j 0 = 0
    · rw [show (((s.own.getD j 0 : Nat) : Int) != 0) = false by rw [h0]; rfl]
      refine J214 H ?_
      refine J126 H ?_
      rw [show (if ((row + 1 : Nat) : Int) > ((best : Nat) : Int) then ((row + 1 : Nat) : Int) else ((best : Nat) : Int)) = ((max best (row + 1) : Nat) : Int) by split <;> omega]
      refine J26 H ?_
      rw [inc64 (by omega)]
      refine ⟨_, ⟨rfl, j + 1, row + 1, max best (row + 1), hlt, rfl, by omega, by omega, ?_, ?_, rfl, rfl, rfl, rfl, rfl, H⟩, by omega⟩
      · intro i h1 h2
        by_cases hij : i = j
        · rw [hij]; exact h0
        · exact hrow i (by omega) (by omega)
      · by_cases hb : row + 1 ≤ best
        · obtain ⟨a, h1, h2⟩ := hbest
          rw [Nat.max_eq_left hb]
          exact ⟨a, by omega, h2⟩
        · rw [Nat.max_eq_right (by omega)]
          refine ⟨j - row, by omega, fun i h1 h2 => ?_⟩
          by_cases hij : i = j
          · rw [hij]; exact h0
          · exact hrow i (by omega) (by omega)
    · rw [show (((s.own.getD j 0 : Nat) : Int) != 0) = true by rw [bne_iff_ne]; omega]
      refine J31 H ?_
      refine J6 H ?_
      refine J126 H ?_
      rw [show (if (0 : Int) > ((best : Nat) : Int) then (0 : Int) else ((best : Nat) : Int)) = ((best : Nat) : Int) by split <;> omega]
      refine J26 H ?_
      rw [inc64 (by omega)]
      obtain ⟨a, h1, h2⟩ := hbest
      exact ⟨_, ⟨rfl, j + 1, 0, best, hlt, rfl, by omega, by omega, by omega, ⟨a, by omega, h2⟩, rfl, rfl, rfl, rfl, rfl, H⟩, by omega⟩
  · obtain ⟨a, h1, h2⟩ := hbest
    refine J3 H ?_
    replace H := Js [1,1,1,0,0,0,0,0,0,0,0,0] 0 H
    exact C_ret (Jy ((CELL_in hw hm H).swap) rfl fun w' H' => ⟨best, rfl, ⟨a, by omega, h2⟩, H'⟩)
end Go.Proofs.YtcaaojbnjfdglaaGreatDoor
namespace Go.Proofs.YtcaaojbnjfdglaaGreatDoor
open Go.SL

theorem veq_info (a b c d : Int) (e : Bool) : veq [.int .i64 a, .int .i64 b, .int .i64 c, .int .i64 d, .bool e] [.int .i64 a, .int .i64 b, .int .i64 c, .int .i64 d, .bool e] = true := by
  simp [veq]
theorem tellR_spec [Extra] (p c mo : Nat) (v : Value) (s : CS) (m : MS) (told : List (Nat × Nat)) (R : RelW s m told) (i g o : Int) (P : Vd s m told i g o) {w : World} {fr : List HProp} (H : Holds w (RROW p c mo v :: CELL c s :: MODEL mo m :: fr)) :
    Calls Tryz.prog 55 #[pp p, tkI2 i g, .int .i64 o] w (ret fun x w' => x = .bool true ∧ Holds w' (RROW p c mo v :: CELL c s :: MODEL mo m :: fr)) := by
  have hT := fun (w : World) (fr : List HProp) (H : Holds w (CELL c s :: fr)) => Tell_spec c s i g H
  rw [tell_lawV R P] at hT
  obtain ⟨a1, a2, a3, a4, a5, a6, hsh⟩ : ∃ a1 a2 a3 a4 a5 a6, tellM (valM m o) = .tuple #[.agg #[.int .i64 a1, .int .i64 a2, .int .i64 a3, .int .i64 a4, .bool a5], .int .i64 a6] := by
    cases valM m o <;> exact ⟨_, _, _, _, _, _, rfl⟩
  refine calls_of Tryz.func55 rfl (by kernel_rfl) ?_
  refine J5 H ?_
  clear H; intro b4 w H
  refine J0 H ?_
  replace H := Js [2,0,0,0] 0 H
  refine J12 H ?_
  refine C_join (fun ms σ w => ms = [] ∧ ∃ b7, σ 0 = pp p ∧ σ 2 = .int .i64 o ∧ σ 7 = pp b7 ∧ σ 8 = .int .i64 a6 ∧ Holds w (pts b7 (row 44 [.int .i64 a1, .int .i64 a2, .int .i64 a3, .int .i64 a4, .bool a5]) :: RROW p c mo v :: CELL c s :: MODEL mo m :: fr)) ?_ ?_
  · refine J1 H ?_
    clear H; intro w H
    refine J245 H ?_
    refine A_two 5 9 rfl rfl (by kernel_rfl) (by repeat first | exact .nil | refine .cons (.inr H.at) ?_ | refine .cons (.inr H.mp) ?_ | refine .cons (.inl (by kernel_rfl)) ?_) (Wants.none rfl) (Wants.none rfl) (St_call (a := []) (b := []) rfl rfl (call (hT _ _ H) ?_)) (St_alloc H rfl ?_)
    · clear H; rintro v w ⟨rfl, H⟩
      rw [hsh]
      refine J246 H ?_
      clear H; intro b7 w H
      refine J247 H ?_
      clear H; intro w H
      refine J100 H ?_
      replace H := Js [0,2,0,1] 1 H
      exact ⟨rfl, rfl, b7, rfl, rfl, rfl, rfl, H⟩
    · clear H; intro b7 w H
      refine Jo 5 H ?_
      refine Jk rfl rfl (hT _ _ H.swap) ?_
      clear H; rintro v w ⟨rfl, H⟩
      rw [hsh]
      refine J248 H ?_
      clear H; intro w H
      refine J100 H ?_
      replace H := Js [1,2,0,1] 1 H
      exact ⟨rfl, rfl, b7, rfl, rfl, rfl, rfl, H⟩
  clear H
  rintro ms σ w ⟨rfl, b7, g0, g2, g7, g8, H⟩
  rw [upd_self g0, upd_self g2, upd_self g7, upd_self g8]
  replace H := Js [3,0,0,0] 0 H
  refine J13 H ?_
  refine Jc rfl rfl (Valid_spec mo m o H) ?_
  clear H; rintro v w ⟨rfl, H⟩
  
  cases hv : valM m o with
  | none =>
    rw [hv] at hsh
    cases hsh
    refine J0 H ?_
    refine J11 H ?_
    refine J9 H ?_
    refine J117 H ?_
    refine Lp_g rfl rfl rfl (St_eqAgg rfl rfl rfl rfl (.inl rfl) rfl ?_)
    refine J4 H ?_
    replace H := Js [2,2,0] 1 H
    exact C_ret (Jy H rfl fun w' H' => ⟨congrArg Value.bool ((eql_veq _ _).trans (veq_info 0 0 0 0 false)), H'⟩)
  | some nx =>
    obtain ⟨n, x⟩ := nx
    rw [hv] at hsh
    cases hsh
    obtain ⟨rfl, hx, hh, hg⟩ := valM_some hv
    have hol := (List.getElem?_eq_some_iff.1 hx).1
    obtain ⟨t, lc, aL, cL, bO, cO, sO, ptrs, q, vw, vk, vt, rest, hm, h2, hp, H, hclose⟩ := MODEL_at H hx
    have hm' := set_same hx hm
    obtain ⟨aw, cw, rfl⟩ := sls_slice H.drop (ucells_length _) (by decide)
    refine J18 H ?_
    refine J140 H ?_
    refine Lp_s rfl (St_indexAddr rfl rfl (by omega) (by omega) rfl ?_)
    refine Lp_s rfl (St_load1 H rfl hp rfl ?_)
    refine J0 H ?_
    refine J1 H ?_
    clear H; intro w H
    refine J153 H ?_
    refine A_loadN 3 [] H rfl (Wants.of rfl rfl rfl) rfl (by repeat (first | exact Reads.nil _ | apply Reads.cons rfl)) (by kernel_rfl) ?_
    refine A_pv 4 rfl (Wants.of rfl rfl rfl) rfl (by kernel_rfl) ?_
    refine J181 H ?_
    refine A_fieldAddr 6 rfl (Wants.of rfl rfl rfl) rfl (by kernel_rfl) ?_
    refine A_load1 7 [] H rfl (Wants.of rfl rfl rfl) rfl rfl (by kernel_rfl) ?_
    refine A_pv 8 rfl (Wants.of rfl rfl rfl) rfl (by kernel_rfl) ?_
    refine J253 H ?_
    refine A_fieldAddr 10 rfl (Wants.of rfl rfl rfl) rfl (by kernel_rfl) ?_
    refine A_load1 11 [] H rfl (Wants.of rfl rfl rfl) rfl rfl (by kernel_rfl) ?_
    refine J255 H ?_
    refine J254 H ?_
    refine A_fieldAddr 14 rfl (Wants.of rfl rfl rfl) rfl (by kernel_rfl) ?_
    refine A_load1 15 [] H rfl (Wants.of rfl rfl rfl) rfl rfl (by kernel_rfl) ?_
    refine A_pv 16 rfl (Wants.of rfl rfl rfl) rfl (by kernel_rfl) ?_
    refine A_pv 17 rfl (Wants.of rfl rfl rfl) rfl (by kernel_rfl) ?_
    refine J239 H ?_
    refine J267 H ?_
    refine A_lenSlice 20 rfl (Wants.of rfl rfl rfl) rfl (by kernel_rfl) ?_
    refine A_pv 21 rfl (Wants.of rfl rfl rfl) rfl (by kernel_rfl) ?_
    refine A_pv 22 rfl (Wants.of rfl rfl rfl) rfl (by kernel_rfl) ?_
    refine A_fieldAddr 23 rfl (Wants.of rfl rfl rfl) rfl (by kernel_rfl) ?_
    refine A_load1 24 [] H rfl (Wants.of rfl rfl rfl) rfl rfl (by kernel_rfl) ?_
    refine A_build 25 rfl (Wants.of rfl rfl rfl) rfl (by kernel_rfl) ?_
    refine A_eqAgg 26 rfl (Wants.of rfl rfl rfl) rfl rfl rfl rfl (.inl rfl) (by kernel_rfl) ?_
    rw [eql_veq, veq_info]
    refine A_pv 27 rfl (Wants.none rfl) rfl (by kernel_rfl) ?_
    refine A_pv 28 rfl (Wants.none rfl) rfl (by kernel_rfl) ?_
    refine J2 H ?_
    replace H := MODEL_same hx (hclose _ _ _ hm' H)
    replace H := Js [2,2,0] 1 H
    exact C_ret (Jy H rfl fun w' H' => ⟨rfl, H'⟩)
end Go.Proofs.YtcaaojbnjfdglaaGreatDoor
namespace Go.Proofs.YtcaaojbnjfdglaaGreatDoor
open Go.SL

end Go.Proofs.YtcaaojbnjfdglaaGreatDoor
namespace Go.Proofs.YtcaaojbnjfdglaaGreatDoor
open Go.SL

/-! ### A slot that is not used -/
def Used (ts : List Slt) (i : Int) : Prop := ∃ (k n : Nat) (e : Ent), i = k ∧ ts[k]? = some ⟨n, some e⟩
theorem tAt_no [Extra] (p : Nat) (ts : List Slt) (i : Int) (hno : ¬ Used ts i) {w : World} {fr : List HProp} (H : Holds w (TAB p ts :: fr)) :
    Calls Tryz.prog 98 #[pp p, .int .i64 i] w (ret fun v w' => v = .tuple #[tkI2 0 0, .bool false] ∧ Holds w' (TAB p ts :: fr)) := by
  obtain ⟨b, c, s, u, x, hok, hc, H, hclose⟩ := TAB_out H
  have hb := hok.bits.le
  refine calls_of Tryz.func98 rfl (by kernel_rfl) ?_
  refine J22 H ?_
  clear H; intro b4 w H
  refine J0 H ?_
  refine J264 H ?_
  refine J63 H ?_
  by_cases h0 : i < 0
  · rw [show decide (i < 0) = true from decide_eq_true (by omega)]
    refine J64 H ?_
    refine J131 H ?_
    refine J135 H ?_
    refine Lp_no rfl rfl rfl ?_
    refine J74 H ?_
    clear H; intro w H
    refine J0 H ?_
    exact C_ret (Jz H (fun w' H' => .cellN H' rfl (by repeat (first | exact Reads.nil _ | apply Reads.cons rfl)) (.tmp .nil)) fun w' H' => ⟨rfl, hclose _ _ ts x rfl rfl hok H'.drop⟩)
  · rw [show decide (i < 0) = false from decide_eq_false (by omega)]
    refine J27 H ?_
    refine J36 H ?_
    refine J195 H ?_
    by_cases h1 : i ≥ (ts.length : Int)
    · rw [show decide (i ≥ (ts.length : Int)) = true from decide_eq_true (by omega)]
      refine J135 H ?_
      refine Lp_no rfl rfl rfl ?_
      refine J74 H ?_
      clear H; intro w H
      refine J0 H ?_
      exact C_ret (Jz H (fun w' H' => .cellN H' rfl (by repeat (first | exact Reads.nil _ | apply Reads.cons rfl)) (.tmp .nil)) fun w' H' => ⟨rfl, hclose _ _ ts x rfl rfl hok H'.drop⟩)
    · rw [show decide (i ≥ (ts.length : Int)) = false from decide_eq_false (by omega)]
      obtain ⟨k, rfl⟩ : ∃ k : Nat, i = k := ⟨i.toNat, by omega⟩
      have hk := List.getElem?_eq_getElem (l := ts) (i := k) (by omega)
      generalize ts[k] = t at hk
      obtain ⟨g, e⟩ := t
      obtain rfl : e = none := by
        cases e with
        | none => rfl
        | some e => exact absurd ⟨k, g, e, rfl, hk⟩ hno
      have c1 : (ts.flatMap tval ++ s)[k * 6 + 1]? = some (.bool false) := flat_get tval_len hk rfl
      have ei : 0 + ((k : Nat) : Int).toNat * 6 = k * 6 := by simp
      refine J172 H ?_
      refine Lp_g rfl rfl rfl (St_indexAddr rfl rfl (by omega) (by omega) rfl ?_)
      rw [ei]
      refine Lp_g rfl rfl rfl (St_fieldAddr rfl rfl ?_)
      refine Lp_g rfl rfl rfl (St_load1 H rfl c1 rfl ?_)
      refine J24 H ?_
      refine J74 H ?_
      clear H; intro w H
      refine J0 H ?_
      exact C_ret (Jz H (fun w' H' => .cellN H' rfl (by repeat (first | exact Reads.nil _ | apply Reads.cons rfl)) (.tmp .nil)) fun w' H' => ⟨rfl, hclose _ _ ts x rfl rfl hok H'.drop⟩)
theorem at_no [Extra] (p : Nat) (s : CS) (i : Int) (hno : ¬ Used s.tab i) {w : World} {fr : List HProp} (H : Holds w (CELL p s :: fr)) :
    Calls Tryz.prog 83 #[pp p, .int .i64 i] w (ret fun v w' => v = .tuple #[.agg #[.int .i64 0, .int .i64 0, .bool false, .bool false], .bool false] ∧ Holds w' (CELL p s :: fr)) := by
  obtain ⟨q, mem, hw, hm, H⟩ := CELL_out H
  have hL : lookT s.tab 0 0 = none := by
    cases h : lookT s.tab 0 0 with
    | none => rfl
    | some z =>
      obtain ⟨k, e⟩ := z
      obtain ⟨n, h1, h2, h3⟩ := lookT_some.1 h
      have := (hw.gen k _ h3).2 rfl
      have this : 1 ≤ n := this
      omega
  refine calls_of Tryz.func83 rfl (by kernel_rfl) ?_
  refine J22 H ?_
  clear H; intro b4 w H
  refine J167 H ?_
  refine J13 H ?_
  replace H := Js [5,0,0,0,0,0,0,0,0,0,0,0] 0 H
  refine Jc rfl rfl (tAt_no q.tp s.tab i hno H) ?_
  clear H; rintro v w ⟨rfl, H⟩
  refine J19 H ?_
  clear H; intro b6 w H
  refine J7 H ?_
  clear H; intro w H
  refine J14 H ?_
  refine C_join (fun ms σ w => ms = [] ∧ ∃ b8, σ 4 = pp b4 ∧ σ 7 = .bool false ∧ σ 8 = pp b8 ∧
      Holds w (pts b4 (row 109 [.int .i64 0, .int .i64 0, .bool false, .bool false]) :: pts b8 (row 109 [.int .i64 0, .int .i64 0, .bool false, .bool false]) :: CELL p s :: fr)) ?_ ?_
  · replace H := Js [1,0,0,0,0,0,0,0,0,0,0,0,0] 0 H
    refine J1 H ?_
    clear H; intro w H
    refine J245 H ?_
    refine A_two 5 9 rfl rfl (by kernel_rfl) (by repeat first | exact .nil | refine .cons (.inr H.at) ?_ | refine .cons (.inr H.mp) ?_ | refine .cons (.inl (by kernel_rfl)) ?_) (Wants.none rfl) (Wants.none rfl) (St_call (a := []) (b := []) rfl rfl (call (tGetV_spec q.tp s.tab 0 0 H) ?_)) (St_alloc H rfl ?_)
    · clear H; rintro v w ⟨rfl, H⟩
      rw [hL]
      dsimp only [getV]
      refine J246 H ?_
      clear H; intro b8 w H
      refine J247 H ?_
      clear H; intro w H
      refine J100 H ?_
      replace H := Js [4,4,4,4,1,3,3,3,3,3,3,2,0] 1 H
      replace H := CELL_in hw hm H
      replace H := Js [1,1,0] 0 H
      exact ⟨rfl, rfl, b8, rfl, rfl, rfl, H⟩
    · clear H; intro b8 w H
      refine Jo 5 H ?_
      refine Jk rfl rfl (tGetV_spec q.tp s.tab 0 0 H.swap) ?_
      clear H; rintro v w ⟨rfl, H⟩
      rw [hL]
      dsimp only [getV]
      refine J248 H ?_
      clear H; intro w H
      refine J100 H ?_
      replace H := Js [4,4,4,4,0,3,3,3,3,3,3,2,0] 1 H
      replace H := CELL_in hw hm H
      replace H := Js [1,1,0] 0 H
      exact ⟨rfl, rfl, b8, rfl, rfl, rfl, H⟩
  · clear H
    rintro ms σ w ⟨rfl, b8, g4, g7, g8, H⟩
    rw [upd_self g4, upd_self g7, upd_self g8]
    refine J76 H ?_
    clear H; intro w H
    refine J0 H ?_
    exact C_ret (Jz H (fun w' H' => .cellN H' rfl (by repeat (first | exact Reads.nil _ | apply Reads.cons rfl)) (.tmp .nil)) fun w' H' => ⟨rfl, H'.drop.drop⟩)
end Go.Proofs.YtcaaojbnjfdglaaGreatDoor
namespace Go.Proofs.YtcaaojbnjfdglaaGreatDoor
open Go.SL

def lkE (e : Ent) (p : Nat) : Lnk := lnkOf (e.ws.getD p 0)
theorem Targets_no [Extra] (p : Nat) (s : CS) (i : Int) (hno : ¬ Used s.tab i) {w : World} {fr : List HProp} (H : Holds w (CELL p s :: fr)) :
    Calls Tryz.prog 31 #[pp p, .int .i64 i] w (ret fun v w' => v = .slice none 0 0 ∧ Holds w' (CELL p s :: fr)) := by
  refine calls_of Tryz.func31 rfl (by kernel_rfl) ?_
  refine J23 H ?_
  refine J22 H ?_
  clear H; intro b5 w H
  refine J113 H ?_
  refine Jc rfl rfl (at_no p s i hno H.swap) ?_
  clear H; rintro v w ⟨rfl, H⟩
  refine J19 H ?_
  clear H; intro b6 w H
  refine J7 H ?_
  clear H; intro w H
  refine J26 H ?_
  refine J11 H ?_
  refine J79 H ?_
  refine J0 H ?_
  exact C_ret (Jy (H.sel [1] 2) rfl fun w' H' => ⟨rfl, H'⟩)

end Go.Proofs.YtcaaojbnjfdglaaGreatDoor
namespace Go.Proofs.YtcaaojbnjfdglaaGreatDoor
open Go.SL

/-- A reference of an object, to another region's object. -/
def Far (s : CS) (r : Int × Int) (t : Int) : Prop := ∃ (k p g : Nat) (e : Ent) (a b : Nat) (f : Ent), r = ((k : Int), (p : Int)) ∧ s.tab[k]? = some ⟨g, some e⟩ ∧ p < e.ws.length ∧ isRefL (layE s e) p = true ∧ lkE e p = .obj a b ∧ lookT s.tab a b = some (a, f) ∧ f.region ≠ e.region ∧ t = a
structure Inv (s : CS) : Prop where
  nd : (s.rem.map (·.1)).Nodup
  rem : ∀ r t, fnd s.rem r = some t ↔ Far s r t
  link : ∀ (k g : Nat) (e : Ent) (p a b : Nat), s.tab[k]? = some ⟨g, some e⟩ → p < e.ws.length → isRefL (layE s e) p = true → lkE e p = .obj a b → ∃ f, lookT s.tab a b = some (a, f)

theorem lookT_self {ts : List Slt} {a b c : Nat} {f : Ent} (h : lookT ts a b = some (c, f)) : c = a ∧ ts[a]? = some ⟨b, some f⟩ := by
  obtain ⟨n, h1, h2, h3⟩ := lookT_some.1 h
  obtain rfl : c = a := by omega
  obtain rfl : n = b := by omega
  exact ⟨rfl, h3⟩
/-- What one looks at: the same regions, layouts, links. -/
structure SameL (s : CS) (k g : Nat) (e e' : Ent) : Prop where
  at' : s.tab[k]? = some ⟨g, some e⟩
  region : e'.region = e.region
  lay : e'.lay = e.lay
  len : e'.ws.length = e.ws.length
theorem lookT_setE {s : CS} {k g : Nat} {e e' : Ent} (h : s.tab[k]? = some ⟨g, some e⟩) (a b : Nat) : lookT (setE s k g e').tab a b = (lookT s.tab a b).map fun q => if q.1 = k then (k, e') else q := by
  have hkl := (List.getElem?_eq_some_iff.1 h).1
  cases hl : lookT s.tab a b with
  | some q =>
    obtain ⟨c, f⟩ := q
    obtain ⟨rfl, hc⟩ := lookT_self hl
    by_cases hk : c = k
    · subst hk
      rw [h] at hc
      injection hc with hc
      injection hc with h1 h2
      subst h1
      show _ = some (if c = c then (c, e') else _)
      rw [if_pos rfl]
      exact lookT_some.2 ⟨g, rfl, rfl, List.getElem?_set_self hkl⟩
    · show _ = some (if c = k then (k, e') else (c, f))
      rw [if_neg hk]
      exact lookT_some.2 ⟨b, rfl, rfl, by show (s.tab.set k _)[c]? = _; rw [List.getElem?_set_ne (Ne.symm hk)]; exact hc⟩
  | none =>
    show _ = none
    cases hl2 : lookT (setE s k g e').tab a b with
    | none => rfl
    | some q =>
      obtain ⟨c, f⟩ := q
      obtain ⟨rfl, hc⟩ := lookT_self hl2
      have hc : (s.tab.set k ⟨g, some e'⟩)[c]? = some ⟨b, some f⟩ := hc
      rcases tab_set hc with ⟨rfl, h2, _⟩ | ⟨_, h2⟩
      · injection h2 with h2 _
        subst h2
        rw [lookT_some.2 ⟨b, rfl, rfl, h⟩] at hl
        cases hl
      · rw [lookT_some.2 ⟨b, rfl, rfl, h2⟩] at hl
        cases hl
theorem link_setE {s : CS} {k g : Nat} {e e' : Ent} (h : SameL s k g e e') {a b : Nat} : (∃ f, lookT (setE s k g e').tab a b = some (a, f)) ↔ ∃ f, lookT s.tab a b = some (a, f) := by
  rw [lookT_setE h.at']
  constructor
  · rintro ⟨f, hf⟩
    rw [Option.map_eq_some_iff] at hf
    obtain ⟨⟨c, f'⟩, h1, _⟩ := hf
    obtain ⟨rfl, _⟩ := lookT_self h1
    exact ⟨f', h1⟩
  · rintro ⟨f, hf⟩
    rw [hf]
    by_cases hk : a = k
    · exact ⟨e', by show some (if a = k then (k, e') else (a, f)) = _; rw [if_pos hk, hk]⟩
    · exact ⟨f, by show some (if a = k then (k, e') else (a, f)) = _; rw [if_neg hk]⟩
/-- .. of a region. -/
theorem reg_setE {s : CS} {k g : Nat} {e e' : Ent} (h : SameL s k g e e') {a b : Nat} {P : Int → Prop} : (∃ f, lookT (setE s k g e').tab a b = some (a, f) ∧ P f.region) ↔ ∃ f, lookT s.tab a b = some (a, f) ∧ P f.region := by
  rw [lookT_setE h.at']
  constructor
  · rintro ⟨f, hf, hp⟩
    rw [Option.map_eq_some_iff] at hf
    obtain ⟨⟨c, f'⟩, h1, h2⟩ := hf
    obtain ⟨rfl, h3⟩ := lookT_self h1
    refine ⟨f', h1, ?_⟩
    by_cases hk : c = k
    · subst hk
      rw [if_pos rfl] at h2
      injection h2 with _ h2
      subst h2
      rw [h.at'] at h3
      injection h3 with h3
      injection h3 with _ h3
      injection h3 with h3
      subst h3
      rw [h.region] at hp
      exact hp
    · rw [if_neg hk] at h2
      injection h2 with _ h2
      subst h2
      exact hp
  · rintro ⟨f, hf, hp⟩
    rw [hf]
    by_cases hk : a = k
    · subst hk
      obtain ⟨_, h3⟩ := lookT_self hf
      rw [h.at'] at h3
      injection h3 with h3
      injection h3 with _ h3
      injection h3 with h3
      subst h3
      exact ⟨e', by show some (if a = a then (a, e') else (a, e)) = _; rw [if_pos rfl], by rw [h.region]; exact hp⟩
    · exact ⟨f, by show some (if a = k then (k, e') else (a, f)) = _; rw [if_neg hk], hp⟩
/-- An entry that changed, but for nothing that is looked at. -/
theorem inv_same {s : CS} (hI : Inv s) {k g : Nat} {e e' : Ent} (h : SameL s k g e e') (hl : ∀ p, p < e.ws.length → isRefL (layE s e) p = true → lkE e' p = lkE e p) : Inv (setE s k g e') := by
  have hkl := (List.getElem?_eq_some_iff.1 h.at').1
  have hlay : ∀ f, layE (setE s k g e') f = layE s f := fun _ => rfl
  have hle : layE s e' = layE s e := by unfold layE; rw [h.lay]
  refine ⟨hI.nd, fun r t => ?_, ?_⟩
  · show fnd s.rem r = some t ↔ _
    rw [hI.rem]
    constructor
    · rintro ⟨j, p, g1, e1, a, b, f, rfl, h1, h2, h3, h4, h5, h6, rfl⟩
      obtain ⟨f', h5', h6'⟩ := (reg_setE (P := fun r => r ≠ e1.region) h).2 ⟨f, h5, h6⟩
      by_cases hj : j = k
      · subst hj
        rw [h.at'] at h1
        injection h1 with h1
        injection h1 with h0 h1
        injection h1 with h1
        subst h0 h1
        exact ⟨j, p, g, e', a, b, f', rfl, List.getElem?_set_self hkl, by rw [h.len]; exact h2, by rw [hlay, hle]; exact h3, by rw [hl p h2 h3]; exact h4, h5', by rw [h.region]; exact h6', rfl⟩
      · exact ⟨j, p, g1, e1, a, b, f', rfl, by show (s.tab.set k _)[j]? = _; rw [List.getElem?_set_ne (Ne.symm hj)]; exact h1, h2, h3, h4, h5', h6', rfl⟩
    · rintro ⟨j, p, g1, e1, a, b, f, rfl, h1, h2, h3, h4, h5, h6, rfl⟩
      have h1 : (s.tab.set k ⟨g, some e'⟩)[j]? = some ⟨g1, some e1⟩ := h1
      obtain ⟨f', h5', h6'⟩ := (reg_setE (P := fun r => r ≠ e1.region) h).1 ⟨f, h5, h6⟩
      rcases tab_set h1 with ⟨rfl, h7, _⟩ | ⟨_, h7⟩
      · injection h7 with h0 h7
        injection h7 with h7
        subst h0 h7
        rw [hlay, hle] at h3
        rw [h.len] at h2
        rw [hl p h2 h3] at h4
        rw [h.region] at h6'
        exact ⟨j, p, g1, e, a, b, f', rfl, h.at', h2, h3, h4, h5', h6', rfl⟩
      · exact ⟨j, p, g1, e1, a, b, f', rfl, h7, h2, h3, h4, h5', h6', rfl⟩
  · intro j g1 e1 p a b h1 h2 h3 h4
    have h1 : (s.tab.set k ⟨g, some e'⟩)[j]? = some ⟨g1, some e1⟩ := h1
    rw [link_setE h]
    rcases tab_set h1 with ⟨rfl, h7, _⟩ | ⟨_, h7⟩
    · injection h7 with h0 h7
      injection h7 with h7
      subst h0 h7
      rw [hlay, hle] at h3
      rw [h.len] at h2
      rw [hl p h2 h3] at h4
      exact hI.link j g1 e p a b h.at' h2 h3 h4
    · exact hI.link j g1 e1 p a b h7 h2 h3 h4
end Go.Proofs.YtcaaojbnjfdglaaGreatDoor
