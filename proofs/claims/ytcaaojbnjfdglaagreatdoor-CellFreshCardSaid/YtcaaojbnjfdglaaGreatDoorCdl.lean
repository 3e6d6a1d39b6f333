/- Cells: what is proved on the way: every input of the statement; no condition. Texts joined: ModC ModD ModE TabA TabB TabC. -/
import Derived.Test.YtcaaojbnjfdglaaGreatDoorCdf
import Derived.Test.YtcaaojbnjfdglaaGreatDoorCdk
import Derived.Test.YtcaaojbnjfdglaaGreatDoorCdj
set_option linter.unusedVariables false
set_option linter.unusedSimpArgs false
set_option linter.unusedSectionVars false
namespace Go.Proofs.YtcaaojbnjfdglaaGreatDoor
open Go.SL

theorem ncells_setI {l : List Nat} {spare : List Value} {i x : Nat} {v : Int} (h : i < l.length) (hv : v = (x : Nat)) : (ncells l ++ spare).set (0 + i * 1) (.int .i64 v) = ncells (l.set i x) ++ spare := by subst hv; exact ncells_set h
theorem placeM_some {m : MS} {o place : Int} {ref : Bool} {k : Nat} {x : Mob} (h : valM m o = some (k, x)) : placeM m o place ref = placeE (layM m x) x.w.length place ref := by unfold placeM; rw [h]
theorem placeM_none {m : MS} {o place : Int} {ref : Bool} (h : valM m o = none) : placeM m o place ref = 8 := by unfold placeM; rw [h]

def cutM (m : MS) (o place : Int) : MS × Nat :=
  match valM m o with
  | none => (m, 8)
  | some (k, x) => if placeE (layM m x) x.w.length place true = 0 then (setM m k { x with kind := x.kind.set place.toNat 0, to := x.to.set place.toNat 0 }, 0) else (m, placeE (layM m x) x.w.length place true)
theorem cutM_none {m : MS} {o place : Int} (h : valM m o = none) : cutM m o place = (m, 8) := by unfold cutM; rw [h]
theorem cutM_some {m : MS} {o place : Int} {k : Nat} {x : Mob} (h : valM m o = some (k, x)) : cutM m o place = if placeE (layM m x) x.w.length place true = 0 then (setM m k { x with kind := x.kind.set place.toNat 0, to := x.to.set place.toNat 0 }, 0) else (m, placeE (layM m x) x.w.length place true) := by unfold cutM; rw [h]
theorem MobOK_cut {ls : List Lay} {n : Nat} {x : Mob} (h : MobOK ls n x) (j kd t : Nat) (hk : kd = 2 → t < n) : MobOK ls n { x with kind := x.kind.set j kd, to := x.to.set j t } := by
  obtain ⟨a, b, c, d, e⟩ := h
  refine ⟨a, b, by show (x.kind.set j kd).length = _; rw [List.length_set]; exact c, by show (x.to.set j t).length = _; rw [List.length_set]; exact d, ?_⟩
  intro i (hi : (x.kind.set j kd)[i]? = some 2)
  show (x.to.set j t).getD i 0 < n
  by_cases hji : j = i
  · subst hji
    have hl : j < x.kind.length := by
      have := (List.getElem?_eq_some_iff.1 hi).1
      simpa using this
    rw [List.getElem?_set_self hl] at hi
    injection hi with hi
    rw [List.getD_eq_getElem?_getD, List.getElem?_set_self (by omega)]
    exact hk hi
  · rw [List.getElem?_set_ne hji] at hi
    have := e i hi
    rw [List.getD_eq_getElem?_getD, List.getElem?_set_ne hji, ← List.getD_eq_getElem?_getD]
    exact this

theorem Cut15_spec [Extra] (p : Nat) (m : MS) (o place : Int) {w : World} {fr : List HProp} (H : Holds w (MODEL p m :: fr)) :
    Calls Tryz.prog 52 #[pp p, .int .i64 o, .int .i64 place] w (ret fun v w' => v = .int .i64 ((cutM m o place).2 : Nat) ∧ Holds w' (MODEL p (cutM m o place).1 :: fr)) := by
  refine calls_of Tryz.func52 rfl (by kernel_rfl) ?_
  refine J99 H ?_
  refine Jc rfl rfl (Place_spec p m o place true H) ?_
  clear H; rintro v w ⟨rfl, H⟩
  refine J28 H ?_
  by_cases h0 : placeM m o place true = 0
  · obtain ⟨k, x, hv⟩ : ∃ k x, valM m o = some (k, x) := by
      cases hv : valM m o with
      | none => rw [placeM_none hv] at h0; cases h0
      | some kx => exact ⟨kx.1, kx.2, rfl⟩
    rw [placeM_some hv] at h0 ⊢
    rw [cutM_some hv, if_pos h0, h0]
    obtain ⟨rfl, hx, hh, hg⟩ := valM_some hv
    have hkl := (List.getElem?_eq_some_iff.1 hx).1
    obtain ⟨j, rfl, hj, hr⟩ := placeE_ok h0
    rw [Int.toNat_natCast]
    obtain ⟨t, lc, aL, cL, bO, cO, s, ptrs, q, vw, vk, vt, rest, hm, h2, hp, H, hclose⟩ := MODEL_at H hx
    have hob := hm.objs x (List.mem_of_getElem? hx)
    have hkn := hob.kind
    have htn := hob.to
    have hsm := MODEL_sizes (w := hm) hx
    obtain ⟨ak, ck, rfl⟩ := sls_slice H.drop.drop (ncells_length _) (by decide)
    obtain ⟨at', ct, rfl⟩ := sls_slice H.drop.drop.drop (ncells_length _) (by decide)
    replace H := Js [2,0,0,0] 0 H
    obtain ⟨bk, sk, rfl, H, _, _, hck⟩ := sls_open2 H (by omega)
    replace H := Js [3,0,0,0] 0 H
    obtain ⟨bt, st, rfl, H, _, _, hct⟩ := sls_open2 H (by omega)
    refine J11 H ?_
    refine J13 H ?_
    refine Lp_s rfl (St_indexAddr rfl rfl (by omega) (by omega) rfl ?_)
    refine Lp_s rfl (St_load1 H rfl hp rfl ?_)
    refine J74 H ?_
    refine Lp_s rfl (St_indexAddr rfl rfl (by omega) (by omega) rfl ?_)
    refine Lp_s rfl (St_store1 H rfl rfl inferInstance rfl (by simp only [List.length_append, ncells_length]; omega) rfl ?_)
    clear H; intro w H
    rw [Int.toNat_natCast, ncells_setI (v := 0) (x := 0) (by omega) rfl] at H
    refine Lp_nil ?_
    refine J13 H ?_
    refine Lp_s rfl (St_indexAddr rfl rfl (by omega) (by omega) rfl ?_)
    refine Lp_s rfl (St_load1 H rfl hp rfl ?_)
    refine J74 H ?_
    refine Lp_s rfl (St_indexAddr rfl rfl (by omega) (by omega) rfl ?_)
    refine Lp_s rfl (St_store1 H rfl rfl inferInstance rfl (by simp only [List.length_append, ncells_length]; omega) rfl ?_)
    clear H; intro w H
    rw [Int.toNat_natCast, ncells_setI (v := 0) (x := 0) (by omega) rfl] at H
    refine Lp_nil ?_
    replace H := Js [1,0,0,0] 0 H
    replace H := hck _ _ (ncells (x.kind.set j 0)) (by simp [ncells]) H
    replace H := Js [1,0,0,0] 0 H
    replace H := hct _ _ (ncells (x.to.set j 0)) (by simp [ncells]) H
    replace H := Js [2,2,1,0] 0 H
    replace H := hclose _ _ { x with kind := x.kind.set j 0, to := x.to.set j 0 } (MWF_set hm (MobOK_cut hob j 0 0 (by omega))) H
    refine J4 H ?_
    exact C_ret (Jy H rfl fun w' H' => ⟨rfl, H'⟩)
  · have hc : cutM m o place = (m, placeM m o place true) := by
      cases hv : valM m o with
      | none => rw [cutM_none hv, placeM_none hv]
      | some kx =>
        obtain ⟨k, x⟩ := kx
        rw [placeM_some hv] at h0 ⊢
        rw [cutM_some hv, if_neg h0]
    rw [hc, show (((placeM m o place true : Nat) : Int) == 0) = false by simpa using h0]
    refine J6 H ?_
    refine J4 H ?_
    exact C_ret (Jy H rfl fun w' H' => ⟨rfl, H'⟩)

def tieM (m : MS) (o place u : Int) : MS × Nat :=
  match valM m o with
  | none => (m, 8)
  | some (k, x) => if placeE (layM m x) x.w.length place true = 0 then match valM m u with
    | none => (m, 8)
    | some (ku, _) => (setM m k { x with kind := x.kind.set place.toNat 2, to := x.to.set place.toNat ku }, 0)
    else (m, placeE (layM m x) x.w.length place true)
theorem Tie15_spec [Extra] (p : Nat) (m : MS) (o place u : Int) {w : World} {fr : List HProp} (H : Holds w (MODEL p m :: fr)) :
    Calls Tryz.prog 51 #[pp p, .int .i64 o, .int .i64 place, .int .i64 u] w (ret fun v w' => v = .int .i64 ((tieM m o place u).2 : Nat) ∧ Holds w' (MODEL p (tieM m o place u).1 :: fr)) := by
  refine calls_of Tryz.func51 rfl (by kernel_rfl) ?_
  refine J99 H ?_
  refine Jc rfl rfl (Place_spec p m o place true H) ?_
  clear H; rintro v w ⟨rfl, H⟩
  refine J28 H ?_
  by_cases h0 : placeM m o place true = 0
  · obtain ⟨k, x, hv⟩ : ∃ k x, valM m o = some (k, x) := by
      cases hv : valM m o with
      | none => rw [placeM_none hv] at h0; cases h0
      | some kx => exact ⟨kx.1, kx.2, rfl⟩
    rw [placeM_some hv] at h0 ⊢
    rw [h0]
    refine J205 H ?_
    refine Jc rfl rfl (Valid_spec p m u H) ?_
    clear H; rintro v w ⟨rfl, H⟩
    refine J0 H ?_
    cases hu : valM m u with
    | none =>
      have hr : tieM m o place u = (m, 8) := by unfold tieM; rw [hv]; show (if placeE _ _ _ _ = 0 then _ else _) = _; rw [if_pos h0, hu]
      rw [hr]
      refine J222 H ?_
      exact C_ret (Jy H rfl fun w' H' => ⟨rfl, H'⟩)
    | some kx =>
    obtain ⟨ku, xu⟩ := kx
    have hr : tieM m o place u = (setM m k { x with kind := x.kind.set place.toNat 2, to := x.to.set place.toNat ku }, 0) := by unfold tieM; rw [hv]; show (if placeE _ _ _ _ = 0 then _ else _) = _; rw [if_pos h0, hu]
    rw [hr]
    obtain ⟨rfl, hx, hh, hg⟩ := valM_some hv
    obtain ⟨rfl, hxu, _, _⟩ := valM_some hu
    have hkl := (List.getElem?_eq_some_iff.1 hx).1
    have hkul := (List.getElem?_eq_some_iff.1 hxu).1
    obtain ⟨j, rfl, hj, hr⟩ := placeE_ok h0
    rw [Int.toNat_natCast]
    refine J37 H ?_
    obtain ⟨t, lc, aL, cL, bO, cO, s, ptrs, q, vw, vk, vt, rest, hm, h2, hp, H, hclose⟩ := MODEL_at H hx
    have hob := hm.objs x (List.mem_of_getElem? hx)
    have hkn := hob.kind
    have htn := hob.to
    have hsm := MODEL_sizes (w := hm) hx
    obtain ⟨ak, ck, rfl⟩ := sls_slice H.drop.drop (ncells_length _) (by decide)
    obtain ⟨at', ct, rfl⟩ := sls_slice H.drop.drop.drop (ncells_length _) (by decide)
    replace H := Js [2,0,0,0] 0 H
    obtain ⟨bk, sk, rfl, H, _, _, hck⟩ := sls_open2 H (by omega)
    replace H := Js [3,0,0,0] 0 H
    obtain ⟨bt, st, rfl, H, _, _, hct⟩ := sls_open2 H (by omega)
    refine J13 H ?_
    refine Lp_s rfl (St_indexAddr rfl rfl (by omega) (by omega) rfl ?_)
    refine Lp_s rfl (St_load1 H rfl hp rfl ?_)
    refine J74 H ?_
    refine Lp_s rfl (St_indexAddr rfl rfl (by omega) (by omega) rfl ?_)
    refine Lp_s rfl (St_store1 H rfl rfl inferInstance rfl (by simp only [List.length_append, ncells_length]; omega) rfl ?_)
    clear H; intro w H
    rw [Int.toNat_natCast, ncells_setI (v := 2) (x := 2) (by omega) rfl] at H
    refine Lp_nil ?_
    refine J13 H ?_
    refine Lp_s rfl (St_indexAddr rfl rfl (by omega) (by omega) rfl ?_)
    refine Lp_s rfl (St_load1 H rfl hp rfl ?_)
    refine J12 H ?_
    refine J59 H ?_
    refine J20 H ?_
    refine Lp_s rfl (St_indexAddr rfl rfl (by omega) (by omega) rfl ?_)
    refine Lp_s rfl (St_store1 H rfl rfl inferInstance rfl (by simp only [List.length_append, ncells_length]; omega) rfl ?_)
    clear H; intro w H
    rw [Int.toNat_natCast, ncells_setI (v := ku) (x := ku) (by omega) rfl] at H
    refine Lp_nil ?_
    replace H := Js [1,0,0,0] 0 H
    replace H := hck _ _ (ncells (x.kind.set j 2)) (by simp [ncells]) H
    replace H := Js [1,0,0,0] 0 H
    replace H := hct _ _ (ncells (x.to.set j ku)) (by simp [ncells]) H
    replace H := Js [2,2,1,0] 0 H
    replace H := hclose _ _ { x with kind := x.kind.set j 2, to := x.to.set j ku } (MWF_set hm (MobOK_cut hob j 2 ku (fun _ => hkul))) H
    refine J27 H ?_
    exact C_ret (Jy H rfl fun w' H' => ⟨rfl, H'⟩)
  · have hc : tieM m o place u = (m, placeM m o place true) := by
      cases hv : valM m o with
      | none => unfold tieM; rw [hv, placeM_none hv]
      | some kx =>
        obtain ⟨k, x⟩ := kx
        rw [placeM_some hv] at h0 ⊢
        unfold tieM; rw [hv]; show (if placeE _ _ _ _ = 0 then _ else _) = _; rw [if_neg h0]
    rw [hc, show (((placeM m o place true : Nat) : Int) != 0) = true by simpa using h0]
    refine J24 H ?_
    exact C_ret (Jy H rfl fun w' H' => ⟨rfl, H'⟩)

def holdM (m : MS) (t : Nat) : MS := match m.objs[t]? with | some y => setM m t { y with held := true } | none => m
def refM (m : MS) (o place : Int) : MS × Nat × Nat × Nat :=
  match valM m o with
  | none => (m, 0, 0, 8)
  | some (_, x) => if placeE (layM m x) x.w.length place true = 0 then (if x.kind.getD place.toNat 0 = 2 then holdM m (x.to.getD place.toNat 0) else m, x.kind.getD place.toNat 0, x.to.getD place.toNat 0, 0) else (m, 0, 0, placeE (layM m x) x.w.length place true)
theorem Ref15_spec [Extra] (p : Nat) (m : MS) (o place : Int) {w : World} {fr : List HProp} (H : Holds w (MODEL p m :: fr)) :
    Calls Tryz.prog 49 #[pp p, .int .i64 o, .int .i64 place] w (ret fun v w' => v = .tuple #[.int .i64 ((refM m o place).2.1 : Nat), .int .i64 ((refM m o place).2.2.1 : Nat), .int .i64 ((refM m o place).2.2.2 : Nat)] ∧ Holds w' (MODEL p (refM m o place).1 :: fr)) := by
  refine calls_of Tryz.func49 rfl (by kernel_rfl) ?_
  refine J15 H ?_
  refine J8 H ?_
  refine Jc rfl rfl (Place_spec p m o place true H) ?_
  clear H; rintro v w ⟨rfl, H⟩
  refine J28 H ?_
  by_cases h0 : placeM m o place true = 0
  · obtain ⟨k, x, hv⟩ : ∃ k x, valM m o = some (k, x) := by
      cases hv : valM m o with
      | none => rw [placeM_none hv] at h0; cases h0
      | some kx => exact ⟨kx.1, kx.2, rfl⟩
    rw [placeM_some hv] at h0 ⊢
    have hrm : refM m o place = (if x.kind.getD place.toNat 0 = 2 then holdM m (x.to.getD place.toNat 0) else m, x.kind.getD place.toNat 0, x.to.getD place.toNat 0, 0) := by unfold refM; rw [hv]; show (if placeE _ _ _ _ = 0 then _ else _) = _; rw [if_pos h0]
    rw [hrm, h0]
    refine J6 H ?_
    obtain ⟨rfl, hx, hh, hg⟩ := valM_some hv
    have hkl := (List.getElem?_eq_some_iff.1 hx).1
    obtain ⟨j, rfl, hj, hr⟩ := placeE_ok h0
    rw [Int.toNat_natCast]
    obtain ⟨t, lc, aL, cL, bO, cO, s, ptrs, q, vw, vk, vt, rest, hm, h2, hp, H, hclose⟩ := MODEL_at H hx
    have hob := hm.objs x (List.mem_of_getElem? hx)
    have hkn := hob.kind
    have htn := hob.to
    have hsm := MODEL_sizes (w := hm) hx
    obtain ⟨ak, ck, rfl⟩ := sls_slice H.drop.drop (ncells_length _) (by decide)
    obtain ⟨at', ct, rfl⟩ := sls_slice H.drop.drop.drop (ncells_length _) (by decide)
    replace H := Js [2,0,0,0] 0 H
    obtain ⟨bk, sk, rfl, H, _, _, hck⟩ := sls_open2 H (by omega)
    replace H := Js [3,0,0,0] 0 H
    obtain ⟨bt, st, rfl, H, _, _, hct⟩ := sls_open2 H (by omega)
    have hkj := List.getElem?_eq_getElem (l := x.kind) (i := j) (by omega)
    have htj := List.getElem?_eq_getElem (l := x.to) (i := j) (by omega)
    have hkd : x.kind.getD j 0 = x.kind[j] := by rw [List.getD_eq_getElem?_getD, hkj]; rfl
    have htd : x.to.getD j 0 = x.to[j] := by rw [List.getD_eq_getElem?_getD, htj]; rfl
    have hgo := hob.goes j
    rw [htd] at hgo
    rw [hkd, htd]
    generalize x.kind[j] = kd at *
    generalize x.to[j] = td at *
    refine J13 H ?_
    refine Lp_s rfl (St_indexAddr rfl rfl (by omega) (by omega) rfl ?_)
    refine Lp_s rfl (St_load1 H rfl hp rfl ?_)
    refine J74 H ?_
    refine Lp_s rfl (St_indexAddr rfl rfl (by omega) (by omega) rfl ?_)
    refine Lp_s rfl (St_load1 H rfl (ncells_get hkj) rfl ?_)
    refine J0 H ?_
    refine J13 H ?_
    refine Lp_s rfl (St_indexAddr rfl rfl (by omega) (by omega) rfl ?_)
    refine Lp_s rfl (St_load1 H rfl hp rfl ?_)
    refine J74 H ?_
    refine Lp_s rfl (St_indexAddr rfl rfl (by omega) (by omega) rfl ?_)
    refine Lp_s rfl (St_load1 H rfl (ncells_get htj) rfl ?_)
    refine J0 H ?_
    replace H := Js [1,0,0,0] 0 H
    replace H := hck _ _ (ncells x.kind) rfl H
    replace H := Js [1,0,0,0] 0 H
    replace H := hct _ _ (ncells x.to) rfl H
    replace H := Js [2,2,1,0] 0 H
    replace H := MODEL_same hx (hclose _ _ x (set_same hx hm) H)
    clear hck hct hclose
    refine J4 H ?_
    by_cases h2' : kd = 2
    · subst h2'
      rw [if_pos rfl]
      have htl := hgo hkj
      have hy := List.getElem?_eq_getElem htl
      generalize m.objs[td] = y at hy
      have hh' : holdM m td = setM m td { y with held := true } := by unfold holdM; rw [hy]
      rw [hh']
      refine J11 H ?_
      obtain ⟨t', lc', aL', cL', bO', cO', s', ptrs', q', vw', vk', vt', rest', hm', h2', hp', H, hclose⟩ := MODEL_at H hy
      refine J13 H ?_
      refine Lp_s rfl (St_indexAddr rfl rfl (by omega) (by omega) rfl ?_)
      refine Lp_s rfl (St_load1 H rfl hp' rfl ?_)
      refine J73 H ?_
      clear H; intro w H
      refine Lp_nil ?_
      refine J69 H ?_
      refine C_ret (Jy (hclose _ _ { y with held := true } (MWF_set hm (by obtain ⟨a, b, c, d, e⟩ := hm.objs y (List.mem_of_getElem? hy); exact ⟨a, b, c, d, e⟩)) H) rfl fun w' H' => ⟨rfl, H'⟩)
    · rw [if_neg h2', show ((kd : Int) == 2) = false by simp; omega]
      refine J6 H ?_
      refine J69 H ?_
      exact C_ret (Jy H rfl fun w' H' => ⟨rfl, H'⟩)
  · have hc : refM m o place = (m, 0, 0, placeM m o place true) := by
      cases hv : valM m o with
      | none => unfold refM; rw [hv, placeM_none hv]
      | some kx =>
        obtain ⟨k, x⟩ := kx
        rw [placeM_some hv] at h0 ⊢
        unfold refM; rw [hv]; show (if placeE _ _ _ _ = 0 then _ else _) = _; rw [if_neg h0]
    rw [hc, show (((placeM m o place true : Nat) : Int) != 0) = true by simpa using h0]
    refine J11 H ?_
    refine J158 H ?_
    exact C_ret (Jy H rfl fun w' H' => ⟨rfl, H'⟩)
end Go.Proofs.YtcaaojbnjfdglaaGreatDoor
namespace Go.Proofs.YtcaaojbnjfdglaaGreatDoor
open Go.SL

def ms0 : MS := ⟨[-1], [], []⟩
theorem New15_spec [Extra] {w : World} {fr : List HProp} (H : Holds w fr) : Calls Tryz.prog 45 #[] w (ret fun v w' => ∃ p, v = pp p ∧ Holds w' (MODEL p ms0 :: fr)) := by
  refine calls_of Tryz.func45 rfl (by kernel_rfl) ?_
  refine J157 H ?_
  refine Jc rfl rfl (dNew_spec H) ?_
  clear H; rintro v w ⟨t, rfl, H⟩
  refine J47 H ?_
  clear H; intro b3 w H
  refine J0 H ?_
  have H : Holds w (star (([] : List OC).map ocr) :: pts b3 (row 56 [pp t, .slice none 0 0, .slice none 0 0]) :: RTR t [-1] :: fr) := Holds.star.2 H
  have H := sls_nil (E := 51) (k := 1) H
  have H : Holds w (star (([] : List LyC).map bres) :: _) := Holds.star.2 H
  have H := sls_nil (E := 101) (k := 4) H
  replace H := Js [4,4,0,0,0,0] 0 H
  have hm : MWF ms0 := ⟨⟨by simp [ms0], by simp [ms0]⟩, ⟨by simp [ms0], fun l h => by cases h⟩, (fun l h => by cases h), by simp [ms0]⟩
  exact C_ret (Jy (MODEL_in (m := ms0) hm (lc := []) (oc := []) rfl rfl H) rfl fun w' H' => ⟨_, rfl, H'⟩)

/-- What Open leaves, and answers. -/
def openM (m : MS) (parent : Int) : MS × Nat × Nat := if dErr m.P parent = 0 then ({ m with P := m.P ++ [parent] }, m.P.length, 0) else (m, 0, dErr m.P parent)
theorem Open15_spec [Extra] (p : Nat) (m : MS) (parent : Int) (hP : m.P.length < 100000) {w : World} {fr : List HProp} (H : Holds w (MODEL p m :: fr)) :
    Calls Tryz.prog 47 #[pp p, .int .i64 parent] w (ret fun v w' => v = .tuple #[.int .i64 ((openM m parent).2.1 : Nat), .int .i64 ((openM m parent).2.2 : Nat)] ∧ Holds w' (MODEL p (openM m parent).1 :: fr)) := by
  obtain ⟨t, lc, oc, aL, cL, aO, cO, hm, h2, h3, hl1, hl2, H⟩ := MODEL_out H
  refine calls_of Tryz.func47 rfl (by kernel_rfl) ?_
  refine J4 H ?_
  refine J13 H ?_
  replace H := Js [1,0] 0 H
  refine Jc rfl rfl (dAdd_spec t m.P parent (by omega) hm.P.1 H) ?_
  clear H; rintro v w (⟨he, rfl, H⟩ | ⟨he, rfl, H⟩)
  · have hr : openM m parent = (m, 0, dErr m.P parent) := by unfold openM; rw [if_neg he]
    rw [hr]
    refine J123 H ?_
    exact C_ret (Jy (MODEL_in hm h2 h3 H.swap) rfl fun w' H' => ⟨rfl, H'⟩)
  · have hr : openM m parent = ({ m with P := m.P ++ [parent] }, m.P.length, 0) := by unfold openM; rw [if_pos he]
    rw [hr]
    have hm' : MWF { m with P := m.P ++ [parent] } := ⟨⟨by simp, by simp; omega⟩, hm.lays, hm.objs, hm.few⟩
    refine J123 H ?_
    exact C_ret (Jy (MODEL_in (m := { m with P := m.P ++ [parent] }) hm' h2 h3 H.swap) rfl fun w' H' => ⟨rfl, H'⟩)

/-- What Define leaves, and answers. -/
def defM (m : MS) (ws : List Nat) : MS × Nat × Nat :=
  match decodeL ws with
  | none => (m, 0, 4)
  | some l => if 64 ≤ m.lays.length then (m, 0, 5) else ({ m with lays := m.lays ++ [l] }, m.lays.length + 1, 0)
theorem MobOK_lays {ls : List Lay} {l : Lay} {n : Nat} {x : Mob} (h : MobOK ls n x) : MobOK (ls ++ [l]) n x := by
  obtain ⟨⟨l', a, a2⟩, b, c, d, e⟩ := h
  exact ⟨⟨l', by rw [List.getElem?_append_left (List.getElem?_eq_some_iff.1 a).1]; exact a, a2⟩, b, c, d, e⟩
theorem Define15_spec [Extra] (p : Nat) (m : MS) (v : Value) (ws : List Nat) (hws : ∀ x ∈ ws, x < 18446744073709551616) {w : World} {fr : List HProp} (hr : RdS fr v ws.length 1 (ucells ws)) (H : Holds w (MODEL p m :: fr)) :
    Calls Tryz.prog 46 #[pp p, v] w (ret fun r w' => r = .tuple #[.int .i64 ((defM m ws).2.1 : Nat), .int .i64 ((defM m ws).2.2 : Nat)] ∧ Holds w' (MODEL p (defM m ws).1 :: fr)) := by
  obtain ⟨_, ad, cap, rfl, hr'⟩ := id hr
  refine calls_of Tryz.func46 rfl (by kernel_rfl) ?_
  refine J4 H ?_
  refine J16 H ?_
  refine Jc rfl rfl (dDecode_spec _ ws hws hr.there H) ?_
  clear H; rintro r w (⟨hd, rfl, H⟩ | ⟨l, vr, vq, hd, rfl, H⟩)
  · have hdr : defM m ws = (m, 0, 4) := by unfold defM; rw [hd]
    rw [hdr]
    refine J22 H ?_
    clear H; intro b6 w H
    refine J9 H ?_
    clear H; intro w H
    refine J224 H ?_
    exact C_ret (Jy H.drop rfl fun w' H' => ⟨rfl, H'⟩)
  · obtain ⟨a1, m1, c1, rfl⟩ := sls_any H
    obtain ⟨a2, m2, c2, rfl⟩ := sls_any H.swap
    replace H := Js [2,0,0] 0 H
    obtain ⟨t, lc, oc, aL, cL, aO, cO, hm, h2, h3, hl1, hl2, H⟩ := MODEL_out H
    refine J22 H ?_
    clear H; intro b6 w H
    refine J9 H ?_
    clear H; intro w H
    refine J41 H ?_
    refine J184 H ?_
    by_cases h64 : 64 ≤ m.lays.length
    · have hdr : defM m ws = (m, 0, 5) := by unfold defM; rw [hd]; show (if _ then _ else _) = _; rw [if_pos h64]
      rw [hdr]
      rw [show decide ((m.lays.length : Int) ≥ 64) = true from decide_eq_true (by omega)]
      refine J24 H ?_
      have H := MODEL_in hm h2 h3 H.drop
      replace H := Js [0] 2 H
      exact C_ret (Jy H rfl fun w' H' => ⟨rfl, H'⟩)
    · have hdr : defM m ws = ({ m with lays := m.lays ++ [l] }, m.lays.length + 1, 0) := by unfold defM; rw [hd]; show (if _ then _ else _) = _; rw [if_neg h64]
      rw [hdr]
      have hR : RightL l := by
        unfold decodeL at hd
        split at hd
        · split at hd
          · injection hd with hd; rename_i hx; rw [← hd]; exact hx.2
          · cases hd
        · cases hd
      have hm' : MWF { m with lays := m.lays ++ [l] } := ⟨hm.P, ⟨by show (m.lays ++ [l]).length ≤ 64; simp; omega, fun x hx => by
        rcases List.mem_append.1 hx with hx | hx
        · exact hm.lays.2 x hx
        · simp at hx; subst hx; exact hR⟩, fun x hx => MobOK_lays (hm.objs x hx), hm.few⟩
      rw [show decide ((m.lays.length : Int) ≥ 64) = false from decide_eq_false (by omega)]
      refine J6 H ?_
      refine J1 H ?_
      clear H; intro w H
      refine J153 H ?_
      refine A_load1 4 [7, 10] H rfl (Wants.none rfl) rfl rfl (by kernel_rfl) ?_
      refine J265 H ?_
      refine Jo 6 H ?_
      refine St_buildSlice H rfl rfl rfl ?_
      clear H; intro b27 w H
      replace H := Js [4,0,0,0,0] 0 H
      refine Jo 7 H ?_
      refine St_append H rfl rfl (by repeat (first | exact Reads.nil _ | apply Reads.cons rfl)) rfl (by decide) (by rw [bcells_length]; simp only [List.length_cons, List.length_nil]; omega) rfl rfl ?_
      clear H; intro v28 w H
      have e1 : bcells lc ++ [.int .i64 l.fixed, .slice a1 m1 c1, .int .i64 l.record, .slice a2 m2 c2] = bcells (lc ++ [(.slice a1 m1 c1, .slice a2 m2 c2, l)]) := by
        rw [bcells_append]; rfl
      rw [e1] at H
      have hql' : (lc ++ [((.slice a1 m1 c1 : Value), (.slice a2 m2 c2 : Value), l)]).length = m.lays.length + 1 := by simp [hl1]
      obtain ⟨a28, c28, rfl⟩ := sls_slice H (m := m.lays.length + 1) (by rw [bcells_length, hql']) (by decide)
      refine J57 H ?_
      refine A_fieldAddr 9 rfl (Wants.none rfl) rfl (by kernel_rfl) ?_
      refine Jo 10 H ?_
      refine J101 H ?_
      clear H; intro w H
      refine J2 H ?_
      refine J122 H ?_
      refine J3 H ?_
      replace H := Js [8,8,5,3,3,0,2,2] 2 H
      have H1 : Holds w (star ((lc ++ [((.slice a1 m1 c1 : Value), (.slice a2 m2 c2 : Value), l)]).map bres) :: pts p (row 56 [pp t, .slice a28 (m.lays.length + 1) c28, .slice aO m.objs.length cO]) :: RTR t m.P :: sls 101 4 (.slice a28 (m.lays.length + 1) c28) (bcells (lc ++ [(.slice a1 m1 c1, .slice a2 m2 c2, l)])) :: sls 51 1 (.slice aO m.objs.length cO) (oc.map fun x => pp x.ptr) :: star (oc.map ocr) :: fr) := by
        refine (Holds.pick (x := ((.slice a1 m1 c1 : Value), (.slice a2 m2 c2 : Value), l)) (g1 := lc) (g2 := []) rfl).2 ?_
        rw [List.append_nil]
        refine Holds.star.2 ?_
        exact H
      replace H1 := Js [1,1,1,0,0,0] 0 H1
      have H2 := MODEL_in (m := { m with lays := m.lays ++ [l] }) hm' (lc := lc ++ [((.slice a1 m1 c1 : Value), (.slice a2 m2 c2 : Value), l)]) (by rw [List.map_append, h2]; rfl) h3 H1
      exact C_ret (Jy H2 rfl fun w' H' => ⟨rfl, H'⟩)

/-- What is wrong with an object that is to be made; how many words it has. -/
def mayM (m : MS) (region lay count : Int) : Nat × Nat :=
  if liveP m.P region = false then (0, 15) else if lay < 1 ∨ (m.lays.length : Int) < lay then (0, 6) else sizeL ((m.lays[lay.toNat - 1]?).getD ⟨0, [], 0, []⟩) count
theorem May15_spec [Extra] (p : Nat) (m : MS) (region lay count : Int) {w : World} {fr : List HProp} (H : Holds w (MODEL p m :: fr)) :
    Calls Tryz.prog 115 #[pp p, .int .i64 region, .int .i64 lay, .int .i64 count] w (ret fun v w' => v = .tuple #[.int .i64 ((mayM m region lay count).1 : Nat), .int .i64 ((mayM m region lay count).2 : Nat)] ∧ Holds w' (MODEL p m :: fr)) := by
  obtain ⟨t, lc, oc, aL, cL, aO, cO, hm, h2, h3, hl1, hl2, H⟩ := MODEL_out H
  refine calls_of Tryz.func115 rfl (by kernel_rfl) ?_
  refine J4 H ?_
  refine J13 H ?_
  replace H := Js [1,0] 0 H
  refine Jc rfl rfl (dLive_spec t m.P region H) ?_
  clear H; rintro v w ⟨rfl, H⟩
  generalize hlv : liveP m.P region = lv
  have hlays := hm.lays.1
  cases lv with
  | false =>
    have hr : mayM m region lay count = (0, 15) := by unfold mayM; rw [if_pos hlv]
    rw [hr]
    refine J224 H ?_
    exact C_ret (Jy (MODEL_in hm h2 h3 H.swap) rfl fun w' H' => ⟨rfl, H'⟩)
  | true =>
    replace H := Js [1,0] 0 H
    refine J41 H ?_
    by_cases h1 : lay < 1
    · have hr : mayM m region lay count = (0, 6) := by unfold mayM; rw [if_neg (by rw [hlv]; decide), if_pos (.inl h1)]
      rw [hr]
      refine J7 H ?_
      rw [show decide (lay < 1) = true from decide_eq_true (by omega)]
      refine J154 H ?_
      refine J181 H ?_
      exact C_ret (Jy (MODEL_in hm h2 h3 H) rfl fun w' H' => ⟨rfl, H'⟩)
    · refine J7 H ?_
      rw [show decide (lay < 1) = false from decide_eq_false (by omega)]
      refine J87 H ?_
      by_cases h2' : (m.lays.length : Int) < lay
      · have hr : mayM m region lay count = (0, 6) := by unfold mayM; rw [if_neg (by rw [hlv]; decide), if_pos (.inr h2')]
        rw [hr]
        rw [show decide (lay > (m.lays.length : Int)) = true from decide_eq_true (by omega)]
        refine J181 H ?_
        exact C_ret (Jy (MODEL_in hm h2 h3 H) rfl fun w' H' => ⟨rfl, H'⟩)
      · obtain ⟨la, rfl⟩ : ∃ la : Nat, lay = ((la + 1 : Nat) : Int) := ⟨lay.toNat - 1, by omega⟩
        have hla : la < lc.length := by omega
        have hy := List.getElem?_eq_getElem hla
        generalize lc[la] = y at hy
        have hyl : m.lays[la]? = some y.2.2 := by rw [← h2, List.getElem?_map, hy]; rfl
        have hr : mayM m region ((la + 1 : Nat) : Int) count = sizeL y.2.2 count := by
          unfold mayM
          rw [if_neg (by rw [hlv]; decide), if_neg (by omega), Int.toNat_natCast, Nat.add_sub_cancel, hyl]
          rfl
        rw [hr]
        have hR := hm.lays.2 _ (List.mem_of_getElem? hyl)
        rw [show decide (((la + 1 : Nat) : Int) > (m.lays.length : Int)) = false from decide_eq_false (by omega)]
        refine J19 H ?_
        replace H := Js [2,2,0,0,0,0] 0 H
        obtain ⟨bL, sL, D1, D2, R, rfl, H, hD, hcl⟩ := LAYS_at hl1 H hy
        obtain ⟨vr, vq, l⟩ := y
        refine J39 H ?_
        rw [show IntKind.i64.wrap (((la + 1 : Nat) : Int) - 1) = (la : Int) by rw [wrap64 (by omega) (by omega)]; omega]
        refine Lp_s rfl (St_indexAddr rfl rfl (by omega) (by omega) rfl ?_)
        refine Lp_s rfl (St_loadN H rfl (bcells_reads hy) rfl ?_)
        refine J12 H ?_
        refine Jc rfl rfl (dSize_spec vr vq l hR count ((hD _).there) H) ?_
        clear H; rintro v w ⟨rfl, H⟩
        refine J123 H ?_
        replace H := hcl _ _ H
        replace H := Js [2,2,0,0,0,0] 0 H
        exact C_ret (Jy (MODEL_in hm h2 h3 H) rfl fun w' H' => ⟨rfl, H'⟩)
end Go.Proofs.YtcaaojbnjfdglaaGreatDoor
namespace Go.Proofs.YtcaaojbnjfdglaaGreatDoor
open Go.SL

def newM (region lay count : Int) (n : Nat) : Mob := ⟨region.toNat, lay.toNat, count.toNat, List.replicate n 0, List.replicate n 0, List.replicate n 0, true, false, false⟩
def makeM (m : MS) (region lay count : Int) : MS := { m with objs := m.objs ++ [newM region lay count (mayM m region lay count).1] }
theorem mayM_ok {m : MS} {region lay count : Int} (h : (mayM m region lay count).2 = 0) : ∃ (r la c : Nat) (l : Lay), region = r ∧ lay = (la + 1 : Nat) ∧ count = c ∧ liveP m.P region = true ∧ m.lays[la]? = some l ∧ mayM m region lay count = sizeL l c ∧ sizeL l c = (l.fixed + c * l.record, 0) ∧ l.fixed + c * l.record < 8192 := by
  unfold mayM at h ⊢
  by_cases h1 : liveP m.P region = false
  · rw [if_pos h1] at h; cases h
  · rw [if_neg h1] at h ⊢
    by_cases h2 : lay < 1 ∨ (m.lays.length : Int) < lay
    · rw [if_pos h2] at h; cases h
    · rw [if_neg h2] at h ⊢
      have h3 : liveP m.P region = true := by simpa using h1
      have h4 : 0 < region := by
        unfold liveP at h3
        exact (of_decide_eq_true h3).1
      obtain ⟨la, rfl⟩ : ∃ la : Nat, lay = ((la + 1 : Nat) : Int) := ⟨lay.toNat - 1, by omega⟩
      have hla : la < m.lays.length := by omega
      have hl := List.getElem?_eq_getElem hla
      generalize m.lays[la] = l at hl
      rw [Int.toNat_natCast, Nat.add_sub_cancel, hl] at h ⊢
      replace h : (sizeL l count).2 = 0 := h
      unfold sizeL at h
      split at h
      · cases h
      · rename_i hc
        split at h
        · cases h
        · rename_i hs
          obtain ⟨c, rfl⟩ : ∃ c : Nat, count = c := ⟨count.toNat, by omega⟩
          rw [Int.toNat_natCast] at hs
          refine ⟨region.toNat, la, c, l, by omega, rfl, rfl, h3, hl, rfl, ?_, by omega⟩
          unfold sizeL
          rw [if_neg hc, Int.toNat_natCast, if_neg hs]
theorem MWF_make {m : MS} {region lay count : Int} (h : (mayM m region lay count).2 = 0) (hm : MWF m) (hf : m.objs.length < 100000) : MWF (makeM m region lay count) := by
  obtain ⟨r, la, c, l, rfl, rfl, rfl, hl, hla, hmay, hsz, hlt⟩ := mayM_ok h
  have hlen : (m.objs ++ [newM r ((la + 1 : Nat) : Int) c (mayM m r ((la + 1 : Nat) : Int) c).1]).length = m.objs.length + 1 := by simp
  refine ⟨hm.P, hm.lays, fun x hx => ?_, by show (m.objs ++ [_]).length ≤ _; rw [hlen]; omega⟩
  show MobOK m.lays (m.objs ++ [_]).length x
  rw [hlen]
  rcases List.mem_append.1 hx with hx | hx
  · obtain ⟨a, b, c, d, e⟩ := hm.objs x hx
    exact ⟨a, b, c, d, fun p hp => by have := e p hp; omega⟩
  · simp only [List.mem_singleton] at hx
    subst hx
    rw [hmay, hsz]
    refine ⟨⟨l, ?_, hm.lays.2 l (List.mem_of_getElem? hla), ?_⟩, ?_, rfl, rfl, ?_⟩
    · show m.lays[(((la + 1 : Nat) : Int).toNat) - 1]? = _
      rw [Int.toNat_natCast]; exact hla
    · show sizeL l ((((c : Nat) : Int).toNat : Nat) : Int) = ((List.replicate (l.fixed + c * l.record) 0).length, 0)
      rw [Int.toNat_natCast, hsz, List.length_replicate]
    · show 1 ≤ ((la + 1 : Nat) : Int).toNat
      omega
    · intro p hp
      have : (List.replicate (l.fixed + c * l.record) 0)[p]? = some 2 := hp
      rw [List.getElem?_replicate] at this
      split at this <;> cases this

theorem make_in [Extra] {w : World} {p t bO bW bK bT n rr la c : Nat} {m : MS} {lc : List LyC} {oc : List OC} {aL aS : Option Addr} {cL cS : Nat} {fr : List HProp} (hm' : MWF { m with objs := m.objs ++ [newM (rr : Int) ((la + 1 : Nat) : Int) (c : Int) n] }) (h2 : lc.map (·.2.2) = m.lays) (h3 : oc.map (·.ob) = m.objs) (hl1 : lc.length = m.lays.length)
    (H : Holds w (pts bO (row 50 [.int .i64 rr, .int .i64 ((la + 1 : Nat) : Int), .int .i64 c, .slice (some ⟨bW, 0, none⟩) n n, .slice (some ⟨bK, 0, none⟩) n n, .slice (some ⟨bT, 0, none⟩) n n, .bool true, .bool false, .bool false]) :: UL (.slice (some ⟨bW, 0, none⟩) n n) (List.replicate n 0) :: NL (.slice (some ⟨bK, 0, none⟩) n n) (List.replicate n 0) :: NL (.slice (some ⟨bT, 0, none⟩) n n) (List.replicate n 0) :: star (oc.map ocr) ::
      pts p (row 56 [pp t, .slice aL m.lays.length cL, .slice aS (m.objs.length + 1) cS]) :: RTR t m.P :: sls 101 4 (.slice aL m.lays.length cL) (bcells lc) :: star (lc.map bres) :: sls 51 1 (.slice aS (m.objs.length + 1) cS) ((oc.map fun x => pp x.ptr) ++ [pp bO]) :: fr)) :
    Holds w (MODEL p { m with objs := m.objs ++ [newM (rr : Int) ((la + 1 : Nat) : Int) (c : Int) n] } :: fr) := by
  have H1 : Holds w (star ((oc ++ [(⟨bO, .slice (some ⟨bW, 0, none⟩) n n, .slice (some ⟨bK, 0, none⟩) n n, .slice (some ⟨bT, 0, none⟩) n n, newM (rr : Int) ((la + 1 : Nat) : Int) (c : Int) n⟩ : OC)]).map ocr) :: pts p (row 56 [pp t, .slice aL m.lays.length cL, .slice aS (m.objs.length + 1) cS]) :: RTR t m.P :: sls 101 4 (.slice aL m.lays.length cL) (bcells lc) :: star (lc.map bres) :: sls 51 1 (.slice aS (m.objs.length + 1) cS) ((oc.map fun x => pp x.ptr) ++ [pp bO]) :: fr) := by
    refine (Holds.pick (g1 := oc) (g2 := []) rfl).2 ?_
    rw [List.append_nil]
    exact Holds.star.2 H
  replace H1 := Js [1,1,1,1,1,0] 0 H1
  exact MODEL_in (m := { m with objs := m.objs ++ [newM (rr : Int) ((la + 1 : Nat) : Int) (c : Int) n] }) (oc := oc ++ [(⟨bO, .slice (some ⟨bW, 0, none⟩) n n, .slice (some ⟨bK, 0, none⟩) n n, .slice (some ⟨bT, 0, none⟩) n n, newM (rr : Int) ((la + 1 : Nat) : Int) (c : Int) n⟩ : OC)]) hm' h2 (by rw [List.map_append, h3]; rfl) (by rw [List.map_append]; exact H1)

theorem Make15_spec [Extra] (p : Nat) (m : MS) (region lay count : Int) (hmay : (mayM m region lay count).2 = 0) (hf : m.objs.length < 100000) {w : World} {fr : List HProp} (H : Holds w (MODEL p m :: fr)) :
    Calls Tryz.prog 117 #[pp p, .int .i64 region, .int .i64 lay, .int .i64 count] w (ret fun v w' => v = .tuple #[] ∧ Holds w' (MODEL p (makeM m region lay count) :: fr)) := by
  refine calls_of Tryz.func117 rfl (by kernel_rfl) ?_
  refine J70 H ?_
  refine Jc rfl rfl (May15_spec p m region lay count H) ?_
  clear H; rintro v w ⟨rfl, H⟩
  have hr : makeM m region lay count = { m with objs := m.objs ++ [newM region lay count (mayM m region lay count).1] } := rfl
  rw [hr]
  obtain ⟨t, lc, oc, aL, cL, aO, cO, hm, h2, h3, hl1, hl2, H⟩ := MODEL_out H
  have hm' : MWF _ := MWF_make hmay hm hf
  rw [hr] at hm'
  obtain ⟨rr, la, c, l, rfl, rfl, rfl, hlv, hla, hmm, hsz, hlt⟩ := mayM_ok hmay
  have hn1 : (mayM m (rr : Int) ((la + 1 : Nat) : Int) (c : Int)).1 = l.fixed + c * l.record := by rw [hmm, hsz]
  rw [hmm, hsz] at hm' ⊢
  generalize l.fixed + c * l.record = n at *
  have z1 : zeros (cellsL (.int .u64 0)) n = ucells (List.replicate n 0) := by
    rw [show cellsL (.int .u64 0) = [.int .u64 0] from rfl, zeros1]; simp [ucells]
  have z2 : zeros (cellsL (.int .i64 0)) n = ncells (List.replicate n 0) := by
    rw [show cellsL (.int .i64 0) = [.int .i64 0] from rfl, zeros1]; simp [ncells]
  refine J180 H ?_
  clear H; intro w H
  refine J153 H ?_
  refine A_load1 4 [17, 20] H rfl (Wants.none rfl) rfl rfl (by kernel_rfl) ?_
  refine J36 H ?_
  refine A_pv 6 rfl (Wants.none rfl) rfl (by kernel_rfl) ?_
  refine A_pv 7 rfl (Wants.none rfl) rfl (by kernel_rfl) ?_
  refine A_pv 8 rfl (Wants.none rfl) rfl (by kernel_rfl) ?_
  refine J104 H ?_
  refine J86 H ?_
  refine A_three 9 11 13 rfl rfl rfl (by kernel_rfl) (by repeat first | exact .nil | refine .cons (.inr H.at) ?_ | refine .cons (.inr H.mp) ?_ | refine .cons (.inl (by kernel_rfl)) ?_) (Wants.none rfl) (Wants.none rfl) (Wants.none rfl) (St_makeSlice H rfl rfl (by decide) (by omega) rfl ?_) (St_makeSlice H rfl rfl (by decide) (by omega) rfl ?_) (St_makeSlice H rfl rfl (by decide) (by omega) rfl ?_)
  · clear H; intro bW w H
    rw [z1] at H
    refine A_two 11 13 rfl rfl (by kernel_rfl) (by repeat first | exact .nil | refine .cons (.inr H.at) ?_ | refine .cons (.inr H.mp) ?_ | refine .cons (.inl (by kernel_rfl)) ?_) (Wants.none rfl) (Wants.none rfl) (St_makeSlice H rfl rfl (by decide) (by omega) rfl ?_) (St_makeSlice H rfl rfl (by decide) (by omega) rfl ?_)
    · clear H; intro bK w H
      rw [z2] at H
      refine Jo 13 H ?_
      refine St_makeSlice H rfl rfl (by decide) (by omega) rfl ?_
      clear H; intro bT w H
      rw [z2] at H
      replace H := Js [2,1,0] 0 H
      refine J128 H ?_
      clear H; intro bO w H
      
      refine J129 H ?_
      clear H; intro bS w H
      replace H := Js [9,0,0,0,0,0,0,0,0,0,0] 0 H
      refine Jo 17 H ?_
      refine St_append H rfl rfl (by repeat (first | exact Reads.nil _ | apply Reads.cons rfl)) rfl (by decide) (by simp; omega) rfl rfl ?_
      clear H; intro vS w H
      obtain ⟨aS, cS, rfl⟩ := sls_slice H (m := m.objs.length + 1) (by simp [hl2]) (by decide)
      refine J130 H ?_
      clear H; intro w H
      refine J2 H ?_
      replace H := Js [2,2,2,2,6,2,2,2,2,0] 1 H
      exact fn_end0 _ (.inl rfl) (make_in hm' h2 h3 hl1 H) rfl fun w' H' => ⟨rfl, H'⟩
    · clear H; intro bT w H
      rw [z2] at H
      refine Jo 11 H ?_
      refine St_makeSlice H rfl rfl (by decide) (by omega) rfl ?_
      clear H; intro bK w H
      rw [z2] at H
      replace H := Js [2,0,0] 0 H
      refine J128 H ?_
      clear H; intro bO w H
      
      refine J129 H ?_
      clear H; intro bS w H
      replace H := Js [9,0,0,0,0,0,0,0,0,0,0] 0 H
      refine Jo 17 H ?_
      refine St_append H rfl rfl (by repeat (first | exact Reads.nil _ | apply Reads.cons rfl)) rfl (by decide) (by simp; omega) rfl rfl ?_
      clear H; intro vS w H
      obtain ⟨aS, cS, rfl⟩ := sls_slice H (m := m.objs.length + 1) (by simp [hl2]) (by decide)
      refine J130 H ?_
      clear H; intro w H
      refine J2 H ?_
      replace H := Js [2,2,2,2,6,2,2,2,2,0] 1 H
      exact fn_end0 _ (.inl rfl) (make_in hm' h2 h3 hl1 H) rfl fun w' H' => ⟨rfl, H'⟩
  · clear H; intro bK w H
    rw [z2] at H
    refine A_two 9 13 rfl rfl (by kernel_rfl) (by repeat first | exact .nil | refine .cons (.inr H.at) ?_ | refine .cons (.inr H.mp) ?_ | refine .cons (.inl (by kernel_rfl)) ?_) (Wants.none rfl) (Wants.none rfl) (St_makeSlice H rfl rfl (by decide) (by omega) rfl ?_) (St_makeSlice H rfl rfl (by decide) (by omega) rfl ?_)
    · clear H; intro bW w H
      rw [z1] at H
      refine Jo 13 H ?_
      refine St_makeSlice H rfl rfl (by decide) (by omega) rfl ?_
      clear H; intro bT w H
      rw [z2] at H
      replace H := Js [1,1,0] 0 H
      refine J128 H ?_
      clear H; intro bO w H
      
      refine J129 H ?_
      clear H; intro bS w H
      replace H := Js [9,0,0,0,0,0,0,0,0,0,0] 0 H
      refine Jo 17 H ?_
      refine St_append H rfl rfl (by repeat (first | exact Reads.nil _ | apply Reads.cons rfl)) rfl (by decide) (by simp; omega) rfl rfl ?_
      clear H; intro vS w H
      obtain ⟨aS, cS, rfl⟩ := sls_slice H (m := m.objs.length + 1) (by simp [hl2]) (by decide)
      refine J130 H ?_
      clear H; intro w H
      refine J2 H ?_
      replace H := Js [2,2,2,2,6,2,2,2,2,0] 1 H
      exact fn_end0 _ (.inl rfl) (make_in hm' h2 h3 hl1 H) rfl fun w' H' => ⟨rfl, H'⟩
    · clear H; intro bT w H
      rw [z2] at H
      refine Jo 9 H ?_
      refine St_makeSlice H rfl rfl (by decide) (by omega) rfl ?_
      clear H; intro bW w H
      rw [z1] at H
      replace H := Js [0,1,0] 0 H
      refine J128 H ?_
      clear H; intro bO w H
      
      refine J129 H ?_
      clear H; intro bS w H
      replace H := Js [9,0,0,0,0,0,0,0,0,0,0] 0 H
      refine Jo 17 H ?_
      refine St_append H rfl rfl (by repeat (first | exact Reads.nil _ | apply Reads.cons rfl)) rfl (by decide) (by simp; omega) rfl rfl ?_
      clear H; intro vS w H
      obtain ⟨aS, cS, rfl⟩ := sls_slice H (m := m.objs.length + 1) (by simp [hl2]) (by decide)
      refine J130 H ?_
      clear H; intro w H
      refine J2 H ?_
      replace H := Js [2,2,2,2,6,2,2,2,2,0] 1 H
      exact fn_end0 _ (.inl rfl) (make_in hm' h2 h3 hl1 H) rfl fun w' H' => ⟨rfl, H'⟩
  · clear H; intro bT w H
    rw [z2] at H
    refine A_two 9 11 rfl rfl (by kernel_rfl) (by repeat first | exact .nil | refine .cons (.inr H.at) ?_ | refine .cons (.inr H.mp) ?_ | refine .cons (.inl (by kernel_rfl)) ?_) (Wants.none rfl) (Wants.none rfl) (St_makeSlice H rfl rfl (by decide) (by omega) rfl ?_) (St_makeSlice H rfl rfl (by decide) (by omega) rfl ?_)
    · clear H; intro bW w H
      rw [z1] at H
      refine Jo 11 H ?_
      refine St_makeSlice H rfl rfl (by decide) (by omega) rfl ?_
      clear H; intro bK w H
      rw [z2] at H
      replace H := Js [1,0,0] 0 H
      refine J128 H ?_
      clear H; intro bO w H
      
      refine J129 H ?_
      clear H; intro bS w H
      replace H := Js [9,0,0,0,0,0,0,0,0,0,0] 0 H
      refine Jo 17 H ?_
      refine St_append H rfl rfl (by repeat (first | exact Reads.nil _ | apply Reads.cons rfl)) rfl (by decide) (by simp; omega) rfl rfl ?_
      clear H; intro vS w H
      obtain ⟨aS, cS, rfl⟩ := sls_slice H (m := m.objs.length + 1) (by simp [hl2]) (by decide)
      refine J130 H ?_
      clear H; intro w H
      refine J2 H ?_
      replace H := Js [2,2,2,2,6,2,2,2,2,0] 1 H
      exact fn_end0 _ (.inl rfl) (make_in hm' h2 h3 hl1 H) rfl fun w' H' => ⟨rfl, H'⟩
    · clear H; intro bK w H
      rw [z2] at H
      refine Jo 9 H ?_
      refine St_makeSlice H rfl rfl (by decide) (by omega) rfl ?_
      clear H; intro bW w H
      rw [z1] at H
      replace H := Js [0,0,0] 0 H
      refine J128 H ?_
      clear H; intro bO w H
      
      refine J129 H ?_
      clear H; intro bS w H
      replace H := Js [9,0,0,0,0,0,0,0,0,0,0] 0 H
      refine Jo 17 H ?_
      refine St_append H rfl rfl (by repeat (first | exact Reads.nil _ | apply Reads.cons rfl)) rfl (by decide) (by simp; omega) rfl rfl ?_
      clear H; intro vS w H
      obtain ⟨aS, cS, rfl⟩ := sls_slice H (m := m.objs.length + 1) (by simp [hl2]) (by decide)
      refine J130 H ?_
      clear H; intro w H
      refine J2 H ?_
      replace H := Js [2,2,2,2,6,2,2,2,2,0] 1 H
      exact fn_end0 _ (.inl rfl) (make_in hm' h2 h3 hl1 H) rfl fun w' H' => ⟨rfl, H'⟩
end Go.Proofs.YtcaaojbnjfdglaaGreatDoor
namespace Go.Proofs.YtcaaojbnjfdglaaGreatDoor
open Go.SL

@[reducible] def evl (e : Ent) : List Value := [.int .i64 e.addr, .int .i64 e.region, .bool e.held, .bool e.pinned]
def tval (t : Slt) : List Value := match t.ent with
  | none => [.int .i64 t.gen, .bool false, .int .i64 0, .int .i64 0, .bool false, .bool false]
  | some e => [.int .i64 t.gen, .bool true, .int .i64 e.addr, .int .i64 e.region, .bool e.held, .bool e.pinned]
theorem tval_len (t : Slt) : (tval t).length = 6 := by unfold tval; split <;> rfl
theorem tval_gen (t : Slt) : (tval t)[0]? = some (.int .i64 t.gen) := by unfold tval; split <;> rfl
theorem tval_used (t : Slt) : (tval t)[1]? = some (.bool t.ent.isSome) := by
  unfold tval
  split
  · rename_i h; rw [h]; rfl
  · rename_i h; rw [h]; rfl
def busy (t : Slt) : Bool := t.ent.isSome || t.gen == 255
def goneT (ts : List Slt) : Nat := (ts.filter fun t => t.ent.isNone && t.gen == 255).length
def busyT (ts : List Slt) : Nat := (ts.filter busy).length

structure TabOk (ts : List Slt) (x : Nat) : Prop where
  bits : Bits ts.length x
  bit : ∀ (i : Nat) (t : Slt), ts[i]? = some t → x.testBit i = busy t
  gen : ∀ (i : Nat) (t : Slt), ts[i]? = some t → t.gen ≤ 255

theorem cnt_filter {α : Type} {ts : List α} {f : α → Bool} {x : Nat} (h : ∀ (i : Nat) (t : α), ts[i]? = some t → x.testBit i = f t) : cntB ts.length x = (ts.filter f).length := by
  unfold cntB
  have e2 : ∀ (l : List α) (k : Nat), (∀ (i : Nat) (t : α), l[i]? = some t → x.testBit (k + i) = f t) → ((List.range' k l.length).filter fun i => x.testBit i).length = (l.filter f).length := by
    intro l
    induction l with
    | nil => intro k _; rfl
    | cons a l ih =>
      intro k hk
      have h0 := hk 0 a rfl
      have hr := ih (k + 1) (fun i t ht => by rw [show k + 1 + i = k + (i + 1) by omega]; exact hk (i + 1) t (by simpa using ht))
      rw [List.length_cons, List.range'_succ, List.filter_cons, List.filter_cons]
      rw [Nat.add_zero] at h0
      rw [h0]
      split
      · simp [hr]
      · exact hr
  rw [List.range_eq_range']
  exact e2 ts 0 (fun i t ht => by rw [Nat.zero_add]; exact h i t ht)
theorem TabOk.cnt {ts : List Slt} {x : Nat} (h : TabOk ts x) : cntB ts.length x = busyT ts := cnt_filter h.bit

def TAB (p : Nat) (ts : List Slt) : HProp := ex fun q : Value × Nat × Nat => star [prop (TabOk ts q.2.2), pts p (row 183 [q.1, pp q.2.1, .int .i64 (goneT ts)]), sls 193 6 q.1 (ts.flatMap tval), BM1 q.2.1 ts.length q.2.2]
theorem TAB_out [Extra] {w : World} {p : Nat} {ts : List Slt} {l : List HProp} (H : Holds w (TAB p ts :: l)) : ∃ b c s u x, TabOk ts x ∧ ts.length ≤ c ∧
    Holds w (pts p (row 183 [.slice (some ⟨b, 0, none⟩) ts.length c, pp u, .int .i64 (goneT ts)]) :: pts b (row 193 (ts.flatMap tval ++ s)) :: BM1 u ts.length x :: l) ∧
    ∀ w' l' ts' x', ts'.length = ts.length → goneT ts' = goneT ts → TabOk ts' x' → Holds w' (pts p (row 183 [.slice (some ⟨b, 0, none⟩) ts.length c, pp u, .int .i64 (goneT ts)]) :: pts b (row 193 (ts'.flatMap tval ++ s)) :: BM1 u ts.length x' :: l') → Holds w' (TAB p ts' :: l') := by
  obtain ⟨⟨v, u, x⟩, H⟩ := Holds.ex.1 H
  have H := Holds.star.1 H
  obtain ⟨h, H⟩ := Holds.prop.1 H
  replace H : Holds w (pts p (row 183 [v, pp u, .int .i64 (goneT ts)]) :: sls 193 6 v (ts.flatMap tval) :: BM1 u ts.length x :: l) := H
  obtain ⟨a, c, rfl⟩ := sls_slice H.drop (flat_len tval_len ts) (by decide)
  obtain ⟨b, s, rfl, H, hcap, hsp, hclose⟩ := sls_open2 H.swap h.bits.pos
  refine ⟨b, c, s, u, x, h, hcap, H.swap, fun w' l' ts' x' e1 e2 h' H' => ?_⟩
  have H' := hclose w' _ (ts'.flatMap tval) (by rw [flat_len tval_len, flat_len tval_len, e1]) H'.swap
  refine Holds.ex.2 ⟨(.slice (some ⟨b, 0, none⟩) ts.length c, u, x'), Holds.star.2 (Holds.prop.2 ⟨h', ?_⟩)⟩
  show Holds w' (pts p (row 183 [_, pp u, .int .i64 (goneT ts')]) :: sls 193 6 _ _ :: BM1 u ts'.length x' :: l')
  rw [e1, e2]
  exact H'.swap
theorem tNew_spec [Extra] (n : Nat) (h1 : 1 ≤ n) (h2 : n ≤ 63) {w : World} {fr : List HProp} (H : Holds w fr) :
    Calls Tryz.prog 103 #[.int .i64 n] w (ret fun v w' => ∃ p, v = .tuple #[pp p, .int .i64 0] ∧ Holds w' (TAB p (List.replicate n ⟨0, none⟩) :: fr)) := by
  refine calls_of Tryz.func103 rfl (by kernel_rfl) ?_
  refine J219 H ?_
  rw [show decide ((n : Int) < 1) = false from decide_eq_false (by omega)]
  refine J67 H ?_
  rw [show decide ((n : Int) > 4096) = false from decide_eq_false (by omega)]
  refine J19 H ?_
  refine J16 H ?_
  refine Jc rfl rfl (bNew_spec n (by omega) (by omega) H) ?_
  clear H; rintro v w ⟨u, rfl, H⟩
  refine J45 H ?_
  refine J16 H ?_
  refine Lp_s rfl (St_makeSlice H rfl rfl (by decide) (by omega) rfl ?_)
  clear H; intro b18 w H
  refine J12 H ?_
  refine J47 H ?_
  clear H; intro b21 w H
  refine J3 H ?_
  have hz : zeros (cellsL (.agg #[.int .i64 0, .bool false, .int .i64 0, .int .i64 0, .bool false, .bool false])) n = (List.replicate n (⟨0, none⟩ : Slt)).flatMap tval := by
    clear H
    clear h1 h2
    induction n with
    | zero => rfl
    | succ n ih => show _ ++ zeros _ n = _; rw [ih, List.replicate_succ, List.flatMap_cons]; rfl
  have hlen : (List.replicate n (⟨0, none⟩ : Slt)).length = n := by simp
  have hgone : goneT (List.replicate n (⟨0, none⟩ : Slt)) = 0 := by
    unfold goneT
    rw [List.filter_eq_nil_iff.2 (fun t ht => by rw [List.eq_of_mem_replicate ht]; simp)]
    rfl
  have hok : TabOk (List.replicate n (⟨0, none⟩ : Slt)) 0 := by
    refine ⟨by rw [hlen]; exact ⟨by omega, h2, Nat.two_pow_pos _⟩, fun i t ht => ?_, fun i t ht => ?_⟩
    · rw [List.eq_of_mem_replicate (List.mem_of_getElem? ht), Nat.zero_testBit]; rfl
    · rw [List.eq_of_mem_replicate (List.mem_of_getElem? ht)]; simp
  have hbm : BM u n (List.replicate ((n + 63) / 64) 0) 0 = BM1 u n 0 := by
    rw [show (n + 63) / 64 = 1 by omega]
    have : cntB n 0 = 0 := by
      unfold cntB
      rw [List.filter_eq_nil_iff.2 (fun i _ => by simp)]
      rfl
    show BM u n [0] 0 = BM u n [0] (cntB n 0)
    rw [this]
  rw [hz, hbm] at H
  refine C_ret (Jy H rfl fun w' H' => ⟨_, rfl, Holds.ex.2 ⟨(.slice (some ⟨b18, 0, none⟩) n n, u, 0), Holds.star.2 (Holds.prop.2 ⟨hok, ?_⟩)⟩⟩)
  show Holds w' (pts b21 (row 183 [_, pp u, .int .i64 (goneT (List.replicate n (⟨0, none⟩ : Slt)))]) :: sls 193 6 _ _ :: BM1 u (List.replicate n (⟨0, none⟩ : Slt)).length 0 :: fr)
  rw [hgone, hlen]
  exact H'

theorem Left_spec [Extra] (p : Nat) (ts : List Slt) {w : World} {fr : List HProp} (H : Holds w (TAB p ts :: fr)) :
    Calls Tryz.prog 41 #[pp p] w (ret fun v w' => v = .int .i64 ((ts.length - busyT ts : Nat) : Int) ∧ Holds w' (TAB p ts :: fr)) := by
  obtain ⟨b, c, s, u, x, hok, hc, H, hclose⟩ := TAB_out H
  have hb := hok.bits.le
  have hcnt := hok.cnt
  have hle := cntB_le ts.length x
  refine calls_of Tryz.func41 rfl (by kernel_rfl) ?_
  refine J81 H ?_
  refine J1 H ?_
  clear H; intro w H
  refine J210 H ?_
  refine A_lenSlice 4 rfl (Wants.none rfl) rfl (by kernel_rfl) ?_
  refine J36 H ?_
  refine J149 H ?_
  refine A_load1 8 [9] H rfl (Wants.none rfl) rfl rfl (by kernel_rfl) ?_
  replace H := Js [2,0,0] 0 H
  refine Jo 9 H ?_
  refine Jk rfl rfl (Count_spec u _ _ _ H) ?_
  clear H; rintro v w ⟨rfl, H⟩
  refine J250 H ?_
  replace H := Js [1,1,0] 0 H
  refine C_ret (Jy (hclose _ _ ts x rfl rfl hok H) rfl fun w' H' => ⟨?_, H'⟩)
  show Value.int .i64 (IntKind.i64.wrap ((ts.length : Int) - (cntB ts.length x : Int))) = _
  rw [wrap64 (by omega) (by omega), ← hcnt]
  congr 1
  omega
end Go.Proofs.YtcaaojbnjfdglaaGreatDoor
namespace Go.Proofs.YtcaaojbnjfdglaaGreatDoor
open Go.SL

@[reducible] def tkI2 (i g : Int) : Value := .agg #[.int .i64 i, .int .i64 g]

theorem lookT_none {ts : List Slt} {i g : Int} (h : lookT ts i g = none) : i < 0 ∨ (ts.length : Int) ≤ i ∨ ∃ (k : Nat) (t : Slt), i = k ∧ ts[k]? = some t ∧ (t.ent = none ∨ (t.ent.isSome = true ∧ (t.gen : Int) ≠ g)) := by
  by_cases h0 : i < 0
  · exact .inl h0
  by_cases h1 : (ts.length : Int) ≤ i
  · exact .inr (.inl h1)
  refine .inr (.inr ?_)
  obtain ⟨k, rfl⟩ : ∃ k : Nat, i = k := ⟨i.toNat, by omega⟩
  have hk := List.getElem?_eq_getElem (l := ts) (i := k) (by omega)
  generalize ts[k]'(by omega) = t at hk
  refine ⟨k, t, rfl, hk, ?_⟩
  obtain ⟨n, e⟩ := t
  cases e with
  | none => exact .inl rfl
  | some e =>
    refine .inr ⟨rfl, fun hg => ?_⟩
    rw [(lookT_some (k := k) (e := e)).2 ⟨n, rfl, hg.symm, hk⟩] at h
    cases h

theorem find_open [Extra] (p b c u : Nat) (go : Value) (hgo : go.oneCell' = true) (ts : List Slt) (s : List Value) (hlen : ts.length ≤ 63) (i g : Int) {w : World} {fr : List HProp} (H : Holds w (pts p (row 183 [.slice (some ⟨b, 0, none⟩) ts.length c, pp u, go]) :: pts b (row 193 (ts.flatMap tval ++ s)) :: fr)) :
    Calls Tryz.prog 112 #[pp p, tkI2 i g] w (ret fun v w' => v = (match lookT ts i g with | some (k, _) => .tuple #[.pointer (some ⟨b, k * 6, none⟩), .int .i64 0] | none => .tuple #[.pointer none, .int .i64 8]) ∧
      Holds w' (pts p (row 183 [.slice (some ⟨b, 0, none⟩) ts.length c, pp u, go]) :: pts b (row 193 (ts.flatMap tval ++ s)) :: fr)) := by
  refine calls_of Tryz.func112 rfl (by kernel_rfl) ?_
  refine J5 H ?_
  clear H; intro b3 w H
  refine J209 H ?_
  cases hL : lookT ts i g with
  | some q =>
    obtain ⟨k, e⟩ := q
    obtain ⟨n, rfl, rfl, hk⟩ := lookT_some.1 hL
    have hkl : k < ts.length := (List.getElem?_eq_some_iff.1 hk).1
    have c1 : (ts.flatMap tval ++ s)[k * 6 + 1]? = some (.bool true) := flat_get tval_len hk rfl
    have c0 : (ts.flatMap tval ++ s)[k * 6 + 0]? = some (.int .i64 n) := flat_get tval_len hk rfl
    have ei : 0 + ((k : Nat) : Int).toNat * 6 = k * 6 := by simp
    refine J1 H ?_
    clear H; intro w H
    refine J96 H ?_
    rw [show decide ((k : Int) < 0) = false from decide_eq_false (by omega)]
    refine J53 H ?_
    refine A_fieldAddr 4 rfl (Wants.of rfl rfl rfl) rfl (by kernel_rfl) ?_
    refine J254 H ?_
    refine J165 H ?_
    refine A_pv 7 rfl (Wants.of rfl rfl rfl) rfl (by kernel_rfl) ?_
    refine A_fieldAddr 8 rfl (Wants.of rfl rfl rfl) rfl (by kernel_rfl) ?_
    refine J255 H ?_
    refine A_lenSlice 10 rfl (Wants.of rfl rfl rfl) rfl (by kernel_rfl) ?_
    refine J166 H ?_
    rw [show decide ((k : Int) ≥ (ts.length : Int)) = false from decide_eq_false (by omega)]
    refine J91 H ?_
    refine J131 H ?_
    refine J167 H ?_
    refine A_fieldAddr 16 rfl (Wants.of rfl rfl rfl) rfl (by kernel_rfl) ?_
    refine A_load1 17 [] H rfl (Wants.of rfl rfl rfl) rfl rfl (by kernel_rfl) ?_
    refine J225 H ?_
    refine J256 H ?_
    refine A_indexAddr 20 rfl (Wants.of rfl rfl rfl) rfl rfl (by omega) (by omega) (by kernel_rfl) ?_
    rw [ei]
    refine A_fieldAddr 21 rfl (Wants.of rfl rfl rfl) rfl (by kernel_rfl) ?_
    refine A_load1 22 [] H rfl (Wants.of rfl rfl rfl) rfl c1 (by kernel_rfl) ?_
    refine J226 H ?_
    refine J132 H ?_
    refine A_pv 26 rfl (Wants.of rfl rfl rfl) rfl (by kernel_rfl) ?_
    refine A_pv 27 rfl (Wants.of rfl rfl rfl) rfl (by kernel_rfl) ?_
    refine A_fieldAddr 28 rfl (Wants.of rfl rfl rfl) rfl (by kernel_rfl) ?_
    refine A_load1 29 [] H rfl (Wants.of rfl rfl rfl) rfl rfl (by kernel_rfl) ?_
    refine A_fieldAddr 30 rfl (Wants.of rfl rfl rfl) rfl (by kernel_rfl) ?_
    refine A_load1 31 [] H rfl (Wants.of rfl rfl rfl) rfl rfl (by kernel_rfl) ?_
    refine A_indexAddr 32 rfl (Wants.of rfl rfl rfl) rfl rfl (by omega) (by omega) (by kernel_rfl) ?_
    rw [ei]
    refine A_fieldAddr 33 rfl (Wants.of rfl rfl rfl) rfl (by kernel_rfl) ?_
    refine A_load1 34 [] H rfl (Wants.of rfl rfl rfl) rfl c0 (by kernel_rfl) ?_
    refine A_fieldAddr 35 rfl (Wants.of rfl rfl rfl) rfl (by kernel_rfl) ?_
    refine A_load1 36 [] H rfl (Wants.of rfl rfl rfl) rfl rfl (by kernel_rfl) ?_
    refine A_pv 37 rfl (Wants.of rfl rfl rfl) rfl (by kernel_rfl) ?_
    rw [show (((n : Nat) : Int) != (n : Int)) = false by simp]
    refine A_pv 38 rfl (Wants.none rfl) rfl (by kernel_rfl) ?_
    refine A_end (by kernel_rfl) (by repeat first | exact .nil | refine .cons (.inr H.at) ?_ | refine .cons (.inr H.mp) ?_ | refine .cons (.inl (by kernel_rfl)) ?_) ?_
    refine J6 H ?_
    refine J1 H ?_
    clear H; intro w H
    refine J210 H ?_
    refine J32 H ?_
    refine A_load1 5 [] H rfl (Wants.none rfl) rfl rfl (by kernel_rfl) ?_
    refine A_indexAddr 6 rfl (Wants.none rfl) rfl rfl (by omega) (by omega) (by kernel_rfl) ?_
    rw [ei]
    refine J63 H ?_
    refine J126 H ?_
    exact C_ret (Jy H.drop rfl fun w' H' => ⟨rfl, H'⟩)
  | none =>
    rcases lookT_none hL with h0 | h1 | ⟨k, t, rfl, hk, ht⟩
    · refine J1 H ?_
      clear H; intro w H
      refine J96 H ?_
      rw [show decide (i < 0) = true from decide_eq_true (by omega)]
      refine J53 H ?_
      refine A_no 4 rfl (Wants.of rfl rfl rfl) (fun c e => by cases e) (by kernel_rfl) ?_
      refine A_no 5 rfl (Wants.of rfl rfl rfl) (fun c e => by cases e) (by kernel_rfl) ?_
      refine A_no 6 rfl (Wants.of rfl rfl rfl) (fun c e => by cases e) (by kernel_rfl) ?_
      refine A_no 7 rfl (Wants.of rfl rfl rfl) (fun c e => by cases e) (by kernel_rfl) ?_
      refine A_no 8 rfl (Wants.of rfl rfl rfl) (fun c e => by cases e) (by kernel_rfl) ?_
      refine A_no 9 rfl (Wants.of rfl rfl rfl) (fun c e => by cases e) (by kernel_rfl) ?_
      refine A_no 10 rfl (Wants.of rfl rfl rfl) (fun c e => by cases e) (by kernel_rfl) ?_
      refine A_no 11 rfl (Wants.of rfl rfl rfl) (fun c e => by cases e) (by kernel_rfl) ?_
      refine J91 H ?_
      refine A_no 14 rfl (Wants.of rfl rfl rfl) (fun c e => by cases e) (by kernel_rfl) ?_
      refine A_no 15 rfl (Wants.of rfl rfl rfl) (fun c e => by cases e) (by kernel_rfl) ?_
      refine A_no 16 rfl (Wants.of rfl rfl rfl) (fun c e => by cases e) (by kernel_rfl) ?_
      refine A_no 17 rfl (Wants.of rfl rfl rfl) (fun c e => by cases e) (by kernel_rfl) ?_
      refine A_no 18 rfl (Wants.of rfl rfl rfl) (fun c e => by cases e) (by kernel_rfl) ?_
      refine A_no 19 rfl (Wants.of rfl rfl rfl) (fun c e => by cases e) (by kernel_rfl) ?_
      refine A_no 20 rfl (Wants.of rfl rfl rfl) (fun c e => by cases e) (by kernel_rfl) ?_
      refine A_no 21 rfl (Wants.of rfl rfl rfl) (fun c e => by cases e) (by kernel_rfl) ?_
      refine A_no 22 rfl (Wants.of rfl rfl rfl) (fun c e => by cases e) (by kernel_rfl) ?_
      refine A_no 23 rfl (Wants.of rfl rfl rfl) (fun c e => by cases e) (by kernel_rfl) ?_
      refine J132 H ?_
      refine A_no 26 rfl (Wants.of rfl rfl rfl) (fun c e => by cases e) (by kernel_rfl) ?_
      refine A_no 27 rfl (Wants.of rfl rfl rfl) (fun c e => by cases e) (by kernel_rfl) ?_
      refine A_no 28 rfl (Wants.of rfl rfl rfl) (fun c e => by cases e) (by kernel_rfl) ?_
      refine A_no 29 rfl (Wants.of rfl rfl rfl) (fun c e => by cases e) (by kernel_rfl) ?_
      refine A_no 30 rfl (Wants.of rfl rfl rfl) (fun c e => by cases e) (by kernel_rfl) ?_
      refine A_no 31 rfl (Wants.of rfl rfl rfl) (fun c e => by cases e) (by kernel_rfl) ?_
      refine A_no 32 rfl (Wants.of rfl rfl rfl) (fun c e => by cases e) (by kernel_rfl) ?_
      refine A_no 33 rfl (Wants.of rfl rfl rfl) (fun c e => by cases e) (by kernel_rfl) ?_
      refine A_no 34 rfl (Wants.of rfl rfl rfl) (fun c e => by cases e) (by kernel_rfl) ?_
      refine A_no 35 rfl (Wants.of rfl rfl rfl) (fun c e => by cases e) (by kernel_rfl) ?_
      refine A_no 36 rfl (Wants.of rfl rfl rfl) (fun c e => by cases e) (by kernel_rfl) ?_
      refine A_no 37 rfl (Wants.of rfl rfl rfl) (fun c e => by cases e) (by kernel_rfl) ?_
      refine J168 H ?_
      exact C_ret (Jy H.drop rfl fun w' H' => ⟨rfl, H'⟩)
    · by_cases h0 : i < 0
      · refine J1 H ?_
        clear H; intro w H
        refine J96 H ?_
        rw [show decide (i < 0) = true from decide_eq_true (by omega)]
        refine J53 H ?_
        refine A_no 4 rfl (Wants.of rfl rfl rfl) (fun c e => by cases e) (by kernel_rfl) ?_
        refine A_no 5 rfl (Wants.of rfl rfl rfl) (fun c e => by cases e) (by kernel_rfl) ?_
        refine A_no 6 rfl (Wants.of rfl rfl rfl) (fun c e => by cases e) (by kernel_rfl) ?_
        refine A_no 7 rfl (Wants.of rfl rfl rfl) (fun c e => by cases e) (by kernel_rfl) ?_
        refine A_no 8 rfl (Wants.of rfl rfl rfl) (fun c e => by cases e) (by kernel_rfl) ?_
        refine A_no 9 rfl (Wants.of rfl rfl rfl) (fun c e => by cases e) (by kernel_rfl) ?_
        refine A_no 10 rfl (Wants.of rfl rfl rfl) (fun c e => by cases e) (by kernel_rfl) ?_
        refine A_no 11 rfl (Wants.of rfl rfl rfl) (fun c e => by cases e) (by kernel_rfl) ?_
        refine J91 H ?_
        refine A_no 14 rfl (Wants.of rfl rfl rfl) (fun c e => by cases e) (by kernel_rfl) ?_
        refine A_no 15 rfl (Wants.of rfl rfl rfl) (fun c e => by cases e) (by kernel_rfl) ?_
        refine A_no 16 rfl (Wants.of rfl rfl rfl) (fun c e => by cases e) (by kernel_rfl) ?_
        refine A_no 17 rfl (Wants.of rfl rfl rfl) (fun c e => by cases e) (by kernel_rfl) ?_
        refine A_no 18 rfl (Wants.of rfl rfl rfl) (fun c e => by cases e) (by kernel_rfl) ?_
        refine A_no 19 rfl (Wants.of rfl rfl rfl) (fun c e => by cases e) (by kernel_rfl) ?_
        refine A_no 20 rfl (Wants.of rfl rfl rfl) (fun c e => by cases e) (by kernel_rfl) ?_
        refine A_no 21 rfl (Wants.of rfl rfl rfl) (fun c e => by cases e) (by kernel_rfl) ?_
        refine A_no 22 rfl (Wants.of rfl rfl rfl) (fun c e => by cases e) (by kernel_rfl) ?_
        refine A_no 23 rfl (Wants.of rfl rfl rfl) (fun c e => by cases e) (by kernel_rfl) ?_
        refine J132 H ?_
        refine A_no 26 rfl (Wants.of rfl rfl rfl) (fun c e => by cases e) (by kernel_rfl) ?_
        refine A_no 27 rfl (Wants.of rfl rfl rfl) (fun c e => by cases e) (by kernel_rfl) ?_
        refine A_no 28 rfl (Wants.of rfl rfl rfl) (fun c e => by cases e) (by kernel_rfl) ?_
        refine A_no 29 rfl (Wants.of rfl rfl rfl) (fun c e => by cases e) (by kernel_rfl) ?_
        refine A_no 30 rfl (Wants.of rfl rfl rfl) (fun c e => by cases e) (by kernel_rfl) ?_
        refine A_no 31 rfl (Wants.of rfl rfl rfl) (fun c e => by cases e) (by kernel_rfl) ?_
        refine A_no 32 rfl (Wants.of rfl rfl rfl) (fun c e => by cases e) (by kernel_rfl) ?_
        refine A_no 33 rfl (Wants.of rfl rfl rfl) (fun c e => by cases e) (by kernel_rfl) ?_
        refine A_no 34 rfl (Wants.of rfl rfl rfl) (fun c e => by cases e) (by kernel_rfl) ?_
        refine A_no 35 rfl (Wants.of rfl rfl rfl) (fun c e => by cases e) (by kernel_rfl) ?_
        refine A_no 36 rfl (Wants.of rfl rfl rfl) (fun c e => by cases e) (by kernel_rfl) ?_
        refine A_no 37 rfl (Wants.of rfl rfl rfl) (fun c e => by cases e) (by kernel_rfl) ?_
        refine J168 H ?_
        exact C_ret (Jy H.drop rfl fun w' H' => ⟨rfl, H'⟩)
      · refine J1 H ?_
        clear H; intro w H
        refine J96 H ?_
        rw [show decide (i < 0) = false from decide_eq_false (by omega)]
        refine J53 H ?_
        refine A_fieldAddr 4 rfl (Wants.of rfl rfl rfl) rfl (by kernel_rfl) ?_
        refine J254 H ?_
        refine J165 H ?_
        refine A_pv 7 rfl (Wants.of rfl rfl rfl) rfl (by kernel_rfl) ?_
        refine A_fieldAddr 8 rfl (Wants.of rfl rfl rfl) rfl (by kernel_rfl) ?_
        refine J255 H ?_
        refine A_lenSlice 10 rfl (Wants.of rfl rfl rfl) rfl (by kernel_rfl) ?_
        refine J166 H ?_
        rw [show decide (i ≥ (ts.length : Int)) = true from decide_eq_true (by omega)]
        refine J91 H ?_
        refine A_no 14 rfl (Wants.of rfl rfl rfl) (fun c e => by cases e) (by kernel_rfl) ?_
        refine A_no 15 rfl (Wants.of rfl rfl rfl) (fun c e => by cases e) (by kernel_rfl) ?_
        refine A_no 16 rfl (Wants.of rfl rfl rfl) (fun c e => by cases e) (by kernel_rfl) ?_
        refine A_no 17 rfl (Wants.of rfl rfl rfl) (fun c e => by cases e) (by kernel_rfl) ?_
        refine A_no 18 rfl (Wants.of rfl rfl rfl) (fun c e => by cases e) (by kernel_rfl) ?_
        refine A_no 19 rfl (Wants.of rfl rfl rfl) (fun c e => by cases e) (by kernel_rfl) ?_
        refine A_no 20 rfl (Wants.of rfl rfl rfl) (fun c e => by cases e) (by kernel_rfl) ?_
        refine A_no 21 rfl (Wants.of rfl rfl rfl) (fun c e => by cases e) (by kernel_rfl) ?_
        refine A_no 22 rfl (Wants.of rfl rfl rfl) (fun c e => by cases e) (by kernel_rfl) ?_
        refine A_no 23 rfl (Wants.of rfl rfl rfl) (fun c e => by cases e) (by kernel_rfl) ?_
        refine J132 H ?_
        refine A_no 26 rfl (Wants.of rfl rfl rfl) (fun c e => by cases e) (by kernel_rfl) ?_
        refine A_no 27 rfl (Wants.of rfl rfl rfl) (fun c e => by cases e) (by kernel_rfl) ?_
        refine A_no 28 rfl (Wants.of rfl rfl rfl) (fun c e => by cases e) (by kernel_rfl) ?_
        refine A_no 29 rfl (Wants.of rfl rfl rfl) (fun c e => by cases e) (by kernel_rfl) ?_
        refine A_no 30 rfl (Wants.of rfl rfl rfl) (fun c e => by cases e) (by kernel_rfl) ?_
        refine A_no 31 rfl (Wants.of rfl rfl rfl) (fun c e => by cases e) (by kernel_rfl) ?_
        refine A_no 32 rfl (Wants.of rfl rfl rfl) (fun c e => by cases e) (by kernel_rfl) ?_
        refine A_no 33 rfl (Wants.of rfl rfl rfl) (fun c e => by cases e) (by kernel_rfl) ?_
        refine A_no 34 rfl (Wants.of rfl rfl rfl) (fun c e => by cases e) (by kernel_rfl) ?_
        refine A_no 35 rfl (Wants.of rfl rfl rfl) (fun c e => by cases e) (by kernel_rfl) ?_
        refine A_no 36 rfl (Wants.of rfl rfl rfl) (fun c e => by cases e) (by kernel_rfl) ?_
        refine A_no 37 rfl (Wants.of rfl rfl rfl) (fun c e => by cases e) (by kernel_rfl) ?_
        refine J168 H ?_
        exact C_ret (Jy H.drop rfl fun w' H' => ⟨rfl, H'⟩)
    · have hkl : k < ts.length := (List.getElem?_eq_some_iff.1 hk).1
      have c1 : (ts.flatMap tval ++ s)[k * 6 + 1]? = some (.bool t.ent.isSome) := flat_get tval_len hk (tval_used t)
      have c0 : (ts.flatMap tval ++ s)[k * 6 + 0]? = some (.int .i64 t.gen) := flat_get tval_len hk (tval_gen t)
      have ei : 0 + ((k : Nat) : Int).toNat * 6 = k * 6 := by simp
      refine J1 H ?_
      clear H; intro w H
      refine J96 H ?_
      rw [show decide ((k : Int) < 0) = false from decide_eq_false (by omega)]
      refine J53 H ?_
      refine A_fieldAddr 4 rfl (Wants.of rfl rfl rfl) rfl (by kernel_rfl) ?_
      refine J254 H ?_
      refine J165 H ?_
      refine A_pv 7 rfl (Wants.of rfl rfl rfl) rfl (by kernel_rfl) ?_
      refine A_fieldAddr 8 rfl (Wants.of rfl rfl rfl) rfl (by kernel_rfl) ?_
      refine J255 H ?_
      refine A_lenSlice 10 rfl (Wants.of rfl rfl rfl) rfl (by kernel_rfl) ?_
      refine J166 H ?_
      rw [show decide ((k : Int) ≥ (ts.length : Int)) = false from decide_eq_false (by omega)]
      refine J91 H ?_
      refine J131 H ?_
      refine J167 H ?_
      refine A_fieldAddr 16 rfl (Wants.of rfl rfl rfl) rfl (by kernel_rfl) ?_
      refine A_load1 17 [] H rfl (Wants.of rfl rfl rfl) rfl rfl (by kernel_rfl) ?_
      refine J225 H ?_
      refine J256 H ?_
      refine A_indexAddr 20 rfl (Wants.of rfl rfl rfl) rfl rfl (by omega) (by omega) (by kernel_rfl) ?_
      rw [ei]
      refine A_fieldAddr 21 rfl (Wants.of rfl rfl rfl) rfl (by kernel_rfl) ?_
      refine A_load1 22 [] H rfl (Wants.of rfl rfl rfl) rfl c1 (by kernel_rfl) ?_
      rcases ht with ht | ⟨ht, hne⟩
      · rw [ht]
        refine J226 H ?_
        refine J132 H ?_
        refine A_no 26 rfl (Wants.of rfl rfl rfl) (fun c e => by cases e) (by kernel_rfl) ?_
        refine A_no 27 rfl (Wants.of rfl rfl rfl) (fun c e => by cases e) (by kernel_rfl) ?_
        refine A_no 28 rfl (Wants.of rfl rfl rfl) (fun c e => by cases e) (by kernel_rfl) ?_
        refine A_no 29 rfl (Wants.of rfl rfl rfl) (fun c e => by cases e) (by kernel_rfl) ?_
        refine A_no 30 rfl (Wants.of rfl rfl rfl) (fun c e => by cases e) (by kernel_rfl) ?_
        refine A_no 31 rfl (Wants.of rfl rfl rfl) (fun c e => by cases e) (by kernel_rfl) ?_
        refine A_no 32 rfl (Wants.of rfl rfl rfl) (fun c e => by cases e) (by kernel_rfl) ?_
        refine A_no 33 rfl (Wants.of rfl rfl rfl) (fun c e => by cases e) (by kernel_rfl) ?_
        refine A_no 34 rfl (Wants.of rfl rfl rfl) (fun c e => by cases e) (by kernel_rfl) ?_
        refine A_no 35 rfl (Wants.of rfl rfl rfl) (fun c e => by cases e) (by kernel_rfl) ?_
        refine A_no 36 rfl (Wants.of rfl rfl rfl) (fun c e => by cases e) (by kernel_rfl) ?_
        refine A_no 37 rfl (Wants.of rfl rfl rfl) (fun c e => by cases e) (by kernel_rfl) ?_
        refine J168 H ?_
        exact C_ret (Jy H.drop rfl fun w' H' => ⟨rfl, H'⟩)
      · rw [ht]
        refine J226 H ?_
        refine J132 H ?_
        refine A_pv 26 rfl (Wants.of rfl rfl rfl) rfl (by kernel_rfl) ?_
        refine A_pv 27 rfl (Wants.of rfl rfl rfl) rfl (by kernel_rfl) ?_
        refine A_fieldAddr 28 rfl (Wants.of rfl rfl rfl) rfl (by kernel_rfl) ?_
        refine A_load1 29 [] H rfl (Wants.of rfl rfl rfl) rfl rfl (by kernel_rfl) ?_
        refine A_fieldAddr 30 rfl (Wants.of rfl rfl rfl) rfl (by kernel_rfl) ?_
        refine A_load1 31 [] H rfl (Wants.of rfl rfl rfl) rfl rfl (by kernel_rfl) ?_
        refine A_indexAddr 32 rfl (Wants.of rfl rfl rfl) rfl rfl (by omega) (by omega) (by kernel_rfl) ?_
        rw [ei]
        refine A_fieldAddr 33 rfl (Wants.of rfl rfl rfl) rfl (by kernel_rfl) ?_
        refine A_load1 34 [] H rfl (Wants.of rfl rfl rfl) rfl c0 (by kernel_rfl) ?_
        refine A_fieldAddr 35 rfl (Wants.of rfl rfl rfl) rfl (by kernel_rfl) ?_
        refine A_load1 36 [] H rfl (Wants.of rfl rfl rfl) rfl rfl (by kernel_rfl) ?_
        refine A_pv 37 rfl (Wants.of rfl rfl rfl) rfl (by kernel_rfl) ?_
        rw [show (((t.gen : Nat) : Int) != g) = true by simpa using hne]
        refine J168 H ?_
        exact C_ret (Jy H.drop rfl fun w' H' => ⟨rfl, H'⟩)
end Go.Proofs.YtcaaojbnjfdglaaGreatDoor
namespace Go.Proofs.YtcaaojbnjfdglaaGreatDoor
open Go.SL

theorem goneT_set {ts : List Slt} {k : Nat} {t t' : Slt} (hk : ts[k]? = some t) (hb : (t'.ent.isNone && t'.gen == 255) = (t.ent.isNone && t.gen == 255)) : goneT (ts.set k t') = goneT ts := by
  unfold goneT
  rw [set_split hk]
  conv => rhs; rw [split_at hk]
  rw [List.filter_append, List.filter_append, List.filter_cons, List.filter_cons, hb]
  split <;> simp
theorem TabOk.set {ts : List Slt} {x k : Nat} {t t' : Slt} (h : TabOk ts x) (hk : ts[k]? = some t) (hb : busy t' = busy t) (hg : t'.gen ≤ 255) : TabOk (ts.set k t') x := by
  refine ⟨by rw [List.length_set]; exact h.bits, fun i u hu => ?_, fun i u hu => ?_⟩
  · rcases tab_set hu with ⟨rfl, rfl, _⟩ | ⟨_, hu⟩
    · rw [hb]; exact h.bit _ _ hk
    · exact h.bit _ _ hu
  · rcases tab_set hu with ⟨rfl, rfl, _⟩ | ⟨_, hu⟩
    · exact hg
    · exact h.gen _ _ hu

theorem tGet_spec [Extra] (p : Nat) (ts : List Slt) (i g : Int) {w : World} {fr : List HProp} (H : Holds w (TAB p ts :: fr)) :
    Calls Tryz.prog 44 #[pp p, tkI2 i g] w (ret fun v w' => v = (match lookT ts i g with | some (_, e) => .tuple #[.agg (evl e).toArray, .int .i64 0] | none => .tuple #[.agg #[.int .i64 0, .int .i64 0, .bool false, .bool false], .int .i64 8]) ∧ Holds w' (TAB p ts :: fr)) := by
  obtain ⟨b, c, s, u, x, hok, hc, H, hclose⟩ := TAB_out H
  refine calls_of Tryz.func44 rfl (by kernel_rfl) ?_
  refine J5 H ?_
  clear H; intro b3 w H
  refine J17 H ?_
  clear H; intro b4 w H
  refine J106 H ?_
  replace H := Js [2,2,0,0,0] 0 H
  refine Jc rfl rfl (find_open p b c u _ rfl ts s hok.bits.le i g H) ?_
  clear H; rintro v w ⟨rfl, H⟩
  cases hL : lookT ts i g with
  | some q =>
    obtain ⟨k, e⟩ := q
    obtain ⟨n, rfl, rfl, hk⟩ := lookT_some.1 hL
    have hrd : Reads (ts.flatMap tval ++ s) (k * 6 + 2) 4 (evl e) := flat_reads (vs := evl e) tval_len hk (by repeat (first | exact Reads.nil _ | apply Reads.cons rfl))
    refine J42 H ?_
    refine J7 H ?_
    refine J92 H ?_
    refine Lp_s rfl (St_loadN H rfl hrd rfl ?_)
    refine J9 H ?_
    clear H; intro w H
    refine J0 H ?_
    replace H := Js [2,0,0,1] 1 H
    exact C_ret (Jz H (fun w' H' => .cellN H' rfl (by repeat (first | exact Reads.nil _ | apply Reads.cons rfl)) (.tmp .nil)) fun w' H' => ⟨rfl, hclose _ _ ts x rfl rfl hok H'.drop⟩)
  | none =>
    refine J61 H ?_
    refine J227 H ?_
    clear H; intro w H
    refine J0 H ?_
    replace H := Js [2,0,0,1] 1 H
    exact C_ret (Jz H (fun w' H' => .cellN H' rfl (by repeat (first | exact Reads.nil _ | apply Reads.cons rfl)) (.tmp .nil)) fun w' H' => ⟨rfl, hclose _ _ ts x rfl rfl hok H'.drop⟩)

theorem tSet_spec [Extra] (p : Nat) (ts : List Slt) (i g : Int) (e' : Ent) {w : World} {fr : List HProp} (H : Holds w (TAB p ts :: fr)) :
    Calls Tryz.prog 60 #[pp p, tkI2 i g, .agg (evl e').toArray] w (ret fun v w' => (∃ k e, lookT ts i g = some (k, e) ∧ v = .int .i64 0 ∧ Holds w' (TAB p (ts.set k ⟨g.toNat, some e'⟩) :: fr)) ∨ (lookT ts i g = none ∧ v = .int .i64 8 ∧ Holds w' (TAB p ts :: fr))) := by
  obtain ⟨b, c, s, u, x, hok, hc, H, hclose⟩ := TAB_out H
  refine calls_of Tryz.func60 rfl (by kernel_rfl) ?_
  refine J5 H ?_
  clear H; intro b4 w H
  refine J44 H ?_
  clear H; intro b5 w H
  refine J106 H ?_
  replace H := Js [2,2,0,0,0] 0 H
  refine Jc rfl rfl (find_open p b c u _ rfl ts s hok.bits.le i g H) ?_
  clear H; rintro v w ⟨rfl, H⟩
  cases hL : lookT ts i g with
  | some q =>
    obtain ⟨k, e⟩ := q
    obtain ⟨n, rfl, rfl, hk⟩ := lookT_some.1 hL
    refine J61 H ?_
    refine J10 H ?_
    refine C_join (fun ms σ w => ms = [] ∧ σ 8 = .int .i64 0 ∧ Holds w (TAB p (ts.set k ⟨n, some e'⟩) :: fr)) ?_ ?_
    · refine C_true rfl ?_
      refine J228 H ?_
      refine J92 H ?_
      replace H := Js [1,0,0,0,0] 0 H
      have hlen := flat_len tval_len ts
      have hkl : k < ts.length := (List.getElem?_eq_some_iff.1 hk).1
      refine Lp_s rfl (St_storeN (vs := evl e') H rfl rfl inferInstance rfl rfl (by rw [List.length_append, hlen]; omega) rfl ?_)
      clear H; intro w H
      rw [flat_wr (x' := ⟨n, some e'⟩) tval_len hk (by simp) rfl] at H
      refine Lp_nil ?_
      replace H := Js [1,0,2] 2 H
      exact ⟨rfl, rfl, rfl, hclose _ _ (ts.set k ⟨n, some e'⟩) x (by simp) (goneT_set hk rfl) (hok.set hk rfl (by have := hok.gen _ _ hk; exact this)) H⟩
    · clear H
      rintro ms σ w ⟨rfl, g8, H⟩
      rw [upd_self g8]
      refine J4 H ?_
      exact C_ret (Jy H rfl fun w' H' => .inl ⟨k, e, rfl, rfl, H'⟩)
  | none =>
    refine J42 H ?_
    refine J4 H ?_
    replace H := Js [0,0,2] 2 H
    exact C_ret (Jy H rfl fun w' H' => .inr ⟨rfl, rfl, hclose _ _ ts x rfl rfl hok H'⟩)

end Go.Proofs.YtcaaojbnjfdglaaGreatDoor
