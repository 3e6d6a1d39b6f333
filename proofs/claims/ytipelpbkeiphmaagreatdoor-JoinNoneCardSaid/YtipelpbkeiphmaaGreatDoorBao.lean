/- Cells: what is proved on the way: every input of the statement; no condition. Texts joined: RefD ModA ModB ModC ModD ModE LawP LawQ LawR JoiQ LawA LawB LawC LawD LawE LawF LawG LawH LawI LawJz. -/
import Derived.Test.YtipelpbkeiphmaaGreatDoorBaf
import Derived.Test.YtipelpbkeiphmaaGreatDoorBan
import Derived.Test.YtipelpbkeiphmaaGreatDoorBal
import Derived.Test.YtipelpbkeiphmaaGreatDoorBae
import Derived.Test.YtipelpbkeiphmaaGreatDoorBam
set_option linter.unusedVariables false
set_option linter.unusedSimpArgs false
set_option linter.unusedSectionVars false
namespace Go.Proofs.YtipelpbkeiphmaaGreatDoor
open Go.SL

def liveP (P : List Int) (id : Int) : Bool := decide (0 < id ∧ id < P.length ∧ 0 ≤ P.getD id.toNat 0)
def idsTo (P : List Int) (f : Int → Bool) (k : Nat) : List Nat := (List.range k).filter fun i => decide (1 ≤ i) && f (P.getD i 0)
def allP (P : List Int) : List Nat := idsTo P (fun q => decide (0 ≤ q)) P.length
def RTR (p : Nat) (P : List Int) : HProp := ex fun v : Value => star [pts p (row 205 [v]), IL v P]
theorem RTR_out [Extra] {w : World} {p : Nat} {P : List Int} {l : List HProp} (H : Holds w (RTR p P :: l)) : ∃ a c, Holds w (pts p (row 205 [.slice a P.length c]) :: IL (.slice a P.length c) P :: l) := by
  obtain ⟨v, H⟩ := Holds.ex.1 H
  have H := Holds.star.1 H
  obtain ⟨a, c, rfl⟩ := sls_slice H.drop (icells_length P) (by decide)
  exact ⟨a, c, H⟩
theorem RTR_in [Extra] {w : World} {p : Nat} {P : List Int} {v : Value} {l : List HProp} (H : Holds w (pts p (row 205 [v]) :: IL v P :: l)) : Holds w (RTR p P :: l) :=
  Holds.ex.2 ⟨v, Holds.star.2 H⟩

theorem dNew_spec [Extra] {w : World} {fr : List HProp} (H : Holds w fr) : Calls Tryz.prog 111 #[] w (ret fun v w' => ∃ p, v = pp p ∧ Holds w' (RTR p [-1] :: fr)) := by
  refine calls_of Tryz.func111 rfl (by kernel_rfl) ?_
  refine J122 H ?_
  refine J32 H ?_
  clear H; intro b1 w H
  refine J40 H ?_
  clear H; intro b3 w H
  refine J0 H ?_
  have H := sls_lit (len := 1) (k := 1) (by rfl) H.swap
  exact C_ret (Jy H.swap rfl fun w' H' => ⟨_, rfl, RTR_in (P := [-1]) H'⟩)

theorem icell_at {P : List Int} {s : List Value} {i : Nat} (h : i < P.length) : (icells P ++ s)[0 + i * 1]? = some (.int .i64 (P.getD i 0)) := by
  rw [Nat.zero_add, Nat.mul_one, List.getElem?_append_left (by simpa [icells] using h)]
  simp [icells, h]

theorem dLive_spec [Extra] (p : Nat) (P : List Int) (id : Int) {w : World} {fr : List HProp} (H : Holds w (RTR p P :: fr)) :
    Calls Tryz.prog 44 #[pp p, .int .i64 id] w (ret fun v w' => v = .bool (liveP P id) ∧ Holds w' (RTR p P :: fr)) := by
  obtain ⟨a, c, H⟩ := RTR_out H
  refine calls_of Tryz.func44 rfl (by kernel_rfl) ?_
  refine J12 H ?_
  refine J2 H ?_
  by_cases h1 : id > 0
  · rw [show decide (id > 0) = true from decide_eq_true (by omega)]
    refine J150 H ?_
    by_cases h2 : id < (P.length : Int)
    · rw [show decide (id < (P.length : Int)) = true from decide_eq_true (by omega)]
      obtain ⟨k, rfl⟩ : ∃ k : Nat, id = k := ⟨id.toNat, by omega⟩
      obtain ⟨b, s, rfl, H, hclose⟩ := sls_open H.swap (by omega)
      have hc := icell_at (P := P) (s := s) (i := k) (by omega)
      refine J11 H ?_
      refine J24 H ?_
      refine J45 H ?_
      refine Lp_g rfl rfl rfl (St_indexAddr rfl rfl (by omega) (by omega) rfl ?_)
      refine Lp_g rfl rfl rfl (St_load1 H rfl hc rfl ?_)
      refine J22 H ?_
      refine J3 H ?_
      replace H := (hclose _ _ H).swap
      refine C_ret (Jy (RTR_in H) rfl fun w' H' => ⟨?_, H'⟩)
      show Value.bool (decide (P.getD k 0 ≥ 0)) = _
      unfold liveP
      congr 1
      rw [decide_eq_decide, Int.toNat_natCast]
      exact ⟨fun h => ⟨h1, h2, h⟩, fun h => h.2.2⟩
    · rw [show decide (id < (P.length : Int)) = false from decide_eq_false (by omega)]
      refine J11 H ?_
      refine J41 H ?_
      refine J41 H ?_
      refine J3 H ?_
      refine C_ret (Jy (RTR_in H) rfl fun w' H' => ⟨?_, H'⟩)
      show Value.bool false = _
      unfold liveP
      rw [decide_eq_false (fun h => h2 h.2.1)]
  · rw [show decide (id > 0) = false from decide_eq_false (by omega)]
    refine J7 H ?_
    refine J41 H ?_
    refine J82 H ?_
    refine J11 H ?_
    refine J41 H ?_
    refine J41 H ?_
    refine J3 H ?_
    refine C_ret (Jy (RTR_in H) rfl fun w' H' => ⟨?_, H'⟩)
    show Value.bool false = _
    unfold liveP
    rw [decide_eq_false (fun h => h1 h.1)]

/-- What Add answers: the error. -/
def dErr (P : List Int) (parent : Int) : Nat := if parent ≠ 0 ∧ liveP P parent = false then 6 else if 64 ≤ (allP P).length then 5 else 0

end Go.Proofs.YtipelpbkeiphmaaGreatDoor
namespace Go.Proofs.YtipelpbkeiphmaaGreatDoor
open Go.SL

structure Mob where
  region : Nat
  lay : Nat
  count : Nat
  w : List Nat
  kind : List Nat
  to : List Nat
  held : Bool
  pinned : Bool
  gone : Bool
structure MS where
  P : List Int
  lays : List Lay
  objs : List Mob
structure MobOK (lays : List Lay) (n : Nat) (x : Mob) : Prop where
  lay : ∃ l, lays[x.lay - 1]? = some l ∧ RightL l ∧ sizeL l x.count = (x.w.length, 0)
  lay1 : 1 ≤ x.lay
  kind : x.kind.length = x.w.length
  to : x.to.length = x.w.length
  goes : ∀ p, x.kind[p]? = some 2 → x.to.getD p 0 < n
structure MWF (m : MS) : Prop where
  P : 1 ≤ m.P.length ∧ m.P.length ≤ 100000
  lays : m.lays.length ≤ 64 ∧ ∀ l ∈ m.lays, RightL l
  objs : ∀ x ∈ m.objs, MobOK m.lays m.objs.length x
  few : m.objs.length ≤ 100000
def layM (m : MS) (x : Mob) : Lay := (m.lays[x.lay - 1]?).getD ⟨0, [], 0, []⟩
/-- An object's block, its slices' values, what it is. -/
structure OC where
  ptr : Nat
  vw : Value
  vk : Value
  vt : Value
  ob : Mob
@[reducible] def mrow (vw vk vt : Value) (x : Mob) : Obj := row 117 [.int .i64 x.region, .int .i64 x.lay, .int .i64 x.count, vw, vk, vt, .bool x.held, .bool x.pinned, .bool x.gone]
@[reducible] def ocr (x : OC) : HProp := star [pts x.ptr (mrow x.vw x.vk x.vt x.ob), UL x.vw x.ob.w, NL x.vk x.ob.kind, NL x.vt x.ob.to]
structure MQ where
  t : Nat
  vL : Value
  lc : List LyC
  vO : Value
  oc : List OC
def MODEL (p : Nat) (m : MS) : HProp := ex fun q : MQ => star [prop (MWF m ∧ q.lc.map (·.2.2) = m.lays ∧ q.oc.map (·.ob) = m.objs), pts p (row 83 [pp q.t, q.vL, q.vO]), RTR q.t m.P, sls 201 4 q.vL (bcells q.lc), star (q.lc.map bres), sls 118 1 q.vO (q.oc.map fun x => pp x.ptr), star (q.oc.map ocr)]
theorem MODEL_out [Extra] {w : World} {p : Nat} {m : MS} {l : List HProp} (H : Holds w (MODEL p m :: l)) : ∃ (t : Nat) (lc : List LyC) (oc : List OC) (aL : Option Addr) (cL : Nat) (aO : Option Addr) (cO : Nat), MWF m ∧ lc.map (·.2.2) = m.lays ∧ oc.map (·.ob) = m.objs ∧ lc.length = m.lays.length ∧ oc.length = m.objs.length ∧
    Holds w (pts p (row 83 [pp t, .slice aL m.lays.length cL, .slice aO m.objs.length cO]) :: RTR t m.P :: sls 201 4 (.slice aL m.lays.length cL) (bcells lc) :: star (lc.map bres) :: sls 118 1 (.slice aO m.objs.length cO) (oc.map fun x => pp x.ptr) :: star (oc.map ocr) :: l) := by
  obtain ⟨⟨t, vL, lc, vO, oc⟩, H⟩ := Holds.ex.1 H
  have H := Holds.star.1 H
  obtain ⟨⟨h1, h2, h3⟩, H⟩ := Holds.prop.1 H
  have hl1 : lc.length = m.lays.length := by rw [← h2, List.length_map]
  have hl2 : oc.length = m.objs.length := by rw [← h3, List.length_map]
  obtain ⟨aL, cL, rfl⟩ := sls_slice (H.drop.drop) (bcells_length lc) (by decide)
  obtain ⟨aO, cO, rfl⟩ := sls_slice (m := oc.length) (H.drop.drop.drop.drop) (by simp) (by decide)
  refine ⟨t, lc, oc, aL, cL, aO, cO, h1, h2, h3, hl1, hl2, ?_⟩
  rw [← hl1, ← hl2]
  exact H
theorem MODEL_in [Extra] {w : World} {p t : Nat} {m : MS} {l : List HProp} {lc : List LyC} {oc : List OC} {vL vO : Value} (h1 : MWF m) (h2 : lc.map (·.2.2) = m.lays) (h3 : oc.map (·.ob) = m.objs)
    (H : Holds w (pts p (row 83 [pp t, vL, vO]) :: RTR t m.P :: sls 201 4 vL (bcells lc) :: star (lc.map bres) :: sls 118 1 vO (oc.map fun x => pp x.ptr) :: star (oc.map ocr) :: l)) : Holds w (MODEL p m :: l) :=
  Holds.ex.2 ⟨⟨t, vL, lc, vO, oc⟩, Holds.star.2 (Holds.prop.2 ⟨⟨h1, h2, h3⟩, H⟩)⟩

def valM (m : MS) (o : Int) : Option (Nat × Mob) :=
  if 0 ≤ o then
    match m.objs[o.toNat]? with
    | some x => if x.held && !x.gone then some (o.toNat, x) else none
    | none => none
  else none
theorem valM_nat (m : MS) (o : Nat) : valM m o = match m.objs[o]? with | some x => if x.held && !x.gone then some (o, x) else none | none => none := by
  unfold valM
  rw [if_pos (by omega), Int.toNat_natCast]
def placeM (m : MS) (o place : Int) (ref : Bool) : Nat :=
  match valM m o with
  | none => 8
  | some (_, x) => placeE (layM m x) x.w.length place ref

end Go.Proofs.YtipelpbkeiphmaaGreatDoor
namespace Go.Proofs.YtipelpbkeiphmaaGreatDoor
open Go.SL

@[reducible] def setM (m : MS) (k : Nat) (x : Mob) : MS := { m with objs := m.objs.set k x }
theorem MWF_set {m : MS} (h : MWF m) {o : Nat} {x : Mob} (hx : MobOK m.lays m.objs.length x) : MWF (setM m o x) := by
  refine ⟨h.P, h.lays, fun y hy => ?_, by show (m.objs.set o x).length ≤ _; rw [List.length_set]; exact h.few⟩
  have hl : (m.objs.set o x).length = m.objs.length := List.length_set
  show MobOK m.lays (m.objs.set o x).length y
  rw [hl]
  rcases List.mem_or_eq_of_mem_set hy with hy | rfl
  · exact h.objs y hy
  · exact hx

end Go.Proofs.YtipelpbkeiphmaaGreatDoor
namespace Go.Proofs.YtipelpbkeiphmaaGreatDoor
open Go.SL

theorem placeM_some {m : MS} {o place : Int} {ref : Bool} {k : Nat} {x : Mob} (h : valM m o = some (k, x)) : placeM m o place ref = placeE (layM m x) x.w.length place ref := by unfold placeM; rw [h]
theorem placeM_none {m : MS} {o place : Int} {ref : Bool} (h : valM m o = none) : placeM m o place ref = 8 := by unfold placeM; rw [h]

theorem MobOK_cut {ls : List Lay} {n : Nat} {x : Mob} (h : MobOK ls n x) (j kd t : Nat) (hk : kd = 2 → t < n) : MobOK ls n { x with kind := x.kind.set j kd, to := x.to.set j t } := by
  obtain ⟨a, b, c, d, e⟩ := h
  refine ⟨a, b, by show (x.kind.set j kd).length = _; rw [List.length_set]; exact c, by show (x.to.set j t).length = _; rw [List.length_set]; exact d, ?_⟩
  intro i (hi : (x.kind.set j kd)[i]? = some 2)
  show (x.to.set j t).getD i 0 < n
  by_cases hji : j = i
  · subst hji
    have hl : j < x.kind.length := by
      have := (List.getElem?_eq_some_iff.1 hi).1
      simpa using this
    rw [List.getElem?_set_self hl] at hi
    injection hi with hi
    rw [List.getD_eq_getElem?_getD, List.getElem?_set_self (by omega)]
    exact hk hi
  · rw [List.getElem?_set_ne hji] at hi
    have := e i hi
    rw [List.getD_eq_getElem?_getD, List.getElem?_set_ne hji, ← List.getD_eq_getElem?_getD]
    exact this

def tieM (m : MS) (o place u : Int) : MS × Nat :=
  match valM m o with
  | none => (m, 8)
  | some (k, x) => if placeE (layM m x) x.w.length place true = 0 then match valM m u with
    | none => (m, 8)
    | some (ku, _) => (setM m k { x with kind := x.kind.set place.toNat 2, to := x.to.set place.toNat ku }, 0)
    else (m, placeE (layM m x) x.w.length place true)
end Go.Proofs.YtipelpbkeiphmaaGreatDoor
namespace Go.Proofs.YtipelpbkeiphmaaGreatDoor
open Go.SL

def ms0 : MS := ⟨[-1], [], []⟩
theorem New15_spec [Extra] {w : World} {fr : List HProp} (H : Holds w fr) : Calls Tryz.prog 23 #[] w (ret fun v w' => ∃ p, v = pp p ∧ Holds w' (MODEL p ms0 :: fr)) := by
  refine calls_of Tryz.func23 rfl (by kernel_rfl) ?_
  refine J122 H ?_
  refine Jc rfl rfl (dNew_spec H) ?_
  clear H; rintro v w ⟨t, rfl, H⟩
  refine J40 H ?_
  clear H; intro b3 w H
  refine J0 H ?_
  have H : Holds w (star (([] : List OC).map ocr) :: pts b3 (row 83 [pp t, .slice none 0 0, .slice none 0 0]) :: RTR t [-1] :: fr) := Holds.star.2 H
  have H := sls_nil (E := 118) (k := 1) H
  have H : Holds w (star (([] : List LyC).map bres) :: _) := Holds.star.2 H
  have H := sls_nil (E := 201) (k := 4) H
  replace H := Js [4,4,0,0,0,0] 0 H
  have hm : MWF ms0 := ⟨⟨by simp [ms0], by simp [ms0]⟩, ⟨by simp [ms0], fun l h => by cases h⟩, (fun l h => by cases h), by simp [ms0]⟩
  exact C_ret (Jy (MODEL_in (m := ms0) hm (lc := []) (oc := []) rfl rfl H) rfl fun w' H' => ⟨_, rfl, H'⟩)

/-- What Define leaves, and answers. -/
def defM (m : MS) (ws : List Nat) : MS × Nat × Nat :=
  match decodeL ws with
  | none => (m, 0, 4)
  | some l => if 64 ≤ m.lays.length then (m, 0, 5) else ({ m with lays := m.lays ++ [l] }, m.lays.length + 1, 0)
/-- What is wrong with an object that is to be made; how many words it has. -/
def mayM (m : MS) (region lay count : Int) : Nat × Nat :=
  if liveP m.P region = false then (0, 15) else if lay < 1 ∨ (m.lays.length : Int) < lay then (0, 6) else sizeL ((m.lays[lay.toNat - 1]?).getD ⟨0, [], 0, []⟩) count
end Go.Proofs.YtipelpbkeiphmaaGreatDoor
namespace Go.Proofs.YtipelpbkeiphmaaGreatDoor
open Go.SL

def newM (region lay count : Int) (n : Nat) : Mob := ⟨region.toNat, lay.toNat, count.toNat, List.replicate n 0, List.replicate n 0, List.replicate n 0, true, false, false⟩
def makeM (m : MS) (region lay count : Int) : MS := { m with objs := m.objs ++ [newM region lay count (mayM m region lay count).1] }
theorem mayM_ok {m : MS} {region lay count : Int} (h : (mayM m region lay count).2 = 0) : ∃ (r la c : Nat) (l : Lay), region = r ∧ lay = (la + 1 : Nat) ∧ count = c ∧ liveP m.P region = true ∧ m.lays[la]? = some l ∧ mayM m region lay count = sizeL l c ∧ sizeL l c = (l.fixed + c * l.record, 0) ∧ l.fixed + c * l.record < 8192 := by
  unfold mayM at h ⊢
  by_cases h1 : liveP m.P region = false
  · rw [if_pos h1] at h; cases h
  · rw [if_neg h1] at h ⊢
    by_cases h2 : lay < 1 ∨ (m.lays.length : Int) < lay
    · rw [if_pos h2] at h; cases h
    · rw [if_neg h2] at h ⊢
      have h3 : liveP m.P region = true := by simpa using h1
      have h4 : 0 < region := by
        unfold liveP at h3
        exact (of_decide_eq_true h3).1
      obtain ⟨la, rfl⟩ : ∃ la : Nat, lay = ((la + 1 : Nat) : Int) := ⟨lay.toNat - 1, by omega⟩
      have hla : la < m.lays.length := by omega
      have hl := List.getElem?_eq_getElem hla
      generalize m.lays[la] = l at hl
      rw [Int.toNat_natCast, Nat.add_sub_cancel, hl] at h ⊢
      replace h : (sizeL l count).2 = 0 := h
      unfold sizeL at h
      split at h
      · cases h
      · rename_i hc
        split at h
        · cases h
        · rename_i hs
          obtain ⟨c, rfl⟩ : ∃ c : Nat, count = c := ⟨count.toNat, by omega⟩
          rw [Int.toNat_natCast] at hs
          refine ⟨region.toNat, la, c, l, by omega, rfl, rfl, h3, hl, rfl, ?_, by omega⟩
          unfold sizeL
          rw [if_neg hc, Int.toNat_natCast, if_neg hs]
theorem MWF_make {m : MS} {region lay count : Int} (h : (mayM m region lay count).2 = 0) (hm : MWF m) (hf : m.objs.length < 100000) : MWF (makeM m region lay count) := by
  obtain ⟨r, la, c, l, rfl, rfl, rfl, hl, hla, hmay, hsz, hlt⟩ := mayM_ok h
  have hlen : (m.objs ++ [newM r ((la + 1 : Nat) : Int) c (mayM m r ((la + 1 : Nat) : Int) c).1]).length = m.objs.length + 1 := by simp
  refine ⟨hm.P, hm.lays, fun x hx => ?_, by show (m.objs ++ [_]).length ≤ _; rw [hlen]; omega⟩
  show MobOK m.lays (m.objs ++ [_]).length x
  rw [hlen]
  rcases List.mem_append.1 hx with hx | hx
  · obtain ⟨a, b, c, d, e⟩ := hm.objs x hx
    exact ⟨a, b, c, d, fun p hp => by have := e p hp; omega⟩
  · simp only [List.mem_singleton] at hx
    subst hx
    rw [hmay, hsz]
    refine ⟨⟨l, ?_, hm.lays.2 l (List.mem_of_getElem? hla), ?_⟩, ?_, rfl, rfl, ?_⟩
    · show m.lays[(((la + 1 : Nat) : Int).toNat) - 1]? = _
      rw [Int.toNat_natCast]; exact hla
    · show sizeL l ((((c : Nat) : Int).toNat : Nat) : Int) = ((List.replicate (l.fixed + c * l.record) 0).length, 0)
      rw [Int.toNat_natCast, hsz, List.length_replicate]
    · show 1 ≤ ((la + 1 : Nat) : Int).toNat
      omega
    · intro p hp
      have : (List.replicate (l.fixed + c * l.record) 0)[p]? = some 2 := hp
      rw [List.getElem?_replicate] at this
      split at this <;> cases this

end Go.Proofs.YtipelpbkeiphmaaGreatDoor
namespace Go.Proofs.YtipelpbkeiphmaaGreatDoor
open Go.SL

def tokL : Option (Nat × Nat) → Lnk
  | some (k, g) => .obj k g
  | none => .none
def lnkM (told : List (Nat × Nat)) (kd t : Nat) : Lnk := if kd = 2 then tokL told[t]? else if kd = 1 then .grave else .none
def layX (ls : List Lay) (i : Nat) : Lay := (ls[i - 1]?).getD ⟨0, [], 0, []⟩

/-- What a slot has, and what the document's object is. -/
structure Like (lays : List Lay) (told : List (Nat × Nat)) (e : Ent) (x : Mob) : Prop where
  region : e.region = x.region
  lay : e.lay = x.lay
  count : e.count = x.count
  held : e.held = x.held
  pinned : e.pinned = x.pinned
  len : e.ws.length = x.w.length
  ref : ∀ p, p < x.w.length → isRefL (layX lays x.lay) p = true → lnkOf (e.ws.getD p 0) = lnkM told (x.kind.getD p 0) (x.to.getD p 0)
  word : ∀ p, p < x.w.length → isRefL (layX lays x.lay) p = false → e.ws.getD p 0 = x.w.getD p 0
  kind : ∀ p, p < x.w.length → x.kind.getD p 0 ≠ 0 → isRefL (layX lays x.lay) p = true ∧ x.kind.getD p 0 ≤ 2
structure Rel (s : CS) (m : MS) (told : List (Nat × Nat)) : Prop where
  len : told.length = m.objs.length
  lays : s.lays = m.lays
  tree : ∀ (r q : Int), (r, q) ∈ s.par ↔ ∃ k : Nat, r = k ∧ 1 ≤ k ∧ m.P[k]? = some q ∧ 0 ≤ q
  nd : (s.par.map (·.1)).Nodup
  last : s.last + 1 = m.P.length
  obj : ∀ (o : Nat) (x : Mob) (k g : Nat), m.objs[o]? = some x → told[o]? = some (k, g) → x.gone = false → ∃ e, s.tab[k]? = some ⟨g, some e⟩ ∧ Like m.lays told e x
  gone : ∀ (o : Nat) (x : Mob) (k g : Nat), m.objs[o]? = some x → told[o]? = some (k, g) → x.gone = true → ∀ e, s.tab[k]? ≠ some ⟨g, some e⟩
  used : ∀ (k g : Nat) (e : Ent), s.tab[k]? = some ⟨g, some e⟩ → ∃ o : Nat, told[o]? = some (k, g)
  gens : ∀ (o k g : Nat), told[o]? = some (k, g) → ∃ t, s.tab[k]? = some t ∧ g ≤ t.gen
  nodup : told.Nodup
/-- The same, but for what slots are used beside. -/
structure RelW (s : CS) (m : MS) (told : List (Nat × Nat)) : Prop where
  len : told.length = m.objs.length
  lays : s.lays = m.lays
  tree : ∀ (r q : Int), (r, q) ∈ s.par ↔ ∃ k : Nat, r = k ∧ 1 ≤ k ∧ m.P[k]? = some q ∧ 0 ≤ q
  nd : (s.par.map (·.1)).Nodup
  obj : ∀ (o : Nat) (x : Mob) (k g : Nat), m.objs[o]? = some x → told[o]? = some (k, g) → x.gone = false → ∃ e, s.tab[k]? = some ⟨g, some e⟩ ∧ Like m.lays told e x
  gone : ∀ (o : Nat) (x : Mob) (k g : Nat), m.objs[o]? = some x → told[o]? = some (k, g) → x.gone = true → ∀ e, s.tab[k]? ≠ some ⟨g, some e⟩
theorem Rel.w {s : CS} {m : MS} {told : List (Nat × Nat)} (R : Rel s m told) : RelW s m told := ⟨R.len, R.lays, R.tree, R.nd, R.obj, R.gone⟩

theorem nd_at {α : Type} {l : List α} (h : l.Nodup) {i j : Nat} {a : α} (hi : l[i]? = some a) (hj : l[j]? = some a) : i = j := by
  have h1 := (List.getElem?_eq_some_iff.1 hi)
  have h2 := (List.getElem?_eq_some_iff.1 hj)
  obtain ⟨a1, b1⟩ := h1
  obtain ⟨a2, b2⟩ := h2
  have h3 := List.pairwise_iff_getElem.1 h
  rcases Nat.lt_trichotomy i j with h4 | h4 | h4
  · exact absurd (b1.trans b2.symm) (h3 i j a1 a2 h4)
  · exact h4
  · exact absurd (b2.trans b1.symm) (h3 j i a2 a1 h4)

theorem Rel_set {s : CS} {m : MS} {told : List (Nat × Nat)} (R : Rel s m told) {n k g : Nat} {e e' : Ent} {x x' : Mob} (ht : told[n]? = some (k, g)) (hk : s.tab[k]? = some ⟨g, some e⟩) (hx : m.objs[n]? = some x) (hg : x.gone = false) (hg' : x'.gone = false) (hl : Like m.lays told e' x') (rem : List ((Int × Int) × Int)) :
    Rel { setE s k g e' with rem := rem } (setM m n x') told := by
  have hnl := (List.getElem?_eq_some_iff.1 hx).1
  have hkl := (List.getElem?_eq_some_iff.1 hk).1
  refine ⟨by show told.length = (m.objs.set n x').length; rw [List.length_set]; exact R.len, R.lays, R.tree, R.nd, R.last, ?_, ?_, ?_, ?_, R.nodup⟩
  · intro o x0 k0 g0 (hx0 : (m.objs.set n x')[o]? = some x0) ht0 hg0
    by_cases hon : n = o
    · subst hon
      rw [List.getElem?_set_self hnl] at hx0
      injection hx0 with hx0
      subst hx0
      rw [ht] at ht0
      injection ht0 with h1
      injection h1 with h1 h2
      subst h1 h2
      exact ⟨e', by show (s.tab.set k _)[k]? = _; rw [List.getElem?_set_self hkl], hl⟩
    · rw [List.getElem?_set_ne hon] at hx0
      obtain ⟨e0, h1, h2⟩ := R.obj o x0 k0 g0 hx0 ht0 hg0
      refine ⟨e0, ?_, h2⟩
      show (s.tab.set k _)[k0]? = _
      by_cases hkk : k = k0
      · subst hkk
        rw [hk] at h1
        injection h1 with h1
        injection h1 with h1 _
        subst h1
        exact absurd (nd_at R.nodup ht ht0) hon
      · rw [List.getElem?_set_ne hkk]; exact h1
  · intro o x0 k0 g0 (hx0 : (m.objs.set n x')[o]? = some x0) ht0 hg0 e0 (h1 : (s.tab.set k _)[k0]? = _)
    by_cases hon : n = o
    · subst hon
      rw [List.getElem?_set_self hnl] at hx0
      injection hx0 with hx0
      subst hx0
      rw [hg'] at hg0
      cases hg0
    · rw [List.getElem?_set_ne hon] at hx0
      rcases tab_set h1 with ⟨rfl, h2, _⟩ | ⟨_, h2⟩
      · injection h2 with h2 _
        subst h2
        exact hon (nd_at R.nodup ht ht0)
      · exact R.gone o x0 k0 g0 hx0 ht0 hg0 e0 h2
  · intro k0 g0 e0 (h1 : (s.tab.set k _)[k0]? = _)
    rcases tab_set h1 with ⟨rfl, h2, _⟩ | ⟨_, h2⟩
    · injection h2 with h2 _
      subst h2
      exact ⟨n, ht⟩
    · exact R.used k0 g0 e0 h2
  · intro o k0 g0 ht0
    obtain ⟨t, h1, h2⟩ := R.gens o k0 g0 ht0
    show ∃ t, (s.tab.set k _)[k0]? = some t ∧ _
    by_cases hkk : k = k0
    · subst hkk
      rw [hk] at h1
      injection h1 with h1
      subst h1
      exact ⟨_, List.getElem?_set_self hkl, h2⟩
    · exact ⟨t, by rw [List.getElem?_set_ne hkk]; exact h1, h2⟩
/-- What pick answers. -/
def Pick (told : List (Nat × Nat)) (i g o : Int) : Prop := (∃ k gg n : Nat, i = k ∧ g = gg ∧ o = n ∧ told[n]? = some (k, gg)) ∨ (o = -1 ∧ ∀ (k gg n : Nat), i = k → g = gg → told[n]? ≠ some (k, gg))
/-- A token is valid on both sides, or on neither. -/
@[reducible] def Vd (s : CS) (m : MS) (told : List (Nat × Nat)) (i g o : Int) : Prop := (validT s.tab i g = none ∧ valM m o = none) ∨
    ∃ (k gg n : Nat) (e : Ent) (x : Mob), i = k ∧ g = gg ∧ o = n ∧ told[n]? = some (k, gg) ∧ s.tab[k]? = some ⟨gg, some e⟩ ∧ m.objs[n]? = some x ∧ x.gone = false ∧ Like m.lays told e x ∧ validT s.tab i g = some (k, e) ∧ valM m o = some (n, x)
theorem rel_validW {s : CS} {m : MS} {told : List (Nat × Nat)} (R : RelW s m told) {k gg n : Nat} (ht : told[n]? = some (k, gg)) : Vd s m told k gg n := by
  have hnl : n < m.objs.length := by rw [← R.len]; exact (List.getElem?_eq_some_iff.1 ht).1
  have hx := List.getElem?_eq_getElem hnl
  generalize m.objs[n] = x at hx
  cases hg : x.gone with
  | true =>
    left
    constructor
    · cases hv : validT s.tab k gg with
      | none => rfl
      | some q =>
        obtain ⟨k', e⟩ := q
        obtain ⟨n', h1, h2, h3⟩ := lookT_some.1 (validT_some.1 hv).1
        obtain rfl : k = k' := by omega
        obtain rfl : gg = n' := by omega
        exact absurd h3 (R.gone n x k gg hx ht hg e)
    · rw [valM_nat, hx]
      simp [hg]
  | false =>
    obtain ⟨e, he, hl⟩ := R.obj n x k gg hx ht hg
    have hlk : lookT s.tab k gg = some (k, e) := lookT_some.2 ⟨gg, rfl, rfl, he⟩
    cases hh : x.held with
    | true =>
      right
      refine ⟨k, gg, n, e, x, rfl, rfl, rfl, ht, he, hx, hg, hl, validT_some.2 ⟨hlk, by rw [hl.held, hh]⟩, ?_⟩
      rw [valM_nat, hx]
      simp [hg, hh]
    | false =>
      left
      constructor
      · cases hv : validT s.tab k gg with
        | none => rfl
        | some q =>
          obtain ⟨k', e'⟩ := q
          obtain ⟨h1, h2⟩ := validT_some.1 hv
          rw [hlk] at h1
          injection h1 with h1
          injection h1 with h1 h3
          subst h3
          rw [hl.held, hh] at h2
          cases h2
      · rw [valM_nat, hx]
        simp [hh]
theorem rel_valid {s : CS} {m : MS} {told : List (Nat × Nat)} (R : Rel s m told) {i g o : Int} (P : Pick told i g o) : Vd s m told i g o := by
  rcases P with ⟨k, gg, n, rfl, rfl, rfl, ht⟩ | ⟨rfl, hno⟩
  · exact rel_validW R.w ht
  · left
    refine ⟨?_, rfl⟩
    cases hv : validT s.tab i g with
    | none => rfl
    | some q =>
      obtain ⟨k, e⟩ := q
      obtain ⟨n', h1, h2, h3⟩ := lookT_some.1 (validT_some.1 hv).1
      obtain ⟨o, ho⟩ := R.used k n' e h3
      exact absurd ho (hno k n' o h1 h2)
theorem lay_same {s : CS} {m : MS} {told : List (Nat × Nat)} (R : RelW s m told) {e : Ent} {x : Mob} (h : Like m.lays told e x) : layE s e = layM m x := by
  unfold layE layM
  rw [R.lays, h.lay]
end Go.Proofs.YtipelpbkeiphmaaGreatDoor
namespace Go.Proofs.YtipelpbkeiphmaaGreatDoor
open Go.SL

theorem getD_set {α : Type} {l : List α} {i j : Nat} {a d : α} (h : i < l.length) : (l.set i a).getD j d = if i = j then a else l.getD j d := by
  rw [List.getD_eq_getElem?_getD, List.getD_eq_getElem?_getD, List.getElem?_set]
  split
  · rename_i hij; subst hij; simp [h]
  · rfl

theorem look_lawV {s : CS} {m : MS} {told : List (Nat × Nat)} (R : RelW s m told) {i g o : Int} (V : Vd s m told i g o) (place : Int) :
    (placeM m o place true ≠ 0 ∧ lookL s i g place = (.none, placeM m o place true)) ∨ (placeM m o place true = 0 ∧ ∃ (n j : Nat) (x : Mob), o = n ∧ place = j ∧ m.objs[n]? = some x ∧ valM m o = some (n, x) ∧ j < x.w.length ∧ isRefL (layX m.lays x.lay) j = true ∧ x.kind.getD j 0 ≤ 2 ∧ lookL s i g place = (lnkM told (x.kind.getD j 0) (x.to.getD j 0), 0)) := by
  rcases V with ⟨h1, h2⟩ | ⟨k, gg, n, e, x, rfl, rfl, rfl, ht, hk, hx, hg, hl, h1, h2⟩
  · left
    rw [placeM_none h2, lookL_none h1]
    exact ⟨by omega, rfl⟩
  · rw [placeM_some h2, lookL_some h1, lay_same R hl, hl.len]
    by_cases h0 : placeE (layM m x) x.w.length place true = 0
    · right
      obtain ⟨j, rfl, hj, hr⟩ := placeE_ok h0
      refine ⟨h0, n, j, x, rfl, rfl, hx, h2, hj, hr, ?_, ?_⟩
      · by_cases hz : x.kind.getD j 0 = 0
        · omega
        · exact (hl.kind j hj hz).2
      · rw [if_pos h0, Int.toNat_natCast, hl.ref j hj hr]
    · left
      exact ⟨h0, by rw [if_neg h0]⟩

theorem look_law {s : CS} {m : MS} {told : List (Nat × Nat)} (R : Rel s m told) {i g o : Int} (P : Pick told i g o) (place : Int) :
    (placeM m o place true ≠ 0 ∧ lookL s i g place = (.none, placeM m o place true)) ∨ (placeM m o place true = 0 ∧ ∃ (n j : Nat) (x : Mob), o = n ∧ place = j ∧ m.objs[n]? = some x ∧ valM m o = some (n, x) ∧ j < x.w.length ∧ isRefL (layX m.lays x.lay) j = true ∧ x.kind.getD j 0 ≤ 2 ∧ lookL s i g place = (lnkM told (x.kind.getD j 0) (x.to.getD j 0), 0)) := look_lawV R.w (rel_valid R P) place
theorem Like_tie {ls : List Lay} {told : List (Nat × Nat)} {e : Ent} {x : Mob} {n : Nat} (h : Like ls told e x) (hm : MobOK ls n x) {j : Nat} (hj : j < x.w.length) (hr : isRefL (layX ls x.lay) j = true) (kd t : Nat) (hkd : kd ≤ 2) (W : Nat) (hW : lnkOf W = lnkM told kd t) : Like ls told { e with ws := e.ws.set j W } { x with kind := x.kind.set j kd, to := x.to.set j t } := by
  refine ⟨h.region, h.lay, h.count, h.held, h.pinned, by simp [h.len], ?_, ?_, ?_⟩
  · intro p hp hr'
    show lnkOf ((e.ws.set j W).getD p 0) = lnkM told ((x.kind.set j kd).getD p 0) ((x.to.set j t).getD p 0)
    rw [getD_set (by rw [h.len]; exact hj), getD_set (by rw [hm.kind]; exact hj), getD_set (by rw [hm.to]; exact hj)]
    split
    · exact hW
    · exact h.ref p hp hr'
  · intro p hp hr'
    show (e.ws.set j W).getD p 0 = x.w.getD p 0
    rw [getD_set (by rw [h.len]; exact hj), if_neg (by rintro rfl; exact absurd (hr.symm.trans hr') (by decide))]
    exact h.word p hp hr'
  · intro p hp (hn : (x.kind.set j kd).getD p 0 ≠ 0)
    show _ ∧ (x.kind.set j kd).getD p 0 ≤ 2
    rw [getD_set (by rw [hm.kind]; exact hj)] at hn ⊢
    by_cases hjp : j = p
    · subst hjp
      rw [if_pos rfl]
      exact ⟨hr, hkd⟩
    · rw [if_neg hjp] at hn ⊢
      exact h.kind p hp hn

theorem tie_law {s : CS} {m : MS} {told : List (Nat × Nat)} (R : Rel s m told) (hw : WF s) (hm : MWF m) {i g o u v q : Int} (P : Pick told i g o) (Q : Pick told u v q) (place : Int) :
    (TieS s i g place u v).2 = (tieM m o place q).2 ∧ Rel (TieS s i g place u v).1 (tieM m o place q).1 told := by
  rcases rel_valid R P with ⟨h1, h2⟩ | ⟨k, gg, n, e, x, rfl, rfl, rfl, ht, hk, hx, hg, hl, h1, h2⟩
  · have h3 : tieM m o place q = (m, 8) := by unfold tieM; rw [h2]
    have h4 : TieS s i g place u v = (s, 8) := by unfold TieS; rw [lookL_none h1]; rw [if_pos (by decide)]
    rw [h3, h4]
    exact ⟨rfl, R⟩
  · by_cases h0 : placeE (layM m x) x.w.length place true = 0
    · have hz : (lookL s k gg place).2 = 0 := by rw [lookL_some h1, lay_same R.w hl, hl.len, if_pos h0]
      rcases rel_valid R Q with ⟨h3, h4⟩ | ⟨k', gg', n', e', x', rfl, rfl, rfl, ht', hk', hx', hg', hl', h3, h4⟩
      · have h5 : tieM m n place q = (m, 8) := by unfold tieM; rw [h2]; show (if placeE _ _ _ _ = 0 then _ else _) = _; rw [if_pos h0, h4]
        have h6 : TieS s k gg place u v = (s, 8) := by unfold TieS; rw [hz, if_neg (by decide), h3]; rfl
        rw [h5, h6]
        exact ⟨rfl, R⟩
      · have h5 : tieM m n place n' = (setM m n { x with kind := x.kind.set place.toNat 2, to := x.to.set place.toNat n' }, 0) := by unfold tieM; rw [h2]; show (if placeE _ _ _ _ = 0 then _ else _) = _; rw [if_pos h0, h4]
        have h6 : TieS s k gg place k' gg' = tieS s k gg place (.obj k' gg') := by unfold TieS; rw [hz, if_neg (by decide), h3]; rfl
        rw [h5, h6, tieS_some h1, lay_same R.w hl, hl.len, if_pos h0]
        obtain ⟨j, rfl, hj, hr⟩ := placeE_ok h0
        rw [Int.toNat_natCast, Int.toNat_natCast]
        have hok := okT_of hw hk'
        exact ⟨rfl, Rel_set R ht hk hx hg (by exact hg) (Like_tie hl (hm.objs x (List.mem_of_getElem? hx)) hj hr 2 n' (by omega) _ (by rw [lnkOf_obj hok.1]; unfold lnkM; rw [if_pos rfl, ht']; rfl)) _⟩
    · have hz : lookL s k gg place = (.none, placeE (layM m x) x.w.length place true) := by rw [lookL_some h1, lay_same R.w hl, hl.len, if_neg h0]
      have h5 : tieM m n place q = (m, placeE (layM m x) x.w.length place true) := by unfold tieM; rw [h2]; show (if placeE _ _ _ _ = 0 then _ else _) = _; rw [if_neg h0]
      have h6 : TieS s k gg place u v = (s, placeE (layM m x) x.w.length place true) := by unfold TieS; rw [hz, if_pos h0]
      rw [h5, h6]
      exact ⟨rfl, R⟩

end Go.Proofs.YtipelpbkeiphmaaGreatDoor
namespace Go.Proofs.YtipelpbkeiphmaaGreatDoor
open Go.SL

theorem live_law {s : CS} {m : MS} {told : List (Nat × Nat)} (R : Rel s m told) (id : Int) : (fnd s.par id).isSome = liveP m.P id := by
  unfold liveP
  cases hf : fnd s.par id with
  | some q =>
    obtain ⟨k, rfl, h1, h2, h3⟩ := (R.tree id q).1 (fnd_mem hf)
    have h4 := (List.getElem?_eq_some_iff.1 h2).1
    symm
    show decide _ = true
    rw [decide_eq_true]
    refine ⟨by omega, by omega, ?_⟩
    rw [Int.toNat_natCast, List.getD_eq_getElem?_getD, h2]
    exact h3
  | none =>
    symm
    show decide _ = false
    rw [decide_eq_false]
    rintro ⟨h1, h2, h3⟩
    obtain ⟨k, rfl⟩ : ∃ k : Nat, id = k := ⟨id.toNat, by omega⟩
    have hk : k < m.P.length := by omega
    have h4 := List.getElem?_eq_getElem hk
    rw [Int.toNat_natCast, List.getD_eq_getElem?_getD, h4] at h3
    have h5 := (R.tree k m.P[k]).2 ⟨k, rfl, by omega, h4, h3⟩
    rw [(fnd_iff R.nd).2 h5] at hf
    cases hf
theorem open_rel {s : CS} {m : MS} {told : List (Nat × Nat)} (R : Rel s m told) {parent : Int} (h : dErr m.P parent = 0) (b b2 : Nat) : Rel (openS s parent b b2) { m with P := m.P ++ [parent] } told := by
  have hp : 0 ≤ parent := by
    unfold dErr at h
    split at h
    · cases h
    · rename_i hn
      by_cases h0 : parent = 0
      · omega
      · have : liveP m.P parent = true := by
          cases hl : liveP m.P parent with
          | true => rfl
          | false => exact absurd ⟨h0, hl⟩ hn
        unfold liveP at this
        have := of_decide_eq_true this
        omega
  have hl := R.last
  refine ⟨R.len, R.lays, ?_, ?_, ?_, R.obj, R.gone, R.used, R.gens, R.nodup⟩
  · intro r q
    show (r, q) ∈ s.par ++ [(((s.last + 1 : Nat) : Int), parent)] ↔ ∃ k : Nat, r = k ∧ 1 ≤ k ∧ (m.P ++ [parent])[k]? = some q ∧ 0 ≤ q
    rw [List.mem_append, R.tree r q]
    constructor
    · rintro (⟨k, rfl, a, b, c⟩ | h)
      · exact ⟨k, rfl, a, by rw [List.getElem?_append_left (List.getElem?_eq_some_iff.1 b).1]; exact b, c⟩
      · simp only [List.mem_singleton] at h
        injection h with h1 h2
        subst h1 h2
        exact ⟨s.last + 1, rfl, by omega, by rw [hl, List.getElem?_append_right (Nat.le_refl _), Nat.sub_self]; rfl, hp⟩
    · rintro ⟨k, rfl, a, b, c⟩
      by_cases hk : k < m.P.length
      · rw [List.getElem?_append_left hk] at b
        exact .inl ⟨k, rfl, a, b, c⟩
      · right
        have hk2 := (List.getElem?_eq_some_iff.1 b).1
        simp at hk2
        obtain rfl : k = m.P.length := by omega
        rw [List.getElem?_append_right (Nat.le_refl _), Nat.sub_self] at b
        injection b with b
        simp only [List.mem_singleton]
        rw [hl, ← b]
  · show ((s.par ++ [(((s.last + 1 : Nat) : Int), parent)]).map (·.1)).Nodup
    rw [List.map_append]
    refine List.nodup_append.2 ⟨R.nd, by simp, ?_⟩
    intro a ha b hb
    simp only [List.map_cons, List.map_nil, List.mem_singleton] at hb
    subst hb
    obtain ⟨⟨r, q⟩, hq, rfl⟩ := List.mem_map.1 ha
    obtain ⟨k, h1, _, h2, _⟩ := (R.tree r q).1 hq
    have := (List.getElem?_eq_some_iff.1 h2).1
    intro h3
    have h4 : r = ((s.last + 1 : Nat) : Int) := h3
    omega
  · show s.last + 1 + 1 = (m.P ++ [parent]).length
    simp; omega

theorem layX_app {ls : List Lay} {l : Lay} {i : Nat} (h : i - 1 < ls.length) : layX (ls ++ [l]) i = layX ls i := by
  unfold layX
  rw [List.getElem?_append_left h]
theorem Like_lays {ls : List Lay} {told : List (Nat × Nat)} {e : Ent} {x : Mob} (h : Like ls told e x) {l : Lay} (hi : x.lay - 1 < ls.length) : Like (ls ++ [l]) told e x := by
  refine ⟨h.region, h.lay, h.count, h.held, h.pinned, h.len, ?_, ?_, ?_⟩
  · rw [layX_app hi]; exact h.ref
  · rw [layX_app hi]; exact h.word
  · rw [layX_app hi]; exact h.kind
theorem def_law {s : CS} {m : MS} {told : List (Nat × Nat)} (R : Rel s m told) (hm : MWF m) (ws : List Nat) : (defS s ws).2 = (defM m ws).2 ∧ Rel (defS s ws).1 (defM m ws).1 told := by
  cases hd : decodeL ws with
  | none =>
    have h1 : defM m ws = (m, 0, 4) := by unfold defM; rw [hd]
    rw [h1, defS_none hd]
    exact ⟨rfl, R⟩
  | some l =>
    have h1 : defM m ws = if 64 ≤ m.lays.length then (m, 0, 5) else ({ m with lays := m.lays ++ [l] }, m.lays.length + 1, 0) := by unfold defM; rw [hd]
    rw [h1, defS_some hd, R.lays]
    have := hm.lays.1
    by_cases h64 : m.lays.length = 64
    · rw [if_pos h64, if_pos (by omega)]
      exact ⟨rfl, R⟩
    · rw [if_neg h64, if_neg (by omega)]
      refine ⟨rfl, R.len, rfl, R.tree, R.nd, R.last, ?_, R.gone, R.used, R.gens, R.nodup⟩
      intro o x k g hx ht hg
      obtain ⟨e, h1, h2⟩ := R.obj o x k g hx ht hg
      have hmo := hm.objs x (List.mem_of_getElem? hx)
      obtain ⟨l', h3, _⟩ := hmo.lay
      exact ⟨e, h1, Like_lays h2 (List.getElem?_eq_some_iff.1 h3).1⟩

theorem may_law {s : CS} {m : MS} {told : List (Nat × Nat)} (R : Rel s m told) (region id count : Int) : makeE s region id count = (mayM m region id count).2 ∧ ((mayM m region id count).2 = 0 → makeN s id count = (mayM m region id count).1) := by
  unfold makeE makeN mayM layI
  rw [live_law R, R.lays]
  by_cases h1 : liveP m.P region = false
  · rw [if_pos h1, if_pos h1]
    exact ⟨rfl, fun h => by cases h⟩
  · rw [if_neg h1, if_neg h1]
    by_cases h2 : id < 1 ∨ (m.lays.length : Int) < id
    · rw [if_pos h2, if_pos h2]
      exact ⟨rfl, fun h => by cases h⟩
    · rw [if_neg h2, if_neg h2]
      exact ⟨rfl, fun _ => rfl⟩

theorem Like_told {ls : List Lay} {told : List (Nat × Nat)} {e : Ent} {x : Mob} (h : Like ls told e x) {t : Nat × Nat} (hx : ∀ p, x.kind[p]? = some 2 → x.to.getD p 0 < told.length) : Like ls (told ++ [t]) e x := by
  refine ⟨h.region, h.lay, h.count, h.held, h.pinned, h.len, ?_, h.word, h.kind⟩
  intro p hp hr
  rw [h.ref p hp hr]
  unfold lnkM
  by_cases h2 : x.kind.getD p 0 = 2
  · rw [if_pos h2, if_pos h2]
    have h3 : x.kind[p]? = some 2 := by
      rw [List.getD_eq_getElem?_getD] at h2
      cases hk : x.kind[p]? with
      | none => rw [hk] at h2; cases h2
      | some q => rw [hk] at h2; exact congrArg some h2
    rw [List.getElem?_append_left (hx p h3)]
  · rw [if_neg h2, if_neg h2]
theorem rep_get (n p : Nat) : (List.replicate n 0).getD p 0 = 0 := by
  rw [List.getD_eq_getElem?_getD, List.getElem?_replicate]
  split <;> rfl
theorem make_rel {s s' : CS} {m : MS} {told : List (Nat × Nat)} (R : Rel s m told) (hm : MWF m) {region id count : Int} (hmay : (mayM m region id count).2 = 0) {k g0 addr : Nat} (hk : s.tab[k]? = some ⟨g0, none⟩)
    (e1 : s'.lays = s.lays) (e2 : s'.last = s.last) (e3 : s'.par = s.par) (e4 : s'.tab = s.tab.set k ⟨g0 + 1, some ⟨addr, region, true, false, id.toNat, count.toNat, List.replicate (makeN s id count) 0⟩⟩) :
    (∀ n : Nat, told[n]? ≠ some (k, g0 + 1)) ∧ Rel s' (makeM m region id count) (told ++ [(k, g0 + 1)]) := by
  have hkl := (List.getElem?_eq_some_iff.1 hk).1
  have hn : makeN s id count = (mayM m region id count).1 := (may_law R region id count).2 hmay
  have hr : makeM m region id count = { m with objs := m.objs ++ [newM region id count (mayM m region id count).1] } := rfl
  have hreg : region = (region.toNat : Int) := by
    obtain ⟨r, la, c, l, rfl, _⟩ := mayM_ok hmay
    rfl
  have hnew : ∀ n : Nat, told[n]? ≠ some (k, g0 + 1) := by
    intro n hn
    obtain ⟨t, h1, h2⟩ := R.gens n k (g0 + 1) hn
    rw [hk] at h1
    injection h1 with h1
    subst h1
    have h2 : g0 + 1 ≤ g0 := h2
    omega
  refine ⟨hnew, ?_⟩
  rw [hr]
  have hne : ∀ (o k0 g : Nat) (e : Ent), s.tab[k0]? = some ⟨g, some e⟩ → k ≠ k0 := by
    rintro o k0 g e h rfl
    rw [hk] at h
    injection h with h
    injection h with _ h
    cases h
  refine ⟨by show (told ++ [_]).length = (m.objs ++ [_]).length; rw [List.length_append, List.length_append, R.len]; rfl, by rw [e1]; exact R.lays, by rw [e3]; exact R.tree, by rw [e3]; exact R.nd, by rw [e2]; exact R.last, ?_, ?_, ?_, ?_, ?_⟩
  · intro o x k0 g (hx : (m.objs ++ [newM region id count (mayM m region id count).1])[o]? = some x) ht hg
    by_cases ho : o < m.objs.length
    · rw [List.getElem?_append_left ho] at hx
      rw [List.getElem?_append_left (by rw [R.len]; exact ho)] at ht
      obtain ⟨e, h1, h2⟩ := R.obj o x k0 g hx ht hg
      refine ⟨e, ?_, Like_told h2 (by rw [R.len]; exact (hm.objs x (List.mem_of_getElem? hx)).goes)⟩
      rw [e4, List.getElem?_set_ne (hne o k0 g e h1)]
      exact h1
    · have hol := (List.getElem?_eq_some_iff.1 hx).1
      rw [List.length_append] at hol
      obtain rfl : o = m.objs.length := by simp at hol; omega
      rw [List.getElem?_append_right (Nat.le_refl _), Nat.sub_self] at hx
      rw [← R.len, List.getElem?_append_right (Nat.le_refl _), Nat.sub_self] at ht
      injection hx with hx
      injection ht with ht
      injection ht with h1 h2
      subst hx h1 h2
      refine ⟨_, by rw [e4, List.getElem?_set_self hkl], ?_⟩
      rw [hn]
      refine ⟨hreg, rfl, rfl, rfl, rfl, rfl, ?_, ?_, ?_⟩
      · intro p hp _
        show lnkOf ((List.replicate _ 0).getD p 0) = lnkM _ ((List.replicate _ 0).getD p 0) ((List.replicate _ 0).getD p 0)
        rw [rep_get]
        rfl
      · intro p hp _
        rfl
      · intro p hp (hk : (List.replicate _ 0).getD p 0 ≠ 0)
        exact absurd (rep_get _ p) hk
  · intro o x k0 g (hx : (m.objs ++ [newM region id count (mayM m region id count).1])[o]? = some x) ht hg
    by_cases ho : o < m.objs.length
    · rw [List.getElem?_append_left ho] at hx
      rw [List.getElem?_append_left (by rw [R.len]; exact ho)] at ht
      intro e h1
      rw [e4] at h1
      rcases tab_set h1 with ⟨rfl, h2, _⟩ | ⟨_, h2⟩
      · injection h2 with h2 _
        subst h2
        exact hnew o ht
      · exact R.gone o x k0 g hx ht hg e h2
    · have hol := (List.getElem?_eq_some_iff.1 hx).1
      rw [List.length_append] at hol
      obtain rfl : o = m.objs.length := by simp at hol; omega
      rw [List.getElem?_append_right (Nat.le_refl _), Nat.sub_self] at hx
      injection hx with hx
      subst hx
      cases hg
  · intro k0 g e h1
    rw [e4] at h1
    rcases tab_set h1 with ⟨rfl, h2, _⟩ | ⟨_, h2⟩
    · injection h2 with h2 _
      subst h2
      exact ⟨told.length, by rw [List.getElem?_append_right (Nat.le_refl _), Nat.sub_self]; rfl⟩
    · obtain ⟨o, ho⟩ := R.used k0 g e h2
      exact ⟨o, by rw [List.getElem?_append_left (List.getElem?_eq_some_iff.1 ho).1]; exact ho⟩
  · intro o k0 g ht
    rw [e4]
    by_cases ho : o < told.length
    · rw [List.getElem?_append_left ho] at ht
      obtain ⟨t, h1, h2⟩ := R.gens o k0 g ht
      by_cases hkk : k = k0
      · subst hkk
        rw [hk] at h1
        injection h1 with h1
        subst h1
        exact ⟨_, List.getElem?_set_self hkl, by show g ≤ g0 + 1; have h2 : g ≤ g0 := h2; omega⟩
      · exact ⟨t, by rw [List.getElem?_set_ne hkk]; exact h1, h2⟩
    · have hol := (List.getElem?_eq_some_iff.1 ht).1
      rw [List.length_append] at hol
      obtain rfl : o = told.length := by simp at hol; omega
      rw [List.getElem?_append_right (Nat.le_refl _), Nat.sub_self] at ht
      injection ht with ht
      injection ht with h1 h2
      subst h1 h2
      exact ⟨_, List.getElem?_set_self hkl, Nat.le_refl _⟩
  · refine List.nodup_append.2 ⟨R.nodup, by simp, ?_⟩
    intro a ha b hb
    simp only [List.mem_singleton] at hb
    subst hb
    rintro rfl
    obtain ⟨n, h⟩ := List.mem_iff_getElem?.1 ha
    exact hnew n h
end Go.Proofs.YtipelpbkeiphmaaGreatDoor
namespace Go.Proofs.YtipelpbkeiphmaaGreatDoor
open Go.SL

def hitE (objs : List Mob) (k t : Nat) : Bool := k == 2 && ((objs[t]?).map Mob.gone).getD false
def graveM (objs : List Mob) (x : Mob) : Mob := { x with kind := (x.kind.zip x.to).map (fun y => if hitE objs y.1 y.2 = true then 1 else y.1), to := (x.kind.zip x.to).map (fun y => if hitE objs y.1 y.2 = true then 0 else y.2) }
def goneM (L : List Nat) (x : Mob) : Mob := if x.region ∈ L then { x with gone := true } else x
def freeP (P : List Int) (L : List Nat) : List Int := P.mapIdx fun k q => if k ∈ L then -1 else q
def freeM (m : MS) (L : List Nat) : MS := { m with P := freeP m.P L, objs := (m.objs.map (goneM L)).map (graveM (m.objs.map (goneM L))) }

theorem grave_get {objs : List Mob} {x : Mob} (h : x.kind.length = x.to.length) {p : Nat} (hp : p < x.kind.length) : (graveM objs x).kind.getD p 0 = (if hitE objs (x.kind.getD p 0) (x.to.getD p 0) = true then 1 else x.kind.getD p 0) ∧ (graveM objs x).to.getD p 0 = (if hitE objs (x.kind.getD p 0) (x.to.getD p 0) = true then 0 else x.to.getD p 0) := by
  have h1 := List.getElem?_eq_getElem hp
  have h2 := List.getElem?_eq_getElem (show p < x.to.length by omega)
  have hz : (x.kind.zip x.to)[p]? = some (x.kind[p], x.to[p]'(by omega)) := List.getElem?_zip_eq_some.2 ⟨h1, h2⟩
  unfold graveM
  simp only [List.getD_eq_getElem?_getD, List.getElem?_map, hz, h1, h2, Option.map_some, Option.getD_some]
  exact ⟨trivial, trivial⟩
theorem goneM_gone {L : List Nat} {x : Mob} : (goneM L x).gone = true ↔ x.gone = true ∨ x.region ∈ L := by
  unfold goneM
  by_cases h : x.region ∈ L
  · rw [if_pos h]
    exact ⟨fun _ => .inr h, fun _ => rfl⟩
  · rw [if_neg h]
    exact ⟨.inl, fun h1 => h1.elim id fun h2 => absurd h2 h⟩
theorem freeM_at {m : MS} {L : List Nat} {o : Nat} {x' : Mob} (h : (freeM m L).objs[o]? = some x') : ∃ x, m.objs[o]? = some x ∧ x' = graveM (m.objs.map (goneM L)) (goneM L x) := by
  have h : ((m.objs.map (goneM L)).map (graveM (m.objs.map (goneM L))))[o]? = some x' := h
  rw [List.getElem?_map, List.getElem?_map] at h
  cases hx : m.objs[o]? with
  | none => rw [hx] at h; cases h
  | some x =>
    rw [hx] at h
    injection h with h
    exact ⟨x, rfl, h.symm⟩
theorem hit_gone {m : MS} {L : List Nat} {k t : Nat} : hitE (m.objs.map (goneM L)) k t = true ↔ k = 2 ∧ ∃ x, m.objs[t]? = some x ∧ (x.gone = true ∨ x.region ∈ L) := by
  unfold hitE
  rw [Bool.and_eq_true, beq_iff_eq, List.getElem?_map]
  refine and_congr_right fun _ => ?_
  cases hx : m.objs[t]? with
  | none => exact ⟨fun h => (by cases h), fun ⟨x, h, _⟩ => (by cases h)⟩
  | some x =>
    show (goneM L x).gone = true ↔ _
    rw [goneM_gone]
    exact ⟨fun h => ⟨x, rfl, h⟩, fun ⟨y, h1, h2⟩ => (by injection h1 with h1; subst h1; exact h2)⟩
theorem freeP_get (P : List Int) (L : List Nat) (k : Nat) : (freeP P L)[k]? = (P[k]?).map fun q => if k ∈ L then -1 else q := by
  unfold freeP
  rw [List.getElem?_mapIdx]
theorem fnd_foldl_eraI : ∀ (ks : List Int) {m : List (Int × Int)}, (m.map (·.1)).Nodup → ∀ r, fnd (ks.foldl era m) r = if r ∈ ks then none else fnd m r
  | [], m, h, r => by rw [if_neg (by simp)]; rfl
  | k :: ks, m, h, r => by
    show fnd (ks.foldl era (era m k)) r = _
    rw [fnd_foldl_eraI ks (nodup_era h), fnd_era h]
    by_cases h1 : r ∈ ks
    · rw [if_pos h1, if_pos (List.mem_cons_of_mem _ h1)]
    · rw [if_neg h1]
      by_cases h2 : k = r
      · subst h2
        rw [if_pos rfl, if_pos List.mem_cons_self]
      · rw [if_neg h2, if_neg]
        intro h3
        rcases List.mem_cons.1 h3 with h3 | h3
        · exact h2 h3.symm
        · exact h1 h3

/-- Behind the end of regions, said at once. -/
structure FreeT (s : CS) (L : List Int) (G : List Nat) (D : List Rf) (s' : CS) : Prop where
  size : s'.size = s.size
  own : s'.own.length = s.own.length
  lays : s'.lays = s.lays
  last : s'.last = s.last
  par : s'.par = L.foldl era s.par
  tabl : s'.tab.length = s.tab.length
  tab : ∀ (k : Nat) (t : Slt), s.tab[k]? = some t → s'.tab[k]? = some (if k ∈ G then ⟨t.gen, none⟩ else ⟨t.gen, t.ent.map (cutE D k)⟩)
  nd : (s'.rem.map (·.1)).Nodup
  rem : ∀ r, fnd s'.rem r = if ∃ k ∈ G, r.1 = ((k : Nat) : Int) then none else if r ∈ D then none else fnd s.rem r
  gone : Gone s L G
  cut : ChrD s G G D
theorem FreeS.t {s s' : CS} {L : List Int} (h : FreeS s L s') : ∃ G D, FreeT s L G D s' := by
  obtain ⟨G, Dl, s1, s2, hG, hC, hD, hN, hE⟩ := h
  refine ⟨G, Dl, by rw [hE.size, hN.size, hC.size], by rw [hE.own, hN.own, hC.own], by rw [hE.lays, hN.lays, hC.lays], by rw [hE.last, hN.last, hC.last], by rw [hE.par, hN.par, hC.par], by rw [hE.tab, hN.tabl, hC.tabl], fun k t hk => ?_, by rw [hE.rem]; exact hN.nd, fun r => by rw [hE.rem, hN.rem, hC.rem], hG, hD⟩
  rw [hE.tab, hN.tab k _ (hC.tab k t hk)]
theorem FreeT.from {s s' : CS} {L : List Int} {G : List Nat} {D : List Rf} (h : FreeT s L G D s') {k g : Nat} {e' : Ent} (hk : s'.tab[k]? = some ⟨g, some e'⟩) : k ∉ G ∧ ∃ e, s.tab[k]? = some ⟨g, some e⟩ ∧ e' = cutE D k e := by
  have hlt : k < s.tab.length := by
    have := (List.getElem?_eq_some_iff.1 hk).1
    rw [h.tabl] at this
    exact this
  have h1 := List.getElem?_eq_getElem hlt
  generalize s.tab[k] = t at h1
  have h2 := h.tab k t h1
  rw [hk] at h2
  obtain ⟨g0, e0⟩ := t
  split at h2
  · injection h2 with h2
    injection h2 with _ h2
    cases h2
  · rename_i hG
    injection h2 with h2
    injection h2 with h3 h4
    subst h3
    cases e0 with
    | none => cases h4
    | some e =>
      injection h4 with h4
      exact ⟨hG, e, h1, h4⟩
theorem cutE_ws {D : List Rf} {k : Nat} {e : Ent} {p : Nat} (hp : p < e.ws.length) : (cutE D k e).ws.getD p 0 = if ((k : Int), (p : Int)) ∈ D then 1 else e.ws.getD p 0 := by
  rw [List.getD_eq_getElem?_getD, cutE_get, List.getD_eq_getElem?_getD, List.getElem?_eq_getElem hp]
  rfl
theorem lookE {ts : List Slt} {a b : Nat} {f : Ent} (h : ts[a]? = some ⟨b, some f⟩) : lookT ts a b = some (a, f) := lookT_some.2 ⟨b, rfl, rfl, h⟩
/-- Which references are cut: those of others to what ends. -/
theorem FreeT.cutIff {s s' : CS} {L : List Int} {G : List Nat} {D : List Rf} (h : FreeT s L G D s') (hI : Inv s) {k g p : Nat} {e : Ent} (hk : s.tab[k]? = some ⟨g, some e⟩) (hG : k ∉ G) (hp : p < e.ws.length) : ((k : Int), (p : Int)) ∈ D ↔ isRefL (layE s e) p = true ∧ ∃ (a b : Nat) (f : Ent), lkE e p = .obj a b ∧ s.tab[a]? = some ⟨b, some f⟩ ∧ f.region ∈ L := by
  rw [h.cut]
  constructor
  · rintro ⟨⟨t, ht, hr⟩, _⟩
    obtain ⟨k', p', g', e', a, b, f, h1, h2, h3, h4, h5, h6, h7, h8⟩ := (hI.rem _ _).1 hr
    injection h1 with h1 h9
    obtain rfl : k = k' := by omega
    obtain rfl : p = p' := by omega
    rw [hk] at h2
    injection h2 with h2
    injection h2 with h2 h2'
    subst h2
    injection h2' with h2'
    subst h2'
    obtain ⟨_, h10⟩ := lookT_self h6
    obtain rfl : t = a := by omega
    obtain ⟨g2, f2, h11, h12⟩ := (h.gone.2 t).1 ht
    rw [h10] at h11
    injection h11 with h11
    injection h11 with _ h11
    injection h11 with h11
    subst h11
    exact ⟨h4, t, b, f, h5, h10, h12⟩
  · rintro ⟨h4, a, b, f, h5, h6, h7⟩
    refine ⟨⟨a, (h.gone.2 a).2 ⟨b, f, h6, h7⟩, (hI.rem _ _).2 ⟨k, p, g, e, a, b, f, rfl, hk, hp, h4, h5, lookE h6, fun h8 => ?_, rfl⟩⟩, ?_⟩
    · exact hG ((h.gone.2 k).2 ⟨g, e, hk, by rw [← h8]; exact h7⟩)
    · rintro ⟨k', h9, h10⟩
      have h10 : ((k : Nat) : Int) = ((k' : Nat) : Int) := h10
      obtain rfl : k = k' := by omega
      exact hG h9
theorem FreeT.lay {s s' : CS} {L : List Int} {G : List Nat} {D : List Rf} (h : FreeT s L G D s') (k : Nat) (e : Ent) : layE s' (cutE D k e) = layE s e := by
  unfold layE
  rw [h.lays]
  rfl
theorem FreeT.at {s s' : CS} {L : List Int} {G : List Nat} {D : List Rf} (h : FreeT s L G D s') {k g : Nat} {e : Ent} (hk : s.tab[k]? = some ⟨g, some e⟩) (hG : k ∉ G) : s'.tab[k]? = some ⟨g, some (cutE D k e)⟩ := by
  rw [h.tab k _ hk, if_neg hG]
  rfl
theorem Rel_free {s s' : CS} {m : MS} {told : List (Nat × Nat)} (R : Rel s m told) (hm : MWF m) (hI : Inv s) {L : List Nat} {G : List Nat} {D : List Rf} (h : FreeT s (L.map fun k : Nat => (k : Int)) G D s') : Rel s' (freeM m L) told := by
  have hLi : ∀ k : Nat, ((k : Nat) : Int) ∈ L.map (fun k : Nat => (k : Int)) ↔ k ∈ L := fun k => by
    rw [List.mem_map]
    exact ⟨fun ⟨j, h1, h2⟩ => (by have : j = k := by omega
                                  rw [← this]; exact h1), fun h1 => ⟨k, h1, rfl⟩⟩
  have hlo : (freeM m L).objs.length = m.objs.length := by show (((m.objs.map (goneM L)).map (graveM _))).length = _; rw [List.length_map, List.length_map]
  have hnd' : (s'.par.map (·.1)).Nodup := by rw [h.par]; exact nodup_foldl_eraI _ R.nd
  refine ⟨by rw [hlo]; exact R.len, by rw [h.lays]; exact R.lays, fun r q => ?_, hnd', ?_, ?_, ?_, ?_, ?_, R.nodup⟩
  · rw [← fnd_iff hnd', h.par, fnd_foldl_eraI _ R.nd]
    constructor
    · intro hr
      split at hr
      · cases hr
      · rename_i hn
        obtain ⟨k, rfl, h1, h2, h3⟩ := (R.tree r q).1 ((fnd_iff R.nd).1 hr)
        refine ⟨k, rfl, h1, ?_, h3⟩
        show (freeP m.P L)[k]? = some q
        rw [freeP_get, h2]
        show some (if k ∈ L then -1 else q) = some q
        rw [if_neg (fun h4 => hn ((hLi k).2 h4))]
    · rintro ⟨k, rfl, h1, h2, h3⟩
      have h2 : (freeP m.P L)[k]? = some q := h2
      rw [freeP_get] at h2
      cases hP : m.P[k]? with
      | none => rw [hP] at h2; cases h2
      | some q0 =>
        rw [hP] at h2
        injection h2 with h2
        have h2 : (if k ∈ L then (-1 : Int) else q0) = q := h2
        by_cases hk : k ∈ L
        · rw [if_pos hk] at h2
          omega
        · rw [if_neg hk] at h2
          subst h2
          rw [if_neg (fun h4 => hk ((hLi k).1 h4))]
          exact (fnd_iff R.nd).2 ((R.tree _ _).2 ⟨k, rfl, h1, hP, h3⟩)
  · rw [h.last]
    show s.last + 1 = (freeP m.P L).length
    unfold freeP
    rw [List.length_mapIdx]
    exact R.last
  · intro o x' k g hx' ht hg
    obtain ⟨x, hx, rfl⟩ := freeM_at hx'
    have hg2 : ¬ ((goneM L x).gone = true) := by
      intro h1
      have hg : (goneM L x).gone = false := hg
      rw [h1] at hg
      cases hg
    rw [goneM_gone] at hg2
    have hxg : x.gone = false := by
      cases hh : x.gone with
      | false => rfl
      | true => exact absurd (.inl hh) hg2
    have hxr : x.region ∉ L := fun h1 => hg2 (.inr h1)
    obtain ⟨e, hk, hl⟩ := R.obj o x k g hx ht hxg
    have hgm : goneM L x = x := by unfold goneM; rw [if_neg hxr]
    rw [hgm]
    have hkG : k ∉ G := fun h1 => by
      obtain ⟨g2, f2, h11, h12⟩ := (h.gone.2 k).1 h1
      rw [hk] at h11
      injection h11 with h11
      injection h11 with _ h11
      injection h11 with h11
      subst h11
      rw [hl.region] at h12
      exact hxr ((hLi _).1 h12)
    obtain ⟨hml, hm1, hkd, hto, hgo⟩ := hm.objs x (List.mem_of_getElem? hx)
    refine ⟨cutE D k e, h.at hk hkG, ⟨hl.region, hl.lay, hl.count, hl.held, hl.pinned, by rw [cutE_len]; exact hl.len, fun p hp hr => ?_, fun p hp hr => ?_, fun p hp hne => ?_⟩⟩
    · have hp : p < x.w.length := hp
      have hpe : p < e.ws.length := by rw [hl.len]; exact hp
      have hr : isRefL (layX m.lays x.lay) p = true := hr
      have hre : isRefL (layE s e) p = true := by rw [lay_same R.w hl]; exact hr
      obtain ⟨g1, g2⟩ := grave_get (objs := m.objs.map (goneM L)) (x := x) (by rw [hkd, hto]) (p := p) (by rw [hkd]; exact hp)
      rw [g1, g2, cutE_ws hpe]
      have hlk := hl.ref p hp hr
      by_cases hD : ((k : Int), (p : Int)) ∈ D
      · rw [if_pos hD]
        obtain ⟨_, a, b, f, h5, h6, h7⟩ := (h.cutIff hI hk hkG hpe).1 hD
        have h5 : lnkOf (e.ws.getD p 0) = .obj a b := h5
        rw [hlk] at h5
        unfold lnkM at h5
        split at h5
        · rename_i h2
          cases hta : told[x.to.getD p 0]? with
          | none => rw [hta] at h5; cases h5
          | some y =>
            obtain ⟨a', b'⟩ := y
            rw [hta] at h5
            injection h5 with h8 h9
            subst h8 h9
            have hol : x.to.getD p 0 < m.objs.length := by rw [← R.len]; exact (List.getElem?_eq_some_iff.1 hta).1
            have hy := List.getElem?_eq_getElem hol
            generalize m.objs[x.to.getD p 0] = y at hy
            have hyg : y.gone = false := by
              cases hh : y.gone with
              | false => rfl
              | true => exact absurd h6 (R.gone _ y _ _ hy hta hh f)
            obtain ⟨f', h10, h11⟩ := R.obj _ y _ _ hy hta hyg
            rw [h6] at h10
            injection h10 with h10
            injection h10 with _ h10
            injection h10 with h10
            subst h10
            have hit : hitE (m.objs.map (goneM L)) (x.kind.getD p 0) (x.to.getD p 0) = true := hit_gone.2 ⟨h2, y, hy, .inr (by rw [h11.region] at h7; exact (hLi _).1 h7)⟩
            rw [if_pos hit, if_pos hit]
            rfl
        · split at h5 <;> cases h5
      · rw [if_neg hD]
        have hnh : ¬ (hitE (m.objs.map (goneM L)) (x.kind.getD p 0) (x.to.getD p 0) = true) := by
          intro hh
          obtain ⟨h2, y, hy, h3⟩ := hit_gone.1 hh
          have hol := (List.getElem?_eq_some_iff.1 hy).1
          rw [← R.len] at hol
          have hta := List.getElem?_eq_getElem hol
          generalize told[x.to.getD p 0] = ab at hta
          obtain ⟨a, b⟩ := ab
          have h5 : lkE e p = .obj a b := by
            unfold lkE
            rw [hlk]
            unfold lnkM
            rw [if_pos h2, hta]
            rfl
          obtain ⟨f, hf⟩ := hI.link k g e p a b hk hpe hre h5
          obtain ⟨_, ha⟩ := lookT_self hf
          have hyg : y.gone = false := by
            cases hh : y.gone with
            | false => rfl
            | true => exact absurd ha (R.gone _ y _ _ hy hta hh f)
          rcases h3 with h3 | h3
          · rw [hyg] at h3; cases h3
          · obtain ⟨f', h10, h11⟩ := R.obj _ y _ _ hy hta hyg
            rw [ha] at h10
            injection h10 with h10
            injection h10 with _ h10
            injection h10 with h10
            subst h10
            exact hD ((h.cutIff hI hk hkG hpe).2 ⟨hre, a, b, f, h5, ha, by rw [h11.region]; exact (hLi _).2 h3⟩)
        rw [if_neg hnh, if_neg hnh]
        exact hlk
    · have hp : p < x.w.length := hp
      have hpe : p < e.ws.length := by rw [hl.len]; exact hp
      have hr : isRefL (layX m.lays x.lay) p = false := hr
      rw [cutE_ws hpe, if_neg]
      · exact hl.word p hp hr
      · intro hD
        have h1 := ((h.cutIff hI hk hkG hpe).1 hD).1
        rw [lay_same R.w hl] at h1
        have h1 : isRefL (layX m.lays x.lay) p = true := h1
        rw [hr] at h1
        cases h1
    · have hp : p < x.w.length := hp
      obtain ⟨g1, g2⟩ := grave_get (objs := m.objs.map (goneM L)) (x := x) (by rw [hkd, hto]) (p := p) (by rw [hkd]; exact hp)
      show isRefL (layX m.lays x.lay) p = true ∧ _
      rw [g1] at hne ⊢
      split at hne
      · rename_i hh
        rw [if_pos hh]
        obtain ⟨h2, _⟩ := hit_gone.1 hh
        exact ⟨(hl.kind p hp (by rw [h2]; decide)).1, by decide⟩
      · rename_i hh
        rw [if_neg hh]
        exact hl.kind p hp hne
  · intro o x' k g hx' ht hg e' hk'
    obtain ⟨x, hx, rfl⟩ := freeM_at hx'
    obtain ⟨hkG, e, hk, rfl⟩ := h.from hk'
    have hg : (goneM L x).gone = true := hg
    rcases goneM_gone.1 hg with h1 | h1
    · exact R.gone o x k g hx ht h1 e hk
    · cases hh : x.gone with
      | true => exact R.gone o x k g hx ht hh e hk
      | false =>
        obtain ⟨e2, h2, h3⟩ := R.obj o x k g hx ht hh
        rw [hk] at h2
        injection h2 with h2
        injection h2 with _ h2
        injection h2 with h2
        subst h2
        exact hkG ((h.gone.2 k).2 ⟨g, e, hk, by rw [h3.region]; exact (hLi _).2 h1⟩)
  · intro k g e' hk'
    obtain ⟨_, e, hk, _⟩ := h.from hk'
    exact R.used k g e hk
  · intro o k g ht
    obtain ⟨t, h1, h2⟩ := R.gens o k g ht
    refine ⟨_, h.tab k t h1, ?_⟩
    split <;> exact h2
end Go.Proofs.YtipelpbkeiphmaaGreatDoor
namespace Go.Proofs.YtipelpbkeiphmaaGreatDoor
open Go.SL

def tkc (l : List (Nat × Nat)) : List Value := l.flatMap fun t => [.int .i64 (t.1 : Nat), .int .i64 (t.2 : Nat)]
theorem tkc_length (l : List (Nat × Nat)) : (tkc l).length = l.length * 2 := by
  induction l with
  | nil => rfl
  | cons p L ih => simp only [tkc, List.flatMap_cons, List.length_append, List.length_cons, List.length_nil] at ih ⊢; omega
@[reducible] def TKL (v : Value) (told : List (Nat × Nat)) : HProp := sls 88 2 v (tkc told)
@[reducible] def RROW (p c mo : Nat) (v : Value) : HProp := pts p (row 56 [pp c, pp mo, v])
structure RQ where
  c : Nat
  mo : Nat
  v : Value
def RUN (p : Nat) (s : CS) (m : MS) (told : List (Nat × Nat)) : HProp := ex fun q : RQ => star [RROW p q.c q.mo q.v, CELL q.c s, MODEL q.mo m, TKL q.v told]
theorem RUN_out [Extra] {w : World} {p : Nat} {s : CS} {m : MS} {told : List (Nat × Nat)} {l : List HProp} (H : Holds w (RUN p s m told :: l)) : ∃ (c mo : Nat) (a : Option Addr) (cap : Nat), Holds w (RROW p c mo (.slice a told.length cap) :: CELL c s :: MODEL mo m :: TKL (.slice a told.length cap) told :: l) := by
  obtain ⟨⟨c, mo, v⟩, H⟩ := Holds.ex.1 H
  have H := Holds.star.1 H
  obtain ⟨a, cap, rfl⟩ := sls_slice (H.drop.drop.drop) (tkc_length told) (by decide)
  exact ⟨c, mo, a, cap, H⟩
theorem RUN_in [Extra] {w : World} {p c mo : Nat} {v : Value} {s : CS} {m : MS} {told : List (Nat × Nat)} {l : List HProp} (H : Holds w (RROW p c mo v :: CELL c s :: MODEL mo m :: TKL v told :: l)) : Holds w (RUN p s m told :: l) :=
  Holds.ex.2 ⟨⟨c, mo, v⟩, Holds.star.2 H⟩

end Go.Proofs.YtipelpbkeiphmaaGreatDoor
namespace Go.Proofs.YtipelpbkeiphmaaGreatDoor
open Go.SL

end Go.Proofs.YtipelpbkeiphmaaGreatDoor
namespace Go.Proofs.YtipelpbkeiphmaaGreatDoor
open Go.SL

end Go.Proofs.YtipelpbkeiphmaaGreatDoor
namespace Go.Proofs.YtipelpbkeiphmaaGreatDoor
open Go.SL

end Go.Proofs.YtipelpbkeiphmaaGreatDoor
namespace Go.SL
section
variable {P : Program} {n : Nat} {r : Option Nat} {ops : Array Oper} {σ : Env} {w : World}
variable {ivs : List (List Nat × (World → Prop))} {T : Env → World → Prop} {f : Nat} {L : Array Bool}
variable {u : TypeId} {p : String} {af : Array Edge} {g : Option (Nat × Bool)} {d : Option Tmp} {x y : Operand}
end
end Go.SL
namespace Go.Proofs.YtipelpbkeiphmaaGreatDoor
open Go.SL

def shapeT (ts : List Slt) : List (Nat × Bool) := ts.map fun t => (t.gen, t.ent.isSome)
theorem shape_set {ts : List Slt} {k g : Nat} {e e' : Ent} (h : ts[k]? = some ⟨g, some e⟩) : shapeT (ts.set k ⟨g, some e'⟩) = shapeT ts := by
  unfold shapeT
  rw [List.map_set]
  apply List.ext_getElem?
  intro i
  rw [List.getElem?_set]
  split
  · rename_i hi
    subst hi
    have := (List.getElem?_eq_some_iff.1 h).1
    rw [List.getElem?_map, h]
    simp [this]
  · rfl
/-- What an act leaves: no slot is another's, but of what is made. -/
structure Step (s : CS) (m : MS) (told : List (Nat × Nat)) (s' : CS) (m' : MS) (told' : List (Nat × Nat)) : Prop where
  P : m'.P.length ≤ m.P.length + 1
  objs : m'.objs.length ≤ m.objs.length + 1
  tab : (told' = told ∧ shapeT s'.tab = shapeT s.tab) ∨ ∃ k g0 : Nat, told' = told ++ [(k, g0 + 1)] ∧ s.tab[k]? = some ⟨g0, none⟩ ∧ (∀ (j : Nat) (t : Slt), j < k → s.tab[j]? = some t → busy t = true) ∧ shapeT s'.tab = (shapeT s.tab).set k (g0 + 1, true)
  inv : Inv s → Inv s'

/-- What Make does, in its four cases. -/
def Made (s : CS) (region id count : Int) (i g e : Nat) (s' : CS) : Prop :=
  (makeE s region id count ≠ 0 ∧ i = 0 ∧ g = 0 ∧ e = makeE s region id count ∧ s' = s) ∨
  (makeE s region id count = 0 ∧ (∀ t ∈ s.tab, busy t = true) ∧ i = 0 ∧ g = 0 ∧ e = 12 ∧ s' = s) ∨
  (makeE s region id count = 0 ∧ (∀ a, a + (makeN s id count / s.size + 1) ≤ s.own.length → ∃ i, a ≤ i ∧ i < a + (makeN s id count / s.size + 1) ∧ s.own.getD i 0 ≠ 0) ∧ i = 0 ∧ g = 0 ∧ e = 11 ∧ s' = s) ∨
  (makeE s region id count = 0 ∧ e = 0 ∧ ∃ g0 addr, s.tab[i]? = some ⟨g0, none⟩ ∧ g0 ≤ 254 ∧ (∀ (j : Nat) (t : Slt), j < i → s.tab[j]? = some t → busy t = true) ∧ g = g0 + 1 ∧
    s'.size = s.size ∧ s'.lays = s.lays ∧ s'.last = s.last ∧ s'.par = s.par ∧ s'.rem = s.rem ∧ s'.tab = s.tab.set i ⟨g0 + 1, some ⟨addr, region, true, false, id.toNat, count.toNat, List.replicate (makeN s id count) 0⟩⟩ ∧ Grows s.own s'.own (makeN s id count / s.size + 1))
theorem Make_all [Extra] (p : Nat) (s : CS) (region id count : Int) {w : World} {fr : List HProp} [hT : HasTab 0 Lib.deBruijn64tab fr] (H : Holds w (CELL p s :: fr)) :
    Calls Tryz.prog 106 #[pp p, .int .i64 region, .int .i64 id, .int .i64 count] w (ret fun v w' => ∃ i g e s', v = .tuple #[tkn i g, .int .i64 (e : Nat)] ∧ Made s region id count i g e s' ∧ Holds w' (CELL p s' :: fr)) := by
  refine call (Make_spec p s region id count H) ?_
  rintro v w (⟨h1, rfl, H⟩ | ⟨h1, h2, rfl, H⟩ | ⟨h1, h2, rfl, H⟩ | ⟨h1, k, g0, addr, s', h2, h3, h4, rfl, h5, h6, h7, h8, h9, h10, h11, H⟩)
  · exact ⟨0, 0, makeE s region id count, s, rfl, .inl ⟨h1, rfl, rfl, rfl, rfl⟩, H⟩
  · exact ⟨0, 0, 12, s, rfl, .inr (.inl ⟨h1, h2, rfl, rfl, rfl, rfl⟩), H⟩
  · exact ⟨0, 0, 11, s, rfl, .inr (.inr (.inl ⟨h1, h2, rfl, rfl, rfl, rfl⟩)), H⟩
  · exact ⟨k, g0 + 1, 0, s', rfl, .inr (.inr (.inr ⟨h1, rfl, g0, addr, h2, h3, h4, rfl, h5, h6, h7, h8, h9, h10, h11⟩)), H⟩

end Go.Proofs.YtipelpbkeiphmaaGreatDoor
namespace Go.Proofs.YtipelpbkeiphmaaGreatDoor
open Go.SL

theorem shape_tieS (s : CS) (i g p : Int) (l : Lnk) : shapeT (tieS s i g p l).1.tab = shapeT s.tab := by
  cases hv : validT s.tab i g with
  | none => rw [tieS_none hv]
  | some q =>
    obtain ⟨k, e⟩ := q
    obtain ⟨n, rfl, rfl, hk, _⟩ := valid_at hv
    rw [tieS_some hv]
    split
    · rw [Int.toNat_natCast]; exact shape_set hk
    · rfl
theorem shape_TieS (s : CS) (i g p u v : Int) : shapeT (TieS s i g p u v).1.tab = shapeT s.tab := by
  unfold TieS
  split
  · rfl
  · split
    · rfl
    · exact shape_tieS s i g p _
end Go.Proofs.YtipelpbkeiphmaaGreatDoor
namespace Go.Proofs.YtipelpbkeiphmaaGreatDoor
open Go.SL

end Go.Proofs.YtipelpbkeiphmaaGreatDoor
namespace Go.Proofs.YtipelpbkeiphmaaGreatDoor
open Go.SL

end Go.Proofs.YtipelpbkeiphmaaGreatDoor
namespace Go.Proofs.YtipelpbkeiphmaaGreatDoor
open Go.SL

def cs0 (n size slots : Nat) : CS := ⟨size, List.replicate n 0, [], List.replicate slots ⟨0, none⟩, 0, [], [], [], []⟩
theorem rel0 (n size slots : Nat) : Rel (cs0 n size slots) ms0 [] := by
  have hno : ∀ (k g : Nat) (e : Ent), (List.replicate slots (⟨0, none⟩ : Slt))[k]? ≠ some ⟨g, some e⟩ := by
    intro k g e h
    rw [List.getElem?_replicate] at h
    split at h <;> cases h
  refine ⟨rfl, rfl, ?_, List.nodup_nil, rfl, ?_, ?_, fun k g e h => absurd h (hno k g e), ?_, List.nodup_nil⟩
  · intro r q
    constructor
    · intro h; cases h
    · rintro ⟨k, _, h1, h2, _⟩
      have : k < 1 := (List.getElem?_eq_some_iff.1 h2).1
      omega
  · intro o x k g h; cases h
  · intro o x k g h; cases h
  · intro o k g h; cases h

/-- While nothing is freed: the first slots are taken, once each. -/
structure Fresh (s : CS) (told : List (Nat × Nat)) : Prop where
  shape : ∃ r, shapeT s.tab = List.replicate told.length (1, true) ++ List.replicate r (0, false)
  told : told = (List.range told.length).map fun i => (i, 1)
  inv : Inv s
theorem shape_at {ts : List Slt} {n r k : Nat} {t : Slt} (h : shapeT ts = List.replicate n (1, true) ++ List.replicate r (0, false)) (hk : ts[k]? = some t) : (k < n ∧ t.gen = 1 ∧ t.ent.isSome = true) ∨ (n ≤ k ∧ k < n + r ∧ t.gen = 0 ∧ t.ent = none) := by
  have h1 : (shapeT ts)[k]? = some (t.gen, t.ent.isSome) := by
    unfold shapeT
    rw [List.getElem?_map, hk]
    rfl
  rw [h] at h1
  by_cases hkn : k < n
  · rw [List.getElem?_append_left (by simpa using hkn), List.getElem?_replicate, if_pos hkn] at h1
    injection h1 with h1
    injection h1 with h2 h3
    exact .inl ⟨hkn, h2.symm, h3.symm⟩
  · rw [List.getElem?_append_right (by simp; omega), List.length_replicate, List.getElem?_replicate] at h1
    split at h1
    · injection h1 with h1
      injection h1 with h2 h3
      refine .inr ⟨by omega, by omega, h2.symm, ?_⟩
      cases he : t.ent with
      | none => rfl
      | some e => rw [he] at h3; cases h3
    · cases h1
theorem Fresh.seq {s : CS} {told : List (Nat × Nat)} (h : Fresh s told) : Seq s := by
  obtain ⟨⟨r, hs⟩, _, _⟩ := h
  intro i j t g e hij hi hj
  rcases shape_at hs hj with ⟨h1, _⟩ | ⟨_, _, _, h1⟩
  · rcases shape_at hs hi with ⟨_, _, h2⟩ | ⟨h2, _⟩
    · unfold busy; rw [h2]; rfl
    · omega
  · cases h1
theorem Fresh.step {s s' : CS} {m m' : MS} {told told' : List (Nat × Nat)} (h : Fresh s told) (st : Step s m told s' m' told') : Fresh s' told' := by
  obtain ⟨⟨r, hs⟩, ht, hI⟩ := h
  rcases st.tab with ⟨rfl, h1⟩ | ⟨k, g0, rfl, h1, h2, h3⟩
  · exact ⟨⟨r, by rw [h1]; exact hs⟩, ht, st.inv hI⟩
  · rcases shape_at hs h1 with ⟨_, _, h4⟩ | ⟨h4, h5, h6, _⟩
    · cases h4
    · have h6 : g0 = 0 := h6
      subst h6
      have hl : s.tab.length = told.length + r := by
        have := congrArg List.length hs
        simpa [shapeT] using this
      have hk : k = told.length := by
        refine Classical.byContradiction fun hne => ?_
        have hlt : told.length < k := by omega
        have hn := List.getElem?_eq_getElem (l := s.tab) (i := told.length) (by omega)
        have hb := h2 told.length _ hlt hn
        rcases shape_at hs hn with ⟨h7, _⟩ | ⟨_, _, h7, h8⟩
        · omega
        · unfold busy at hb
          rw [h7, h8] at hb
          cases hb
      subst hk
      refine ⟨⟨r - 1, ?_⟩, ?_, st.inv hI⟩
      · rw [h3, hs, List.length_append]
        obtain ⟨r', rfl⟩ : ∃ r', r = r' + 1 := ⟨r - 1, by omega⟩
        rw [List.set_append_right _ _ (by simp), List.length_replicate, Nat.sub_self, List.replicate_succ, List.set_cons_zero, Nat.add_sub_cancel]
        show _ = List.replicate (told.length + 1) (1, true) ++ _
        rw [List.replicate_succ', List.append_assoc]
        rfl
      · rw [List.length_append]
        show told ++ [(told.length, 1)] = (List.range (told.length + 1)).map _
        rw [List.range_succ, List.map_append, ← ht]
        rfl

theorem max0 (x : Int) : ∃ X : Nat, (if x > 0 then x else 0) = (X : Int) := ⟨x.toNat, by split <;> omega⟩
theorem Of_spec [Extra] (z1 z2 z3 : Int) {w : World} {fr : List HProp} (H : Holds w fr) :
    Calls Tryz.prog 20 #[.agg #[.int .i64 z1, .int .i64 z2, .int .i64 z3]] w (ret fun v w' => ∃ p n size slots, v = pp p ∧ 1 ≤ n ∧ n ≤ 20 ∧ 1 ≤ size ∧ size ≤ 16 ∧ 1 ≤ slots ∧ slots ≤ 16 ∧ Holds w' (RUN p (cs0 n size slots) ms0 [] :: fr)) := by
  obtain ⟨X1, h1⟩ := max0 z1
  obtain ⟨X2, h2⟩ := max0 z2
  obtain ⟨X3, h3⟩ := max0 z3
  refine calls_of Tryz.func20 rfl (by kernel_rfl) ?_
  refine J8 H ?_
  clear H; intro b1 w H
  refine J0 H ?_
  refine J98 H ?_
  refine Lp_s rfl (St_max rfl rfl rfl ?_)
  rw [h1]
  refine Lp_pv (v := .int .i64 ((X1 % 20 : Nat) : Int)) (by
    show some (Value.int IntKind.i64 (Int.tmod (X1 : Int) 20)) = _
    rw [Int.tmod_eq_emod_of_nonneg (by omega)]; rfl) rfl ?_
  refine J7 H ?_
  rw [show IntKind.i64.wrap (1 + ((X1 % 20 : Nat) : Int)) = ((X1 % 20 + 1 : Nat) : Int) by rw [wrap64 (by omega) (by omega)]; omega]
  refine J38 H ?_
  refine Lp_s rfl (St_max rfl rfl rfl ?_)
  rw [h2]
  refine Lp_pv (v := .int .i64 ((X2 % 16 : Nat) : Int)) (by
    show some (Value.int IntKind.i64 (Int.tmod (X2 : Int) 16)) = _
    rw [Int.tmod_eq_emod_of_nonneg (by omega)]; rfl) rfl ?_
  refine J7 H ?_
  rw [show IntKind.i64.wrap (1 + ((X2 % 16 : Nat) : Int)) = ((X2 % 16 + 1 : Nat) : Int) by rw [wrap64 (by omega) (by omega)]; omega]
  refine J38 H ?_
  refine Lp_s rfl (St_max rfl rfl rfl ?_)
  rw [h3]
  refine Lp_pv (v := .int .i64 ((X3 % 16 : Nat) : Int)) (by
    show some (Value.int IntKind.i64 (Int.tmod (X3 : Int) 16)) = _
    rw [Int.tmod_eq_emod_of_nonneg (by omega)]; rfl) rfl ?_
  refine J7 H ?_
  rw [show IntKind.i64.wrap (1 + ((X3 % 16 : Nat) : Int)) = ((X3 % 16 + 1 : Nat) : Int) by rw [wrap64 (by omega) (by omega)]; omega]
  
  refine Jc rfl rfl (cNew_spec (X1 % 20 + 1) (X2 % 16 + 1) (X3 % 16 + 1) (by omega) (by omega) (by omega) (by omega) (by omega) (by omega) H) ?_
  clear H; rintro v w ⟨c, rfl, H⟩
  refine J27 H ?_
  refine J10 H ?_
  refine J126 H ?_
  refine J16 H ?_
  refine Jc rfl rfl (New15_spec H) ?_
  clear H; rintro v w ⟨mo, rfl, H⟩
  refine J40 H ?_
  clear H; intro b33 w H
  refine J0 H ?_
  have H := sls_nil (E := 88) (k := 2) H
  replace H := Js [1,2,1,0] 1 H
  exact C_ret (Jy (RUN_in (told := []) H) rfl fun w' H' => ⟨_, X1 % 20 + 1, X2 % 16 + 1, X3 % 16 + 1, rfl, by omega, by omega, by omega, by omega, by omega, by omega, H'⟩)
end Go.Proofs.YtipelpbkeiphmaaGreatDoor
namespace Go.Proofs.YtipelpbkeiphmaaGreatDoor
open Go.SL

def L0 : Lay := ⟨2, [1], 0, []⟩
theorem dec0 : decodeL [2, 2, 0] = some L0 := by rfl
theorem right0 : RightL L0 := by decide
theorem mwf0 : MWF ms0 := ⟨⟨by simp [ms0], by simp [ms0]⟩, ⟨by simp [ms0], fun l h => by simp [ms0] at h⟩, (fun x h => by simp [ms0] at h), by simp [ms0]⟩
theorem alive_makeR {r1 : Int} {s s' : CS} {m : MS} {told : List (Nat × Nat)} {i g e : Nat} (R : Rel s m told) (hm : MWF m) (F : Fresh s told) (hM : Made s r1 1 0 i g e s') (hmay : mayM m r1 1 0 = (2, 0)) (hsz : s.size = 8) (hlen : told.length < s.tab.length) (hfree : ∃ a, a < s.own.length ∧ s.own.getD a 0 = 0) :
    e = 0 ∧ i = told.length ∧ g = 1 ∧ Rel s' (makeM m r1 1 0) (told ++ [(told.length, 1)]) ∧ Fresh s' (told ++ [(told.length, 1)]) ∧ s'.size = 8 ∧ Grows s.own s'.own 1 ∧ s'.tab.length = s.tab.length := by
  obtain ⟨hm1, hm2⟩ := may_law R r1 1 0
  rw [hmay] at hm1
  have hn : makeN s 1 0 = 2 := by rw [hm2 (by rw [hmay]), hmay]
  have hk : makeN s 1 0 / s.size + 1 = 1 := by rw [hn, hsz]
  obtain ⟨⟨r, hs⟩, ht, _⟩ := id F
  have hnb : ∀ t, s.tab[told.length]? = some t → busy t = false := by
    intro t h
    rcases shape_at hs h with ⟨h7, _⟩ | ⟨_, _, h7, h8⟩
    · omega
    · unfold busy
      rw [h7, h8]
      rfl
  have hat := List.getElem?_eq_getElem (l := s.tab) (i := told.length) hlen
  rcases hM with ⟨h1, _⟩ | ⟨h1, h2, _⟩ | ⟨h1, h2, _⟩ | ⟨h1, rfl, g0, addr, h2, h3, h4, rfl, h5, h6, h7, h8, h9, h10, h11⟩
  · exact absurd hm1 h1
  · have h3 := h2 _ (List.mem_of_getElem? hat)
    rw [hnb _ hat] at h3
    cases h3
  · obtain ⟨a, ha, hz⟩ := hfree
    rw [hk] at h2
    obtain ⟨j, h3, h4, h5⟩ := h2 a (by omega)
    obtain rfl : j = a := by omega
    exact absurd hz h5
  · rw [hk] at h11
    have hi : i = told.length := by
      rcases shape_at hs h2 with ⟨_, _, h12⟩ | ⟨h12, _⟩
      · cases h12
      · refine Classical.byContradiction fun hne => ?_
        have h13 := h4 told.length _ (by omega) hat
        rw [hnb _ hat] at h13
        cases h13
    subst hi
    have hg : g0 = 0 := by
      rcases shape_at hs h2 with ⟨_, _, h12⟩ | ⟨_, _, h12, _⟩
      · cases h12
      · exact h12
    subst hg
    obtain ⟨_, R'⟩ := make_rel R hm (by rw [hmay]) h2 h6 h7 h8 h10
    refine ⟨rfl, rfl, rfl, R', ?_, by rw [h5, hsz], h11, by rw [h10, List.length_set]⟩
    exact F.step (m := m) (m' := makeM m r1 1 0) ⟨by show m.P.length ≤ _; omega, by show (m.objs ++ [_]).length ≤ _; simp, .inr ⟨told.length, 0, rfl, h2, h4, by rw [h10]; unfold shapeT; rw [List.map_set]; rfl⟩, fun hI => inv_more hI h2 h6 h9 h10 rfl⟩

end Go.Proofs.YtipelpbkeiphmaaGreatDoor
