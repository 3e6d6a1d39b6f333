/- Cells: what is proved on the way: every input of the statement; no condition. Texts joined: ModD ModE TabA TabB TabC TabD CelA. -/
import Derived.Test.YtcaaojbnjfdglaaGreatDoorChf
import Derived.Test.YtcaaojbnjfdglaaGreatDoorChk
import Derived.Test.YtcaaojbnjfdglaaGreatDoorChj
set_option linter.unusedVariables false
set_option linter.unusedSimpArgs false
set_option linter.unusedSectionVars false
namespace Go.Proofs.YtcaaojbnjfdglaaGreatDoor
open Go.SL

def ms0 : MS := ⟨[-1], [], []⟩
theorem New15_spec [Extra] {w : World} {fr : List HProp} (H : Holds w fr) : Calls Tryz.prog 45 #[] w (ret fun v w' => ∃ p, v = pp p ∧ Holds w' (MODEL p ms0 :: fr)) := by
  refine calls_of Tryz.func45 rfl (by kernel_rfl) ?_
  refine J175 H ?_
  refine Jc rfl rfl (dNew_spec H) ?_
  clear H; rintro v w ⟨t, rfl, H⟩
  refine J49 H ?_
  clear H; intro b3 w H
  refine J0 H ?_
  have H : Holds w (star (([] : List OC).map ocr) :: pts b3 (row 56 [pp t, .slice none 0 0, .slice none 0 0]) :: RTR t [-1] :: fr) := Holds.star.2 H
  have H := sls_nil (E := 51) (k := 1) H
  have H : Holds w (star (([] : List LyC).map bres) :: _) := Holds.star.2 H
  have H := sls_nil (E := 101) (k := 4) H
  replace H := Js [4,4,0,0,0,0] 0 H
  have hm : MWF ms0 := ⟨⟨by simp [ms0], by simp [ms0]⟩, ⟨by simp [ms0], fun l h => by cases h⟩, (fun l h => by cases h), by simp [ms0]⟩
  exact C_ret (Jy (MODEL_in (m := ms0) hm (lc := []) (oc := []) rfl rfl H) rfl fun w' H' => ⟨_, rfl, H'⟩)

/-- What Open leaves, and answers. -/
def openM (m : MS) (parent : Int) : MS × Nat × Nat := if dErr m.P parent = 0 then ({ m with P := m.P ++ [parent] }, m.P.length, 0) else (m, 0, dErr m.P parent)
theorem Open15_spec [Extra] (p : Nat) (m : MS) (parent : Int) (hP : m.P.length < 100000) {w : World} {fr : List HProp} (H : Holds w (MODEL p m :: fr)) :
    Calls Tryz.prog 47 #[pp p, .int .i64 parent] w (ret fun v w' => v = .tuple #[.int .i64 ((openM m parent).2.1 : Nat), .int .i64 ((openM m parent).2.2 : Nat)] ∧ Holds w' (MODEL p (openM m parent).1 :: fr)) := by
  obtain ⟨t, lc, oc, aL, cL, aO, cO, hm, h2, h3, hl1, hl2, H⟩ := MODEL_out H
  refine calls_of Tryz.func47 rfl (by kernel_rfl) ?_
  refine J3 H ?_
  refine J13 H ?_
  replace H := Js [1,0] 0 H
  refine Jc rfl rfl (dAdd_spec t m.P parent (by omega) hm.P.1 H) ?_
  clear H; rintro v w (⟨he, rfl, H⟩ | ⟨he, rfl, H⟩)
  · have hr : openM m parent = (m, 0, dErr m.P parent) := by unfold openM; rw [if_neg he]
    rw [hr]
    refine J174 H ?_
    exact C_ret (Jy (MODEL_in hm h2 h3 H.swap) rfl fun w' H' => ⟨rfl, H'⟩)
  · have hr : openM m parent = ({ m with P := m.P ++ [parent] }, m.P.length, 0) := by unfold openM; rw [if_pos he]
    rw [hr]
    have hm' : MWF { m with P := m.P ++ [parent] } := ⟨⟨by simp, by simp; omega⟩, hm.lays, hm.objs, hm.few⟩
    refine J174 H ?_
    exact C_ret (Jy (MODEL_in (m := { m with P := m.P ++ [parent] }) hm' h2 h3 H.swap) rfl fun w' H' => ⟨rfl, H'⟩)

/-- What Define leaves, and answers. -/
def defM (m : MS) (ws : List Nat) : MS × Nat × Nat :=
  match decodeL ws with
  | none => (m, 0, 4)
  | some l => if 64 ≤ m.lays.length then (m, 0, 5) else ({ m with lays := m.lays ++ [l] }, m.lays.length + 1, 0)
theorem MobOK_lays {ls : List Lay} {l : Lay} {n : Nat} {x : Mob} (h : MobOK ls n x) : MobOK (ls ++ [l]) n x := by
  obtain ⟨⟨l', a, a2⟩, b, c, d, e⟩ := h
  exact ⟨⟨l', by rw [List.getElem?_append_left (List.getElem?_eq_some_iff.1 a).1]; exact a, a2⟩, b, c, d, e⟩
theorem Define15_spec [Extra] (p : Nat) (m : MS) (v : Value) (ws : List Nat) (hws : ∀ x ∈ ws, x < 18446744073709551616) {w : World} {fr : List HProp} (hr : RdS fr v ws.length 1 (ucells ws)) (H : Holds w (MODEL p m :: fr)) :
    Calls Tryz.prog 46 #[pp p, v] w (ret fun r w' => r = .tuple #[.int .i64 ((defM m ws).2.1 : Nat), .int .i64 ((defM m ws).2.2 : Nat)] ∧ Holds w' (MODEL p (defM m ws).1 :: fr)) := by
  obtain ⟨_, ad, cap, rfl, hr'⟩ := id hr
  refine calls_of Tryz.func46 rfl (by kernel_rfl) ?_
  refine J3 H ?_
  refine J16 H ?_
  refine Jc rfl rfl (dDecode_spec _ ws hws hr.there H) ?_
  clear H; rintro r w (⟨hd, rfl, H⟩ | ⟨l, vr, vq, hd, rfl, H⟩)
  · have hdr : defM m ws = (m, 0, 4) := by unfold defM; rw [hd]
    rw [hdr]
    refine J21 H ?_
    clear H; intro b6 w H
    refine J7 H ?_
    clear H; intro w H
    refine J240 H ?_
    exact C_ret (Jy H.drop rfl fun w' H' => ⟨rfl, H'⟩)
  · obtain ⟨a1, m1, c1, rfl⟩ := sls_any H
    obtain ⟨a2, m2, c2, rfl⟩ := sls_any H.swap
    replace H := Js [2,0,0] 0 H
    obtain ⟨t, lc, oc, aL, cL, aO, cO, hm, h2, h3, hl1, hl2, H⟩ := MODEL_out H
    refine J21 H ?_
    clear H; intro b6 w H
    refine J7 H ?_
    clear H; intro w H
    refine J37 H ?_
    refine J157 H ?_
    by_cases h64 : 64 ≤ m.lays.length
    · have hdr : defM m ws = (m, 0, 5) := by unfold defM; rw [hd]; show (if _ then _ else _) = _; rw [if_pos h64]
      rw [hdr]
      rw [show decide ((m.lays.length : Int) ≥ 64) = true from decide_eq_true (by omega)]
      refine J26 H ?_
      have H := MODEL_in hm h2 h3 H.drop
      replace H := Js [0] 2 H
      exact C_ret (Jy H rfl fun w' H' => ⟨rfl, H'⟩)
    · have hdr : defM m ws = ({ m with lays := m.lays ++ [l] }, m.lays.length + 1, 0) := by unfold defM; rw [hd]; show (if _ then _ else _) = _; rw [if_neg h64]
      rw [hdr]
      have hR : RightL l := by
        unfold decodeL at hd
        split at hd
        · split at hd
          · injection hd with hd; rename_i hx; rw [← hd]; exact hx.2
          · cases hd
        · cases hd
      have hm' : MWF { m with lays := m.lays ++ [l] } := ⟨hm.P, ⟨by show (m.lays ++ [l]).length ≤ 64; simp; omega, fun x hx => by
        rcases List.mem_append.1 hx with hx | hx
        · exact hm.lays.2 x hx
        · simp at hx; subst hx; exact hR⟩, fun x hx => MobOK_lays (hm.objs x hx), hm.few⟩
      rw [show decide ((m.lays.length : Int) ≥ 64) = false from decide_eq_false (by omega)]
      refine J8 H ?_
      refine J1 H ?_
      clear H; intro w H
      refine J170 H ?_
      refine A_load1 4 [7, 10] H rfl (Wants.none rfl) rfl rfl (by kernel_rfl) ?_
      refine J277 H ?_
      refine Jo 6 H ?_
      refine St_buildSlice H rfl rfl rfl ?_
      clear H; intro b27 w H
      replace H := Js [4,0,0,0,0] 0 H
      refine Jo 7 H ?_
      refine St_append H rfl rfl (by repeat (first | exact Reads.nil _ | apply Reads.cons rfl)) rfl (by decide) (by rw [bcells_length]; simp only [List.length_cons, List.length_nil]; omega) rfl rfl ?_
      clear H; intro v28 w H
      have e1 : bcells lc ++ [.int .i64 l.fixed, .slice a1 m1 c1, .int .i64 l.record, .slice a2 m2 c2] = bcells (lc ++ [(.slice a1 m1 c1, .slice a2 m2 c2, l)]) := by
        rw [bcells_append]; rfl
      rw [e1] at H
      have hql' : (lc ++ [((.slice a1 m1 c1 : Value), (.slice a2 m2 c2 : Value), l)]).length = m.lays.length + 1 := by simp [hl1]
      obtain ⟨a28, c28, rfl⟩ := sls_slice H (m := m.lays.length + 1) (by rw [bcells_length, hql']) (by decide)
      refine J84 H ?_
      refine A_fieldAddr 9 rfl (Wants.none rfl) rfl (by kernel_rfl) ?_
      refine Jo 10 H ?_
      refine J73 H ?_
      clear H; intro w H
      refine J2 H ?_
      refine J169 H ?_
      refine J4 H ?_
      replace H := Js [8,8,5,3,3,0,2,2] 2 H
      have H1 : Holds w (star ((lc ++ [((.slice a1 m1 c1 : Value), (.slice a2 m2 c2 : Value), l)]).map bres) :: pts p (row 56 [pp t, .slice a28 (m.lays.length + 1) c28, .slice aO m.objs.length cO]) :: RTR t m.P :: sls 101 4 (.slice a28 (m.lays.length + 1) c28) (bcells (lc ++ [(.slice a1 m1 c1, .slice a2 m2 c2, l)])) :: sls 51 1 (.slice aO m.objs.length cO) (oc.map fun x => pp x.ptr) :: star (oc.map ocr) :: fr) := by
        refine (Holds.pick (x := ((.slice a1 m1 c1 : Value), (.slice a2 m2 c2 : Value), l)) (g1 := lc) (g2 := []) rfl).2 ?_
        rw [List.append_nil]
        refine Holds.star.2 ?_
        exact H
      replace H1 := Js [1,1,1,0,0,0] 0 H1
      have H2 := MODEL_in (m := { m with lays := m.lays ++ [l] }) hm' (lc := lc ++ [((.slice a1 m1 c1 : Value), (.slice a2 m2 c2 : Value), l)]) (by rw [List.map_append, h2]; rfl) h3 H1
      exact C_ret (Jy H2 rfl fun w' H' => ⟨rfl, H'⟩)

/-- What is wrong with an object that is to be made; how many words it has. -/
def mayM (m : MS) (region lay count : Int) : Nat × Nat :=
  if liveP m.P region = false then (0, 15) else if lay < 1 ∨ (m.lays.length : Int) < lay then (0, 6) else sizeL ((m.lays[lay.toNat - 1]?).getD ⟨0, [], 0, []⟩) count
theorem May15_spec [Extra] (p : Nat) (m : MS) (region lay count : Int) {w : World} {fr : List HProp} (H : Holds w (MODEL p m :: fr)) :
    Calls Tryz.prog 115 #[pp p, .int .i64 region, .int .i64 lay, .int .i64 count] w (ret fun v w' => v = .tuple #[.int .i64 ((mayM m region lay count).1 : Nat), .int .i64 ((mayM m region lay count).2 : Nat)] ∧ Holds w' (MODEL p m :: fr)) := by
  obtain ⟨t, lc, oc, aL, cL, aO, cO, hm, h2, h3, hl1, hl2, H⟩ := MODEL_out H
  refine calls_of Tryz.func115 rfl (by kernel_rfl) ?_
  refine J3 H ?_
  refine J13 H ?_
  replace H := Js [1,0] 0 H
  refine Jc rfl rfl (dLive_spec t m.P region H) ?_
  clear H; rintro v w ⟨rfl, H⟩
  generalize hlv : liveP m.P region = lv
  have hlays := hm.lays.1
  cases lv with
  | false =>
    have hr : mayM m region lay count = (0, 15) := by unfold mayM; rw [if_pos hlv]
    rw [hr]
    refine J240 H ?_
    exact C_ret (Jy (MODEL_in hm h2 h3 H.swap) rfl fun w' H' => ⟨rfl, H'⟩)
  | true =>
    replace H := Js [1,0] 0 H
    refine J37 H ?_
    by_cases h1 : lay < 1
    · have hr : mayM m region lay count = (0, 6) := by unfold mayM; rw [if_neg (by rw [hlv]; decide), if_pos (.inl h1)]
      rw [hr]
      refine J5 H ?_
      rw [show decide (lay < 1) = true from decide_eq_true (by omega)]
      refine J171 H ?_
      refine J198 H ?_
      exact C_ret (Jy (MODEL_in hm h2 h3 H) rfl fun w' H' => ⟨rfl, H'⟩)
    · refine J5 H ?_
      rw [show decide (lay < 1) = false from decide_eq_false (by omega)]
      refine J89 H ?_
      by_cases h2' : (m.lays.length : Int) < lay
      · have hr : mayM m region lay count = (0, 6) := by unfold mayM; rw [if_neg (by rw [hlv]; decide), if_pos (.inr h2')]
        rw [hr]
        rw [show decide (lay > (m.lays.length : Int)) = true from decide_eq_true (by omega)]
        refine J198 H ?_
        exact C_ret (Jy (MODEL_in hm h2 h3 H) rfl fun w' H' => ⟨rfl, H'⟩)
      · obtain ⟨la, rfl⟩ : ∃ la : Nat, lay = ((la + 1 : Nat) : Int) := ⟨lay.toNat - 1, by omega⟩
        have hla : la < lc.length := by omega
        have hy := List.getElem?_eq_getElem hla
        generalize lc[la] = y at hy
        have hyl : m.lays[la]? = some y.2.2 := by rw [← h2, List.getElem?_map, hy]; rfl
        have hr : mayM m region ((la + 1 : Nat) : Int) count = sizeL y.2.2 count := by
          unfold mayM
          rw [if_neg (by rw [hlv]; decide), if_neg (by omega), Int.toNat_natCast, Nat.add_sub_cancel, hyl]
          rfl
        rw [hr]
        have hR := hm.lays.2 _ (List.mem_of_getElem? hyl)
        rw [show decide (((la + 1 : Nat) : Int) > (m.lays.length : Int)) = false from decide_eq_false (by omega)]
        refine J20 H ?_
        replace H := Js [2,2,0,0,0,0] 0 H
        obtain ⟨bL, sL, D1, D2, R, rfl, H, hD, hcl⟩ := LAYS_at hl1 H hy
        obtain ⟨vr, vq, l⟩ := y
        refine J36 H ?_
        rw [show IntKind.i64.wrap (((la + 1 : Nat) : Int) - 1) = (la : Int) by rw [wrap64 (by omega) (by omega)]; omega]
        refine Lp_s rfl (St_indexAddr rfl rfl (by omega) (by omega) rfl ?_)
        refine Lp_s rfl (St_loadN H rfl (bcells_reads hy) rfl ?_)
        refine J9 H ?_
        refine Jc rfl rfl (dSize_spec vr vq l hR count ((hD _).there) H) ?_
        clear H; rintro v w ⟨rfl, H⟩
        refine J174 H ?_
        replace H := hcl _ _ H
        replace H := Js [2,2,0,0,0,0] 0 H
        exact C_ret (Jy (MODEL_in hm h2 h3 H) rfl fun w' H' => ⟨rfl, H'⟩)
end Go.Proofs.YtcaaojbnjfdglaaGreatDoor
namespace Go.Proofs.YtcaaojbnjfdglaaGreatDoor
open Go.SL

def newM (region lay count : Int) (n : Nat) : Mob := ⟨region.toNat, lay.toNat, count.toNat, List.replicate n 0, List.replicate n 0, List.replicate n 0, true, false, false⟩
def makeM (m : MS) (region lay count : Int) : MS := { m with objs := m.objs ++ [newM region lay count (mayM m region lay count).1] }
theorem mayM_ok {m : MS} {region lay count : Int} (h : (mayM m region lay count).2 = 0) : ∃ (r la c : Nat) (l : Lay), region = r ∧ lay = (la + 1 : Nat) ∧ count = c ∧ liveP m.P region = true ∧ m.lays[la]? = some l ∧ mayM m region lay count = sizeL l c ∧ sizeL l c = (l.fixed + c * l.record, 0) ∧ l.fixed + c * l.record < 8192 := by
  unfold mayM at h ⊢
  by_cases h1 : liveP m.P region = false
  · rw [if_pos h1] at h; cases h
  · rw [if_neg h1] at h ⊢
    by_cases h2 : lay < 1 ∨ (m.lays.length : Int) < lay
    · rw [if_pos h2] at h; cases h
    · rw [if_neg h2] at h ⊢
      have h3 : liveP m.P region = true := by simpa using h1
      have h4 : 0 < region := by
        unfold liveP at h3
        exact (of_decide_eq_true h3).1
      obtain ⟨la, rfl⟩ : ∃ la : Nat, lay = ((la + 1 : Nat) : Int) := ⟨lay.toNat - 1, by omega⟩
      have hla : la < m.lays.length := by omega
      have hl := List.getElem?_eq_getElem hla
      generalize m.lays[la] = l at hl
      rw [Int.toNat_natCast, Nat.add_sub_cancel, hl] at h ⊢
      replace h : (sizeL l count).2 = 0 := h
      unfold sizeL at h
      split at h
      · cases h
      · rename_i hc
        split at h
        · cases h
        · rename_i hs
          obtain ⟨c, rfl⟩ : ∃ c : Nat, count = c := ⟨count.toNat, by omega⟩
          rw [Int.toNat_natCast] at hs
          refine ⟨region.toNat, la, c, l, by omega, rfl, rfl, h3, hl, rfl, ?_, by omega⟩
          unfold sizeL
          rw [if_neg hc, Int.toNat_natCast, if_neg hs]
theorem MWF_make {m : MS} {region lay count : Int} (h : (mayM m region lay count).2 = 0) (hm : MWF m) (hf : m.objs.length < 100000) : MWF (makeM m region lay count) := by
  obtain ⟨r, la, c, l, rfl, rfl, rfl, hl, hla, hmay, hsz, hlt⟩ := mayM_ok h
  have hlen : (m.objs ++ [newM r ((la + 1 : Nat) : Int) c (mayM m r ((la + 1 : Nat) : Int) c).1]).length = m.objs.length + 1 := by simp
  refine ⟨hm.P, hm.lays, fun x hx => ?_, by show (m.objs ++ [_]).length ≤ _; rw [hlen]; omega⟩
  show MobOK m.lays (m.objs ++ [_]).length x
  rw [hlen]
  rcases List.mem_append.1 hx with hx | hx
  · obtain ⟨a, b, c, d, e⟩ := hm.objs x hx
    exact ⟨a, b, c, d, fun p hp => by have := e p hp; omega⟩
  · simp only [List.mem_singleton] at hx
    subst hx
    rw [hmay, hsz]
    refine ⟨⟨l, ?_, hm.lays.2 l (List.mem_of_getElem? hla), ?_⟩, ?_, rfl, rfl, ?_⟩
    · show m.lays[(((la + 1 : Nat) : Int).toNat) - 1]? = _
      rw [Int.toNat_natCast]; exact hla
    · show sizeL l ((((c : Nat) : Int).toNat : Nat) : Int) = ((List.replicate (l.fixed + c * l.record) 0).length, 0)
      rw [Int.toNat_natCast, hsz, List.length_replicate]
    · show 1 ≤ ((la + 1 : Nat) : Int).toNat
      omega
    · intro p hp
      have : (List.replicate (l.fixed + c * l.record) 0)[p]? = some 2 := hp
      rw [List.getElem?_replicate] at this
      split at this <;> cases this

theorem make_in [Extra] {w : World} {p t bO bW bK bT n rr la c : Nat} {m : MS} {lc : List LyC} {oc : List OC} {aL aS : Option Addr} {cL cS : Nat} {fr : List HProp} (hm' : MWF { m with objs := m.objs ++ [newM (rr : Int) ((la + 1 : Nat) : Int) (c : Int) n] }) (h2 : lc.map (·.2.2) = m.lays) (h3 : oc.map (·.ob) = m.objs) (hl1 : lc.length = m.lays.length)
    (H : Holds w (pts bO (row 50 [.int .i64 rr, .int .i64 ((la + 1 : Nat) : Int), .int .i64 c, .slice (some ⟨bW, 0, none⟩) n n, .slice (some ⟨bK, 0, none⟩) n n, .slice (some ⟨bT, 0, none⟩) n n, .bool true, .bool false, .bool false]) :: UL (.slice (some ⟨bW, 0, none⟩) n n) (List.replicate n 0) :: NL (.slice (some ⟨bK, 0, none⟩) n n) (List.replicate n 0) :: NL (.slice (some ⟨bT, 0, none⟩) n n) (List.replicate n 0) :: star (oc.map ocr) ::
      pts p (row 56 [pp t, .slice aL m.lays.length cL, .slice aS (m.objs.length + 1) cS]) :: RTR t m.P :: sls 101 4 (.slice aL m.lays.length cL) (bcells lc) :: star (lc.map bres) :: sls 51 1 (.slice aS (m.objs.length + 1) cS) ((oc.map fun x => pp x.ptr) ++ [pp bO]) :: fr)) :
    Holds w (MODEL p { m with objs := m.objs ++ [newM (rr : Int) ((la + 1 : Nat) : Int) (c : Int) n] } :: fr) := by
  have H1 : Holds w (star ((oc ++ [(⟨bO, .slice (some ⟨bW, 0, none⟩) n n, .slice (some ⟨bK, 0, none⟩) n n, .slice (some ⟨bT, 0, none⟩) n n, newM (rr : Int) ((la + 1 : Nat) : Int) (c : Int) n⟩ : OC)]).map ocr) :: pts p (row 56 [pp t, .slice aL m.lays.length cL, .slice aS (m.objs.length + 1) cS]) :: RTR t m.P :: sls 101 4 (.slice aL m.lays.length cL) (bcells lc) :: star (lc.map bres) :: sls 51 1 (.slice aS (m.objs.length + 1) cS) ((oc.map fun x => pp x.ptr) ++ [pp bO]) :: fr) := by
    refine (Holds.pick (g1 := oc) (g2 := []) rfl).2 ?_
    rw [List.append_nil]
    exact Holds.star.2 H
  replace H1 := Js [1,1,1,1,1,0] 0 H1
  exact MODEL_in (m := { m with objs := m.objs ++ [newM (rr : Int) ((la + 1 : Nat) : Int) (c : Int) n] }) (oc := oc ++ [(⟨bO, .slice (some ⟨bW, 0, none⟩) n n, .slice (some ⟨bK, 0, none⟩) n n, .slice (some ⟨bT, 0, none⟩) n n, newM (rr : Int) ((la + 1 : Nat) : Int) (c : Int) n⟩ : OC)]) hm' h2 (by rw [List.map_append, h3]; rfl) (by rw [List.map_append]; exact H1)

theorem Make15_spec [Extra] (p : Nat) (m : MS) (region lay count : Int) (hmay : (mayM m region lay count).2 = 0) (hf : m.objs.length < 100000) {w : World} {fr : List HProp} (H : Holds w (MODEL p m :: fr)) :
    Calls Tryz.prog 117 #[pp p, .int .i64 region, .int .i64 lay, .int .i64 count] w (ret fun v w' => v = .tuple #[] ∧ Holds w' (MODEL p (makeM m region lay count) :: fr)) := by
  refine calls_of Tryz.func117 rfl (by kernel_rfl) ?_
  refine J105 H ?_
  refine Jc rfl rfl (May15_spec p m region lay count H) ?_
  clear H; rintro v w ⟨rfl, H⟩
  have hr : makeM m region lay count = { m with objs := m.objs ++ [newM region lay count (mayM m region lay count).1] } := rfl
  rw [hr]
  obtain ⟨t, lc, oc, aL, cL, aO, cO, hm, h2, h3, hl1, hl2, H⟩ := MODEL_out H
  have hm' : MWF _ := MWF_make hmay hm hf
  rw [hr] at hm'
  obtain ⟨rr, la, c, l, rfl, rfl, rfl, hlv, hla, hmm, hsz, hlt⟩ := mayM_ok hmay
  have hn1 : (mayM m (rr : Int) ((la + 1 : Nat) : Int) (c : Int)).1 = l.fixed + c * l.record := by rw [hmm, hsz]
  rw [hmm, hsz] at hm' ⊢
  generalize l.fixed + c * l.record = n at *
  have z1 : zeros (cellsL (.int .u64 0)) n = ucells (List.replicate n 0) := by
    rw [show cellsL (.int .u64 0) = [.int .u64 0] from rfl, zeros1]; simp [ucells]
  have z2 : zeros (cellsL (.int .i64 0)) n = ncells (List.replicate n 0) := by
    rw [show cellsL (.int .i64 0) = [.int .i64 0] from rfl, zeros1]; simp [ncells]
  refine J197 H ?_
  clear H; intro w H
  refine J170 H ?_
  refine A_load1 4 [17, 20] H rfl (Wants.none rfl) rfl rfl (by kernel_rfl) ?_
  refine J45 H ?_
  refine J113 H ?_
  refine J161 H ?_
  refine J168 H ?_
  refine A_three 9 11 13 rfl rfl rfl (by kernel_rfl) (by repeat first | exact .nil | refine .cons (.inr H.at) ?_ | refine .cons (.inr H.mp) ?_ | refine .cons (.inl (by kernel_rfl)) ?_) (Wants.none rfl) (Wants.none rfl) (Wants.none rfl) (St_makeSlice H rfl rfl (by decide) (by omega) rfl ?_) (St_makeSlice H rfl rfl (by decide) (by omega) rfl ?_) (St_makeSlice H rfl rfl (by decide) (by omega) rfl ?_)
  · clear H; intro bW w H
    rw [z1] at H
    refine A_two 11 13 rfl rfl (by kernel_rfl) (by repeat first | exact .nil | refine .cons (.inr H.at) ?_ | refine .cons (.inr H.mp) ?_ | refine .cons (.inl (by kernel_rfl)) ?_) (Wants.none rfl) (Wants.none rfl) (St_makeSlice H rfl rfl (by decide) (by omega) rfl ?_) (St_makeSlice H rfl rfl (by decide) (by omega) rfl ?_)
    · clear H; intro bK w H
      rw [z2] at H
      refine Jo 13 H ?_
      refine St_makeSlice H rfl rfl (by decide) (by omega) rfl ?_
      clear H; intro bT w H
      rw [z2] at H
      replace H := Js [2,1,0] 0 H
      refine J135 H ?_
      clear H; intro bO w H
      
      refine J136 H ?_
      clear H; intro bS w H
      replace H := Js [9,0,0,0,0,0,0,0,0,0,0] 0 H
      refine Jo 17 H ?_
      refine St_append H rfl rfl (by repeat (first | exact Reads.nil _ | apply Reads.cons rfl)) rfl (by decide) (by simp; omega) rfl rfl ?_
      clear H; intro vS w H
      obtain ⟨aS, cS, rfl⟩ := sls_slice H (m := m.objs.length + 1) (by simp [hl2]) (by decide)
      refine J137 H ?_
      clear H; intro w H
      refine J2 H ?_
      replace H := Js [2,2,2,2,6,2,2,2,2,0] 1 H
      exact fn_end0 _ (.inl rfl) (make_in hm' h2 h3 hl1 H) rfl fun w' H' => ⟨rfl, H'⟩
    · clear H; intro bT w H
      rw [z2] at H
      refine Jo 11 H ?_
      refine St_makeSlice H rfl rfl (by decide) (by omega) rfl ?_
      clear H; intro bK w H
      rw [z2] at H
      replace H := Js [2,0,0] 0 H
      refine J135 H ?_
      clear H; intro bO w H
      
      refine J136 H ?_
      clear H; intro bS w H
      replace H := Js [9,0,0,0,0,0,0,0,0,0,0] 0 H
      refine Jo 17 H ?_
      refine St_append H rfl rfl (by repeat (first | exact Reads.nil _ | apply Reads.cons rfl)) rfl (by decide) (by simp; omega) rfl rfl ?_
      clear H; intro vS w H
      obtain ⟨aS, cS, rfl⟩ := sls_slice H (m := m.objs.length + 1) (by simp [hl2]) (by decide)
      refine J137 H ?_
      clear H; intro w H
      refine J2 H ?_
      replace H := Js [2,2,2,2,6,2,2,2,2,0] 1 H
      exact fn_end0 _ (.inl rfl) (make_in hm' h2 h3 hl1 H) rfl fun w' H' => ⟨rfl, H'⟩
  · clear H; intro bK w H
    rw [z2] at H
    refine A_two 9 13 rfl rfl (by kernel_rfl) (by repeat first | exact .nil | refine .cons (.inr H.at) ?_ | refine .cons (.inr H.mp) ?_ | refine .cons (.inl (by kernel_rfl)) ?_) (Wants.none rfl) (Wants.none rfl) (St_makeSlice H rfl rfl (by decide) (by omega) rfl ?_) (St_makeSlice H rfl rfl (by decide) (by omega) rfl ?_)
    · clear H; intro bW w H
      rw [z1] at H
      refine Jo 13 H ?_
      refine St_makeSlice H rfl rfl (by decide) (by omega) rfl ?_
      clear H; intro bT w H
      rw [z2] at H
      replace H := Js [1,1,0] 0 H
      refine J135 H ?_
      clear H; intro bO w H
      
      refine J136 H ?_
      clear H; intro bS w H
      replace H := Js [9,0,0,0,0,0,0,0,0,0,0] 0 H
      refine Jo 17 H ?_
      refine St_append H rfl rfl (by repeat (first | exact Reads.nil _ | apply Reads.cons rfl)) rfl (by decide) (by simp; omega) rfl rfl ?_
      clear H; intro vS w H
      obtain ⟨aS, cS, rfl⟩ := sls_slice H (m := m.objs.length + 1) (by simp [hl2]) (by decide)
      refine J137 H ?_
      clear H; intro w H
      refine J2 H ?_
      replace H := Js [2,2,2,2,6,2,2,2,2,0] 1 H
      exact fn_end0 _ (.inl rfl) (make_in hm' h2 h3 hl1 H) rfl fun w' H' => ⟨rfl, H'⟩
    · clear H; intro bT w H
      rw [z2] at H
      refine Jo 9 H ?_
      refine St_makeSlice H rfl rfl (by decide) (by omega) rfl ?_
      clear H; intro bW w H
      rw [z1] at H
      replace H := Js [0,1,0] 0 H
      refine J135 H ?_
      clear H; intro bO w H
      
      refine J136 H ?_
      clear H; intro bS w H
      replace H := Js [9,0,0,0,0,0,0,0,0,0,0] 0 H
      refine Jo 17 H ?_
      refine St_append H rfl rfl (by repeat (first | exact Reads.nil _ | apply Reads.cons rfl)) rfl (by decide) (by simp; omega) rfl rfl ?_
      clear H; intro vS w H
      obtain ⟨aS, cS, rfl⟩ := sls_slice H (m := m.objs.length + 1) (by simp [hl2]) (by decide)
      refine J137 H ?_
      clear H; intro w H
      refine J2 H ?_
      replace H := Js [2,2,2,2,6,2,2,2,2,0] 1 H
      exact fn_end0 _ (.inl rfl) (make_in hm' h2 h3 hl1 H) rfl fun w' H' => ⟨rfl, H'⟩
  · clear H; intro bT w H
    rw [z2] at H
    refine A_two 9 11 rfl rfl (by kernel_rfl) (by repeat first | exact .nil | refine .cons (.inr H.at) ?_ | refine .cons (.inr H.mp) ?_ | refine .cons (.inl (by kernel_rfl)) ?_) (Wants.none rfl) (Wants.none rfl) (St_makeSlice H rfl rfl (by decide) (by omega) rfl ?_) (St_makeSlice H rfl rfl (by decide) (by omega) rfl ?_)
    · clear H; intro bW w H
      rw [z1] at H
      refine Jo 11 H ?_
      refine St_makeSlice H rfl rfl (by decide) (by omega) rfl ?_
      clear H; intro bK w H
      rw [z2] at H
      replace H := Js [1,0,0] 0 H
      refine J135 H ?_
      clear H; intro bO w H
      
      refine J136 H ?_
      clear H; intro bS w H
      replace H := Js [9,0,0,0,0,0,0,0,0,0,0] 0 H
      refine Jo 17 H ?_
      refine St_append H rfl rfl (by repeat (first | exact Reads.nil _ | apply Reads.cons rfl)) rfl (by decide) (by simp; omega) rfl rfl ?_
      clear H; intro vS w H
      obtain ⟨aS, cS, rfl⟩ := sls_slice H (m := m.objs.length + 1) (by simp [hl2]) (by decide)
      refine J137 H ?_
      clear H; intro w H
      refine J2 H ?_
      replace H := Js [2,2,2,2,6,2,2,2,2,0] 1 H
      exact fn_end0 _ (.inl rfl) (make_in hm' h2 h3 hl1 H) rfl fun w' H' => ⟨rfl, H'⟩
    · clear H; intro bK w H
      rw [z2] at H
      refine Jo 9 H ?_
      refine St_makeSlice H rfl rfl (by decide) (by omega) rfl ?_
      clear H; intro bW w H
      rw [z1] at H
      replace H := Js [0,0,0] 0 H
      refine J135 H ?_
      clear H; intro bO w H
      
      refine J136 H ?_
      clear H; intro bS w H
      replace H := Js [9,0,0,0,0,0,0,0,0,0,0] 0 H
      refine Jo 17 H ?_
      refine St_append H rfl rfl (by repeat (first | exact Reads.nil _ | apply Reads.cons rfl)) rfl (by decide) (by simp; omega) rfl rfl ?_
      clear H; intro vS w H
      obtain ⟨aS, cS, rfl⟩ := sls_slice H (m := m.objs.length + 1) (by simp [hl2]) (by decide)
      refine J137 H ?_
      clear H; intro w H
      refine J2 H ?_
      replace H := Js [2,2,2,2,6,2,2,2,2,0] 1 H
      exact fn_end0 _ (.inl rfl) (make_in hm' h2 h3 hl1 H) rfl fun w' H' => ⟨rfl, H'⟩
end Go.Proofs.YtcaaojbnjfdglaaGreatDoor
namespace Go.Proofs.YtcaaojbnjfdglaaGreatDoor
open Go.SL

@[reducible] def evl (e : Ent) : List Value := [.int .i64 e.addr, .int .i64 e.region, .bool e.held, .bool e.pinned]
def tval (t : Slt) : List Value := match t.ent with
  | none => [.int .i64 t.gen, .bool false, .int .i64 0, .int .i64 0, .bool false, .bool false]
  | some e => [.int .i64 t.gen, .bool true, .int .i64 e.addr, .int .i64 e.region, .bool e.held, .bool e.pinned]
theorem tval_len (t : Slt) : (tval t).length = 6 := by unfold tval; split <;> rfl
theorem tval_gen (t : Slt) : (tval t)[0]? = some (.int .i64 t.gen) := by unfold tval; split <;> rfl
theorem tval_used (t : Slt) : (tval t)[1]? = some (.bool t.ent.isSome) := by
  unfold tval
  split
  · rename_i h; rw [h]; rfl
  · rename_i h; rw [h]; rfl
def busy (t : Slt) : Bool := t.ent.isSome || t.gen == 255
def goneT (ts : List Slt) : Nat := (ts.filter fun t => t.ent.isNone && t.gen == 255).length
def busyT (ts : List Slt) : Nat := (ts.filter busy).length

structure TabOk (ts : List Slt) (x : Nat) : Prop where
  bits : Bits ts.length x
  bit : ∀ (i : Nat) (t : Slt), ts[i]? = some t → x.testBit i = busy t
  gen : ∀ (i : Nat) (t : Slt), ts[i]? = some t → t.gen ≤ 255

theorem cnt_filter {α : Type} {ts : List α} {f : α → Bool} {x : Nat} (h : ∀ (i : Nat) (t : α), ts[i]? = some t → x.testBit i = f t) : cntB ts.length x = (ts.filter f).length := by
  unfold cntB
  have e2 : ∀ (l : List α) (k : Nat), (∀ (i : Nat) (t : α), l[i]? = some t → x.testBit (k + i) = f t) → ((List.range' k l.length).filter fun i => x.testBit i).length = (l.filter f).length := by
    intro l
    induction l with
    | nil => intro k _; rfl
    | cons a l ih =>
      intro k hk
      have h0 := hk 0 a rfl
      have hr := ih (k + 1) (fun i t ht => by rw [show k + 1 + i = k + (i + 1) by omega]; exact hk (i + 1) t (by simpa using ht))
      rw [List.length_cons, List.range'_succ, List.filter_cons, List.filter_cons]
      rw [Nat.add_zero] at h0
      rw [h0]
      split
      · simp [hr]
      · exact hr
  rw [List.range_eq_range']
  exact e2 ts 0 (fun i t ht => by rw [Nat.zero_add]; exact h i t ht)
theorem TabOk.cnt {ts : List Slt} {x : Nat} (h : TabOk ts x) : cntB ts.length x = busyT ts := cnt_filter h.bit

def TAB (p : Nat) (ts : List Slt) : HProp := ex fun q : Value × Nat × Nat => star [prop (TabOk ts q.2.2), pts p (row 183 [q.1, pp q.2.1, .int .i64 (goneT ts)]), sls 193 6 q.1 (ts.flatMap tval), BM1 q.2.1 ts.length q.2.2]
theorem TAB_out [Extra] {w : World} {p : Nat} {ts : List Slt} {l : List HProp} (H : Holds w (TAB p ts :: l)) : ∃ b c s u x, TabOk ts x ∧ ts.length ≤ c ∧
    Holds w (pts p (row 183 [.slice (some ⟨b, 0, none⟩) ts.length c, pp u, .int .i64 (goneT ts)]) :: pts b (row 193 (ts.flatMap tval ++ s)) :: BM1 u ts.length x :: l) ∧
    ∀ w' l' ts' x', ts'.length = ts.length → goneT ts' = goneT ts → TabOk ts' x' → Holds w' (pts p (row 183 [.slice (some ⟨b, 0, none⟩) ts.length c, pp u, .int .i64 (goneT ts)]) :: pts b (row 193 (ts'.flatMap tval ++ s)) :: BM1 u ts.length x' :: l') → Holds w' (TAB p ts' :: l') := by
  obtain ⟨⟨v, u, x⟩, H⟩ := Holds.ex.1 H
  have H := Holds.star.1 H
  obtain ⟨h, H⟩ := Holds.prop.1 H
  replace H : Holds w (pts p (row 183 [v, pp u, .int .i64 (goneT ts)]) :: sls 193 6 v (ts.flatMap tval) :: BM1 u ts.length x :: l) := H
  obtain ⟨a, c, rfl⟩ := sls_slice H.drop (flat_len tval_len ts) (by decide)
  obtain ⟨b, s, rfl, H, hcap, hsp, hclose⟩ := sls_open2 H.swap h.bits.pos
  refine ⟨b, c, s, u, x, h, hcap, H.swap, fun w' l' ts' x' e1 e2 h' H' => ?_⟩
  have H' := hclose w' _ (ts'.flatMap tval) (by rw [flat_len tval_len, flat_len tval_len, e1]) H'.swap
  refine Holds.ex.2 ⟨(.slice (some ⟨b, 0, none⟩) ts.length c, u, x'), Holds.star.2 (Holds.prop.2 ⟨h', ?_⟩)⟩
  show Holds w' (pts p (row 183 [_, pp u, .int .i64 (goneT ts')]) :: sls 193 6 _ _ :: BM1 u ts'.length x' :: l')
  rw [e1, e2]
  exact H'.swap
theorem tNew_spec [Extra] (n : Nat) (h1 : 1 ≤ n) (h2 : n ≤ 63) {w : World} {fr : List HProp} (H : Holds w fr) :
    Calls Tryz.prog 103 #[.int .i64 n] w (ret fun v w' => ∃ p, v = .tuple #[pp p, .int .i64 0] ∧ Holds w' (TAB p (List.replicate n ⟨0, none⟩) :: fr)) := by
  refine calls_of Tryz.func103 rfl (by kernel_rfl) ?_
  refine J3 H ?_
  refine J5 H ?_
  rw [show decide ((n : Int) < 1) = false from decide_eq_false (by omega)]
  refine J48 H ?_
  rw [show decide ((n : Int) > 4096) = false from decide_eq_false (by omega)]
  refine J20 H ?_
  refine J16 H ?_
  refine Jc rfl rfl (bNew_spec n (by omega) (by omega) H) ?_
  clear H; rintro v w ⟨u, rfl, H⟩
  refine J53 H ?_
  refine J16 H ?_
  refine Lp_s rfl (St_makeSlice H rfl rfl (by decide) (by omega) rfl ?_)
  clear H; intro b18 w H
  refine J9 H ?_
  refine J49 H ?_
  clear H; intro b21 w H
  refine J4 H ?_
  have hz : zeros (cellsL (.agg #[.int .i64 0, .bool false, .int .i64 0, .int .i64 0, .bool false, .bool false])) n = (List.replicate n (⟨0, none⟩ : Slt)).flatMap tval := by
    clear H
    clear h1 h2
    induction n with
    | zero => rfl
    | succ n ih => show _ ++ zeros _ n = _; rw [ih, List.replicate_succ, List.flatMap_cons]; rfl
  have hlen : (List.replicate n (⟨0, none⟩ : Slt)).length = n := by simp
  have hgone : goneT (List.replicate n (⟨0, none⟩ : Slt)) = 0 := by
    unfold goneT
    rw [List.filter_eq_nil_iff.2 (fun t ht => by rw [List.eq_of_mem_replicate ht]; simp)]
    rfl
  have hok : TabOk (List.replicate n (⟨0, none⟩ : Slt)) 0 := by
    refine ⟨by rw [hlen]; exact ⟨by omega, h2, Nat.two_pow_pos _⟩, fun i t ht => ?_, fun i t ht => ?_⟩
    · rw [List.eq_of_mem_replicate (List.mem_of_getElem? ht), Nat.zero_testBit]; rfl
    · rw [List.eq_of_mem_replicate (List.mem_of_getElem? ht)]; simp
  have hbm : BM u n (List.replicate ((n + 63) / 64) 0) 0 = BM1 u n 0 := by
    rw [show (n + 63) / 64 = 1 by omega]
    have : cntB n 0 = 0 := by
      unfold cntB
      rw [List.filter_eq_nil_iff.2 (fun i _ => by simp)]
      rfl
    show BM u n [0] 0 = BM u n [0] (cntB n 0)
    rw [this]
  rw [hz, hbm] at H
  refine C_ret (Jy H rfl fun w' H' => ⟨_, rfl, Holds.ex.2 ⟨(.slice (some ⟨b18, 0, none⟩) n n, u, 0), Holds.star.2 (Holds.prop.2 ⟨hok, ?_⟩)⟩⟩)
  show Holds w' (pts b21 (row 183 [_, pp u, .int .i64 (goneT (List.replicate n (⟨0, none⟩ : Slt)))]) :: sls 193 6 _ _ :: BM1 u (List.replicate n (⟨0, none⟩ : Slt)).length 0 :: fr)
  rw [hgone, hlen]
  exact H'

theorem Left_spec [Extra] (p : Nat) (ts : List Slt) {w : World} {fr : List HProp} (H : Holds w (TAB p ts :: fr)) :
    Calls Tryz.prog 41 #[pp p] w (ret fun v w' => v = .int .i64 ((ts.length - busyT ts : Nat) : Int) ∧ Holds w' (TAB p ts :: fr)) := by
  obtain ⟨b, c, s, u, x, hok, hc, H, hclose⟩ := TAB_out H
  have hb := hok.bits.le
  have hcnt := hok.cnt
  have hle := cntB_le ts.length x
  refine calls_of Tryz.func41 rfl (by kernel_rfl) ?_
  refine J201 H ?_
  clear H; intro w H
  refine J158 H ?_
  refine A_lenSlice 4 rfl (Wants.none rfl) rfl (by kernel_rfl) ?_
  refine J45 H ?_
  refine J106 H ?_
  refine A_load1 8 [9] H rfl (Wants.none rfl) rfl rfl (by kernel_rfl) ?_
  replace H := Js [2,0,0] 0 H
  refine Jo 9 H ?_
  refine Jk rfl rfl (Count_spec u _ _ _ H) ?_
  clear H; rintro v w ⟨rfl, H⟩
  refine J200 H ?_
  replace H := Js [1,1,0] 0 H
  refine C_ret (Jy (hclose _ _ ts x rfl rfl hok H) rfl fun w' H' => ⟨?_, H'⟩)
  show Value.int .i64 (IntKind.i64.wrap ((ts.length : Int) - (cntB ts.length x : Int))) = _
  rw [wrap64 (by omega) (by omega), ← hcnt]
  congr 1
  omega
end Go.Proofs.YtcaaojbnjfdglaaGreatDoor
namespace Go.Proofs.YtcaaojbnjfdglaaGreatDoor
open Go.SL

@[reducible] def tkI2 (i g : Int) : Value := .agg #[.int .i64 i, .int .i64 g]

theorem lookT_none {ts : List Slt} {i g : Int} (h : lookT ts i g = none) : i < 0 ∨ (ts.length : Int) ≤ i ∨ ∃ (k : Nat) (t : Slt), i = k ∧ ts[k]? = some t ∧ (t.ent = none ∨ (t.ent.isSome = true ∧ (t.gen : Int) ≠ g)) := by
  by_cases h0 : i < 0
  · exact .inl h0
  by_cases h1 : (ts.length : Int) ≤ i
  · exact .inr (.inl h1)
  refine .inr (.inr ?_)
  obtain ⟨k, rfl⟩ : ∃ k : Nat, i = k := ⟨i.toNat, by omega⟩
  have hk := List.getElem?_eq_getElem (l := ts) (i := k) (by omega)
  generalize ts[k]'(by omega) = t at hk
  refine ⟨k, t, rfl, hk, ?_⟩
  obtain ⟨n, e⟩ := t
  cases e with
  | none => exact .inl rfl
  | some e =>
    refine .inr ⟨rfl, fun hg => ?_⟩
    rw [(lookT_some (k := k) (e := e)).2 ⟨n, rfl, hg.symm, hk⟩] at h
    cases h

theorem find_open [Extra] (p b c u : Nat) (go : Value) (hgo : go.oneCell' = true) (ts : List Slt) (s : List Value) (hlen : ts.length ≤ 63) (i g : Int) {w : World} {fr : List HProp} (H : Holds w (pts p (row 183 [.slice (some ⟨b, 0, none⟩) ts.length c, pp u, go]) :: pts b (row 193 (ts.flatMap tval ++ s)) :: fr)) :
    Calls Tryz.prog 112 #[pp p, tkI2 i g] w (ret fun v w' => v = (match lookT ts i g with | some (k, _) => .tuple #[.pointer (some ⟨b, k * 6, none⟩), .int .i64 0] | none => .tuple #[.pointer none, .int .i64 8]) ∧
      Holds w' (pts p (row 183 [.slice (some ⟨b, 0, none⟩) ts.length c, pp u, go]) :: pts b (row 193 (ts.flatMap tval ++ s)) :: fr)) := by
  refine calls_of Tryz.func112 rfl (by kernel_rfl) ?_
  refine J6 H ?_
  clear H; intro b3 w H
  refine J223 H ?_
  cases hL : lookT ts i g with
  | some q =>
    obtain ⟨k, e⟩ := q
    obtain ⟨n, rfl, rfl, hk⟩ := lookT_some.1 hL
    have hkl : k < ts.length := (List.getElem?_eq_some_iff.1 hk).1
    have c1 : (ts.flatMap tval ++ s)[k * 6 + 1]? = some (.bool true) := flat_get tval_len hk rfl
    have c0 : (ts.flatMap tval ++ s)[k * 6 + 0]? = some (.int .i64 n) := flat_get tval_len hk rfl
    have ei : 0 + ((k : Nat) : Int).toNat * 6 = k * 6 := by simp
    refine J1 H ?_
    clear H; intro w H
    refine J96 H ?_
    rw [show decide ((k : Int) < 0) = false from decide_eq_false (by omega)]
    refine J46 H ?_
    refine A_fieldAddr 4 rfl (Wants.of rfl rfl rfl) rfl (by kernel_rfl) ?_
    refine J268 H ?_
    refine J241 H ?_
    refine J242 H ?_
    refine A_fieldAddr 8 rfl (Wants.of rfl rfl rfl) rfl (by kernel_rfl) ?_
    refine J243 H ?_
    refine A_lenSlice 10 rfl (Wants.of rfl rfl rfl) rfl (by kernel_rfl) ?_
    refine J138 H ?_
    rw [show decide ((k : Int) ≥ (ts.length : Int)) = false from decide_eq_false (by omega)]
    refine J56 H ?_
    refine J139 H ?_
    refine J244 H ?_
    refine A_load1 17 [] H rfl (Wants.of rfl rfl rfl) rfl rfl (by kernel_rfl) ?_
    refine J245 H ?_
    refine A_indexAddr 20 rfl (Wants.of rfl rfl rfl) rfl rfl (by omega) (by omega) (by kernel_rfl) ?_
    rw [ei]
    refine A_fieldAddr 21 rfl (Wants.of rfl rfl rfl) rfl (by kernel_rfl) ?_
    refine A_load1 22 [] H rfl (Wants.of rfl rfl rfl) rfl c1 (by kernel_rfl) ?_
    refine J246 H ?_
    refine J140 H ?_
    refine J247 H ?_
    refine A_pv 27 rfl (Wants.of rfl rfl rfl) rfl (by kernel_rfl) ?_
    refine A_fieldAddr 28 rfl (Wants.of rfl rfl rfl) rfl (by kernel_rfl) ?_
    refine A_load1 29 [] H rfl (Wants.of rfl rfl rfl) rfl rfl (by kernel_rfl) ?_
    refine A_fieldAddr 30 rfl (Wants.of rfl rfl rfl) rfl (by kernel_rfl) ?_
    refine A_load1 31 [] H rfl (Wants.of rfl rfl rfl) rfl rfl (by kernel_rfl) ?_
    refine A_indexAddr 32 rfl (Wants.of rfl rfl rfl) rfl rfl (by omega) (by omega) (by kernel_rfl) ?_
    rw [ei]
    refine A_fieldAddr 33 rfl (Wants.of rfl rfl rfl) rfl (by kernel_rfl) ?_
    refine A_load1 34 [] H rfl (Wants.of rfl rfl rfl) rfl c0 (by kernel_rfl) ?_
    refine A_fieldAddr 35 rfl (Wants.of rfl rfl rfl) rfl (by kernel_rfl) ?_
    refine A_load1 36 [] H rfl (Wants.of rfl rfl rfl) rfl rfl (by kernel_rfl) ?_
    refine A_pv 37 rfl (Wants.of rfl rfl rfl) rfl (by kernel_rfl) ?_
    rw [show (((n : Nat) : Int) != (n : Int)) = false by simp]
    refine A_pv 38 rfl (Wants.none rfl) rfl (by kernel_rfl) ?_
    refine J121 H ?_
    refine J1 H ?_
    clear H; intro w H
    refine J158 H ?_
    refine J44 H ?_
    refine A_load1 5 [] H rfl (Wants.none rfl) rfl rfl (by kernel_rfl) ?_
    refine A_indexAddr 6 rfl (Wants.none rfl) rfl rfl (by omega) (by omega) (by kernel_rfl) ?_
    rw [ei]
    refine J67 H ?_
    refine J181 H ?_
    exact C_ret (Jy H.drop rfl fun w' H' => ⟨rfl, H'⟩)
  | none =>
    rcases lookT_none hL with h0 | h1 | ⟨k, t, rfl, hk, ht⟩
    · refine J1 H ?_
      clear H; intro w H
      refine J96 H ?_
      rw [show decide (i < 0) = true from decide_eq_true (by omega)]
      refine J46 H ?_
      refine A_no 4 rfl (Wants.of rfl rfl rfl) (fun c e => by cases e) (by kernel_rfl) ?_
      refine A_no 5 rfl (Wants.of rfl rfl rfl) (fun c e => by cases e) (by kernel_rfl) ?_
      refine A_no 6 rfl (Wants.of rfl rfl rfl) (fun c e => by cases e) (by kernel_rfl) ?_
      refine A_no 7 rfl (Wants.of rfl rfl rfl) (fun c e => by cases e) (by kernel_rfl) ?_
      refine A_no 8 rfl (Wants.of rfl rfl rfl) (fun c e => by cases e) (by kernel_rfl) ?_
      refine A_no 9 rfl (Wants.of rfl rfl rfl) (fun c e => by cases e) (by kernel_rfl) ?_
      refine A_no 10 rfl (Wants.of rfl rfl rfl) (fun c e => by cases e) (by kernel_rfl) ?_
      refine A_no 11 rfl (Wants.of rfl rfl rfl) (fun c e => by cases e) (by kernel_rfl) ?_
      refine J56 H ?_
      refine A_no 14 rfl (Wants.of rfl rfl rfl) (fun c e => by cases e) (by kernel_rfl) ?_
      refine A_no 15 rfl (Wants.of rfl rfl rfl) (fun c e => by cases e) (by kernel_rfl) ?_
      refine A_no 16 rfl (Wants.of rfl rfl rfl) (fun c e => by cases e) (by kernel_rfl) ?_
      refine A_no 17 rfl (Wants.of rfl rfl rfl) (fun c e => by cases e) (by kernel_rfl) ?_
      refine A_no 18 rfl (Wants.of rfl rfl rfl) (fun c e => by cases e) (by kernel_rfl) ?_
      refine A_no 19 rfl (Wants.of rfl rfl rfl) (fun c e => by cases e) (by kernel_rfl) ?_
      refine A_no 20 rfl (Wants.of rfl rfl rfl) (fun c e => by cases e) (by kernel_rfl) ?_
      refine A_no 21 rfl (Wants.of rfl rfl rfl) (fun c e => by cases e) (by kernel_rfl) ?_
      refine A_no 22 rfl (Wants.of rfl rfl rfl) (fun c e => by cases e) (by kernel_rfl) ?_
      refine A_no 23 rfl (Wants.of rfl rfl rfl) (fun c e => by cases e) (by kernel_rfl) ?_
      refine J140 H ?_
      refine A_no 26 rfl (Wants.of rfl rfl rfl) (fun c e => by cases e) (by kernel_rfl) ?_
      refine A_no 27 rfl (Wants.of rfl rfl rfl) (fun c e => by cases e) (by kernel_rfl) ?_
      refine A_no 28 rfl (Wants.of rfl rfl rfl) (fun c e => by cases e) (by kernel_rfl) ?_
      refine A_no 29 rfl (Wants.of rfl rfl rfl) (fun c e => by cases e) (by kernel_rfl) ?_
      refine A_no 30 rfl (Wants.of rfl rfl rfl) (fun c e => by cases e) (by kernel_rfl) ?_
      refine A_no 31 rfl (Wants.of rfl rfl rfl) (fun c e => by cases e) (by kernel_rfl) ?_
      refine A_no 32 rfl (Wants.of rfl rfl rfl) (fun c e => by cases e) (by kernel_rfl) ?_
      refine A_no 33 rfl (Wants.of rfl rfl rfl) (fun c e => by cases e) (by kernel_rfl) ?_
      refine A_no 34 rfl (Wants.of rfl rfl rfl) (fun c e => by cases e) (by kernel_rfl) ?_
      refine A_no 35 rfl (Wants.of rfl rfl rfl) (fun c e => by cases e) (by kernel_rfl) ?_
      refine A_no 36 rfl (Wants.of rfl rfl rfl) (fun c e => by cases e) (by kernel_rfl) ?_
      refine A_no 37 rfl (Wants.of rfl rfl rfl) (fun c e => by cases e) (by kernel_rfl) ?_
      refine J182 H ?_
      exact C_ret (Jy H.drop rfl fun w' H' => ⟨rfl, H'⟩)
    · by_cases h0 : i < 0
      · refine J1 H ?_
        clear H; intro w H
        refine J96 H ?_
        rw [show decide (i < 0) = true from decide_eq_true (by omega)]
        refine J46 H ?_
        refine A_no 4 rfl (Wants.of rfl rfl rfl) (fun c e => by cases e) (by kernel_rfl) ?_
        refine A_no 5 rfl (Wants.of rfl rfl rfl) (fun c e => by cases e) (by kernel_rfl) ?_
        refine A_no 6 rfl (Wants.of rfl rfl rfl) (fun c e => by cases e) (by kernel_rfl) ?_
        refine A_no 7 rfl (Wants.of rfl rfl rfl) (fun c e => by cases e) (by kernel_rfl) ?_
        refine A_no 8 rfl (Wants.of rfl rfl rfl) (fun c e => by cases e) (by kernel_rfl) ?_
        refine A_no 9 rfl (Wants.of rfl rfl rfl) (fun c e => by cases e) (by kernel_rfl) ?_
        refine A_no 10 rfl (Wants.of rfl rfl rfl) (fun c e => by cases e) (by kernel_rfl) ?_
        refine A_no 11 rfl (Wants.of rfl rfl rfl) (fun c e => by cases e) (by kernel_rfl) ?_
        refine J56 H ?_
        refine A_no 14 rfl (Wants.of rfl rfl rfl) (fun c e => by cases e) (by kernel_rfl) ?_
        refine A_no 15 rfl (Wants.of rfl rfl rfl) (fun c e => by cases e) (by kernel_rfl) ?_
        refine A_no 16 rfl (Wants.of rfl rfl rfl) (fun c e => by cases e) (by kernel_rfl) ?_
        refine A_no 17 rfl (Wants.of rfl rfl rfl) (fun c e => by cases e) (by kernel_rfl) ?_
        refine A_no 18 rfl (Wants.of rfl rfl rfl) (fun c e => by cases e) (by kernel_rfl) ?_
        refine A_no 19 rfl (Wants.of rfl rfl rfl) (fun c e => by cases e) (by kernel_rfl) ?_
        refine A_no 20 rfl (Wants.of rfl rfl rfl) (fun c e => by cases e) (by kernel_rfl) ?_
        refine A_no 21 rfl (Wants.of rfl rfl rfl) (fun c e => by cases e) (by kernel_rfl) ?_
        refine A_no 22 rfl (Wants.of rfl rfl rfl) (fun c e => by cases e) (by kernel_rfl) ?_
        refine A_no 23 rfl (Wants.of rfl rfl rfl) (fun c e => by cases e) (by kernel_rfl) ?_
        refine J140 H ?_
        refine A_no 26 rfl (Wants.of rfl rfl rfl) (fun c e => by cases e) (by kernel_rfl) ?_
        refine A_no 27 rfl (Wants.of rfl rfl rfl) (fun c e => by cases e) (by kernel_rfl) ?_
        refine A_no 28 rfl (Wants.of rfl rfl rfl) (fun c e => by cases e) (by kernel_rfl) ?_
        refine A_no 29 rfl (Wants.of rfl rfl rfl) (fun c e => by cases e) (by kernel_rfl) ?_
        refine A_no 30 rfl (Wants.of rfl rfl rfl) (fun c e => by cases e) (by kernel_rfl) ?_
        refine A_no 31 rfl (Wants.of rfl rfl rfl) (fun c e => by cases e) (by kernel_rfl) ?_
        refine A_no 32 rfl (Wants.of rfl rfl rfl) (fun c e => by cases e) (by kernel_rfl) ?_
        refine A_no 33 rfl (Wants.of rfl rfl rfl) (fun c e => by cases e) (by kernel_rfl) ?_
        refine A_no 34 rfl (Wants.of rfl rfl rfl) (fun c e => by cases e) (by kernel_rfl) ?_
        refine A_no 35 rfl (Wants.of rfl rfl rfl) (fun c e => by cases e) (by kernel_rfl) ?_
        refine A_no 36 rfl (Wants.of rfl rfl rfl) (fun c e => by cases e) (by kernel_rfl) ?_
        refine A_no 37 rfl (Wants.of rfl rfl rfl) (fun c e => by cases e) (by kernel_rfl) ?_
        refine J182 H ?_
        exact C_ret (Jy H.drop rfl fun w' H' => ⟨rfl, H'⟩)
      · refine J1 H ?_
        clear H; intro w H
        refine J96 H ?_
        rw [show decide (i < 0) = false from decide_eq_false (by omega)]
        refine J46 H ?_
        refine A_fieldAddr 4 rfl (Wants.of rfl rfl rfl) rfl (by kernel_rfl) ?_
        refine J268 H ?_
        refine J241 H ?_
        refine J242 H ?_
        refine A_fieldAddr 8 rfl (Wants.of rfl rfl rfl) rfl (by kernel_rfl) ?_
        refine J243 H ?_
        refine A_lenSlice 10 rfl (Wants.of rfl rfl rfl) rfl (by kernel_rfl) ?_
        refine J138 H ?_
        rw [show decide (i ≥ (ts.length : Int)) = true from decide_eq_true (by omega)]
        refine J56 H ?_
        refine A_no 14 rfl (Wants.of rfl rfl rfl) (fun c e => by cases e) (by kernel_rfl) ?_
        refine A_no 15 rfl (Wants.of rfl rfl rfl) (fun c e => by cases e) (by kernel_rfl) ?_
        refine A_no 16 rfl (Wants.of rfl rfl rfl) (fun c e => by cases e) (by kernel_rfl) ?_
        refine A_no 17 rfl (Wants.of rfl rfl rfl) (fun c e => by cases e) (by kernel_rfl) ?_
        refine A_no 18 rfl (Wants.of rfl rfl rfl) (fun c e => by cases e) (by kernel_rfl) ?_
        refine A_no 19 rfl (Wants.of rfl rfl rfl) (fun c e => by cases e) (by kernel_rfl) ?_
        refine A_no 20 rfl (Wants.of rfl rfl rfl) (fun c e => by cases e) (by kernel_rfl) ?_
        refine A_no 21 rfl (Wants.of rfl rfl rfl) (fun c e => by cases e) (by kernel_rfl) ?_
        refine A_no 22 rfl (Wants.of rfl rfl rfl) (fun c e => by cases e) (by kernel_rfl) ?_
        refine A_no 23 rfl (Wants.of rfl rfl rfl) (fun c e => by cases e) (by kernel_rfl) ?_
        refine J140 H ?_
        refine A_no 26 rfl (Wants.of rfl rfl rfl) (fun c e => by cases e) (by kernel_rfl) ?_
        refine A_no 27 rfl (Wants.of rfl rfl rfl) (fun c e => by cases e) (by kernel_rfl) ?_
        refine A_no 28 rfl (Wants.of rfl rfl rfl) (fun c e => by cases e) (by kernel_rfl) ?_
        refine A_no 29 rfl (Wants.of rfl rfl rfl) (fun c e => by cases e) (by kernel_rfl) ?_
        refine A_no 30 rfl (Wants.of rfl rfl rfl) (fun c e => by cases e) (by kernel_rfl) ?_
        refine A_no 31 rfl (Wants.of rfl rfl rfl) (fun c e => by cases e) (by kernel_rfl) ?_
        refine A_no 32 rfl (Wants.of rfl rfl rfl) (fun c e => by cases e) (by kernel_rfl) ?_
        refine A_no 33 rfl (Wants.of rfl rfl rfl) (fun c e => by cases e) (by kernel_rfl) ?_
        refine A_no 34 rfl (Wants.of rfl rfl rfl) (fun c e => by cases e) (by kernel_rfl) ?_
        refine A_no 35 rfl (Wants.of rfl rfl rfl) (fun c e => by cases e) (by kernel_rfl) ?_
        refine A_no 36 rfl (Wants.of rfl rfl rfl) (fun c e => by cases e) (by kernel_rfl) ?_
        refine A_no 37 rfl (Wants.of rfl rfl rfl) (fun c e => by cases e) (by kernel_rfl) ?_
        refine J182 H ?_
        exact C_ret (Jy H.drop rfl fun w' H' => ⟨rfl, H'⟩)
    · have hkl : k < ts.length := (List.getElem?_eq_some_iff.1 hk).1
      have c1 : (ts.flatMap tval ++ s)[k * 6 + 1]? = some (.bool t.ent.isSome) := flat_get tval_len hk (tval_used t)
      have c0 : (ts.flatMap tval ++ s)[k * 6 + 0]? = some (.int .i64 t.gen) := flat_get tval_len hk (tval_gen t)
      have ei : 0 + ((k : Nat) : Int).toNat * 6 = k * 6 := by simp
      refine J1 H ?_
      clear H; intro w H
      refine J96 H ?_
      rw [show decide ((k : Int) < 0) = false from decide_eq_false (by omega)]
      refine J46 H ?_
      refine A_fieldAddr 4 rfl (Wants.of rfl rfl rfl) rfl (by kernel_rfl) ?_
      refine J268 H ?_
      refine J241 H ?_
      refine J242 H ?_
      refine A_fieldAddr 8 rfl (Wants.of rfl rfl rfl) rfl (by kernel_rfl) ?_
      refine J243 H ?_
      refine A_lenSlice 10 rfl (Wants.of rfl rfl rfl) rfl (by kernel_rfl) ?_
      refine J138 H ?_
      rw [show decide ((k : Int) ≥ (ts.length : Int)) = false from decide_eq_false (by omega)]
      refine J56 H ?_
      refine J139 H ?_
      refine J244 H ?_
      refine A_load1 17 [] H rfl (Wants.of rfl rfl rfl) rfl rfl (by kernel_rfl) ?_
      refine J245 H ?_
      refine A_indexAddr 20 rfl (Wants.of rfl rfl rfl) rfl rfl (by omega) (by omega) (by kernel_rfl) ?_
      rw [ei]
      refine A_fieldAddr 21 rfl (Wants.of rfl rfl rfl) rfl (by kernel_rfl) ?_
      refine A_load1 22 [] H rfl (Wants.of rfl rfl rfl) rfl c1 (by kernel_rfl) ?_
      rcases ht with ht | ⟨ht, hne⟩
      · rw [ht]
        refine J246 H ?_
        refine J140 H ?_
        refine A_no 26 rfl (Wants.of rfl rfl rfl) (fun c e => by cases e) (by kernel_rfl) ?_
        refine A_no 27 rfl (Wants.of rfl rfl rfl) (fun c e => by cases e) (by kernel_rfl) ?_
        refine A_no 28 rfl (Wants.of rfl rfl rfl) (fun c e => by cases e) (by kernel_rfl) ?_
        refine A_no 29 rfl (Wants.of rfl rfl rfl) (fun c e => by cases e) (by kernel_rfl) ?_
        refine A_no 30 rfl (Wants.of rfl rfl rfl) (fun c e => by cases e) (by kernel_rfl) ?_
        refine A_no 31 rfl (Wants.of rfl rfl rfl) (fun c e => by cases e) (by kernel_rfl) ?_
        refine A_no 32 rfl (Wants.of rfl rfl rfl) (fun c e => by cases e) (by kernel_rfl) ?_
        refine A_no 33 rfl (Wants.of rfl rfl rfl) (fun c e => by cases e) (by kernel_rfl) ?_
        refine A_no 34 rfl (Wants.of rfl rfl rfl) (fun c e => by cases e) (by kernel_rfl) ?_
        refine A_no 35 rfl (Wants.of rfl rfl rfl) (fun c e => by cases e) (by kernel_rfl) ?_
        refine A_no 36 rfl (Wants.of rfl rfl rfl) (fun c e => by cases e) (by kernel_rfl) ?_
        refine A_no 37 rfl (Wants.of rfl rfl rfl) (fun c e => by cases e) (by kernel_rfl) ?_
        refine J182 H ?_
        exact C_ret (Jy H.drop rfl fun w' H' => ⟨rfl, H'⟩)
      · rw [ht]
        refine J246 H ?_
        refine J140 H ?_
        refine J247 H ?_
        refine A_pv 27 rfl (Wants.of rfl rfl rfl) rfl (by kernel_rfl) ?_
        refine A_fieldAddr 28 rfl (Wants.of rfl rfl rfl) rfl (by kernel_rfl) ?_
        refine A_load1 29 [] H rfl (Wants.of rfl rfl rfl) rfl rfl (by kernel_rfl) ?_
        refine A_fieldAddr 30 rfl (Wants.of rfl rfl rfl) rfl (by kernel_rfl) ?_
        refine A_load1 31 [] H rfl (Wants.of rfl rfl rfl) rfl rfl (by kernel_rfl) ?_
        refine A_indexAddr 32 rfl (Wants.of rfl rfl rfl) rfl rfl (by omega) (by omega) (by kernel_rfl) ?_
        rw [ei]
        refine A_fieldAddr 33 rfl (Wants.of rfl rfl rfl) rfl (by kernel_rfl) ?_
        refine A_load1 34 [] H rfl (Wants.of rfl rfl rfl) rfl c0 (by kernel_rfl) ?_
        refine A_fieldAddr 35 rfl (Wants.of rfl rfl rfl) rfl (by kernel_rfl) ?_
        refine A_load1 36 [] H rfl (Wants.of rfl rfl rfl) rfl rfl (by kernel_rfl) ?_
        refine A_pv 37 rfl (Wants.of rfl rfl rfl) rfl (by kernel_rfl) ?_
        rw [show (((t.gen : Nat) : Int) != g) = true by simpa using hne]
        refine J182 H ?_
        exact C_ret (Jy H.drop rfl fun w' H' => ⟨rfl, H'⟩)
end Go.Proofs.YtcaaojbnjfdglaaGreatDoor
namespace Go.Proofs.YtcaaojbnjfdglaaGreatDoor
open Go.SL

theorem goneT_set {ts : List Slt} {k : Nat} {t t' : Slt} (hk : ts[k]? = some t) (hb : (t'.ent.isNone && t'.gen == 255) = (t.ent.isNone && t.gen == 255)) : goneT (ts.set k t') = goneT ts := by
  unfold goneT
  rw [set_split hk]
  conv => rhs; rw [split_at hk]
  rw [List.filter_append, List.filter_append, List.filter_cons, List.filter_cons, hb]
  split <;> simp
theorem TabOk.set {ts : List Slt} {x k : Nat} {t t' : Slt} (h : TabOk ts x) (hk : ts[k]? = some t) (hb : busy t' = busy t) (hg : t'.gen ≤ 255) : TabOk (ts.set k t') x := by
  refine ⟨by rw [List.length_set]; exact h.bits, fun i u hu => ?_, fun i u hu => ?_⟩
  · rcases tab_set hu with ⟨rfl, rfl, _⟩ | ⟨_, hu⟩
    · rw [hb]; exact h.bit _ _ hk
    · exact h.bit _ _ hu
  · rcases tab_set hu with ⟨rfl, rfl, _⟩ | ⟨_, hu⟩
    · exact hg
    · exact h.gen _ _ hu

theorem tGet_spec [Extra] (p : Nat) (ts : List Slt) (i g : Int) {w : World} {fr : List HProp} (H : Holds w (TAB p ts :: fr)) :
    Calls Tryz.prog 44 #[pp p, tkI2 i g] w (ret fun v w' => v = (match lookT ts i g with | some (_, e) => .tuple #[.agg (evl e).toArray, .int .i64 0] | none => .tuple #[.agg #[.int .i64 0, .int .i64 0, .bool false, .bool false], .int .i64 8]) ∧ Holds w' (TAB p ts :: fr)) := by
  obtain ⟨b, c, s, u, x, hok, hc, H, hclose⟩ := TAB_out H
  refine calls_of Tryz.func44 rfl (by kernel_rfl) ?_
  refine J6 H ?_
  clear H; intro b3 w H
  refine J19 H ?_
  clear H; intro b4 w H
  refine J90 H ?_
  replace H := Js [2,2,0,0,0] 0 H
  refine Jc rfl rfl (find_open p b c u _ rfl ts s hok.bits.le i g H) ?_
  clear H; rintro v w ⟨rfl, H⟩
  cases hL : lookT ts i g with
  | some q =>
    obtain ⟨k, e⟩ := q
    obtain ⟨n, rfl, rfl, hk⟩ := lookT_some.1 hL
    have hrd : Reads (ts.flatMap tval ++ s) (k * 6 + 2) 4 (evl e) := flat_reads (vs := evl e) tval_len hk (by repeat (first | exact Reads.nil _ | apply Reads.cons rfl))
    refine J31 H ?_
    refine J5 H ?_
    refine J63 H ?_
    refine Lp_s rfl (St_loadN H rfl hrd rfl ?_)
    refine J7 H ?_
    clear H; intro w H
    refine J0 H ?_
    replace H := Js [2,0,0,1] 1 H
    exact C_ret (Jz H (fun w' H' => .cellN H' rfl (by repeat (first | exact Reads.nil _ | apply Reads.cons rfl)) (.tmp .nil)) fun w' H' => ⟨rfl, hclose _ _ ts x rfl rfl hok H'.drop⟩)
  | none =>
    refine J55 H ?_
    refine J183 H ?_
    clear H; intro w H
    refine J0 H ?_
    replace H := Js [2,0,0,1] 1 H
    exact C_ret (Jz H (fun w' H' => .cellN H' rfl (by repeat (first | exact Reads.nil _ | apply Reads.cons rfl)) (.tmp .nil)) fun w' H' => ⟨rfl, hclose _ _ ts x rfl rfl hok H'.drop⟩)

theorem tSet_spec [Extra] (p : Nat) (ts : List Slt) (i g : Int) (e' : Ent) {w : World} {fr : List HProp} (H : Holds w (TAB p ts :: fr)) :
    Calls Tryz.prog 60 #[pp p, tkI2 i g, .agg (evl e').toArray] w (ret fun v w' => (∃ k e, lookT ts i g = some (k, e) ∧ v = .int .i64 0 ∧ Holds w' (TAB p (ts.set k ⟨g.toNat, some e'⟩) :: fr)) ∨ (lookT ts i g = none ∧ v = .int .i64 8 ∧ Holds w' (TAB p ts :: fr))) := by
  obtain ⟨b, c, s, u, x, hok, hc, H, hclose⟩ := TAB_out H
  refine calls_of Tryz.func60 rfl (by kernel_rfl) ?_
  refine J6 H ?_
  clear H; intro b4 w H
  refine J52 H ?_
  clear H; intro b5 w H
  refine J90 H ?_
  replace H := Js [2,2,0,0,0] 0 H
  refine Jc rfl rfl (find_open p b c u _ rfl ts s hok.bits.le i g H) ?_
  clear H; rintro v w ⟨rfl, H⟩
  cases hL : lookT ts i g with
  | some q =>
    obtain ⟨k, e⟩ := q
    obtain ⟨n, rfl, rfl, hk⟩ := lookT_some.1 hL
    refine J55 H ?_
    refine J12 H ?_
    refine C_join (fun ms σ w => ms = [] ∧ σ 8 = .int .i64 0 ∧ Holds w (TAB p (ts.set k ⟨n, some e'⟩) :: fr)) ?_ ?_
    · refine C_true rfl ?_
      refine J33 H ?_
      refine J9 H ?_
      refine J63 H ?_
      replace H := Js [1,0,0,0,0] 0 H
      have hlen := flat_len tval_len ts
      have hkl : k < ts.length := (List.getElem?_eq_some_iff.1 hk).1
      refine Lp_s rfl (St_storeN (vs := evl e') H rfl rfl inferInstance rfl rfl (by rw [List.length_append, hlen]; omega) rfl ?_)
      clear H; intro w H
      rw [flat_wr (x' := ⟨n, some e'⟩) tval_len hk (by simp) rfl] at H
      refine Lp_nil ?_
      replace H := Js [1,0,2] 2 H
      exact ⟨rfl, rfl, rfl, hclose _ _ (ts.set k ⟨n, some e'⟩) x (by simp) (goneT_set hk rfl) (hok.set hk rfl (by have := hok.gen _ _ hk; exact this)) H⟩
    · clear H
      rintro ms σ w ⟨rfl, g8, H⟩
      rw [upd_self g8]
      refine J3 H ?_
      exact C_ret (Jy H rfl fun w' H' => .inl ⟨k, e, rfl, rfl, H'⟩)
  | none =>
    refine J31 H ?_
    refine J3 H ?_
    replace H := Js [0,0,2] 2 H
    exact C_ret (Jy H rfl fun w' H' => .inr ⟨rfl, rfl, hclose _ _ ts x rfl rfl hok H'⟩)

theorem Used_spec [Extra] (p : Nat) (ts : List Slt) {w : World} {fr : List HProp} (H : Holds w (TAB p ts :: fr)) :
    Calls Tryz.prog 42 #[pp p] w (ret fun v w' => v = .int .i64 ((busyT ts - goneT ts : Nat) : Int) ∧ Holds w' (TAB p ts :: fr)) := by
  obtain ⟨b, c, s, u, x, hok, hc, H, hclose⟩ := TAB_out H
  have hb := hok.bits.le
  have hcnt := hok.cnt
  have hle := cntB_le ts.length x
  have hgb : goneT ts ≤ busyT ts := by
    unfold goneT busyT
    refine List.Sublist.length_le ?_
    have : ts.filter (fun t => t.ent.isNone && t.gen == 255) = (ts.filter busy).filter (fun t => t.ent.isNone && t.gen == 255) := by
      rw [List.filter_filter]
      apply List.filter_congr
      intro t _
      unfold busy
      cases t.ent <;> simp
    rw [this]
    exact List.filter_sublist
  refine calls_of Tryz.func42 rfl (by kernel_rfl) ?_
  refine J201 H ?_
  clear H; intro w H
  refine J15 H ?_
  refine A_load1 3 [4] H rfl (Wants.none rfl) rfl rfl (by kernel_rfl) ?_
  refine J45 H ?_
  refine J106 H ?_
  refine A_load1 8 [] H rfl (Wants.none rfl) rfl rfl (by kernel_rfl) ?_
  replace H := Js [2,0,0] 0 H
  refine Jo 4 H ?_
  refine Jk rfl rfl (Count_spec u _ _ _ H) ?_
  clear H; rintro v w ⟨rfl, H⟩
  refine J60 H ?_
  refine J119 H ?_
  replace H := Js [1,1,0] 0 H
  refine C_ret (Jy (hclose _ _ ts x rfl rfl hok H) rfl fun w' H' => ⟨?_, H'⟩)
  show Value.int .i64 (IntKind.i64.wrap ((cntB ts.length x : Int) - (goneT ts : Int))) = _
  rw [wrap64 (by omega) (by omega), ← hcnt]
  congr 1
  omega
end Go.Proofs.YtcaaojbnjfdglaaGreatDoor
namespace Go.Proofs.YtcaaojbnjfdglaaGreatDoor
open Go.SL

theorem tAt_spec [Extra] (p : Nat) (ts : List Slt) (k n : Nat) (e : Ent) (hk : ts[k]? = some ⟨n, some e⟩) {w : World} {fr : List HProp} (H : Holds w (TAB p ts :: fr)) :
    Calls Tryz.prog 98 #[pp p, .int .i64 k] w (ret fun v w' => v = .tuple #[tkn k n, .bool true] ∧ Holds w' (TAB p ts :: fr)) := by
  obtain ⟨b, c, s, u, x, hok, hc, H, hclose⟩ := TAB_out H
  have hb := hok.bits.le
  have hkl : k < ts.length := (List.getElem?_eq_some_iff.1 hk).1
  have c1 : (ts.flatMap tval ++ s)[k * 6 + 1]? = some (.bool true) := flat_get tval_len hk rfl
  have c0 : (ts.flatMap tval ++ s)[k * 6 + 0]? = some (.int .i64 n) := flat_get tval_len hk rfl
  have ei : 0 + ((k : Nat) : Int).toNat * 6 = k * 6 := by simp
  refine calls_of Tryz.func98 rfl (by kernel_rfl) ?_
  refine J18 H ?_
  clear H; intro b4 w H
  refine J0 H ?_
  refine J231 H ?_
  refine J48 H ?_
  rw [show decide ((k : Int) < 0) = false from decide_eq_false (by omega)]
  refine J248 H ?_
  refine J159 H ?_
  rw [show decide ((k : Int) ≥ (ts.length : Int)) = false from decide_eq_false (by omega)]
  refine J134 H ?_
  refine Lp_g rfl rfl rfl (St_indexAddr rfl rfl (by omega) (by omega) rfl ?_)
  rw [ei]
  refine J123 H ?_
  refine Lp_g rfl rfl rfl (St_load1 H rfl c1 rfl ?_)
  refine J97 H ?_
  refine J177 H ?_
  refine Lp_s rfl (St_indexAddr rfl rfl (by omega) (by omega) rfl ?_)
  rw [ei]
  refine J63 H ?_
  refine Lp_s rfl (St_load1 H rfl c0 rfl ?_)
  refine J249 H ?_
  clear H; intro w H
  refine J0 H ?_
  exact C_ret (Jz H (fun w' H' => .cellN H' rfl (by repeat (first | exact Reads.nil _ | apply Reads.cons rfl)) (.tmp .nil)) fun w' H' => ⟨rfl, hclose _ _ ts x rfl rfl hok H'.drop⟩)

theorem tAdd_spec [Extra] (p : Nat) (ts : List Slt) (e : Ent) {w : World} {fr : List HProp} [hT : HasTab 0 Lib.deBruijn64tab fr] (H : Holds w (TAB p ts :: fr)) :
    Calls Tryz.prog 79 #[pp p, .agg (evl e).toArray] w (ret fun v w' => (∃ k n, ts[k]? = some ⟨n, none⟩ ∧ n ≤ 254 ∧ (∀ j t, j < k → ts[j]? = some t → busy t = true) ∧ v = .tuple #[tkn k (n + 1), .int .i64 0] ∧ Holds w' (TAB p (ts.set k ⟨n + 1, some e⟩) :: fr)) ∨
      ((∀ t ∈ ts, busy t = true) ∧ v = .tuple #[tkn 0 0, .int .i64 12] ∧ Holds w' (TAB p ts :: fr))) := by
  obtain ⟨b, c, s, u, x, hok, hc, H, hclose⟩ := TAB_out H
  have hb := hok.bits.le
  refine calls_of Tryz.func79 rfl (by kernel_rfl) ?_
  refine J6 H ?_
  clear H; intro b3 w H
  refine J19 H ?_
  clear H; intro b4 w H
  refine J228 H ?_
  refine J41 H ?_
  replace H := Js [4,0,0,0,0] 0 H
  refine Jc rfl rfl (First_spec u ts.length x 0 _ hok.bits (by omega) H) ?_
  clear H; rintro v w ⟨hF, H⟩
  rcases hF with ⟨k, rfl, _, hk, hoff, hall⟩ | ⟨rfl, hall⟩
  · have ht := List.getElem?_eq_getElem hk
    have hbz : ∀ j t, j < k → ts[j]? = some t → busy t = true := fun j t hj hjt => by rw [← hok.bit j t hjt]; exact hall j (Nat.zero_le _) hj
    generalize ts[k] = t at ht
    have hbk := hok.bit k t ht
    have hg := hok.gen k t ht
    rw [hoff] at hbk
    obtain ⟨n, en⟩ := t
    have hen : en = none ∧ n ≤ 254 := by
      unfold busy at hbk
      cases en with
      | none => simp at hbk hg; exact ⟨rfl, by omega⟩
      | some y => simp at hbk
    obtain ⟨rfl, hn⟩ := hen
    have ei : 0 + ((k : Nat) : Int).toNat * 6 = k * 6 := by simp
    have hlen := flat_len tval_len ts
    refine J31 H ?_
    refine J13 H ?_
    refine Jc rfl rfl (bSet_spec u _ x k true hok.bits hk H) ?_
    clear H; rintro v w ⟨rfl, H⟩
    refine Lp_nil ?_
    refine J13 H ?_
    refine Lp_s rfl (St_indexAddr rfl rfl (by omega) (by omega) rfl ?_)
    rw [ei]
    refine J0 H ?_
    have c0 : (ts.flatMap tval ++ s)[k * 6 + 0]? = some (.int .i64 n) := flat_get tval_len ht rfl
    replace H := Js [4,0,0,0,0] 0 H
    refine J5 H ?_
    refine J63 H ?_
    refine Lp_s rfl (St_load1 H rfl c0 rfl ?_)
    refine J28 H ?_
    refine J63 H ?_
    rw [wrap64 (x := ((n : Nat) : Int) + 1) (by omega) (by omega), show ((n : Nat) : Int) + 1 = ((n + 1 : Nat) : Int) by omega]
    refine Lp_s rfl (St_store1 H rfl rfl inferInstance rfl (by rw [List.length_append, hlen]; omega) rfl ?_)
    clear H; intro w H
    rw [flat_set (x' := ⟨n + 1, none⟩) tval_len ht (by omega) rfl] at H
    refine Lp_nil ?_
    have ht1 : (ts.set k ⟨n + 1, none⟩)[k]? = some (⟨n + 1, none⟩ : Slt) := List.getElem?_set_self hk
    have hlen1 := flat_len tval_len (ts.set k ⟨n + 1, none⟩)
    rw [List.length_set] at hlen1
    refine J1 H ?_
    clear H; intro w H
    refine J193 H ?_
    refine A_loadN 2 [8] H rfl (Wants.none rfl) rfl (by repeat (first | exact Reads.nil _ | apply Reads.cons rfl)) (by kernel_rfl) ?_
    refine J46 H ?_
    refine J44 H ?_
    refine Jo 5 H ?_
    refine St_store1 H rfl rfl inferInstance rfl (by rw [List.length_append, hlen1]; omega) rfl ?_
    clear H; intro w H
    rw [flat_set (x' := ⟨n + 1, some ⟨0, 0, false, false, 0, 0, []⟩⟩) tval_len ht1 (by omega) rfl, List.set_set] at H
    have ht2 : (ts.set k ⟨n + 1, some ⟨0, 0, false, false, 0, 0, []⟩⟩)[k]? = some (⟨n + 1, some ⟨0, 0, false, false, 0, 0, []⟩⟩ : Slt) := List.getElem?_set_self hk
    have hlen2 := flat_len tval_len (ts.set k ⟨n + 1, some ⟨0, 0, false, false, 0, 0, []⟩⟩)
    rw [List.length_set] at hlen2
    refine J106 H ?_
    refine Jo 8 H ?_
    refine St_storeN (vs := evl e) H rfl rfl inferInstance rfl rfl (by rw [List.length_append, hlen2]; omega) rfl ?_
    clear H; intro w H
    rw [flat_wr (x' := ⟨n + 1, some e⟩) tval_len ht2 (by simp) rfl, List.set_set] at H
    refine J2 H ?_
    have ht3 : (ts.set k ⟨n + 1, some e⟩)[k]? = some (⟨n + 1, some e⟩ : Slt) := List.getElem?_set_self hk
    have c3 : ((ts.set k ⟨n + 1, some e⟩).flatMap tval ++ s)[k * 6 + 0]? = some (.int .i64 ((n + 1 : Nat) : Int)) := flat_get tval_len ht3 rfl
    refine J10 H ?_
    refine J63 H ?_
    refine Lp_s rfl (St_load1 H rfl c3 rfl ?_)
    refine J249 H ?_
    clear H; intro w H
    refine J0 H ?_
    replace H := Js [2,3,0,0] 1 H
    have hn255 : (n == 255) = false := by simp; omega
    have hok' : TabOk (ts.set k ⟨n + 1, some e⟩) (setB x k true) := by
      refine ⟨by rw [List.length_set]; exact hok.bits.set hk, fun i v hv => ?_, fun i v hv => ?_⟩
      · rw [setB_bit]
        rcases tab_set hv with ⟨rfl, rfl, _⟩ | ⟨hne, hv⟩
        · rw [if_pos rfl]; rfl
        · rw [if_neg hne]; exact hok.bit _ _ hv
      · rcases tab_set hv with ⟨rfl, rfl, _⟩ | ⟨_, hv⟩
        · show n + 1 ≤ 255; omega
        · exact hok.gen _ _ hv
    exact C_ret (Jz H (fun w' H' => .cellN H' rfl (by repeat (first | exact Reads.nil _ | apply Reads.cons rfl)) (.tmp .nil)) fun w' H' => .inl ⟨k, n, ht, hn, hbz, rfl, hclose _ _ (ts.set k ⟨n + 1, some e⟩) (setB x k true) (by simp) (goneT_set ht (by simp [hn255])) hok' H'.drop⟩)
  · refine J155 H ?_
    refine J3 H ?_
    refine J152 H ?_
    clear H; intro w H
    refine J0 H ?_
    replace H := Js [1,2,2,0] 1 H
    refine C_ret (Jz H (fun w' H' => .cellN H' rfl (by repeat (first | exact Reads.nil _ | apply Reads.cons rfl)) (.tmp .nil)) fun w' H' => .inr ⟨fun t ht => ?_, rfl, hclose _ _ ts x rfl rfl hok H'.drop⟩)
    obtain ⟨j, hj⟩ := List.getElem?_of_mem ht
    rw [← hok.bit j t hj]
    exact hall j (Nat.zero_le _) (List.getElem?_eq_some_iff.1 hj).1
end Go.Proofs.YtcaaojbnjfdglaaGreatDoor
namespace Go.Proofs.YtcaaojbnjfdglaaGreatDoor
open Go.SL

structure Ptr where
  sp : Nat
  bp : Nat
  ip : Nat
  tp : Nat
  trp : Nat
  rp : Nat
  sm : Nat
  mm : Nat
@[reducible] def ptrv : Nat → Value := fun b => pp b
@[reducible] def spkey (x : Int × Nat × Spc) : Int × Nat := (x.1, x.2.1)
@[reducible] def mnkey (x : Int × Nat × List Nat) : Int × Nat := (x.1, x.2.1)
@[reducible] def spres (sp : Nat) (x : Int × Nat × Spc) : HProp := SPC x.2.1 sp x.1.toNat x.2.2
@[reducible] def mnres (x : Int × Nat × List Nat) : HProp := BAG x.2.1 x.2.2
@[reducible] def CROW (p : Nat) (q : Ptr) : HProp := pts p (row 90 [pp q.sp, pp q.bp, pp q.ip, pp q.tp, pp q.trp, pp q.rp, .map (some q.sm), .map (some q.mm)])
def CELL (p : Nat) (s : CS) : HProp := ex fun x : Ptr × List Nat => star [prop (WF s ∧ MemOK s x.2), CROW p x.1, IMG x.1.ip x.1.sp x.1.bp, BOOK x.1.bp s.lays, ST x.1.sp s.size x.2 s.own, TAB x.1.tp s.tab, TRE x.1.trp s.last s.par, RS x.1.rp s.rem,
  mp (ki .i64) ptrv x.1.sm (s.sps.map spkey), star (s.sps.map (spres x.1.sp)), mp (ki .i64) ptrv x.1.mm (s.mns.map mnkey), star (s.mns.map mnres)]
theorem CELL_out [Extra] {w : World} {p : Nat} {s : CS} {fr : List HProp} (H : Holds w (CELL p s :: fr)) : ∃ (q : Ptr) (mem : List Nat), WF s ∧ MemOK s mem ∧
    Holds w (CROW p q :: IMG q.ip q.sp q.bp :: BOOK q.bp s.lays :: ST q.sp s.size mem s.own :: TAB q.tp s.tab :: TRE q.trp s.last s.par :: RS q.rp s.rem :: mp (ki .i64) ptrv q.sm (s.sps.map spkey) :: star (s.sps.map (spres q.sp)) :: mp (ki .i64) ptrv q.mm (s.mns.map mnkey) :: star (s.mns.map mnres) :: fr) := by
  obtain ⟨⟨q, mem⟩, H⟩ := Holds.ex.1 H
  have H := Holds.star.1 H
  obtain ⟨h, H⟩ := Holds.prop.1 H
  exact ⟨q, mem, h.1, h.2, H⟩
theorem CELL_in [Extra] {w : World} {p : Nat} {s : CS} {fr : List HProp} {q : Ptr} {mem : List Nat} (h : WF s) (hm : MemOK s mem)
    (H : Holds w (CROW p q :: IMG q.ip q.sp q.bp :: BOOK q.bp s.lays :: ST q.sp s.size mem s.own :: TAB q.tp s.tab :: TRE q.trp s.last s.par :: RS q.rp s.rem :: mp (ki .i64) ptrv q.sm (s.sps.map spkey) :: star (s.sps.map (spres q.sp)) :: mp (ki .i64) ptrv q.mm (s.mns.map mnkey) :: star (s.mns.map mnres) :: fr)) : Holds w (CELL p s :: fr) :=
  Holds.ex.2 ⟨(q, mem), Holds.star.2 (Holds.prop.2 ⟨⟨h, hm⟩, H⟩)⟩

def layE (s : CS) (e : Ent) : Lay := (s.lays[e.lay - 1]?).getD ⟨0, [], 0, []⟩
def lnkOf (w : Nat) : Lnk := if w = 0 then .none else if w = 1 then .grave else .obj (w % 4294967296 - 2) (w / 4294967296)
theorem lnkOf_big {x : Nat} (h0 : x ≠ 0) (h1 : x ≠ 1) : lnkOf x = .obj (x % 4294967296 - 2) (x / 4294967296) := by
  unfold lnkOf
  rw [if_neg h0, if_neg h1]
theorem lnk_arith {i g : Nat} (h : i < 4096) : (i + 2 + g * 4294967296) % 4294967296 - 2 = i ∧ (i + 2 + g * 4294967296) / 4294967296 = g := by omega
theorem lnkOf_obj {i g : Nat} (h1 : i < 4096) : lnkOf (wordL (.obj i g)) = .obj i g := by
  rw [wordL_obj, lnkOf_big (by omega) (by omega), (lnk_arith h1).1, (lnk_arith h1).2]
theorem lnkOf_word {k : Lnk} (h : okL k) : lnkOf (wordL k) = k := by
  cases k with
  | none => rfl
  | grave => rfl
  | obj i g => exact lnkOf_obj h.1

theorem img_of {s : CS} (h : WF s) {mem : List Nat} (m : MemOK s mem) {k g : Nat} {e : Ent} (hk : s.tab[k]? = some ⟨g, some e⟩) : ImgAt s.lays s.size mem s.own e.addr e.lay e.count k e.ws.length (layE s e) := by
  obtain ⟨⟨hm, l, h1, h2, h3, h4⟩, hl, _⟩ := h.obj k g e hk
  have hle : layE s e = l := by unfold layE; rw [h1]; rfl
  rw [hle]
  refine ⟨hm, h1, h2, h3, ?_, ?_, ?_⟩
  · rw [List.getD_eq_getElem?_getD, m.head _ _ _ hk, Option.getD_some]
  · have := hl.1
    unfold endOf at this
    rw [m.len]
    exact this
  · intro c c1 c2
    obtain ⟨r, hr, _, hr1⟩ := hl.2 c c1 (by rw [show e.addr + (e.ws.length + 1) - 1 = e.addr + e.ws.length by omega] at c2; exact c2)
    rw [List.getD_eq_getElem?_getD, hr]
    show r ≠ 0
    omega
theorem word_of {s : CS} (h : WF s) {mem : List Nat} (m : MemOK s mem) {k g : Nat} {e : Ent} (hk : s.tab[k]? = some ⟨g, some e⟩) {p : Nat} (hp : p < e.ws.length) : mem.getD (e.addr + 1 + p) 0 = e.ws.getD p 0 := by
  have hx := List.getElem?_eq_getElem hp
  rw [List.getD_eq_getElem?_getD, List.getD_eq_getElem?_getD, m.words _ _ _ hk p _ hx, hx]
/-- What a reference's word tells. -/
theorem link_of {s : CS} (h : WF s) {k g : Nat} {e : Ent} (hk : s.tab[k]? = some ⟨g, some e⟩) {p : Nat} (hp : p < e.ws.length) (hr : isRefL (layE s e) p = true) : okL (lnkOf (e.ws.getD p 0)) ∧ e.ws.getD p 0 = wordL (lnkOf (e.ws.getD p 0)) := by
  obtain ⟨⟨hm, l, h1, h2, h3, h4⟩, hl, _⟩ := h.obj k g e hk
  have hle : layE s e = l := by unfold layE; rw [h1]; rfl
  rw [hle] at hr
  have hx := List.getElem?_eq_getElem hp
  obtain ⟨q, hq, hw⟩ := (h4 p _ hx).2 hr
  have hd : e.ws.getD p 0 = wordL q := by rw [List.getD_eq_getElem?_getD, hx, Option.getD_some]; exact hw
  rw [hd, lnkOf_word hq]
  exact ⟨hq, rfl⟩

/-- An entry, or an error, as values. -/
def getV : Option (Nat × Ent) → Value
  | some (_, e) => .tuple #[.agg (evl e).toArray, .int .i64 0]
  | none => .tuple #[.agg #[.int .i64 0, .int .i64 0, .bool false, .bool false], .int .i64 8]
theorem getV_form (o : Option (Nat × Ent)) : ∃ e1 e2 h1 h2 e4, getV o = .tuple #[.agg #[.int .i64 e1, .int .i64 e2, .bool h1, .bool h2], .int .i64 e4] := by
  cases o <;> exact ⟨_, _, _, _, _, rfl⟩
theorem tGetV_spec [Extra] (p : Nat) (ts : List Slt) (i g : Int) {w : World} {fr : List HProp} (H : Holds w (TAB p ts :: fr)) :
    Calls Tryz.prog 44 #[pp p, tkI2 i g] w (ret fun v w' => v = getV (lookT ts i g) ∧ Holds w' (TAB p ts :: fr)) :=
  call (tGet_spec p ts i g H) fun v w h => ⟨by rw [h.1]; cases lookT ts i g <;> rfl, h.2⟩

theorem valid_spec [Extra] (p : Nat) (s : CS) (i g : Int) {w : World} {fr : List HProp} (H : Holds w (CELL p s :: fr)) :
    Calls Tryz.prog 67 #[pp p, tkI2 i g] w (ret fun v w' => v = getV (validT s.tab i g) ∧ Holds w' (CELL p s :: fr)) := by
  obtain ⟨q, mem, hw, hm, H⟩ := CELL_out H
  refine calls_of Tryz.func67 rfl (by kernel_rfl) ?_
  refine J6 H ?_
  clear H; intro b3 w H
  refine J19 H ?_
  clear H; intro b4 w H
  refine J228 H ?_
  obtain ⟨e1, e2, h1, h2, e4, hsh⟩ := getV_form (lookT s.tab i g)
  refine J12 H ?_
  refine C_join (fun ms σ w => ms = [] ∧ ∃ b6, σ 4 = pp b4 ∧ σ 6 = pp b6 ∧ σ 7 = .int .i64 e4 ∧
    Holds w (pts b4 (row 109 [.int .i64 0, .int .i64 0, .bool false, .bool false]) :: pts b6 (row 109 [.int .i64 e1, .int .i64 e2, .bool h1, .bool h2]) :: CELL p s :: fr)) ?_ ?_
  · replace H := Js [6,0,0,0,0,0,0,0,0,0,0,0,0] 0 H
    refine J1 H ?_
    clear H; intro w H
    refine J15 H ?_
    refine J269 H ?_
    refine J270 H ?_
    refine A_two 5 9 rfl rfl (by kernel_rfl) (by repeat first | exact .nil | refine .cons (.inr H.at) ?_ | refine .cons (.inr H.mp) ?_ | refine .cons (.inl (by kernel_rfl)) ?_) (Wants.none rfl) (Wants.none rfl) (St_call (a := []) (b := []) rfl rfl (call (tGetV_spec q.tp s.tab i g H) ?_)) (St_alloc H rfl ?_)
    · clear H; rintro v w ⟨rfl, H⟩
      rw [hsh]
      refine J113 H ?_
      refine Jo 9 H ?_
      refine St_alloc H rfl ?_
      clear H; intro b6 w H
      refine J141 H ?_
      clear H; intro w H
      refine J142 H ?_
      replace H := Js [4,4,4,4,1,3,3,3,3,3,3,1,0] 1 H
      refine ⟨rfl, rfl, b6, rfl, rfl, rfl, ?_⟩
      replace H := CELL_in hw hm H
      replace H := Js [1,1,0] 0 H
      exact H
    · clear H; intro b6 w H
      refine Jo 5 H ?_
      refine Jk rfl rfl (tGetV_spec q.tp s.tab i g H.swap) ?_
      clear H; rintro v w ⟨rfl, H⟩
      rw [hsh]
      refine J113 H ?_
      refine J141 H ?_
      clear H; intro w H
      refine J142 H ?_
      replace H := Js [4,4,4,4,0,3,3,3,3,3,3,1,0] 1 H
      refine ⟨rfl, rfl, b6, rfl, rfl, rfl, ?_⟩
      replace H := CELL_in hw hm H
      replace H := Js [1,1,0] 0 H
      exact H
  · clear H
    rintro ms σ w ⟨rfl, b6, g4, g6, g7, H⟩
    rw [upd_self g4, upd_self g6, upd_self g7]
    have hv : validT s.tab i g = (match lookT s.tab i g with | some (k, e) => if e.held then some (k, e) else none | none => none) := rfl
    cases hL : lookT s.tab i g with
    | none =>
      rw [hL] at hsh hv
      have hv : validT s.tab i g = none := hv
      rw [hv]
      cases hsh
      refine J10 H ?_
      refine J167 H ?_
      refine J76 H ?_
      clear H; intro w H
      refine J0 H ?_
      exact C_ret (Jz H (fun w' H' => .cellN H' rfl (by repeat (first | exact Reads.nil _ | apply Reads.cons rfl)) (.tmp .nil)) fun w' H' => ⟨rfl, H'.drop.drop⟩)
    | some x =>
      obtain ⟨k, e⟩ := x
      obtain ⟨ea, er, eh, ep, el, ec, ew⟩ := e
      rw [hL] at hsh hv
      cases hsh
      cases eh with
      | true =>
        have hv : validT s.tab i g = some (k, ⟨ea, er, true, ep, el, ec, ew⟩) := hv
        rw [hv]
        refine J10 H ?_
        refine J83 H ?_
        refine J20 H ?_
        refine J85 H ?_
        clear H; intro w H
        refine J0 H ?_
        exact C_ret (Jz H (fun w' H' => .cellN H' rfl (by repeat (first | exact Reads.nil _ | apply Reads.cons rfl)) (.tmp .nil)) fun w' H' => ⟨rfl, H'.drop.drop⟩)
      | false =>
        have hv : validT s.tab i g = none := hv
        rw [hv]
        refine J10 H ?_
        refine J83 H ?_
        refine J76 H ?_
        clear H; intro w H
        refine J0 H ?_
        exact C_ret (Jz H (fun w' H' => .cellN H' rfl (by repeat (first | exact Reads.nil _ | apply Reads.cons rfl)) (.tmp .nil)) fun w' H' => ⟨rfl, H'.drop.drop⟩)
end Go.Proofs.YtcaaojbnjfdglaaGreatDoor
