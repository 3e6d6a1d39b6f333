/- Cells: what is proved on the way: every input of the statement; no condition. Texts joined: LawI LawJ LawK LawL LawM LawU. -/
import Derived.Test.YtcaaojbnjfdglaaGreatDoorCef
import Derived.Test.YtcaaojbnjfdglaaGreatDoorCeo
set_option linter.unusedVariables false
set_option linter.unusedSimpArgs false
set_option linter.unusedSectionVars false
namespace Go.Proofs.YtcaaojbnjfdglaaGreatDoor
open Go.SL

def cs0 (n size slots : Nat) : CS := ⟨size, List.replicate n 0, [], List.replicate slots ⟨0, none⟩, 0, [], [], [], []⟩
theorem rel0 (n size slots : Nat) : Rel (cs0 n size slots) ms0 [] := by
  have hno : ∀ (k g : Nat) (e : Ent), (List.replicate slots (⟨0, none⟩ : Slt))[k]? ≠ some ⟨g, some e⟩ := by
    intro k g e h
    rw [List.getElem?_replicate] at h
    split at h <;> cases h
  refine ⟨rfl, rfl, ?_, List.nodup_nil, rfl, ?_, ?_, fun k g e h => absurd h (hno k g e), ?_, List.nodup_nil⟩
  · intro r q
    constructor
    · intro h; cases h
    · rintro ⟨k, _, h1, h2, _⟩
      have : k < 1 := (List.getElem?_eq_some_iff.1 h2).1
      omega
  · intro o x k g h; cases h
  · intro o x k g h; cases h
  · intro o k g h; cases h

/-- While nothing is freed: the first slots are taken, once each. -/
structure Fresh (s : CS) (told : List (Nat × Nat)) : Prop where
  shape : ∃ r, shapeT s.tab = List.replicate told.length (1, true) ++ List.replicate r (0, false)
  told : told = (List.range told.length).map fun i => (i, 1)
theorem fresh0 (n size slots : Nat) : Fresh (cs0 n size slots) [] := ⟨⟨slots, by simp [shapeT, cs0]⟩, rfl⟩
theorem shape_at {ts : List Slt} {n r k : Nat} {t : Slt} (h : shapeT ts = List.replicate n (1, true) ++ List.replicate r (0, false)) (hk : ts[k]? = some t) : (k < n ∧ t.gen = 1 ∧ t.ent.isSome = true) ∨ (n ≤ k ∧ k < n + r ∧ t.gen = 0 ∧ t.ent = none) := by
  have h1 : (shapeT ts)[k]? = some (t.gen, t.ent.isSome) := by
    unfold shapeT
    rw [List.getElem?_map, hk]
    rfl
  rw [h] at h1
  by_cases hkn : k < n
  · rw [List.getElem?_append_left (by simpa using hkn), List.getElem?_replicate, if_pos hkn] at h1
    injection h1 with h1
    injection h1 with h2 h3
    exact .inl ⟨hkn, h2.symm, h3.symm⟩
  · rw [List.getElem?_append_right (by simp; omega), List.length_replicate, List.getElem?_replicate] at h1
    split at h1
    · injection h1 with h1
      injection h1 with h2 h3
      refine .inr ⟨by omega, by omega, h2.symm, ?_⟩
      cases he : t.ent with
      | none => rfl
      | some e => rw [he] at h3; cases h3
    · cases h1
theorem Fresh.seq {s : CS} {told : List (Nat × Nat)} (h : Fresh s told) : Seq s := by
  obtain ⟨⟨r, hs⟩, _⟩ := h
  intro i j t g e hij hi hj
  rcases shape_at hs hj with ⟨h1, _⟩ | ⟨_, _, _, h1⟩
  · rcases shape_at hs hi with ⟨_, _, h2⟩ | ⟨h2, _⟩
    · unfold busy; rw [h2]; rfl
    · omega
  · cases h1
theorem Fresh.step {s s' : CS} {m m' : MS} {told told' : List (Nat × Nat)} (h : Fresh s told) (st : Step s m told s' m' told') : Fresh s' told' := by
  obtain ⟨⟨r, hs⟩, ht⟩ := h
  rcases st.tab with ⟨rfl, h1⟩ | ⟨k, g0, rfl, h1, h2, h3⟩
  · exact ⟨⟨r, by rw [h1]; exact hs⟩, ht⟩
  · rcases shape_at hs h1 with ⟨_, _, h4⟩ | ⟨h4, h5, h6, _⟩
    · cases h4
    · have h6 : g0 = 0 := h6
      subst h6
      have hl : s.tab.length = told.length + r := by
        have := congrArg List.length hs
        simpa [shapeT] using this
      have hk : k = told.length := by
        refine Classical.byContradiction fun hne => ?_
        have hlt : told.length < k := by omega
        have hn := List.getElem?_eq_getElem (l := s.tab) (i := told.length) (by omega)
        have hb := h2 told.length _ hlt hn
        rcases shape_at hs hn with ⟨h7, _⟩ | ⟨_, _, h7, h8⟩
        · omega
        · unfold busy at hb
          rw [h7, h8] at hb
          cases hb
      subst hk
      refine ⟨⟨r - 1, ?_⟩, ?_⟩
      · rw [h3, hs, List.length_append]
        obtain ⟨r', rfl⟩ : ∃ r', r = r' + 1 := ⟨r - 1, by omega⟩
        rw [List.set_append_right _ _ (by simp), List.length_replicate, Nat.sub_self, List.replicate_succ, List.set_cons_zero, Nat.add_sub_cancel]
        show _ = List.replicate (told.length + 1) (1, true) ++ _
        rw [List.replicate_succ', List.append_assoc]
        rfl
      · rw [List.length_append]
        show told ++ [(told.length, 1)] = (List.range (told.length + 1)).map _
        rw [List.range_succ, List.map_append, ← ht]
        rfl

theorem max0 (x : Int) : ∃ X : Nat, (if x > 0 then x else 0) = (X : Int) := ⟨x.toNat, by split <;> omega⟩
theorem Of_spec [Extra] (z1 z2 z3 : Int) {w : World} {fr : List HProp} (H : Holds w fr) :
    Calls Tryz.prog 12 #[.agg #[.int .i64 z1, .int .i64 z2, .int .i64 z3]] w (ret fun v w' => ∃ p n size slots, v = pp p ∧ 1 ≤ n ∧ n ≤ 20 ∧ 1 ≤ size ∧ size ≤ 16 ∧ 1 ≤ slots ∧ slots ≤ 16 ∧ Holds w' (RUN p (cs0 n size slots) ms0 [] :: fr)) := by
  obtain ⟨X1, h1⟩ := max0 z1
  obtain ⟨X2, h2⟩ := max0 z2
  obtain ⟨X3, h3⟩ := max0 z3
  refine calls_of Tryz.func12 rfl (by kernel_rfl) ?_
  refine J6 H ?_
  clear H; intro b1 w H
  refine J53 H ?_
  refine J21 H ?_
  refine J118 H ?_
  rw [h1]
  refine Lp_pv (v := .int .i64 ((X1 % 20 : Nat) : Int)) (by
    show some (Value.int IntKind.i64 (Int.tmod (X1 : Int) 20)) = _
    rw [Int.tmod_eq_emod_of_nonneg (by omega)]; rfl) rfl ?_
  refine J18 H ?_
  rw [show IntKind.i64.wrap (1 + ((X1 % 20 : Nat) : Int)) = ((X1 % 20 + 1 : Nat) : Int) by rw [wrap64 (by omega) (by omega)]; omega]
  refine J21 H ?_
  refine J118 H ?_
  rw [h2]
  refine Lp_pv (v := .int .i64 ((X2 % 16 : Nat) : Int)) (by
    show some (Value.int IntKind.i64 (Int.tmod (X2 : Int) 16)) = _
    rw [Int.tmod_eq_emod_of_nonneg (by omega)]; rfl) rfl ?_
  refine J18 H ?_
  rw [show IntKind.i64.wrap (1 + ((X2 % 16 : Nat) : Int)) = ((X2 % 16 + 1 : Nat) : Int) by rw [wrap64 (by omega) (by omega)]; omega]
  refine J21 H ?_
  refine J118 H ?_
  rw [h3]
  refine Lp_pv (v := .int .i64 ((X3 % 16 : Nat) : Int)) (by
    show some (Value.int IntKind.i64 (Int.tmod (X3 : Int) 16)) = _
    rw [Int.tmod_eq_emod_of_nonneg (by omega)]; rfl) rfl ?_
  refine J18 H ?_
  rw [show IntKind.i64.wrap (1 + ((X3 % 16 : Nat) : Int)) = ((X3 % 16 + 1 : Nat) : Int) by rw [wrap64 (by omega) (by omega)]; omega]
  
  refine Jc rfl rfl (cNew_spec (X1 % 20 + 1) (X2 % 16 + 1) (X3 % 16 + 1) (by omega) (by omega) (by omega) (by omega) (by omega) (by omega) H) ?_
  clear H; rintro v w ⟨c, rfl, H⟩
  refine J230 H ?_
  refine J26 H ?_
  refine J210 H ?_
  refine J20 H ?_
  refine J23 H ?_
  refine Jc rfl rfl (New15_spec H) ?_
  clear H; rintro v w ⟨mo, rfl, H⟩
  refine J50 H ?_
  clear H; intro b33 w H
  refine J0 H ?_
  have H := sls_nil (E := 32) (k := 2) H
  replace H := Js [1,2,1,0] 1 H
  exact C_ret (Jy (RUN_in (told := []) H) rfl fun w' H' => ⟨_, X1 % 20 + 1, X2 % 16 + 1, X3 % 16 + 1, rfl, by omega, by omega, by omega, by omega, by omega, by omega, H'⟩)
end Go.Proofs.YtcaaojbnjfdglaaGreatDoor
namespace Go.Proofs.YtcaaojbnjfdglaaGreatDoor
open Go.SL

def L0 : Lay := ⟨2, [1], 0, []⟩
def mB : MS := ⟨[-1, 0], [L0], []⟩
def mC : MS := makeM mB 1 1 0
def mD : MS := makeM mC 1 1 0
theorem dec0 : decodeL [2, 2, 0] = some L0 := by rfl
theorem right0 : RightL L0 := by decide
theorem mwfB : MWF mB := ⟨⟨by simp [mB], by simp [mB]⟩, ⟨by simp [mB], fun l h => by simp [mB] at h; subst h; exact right0⟩, (fun x h => by simp [mB] at h), by simp [mB]⟩
theorem mwf0 : MWF ms0 := ⟨⟨by simp [ms0], by simp [ms0]⟩, ⟨by simp [ms0], fun l h => by simp [ms0] at h⟩, (fun x h => by simp [ms0] at h), by simp [ms0]⟩
theorem mayB : mayM mB 1 1 0 = (2, 0) := by decide
theorem mayC : mayM mC 1 1 0 = (2, 0) := by decide
theorem mwfC : MWF mC := MWF_make (by rw [mayB]) mwfB (by simp [mB])
theorem mwfD : MWF mD := MWF_make (by rw [mayC]) mwfC (by show (mB.objs ++ [_]).length < _; simp [mB])

def mE : MS := (tieM mD 0 1 1).1
def mF : MS := (dropM mE 1).1
def mG : MS := (refM mF 0 1).1
theorem mwfE : MWF mE := by
  show MWF (setM mD 0 { newM 1 1 0 2 with kind := (newM 1 1 0 2).kind.set 1 2, to := (newM 1 1 0 2).to.set 1 1 })
  exact MWF_set mwfD (MobOK_cut (mwfD.objs _ (show newM 1 1 0 2 ∈ [newM 1 1 0 2, newM 1 1 0 2] from List.mem_cons_self)) 1 2 1 (fun _ => by decide))
theorem mwfF : MWF mF := by
  show MWF (setM mE 1 { newM 1 1 0 2 with held := false })
  obtain ⟨a, b, c, d, e⟩ := mwfD.objs _ (show newM 1 1 0 2 ∈ [newM 1 1 0 2, newM 1 1 0 2] from List.mem_cons_self)
  exact MWF_set mwfE ⟨a, b, c, d, e⟩
theorem alive_make {s s' : CS} {m : MS} {told : List (Nat × Nat)} {i g e : Nat} (R : Rel s m told) (hm : MWF m) (F : Fresh s told) (hM : Made s 1 1 0 i g e s') (hmay : mayM m 1 1 0 = (2, 0)) (hsz : s.size = 8) (hlen : told.length < s.tab.length) (hfree : ∃ a, a < s.own.length ∧ s.own.getD a 0 = 0) :
    e = 0 ∧ i = told.length ∧ g = 1 ∧ Rel s' (makeM m 1 1 0) (told ++ [(told.length, 1)]) ∧ Fresh s' (told ++ [(told.length, 1)]) ∧ s'.size = 8 ∧ Grows s.own s'.own 1 ∧ s'.tab.length = s.tab.length := by
  obtain ⟨hm1, hm2⟩ := may_law R 1 1 0
  rw [hmay] at hm1
  have hn : makeN s 1 0 = 2 := by rw [hm2 (by rw [hmay]), hmay]
  have hk : makeN s 1 0 / s.size + 1 = 1 := by rw [hn, hsz]
  obtain ⟨⟨r, hs⟩, ht⟩ := id F
  have hnb : ∀ t, s.tab[told.length]? = some t → busy t = false := by
    intro t h
    rcases shape_at hs h with ⟨h7, _⟩ | ⟨_, _, h7, h8⟩
    · omega
    · unfold busy
      rw [h7, h8]
      rfl
  have hat := List.getElem?_eq_getElem (l := s.tab) (i := told.length) hlen
  rcases hM with ⟨h1, _⟩ | ⟨h1, h2, _⟩ | ⟨h1, h2, _⟩ | ⟨h1, rfl, g0, addr, h2, h3, h4, rfl, h5, h6, h7, h8, h9, h10, h11⟩
  · exact absurd hm1 h1
  · have h3 := h2 _ (List.mem_of_getElem? hat)
    rw [hnb _ hat] at h3
    cases h3
  · obtain ⟨a, ha, hz⟩ := hfree
    rw [hk] at h2
    obtain ⟨j, h3, h4, h5⟩ := h2 a (by omega)
    obtain rfl : j = a := by omega
    exact absurd hz h5
  · rw [hk] at h11
    have hi : i = told.length := by
      rcases shape_at hs h2 with ⟨_, _, h12⟩ | ⟨h12, _⟩
      · cases h12
      · refine Classical.byContradiction fun hne => ?_
        have h13 := h4 told.length _ (by omega) hat
        rw [hnb _ hat] at h13
        cases h13
    subst hi
    have hg : g0 = 0 := by
      rcases shape_at hs h2 with ⟨_, _, h12⟩ | ⟨_, _, h12, _⟩
      · cases h12
      · exact h12
    subst hg
    obtain ⟨_, R'⟩ := make_rel R hm (by rw [hmay]) h2 h6 h7 h8 h10
    refine ⟨rfl, rfl, rfl, R', ?_, by rw [h5, hsz], h11, by rw [h10, List.length_set]⟩
    exact F.step (m := m) (m' := makeM m 1 1 0) ⟨by show m.P.length ≤ _; omega, by show (m.objs ++ [_]).length ≤ _; simp, .inr ⟨told.length, 0, rfl, h2, h4, by rw [h10]; unfold shapeT; rw [List.map_set]; rfl⟩⟩

theorem alive15_spec [Extra] {w : World} {fr : List HProp} [hT : HasTab 0 Lib.deBruijn64tab fr] (H : Holds w fr) :
    Calls Tryz.prog 13 #[] w (ret fun v w' => v = .bool true ∧ Holds w' fr) := by
  have Rs0 := rel0 4 8 4
  have hdS : defS (cs0 4 8 4) [2, 2, 0] = ({ cs0 4 8 4 with lays := [L0] }, 1, 0) := by rw [defS_some dec0]; rfl
  refine calls_of Tryz.func13 rfl (by kernel_rfl) ?_
  refine J161 H ?_
  refine Jc rfl rfl (cNew_spec 4 8 4 (by omega) (by omega) (by omega) (by omega) (by omega) (by omega) H) ?_
  clear H; rintro v w ⟨c, rfl, H⟩
  replace H : Holds w (CELL c (cs0 4 8 4) :: fr) := H
  refine J230 H ?_
  refine J26 H ?_
  refine J210 H ?_
  refine J20 H ?_
  refine J23 H ?_
  refine J47 H ?_
  clear H; intro b29 w H

  replace H := H.swap
  have hrd : RdS (pts b29 (row 29 [.int .u64 2, .int .u64 2, .int .u64 0]) :: fr) (.slice (some ⟨b29, 0, none⟩) 3 3) 3 1 (ucells [2, 2, 0]) := ⟨rfl, _, _, rfl, .inr ⟨b29, 0, _, _, _, rfl, inferInstance, .cons rfl (.cons rfl (.cons rfl (.nil _)))⟩⟩
  refine Jc rfl rfl (Define_spec c (cs0 4 8 4) _ [2, 2, 0] (by decide) hrd H) ?_
  clear H; rintro v w ⟨rfl, H⟩
  rw [hdS] at H ⊢
  have RA : Rel { cs0 4 8 4 with lays := [L0] } ⟨[-1], [L0], []⟩ [] := by
    have h := (def_law Rs0 mwf0 [2, 2, 0]).2
    rw [hdS] at h
    exact h
  refine J32 H ?_
  refine J23 H ?_
  refine Jc rfl rfl (Open_spec c _ 0 (by decide) H) ?_
  clear H; rintro v w (⟨h1, rfl, H⟩ | ⟨_, ob, ob2, rfl, H⟩)
  · exact absurd rfl h1
  have RB := open_rel RA (parent := 0) rfl ob ob2
  generalize hsB : openS { cs0 4 8 4 with lays := [L0] } 0 ob ob2 = sB at H RB
  have hB1 : sB.size = 8 := by rw [← hsB]; rfl
  have hB2 : sB.own = List.replicate 4 0 := by rw [← hsB]; rfl
  have hB3 : sB.tab = List.replicate 4 ⟨0, none⟩ := by rw [← hsB]; rfl
  have hB4 : sB.last = 1 := by rw [← hsB]; rfl
  have FB : Fresh sB [] := ⟨⟨4, by rw [hB3]; rfl⟩, rfl⟩
  replace RB : Rel sB mB [] := RB
  refine J32 H ?_
  refine J23 H ?_
  refine Jc rfl rfl (Make_all c sB 1 1 0 FB.seq H) ?_
  clear H; rintro v w ⟨i1, g1, e1, sC, rfl, hM1, H⟩
  obtain ⟨rfl, rfl, rfl, RC, FC, hC1, hC2, hC3⟩ := alive_make RB mwfB FB hM1 mayB hB1 (by rw [hB3]; decide) ⟨0, by rw [hB2]; decide, by rw [hB2]; rfl⟩
  rw [hB3] at hC3
  rw [hB2] at hC2
  replace RC : Rel sC mC [(0, 1)] := RC
  replace FC : Fresh sC [(0, 1)] := FC
  have hfree : ∃ a, a < sC.own.length ∧ sC.own.getD a 0 = 0 := by
    obtain ⟨hl, a0, k0, hk0, hg⟩ := hC2
    have hz : ∀ a, a ≠ a0 → sC.own.getD a 0 = 0 := by
      intro a ha
      refine Classical.byContradiction fun h => ?_
      rcases hg a h with h1 | h1
      · exact h1 (rep_get 4 a)
      · omega
    have hl4 : sC.own.length = 4 := hl
    by_cases h0 : a0 = 0
    · exact ⟨1, by omega, hz 1 (by omega)⟩
    · exact ⟨0, by omega, hz 0 (by omega)⟩
  refine J15 H ?_
  clear H; intro b7 w H
  refine J8 H ?_
  clear H; intro w H
  refine J0 H ?_
  replace H := H.swap
  refine J23 H ?_
  refine Jc rfl rfl (Make_all c sC 1 1 0 FC.seq H) ?_
  clear H; rintro v w ⟨i2, g2, e2, sD, rfl, hM2, H⟩
  obtain ⟨rfl, rfl, rfl, RD, FD, hD1, hD2, hD3⟩ := alive_make RC mwfC FC hM2 mayC hC1 (by rw [hC3]; decide) hfree
  replace RD : Rel sD mD [(0, 1), (1, 1)] := RD
  refine J15 H ?_
  clear H; intro b9 w H
  refine J8 H ?_
  clear H; intro w H
  refine J0 H ?_
  replace H := Js [1,0,0] 0 H
  refine J10 H ?_
  refine J49 H ?_
  refine J49 H ?_
  refine J49 H ?_
  refine J49 H ?_
  refine J110 H ?_
  refine Lp_g rfl rfl rfl (St_eqPair rfl rfl (.inr rfl) rfl ?_)
  refine J16 H ?_
  refine J49 H ?_
  refine J110 H ?_
  refine Lp_g rfl rfl rfl (St_eqPair rfl rfl (.inr rfl) rfl ?_)
  refine J171 H ?_
  refine J56 H ?_
  obtain ⟨_, _, hwD, _, _⟩ := CELL_out H
  have P0 : Pick [(0, 1), (1, 1)] 0 1 0 := .inl ⟨0, 1, 0, rfl, rfl, rfl, rfl⟩
  have P1 : Pick [(0, 1), (1, 1)] 1 1 1 := .inl ⟨1, 1, 1, rfl, rfl, rfl, rfl⟩
  obtain ⟨t1, RE⟩ := tie_law RD hwD mwfD P0 P1 1
  rw [show (tieM mD 0 1 1).2 = 0 by decide] at t1
  replace RE : Rel (TieS sD 0 1 1 1 1).1 mE [(0, 1), (1, 1)] := RE
  refine Lp_g rfl rfl rfl (St_call (a := []) (b := []) rfl rfl (call (CTie_spec c sD 0 1 1 1 1 H) ?_))
  clear H; rintro v w ⟨rfl, H⟩
  rw [t1]
  generalize (TieS sD 0 1 1 1 1).1 = sE at H RE
  refine J26 H ?_
  refine J171 H ?_
  obtain ⟨t2, RF⟩ := drop_law RE P1
  rw [show (dropM mE 1).2 = 0 by decide] at t2
  replace RF : Rel (dropS sE 1 1).1 mF [(0, 1), (1, 1)] := RF
  refine Lp_g rfl rfl rfl (St_call (a := []) (b := []) rfl rfl (call (Drop_spec c sE 1 1 H) ?_))
  clear H; rintro v w ⟨rfl, H⟩
  rw [t2]
  generalize (dropS sE 1 1).1 = sF at H RF
  refine J93 H ?_
  have t3 : getW sF 1 1 0 = (0, 8) := by
    rcases get_law RF P1 0 with ⟨h1, h2⟩ | ⟨h1, _⟩
    · rw [h2]; rfl
    · exact absurd h1 (by decide)
  refine J28 H ?_
  refine Jc rfl rfl (Get_spec c sF 1 1 0 H) ?_
  clear H; rintro v w ⟨rfl, H⟩
  rw [t3]
  refine J32 H ?_
  have t4 : lookL sF 0 1 1 = (.obj 1 1, 0) := by
    obtain ⟨h1, h2, _⟩ := ref_law RF mwfF P0 1
    rw [show (refM mF 0 1).2 = (2, 1, 0) by decide] at h1 h2
    exact Prod.ext h2 h1
  obtain ⟨_, _, _, _, RG⟩ := ref_law RF mwfF P0 1
  replace RG : Rel (refS sF 0 1 1) mG [(0, 1), (1, 1)] := RG
  refine J28 H ?_
  refine Jc rfl rfl (Ref_spec c sF 0 1 1 H) ?_
  clear H; rintro v w ⟨rfl, H⟩
  rw [t4]
  generalize refS sF 0 1 1 = sG at H RG
  have t5 : getW sG 1 1 0 = (0, 0) := by
    rcases get_law RG P1 0 with ⟨h1, h2⟩ | ⟨h1, n, j, x, h2, h3, h4, _, h5⟩
    · exact absurd rfl h1
    · obtain rfl : n = 1 := by omega
      obtain rfl : j = 0 := by omega
      rw [h5]
      have h6 : mG.objs[1]? = some ⟨1, 1, 0, [0, 0], [0, 0], [0, 0], true, false, false⟩ := rfl
      rw [h6] at h4
      injection h4 with h4
      rw [← h4]
      rfl
  refine J15 H ?_
  clear H; intro b13 w H
  refine J8 H ?_
  clear H; intro w H
  refine J0 H ?_
  replace H := H.swap
  refine J28 H ?_
  refine Jc rfl rfl (Get_spec c sG 1 1 0 H) ?_
  clear H; rintro v w ⟨rfl, H⟩
  rw [t5]
  refine J230 H ?_
  refine J49 H ?_
  refine J56 H ?_
  refine J110 H ?_
  refine Lp_g rfl rfl rfl (St_eqAgg rfl rfl rfl rfl (.inl rfl) rfl ?_)
  refine J16 H ?_
  refine J49 H ?_
  refine J27 H ?_
  refine J3 H ?_
  replace H : Holds w fr := H.drop.drop.drop.drop.drop
  exact C_ret (Jy H rfl fun w' H' => ⟨rfl, H'⟩)
end Go.Proofs.YtcaaojbnjfdglaaGreatDoor
namespace Go.Proofs.YtcaaojbnjfdglaaGreatDoor
open Go.SL

end Go.Proofs.YtcaaojbnjfdglaaGreatDoor
namespace Go.Proofs.YtcaaojbnjfdglaaGreatDoor
open Go.SL

theorem AcOK.there {A : HProp} {fr : List HProp} {x : Ac} (h : AcOK fr x) : AcOK (A :: fr) x := ⟨h.1, h.2.1, h.2.2.there⟩
end Go.Proofs.YtcaaojbnjfdglaaGreatDoor
namespace Go.Proofs.YtcaaojbnjfdglaaGreatDoor
open Go.SL

end Go.Proofs.YtcaaojbnjfdglaaGreatDoor
namespace Go.Proofs.YtcaaojbnjfdglaaGreatDoor
open Go.SL

theorem Valid_at [Extra] (p k q bO t n cO cL nl : Nat) (aL : Option Addr) (ptrs s : List Value) (vw vk vt : Value) (x : Mob) (hk : k < n) (hn : n < 1000000) (hp : (ptrs ++ s)[0 + k * 1]? = some (pp q)) (U V W : HProp) {w : World} {fr : List HProp}
    (H : Holds w (pts q (mrow vw vk vt x) :: U :: V :: W :: pts bO (row 51 (ptrs ++ s)) :: pts p (row 56 [pp t, .slice aL nl cL, .slice (some ⟨bO, 0, none⟩) n cO]) :: fr)) :
    Calls Tryz.prog 26 #[pp p, .int .i64 k] w (ret fun v w' => v = .bool (x.held && !x.gone) ∧ Holds w' (pts q (mrow vw vk vt x) :: U :: V :: W :: pts bO (row 51 (ptrs ++ s)) :: pts p (row 56 [pp t, .slice aL nl cL, .slice (some ⟨bO, 0, none⟩) n cO]) :: fr)) := by
  obtain ⟨xr, xl, xc, xw, xk, xt, xh, xp, xg⟩ := x
  refine calls_of Tryz.func26 rfl (by kernel_rfl) ?_
  refine J61 H ?_
  rw [show decide ((k : Int) ≥ 0) = true from decide_eq_true (by omega)]
  refine J70 H ?_
  rw [show decide ((k : Int) < (n : Int)) = true from decide_eq_true (by omega)]
  refine J106 H ?_
  refine Lp_g rfl rfl rfl (St_indexAddr rfl rfl (by omega) (by omega) rfl ?_)
  refine Lp_g rfl rfl rfl (St_load1 H rfl hp rfl ?_)
  cases xh with
  | true =>
    refine J213 H ?_
    refine J106 H ?_
    refine Lp_g rfl rfl rfl (St_indexAddr rfl rfl (by omega) (by omega) rfl ?_)
    refine Lp_g rfl rfl rfl (St_load1 H rfl hp rfl ?_)
    refine J125 H ?_
    refine J3 H ?_
    refine C_ret (Jy H rfl fun w' H' => ⟨?_, H'⟩)
    cases xg <;> rfl
  | false =>
    refine J213 H ?_
    refine J214 H ?_
    exact C_ret (Jy H rfl fun w' H' => ⟨rfl, H'⟩)

/-- A reference of another object to one that was dropped. -/
theorem drops_ref {s : CS} {m : MS} {told : List (Nat × Nat)} (R : Rel s m told) {k g n xk xg i j : Nat} {e : Ent} {x y : Mob} (hk : s.tab[k]? = some ⟨g, some e⟩) (hh : e.held = true) (ht : told[n]? = some (k, g)) (hn : told[i]? = some (xk, xg)) (hy : m.objs[i]? = some y) (hin : i ≠ n) (hg : y.gone = false) (hd : y.held = true)
    (hj : j < y.w.length) (hkd : y.kind.getD j 0 = 2) (hto : y.to.getD j 0 = n) :
    lookL (setE s k g { e with held := false }) xk xg j = (.obj k g, 0) ∧ refS (setE s k g { e with held := false }) xk xg j = s := by
  obtain ⟨f, hf, hlf⟩ := R.obj i y xk xg hy hn hg
  have hkl := (List.getElem?_eq_some_iff.1 hk).1
  have hne : k ≠ xk := by
    rintro rfl
    rw [hk] at hf
    injection hf with hf
    injection hf with hf _
    subst hf
    exact hin (nd_at R.nodup hn ht)
  have hfs : (setE s k g { e with held := false }).tab[xk]? = some ⟨xg, some f⟩ := by
    show (s.tab.set k _)[xk]? = _
    rw [List.getElem?_set_ne hne]
    exact hf
  have hv : validT (setE s k g { e with held := false }).tab xk xg = some (xk, f) := validT_some.2 ⟨lookT_some.2 ⟨xg, rfl, rfl, hfs⟩, by rw [hlf.held, hd]⟩
  obtain ⟨hr, _⟩ := hlf.kind j hj (by omega)
  have hlay : layE (setE s k g { e with held := false }) f = layX m.lays y.lay := lay_same R.w hlf
  have h1 : lookL (setE s k g { e with held := false }) xk xg j = (.obj k g, 0) := by
    rw [lookL_some hv, hlay, hlf.len]
    have : placeE (layX m.lays y.lay) y.w.length (j : Int) true = 0 := by
      unfold placeE
      rw [if_neg (by omega), Int.toNat_natCast, if_neg (by rw [hr]; decide)]
    rw [if_pos this, Int.toNat_natCast, hlf.ref j hj hr]
    unfold lnkM
    rw [if_pos hkd, hto, ht]
    rfl
  refine ⟨h1, ?_⟩
  unfold refS
  rw [h1]
  have hl : lookT (setE s k g { e with held := false }).tab k g = some (k, { e with held := false }) := lookT_some.2 ⟨g, rfl, rfl, List.getElem?_set_self hkl⟩
  show holdS _ k g = s
  rw [holdS_some hl]
  show { s with tab := (s.tab.set k _).set k _ } = s
  rw [List.set_set]
  have : s.tab.set k ⟨g, some { { e with held := false } with held := true }⟩ = s.tab := by
    apply List.ext_getElem?
    intro z
    rw [List.getElem?_set]
    split
    · rename_i hz
      subst hz
      rw [hk]
      obtain ⟨ea, er, eh, ep, el, ec, ew⟩ := e
      dsimp only at hh
      rw [hh]
    · rfl
  rw [this]

set_option maxRecDepth 10000 in
theorem Drops_walk [Extra] (z1 z2 z3 : Int) (v : Value) (l : List Ac) (hl : l.length ≤ 9223372036854775807) (wh : Int) {w : World} {fr : List HProp} [hT : HasTab 0 Lib.deBruijn64tab fr] (hr : RdS fr v l.length 9 (acells l)) (hok : ∀ x ∈ l, AcOK fr x) (H : Holds w fr) :
    Calls Tryz.prog 3 #[.agg #[.int .i64 z1, .int .i64 z2, .int .i64 z3], v, .int .i64 wh] w (ret fun r w' => r = .bool true ∧ Holds w' fr) := by
  obtain ⟨_, ad, cap, rfl, hrd⟩ := id hr
  refine calls_of Tryz.func3 rfl (by kernel_rfl) ?_
  refine J6 H ?_
  clear H; intro b3 w H
  refine J0 H ?_
  refine J30 H ?_
  refine Jc rfl rfl (Of_spec z1 z2 z3 H) ?_
  clear H; rintro r w ⟨p, n, size, slots, rfl, hn1, hn2, hs1, hs2, ht1, ht2, H⟩
  refine J53 H ?_
  refine Jc rfl rfl (alive15_spec H) ?_
  clear H; rintro v w ⟨rfl, H⟩
  refine J16 H ?_
  refine J26 H ?_
  refine J210 H ?_
  refine J16 H ?_
  refine J26 H ?_
  refine Lp_g rfl rfl rfl (St_call (a := []) (b := []) rfl rfl (call (over_spec _ l hl hr.there.there (fun x hx => (hok x hx).there.there) H) ?_))
  clear H; rintro r w ⟨b, rfl, hb, H⟩
  cases b with
  | true =>
    refine J167 H ?_
    refine J59 H ?_
    refine Jc rfl rfl (alive15_spec H) ?_
    clear H; rintro v w ⟨rfl, H⟩
    refine J173 H ?_
    refine Lp_g rfl rfl rfl (St_eqPtrNil rfl rfl (.inr rfl) rfl ?_)
    refine J3 H ?_
    exact C_ret (Jy H.drop.drop rfl fun w' H' => ⟨rfl, H'⟩)
  | false =>
    have h60 := hb rfl
    refine J20 H ?_
    refine J69 H ?_
    refine J9 H ?_
    refine C_join (fun ms σ w => ms = [] ∧ ∃ s m told, Rel s m told ∧ Fresh s told ∧ m.objs.length ≤ 60 ∧ σ 2 = .int .i64 wh ∧ σ 7 = pp p ∧ Holds w (RUN p s m told :: pts b3 (row 23 [.int .i64 z1, .int .i64 z2, .int .i64 z3]) :: fr)) ?_ ?_
    · refine C_block ?_
      refine C_loop (fun ms σ w n => ms = [] ∧ ∃ (i : Nat) (s : CS) (m : MS) (told : List (Nat × Nat)), i ≤ l.length ∧ n = l.length - i ∧ Rel s m told ∧ Fresh s told ∧ m.objs.length ≤ i ∧ m.P.length ≤ i + 1 ∧ σ 2 = .int .i64 wh ∧ σ 7 = pp p ∧ σ 53 = .slice ad l.length cap ∧ σ 54 = .int .i64 l.length ∧ σ 55 = .int .i64 i ∧ Holds w (RUN p s m told :: pts b3 (row 23 [.int .i64 z1, .int .i64 z2, .int .i64 z3]) :: fr)) (m := l.length) ⟨rfl, 0, _, _, _, by omega, rfl, rel0 n size slots, fresh0 n size slots, by decide, by decide, rfl, rfl, rfl, rfl, rfl, H⟩ ?_
      clear H
      rintro ms σ w n' ⟨rfl, i, s, m, told, hi, rfl, R, F, hob, hP, g0, gr, gsl, gle, gix, H⟩
      rw [upd_self g0, upd_self gr, upd_self gsl, upd_self gle, upd_self gix]
      refine J29 H ?_
      refine C_dec rfl (fun h => C_skip ?_) (fun h => C_exit ?_)
      · have hlt : i < l.length := by omega
        have hy := List.getElem?_eq_getElem hlt
        generalize l[i] = y at hy
        obtain ⟨hX, hws, hrW⟩ := hok y (List.mem_of_getElem? hy)
        rcases hrd with hz | ⟨b, o, E, fz, c, rfl, hA, hrd⟩
        · omega
        haveI := hA
        obtain ⟨k, A, B, C, X, vW, ws, raw, i1, gg1⟩ := y
        obtain ⟨_, adW, capW, hvW, _⟩ := id hrW
        replace hvW : vW = .slice adW ws.length capW := hvW
        subst hvW
        refine J138 H ?_
        refine Lp_s rfl (St_indexAddr rfl rfl (by omega) (by omega) rfl ?_)
        refine Lp_s rfl (St_loadN H rfl (acells_el hrd hy) rfl ?_)
        refine J22 H ?_
        clear H; intro b9 w H
        refine J8 H ?_
        clear H; intro w H
        refine Lp_nil ?_
        replace H := H.swap
        refine J28 H ?_
        refine Jc rfl rfl (Do_spec p s m told R F.seq (by omega) (by omega) k A B C i1 gg1 X hX _ ws hws raw hrW.there.there H) ?_
        clear H; rintro r w ⟨rfl, s', m', told', R', S', H⟩
        refine J121 H ?_
        replace H := (H.swap).drop
        have h1 := S'.objs
        have h2 := S'.P
        exact ⟨_, ⟨rfl, i + 1, s', m', told', hlt, rfl, R', F.step S', by omega, by omega, rfl, rfl, rfl, rfl, inc64 (by omega), H⟩, by omega⟩
      · exact ⟨rfl, rfl, s, m, told, R, F, by omega, rfl, rfl, H⟩
    clear H
    rintro ms σ w ⟨rfl, s, m, told, R, F, hob, g0, gr, H⟩
    rw [upd_self g0, upd_self gr]
    obtain ⟨c, mo, a', cap', H⟩ := RUN_out H
    have htl : told.length ≤ 1000000 := by rw [R.len]; omega
    obtain ⟨_, _, hw, _, _⟩ := CELL_out H.swap
    obtain ⟨_, _, _, _, _, _, _, hmw, _⟩ := MODEL_out (H.sel [2, 0, 0, 0, 0] 0)
    replace H := Js [0,2,0,0,0] 0 H
    refine J146 H ?_
    refine J4 H ?_
    refine J48 H ?_
    refine Jc rfl rfl (pick_spec p c mo a' cap' told htl wh (-1) 0 false H) ?_
    clear H; rintro v w ⟨i', g', o, rfl, hPk, hp1, _, H⟩
    refine J15 H ?_
    clear H; intro b11 w H
    refine J8 H ?_
    clear H; intro w H
    refine J0 H ?_
    have hT := fun (w : World) (fr : List HProp) (H : Holds w (CELL c s :: fr)) => Tell_spec c s i' g' H
    rw [tell_law R hPk] at hT
    obtain ⟨a1, a2, a3, a4, a5, a6, hsh⟩ : ∃ a1 a2 a3 a4 a5 a6, tellM (valM m o) = .tuple #[.agg #[.int .i64 a1, .int .i64 a2, .int .i64 a3, .int .i64 a4, .bool a5], .int .i64 a6] := by
      cases valM m o <;> exact ⟨_, _, _, _, _, _, rfl⟩
    replace H := Js [3,0,0,0,0,0] 0 H
    refine J28 H ?_
    refine Jc rfl rfl (hT _ _ H) ?_
    clear H; rintro v w ⟨rfl, H⟩
    rw [hsh]
    refine J15 H ?_
    clear H; intro b13 w H
    refine J8 H ?_
    clear H; intro w H
    refine J0 H ?_
    rcases rel_valid R hPk with ⟨hv1, hv2⟩ | ⟨k, gg, n', e, x, rfl, rfl, rfl, ht, hk, hx, hg, hl', hv1, hv2⟩
    · rw [hv2] at hsh
      cases hsh
      refine J4 H ?_
      by_cases ho : o < 0
      · rw [show decide (o < 0) = true from decide_eq_true (by omega)]
        refine J198 H ?_
        refine J167 H ?_
        refine J4 H ?_
        rw [show decide (o ≥ 0) = false from decide_eq_false (by omega)]
        refine J39 H ?_
        refine J3 H ?_
        exact C_ret (Jy H.drop.drop.drop.drop.drop.drop.drop rfl fun w' H' => ⟨rfl, H'⟩)
      · rw [show decide (o < 0) = false from decide_eq_false (by omega)]
        refine J39 H ?_
        refine J167 H ?_
        refine J4 H ?_
        rw [show decide (o ≥ 0) = true from decide_eq_true (by omega)]
        refine J198 H ?_
        refine J3 H ?_
        exact C_ret (Jy H.drop.drop.drop.drop.drop.drop.drop rfl fun w' H' => ⟨rfl, H'⟩)
    rw [hv2] at hsh
    cases hsh
    have hhl : e.held = true := by rw [hl'.held]; exact (valM_some hv2).2.2.1
    have hnl := (List.getElem?_eq_some_iff.1 hx).1
    have hkl := (List.getElem?_eq_some_iff.1 hk).1
    refine J4 H ?_
    rw [show decide (((n' : Nat) : Int) < 0) = false from decide_eq_false (by omega)]
    refine J39 H ?_
    refine J20 H ?_
    have hsm := MODEL_sizes (w := hmw) hx
    replace H := Js [5,0,0,0,0,0,0] 0 H
    obtain ⟨t, lc, aL, cL, bO, cO, sO, ptrs, q, vw, vk, vt, rest, hm, h2, hp, H, hclose⟩ := MODEL_at H hx
    have hm' := set_same hx hm
    refine J59 H ?_
    refine Lp_s rfl (St_buildSlice0 H rfl ?_)
    clear H; intro b92 w H
    refine J16 H ?_
    refine J42 H ?_
    refine J42 H ?_
    refine Lp_s rfl (St_indexAddr rfl rfl (by omega) (by omega) rfl ?_)
    refine Lp_s rfl (St_load1 H rfl hp rfl ?_)
    refine J18 H ?_
    refine J21 H ?_
    replace H := Js [2,0,0,0,0,0,0,0,0,0,0,0,0,0,0,0,0] 0 H
    obtain ⟨D1, H, hD1, hC1⟩ := sls_rd H (ucells_length _) (by decide)
    replace H := Js [1,0,0,0,0,0,0,0,0,0,0,0,0,0,0,0,0] 0 H
    refine Lp_s rfl (St_appendS H rfl rfl (hD1 _) (by simp [ucells, List.all_eq_true, Value.oneCell']) (by rw [ucells_length]; simp only [List.length_nil]; omega) rfl rfl ?_)
    clear H; intro v15 w H
    rw [List.nil_append] at H
    obtain ⟨a15, c15, rfl⟩ := sls_slice H (ucells_length _) (by decide)
    refine J0 H ?_
    replace H := hC1 _ _ H.swap
    replace H := Js [2,0,1,1,1,1,1,1,1,1,0,0,0,0,0,0,0] 0 H
    replace H := MODEL_same hx (hclose _ _ _ hm' H)
    clear hclose hp hC1 hD1 D1 hm'
    replace H := Js [3,0,0,0,0,0,0,0] 0 H
    refine J28 H ?_
    refine Jc rfl rfl (Drop_spec c s k gg H) ?_
    clear H; rintro v w ⟨rfl, H⟩
    rw [dropS_some hv1, Int.toNat_natCast] at H ⊢
    dsimp only at H
    refine J20 H ?_
    obtain ⟨s1, hs1⟩ : ∃ s1, s1 = setE s k gg { e with held := false } := ⟨_, rfl⟩
    rw [← hs1] at H
    have hvn : validT s1.tab k gg = none := by
      cases hv : validT s1.tab k gg with
      | none => rfl
      | some z =>
        obtain ⟨k2, e2⟩ := z
        obtain ⟨h3, h4⟩ := validT_some.1 hv
        obtain ⟨z, h5, h6, h7⟩ := lookT_some.1 h3
        obtain rfl : k = k2 := by omega
        obtain rfl : gg = z := by omega
        have h8 : s1.tab[k]? = some ⟨gg, some { e with held := false }⟩ := by rw [hs1]; exact List.getElem?_set_self hkl
        rw [h8] at h7
        injection h7 with h7
        injection h7 with _ h7
        injection h7 with h7
        rw [← h7] at h4
        cases h4
    have hrf : refS s1 k gg 0 = s1 := by unfold refS; rw [lookL_none hvn]
    have hti : TieS s1 k gg 0 k gg = (s1, 8) := by unfold TieS; rw [lookL_none hvn]; rfl
    refine J28 H ?_
    refine Jc rfl rfl (Get_spec c s1 k gg 0 H) ?_
    clear H; rintro v w ⟨rfl, H⟩
    rw [getW_none hvn]
    refine J32 H ?_
    refine J28 H ?_
    refine Jc rfl rfl (Ref_spec c s1 k gg 0 H) ?_
    clear H; rintro v w ⟨rfl, H⟩
    rw [lookL_none hvn]
    rw [hrf] at H
    dsimp only [lkv]
    refine J15 H ?_
    clear H; intro b18 w H
    refine J8 H ?_
    clear H; intro w H
    refine J0 H ?_
    replace H := H.drop
    refine J28 H ?_
    refine Jc rfl rfl (Look_spec c s1 k gg 0 H) ?_
    clear H; rintro v w ⟨rfl, H⟩
    rw [lookL_none hvn]
    dsimp only [lkv]
    refine J15 H ?_
    clear H; intro b20 w H
    refine J8 H ?_
    clear H; intro w H
    refine J0 H ?_
    replace H := H.drop
    refine J28 H ?_
    refine Jc rfl rfl (Tell_spec c s1 k gg H) ?_
    clear H; rintro v w ⟨rfl, H⟩
    rw [hvn]
    dsimp only [tellV]
    refine J15 H ?_
    clear H; intro b22 w H
    refine J8 H ?_
    clear H; intro w H
    refine J0 H ?_
    replace H := H.drop
    refine J9 H ?_
    refine C_join (fun ms σ w => ms = [] ∧ σ 7 = pp p ∧ σ 10 = pp c ∧ σ 11 = pp b11 ∧ σ 12 = .int .i64 n' ∧ σ 13 = pp b13 ∧ σ 15 = .slice a15 x.w.length c15 ∧ σ 194 = .bool false ∧ Holds w (CELL c s1 :: MODEL mo m :: UL (.slice a15 x.w.length c15) x.w :: pts b13 (row 44 [.int .i64 x.region, .int .i64 x.lay, .int .i64 x.count, .int .i64 x.w.length, .bool x.pinned]) :: pts b11 (row 32 [.int .i64 k, .int .i64 gg]) :: RROW p c mo (.slice a' told.length cap') :: TKL (.slice a' told.length cap') told :: pts b3 (row 23 [.int .i64 z1, .int .i64 z2, .int .i64 z3]) :: fr)) ?_ ?_
    · refine J10 H ?_
      refine J45 H ?_
      refine J222 H ?_
      refine J222 H ?_
      refine J171 H ?_
      refine Lp_g rfl rfl rfl (St_call (a := []) (b := []) rfl rfl (call (Set_spec c s1 k gg 0 1 (by decide) H) ?_))
      clear H; rintro v w ⟨rfl, H⟩
      rw [setWS_none hvn] at H ⊢
      refine J170 H ?_
      refine J56 H ?_
      refine Lp_g rfl rfl rfl (St_call (a := []) (b := []) rfl rfl (call (CTie_spec c s1 k gg 0 k gg H) ?_))
      clear H; rintro v w ⟨rfl, H⟩
      rw [hti] at H ⊢
      refine J170 H ?_
      refine Lp_g rfl rfl rfl (St_call (a := []) (b := []) rfl rfl (call (CCut_spec c s1 k gg 0 H) ?_))
      clear H; rintro v w ⟨rfl, H⟩
      rw [tieS_none hvn] at H ⊢
      refine J170 H ?_
      refine Lp_g rfl rfl rfl (St_call (a := []) (b := []) rfl rfl (call (Drop_spec c s1 k gg H) ?_))
      clear H; rintro v w ⟨rfl, H⟩
      rw [dropS_none hvn] at H ⊢
      refine J170 H ?_
      refine Lp_g rfl rfl rfl (St_call (a := []) (b := []) rfl rfl (call (Pin_spec c s1 k gg true H) ?_))
      clear H; rintro v w ⟨rfl, H⟩
      rw [pinS_none hvn] at H ⊢
      refine J170 H ?_
      refine Lp_g rfl rfl rfl (St_call (a := []) (b := []) rfl rfl (call (Pin_spec c s1 k gg false H) ?_))
      clear H; rintro v w ⟨rfl, H⟩
      rw [pinS_none hvn] at H ⊢
      refine J27 H ?_
      refine J0 H ?_
      exact ⟨rfl, rfl, rfl, rfl, rfl, rfl, rfl, rfl, rfl, H⟩
    clear H
    rintro ms σ w ⟨rfl, g7, g10, g11, g12, g13, g15, g194, H⟩
    rw [upd_self g7, upd_self g10, upd_self g11, upd_self g12, upd_self g13, upd_self g15, upd_self g194]
    refine J7 H ?_
    refine J149 H ?_
    replace H := Js [6,1,0,0,0,0,0,0] 0 H
    refine J17 H ?_
    refine C_loop (fun ms σ w z => ms = [] ∧ ∃ i : Nat, i ≤ told.length ∧ z = told.length - i ∧ σ 7 = pp p ∧ σ 10 = pp c ∧ σ 11 = pp b11 ∧ σ 12 = .int .i64 n' ∧ σ 13 = pp b13 ∧ σ 15 = .slice a15 x.w.length c15 ∧ σ 198 = .slice a' told.length cap' ∧ σ 199 = .int .i64 told.length ∧ σ 200 = .int .i64 i ∧ Holds w (TKL (.slice a' told.length cap') told :: MODEL mo m :: CELL c s1 :: UL (.slice a15 x.w.length c15) x.w :: pts b13 (row 44 [.int .i64 x.region, .int .i64 x.lay, .int .i64 x.count, .int .i64 x.w.length, .bool x.pinned]) :: pts b11 (row 32 [.int .i64 k, .int .i64 gg]) :: RROW p c mo (.slice a' told.length cap') :: pts b3 (row 23 [.int .i64 z1, .int .i64 z2, .int .i64 z3]) :: fr)) (m := told.length) ⟨rfl, 0, by omega, rfl, rfl, rfl, rfl, rfl, rfl, rfl, rfl, rfl, rfl, H⟩ ?_
    clear H
    rintro ms σ w z ⟨rfl, i, hi, rfl, g7, g10, g11, g12, g13, g15, g198, g199, g200, H⟩
    rw [upd_self g7, upd_self g10, upd_self g11, upd_self g12, upd_self g13, upd_self g15, upd_self g198, upd_self g199, upd_self g200]
    refine J29 H ?_
    refine C_dec rfl (fun h => C_skip ?_) (fun h => C_exit ?_)
    · have hlt : i < told.length := by omega
      have hn := List.getElem?_eq_getElem hlt
      generalize told[i] = xy at hn
      obtain ⟨xk, xg⟩ := xy
      have hyl : i < m.objs.length := by rw [← R.len]; exact hlt
      have hy := List.getElem?_eq_getElem hyl
      generalize m.objs[i] = y at hy
      have hym := hmw.objs y (List.mem_of_getElem? hy)
      have hsy := MODEL_sizes (w := hmw) hy
      obtain ⟨bT, sT, rfl, H, hcl⟩ := sls_open H (by omega)
      refine J114 H ?_
      refine Lp_s rfl (St_indexAddr rfl rfl (by omega) (by omega) rfl ?_)
      refine Lp_s rfl (St_loadN H rfl (tkc_reads hn) rfl ?_)
      refine J22 H ?_
      clear H; intro b25 w H
      refine J231 H ?_
      clear H; intro w H
      refine Lp_nil ?_
      replace H := hcl _ _ H.swap
      replace H := Js [2,0,0,0,0,0,0,0,0] 0 H
      obtain ⟨t, lc, aL, cL, bO, cO, sO, ptrs, q, vw, vk, vt, rest, hm, h2, hp, H, hclose⟩ := MODEL_at H hy
      have hm' := set_same hy hm
      obtain ⟨ak, ck, rfl⟩ := sls_slice H.drop.drop (ncells_length _) (by decide)
      obtain ⟨at_, ct, rfl⟩ := sls_slice H.drop.drop.drop (ncells_length _) (by decide)
      refine J11 H ?_
      refine J42 H ?_
      refine Lp_s rfl (St_indexAddr rfl rfl (by omega) (by omega) rfl ?_)
      refine Lp_s rfl (St_load1 H rfl hp rfl ?_)
      refine J18 H ?_
      refine J21 H ?_
      refine J196 H ?_
      refine J17 H ?_
      refine C_loop (fun ms σ w z => ms = [] ∧ ∃ j : Nat, j ≤ y.to.length ∧ z = y.to.length - j ∧ σ 7 = pp p ∧ σ 10 = pp c ∧ σ 11 = pp b11 ∧ σ 12 = .int .i64 n' ∧ σ 13 = pp b13 ∧ σ 15 = .slice a15 x.w.length c15 ∧ σ 198 = .slice (some ⟨bT, 0, none⟩) told.length cap' ∧ σ 199 = .int .i64 told.length ∧ σ 200 = .int .i64 i ∧ σ 24 = .int .i64 i ∧ σ 25 = pp b25 ∧ σ 217 = .slice at_ y.to.length ct ∧ σ 218 = .int .i64 y.to.length ∧ σ 219 = .int .i64 j ∧ Holds w (pts q (mrow vw (.slice ak y.kind.length ck) (.slice at_ y.to.length ct) y) :: UL vw y.w :: NL (.slice ak y.kind.length ck) y.kind :: NL (.slice at_ y.to.length ct) y.to :: pts bO (row 51 (ptrs ++ sO)) :: pts mo (row 56 [pp t, .slice aL m.lays.length cL, .slice (some ⟨bO, 0, none⟩) m.objs.length cO]) :: sls 101 4 (.slice aL m.lays.length cL) (bcells lc) :: star (lc.map bres) :: RTR t m.P :: star rest :: TKL (.slice (some ⟨bT, 0, none⟩) told.length cap') told :: pts b25 (row 32 [.int .i64 xk, .int .i64 xg]) :: CELL c s1 :: UL (.slice a15 x.w.length c15) x.w :: pts b13 (row 44 [.int .i64 x.region, .int .i64 x.lay, .int .i64 x.count, .int .i64 x.w.length, .bool x.pinned]) :: pts b11 (row 32 [.int .i64 k, .int .i64 gg]) :: RROW p c mo (.slice (some ⟨bT, 0, none⟩) told.length cap') :: pts b3 (row 23 [.int .i64 z1, .int .i64 z2, .int .i64 z3]) :: fr)) (m := y.to.length) ⟨rfl, 0, by omega, rfl, rfl, rfl, rfl, rfl, rfl, rfl, rfl, rfl, rfl, rfl, rfl, rfl, rfl, rfl, H⟩ ?_
      clear H
      rintro ms σ w z ⟨rfl, j, hj, rfl, g7, g10, g11, g12, g13, g15, g198, g199, g200, g24, g25, g217, g218, g219, H⟩
      rw [upd_self g7, upd_self g10, upd_self g11, upd_self g12, upd_self g13, upd_self g15, upd_self g198, upd_self g199, upd_self g200, upd_self g24, upd_self g25, upd_self g217, upd_self g218, upd_self g219]
      refine J29 H ?_
      refine C_dec rfl (fun h => C_skip ?_) (fun h => C_exit ?_)
      · have hjl : j < y.to.length := by omega
        have hjw : j < y.w.length := by rw [← hym.to]; exact hjl
        have hjk : j < y.kind.length := by rw [hym.kind]; exact hjw
        have htj := List.getElem?_eq_getElem hjl
        have hkj := List.getElem?_eq_getElem hjk
        have htd : y.to.getD j 0 = y.to[j] := by rw [List.getD_eq_getElem?_getD, htj]; rfl
        have hkd : y.kind.getD j 0 = y.kind[j] := by rw [List.getD_eq_getElem?_getD, hkj]; rfl
        generalize y.to[j] = td at htj htd
        generalize y.kind[j] = kd at hkj hkd
        replace H := Js [3,2,0,0,0,0,0,0,0,0,0,0,0,0,0,0,0,0] 0 H
        obtain ⟨bt, st, rfl, H, hct⟩ := sls_open H (by omega)
        obtain ⟨bk, sk, rfl, H, hck⟩ := sls_open H.swap (by omega)
        replace H := Js [2,2,0,0,0,0,0,0,0,0,0,0,0,0,0,0,0,0] 0 H
        refine J114 H ?_
        refine Lp_s rfl (St_indexAddr rfl rfl (by omega) (by omega) rfl ?_)
        refine Lp_s rfl (St_load1 H rfl (ncells_get htj) rfl ?_)
        refine J62 H ?_
        refine C_join (fun ms σ w => ms = [] ∧ ∃ b : Bool, σ 259 = .bool b ∧ (b = false → i ≠ n' ∧ kd = 2 ∧ td = n' ∧ y.held = true ∧ y.gone = false) ∧ σ 7 = pp p ∧ σ 10 = pp c ∧ σ 11 = pp b11 ∧ σ 12 = .int .i64 n' ∧ σ 13 = pp b13 ∧ σ 15 = .slice a15 x.w.length c15 ∧ σ 198 = .slice (some ⟨bT, 0, none⟩) told.length cap' ∧ σ 199 = .int .i64 told.length ∧ σ 200 = .int .i64 i ∧ σ 24 = .int .i64 i ∧ σ 25 = pp b25 ∧ σ 26 = .int .i64 j ∧ σ 217 = .slice (some ⟨bt, 0, none⟩) y.to.length ct ∧ σ 218 = .int .i64 y.to.length ∧ σ 219 = .int .i64 j ∧ Holds w (pts q (mrow vw (.slice (some ⟨bk, 0, none⟩) y.kind.length ck) (.slice (some ⟨bt, 0, none⟩) y.to.length ct) y) :: UL vw y.w :: pts bk (row 3 (ncells y.kind ++ sk)) :: pts bt (row 3 (ncells y.to ++ st)) :: pts bO (row 51 (ptrs ++ sO)) :: pts mo (row 56 [pp t, .slice aL m.lays.length cL, .slice (some ⟨bO, 0, none⟩) m.objs.length cO]) :: sls 101 4 (.slice aL m.lays.length cL) (bcells lc) :: star (lc.map bres) :: RTR t m.P :: star rest :: TKL (.slice (some ⟨bT, 0, none⟩) told.length cap') told :: pts b25 (row 32 [.int .i64 xk, .int .i64 xg]) :: CELL c s1 :: UL (.slice a15 x.w.length c15) x.w :: pts b13 (row 44 [.int .i64 x.region, .int .i64 x.lay, .int .i64 x.count, .int .i64 x.w.length, .bool x.pinned]) :: pts b11 (row 32 [.int .i64 k, .int .i64 gg]) :: RROW p c mo (.slice (some ⟨bT, 0, none⟩) told.length cap') :: pts b3 (row 23 [.int .i64 z1, .int .i64 z2, .int .i64 z3]) :: fr)) ?_ ?_
        · refine J10 H ?_
          by_cases hin : i = n'
          · rw [show ((i : Int) == (n' : Int)) = true by rw [hin]; exact beq_int _]
            refine J197 H ?_
            refine J83 H ?_
            refine J83 H ?_
            refine J83 H ?_
            refine Lp_no rfl rfl rfl ?_
            refine J124 H ?_
            refine J72 H ?_
            refine J104 H ?_
            refine J0 H ?_
            exact ⟨rfl, rfl, true, rfl, (fun h => by cases h), rfl, rfl, rfl, rfl, rfl, rfl, rfl, rfl, rfl, rfl, rfl, rfl, rfl, rfl, rfl, H⟩
          · rw [show ((i : Int) == (n' : Int)) = false by rw [beq_eq_false_iff_ne]; omega]
            refine J39 H ?_
            refine J64 H ?_
            refine J64 H ?_
            refine Lp_g rfl rfl rfl (St_indexAddr rfl rfl (by omega) (by omega) rfl ?_)
            refine Lp_g rfl rfl rfl (St_load1 H rfl hp rfl ?_)
            refine J125 H ?_
            refine Lp_g rfl rfl rfl (St_indexAddr rfl rfl (by omega) (by omega) rfl ?_)
            refine Lp_g rfl rfl rfl (St_load1 H rfl (ncells_get hkj) rfl ?_)
            refine J26 H ?_
            by_cases hk2 : kd = 2
            · rw [show (((kd : Nat) : Int) != 2) = false by rw [hk2]; rfl]
              refine J222 H ?_
              by_cases hto : td = n'
              · rw [show (((td : Nat) : Int) != (n' : Int)) = false by rw [hto]; exact bne_self_eq_false _]
                refine J106 H ?_
                refine Lp_g rfl rfl rfl (St_call (a := []) (b := []) rfl rfl (call (Valid_at mo i q bO t m.objs.length cO cL m.lays.length aL ptrs sO _ _ _ y hyl (by omega) hp _ _ _ H) ?_))
                clear H; rintro v w ⟨rfl, H⟩
                refine J119 H ?_
                refine ⟨rfl, rfl, !(y.held && !y.gone), rfl, (fun h => ?_), rfl, rfl, rfl, rfl, rfl, rfl, rfl, rfl, rfl, rfl, rfl, rfl, rfl, rfl, rfl, H⟩
                have h := h
                refine ⟨hin, hk2, hto, ?_⟩
                cases hh1 : y.held <;> cases hh2 : y.gone <;> rw [hh1, hh2] at h <;> simp at h ⊢
              · rw [show (((td : Nat) : Int) != (n' : Int)) = true by rw [bne_iff_ne]; omega]
                refine J72 H ?_
                refine J104 H ?_
                refine J0 H ?_
                exact ⟨rfl, rfl, true, rfl, (fun h => by cases h), rfl, rfl, rfl, rfl, rfl, rfl, rfl, rfl, rfl, rfl, rfl, rfl, rfl, rfl, rfl, H⟩
            · rw [show (((kd : Nat) : Int) != 2) = true by rw [bne_iff_ne]; omega]
              refine J124 H ?_
              refine J72 H ?_
              refine J104 H ?_
              refine J0 H ?_
              exact ⟨rfl, rfl, true, rfl, (fun h => by cases h), rfl, rfl, rfl, rfl, rfl, rfl, rfl, rfl, rfl, rfl, rfl, rfl, rfl, rfl, rfl, H⟩
        clear H
        rintro ms σ w ⟨rfl, b, g259, hb, g7, g10, g11, g12, g13, g15, g198, g199, g200, g24, g25, g26, g217, g218, g219, H⟩
        rw [upd_self g259, upd_self g7, upd_self g10, upd_self g11, upd_self g12, upd_self g13, upd_self g15, upd_self g198, upd_self g199, upd_self g200, upd_self g24, upd_self g25, upd_self g26, upd_self g217, upd_self g218, upd_self g219]
        replace H := Js [2,2,0,0,0,0,0,0,0,0,0,0,0,0,0,0,0,0] 0 H
        replace H := hck _ _ H
        replace H := hct _ _ H.swap
        replace H := Js [2,2,1,0,0,0,0,0,0,0,0,0,0,0,0,0,0,0] 0 H
        cases b with
        | true =>
          refine J9 H ?_
          refine C_true rfl (C_exit ?_)
          refine J5 H ?_
          exact ⟨_, ⟨rfl, j + 1, hjl, rfl, rfl, rfl, rfl, rfl, rfl, rfl, rfl, rfl, rfl, rfl, rfl, rfl, rfl, inc64 (by omega), H⟩, by omega⟩
        | false =>
          obtain ⟨hin, rfl, rfl, hyh, hyg⟩ := hb rfl
          obtain ⟨hlk, hrs⟩ := drops_ref (x := x) R hk hhl ht hn hy hin hyg hyh hjw hkd htd
          rw [← hs1] at hlk hrs
          refine J7 H ?_
          replace H := MODEL_same hy (hclose _ _ _ hm' H)
          replace H := Js [3,0,0,0,0,0,0,0,0] 0 H
          refine J89 H ?_
          refine Jc rfl rfl (Ref_spec c s1 xk xg j H) ?_
          clear H; rintro v w ⟨rfl, H⟩
          rw [hlk]
          rw [hrs] at H
          dsimp only [lkv]
          refine J15 H ?_
          clear H; intro b28 w H
          refine J8 H ?_
          clear H; intro w H
          refine J208 H ?_
          refine Lp_g rfl rfl rfl (St_fieldAddr rfl rfl ?_)
          refine J56 H ?_
          refine J56 H ?_
          refine Lp_g rfl rfl rfl (St_eqPair rfl rfl (.inr rfl) rfl ?_)
          rw [show decide ((((k : Nat) : Int), ((gg : Nat) : Int)) = (((k : Nat) : Int), ((gg : Nat) : Int))) = true from decide_eq_true rfl]
          refine J20 H ?_
          replace H := H.drop
          refine J28 H ?_
          refine Jc rfl rfl (hT _ _ H) ?_
          clear H; rintro v w ⟨rfl, H⟩
          rw [hv2]
          dsimp only [tellM]
          refine J15 H ?_
          clear H; intro b30 w H
          refine J8 H ?_
          clear H; intro w H
          refine J208 H ?_
          refine J56 H ?_
          refine J56 H ?_
          refine Lp_g rfl rfl rfl (St_eqAgg rfl rfl rfl rfl (.inr rfl) rfl ?_)
          rw [veq_info]
          refine J20 H ?_
          replace H := H.drop
          refine J69 H ?_
          replace H := Js [4,0,0,0,0,0,0,0,0] 0 H
          refine J17 H ?_
          refine C_loop (fun ms σ w z => ms = [] ∧ ∃ r : Nat, r ≤ x.w.length ∧ z = x.w.length - r ∧ σ 10 = pp c ∧ σ 11 = pp b11 ∧ σ 288 = .slice a15 x.w.length c15 ∧ σ 289 = .int .i64 x.w.length ∧ σ 290 = .int .i64 r ∧ Holds w (UL (.slice a15 x.w.length c15) x.w :: CELL c s :: MODEL mo m :: TKL (.slice (some ⟨bT, 0, none⟩) told.length cap') told :: pts b25 (row 32 [.int .i64 xk, .int .i64 xg]) :: pts b13 (row 44 [.int .i64 x.region, .int .i64 x.lay, .int .i64 x.count, .int .i64 x.w.length, .bool x.pinned]) :: pts b11 (row 32 [.int .i64 k, .int .i64 gg]) :: RROW p c mo (.slice (some ⟨bT, 0, none⟩) told.length cap') :: pts b3 (row 23 [.int .i64 z1, .int .i64 z2, .int .i64 z3]) :: fr)) (m := x.w.length) ⟨rfl, 0, by omega, rfl, rfl, rfl, rfl, rfl, rfl, H⟩ ?_
          clear H
          rintro ms σ w z ⟨rfl, r, hrx, rfl, g10, g11, g288, g289, g290, H⟩
          rw [upd_self g10, upd_self g11, upd_self g288, upd_self g289, upd_self g290]
          refine J29 H ?_
          refine C_dec rfl (fun h => C_skip ?_) (fun h => C_exit ?_)
          · have hrl : r < x.w.length := by omega
            have hrj := List.getElem?_eq_getElem hrl
            have hrd' : x.w.getD r 0 = x.w[r] := by rw [List.getD_eq_getElem?_getD, hrj]; rfl
            have hgw := get_law R hPk r
            generalize x.w[r] = wr at hrj hrd'
            obtain ⟨bw, sw, rfl, H, hcw⟩ := sls_open H (by omega)
            refine J114 H ?_
            refine Lp_s rfl (St_indexAddr rfl rfl (by omega) (by omega) rfl ?_)
            refine Lp_s rfl (St_load1 H rfl (ucells_get hrj) rfl ?_)
            refine J3 H ?_
            refine J89 H ?_
            refine Jc rfl rfl (Get_spec c s k gg r H.swap) ?_
            clear H; rintro v w ⟨rfl, H⟩
            replace H := hcw _ _ H.swap
            rcases hgw with ⟨h0, h1⟩ | ⟨h0, n2, j2, x2, e1, e2, e3, _, h1⟩
            · rw [h1]
              refine J32 H ?_
              refine J4 H ?_
              rw [show (((placeM m td r false : Nat) : Int) == 0) = false by rw [beq_eq_false_iff_ne]; omega]
              refine J153 H ?_
              refine J229 H ?_
              exact ⟨_, ⟨rfl, r + 1, hrl, rfl, rfl, rfl, rfl, rfl, inc64 (by omega), H⟩, by omega⟩
            · obtain rfl : n2 = td := by omega
              obtain rfl : j2 = r := by omega
              rw [hx] at e3
              injection e3 with e3
              subst e3
              rw [hrd'] at h1
              rw [h1]
              refine J230 H ?_
              refine J45 H ?_
              rw [show ((wr : Int) != (wr : Int)) = false from bne_self_eq_false _]
              refine J229 H ?_
              exact ⟨_, ⟨rfl, j2 + 1, hrl, rfl, rfl, rfl, rfl, rfl, inc64 (by omega), H⟩, by omega⟩
          · refine J19 H ?_
            exact C_ret (Jy H.drop.drop.drop.drop.drop.drop.drop.drop.drop rfl fun w' H' => ⟨rfl, H'⟩)
      · replace H := MODEL_same hy (hclose _ _ _ hm' H)
        replace H := Js [1,0,1,1,1,1,1,1] 1 H
        refine J5 H ?_
        exact ⟨_, ⟨rfl, i + 1, hlt, rfl, rfl, rfl, rfl, rfl, rfl, rfl, rfl, rfl, inc64 (by omega), H⟩, by omega⟩
    · have hge : i = told.length := by omega
      refine J19 H ?_
      exact C_ret (Jy H.drop.drop.drop.drop.drop.drop.drop.drop rfl fun w' H' => ⟨rfl, H'⟩)
end Go.Proofs.YtcaaojbnjfdglaaGreatDoor
