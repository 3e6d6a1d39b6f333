/- Cells: what is proved on the way: every input of the statement; no condition. Texts joined: LawH LawI LawJ LawK LawL DelA DelB DelC. -/
import Derived.Test.YtcaaojbnjfdglaaGreatDoorCgf
import Derived.Test.YtcaaojbnjfdglaaGreatDoorCgp
import Derived.Test.YtcaaojbnjfdglaaGreatDoorCgk
import Derived.Test.YtcaaojbnjfdglaaGreatDoorCge
import Derived.Test.YtcaaojbnjfdglaaGreatDoorCgm
set_option linter.unusedVariables false
set_option linter.unusedSimpArgs false
set_option linter.unusedSectionVars false
namespace Go.Proofs.YtcaaojbnjfdglaaGreatDoor
open Go.SL

/-- An act. -/
structure Ac where
  k : Int
  A : Int
  B : Int
  C : Int
  X : Nat
  vW : Value
  ws : List Nat
  raw : Bool
  i : Int
  g : Int
def acell (x : Ac) : List Value := [.int .i64 x.k, .int .i64 x.A, .int .i64 x.B, .int .i64 x.C, .int .u64 x.X, x.vW, .bool x.raw, .int .i64 x.i, .int .i64 x.g]
def acells (l : List Ac) : List Value := l.flatMap acell
def AcOK (fr : List HProp) (x : Ac) : Prop := x.X < 18446744073709551616 ∧ (∀ y ∈ x.ws, y < 18446744073709551616) ∧ RdS fr x.vW x.ws.length 1 (ucells x.ws)
theorem acells_length (l : List Ac) : (acells l).length = l.length * 9 := by
  induction l with
  | nil => rfl
  | cons p L ih => simp only [acells, acell, List.flatMap_cons, List.length_append, List.length_cons, List.length_nil] at ih ⊢; omega
theorem acells_get {L : List Ac} {i : Nat} {x : Ac} (h : L[i]? = some x) : ∀ j v, (acell x)[j]? = some v → (acells L)[i * 9 + j]? = some v := by
  induction L generalizing i with
  | nil => simp at h
  | cons y L ih =>
    intro j v hj
    have hj9 : j < 9 := (List.getElem?_eq_some_iff.1 hj).1
    cases i with
    | zero =>
      simp at h
      subst h
      show (acell y ++ L.flatMap acell)[0 * 9 + j]? = _
      rw [Nat.zero_mul, Nat.zero_add, List.getElem?_append_left hj9]
      exact hj
    | succ i =>
      have := ih (i := i) (by simpa using h) j v hj
      show (acell y ++ L.flatMap acell)[(i + 1) * 9 + j]? = _
      rw [List.getElem?_append_right (by show 9 ≤ _; omega)]
      show (L.flatMap acell)[(i + 1) * 9 + j - 9]? = _
      rw [show (i + 1) * 9 + j - 9 = i * 9 + j by omega]
      exact this
theorem acells_el {c : List Value} {o n : Nat} {L : List Ac} (h : Reads c o n (acells L)) {i : Nat} {x : Ac} (hp : L[i]? = some x) : Reads c (o + i * 9) 9 (acell x) :=
  h.part (es := acell x) fun j v hj => acells_get hp j v hj

theorem over_spec [Extra] (v : Value) (l : List Ac) (hl : l.length ≤ 9223372036854775807) {w : World} {fr : List HProp} (hr : RdS fr v l.length 9 (acells l)) (hok : ∀ x ∈ l, AcOK fr x) (H : Holds w fr) :
    Calls Tryz.prog 14 #[v] w (ret fun r w' => ∃ b, r = .bool b ∧ (b = false → l.length ≤ 60) ∧ Holds w' fr) := by
  obtain ⟨h0, ad, cap, rfl, hrd⟩ := hr
  refine calls_of Tryz.func14 rfl (by kernel_rfl) ?_
  refine J23 H ?_
  refine J95 H ?_
  by_cases h60 : (l.length : Int) > 60
  · rw [show decide ((l.length : Int) > 60) = true from decide_eq_true (by omega)]
    refine J31 H ?_
    exact C_ret (Jy H rfl fun w' H' => ⟨true, rfl, (fun h => by cases h), H'⟩)
  rw [show decide ((l.length : Int) > 60) = false from decide_eq_false (by omega)]
  refine J8 H ?_
  refine J119 H ?_
  refine C_loop (fun ms σ w n => ms = [] ∧ ∃ i : Nat, i ≤ l.length ∧ n = l.length - i ∧ σ 8 = .slice ad l.length cap ∧ σ 9 = .int .i64 l.length ∧ σ 10 = .int .i64 i ∧ Holds w fr) (m := l.length) ⟨rfl, 0, by omega, rfl, rfl, rfl, rfl, H⟩ ?_
  clear H
  rintro ms σ w n ⟨rfl, i, hi, rfl, g8, g9, g10, H⟩
  rw [upd_self g8, upd_self g9, upd_self g10]
  refine J21 H ?_
  refine C_dec rfl (fun h => C_skip ?_) (fun h => C_exit ?_)
  · have hlt : i < l.length := by omega
    have hy := List.getElem?_eq_getElem hlt
    generalize l[i] = y at hy
    have hym := hok y (List.mem_of_getElem? hy)
    rcases hrd with hz | ⟨b, o, E, fz, c, rfl, hA, hrd⟩
    · omega
    haveI := hA
    obtain ⟨k, A, B, C, X, vW, ws, raw, i1, g1⟩ := y
    obtain ⟨_, _, _, adW, capW, hvW, _⟩ := hym
    replace hvW : vW = .slice adW ws.length capW := hvW
    subst hvW
    refine J68 H ?_
    refine Lp_s rfl (St_indexAddr rfl rfl (by omega) (by omega) rfl ?_)
    refine Lp_s rfl (St_loadN H rfl (acells_el hrd hy) rfl ?_)
    refine J17 H ?_
    clear H; intro b4 w H
    refine J7 H ?_
    clear H; intro w H
    refine Lp_nil ?_
    refine J158 H ?_
    by_cases hk : k = 2
    · subst hk
      refine J118 H ?_
      by_cases hC : C > 40
      · rw [show decide (C > 40) = true from decide_eq_true (by omega)]
        refine J24 H ?_
        refine J131 H ?_
        refine J24 H ?_
        refine J64 H ?_
        refine J53 H ?_
        exact C_ret (Jy H.drop rfl fun w' H' => ⟨true, rfl, (fun h => by cases h), H'⟩)
      · rw [show decide (C > 40) = false from decide_eq_false (by omega)]
        refine J209 H ?_
        by_cases hB : B > 64
        · rw [show decide (B > 64) = true from decide_eq_true (by omega)]
          refine J24 H ?_
          refine J64 H ?_
          refine J53 H ?_
          exact C_ret (Jy H.drop rfl fun w' H' => ⟨true, rfl, (fun h => by cases h), H'⟩)
        · rw [show decide (B > 64) = false from decide_eq_false (by omega)]
          by_cases hw : (ws.length : Int) > 10
          · first | refine Lp_gpv rfl rfl rfl rfl ?_ | refine Lp_no rfl rfl rfl ?_ | refine Lp_nn rfl rfl ?_
            refine J256 H ?_
            rw [show decide ((ws.length : Int) > 10) = true from decide_eq_true (by omega)]
            refine J53 H ?_
            exact C_ret (Jy H.drop rfl fun w' H' => ⟨true, rfl, (fun h => by cases h), H'⟩)
          · first | refine Lp_gpv rfl rfl rfl rfl ?_ | refine Lp_no rfl rfl rfl ?_ | refine Lp_nn rfl rfl ?_
            refine J256 H ?_
            rw [show decide ((ws.length : Int) > 10) = false from decide_eq_false (by omega)]
            refine J18 H ?_
            refine J3 H ?_
            exact ⟨_, ⟨rfl, i + 1, hlt, rfl, rfl, rfl, inc64 (by omega), H.drop⟩, by omega⟩
    · rw [show (k == 2) = false by simpa using hk]
      by_cases hw : (ws.length : Int) > 10
      · first | refine Lp_pv rfl rfl ?_ | refine Lp_mv rfl rfl ?_
        refine J93 H ?_
        refine J206 H ?_
        refine J256 H ?_
        rw [show decide ((ws.length : Int) > 10) = true from decide_eq_true (by omega)]
        refine J53 H ?_
        exact C_ret (Jy H.drop rfl fun w' H' => ⟨true, rfl, (fun h => by cases h), H'⟩)
      · first | refine Lp_pv rfl rfl ?_ | refine Lp_mv rfl rfl ?_
        refine J93 H ?_
        refine J206 H ?_
        refine J256 H ?_
        rw [show decide ((ws.length : Int) > 10) = false from decide_eq_false (by omega)]
        refine J18 H ?_
        refine J3 H ?_
        exact ⟨_, ⟨rfl, i + 1, hlt, rfl, rfl, rfl, inc64 (by omega), H.drop⟩, by omega⟩
  · have hge : i = l.length := by omega
    refine J23 H ?_
    exact C_ret (Jy H rfl fun w' H' => ⟨false, rfl, fun _ => by omega, H'⟩)
end Go.Proofs.YtcaaojbnjfdglaaGreatDoor
namespace Go.Proofs.YtcaaojbnjfdglaaGreatDoor
open Go.SL

def cs0 (n size slots : Nat) : CS := ⟨size, List.replicate n 0, [], List.replicate slots ⟨0, none⟩, 0, [], [], [], []⟩
theorem rel0 (n size slots : Nat) : Rel (cs0 n size slots) ms0 [] := by
  have hno : ∀ (k g : Nat) (e : Ent), (List.replicate slots (⟨0, none⟩ : Slt))[k]? ≠ some ⟨g, some e⟩ := by
    intro k g e h
    rw [List.getElem?_replicate] at h
    split at h <;> cases h
  refine ⟨rfl, rfl, ?_, List.nodup_nil, rfl, ?_, ?_, fun k g e h => absurd h (hno k g e), ?_, List.nodup_nil⟩
  · intro r q
    constructor
    · intro h; cases h
    · rintro ⟨k, _, h1, h2, _⟩
      have : k < 1 := (List.getElem?_eq_some_iff.1 h2).1
      omega
  · intro o x k g h; cases h
  · intro o x k g h; cases h
  · intro o k g h; cases h

/-- While nothing is freed: the first slots are taken, once each. -/
structure Fresh (s : CS) (told : List (Nat × Nat)) : Prop where
  shape : ∃ r, shapeT s.tab = List.replicate told.length (1, true) ++ List.replicate r (0, false)
  told : told = (List.range told.length).map fun i => (i, 1)
  inv : Inv s
theorem fresh0 (n size slots : Nat) : Fresh (cs0 n size slots) [] := ⟨⟨slots, by simp [shapeT, cs0]⟩, rfl, inv_empty rfl no_free⟩
theorem shape_at {ts : List Slt} {n r k : Nat} {t : Slt} (h : shapeT ts = List.replicate n (1, true) ++ List.replicate r (0, false)) (hk : ts[k]? = some t) : (k < n ∧ t.gen = 1 ∧ t.ent.isSome = true) ∨ (n ≤ k ∧ k < n + r ∧ t.gen = 0 ∧ t.ent = none) := by
  have h1 : (shapeT ts)[k]? = some (t.gen, t.ent.isSome) := by
    unfold shapeT
    rw [List.getElem?_map, hk]
    rfl
  rw [h] at h1
  by_cases hkn : k < n
  · rw [List.getElem?_append_left (by simpa using hkn), List.getElem?_replicate, if_pos hkn] at h1
    injection h1 with h1
    injection h1 with h2 h3
    exact .inl ⟨hkn, h2.symm, h3.symm⟩
  · rw [List.getElem?_append_right (by simp; omega), List.length_replicate, List.getElem?_replicate] at h1
    split at h1
    · injection h1 with h1
      injection h1 with h2 h3
      refine .inr ⟨by omega, by omega, h2.symm, ?_⟩
      cases he : t.ent with
      | none => rfl
      | some e => rw [he] at h3; cases h3
    · cases h1
theorem Fresh.seq {s : CS} {told : List (Nat × Nat)} (h : Fresh s told) : Seq s := by
  obtain ⟨⟨r, hs⟩, _, _⟩ := h
  intro i j t g e hij hi hj
  rcases shape_at hs hj with ⟨h1, _⟩ | ⟨_, _, _, h1⟩
  · rcases shape_at hs hi with ⟨_, _, h2⟩ | ⟨h2, _⟩
    · unfold busy; rw [h2]; rfl
    · omega
  · cases h1
theorem Fresh.step {s s' : CS} {m m' : MS} {told told' : List (Nat × Nat)} (h : Fresh s told) (st : Step s m told s' m' told') : Fresh s' told' := by
  obtain ⟨⟨r, hs⟩, ht, hI⟩ := h
  rcases st.tab with ⟨rfl, h1⟩ | ⟨k, g0, rfl, h1, h2, h3⟩
  · exact ⟨⟨r, by rw [h1]; exact hs⟩, ht, st.inv hI⟩
  · rcases shape_at hs h1 with ⟨_, _, h4⟩ | ⟨h4, h5, h6, _⟩
    · cases h4
    · have h6 : g0 = 0 := h6
      subst h6
      have hl : s.tab.length = told.length + r := by
        have := congrArg List.length hs
        simpa [shapeT] using this
      have hk : k = told.length := by
        refine Classical.byContradiction fun hne => ?_
        have hlt : told.length < k := by omega
        have hn := List.getElem?_eq_getElem (l := s.tab) (i := told.length) (by omega)
        have hb := h2 told.length _ hlt hn
        rcases shape_at hs hn with ⟨h7, _⟩ | ⟨_, _, h7, h8⟩
        · omega
        · unfold busy at hb
          rw [h7, h8] at hb
          cases hb
      subst hk
      refine ⟨⟨r - 1, ?_⟩, ?_, st.inv hI⟩
      · rw [h3, hs, List.length_append]
        obtain ⟨r', rfl⟩ : ∃ r', r = r' + 1 := ⟨r - 1, by omega⟩
        rw [List.set_append_right _ _ (by simp), List.length_replicate, Nat.sub_self, List.replicate_succ, List.set_cons_zero, Nat.add_sub_cancel]
        show _ = List.replicate (told.length + 1) (1, true) ++ _
        rw [List.replicate_succ', List.append_assoc]
        rfl
      · rw [List.length_append]
        show told ++ [(told.length, 1)] = (List.range (told.length + 1)).map _
        rw [List.range_succ, List.map_append, ← ht]
        rfl

theorem max0 (x : Int) : ∃ X : Nat, (if x > 0 then x else 0) = (X : Int) := ⟨x.toNat, by split <;> omega⟩
theorem Of_spec [Extra] (z1 z2 z3 : Int) {w : World} {fr : List HProp} (H : Holds w fr) :
    Calls Tryz.prog 12 #[.agg #[.int .i64 z1, .int .i64 z2, .int .i64 z3]] w (ret fun v w' => ∃ p n size slots, v = pp p ∧ 1 ≤ n ∧ n ≤ 20 ∧ 1 ≤ size ∧ size ≤ 16 ∧ 1 ≤ slots ∧ slots ≤ 16 ∧ Holds w' (RUN p (cs0 n size slots) ms0 [] :: fr)) := by
  obtain ⟨X1, h1⟩ := max0 z1
  obtain ⟨X2, h2⟩ := max0 z2
  obtain ⟨X3, h3⟩ := max0 z3
  refine calls_of Tryz.func12 rfl (by kernel_rfl) ?_
  refine J5 H ?_
  clear H; intro b1 w H
  refine J66 H ?_
  refine J28 H ?_
  refine J126 H ?_
  rw [h1]
  refine Lp_pv (v := .int .i64 ((X1 % 20 : Nat) : Int)) (by
    show some (Value.int IntKind.i64 (Int.tmod (X1 : Int) 20)) = _
    rw [Int.tmod_eq_emod_of_nonneg (by omega)]; rfl) rfl ?_
  refine J10 H ?_
  rw [show IntKind.i64.wrap (1 + ((X1 % 20 : Nat) : Int)) = ((X1 % 20 + 1 : Nat) : Int) by rw [wrap64 (by omega) (by omega)]; omega]
  refine J28 H ?_
  refine J126 H ?_
  rw [h2]
  refine Lp_pv (v := .int .i64 ((X2 % 16 : Nat) : Int)) (by
    show some (Value.int IntKind.i64 (Int.tmod (X2 : Int) 16)) = _
    rw [Int.tmod_eq_emod_of_nonneg (by omega)]; rfl) rfl ?_
  refine J10 H ?_
  rw [show IntKind.i64.wrap (1 + ((X2 % 16 : Nat) : Int)) = ((X2 % 16 + 1 : Nat) : Int) by rw [wrap64 (by omega) (by omega)]; omega]
  refine J28 H ?_
  refine J126 H ?_
  rw [h3]
  refine Lp_pv (v := .int .i64 ((X3 % 16 : Nat) : Int)) (by
    show some (Value.int IntKind.i64 (Int.tmod (X3 : Int) 16)) = _
    rw [Int.tmod_eq_emod_of_nonneg (by omega)]; rfl) rfl ?_
  refine J10 H ?_
  rw [show IntKind.i64.wrap (1 + ((X3 % 16 : Nat) : Int)) = ((X3 % 16 + 1 : Nat) : Int) by rw [wrap64 (by omega) (by omega)]; omega]
  
  refine Jc rfl rfl (cNew_spec (X1 % 20 + 1) (X2 % 16 + 1) (X3 % 16 + 1) (by omega) (by omega) (by omega) (by omega) (by omega) (by omega) H) ?_
  clear H; rintro v w ⟨c, rfl, H⟩
  refine J43 H ?_
  refine J9 H ?_
  refine J24 H ?_
  refine J169 H ?_
  refine J18 H ?_
  refine J20 H ?_
  refine Jc rfl rfl (New15_spec H) ?_
  clear H; rintro v w ⟨mo, rfl, H⟩
  refine J50 H ?_
  clear H; intro b33 w H
  refine J0 H ?_
  have H := sls_nil (E := 32) (k := 2) H
  replace H := Js [1,2,1,0] 1 H
  exact C_ret (Jy (RUN_in (told := []) H) rfl fun w' H' => ⟨_, X1 % 20 + 1, X2 % 16 + 1, X3 % 16 + 1, rfl, by omega, by omega, by omega, by omega, by omega, by omega, H'⟩)
end Go.Proofs.YtcaaojbnjfdglaaGreatDoor
namespace Go.Proofs.YtcaaojbnjfdglaaGreatDoor
open Go.SL

def L0 : Lay := ⟨2, [1], 0, []⟩
def mB : MS := ⟨[-1, 0], [L0], []⟩
def mC : MS := makeM mB 1 1 0
def mD : MS := makeM mC 1 1 0
theorem dec0 : decodeL [2, 2, 0] = some L0 := by rfl
theorem right0 : RightL L0 := by decide
theorem mwfB : MWF mB := ⟨⟨by simp [mB], by simp [mB]⟩, ⟨by simp [mB], fun l h => by simp [mB] at h; subst h; exact right0⟩, (fun x h => by simp [mB] at h), by simp [mB]⟩
theorem mwf0 : MWF ms0 := ⟨⟨by simp [ms0], by simp [ms0]⟩, ⟨by simp [ms0], fun l h => by simp [ms0] at h⟩, (fun x h => by simp [ms0] at h), by simp [ms0]⟩
theorem mayB : mayM mB 1 1 0 = (2, 0) := by decide
theorem mayC : mayM mC 1 1 0 = (2, 0) := by decide
theorem mwfC : MWF mC := MWF_make (by rw [mayB]) mwfB (by simp [mB])
theorem mwfD : MWF mD := MWF_make (by rw [mayC]) mwfC (by show (mB.objs ++ [_]).length < _; simp [mB])

def mE : MS := (tieM mD 0 1 1).1
def mF : MS := (dropM mE 1).1
def mG : MS := (refM mF 0 1).1
theorem mwfE : MWF mE := by
  show MWF (setM mD 0 { newM 1 1 0 2 with kind := (newM 1 1 0 2).kind.set 1 2, to := (newM 1 1 0 2).to.set 1 1 })
  exact MWF_set mwfD (MobOK_cut (mwfD.objs _ (show newM 1 1 0 2 ∈ [newM 1 1 0 2, newM 1 1 0 2] from List.mem_cons_self)) 1 2 1 (fun _ => by decide))
theorem mwfF : MWF mF := by
  show MWF (setM mE 1 { newM 1 1 0 2 with held := false })
  obtain ⟨a, b, c, d, e⟩ := mwfD.objs _ (show newM 1 1 0 2 ∈ [newM 1 1 0 2, newM 1 1 0 2] from List.mem_cons_self)
  exact MWF_set mwfE ⟨a, b, c, d, e⟩
theorem alive_make {s s' : CS} {m : MS} {told : List (Nat × Nat)} {i g e : Nat} (R : Rel s m told) (hm : MWF m) (F : Fresh s told) (hM : Made s 1 1 0 i g e s') (hmay : mayM m 1 1 0 = (2, 0)) (hsz : s.size = 8) (hlen : told.length < s.tab.length) (hfree : ∃ a, a < s.own.length ∧ s.own.getD a 0 = 0) :
    e = 0 ∧ i = told.length ∧ g = 1 ∧ Rel s' (makeM m 1 1 0) (told ++ [(told.length, 1)]) ∧ Fresh s' (told ++ [(told.length, 1)]) ∧ s'.size = 8 ∧ Grows s.own s'.own 1 ∧ s'.tab.length = s.tab.length := by
  obtain ⟨hm1, hm2⟩ := may_law R 1 1 0
  rw [hmay] at hm1
  have hn : makeN s 1 0 = 2 := by rw [hm2 (by rw [hmay]), hmay]
  have hk : makeN s 1 0 / s.size + 1 = 1 := by rw [hn, hsz]
  obtain ⟨⟨r, hs⟩, ht, _⟩ := id F
  have hnb : ∀ t, s.tab[told.length]? = some t → busy t = false := by
    intro t h
    rcases shape_at hs h with ⟨h7, _⟩ | ⟨_, _, h7, h8⟩
    · omega
    · unfold busy
      rw [h7, h8]
      rfl
  have hat := List.getElem?_eq_getElem (l := s.tab) (i := told.length) hlen
  rcases hM with ⟨h1, _⟩ | ⟨h1, h2, _⟩ | ⟨h1, h2, _⟩ | ⟨h1, rfl, g0, addr, h2, h3, h4, rfl, h5, h6, h7, h8, h9, h10, h11⟩
  · exact absurd hm1 h1
  · have h3 := h2 _ (List.mem_of_getElem? hat)
    rw [hnb _ hat] at h3
    cases h3
  · obtain ⟨a, ha, hz⟩ := hfree
    rw [hk] at h2
    obtain ⟨j, h3, h4, h5⟩ := h2 a (by omega)
    obtain rfl : j = a := by omega
    exact absurd hz h5
  · rw [hk] at h11
    have hi : i = told.length := by
      rcases shape_at hs h2 with ⟨_, _, h12⟩ | ⟨h12, _⟩
      · cases h12
      · refine Classical.byContradiction fun hne => ?_
        have h13 := h4 told.length _ (by omega) hat
        rw [hnb _ hat] at h13
        cases h13
    subst hi
    have hg : g0 = 0 := by
      rcases shape_at hs h2 with ⟨_, _, h12⟩ | ⟨_, _, h12, _⟩
      · cases h12
      · exact h12
    subst hg
    obtain ⟨_, R'⟩ := make_rel R hm (by rw [hmay]) h2 h6 h7 h8 h10
    refine ⟨rfl, rfl, rfl, R', ?_, by rw [h5, hsz], h11, by rw [h10, List.length_set]⟩
    exact F.step (m := m) (m' := makeM m 1 1 0) ⟨by show m.P.length ≤ _; omega, by show (m.objs ++ [_]).length ≤ _; simp, .inr ⟨told.length, 0, rfl, h2, h4, by rw [h10]; unfold shapeT; rw [List.map_set]; rfl⟩, fun hI => inv_more hI h2 h6 h9 h10 rfl⟩

theorem alive15_spec [Extra] {w : World} {fr : List HProp} [hT : HasTab 0 Lib.deBruijn64tab fr] (H : Holds w fr) :
    Calls Tryz.prog 13 #[] w (ret fun v w' => v = .bool true ∧ Holds w' fr) := by
  have Rs0 := rel0 4 8 4
  have hdS : defS (cs0 4 8 4) [2, 2, 0] = ({ cs0 4 8 4 with lays := [L0] }, 1, 0) := by rw [defS_some dec0]; rfl
  refine calls_of Tryz.func13 rfl (by kernel_rfl) ?_
  refine J163 H ?_
  refine Jc rfl rfl (cNew_spec 4 8 4 (by omega) (by omega) (by omega) (by omega) (by omega) (by omega) H) ?_
  clear H; rintro v w ⟨c, rfl, H⟩
  replace H : Holds w (CELL c (cs0 4 8 4) :: fr) := H
  refine J43 H ?_
  refine J9 H ?_
  refine J24 H ?_
  refine J169 H ?_
  refine J18 H ?_
  refine J20 H ?_
  refine J48 H ?_
  clear H; intro b29 w H

  replace H := H.swap
  have hrd : RdS (pts b29 (row 29 [.int .u64 2, .int .u64 2, .int .u64 0]) :: fr) (.slice (some ⟨b29, 0, none⟩) 3 3) 3 1 (ucells [2, 2, 0]) := ⟨rfl, _, _, rfl, .inr ⟨b29, 0, _, _, _, rfl, inferInstance, .cons rfl (.cons rfl (.cons rfl (.nil _)))⟩⟩
  refine Jc rfl rfl (Define_spec c (cs0 4 8 4) _ [2, 2, 0] (by decide) hrd H) ?_
  clear H; rintro v w ⟨rfl, H⟩
  rw [hdS] at H ⊢
  have RA : Rel { cs0 4 8 4 with lays := [L0] } ⟨[-1], [L0], []⟩ [] := by
    have h := (def_law Rs0 mwf0 [2, 2, 0]).2
    rw [hdS] at h
    exact h
  refine J43 H ?_
  refine J20 H ?_
  refine Jc rfl rfl (Open_spec c _ 0 (by decide) H) ?_
  clear H; rintro v w (⟨h1, rfl, H⟩ | ⟨_, ob, ob2, rfl, H⟩)
  · exact absurd rfl h1
  have RB := open_rel RA (parent := 0) rfl ob ob2
  generalize hsB : openS { cs0 4 8 4 with lays := [L0] } 0 ob ob2 = sB at H RB
  have hB1 : sB.size = 8 := by rw [← hsB]; rfl
  have hB2 : sB.own = List.replicate 4 0 := by rw [← hsB]; rfl
  have hB3 : sB.tab = List.replicate 4 ⟨0, none⟩ := by rw [← hsB]; rfl
  have hB4 : sB.last = 1 := by rw [← hsB]; rfl
  have FB : Fresh sB [] := ⟨⟨4, by rw [hB3]; rfl⟩, rfl, inv_empty (by rw [← hsB]; rfl) (by rw [hB3]; exact no_free)⟩
  replace RB : Rel sB mB [] := RB
  refine J43 H ?_
  refine J20 H ?_
  refine Jc rfl rfl (Make_all c sB 1 1 0 FB.seq H) ?_
  clear H; rintro v w ⟨i1, g1, e1, sC, rfl, hM1, H⟩
  obtain ⟨rfl, rfl, rfl, RC, FC, hC1, hC2, hC3⟩ := alive_make RB mwfB FB hM1 mayB hB1 (by rw [hB3]; decide) ⟨0, by rw [hB2]; decide, by rw [hB2]; rfl⟩
  rw [hB3] at hC3
  rw [hB2] at hC2
  replace RC : Rel sC mC [(0, 1)] := RC
  replace FC : Fresh sC [(0, 1)] := FC
  have hfree : ∃ a, a < sC.own.length ∧ sC.own.getD a 0 = 0 := by
    obtain ⟨hl, a0, k0, hk0, hg⟩ := hC2
    have hz : ∀ a, a ≠ a0 → sC.own.getD a 0 = 0 := by
      intro a ha
      refine Classical.byContradiction fun h => ?_
      rcases hg a h with h1 | h1
      · exact h1 (rep_get 4 a)
      · omega
    have hl4 : sC.own.length = 4 := hl
    by_cases h0 : a0 = 0
    · exact ⟨1, by omega, hz 1 (by omega)⟩
    · exact ⟨0, by omega, hz 0 (by omega)⟩
  refine J19 H ?_
  clear H; intro b7 w H
  refine J7 H ?_
  clear H; intro w H
  refine J0 H ?_
  replace H := H.swap
  refine J20 H ?_
  refine Jc rfl rfl (Make_all c sC 1 1 0 FC.seq H) ?_
  clear H; rintro v w ⟨i2, g2, e2, sD, rfl, hM2, H⟩
  obtain ⟨rfl, rfl, rfl, RD, FD, hD1, hD2, hD3⟩ := alive_make RC mwfC FC hM2 mayC hC1 (by rw [hC3]; decide) hfree
  replace RD : Rel sD mD [(0, 1), (1, 1)] := RD
  refine J19 H ?_
  clear H; intro b9 w H
  refine J7 H ?_
  clear H; intro w H
  refine J0 H ?_
  replace H := Js [1,0,0] 0 H
  refine J199 H ?_
  refine J111 H ?_
  refine J111 H ?_
  refine J111 H ?_
  refine J27 H ?_
  refine J117 H ?_
  refine Lp_g rfl rfl rfl (St_eqPair rfl rfl (.inr rfl) rfl ?_)
  refine J111 H ?_
  refine J27 H ?_
  refine J117 H ?_
  refine Lp_g rfl rfl rfl (St_eqPair rfl rfl (.inr rfl) rfl ?_)
  refine J120 H ?_
  refine J69 H ?_
  refine J69 H ?_
  obtain ⟨_, _, hwD, _, _⟩ := CELL_out H
  have P0 : Pick [(0, 1), (1, 1)] 0 1 0 := .inl ⟨0, 1, 0, rfl, rfl, rfl, rfl⟩
  have P1 : Pick [(0, 1), (1, 1)] 1 1 1 := .inl ⟨1, 1, 1, rfl, rfl, rfl, rfl⟩
  obtain ⟨t1, RE⟩ := tie_law RD hwD mwfD P0 P1 1
  rw [show (tieM mD 0 1 1).2 = 0 by decide] at t1
  replace RE : Rel (TieS sD 0 1 1 1 1).1 mE [(0, 1), (1, 1)] := RE
  refine Lp_g rfl rfl rfl (St_call (a := []) (b := []) rfl rfl (call (CTie_spec c sD 0 1 1 1 1 H) ?_))
  clear H; rintro v w ⟨rfl, H⟩
  rw [t1]
  generalize (TieS sD 0 1 1 1 1).1 = sE at H RE
  refine J24 H ?_
  refine J120 H ?_
  refine J69 H ?_
  obtain ⟨t2, RF⟩ := drop_law RE P1
  rw [show (dropM mE 1).2 = 0 by decide] at t2
  replace RF : Rel (dropS sE 1 1).1 mF [(0, 1), (1, 1)] := RF
  refine Lp_g rfl rfl rfl (St_call (a := []) (b := []) rfl rfl (call (Drop_spec c sE 1 1 H) ?_))
  clear H; rintro v w ⟨rfl, H⟩
  rw [t2]
  generalize (dropS sE 1 1).1 = sF at H RF
  refine J81 H ?_
  have t3 : getW sF 1 1 0 = (0, 8) := by
    rcases get_law RF P1 0 with ⟨h1, h2⟩ | ⟨h1, _⟩
    · rw [h2]; rfl
    · exact absurd h1 (by decide)
  refine J39 H ?_
  refine Jc rfl rfl (Get_spec c sF 1 1 0 H) ?_
  clear H; rintro v w ⟨rfl, H⟩
  rw [t3]
  refine J43 H ?_
  have t4 : lookL sF 0 1 1 = (.obj 1 1, 0) := by
    obtain ⟨h1, h2, _⟩ := ref_law RF mwfF P0 1
    rw [show (refM mF 0 1).2 = (2, 1, 0) by decide] at h1 h2
    exact Prod.ext h2 h1
  obtain ⟨_, _, _, _, RG⟩ := ref_law RF mwfF P0 1
  replace RG : Rel (refS sF 0 1 1) mG [(0, 1), (1, 1)] := RG
  refine J39 H ?_
  refine Jc rfl rfl (Ref_spec c sF 0 1 1 H) ?_
  clear H; rintro v w ⟨rfl, H⟩
  rw [t4]
  generalize refS sF 0 1 1 = sG at H RG
  have t5 : getW sG 1 1 0 = (0, 0) := by
    rcases get_law RG P1 0 with ⟨h1, h2⟩ | ⟨h1, n, j, x, h2, h3, h4, _, h5⟩
    · exact absurd rfl h1
    · obtain rfl : n = 1 := by omega
      obtain rfl : j = 0 := by omega
      rw [h5]
      have h6 : mG.objs[1]? = some ⟨1, 1, 0, [0, 0], [0, 0], [0, 0], true, false, false⟩ := rfl
      rw [h6] at h4
      injection h4 with h4
      rw [← h4]
      rfl
  refine J19 H ?_
  clear H; intro b13 w H
  refine J7 H ?_
  clear H; intro w H
  refine J0 H ?_
  replace H := H.swap
  refine J39 H ?_
  refine Jc rfl rfl (Get_spec c sG 1 1 0 H) ?_
  clear H; rintro v w ⟨rfl, H⟩
  rw [t5]
  refine J43 H ?_
  refine J9 H ?_
  refine J149 H ?_
  refine J69 H ?_
  refine J117 H ?_
  refine Lp_g rfl rfl rfl (St_eqAgg rfl rfl rfl rfl (.inl rfl) rfl ?_)
  refine J111 H ?_
  refine J111 H ?_
  refine J4 H ?_
  replace H : Holds w fr := H.drop.drop.drop.drop.drop
  exact C_ret (Jy H rfl fun w' H' => ⟨rfl, H'⟩)
end Go.Proofs.YtcaaojbnjfdglaaGreatDoor
namespace Go.Proofs.YtcaaojbnjfdglaaGreatDoor
open Go.SL

theorem sorted_eq : ∀ {a b : List Int}, a.Pairwise (· < ·) → b.Pairwise (· < ·) → (∀ x, x ∈ a ↔ x ∈ b) → a = b
  | [], [], _, _, _ => rfl
  | [], y :: b, _, _, h => by have := (h y).2 List.mem_cons_self; cases this
  | x :: a, [], _, _, h => by have := (h x).1 List.mem_cons_self; cases this
  | x :: a, y :: b, ha, hb, h => by
    obtain ⟨ha1, ha2⟩ := List.pairwise_cons.1 ha
    obtain ⟨hb1, hb2⟩ := List.pairwise_cons.1 hb
    have hxy : x = y := by
      have h1 := (h x).1 List.mem_cons_self
      have h2 := (h y).2 List.mem_cons_self
      rcases List.mem_cons.1 h1 with h1 | h1
      · exact h1
      · rcases List.mem_cons.1 h2 with h2 | h2
        · exact h2.symm
        · have := ha1 y h2
          have := hb1 x h1
          omega
    subst hxy
    congr 1
    refine sorted_eq ha2 hb2 fun z => ?_
    constructor
    · intro hz
      rcases List.mem_cons.1 ((h z).1 (List.mem_cons_of_mem _ hz)) with h1 | h1
      · have := ha1 z hz; omega
      · exact h1
    · intro hz
      rcases List.mem_cons.1 ((h z).2 (List.mem_cons_of_mem _ hz)) with h1 | h1
      · have := hb1 z hz; omega
      · exact h1
theorem NL_IL (v : Value) (l : List Nat) : NL v l = IL v (l.map fun x : Nat => (x : Int)) := by
  show sls _ 1 v (ncells l) = _
  rw [ncells_icells]
theorem kids_law {s : CS} {m : MS} {told : List (Nat × Nat)} (R : RelW s m told) {id : Int} (h0 : 0 ≤ id) {K : List Int} (hp : K.Perm ((s.par.map (·.1)).filter (kidB s.par id))) (hs : K.Pairwise (· ≤ ·)) : K = (kidsP m.P id).map fun x : Nat => (x : Int) := by
  have hnd : K.Nodup := hp.nodup_iff.2 (List.Pairwise.filter _ R.nd)
  have hlt : K.Pairwise (· < ·) := by
    have := List.pairwise_and_iff.2 ⟨hs, hnd⟩
    exact this.imp (fun h => by have h1 := h.1; have h2 := h.2; omega)
  refine sorted_eq hlt ?_ fun x => ?_
  · refine List.Pairwise.map _ ?_ (idsTo_sorted m.P _ _)
    intro a b hab
    omega
  · rw [hp.mem_iff, List.mem_filter]
    unfold kidB kidsP
    rw [decide_eq_true_iff]
    constructor
    · rintro ⟨_, h2⟩
      obtain ⟨k, rfl, h3, h4, h5⟩ := (R.tree x id).1 (fnd_mem h2)
      refine List.mem_map.2 ⟨k, idsTo_mem.2 ⟨(List.getElem?_eq_some_iff.1 h4).1, h3, ?_⟩, rfl⟩
      rw [List.getD_eq_getElem?_getD, h4]
      exact beq_self_eq_true id
    · intro h
      obtain ⟨k, hk, rfl⟩ := List.mem_map.1 h
      obtain ⟨h1, h2, h3⟩ := idsTo_mem.1 hk
      have h4 := List.getElem?_eq_getElem h1
      rw [List.getD_eq_getElem?_getD, h4] at h3
      have h5 : m.P[k] = id := by simpa using h3
      rw [h5] at h4
      have h6 := (R.tree k id).2 ⟨k, rfl, h2, h4, h0⟩
      exact ⟨List.mem_map.2 ⟨_, h6, rfl⟩, (fnd_iff R.nd).2 h6⟩

theorem Same15_spec [Extra] (p : Nat) (s : CS) (m : MS) (told : List (Nat × Nat)) (R : RelW s m told) {w : World} {fr : List HProp} (H : Holds w (RUN p s m told :: fr)) :
    Calls Tryz.prog 27 #[pp p] w (ret fun v w' => v = .bool true ∧ Holds w' (RUN p s m told :: fr)) := by
  obtain ⟨c, mo, a, cap, H⟩ := RUN_out H
  obtain ⟨_, _, hw, _, _⟩ := CELL_out H.swap
  obtain ⟨_, _, _, _, _, _, _, hmw, _⟩ := MODEL_out (H.sel [2, 0, 0, 0] 0)
  have hlen : told.length ≤ 100000 := by rw [R.len]; exact hmw.few
  refine calls_of Tryz.func27 rfl (by kernel_rfl) ?_
  refine J23 H ?_
  refine J193 H ?_
  replace H := Js [3,0,0,0] 0 H
  refine J12 H ?_
  refine C_join (fun ms σ w => ms = [] ∧ σ 0 = pp p ∧ Holds w (TKL (.slice a told.length cap) told :: RROW p c mo (.slice a told.length cap) :: CELL c s :: MODEL mo m :: fr)) ?_ ?_
  · refine C_block ?_
    refine C_loop (fun ms σ w n => ms = [] ∧ ∃ i : Nat, i ≤ told.length ∧ n = told.length - i ∧ σ 0 = pp p ∧ σ 18 = .slice a told.length cap ∧ σ 19 = .int .i64 told.length ∧ σ 20 = .int .i64 i ∧ Holds w (TKL (.slice a told.length cap) told :: RROW p c mo (.slice a told.length cap) :: CELL c s :: MODEL mo m :: fr)) (m := told.length) ⟨rfl, 0, by omega, rfl, rfl, rfl, rfl, rfl, H⟩ ?_
    clear H
    rintro ms σ w n ⟨rfl, i, hi, rfl, g0, g18, g19, g20, H⟩
    rw [upd_self g0, upd_self g18, upd_self g19, upd_self g20]
    refine J21 H ?_
    refine C_dec rfl (fun h => C_skip ?_) (fun h => C_exit ?_)
    · have hlt : i < told.length := by omega
      have hn := List.getElem?_eq_getElem hlt
      generalize told[i] = kg at hn
      obtain ⟨k, g⟩ := kg
      have hPk : Vd s m told k g i := rel_validW R hn
      obtain ⟨bT, sT, rfl, H, hcl⟩ := sls_open H (by omega)
      refine J184 H ?_
      refine Lp_s rfl (St_indexAddr rfl rfl (by omega) (by omega) rfl ?_)
      refine Lp_s rfl (St_loadN H rfl (tkc_reads hn) rfl ?_)
      refine J17 H ?_
      clear H; intro b4 w H
      refine J259 H ?_
      clear H; intro w H
      refine Lp_nil ?_
      replace H := hcl _ _ H.swap
      replace H := Js [2,2,2,1,0] 0 H
      refine J244 H ?_
      refine Jc rfl rfl (tellR_spec p c mo _ s m told R k g i hPk H) ?_
      clear H; rintro v w ⟨rfl, H⟩
      refine J18 H ?_
      replace H := Js [2,0,0,0,0] 0 H
      refine J13 H ?_
      refine Jc rfl rfl (Valid_spec mo m i H) ?_
      clear H; rintro v w ⟨rfl, H⟩
      cases hv : valM m i with
      | none =>
        refine J14 H ?_
        refine C_true rfl (C_exit ?_)
        refine J3 H ?_
        replace H := Js [4,1,1,0] 1 H
        exact ⟨_, ⟨rfl, i + 1, hlt, rfl, rfl, rfl, rfl, inc64 (by omega), H⟩, by omega⟩
      | some nx =>
        obtain ⟨n', x⟩ := nx
        obtain ⟨hin, hx, hh, hg⟩ := valM_some hv
        obtain rfl : i = n' := by omega
        obtain ⟨t, lc, aL, cL, bO, cO, sO, ptrs, q, vw, vk, vt, rest, hm, h2, hp, H, hclose⟩ := MODEL_at H hx
        have hm' := set_same hx hm
        have hmx := hm.objs x (List.mem_of_getElem? hx)
        have hkn := hmx.kind
        have htn := hmx.to
        have hsm := MODEL_sizes (w := hm) hx
        have hll := hm.lays.1
        have hol := (List.getElem?_eq_some_iff.1 hx).1
        obtain ⟨y, hy, hyl, hl1, hl2, hR, hsz⟩ := lay_at hm h2 hx
        obtain ⟨aw, cw, rfl⟩ := sls_slice H.drop (ucells_length _) (by decide)
        obtain ⟨ak, ck, rfl⟩ := sls_slice H.drop.drop (ncells_length _) (by decide)
        obtain ⟨at', ct, rfl⟩ := sls_slice H.drop.drop.drop (ncells_length _) (by decide)
        replace H := Js [6,6,0,0,0,0,0,0,0,0] 0 H
        obtain ⟨bL, sL, D1, D2, Rr, rfl, H, hD, hclL⟩ := LAYS_at (by rw [← h2, List.length_map]) H hy
        obtain ⟨vr, vq, ly⟩ := y
        obtain rfl : ly = layM m x := hyl
        have hlcl : lc.length = m.lays.length := by rw [← h2, List.length_map]
        refine J18 H ?_
        refine J140 H ?_
        refine Lp_s rfl (St_indexAddr rfl rfl (by omega) (by omega) rfl ?_)
        refine Lp_s rfl (St_load1 H rfl hp rfl ?_)
        refine J0 H ?_
        refine J112 H ?_
        refine J14 H ?_
        refine C_join (fun ms σ w => ms = [] ∧ σ 0 = pp p ∧ σ 18 = .slice (some ⟨bT, 0, none⟩) told.length cap ∧ σ 19 = .int .i64 told.length ∧ σ 20 = .int .i64 i ∧ Holds w (pts bL (row 101 (bcells lc ++ sL)) :: D1 :: D2 :: Rr :: pts q (mrow (.slice aw x.w.length cw) (.slice ak x.kind.length ck) (.slice at' x.to.length ct) x) :: UL (.slice aw x.w.length cw) x.w :: NL (.slice ak x.kind.length ck) x.kind :: NL (.slice at' x.to.length ct) x.to :: pts bO (row 51 (ptrs ++ sO)) :: pts mo (row 56 [pp t, .slice (some ⟨bL, 0, none⟩) m.lays.length cL, .slice (some ⟨bO, 0, none⟩) m.objs.length cO]) :: RTR t m.P :: star rest :: RROW p c mo (.slice (some ⟨bT, 0, none⟩) told.length cap) :: CELL c s :: pts b4 (row 32 [.int .i64 k, .int .i64 g]) :: TKL (.slice (some ⟨bT, 0, none⟩) told.length cap) told :: fr)) ?_ ?_
        · refine C_block ?_
          refine C_loop (fun ms σ w n => ms = [] ∧ ∃ j : Nat, j ≤ x.w.length ∧ n = x.w.length - j ∧ σ 0 = pp p ∧ σ 4 = pp b4 ∧ σ 5 = pp q ∧ σ 18 = .slice (some ⟨bT, 0, none⟩) told.length cap ∧ σ 19 = .int .i64 told.length ∧ σ 20 = .int .i64 i ∧ σ 51 = .int .i64 x.w.length ∧ σ 52 = .int .i64 j ∧ Holds w (pts bL (row 101 (bcells lc ++ sL)) :: D1 :: D2 :: Rr :: pts q (mrow (.slice aw x.w.length cw) (.slice ak x.kind.length ck) (.slice at' x.to.length ct) x) :: UL (.slice aw x.w.length cw) x.w :: NL (.slice ak x.kind.length ck) x.kind :: NL (.slice at' x.to.length ct) x.to :: pts bO (row 51 (ptrs ++ sO)) :: pts mo (row 56 [pp t, .slice (some ⟨bL, 0, none⟩) m.lays.length cL, .slice (some ⟨bO, 0, none⟩) m.objs.length cO]) :: RTR t m.P :: star rest :: RROW p c mo (.slice (some ⟨bT, 0, none⟩) told.length cap) :: CELL c s :: pts b4 (row 32 [.int .i64 k, .int .i64 g]) :: TKL (.slice (some ⟨bT, 0, none⟩) told.length cap) told :: fr)) (m := x.w.length) ⟨rfl, 0, by omega, rfl, rfl, rfl, rfl, rfl, rfl, rfl, rfl, rfl, H⟩ ?_
          clear H
          rintro ms σ w n ⟨rfl, j, hj, rfl, g0, g4, g5, g18, g19, g20, g51, g52, H⟩
          rw [upd_self g0, upd_self g4, upd_self g5, upd_self g18, upd_self g19, upd_self g20, upd_self g51, upd_self g52]
          refine J21 H ?_
          refine C_dec rfl (fun h => C_skip ?_) (fun h => C_exit ?_)
          · have hjl : j < x.w.length := by omega
            refine J232 H ?_
            refine J1 H ?_
            clear H; intro w H
            refine J16 H ?_
            refine A_load1 3 [15] H rfl (Wants.none rfl) rfl rfl (by kernel_rfl) ?_
            refine J123 H ?_
            refine A_load1 6 [15] H rfl (Wants.none rfl) rfl rfl (by kernel_rfl) ?_
            refine J58 H ?_
            refine J70 H ?_
            refine A_fieldAddr 9 rfl (Wants.none rfl) rfl (by kernel_rfl) ?_
            refine A_load1 10 [15] H rfl (Wants.none rfl) rfl rfl (by kernel_rfl) ?_
            refine J114 H ?_
            rw [show IntKind.i64.wrap ((x.lay : Int) - 1) = ((x.lay - 1 : Nat) : Int) by rw [wrap64 (by omega) (by omega)]; omega]
            refine A_indexAddr 12 rfl (Wants.none rfl) rfl rfl (by omega) (by omega) (by kernel_rfl) ?_
            refine A_loadN 13 [15] H rfl (Wants.none rfl) rfl (bcells_reads hy) (by kernel_rfl) ?_
            refine J156 H ?_
            refine Jo 15 H ?_
            refine Jk rfl rfl (dIsRef_spec vr vq (layM m x) hR j (sizeL_rec hsz (by omega)) (by omega) ((hD _).there) H) ?_
            clear H; rintro v w ⟨rfl, H⟩
            refine J2 H ?_
            cases hb : isRefL (layM m x) j with
            | true =>
              refine J11 H ?_
              have hpl : placeM m i j true = 0 := by rw [placeM_some hv]; unfold placeE; rw [if_neg (by omega), Int.toNat_natCast, if_neg (fun h => h hb)]
              have hkj := List.getElem?_eq_getElem (l := x.kind) (i := j) (by omega)
              have htj := List.getElem?_eq_getElem (l := x.to) (i := j) (by omega)
              have hkd : x.kind.getD j 0 = x.kind[j] := by rw [List.getD_eq_getElem?_getD, hkj]; rfl
              have htd : x.to.getD j 0 = x.to[j] := by rw [List.getD_eq_getElem?_getD, htj]; rfl
              have hgo := hmx.goes j
              rw [htd] at hgo
              obtain ⟨hk2, h1⟩ : x.kind.getD j 0 ≤ 2 ∧ lookL s k g j = (lnkM told (x.kind.getD j 0) (x.to.getD j 0), 0) := by
                rcases look_lawV R hPk j with ⟨h0, _⟩ | ⟨_, n', j', x', e1, e2, e3, _, _, _, e4, e5⟩
                · exact absurd hpl h0
                · obtain rfl : n' = i := by omega
                  obtain rfl : j' = j := by omega
                  rw [hx] at e3
                  injection e3 with e3
                  subst e3
                  exact ⟨e4, e5⟩
              rw [hkd] at hk2
              rw [hkd, htd] at h1
              generalize x.kind[j] = kd at *
              generalize x.to[j] = td at *
              have hltd : kd = 2 → td < told.length := fun h => by rw [R.len]; exact hgo (by rw [hkj, h])
              have hLk := fun (w : World) (fr : List HProp) (H : Holds w (CELL c s :: fr)) => Look_spec c s k g j H
              rw [h1] at hLk
              obtain ⟨l1, l2, l3, hlk⟩ := lkv_agg (lnkM told kd td)
              rw [hlk] at hLk
              have hlink := fun (w : World) (fr : List HProp) (H : Holds w (RROW p c mo (.slice (some ⟨bT, 0, none⟩) told.length cap) :: TKL (.slice (some ⟨bT, 0, none⟩) told.length cap) told :: fr)) => link_spec p c mo (some ⟨bT, 0, none⟩) cap told kd td hk2 hltd H
              rw [hlk] at hlink
              replace H := Js [13,0,0,0,0,0,0,0,0,0,0,0,0,0,0,0] 0 H
              refine J12 H ?_
              refine C_join (fun ms σ w => ms = [] ∧ ∃ b7, σ 7 = pp b7 ∧ σ 8 = .int .i64 0 ∧ σ 0 = pp p ∧ σ 4 = pp b4 ∧ σ 5 = pp q ∧ σ 6 = .int .i64 j ∧ σ 18 = .slice (some ⟨bT, 0, none⟩) told.length cap ∧ σ 19 = .int .i64 told.length ∧ σ 20 = .int .i64 i ∧ σ 51 = .int .i64 x.w.length ∧ σ 52 = .int .i64 j ∧ Holds w (pts b7 (row 61 [.int .i64 l1, .int .i64 l2, .int .i64 l3]) :: pts bL (row 101 (bcells lc ++ sL)) :: D1 :: D2 :: Rr :: pts q (mrow (.slice aw x.w.length cw) (.slice ak x.kind.length ck) (.slice at' x.to.length ct) x) :: UL (.slice aw x.w.length cw) x.w :: NL (.slice ak x.kind.length ck) x.kind :: NL (.slice at' x.to.length ct) x.to :: pts bO (row 51 (ptrs ++ sO)) :: pts mo (row 56 [pp t, .slice (some ⟨bL, 0, none⟩) m.lays.length cL, .slice (some ⟨bO, 0, none⟩) m.objs.length cO]) :: RTR t m.P :: star rest :: RROW p c mo (.slice (some ⟨bT, 0, none⟩) told.length cap) :: CELL c s :: pts b4 (row 32 [.int .i64 k, .int .i64 g]) :: TKL (.slice (some ⟨bT, 0, none⟩) told.length cap) told :: fr)) ?_ ?_
              · refine J1 H ?_
                clear H; intro w H
                refine J227 H ?_
                refine A_loadN 4 [6, 11] H rfl (Wants.none rfl) rfl (by repeat (first | exact Reads.nil _ | apply Reads.cons rfl)) (by kernel_rfl) ?_
                refine J44 H ?_
                refine A_two 6 10 rfl rfl (by kernel_rfl) (by repeat first | exact .nil | refine .cons (.inr H.at) ?_ | refine .cons (.inr H.mp) ?_ | refine .cons (.inl (by kernel_rfl)) ?_) (Wants.none rfl) (Wants.none rfl) (St_call (a := []) (b := []) rfl rfl (call (hLk _ _ H) ?_)) (St_alloc H rfl ?_)
                · clear H; rintro v w ⟨rfl, H⟩
                  refine J228 H ?_
                  clear H; intro b7 w H
                  refine J125 H ?_
                  clear H; intro w H
                  refine J47 H ?_
                  replace H := Js [0,1,1,1,1,1,1,1,1,1,1,1,1,1,0,0,0] 0 H
                  exact ⟨rfl, rfl, b7, rfl, rfl, rfl, rfl, rfl, rfl, rfl, rfl, rfl, rfl, rfl, H⟩
                · clear H; intro b7 w H
                  refine Jo 6 H ?_
                  refine Jk rfl rfl (hLk _ _ H.swap) ?_
                  clear H; rintro v w ⟨rfl, H⟩
                  refine J229 H ?_
                  clear H; intro w H
                  refine J47 H ?_
                  replace H := Js [1,1,1,1,1,1,1,1,1,1,1,1,1,1,0,0,0] 0 H
                  exact ⟨rfl, rfl, b7, rfl, rfl, rfl, rfl, rfl, rfl, rfl, rfl, rfl, rfl, rfl, H⟩
              clear H
              rintro ms σ w ⟨rfl, b7, g7, g8, g0, g4, g5, g6, g18, g19, g20, g51, g52, H⟩
              rw [upd_self g7, upd_self g8, upd_self g0, upd_self g4, upd_self g5, upd_self g6, upd_self g18, upd_self g19, upd_self g20, upd_self g51, upd_self g52]
              replace H := Js [7,7,0,0,0,0,0,0,0,0,0,0,0,0,0,0,0] 0 H
              obtain ⟨bk, sk, rfl, H, hck⟩ := sls_open H (by omega)
              obtain ⟨bt, st, rfl, H, hct⟩ := sls_open H.swap (by omega)
              refine J1 H ?_
              clear H; intro w H
              refine J153 H ?_
              refine A_pv 3 rfl (Wants.of rfl rfl rfl) rfl (by kernel_rfl) ?_
              refine A_loadN 4 [19] H rfl (Wants.of rfl rfl rfl) rfl (by repeat (first | exact Reads.nil _ | apply Reads.cons rfl)) (by kernel_rfl) ?_
              refine J181 H ?_
              refine J173 H ?_
              refine A_fieldAddr 7 rfl (Wants.of rfl rfl rfl) rfl (by kernel_rfl) ?_
              refine A_load1 8 [19] H rfl (Wants.of rfl rfl rfl) rfl rfl (by kernel_rfl) ?_
              refine J253 H ?_
              refine A_indexAddr 10 rfl (Wants.of rfl rfl rfl) rfl rfl (by omega) (by omega) (by kernel_rfl) ?_
              refine A_load1 11 [19] H rfl (Wants.of rfl rfl rfl) rfl (ncells_get hkj) (by kernel_rfl) ?_
              refine J255 H ?_
              refine J254 H ?_
              refine A_fieldAddr 14 rfl (Wants.of rfl rfl rfl) rfl (by kernel_rfl) ?_
              refine A_load1 15 [19] H rfl (Wants.of rfl rfl rfl) rfl rfl (by kernel_rfl) ?_
              refine A_pv 16 rfl (Wants.of rfl rfl rfl) rfl (by kernel_rfl) ?_
              refine A_indexAddr 17 rfl (Wants.of rfl rfl rfl) rfl rfl (by omega) (by omega) (by kernel_rfl) ?_
              refine A_load1 18 [19] H rfl (Wants.of rfl rfl rfl) rfl (ncells_get htj) (by kernel_rfl) ?_
              replace H := Js [13,15,0,0,0,0,0,0,0,0,0,0,0,0,0,0,0] 0 H
              refine Jo 19 H ?_
              refine Jk rfl rfl (hlink _ _ H) ?_
              clear H; rintro v w ⟨rfl, H⟩
              refine A_pv 20 rfl (Wants.of rfl rfl rfl) rfl (by kernel_rfl) ?_
              refine A_pv 21 rfl (Wants.none rfl) rfl (by kernel_rfl) ?_
              refine J2 H ?_
              refine J8 H ?_
              replace H := Js [2,2,0,0,0,0,0,0,0,0,0,0,0,0,0,0,0] 0 H
              replace H := hct _ _ H
              replace H := hck _ _ H.swap
              replace H := Js [5,5,5,5,5,5,0,0,3,3,3,3,0,2,2,0] 1 H
              refine J3 H ?_
              exact ⟨_, ⟨rfl, j + 1, hjl, rfl, rfl, rfl, rfl, rfl, rfl, rfl, rfl, inc64 (by omega), H⟩, by omega⟩
            | false =>
              repeat refine C_seq ?_
              refine C_false rfl ?_
              have hpl : placeM m i j false = 0 := by rw [placeM_some hv]; unfold placeE; rw [if_neg (by omega), Int.toNat_natCast, if_neg (fun h => h hb)]
              have hjx := List.getElem?_eq_getElem hjl
              have hjd : x.w.getD j 0 = x.w[j] := by rw [List.getD_eq_getElem?_getD, hjx]; rfl
              have h1 : getW s k g j = (x.w.getD j 0, 0) := by
                rcases get_lawV R hPk j with ⟨h0, _⟩ | ⟨_, n', j', x', e1, e2, e3, _, e5⟩
                · exact absurd hpl h0
                · obtain rfl : n' = i := by omega
                  obtain rfl : j' = j := by omega
                  rw [hx] at e3
                  injection e3 with e3
                  subst e3
                  exact e5
              rw [hjd] at h1
              generalize x.w[j] = y at hjx h1
              replace H := Js [13,0,0,0,0,0,0,0,0,0,0,0,0,0,0,0] 0 H
              refine J1 H ?_
              clear H; intro w H
              refine J166 H ?_
              refine J224 H ?_
              refine J44 H ?_
              refine Jo 6 H ?_
              refine Jk rfl rfl (Get_spec c s k g j H) ?_
              clear H; rintro v w ⟨rfl, H⟩
              rw [h1]
              refine J85 H ?_
              replace H := Js [6,0,0,0,0,0,0,0,0,0,0,0,0,0,0,0] 0 H
              obtain ⟨bW, sW, rfl, H, hcw⟩ := sls_open H (by omega)
              refine J9 H ?_
              refine J36 H ?_
              refine J61 H ?_
              refine Lp_g rfl rfl rfl (St_indexAddr rfl rfl (by omega) (by omega) rfl ?_)
              refine Lp_g rfl rfl rfl (St_load1 H rfl (ucells_get hjx) rfl ?_)
              refine J24 H ?_
              rw [show ((y : Int) != (y : Int)) = false by simp]
              refine J18 H ?_
              replace H := hcw _ _ H
              replace H := Js [2,2,2,2,2,0,1,1,1,1,1,1,1,0,0,0] 0 H
              refine J3 H ?_
              exact ⟨_, ⟨rfl, j + 1, hjl, rfl, rfl, rfl, rfl, rfl, rfl, rfl, rfl, inc64 (by omega), H⟩, by omega⟩
          · exact ⟨rfl, rfl, rfl, rfl, rfl, rfl, H⟩
        clear H
        rintro ms σ w ⟨rfl, g0, g18, g19, g20, H⟩
        rw [upd_self g0, upd_self g18, upd_self g19, upd_self g20]
        replace H := hclL _ _ H
        replace H := Js [2,2,2,2,2,2,0,0,0,0] 0 H
        replace H := MODEL_same hx (hclose _ _ _ hm' H)
        refine J3 H ?_
        replace H := Js [4,1,1,0] 1 H
        exact ⟨_, ⟨rfl, i + 1, hlt, rfl, rfl, rfl, rfl, inc64 (by omega), H⟩, by omega⟩
    · exact ⟨rfl, rfl, rfl, H⟩
  clear H
  rintro ms σ w ⟨rfl, g0, H⟩
  rw [upd_self g0]
  replace H := Js [3,0,0,0] 0 H
  obtain ⟨t, lc, oc, aL, cL, aO, cO, hm, h2, h3, hl1, hl2, H⟩ := MODEL_out H
  have hPl := hm.P.2
  replace H := Js [1,0,0,0,0,0,0,0,0] 0 H
  refine J180 H ?_
  refine Jc rfl rfl (All_spec t m.P (by omega) H) ?_
  clear H; intro v w H
  obtain ⟨aA, cA, rfl⟩ := sls_slice H (ncells_length _) (by decide)
  refine J48 H ?_
  clear H; intro b136 w H
  replace H := H.swap
  have hal : (allP m.P).length ≤ 100000 := by
    have : (allP m.P).length ≤ m.P.length := idsTo_len m.P _ _
    omega
  refine Lp_s rfl (St_append H rfl rfl (by repeat (first | exact Reads.nil _ | apply Reads.cons rfl)) rfl (by decide) (by rw [ncells_length]; simp only [List.length_cons, List.length_nil]; omega) rfl rfl ?_)
  clear H; intro vS w H
  have e1 : ncells (allP m.P) ++ [.int .i64 0] = ncells (allP m.P ++ [0]) := by rw [ncells_append]; rfl
  rw [e1] at H
  have hidL : ∀ x ∈ allP m.P ++ [0], ((x : Nat) : Int) = 0 ∨ (fnd s.par ((x : Nat) : Int)).isSome = true := by
    intro x hx
    rcases List.mem_append.1 hx with hx | hx
    · right
      obtain ⟨qq, q1, q2, q3⟩ := all_mem.1 hx
      rw [(fnd_iff R.nd).2 ((R.tree x qq).2 ⟨x, rfl, q2, q1, q3⟩)]
      rfl
    · left
      simp at hx
      omega
  have hLl : (allP m.P ++ [0]).length ≤ 100001 := by simp; omega
  generalize allP m.P ++ [0] = L at H hidL hLl
  obtain ⟨aS, cS, rfl⟩ := sls_slice H (ncells_length L) (by decide)
  refine Lp_s rfl (St_lenSlice rfl rfl ?_)
  refine J0 H ?_
  replace H := Js [0,1,1,1,1,1,1,1,1,1] 1 H
  refine J12 H ?_
  refine C_join (fun ms σ w => ms = [] ∧ σ 0 = pp p ∧ Holds w (NL (.slice aS L.length cS) L :: RTR t m.P :: pts mo (row 56 [pp t, .slice aL m.lays.length cL, .slice aO m.objs.length cO]) :: sls 101 4 (.slice aL m.lays.length cL) (bcells lc) :: star (lc.map bres) :: sls 51 1 (.slice aO m.objs.length cO) (oc.map fun x => pp x.ptr) :: star (oc.map ocr) :: TKL (.slice a told.length cap) told :: RROW p c mo (.slice a told.length cap) :: CELL c s :: fr)) ?_ ?_
  · refine C_block ?_
    refine C_loop (fun ms σ w n => ms = [] ∧ ∃ i : Nat, i ≤ L.length ∧ n = L.length - i ∧ σ 0 = pp p ∧ σ 137 = .slice aS L.length cS ∧ σ 138 = .int .i64 L.length ∧ σ 139 = .int .i64 i ∧ Holds w (NL (.slice aS L.length cS) L :: RTR t m.P :: pts mo (row 56 [pp t, .slice aL m.lays.length cL, .slice aO m.objs.length cO]) :: sls 101 4 (.slice aL m.lays.length cL) (bcells lc) :: star (lc.map bres) :: sls 51 1 (.slice aO m.objs.length cO) (oc.map fun x => pp x.ptr) :: star (oc.map ocr) :: TKL (.slice a told.length cap) told :: RROW p c mo (.slice a told.length cap) :: CELL c s :: fr)) (m := L.length) ⟨rfl, 0, by omega, rfl, rfl, rfl, rfl, rfl, H⟩ ?_
    clear H
    rintro ms σ w n ⟨rfl, i, hi, rfl, g0, g137, g138, g139, H⟩
    rw [upd_self g0, upd_self g137, upd_self g138, upd_self g139]
    refine J21 H ?_
    refine C_dec rfl (fun h => C_skip ?_) (fun h => C_exit ?_)
    · have hlt : i < L.length := by omega
      have hn := List.getElem?_eq_getElem hlt
      generalize L[i] = id at hn
      have hid := hidL id (List.mem_of_getElem? hn)
      obtain ⟨bA, sA, rfl, H, hcA⟩ := sls_open H (by omega)
      refine J68 H ?_
      refine Lp_s rfl (St_indexAddr rfl rfl (by omega) (by omega) rfl ?_)
      refine Lp_s rfl (St_load1 H rfl (ncells_get hn) rfl ?_)
      refine J0 H ?_
      replace H := hcA _ _ H
      replace H := Js [9,0,0,0,0,0,0,0,0,0] 0 H
      obtain ⟨q, mem, hw', hmm, H⟩ := CELL_out H
      replace H := Js [5,0,0,0,0,0,0,0,0,0,0,0,0,0,0,0,0,0,0,0] 0 H
      refine J140 H ?_
      refine Jc rfl rfl (Kids_spec q.trp s.last s.par id hid (by have := hw'.par.1; omega) H) ?_
      clear H; rintro v w ⟨u, K, rfl, hKp, hKs, H⟩
      obtain ⟨aK, cK, rfl⟩ := sls_slice H (icells_length K) (by decide)
      refine J43 H ?_
      have hkk := kids_law R (id := id) (by omega) hKp hKs
      replace H := Js [2,2,2,2,2,1,1,1,1,1,1,0,0,0,0,0,0,0,0,0,0] 0 H
      replace H := CELL_in hw' hmm H
      replace H := Js [3,0,0,0,0,0,0,0,0,0,0] 0 H
      refine J9 H ?_
      refine J36 H ?_
      refine J61 H ?_
      refine J61 H ?_
      refine Lp_g rfl rfl rfl (St_call (a := []) (b := []) rfl rfl (call (dKids_spec t m.P id (by omega) H) ?_))
      clear H; intro v2 w H
      obtain ⟨a2, c2, rfl⟩ := sls_slice H (ncells_length _) (by decide)
      replace H := Js [3,0,0,0,0,0,0,0,0,0,0,0] 0 H
      rw [NL_IL _ (kidsP m.P id)] at H
      refine Lp_g rfl rfl rfl (St_call (a := []) (b := []) rfl rfl (call (Same_spec _ _ K ((kidsP m.P id).map fun x : Nat => (x : Int)) (by rw [hkk, List.length_map]; have : (kidsP m.P id).length ≤ m.P.length := idsTo_len m.P _ _; omega) H) ?_))
      clear H; rintro v w ⟨rfl, H⟩
      rw [decide_eq_true hkk]
      refine J81 H ?_
      refine J3 H ?_
      replace H := Js [4,2,3,3,3,3,3,3,3,2] 2 H
      exact ⟨_, ⟨rfl, i + 1, hlt, rfl, rfl, rfl, rfl, inc64 (by omega), H⟩, by omega⟩
    · exact ⟨rfl, rfl, rfl, H⟩
  clear H
  rintro ms σ w ⟨rfl, g0, H⟩
  rw [upd_self g0]
  replace H := Js [9,0,0,0,0,0,0,0,0,0] 0 H
  obtain ⟨q, mem, hw', hmm, H⟩ := CELL_out H
  replace H := Js [5,0,0,0,0,0,0,0,0,0,0,0,0,0,0,0,0,0,0,0] 0 H
  refine J1 H ?_
  clear H; intro w H
  refine J16 H ?_
  refine A_load1 3 [7, 15] H rfl (Wants.none rfl) rfl rfl (by kernel_rfl) ?_
  refine J123 H ?_
  refine A_load1 6 [7, 15] H rfl (Wants.none rfl) rfl rfl (by kernel_rfl) ?_
  refine J88 H ?_
  refine A_fieldAddr 10 rfl (Wants.none rfl) rfl (by kernel_rfl) ?_
  refine A_load1 11 [15] H rfl (Wants.none rfl) rfl rfl (by kernel_rfl) ?_
  refine J133 H ?_
  refine A_fieldAddr 13 rfl (Wants.none rfl) rfl (by kernel_rfl) ?_
  refine A_load1 14 [15] H rfl (Wants.none rfl) rfl rfl (by kernel_rfl) ?_
  refine Jo 7 H ?_
  refine Jk rfl rfl (trLen_spec q.trp s.last s.par H) ?_
  clear H; rintro v w ⟨rfl, H⟩
  replace H := Js [12,0,0,0,0,0,0,0,0,0,0,0,0,0,0,0,0,0,0,0] 0 H
  refine Jo 15 H ?_
  refine Jk rfl rfl (All_spec t m.P (by omega) H) ?_
  clear H; intro v w H
  obtain ⟨aA2, cA2, rfl⟩ := sls_slice H (ncells_length _) (by decide)
  refine A_lenSlice 16 rfl (Wants.none rfl) rfl (by kernel_rfl) ?_
  refine J130 H ?_
  rw [len_law R, beq_int ((allP m.P).length : Int)]
  refine J179 H ?_
  refine J2 H ?_
  replace H := Js [3,3,3,3,3,2,2,2,2,2,2,1,2,2,2,2,2,2,2] 2 H
  replace H := CELL_in hw' hmm H
  replace H := Js [2,1,1,1,1,1,0,0,0] 0 H
  replace H := MODEL_in hm h2 h3 H
  replace H := Js [3,1,0,0] 0 H
  exact C_ret (Jy (RUN_in H) rfl fun w' H' => ⟨rfl, H'⟩)
end Go.Proofs.YtcaaojbnjfdglaaGreatDoor
namespace Go.Proofs.YtcaaojbnjfdglaaGreatDoor
open Go.SL

theorem AcOK.there {A : HProp} {fr : List HProp} {x : Ac} (h : AcOK fr x) : AcOK (A :: fr) x := ⟨h.1, h.2.1, h.2.2.there⟩
end Go.Proofs.YtcaaojbnjfdglaaGreatDoor
namespace Go.Proofs.YtcaaojbnjfdglaaGreatDoor
open Go.SL

/-- A row of numbers that a call of the library has put there. -/
theorem put_holds [Extra] {w : World} {b m E : Nat} {l l' : List Int} {s : List Value} {fr : List HProp} (H : Holds w (pts b (row E (icells l ++ s)) :: fr)) (hl : l'.length = l.length) :
    Holds (Go.Sort.putRow (Value.int .i64) (Go.Sort.ahead w m) b 0 l'.toArray) (pts b (row E (icells l' ++ s)) :: fr) := by
  have hb := H.pts
  have e1 : (Go.Sort.putRow (Value.int .i64) (Go.Sort.ahead w m) b 0 l'.toArray).heap = w.heap.modify b (Go.Sort.onCells (Go.Sort.putCells (Value.int .i64) 0 l'.toArray)) := rfl
  refine H.set ?_ ?_
  · rw [e1, Array.getElem?_modify, if_pos rfl, hb]
    simp only [Option.map_some, row, Go.Sort.onCells]
    congr 2
    apply Array.ext'
    apply List.ext_getElem?
    intro t
    simp only [Go.Sort.putCells, Array.getElem?_toList, Array.getElem?_mapIdx, List.getElem?_toArray, Nat.zero_le, true_and, Nat.zero_add, Nat.sub_zero, List.size_toArray]
    have l1 : (icells l).length = l.length := by simp [icells]
    have l2 : (icells l').length = l.length := by simp [icells, hl]
    by_cases ht : t < l.length
    · rw [List.getElem?_append_left (by omega), List.getElem?_append_left (by omega)]
      have ht' : t < l'.length := by omega
      simp only [icells, List.getElem?_map, List.getElem?_eq_getElem ht, List.getElem?_eq_getElem ht', Option.map_some, if_pos ht']
      rw [getElem!_pos _ t (by simpa using ht')]
      simp
    · rw [List.getElem?_append_right (by omega), List.getElem?_append_right (by omega), l1, l2]
      have ht' : ¬ t < l'.length := by omega
      cases s[t - l.length]? with
      | none => rfl
      | some y => simp; intro h; omega
  · intro c hc
    rw [e1, Array.getElem?_modify, if_neg (Ne.symm hc)]

theorem Delete_spec [Extra] (v : Value) (l : List Nat) (i : Nat) (hi : i < l.length) (hl : l.length ≤ 1000000) {w : World} {fr : List HProp} (H : Holds w (NL v l :: fr)) :
    Calls Tryz.prog 155 #[v, .int .i64 i, .int .i64 ((i + 1 : Nat) : Int)] w (ret fun v' w' => Holds w' (NL v' (l.eraseIdx i) :: fr)) := by
  rcases sls_case H with ⟨rfl, h0, _⟩ | ⟨b, n, cap, s, rfl, e3, e4, e5, H2⟩
  · have : (ncells l).length = 0 := by rw [h0]; rfl
    rw [ncells_length] at this
    omega
  · rw [ncells_length] at e3
    obtain rfl : n = l.length := by omega
    have hb := H2.pts
    have hzl : (l.map fun x : Nat => (x : Int)).length = l.length := List.length_map _
    rw [ncells_icells] at H2
    have hic : (icells (l.map fun x : Nat => (x : Int))).length = l.length := by simp [icells]
    have hbig := e4.2
    have hd := Any.slices_Delete_int Tryz.laysDel b 0 cap i (i + 1) (l.map fun x : Nat => (x : Int)) w (fun j hj => by
      have hj' : j < l.length := by simpa using hj
      refine ⟨?_, frozen_row hb⟩
      refine cell_row H2.pts ?_
      rw [Nat.zero_add, List.getElem?_append_left (by omega)]
      simp [icells, hj']) (by omega) hbig (by omega) (by omega)
    rw [hzl] at hd
    refine hd.mono ?_
    rintro e w' ⟨rfl, q, rfl⟩
    have h3 := put_holds (m := q) (l' := (l.map fun x : Nat => (x : Int)).take i ++ (l.map fun x : Nat => (x : Int)).drop (i + 1) ++ List.replicate (i + 1 - i) 0) H2 (by simp; omega)
    rw [show i + 1 - i = 1 by omega] at h3 ⊢
    have e6 : icells ((l.map fun x : Nat => (x : Int)).take i ++ (l.map fun x : Nat => (x : Int)).drop (i + 1) ++ List.replicate 1 0) ++ s = ncells (l.eraseIdx i) ++ (.int .i64 0 :: s) := by
      rw [ncells_icells, List.eraseIdx_eq_take_drop_succ]
      simp [icells]
    rw [e6] at h3
    exact sls_of (by rw [ncells_length, List.length_eraseIdx, if_pos hi] <;> omega) (by omega) (by first | (simp; omega) | simp) h3

theorem pos_get {l : List Nat} (hs : l.Pairwise (· < ·)) {x : Nat} (hx : x ∈ l) : posL l x < l.length ∧ l.eraseIdx (posL l x) = l.filter (· ≠ x) := by
  induction l with
  | nil => cases hx
  | cons a l ih =>
    rw [List.pairwise_cons] at hs
    unfold posL
    rcases List.mem_cons.1 hx with rfl | hx'
    · have h0 : (x :: l).countP (· < x) = 0 := by
        rw [List.countP_eq_zero]
        intro y hy
        rcases List.mem_cons.1 hy with rfl | hy
        · simp
        · have := hs.1 y hy
          simp
          omega
      rw [h0]
      refine ⟨by simp, ?_⟩
      rw [List.eraseIdx_cons_zero, List.filter_cons_of_neg (by simp)]
      exact (List.filter_eq_self.2 fun y hy => by have := hs.1 y hy; simp; omega).symm
    · have hax := hs.1 x hx'
      have h1 : (a :: l).countP (· < x) = posL l x + 1 := by rw [List.countP_cons_of_pos (by simpa using hax)]; rfl
      obtain ⟨i1, i2⟩ := ih hs.2 hx'
      rw [h1]
      refine ⟨by simp; omega, ?_⟩
      rw [List.eraseIdx_cons_succ, i2, List.filter_cons_of_pos (by simp; omega)]
theorem gDel_spec [Extra] (p : Nat) (l : List Nat) (x : Nat) (hs : l.Pairwise (· < ·)) (hl : l.length ≤ 100000) {w : World} {fr : List HProp} (H : Holds w (BAG p l :: fr)) :
    Calls Tryz.prog 100 #[pp p, .int .i64 x] w (ret fun v w' => v = .bool (decide (x ∈ l)) ∧ Holds w' (BAG p (l.filter (· ≠ x)) :: fr)) := by
  obtain ⟨a, c, H⟩ := BAG_out H
  refine calls_of Tryz.func100 rfl (by kernel_rfl) ?_
  refine J168 H ?_
  obtain ⟨D1, H, hD1, hC1⟩ := sls_rd H.swap (ncells_length _) (by decide)
  refine Jc rfl rfl (Search_spec _ l (by omega) hs x (hD1 _) H) ?_
  clear H; rintro v w ⟨rfl, H⟩
  replace H := hC1 _ _ H
  refine J43 H ?_
  refine J21 H ?_
  refine C_join (fun ms σ w => ms = [] ∧ σ 6 = .bool (decide (x ∈ l)) ∧ Holds w (BAG p (l.filter (· ≠ x)) :: fr)) ?_ ?_
  · by_cases hx : x ∈ l
    · obtain ⟨h1, h2⟩ := pos_get hs hx
      rw [decide_eq_true hx]
      refine C_true rfl ?_
      refine J150 H ?_
      refine J198 H ?_
      rw [inc64 (by omega)]
      refine Jc rfl rfl (Delete_spec _ l (posL l x) h1 (by omega) H) ?_
      clear H; intro v w H
      obtain ⟨a28, m28, c28, rfl⟩ := sls_any H
      rw [h2] at H
      refine J56 H ?_
      clear H; intro w H
      refine Lp_nil ?_
      exact ⟨rfl, rfl, rfl, BAG_in H.swap⟩
    · rw [decide_eq_false hx]
      refine C_false rfl (C_skip ?_)
      rw [show l.filter (· ≠ x) = l from List.filter_eq_self.2 fun y hy => by simp; rintro rfl; exact hx hy]
      exact ⟨rfl, rfl, rfl, BAG_in H.swap⟩
  · clear H
    rintro ms σ w ⟨rfl, g6, H⟩
    rw [upd_self g6]
    refine J3 H ?_
    exact C_ret (Jy H rfl fun w' H' => ⟨rfl, H'⟩)
end Go.Proofs.YtcaaojbnjfdglaaGreatDoor
namespace Go.Proofs.YtcaaojbnjfdglaaGreatDoor
open Go.SL

theorem TabOk.drop {ts : List Slt} {x k n : Nat} {e : Ent} (h : TabOk ts x) (hk : ts[k]? = some ⟨n, some e⟩) (hn : n < 255) : TabOk (ts.set k ⟨n, none⟩) (setB x k false) := by
  have hkl := (List.getElem?_eq_some_iff.1 hk).1
  refine ⟨by rw [List.length_set]; exact h.bits.set hkl, fun i u hu => ?_, fun i u hu => ?_⟩
  · rw [setB_bit]
    rcases tab_set hu with ⟨rfl, rfl, _⟩ | ⟨hne, hu⟩
    · rw [if_pos rfl]
      show false = ((none : Option Ent).isSome || n == 255)
      have : (n == 255) = false := by rw [beq_eq_false_iff_ne]; omega
      rw [this]
      rfl
    · rw [if_neg hne]; exact h.bit _ _ hu
  · rcases tab_set hu with ⟨rfl, rfl, _⟩ | ⟨_, hu⟩
    · show n ≤ 255; omega
    · exact h.gen _ _ hu

theorem tDrop_spec [Extra] (p : Nat) (ts : List Slt) (k n : Nat) (e : Ent) (hk : ts[k]? = some ⟨n, some e⟩) (hn : n < 255) {w : World} {fr : List HProp} (H : Holds w (TAB p ts :: fr)) :
    Calls Tryz.prog 101 #[pp p, tkn k n] w (ret fun v w' => v = .int .i64 0 ∧ Holds w' (TAB p (ts.set k ⟨n, none⟩) :: fr)) := by
  obtain ⟨b, c, s, u, x, hok, hc, H, hclose⟩ := TAB_out H
  have hL : lookT ts k n = some (k, e) := lookT_some.2 ⟨n, rfl, rfl, hk⟩
  have hlen := flat_len tval_len ts
  have hkl : k < ts.length := (List.getElem?_eq_some_iff.1 hk).1
  refine calls_of Tryz.func101 rfl (by kernel_rfl) ?_
  refine J5 H ?_
  clear H; intro b3 w H
  refine J97 H ?_
  replace H := Js [1,1,0,0] 0 H
  refine Jc rfl rfl (find_open p b c u _ rfl ts s hok.bits.le k n H) ?_
  clear H; rintro v w ⟨rfl, H⟩
  rw [hL]
  refine J38 H ?_
  refine J6 H ?_
  refine J45 H ?_
  refine J10 H ?_
  refine J57 H ?_
  replace H := Js [1,0,0,0] 0 H
  refine Lp_s rfl (St_store1 H rfl rfl inferInstance rfl (by rw [List.length_append, hlen]; omega) rfl ?_)
  clear H; intro w H
  refine J10 H ?_
  refine J57 H ?_
  refine Lp_s rfl (St_storeN (vs := [.int .i64 0, .int .i64 0, .bool false, .bool false]) H rfl rfl inferInstance rfl rfl (by rw [List.length_set, List.length_append, hlen]; omega) rfl ?_)
  clear H; intro w H
  replace H : Holds w (pts b (row 193 (wr (ts.flatMap tval ++ s) (k * 6 + 1) [.bool false, .int .i64 0, .int .i64 0, .bool false, .bool false])) :: _) := H
  rw [flat_wr (x' := ⟨n, none⟩) tval_len hk (by simp) rfl] at H
  refine Lp_nil ?_
  have c0 : ((ts.set k ⟨n, none⟩).flatMap tval ++ s)[k * 6 + 0]? = some (.int .i64 n) := flat_get tval_len (List.getElem?_set_self hkl) rfl
  refine J6 H ?_
  refine J57 H ?_
  refine Lp_s rfl (St_load1 H rfl c0 rfl ?_)
  refine J0 H ?_
  rw [show ((n : Int) == 255) = false by rw [beq_eq_false_iff_ne]; omega]
  refine J218 H ?_
  clear H; intro w H
  refine A_pv 0 rfl (Wants.none rfl) rfl (by kernel_rfl) ?_
  refine A_pv 1 rfl (Wants.none rfl) rfl (by kernel_rfl) ?_
  refine A_fieldAddr 2 rfl (Wants.none rfl) rfl (by kernel_rfl) ?_
  refine A_load1 3 [6] H rfl (Wants.none rfl) rfl rfl (by kernel_rfl) ?_
  refine A_fieldAddr 4 rfl (Wants.none rfl) rfl (by kernel_rfl) ?_
  refine A_load1 5 [6] H rfl (Wants.none rfl) rfl rfl (by kernel_rfl) ?_
  replace H := Js [3,0,0,0] 0 H
  refine Jo 6 H ?_
  refine Jk rfl rfl (bSet_spec u ts.length x k false hok.bits hkl H) ?_
  clear H; rintro v w ⟨rfl, H⟩
  refine J201 H ?_
  replace H := Js [2,1,0] 1 H
  refine C_ret (Jy H rfl fun w' H' => ⟨rfl, hclose _ _ (ts.set k ⟨n, none⟩) _ (by simp) (goneT_set hk ?_) (hok.drop hk hn) H'⟩)
  show ((none : Option Ent).isNone && n == 255) = ((some e).isNone && n == 255)
  have : (n == 255) = false := by rw [beq_eq_false_iff_ne]; omega
  rw [this]
  rfl
end Go.Proofs.YtcaaojbnjfdglaaGreatDoor
namespace Go.Proofs.YtcaaojbnjfdglaaGreatDoor
open Go.SL

/-- What is remembered is of used slots, each place once. -/
structure RemOK (s : CS) : Prop where
  nd : (s.rem.map (·.1)).Nodup
  key : ∀ r t, fnd s.rem r = some t → ∃ (k p g : Nat) (e : Ent), r = ((k : Int), (p : Int)) ∧ s.tab[k]? = some ⟨g, some e⟩ ∧ p < e.ws.length
theorem Inv.rk {s : CS} (h : Inv s) : RemOK s := ⟨h.nd, fun r t hr => by
  obtain ⟨k, p, g, e, a, b, f, h1, h2, h3, _⟩ := (h.rem r t).1 hr
  exact ⟨k, p, g, e, h1, h2, h3⟩⟩
def wordAt (ts : List Slt) (r : Int × Int) : Nat := match ts[r.1.toNat]? with
  | some ⟨_, some e⟩ => e.addr + 1 + r.2.toNat
  | _ => 0
theorem wordAt_some {ts : List Slt} {k p g : Nat} {e : Ent} (h : ts[k]? = some ⟨g, some e⟩) : wordAt ts ((k : Int), (p : Int)) = e.addr + 1 + p := by
  unfold wordAt
  show (match ts[((k : Int)).toNat]? with | some ⟨_, some e⟩ => e.addr + 1 + ((p : Int)).toNat | _ => 0) = _
  rw [Int.toNat_natCast, h, Int.toNat_natCast]
theorem rem_len {s : CS} (hw : WF s) (h : RemOK s) : s.rem.length ≤ 1000000 := by
  have key : ∀ r ∈ s.rem.map (·.1), ∃ (k p g : Nat) (e : Ent), r = ((k : Int), (p : Int)) ∧ s.tab[k]? = some ⟨g, some e⟩ ∧ p < e.ws.length := by
    intro r hr
    obtain ⟨⟨r', t⟩, h1, rfl⟩ := List.mem_map.1 hr
    exact h.key r' t ((fnd_iff h.nd).2 h1)
  have h1 : ((s.rem.map (·.1)).map (wordAt s.tab)).Nodup := by
    refine List.pairwise_map.2 (List.Pairwise.imp_of_mem ?_ h.nd)
    intro r r' hr hr' hne heq
    obtain ⟨k, p, g, e, rfl, h2, h3⟩ := key r hr
    obtain ⟨k', p', g', e', rfl, h2', h3'⟩ := key r' hr'
    rw [wordAt_some h2, wordAt_some h2'] at heq
    by_cases hk : k = k'
    · subst hk
      rw [h2] at h2'
      injection h2' with h2'
      injection h2' with _ h2'
      injection h2' with h2'
      subst h2'
      obtain rfl : p = p' := by omega
      exact hne rfl
    · have := hw.apart k k' g g' e e' hk h2 h2'
      unfold endOf at this
      omega
  have h2 := sub_length h1 (l₂ := List.range 64512) (by
    intro z hz
    obtain ⟨r, hr, rfl⟩ := List.mem_map.1 hz
    obtain ⟨k, p, g, e, rfl, h2, h3⟩ := key r hr
    rw [wordAt_some h2, List.mem_range]
    have h4 := (hw.obj k g e h2).2.1.1
    have h5 : s.own.length * s.size ≤ 63 * 1024 := Nat.mul_le_mul hw.own.2 hw.size.2
    unfold endOf at h4
    omega)
  rw [List.length_map, List.length_map, List.length_range] at h2
  omega
theorem fnd_foldl_era : ∀ (ks : List (Int × Int)) {m : List ((Int × Int) × Int)}, (m.map (·.1)).Nodup → ∀ r, fnd (ks.foldl era m) r = if r ∈ ks then none else fnd m r
  | [], m, h, r => by rw [if_neg (by simp)]; rfl
  | k :: ks, m, h, r => by
    rw [List.foldl_cons, fnd_foldl_era ks (nodup_era h), fnd_era h]
    by_cases h1 : r ∈ ks
    · rw [if_pos h1, if_pos (List.mem_cons_of_mem _ h1)]
    · rw [if_neg h1]
      by_cases h2 : k = r
      · rw [if_pos h2, if_pos (by rw [h2]; exact List.mem_cons_self)]
      · rw [if_neg h2, if_neg (by rw [List.mem_cons]; exact fun h3 => h3.elim (fun h => h2 h.symm) h1)]

/-- What Lose leaves. -/
structure Lost (s : CS) (k n : Nat) (s' : CS) : Prop where
  size : s'.size = s.size
  own : s'.own = s.own
  lays : s'.lays = s.lays
  last : s'.last = s.last
  par : s'.par = s.par
  sps : s'.sps = s.sps
  tab : s'.tab = s.tab.set k ⟨n, none⟩
  nd : (s'.rem.map (·.1)).Nodup
  rem : ∀ r, fnd s'.rem r = if r.1 = (k : Int) then none else fnd s.rem r
theorem Lost.rk {s s' : CS} {k n : Nat} (h : Lost s k n s') (hR : RemOK s) : RemOK s' := by
  refine ⟨h.nd, fun r t hr => ?_⟩
  rw [h.rem] at hr
  split at hr
  · cases hr
  · rename_i hne
    obtain ⟨j, p, g, e, rfl, h1, h2⟩ := hR.key r t hr
    exact ⟨j, p, g, e, rfl, by rw [h.tab, List.getElem?_set_ne (by rintro rfl; exact hne rfl)]; exact h1, h2⟩
theorem tab_less {ts : List Slt} {k n j g : Nat} {f : Ent} (h : (ts.set k ⟨n, none⟩)[j]? = some ⟨g, some f⟩) : j ≠ k ∧ ts[j]? = some ⟨g, some f⟩ := by
  rcases tab_set h with ⟨_, h2, _⟩ | h2
  · injection h2 with _ h2
    cases h2
  · exact h2
theorem WF_lose {s : CS} (h : WF s) (hnd : (s.par.map (·.1)).Nodup) {k n : Nat} {e : Ent} (hk : s.tab[k]? = some ⟨n, some e⟩) {q : Nat} {L : List Nat} {m1 m2 : List (Int × Nat × List Nat)} (hm : s.mns = m1 ++ (e.region, q, L) :: m2) (R : List ((Int × Int) × Int)) :
    WF { s with tab := s.tab.set k ⟨n, none⟩, rem := R, mns := m1 ++ (e.region, q, L.filter (· ≠ k)) :: m2 } := by
  have hnm : ((m1 ++ (e.region, q, L) :: m2).map (·.1)).Nodup := by rw [← hm, h.mkeys]; exact hnd
  have hmk : (m1 ++ (e.region, q, L.filter (· ≠ k)) :: m2).map (·.1) = s.par.map (·.1) := by rw [← h.mkeys, hm]; exact keys_mid rfl
  refine ⟨h.size, h.own, by show 1 ≤ (s.tab.set _ _).length ∧ (s.tab.set _ _).length ≤ 63; rw [List.length_set]; exact h.slots, h.lays, ?_, fun i g f hi => h.obj i g f (tab_less hi).2, fun i j g g' f f' hne hi hj => h.apart i j g g' f f' hne (tab_less hi).2 (tab_less hj).2, h.par, h.skeys, hmk, h.spc, fun x hx i g f hi => h.free x hx i g f (tab_less hi).2, h.live, ?_⟩
  · intro i t hi
    rcases tab_set hi with ⟨rfl, rfl, _⟩ | ⟨_, hi⟩
    · exact ⟨(h.gen _ _ hk).1, fun h => by cases h⟩
    · exact h.gen _ _ hi
  · intro x hx
    have hx' : x = (e.region, q, L.filter (· ≠ k)) ∨ (x ∈ s.mns ∧ x.1 ≠ e.region) := by
      rcases of_mid hx with h1 | h1
      · exact .inl h1
      · refine .inr ⟨by rw [hm]; exact mid_of h1, fun hx1 => ?_⟩
        rw [List.map_append, List.map_cons, List.nodup_append] at hnm
        obtain ⟨_, h2, h3⟩ := hnm
        rcases List.mem_append.1 h1 with hx | hx
        · exact h3 x.1 (List.mem_map.2 ⟨x, hx, rfl⟩) e.region (by simp) hx1
        · rw [List.nodup_cons] at h2
          exact h2.1 (List.mem_map.2 ⟨x, hx, hx1⟩)
    rcases hx' with rfl | ⟨hx, hne⟩
    · obtain ⟨h1, h2⟩ := h.mine (e.region, q, L) (by rw [hm]; simp)
      refine ⟨h1.filter _, fun j => ?_⟩
      show j ∈ L.filter (· ≠ k) ↔ _
      rw [List.mem_filter, h2]
      constructor
      · rintro ⟨⟨g, f, h3, h4⟩, h5⟩
        have h5 : j ≠ k := by simpa using h5
        exact ⟨g, f, by show (s.tab.set _ _)[_]? = _; rw [List.getElem?_set_ne (Ne.symm h5)]; exact h3, h4⟩
      · rintro ⟨g, f, h3, h4⟩
        obtain ⟨h5, h6⟩ := tab_less h3
        exact ⟨⟨g, f, h6, h4⟩, by simpa using h5⟩
    · obtain ⟨h1, h2⟩ := h.mine x hx
      refine ⟨h1, fun j => ?_⟩
      rw [h2]
      constructor
      · rintro ⟨g, f, h3, h4⟩
        refine ⟨g, f, ?_, h4⟩
        show (s.tab.set _ _)[_]? = _
        rw [List.getElem?_set_ne]
        · exact h3
        · rintro rfl
          rw [hk] at h3
          injection h3 with h3
          injection h3 with _ h3
          injection h3 with h3
          subst h3
          exact hne h4.symm
      · rintro ⟨g, f, h3, h4⟩
        exact ⟨g, f, (tab_less h3).2, h4⟩
theorem MemOK_lose {s s' : CS} {mem : List Nat} (m : MemOK s mem) {k n : Nat} (h1 : s'.own = s.own) (h2 : s'.size = s.size) (h3 : s'.tab = s.tab.set k ⟨n, none⟩) : MemOK s' mem :=
  ⟨by rw [h1, h2]; exact m.len, fun i g e hi => m.head i g e (by rw [h3] at hi; exact (tab_less hi).2), fun i g e hi => m.words i g e (by rw [h3] at hi; exact (tab_less hi).2)⟩

theorem Lose_spec [Extra] (p : Nat) (s : CS) (k n : Nat) (e : Ent) (hk : s.tab[k]? = some ⟨n, some e⟩) (hn : n < 255) (hR : RemOK s) {w : World} {fr : List HProp} (H : Holds w (CELL p s :: fr)) :
    Calls Tryz.prog 37 #[pp p, .int .i64 k] w (ret fun v w' => v = .tuple #[] ∧ ∃ s', Lost s k n s' ∧ Holds w' (CELL p s' :: fr)) := by
  refine calls_of Tryz.func37 rfl (by kernel_rfl) ?_
  refine J6 H ?_
  refine Jc rfl rfl (at_ok p s k n e hk H) ?_
  clear H; rintro v w ⟨rfl, H⟩
  refine J19 H ?_
  clear H; intro b4 w H
  refine J7 H ?_
  clear H; intro w H
  refine J37 H ?_
  obtain ⟨q, mem, hw, hm, H⟩ := CELL_out H.swap
  have hndp := TRE_keys (H.pull 5)
  have hkl := (List.getElem?_eq_some_iff.1 hk).1
  obtain ⟨_, _, y, hy⟩ := hw.obj k n e hk
  have hrk : e.region ∈ s.mns.map (·.1) := by rw [hw.mkeys]; exact List.mem_map.2 ⟨(e.region, y), hy, rfl⟩
  obtain ⟨b2, hkM⟩ := fnd_keys (l := s.mns) (f := fun x => x.1) (g := fun x => x.2.1) (k := e.region) hrk
  obtain ⟨⟨r1, b1, L⟩, m1, m2, hmns, h11, h12⟩ := fnd_split hkM
  have h11 : r1 = e.region := h11
  have h12 : b1 = b2 := h12
  subst h11 h12
  have hkM' : fnd (s.mns.map mnkey) e.region = some b1 := hkM
  have hL := hw.mine (e.region, b1, L) (by rw [hmns]; simp)
  have hL1 : L.length ≤ 100000 := by
    have := ris_len L 0 64 (fun x hx => ⟨Nat.zero_le _, by
      obtain ⟨g, f, h3, _⟩ := (hL.2 x).1 hx
      have h4 := (List.getElem?_eq_some_iff.1 h3).1
      have := hw.slots.2
      omega⟩) hL.1
    omega
  replace H := Js [4,0,0,0,0,0,0,0,0,0,0,0] 0 H
  refine J13 H ?_
  refine Jc rfl rfl (tAt_spec q.tp s.tab k n e hk H) ?_
  clear H; rintro v w ⟨rfl, H⟩
  refine J19 H ?_
  clear H; intro b6 w H
  refine J7 H ?_
  clear H; intro w H
  refine J0 H ?_
  replace H := Js [7,2,0,0,0,0,0,0,0,0,0,0,0] 0 H
  refine J13 H ?_
  refine Jc rfl rfl (rForget_spec q.rp s.rem hR.nd (rem_len hw hR) k H) ?_
  clear H; rintro v w ⟨ks, hks, _, rfl, H⟩
  refine Lp_nil ?_
  replace H := Js [11,10,10,1,0,0,0,0,0,0,0,0,0] 0 H
  replace H : Holds w (BAG b1 L :: star ((m1 ++ m2).map mnres) :: _) := (Holds.pick (R := mnres) (x := (e.region, b1, L)) hmns).1 H
  refine J1 H ?_
  clear H; intro w H
  refine J16 H ?_
  refine J178 H ?_
  refine J32 H ?_
  refine A_load1 5 [8] H rfl (Wants.none rfl) rfl rfl (by kernel_rfl) ?_
  refine A_lookup 6 [8] (key := e.region) H rfl (Wants.none rfl) rfl rfl tkI (by kernel_rfl) ?_
  rw [hkM']
  refine J58 H ?_
  refine Jo 8 H ?_
  refine Jk rfl rfl (gDel_spec b1 L k hL.1 hL1 H) ?_
  clear H; rintro v w ⟨rfl, H⟩
  refine J2 H ?_
  replace H := Js [7,4,5,0,0,0,0,0,0,0,0,0,0,0] 0 H
  refine J1 H ?_
  clear H; intro w H
  refine J220 H ?_
  refine Jo 5 H ?_
  refine Jk rfl rfl (tDrop_spec q.tp s.tab k n e hk hn H) ?_
  clear H; rintro v w ⟨rfl, H⟩
  refine J2 H ?_
  have hwf := WF_lose hw hndp hk hmns (ks.foldl era s.rem)
  have hmem := MemOK_lose (s' := { s with tab := s.tab.set k ⟨n, none⟩, rem := ks.foldl era s.rem, mns := m1 ++ (e.region, b1, L.filter (· ≠ k)) :: m2 }) hm rfl rfl rfl
  have hkeyM : s.mns.map mnkey = (m1 ++ (e.region, b1, L.filter (· ≠ k)) :: m2).map mnkey := by rw [hmns]; simp
  rw [hkeyM] at H
  replace H := Js [3,3,3,0,0,0,0,0,0,0,0,0,0,0] 0 H
  have H := (Holds.pick (R := mnres) (x := (e.region, b1, L.filter (· ≠ k))) (g1 := m1) (g2 := m2) rfl).2 H
  replace H := Js [3,6,6,6,2,5,4,4,4,1,0] 2 H
  have H := CELL_in hwf hmem H
  refine fn_end0 _ (.inl rfl) H rfl fun w' H' => ⟨rfl, { s with tab := s.tab.set k ⟨n, none⟩, rem := ks.foldl era s.rem, mns := m1 ++ (e.region, b1, L.filter (· ≠ k)) :: m2 }, ⟨rfl, rfl, rfl, rfl, rfl, rfl, rfl, nodup_foldl_era ks hR.nd, fun r => ?_⟩, H'⟩
  show fnd (ks.foldl era s.rem) r = _
  rw [fnd_foldl_era ks hR.nd]
  by_cases hr : r.1 = (k : Int)
  · rw [if_pos hr]
    by_cases h1 : r ∈ ks
    · rw [if_pos h1]
    · rw [if_neg h1]
      cases hf : fnd s.rem r with
      | none => rfl
      | some t => exact absurd ((hks r).2 ⟨hr, by rw [hf]; rfl⟩) h1
  · rw [if_neg hr, if_neg]
    intro h1
    exact hr ((hks r).1 h1).1
end Go.Proofs.YtcaaojbnjfdglaaGreatDoor
