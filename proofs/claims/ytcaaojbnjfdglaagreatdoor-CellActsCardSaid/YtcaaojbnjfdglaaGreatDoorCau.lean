/- Cells: what is proved on the way: every input of the statement; no condition. Texts joined: LawH LawI LawJ LawK. -/
import Derived.Test.YtcaaojbnjfdglaaGreatDoorCat
set_option linter.unusedVariables false
set_option linter.unusedSimpArgs false
set_option linter.unusedSectionVars false
namespace Go.Proofs.YtcaaojbnjfdglaaGreatDoor
open Go.SL

/-- An act. -/
structure Ac where
  k : Int
  A : Int
  B : Int
  C : Int
  X : Nat
  vW : Value
  ws : List Nat
  raw : Bool
  i : Int
  g : Int
def acell (x : Ac) : List Value := [.int .i64 x.k, .int .i64 x.A, .int .i64 x.B, .int .i64 x.C, .int .u64 x.X, x.vW, .bool x.raw, .int .i64 x.i, .int .i64 x.g]
def acells (l : List Ac) : List Value := l.flatMap acell
def AcOK (fr : List HProp) (x : Ac) : Prop := x.X < 18446744073709551616 ∧ (∀ y ∈ x.ws, y < 18446744073709551616) ∧ RdS fr x.vW x.ws.length 1 (ucells x.ws)
theorem acells_length (l : List Ac) : (acells l).length = l.length * 9 := by
  induction l with
  | nil => rfl
  | cons p L ih => simp only [acells, acell, List.flatMap_cons, List.length_append, List.length_cons, List.length_nil] at ih ⊢; omega
theorem acells_get {L : List Ac} {i : Nat} {x : Ac} (h : L[i]? = some x) : ∀ j v, (acell x)[j]? = some v → (acells L)[i * 9 + j]? = some v := by
  induction L generalizing i with
  | nil => simp at h
  | cons y L ih =>
    intro j v hj
    have hj9 : j < 9 := (List.getElem?_eq_some_iff.1 hj).1
    cases i with
    | zero =>
      simp at h
      subst h
      show (acell y ++ L.flatMap acell)[0 * 9 + j]? = _
      rw [Nat.zero_mul, Nat.zero_add, List.getElem?_append_left hj9]
      exact hj
    | succ i =>
      have := ih (i := i) (by simpa using h) j v hj
      show (acell y ++ L.flatMap acell)[(i + 1) * 9 + j]? = _
      rw [List.getElem?_append_right (by show 9 ≤ _; omega)]
      show (L.flatMap acell)[(i + 1) * 9 + j - 9]? = _
      rw [show (i + 1) * 9 + j - 9 = i * 9 + j by omega]
      exact this
theorem acells_el {c : List Value} {o n : Nat} {L : List Ac} (h : Reads c o n (acells L)) {i : Nat} {x : Ac} (hp : L[i]? = some x) : Reads c (o + i * 9) 9 (acell x) :=
  h.part (es := acell x) fun j v hj => acells_get hp j v hj

theorem over_spec [Extra] (v : Value) (l : List Ac) (hl : l.length ≤ 9223372036854775807) {w : World} {fr : List HProp} (hr : RdS fr v l.length 9 (acells l)) (hok : ∀ x ∈ l, AcOK fr x) (H : Holds w fr) :
    Calls Tryz.prog 14 #[v] w (ret fun r w' => ∃ b, r = .bool b ∧ (b = false → l.length ≤ 60) ∧ Holds w' fr) := by
  obtain ⟨h0, ad, cap, rfl, hrd⟩ := hr
  refine calls_of Tryz.func14 rfl (by kernel_rfl) ?_
  repeat refine C_seq ?_
  refine C_region ?_
  refine Lp_pv rfl rfl ?_
  refine Lp_nil ?_
  repeat refine C_seq ?_
  refine C_region ?_
  refine Lp_pv rfl rfl ?_
  refine Lp_s rfl (St_lenSlice rfl rfl ?_)
  refine Lp_pv rfl rfl ?_
  refine Lp_nil ?_
  by_cases h60 : (l.length : Int) > 60
  · rw [show decide ((l.length : Int) > 60) = true from decide_eq_true (by omega)]
    repeat refine C_seq ?_
    refine C_true rfl ?_
    repeat refine C_seq ?_
    refine C_region ?_
    refine Lp_pv rfl rfl ?_
    refine Lp_nil ?_
    exact C_ret (fn_end0 _ (.inr rfl) H rfl fun w' H' => ⟨true, rfl, (fun h => by cases h), H'⟩)
  rw [show decide ((l.length : Int) > 60) = false from decide_eq_false (by omega)]
  repeat refine C_seq ?_
  refine C_false rfl (C_skip ?_)
  repeat refine C_seq ?_
  refine C_region ?_
  refine Lp_pv rfl rfl ?_
  refine Lp_s rfl (St_lenSlice rfl rfl ?_)
  refine Lp_pv rfl rfl ?_
  refine Lp_nil ?_
  repeat refine C_seq ?_
  refine C_block ?_
  refine C_loop (fun ms σ w n => ms = [] ∧ ∃ i : Nat, i ≤ l.length ∧ n = l.length - i ∧ σ 8 = .slice ad l.length cap ∧ σ 9 = .int .i64 l.length ∧ σ 10 = .int .i64 i ∧ Holds w fr) (m := l.length) ⟨rfl, 0, by omega, rfl, rfl, rfl, rfl, H⟩ ?_
  clear H
  rintro ms σ w n ⟨rfl, i, hi, rfl, g8, g9, g10, H⟩
  rw [upd_self g8, upd_self g9, upd_self g10]
  repeat refine C_seq ?_
  refine C_region ?_
  refine Lp_pv rfl rfl ?_
  refine Lp_nil ?_
  repeat refine C_seq ?_
  refine C_dec rfl (fun h => C_skip ?_) (fun h => C_exit ?_)
  · have hlt : i < l.length := by omega
    have hy := List.getElem?_eq_getElem hlt
    generalize l[i] = y at hy
    have hym := hok y (List.mem_of_getElem? hy)
    rcases hrd with hz | ⟨b, o, E, fz, c, rfl, hA, hrd⟩
    · omega
    haveI := hA
    obtain ⟨k, A, B, C, X, vW, ws, raw, i1, g1⟩ := y
    obtain ⟨_, _, _, adW, capW, hvW, _⟩ := hym
    replace hvW : vW = .slice adW ws.length capW := hvW
    subst hvW
    repeat refine C_seq ?_
    refine C_block ?_
    repeat refine C_seq ?_
    refine C_region ?_
    refine Lp_s rfl (St_indexAddr rfl rfl (by omega) (by omega) rfl ?_)
    refine Lp_s rfl (St_loadN H rfl (acells_el hrd hy) rfl ?_)
    (refine Lp_s rfl (St_alloc H rfl ?_); clear H; intro b4 w H)
    (refine Lp_s rfl (St_storeN H rfl rfl inferInstance rfl rfl (Nat.le_of_ble_eq_true rfl) rfl ?_); clear H; intro w H)
    refine Lp_nil ?_
    repeat refine C_seq ?_
    refine C_region ?_
    refine Lp_s rfl (St_fieldAddr rfl rfl ?_)
    refine Lp_s rfl (St_load1 H rfl rfl rfl ?_)
    refine Lp_pv rfl rfl ?_
    by_cases hk : k = 2
    · subst hk
      refine Lp_pv rfl rfl ?_
      refine Lp_g rfl rfl rfl (St_fieldAddr rfl rfl ?_)
      refine Lp_g rfl rfl rfl (St_load1 H rfl rfl rfl ?_)
      refine Lp_gpv rfl rfl rfl rfl ?_
      by_cases hC : C > 40
      · rw [show decide (C > 40) = true from decide_eq_true (by omega)]
        refine Lp_gpv rfl rfl rfl rfl ?_
        refine Lp_no rfl rfl rfl ?_
        refine Lp_no rfl rfl rfl ?_
        refine Lp_no rfl rfl rfl ?_
        refine Lp_gpv rfl rfl rfl rfl ?_
        refine Lp_pv rfl rfl ?_
        refine Lp_pv rfl rfl ?_
        refine Lp_no rfl rfl rfl ?_
        refine Lp_no rfl rfl rfl ?_
        refine Lp_no rfl rfl rfl ?_
        refine Lp_no rfl rfl rfl ?_
        refine Lp_pv rfl rfl ?_
        refine Lp_nil ?_
        repeat refine C_seq ?_
        refine C_true rfl ?_
        repeat refine C_seq ?_
        refine C_region ?_
        refine Lp_pv rfl rfl ?_
        refine Lp_nil ?_
        exact C_ret (fn_end0 _ (.inr rfl) H.drop rfl fun w' H' => ⟨true, rfl, (fun h => by cases h), H'⟩)
      · rw [show decide (C > 40) = false from decide_eq_false (by omega)]
        refine Lp_gpv rfl rfl rfl rfl ?_
        refine Lp_g rfl rfl rfl (St_fieldAddr rfl rfl ?_)
        refine Lp_g rfl rfl rfl (St_load1 H rfl rfl rfl ?_)
        refine Lp_gpv rfl rfl rfl rfl ?_
        by_cases hB : B > 64
        · rw [show decide (B > 64) = true from decide_eq_true (by omega)]
          refine Lp_gpv rfl rfl rfl rfl ?_
          refine Lp_pv rfl rfl ?_
          refine Lp_pv rfl rfl ?_
          refine Lp_no rfl rfl rfl ?_
          refine Lp_no rfl rfl rfl ?_
          refine Lp_no rfl rfl rfl ?_
          refine Lp_no rfl rfl rfl ?_
          refine Lp_pv rfl rfl ?_
          refine Lp_nil ?_
          repeat refine C_seq ?_
          refine C_true rfl ?_
          repeat refine C_seq ?_
          refine C_region ?_
          refine Lp_pv rfl rfl ?_
          refine Lp_nil ?_
          exact C_ret (fn_end0 _ (.inr rfl) H.drop rfl fun w' H' => ⟨true, rfl, (fun h => by cases h), H'⟩)
        · rw [show decide (B > 64) = false from decide_eq_false (by omega)]
          by_cases hw : (ws.length : Int) > 10
          · first | refine Lp_gpv rfl rfl rfl rfl ?_ | refine Lp_no rfl rfl rfl ?_ | refine Lp_nn rfl rfl ?_
            refine Lp_pv rfl rfl ?_
            refine Lp_pv rfl rfl ?_
            refine Lp_g rfl rfl rfl (St_fieldAddr rfl rfl ?_)
            refine Lp_g rfl rfl rfl (St_load1 H rfl rfl rfl ?_)
            refine Lp_g rfl rfl rfl (St_lenSlice rfl rfl ?_)
            refine Lp_gpv rfl rfl rfl rfl ?_
            rw [show decide ((ws.length : Int) > 10) = true from decide_eq_true (by omega)]
            refine Lp_pv rfl rfl ?_
            refine Lp_nil ?_
            repeat refine C_seq ?_
            refine C_true rfl ?_
            repeat refine C_seq ?_
            refine C_region ?_
            refine Lp_pv rfl rfl ?_
            refine Lp_nil ?_
            exact C_ret (fn_end0 _ (.inr rfl) H.drop rfl fun w' H' => ⟨true, rfl, (fun h => by cases h), H'⟩)
          · first | refine Lp_gpv rfl rfl rfl rfl ?_ | refine Lp_no rfl rfl rfl ?_ | refine Lp_nn rfl rfl ?_
            refine Lp_pv rfl rfl ?_
            refine Lp_pv rfl rfl ?_
            refine Lp_g rfl rfl rfl (St_fieldAddr rfl rfl ?_)
            refine Lp_g rfl rfl rfl (St_load1 H rfl rfl rfl ?_)
            refine Lp_g rfl rfl rfl (St_lenSlice rfl rfl ?_)
            refine Lp_gpv rfl rfl rfl rfl ?_
            rw [show decide ((ws.length : Int) > 10) = false from decide_eq_false (by omega)]
            refine Lp_pv rfl rfl ?_
            refine Lp_nil ?_
            repeat refine C_seq ?_
            refine C_false rfl (C_skip ?_)
            repeat refine C_seq ?_
            refine C_region ?_
            refine Lp_pv rfl rfl ?_
            refine Lp_pv rfl rfl ?_
            refine Lp_nil ?_
            exact ⟨_, ⟨rfl, i + 1, hlt, rfl, rfl, rfl, inc64 (by omega), H.drop⟩, by omega⟩
    · rw [show (k == 2) = false by simpa using hk]
      by_cases hw : (ws.length : Int) > 10
      · first | refine Lp_pv rfl rfl ?_ | refine Lp_mv rfl rfl ?_
        refine Lp_no rfl rfl rfl ?_
        refine Lp_no rfl rfl rfl ?_
        refine Lp_no rfl rfl rfl ?_
        refine Lp_no rfl rfl rfl ?_
        refine Lp_nn rfl rfl ?_
        refine Lp_nn rfl rfl ?_
        refine Lp_nn rfl rfl ?_
        refine Lp_no rfl rfl rfl ?_
        refine Lp_pv rfl rfl ?_
        refine Lp_pv rfl rfl ?_
        refine Lp_g rfl rfl rfl (St_fieldAddr rfl rfl ?_)
        refine Lp_g rfl rfl rfl (St_load1 H rfl rfl rfl ?_)
        refine Lp_g rfl rfl rfl (St_lenSlice rfl rfl ?_)
        refine Lp_gpv rfl rfl rfl rfl ?_
        rw [show decide ((ws.length : Int) > 10) = true from decide_eq_true (by omega)]
        refine Lp_pv rfl rfl ?_
        refine Lp_nil ?_
        repeat refine C_seq ?_
        refine C_true rfl ?_
        repeat refine C_seq ?_
        refine C_region ?_
        refine Lp_pv rfl rfl ?_
        refine Lp_nil ?_
        exact C_ret (fn_end0 _ (.inr rfl) H.drop rfl fun w' H' => ⟨true, rfl, (fun h => by cases h), H'⟩)
      · first | refine Lp_pv rfl rfl ?_ | refine Lp_mv rfl rfl ?_
        refine Lp_no rfl rfl rfl ?_
        refine Lp_no rfl rfl rfl ?_
        refine Lp_no rfl rfl rfl ?_
        refine Lp_no rfl rfl rfl ?_
        refine Lp_nn rfl rfl ?_
        refine Lp_nn rfl rfl ?_
        refine Lp_nn rfl rfl ?_
        refine Lp_no rfl rfl rfl ?_
        refine Lp_pv rfl rfl ?_
        refine Lp_pv rfl rfl ?_
        refine Lp_g rfl rfl rfl (St_fieldAddr rfl rfl ?_)
        refine Lp_g rfl rfl rfl (St_load1 H rfl rfl rfl ?_)
        refine Lp_g rfl rfl rfl (St_lenSlice rfl rfl ?_)
        refine Lp_gpv rfl rfl rfl rfl ?_
        rw [show decide ((ws.length : Int) > 10) = false from decide_eq_false (by omega)]
        refine Lp_pv rfl rfl ?_
        refine Lp_nil ?_
        repeat refine C_seq ?_
        refine C_false rfl (C_skip ?_)
        repeat refine C_seq ?_
        refine C_region ?_
        refine Lp_pv rfl rfl ?_
        refine Lp_pv rfl rfl ?_
        refine Lp_nil ?_
        exact ⟨_, ⟨rfl, i + 1, hlt, rfl, rfl, rfl, inc64 (by omega), H.drop⟩, by omega⟩
  · have hge : i = l.length := by omega
    repeat refine C_seq ?_
    refine C_region ?_
    refine Lp_pv rfl rfl ?_
    refine Lp_nil ?_
    exact C_ret (fn_end0 _ (.inr rfl) H rfl fun w' H' => ⟨false, rfl, fun _ => by omega, H'⟩)
end Go.Proofs.YtcaaojbnjfdglaaGreatDoor
namespace Go.Proofs.YtcaaojbnjfdglaaGreatDoor
open Go.SL

def cs0 (n size slots : Nat) : CS := ⟨size, List.replicate n 0, [], List.replicate slots ⟨0, none⟩, 0, [], [], [], []⟩
theorem rel0 (n size slots : Nat) : Rel (cs0 n size slots) ms0 [] := by
  have hno : ∀ (k g : Nat) (e : Ent), (List.replicate slots (⟨0, none⟩ : Slt))[k]? ≠ some ⟨g, some e⟩ := by
    intro k g e h
    rw [List.getElem?_replicate] at h
    split at h <;> cases h
  refine ⟨rfl, rfl, ?_, List.nodup_nil, rfl, ?_, ?_, fun k g e h => absurd h (hno k g e), ?_, List.nodup_nil⟩
  · intro r q
    constructor
    · intro h; cases h
    · rintro ⟨k, _, h1, h2, _⟩
      have : k < 1 := (List.getElem?_eq_some_iff.1 h2).1
      omega
  · intro o x k g h; cases h
  · intro o x k g h; cases h
  · intro o k g h; cases h

/-- While nothing is freed: the first slots are taken, once each. -/
structure Fresh (s : CS) (told : List (Nat × Nat)) : Prop where
  shape : ∃ r, shapeT s.tab = List.replicate told.length (1, true) ++ List.replicate r (0, false)
  told : told = (List.range told.length).map fun i => (i, 1)
theorem fresh0 (n size slots : Nat) : Fresh (cs0 n size slots) [] := ⟨⟨slots, by simp [shapeT, cs0]⟩, rfl⟩
theorem shape_at {ts : List Slt} {n r k : Nat} {t : Slt} (h : shapeT ts = List.replicate n (1, true) ++ List.replicate r (0, false)) (hk : ts[k]? = some t) : (k < n ∧ t.gen = 1 ∧ t.ent.isSome = true) ∨ (n ≤ k ∧ k < n + r ∧ t.gen = 0 ∧ t.ent = none) := by
  have h1 : (shapeT ts)[k]? = some (t.gen, t.ent.isSome) := by
    unfold shapeT
    rw [List.getElem?_map, hk]
    rfl
  rw [h] at h1
  by_cases hkn : k < n
  · rw [List.getElem?_append_left (by simpa using hkn), List.getElem?_replicate, if_pos hkn] at h1
    injection h1 with h1
    injection h1 with h2 h3
    exact .inl ⟨hkn, h2.symm, h3.symm⟩
  · rw [List.getElem?_append_right (by simp; omega), List.length_replicate, List.getElem?_replicate] at h1
    split at h1
    · injection h1 with h1
      injection h1 with h2 h3
      refine .inr ⟨by omega, by omega, h2.symm, ?_⟩
      cases he : t.ent with
      | none => rfl
      | some e => rw [he] at h3; cases h3
    · cases h1
theorem Fresh.seq {s : CS} {told : List (Nat × Nat)} (h : Fresh s told) : Seq s := by
  obtain ⟨⟨r, hs⟩, _⟩ := h
  intro i j t g e hij hi hj
  rcases shape_at hs hj with ⟨h1, _⟩ | ⟨_, _, _, h1⟩
  · rcases shape_at hs hi with ⟨_, _, h2⟩ | ⟨h2, _⟩
    · unfold busy; rw [h2]; rfl
    · omega
  · cases h1
theorem Fresh.step {s s' : CS} {m m' : MS} {told told' : List (Nat × Nat)} (h : Fresh s told) (st : Step s m told s' m' told') : Fresh s' told' := by
  obtain ⟨⟨r, hs⟩, ht⟩ := h
  rcases st.tab with ⟨rfl, h1⟩ | ⟨k, g0, rfl, h1, h2, h3⟩
  · exact ⟨⟨r, by rw [h1]; exact hs⟩, ht⟩
  · rcases shape_at hs h1 with ⟨_, _, h4⟩ | ⟨h4, h5, h6, _⟩
    · cases h4
    · have h6 : g0 = 0 := h6
      subst h6
      have hl : s.tab.length = told.length + r := by
        have := congrArg List.length hs
        simpa [shapeT] using this
      have hk : k = told.length := by
        refine Classical.byContradiction fun hne => ?_
        have hlt : told.length < k := by omega
        have hn := List.getElem?_eq_getElem (l := s.tab) (i := told.length) (by omega)
        have hb := h2 told.length _ hlt hn
        rcases shape_at hs hn with ⟨h7, _⟩ | ⟨_, _, h7, h8⟩
        · omega
        · unfold busy at hb
          rw [h7, h8] at hb
          cases hb
      subst hk
      refine ⟨⟨r - 1, ?_⟩, ?_⟩
      · rw [h3, hs, List.length_append]
        obtain ⟨r', rfl⟩ : ∃ r', r = r' + 1 := ⟨r - 1, by omega⟩
        rw [List.set_append_right _ _ (by simp), List.length_replicate, Nat.sub_self, List.replicate_succ, List.set_cons_zero, Nat.add_sub_cancel]
        show _ = List.replicate (told.length + 1) (1, true) ++ _
        rw [List.replicate_succ', List.append_assoc]
        rfl
      · rw [List.length_append]
        show told ++ [(told.length, 1)] = (List.range (told.length + 1)).map _
        rw [List.range_succ, List.map_append, ← ht]
        rfl

theorem max0 (x : Int) : ∃ X : Nat, (if x > 0 then x else 0) = (X : Int) := ⟨x.toNat, by split <;> omega⟩
theorem Of_spec [Extra] (z1 z2 z3 : Int) {w : World} {fr : List HProp} (H : Holds w fr) :
    Calls Tryz.prog 12 #[.agg #[.int .i64 z1, .int .i64 z2, .int .i64 z3]] w (ret fun v w' => ∃ p n size slots, v = pp p ∧ 1 ≤ n ∧ n ≤ 20 ∧ 1 ≤ size ∧ size ≤ 16 ∧ 1 ≤ slots ∧ slots ≤ 16 ∧ Holds w' (RUN p (cs0 n size slots) ms0 [] :: fr)) := by
  obtain ⟨X1, h1⟩ := max0 z1
  obtain ⟨X2, h2⟩ := max0 z2
  obtain ⟨X3, h3⟩ := max0 z3
  refine calls_of Tryz.func12 rfl (by kernel_rfl) ?_
  repeat refine C_seq ?_
  refine C_region ?_
  (refine Lp_s rfl (St_boxN H rfl rfl ?_); clear H; intro b1 w H)
  refine Lp_pv rfl rfl ?_
  refine Lp_nil ?_
  repeat refine C_seq ?_
  refine C_region ?_
  refine Lp_s rfl (St_fieldAddr rfl rfl ?_)
  refine Lp_s rfl (St_load1 H rfl rfl rfl ?_)
  refine Lp_s rfl (St_max rfl rfl rfl ?_)
  rw [h1]
  refine Lp_pv (v := .int .i64 ((X1 % 20 : Nat) : Int)) (by
    show some (Value.int IntKind.i64 (Int.tmod (X1 : Int) 20)) = _
    rw [Int.tmod_eq_emod_of_nonneg (by omega)]; rfl) rfl ?_
  refine Lp_pv rfl rfl ?_
  rw [show IntKind.i64.wrap (1 + ((X1 % 20 : Nat) : Int)) = ((X1 % 20 + 1 : Nat) : Int) by rw [wrap64 (by omega) (by omega)]; omega]
  refine Lp_s rfl (St_fieldAddr rfl rfl ?_)
  refine Lp_s rfl (St_load1 H rfl rfl rfl ?_)
  refine Lp_s rfl (St_max rfl rfl rfl ?_)
  rw [h2]
  refine Lp_pv (v := .int .i64 ((X2 % 16 : Nat) : Int)) (by
    show some (Value.int IntKind.i64 (Int.tmod (X2 : Int) 16)) = _
    rw [Int.tmod_eq_emod_of_nonneg (by omega)]; rfl) rfl ?_
  refine Lp_pv rfl rfl ?_
  rw [show IntKind.i64.wrap (1 + ((X2 % 16 : Nat) : Int)) = ((X2 % 16 + 1 : Nat) : Int) by rw [wrap64 (by omega) (by omega)]; omega]
  refine Lp_s rfl (St_fieldAddr rfl rfl ?_)
  refine Lp_s rfl (St_load1 H rfl rfl rfl ?_)
  refine Lp_s rfl (St_max rfl rfl rfl ?_)
  rw [h3]
  refine Lp_pv (v := .int .i64 ((X3 % 16 : Nat) : Int)) (by
    show some (Value.int IntKind.i64 (Int.tmod (X3 : Int) 16)) = _
    rw [Int.tmod_eq_emod_of_nonneg (by omega)]; rfl) rfl ?_
  refine Lp_pv rfl rfl ?_
  rw [show IntKind.i64.wrap (1 + ((X3 % 16 : Nat) : Int)) = ((X3 % 16 + 1 : Nat) : Int) by rw [wrap64 (by omega) (by omega)]; omega]
  
  refine Lp_s rfl (St_call (a := []) (b := []) rfl rfl (call (cNew_spec (X1 % 20 + 1) (X2 % 16 + 1) (X3 % 16 + 1) (by omega) (by omega) (by omega) (by omega) (by omega) (by omega) H) ?_))
  clear H; rintro v w ⟨c, rfl, H⟩
  refine Lp_pv rfl rfl ?_
  refine Lp_pv rfl rfl ?_
  refine Lp_pv rfl rfl ?_
  refine Lp_pv rfl rfl ?_
  refine Lp_pv rfl rfl ?_
  refine Lp_nil ?_
  repeat refine C_seq ?_
  refine C_region ?_
  refine Lp_pv rfl rfl ?_
  refine Lp_pv rfl rfl ?_
  refine Lp_pv rfl rfl ?_
  refine Lp_gpv rfl rfl rfl rfl ?_
  refine Lp_g rfl rfl rfl (St_eqPtrNil rfl rfl (.inl rfl) rfl ?_)
  refine Lp_pv rfl rfl ?_
  refine Lp_nil ?_
  repeat refine C_seq ?_
  refine C_false rfl (C_skip ?_)
  repeat refine C_seq ?_
  refine C_region ?_
  refine Lp_pv rfl rfl ?_
  refine Lp_s rfl (St_call (a := []) (b := []) rfl rfl (call (New15_spec H) ?_))
  clear H; rintro v w ⟨mo, rfl, H⟩
  refine Lp_s rfl (St_build rfl rfl ?_)
  (refine Lp_s rfl (St_boxN H rfl rfl ?_); clear H; intro b33 w H)
  refine Lp_pv rfl rfl ?_
  refine Lp_nil ?_
  have H := sls_nil (E := 32) (k := 2) H
  replace H := Holds.sel [1, 2, 1, 0] 1 H; dsimp only [SL.sel, SL.pull, List.drop] at H
  exact C_ret (fn_end0 _ (.inr rfl) (RUN_in (told := []) H) rfl fun w' H' => ⟨_, X1 % 20 + 1, X2 % 16 + 1, X3 % 16 + 1, rfl, by omega, by omega, by omega, by omega, by omega, by omega, H'⟩)
end Go.Proofs.YtcaaojbnjfdglaaGreatDoor
namespace Go.Proofs.YtcaaojbnjfdglaaGreatDoor
open Go.SL

def L0 : Lay := ⟨2, [1], 0, []⟩
def mB : MS := ⟨[-1, 0], [L0], []⟩
def mC : MS := makeM mB 1 1 0
def mD : MS := makeM mC 1 1 0
theorem dec0 : decodeL [2, 2, 0] = some L0 := by rfl
theorem right0 : RightL L0 := by decide
theorem mwfB : MWF mB := ⟨⟨by simp [mB], by simp [mB]⟩, ⟨by simp [mB], fun l h => by simp [mB] at h; subst h; exact right0⟩, (fun x h => by simp [mB] at h), by simp [mB]⟩
theorem mwf0 : MWF ms0 := ⟨⟨by simp [ms0], by simp [ms0]⟩, ⟨by simp [ms0], fun l h => by simp [ms0] at h⟩, (fun x h => by simp [ms0] at h), by simp [ms0]⟩
theorem mayB : mayM mB 1 1 0 = (2, 0) := by decide
theorem mayC : mayM mC 1 1 0 = (2, 0) := by decide
theorem mwfC : MWF mC := MWF_make (by rw [mayB]) mwfB (by simp [mB])
theorem mwfD : MWF mD := MWF_make (by rw [mayC]) mwfC (by show (mB.objs ++ [_]).length < _; simp [mB])

def mE : MS := (tieM mD 0 1 1).1
def mF : MS := (dropM mE 1).1
def mG : MS := (refM mF 0 1).1
theorem mwfE : MWF mE := by
  show MWF (setM mD 0 { newM 1 1 0 2 with kind := (newM 1 1 0 2).kind.set 1 2, to := (newM 1 1 0 2).to.set 1 1 })
  exact MWF_set mwfD (MobOK_cut (mwfD.objs _ (show newM 1 1 0 2 ∈ [newM 1 1 0 2, newM 1 1 0 2] from List.mem_cons_self)) 1 2 1 (fun _ => by decide))
theorem mwfF : MWF mF := by
  show MWF (setM mE 1 { newM 1 1 0 2 with held := false })
  obtain ⟨a, b, c, d, e⟩ := mwfD.objs _ (show newM 1 1 0 2 ∈ [newM 1 1 0 2, newM 1 1 0 2] from List.mem_cons_self)
  exact MWF_set mwfE ⟨a, b, c, d, e⟩
theorem alive_make {s s' : CS} {m : MS} {told : List (Nat × Nat)} {i g e : Nat} (R : Rel s m told) (hm : MWF m) (F : Fresh s told) (hM : Made s 1 1 0 i g e s') (hmay : mayM m 1 1 0 = (2, 0)) (hsz : s.size = 8) (hlen : told.length < s.tab.length) (hfree : ∃ a, a < s.own.length ∧ s.own.getD a 0 = 0) :
    e = 0 ∧ i = told.length ∧ g = 1 ∧ Rel s' (makeM m 1 1 0) (told ++ [(told.length, 1)]) ∧ Fresh s' (told ++ [(told.length, 1)]) ∧ s'.size = 8 ∧ Grows s.own s'.own 1 ∧ s'.tab.length = s.tab.length := by
  obtain ⟨hm1, hm2⟩ := may_law R 1 1 0
  rw [hmay] at hm1
  have hn : makeN s 1 0 = 2 := by rw [hm2 (by rw [hmay]), hmay]
  have hk : makeN s 1 0 / s.size + 1 = 1 := by rw [hn, hsz]
  obtain ⟨⟨r, hs⟩, ht⟩ := id F
  have hnb : ∀ t, s.tab[told.length]? = some t → busy t = false := by
    intro t h
    rcases shape_at hs h with ⟨h7, _⟩ | ⟨_, _, h7, h8⟩
    · omega
    · unfold busy
      rw [h7, h8]
      rfl
  have hat := List.getElem?_eq_getElem (l := s.tab) (i := told.length) hlen
  rcases hM with ⟨h1, _⟩ | ⟨h1, h2, _⟩ | ⟨h1, h2, _⟩ | ⟨h1, rfl, g0, addr, h2, h3, h4, rfl, h5, h6, h7, h8, h9, h10, h11⟩
  · exact absurd hm1 h1
  · have h3 := h2 _ (List.mem_of_getElem? hat)
    rw [hnb _ hat] at h3
    cases h3
  · obtain ⟨a, ha, hz⟩ := hfree
    rw [hk] at h2
    obtain ⟨j, h3, h4, h5⟩ := h2 a (by omega)
    obtain rfl : j = a := by omega
    exact absurd hz h5
  · rw [hk] at h11
    have hi : i = told.length := by
      rcases shape_at hs h2 with ⟨_, _, h12⟩ | ⟨h12, _⟩
      · cases h12
      · refine Classical.byContradiction fun hne => ?_
        have h13 := h4 told.length _ (by omega) hat
        rw [hnb _ hat] at h13
        cases h13
    subst hi
    have hg : g0 = 0 := by
      rcases shape_at hs h2 with ⟨_, _, h12⟩ | ⟨_, _, h12, _⟩
      · cases h12
      · exact h12
    subst hg
    obtain ⟨_, R'⟩ := make_rel R hm (by rw [hmay]) h2 h6 h7 h8 h10
    refine ⟨rfl, rfl, rfl, R', ?_, by rw [h5, hsz], h11, by rw [h10, List.length_set]⟩
    exact F.step (m := m) (m' := makeM m 1 1 0) ⟨by show m.P.length ≤ _; omega, by show (m.objs ++ [_]).length ≤ _; simp, .inr ⟨told.length, 0, rfl, h2, h4, by rw [h10]; unfold shapeT; rw [List.map_set]; rfl⟩⟩

theorem alive15_spec [Extra] {w : World} {fr : List HProp} [hT : HasTab 0 Lib.deBruijn64tab fr] (H : Holds w fr) :
    Calls Tryz.prog 13 #[] w (ret fun v w' => v = .bool true ∧ Holds w' fr) := by
  have Rs0 := rel0 4 8 4
  have hdS : defS (cs0 4 8 4) [2, 2, 0] = ({ cs0 4 8 4 with lays := [L0] }, 1, 0) := by rw [defS_some dec0]; rfl
  refine calls_of Tryz.func13 rfl (by kernel_rfl) ?_
  repeat refine C_seq ?_
  refine C_region ?_
  refine Lp_pv rfl rfl ?_
  refine Lp_nil ?_
  repeat refine C_seq ?_
  refine C_region ?_
  refine Lp_s rfl (St_call (a := []) (b := []) rfl rfl (call (cNew_spec 4 8 4 (by omega) (by omega) (by omega) (by omega) (by omega) (by omega) H) ?_))
  clear H; rintro v w ⟨c, rfl, H⟩
  replace H : Holds w (CELL c (cs0 4 8 4) :: fr) := H
  refine Lp_pv rfl rfl ?_
  refine Lp_pv rfl rfl ?_
  refine Lp_pv rfl rfl ?_
  refine Lp_pv rfl rfl ?_
  refine Lp_pv rfl rfl ?_
  refine Lp_nil ?_
  repeat refine C_seq ?_
  refine C_region ?_
  refine Lp_pv rfl rfl ?_
  refine Lp_pv rfl rfl ?_
  refine Lp_pv rfl rfl ?_
  refine Lp_gpv rfl rfl rfl rfl ?_
  refine Lp_g rfl rfl rfl (St_eqPtrNil rfl rfl (.inl rfl) rfl ?_)
  refine Lp_pv rfl rfl ?_
  refine Lp_nil ?_
  repeat refine C_seq ?_
  refine C_false rfl (C_skip ?_)
  repeat refine C_seq ?_
  refine C_region ?_
  refine Lp_pv rfl rfl ?_
  (refine Lp_s rfl (St_buildSlice H rfl rfl rfl ?_); clear H; intro b29 w H)

  replace H := H.swap
  have hrd : RdS (pts b29 (row 29 [.int .u64 2, .int .u64 2, .int .u64 0]) :: fr) (.slice (some ⟨b29, 0, none⟩) 3 3) 3 1 (ucells [2, 2, 0]) := ⟨rfl, _, _, rfl, .inr ⟨b29, 0, _, _, _, rfl, inferInstance, .cons rfl (.cons rfl (.cons rfl (.nil _)))⟩⟩
  refine Lp_s rfl (St_call (a := []) (b := []) rfl rfl (call (Define_spec c (cs0 4 8 4) _ [2, 2, 0] (by decide) hrd H) ?_))
  clear H; rintro v w ⟨rfl, H⟩
  rw [hdS] at H ⊢
  have RA : Rel { cs0 4 8 4 with lays := [L0] } ⟨[-1], [L0], []⟩ [] := by
    have h := (def_law Rs0 mwf0 [2, 2, 0]).2
    rw [hdS] at h
    exact h
  refine Lp_pv rfl rfl ?_
  refine Lp_pv rfl rfl ?_
  refine Lp_pv rfl rfl ?_
  refine Lp_pv rfl rfl ?_
  refine Lp_pv rfl rfl ?_
  refine Lp_nil ?_
  repeat refine C_seq ?_
  refine C_region ?_
  refine Lp_pv rfl rfl ?_
  refine Lp_s rfl (St_call (a := []) (b := []) rfl rfl (call (Open_spec c _ 0 (by decide) H) ?_))
  clear H; rintro v w (⟨h1, rfl, H⟩ | ⟨_, ob, ob2, rfl, H⟩)
  · exact absurd rfl h1
  have RB := open_rel RA (parent := 0) rfl ob ob2
  generalize hsB : openS { cs0 4 8 4 with lays := [L0] } 0 ob ob2 = sB at H RB
  have hB1 : sB.size = 8 := by rw [← hsB]; rfl
  have hB2 : sB.own = List.replicate 4 0 := by rw [← hsB]; rfl
  have hB3 : sB.tab = List.replicate 4 ⟨0, none⟩ := by rw [← hsB]; rfl
  have hB4 : sB.last = 1 := by rw [← hsB]; rfl
  have FB : Fresh sB [] := ⟨⟨4, by rw [hB3]; rfl⟩, rfl⟩
  replace RB : Rel sB mB [] := RB
  refine Lp_pv rfl rfl ?_
  refine Lp_pv rfl rfl ?_
  refine Lp_pv rfl rfl ?_
  refine Lp_pv rfl rfl ?_
  refine Lp_pv rfl rfl ?_
  refine Lp_nil ?_
  repeat refine C_seq ?_
  refine C_region ?_
  refine Lp_pv rfl rfl ?_
  refine Lp_s rfl (St_call (a := []) (b := []) rfl rfl (call (Make_all c sB 1 1 0 FB.seq H) ?_))
  clear H; rintro v w ⟨i1, g1, e1, sC, rfl, hM1, H⟩
  obtain ⟨rfl, rfl, rfl, RC, FC, hC1, hC2, hC3⟩ := alive_make RB mwfB FB hM1 mayB hB1 (by rw [hB3]; decide) ⟨0, by rw [hB2]; decide, by rw [hB2]; rfl⟩
  rw [hB3] at hC3
  rw [hB2] at hC2
  replace RC : Rel sC mC [(0, 1)] := RC
  replace FC : Fresh sC [(0, 1)] := FC
  have hfree : ∃ a, a < sC.own.length ∧ sC.own.getD a 0 = 0 := by
    obtain ⟨hl, a0, k0, hk0, hg⟩ := hC2
    have hz : ∀ a, a ≠ a0 → sC.own.getD a 0 = 0 := by
      intro a ha
      refine Classical.byContradiction fun h => ?_
      rcases hg a h with h1 | h1
      · exact h1 (rep_get 4 a)
      · omega
    have hl4 : sC.own.length = 4 := hl
    by_cases h0 : a0 = 0
    · exact ⟨1, by omega, hz 1 (by omega)⟩
    · exact ⟨0, by omega, hz 0 (by omega)⟩
  refine Lp_pv rfl rfl ?_
  refine Lp_pv rfl rfl ?_
  refine Lp_pv rfl rfl ?_
  (refine Lp_s rfl (St_alloc H rfl ?_); clear H; intro b7 w H)
  (refine Lp_s rfl (St_storeN H rfl rfl inferInstance rfl rfl (Nat.le_of_ble_eq_true rfl) rfl ?_); clear H; intro w H)
  refine Lp_pv rfl rfl ?_
  refine Lp_nil ?_
  replace H := H.swap
  repeat refine C_seq ?_
  refine C_region ?_
  refine Lp_pv rfl rfl ?_
  refine Lp_s rfl (St_call (a := []) (b := []) rfl rfl (call (Make_all c sC 1 1 0 FC.seq H) ?_))
  clear H; rintro v w ⟨i2, g2, e2, sD, rfl, hM2, H⟩
  obtain ⟨rfl, rfl, rfl, RD, FD, hD1, hD2, hD3⟩ := alive_make RC mwfC FC hM2 mayC hC1 (by rw [hC3]; decide) hfree
  replace RD : Rel sD mD [(0, 1), (1, 1)] := RD
  refine Lp_pv rfl rfl ?_
  refine Lp_pv rfl rfl ?_
  refine Lp_pv rfl rfl ?_
  (refine Lp_s rfl (St_alloc H rfl ?_); clear H; intro b9 w H)
  (refine Lp_s rfl (St_storeN H rfl rfl inferInstance rfl rfl (Nat.le_of_ble_eq_true rfl) rfl ?_); clear H; intro w H)
  refine Lp_pv rfl rfl ?_
  refine Lp_nil ?_
  replace H := Holds.sel [1, 0, 0] 0 H; dsimp only [SL.sel, SL.pull, List.drop] at H
  repeat refine C_seq ?_
  refine C_region ?_
  refine Lp_pv rfl rfl ?_
  refine Lp_pv rfl rfl ?_
  refine Lp_pv rfl rfl ?_
  refine Lp_gpv rfl rfl rfl rfl ?_
  refine Lp_gpv rfl rfl rfl rfl ?_
  refine Lp_pv rfl rfl ?_
  refine Lp_pv rfl rfl ?_
  refine Lp_gpv rfl rfl rfl rfl ?_
  refine Lp_gpv rfl rfl rfl rfl ?_
  refine Lp_pv rfl rfl ?_
  refine Lp_pv rfl rfl ?_
  refine Lp_gpv rfl rfl rfl rfl ?_
  refine Lp_gpv rfl rfl rfl rfl ?_
  refine Lp_pv rfl rfl ?_
  refine Lp_pv rfl rfl ?_
  refine Lp_gpv rfl rfl rfl rfl ?_
  refine Lp_gpv rfl rfl rfl rfl ?_
  refine Lp_pv rfl rfl ?_
  refine Lp_pv rfl rfl ?_
  refine Lp_g rfl rfl rfl (St_loadN H rfl (by repeat (first | exact Reads.nil _ | apply Reads.cons rfl)) rfl ?_)
  refine Lp_g rfl rfl rfl (St_build rfl rfl ?_)
  refine Lp_g rfl rfl rfl (St_eqPair rfl rfl (.inr rfl) rfl ?_)
  refine Lp_pv rfl rfl ?_
  refine Lp_pv rfl rfl ?_
  refine Lp_gpv rfl rfl rfl rfl ?_
  refine Lp_gpv rfl rfl rfl rfl ?_
  refine Lp_pv rfl rfl ?_
  refine Lp_pv rfl rfl ?_
  refine Lp_g rfl rfl rfl (St_loadN H rfl (by repeat (first | exact Reads.nil _ | apply Reads.cons rfl)) rfl ?_)
  refine Lp_g rfl rfl rfl (St_build rfl rfl ?_)
  refine Lp_g rfl rfl rfl (St_eqPair rfl rfl (.inr rfl) rfl ?_)
  refine Lp_pv rfl rfl ?_
  refine Lp_pv rfl rfl ?_
  refine Lp_gpv rfl rfl rfl rfl ?_
  refine Lp_g rfl rfl rfl (St_loadN H rfl (by repeat (first | exact Reads.nil _ | apply Reads.cons rfl)) rfl ?_)
  refine Lp_g rfl rfl rfl (St_loadN H rfl (by repeat (first | exact Reads.nil _ | apply Reads.cons rfl)) rfl ?_)
  obtain ⟨_, _, hwD, _, _⟩ := CELL_out H
  have P0 : Pick [(0, 1), (1, 1)] 0 1 0 := .inl ⟨0, 1, 0, rfl, rfl, rfl, rfl⟩
  have P1 : Pick [(0, 1), (1, 1)] 1 1 1 := .inl ⟨1, 1, 1, rfl, rfl, rfl, rfl⟩
  obtain ⟨t1, RE⟩ := tie_law RD hwD mwfD P0 P1 1
  rw [show (tieM mD 0 1 1).2 = 0 by decide] at t1
  replace RE : Rel (TieS sD 0 1 1 1 1).1 mE [(0, 1), (1, 1)] := RE
  refine Lp_g rfl rfl rfl (St_call (a := []) (b := []) rfl rfl (call (CTie_spec c sD 0 1 1 1 1 H) ?_))
  clear H; rintro v w ⟨rfl, H⟩
  rw [t1]
  generalize (TieS sD 0 1 1 1 1).1 = sE at H RE
  refine Lp_gpv rfl rfl rfl rfl ?_
  refine Lp_pv rfl rfl ?_
  refine Lp_pv rfl rfl ?_
  refine Lp_gpv rfl rfl rfl rfl ?_
  refine Lp_g rfl rfl rfl (St_loadN H rfl (by repeat (first | exact Reads.nil _ | apply Reads.cons rfl)) rfl ?_)
  obtain ⟨t2, RF⟩ := drop_law RE P1
  rw [show (dropM mE 1).2 = 0 by decide] at t2
  replace RF : Rel (dropS sE 1 1).1 mF [(0, 1), (1, 1)] := RF
  refine Lp_g rfl rfl rfl (St_call (a := []) (b := []) rfl rfl (call (Drop_spec c sE 1 1 H) ?_))
  clear H; rintro v w ⟨rfl, H⟩
  rw [t2]
  generalize (dropS sE 1 1).1 = sF at H RF
  refine Lp_gpv rfl rfl rfl rfl ?_
  refine Lp_pv rfl rfl ?_
  refine Lp_nil ?_
  repeat refine C_seq ?_
  refine C_false rfl (C_skip ?_)
  have t3 : getW sF 1 1 0 = (0, 8) := by
    rcases get_law RF P1 0 with ⟨h1, h2⟩ | ⟨h1, _⟩
    · rw [h2]; rfl
    · exact absurd h1 (by decide)
  repeat refine C_seq ?_
  refine C_region ?_
  refine Lp_pv rfl rfl ?_
  refine Lp_s rfl (St_loadN H rfl (by repeat (first | exact Reads.nil _ | apply Reads.cons rfl)) rfl ?_)
  refine Lp_s rfl (St_call (a := []) (b := []) rfl rfl (call (Get_spec c sF 1 1 0 H) ?_))
  clear H; rintro v w ⟨rfl, H⟩
  rw [t3]
  refine Lp_pv rfl rfl ?_
  refine Lp_pv rfl rfl ?_
  refine Lp_pv rfl rfl ?_
  refine Lp_pv rfl rfl ?_
  refine Lp_pv rfl rfl ?_
  refine Lp_nil ?_
  have t4 : lookL sF 0 1 1 = (.obj 1 1, 0) := by
    obtain ⟨h1, h2, _⟩ := ref_law RF mwfF P0 1
    rw [show (refM mF 0 1).2 = (2, 1, 0) by decide] at h1 h2
    exact Prod.ext h2 h1
  obtain ⟨_, _, _, _, RG⟩ := ref_law RF mwfF P0 1
  replace RG : Rel (refS sF 0 1 1) mG [(0, 1), (1, 1)] := RG
  repeat refine C_seq ?_
  refine C_region ?_
  refine Lp_pv rfl rfl ?_
  refine Lp_s rfl (St_loadN H rfl (by repeat (first | exact Reads.nil _ | apply Reads.cons rfl)) rfl ?_)
  refine Lp_s rfl (St_call (a := []) (b := []) rfl rfl (call (Ref_spec c sF 0 1 1 H) ?_))
  clear H; rintro v w ⟨rfl, H⟩
  rw [t4]
  generalize refS sF 0 1 1 = sG at H RG
  have t5 : getW sG 1 1 0 = (0, 0) := by
    rcases get_law RG P1 0 with ⟨h1, h2⟩ | ⟨h1, n, j, x, h2, h3, h4, _, h5⟩
    · exact absurd rfl h1
    · obtain rfl : n = 1 := by omega
      obtain rfl : j = 0 := by omega
      rw [h5]
      have h6 : mG.objs[1]? = some ⟨1, 1, 0, [0, 0], [0, 0], [0, 0], true, false, false⟩ := rfl
      rw [h6] at h4
      injection h4 with h4
      rw [← h4]
      rfl
  refine Lp_pv rfl rfl ?_
  refine Lp_pv rfl rfl ?_
  refine Lp_pv rfl rfl ?_
  (refine Lp_s rfl (St_alloc H rfl ?_); clear H; intro b13 w H)
  (refine Lp_s rfl (St_storeN H rfl rfl inferInstance rfl rfl (Nat.le_of_ble_eq_true rfl) rfl ?_); clear H; intro w H)
  refine Lp_pv rfl rfl ?_
  refine Lp_nil ?_
  replace H := H.swap
  repeat refine C_seq ?_
  refine C_region ?_
  refine Lp_pv rfl rfl ?_
  refine Lp_s rfl (St_loadN H rfl (by repeat (first | exact Reads.nil _ | apply Reads.cons rfl)) rfl ?_)
  refine Lp_s rfl (St_call (a := []) (b := []) rfl rfl (call (Get_spec c sG 1 1 0 H) ?_))
  clear H; rintro v w ⟨rfl, H⟩
  rw [t5]
  refine Lp_pv rfl rfl ?_
  refine Lp_pv rfl rfl ?_
  refine Lp_pv rfl rfl ?_
  refine Lp_pv rfl rfl ?_
  refine Lp_pv rfl rfl ?_
  refine Lp_nil ?_
  repeat refine C_seq ?_
  refine C_region ?_
  refine Lp_pv rfl rfl ?_
  refine Lp_pv rfl rfl ?_
  refine Lp_pv rfl rfl ?_
  refine Lp_gpv rfl rfl rfl rfl ?_
  refine Lp_gpv rfl rfl rfl rfl ?_
  refine Lp_pv rfl rfl ?_
  refine Lp_pv rfl rfl ?_
  refine Lp_g rfl rfl rfl (St_loadN H rfl (by repeat (first | exact Reads.nil _ | apply Reads.cons rfl)) rfl ?_)
  refine Lp_g rfl rfl rfl (St_loadN H rfl (by repeat (first | exact Reads.nil _ | apply Reads.cons rfl)) rfl ?_)
  refine Lp_g rfl rfl rfl (St_build rfl rfl ?_)
  refine Lp_g rfl rfl rfl (St_eqAgg rfl rfl rfl rfl (.inl rfl) rfl ?_)
  refine Lp_pv rfl rfl ?_
  refine Lp_pv rfl rfl ?_
  refine Lp_gpv rfl rfl rfl rfl ?_
  refine Lp_gpv rfl rfl rfl rfl ?_
  refine Lp_pv rfl rfl ?_
  refine Lp_pv rfl rfl ?_
  refine Lp_gpv rfl rfl rfl rfl ?_
  refine Lp_gpv rfl rfl rfl rfl ?_
  refine Lp_pv rfl rfl ?_
  refine Lp_pv rfl rfl ?_
  refine Lp_nil ?_
  replace H : Holds w fr := H.drop.drop.drop.drop.drop
  exact C_ret (fn_end0 _ (.inr rfl) H rfl fun w' H' => ⟨rfl, H'⟩)
end Go.Proofs.YtcaaojbnjfdglaaGreatDoor
namespace Go.Proofs.YtcaaojbnjfdglaaGreatDoor
open Go.SL

theorem sorted_eq : ∀ {a b : List Int}, a.Pairwise (· < ·) → b.Pairwise (· < ·) → (∀ x, x ∈ a ↔ x ∈ b) → a = b
  | [], [], _, _, _ => rfl
  | [], y :: b, _, _, h => by have := (h y).2 List.mem_cons_self; cases this
  | x :: a, [], _, _, h => by have := (h x).1 List.mem_cons_self; cases this
  | x :: a, y :: b, ha, hb, h => by
    obtain ⟨ha1, ha2⟩ := List.pairwise_cons.1 ha
    obtain ⟨hb1, hb2⟩ := List.pairwise_cons.1 hb
    have hxy : x = y := by
      have h1 := (h x).1 List.mem_cons_self
      have h2 := (h y).2 List.mem_cons_self
      rcases List.mem_cons.1 h1 with h1 | h1
      · exact h1
      · rcases List.mem_cons.1 h2 with h2 | h2
        · exact h2.symm
        · have := ha1 y h2
          have := hb1 x h1
          omega
    subst hxy
    congr 1
    refine sorted_eq ha2 hb2 fun z => ?_
    constructor
    · intro hz
      rcases List.mem_cons.1 ((h z).1 (List.mem_cons_of_mem _ hz)) with h1 | h1
      · have := ha1 z hz; omega
      · exact h1
    · intro hz
      rcases List.mem_cons.1 ((h z).2 (List.mem_cons_of_mem _ hz)) with h1 | h1
      · have := hb1 z hz; omega
      · exact h1
theorem NL_IL (v : Value) (l : List Nat) : NL v l = IL v (l.map fun x : Nat => (x : Int)) := by
  show sls _ 1 v (ncells l) = _
  rw [ncells_icells]
theorem kids_law {s : CS} {m : MS} {told : List (Nat × Nat)} (R : Rel s m told) {id : Int} (h0 : 0 ≤ id) {K : List Int} (hp : K.Perm ((s.par.map (·.1)).filter (kidB s.par id))) (hs : K.Pairwise (· ≤ ·)) : K = (kidsP m.P id).map fun x : Nat => (x : Int) := by
  have hnd : K.Nodup := hp.nodup_iff.2 (List.Pairwise.filter _ R.nd)
  have hlt : K.Pairwise (· < ·) := by
    have := List.pairwise_and_iff.2 ⟨hs, hnd⟩
    exact this.imp (fun h => by have h1 := h.1; have h2 := h.2; omega)
  refine sorted_eq hlt ?_ fun x => ?_
  · refine List.Pairwise.map _ ?_ (idsTo_sorted m.P _ _)
    intro a b hab
    omega
  · rw [hp.mem_iff, List.mem_filter]
    unfold kidB kidsP
    rw [decide_eq_true_iff]
    constructor
    · rintro ⟨_, h2⟩
      obtain ⟨k, rfl, h3, h4, h5⟩ := (R.tree x id).1 (fnd_mem h2)
      refine List.mem_map.2 ⟨k, idsTo_mem.2 ⟨(List.getElem?_eq_some_iff.1 h4).1, h3, ?_⟩, rfl⟩
      rw [List.getD_eq_getElem?_getD, h4]
      exact beq_self_eq_true id
    · intro h
      obtain ⟨k, hk, rfl⟩ := List.mem_map.1 h
      obtain ⟨h1, h2, h3⟩ := idsTo_mem.1 hk
      have h4 := List.getElem?_eq_getElem h1
      rw [List.getD_eq_getElem?_getD, h4] at h3
      have h5 : m.P[k] = id := by simpa using h3
      rw [h5] at h4
      have h6 := (R.tree k id).2 ⟨k, rfl, h2, h4, h0⟩
      exact ⟨List.mem_map.2 ⟨_, h6, rfl⟩, (fnd_iff R.nd).2 h6⟩

theorem Same15_spec [Extra] (p : Nat) (s : CS) (m : MS) (told : List (Nat × Nat)) (R : Rel s m told) {w : World} {fr : List HProp} (H : Holds w (RUN p s m told :: fr)) :
    Calls Tryz.prog 27 #[pp p] w (ret fun v w' => v = .bool true ∧ Holds w' (RUN p s m told :: fr)) := by
  obtain ⟨c, mo, a, cap, H⟩ := RUN_out H
  obtain ⟨_, _, hw, _, _⟩ := CELL_out H.swap
  obtain ⟨_, _, _, _, _, _, _, hmw, _⟩ := MODEL_out (H.sel [2, 0, 0, 0] 0)
  have hlen : told.length ≤ 100000 := by rw [R.len]; exact hmw.few
  refine calls_of Tryz.func27 rfl (by kernel_rfl) ?_
  repeat refine C_seq ?_
  refine C_region ?_
  refine Lp_pv rfl rfl ?_
  refine Lp_nil ?_
  repeat refine C_seq ?_
  refine C_region ?_
  refine Lp_pv rfl rfl ?_
  refine Lp_pv rfl rfl ?_
  refine Lp_s rfl (St_fieldAddr rfl rfl ?_)
  refine Lp_s rfl (St_load1 H rfl rfl rfl ?_)
  refine Lp_s rfl (St_lenSlice rfl rfl ?_)
  refine Lp_pv rfl rfl ?_
  refine Lp_nil ?_
  replace H := Holds.sel [3, 0, 0, 0] 0 H; dsimp only [SL.sel, SL.pull, List.drop] at H
  repeat refine C_seq ?_
  refine C_join (fun ms σ w => ms = [] ∧ σ 0 = pp p ∧ Holds w (TKL (.slice a told.length cap) told :: RROW p c mo (.slice a told.length cap) :: CELL c s :: MODEL mo m :: fr)) ?_ ?_
  · refine C_block ?_
    refine C_loop (fun ms σ w n => ms = [] ∧ ∃ i : Nat, i ≤ told.length ∧ n = told.length - i ∧ σ 0 = pp p ∧ σ 18 = .slice a told.length cap ∧ σ 19 = .int .i64 told.length ∧ σ 20 = .int .i64 i ∧ Holds w (TKL (.slice a told.length cap) told :: RROW p c mo (.slice a told.length cap) :: CELL c s :: MODEL mo m :: fr)) (m := told.length) ⟨rfl, 0, by omega, rfl, rfl, rfl, rfl, rfl, H⟩ ?_
    clear H
    rintro ms σ w n ⟨rfl, i, hi, rfl, g0, g18, g19, g20, H⟩
    rw [upd_self g0, upd_self g18, upd_self g19, upd_self g20]
    repeat refine C_seq ?_
    refine C_region ?_
    refine Lp_pv rfl rfl ?_
    refine Lp_nil ?_
    repeat refine C_seq ?_
    refine C_dec rfl (fun h => C_skip ?_) (fun h => C_exit ?_)
    · have hlt : i < told.length := by omega
      have hn := List.getElem?_eq_getElem hlt
      generalize told[i] = kg at hn
      obtain ⟨k, g⟩ := kg
      have hPk : Pick told k g i := .inl ⟨k, g, i, rfl, rfl, rfl, hn⟩
      obtain ⟨bT, sT, rfl, H, hcl⟩ := sls_open H (by omega)
      repeat refine C_seq ?_
      refine C_block ?_
      repeat refine C_seq ?_
      refine C_region ?_
      refine Lp_pv rfl rfl ?_
      refine Lp_s rfl (St_indexAddr rfl rfl (by omega) (by omega) rfl ?_)
      refine Lp_s rfl (St_loadN H rfl (tkc_reads hn) rfl ?_)
      (refine Lp_s rfl (St_alloc H rfl ?_); clear H; intro b4 w H)
      refine Lp_pv rfl rfl ?_
      (refine Lp_s rfl (St_storeN H rfl rfl inferInstance rfl rfl (Nat.le_of_ble_eq_true rfl) rfl ?_); clear H; intro w H)
      refine Lp_nil ?_
      replace H := hcl _ _ H.swap
      replace H := Holds.sel [2, 2, 2, 1, 0] 0 H; dsimp only [SL.sel, SL.pull, List.drop] at H
      repeat refine C_seq ?_
      refine C_region ?_
      refine Lp_pv rfl rfl ?_
      refine Lp_s rfl (St_loadN H rfl (by repeat (first | exact Reads.nil _ | apply Reads.cons rfl)) rfl ?_)
      refine Lp_pv rfl rfl ?_
      refine Lp_s rfl (St_call (a := []) (b := []) rfl rfl (call (tellR_spec p c mo _ s m told R k g i hPk H) ?_))
      clear H; rintro v w ⟨rfl, H⟩
      refine Lp_pv rfl rfl ?_
      refine Lp_nil ?_
      repeat refine C_seq ?_
      refine C_false rfl (C_skip ?_)
      replace H := Holds.sel [2, 0, 0, 0, 0] 0 H; dsimp only [SL.sel, SL.pull, List.drop] at H
      repeat refine C_seq ?_
      refine C_region ?_
      refine Lp_pv rfl rfl ?_
      refine Lp_pv rfl rfl ?_
      refine Lp_s rfl (St_fieldAddr rfl rfl ?_)
      refine Lp_s rfl (St_load1 H rfl rfl rfl ?_)
      refine Lp_pv rfl rfl ?_
      refine Lp_s rfl (St_call (a := []) (b := []) rfl rfl (call (Valid_spec mo m i H) ?_))
      clear H; rintro v w ⟨rfl, H⟩
      cases hv : valM m i with
      | none =>
        refine Lp_pv rfl rfl ?_
        refine Lp_nil ?_
        repeat refine C_seq ?_
        refine C_true rfl (C_exit ?_)
        repeat refine C_seq ?_
        refine C_region ?_
        refine Lp_pv rfl rfl ?_
        refine Lp_pv rfl rfl ?_
        refine Lp_nil ?_
        replace H := Holds.sel [4, 1, 1, 0] 1 H; dsimp only [SL.sel, SL.pull, List.drop] at H
        exact ⟨_, ⟨rfl, i + 1, hlt, rfl, rfl, rfl, rfl, inc64 (by omega), H⟩, by omega⟩
      | some nx =>
        obtain ⟨n', x⟩ := nx
        obtain ⟨hin, hx, hh, hg⟩ := valM_some hv
        obtain rfl : i = n' := by omega
        obtain ⟨t, lc, aL, cL, bO, cO, sO, ptrs, q, vw, vk, vt, rest, hm, h2, hp, H, hclose⟩ := MODEL_at H hx
        have hm' := set_same hx hm
        have hmx := hm.objs x (List.mem_of_getElem? hx)
        have hkn := hmx.kind
        have htn := hmx.to
        have hsm := MODEL_sizes (w := hm) hx
        have hll := hm.lays.1
        have hol := (List.getElem?_eq_some_iff.1 hx).1
        obtain ⟨y, hy, hyl, hl1, hl2, hR, hsz⟩ := lay_at hm h2 hx
        obtain ⟨aw, cw, rfl⟩ := sls_slice H.drop (ucells_length _) (by decide)
        obtain ⟨ak, ck, rfl⟩ := sls_slice H.drop.drop (ncells_length _) (by decide)
        obtain ⟨at', ct, rfl⟩ := sls_slice H.drop.drop.drop (ncells_length _) (by decide)
        replace H := Holds.sel [6, 6, 0, 0, 0, 0, 0, 0, 0, 0] 0 H; dsimp only [SL.sel, SL.pull, List.drop] at H
        obtain ⟨bL, sL, D1, D2, Rr, rfl, H, hD, hclL⟩ := LAYS_at (by rw [← h2, List.length_map]) H hy
        obtain ⟨vr, vq, ly⟩ := y
        obtain rfl : ly = layM m x := hyl
        have hlcl : lc.length = m.lays.length := by rw [← h2, List.length_map]
        refine Lp_pv rfl rfl ?_
        refine Lp_nil ?_
        repeat refine C_seq ?_
        refine C_false rfl (C_skip ?_)
        repeat refine C_seq ?_
        refine C_region ?_
        refine Lp_pv rfl rfl ?_
        refine Lp_pv rfl rfl ?_
        refine Lp_s rfl (St_fieldAddr rfl rfl ?_)
        refine Lp_s rfl (St_load1 H rfl rfl rfl ?_)
        refine Lp_pv rfl rfl ?_
        refine Lp_s rfl (St_fieldAddr rfl rfl ?_)
        refine Lp_s rfl (St_load1 H rfl rfl rfl ?_)
        refine Lp_pv rfl rfl ?_
        refine Lp_s rfl (St_indexAddr rfl rfl (by omega) (by omega) rfl ?_)
        refine Lp_s rfl (St_load1 H rfl hp rfl ?_)
        refine Lp_pv rfl rfl ?_
        refine Lp_nil ?_
        repeat refine C_seq ?_
        refine C_region ?_
        refine Lp_pv rfl rfl ?_
        refine Lp_pv rfl rfl ?_
        refine Lp_s rfl (St_fieldAddr rfl rfl ?_)
        refine Lp_s rfl (St_load1 H rfl rfl rfl ?_)
        refine Lp_s rfl (St_lenSlice rfl rfl ?_)
        refine Lp_pv rfl rfl ?_
        refine Lp_nil ?_
        repeat refine C_seq ?_
        refine C_join (fun ms σ w => ms = [] ∧ σ 0 = pp p ∧ σ 18 = .slice (some ⟨bT, 0, none⟩) told.length cap ∧ σ 19 = .int .i64 told.length ∧ σ 20 = .int .i64 i ∧ Holds w (pts bL (row 101 (bcells lc ++ sL)) :: D1 :: D2 :: Rr :: pts q (mrow (.slice aw x.w.length cw) (.slice ak x.kind.length ck) (.slice at' x.to.length ct) x) :: UL (.slice aw x.w.length cw) x.w :: NL (.slice ak x.kind.length ck) x.kind :: NL (.slice at' x.to.length ct) x.to :: pts bO (row 51 (ptrs ++ sO)) :: pts mo (row 56 [pp t, .slice (some ⟨bL, 0, none⟩) m.lays.length cL, .slice (some ⟨bO, 0, none⟩) m.objs.length cO]) :: RTR t m.P :: star rest :: RROW p c mo (.slice (some ⟨bT, 0, none⟩) told.length cap) :: CELL c s :: pts b4 (row 32 [.int .i64 k, .int .i64 g]) :: TKL (.slice (some ⟨bT, 0, none⟩) told.length cap) told :: fr)) ?_ ?_
        · refine C_block ?_
          refine C_loop (fun ms σ w n => ms = [] ∧ ∃ j : Nat, j ≤ x.w.length ∧ n = x.w.length - j ∧ σ 0 = pp p ∧ σ 4 = pp b4 ∧ σ 5 = pp q ∧ σ 18 = .slice (some ⟨bT, 0, none⟩) told.length cap ∧ σ 19 = .int .i64 told.length ∧ σ 20 = .int .i64 i ∧ σ 51 = .int .i64 x.w.length ∧ σ 52 = .int .i64 j ∧ Holds w (pts bL (row 101 (bcells lc ++ sL)) :: D1 :: D2 :: Rr :: pts q (mrow (.slice aw x.w.length cw) (.slice ak x.kind.length ck) (.slice at' x.to.length ct) x) :: UL (.slice aw x.w.length cw) x.w :: NL (.slice ak x.kind.length ck) x.kind :: NL (.slice at' x.to.length ct) x.to :: pts bO (row 51 (ptrs ++ sO)) :: pts mo (row 56 [pp t, .slice (some ⟨bL, 0, none⟩) m.lays.length cL, .slice (some ⟨bO, 0, none⟩) m.objs.length cO]) :: RTR t m.P :: star rest :: RROW p c mo (.slice (some ⟨bT, 0, none⟩) told.length cap) :: CELL c s :: pts b4 (row 32 [.int .i64 k, .int .i64 g]) :: TKL (.slice (some ⟨bT, 0, none⟩) told.length cap) told :: fr)) (m := x.w.length) ⟨rfl, 0, by omega, rfl, rfl, rfl, rfl, rfl, rfl, rfl, rfl, rfl, H⟩ ?_
          clear H
          rintro ms σ w n ⟨rfl, j, hj, rfl, g0, g4, g5, g18, g19, g20, g51, g52, H⟩
          rw [upd_self g0, upd_self g4, upd_self g5, upd_self g18, upd_self g19, upd_self g20, upd_self g51, upd_self g52]
          repeat refine C_seq ?_
          refine C_region ?_
          refine Lp_pv rfl rfl ?_
          refine Lp_nil ?_
          repeat refine C_seq ?_
          refine C_dec rfl (fun h => C_skip ?_) (fun h => C_exit ?_)
          · have hjl : j < x.w.length := by omega
            repeat refine C_seq ?_
            refine C_block ?_
            repeat refine C_seq ?_
            refine C_region ?_
            refine Lp_pv rfl rfl ?_
            refine Lp_pv rfl rfl ?_
            refine Lp_nil ?_
            repeat refine C_seq ?_
            refine C_drawH H mixed ?_
            clear H; intro w H
            refine A_pv 0 rfl (Wants.none rfl) rfl (by kernel_rfl) ?_
            refine A_pv 1 rfl (Wants.none rfl) rfl (by kernel_rfl) ?_
            refine A_fieldAddr 2 rfl (Wants.none rfl) rfl (by kernel_rfl) ?_
            refine A_load1 3 [15] H rfl (Wants.none rfl) rfl rfl (by kernel_rfl) ?_
            refine A_pv 4 rfl (Wants.none rfl) rfl (by kernel_rfl) ?_
            refine A_fieldAddr 5 rfl (Wants.none rfl) rfl (by kernel_rfl) ?_
            refine A_load1 6 [15] H rfl (Wants.none rfl) rfl rfl (by kernel_rfl) ?_
            refine A_pv 7 rfl (Wants.none rfl) rfl (by kernel_rfl) ?_
            refine A_pv 8 rfl (Wants.none rfl) rfl (by kernel_rfl) ?_
            refine A_fieldAddr 9 rfl (Wants.none rfl) rfl (by kernel_rfl) ?_
            refine A_load1 10 [15] H rfl (Wants.none rfl) rfl rfl (by kernel_rfl) ?_
            refine A_pv 11 rfl (Wants.none rfl) rfl (by kernel_rfl) ?_
            rw [show IntKind.i64.wrap ((x.lay : Int) - 1) = ((x.lay - 1 : Nat) : Int) by rw [wrap64 (by omega) (by omega)]; omega]
            refine A_indexAddr 12 rfl (Wants.none rfl) rfl rfl (by omega) (by omega) (by kernel_rfl) ?_
            refine A_loadN 13 [15] H rfl (Wants.none rfl) rfl (bcells_reads hy) (by kernel_rfl) ?_
            refine A_pv 14 rfl (Wants.none rfl) rfl (by kernel_rfl) ?_
            refine A_one 15 rfl (by kernel_rfl) (by repeat first | exact .nil | refine .cons (.inr H.at) ?_ | refine .cons (.inr H.mp) ?_ | refine .cons (.inl (by kernel_rfl)) ?_) (Wants.none rfl) (St_call (a := []) (b := []) rfl rfl (call (dIsRef_spec vr vq (layM m x) hR j (sizeL_rec hsz (by omega)) (by omega) ((hD _).there) H) ?_))
            clear H; rintro v w ⟨rfl, H⟩
            refine A_end (by kernel_rfl) (by repeat first | exact .nil | refine .cons (.inr H.at) ?_ | refine .cons (.inr H.mp) ?_ | refine .cons (.inl (by kernel_rfl)) ?_) ?_
            cases hb : isRefL (layM m x) j with
            | true =>
              repeat refine C_seq ?_
              refine C_true rfl ?_
              have hpl : placeM m i j true = 0 := by rw [placeM_some hv]; unfold placeE; rw [if_neg (by omega), Int.toNat_natCast, if_neg (fun h => h hb)]
              have hkj := List.getElem?_eq_getElem (l := x.kind) (i := j) (by omega)
              have htj := List.getElem?_eq_getElem (l := x.to) (i := j) (by omega)
              have hkd : x.kind.getD j 0 = x.kind[j] := by rw [List.getD_eq_getElem?_getD, hkj]; rfl
              have htd : x.to.getD j 0 = x.to[j] := by rw [List.getD_eq_getElem?_getD, htj]; rfl
              have hgo := hmx.goes j
              rw [htd] at hgo
              obtain ⟨hk2, h1⟩ : x.kind.getD j 0 ≤ 2 ∧ lookL s k g j = (lnkM told (x.kind.getD j 0) (x.to.getD j 0), 0) := by
                rcases look_law R hPk j with ⟨h0, _⟩ | ⟨_, n', j', x', e1, e2, e3, _, _, _, e4, e5⟩
                · exact absurd hpl h0
                · obtain rfl : n' = i := by omega
                  obtain rfl : j' = j := by omega
                  rw [hx] at e3
                  injection e3 with e3
                  subst e3
                  exact ⟨e4, e5⟩
              rw [hkd] at hk2
              rw [hkd, htd] at h1
              generalize x.kind[j] = kd at *
              generalize x.to[j] = td at *
              have hltd : kd = 2 → td < told.length := fun h => by rw [R.len]; exact hgo (by rw [hkj, h])
              have hLk := fun (w : World) (fr : List HProp) (H : Holds w (CELL c s :: fr)) => Look_spec c s k g j H
              rw [h1] at hLk
              obtain ⟨l1, l2, l3, hlk⟩ := lkv_agg (lnkM told kd td)
              rw [hlk] at hLk
              have hlink := fun (w : World) (fr : List HProp) (H : Holds w (RROW p c mo (.slice (some ⟨bT, 0, none⟩) told.length cap) :: TKL (.slice (some ⟨bT, 0, none⟩) told.length cap) told :: fr)) => link_spec p c mo (some ⟨bT, 0, none⟩) cap told kd td hk2 hltd H
              rw [hlk] at hlink
              replace H := Holds.sel [13, 0, 0, 0, 0, 0, 0, 0, 0, 0, 0, 0, 0, 0, 0, 0] 0 H; dsimp only [SL.sel, SL.pull, List.drop] at H
              repeat refine C_seq ?_
              refine C_join (fun ms σ w => ms = [] ∧ ∃ b7, σ 7 = pp b7 ∧ σ 8 = .int .i64 0 ∧ σ 0 = pp p ∧ σ 4 = pp b4 ∧ σ 5 = pp q ∧ σ 6 = .int .i64 j ∧ σ 18 = .slice (some ⟨bT, 0, none⟩) told.length cap ∧ σ 19 = .int .i64 told.length ∧ σ 20 = .int .i64 i ∧ σ 51 = .int .i64 x.w.length ∧ σ 52 = .int .i64 j ∧ Holds w (pts b7 (row 61 [.int .i64 l1, .int .i64 l2, .int .i64 l3]) :: pts bL (row 101 (bcells lc ++ sL)) :: D1 :: D2 :: Rr :: pts q (mrow (.slice aw x.w.length cw) (.slice ak x.kind.length ck) (.slice at' x.to.length ct) x) :: UL (.slice aw x.w.length cw) x.w :: NL (.slice ak x.kind.length ck) x.kind :: NL (.slice at' x.to.length ct) x.to :: pts bO (row 51 (ptrs ++ sO)) :: pts mo (row 56 [pp t, .slice (some ⟨bL, 0, none⟩) m.lays.length cL, .slice (some ⟨bO, 0, none⟩) m.objs.length cO]) :: RTR t m.P :: star rest :: RROW p c mo (.slice (some ⟨bT, 0, none⟩) told.length cap) :: CELL c s :: pts b4 (row 32 [.int .i64 k, .int .i64 g]) :: TKL (.slice (some ⟨bT, 0, none⟩) told.length cap) told :: fr)) ?_ ?_
              · repeat refine C_seq ?_
                refine C_drawH H mixed ?_
                clear H; intro w H
                refine A_pv 0 rfl (Wants.none rfl) rfl (by kernel_rfl) ?_
                refine A_pv 1 rfl (Wants.none rfl) rfl (by kernel_rfl) ?_
                refine A_fieldAddr 2 rfl (Wants.none rfl) rfl (by kernel_rfl) ?_
                refine A_load1 3 [6, 11] H rfl (Wants.none rfl) rfl rfl (by kernel_rfl) ?_
                refine A_loadN 4 [6, 11] H rfl (Wants.none rfl) rfl (by repeat (first | exact Reads.nil _ | apply Reads.cons rfl)) (by kernel_rfl) ?_
                refine A_pv 5 rfl (Wants.none rfl) rfl (by kernel_rfl) ?_
                refine A_two 6 10 rfl rfl (by kernel_rfl) (by repeat first | exact .nil | refine .cons (.inr H.at) ?_ | refine .cons (.inr H.mp) ?_ | refine .cons (.inl (by kernel_rfl)) ?_) (Wants.none rfl) (Wants.none rfl) (St_call (a := []) (b := []) rfl rfl (call (hLk _ _ H) ?_)) (St_alloc H rfl ?_)
                · clear H; rintro v w ⟨rfl, H⟩
                  refine A_pv 7 rfl (Wants.none rfl) rfl (by kernel_rfl) ?_
                  refine A_pv 8 rfl (Wants.none rfl) rfl (by kernel_rfl) ?_
                  refine A_pv 9 rfl (Wants.none rfl) rfl (by kernel_rfl) ?_
                  refine A_one 10 rfl (by kernel_rfl) (by repeat first | exact .nil | refine .cons (.inr H.at) ?_ | refine .cons (.inr H.mp) ?_ | refine .cons (.inl (by kernel_rfl)) ?_) (Wants.none rfl) (St_alloc H rfl ?_); clear H; intro b7 w H
                  refine A_one 11 rfl (by kernel_rfl) (by repeat first | exact .nil | refine .cons (.inr H.at) ?_ | refine .cons (.inr H.mp) ?_ | refine .cons (.inl (by kernel_rfl)) ?_) (Wants.none rfl) (St_storeN H rfl rfl inferInstance rfl rfl (Nat.le_of_ble_eq_true rfl) rfl ?_); clear H; intro w H
                  refine A_pv 12 rfl (Wants.none rfl) rfl (by kernel_rfl) ?_
                  refine A_end (by kernel_rfl) (by repeat first | exact .nil | refine .cons (.inr H.at) ?_ | refine .cons (.inr H.mp) ?_ | refine .cons (.inl (by kernel_rfl)) ?_) ?_
                  replace H := Holds.sel [0, 1, 1, 1, 1, 1, 1, 1, 1, 1, 1, 1, 1, 1, 0, 0, 0] 0 H; dsimp only [SL.sel, SL.pull, List.drop] at H
                  exact ⟨rfl, rfl, b7, rfl, rfl, rfl, rfl, rfl, rfl, rfl, rfl, rfl, rfl, rfl, H⟩
                · clear H; intro b7 w H
                  refine A_one 6 rfl (by kernel_rfl) (by repeat first | exact .nil | refine .cons (.inr H.at) ?_ | refine .cons (.inr H.mp) ?_ | refine .cons (.inl (by kernel_rfl)) ?_) (Wants.none rfl) (St_call (a := []) (b := []) rfl rfl (call (hLk _ _ H.swap) ?_)); clear H; rintro v w ⟨rfl, H⟩
                  refine A_pv 7 rfl (Wants.none rfl) rfl (by kernel_rfl) ?_
                  refine A_pv 8 rfl (Wants.none rfl) rfl (by kernel_rfl) ?_
                  refine A_pv 9 rfl (Wants.none rfl) rfl (by kernel_rfl) ?_
                  refine A_one 11 rfl (by kernel_rfl) (by repeat first | exact .nil | refine .cons (.inr H.at) ?_ | refine .cons (.inr H.mp) ?_ | refine .cons (.inl (by kernel_rfl)) ?_) (Wants.none rfl) (St_storeN H rfl rfl inferInstance rfl rfl (Nat.le_of_ble_eq_true rfl) rfl ?_); clear H; intro w H
                  refine A_pv 12 rfl (Wants.none rfl) rfl (by kernel_rfl) ?_
                  refine A_end (by kernel_rfl) (by repeat first | exact .nil | refine .cons (.inr H.at) ?_ | refine .cons (.inr H.mp) ?_ | refine .cons (.inl (by kernel_rfl)) ?_) ?_
                  replace H := Holds.sel [1, 1, 1, 1, 1, 1, 1, 1, 1, 1, 1, 1, 1, 1, 0, 0, 0] 0 H; dsimp only [SL.sel, SL.pull, List.drop] at H
                  exact ⟨rfl, rfl, b7, rfl, rfl, rfl, rfl, rfl, rfl, rfl, rfl, rfl, rfl, rfl, H⟩
              clear H
              rintro ms σ w ⟨rfl, b7, g7, g8, g0, g4, g5, g6, g18, g19, g20, g51, g52, H⟩
              rw [upd_self g7, upd_self g8, upd_self g0, upd_self g4, upd_self g5, upd_self g6, upd_self g18, upd_self g19, upd_self g20, upd_self g51, upd_self g52]
              replace H := Holds.sel [7, 7, 0, 0, 0, 0, 0, 0, 0, 0, 0, 0, 0, 0, 0, 0, 0] 0 H; dsimp only [SL.sel, SL.pull, List.drop] at H
              obtain ⟨bk, sk, rfl, H, hck⟩ := sls_open H (by omega)
              obtain ⟨bt, st, rfl, H, hct⟩ := sls_open H.swap (by omega)
              repeat refine C_seq ?_
              refine C_drawH H mixed ?_
              clear H; intro w H
              refine A_pv 0 rfl (Wants.none rfl) rfl (by kernel_rfl) ?_
              refine A_pv 1 rfl (Wants.none rfl) rfl (by kernel_rfl) ?_
              refine A_pv 2 rfl (Wants.none rfl) rfl (by kernel_rfl) ?_
              refine A_pv 3 rfl (Wants.of rfl rfl rfl) rfl (by kernel_rfl) ?_
              refine A_loadN 4 [19] H rfl (Wants.of rfl rfl rfl) rfl (by repeat (first | exact Reads.nil _ | apply Reads.cons rfl)) (by kernel_rfl) ?_
              refine A_pv 5 rfl (Wants.of rfl rfl rfl) rfl (by kernel_rfl) ?_
              refine A_pv 6 rfl (Wants.of rfl rfl rfl) rfl (by kernel_rfl) ?_
              refine A_fieldAddr 7 rfl (Wants.of rfl rfl rfl) rfl (by kernel_rfl) ?_
              refine A_load1 8 [19] H rfl (Wants.of rfl rfl rfl) rfl rfl (by kernel_rfl) ?_
              refine A_pv 9 rfl (Wants.of rfl rfl rfl) rfl (by kernel_rfl) ?_
              refine A_indexAddr 10 rfl (Wants.of rfl rfl rfl) rfl rfl (by omega) (by omega) (by kernel_rfl) ?_
              refine A_load1 11 [19] H rfl (Wants.of rfl rfl rfl) rfl (ncells_get hkj) (by kernel_rfl) ?_
              refine A_pv 12 rfl (Wants.of rfl rfl rfl) rfl (by kernel_rfl) ?_
              refine A_pv 13 rfl (Wants.of rfl rfl rfl) rfl (by kernel_rfl) ?_
              refine A_fieldAddr 14 rfl (Wants.of rfl rfl rfl) rfl (by kernel_rfl) ?_
              refine A_load1 15 [19] H rfl (Wants.of rfl rfl rfl) rfl rfl (by kernel_rfl) ?_
              refine A_pv 16 rfl (Wants.of rfl rfl rfl) rfl (by kernel_rfl) ?_
              refine A_indexAddr 17 rfl (Wants.of rfl rfl rfl) rfl rfl (by omega) (by omega) (by kernel_rfl) ?_
              refine A_load1 18 [19] H rfl (Wants.of rfl rfl rfl) rfl (ncells_get htj) (by kernel_rfl) ?_
              replace H := Holds.sel [13, 15, 0, 0, 0, 0, 0, 0, 0, 0, 0, 0, 0, 0, 0, 0, 0] 0 H; dsimp only [SL.sel, SL.pull, List.drop] at H
              refine A_one 19 rfl (by kernel_rfl) (by repeat first | exact .nil | refine .cons (.inr H.at) ?_ | refine .cons (.inr H.mp) ?_ | refine .cons (.inl (by kernel_rfl)) ?_) (Wants.of rfl rfl rfl) (St_call (a := []) (b := []) rfl rfl (call (hlink _ _ H) ?_)); clear H; rintro v w ⟨rfl, H⟩
              refine A_pv 20 rfl (Wants.of rfl rfl rfl) rfl (by kernel_rfl) ?_
              refine A_pv 21 rfl (Wants.none rfl) rfl (by kernel_rfl) ?_
              refine A_end (by kernel_rfl) (by repeat first | exact .nil | refine .cons (.inr H.at) ?_ | refine .cons (.inr H.mp) ?_ | refine .cons (.inl (by kernel_rfl)) ?_) ?_
              repeat refine C_seq ?_
              refine C_false rfl (C_skip ?_)
              replace H := Holds.sel [2, 2, 0, 0, 0, 0, 0, 0, 0, 0, 0, 0, 0, 0, 0, 0, 0] 0 H; dsimp only [SL.sel, SL.pull, List.drop] at H
              replace H := hct _ _ H
              replace H := hck _ _ H.swap
              replace H := Holds.sel [5, 5, 5, 5, 5, 5, 0, 0, 3, 3, 3, 3, 0, 2, 2, 0] 1 H; dsimp only [SL.sel, SL.pull, List.drop] at H
              repeat refine C_seq ?_
              refine C_region ?_
              refine Lp_pv rfl rfl ?_
              refine Lp_pv rfl rfl ?_
              refine Lp_nil ?_
              exact ⟨_, ⟨rfl, j + 1, hjl, rfl, rfl, rfl, rfl, rfl, rfl, rfl, rfl, inc64 (by omega), H⟩, by omega⟩
            | false =>
              repeat refine C_seq ?_
              refine C_false rfl ?_
              have hpl : placeM m i j false = 0 := by rw [placeM_some hv]; unfold placeE; rw [if_neg (by omega), Int.toNat_natCast, if_neg (fun h => h hb)]
              have hjx := List.getElem?_eq_getElem hjl
              have hjd : x.w.getD j 0 = x.w[j] := by rw [List.getD_eq_getElem?_getD, hjx]; rfl
              have h1 : getW s k g j = (x.w.getD j 0, 0) := by
                rcases get_law R hPk j with ⟨h0, _⟩ | ⟨_, n', j', x', e1, e2, e3, _, e5⟩
                · exact absurd hpl h0
                · obtain rfl : n' = i := by omega
                  obtain rfl : j' = j := by omega
                  rw [hx] at e3
                  injection e3 with e3
                  subst e3
                  exact e5
              rw [hjd] at h1
              generalize x.w[j] = y at hjx h1
              replace H := Holds.sel [13, 0, 0, 0, 0, 0, 0, 0, 0, 0, 0, 0, 0, 0, 0, 0] 0 H; dsimp only [SL.sel, SL.pull, List.drop] at H
              repeat refine C_seq ?_
              refine C_drawH H mixed ?_
              clear H; intro w H
              refine A_pv 0 rfl (Wants.none rfl) rfl (by kernel_rfl) ?_
              refine A_pv 1 rfl (Wants.none rfl) rfl (by kernel_rfl) ?_
              refine A_fieldAddr 2 rfl (Wants.none rfl) rfl (by kernel_rfl) ?_
              refine A_load1 3 [6] H rfl (Wants.none rfl) rfl rfl (by kernel_rfl) ?_
              refine A_loadN 4 [6] H rfl (Wants.none rfl) rfl (by repeat (first | exact Reads.nil _ | apply Reads.cons rfl)) (by kernel_rfl) ?_
              refine A_pv 5 rfl (Wants.none rfl) rfl (by kernel_rfl) ?_
              refine A_one 6 rfl (by kernel_rfl) (by repeat first | exact .nil | refine .cons (.inr H.at) ?_ | refine .cons (.inr H.mp) ?_ | refine .cons (.inl (by kernel_rfl)) ?_) (Wants.none rfl) (St_call (a := []) (b := []) rfl rfl (call (Get_spec c s k g j H) ?_))
              clear H; rintro v w ⟨rfl, H⟩
              rw [h1]
              refine A_pv 7 rfl (Wants.none rfl) rfl (by kernel_rfl) ?_
              refine A_pv 8 rfl (Wants.none rfl) rfl (by kernel_rfl) ?_
              refine A_pv 9 rfl (Wants.none rfl) rfl (by kernel_rfl) ?_
              refine A_pv 10 rfl (Wants.none rfl) rfl (by kernel_rfl) ?_
              refine A_pv 11 rfl (Wants.none rfl) rfl (by kernel_rfl) ?_
              refine A_end (by kernel_rfl) (by repeat first | exact .nil | refine .cons (.inr H.at) ?_ | refine .cons (.inr H.mp) ?_ | refine .cons (.inl (by kernel_rfl)) ?_) ?_
              replace H := Holds.sel [6, 0, 0, 0, 0, 0, 0, 0, 0, 0, 0, 0, 0, 0, 0, 0] 0 H; dsimp only [SL.sel, SL.pull, List.drop] at H
              obtain ⟨bW, sW, rfl, H, hcw⟩ := sls_open H (by omega)
              repeat refine C_seq ?_
              refine C_region ?_
              refine Lp_pv rfl rfl ?_
              refine Lp_pv rfl rfl ?_
              refine Lp_pv rfl rfl ?_
              refine Lp_gpv rfl rfl rfl rfl ?_
              refine Lp_gpv rfl rfl rfl rfl ?_
              refine Lp_gpv rfl rfl rfl rfl ?_
              refine Lp_g rfl rfl rfl (St_fieldAddr rfl rfl ?_)
              refine Lp_g rfl rfl rfl (St_load1 H rfl rfl rfl ?_)
              refine Lp_gpv rfl rfl rfl rfl ?_
              refine Lp_g rfl rfl rfl (St_indexAddr rfl rfl (by omega) (by omega) rfl ?_)
              refine Lp_g rfl rfl rfl (St_load1 H rfl (ucells_get hjx) rfl ?_)
              refine Lp_gpv rfl rfl rfl rfl ?_
              rw [show ((y : Int) != (y : Int)) = false by simp]
              refine Lp_pv rfl rfl ?_
              refine Lp_nil ?_
              repeat refine C_seq ?_
              refine C_false rfl (C_skip ?_)
              replace H := hcw _ _ H
              replace H := Holds.sel [2, 2, 2, 2, 2, 0, 1, 1, 1, 1, 1, 1, 1, 0, 0, 0] 0 H; dsimp only [SL.sel, SL.pull, List.drop] at H
              repeat refine C_seq ?_
              refine C_region ?_
              refine Lp_pv rfl rfl ?_
              refine Lp_pv rfl rfl ?_
              refine Lp_nil ?_
              exact ⟨_, ⟨rfl, j + 1, hjl, rfl, rfl, rfl, rfl, rfl, rfl, rfl, rfl, inc64 (by omega), H⟩, by omega⟩
          · exact ⟨rfl, rfl, rfl, rfl, rfl, rfl, H⟩
        clear H
        rintro ms σ w ⟨rfl, g0, g18, g19, g20, H⟩
        rw [upd_self g0, upd_self g18, upd_self g19, upd_self g20]
        replace H := hclL _ _ H
        replace H := Holds.sel [2, 2, 2, 2, 2, 2, 0, 0, 0, 0] 0 H; dsimp only [SL.sel, SL.pull, List.drop] at H
        replace H := MODEL_same hx (hclose _ _ _ hm' H)
        repeat refine C_seq ?_
        refine C_region ?_
        refine Lp_pv rfl rfl ?_
        refine Lp_pv rfl rfl ?_
        refine Lp_nil ?_
        replace H := Holds.sel [4, 1, 1, 0] 1 H; dsimp only [SL.sel, SL.pull, List.drop] at H
        exact ⟨_, ⟨rfl, i + 1, hlt, rfl, rfl, rfl, rfl, inc64 (by omega), H⟩, by omega⟩
    · exact ⟨rfl, rfl, rfl, H⟩
  clear H
  rintro ms σ w ⟨rfl, g0, H⟩
  rw [upd_self g0]
  replace H := Holds.sel [3, 0, 0, 0] 0 H; dsimp only [SL.sel, SL.pull, List.drop] at H
  obtain ⟨t, lc, oc, aL, cL, aO, cO, hm, h2, h3, hl1, hl2, H⟩ := MODEL_out H
  have hPl := hm.P.2
  replace H := Holds.sel [1, 0, 0, 0, 0, 0, 0, 0, 0] 0 H; dsimp only [SL.sel, SL.pull, List.drop] at H
  repeat refine C_seq ?_
  refine C_region ?_
  refine Lp_pv rfl rfl ?_
  refine Lp_pv rfl rfl ?_
  refine Lp_s rfl (St_fieldAddr rfl rfl ?_)
  refine Lp_s rfl (St_load1 H rfl rfl rfl ?_)
  refine Lp_pv rfl rfl ?_
  refine Lp_s rfl (St_fieldAddr rfl rfl ?_)
  refine Lp_s rfl (St_load1 H rfl rfl rfl ?_)
  refine Lp_s rfl (St_call (a := []) (b := []) rfl rfl (call (All_spec t m.P (by omega) H) ?_))
  clear H; intro v w H
  obtain ⟨aA, cA, rfl⟩ := sls_slice H (ncells_length _) (by decide)
  (refine Lp_s rfl (St_buildSlice H rfl rfl rfl ?_); clear H; intro b136 w H)
  replace H := H.swap
  have hal : (allP m.P).length ≤ 100000 := by
    have : (allP m.P).length ≤ m.P.length := idsTo_len m.P _ _
    omega
  refine Lp_s rfl (St_append H rfl rfl (by repeat (first | exact Reads.nil _ | apply Reads.cons rfl)) rfl (by decide) (by rw [ncells_length]; simp only [List.length_cons, List.length_nil]; omega) rfl rfl ?_); clear H; intro vS w H
  have e1 : ncells (allP m.P) ++ [.int .i64 0] = ncells (allP m.P ++ [0]) := by rw [ncells_append]; rfl
  rw [e1] at H
  have hidL : ∀ x ∈ allP m.P ++ [0], ((x : Nat) : Int) = 0 ∨ (fnd s.par ((x : Nat) : Int)).isSome = true := by
    intro x hx
    rcases List.mem_append.1 hx with hx | hx
    · right
      obtain ⟨qq, q1, q2, q3⟩ := all_mem.1 hx
      rw [(fnd_iff R.nd).2 ((R.tree x qq).2 ⟨x, rfl, q2, q1, q3⟩)]
      rfl
    · left
      simp at hx
      omega
  have hLl : (allP m.P ++ [0]).length ≤ 100001 := by simp; omega
  generalize allP m.P ++ [0] = L at H hidL hLl
  obtain ⟨aS, cS, rfl⟩ := sls_slice H (ncells_length L) (by decide)
  refine Lp_s rfl (St_lenSlice rfl rfl ?_)
  refine Lp_pv rfl rfl ?_
  refine Lp_nil ?_
  replace H := Holds.sel [0, 1, 1, 1, 1, 1, 1, 1, 1, 1] 1 H; dsimp only [SL.sel, SL.pull, List.drop] at H
  repeat refine C_seq ?_
  refine C_join (fun ms σ w => ms = [] ∧ σ 0 = pp p ∧ Holds w (NL (.slice aS L.length cS) L :: RTR t m.P :: pts mo (row 56 [pp t, .slice aL m.lays.length cL, .slice aO m.objs.length cO]) :: sls 101 4 (.slice aL m.lays.length cL) (bcells lc) :: star (lc.map bres) :: sls 51 1 (.slice aO m.objs.length cO) (oc.map fun x => pp x.ptr) :: star (oc.map ocr) :: TKL (.slice a told.length cap) told :: RROW p c mo (.slice a told.length cap) :: CELL c s :: fr)) ?_ ?_
  · refine C_block ?_
    refine C_loop (fun ms σ w n => ms = [] ∧ ∃ i : Nat, i ≤ L.length ∧ n = L.length - i ∧ σ 0 = pp p ∧ σ 137 = .slice aS L.length cS ∧ σ 138 = .int .i64 L.length ∧ σ 139 = .int .i64 i ∧ Holds w (NL (.slice aS L.length cS) L :: RTR t m.P :: pts mo (row 56 [pp t, .slice aL m.lays.length cL, .slice aO m.objs.length cO]) :: sls 101 4 (.slice aL m.lays.length cL) (bcells lc) :: star (lc.map bres) :: sls 51 1 (.slice aO m.objs.length cO) (oc.map fun x => pp x.ptr) :: star (oc.map ocr) :: TKL (.slice a told.length cap) told :: RROW p c mo (.slice a told.length cap) :: CELL c s :: fr)) (m := L.length) ⟨rfl, 0, by omega, rfl, rfl, rfl, rfl, rfl, H⟩ ?_
    clear H
    rintro ms σ w n ⟨rfl, i, hi, rfl, g0, g137, g138, g139, H⟩
    rw [upd_self g0, upd_self g137, upd_self g138, upd_self g139]
    repeat refine C_seq ?_
    refine C_region ?_
    refine Lp_pv rfl rfl ?_
    refine Lp_nil ?_
    repeat refine C_seq ?_
    refine C_dec rfl (fun h => C_skip ?_) (fun h => C_exit ?_)
    · have hlt : i < L.length := by omega
      have hn := List.getElem?_eq_getElem hlt
      generalize L[i] = id at hn
      have hid := hidL id (List.mem_of_getElem? hn)
      obtain ⟨bA, sA, rfl, H, hcA⟩ := sls_open H (by omega)
      repeat refine C_seq ?_
      refine C_block ?_
      repeat refine C_seq ?_
      refine C_region ?_
      refine Lp_s rfl (St_indexAddr rfl rfl (by omega) (by omega) rfl ?_)
      refine Lp_s rfl (St_load1 H rfl (ncells_get hn) rfl ?_)
      refine Lp_pv rfl rfl ?_
      refine Lp_nil ?_
      replace H := hcA _ _ H
      replace H := Holds.sel [9, 0, 0, 0, 0, 0, 0, 0, 0, 0] 0 H; dsimp only [SL.sel, SL.pull, List.drop] at H
      obtain ⟨q, mem, hw', hmm, H⟩ := CELL_out H
      replace H := Holds.sel [5, 0, 0, 0, 0, 0, 0, 0, 0, 0, 0, 0, 0, 0, 0, 0, 0, 0, 0, 0] 0 H; dsimp only [SL.sel, SL.pull, List.drop] at H
      repeat refine C_seq ?_
      refine C_region ?_
      refine Lp_pv rfl rfl ?_
      refine Lp_pv rfl rfl ?_
      refine Lp_s rfl (St_fieldAddr rfl rfl ?_)
      refine Lp_s rfl (St_load1 H rfl rfl rfl ?_)
      refine Lp_pv rfl rfl ?_
      refine Lp_s rfl (St_fieldAddr rfl rfl ?_)
      refine Lp_s rfl (St_load1 H rfl rfl rfl ?_)
      refine Lp_pv rfl rfl ?_
      refine Lp_s rfl (St_call (a := []) (b := []) rfl rfl (call (Kids_spec q.trp s.last s.par id hid (by have := hw'.par.1; omega) H) ?_))
      clear H; rintro v w ⟨u, K, rfl, hKp, hKs, H⟩
      obtain ⟨aK, cK, rfl⟩ := sls_slice H (icells_length K) (by decide)
      refine Lp_pv rfl rfl ?_
      refine Lp_pv rfl rfl ?_
      refine Lp_pv rfl rfl ?_
      refine Lp_pv rfl rfl ?_
      refine Lp_pv rfl rfl ?_
      refine Lp_nil ?_
      have hkk := kids_law R (id := id) (by omega) hKp hKs
      replace H := Holds.sel [2, 2, 2, 2, 2, 1, 1, 1, 1, 1, 1, 0, 0, 0, 0, 0, 0, 0, 0, 0, 0] 0 H; dsimp only [SL.sel, SL.pull, List.drop] at H
      replace H := CELL_in hw' hmm H
      replace H := Holds.sel [3, 0, 0, 0, 0, 0, 0, 0, 0, 0, 0] 0 H; dsimp only [SL.sel, SL.pull, List.drop] at H
      repeat refine C_seq ?_
      refine C_region ?_
      refine Lp_pv rfl rfl ?_
      refine Lp_pv rfl rfl ?_
      refine Lp_pv rfl rfl ?_
      refine Lp_gpv rfl rfl rfl rfl ?_
      refine Lp_gpv rfl rfl rfl rfl ?_
      refine Lp_gpv rfl rfl rfl rfl ?_
      refine Lp_g rfl rfl rfl (St_fieldAddr rfl rfl ?_)
      refine Lp_g rfl rfl rfl (St_load1 H rfl rfl rfl ?_)
      refine Lp_gpv rfl rfl rfl rfl ?_
      refine Lp_g rfl rfl rfl (St_fieldAddr rfl rfl ?_)
      refine Lp_g rfl rfl rfl (St_load1 H rfl rfl rfl ?_)
      refine Lp_gpv rfl rfl rfl rfl ?_
      refine Lp_g rfl rfl rfl (St_call (a := []) (b := []) rfl rfl (call (dKids_spec t m.P id (by omega) H) ?_))
      clear H; intro v2 w H
      obtain ⟨a2, c2, rfl⟩ := sls_slice H (ncells_length _) (by decide)
      replace H := Holds.sel [3, 0, 0, 0, 0, 0, 0, 0, 0, 0, 0, 0] 0 H; dsimp only [SL.sel, SL.pull, List.drop] at H
      rw [NL_IL _ (kidsP m.P id)] at H
      refine Lp_g rfl rfl rfl (St_call (a := []) (b := []) rfl rfl (call (Same_spec _ _ K ((kidsP m.P id).map fun x : Nat => (x : Int)) (by rw [hkk, List.length_map]; have : (kidsP m.P id).length ≤ m.P.length := idsTo_len m.P _ _; omega) H) ?_))
      clear H; rintro v w ⟨rfl, H⟩
      rw [decide_eq_true hkk]
      refine Lp_gpv rfl rfl rfl rfl ?_
      refine Lp_pv rfl rfl ?_
      refine Lp_nil ?_
      repeat refine C_seq ?_
      refine C_false rfl (C_skip ?_)
      repeat refine C_seq ?_
      refine C_region ?_
      refine Lp_pv rfl rfl ?_
      refine Lp_pv rfl rfl ?_
      refine Lp_nil ?_
      replace H := Holds.sel [4, 2, 3, 3, 3, 3, 3, 3, 3, 2] 2 H; dsimp only [SL.sel, SL.pull, List.drop] at H
      exact ⟨_, ⟨rfl, i + 1, hlt, rfl, rfl, rfl, rfl, inc64 (by omega), H⟩, by omega⟩
    · exact ⟨rfl, rfl, rfl, H⟩
  clear H
  rintro ms σ w ⟨rfl, g0, H⟩
  rw [upd_self g0]
  replace H := Holds.sel [9, 0, 0, 0, 0, 0, 0, 0, 0, 0] 0 H; dsimp only [SL.sel, SL.pull, List.drop] at H
  obtain ⟨q, mem, hw', hmm, H⟩ := CELL_out H
  replace H := Holds.sel [5, 0, 0, 0, 0, 0, 0, 0, 0, 0, 0, 0, 0, 0, 0, 0, 0, 0, 0, 0] 0 H; dsimp only [SL.sel, SL.pull, List.drop] at H
  repeat refine C_seq ?_
  refine C_drawH H mixed ?_
  clear H; intro w H
  refine A_pv 0 rfl (Wants.none rfl) rfl (by kernel_rfl) ?_
  refine A_pv 1 rfl (Wants.none rfl) rfl (by kernel_rfl) ?_
  refine A_fieldAddr 2 rfl (Wants.none rfl) rfl (by kernel_rfl) ?_
  refine A_load1 3 [7, 15] H rfl (Wants.none rfl) rfl rfl (by kernel_rfl) ?_
  refine A_pv 4 rfl (Wants.none rfl) rfl (by kernel_rfl) ?_
  refine A_fieldAddr 5 rfl (Wants.none rfl) rfl (by kernel_rfl) ?_
  refine A_load1 6 [7, 15] H rfl (Wants.none rfl) rfl rfl (by kernel_rfl) ?_
  refine A_pv 8 rfl (Wants.none rfl) rfl (by kernel_rfl) ?_
  refine A_pv 9 rfl (Wants.none rfl) rfl (by kernel_rfl) ?_
  refine A_fieldAddr 10 rfl (Wants.none rfl) rfl (by kernel_rfl) ?_
  refine A_load1 11 [15] H rfl (Wants.none rfl) rfl rfl (by kernel_rfl) ?_
  refine A_pv 12 rfl (Wants.none rfl) rfl (by kernel_rfl) ?_
  refine A_fieldAddr 13 rfl (Wants.none rfl) rfl (by kernel_rfl) ?_
  refine A_load1 14 [15] H rfl (Wants.none rfl) rfl rfl (by kernel_rfl) ?_
  refine A_one 7 rfl (by kernel_rfl) (by repeat first | exact .nil | refine .cons (.inr H.at) ?_ | refine .cons (.inr H.mp) ?_ | refine .cons (.inl (by kernel_rfl)) ?_) (Wants.none rfl) (St_call (a := []) (b := []) rfl rfl (call (trLen_spec q.trp s.last s.par H) ?_))
  clear H; rintro v w ⟨rfl, H⟩
  replace H := Holds.sel [12, 0, 0, 0, 0, 0, 0, 0, 0, 0, 0, 0, 0, 0, 0, 0, 0, 0, 0, 0] 0 H; dsimp only [SL.sel, SL.pull, List.drop] at H
  refine A_one 15 rfl (by kernel_rfl) (by repeat first | exact .nil | refine .cons (.inr H.at) ?_ | refine .cons (.inr H.mp) ?_ | refine .cons (.inl (by kernel_rfl)) ?_) (Wants.none rfl) (St_call (a := []) (b := []) rfl rfl (call (All_spec t m.P (by omega) H) ?_))
  clear H; intro v w H
  obtain ⟨aA2, cA2, rfl⟩ := sls_slice H (ncells_length _) (by decide)
  refine A_lenSlice 16 rfl (Wants.none rfl) rfl (by kernel_rfl) ?_
  refine A_pv 17 rfl (Wants.none rfl) rfl (by kernel_rfl) ?_
  rw [len_law R, beq_int ((allP m.P).length : Int)]
  refine A_pv 18 rfl (Wants.none rfl) rfl (by kernel_rfl) ?_
  refine A_end (by kernel_rfl) (by repeat first | exact .nil | refine .cons (.inr H.at) ?_ | refine .cons (.inr H.mp) ?_ | refine .cons (.inl (by kernel_rfl)) ?_) ?_
  replace H := Holds.sel [3, 3, 3, 3, 3, 2, 2, 2, 2, 2, 2, 1, 2, 2, 2, 2, 2, 2, 2] 2 H; dsimp only [SL.sel, SL.pull, List.drop] at H
  replace H := CELL_in hw' hmm H
  replace H := Holds.sel [2, 1, 1, 1, 1, 1, 0, 0, 0] 0 H; dsimp only [SL.sel, SL.pull, List.drop] at H
  replace H := MODEL_in hm h2 h3 H
  replace H := Holds.sel [3, 1, 0, 0] 0 H; dsimp only [SL.sel, SL.pull, List.drop] at H
  exact C_ret (fn_end0 _ (.inr rfl) (RUN_in H) rfl fun w' H' => ⟨rfl, H'⟩)
end Go.Proofs.YtcaaojbnjfdglaaGreatDoor
