/- Cells: what is proved on the way: every input of the statement; no condition. Texts joined: TabE WhoA DelA DelB DelC WhoB BumB WhoC WhoE. -/
import Derived.Test.YtcaaojbnjfdglaaGreatDoorChf
import Derived.Test.YtcaaojbnjfdglaaGreatDoorChl
import Derived.Test.YtcaaojbnjfdglaaGreatDoorChp
import Derived.Test.YtcaaojbnjfdglaaGreatDoorCho
import Derived.Test.YtcaaojbnjfdglaaGreatDoorChk
import Derived.Test.YtcaaojbnjfdglaaGreatDoorChe
import Derived.Test.YtcaaojbnjfdglaaGreatDoorChn
import Derived.Test.YtcaaojbnjfdglaaGreatDoorChj
set_option linter.unusedVariables false
set_option linter.unusedSimpArgs false
set_option linter.unusedSectionVars false
namespace Go.Proofs.YtcaaojbnjfdglaaGreatDoor
open Go.SL

structure TQ where
  b : Nat
  c : Nat
  s : List Value
  u : Nat
  x : Nat
/-- A table, its parts by name: they stay while it is gone through. -/
def TABX (p : Nat) (ts : List Slt) (q : TQ) : HProp := star [prop (TabOk ts q.x ∧ ts.length ≤ q.c), pts p (row 183 [.slice (some ⟨q.b, 0, none⟩) ts.length q.c, pp q.u, .int .i64 (goneT ts)]), pts q.b (row 193 (ts.flatMap tval ++ q.s)), BM1 q.u ts.length q.x]
theorem TABX_out [Extra] {w : World} {p : Nat} {ts : List Slt} {b c : Nat} {s : List Value} {u x : Nat} {l : List HProp} (H : Holds w (TABX p ts ⟨b, c, s, u, x⟩ :: l)) : TabOk ts x ∧ ts.length ≤ c ∧
    Holds w (pts p (row 183 [.slice (some ⟨b, 0, none⟩) ts.length c, pp u, .int .i64 (goneT ts)]) :: pts b (row 193 (ts.flatMap tval ++ s)) :: BM1 u ts.length x :: l) ∧
    ∀ w' l' ts' x', ts' = ts → x' = x → TabOk ts x → Holds w' (pts p (row 183 [.slice (some ⟨b, 0, none⟩) ts.length c, pp u, .int .i64 (goneT ts)]) :: pts b (row 193 (ts.flatMap tval ++ s)) :: BM1 u ts.length x :: l') → Holds w' (TABX p ts ⟨b, c, s, u, x⟩ :: l') := by
  have H := Holds.star.1 H
  obtain ⟨h, H⟩ := Holds.prop.1 H
  exact ⟨h.1, h.2, H, fun w' l' ts' x' _ _ _ H' => Holds.star.2 (Holds.prop.2 ⟨h, H'⟩)⟩
theorem TAB_X [Extra] {w : World} {p : Nat} {ts : List Slt} {l : List HProp} (H : Holds w (TAB p ts :: l)) : ∃ q, Holds w (TABX p ts q :: l) ∧ ∀ w' l', Holds w' (TABX p ts q :: l') → Holds w' (TAB p ts :: l') := by
  obtain ⟨b, c, s, u, x, hok, hc, H, hclose⟩ := TAB_out H
  refine ⟨⟨b, c, s, u, x⟩, Holds.star.2 (Holds.prop.2 ⟨⟨hok, hc⟩, H⟩), fun w' l' H' => ?_⟩
  obtain ⟨_, _, H', _⟩ := TABX_out H'
  exact hclose _ _ ts x rfl rfl hok H'

theorem tGet_specX [Extra] (p : Nat) (ts : List Slt) (q : TQ) (i g : Int) {w : World} {fr : List HProp} (H : Holds w (TABX p ts q :: fr)) :
    Calls Tryz.prog 44 #[pp p, tkI2 i g] w (ret fun v w' => v = (match lookT ts i g with | some (_, e) => .tuple #[.agg (evl e).toArray, .int .i64 0] | none => .tuple #[.agg #[.int .i64 0, .int .i64 0, .bool false, .bool false], .int .i64 8]) ∧ Holds w' (TABX p ts q :: fr)) := by
  obtain ⟨b, c, s, u, x⟩ := q
  obtain ⟨hok, hc, H, hclose⟩ := TABX_out H
  refine calls_of Tryz.func44 rfl (by kernel_rfl) ?_
  refine J6 H ?_
  clear H; intro b3 w H
  refine J19 H ?_
  clear H; intro b4 w H
  refine J90 H ?_
  replace H := Js [2,2,0,0,0] 0 H
  refine Jc rfl rfl (find_open p b c u _ rfl ts s hok.bits.le i g H) ?_
  clear H; rintro v w ⟨rfl, H⟩
  cases hL : lookT ts i g with
  | some q =>
    obtain ⟨k, e⟩ := q
    obtain ⟨n, rfl, rfl, hk⟩ := lookT_some.1 hL
    have hrd : Reads (ts.flatMap tval ++ s) (k * 6 + 2) 4 (evl e) := flat_reads (vs := evl e) tval_len hk (by repeat (first | exact Reads.nil _ | apply Reads.cons rfl))
    refine J31 H ?_
    refine J5 H ?_
    refine J63 H ?_
    refine Lp_s rfl (St_loadN H rfl hrd rfl ?_)
    refine J7 H ?_
    clear H; intro w H
    refine J0 H ?_
    replace H := Js [2,0,0,1] 1 H
    exact C_ret (Jz H (fun w' H' => .cellN H' rfl (by repeat (first | exact Reads.nil _ | apply Reads.cons rfl)) (.tmp .nil)) fun w' H' => ⟨rfl, hclose _ _ ts x rfl rfl hok H'.drop⟩)
  | none =>
    refine J55 H ?_
    refine J183 H ?_
    clear H; intro w H
    refine J0 H ?_
    replace H := Js [2,0,0,1] 1 H
    exact C_ret (Jz H (fun w' H' => .cellN H' rfl (by repeat (first | exact Reads.nil _ | apply Reads.cons rfl)) (.tmp .nil)) fun w' H' => ⟨rfl, hclose _ _ ts x rfl rfl hok H'.drop⟩)
theorem tGetV_specX [Extra] (p : Nat) (ts : List Slt) (q : TQ) (i g : Int) {w : World} {fr : List HProp} (H : Holds w (TABX p ts q :: fr)) :
    Calls Tryz.prog 44 #[pp p, tkI2 i g] w (ret fun v w' => v = getV (lookT ts i g) ∧ Holds w' (TABX p ts q :: fr)) :=
  call (tGet_specX p ts q i g H) fun v w h => ⟨by rw [h.1]; cases lookT ts i g <;> rfl, h.2⟩
theorem tAt_specX [Extra] (p : Nat) (ts : List Slt) (q : TQ) (k n : Nat) (e : Ent) (hk : ts[k]? = some ⟨n, some e⟩) {w : World} {fr : List HProp} (H : Holds w (TABX p ts q :: fr)) :
    Calls Tryz.prog 98 #[pp p, .int .i64 k] w (ret fun v w' => v = .tuple #[tkn k n, .bool true] ∧ Holds w' (TABX p ts q :: fr)) := by
  obtain ⟨b, c, s, u, x⟩ := q
  obtain ⟨hok, hc, H, hclose⟩ := TABX_out H
  have hb := hok.bits.le
  have hkl : k < ts.length := (List.getElem?_eq_some_iff.1 hk).1
  have c1 : (ts.flatMap tval ++ s)[k * 6 + 1]? = some (.bool true) := flat_get tval_len hk rfl
  have c0 : (ts.flatMap tval ++ s)[k * 6 + 0]? = some (.int .i64 n) := flat_get tval_len hk rfl
  have ei : 0 + ((k : Nat) : Int).toNat * 6 = k * 6 := by simp
  refine calls_of Tryz.func98 rfl (by kernel_rfl) ?_
  refine J18 H ?_
  clear H; intro b4 w H
  refine J0 H ?_
  refine J231 H ?_
  refine J48 H ?_
  rw [show decide ((k : Int) < 0) = false from decide_eq_false (by omega)]
  refine J248 H ?_
  refine J159 H ?_
  rw [show decide ((k : Int) ≥ (ts.length : Int)) = false from decide_eq_false (by omega)]
  refine J134 H ?_
  refine Lp_g rfl rfl rfl (St_indexAddr rfl rfl (by omega) (by omega) rfl ?_)
  rw [ei]
  refine J123 H ?_
  refine Lp_g rfl rfl rfl (St_load1 H rfl c1 rfl ?_)
  refine J97 H ?_
  refine J177 H ?_
  refine Lp_s rfl (St_indexAddr rfl rfl (by omega) (by omega) rfl ?_)
  rw [ei]
  refine J63 H ?_
  refine Lp_s rfl (St_load1 H rfl c0 rfl ?_)
  refine J249 H ?_
  clear H; intro w H
  refine J0 H ?_
  exact C_ret (Jz H (fun w' H' => .cellN H' rfl (by repeat (first | exact Reads.nil _ | apply Reads.cons rfl)) (.tmp .nil)) fun w' H' => ⟨rfl, hclose _ _ ts x rfl rfl hok H'.drop⟩)
theorem tAt_noX [Extra] (p : Nat) (ts : List Slt) (q : TQ) (i : Int) (hno : ¬ Used ts i) {w : World} {fr : List HProp} (H : Holds w (TABX p ts q :: fr)) :
    Calls Tryz.prog 98 #[pp p, .int .i64 i] w (ret fun v w' => v = .tuple #[tkI2 0 0, .bool false] ∧ Holds w' (TABX p ts q :: fr)) := by
  obtain ⟨b, c, s, u, x⟩ := q
  obtain ⟨hok, hc, H, hclose⟩ := TABX_out H
  have hb := hok.bits.le
  refine calls_of Tryz.func98 rfl (by kernel_rfl) ?_
  refine J18 H ?_
  clear H; intro b4 w H
  refine J0 H ?_
  refine J231 H ?_
  refine J48 H ?_
  by_cases h0 : i < 0
  · rw [show decide (i < 0) = true from decide_eq_true (by omega)]
    refine J78 H ?_
    refine J167 H ?_
    refine J78 H ?_
    refine J214 H ?_
    refine J76 H ?_
    clear H; intro w H
    refine J0 H ?_
    exact C_ret (Jz H (fun w' H' => .cellN H' rfl (by repeat (first | exact Reads.nil _ | apply Reads.cons rfl)) (.tmp .nil)) fun w' H' => ⟨rfl, hclose _ _ ts x rfl rfl hok H'.drop⟩)
  · rw [show decide (i < 0) = false from decide_eq_false (by omega)]
    refine J248 H ?_
    refine J159 H ?_
    by_cases h1 : i ≥ (ts.length : Int)
    · rw [show decide (i ≥ (ts.length : Int)) = true from decide_eq_true (by omega)]
      refine J78 H ?_
      refine J214 H ?_
      refine J76 H ?_
      clear H; intro w H
      refine J0 H ?_
      exact C_ret (Jz H (fun w' H' => .cellN H' rfl (by repeat (first | exact Reads.nil _ | apply Reads.cons rfl)) (.tmp .nil)) fun w' H' => ⟨rfl, hclose _ _ ts x rfl rfl hok H'.drop⟩)
    · rw [show decide (i ≥ (ts.length : Int)) = false from decide_eq_false (by omega)]
      obtain ⟨k, rfl⟩ : ∃ k : Nat, i = k := ⟨i.toNat, by omega⟩
      have hk := List.getElem?_eq_getElem (l := ts) (i := k) (by omega)
      generalize ts[k] = t at hk
      obtain ⟨g, e⟩ := t
      obtain rfl : e = none := by
        cases e with
        | none => rfl
        | some e => exact absurd ⟨k, g, e, rfl, hk⟩ hno
      have c1 : (ts.flatMap tval ++ s)[k * 6 + 1]? = some (.bool false) := flat_get tval_len hk rfl
      have ei : 0 + ((k : Nat) : Int).toNat * 6 = k * 6 := by simp
      refine J134 H ?_
      refine Lp_g rfl rfl rfl (St_indexAddr rfl rfl (by omega) (by omega) rfl ?_)
      rw [ei]
      refine J123 H ?_
      refine Lp_g rfl rfl rfl (St_load1 H rfl c1 rfl ?_)
      refine J27 H ?_
      refine J76 H ?_
      clear H; intro w H
      refine J0 H ?_
      exact C_ret (Jz H (fun w' H' => .cellN H' rfl (by repeat (first | exact Reads.nil _ | apply Reads.cons rfl)) (.tmp .nil)) fun w' H' => ⟨rfl, hclose _ _ ts x rfl rfl hok H'.drop⟩)

def isUsed (ts : List Slt) (i : Nat) : Bool := match ts[i]? with
  | some ⟨_, some _⟩ => true
  | _ => false
theorem isUsed_iff {ts : List Slt} {i : Nat} : isUsed ts i = true ↔ ∃ g e, ts[i]? = some ⟨g, some e⟩ := by
  unfold isUsed
  split
  · rename_i g e h
    exact ⟨fun _ => ⟨g, e, h⟩, fun _ => rfl⟩
  · rename_i h
    exact ⟨fun h => (by cases h), fun ⟨g, e, h'⟩ => absurd h' (h g e)⟩
def usedL (ts : List Slt) : List Nat := (List.range ts.length).filter (isUsed ts)
theorem usedL_bits {ts : List Slt} {x : Nat} (h : TabOk ts x) : (bitsL ts.length x).filter (isUsed ts) = usedL ts := by
  unfold bitsL usedL
  rw [List.filter_filter]
  refine List.filter_congr fun i hi => ?_
  have hi := List.mem_range.1 hi
  have ht := List.getElem?_eq_getElem hi
  cases hu : isUsed ts i with
  | false => rfl
  | true =>
    obtain ⟨g, e, h1⟩ := isUsed_iff.1 hu
    rw [h.bit i _ h1]
    rfl

theorem tAll_spec [Extra] (p : Nat) {w : World} {fr : List HProp} (H : Holds w fr) :
    Calls Tryz.prog 85 #[pp p] w (ret fun v w' => ∃ b1, v = .func (.func 144) #[] #[pp b1] ∧ Holds w' (pts b1 (row 84 [pp p]) :: fr)) := by
  refine calls_of Tryz.func85 rfl (by kernel_rfl) ?_
  refine J43 H ?_
  clear H; intro b1 w H
  refine J22 H ?_
  exact C_ret (Jy H rfl fun w' H' => ⟨_, rfl, H'⟩)

theorem TabIter [Extra] (yl b1 p : Nat) (ts : List Slt) (q : TQ) (J : List Nat → HProp)
    {w : World} {fr : List HProp} [hT : HasTab 0 Lib.deBruijn64tab fr]
    (hy : ∀ (ks : List Nat) (k g : Nat) (e : Ent) (rest : List HProp) (w : World), ts[k]? = some ⟨g, some e⟩ → (∃ t, usedL ts = ks ++ k :: t) → Holds w (J ks :: TABX p ts q :: rest) → SL.Yields Tryz.prog yl #[tkn k g, .agg (evl e).toArray] w (fun v w' => v = .bool true ∧ Holds w' (J (ks ++ [k]) :: TABX p ts q :: rest)))
    (H : Holds w (J [] :: pts b1 (row 84 [pp p]) :: TABX p ts q :: fr)) :
    Calls Tryz.prog 144 #[.func (.yield yl) #[] #[], pp b1] w (ret fun _ w' => Holds w' (J (usedL ts) :: pts b1 (row 84 [pp p]) :: TABX p ts q :: fr)) := by
  obtain ⟨b, c, s, u, x⟩ := q
  refine calls_of Tryz.func144 rfl (by kernel_rfl) ?_
  refine J43 H ?_
  clear H; intro b2 w H
  refine J114 H ?_
  refine J258 H ?_
  refine J180 H ?_
  replace H := Js [3,2,1,0] 0 H
  obtain ⟨hok, hc, H, hclose⟩ := TABX_out H
  refine J190 H ?_
  refine J29 H ?_
  refine Jc rfl rfl (bAll_spec u H) ?_
  clear H; rintro v w ⟨bb, rfl, H⟩
  refine J153 H ?_
  refine C_block (C_rangeFunc (a := []) (b := [pp bb]) H rfl (fun yl2 D w H => ?_))
  generalize hL : LR _ yl2 _ _ _ _ D .ready = L at H ⊢
  obtain ⟨J2, hJ2⟩ : ∃ J2 : List Nat → HProp, J2 = fun ks => star [L, J (ks.filter (isUsed ts)), pts b1 (row 84 [pp p]), pts p (row 183 [.slice (some ⟨b, 0, none⟩) ts.length c, pp u, .int .i64 (goneT ts)]), pts b (row 193 (ts.flatMap tval ++ s)), pts b2 (row 237 [.func (.yield yl) #[] #[]])] := ⟨_, rfl⟩
  have hin : ∀ (ks : List Nat) (w : World) (l' : List HProp), Holds w (L :: J (ks.filter (isUsed ts)) :: pts b1 (row 84 [pp p]) :: pts p (row 183 [.slice (some ⟨b, 0, none⟩) ts.length c, pp u, .int .i64 (goneT ts)]) :: pts b (row 193 (ts.flatMap tval ++ s)) :: pts b2 (row 237 [.func (.yield yl) #[] #[]]) :: l') → Holds w (J2 ks :: l') := by
    intro ks w l' H
    rw [hJ2]
    exact Holds.star.2 H
  have hout : ∀ (ks : List Nat) (w : World) (l' : List HProp), Holds w (J2 ks :: l') → Holds w (L :: J (ks.filter (isUsed ts)) :: pts b1 (row 84 [pp p]) :: pts p (row 183 [.slice (some ⟨b, 0, none⟩) ts.length c, pp u, .int .i64 (goneT ts)]) :: pts b (row 193 (ts.flatMap tval ++ s)) :: pts b2 (row 237 [.func (.yield yl) #[] #[]]) :: l') := by
    intro ks w l' H
    rw [hJ2] at H
    exact Holds.star.1 H
  replace H := Js [0,6,5,2,2,3,1,1,0] 0 H
  replace H := hin [] _ _ H
  refine call (AllIter yl2 bb u ts.length x _ hok.bits J2 ?_ H) ?_
  · clear H
    intro ks i rest w hi hbit hpre H
    replace H := hout _ _ _ H
    obtain ⟨t, hpre⟩ := hpre
    have hu := usedL_bits hok
    rw [hpre, List.filter_append, List.filter_cons] at hu
    have hyy := fun (w : World) (rest : List HProp) (g : Nat) (e : Ent) => hy (ks.filter (isUsed ts)) i g e rest w
    subst hL
    refine Yields_of (args := [.int .i64 i]) H rfl rfl ?_
    refine J14 H ?_
    refine ⟨rfl, _, H, fun w H => C_block ?_⟩
    replace H := Js [3,3,4,2,0,0,0] 0 H
    replace H := hclose _ _ ts x rfl rfl hok H
    have hti := List.getElem?_eq_getElem hi
    generalize ts[i] = ti at hti
    obtain ⟨g, en⟩ := ti
    refine J190 H ?_
    cases en with
    | some e =>
      have hus : isUsed ts i = true := isUsed_iff.2 ⟨g, e, hti⟩
      rw [if_pos hus] at hu
      have hrd : Reads (ts.flatMap tval ++ s) (i * 6 + 2) 4 (evl e) := flat_reads (vs := evl e) tval_len hti (by repeat (first | exact Reads.nil _ | apply Reads.cons rfl))
      have ei : 0 + ((i : Nat) : Int).toNat * 6 = i * 6 := by simp
      refine Jc rfl rfl (tAt_specX p ts ⟨b, c, s, u, x⟩ i g e hti H) ?_
      clear H; rintro v w ⟨rfl, H⟩
      refine J21 H ?_
      clear H; intro b4 w H
      refine J7 H ?_
      clear H; intro w H
      refine J0 H ?_
      replace H := Js [1,0,0,0,0,0] 0 H
      obtain ⟨_, _, H, _⟩ := TABX_out H
      refine J1 H ?_
      clear H; intro w H
      refine J193 H ?_
      refine A_load1 2 [12] H rfl (Wants.of rfl rfl rfl) rfl rfl (by kernel_rfl) ?_
      refine A_loadN 3 [12] H rfl (Wants.of rfl rfl rfl) rfl (by repeat (first | exact Reads.nil _ | apply Reads.cons rfl)) (by kernel_rfl) ?_
      refine A_load1 4 [12] H rfl (Wants.of rfl rfl rfl) rfl rfl (by kernel_rfl) ?_
      refine J188 H ?_
      refine A_fieldAddr 6 rfl (Wants.of rfl rfl rfl) rfl (by kernel_rfl) ?_
      refine A_load1 7 [12] H rfl (Wants.of rfl rfl rfl) rfl rfl (by kernel_rfl) ?_
      refine J189 H ?_
      refine A_indexAddr 9 rfl (Wants.of rfl rfl rfl) rfl rfl (by omega) (by omega) (by kernel_rfl) ?_
      rw [ei]
      refine J257 H ?_
      refine A_loadN 11 [12] H rfl (Wants.of rfl rfl rfl) rfl hrd (by kernel_rfl) ?_
      have Hc := hclose _ _ ts x rfl rfl hok H
      replace Hc := Js [4,0,0,0,0,0] 0 Hc
      refine Jo 12 H ?_
      refine St_yield rfl rfl (SL.Yields.mono (hyy _ _ g e hti ⟨_, hu.symm⟩ Hc) ?_)
      clear Hc
      clear H; rintro v w ⟨rfl, H⟩
      have he : (ks ++ [i]).filter (isUsed ts) = ks.filter (isUsed ts) ++ [i] := by rw [List.filter_append, List.filter_cons, if_pos hus]; rfl
      rw [← he] at H
      refine A_pv 13 rfl (Wants.of rfl rfl rfl) rfl (by kernel_rfl) ?_
      refine J178 H ?_
      refine J121 H ?_
      replace H := Js [1,0,0,0,0,0] 0 H
      obtain ⟨_, _, H, _⟩ := TABX_out H
      replace H := Js [6,3,4,0,0,2,0] 1 H
      exact ⟨rfl, _, H, fun w H => ⟨rfl, hin _ _ _ H⟩⟩
    | none =>
      have hus : isUsed ts i = false := by
        cases hu : isUsed ts i with
        | false => rfl
        | true =>
          obtain ⟨g', e', h1⟩ := isUsed_iff.1 hu
          rw [hti] at h1
          cases h1
      refine Lp_s rfl (St_call (a := []) (b := []) rfl rfl (call (tAt_noX p ts ⟨b, c, s, u, x⟩ i (by
              rintro ⟨k2, n2, e2, h1, h2⟩
              obtain rfl : i = k2 := by omega
              rw [hti] at h2
              cases h2) H) ?_))
      clear H; rintro v w ⟨rfl, H⟩
      refine J21 H ?_
      clear H; intro b4 w H
      refine J7 H ?_
      clear H; intro w H
      refine J0 H ?_
      refine J1 H ?_
      clear H; intro w H
      refine J193 H ?_
      refine A_no 2 rfl (Wants.of rfl rfl rfl) (fun c e => by cases e) (by kernel_rfl) ?_
      refine A_no 3 rfl (Wants.of rfl rfl rfl) (fun c e => by cases e) (by kernel_rfl) ?_
      refine A_no 4 rfl (Wants.of rfl rfl rfl) (fun c e => by cases e) (by kernel_rfl) ?_
      refine A_no 5 rfl (Wants.of rfl rfl rfl) (fun c e => by cases e) (by kernel_rfl) ?_
      refine A_no 6 rfl (Wants.of rfl rfl rfl) (fun c e => by cases e) (by kernel_rfl) ?_
      refine A_no 7 rfl (Wants.of rfl rfl rfl) (fun c e => by cases e) (by kernel_rfl) ?_
      refine A_no 8 rfl (Wants.of rfl rfl rfl) (fun c e => by cases e) (by kernel_rfl) ?_
      refine A_no 9 rfl (Wants.of rfl rfl rfl) (fun c e => by cases e) (by kernel_rfl) ?_
      refine A_no 10 rfl (Wants.of rfl rfl rfl) (fun c e => by cases e) (by kernel_rfl) ?_
      refine A_no 11 rfl (Wants.of rfl rfl rfl) (fun c e => by cases e) (by kernel_rfl) ?_
      refine A_no 12 rfl (Wants.of rfl rfl rfl) (fun c e => by cases e) (by kernel_rfl) ?_
      have he : (ks ++ [i]).filter (isUsed ts) = ks.filter (isUsed ts) := by rw [List.filter_append, List.filter_cons, if_neg (by rw [hus]; decide)]; exact List.append_nil _
      rw [← he] at H
      refine A_no 13 rfl (Wants.of rfl rfl rfl) (fun c e => by cases e) (by kernel_rfl) ?_
      refine J178 H ?_
      refine J121 H ?_
      replace H := Js [1,0,0,0,0,0] 0 H
      obtain ⟨_, _, H, _⟩ := TABX_out H
      replace H := Js [5,5,4,0,0,2,0] 1 H
      exact ⟨rfl, _, H, fun w H => ⟨rfl, hin _ _ _ H⟩⟩
  · clear H
    rintro v w H
    replace H := hout _ _ _ H
    rw [usedL_bits hok] at H
    subst hL
    refine ⟨_, H, fun w H => ?_⟩
    replace H := Js [2,2,4,4,0,0,0,0] 0 H
    replace H := hclose _ _ ts x rfl rfl hok H
    replace H := Js [1,1,1,0] 2 H
    exact fn_end (ms := [D]) _ (.inl rfl) ((Holds.star (k := [pts D (.deferred (some []))])).2 H) rfl fun w' H' => H'
end Go.Proofs.YtcaaojbnjfdglaaGreatDoor
namespace Go.Proofs.YtcaaojbnjfdglaaGreatDoor
open Go.SL

def farP (s : CS) (e : Ent) (p : Nat) : Bool := match lkE e p with
  | .obj a b => match lookT s.tab a b with
    | some (_, f) => decide (f.region ≠ e.region)
    | none => false
  | _ => false
theorem farP_obj {s : CS} {e f : Ent} {p a b c : Nat} (h : lkE e p = .obj a b) (h2 : lookT s.tab a b = some (c, f)) : farP s e p = decide (f.region ≠ e.region) := by
  unfold farP
  rw [h]
  show (match lookT s.tab a b with | some (_, f) => decide (f.region ≠ e.region) | none => false) = _
  rw [h2]
theorem farP_no {s : CS} {e : Ent} {p : Nat} (h : ∀ a b, lkE e p ≠ .obj a b) : farP s e p = false := by
  unfold farP
  split
  · rename_i a b h1
    exact absurd h1 (h a b)
  · rfl
def farE (s : CS) (k : Nat) (e : Ent) (l : List Nat) : List (Int × Int) := (l.filter (farP s e)).map fun p : Nat => ((k : Int), (p : Int))
def farK (s : CS) (k : Nat) : List (Int × Int) := match s.tab[k]? with
  | some ⟨_, some e⟩ => farE s k e (placesL (layE s e) e.ws.length)
  | _ => []
theorem farK_some {s : CS} {k g : Nat} {e : Ent} (h : s.tab[k]? = some ⟨g, some e⟩) : farK s k = farE s k e (placesL (layE s e) e.ws.length) := by
  unfold farK
  rw [h]
theorem farK_mem {s : CS} {k : Nat} {r : Int × Int} (h : r ∈ farK s k) : ∃ (g : Nat) (e : Ent) (p : Nat), s.tab[k]? = some ⟨g, some e⟩ ∧ r = ((k : Int), (p : Int)) ∧ p < e.ws.length ∧ isRefL (layE s e) p = true ∧ farP s e p = true := by
  unfold farK at h
  split at h
  · rename_i g e hk
    obtain ⟨p, hp, rfl⟩ := List.mem_map.1 h
    obtain ⟨h1, h2⟩ := List.mem_filter.1 hp
    obtain ⟨h3, h4⟩ := List.mem_filter.1 h1
    exact ⟨g, e, p, hk, rfl, List.mem_range.1 h3, h4, h2⟩
  · cases h
theorem far_rem {s : CS} (hI : Inv s) {k g p : Nat} {e : Ent} (hk : s.tab[k]? = some ⟨g, some e⟩) (hp : p < e.ws.length) (hr : isRefL (layE s e) p = true) (t : Int) : fnd s.rem ((k : Int), (p : Int)) = some t ↔ ∃ (a b : Nat) (f : Ent), lkE e p = .obj a b ∧ lookT s.tab a b = some (a, f) ∧ f.region ≠ e.region ∧ t = a := by
  rw [hI.rem]
  constructor
  · rintro ⟨j, q, g1, e1, a, b, f, h0, h1, h2, h3, h4, h5, h6, rfl⟩
    injection h0 with h01 h02
    obtain rfl : k = j := by omega
    obtain rfl : p = q := by omega
    rw [hk] at h1
    injection h1 with h1
    injection h1 with _ h1
    injection h1 with h1
    subst h1
    exact ⟨a, b, f, h4, h5, h6, rfl⟩
  · rintro ⟨a, b, f, h4, h5, h6, rfl⟩
    exact ⟨k, p, g, e, a, b, f, rfl, hk, hp, hr, h4, h5, h6, rfl⟩
/-- Each reference in one of two cases. -/
theorem far_case {s : CS} (hw : WF s) (hI : Inv s) {k g p : Nat} {e : Ent} (hk : s.tab[k]? = some ⟨g, some e⟩) (hp : p < e.ws.length) (hr : isRefL (layE s e) p = true) :
    (∃ (a b : Nat) (f : Ent), lkE e p = .obj a b ∧ lookT s.tab a b = some (a, f) ∧ farP s e p = decide (f.region ≠ e.region) ∧ fnd s.rem ((k : Int), (p : Int)) = if f.region ≠ e.region then some (a : Int) else none) ∨
    (∃ kd : Nat, kd < 2 ∧ lkv (lkE e p) = .agg #[.int .i64 kd, .int .i64 0, .int .i64 0] ∧ lookT s.tab 0 0 = none ∧ farP s e p = false ∧ fnd s.rem ((k : Int), (p : Int)) = none) := by
  have hz : lookT s.tab 0 0 = none := by
    cases h : lookT s.tab 0 0 with
    | none => rfl
    | some z =>
      obtain ⟨k, e⟩ := z
      obtain ⟨n, h1, h2, h3⟩ := lookT_some.1 h
      have this : 1 ≤ n := (hw.gen k _ h3).2 rfl
      omega
  have hno : (∀ a b, lkE e p ≠ .obj a b) → fnd s.rem ((k : Int), (p : Int)) = none := fun hn => by
    cases hf : fnd s.rem ((k : Int), (p : Int)) with
    | none => rfl
    | some t =>
      obtain ⟨a, b, f, h1, _⟩ := (far_rem hI hk hp hr t).1 hf
      exact absurd h1 (hn a b)
  cases hl : lkE e p with
  | none =>
    have hn : ∀ a b, lkE e p ≠ .obj a b := fun a b h => by rw [hl] at h; cases h
    exact .inr ⟨0, by omega, rfl, hz, farP_no hn, hno hn⟩
  | grave =>
    have hn : ∀ a b, lkE e p ≠ .obj a b := fun a b h => by rw [hl] at h; cases h
    exact .inr ⟨1, by omega, rfl, hz, farP_no hn, hno hn⟩
  | obj a b =>
    obtain ⟨f, hf⟩ := hI.link k g e p a b hk hp hr hl
    refine .inl ⟨a, b, f, rfl, hf, farP_obj hl hf, ?_⟩
    by_cases hne : f.region ≠ e.region
    · rw [if_pos hne]
      exact (far_rem hI hk hp hr a).2 ⟨a, b, f, hl, hf, hne, rfl⟩
    · rw [if_neg hne]
      cases hq : fnd s.rem ((k : Int), (p : Int)) with
      | none => rfl
      | some t =>
        obtain ⟨a', b', f', h1, h2, h3, _⟩ := (far_rem hI hk hp hr t).1 hq
        rw [hl] at h1
        injection h1 with h1 h1'
        subst h1 h1'
        rw [hf] at h2
        injection h2 with h2
        injection h2 with _ h2
        subst h2
        exact absurd h3 hne
theorem far_len {s : CS} (hI : Inv s) : ((usedL s.tab).flatMap (farK s)).length = s.rem.length := by
  have hnd : ((usedL s.tab).flatMap (farK s)).Nodup := by
    refine List.pairwise_flatMap.2 ⟨fun k hk => ?_, ?_⟩
    · unfold farK
      split
      · unfold farE placesL
        refine List.Pairwise.map _ (fun x y (h : x ≠ y) => fun heq => h ?_) ((List.nodup_range.filter _).filter _)
        injection heq with _ heq
        omega
      · exact List.Pairwise.nil
    · refine List.Pairwise.imp ?_ (List.nodup_range.filter _)
      intro k j (hkj : k ≠ j) x hx y hy heq
      obtain ⟨_, _, p, _, rfl, _⟩ := farK_mem hx
      obtain ⟨_, _, q, _, rfl, _⟩ := farK_mem hy
      injection heq with h1 _
      omega
  have h1 := sub_length hnd (l₂ := s.rem.map (·.1)) (by
    intro r hr
    obtain ⟨k, hk, hr⟩ := List.mem_flatMap.1 hr
    obtain ⟨g, e, p, h1, rfl, h2, h3, h4⟩ := farK_mem hr
    unfold farP at h4
    split at h4
    · rename_i a b hl
      obtain ⟨f, hf⟩ := hI.link k g e p a b h1 h2 h3 hl
      rw [hf] at h4
      have h4 : f.region ≠ e.region := by simpa using h4
      have := (far_rem hI h1 h2 h3 a).2 ⟨a, b, f, hl, hf, h4, rfl⟩
      exact List.mem_map.2 ⟨_, fnd_mem this, rfl⟩
    · cases h4)
  have h2 := sub_length hI.nd (l₂ := (usedL s.tab).flatMap (farK s)) (by
    intro r hr
    obtain ⟨⟨r', t⟩, hm, rfl⟩ := List.mem_map.1 hr
    obtain ⟨k, p, g, e, a, b, f, rfl, h1, h2, h3, h4, h5, h6, _⟩ := (hI.rem r' t).1 ((fnd_iff hI.nd).2 hm)
    have hkl := (List.getElem?_eq_some_iff.1 h1).1
    refine List.mem_flatMap.2 ⟨k, List.mem_filter.2 ⟨List.mem_range.2 hkl, isUsed_iff.2 ⟨g, e, h1⟩⟩, ?_⟩
    rw [farK_some h1]
    exact List.mem_map.2 ⟨p, List.mem_filter.2 ⟨List.mem_filter.2 ⟨List.mem_range.2 h2, h3⟩, by rw [farP_obj h4 h5]; simpa using h6⟩, rfl⟩)
  rw [List.length_map] at h1 h2
  omega
theorem farE_append (s : CS) (k : Nat) (e : Ent) (a b : List Nat) : farE s k e (a ++ b) = farE s k e a ++ farE s k e b := by
  unfold farE
  rw [List.filter_append, List.map_append]
theorem farE_one (s : CS) (k : Nat) (e : Ent) (a : List Nat) (p : Nat) : (farE s k e (a ++ [p])).length = (farE s k e a).length + if farP s e p = true then 1 else 0 := by
  rw [farE_append, List.length_append]
  unfold farE
  rw [List.filter_cons]
  split <;> rfl
theorem far_bound {s : CS} (hI : Inv s) {ks t : List Nat} {k g : Nat} {e : Ent} (hk : s.tab[k]? = some ⟨g, some e⟩) (h : usedL s.tab = ks ++ k :: t) {kp t2 : List Nat} (h2 : placesL (layE s e) e.ws.length = kp ++ t2) : (ks.flatMap (farK s)).length + (farE s k e kp).length ≤ s.rem.length := by
  rw [← far_len hI, h, List.flatMap_append, List.length_append, List.flatMap_cons, List.length_append, farK_some hk, h2, farE_append, List.length_append]
  omega
end Go.Proofs.YtcaaojbnjfdglaaGreatDoor
namespace Go.Proofs.YtcaaojbnjfdglaaGreatDoor
open Go.SL

end Go.Proofs.YtcaaojbnjfdglaaGreatDoor
namespace Go.Proofs.YtcaaojbnjfdglaaGreatDoor
open Go.SL

theorem TabOk.drop {ts : List Slt} {x k n : Nat} {e : Ent} (h : TabOk ts x) (hk : ts[k]? = some ⟨n, some e⟩) (hn : n < 255) : TabOk (ts.set k ⟨n, none⟩) (setB x k false) := by
  have hkl := (List.getElem?_eq_some_iff.1 hk).1
  refine ⟨by rw [List.length_set]; exact h.bits.set hkl, fun i u hu => ?_, fun i u hu => ?_⟩
  · rw [setB_bit]
    rcases tab_set hu with ⟨rfl, rfl, _⟩ | ⟨hne, hu⟩
    · rw [if_pos rfl]
      show false = ((none : Option Ent).isSome || n == 255)
      have : (n == 255) = false := by rw [beq_eq_false_iff_ne]; omega
      rw [this]
      rfl
    · rw [if_neg hne]; exact h.bit _ _ hu
  · rcases tab_set hu with ⟨rfl, rfl, _⟩ | ⟨_, hu⟩
    · show n ≤ 255; omega
    · exact h.gen _ _ hu

end Go.Proofs.YtcaaojbnjfdglaaGreatDoor
namespace Go.Proofs.YtcaaojbnjfdglaaGreatDoor
open Go.SL

/-- What is remembered is of used slots, each place once. -/
structure RemOK (s : CS) : Prop where
  nd : (s.rem.map (·.1)).Nodup
  key : ∀ r t, fnd s.rem r = some t → ∃ (k p g : Nat) (e : Ent), r = ((k : Int), (p : Int)) ∧ s.tab[k]? = some ⟨g, some e⟩ ∧ p < e.ws.length
theorem Inv.rk {s : CS} (h : Inv s) : RemOK s := ⟨h.nd, fun r t hr => by
  obtain ⟨k, p, g, e, a, b, f, h1, h2, h3, _⟩ := (h.rem r t).1 hr
  exact ⟨k, p, g, e, h1, h2, h3⟩⟩
def wordAt (ts : List Slt) (r : Int × Int) : Nat := match ts[r.1.toNat]? with
  | some ⟨_, some e⟩ => e.addr + 1 + r.2.toNat
  | _ => 0
theorem wordAt_some {ts : List Slt} {k p g : Nat} {e : Ent} (h : ts[k]? = some ⟨g, some e⟩) : wordAt ts ((k : Int), (p : Int)) = e.addr + 1 + p := by
  unfold wordAt
  show (match ts[((k : Int)).toNat]? with | some ⟨_, some e⟩ => e.addr + 1 + ((p : Int)).toNat | _ => 0) = _
  rw [Int.toNat_natCast, h, Int.toNat_natCast]
theorem rem_len {s : CS} (hw : WF s) (h : RemOK s) : s.rem.length ≤ 1000000 := by
  have key : ∀ r ∈ s.rem.map (·.1), ∃ (k p g : Nat) (e : Ent), r = ((k : Int), (p : Int)) ∧ s.tab[k]? = some ⟨g, some e⟩ ∧ p < e.ws.length := by
    intro r hr
    obtain ⟨⟨r', t⟩, h1, rfl⟩ := List.mem_map.1 hr
    exact h.key r' t ((fnd_iff h.nd).2 h1)
  have h1 : ((s.rem.map (·.1)).map (wordAt s.tab)).Nodup := by
    refine List.pairwise_map.2 (List.Pairwise.imp_of_mem ?_ h.nd)
    intro r r' hr hr' hne heq
    obtain ⟨k, p, g, e, rfl, h2, h3⟩ := key r hr
    obtain ⟨k', p', g', e', rfl, h2', h3'⟩ := key r' hr'
    rw [wordAt_some h2, wordAt_some h2'] at heq
    by_cases hk : k = k'
    · subst hk
      rw [h2] at h2'
      injection h2' with h2'
      injection h2' with _ h2'
      injection h2' with h2'
      subst h2'
      obtain rfl : p = p' := by omega
      exact hne rfl
    · have := hw.apart k k' g g' e e' hk h2 h2'
      unfold endOf at this
      omega
  have h2 := sub_length h1 (l₂ := List.range 64512) (by
    intro z hz
    obtain ⟨r, hr, rfl⟩ := List.mem_map.1 hz
    obtain ⟨k, p, g, e, rfl, h2, h3⟩ := key r hr
    rw [wordAt_some h2, List.mem_range]
    have h4 := (hw.obj k g e h2).2.1.1
    have h5 : s.own.length * s.size ≤ 63 * 1024 := Nat.mul_le_mul hw.own.2 hw.size.2
    unfold endOf at h4
    omega)
  rw [List.length_map, List.length_map, List.length_range] at h2
  omega
/-- What Lose leaves. -/
structure Lost (s : CS) (k n : Nat) (s' : CS) : Prop where
  size : s'.size = s.size
  own : s'.own = s.own
  lays : s'.lays = s.lays
  last : s'.last = s.last
  par : s'.par = s.par
  sps : s'.sps = s.sps
  tab : s'.tab = s.tab.set k ⟨n, none⟩
  nd : (s'.rem.map (·.1)).Nodup
  rem : ∀ r, fnd s'.rem r = if r.1 = (k : Int) then none else fnd s.rem r
theorem Lost.rk {s s' : CS} {k n : Nat} (h : Lost s k n s') (hR : RemOK s) : RemOK s' := by
  refine ⟨h.nd, fun r t hr => ?_⟩
  rw [h.rem] at hr
  split at hr
  · cases hr
  · rename_i hne
    obtain ⟨j, p, g, e, rfl, h1, h2⟩ := hR.key r t hr
    exact ⟨j, p, g, e, rfl, by rw [h.tab, List.getElem?_set_ne (by rintro rfl; exact hne rfl)]; exact h1, h2⟩
end Go.Proofs.YtcaaojbnjfdglaaGreatDoor
namespace Go.Proofs.YtcaaojbnjfdglaaGreatDoor
open Go.SL

set_option maxRecDepth 10000 in
theorem remembers_spec [Extra] (p : Nat) (s : CS) (m : MS) (told : List (Nat × Nat)) (hI : Inv s) {w : World} {fr : List HProp} [hT : HasTab 0 Lib.deBruijn64tab fr] (H : Holds w (RUN p s m told :: fr)) :
    Calls Tryz.prog 91 #[pp p] w (ret fun v w' => v = .bool true ∧ Holds w' (RUN p s m told :: fr)) := by
  obtain ⟨c, mo, a, cap, H⟩ := RUN_out H
  obtain ⟨q, mem, hw, hm, H⟩ := CELL_out H.swap
  replace H := Js [4,0,9,4,0,0,0,0,0,0,0,0,0,0] 0 H
  obtain ⟨tq, H, hTAB⟩ := TAB_X H
  refine calls_of Tryz.func91 rfl (by kernel_rfl) ?_
  refine J18 H ?_
  clear H; intro b2 w H
  refine Lp_nil ?_
  refine J41 H ?_
  refine J19 H ?_
  clear H; intro b3 w H
  refine J143 H ?_
  clear H; intro w H
  refine Lp_nil ?_
  refine J18 H ?_
  clear H; intro b4 w H
  refine J143 H ?_
  clear H; intro w H
  refine J114 H ?_
  refine J9 H ?_
  refine J29 H ?_
  refine Jc rfl rfl (tAll_spec q.tp H) ?_
  clear H; rintro v w ⟨bt, rfl, H⟩
  refine J153 H ?_
  refine C_block (C_rangeFunc (a := []) (b := [pp bt]) H rfl (fun yl D w H => ?_))
  generalize hL : LR _ yl _ _ _ _ D .ready = L at H ⊢
  obtain ⟨J, hJ⟩ : ∃ J : List Nat → HProp, J = fun ks => star [L, pts b4 (row 3 [.int .i64 ((ks.flatMap (farK s)).length : Nat)]), pts b3 (row 36 [pp c]), CROW c q, RS q.rp s.rem, IMG q.ip q.sp q.bp, BOOK q.bp s.lays, ST q.sp s.size mem s.own] := ⟨_, rfl⟩
  have hin : ∀ (ks : List Nat) (w : World) (l' : List HProp), Holds w (L :: pts b4 (row 3 [.int .i64 ((ks.flatMap (farK s)).length : Nat)]) :: pts b3 (row 36 [pp c]) :: CROW c q :: RS q.rp s.rem :: IMG q.ip q.sp q.bp :: BOOK q.bp s.lays :: ST q.sp s.size mem s.own :: l') → Holds w (J ks :: l') := by
    intro ks w l' H
    rw [hJ]
    exact Holds.star.2 H
  have hout : ∀ (ks : List Nat) (w : World) (l' : List HProp), Holds w (J ks :: l') → Holds w (L :: pts b4 (row 3 [.int .i64 ((ks.flatMap (farK s)).length : Nat)]) :: pts b3 (row 36 [pp c]) :: CROW c q :: RS q.rp s.rem :: IMG q.ip q.sp q.bp :: BOOK q.bp s.lays :: ST q.sp s.size mem s.own :: l') := by
    intro ks w l' H
    rw [hJ] at H
    exact Holds.star.1 H
  replace H := Js [0,2,2,4,5,5,5,5,1,2,0,0,0,0,0,0,0,0,0,0] 0 H
  replace H := hin [] _ _ H
  refine call (TabIter yl bt q.tp s.tab tq J ?_ H) ?_
  · clear H
    intro ks k g e rest w hk hpre H
    obtain ⟨t1, hpre⟩ := hpre
    replace H := hout _ _ _ H
    subst hL
    refine Yields_of (args := [tkn k g, .agg (evl e).toArray]) H rfl rfl ?_
    refine J18 H ?_
    clear H; intro b5 w H
    refine J7 H ?_
    clear H; intro w H
    refine Lp_nil ?_
    refine J18 H ?_
    clear H; intro b6 w H
    refine J7 H ?_
    clear H; intro w H
    refine Lp_nil ?_
    replace H := Js [2,0,0,0,0,0,0,0,0,0,0] 0 H
    refine ⟨rfl, _, H, fun w H => C_block ?_⟩
    refine J1 H ?_
    clear H; intro w H
    refine A_load1 0 [6] H rfl (Wants.none rfl) rfl rfl (by kernel_rfl) ?_
    refine J57 H ?_
    refine A_load1 3 [6] H rfl (Wants.none rfl) rfl rfl (by kernel_rfl) ?_
    refine A_fieldAddr 4 rfl (Wants.none rfl) rfl (by kernel_rfl) ?_
    refine A_load1 5 [6] H rfl (Wants.none rfl) rfl rfl (by kernel_rfl) ?_
    refine Jo 6 H ?_
    refine Jk rfl rfl (Links_spec q.ip e.addr H) ?_
    clear H; rintro v w ⟨bm, ba, rfl, H⟩
    refine J2 H ?_
    replace H := Js [2,0,0,0,0,0,0,0,0,0,0,0,0] 0 H
    refine J12 H ?_
    refine C_block (C_rangeFuncIn (a := []) (b := [pp bm, pp ba]) H rfl (fun yl2 w H => ?_))
    generalize hL2 : LR _ yl2 _ _ _ _ D .ready = L2 at H ⊢
    generalize hLB : LR _ yl _ _ _ _ D .busy = LB at H ⊢
    obtain ⟨J3, hJ3⟩ : ∃ J3 : List Nat → HProp, J3 = fun kp => star [L2, LB, pts b6 (row 109 (evl e)), pts b5 (row 32 [.int .i64 k, .int .i64 g]), pts b4 (row 3 [.int .i64 (((ks.flatMap (farK s)).length + (farE s k e kp).length : Nat) : Int)]), pts b3 (row 36 [pp c]), CROW c q, RS q.rp s.rem, TABX q.tp s.tab tq] := ⟨_, rfl⟩
    have hin3 : ∀ (kp : List Nat) (w : World) (l' : List HProp), Holds w (L2 :: LB :: pts b6 (row 109 (evl e)) :: pts b5 (row 32 [.int .i64 k, .int .i64 g]) :: pts b4 (row 3 [.int .i64 (((ks.flatMap (farK s)).length + (farE s k e kp).length : Nat) : Int)]) :: pts b3 (row 36 [pp c]) :: CROW c q :: RS q.rp s.rem :: TABX q.tp s.tab tq :: l') → Holds w (J3 kp :: l') := by
      intro kp w l' H
      rw [hJ3]
      exact Holds.star.2 H
    have hout3 : ∀ (kp : List Nat) (w : World) (l' : List HProp), Holds w (J3 kp :: l') → Holds w (L2 :: LB :: pts b6 (row 109 (evl e)) :: pts b5 (row 32 [.int .i64 k, .int .i64 g]) :: pts b4 (row 3 [.int .i64 (((ks.flatMap (farK s)).length + (farE s k e kp).length : Nat) : Int)]) :: pts b3 (row 36 [pp c]) :: CROW c q :: RS q.rp s.rem :: TABX q.tp s.tab tq :: l') := by
      intro kp w l' H
      rw [hJ3] at H
      exact Holds.star.1 H
    replace H := Js [0,0,2,2,2,2,2,2,5,0,0,0,0,0] 0 H
    replace H := hin3 [] _ _ H
    refine call (LinksIter yl2 bm ba q.ip q.sp q.bp s.size s.lays s.own e.addr e.lay e.count k e.ws.length (layE s e) (lkE e) (fun x => x = mem) (fun x hx => by rw [hx]; exact lkOK_of hw hm hk) J3 ?_ rfl H) ?_
    · clear H
      intro kp pl mem' rest2 w hme hpre2 H
      have hme : mem' = mem := hme
      rw [hme] at H
      obtain ⟨t2, hpre2⟩ := hpre2
      obtain ⟨hpl, hpr⟩ := places_at hpre2
      replace H := hout3 _ _ _ H
      have hb := far_bound hI hk hpre hpre2
      have hb2 := rem_len hw hI.rk
      have he := farE_one s k e kp pl
      rcases far_case hw hI hk hpl hpr with ⟨a1, b1, f, hlk, hlt, hfp, hfd⟩ | ⟨kd, hkd, hkv, hlt, hfp, hfd⟩
      · rw [show lkv (lkE e pl) = .agg #[.int .i64 2, .int .i64 a1, .int .i64 b1] by rw [hlk]]
        subst hL2
        refine Yields_of (args := [.int .i64 pl, .agg #[.int .i64 2, .int .i64 a1, .int .i64 b1]]) H rfl rfl ?_
        refine J14 H ?_
        refine J18 H ?_
        clear H; intro b8 w H
        refine J7 H ?_
        clear H; intro w H
        refine Lp_nil ?_
        replace H := Js [1,0,0,0,0,0,0,0,0,0,0,0,0] 0 H
        refine ⟨rfl, _, H, fun w H => C_block ?_⟩
        replace H := Js [8,7,6,4,1,2,2,2,0,0,0,0,0] 0 H
        refine J1 H ?_
        clear H; intro w H
        refine J251 H ?_
        refine J186 H ?_
        refine A_build 7 rfl (Wants.none rfl) rfl (by kernel_rfl) ?_
        refine Jo 8 H ?_
        refine Jk rfl rfl (rTo_spec q.rp s.rem ((k : Int), (pl : Int)) H) ?_
        clear H; rintro v w ⟨rfl, H⟩
        rw [hfd]
        by_cases hne : f.region ≠ e.region
        · rw [if_pos hne, Option.getD_some, Option.isSome_some]
          rw [hfp, decide_eq_true hne, if_pos rfl] at he
          have he1 : (ks.flatMap (farK s)).length + (farE s k e kp).length + 1 = (ks.flatMap (farK s)).length + (farE s k e (kp ++ [pl])).length := by omega
          refine J208 H ?_
          refine J56 H ?_
          refine J2 H ?_
          replace H := Js [7,1,1,2,0,0,0,0,0,0,0,0,0] 0 H
          refine J1 H ?_
          clear H; intro w H
          refine J275 H ?_
          refine J57 H ?_
          refine J185 H ?_
          refine A_two 6 10 rfl rfl (by kernel_rfl) (by repeat first | exact .nil | refine .cons (.inr H.at) ?_ | refine .cons (.inr H.mp) ?_ | refine .cons (.inl (by kernel_rfl)) ?_) (Wants.none rfl) (Wants.none rfl) (St_call (a := []) (b := []) rfl rfl (call (tGetV_specX q.tp s.tab tq a1 b1 H) ?_)) (St_alloc H rfl ?_)
          · clear H; rintro v w ⟨rfl, H⟩
            rw [hlt]
            refine J132 H ?_
            clear H; intro b11 w H
            refine J34 H ?_
            clear H; intro w H
            refine J260 H ?_
            rw [show ((f.region : Int) != e.region) = true from bne_iff_ne.2 hne]
            refine J280 H ?_
            refine J129 H ?_
            refine J123 H ?_
            refine J83 H ?_
            rw [show (((a1 : Nat) : Int) != ((a1 : Nat) : Int)) = false from bne_self_eq_false _]
            refine J262 H ?_
            refine J11 H ?_
            refine J190 H ?_
            refine J143 H ?_
            clear H; intro w H
            refine Lp_nil ?_
            rw [inc64 (by omega), he1] at H
            replace H := Js [9,9,7,6,6,3,2,3,1,2,2,2] 2 H
            exact ⟨rfl, _, H, fun w H => ⟨rfl, mem, rfl, hin3 _ _ _ H⟩⟩
          · clear H; intro b11 w H
            refine Jo 6 H ?_
            refine Jk rfl rfl (tGetV_specX q.tp s.tab tq a1 b1 H.swap) ?_
            clear H; rintro v w ⟨rfl, H⟩
            rw [hlt]
            refine J133 H ?_
            replace H := H.swap
            refine J34 H ?_
            clear H; intro w H
            refine J260 H ?_
            rw [show ((f.region : Int) != e.region) = true from bne_iff_ne.2 hne]
            refine J280 H ?_
            refine J129 H ?_
            refine J123 H ?_
            refine J83 H ?_
            rw [show (((a1 : Nat) : Int) != ((a1 : Nat) : Int)) = false from bne_self_eq_false _]
            refine J262 H ?_
            refine J11 H ?_
            refine J190 H ?_
            refine J143 H ?_
            clear H; intro w H
            refine Lp_nil ?_
            rw [inc64 (by omega), he1] at H
            replace H := Js [9,9,7,6,6,3,2,3,1,2,2,2] 2 H
            exact ⟨rfl, _, H, fun w H => ⟨rfl, mem, rfl, hin3 _ _ _ H⟩⟩
        · rw [if_neg hne, Option.getD_none, Option.isSome_none]
          rw [hfp, decide_eq_false hne, if_neg (by decide)] at he
          have hne' : f.region = e.region := Classical.byContradiction hne
          have he1 : (ks.flatMap (farK s)).length + (farE s k e kp).length = (ks.flatMap (farK s)).length + (farE s k e (kp ++ [pl])).length := by omega
          refine J208 H ?_
          refine J56 H ?_
          refine J2 H ?_
          replace H := Js [7,1,1,2,0,0,0,0,0,0,0,0,0] 0 H
          refine J1 H ?_
          clear H; intro w H
          refine J275 H ?_
          refine J57 H ?_
          refine J185 H ?_
          refine A_two 6 10 rfl rfl (by kernel_rfl) (by repeat first | exact .nil | refine .cons (.inr H.at) ?_ | refine .cons (.inr H.mp) ?_ | refine .cons (.inl (by kernel_rfl)) ?_) (Wants.none rfl) (Wants.none rfl) (St_call (a := []) (b := []) rfl rfl (call (tGetV_specX q.tp s.tab tq a1 b1 H) ?_)) (St_alloc H rfl ?_)
          · clear H; rintro v w ⟨rfl, H⟩
            rw [hlt]
            refine J132 H ?_
            clear H; intro b11 w H
            refine J34 H ?_
            clear H; intro w H
            refine J260 H ?_
            rw [show ((f.region : Int) != e.region) = false by rw [hne']; exact bne_self_eq_false _]
            refine J261 H ?_
            rw [he1] at H
            replace H := Js [9,9,7,6,6,3,2,3,1,2,2,2] 2 H
            exact ⟨rfl, _, H, fun w H => ⟨rfl, mem, rfl, hin3 _ _ _ H⟩⟩
          · clear H; intro b11 w H
            refine Jo 6 H ?_
            refine Jk rfl rfl (tGetV_specX q.tp s.tab tq a1 b1 H.swap) ?_
            clear H; rintro v w ⟨rfl, H⟩
            rw [hlt]
            refine J133 H ?_
            replace H := H.swap
            refine J34 H ?_
            clear H; intro w H
            refine J260 H ?_
            rw [show ((f.region : Int) != e.region) = false by rw [hne']; exact bne_self_eq_false _]
            refine J261 H ?_
            rw [he1] at H
            replace H := Js [9,9,7,6,6,3,2,3,1,2,2,2] 2 H
            exact ⟨rfl, _, H, fun w H => ⟨rfl, mem, rfl, hin3 _ _ _ H⟩⟩
      · rw [hkv]
        subst hL2
        refine Yields_of (args := [.int .i64 pl, .agg #[.int .i64 kd, .int .i64 0, .int .i64 0]]) H rfl rfl ?_
        refine J14 H ?_
        refine J18 H ?_
        clear H; intro b8 w H
        refine J7 H ?_
        clear H; intro w H
        refine Lp_nil ?_
        replace H := Js [1,0,0,0,0,0,0,0,0,0,0,0,0] 0 H
        refine ⟨rfl, _, H, fun w H => C_block ?_⟩
        replace H := Js [8,7,6,4,1,2,2,2,0,0,0,0,0] 0 H
        refine J1 H ?_
        clear H; intro w H
        refine J251 H ?_
        refine J186 H ?_
        refine A_build 7 rfl (Wants.none rfl) rfl (by kernel_rfl) ?_
        refine Jo 8 H ?_
        refine Jk rfl rfl (rTo_spec q.rp s.rem ((k : Int), (pl : Int)) H) ?_
        clear H; rintro v w ⟨rfl, H⟩
        rw [hfd]
        rw [Option.getD_none, Option.isSome_none]
        rw [hfp, if_neg (by decide)] at he
        have he1 : (ks.flatMap (farK s)).length + (farE s k e kp).length = (ks.flatMap (farK s)).length + (farE s k e (kp ++ [pl])).length := by omega
        refine J208 H ?_
        refine J56 H ?_
        refine J2 H ?_
        replace H := Js [7,1,1,2,0,0,0,0,0,0,0,0,0] 0 H
        refine J1 H ?_
        clear H; intro w H
        refine J275 H ?_
        refine J57 H ?_
        refine J185 H ?_
        refine A_two 6 10 rfl rfl (by kernel_rfl) (by repeat first | exact .nil | refine .cons (.inr H.at) ?_ | refine .cons (.inr H.mp) ?_ | refine .cons (.inl (by kernel_rfl)) ?_) (Wants.none rfl) (Wants.none rfl) (St_call (a := []) (b := []) rfl rfl (call (tGetV_specX q.tp s.tab tq 0 0 H) ?_)) (St_alloc H rfl ?_)
        · clear H; rintro v w ⟨rfl, H⟩
          rw [hlt]
          refine J132 H ?_
          clear H; intro b11 w H
          refine J34 H ?_
          clear H; intro w H
          refine J42 H ?_
          refine J66 H ?_
          rw [show (((kd : Nat) : Int) == 2) = false by rw [beq_eq_false_iff_ne]; omega]
          refine J9 H ?_
          refine J173 H ?_
          refine Lp_no rfl rfl rfl ?_
          refine J261 H ?_
          rw [he1] at H
          replace H := Js [9,9,7,6,6,3,2,3,1,2,2,2] 2 H
          exact ⟨rfl, _, H, fun w H => ⟨rfl, mem, rfl, hin3 _ _ _ H⟩⟩
        · clear H; intro b11 w H
          refine Jo 6 H ?_
          refine Jk rfl rfl (tGetV_specX q.tp s.tab tq 0 0 H.swap) ?_
          clear H; rintro v w ⟨rfl, H⟩
          rw [hlt]
          refine J133 H ?_
          replace H := H.swap
          refine J34 H ?_
          clear H; intro w H
          refine J42 H ?_
          refine J66 H ?_
          rw [show (((kd : Nat) : Int) == 2) = false by rw [beq_eq_false_iff_ne]; omega]
          refine J9 H ?_
          refine J173 H ?_
          refine Lp_no rfl rfl rfl ?_
          refine J261 H ?_
          rw [he1] at H
          replace H := Js [9,9,7,6,6,3,2,3,1,2,2,2] 2 H
          exact ⟨rfl, _, H, fun w H => ⟨rfl, mem, rfl, hin3 _ _ _ H⟩⟩
    · clear H
      rintro v w H
      obtain ⟨mem', hme, H⟩ := H
      have hme : mem' = mem := hme
      rw [hme] at H
      replace H := hout3 _ _ _ H
      subst hL2
      refine ⟨_, H, fun w H => ?_⟩
      subst hLB
      have hc : (ks.flatMap (farK s)).length + (farE s k e (placesL (layE s e) e.ws.length)).length = ((ks ++ [k]).flatMap (farK s)).length := by
        rw [List.flatMap_append, List.length_append, ← farK_some hk]
        simp
      rw [hc] at H
      replace H := Js [0,2,2,2,2,5,5,5,2] 4 H
      exact ⟨rfl, _, H, fun w H => ⟨rfl, hin _ _ _ H⟩⟩
  · clear H
    rintro v w H
    replace H := hout _ _ _ H
    rw [far_len hI] at H
    subst hL
    refine ⟨_, H, fun w H => ?_⟩
    replace H := Js [3,2,1,0,0,0,0,0,0,0,0,0,0,0,0,0,0,0,0] 0 H
    refine J1 H ?_
    clear H; intro w H
    refine A_load1 0 [4, 7] H rfl (Wants.none rfl) rfl rfl (by kernel_rfl) ?_
    refine J57 H ?_
    refine A_load1 3 [4, 7] H rfl (Wants.none rfl) rfl rfl (by kernel_rfl) ?_
    refine A_load1 5 [7] H rfl (Wants.none rfl) rfl rfl (by kernel_rfl) ?_
    refine Jo 4 H ?_
    refine Jk rfl rfl (rLen_spec q.rp s.rem H) ?_
    clear H; rintro v w ⟨rfl, H⟩
    refine J186 H ?_
    rw [show ((s.rem.length : Int) == (s.rem.length : Int)) = true from beq_self_eq_true _]
    refine Jo 7 H ?_
    refine J73 H ?_
    clear H; intro w H
    refine J2 H ?_
    replace H := Js [8,0,0,0,0,0,0,0,0,0,0,0,0,0,0,0,0,0,0] 0 H
    replace H := hTAB _ _ H
    replace H := Js [2,4,4,4,0,7,0,6,6,6,6,5,5,5,3,3] 3 H
    replace H := CELL_in hw hm H
    replace H := Js [1,0,0,0,0,0] 0 H
    replace H := RUN_in H
    replace H := Js [1,1,0] 0 H
    exact C_ret (fn_endCD (ms := [D]) _ (.inr rfl) ((Holds.star (k := [pts D (.deferred (some []))])).2 H) (fun w' H' => .cell1 H' rfl rfl .nil) fun w' H' => ⟨rfl, H'.drop⟩)
end Go.Proofs.YtcaaojbnjfdglaaGreatDoor
namespace Go.Proofs.YtcaaojbnjfdglaaGreatDoor
open Go.SL

theorem uChunks_spec [Extra] (p sp owner : Nat) (S : Spc) (hp : S.parts.length ≤ 100000) (hq : ∀ x ∈ S.parts, x.1 + x.2 ≤ 100000) (hc : (chunksOf S.parts).length ≤ 100000) {w : World} {fr : List HProp} (H : Holds w (SPC p sp owner S :: fr)) :
    Calls Tryz.prog 89 #[pp p] w (ret fun v w' => ∃ a c, v = .slice a (chunksOf S.parts).length c ∧ Holds w' (NL v (chunksOf S.parts) :: SPC p sp owner S :: fr)) := by
  obtain ⟨a, c, H⟩ := SPC_out H
  refine calls_of Tryz.func89 rfl (by kernel_rfl) ?_
  refine J14 H ?_
  refine J87 H ?_
  refine J157 H ?_
  replace H := sls_nil (E := 3) (k := 1) H
  refine J23 H ?_
  refine C_loop (fun ms σ w z => ms = [] ∧ ∃ (i : Nat) (a3 : Option Addr) (c3 : Nat), i ≤ S.parts.length ∧ z = S.parts.length - i ∧ σ 3 = .slice a3 (chunksOf (S.parts.take i)).length c3 ∧ σ 13 = .slice a S.parts.length c ∧ σ 14 = .int .i64 S.parts.length ∧ σ 15 = .int .i64 i ∧ Holds w (NL (.slice a3 (chunksOf (S.parts.take i)).length c3) (chunksOf (S.parts.take i)) :: pts p (row 221 [pp sp, .int .i64 owner, .slice a S.parts.length c, .int .i64 S.at', .int .i64 S.fin]) :: sls 224 2 (.slice a S.parts.length c) (S.parts.flatMap ptv) :: fr)) (m := S.parts.length) ⟨rfl, 0, none, 0, by omega, rfl, rfl, rfl, rfl, rfl, H⟩ ?_
  clear H
  rintro ms σ w z ⟨rfl, i, a3, c3, hi, rfl, g3, g13, g14, g15, H⟩
  rw [upd_self g3, upd_self g13, upd_self g14, upd_self g15]
  refine J25 H ?_
  refine C_dec rfl (fun h => C_skip ?_) (fun h => C_exit ?_)
  · have hlt : i < S.parts.length := by omega
    have hn := List.getElem?_eq_getElem hlt
    have htk : S.parts.take (i + 1) = S.parts.take i ++ [S.parts[i]] := by rw [List.take_add_one, hn]; rfl
    have hle : (chunksOf (S.parts.take (i + 1))).length ≤ 100000 := by
      refine Nat.le_trans ?_ hc
      conv => rhs; rw [← List.take_append_drop (i + 1) S.parts]
      rw [chunksOf_append, List.length_append]
      omega
    have hx := hq _ (List.getElem_mem hlt)
    generalize S.parts[i] = x at hn htk hx
    obtain ⟨x1, x2⟩ := x
    rw [htk, chunksOf_append, chunksOf_one, List.length_append, List.length_map, List.length_range] at hle
    have hx : x1 + x2 ≤ 100000 := hx
    have hcq : chunksOf (S.parts.take (i + 1)) = chunksOf (S.parts.take i) ++ (List.range x2).map (x1 + ·) := by rw [htk, chunksOf_append, chunksOf_one]
    clear g3
    generalize chunksOf (S.parts.take i) = Q at H hle hcq ⊢
    have hl : (chunksOf (S.parts.take (i + 1))).length = Q.length + x2 := by rw [hcq, List.length_append, List.length_map, List.length_range]
    replace H := Js [2,0,0] 0 H
    obtain ⟨bT, sT, rfl, H, hcl⟩ := sls_open H (by omega)
    have hrd : Reads (S.parts.flatMap ptv ++ sT) (i * 2 + 0) 2 (ptv (x1, x2)) := flat_reads (vs := ptv (x1, x2)) ptv_len hn (by repeat (first | exact Reads.nil _ | apply Reads.cons rfl))
    have ei : 0 + ((i : Nat) : Int).toNat * 2 = i * 2 := by simp
    refine J58 H ?_
    refine Lp_s rfl (St_indexAddr rfl rfl (by omega) (by omega) rfl ?_)
    rw [ei]
    refine Lp_s rfl (St_loadN H rfl hrd rfl ?_)
    refine J19 H ?_
    clear H; intro b5 w H
    refine J7 H ?_
    clear H; intro w H
    refine Lp_nil ?_
    refine J71 H ?_
    refine J0 H ?_
    replace H := hcl _ _ H.swap
    replace H := Js [2,1,1,0] 0 H
    refine J12 H ?_
    refine C_join (fun ms σ w => ms = [] ∧ ∃ (a3 : Option Addr) (c3 : Nat), σ 3 = .slice a3 (Q.length + x2) c3 ∧ σ 13 = .slice (some ⟨bT, 0, none⟩) S.parts.length c ∧ σ 14 = .int .i64 S.parts.length ∧ σ 15 = .int .i64 i ∧ Holds w (NL (.slice a3 (Q.length + x2) c3) (Q ++ (List.range x2).map (x1 + ·)) :: pts p (row 221 [pp sp, .int .i64 owner, .slice (some ⟨bT, 0, none⟩) S.parts.length c, .int .i64 S.at', .int .i64 S.fin]) :: sls 224 2 (.slice (some ⟨bT, 0, none⟩) S.parts.length c) (S.parts.flatMap ptv) :: fr)) ?_ ?_
    · refine C_block ?_
      refine C_loop (fun ms σ w z => ms = [] ∧ ∃ (j : Nat) (a3 : Option Addr) (c3 : Nat), j ≤ x2 ∧ z = x2 - j ∧ σ 3 = .slice a3 (Q.length + j) c3 ∧ σ 5 = pp b5 ∧ σ 13 = .slice (some ⟨bT, 0, none⟩) S.parts.length c ∧ σ 14 = .int .i64 S.parts.length ∧ σ 15 = .int .i64 i ∧ σ 20 = .int .i64 x2 ∧ σ 21 = .int .i64 j ∧ Holds w (NL (.slice a3 (Q.length + j) c3) (Q ++ (List.range j).map (x1 + ·)) :: pts b5 (row 224 [.int .i64 x1, .int .i64 x2]) :: pts p (row 221 [pp sp, .int .i64 owner, .slice (some ⟨bT, 0, none⟩) S.parts.length c, .int .i64 S.at', .int .i64 S.fin]) :: sls 224 2 (.slice (some ⟨bT, 0, none⟩) S.parts.length c) (S.parts.flatMap ptv) :: fr)) (m := x2) ⟨rfl, 0, a3, c3, by omega, rfl, rfl, rfl, rfl, rfl, rfl, rfl, rfl, by rw [List.range_zero, List.map_nil, List.append_nil]; exact H⟩ ?_
      clear H
      rintro ms σ w z ⟨rfl, j, a3, c3, hj, rfl, g3, g5, g13, g14, g15, g20, g21, H⟩
      rw [upd_self g3, upd_self g5, upd_self g13, upd_self g14, upd_self g15, upd_self g20, upd_self g21]
      refine J25 H ?_
      refine C_dec rfl (fun h => C_skip ?_) (fun h => C_exit ?_)
      · have hjl : j < x2 := by omega
        refine J100 H ?_
        refine J16 H ?_
        refine J88 H ?_
        rw [show IntKind.i64.wrap ((x1 : Int) + (j : Int)) = ((x1 + j : Nat) : Int) by rw [wrap64 (by omega) (by omega)]; omega]
        refine J39 H ?_
        clear H; intro b29 w H
        replace H := Js [1,0,0,0,0] 0 H
        refine Lp_s rfl (St_append H rfl rfl (by repeat (first | exact Reads.nil _ | apply Reads.cons rfl)) rfl (by decide) (by rw [ncells_length, List.length_append, List.length_map, List.length_range]; simp only [List.length_cons, List.length_nil]; omega) rfl rfl ?_)
        clear H; intro v30 w H
        rw [show ncells (Q ++ (List.range j).map (x1 + ·)) ++ [.int .i64 ((x1 + j : Nat) : Int)] = ncells (Q ++ (List.range (j + 1)).map (x1 + ·)) by rw [List.range_succ, List.map_append, ← List.append_assoc]; exact (ncells_append (Q ++ (List.range j).map (x1 + ·)) [x1 + j]).symm] at H
        obtain ⟨a30, c30, rfl⟩ := sls_slice H (m := Q.length + (j + 1)) (by rw [ncells_length, List.length_append, List.length_map, List.length_range]) (by decide)
        refine J22 H ?_
        replace H := Js [0,1,1,1] 1 H
        exact ⟨_, ⟨rfl, j + 1, a30, c30, hjl, rfl, rfl, rfl, rfl, rfl, rfl, rfl, inc64 (by omega), H⟩, by omega⟩
      · have hge : j = x2 := by omega
        subst hge
        replace H := Js [0,1,1] 1 H
        exact ⟨rfl, rfl, a3, c3, rfl, rfl, rfl, rfl, H⟩
    clear H
    rintro ms σ w ⟨rfl, a3, c3, g3, g13, g14, g15, H⟩
    rw [upd_self g3, upd_self g13, upd_self g14, upd_self g15]
    refine J3 H ?_
    exact ⟨_, ⟨rfl, i + 1, a3, c3, hlt, rfl, by rw [hl]; rfl, rfl, rfl, inc64 (by omega), by rw [hl, hcq]; exact H⟩, by omega⟩
  · have hge : i = S.parts.length := by omega
    subst hge
    rw [List.take_length] at H ⊢
    refine J3 H ?_
    replace H := Js [1,1,0] 0 H
    exact C_ret (Jy (SPC_in H) rfl fun w' H' => ⟨_, _, rfl, H'.swap⟩)
end Go.Proofs.YtcaaojbnjfdglaaGreatDoor
namespace Go.Proofs.YtcaaojbnjfdglaaGreatDoor
open Go.SL

theorem sum_one {ids : List Nat} (hn : ids.Nodup) {r : Nat} (h : r ∈ ids) : (ids.map fun i => if r = i then 1 else 0).sum = 1 := by
  induction ids with
  | nil => cases h
  | cons a l ih =>
    rw [List.nodup_cons] at hn
    rw [List.map_cons, List.sum_cons]
    by_cases hr : r = a
    · subst hr
      have h0 : ∀ l' : List Nat, r ∉ l' → (l'.map fun i => if r = i then 1 else 0).sum = 0 := by
        intro l'
        induction l' with
        | nil => intro _; rfl
        | cons b l' ih =>
          intro h
          rw [List.mem_cons, not_or] at h
          rw [List.map_cons, List.sum_cons, if_neg h.1, ih h.2]
      rw [if_pos rfl, h0 l hn.1]
    · rw [if_neg hr, Nat.zero_add]
      rw [List.mem_cons] at h
      exact ih hn.2 (h.resolve_left hr)
theorem sum_add (ids : List Nat) (f g : Nat → Nat) : (ids.map fun i => f i + g i).sum = (ids.map f).sum + (ids.map g).sum := by
  induction ids with
  | nil => rfl
  | cons a l ih => rw [List.map_cons, List.sum_cons, ih, List.map_cons, List.sum_cons, List.map_cons, List.sum_cons]; omega
/-- What each of some has of a list comes to all of it. -/
theorem sum_filter {α : Type} {ids : List Nat} (hn : ids.Nodup) (f : α → Nat) : ∀ {L : List α}, (∀ a ∈ L, f a ∈ ids) → (ids.map fun i => (L.filter fun a => decide (f a = i)).length).sum = L.length
  | [], _ => by
    have : ∀ l : List Nat, (l.map fun i => (([] : List α).filter fun a => decide (f a = i)).length).sum = 0 := by
      intro l
      induction l with
      | nil => rfl
      | cons b l ih => rw [List.map_cons, List.sum_cons, ih]; rfl
    exact this ids
  | a :: L, h => by
    have ih := sum_filter hn f (L := L) fun b hb => h b (List.mem_cons_of_mem _ hb)
    have h1 := sum_one hn (h a List.mem_cons_self)
    have e : (fun i => ((a :: L).filter fun a => decide (f a = i)).length) = fun i => (if f a = i then 1 else 0) + (L.filter fun a => decide (f a = i)).length := by
      funext i
      rw [List.filter_cons]
      by_cases hi : f a = i
      · rw [if_pos (by simpa using hi), if_pos hi, List.length_cons, Nat.add_comm]
      · rw [if_neg (by simpa using hi), if_neg hi, Nat.zero_add]
    rw [e, sum_add, h1, ih, List.length_cons, Nat.add_comm]

/-! ### The regions' objects -/
def regOf (ts : List Slt) (i : Nat) : Nat := match ts[i]? with
  | some ⟨_, some e⟩ => e.region.toNat
  | _ => 0
theorem mine_len {s : CS} (hw : WF s) {x : Int × Nat × List Nat} (hx : x ∈ s.mns) : x.2.2 = (usedL s.tab).filter fun i => decide (regOf s.tab i = x.1.toNat) := by
  obtain ⟨h1, h2⟩ := hw.mine x hx
  have hx1 : 1 ≤ x.1 := by
    have : x.1 ∈ s.mns.map (·.1) := List.mem_map.2 ⟨x, hx, rfl⟩
    rw [hw.mkeys] at this
    obtain ⟨⟨r, q⟩, hq, he⟩ := List.mem_map.1 this
    have := (hw.par.2.2 r q hq).1
    have he : r = x.1 := he
    omega
  refine sortedN_eq h1 ((List.pairwise_lt_range.filter _).filter _) fun i => ?_
  rw [h2, List.mem_filter]
  unfold usedL
  rw [List.mem_filter, List.mem_range, isUsed_iff]
  constructor
  · rintro ⟨g, e, h3, h4⟩
    refine ⟨⟨(List.getElem?_eq_some_iff.1 h3).1, g, e, h3⟩, ?_⟩
    have : regOf s.tab i = e.region.toNat := by unfold regOf; rw [h3]
    rw [this, h4]
    simp
  · rintro ⟨⟨_, g, e, h3⟩, h4⟩
    refine ⟨g, e, h3, ?_⟩
    have : regOf s.tab i = e.region.toNat := by unfold regOf; rw [h3]
    rw [this] at h4
    have h4 : e.region.toNat = x.1.toNat := by simpa using h4
    obtain ⟨_, _, q, hq⟩ := hw.obj i g e h3
    have := (hw.par.2.2 _ _ hq).1
    omega
theorem range_filter_len {α : Type} {f : Nat → Bool} {g : α → Bool} {ts : List α} (h : ∀ (i : Nat) (t : α), ts[i]? = some t → f i = g t) : ((List.range ts.length).filter f).length = (ts.filter g).length := by
  have e2 : ∀ (l : List α) (k : Nat), (∀ (i : Nat) (t : α), l[i]? = some t → f (k + i) = g t) → ((List.range' k l.length).filter f).length = (l.filter g).length := by
    intro l
    induction l with
    | nil => intro k _; rfl
    | cons a l ih =>
      intro k hk
      have h0 := hk 0 a rfl
      have hr := ih (k + 1) (fun i t ht => by rw [show k + 1 + i = k + (i + 1) by omega]; exact hk (i + 1) t (by simpa using ht))
      rw [List.length_cons, List.range'_succ, List.filter_cons, List.filter_cons]
      rw [Nat.add_zero] at h0
      rw [h0]
      split
      · simp [hr]
      · exact hr
  rw [List.range_eq_range']
  exact e2 ts 0 (fun i t ht => by rw [Nat.zero_add]; exact h i t ht)
theorem usedL_len (ts : List Slt) : (usedL ts).length = (ts.filter fun t => t.ent.isSome).length := by
  refine range_filter_len fun i t ht => ?_
  unfold isUsed
  rw [ht]
  obtain ⟨g, e⟩ := t
  cases e <;> rfl
theorem busy_split : ∀ ts : List Slt, busyT ts = (ts.filter fun t => t.ent.isSome).length + goneT ts
  | [] => rfl
  | t :: ts => by
    have ih := busy_split ts
    unfold busyT goneT at *
    obtain ⟨g, e⟩ := t
    cases e with
    | some e =>
      have a : (⟨g, some e⟩ :: ts : List Slt).filter busy = ⟨g, some e⟩ :: ts.filter busy := List.filter_cons_of_pos rfl
      have b : (⟨g, some e⟩ :: ts : List Slt).filter (fun t => t.ent.isNone && t.gen == 255) = ts.filter (fun t => t.ent.isNone && t.gen == 255) := List.filter_cons_of_neg (by simp)
      have c : (⟨g, some e⟩ :: ts : List Slt).filter (fun t => t.ent.isSome) = ⟨g, some e⟩ :: ts.filter (fun t => t.ent.isSome) := List.filter_cons_of_pos rfl
      rw [a, b, c, List.length_cons, List.length_cons]
      omega
    | none =>
      have c : (⟨g, none⟩ :: ts : List Slt).filter (fun t => t.ent.isSome) = ts.filter (fun t => t.ent.isSome) := List.filter_cons_of_neg (by simp)
      by_cases hg : (g == 255) = true
      · have a : (⟨g, none⟩ :: ts : List Slt).filter busy = ⟨g, none⟩ :: ts.filter busy := List.filter_cons_of_pos hg
        have b : (⟨g, none⟩ :: ts : List Slt).filter (fun t => t.ent.isNone && t.gen == 255) = ⟨g, none⟩ :: ts.filter (fun t => t.ent.isNone && t.gen == 255) := List.filter_cons_of_pos hg
        rw [a, b, c, List.length_cons, List.length_cons]
        omega
      · have a : (⟨g, none⟩ :: ts : List Slt).filter busy = ts.filter busy := List.filter_cons_of_neg hg
        have b : (⟨g, none⟩ :: ts : List Slt).filter (fun t => t.ent.isNone && t.gen == 255) = ts.filter (fun t => t.ent.isNone && t.gen == 255) := List.filter_cons_of_neg hg
        rw [a, b, c]
        omega
theorem used_count (ts : List Slt) : busyT ts - goneT ts = (usedL ts).length := by
  rw [usedL_len, busy_split]
  omega

/-! ### Their chunks -/
def ownL (own : List Nat) : List Nat := (List.range own.length).filter fun c => decide (own.getD c 0 ≠ 0)
theorem ownL_len (own : List Nat) : (ownL own).length = (own.filter (· != 0)).length := by
  refine range_filter_len fun i t ht => ?_
  rw [List.getD_eq_getElem?_getD, ht, Option.getD_some]
  by_cases h : t = 0
  · subst h; rfl
  · rw [decide_eq_true h]
    exact (bne_iff_ne.2 h).symm
theorem spc_len {s : CS} (hw : WF s) {x : Int × Nat × Spc} (hx : x ∈ s.sps) : (chunksOf x.2.2.parts).length = ((ownL s.own).filter fun c => decide (s.own.getD c 0 = x.1.toNat)).length := by
  have h := hw.spc x hx
  have hx1 : 1 ≤ x.1 := by
    have : x.1 ∈ s.sps.map (·.1) := List.mem_map.2 ⟨x, hx, rfl⟩
    rw [hw.skeys] at this
    obtain ⟨⟨r, q⟩, hq, he⟩ := List.mem_map.1 this
    have := (hw.par.2.2 r q hq).1
    have he : r = x.1 := he
    omega
  have hm : ∀ c, c ∈ chunksOf x.2.2.parts ↔ c ∈ (ownL s.own).filter fun c => decide (s.own.getD c 0 = x.1.toNat) := by
    intro c
    rw [h.owned]
    unfold ownL
    rw [List.mem_filter, List.mem_filter, List.mem_range]
    constructor
    · rintro ⟨q, h1, h2, h3⟩
      have h4 : s.own.getD c 0 = q := by rw [List.getD_eq_getElem?_getD, h1, Option.getD_some]
      rw [h4]
      exact ⟨⟨(List.getElem?_eq_some_iff.1 h1).1, by simpa using h3⟩, by rw [decide_eq_true]; omega⟩
    · rintro ⟨⟨h1, h2⟩, h3⟩
      have h4 := List.getElem?_eq_getElem h1
      have h5 : s.own.getD c 0 = s.own[c] := by rw [List.getD_eq_getElem?_getD, h4, Option.getD_some]
      rw [h5] at h2 h3
      have h2 : s.own[c] ≠ 0 := by simpa using h2
      have h3 : s.own[c] = x.1.toNat := by simpa using h3
      exact ⟨s.own[c], h4, by omega, h2⟩
  refine Nat.le_antisymm (sub_length h.nodup fun z hz => (hm z).1 hz) (sub_length ((List.nodup_range.filter _).filter _) fun z hz => (hm z).2 hz)
/-- Sums so far. -/
theorem sum_take_le (l : List Nat) (f : Nat → Nat) (i : Nat) : ((l.take i).map f).sum ≤ (l.map f).sum := by
  conv => rhs; rw [← List.take_append_drop i l]
  rw [List.map_append, List.sum_append]
  omega
theorem sum_take_succ {l : List Nat} (f : Nat → Nat) {i x : Nat} (h : l[i]? = some x) : ((l.take (i + 1)).map f).sum = ((l.take i).map f).sum + f x := by
  rw [List.take_add_one, h, List.map_append, List.sum_append]
  simp
end Go.Proofs.YtcaaojbnjfdglaaGreatDoor
namespace Go.Proofs.YtcaaojbnjfdglaaGreatDoor
open Go.SL

theorem mem_all {s : CS} {m : MS} {told : List (Nat × Nat)} (R : Rel s m told) {r q : Int} (h : (r, q) ∈ s.par) : ∃ k : Nat, r = k ∧ k ∈ allP m.P := by
  obtain ⟨k, h1, h2, h3, h4⟩ := (R.tree r q).1 h
  exact ⟨k, h1, all_mem.2 ⟨q, h3, h2, h4⟩⟩
theorem used_sum {s : CS} {m : MS} {told : List (Nat × Nat)} (hw : WF s) (R : Rel s m told) : ((allP m.P).map fun r => ((usedL s.tab).filter fun i => decide (regOf s.tab i = r)).length).sum = (usedL s.tab).length := by
  refine sum_filter (all_nodup m.P) (regOf s.tab) fun i hi => ?_
  obtain ⟨g, e, hk⟩ := isUsed_iff.1 (List.mem_filter.1 hi).2
  obtain ⟨_, _, q, hq⟩ := hw.obj i g e hk
  obtain ⟨k, h1, h2⟩ := mem_all R hq
  have : regOf s.tab i = e.region.toNat := by unfold regOf; rw [hk]
  rw [this, h1]
  exact h2
theorem own_sum {s : CS} {m : MS} {told : List (Nat × Nat)} (hw : WF s) (R : Rel s m told) : ((allP m.P).map fun r => ((ownL s.own).filter fun c => decide (s.own.getD c 0 = r)).length).sum = (ownL s.own).length := by
  refine sum_filter (all_nodup m.P) (fun c => s.own.getD c 0) fun c hc => ?_
  obtain ⟨h1, h2⟩ := List.mem_filter.1 hc
  have hcl := List.mem_range.1 h1
  have h3 := List.getElem?_eq_getElem hcl
  generalize s.own[c] = oc at h3
  have h4 : s.own.getD c 0 = oc := by rw [List.getD_eq_getElem?_getD, h3, Option.getD_some]
  have h2 : s.own.getD c 0 ≠ 0 := by simpa using h2
  obtain ⟨q, hq⟩ := hw.live c _ h3 (by rw [← h4]; exact h2)
  obtain ⟨k, h5, h6⟩ := mem_all R hq
  rw [h4]
  have : oc = k := by omega
  rw [this]
  exact h6
theorem used_le (s : CS) : (usedL s.tab).length ≤ s.tab.length := by
  unfold usedL
  exact Nat.le_trans (List.length_filter_le _ _) (by rw [List.length_range]; exact Nat.le_refl _)
theorem own_le (l : List Nat) : (ownL l).length ≤ l.length := by
  unfold ownL
  exact Nat.le_trans (List.length_filter_le _ _) (by rw [List.length_range]; exact Nat.le_refl _)
theorem keys_len {s : CS} (hw : WF s) : (s.mns.map mnkey).length = (s.sps.map spkey).length := by
  have h1 := congrArg List.length hw.mkeys
  have h2 := congrArg List.length hw.skeys
  rw [List.length_map, List.length_map] at h1 h2
  rw [List.length_map, List.length_map]
  omega
/-- A space's chunks are in bounds. -/
theorem spc_bounds {s : CS} (hw : WF s) {x : Int × Nat × Spc} (hx : x ∈ s.sps) : x.2.2.parts.length ≤ 63 ∧ (∀ p ∈ x.2.2.parts, p.1 + p.2 ≤ 63) ∧ (chunksOf x.2.2.parts).length ≤ 63 ∧ ∀ c ∈ chunksOf x.2.2.parts, c < s.own.length ∧ (s.own.getD c 0 : Int) = x.1 := by
  have h := hw.spc x hx
  have ho := hw.own.2
  refine ⟨Nat.le_trans (parts_len h) ho, fun p hp => Nat.le_trans (h.parts p hp).2 ho, ?_, fun c hc => ?_⟩
  · rw [spc_len hw hx]
    exact Nat.le_trans (List.length_filter_le _ _) (Nat.le_trans (own_le _) ho)
  · obtain ⟨q, h1, h2, _⟩ := (h.owned c).1 hc
    refine ⟨(List.getElem?_eq_some_iff.1 h1).1, ?_⟩
    rw [List.getD_eq_getElem?_getD, h1, Option.getD_some]
    exact h2
end Go.Proofs.YtcaaojbnjfdglaaGreatDoor
