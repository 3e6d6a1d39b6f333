/- Cells: what is proved on the way: every input of the statement; no condition. Texts joined: CelH SrtJ CelI BmpC LnkA LnkB TabE JoiA DelA DelB LnkC InvP. -/
import Derived.Test.YtipelpbkeiphmaaGreatDoorBaf
import Derived.Test.YtipelpbkeiphmaaGreatDoorBal
import Derived.Test.YtipelpbkeiphmaaGreatDoorBaj
import Derived.Test.YtipelpbkeiphmaaGreatDoorBah
import Derived.Test.YtipelpbkeiphmaaGreatDoorBak
set_option linter.unusedVariables false
set_option linter.unusedSimpArgs false
set_option linter.unusedSectionVars false
namespace Go.Proofs.YtipelpbkeiphmaaGreatDoor
open Go.SL

/-- What Define leaves, and answers. -/
def defS (s : CS) (ws : List Nat) : CS × Nat × Nat :=
  match decodeL ws with
  | none => (s, 0, 4)
  | some l => if s.lays.length = 64 then (s, 0, 5) else ({ s with lays := s.lays ++ [l] }, s.lays.length + 1, 0)
theorem defS_none {s : CS} {ws : List Nat} (h : decodeL ws = none) : defS s ws = (s, 0, 4) := by unfold defS; rw [h]
theorem defS_some {s : CS} {ws : List Nat} {l : Lay} (h : decodeL ws = some l) : defS s ws = if s.lays.length = 64 then (s, 0, 5) else ({ s with lays := s.lays ++ [l] }, s.lays.length + 1, 0) := by unfold defS; rw [h]
theorem decodeL_len {ws : List Nat} (h : ws.length ≠ 3) : decodeL ws = none := by
  match ws with
  | [] => rfl
  | [_] => rfl
  | [_, _] => rfl
  | [_, _, _] => exact absurd rfl h
  | _ :: _ :: _ :: _ :: _ => rfl

theorem Decode_all [Extra] (v : Value) (ws : List Nat) (hws : ∀ x ∈ ws, x < 18446744073709551616) {w : World} {fr : List HProp} [hT : HasTab 0 Lib.deBruijn64tab fr] (hr : RdS fr v ws.length 1 (ucells ws)) (H : Holds w fr) :
    Calls Tryz.prog 192 #[v] w (ret fun r w' => (decodeL ws = none ∧ r = .tuple #[layV 0 (.slice none 0 0) 0 (.slice none 0 0), .int .i64 4] ∧ Holds w' fr) ∨
      ∃ l vr vq, decodeL ws = some l ∧ r = .tuple #[layV l.fixed vr l.record vq, .int .i64 0] ∧ Holds w' (NL vr l.refs :: NL vq l.recs :: fr)) := by
  by_cases h3 : ws.length = 3
  · obtain ⟨x, y, z, rfl⟩ : ∃ x y z, ws = [x, y, z] := by
      match ws, h3 with
      | [x, y, z], _ => exact ⟨x, y, z, rfl⟩
    exact lDecode_spec v x y z (hws x (by simp)) (hws y (by simp)) (hws z (by simp)) hr H
  · obtain ⟨_, a, c, rfl, _⟩ := id hr
    exact call (lDecode_no _ ws.length h3 ⟨a, c, rfl⟩ H) fun r w h => .inl ⟨decodeL_len h3, h.1, h.2⟩

theorem Define_spec [Extra] (p : Nat) (s : CS) (v : Value) (ws : List Nat) (hws : ∀ x ∈ ws, x < 18446744073709551616) {w : World} {fr : List HProp} [hT : HasTab 0 Lib.deBruijn64tab fr] (hr : RdS fr v ws.length 1 (ucells ws)) (H : Holds w (CELL p s :: fr)) :
    Calls Tryz.prog 104 #[pp p, v] w (ret fun x w' => x = .tuple #[.int .i64 ((defS s ws).2.1 : Nat), .int .i64 ((defS s ws).2.2 : Nat)] ∧ Holds w' (CELL p (defS s ws).1 :: fr)) := by
  obtain ⟨_, av, cv, rfl, _⟩ := id hr
  refine calls_of Tryz.func104 rfl (by kernel_rfl) ?_
  refine J143 H ?_
  refine J16 H ?_
  refine Jc rfl rfl (Decode_all _ ws hws hr.there H) ?_
  clear H
  rintro v w (⟨hd, rfl, H⟩ | ⟨l, vr, vq, hd, rfl, H⟩)
  · rw [defS_none hd]
    refine J19 H ?_
    clear H; intro b6 w H
    refine J7 H ?_
    clear H; intro w H
    refine J88 H ?_
    replace H := Js [1] 1 H
    exact C_ret (Jy H rfl fun w' H' => ⟨rfl, H'⟩)
  · obtain ⟨aa, ma, rfl⟩ := sls_slice H (ncells_length _) (by decide)
    obtain ⟨ab, mb, rfl⟩ := sls_slice H.drop (ncells_length _) (by decide)
    rw [defS_some hd]
    refine J19 H ?_
    clear H; intro b6 w H
    refine J7 H ?_
    clear H; intro w H
    refine J50 H ?_
    replace H := Js [3,0,0,0] 0 H
    obtain ⟨q, mem, hw, hm, H⟩ := CELL_out H
    have hR := decodeL_right hd
    replace H := Js [12,12,2,0,0,0,0,0,0,0,0,0,0,0] 0 H
    obtain ⟨D1, H, hD1, hC1⟩ := sls_rd H (ncells_length _) (by decide)
    obtain ⟨D2, H, hD2, hC2⟩ := sls_rd H.swap (ncells_length _) (by decide)
    refine J1 H ?_
    clear H; intro w H
    refine J153 H ?_
    replace H := Js [2,1,0] 0 H
    refine Jo 5 H ?_
    refine Jk rfl rfl (bAdd_spec q.bp s.lays _ _ l hR ⟨hD1 _, (hD2 _).there⟩ H) ?_
    clear H
    rintro v w (⟨h64, rfl, H⟩ | ⟨h64, rfl, H⟩)
    · rw [if_pos h64]
      refine J149 H ?_
      refine J123 H ?_
      replace H := Js [3,3,0,2,2,2,2,2,2,2,2] 3 H
      have H := CELL_in hw hm H
      exact C_ret (Jy H rfl fun w' H' => ⟨rfl, H'⟩)
    · rw [if_neg (by omega)]
      refine J149 H ?_
      refine J123 H ?_
      replace H := Js [3,3,0,2,2,2,2,2,2,2,2] 3 H
      have H := CELL_in (s := { s with lays := s.lays ++ [l] }) (WF_define hw hR h64) ⟨hm.len, hm.head, hm.words⟩ H
      exact C_ret (Jy H rfl fun w' H' => ⟨rfl, H'⟩)

/-- The state with one region more. -/
@[reducible] def openS (s : CS) (parent : Int) (b b2 : Nat) : CS :=
  { s with last := s.last + 1, par := s.par ++ [(((s.last + 1 : Nat) : Int), parent)], sps := s.sps ++ [(((s.last + 1 : Nat) : Int), b, ⟨[], 0, 0⟩)], mns := s.mns ++ [(((s.last + 1 : Nat) : Int), b2, [])] }

theorem Open_spec [Extra] (p : Nat) (s : CS) (parent : Int) (hlast : s.last + 1 < 1000000) {w : World} {fr : List HProp} (H : Holds w (CELL p s :: fr)) :
    Calls Tryz.prog 105 #[pp p, .int .i64 parent] w (ret fun x w' => (addErr s.par parent ≠ 0 ∧ x = .tuple #[.int .i64 0, .int .i64 (addErr s.par parent)] ∧ Holds w' (CELL p s :: fr)) ∨
      (addErr s.par parent = 0 ∧ ∃ b b2, x = .tuple #[.int .i64 ((s.last + 1 : Nat) : Int), .int .i64 0] ∧ Holds w' (CELL p (openS s parent b b2) :: fr))) := by
  obtain ⟨q, mem, hw, hm, H⟩ := CELL_out H
  refine calls_of Tryz.func105 rfl (by kernel_rfl) ?_
  refine J143 H ?_
  refine J18 H ?_
  replace H := Js [5,0,0,0,0,0,0,0,0,0,0] 0 H
  refine Jc rfl rfl (trAdd_spec q.trp s.last s.par parent (by omega) (fun r x hx => (hw.par.2.2 r x hx).2) H) ?_
  clear H
  rintro v w (⟨he, rfl, H⟩ | ⟨he, rfl, H⟩)
  · refine J116 H ?_
    refine J5 H ?_
    rw [show (((addErr s.par parent : Nat) : Int) != 0) = true by simpa using he]
    refine J179 H ?_
    replace H := Js [1,1,1,1,1,0,0,0,0,0,0] 0 H
    have H := CELL_in hw hm H
    exact C_ret (Jy H rfl fun w' H' => .inl ⟨he, rfl, H'⟩)
  · have hl64 : s.par.length < 64 := by
      unfold addErr at he
      split at he
      · omega
      · split at he
        · omega
        · have := hw.par.1; omega
    have hfr : ∀ {α : Type} (l : List (Int × α)), l.map (·.1) = s.par.map (·.1) → ((s.last + 1 : Nat) : Int) ∉ l.map (·.1) := by
      intro α l hl hmem
      rw [hl] at hmem
      obtain ⟨⟨r, x⟩, hx, h1⟩ := List.mem_map.1 hmem
      have h1 : r = ((s.last + 1 : Nat) : Int) := h1
      have := (hw.par.2.2 r x hx).2
      omega
    have hf1 : ((s.last + 1 : Nat) : Int) ∉ (s.sps.map spkey).map (·.1) := hfr _ (by rw [List.map_map]; exact hw.skeys)
    have hf2 : ((s.last + 1 : Nat) : Int) ∉ (s.mns.map mnkey).map (·.1) := hfr _ (by rw [List.map_map]; exact hw.mkeys)
    refine J39 H ?_
    refine J1 H ?_
    clear H; intro w H
    refine J28 H ?_
    refine A_load1 3 [14] H rfl (Wants.none rfl) rfl rfl (by kernel_rfl) ?_
    refine J98 H ?_
    refine J64 H ?_
    refine A_load1 8 [10, 14] H rfl (Wants.none rfl) rfl rfl (by kernel_rfl) ?_
    refine J114 H ?_
    refine Jo 10 H ?_
    refine Jk rfl rfl (uNew_spec q.sp (s.last + 1) (by omega) H) ?_
    clear H; rintro v w ⟨b, rfl, H⟩
    refine J118 H ?_
    refine J87 H ?_
    refine Jo 14 H ?_
    refine St_mapUpdate (ek := ki .i64) (vv := ptrv) (v := b) (key := ((s.last + 1 : Nat) : Int)) H rfl rfl rfl tkI rfl ?_
    clear H; intro w H
    rw [ins_none hf1, show s.sps.map spkey ++ [(((s.last + 1 : Nat) : Int), b)] = (s.sps ++ [(((s.last + 1 : Nat) : Int), b, (⟨[], 0, 0⟩ : Spc))]).map spkey by simp] at H
    refine J4 H ?_
    refine J1 H ?_
    clear H; intro w H
    refine J125 H ?_
    refine J63 H ?_
    refine Jo 5 H ?_
    refine Jk rfl rfl (gNew_spec H) ?_
    clear H; rintro v w ⟨b2, rfl, H⟩
    
    refine Jo 6 H ?_
    refine St_mapUpdate (ek := ki .i64) (vv := ptrv) (v := b2) (key := ((s.last + 1 : Nat) : Int)) H rfl rfl rfl tkI rfl ?_
    clear H; intro w H
    rw [ins_none hf2, show s.mns.map mnkey ++ [(((s.last + 1 : Nat) : Int), b2)] = (s.mns ++ [(((s.last + 1 : Nat) : Int), b2, ([] : List Nat))]).map mnkey by simp] at H
    refine J4 H ?_
    refine J20 H ?_
    replace H := Js [1,9,2,2,2,2,2,1,1,1,1,1,0] 0 H
    have H := (Holds.pick (R := spres q.sp) (x := (((s.last + 1 : Nat) : Int), b, (⟨[], 0, 0⟩ : Spc))) (g1 := s.sps) (g2 := []) rfl).2 (by rw [List.append_nil]; exact H)
    replace H := Js [11,10,0,0,0,0,0,0,0,0,0,0] 0 H
    have H := (Holds.pick (R := mnres) (x := (((s.last + 1 : Nat) : Int), b2, ([] : List Nat))) (g1 := s.mns) (g2 := []) rfl).2 (by rw [List.append_nil]; exact H)
    replace H := Js [2,2,2,2,2,2,2,2,1,1,0] 0 H
    have H := CELL_in (s := openS s parent b b2) (WF_open hw hl64 hlast) ⟨hm.len, hm.head, hm.words⟩ H
    exact C_ret (Jy H rfl fun w' H' => .inr ⟨he, b, b2, rfl, H'⟩)

theorem cNew_spec [Extra] (n size slots : Nat) (h1 : 1 ≤ n) (h2 : n ≤ 63) (h3 : 1 ≤ size) (h4 : size ≤ 1024) (h5 : 1 ≤ slots) (h6 : slots ≤ 63) {w : World} {fr : List HProp} (H : Holds w fr) :
    Calls Tryz.prog 103 #[.int .i64 n, .int .i64 size, .int .i64 slots] w (ret fun v w' => ∃ p, v = .tuple #[pp p, .int .i64 0] ∧
      Holds w' (CELL p ⟨size, List.replicate n 0, [], List.replicate slots ⟨0, none⟩, 0, [], [], [], []⟩ :: fr)) := by
  refine calls_of Tryz.func103 rfl (by kernel_rfl) ?_
  refine J86 H ?_
  refine Jc rfl rfl (sNew_spec n size h1 (by omega) h3 h4 H) ?_
  clear H; rintro v w ⟨sp, rfl, H⟩
  refine J39 H ?_
  refine J16 H ?_
  refine Jc rfl rfl (tNew_spec slots h5 h6 H) ?_
  clear H; rintro v w ⟨tp, rfl, H⟩
  refine J39 H ?_
  refine J30 H ?_
  refine Jc rfl rfl (NewBook_spec H) ?_
  clear H; rintro v w ⟨bp, rfl, H⟩
  refine J157 H ?_
  refine Jc rfl rfl (iNew_spec sp bp H) ?_
  clear H; rintro v w ⟨ip, rfl, H⟩
  refine J27 H ?_
  refine J142 H ?_
  refine Jc rfl rfl (trNew_spec H) ?_
  clear H; rintro v w ⟨trp, rfl, H⟩
  refine Jc rfl rfl (rNew_spec H) ?_
  clear H; rintro v w ⟨rp, rfl, H⟩
  refine Lp_s rfl (St_makeMap ptrv (ki .i64) H rfl ?_)
  clear H; intro sm w H
  refine Lp_s rfl (St_makeMap ptrv (ki .i64) H rfl ?_)
  clear H; intro mm w H
  refine J59 H ?_
  clear H; intro b47 w H
  refine J3 H ?_
  have hget : ∀ {i : Nat} {t : Slt}, (List.replicate slots (⟨0, none⟩ : Slt))[i]? = some t → t = ⟨0, none⟩ := fun h => List.eq_of_mem_replicate (List.mem_of_getElem? h)
  have hget0 : ∀ {i r : Nat}, (List.replicate n 0)[i]? = some r → r = 0 := fun h => List.eq_of_mem_replicate (List.mem_of_getElem? h)
  have hw : WF ⟨size, List.replicate n 0, [], List.replicate slots ⟨0, none⟩, 0, [], [], [], []⟩ := by
    refine ⟨⟨h3, h4⟩, by simp; omega, by simp; omega, by simp, fun i t h => ?_, fun i g e h => ?_, fun i j g h e f _ hi _ => ?_, by simp, rfl, rfl, by simp, by simp, fun c r h h0 => ?_, by simp⟩
    · have := hget h; subst this; simp
    · have := hget h; cases this
    · have := hget hi; cases this
    · exact absurd (hget0 h) h0
  have hm : MemOK ⟨size, List.replicate n 0, [], List.replicate slots ⟨0, none⟩, 0, [], [], [], []⟩ (List.replicate (n * size) 0) := by
    refine ⟨by simp, fun i g e h => ?_, fun i g e h => ?_⟩
    · have := hget h; cases this
    · have := hget h; cases this
  have H : Holds w (star (([] : List (Int × Nat × Spc)).map (spres sp)) :: _) := Holds.star.2 H
  have H : Holds w (star (([] : List (Int × Nat × List Nat)).map mnres) :: _) := Holds.star.2 H
  replace H := Js [2,6,6,7,6,5,4,3,1,1,0] 0 H
  have H := CELL_in (s := ⟨size, List.replicate n 0, [], List.replicate slots ⟨0, none⟩, 0, [], [], [], []⟩) (q := ⟨sp, bp, ip, tp, trp, rp, sm, mm⟩) hw hm H
  exact C_ret (Jy H rfl fun w' H' => ⟨_, rfl, H'⟩)
end Go.Proofs.YtipelpbkeiphmaaGreatDoor
namespace Go.Proofs.YtipelpbkeiphmaaGreatDoor
open Go.SL Go.Lib

theorem setCells_holds [Extra] {E b : Nat} {post : List Value} {fr : List HProp} : ∀ (new old pre : List Value) {w : World}, old.length = new.length → Holds w (pts b (row E (pre ++ old ++ post)) :: fr) → Holds (w.setCells b pre.length new) (pts b (row E (pre ++ new ++ post)) :: fr)
  | [], old, pre, w, hl, H => by
    obtain rfl : old = [] := List.length_eq_zero_iff.1 hl
    exact H
  | v :: r, old, pre, w, hl, H => by
    obtain ⟨o, t, rfl⟩ : ∃ o t, old = o :: t := by
      cases old with
      | nil => cases hl
      | cons o t => exact ⟨o, t, rfl⟩
    have hb := H.pts
    have H1 : Holds (w.setCell ⟨b, pre.length, none⟩ v) (pts b (row E (pre ++ v :: t ++ post)) :: fr) := by
      refine H.set ?_ ?_
      · show (w.heap.modify b _)[b]? = _
        rw [Array.getElem?_modify, if_pos rfl, hb]
        simp only [Option.map_some, row]
        congr 2
        simp
      · intro c hc
        show (w.heap.modify b _)[c]? = _
        rw [Array.getElem?_modify, if_neg (Ne.symm hc)]
    rw [show pre ++ v :: t ++ post = (pre ++ [v]) ++ t ++ post by simp] at H1
    have h2 := setCells_holds r t (pre ++ [v]) (by simpa using hl) H1
    rw [List.length_append] at h2
    rw [show pre ++ v :: r ++ post = (pre ++ [v]) ++ r ++ post by simp]
    exact h2

theorem Insert_mid [Extra] (v : Value) (l : List Nat) (x i : Nat) (hi : i < l.length) (hl : l.length ≤ 100000) (b : Nat) {w : World} {fr : List HProp} (H : Holds w (NL v l :: pts b (row 3 [.int .i64 x]) :: fr)) :
    Calls Tryz.prog 252 #[v, .int .i64 i, .slice (some ⟨b, 0, none⟩) 1 1] w (ret fun v w' => Holds w' (NL v (l.take i ++ x :: l.drop i) :: fr)) := by
  have hnl : (l.take i ++ x :: l.drop i).length = l.length + 1 := by simp; omega
  have hcl : (ncells l).length = l.length := by rw [ncells_length]; omega
  have h1c : ∀ v ∈ ncells l, v.oneCell' = true := fun v hv => by obtain ⟨y, _, rfl⟩ := List.mem_map.1 hv; rfl
  have h1v : ∀ v ∈ [Value.int .i64 (x : Int)], v.oneCell' = true := fun v hv => by rw [List.mem_singleton] at hv; subst hv; rfl
  rcases sls_case H with ⟨_, h0, _⟩ | ⟨b', n, cap, s, rfl, e3, e4, e5, H2⟩
  · rw [h0] at hcl
    cases l with
    | nil => cases hi
    | cons a t => cases hcl
  obtain rfl : n = l.length := by omega
  have hb := H2.pts
  have hx := H2.swap.pts
  have hne : b' ≠ b := Holds.ne H2
  have hvs : ∀ j v, [Value.int .i64 (x : Int)][j]? = some v → w.cell? ⟨b, 0 + j, none⟩ = some v := fun j v hj => by
    rw [Nat.zero_add]
    exact cell_row hx hj
  have hcs : ∀ j v, (ncells l)[j]? = some v → w.cell? ⟨b', 0 + j, none⟩ = some v := fun j v hj => by
    rw [Nat.zero_add]
    refine cell_row hb ?_
    rw [List.getElem?_append_left (List.getElem?_eq_some_iff.1 hj).1]
    exact hj
  have hcat : ∀ t : List Value, (ncells l).take i ++ [Value.int .i64 (x : Int)] ++ ((ncells l).drop i ++ t) = ncells (l.take i ++ x :: l.drop i) ++ t := by
    intro t
    unfold ncells
    simp [List.map_take, List.map_drop]
  by_cases hroom : l.length + 1 ≤ cap
  · obtain ⟨s0, s', rfl⟩ : ∃ s0 s', s = s0 :: s' := by
      cases s with
      | nil => simp at e5; omega
      | cons s0 s' => exact ⟨s0, s', rfl⟩
    refine (Any2.slices_Insert_int_shift Tryz.laysIns b' 0 l.length cap i b 0 1 1 (ncells l) [.int .i64 x] w hi (by omega) hroom e4.2 (Ne.symm hne) hcl rfl hcs ?_ (fun j _ => frozen_row hb) hvs h1c h1v 3 3 1 (ncells l ++ s0 :: s').length ?_ ?_ ?_ (frozen_row hx) (frozen_row hx)).mono ?_
    · intro j hj
      rw [Nat.zero_add, cell_row hb (List.getElem?_eq_getElem (by simp; omega))]
      rfl
    · simp [World.shape?, hx]
    · simp [World.shape?, hb]
    · simp
    · rintro e w' ⟨rfl, rfl⟩
      have H3 : Holds w.drew (pts b' (row 3 ((ncells l).take (i + 1) ++ ((ncells l).drop (i + 1) ++ [s0]) ++ s')) :: pts b (row 3 [.int .i64 x]) :: fr) := by
        rw [show (ncells l).take (i + 1) ++ ((ncells l).drop (i + 1) ++ [s0]) ++ s' = ncells l ++ s0 :: s' by rw [← List.append_assoc, List.take_append_drop]; simp]
        exact H2.heap rfl
      have H4 := setCells_holds ((ncells l).drop i) _ _ (by simp; omega) H3
      rw [show ((ncells l).take (i + 1)).length = 0 + (i + 1) by rw [List.length_take]; omega] at H4
      have hgi : (ncells l).take (i + 1) = (ncells l).take i ++ [(ncells l)[i]'(by omega)] := by
        rw [List.take_add_one, List.getElem?_eq_getElem (by omega)]
        rfl
      rw [show (ncells l).take (i + 1) ++ (ncells l).drop i ++ s' = (ncells l).take i ++ [(ncells l)[i]'(by omega)] ++ ((ncells l).drop i ++ s') by rw [hgi]; simp] at H4
      have H5 := setCells_holds [Value.int .i64 (x : Int)] [(ncells l)[i]'(by omega)] ((ncells l).take i) rfl H4
      rw [show ((ncells l).take i).length = 0 + i by rw [List.length_take]; omega, hcat] at H5
      refine Holds.drop (Holds.swap (sls_of (by rw [ncells_length, hnl]) ⟨hroom, e4.2⟩ ?_ H5))
      simp at e5 ⊢
      omega
  · obtain rfl : cap = l.length := by omega
    refine (Any2.slices_Insert_int_grow Tryz.laysIns b' 0 l.length l.length i b 0 1 1 (ncells l) [.int .i64 x] w hi (by omega) (Nat.le_refl _) (by omega) (by omega) hcl rfl hcs hvs h1c h1v).mono ?_
    rintro e w' ⟨rfl, rfl⟩
    generalize hG : grownCap w (l.length + 1) l.length _ = G
    have hG1 : l.length + 1 ≤ G := by rw [← hG]; exact grownCap_ge w _ _ _
    have hG2 : G ≤ 9223372036854775807 := by rw [← hG]; exact grownCap_le_maxLen w _ _ _ (by unfold maxLen; omega)
    have H3 := H2.new (.cells (((ncells l).take i).toArray ++ Builtin.zeroCells (Value.int .i64 0).cells (l.length + 1 - i) ++ Builtin.zeroCells (Value.int .i64 0).cells (G - (l.length + 1))) 3 (0, 0))
    have hzc : ∀ k, (Builtin.zeroCells (Value.int .i64 0).cells k).toList.length = k := fun k => by rw [Array.length_toList, size_zeroCells]; exact Nat.mul_one k
    obtain ⟨z0, zt, hz⟩ : ∃ z0 zt, (Builtin.zeroCells (Value.int .i64 0).cells (l.length + 1 - i)).toList = z0 :: zt := by
      cases hh : (Builtin.zeroCells (Value.int .i64 0).cells (l.length + 1 - i)).toList with
      | nil => have := hzc (l.length + 1 - i); rw [hh] at this; simp at this; omega
      | cons z0 zt => exact ⟨z0, zt, rfl⟩
    have hzt : zt.length = l.length - i := by
      have := hzc (l.length + 1 - i)
      rw [hz, List.length_cons] at this
      omega
    have H4 : Holds (w.alloc (.cells (((ncells l).take i).toArray ++ Builtin.zeroCells (Value.int .i64 0).cells (l.length + 1 - i) ++ Builtin.zeroCells (Value.int .i64 0).cells (G - (l.length + 1))) 3 (0, 0))).drew (pts w.heap.size (row 3 ((ncells l).take i ++ [z0] ++ (zt ++ (Builtin.zeroCells (Value.int .i64 0).cells (G - (l.length + 1))).toList))) :: fr) := by
      have h := (Holds.swap H3).drop
      have h := (Holds.swap h).drop
      refine (Holds.head h fun hh x => ?_).heap rfl
      have e : ((ncells l).take i).toArray ++ Builtin.zeroCells (Value.int .i64 0).cells (l.length + 1 - i) ++ Builtin.zeroCells (Value.int .i64 0).cells (G - (l.length + 1)) = ((ncells l).take i ++ [z0] ++ (zt ++ (Builtin.zeroCells (Value.int .i64 0).cells (G - (l.length + 1))).toList)).toArray := by
        apply Array.ext'
        simp [hz]
      rw [e] at x
      exact x
    have H5 := setCells_holds [Value.int .i64 (x : Int)] [z0] ((ncells l).take i) rfl H4
    rw [show ((ncells l).take i).length = i by rw [List.length_take]; omega] at H5
    have H6 : Holds ((w.alloc (.cells (((ncells l).take i).toArray ++ Builtin.zeroCells (Value.int .i64 0).cells (l.length + 1 - i) ++ Builtin.zeroCells (Value.int .i64 0).cells (G - (l.length + 1))) 3 (0, 0))).drew.setCells w.heap.size i [Value.int .i64 (x : Int)]).drew (pts w.heap.size (row 3 (((ncells l).take i ++ [Value.int .i64 (x : Int)]) ++ zt ++ (Builtin.zeroCells (Value.int .i64 0).cells (G - (l.length + 1))).toList)) :: fr) := by
      rw [show ((ncells l).take i ++ [Value.int .i64 (x : Int)]) ++ zt ++ (Builtin.zeroCells (Value.int .i64 0).cells (G - (l.length + 1))).toList = (ncells l).take i ++ [Value.int .i64 (x : Int)] ++ (zt ++ (Builtin.zeroCells (Value.int .i64 0).cells (G - (l.length + 1))).toList) by simp]
      exact H5.heap rfl
    have H7 := setCells_holds ((ncells l).drop i) zt _ (by simp; omega) H6
    rw [show ((ncells l).take i ++ [Value.int .i64 (x : Int)]).length = i + 1 by simp; omega, show (ncells l).take i ++ [Value.int .i64 (x : Int)] ++ (ncells l).drop i ++ (Builtin.zeroCells (Value.int .i64 0).cells (G - (l.length + 1))).toList = (ncells l).take i ++ [Value.int .i64 (x : Int)] ++ ((ncells l).drop i ++ (Builtin.zeroCells (Value.int .i64 0).cells (G - (l.length + 1))).toList) by simp, hcat] at H7
    exact sls_of (by rw [ncells_length, hnl]) ⟨hG1, hG2⟩ (by rw [hzc]; omega) H7

/-- A number more in its place. -/
def insL (l : List Nat) (x : Nat) : List Nat := l.take (posL l x) ++ x :: l.drop (posL l x)
theorem posL_le (l : List Nat) (x : Nat) : posL l x ≤ l.length := List.countP_le_length
theorem insL_end {l : List Nat} {x : Nat} (h : ∀ a ∈ l, a < x) : insL l x = l ++ [x] := by
  unfold insL
  rw [posL_end h, List.take_length, List.drop_length]
theorem insL_mem {l : List Nat} {x y : Nat} : y ∈ insL l x ↔ y = x ∨ y ∈ l := by
  unfold insL
  rw [List.mem_append, List.mem_cons]
  have h : y ∈ l ↔ y ∈ l.take (posL l x) ∨ y ∈ l.drop (posL l x) := by rw [← List.mem_append, List.take_append_drop]
  rw [h]
  constructor
  · rintro (h | h | h)
    · exact .inr (.inl h)
    · exact .inl h
    · exact .inr (.inr h)
  · rintro (h | h | h)
    · exact .inr (.inl h)
    · exact .inl h
    · exact .inr (.inr h)
theorem insL_cons_lt {a : Nat} {l : List Nat} {x : Nat} (h : a < x) : insL (a :: l) x = a :: insL l x := by
  unfold insL
  have : posL (a :: l) x = posL l x + 1 := by
    unfold posL
    rw [List.countP_cons_of_pos (by simpa using h)]
  rw [this, List.take_succ_cons, List.drop_succ_cons]
  rfl
theorem insL_cons_gt {a : Nat} {l : List Nat} {x : Nat} (hs : (a :: l).Pairwise (· < ·)) (h : x < a) : insL (a :: l) x = x :: a :: l := by
  unfold insL
  have : posL (a :: l) x = 0 := by
    unfold posL
    rw [List.countP_eq_zero]
    intro y hy
    rw [List.pairwise_cons] at hs
    rcases List.mem_cons.1 hy with rfl | hy
    · simpa using Nat.le_of_lt h
    · have := hs.1 y hy
      simp
      omega
  rw [this]
  rfl
theorem insL_sorted : ∀ {l : List Nat} {x : Nat}, l.Pairwise (· < ·) → x ∉ l → (insL l x).Pairwise (· < ·)
  | [], x, _, _ => by unfold insL; simp
  | a :: l, x, hs, hx => by
    rw [List.mem_cons, not_or] at hx
    by_cases h : a < x
    · rw [insL_cons_lt h, List.pairwise_cons]
      rw [List.pairwise_cons] at hs
      refine ⟨fun y hy => ?_, insL_sorted hs.2 hx.2⟩
      rcases insL_mem.1 hy with rfl | hy
      · exact h
      · exact hs.1 y hy
    · have h : x < a := by omega
      rw [insL_cons_gt hs h, List.pairwise_cons]
      refine ⟨fun y hy => ?_, hs⟩
      rcases List.mem_cons.1 hy with rfl | hy
      · exact h
      · rw [List.pairwise_cons] at hs
        have := hs.1 y hy
        omega

theorem gPutA_spec [Extra] (p : Nat) (l : List Nat) (x : Nat) (hs : l.Pairwise (· < ·)) (hl : l.length < 100000) (hn : x ∉ l) {w : World} {fr : List HProp} (H : Holds w (BAG p l :: fr)) :
    Calls Tryz.prog 179 #[pp p, .int .i64 x] w (ret fun v w' => v = .bool true ∧ Holds w' (BAG p (insL l x) :: fr)) := by
  by_cases he : posL l x = l.length
  · have hx : ∀ a ∈ l, a < x := by
      have : l.countP (· < x) = l.length := he
      rw [List.countP_eq_length] at this
      intro a ha
      simpa using this a ha
    rw [insL_end hx]
    exact gPut_spec p l x hs (by omega) hx H
  obtain ⟨a, c, H⟩ := BAG_out H
  have hle := posL_le l x
  refine calls_of Tryz.func179 rfl (by kernel_rfl) ?_
  refine J85 H ?_
  obtain ⟨D1, H, hD1, hC1⟩ := sls_rd H.swap (ncells_length _) (by decide)
  refine Jc rfl rfl (Search_spec _ l (by omega) hs x (hD1 _) H) ?_
  clear H; rintro v w ⟨rfl, H⟩
  replace H := hC1 _ _ H
  rw [decide_eq_false hn]
  refine J71 H ?_
  refine J14 H ?_
  refine C_join (fun ms σ w => ms = [] ∧ σ 6 = .bool false ∧ Holds w (BAG p (insL l x) :: fr)) ?_ ?_
  · refine C_true rfl ?_
    refine J67 H ?_
    refine J13 H ?_
    refine J34 H ?_
    clear H; intro b27 w H
    replace H := Js [1,0,0] 0 H
    refine Jc rfl rfl (Insert_mid _ l x (posL l x) (by omega) (by omega) _ H) ?_
    clear H; intro v w H
    obtain ⟨a28, m28, c28, rfl⟩ := sls_any H
    refine J51 H ?_
    clear H; intro w H
    refine Lp_nil ?_
    exact ⟨rfl, rfl, rfl, BAG_in H.swap⟩
  · clear H
    rintro ms σ w ⟨rfl, g6, H⟩
    rw [upd_self g6]
    refine J20 H ?_
    exact C_ret (Jy H rfl fun w' H' => ⟨rfl, H'⟩)
end Go.Proofs.YtipelpbkeiphmaaGreatDoor
namespace Go.Proofs.YtipelpbkeiphmaaGreatDoor
open Go.SL

/-- What is wrong with an object that is to be made. -/
def layI (s : CS) (id : Int) : Lay := (s.lays[id.toNat - 1]?).getD ⟨0, [], 0, []⟩
def makeE (s : CS) (region id count : Int) : Nat := if (fnd s.par region).isSome = false then 15 else if id < 1 ∨ (s.lays.length : Int) < id then 6 else (sizeL (layI s id) count).2
def makeN (s : CS) (id count : Int) : Nat := (sizeL (layI s id) count).1
/-- No used slot lies behind a free one. -/
def Seq (s : CS) : Prop := ∀ (i j : Nat) (t : Slt) (g : Nat) (e : Ent), i < j → s.tab[i]? = some t → s.tab[j]? = some ⟨g, some e⟩ → busy t = true

theorem fnd_split {α : Type} {V : Type} {l : List α} {f : α → Int} {g : α → V} {k : Int} {b : V} (h : fnd (l.map fun a => (f a, g a)) k = some b) : ∃ x g1 g2, l = g1 ++ x :: g2 ∧ f x = k ∧ g x = b := by
  obtain ⟨x, hx, h1⟩ := List.mem_map.1 (fnd_mem h)
  injection h1 with h1 h2
  obtain ⟨g1, g2, h3⟩ := List.append_of_mem hx
  exact ⟨x, g1, g2, h3, h1, h2⟩
theorem fnd_keys {α : Type} {V : Type} {l : List α} {f : α → Int} {g : α → V} {k : Int} (h : k ∈ l.map f) : ∃ b, fnd (l.map fun a => (f a, g a)) k = some b := by
  cases hf : fnd (l.map fun a => (f a, g a)) k with
  | some b => exact ⟨b, rfl⟩
  | none =>
    refine absurd ?_ (fnd_eq_none.1 hf)
    rw [List.map_map]
    exact h
theorem parts_len {size : Nat} {own : List Nat} {r : Int} {S : Spc} (h : SpcOK size own r S) : S.parts.length ≤ own.length := by
  have h1 : ∀ l : List (Nat × Nat), (∀ p ∈ l, 1 ≤ p.2) → l.length ≤ (chunksOf l).length := by
    intro l
    induction l with
    | nil => intro _; exact Nat.zero_le _
    | cons a l ih =>
      intro ha
      have h1 := ih (fun p hp => ha p (List.mem_cons_of_mem _ hp))
      have h2 := ha a (List.mem_cons_self ..)
      simp only [chunksOf, List.flatMap_cons, List.length_append, List.length_map, List.length_range, List.length_cons] at h1 ⊢
      omega
  have h2 := h1 S.parts (fun p hp => (h.parts p hp).1)
  have h3 := sub_length h.nodup (l₂ := List.range own.length) (fun c hc => by
    obtain ⟨q, hq, _, _⟩ := (h.owned c).1 hc
    exact List.mem_range.2 (List.getElem?_eq_some_iff.1 hq).1)
  rw [List.length_range] at h3
  omega
theorem fin_le {size : Nat} {own : List Nat} {r : Int} {S : Spc} (h : SpcOK size own r S) (h1 : own.length ≤ 63) (h2 : size ≤ 1024) : S.fin ≤ 1048576 := by
  by_cases h0 : S.fin = 0
  · omega
  · obtain ⟨c, e, _, hc⟩ := h.fin h0
    have := (h.parts _ hc).2
    rw [e]
    exact Nat.le_trans (Nat.mul_le_mul (show c + 1 ≤ 64 by omega) h2) (by omega)

theorem lies_owned {size : Nat} {own : List Nat} {e : Ent} (h : Lies size own e) : Owned size own e.addr (e.ws.length + 1) := by
  intro c c1 c2
  obtain ⟨r, hr, _, hr1⟩ := h.2 c c1 (by rw [show e.addr + (e.ws.length + 1) - 1 = e.addr + e.ws.length by omega] at c2; exact c2)
  rw [List.getD_eq_getElem?_getD, hr]
  show r ≠ 0
  omega
theorem alloc_own {size : Nat} {own mem own' mem' : List Nat} {r n a : Nat} {S S' : Spc} (h : Alloced size own mem r S n own' mem' S' a) : own'.length = own.length := by
  cases h with
  | room _ => rfl
  | one ha _ _ => exact setR_length ha
  | run _ ha _ _ _ => exact setR_length ha

/-- No more chunks have owners than a run of that many. -/
def Grows (own own' : List Nat) (k : Nat) : Prop := own'.length = own.length ∧ ∃ a0 k0, k0 ≤ k ∧ ∀ i, own'.getD i 0 ≠ 0 → own.getD i 0 ≠ 0 ∨ (a0 ≤ i ∧ i < a0 + k0)
theorem alloc_grows {size : Nat} (hs : 1 ≤ size) {own mem own' mem' : List Nat} {r n a : Nat} {S S' : Spc} (h : Alloced size own mem r S (n + 1) own' mem' S' a) : Grows own own' (n / size + 1) := by
  refine ⟨alloc_own h, ?_⟩
  cases h with
  | room _ => exact ⟨0, 0, Nat.zero_le _, fun i hi => .inl hi⟩
  | @one b ha _ _ =>
    refine ⟨b, 1, Nat.le_add_left 1 _, fun i hi => ?_⟩
    rw [setR_getD ha] at hi
    split at hi
    · right; assumption
    · exact .inl hi
  | @run b k hk ha _ _ hn2 =>
    refine ⟨b, k, ?_, fun i hi => ?_⟩
    · have h2 : k - 1 ≤ n / size := by
        rw [Nat.le_div_iff_mul_le (by omega)]
        omega
      omega
    · rw [setR_getD ha] at hi
      split at hi
      · right; assumption
      · exact .inl hi

theorem Make_spec [Extra] (p : Nat) (s : CS) (region id count : Int) {w : World} {fr : List HProp} [hT : HasTab 0 Lib.deBruijn64tab fr] (H : Holds w (CELL p s :: fr)) :
    Calls Tryz.prog 106 #[pp p, .int .i64 region, .int .i64 id, .int .i64 count] w (ret fun v w' =>
      (makeE s region id count ≠ 0 ∧ v = .tuple #[tkn 0 0, .int .i64 (makeE s region id count)] ∧ Holds w' (CELL p s :: fr)) ∨
      (makeE s region id count = 0 ∧ (∀ t ∈ s.tab, busy t = true) ∧ v = .tuple #[tkn 0 0, .int .i64 12] ∧ Holds w' (CELL p s :: fr)) ∨
      (makeE s region id count = 0 ∧ (∀ a, a + (makeN s id count / s.size + 1) ≤ s.own.length → ∃ i, a ≤ i ∧ i < a + (makeN s id count / s.size + 1) ∧ s.own.getD i 0 ≠ 0) ∧ v = .tuple #[tkn 0 0, .int .i64 11] ∧ Holds w' (CELL p s :: fr)) ∨
      (makeE s region id count = 0 ∧ ∃ k g0 addr s', s.tab[k]? = some ⟨g0, none⟩ ∧ g0 ≤ 254 ∧ (∀ j t, j < k → s.tab[j]? = some t → busy t = true) ∧ v = .tuple #[tkn k (g0 + 1), .int .i64 0] ∧
        s'.size = s.size ∧ s'.lays = s.lays ∧ s'.last = s.last ∧ s'.par = s.par ∧ s'.rem = s.rem ∧ s'.tab = s.tab.set k ⟨g0 + 1, some ⟨addr, region, true, false, id.toNat, count.toNat, List.replicate (makeN s id count) 0⟩⟩ ∧ Grows s.own s'.own (makeN s id count / s.size + 1) ∧ Holds w' (CELL p s' :: fr))) := by
  obtain ⟨q, mem, hw, hm, H⟩ := CELL_out H
  have hndp := TRE_keys (H.pull 5)
  refine calls_of Tryz.func106 rfl (by kernel_rfl) ?_
  refine J22 H ?_
  clear H; intro b8 w H
  refine J0 H ?_
  replace H := Js [6,0,0,0,0,0,0,0,0,0,0,0] 0 H
  refine J14 H ?_
  refine C_joinQ (fun ms σ w => ms = [] ∧ (fnd s.par region).isSome = true ∧ σ 0 = pp p ∧ σ 1 = .int .i64 region ∧ σ 2 = .int .i64 id ∧ σ 3 = .int .i64 count ∧ σ 8 = pp b8 ∧
    Holds w (BOOK q.bp s.lays :: pts b8 (row 88 [.int .i64 0, .int .i64 0]) :: CROW p q :: IMG q.ip q.sp q.bp :: ST q.sp s.size mem s.own :: TAB q.tp s.tab :: TRE q.trp s.last s.par :: RS q.rp s.rem :: mp (ki .i64) ptrv q.sm (s.sps.map spkey) :: star (s.sps.map (spres q.sp)) :: mp (ki .i64) ptrv q.mm (s.mns.map mnkey) :: star (s.mns.map mnres) :: fr)) ?_ ?_
  · refine J60 H ?_
    refine J18 H ?_
    refine Jc rfl rfl (Live_spec q.trp s.last s.par region H) ?_
    clear H; rintro v w ⟨rfl, H⟩
    cases hf : (fnd s.par region).isSome with
    | false =>
      have he : makeE s region id count = 15 := by unfold makeE; rw [if_pos hf]
      refine J152 H ?_
      clear H; intro w H
      refine J0 H ?_
      replace H := Js [1,1,1,1,1,1,0,0,0,0,0,0] 0 H
      refine C_ret (.inr ⟨by simp, Jz H (fun w' H' => .cellN H' rfl (by repeat (first | exact Reads.nil _ | apply Reads.cons rfl)) (.tmp .nil)) fun w' H' => .inl ⟨by omega, by rw [he]; rfl, CELL_in hw hm H'.drop⟩⟩)
    | true =>
      refine J56 H ?_
      replace H := Js [4,1,1,1,1,1,0,0,0,0,0,0] 0 H
      exact .inl ⟨rfl, rfl, rfl, rfl, rfl, rfl, rfl, rfl, H⟩
  clear H
  rintro ms σ w ⟨rfl, hlive, g0, g1, g2, g3, g8, H⟩
  rw [upd_self g0, upd_self g1, upd_self g2, upd_self g3, upd_self g8]
  clear g0 g1 g2 g3 g8
  refine J18 H ?_
  by_cases hid : id < 1 ∨ (s.lays.length : Int) < id
  · have he : makeE s region id count = 6 := by unfold makeE; rw [hlive, if_neg (by simp), if_pos hid]
    refine Jc rfl rfl (bGet_no q.bp s.lays id hid H) ?_
    clear H; rintro v w ⟨rfl, H⟩
    refine J19 H ?_
    clear H; intro b10 w H
    refine J7 H ?_
    clear H; intro w H
    refine J24 H ?_
    refine J161 H ?_
    clear H; intro w H
    refine J0 H ?_
    replace H := Js [2,2,2,1,1,1,1,1,1,1,1,1] 1 H
    exact C_ret (Jz H (fun w' H' => .cellN H' rfl (by repeat (first | exact Reads.nil _ | apply Reads.cons rfl)) (.tmp .nil)) fun w' H' => .inl ⟨by omega, by rw [he]; rfl, CELL_in hw hm H'.drop⟩)
  obtain ⟨i, rfl⟩ : ∃ i : Nat, id = i := ⟨id.toNat, by omega⟩
  have hil := List.getElem?_eq_getElem (l := s.lays) (i := i - 1) (by omega)
  have hlay : layI s (i : Int) = s.lays[i - 1]'(by omega) := by
    unfold layI
    rw [Int.toNat_natCast, hil]
    rfl
  have hR : RightL (layI s (i : Int)) := by rw [hlay]; exact hw.lays.2 _ (List.getElem_mem _)
  rw [← hlay] at hil
  have hE : makeE s region i count = (sizeL (layI s i) count).2 := by unfold makeE; rw [hlive, if_neg (by simp), if_neg hid]
  have hN : makeN s i count = (sizeL (layI s i) count).1 := rfl
  generalize layI s (i : Int) = l at hil hR hE hN
  refine Jc rfl rfl (bGetN_spec q.bp s.lays i (by omega) l hil H) ?_
  clear H; rintro v w ⟨vr, vq, rfl, H⟩
  obtain ⟨ar, cr, rfl⟩ := sls_slice H (ncells_length _) (by decide)
  obtain ⟨aq, cq, rfl⟩ := sls_slice H.drop (ncells_length _) (by decide)
  refine J19 H ?_
  clear H; intro b10 w H
  refine J7 H ?_
  clear H; intro w H
  refine J50 H ?_
  refine J26 H ?_
  refine J6 H ?_
  replace H := Js [1,1,0,0,0,0,0,0,0,0,0,0,0,0,0] 0 H
  obtain ⟨D1, H, hD1, hC1⟩ := sls_rd H (ncells_length _) (by decide)
  obtain ⟨D2, H, hD2, hC2⟩ := sls_rd H.swap (ncells_length _) (by decide)
  refine Jc rfl rfl (Size_spec _ _ l hR count ⟨(hD1 _).there, hD2 _⟩ H) ?_
  clear H; rintro v w ⟨rfl, H⟩
  replace H := hC1 _ _ (hC2 _ _ H).swap
  replace H := Js [8,3,3,3,3,3,3,3,3,3,3,3] 3 H
  generalize hsz : sizeL l count = z at hE hN H ⊢
  obtain ⟨n, er⟩ := z
  refine J32 H ?_
  refine J15 H ?_
  refine C_joinQ (fun ms σ w => ms = [] ∧ er = 0 ∧ ¬ (∀ t ∈ s.tab, busy t = true) ∧ σ 0 = pp p ∧ σ 1 = .int .i64 region ∧ σ 2 = .int .i64 i ∧ σ 3 = .int .i64 count ∧ σ 8 = pp b8 ∧ σ 12 = .int .i64 n ∧
    Holds w (TAB q.tp s.tab :: BOOK q.bp s.lays :: pts b8 (row 88 [.int .i64 0, .int .i64 0]) :: CROW p q :: IMG q.ip q.sp q.bp :: ST q.sp s.size mem s.own :: TRE q.trp s.last s.par :: RS q.rp s.rem :: mp (ki .i64) ptrv q.sm (s.sps.map spkey) :: star (s.sps.map (spres q.sp)) :: mp (ki .i64) ptrv q.mm (s.mns.map mnkey) :: star (s.mns.map mnres) :: fr)) ?_ ?_
  · refine C_block ?_
    refine J20 H ?_
    by_cases h0 : er = 0
    · subst h0
      refine J111 H ?_
      refine J48 H ?_
      refine Jc rfl rfl (Left_spec q.tp s.tab H) ?_
      clear H; rintro v w ⟨rfl, H⟩
      have hbt : busyT s.tab ≤ s.tab.length := List.length_filter_le _ _
      by_cases hb : ∀ t ∈ s.tab, busy t = true
      · have hbe : busyT s.tab = s.tab.length := by unfold busyT; rw [List.filter_eq_self.2 hb]
        rw [show s.tab.length - busyT s.tab = 0 by omega]
        refine J152 H ?_
        clear H; intro w H
        refine J0 H ?_
        replace H := Js [2,2,2,1,1,0,0,0,0,0,0,0] 0 H
        refine C_ret (.inr ⟨by simp, Jz H (fun w' H' => .cellN H' rfl (by repeat (first | exact Reads.nil _ | apply Reads.cons rfl)) (.tmp .nil)) fun w' H' => .inr (.inl ⟨hE, hb, rfl, CELL_in hw hm H'.drop⟩)⟩)
      · have hbe : busyT s.tab ≠ s.tab.length := by
          intro h
          refine hb fun t ht => ?_
          exact List.length_filter_eq_length_iff.1 h t ht
        refine J3 H ?_
        rw [show (((s.tab.length - busyT s.tab : Nat) : Int) == 0) = false by simp; omega]
        refine J8 H ?_
        exact .inl ⟨rfl, rfl, rfl, hb, rfl, rfl, rfl, rfl, rfl, rfl, H⟩
    · rw [show (((er : Nat) : Int) != 0) = true by simpa using h0]
      refine J161 H ?_
      clear H; intro w H
      refine J0 H ?_
      replace H := Js [2,2,2,1,1,0,0,0,0,0,0,0] 0 H
      refine C_ret (.inr ⟨by simp, Jz H (fun w' H' => .cellN H' rfl (by repeat (first | exact Reads.nil _ | apply Reads.cons rfl)) (.tmp .nil)) fun w' H' => .inl ⟨by rw [hE]; exact h0, by rw [hE]; rfl, CELL_in hw hm H'.drop⟩⟩)
  clear H
  rintro ms σ w ⟨rfl, rfl, hfree, g0, g1, g2, g3, g8, g12, H⟩
  rw [upd_self g0, upd_self g1, upd_self g2, upd_self g3, upd_self g8, upd_self g12]
  clear g0 g1 g2 g3 g8 g12
  obtain ⟨z1, z2, z3, z4, z5⟩ := sizeL_ok hsz
  obtain ⟨c, rfl⟩ : ∃ c : Nat, count = c := ⟨count.toNat, by omega⟩
  have hrk : region ∈ s.par.map (·.1) := fnd_isSome_mem hlive
  obtain ⟨b, hkS⟩ := fnd_keys (l := s.sps) (f := fun x => x.1) (g := fun x => x.2.1) (k := region) (by rw [hw.skeys]; exact hrk)
  obtain ⟨⟨r0, b0, S⟩, p1, p2, hsps, h01, h02⟩ := fnd_split hkS
  obtain rfl : r0 = region := h01
  obtain rfl : b0 = b := h02
  obtain ⟨b2, hkM⟩ := fnd_keys (l := s.mns) (f := fun x => x.1) (g := fun x => x.2.1) (k := r0) (by rw [hw.mkeys]; exact hrk)
  obtain ⟨⟨r1, b1, L⟩, m1, m2, hmns, h11, h12⟩ := fnd_split hkM
  obtain rfl : r1 = r0 := h11
  obtain rfl : b1 = b2 := h12
  have hr1 : 1 ≤ r1 := by
    obtain ⟨⟨ra, rx⟩, hx, rfl⟩ := List.mem_map.1 hrk
    exact (hw.par.2.2 _ _ hx).1
  obtain ⟨r, rfl⟩ : ∃ r : Nat, r1 = r := ⟨r1.toNat, by omega⟩
  have hS : SpcOK s.size s.own r S := hw.spc ((r : Int), b0, S) (by rw [hsps]; simp)
  have hfin := fin_le hS hw.own.2 hw.size.2
  have hpl := parts_len hS
  have hown := hw.own.2
  refine J18 H ?_
  refine Lp_s rfl (St_lookup (ek := ki .i64) (vv := ptrv) (key := (r : Int)) H rfl rfl tkI rfl ?_)
  have hkS' : fnd (s.sps.map spkey) (r : Int) = some b0 := hkS
  have hkM' : fnd (s.mns.map mnkey) (r : Int) = some b1 := hkM
  rw [hkS']
  refine J13 H ?_
  rw [wrap64 (x := ((n : Nat) : Int) + 1) (by omega) (by omega), show ((n : Nat) : Int) + 1 = ((n + 1 : Nat) : Int) by omega]
  replace H := Js [9,5,0,0,0,0,0,0,0,0,0,0] 0 H
  replace H : Holds w (SPC b0 q.sp r S :: star ((p1 ++ p2).map (spres q.sp)) :: _) := (Holds.pick (R := spres q.sp) (x := ((r : Int), b0, S)) hsps).1 H
  replace H := Js [0,1,0,0,0,0,0,0,0,0,0,0,0] 0 H
  refine Jc rfl rfl (Alloc_spec b0 q.sp r s.size (n + 1) S mem s.own (by omega) (by omega) (by omega) hS.at1 hfin hown hw.size.1 hw.size.2 (by omega) H) ?_
  clear H
  rintro v w (⟨a, own', mem', S', rfl, al, H⟩ | ⟨rfl, hno, H⟩)
  case inr =>
    refine J71 H ?_
    refine J161 H ?_
    clear H; intro w H
    refine J0 H ?_
    replace H := Js [0,1,0,0,0,0,0,0,0,0,0,0,0] 0 H
    have H := (Holds.pick (R := spres q.sp) (x := ((r : Int), b0, S)) hsps).2 H
    replace H := Js [5,5,3,1,1,2,2,2,0,1,1,0] 0 H
    have H := (CELL_in hw hm H).swap
    refine C_ret (Jz H (fun w' H' => .cellN H' rfl (by repeat (first | exact Reads.nil _ | apply Reads.cons rfl)) (.tmp .nil)) fun w' H' => .inr (.inr (.inl ⟨hE, ?_, rfl, H'.drop⟩)))
    rw [hN]
    intro a ha
    rw [Nat.add_sub_cancel] at hno
    exact hno a ha
  have hol := alloc_own al
  obtain ⟨hml, hmo⟩ := alloc_mem hw hm.len al
  refine J39 H ?_
  refine J37 H ?_
  refine J46 H ?_
  replace H := Js [3,0,0,0,0,0,0,0,0,0,0,0,0] 0 H
  refine Jc rfl rfl (tAdd_spec q.tp s.tab ⟨a, r, true, false, i, c, List.replicate n 0⟩ H) ?_
  clear H
  rintro v w (⟨k, g0, hk, hg0, hbz, rfl, H⟩ | ⟨hb, _, _⟩)
  case inr => exact absurd hb hfree
  have hkl : k < s.tab.length := (List.getElem?_eq_some_iff.1 hk).1
  have hsl := hw.slots.2
  refine J19 H ?_
  clear H; intro b14 w H
  refine J7 H ?_
  clear H; intro w H
  refine J0 H ?_
  have hL := hw.mine ((r : Int), b1, L) (by rw [hmns]; simp)
  have hLk : k ∉ L := by
    intro hj
    obtain ⟨g, f, hf, _⟩ := (hL.2 k).1 hj
    rw [hk] at hf
    cases hf
  have hLs : (insL L k).Pairwise (· < ·) := insL_sorted hL.1 hLk
  have hmay : MayH i c k := ⟨by omega, by have := hw.lays.1; omega, by omega, by omega⟩
  have hobj : ObjOK s.lays k ⟨a, r, true, false, i, c, List.replicate n 0⟩ := by
    refine ⟨hmay, l, hil, hR, by simpa using hsz, fun x w hx => ?_⟩
    have hx : (List.replicate n 0)[x]? = some w := hx
    have := List.eq_of_mem_replicate (List.mem_of_getElem? hx)
    subst this
    exact ⟨by omega, fun _ => ⟨.none, trivial, rfl⟩⟩
  have al' : Alloced s.size s.own mem r S ((Ent.mk a r true false i c (List.replicate n 0)).ws.length + 1) own' mem' S' (Ent.mk a r true false i c (List.replicate n 0)).addr := by
    show Alloced s.size s.own mem r S ((List.replicate n 0).length + 1) own' mem' S' a
    rw [List.length_replicate]
    exact al
  have hwf := WF_make hw hk hg0 hsps hmns hndp (e := ⟨a, r, true, false, i, c, List.replicate n 0⟩) rfl hobj al' hLs (fun j => insL_mem)
  have htk : (s.tab.set k (⟨g0 + 1, some ⟨a, r, true, false, i, c, List.replicate n 0⟩⟩ : Slt))[k]? = some ⟨g0 + 1, some ⟨a, r, true, false, i, c, List.replicate n 0⟩⟩ := List.getElem?_set_self hkl
  have hlies : Lies s.size own' ⟨a, r, true, false, i, c, List.replicate n 0⟩ := (hwf.obj k _ _ htk).2.1
  have hfit : a + 1 + n ≤ mem'.length := by
    have h1 : endOf (Ent.mk a r true false i c (List.replicate n 0)) ≤ own'.length * s.size := hlies.1
    unfold endOf at h1
    rw [hml, hm.len, ← hol]
    simpa using h1
  have hod : Owned s.size own' a (n + 1) := by
    have := lies_owned hlies
    simpa using this
  replace H := Js [8,5,3,0,0,0,0,0,0,0,0,0,0,0] 0 H
  refine J1 H ?_
  clear H; intro w H
  refine J28 H ?_
  refine A_load1 3 [10] H rfl (Wants.none rfl) rfl rfl (by kernel_rfl) ?_
  refine J98 H ?_
  refine J64 H ?_
  refine A_load1 8 [10] H rfl (Wants.none rfl) rfl rfl (by kernel_rfl) ?_
  refine A_build 9 rfl (Wants.none rfl) rfl (by kernel_rfl) ?_
  refine Jo 10 H ?_
  refine Jk rfl rfl (iMake_spec q.ip q.sp q.bp s.size s.lays mem' own' a i c k n l hmay hil hR hsz hfit hod H) ?_
  clear H; rintro v w ⟨rfl, H⟩
  refine J4 H ?_
  replace H := Js [13,0,0,0,0,0,0,0,0,0,0,0,0,0] 0 H
  replace H : Holds w (BAG b1 L :: star ((m1 ++ m2).map mnres) :: _) := (Holds.pick (R := mnres) (x := ((r : Int), b1, L)) hmns).1 H
  have hL1 : L.length ≤ 63 := by
    have := ris_len L 0 63 (fun x hx => ⟨Nat.zero_le _, by
      obtain ⟨g, f, h3, _⟩ := (hL.2 x).1 hx
      have h4 := (List.getElem?_eq_some_iff.1 h3).1
      have := hw.slots.2
      omega⟩) hL.1
    omega
  refine J1 H ?_
  clear H; intro w H
  refine J28 H ?_
  refine J167 H ?_
  refine J63 H ?_
  refine A_lookup 5 [8] (key := (r : Int)) H rfl (Wants.none rfl) rfl rfl tkI (by kernel_rfl) ?_
  rw [hkM']
  refine J57 H ?_
  refine A_load1 7 [8] H rfl (Wants.none rfl) rfl rfl (by kernel_rfl) ?_
  refine Jo 8 H ?_
  refine Jk rfl rfl (gPutA_spec b1 L k hL.1 (by omega) hLk H) ?_
  clear H; rintro v w ⟨rfl, H⟩
  refine J4 H ?_
  refine J81 H ?_
  clear H; intro w H
  refine J0 H ?_
  have hap : ∀ (j g : Nat) (f : Ent), s.tab[j]? = some ⟨g, some f⟩ → endOf f ≤ (Ent.mk a r true false i c (List.replicate n 0)).addr ∨ endOf (Ent.mk a r true false i c (List.replicate n 0)) ≤ f.addr := by
    intro j g f hj
    have hne : j ≠ k := fun h => by subst h; rw [hk] at hj; cases hj
    refine hwf.apart j k g (g0 + 1) f _ hne ?_ htk
    show (s.tab.set k _)[j]? = _
    rw [List.getElem?_set_ne (fun h => hne h.symm)]
    exact hj
  have hsl2 : (mem'.set a (encH i c k)).length = mem'.length := List.length_set
  have hmem := MemOK_make hw hm hk (e := ⟨a, r, true, false, i, c, List.replicate n 0⟩) al' (mem2 := setR (mem'.set a (encH i c k)) (a + 1) n 0) (by rw [setR_length (by omega), hsl2]) hol
    (by
      show (setR (mem'.set a (encH i c k)) (a + 1) n 0)[a]? = some (encH i c k)
      rw [setR_get (by omega), if_neg (by omega), List.getElem?_set_self (by omega)])
    (fun x w hx => by
      have hx : (List.replicate n 0)[x]? = some w := hx
      have h0 := List.eq_of_mem_replicate (List.mem_of_getElem? hx)
      have h1 := (List.getElem?_eq_some_iff.1 hx).1
      rw [List.length_replicate] at h1
      subst h0
      show (setR (mem'.set a (encH i c k)) (a + 1) n 0)[a + 1 + x]? = some 0
      rw [setR_get (by omega), if_pos (by omega)])
    (fun x hx => by
      have hx : x < a ∨ endOf (Ent.mk a r true false i c (List.replicate n 0)) ≤ x := hx
      unfold endOf at hx
      rw [List.length_replicate] at hx
      have hx : x < a ∨ a + 1 + n ≤ x := hx
      rw [setR_get (by omega), if_neg (by omega), List.getElem?_set_ne (by omega)])
    hap (s' := { s with own := own', tab := s.tab.set k ⟨g0 + 1, some ⟨a, r, true, false, i, c, List.replicate n 0⟩⟩, sps := p1 ++ ((r : Int), b0, S') :: p2, mns := m1 ++ ((r : Int), b1, insL L k) :: m2 }) rfl rfl rfl
  have hkeyS : s.sps.map spkey = (p1 ++ ((r : Int), b0, S') :: p2).map spkey := by rw [hsps]; simp
  have hkeyM : s.mns.map mnkey = (m1 ++ ((r : Int), b1, insL L k) :: m2).map mnkey := by rw [hmns]; simp
  rw [hkeyS, hkeyM] at H
  have H := (Holds.pick (R := mnres) (x := ((r : Int), b1, insL L k)) (g1 := m1) (g2 := m2) rfl).2 H
  replace H := Js [6,6,0,0,0,0,1,1,1,1,1,1,1] 1 H
  have H := (Holds.pick (R := spres q.sp) (x := ((r : Int), b0, S')) (g1 := p1) (g2 := p2) rfl).2 H
  replace H := Js [7,2,2,2,2,3,3,3,0,2,0,0] 0 H
  have H := (CELL_in hwf hmem H).swap
  refine C_ret (Jz H (fun w' H' => .cellN H' rfl (by repeat (first | exact Reads.nil _ | apply Reads.cons rfl)) (.tmp .nil)) fun w' H' => .inr (.inr (.inr ⟨hE, k, g0, a, { s with own := own', tab := s.tab.set k ⟨g0 + 1, some ⟨a, r, true, false, i, c, List.replicate n 0⟩⟩, sps := p1 ++ ((r : Int), b0, S') :: p2, mns := m1 ++ ((r : Int), b1, insL L k) :: m2 }, hk, hg0, hbz, rfl, rfl, rfl, rfl, rfl, rfl, ?_, by rw [hN]; exact alloc_grows hw.size.1 al, H'.drop⟩)))
  show s.tab.set k _ = s.tab.set k _
  rw [hN]
  rfl
end Go.Proofs.YtipelpbkeiphmaaGreatDoor
namespace Go.Proofs.YtipelpbkeiphmaaGreatDoor
open Go.SL

end Go.Proofs.YtipelpbkeiphmaaGreatDoor
namespace Go.Proofs.YtipelpbkeiphmaaGreatDoor
open Go.SL

end Go.Proofs.YtipelpbkeiphmaaGreatDoor
namespace Go.Proofs.YtipelpbkeiphmaaGreatDoor
open Go.SL

/-! ### A slot that is not used -/
end Go.Proofs.YtipelpbkeiphmaaGreatDoor
namespace Go.Proofs.YtipelpbkeiphmaaGreatDoor
open Go.SL

end Go.Proofs.YtipelpbkeiphmaaGreatDoor
namespace Go.Proofs.YtipelpbkeiphmaaGreatDoor
open Go.SL

theorem at_T [Extra] (p : Nat) (q : Ptr) (ts : List Slt) (k n : Nat) (e : Ent) (hk : ts[k]? = some ⟨n, some e⟩) {w : World} {fr : List HProp} (H : Holds w (TAB q.tp ts :: CROW p q :: fr)) :
    Calls Tryz.prog 153 #[pp p, .int .i64 k] w (ret fun v w' => v = .tuple #[.agg (evl e).toArray, .bool true] ∧ Holds w' (TAB q.tp ts :: CROW p q :: fr)) := by
  have hL : lookT ts k n = some (k, e) := lookT_some.2 ⟨n, rfl, rfl, hk⟩
  refine calls_of Tryz.func153 rfl (by kernel_rfl) ?_
  refine J22 H ?_
  clear H; intro b4 w H
  refine J126 H ?_
  replace H := Js [1,0] 0 H
  refine J18 H ?_
  refine Jc rfl rfl (tAt_spec q.tp ts k n e hk H) ?_
  clear H; rintro v w ⟨rfl, H⟩
  refine J19 H ?_
  clear H; intro b6 w H
  refine J7 H ?_
  clear H; intro w H
  refine J15 H ?_
  refine C_join (fun ms σ w => ms = [] ∧ ∃ b8, σ 4 = pp b4 ∧ σ 7 = .bool true ∧ σ 8 = pp b8 ∧
      Holds w (pts b4 (row 102 [.int .i64 0, .int .i64 0, .bool false, .bool false]) :: pts b8 (row 102 (evl e)) :: TAB q.tp ts :: CROW p q :: fr)) ?_ ?_
  · replace H := Js [1,0] 0 H
    refine J1 H ?_
    clear H; intro w H
    refine J162 H ?_
    refine A_two 5 9 rfl rfl (by kernel_rfl) (by repeat first | exact .nil | refine .cons (.inr H.at) ?_ | refine .cons (.inr H.mp) ?_ | refine .cons (.inl (by kernel_rfl)) ?_) (Wants.none rfl) (Wants.none rfl) (St_call (a := []) (b := []) rfl rfl (call (tGetV_spec q.tp ts k n H) ?_)) (St_alloc H rfl ?_)
    · clear H; rintro v w ⟨rfl, H⟩
      rw [hL]
      refine J163 H ?_
      clear H; intro b8 w H
      refine J164 H ?_
      clear H; intro w H
      refine J36 H ?_
      replace H := Js [3,0,0,1] 1 H
      exact ⟨rfl, rfl, b8, rfl, rfl, rfl, H⟩
    · clear H; intro b8 w H
      refine Jo 5 H ?_
      refine Jk rfl rfl (tGetV_spec q.tp ts k n H.swap) ?_
      clear H; rintro v w ⟨rfl, H⟩
      rw [hL]
      refine J165 H ?_
      clear H; intro w H
      refine J36 H ?_
      replace H := Js [3,1,0,1] 1 H
      exact ⟨rfl, rfl, b8, rfl, rfl, rfl, H⟩
  · clear H
    rintro ms σ w ⟨rfl, b8, g4, g7, g8, H⟩
    rw [upd_self g4, upd_self g7, upd_self g8]
    refine J158 H ?_
    clear H; intro w H
    refine J0 H ?_
    exact C_ret (Jz H (fun w' H' => .cellN H' rfl (by repeat (first | exact Reads.nil _ | apply Reads.cons rfl)) (.tmp .nil)) fun w' H' => ⟨rfl, H'.drop.drop⟩)

theorem entry_T [Extra] (p : Nat) (q : Ptr) (ts : List Slt) (k n : Nat) (e : Ent) (hk : ts[k]? = some ⟨n, some e⟩) {w : World} {fr : List HProp} (H : Holds w (TAB q.tp ts :: CROW p q :: fr)) :
    Calls Tryz.prog 85 #[pp p, .int .i64 k] w (ret fun v w' => v = .tuple #[tkn k n, .agg (evl e).toArray] ∧ Holds w' (TAB q.tp ts :: CROW p q :: fr)) := by
  have hL : lookT ts k n = some (k, e) := lookT_some.2 ⟨n, rfl, rfl, hk⟩
  refine calls_of Tryz.func85 rfl (by kernel_rfl) ?_
  refine J22 H ?_
  clear H; intro b4 w H
  refine J17 H ?_
  clear H; intro b5 w H
  refine Lp_nil ?_
  replace H := Js [2,0,0] 0 H
  refine J18 H ?_
  refine Jc rfl rfl (tAt_spec q.tp ts k n e hk H) ?_
  clear H; rintro v w ⟨rfl, H⟩
  refine J19 H ?_
  clear H; intro b6 w H
  refine J7 H ?_
  clear H; intro w H
  refine J15 H ?_
  refine C_join (fun ms σ w => ms = [] ∧ ∃ b8, σ 4 = pp b4 ∧ σ 5 = pp b5 ∧ σ 6 = pp b6 ∧ σ 8 = pp b8 ∧
      Holds w (pts b4 (row 88 [.int .i64 0, .int .i64 0]) :: pts b5 (row 102 [.int .i64 0, .int .i64 0, .bool false, .bool false]) :: pts b8 (row 102 (evl e)) :: pts b6 (row 88 [.int .i64 k, .int .i64 n]) :: TAB q.tp ts :: CROW p q :: fr)) ?_ ?_
  · replace H := Js [1,0] 0 H
    refine J1 H ?_
    clear H; intro w H
    refine J162 H ?_
    refine A_two 5 9 rfl rfl (by kernel_rfl) (by repeat first | exact .nil | refine .cons (.inr H.at) ?_ | refine .cons (.inr H.mp) ?_ | refine .cons (.inl (by kernel_rfl)) ?_) (Wants.none rfl) (Wants.none rfl) (St_call (a := []) (b := []) rfl rfl (call (tGetV_spec q.tp ts k n H) ?_)) (St_alloc H rfl ?_)
    · clear H; rintro v w ⟨rfl, H⟩
      rw [hL]
      refine J163 H ?_
      clear H; intro b8 w H
      refine J164 H ?_
      clear H; intro w H
      refine J36 H ?_
      replace H := Js [4,3,0,1,0,0] 0 H
      exact ⟨rfl, rfl, b8, rfl, rfl, rfl, rfl, H⟩
    · clear H; intro b8 w H
      refine Jo 5 H ?_
      refine Jk rfl rfl (tGetV_spec q.tp ts k n H.swap) ?_
      clear H; rintro v w ⟨rfl, H⟩
      rw [hL]
      refine J165 H ?_
      clear H; intro w H
      refine J36 H ?_
      replace H := Js [4,3,1,1,0,0] 0 H
      exact ⟨rfl, rfl, b8, rfl, rfl, rfl, rfl, H⟩
  · clear H
    rintro ms σ w ⟨rfl, b8, g4, g5, g6, g8, H⟩
    rw [upd_self g4, upd_self g5, upd_self g6, upd_self g8]
    refine J1 H ?_
    clear H; intro w H
    refine A_loadN 0 [2, 3] H rfl (Wants.none rfl) rfl (by repeat (first | exact Reads.nil _ | apply Reads.cons rfl)) (by kernel_rfl) ?_
    refine A_loadN 1 [3] H rfl (Wants.none rfl) rfl (by repeat (first | exact Reads.nil _ | apply Reads.cons rfl)) (by kernel_rfl) ?_
    refine Jo 2 H ?_
    refine J66 H ?_
    clear H; intro w H
    refine Jo 3 H ?_
    refine J66 H ?_
    clear H; intro w H
    refine J4 H ?_
    exact C_ret (Jz H (fun w' H' => .cellN H' rfl (by repeat (first | exact Reads.nil _ | apply Reads.cons rfl)) (.cellN H' rfl (by repeat (first | exact Reads.nil _ | apply Reads.cons rfl)) .nil)) fun w' H' => ⟨rfl, H'.drop.drop.drop.drop⟩)
end Go.Proofs.YtipelpbkeiphmaaGreatDoor
namespace Go.Proofs.YtipelpbkeiphmaaGreatDoor
open Go.SL

/-- A row of numbers that a call of the library has put there. -/
theorem put_holds [Extra] {w : World} {b m E : Nat} {l l' : List Int} {s : List Value} {fr : List HProp} (H : Holds w (pts b (row E (icells l ++ s)) :: fr)) (hl : l'.length = l.length) :
    Holds (Go.Sort.putRow (Value.int .i64) (Go.Sort.ahead w m) b 0 l'.toArray) (pts b (row E (icells l' ++ s)) :: fr) := by
  have hb := H.pts
  have e1 : (Go.Sort.putRow (Value.int .i64) (Go.Sort.ahead w m) b 0 l'.toArray).heap = w.heap.modify b (Go.Sort.onCells (Go.Sort.putCells (Value.int .i64) 0 l'.toArray)) := rfl
  refine H.set ?_ ?_
  · rw [e1, Array.getElem?_modify, if_pos rfl, hb]
    simp only [Option.map_some, row, Go.Sort.onCells]
    congr 2
    apply Array.ext'
    apply List.ext_getElem?
    intro t
    simp only [Go.Sort.putCells, Array.getElem?_toList, Array.getElem?_mapIdx, List.getElem?_toArray, Nat.zero_le, true_and, Nat.zero_add, Nat.sub_zero, List.size_toArray]
    have l1 : (icells l).length = l.length := by simp [icells]
    have l2 : (icells l').length = l.length := by simp [icells, hl]
    by_cases ht : t < l.length
    · rw [List.getElem?_append_left (by omega), List.getElem?_append_left (by omega)]
      have ht' : t < l'.length := by omega
      simp only [icells, List.getElem?_map, List.getElem?_eq_getElem ht, List.getElem?_eq_getElem ht', Option.map_some, if_pos ht']
      rw [getElem!_pos _ t (by simpa using ht')]
      simp
    · rw [List.getElem?_append_right (by omega), List.getElem?_append_right (by omega), l1, l2]
      have ht' : ¬ t < l'.length := by omega
      cases s[t - l.length]? with
      | none => rfl
      | some y => simp; intro h; omega
  · intro c hc
    rw [e1, Array.getElem?_modify, if_neg (Ne.symm hc)]

theorem Delete_spec [Extra] (v : Value) (l : List Nat) (i : Nat) (hi : i < l.length) (hl : l.length ≤ 1000000) {w : World} {fr : List HProp} (H : Holds w (NL v l :: fr)) :
    Calls Tryz.prog 247 #[v, .int .i64 i, .int .i64 ((i + 1 : Nat) : Int)] w (ret fun v' w' => Holds w' (NL v' (l.eraseIdx i) :: fr)) := by
  rcases sls_case H with ⟨rfl, h0, _⟩ | ⟨b, n, cap, s, rfl, e3, e4, e5, H2⟩
  · have : (ncells l).length = 0 := by rw [h0]; rfl
    rw [ncells_length] at this
    omega
  · rw [ncells_length] at e3
    obtain rfl : n = l.length := by omega
    have hb := H2.pts
    have hzl : (l.map fun x : Nat => (x : Int)).length = l.length := List.length_map _
    rw [ncells_icells] at H2
    have hic : (icells (l.map fun x : Nat => (x : Int))).length = l.length := by simp [icells]
    have hbig := e4.2
    have hd := Any.slices_Delete_int Tryz.laysDel b 0 cap i (i + 1) (l.map fun x : Nat => (x : Int)) w (fun j hj => by
      have hj' : j < l.length := by simpa using hj
      refine ⟨?_, frozen_row hb⟩
      refine cell_row H2.pts ?_
      rw [Nat.zero_add, List.getElem?_append_left (by omega)]
      simp [icells, hj']) (by omega) hbig (by omega) (by omega)
    rw [hzl] at hd
    refine hd.mono ?_
    rintro e w' ⟨rfl, q, rfl⟩
    have h3 := put_holds (m := q) (l' := (l.map fun x : Nat => (x : Int)).take i ++ (l.map fun x : Nat => (x : Int)).drop (i + 1) ++ List.replicate (i + 1 - i) 0) H2 (by simp; omega)
    rw [show i + 1 - i = 1 by omega] at h3 ⊢
    have e6 : icells ((l.map fun x : Nat => (x : Int)).take i ++ (l.map fun x : Nat => (x : Int)).drop (i + 1) ++ List.replicate 1 0) ++ s = ncells (l.eraseIdx i) ++ (.int .i64 0 :: s) := by
      rw [ncells_icells, List.eraseIdx_eq_take_drop_succ]
      simp [icells]
    rw [e6] at h3
    exact sls_of (by rw [ncells_length, List.length_eraseIdx, if_pos hi] <;> omega) (by omega) (by first | (simp; omega) | simp) h3

theorem pos_get {l : List Nat} (hs : l.Pairwise (· < ·)) {x : Nat} (hx : x ∈ l) : posL l x < l.length ∧ l.eraseIdx (posL l x) = l.filter (· ≠ x) := by
  induction l with
  | nil => cases hx
  | cons a l ih =>
    rw [List.pairwise_cons] at hs
    unfold posL
    rcases List.mem_cons.1 hx with rfl | hx'
    · have h0 : (x :: l).countP (· < x) = 0 := by
        rw [List.countP_eq_zero]
        intro y hy
        rcases List.mem_cons.1 hy with rfl | hy
        · simp
        · have := hs.1 y hy
          simp
          omega
      rw [h0]
      refine ⟨by simp, ?_⟩
      rw [List.eraseIdx_cons_zero, List.filter_cons_of_neg (by simp)]
      exact (List.filter_eq_self.2 fun y hy => by have := hs.1 y hy; simp; omega).symm
    · have hax := hs.1 x hx'
      have h1 : (a :: l).countP (· < x) = posL l x + 1 := by rw [List.countP_cons_of_pos (by simpa using hax)]; rfl
      obtain ⟨i1, i2⟩ := ih hs.2 hx'
      rw [h1]
      refine ⟨by simp; omega, ?_⟩
      rw [List.eraseIdx_cons_succ, i2, List.filter_cons_of_pos (by simp; omega)]
theorem gDel_spec [Extra] (p : Nat) (l : List Nat) (x : Nat) (hs : l.Pairwise (· < ·)) (hl : l.length ≤ 100000) {w : World} {fr : List HProp} (H : Holds w (BAG p l :: fr)) :
    Calls Tryz.prog 172 #[pp p, .int .i64 x] w (ret fun v w' => v = .bool (decide (x ∈ l)) ∧ Holds w' (BAG p (l.filter (· ≠ x)) :: fr)) := by
  obtain ⟨a, c, H⟩ := BAG_out H
  refine calls_of Tryz.func172 rfl (by kernel_rfl) ?_
  refine J85 H ?_
  obtain ⟨D1, H, hD1, hC1⟩ := sls_rd H.swap (ncells_length _) (by decide)
  refine Jc rfl rfl (Search_spec _ l (by omega) hs x (hD1 _) H) ?_
  clear H; rintro v w ⟨rfl, H⟩
  replace H := hC1 _ _ H
  refine J27 H ?_
  refine J12 H ?_
  refine C_join (fun ms σ w => ms = [] ∧ σ 6 = .bool (decide (x ∈ l)) ∧ Holds w (BAG p (l.filter (· ≠ x)) :: fr)) ?_ ?_
  · by_cases hx : x ∈ l
    · obtain ⟨h1, h2⟩ := pos_get hs hx
      rw [decide_eq_true hx]
      refine C_true rfl ?_
      refine J67 H ?_
      refine J145 H ?_
      rw [inc64 (by omega)]
      refine Jc rfl rfl (Delete_spec _ l (posL l x) h1 (by omega) H) ?_
      clear H; intro v w H
      obtain ⟨a28, m28, c28, rfl⟩ := sls_any H
      rw [h2] at H
      refine J51 H ?_
      clear H; intro w H
      refine Lp_nil ?_
      exact ⟨rfl, rfl, rfl, BAG_in H.swap⟩
    · rw [decide_eq_false hx]
      refine C_false rfl (C_skip ?_)
      rw [show l.filter (· ≠ x) = l from List.filter_eq_self.2 fun y hy => by simp; rintro rfl; exact hx hy]
      exact ⟨rfl, rfl, rfl, BAG_in H.swap⟩
  · clear H
    rintro ms σ w ⟨rfl, g6, H⟩
    rw [upd_self g6]
    refine J5 H ?_
    exact C_ret (Jy H rfl fun w' H' => ⟨rfl, H'⟩)
end Go.Proofs.YtipelpbkeiphmaaGreatDoor
namespace Go.Proofs.YtipelpbkeiphmaaGreatDoor
open Go.SL

theorem TabOk.drop {ts : List Slt} {x k n : Nat} {e : Ent} (h : TabOk ts x) (hk : ts[k]? = some ⟨n, some e⟩) (hn : n < 255) : TabOk (ts.set k ⟨n, none⟩) (setB x k false) := by
  have hkl := (List.getElem?_eq_some_iff.1 hk).1
  refine ⟨by rw [List.length_set]; exact h.bits.set hkl, fun i u hu => ?_, fun i u hu => ?_⟩
  · rw [setB_bit]
    rcases tab_set hu with ⟨rfl, rfl, _⟩ | ⟨hne, hu⟩
    · rw [if_pos rfl]
      show false = ((none : Option Ent).isSome || n == 255)
      have : (n == 255) = false := by rw [beq_eq_false_iff_ne]; omega
      rw [this]
      rfl
    · rw [if_neg hne]; exact h.bit _ _ hu
  · rcases tab_set hu with ⟨rfl, rfl, _⟩ | ⟨_, hu⟩
    · show n ≤ 255; omega
    · exact h.gen _ _ hu

theorem tDrop_spec [Extra] (p : Nat) (ts : List Slt) (k n : Nat) (e : Ent) (hk : ts[k]? = some ⟨n, some e⟩) (hn : n < 255) {w : World} {fr : List HProp} (H : Holds w (TAB p ts :: fr)) :
    Calls Tryz.prog 173 #[pp p, tkn k n] w (ret fun v w' => v = .int .i64 0 ∧ Holds w' (TAB p (ts.set k ⟨n, none⟩) :: fr)) := by
  obtain ⟨b, c, s, u, x, hok, hc, H, hclose⟩ := TAB_out H
  have hL : lookT ts k n = some (k, e) := lookT_some.2 ⟨n, rfl, rfl, hk⟩
  have hlen := flat_len tval_len ts
  have hkl : k < ts.length := (List.getElem?_eq_some_iff.1 hk).1
  refine calls_of Tryz.func173 rfl (by kernel_rfl) ?_
  refine J10 H ?_
  clear H; intro b3 w H
  refine J124 H ?_
  replace H := Js [1,1,0,0] 0 H
  refine Jc rfl rfl (find_open p b c u _ rfl ts s hok.bits.le k n H) ?_
  clear H; rintro v w ⟨rfl, H⟩
  rw [hL]
  refine J39 H ?_
  refine J2 H ?_
  refine J46 H ?_
  refine J6 H ?_
  refine J72 H ?_
  replace H := Js [1,0,0,0] 0 H
  refine Lp_s rfl (St_store1 H rfl rfl inferInstance rfl (by rw [List.length_append, hlen]; omega) rfl ?_)
  clear H; intro w H
  refine J6 H ?_
  refine J72 H ?_
  refine Lp_s rfl (St_storeN (vs := [.int .i64 0, .int .i64 0, .bool false, .bool false]) H rfl rfl inferInstance rfl rfl (by rw [List.length_set, List.length_append, hlen]; omega) rfl ?_)
  clear H; intro w H
  replace H : Holds w (pts b (row 223 (wr (ts.flatMap tval ++ s) (k * 6 + 1) [.bool false, .int .i64 0, .int .i64 0, .bool false, .bool false])) :: _) := H
  rw [flat_wr (x' := ⟨n, none⟩) tval_len hk (by simp) rfl] at H
  refine Lp_nil ?_
  have c0 : ((ts.set k ⟨n, none⟩).flatMap tval ++ s)[k * 6 + 0]? = some (.int .i64 n) := flat_get tval_len (List.getElem?_set_self hkl) rfl
  refine J2 H ?_
  refine J72 H ?_
  refine Lp_s rfl (St_load1 H rfl c0 rfl ?_)
  refine J0 H ?_
  rw [show ((n : Int) == 255) = false by rw [beq_eq_false_iff_ne]; omega]
  refine J8 H ?_
  refine J1 H ?_
  clear H; intro w H
  refine J125 H ?_
  refine J47 H ?_
  refine A_load1 5 [6] H rfl (Wants.none rfl) rfl rfl (by kernel_rfl) ?_
  replace H := Js [3,0,0,0] 0 H
  refine Jo 6 H ?_
  refine Jk rfl rfl (bSet_spec u ts.length x k false hok.bits hkl H) ?_
  clear H; rintro v w ⟨rfl, H⟩
  refine J4 H ?_
  refine J9 H ?_
  replace H := Js [2,1,0] 1 H
  refine C_ret (Jy H rfl fun w' H' => ⟨rfl, hclose _ _ (ts.set k ⟨n, none⟩) _ (by simp) (goneT_set hk ?_) (hok.drop hk hn) H'⟩)
  show ((none : Option Ent).isNone && n == 255) = ((some e).isNone && n == 255)
  have : (n == 255) = false := by rw [beq_eq_false_iff_ne]; omega
  rw [this]
  rfl
end Go.Proofs.YtipelpbkeiphmaaGreatDoor
namespace Go.Proofs.YtipelpbkeiphmaaGreatDoor
open Go.SL

def lkE (e : Ent) (p : Nat) : Lnk := lnkOf (e.ws.getD p 0)
end Go.Proofs.YtipelpbkeiphmaaGreatDoor
namespace Go.Proofs.YtipelpbkeiphmaaGreatDoor
open Go.SL

/-- A reference of an object, to another region's object. -/
def Far (s : CS) (r : Int × Int) (t : Int) : Prop := ∃ (k p g : Nat) (e : Ent) (a b : Nat) (f : Ent), r = ((k : Int), (p : Int)) ∧ s.tab[k]? = some ⟨g, some e⟩ ∧ p < e.ws.length ∧ isRefL (layE s e) p = true ∧ lkE e p = .obj a b ∧ lookT s.tab a b = some (a, f) ∧ f.region ≠ e.region ∧ t = a
structure Inv (s : CS) : Prop where
  nd : (s.rem.map (·.1)).Nodup
  rem : ∀ r t, fnd s.rem r = some t ↔ Far s r t
  link : ∀ (k g : Nat) (e : Ent) (p a b : Nat), s.tab[k]? = some ⟨g, some e⟩ → p < e.ws.length → isRefL (layE s e) p = true → lkE e p = .obj a b → ∃ f, lookT s.tab a b = some (a, f)

theorem lookT_self {ts : List Slt} {a b c : Nat} {f : Ent} (h : lookT ts a b = some (c, f)) : c = a ∧ ts[a]? = some ⟨b, some f⟩ := by
  obtain ⟨n, h1, h2, h3⟩ := lookT_some.1 h
  obtain rfl : c = a := by omega
  obtain rfl : n = b := by omega
  exact ⟨rfl, h3⟩
/-- What one looks at: the same regions, layouts, links. -/
structure SameL (s : CS) (k g : Nat) (e e' : Ent) : Prop where
  at' : s.tab[k]? = some ⟨g, some e⟩
  region : e'.region = e.region
  lay : e'.lay = e.lay
  len : e'.ws.length = e.ws.length
theorem lookT_setE {s : CS} {k g : Nat} {e e' : Ent} (h : s.tab[k]? = some ⟨g, some e⟩) (a b : Nat) : lookT (setE s k g e').tab a b = (lookT s.tab a b).map fun q => if q.1 = k then (k, e') else q := by
  have hkl := (List.getElem?_eq_some_iff.1 h).1
  cases hl : lookT s.tab a b with
  | some q =>
    obtain ⟨c, f⟩ := q
    obtain ⟨rfl, hc⟩ := lookT_self hl
    by_cases hk : c = k
    · subst hk
      rw [h] at hc
      injection hc with hc
      injection hc with h1 h2
      subst h1
      show _ = some (if c = c then (c, e') else _)
      rw [if_pos rfl]
      exact lookT_some.2 ⟨g, rfl, rfl, List.getElem?_set_self hkl⟩
    · show _ = some (if c = k then (k, e') else (c, f))
      rw [if_neg hk]
      exact lookT_some.2 ⟨b, rfl, rfl, by show (s.tab.set k _)[c]? = _; rw [List.getElem?_set_ne (Ne.symm hk)]; exact hc⟩
  | none =>
    show _ = none
    cases hl2 : lookT (setE s k g e').tab a b with
    | none => rfl
    | some q =>
      obtain ⟨c, f⟩ := q
      obtain ⟨rfl, hc⟩ := lookT_self hl2
      have hc : (s.tab.set k ⟨g, some e'⟩)[c]? = some ⟨b, some f⟩ := hc
      rcases tab_set hc with ⟨rfl, h2, _⟩ | ⟨_, h2⟩
      · injection h2 with h2 _
        subst h2
        rw [lookT_some.2 ⟨b, rfl, rfl, h⟩] at hl
        cases hl
      · rw [lookT_some.2 ⟨b, rfl, rfl, h2⟩] at hl
        cases hl
theorem link_setE {s : CS} {k g : Nat} {e e' : Ent} (h : SameL s k g e e') {a b : Nat} : (∃ f, lookT (setE s k g e').tab a b = some (a, f)) ↔ ∃ f, lookT s.tab a b = some (a, f) := by
  rw [lookT_setE h.at']
  constructor
  · rintro ⟨f, hf⟩
    rw [Option.map_eq_some_iff] at hf
    obtain ⟨⟨c, f'⟩, h1, _⟩ := hf
    obtain ⟨rfl, _⟩ := lookT_self h1
    exact ⟨f', h1⟩
  · rintro ⟨f, hf⟩
    rw [hf]
    by_cases hk : a = k
    · exact ⟨e', by show some (if a = k then (k, e') else (a, f)) = _; rw [if_pos hk, hk]⟩
    · exact ⟨f, by show some (if a = k then (k, e') else (a, f)) = _; rw [if_neg hk]⟩
/-- .. of a region. -/
theorem reg_setE {s : CS} {k g : Nat} {e e' : Ent} (h : SameL s k g e e') {a b : Nat} {P : Int → Prop} : (∃ f, lookT (setE s k g e').tab a b = some (a, f) ∧ P f.region) ↔ ∃ f, lookT s.tab a b = some (a, f) ∧ P f.region := by
  rw [lookT_setE h.at']
  constructor
  · rintro ⟨f, hf, hp⟩
    rw [Option.map_eq_some_iff] at hf
    obtain ⟨⟨c, f'⟩, h1, h2⟩ := hf
    obtain ⟨rfl, h3⟩ := lookT_self h1
    refine ⟨f', h1, ?_⟩
    by_cases hk : c = k
    · subst hk
      rw [if_pos rfl] at h2
      injection h2 with _ h2
      subst h2
      rw [h.at'] at h3
      injection h3 with h3
      injection h3 with _ h3
      injection h3 with h3
      subst h3
      rw [h.region] at hp
      exact hp
    · rw [if_neg hk] at h2
      injection h2 with _ h2
      subst h2
      exact hp
  · rintro ⟨f, hf, hp⟩
    rw [hf]
    by_cases hk : a = k
    · subst hk
      obtain ⟨_, h3⟩ := lookT_self hf
      rw [h.at'] at h3
      injection h3 with h3
      injection h3 with _ h3
      injection h3 with h3
      subst h3
      exact ⟨e', by show some (if a = a then (a, e') else (a, e)) = _; rw [if_pos rfl], by rw [h.region]; exact hp⟩
    · exact ⟨f, by show some (if a = k then (k, e') else (a, f)) = _; rw [if_neg hk], hp⟩
end Go.Proofs.YtipelpbkeiphmaaGreatDoor
