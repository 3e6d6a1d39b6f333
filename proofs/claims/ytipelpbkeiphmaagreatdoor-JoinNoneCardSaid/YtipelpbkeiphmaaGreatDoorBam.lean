/- Cells: what is proved on the way: every input of the statement; no condition. Texts joined: JoiA DelA DelB LnkC InvP InvQ DelC JoiB RmO BumB StoC BumC. -/
import Derived.Test.YtipelpbkeiphmaaGreatDoorBaf
import Derived.Test.YtipelpbkeiphmaaGreatDoorBak
import Derived.Test.YtipelpbkeiphmaaGreatDoorBal
import Derived.Test.YtipelpbkeiphmaaGreatDoorBaj
import Derived.Test.YtipelpbkeiphmaaGreatDoorBah
set_option linter.unusedVariables false
set_option linter.unusedSimpArgs false
set_option linter.unusedSectionVars false
namespace Go.Proofs.YtipelpbkeiphmaaGreatDoor
open Go.SL

theorem at_T [Extra] (p : Nat) (q : Ptr) (ts : List Slt) (k n : Nat) (e : Ent) (hk : ts[k]? = some ⟨n, some e⟩) {w : World} {fr : List HProp} (H : Holds w (TAB q.tp ts :: CROW p q :: fr)) :
    Calls Tryz.prog 153 #[pp p, .int .i64 k] w (ret fun v w' => v = .tuple #[.agg (evl e).toArray, .bool true] ∧ Holds w' (TAB q.tp ts :: CROW p q :: fr)) := by
  have hL : lookT ts k n = some (k, e) := lookT_some.2 ⟨n, rfl, rfl, hk⟩
  refine calls_of Tryz.func153 rfl (by kernel_rfl) ?_
  refine J23 H ?_
  clear H; intro b4 w H
  refine J125 H ?_
  replace H := Js [1,0] 0 H
  refine J18 H ?_
  refine Jc rfl rfl (tAt_spec q.tp ts k n e hk H) ?_
  clear H; rintro v w ⟨rfl, H⟩
  refine J19 H ?_
  clear H; intro b6 w H
  refine J6 H ?_
  clear H; intro w H
  refine J15 H ?_
  refine C_join (fun ms σ w => ms = [] ∧ ∃ b8, σ 4 = pp b4 ∧ σ 7 = .bool true ∧ σ 8 = pp b8 ∧
      Holds w (pts b4 (row 102 [.int .i64 0, .int .i64 0, .bool false, .bool false]) :: pts b8 (row 102 (evl e)) :: TAB q.tp ts :: CROW p q :: fr)) ?_ ?_
  · replace H := Js [1,0] 0 H
    refine J1 H ?_
    clear H; intro w H
    refine J162 H ?_
    refine A_two 5 9 rfl rfl (by kernel_rfl) (by repeat first | exact .nil | refine .cons (.inr H.at) ?_ | refine .cons (.inr H.mp) ?_ | refine .cons (.inl (by kernel_rfl)) ?_) (Wants.none rfl) (Wants.none rfl) (St_call (a := []) (b := []) rfl rfl (call (tGetV_spec q.tp ts k n H) ?_)) (St_alloc H rfl ?_)
    · clear H; rintro v w ⟨rfl, H⟩
      rw [hL]
      refine J163 H ?_
      clear H; intro b8 w H
      refine J164 H ?_
      clear H; intro w H
      refine J36 H ?_
      replace H := Js [3,0,0,1] 1 H
      exact ⟨rfl, rfl, b8, rfl, rfl, rfl, H⟩
    · clear H; intro b8 w H
      refine Jo 5 H ?_
      refine Jk rfl rfl (tGetV_spec q.tp ts k n H.swap) ?_
      clear H; rintro v w ⟨rfl, H⟩
      rw [hL]
      refine J165 H ?_
      clear H; intro w H
      refine J36 H ?_
      replace H := Js [3,1,0,1] 1 H
      exact ⟨rfl, rfl, b8, rfl, rfl, rfl, H⟩
  · clear H
    rintro ms σ w ⟨rfl, b8, g4, g7, g8, H⟩
    rw [upd_self g4, upd_self g7, upd_self g8]
    refine J156 H ?_
    clear H; intro w H
    refine J0 H ?_
    exact C_ret (Jz H (fun w' H' => .cellN H' rfl (by repeat (first | exact Reads.nil _ | apply Reads.cons rfl)) (.tmp .nil)) fun w' H' => ⟨rfl, H'.drop.drop⟩)

theorem entry_T [Extra] (p : Nat) (q : Ptr) (ts : List Slt) (k n : Nat) (e : Ent) (hk : ts[k]? = some ⟨n, some e⟩) {w : World} {fr : List HProp} (H : Holds w (TAB q.tp ts :: CROW p q :: fr)) :
    Calls Tryz.prog 85 #[pp p, .int .i64 k] w (ret fun v w' => v = .tuple #[tkn k n, .agg (evl e).toArray] ∧ Holds w' (TAB q.tp ts :: CROW p q :: fr)) := by
  have hL : lookT ts k n = some (k, e) := lookT_some.2 ⟨n, rfl, rfl, hk⟩
  refine calls_of Tryz.func85 rfl (by kernel_rfl) ?_
  refine J23 H ?_
  clear H; intro b4 w H
  refine J17 H ?_
  clear H; intro b5 w H
  refine Lp_nil ?_
  replace H := Js [2,0,0] 0 H
  refine J18 H ?_
  refine Jc rfl rfl (tAt_spec q.tp ts k n e hk H) ?_
  clear H; rintro v w ⟨rfl, H⟩
  refine J19 H ?_
  clear H; intro b6 w H
  refine J6 H ?_
  clear H; intro w H
  refine J15 H ?_
  refine C_join (fun ms σ w => ms = [] ∧ ∃ b8, σ 4 = pp b4 ∧ σ 5 = pp b5 ∧ σ 6 = pp b6 ∧ σ 8 = pp b8 ∧
      Holds w (pts b4 (row 88 [.int .i64 0, .int .i64 0]) :: pts b5 (row 102 [.int .i64 0, .int .i64 0, .bool false, .bool false]) :: pts b8 (row 102 (evl e)) :: pts b6 (row 88 [.int .i64 k, .int .i64 n]) :: TAB q.tp ts :: CROW p q :: fr)) ?_ ?_
  · replace H := Js [1,0] 0 H
    refine J1 H ?_
    clear H; intro w H
    refine J162 H ?_
    refine A_two 5 9 rfl rfl (by kernel_rfl) (by repeat first | exact .nil | refine .cons (.inr H.at) ?_ | refine .cons (.inr H.mp) ?_ | refine .cons (.inl (by kernel_rfl)) ?_) (Wants.none rfl) (Wants.none rfl) (St_call (a := []) (b := []) rfl rfl (call (tGetV_spec q.tp ts k n H) ?_)) (St_alloc H rfl ?_)
    · clear H; rintro v w ⟨rfl, H⟩
      rw [hL]
      refine J163 H ?_
      clear H; intro b8 w H
      refine J164 H ?_
      clear H; intro w H
      refine J36 H ?_
      replace H := Js [4,3,0,1,0,0] 0 H
      exact ⟨rfl, rfl, b8, rfl, rfl, rfl, rfl, H⟩
    · clear H; intro b8 w H
      refine Jo 5 H ?_
      refine Jk rfl rfl (tGetV_spec q.tp ts k n H.swap) ?_
      clear H; rintro v w ⟨rfl, H⟩
      rw [hL]
      refine J165 H ?_
      clear H; intro w H
      refine J36 H ?_
      replace H := Js [4,3,1,1,0,0] 0 H
      exact ⟨rfl, rfl, b8, rfl, rfl, rfl, rfl, H⟩
  · clear H
    rintro ms σ w ⟨rfl, b8, g4, g5, g6, g8, H⟩
    rw [upd_self g4, upd_self g5, upd_self g6, upd_self g8]
    refine J1 H ?_
    clear H; intro w H
    refine A_loadN 0 [2, 3] H rfl (Wants.none rfl) rfl (by repeat (first | exact Reads.nil _ | apply Reads.cons rfl)) (by kernel_rfl) ?_
    refine A_loadN 1 [3] H rfl (Wants.none rfl) rfl (by repeat (first | exact Reads.nil _ | apply Reads.cons rfl)) (by kernel_rfl) ?_
    refine Jo 2 H ?_
    refine J65 H ?_
    clear H; intro w H
    refine Jo 3 H ?_
    refine J65 H ?_
    clear H; intro w H
    refine J4 H ?_
    exact C_ret (Jz H (fun w' H' => .cellN H' rfl (by repeat (first | exact Reads.nil _ | apply Reads.cons rfl)) (.cellN H' rfl (by repeat (first | exact Reads.nil _ | apply Reads.cons rfl)) .nil)) fun w' H' => ⟨rfl, H'.drop.drop.drop.drop⟩)
end Go.Proofs.YtipelpbkeiphmaaGreatDoor
namespace Go.Proofs.YtipelpbkeiphmaaGreatDoor
open Go.SL

/-- A row of numbers that a call of the library has put there. -/
theorem put_holds [Extra] {w : World} {b m E : Nat} {l l' : List Int} {s : List Value} {fr : List HProp} (H : Holds w (pts b (row E (icells l ++ s)) :: fr)) (hl : l'.length = l.length) :
    Holds (Go.Sort.putRow (Value.int .i64) (Go.Sort.ahead w m) b 0 l'.toArray) (pts b (row E (icells l' ++ s)) :: fr) := by
  have hb := H.pts
  have e1 : (Go.Sort.putRow (Value.int .i64) (Go.Sort.ahead w m) b 0 l'.toArray).heap = w.heap.modify b (Go.Sort.onCells (Go.Sort.putCells (Value.int .i64) 0 l'.toArray)) := rfl
  refine H.set ?_ ?_
  · rw [e1, Array.getElem?_modify, if_pos rfl, hb]
    simp only [Option.map_some, row, Go.Sort.onCells]
    congr 2
    apply Array.ext'
    apply List.ext_getElem?
    intro t
    simp only [Go.Sort.putCells, Array.getElem?_toList, Array.getElem?_mapIdx, List.getElem?_toArray, Nat.zero_le, true_and, Nat.zero_add, Nat.sub_zero, List.size_toArray]
    have l1 : (icells l).length = l.length := by simp [icells]
    have l2 : (icells l').length = l.length := by simp [icells, hl]
    by_cases ht : t < l.length
    · rw [List.getElem?_append_left (by omega), List.getElem?_append_left (by omega)]
      have ht' : t < l'.length := by omega
      simp only [icells, List.getElem?_map, List.getElem?_eq_getElem ht, List.getElem?_eq_getElem ht', Option.map_some, if_pos ht']
      rw [getElem!_pos _ t (by simpa using ht')]
      simp
    · rw [List.getElem?_append_right (by omega), List.getElem?_append_right (by omega), l1, l2]
      have ht' : ¬ t < l'.length := by omega
      cases s[t - l.length]? with
      | none => rfl
      | some y => simp; intro h; omega
  · intro c hc
    rw [e1, Array.getElem?_modify, if_neg (Ne.symm hc)]

theorem Delete_spec [Extra] (v : Value) (l : List Nat) (i : Nat) (hi : i < l.length) (hl : l.length ≤ 1000000) {w : World} {fr : List HProp} (H : Holds w (NL v l :: fr)) :
    Calls Tryz.prog 247 #[v, .int .i64 i, .int .i64 ((i + 1 : Nat) : Int)] w (ret fun v' w' => Holds w' (NL v' (l.eraseIdx i) :: fr)) := by
  rcases sls_case H with ⟨rfl, h0, _⟩ | ⟨b, n, cap, s, rfl, e3, e4, e5, H2⟩
  · have : (ncells l).length = 0 := by rw [h0]; rfl
    rw [ncells_length] at this
    omega
  · rw [ncells_length] at e3
    obtain rfl : n = l.length := by omega
    have hb := H2.pts
    have hzl : (l.map fun x : Nat => (x : Int)).length = l.length := List.length_map _
    rw [ncells_icells] at H2
    have hic : (icells (l.map fun x : Nat => (x : Int))).length = l.length := by simp [icells]
    have hbig := e4.2
    have hd := Any.slices_Delete_int Tryz.laysDel b 0 cap i (i + 1) (l.map fun x : Nat => (x : Int)) w (fun j hj => by
      have hj' : j < l.length := by simpa using hj
      refine ⟨?_, frozen_row hb⟩
      refine cell_row H2.pts ?_
      rw [Nat.zero_add, List.getElem?_append_left (by omega)]
      simp [icells, hj']) (by omega) hbig (by omega) (by omega)
    rw [hzl] at hd
    refine hd.mono ?_
    rintro e w' ⟨rfl, q, rfl⟩
    have h3 := put_holds (m := q) (l' := (l.map fun x : Nat => (x : Int)).take i ++ (l.map fun x : Nat => (x : Int)).drop (i + 1) ++ List.replicate (i + 1 - i) 0) H2 (by simp; omega)
    rw [show i + 1 - i = 1 by omega] at h3 ⊢
    have e6 : icells ((l.map fun x : Nat => (x : Int)).take i ++ (l.map fun x : Nat => (x : Int)).drop (i + 1) ++ List.replicate 1 0) ++ s = ncells (l.eraseIdx i) ++ (.int .i64 0 :: s) := by
      rw [ncells_icells, List.eraseIdx_eq_take_drop_succ]
      simp [icells]
    rw [e6] at h3
    exact sls_of (by rw [ncells_length, List.length_eraseIdx, if_pos hi] <;> omega) (by omega) (by first | (simp; omega) | simp) h3

theorem pos_get {l : List Nat} (hs : l.Pairwise (· < ·)) {x : Nat} (hx : x ∈ l) : posL l x < l.length ∧ l.eraseIdx (posL l x) = l.filter (· ≠ x) := by
  induction l with
  | nil => cases hx
  | cons a l ih =>
    rw [List.pairwise_cons] at hs
    unfold posL
    rcases List.mem_cons.1 hx with rfl | hx'
    · have h0 : (x :: l).countP (· < x) = 0 := by
        rw [List.countP_eq_zero]
        intro y hy
        rcases List.mem_cons.1 hy with rfl | hy
        · simp
        · have := hs.1 y hy
          simp
          omega
      rw [h0]
      refine ⟨by simp, ?_⟩
      rw [List.eraseIdx_cons_zero, List.filter_cons_of_neg (by simp)]
      exact (List.filter_eq_self.2 fun y hy => by have := hs.1 y hy; simp; omega).symm
    · have hax := hs.1 x hx'
      have h1 : (a :: l).countP (· < x) = posL l x + 1 := by rw [List.countP_cons_of_pos (by simpa using hax)]; rfl
      obtain ⟨i1, i2⟩ := ih hs.2 hx'
      rw [h1]
      refine ⟨by simp; omega, ?_⟩
      rw [List.eraseIdx_cons_succ, i2, List.filter_cons_of_pos (by simp; omega)]
theorem gDel_spec [Extra] (p : Nat) (l : List Nat) (x : Nat) (hs : l.Pairwise (· < ·)) (hl : l.length ≤ 100000) {w : World} {fr : List HProp} (H : Holds w (BAG p l :: fr)) :
    Calls Tryz.prog 172 #[pp p, .int .i64 x] w (ret fun v w' => v = .bool (decide (x ∈ l)) ∧ Holds w' (BAG p (l.filter (· ≠ x)) :: fr)) := by
  obtain ⟨a, c, H⟩ := BAG_out H
  refine calls_of Tryz.func172 rfl (by kernel_rfl) ?_
  refine J83 H ?_
  obtain ⟨D1, H, hD1, hC1⟩ := sls_rd H.swap (ncells_length _) (by decide)
  refine Jc rfl rfl (Search_spec _ l (by omega) hs x (hD1 _) H) ?_
  clear H; rintro v w ⟨rfl, H⟩
  replace H := hC1 _ _ H
  refine J27 H ?_
  refine J13 H ?_
  refine C_join (fun ms σ w => ms = [] ∧ σ 6 = .bool (decide (x ∈ l)) ∧ Holds w (BAG p (l.filter (· ≠ x)) :: fr)) ?_ ?_
  · by_cases hx : x ∈ l
    · obtain ⟨h1, h2⟩ := pos_get hs hx
      rw [decide_eq_true hx]
      refine C_true rfl ?_
      refine J66 H ?_
      refine J142 H ?_
      rw [inc64 (by omega)]
      refine Jc rfl rfl (Delete_spec _ l (posL l x) h1 (by omega) H) ?_
      clear H; intro v w H
      obtain ⟨a28, m28, c28, rfl⟩ := sls_any H
      rw [h2] at H
      refine J52 H ?_
      clear H; intro w H
      refine Lp_nil ?_
      exact ⟨rfl, rfl, rfl, BAG_in H.swap⟩
    · rw [decide_eq_false hx]
      refine C_false rfl (C_skip ?_)
      rw [show l.filter (· ≠ x) = l from List.filter_eq_self.2 fun y hy => by simp; rintro rfl; exact hx hy]
      exact ⟨rfl, rfl, rfl, BAG_in H.swap⟩
  · clear H
    rintro ms σ w ⟨rfl, g6, H⟩
    rw [upd_self g6]
    refine J5 H ?_
    exact C_ret (Jy H rfl fun w' H' => ⟨rfl, H'⟩)
end Go.Proofs.YtipelpbkeiphmaaGreatDoor
namespace Go.Proofs.YtipelpbkeiphmaaGreatDoor
open Go.SL

theorem TabOk.drop {ts : List Slt} {x k n : Nat} {e : Ent} (h : TabOk ts x) (hk : ts[k]? = some ⟨n, some e⟩) (hn : n < 255) : TabOk (ts.set k ⟨n, none⟩) (setB x k false) := by
  have hkl := (List.getElem?_eq_some_iff.1 hk).1
  refine ⟨by rw [List.length_set]; exact h.bits.set hkl, fun i u hu => ?_, fun i u hu => ?_⟩
  · rw [setB_bit]
    rcases tab_set hu with ⟨rfl, rfl, _⟩ | ⟨hne, hu⟩
    · rw [if_pos rfl]
      show false = ((none : Option Ent).isSome || n == 255)
      have : (n == 255) = false := by rw [beq_eq_false_iff_ne]; omega
      rw [this]
      rfl
    · rw [if_neg hne]; exact h.bit _ _ hu
  · rcases tab_set hu with ⟨rfl, rfl, _⟩ | ⟨_, hu⟩
    · show n ≤ 255; omega
    · exact h.gen _ _ hu

theorem tDrop_spec [Extra] (p : Nat) (ts : List Slt) (k n : Nat) (e : Ent) (hk : ts[k]? = some ⟨n, some e⟩) (hn : n < 255) {w : World} {fr : List HProp} (H : Holds w (TAB p ts :: fr)) :
    Calls Tryz.prog 173 #[pp p, tkn k n] w (ret fun v w' => v = .int .i64 0 ∧ Holds w' (TAB p (ts.set k ⟨n, none⟩) :: fr)) := by
  obtain ⟨b, c, s, u, x, hok, hc, H, hclose⟩ := TAB_out H
  have hL : lookT ts k n = some (k, e) := lookT_some.2 ⟨n, rfl, rfl, hk⟩
  have hlen := flat_len tval_len ts
  have hkl : k < ts.length := (List.getElem?_eq_some_iff.1 hk).1
  refine calls_of Tryz.func173 rfl (by kernel_rfl) ?_
  refine J8 H ?_
  clear H; intro b3 w H
  refine J123 H ?_
  replace H := Js [1,1,0,0] 0 H
  refine Jc rfl rfl (find_open p b c u _ rfl ts s hok.bits.le k n H) ?_
  clear H; rintro v w ⟨rfl, H⟩
  rw [hL]
  refine J39 H ?_
  refine J2 H ?_
  refine J63 H ?_
  refine J7 H ?_
  refine J69 H ?_
  replace H := Js [1,0,0,0] 0 H
  refine Lp_s rfl (St_store1 H rfl rfl inferInstance rfl (by rw [List.length_append, hlen]; omega) rfl ?_)
  clear H; intro w H
  refine J7 H ?_
  refine J69 H ?_
  refine Lp_s rfl (St_storeN (vs := [.int .i64 0, .int .i64 0, .bool false, .bool false]) H rfl rfl inferInstance rfl rfl (by rw [List.length_set, List.length_append, hlen]; omega) rfl ?_)
  clear H; intro w H
  replace H : Holds w (pts b (row 223 (wr (ts.flatMap tval ++ s) (k * 6 + 1) [.bool false, .int .i64 0, .int .i64 0, .bool false, .bool false])) :: _) := H
  rw [flat_wr (x' := ⟨n, none⟩) tval_len hk (by simp) rfl] at H
  refine Lp_nil ?_
  have c0 : ((ts.set k ⟨n, none⟩).flatMap tval ++ s)[k * 6 + 0]? = some (.int .i64 n) := flat_get tval_len (List.getElem?_set_self hkl) rfl
  refine J2 H ?_
  refine J69 H ?_
  refine Lp_s rfl (St_load1 H rfl c0 rfl ?_)
  refine J0 H ?_
  rw [show ((n : Int) == 255) = false by rw [beq_eq_false_iff_ne]; omega]
  refine J9 H ?_
  refine J1 H ?_
  clear H; intro w H
  refine J124 H ?_
  refine J47 H ?_
  refine A_load1 5 [6] H rfl (Wants.none rfl) rfl rfl (by kernel_rfl) ?_
  replace H := Js [3,0,0,0] 0 H
  refine Jo 6 H ?_
  refine Jk rfl rfl (bSet_spec u ts.length x k false hok.bits hkl H) ?_
  clear H; rintro v w ⟨rfl, H⟩
  refine J4 H ?_
  refine J12 H ?_
  replace H := Js [2,1,0] 1 H
  refine C_ret (Jy H rfl fun w' H' => ⟨rfl, hclose _ _ (ts.set k ⟨n, none⟩) _ (by simp) (goneT_set hk ?_) (hok.drop hk hn) H'⟩)
  show ((none : Option Ent).isNone && n == 255) = ((some e).isNone && n == 255)
  have : (n == 255) = false := by rw [beq_eq_false_iff_ne]; omega
  rw [this]
  rfl
end Go.Proofs.YtipelpbkeiphmaaGreatDoor
namespace Go.Proofs.YtipelpbkeiphmaaGreatDoor
open Go.SL

def lkE (e : Ent) (p : Nat) : Lnk := lnkOf (e.ws.getD p 0)
end Go.Proofs.YtipelpbkeiphmaaGreatDoor
namespace Go.Proofs.YtipelpbkeiphmaaGreatDoor
open Go.SL

/-- A reference of an object, to another region's object. -/
def Far (s : CS) (r : Int × Int) (t : Int) : Prop := ∃ (k p g : Nat) (e : Ent) (a b : Nat) (f : Ent), r = ((k : Int), (p : Int)) ∧ s.tab[k]? = some ⟨g, some e⟩ ∧ p < e.ws.length ∧ isRefL (layE s e) p = true ∧ lkE e p = .obj a b ∧ lookT s.tab a b = some (a, f) ∧ f.region ≠ e.region ∧ t = a
structure Inv (s : CS) : Prop where
  nd : (s.rem.map (·.1)).Nodup
  rem : ∀ r t, fnd s.rem r = some t ↔ Far s r t
  link : ∀ (k g : Nat) (e : Ent) (p a b : Nat), s.tab[k]? = some ⟨g, some e⟩ → p < e.ws.length → isRefL (layE s e) p = true → lkE e p = .obj a b → ∃ f, lookT s.tab a b = some (a, f)

theorem lookT_self {ts : List Slt} {a b c : Nat} {f : Ent} (h : lookT ts a b = some (c, f)) : c = a ∧ ts[a]? = some ⟨b, some f⟩ := by
  obtain ⟨n, h1, h2, h3⟩ := lookT_some.1 h
  obtain rfl : c = a := by omega
  obtain rfl : n = b := by omega
  exact ⟨rfl, h3⟩
/-- What one looks at: the same regions, layouts, links. -/
structure SameL (s : CS) (k g : Nat) (e e' : Ent) : Prop where
  at' : s.tab[k]? = some ⟨g, some e⟩
  region : e'.region = e.region
  lay : e'.lay = e.lay
  len : e'.ws.length = e.ws.length
theorem lookT_setE {s : CS} {k g : Nat} {e e' : Ent} (h : s.tab[k]? = some ⟨g, some e⟩) (a b : Nat) : lookT (setE s k g e').tab a b = (lookT s.tab a b).map fun q => if q.1 = k then (k, e') else q := by
  have hkl := (List.getElem?_eq_some_iff.1 h).1
  cases hl : lookT s.tab a b with
  | some q =>
    obtain ⟨c, f⟩ := q
    obtain ⟨rfl, hc⟩ := lookT_self hl
    by_cases hk : c = k
    · subst hk
      rw [h] at hc
      injection hc with hc
      injection hc with h1 h2
      subst h1
      show _ = some (if c = c then (c, e') else _)
      rw [if_pos rfl]
      exact lookT_some.2 ⟨g, rfl, rfl, List.getElem?_set_self hkl⟩
    · show _ = some (if c = k then (k, e') else (c, f))
      rw [if_neg hk]
      exact lookT_some.2 ⟨b, rfl, rfl, by show (s.tab.set k _)[c]? = _; rw [List.getElem?_set_ne (Ne.symm hk)]; exact hc⟩
  | none =>
    show _ = none
    cases hl2 : lookT (setE s k g e').tab a b with
    | none => rfl
    | some q =>
      obtain ⟨c, f⟩ := q
      obtain ⟨rfl, hc⟩ := lookT_self hl2
      have hc : (s.tab.set k ⟨g, some e'⟩)[c]? = some ⟨b, some f⟩ := hc
      rcases tab_set hc with ⟨rfl, h2, _⟩ | ⟨_, h2⟩
      · injection h2 with h2 _
        subst h2
        rw [lookT_some.2 ⟨b, rfl, rfl, h⟩] at hl
        cases hl
      · rw [lookT_some.2 ⟨b, rfl, rfl, h2⟩] at hl
        cases hl
theorem link_setE {s : CS} {k g : Nat} {e e' : Ent} (h : SameL s k g e e') {a b : Nat} : (∃ f, lookT (setE s k g e').tab a b = some (a, f)) ↔ ∃ f, lookT s.tab a b = some (a, f) := by
  rw [lookT_setE h.at']
  constructor
  · rintro ⟨f, hf⟩
    rw [Option.map_eq_some_iff] at hf
    obtain ⟨⟨c, f'⟩, h1, _⟩ := hf
    obtain ⟨rfl, _⟩ := lookT_self h1
    exact ⟨f', h1⟩
  · rintro ⟨f, hf⟩
    rw [hf]
    by_cases hk : a = k
    · exact ⟨e', by show some (if a = k then (k, e') else (a, f)) = _; rw [if_pos hk, hk]⟩
    · exact ⟨f, by show some (if a = k then (k, e') else (a, f)) = _; rw [if_neg hk]⟩
/-- .. of a region. -/
theorem reg_setE {s : CS} {k g : Nat} {e e' : Ent} (h : SameL s k g e e') {a b : Nat} {P : Int → Prop} : (∃ f, lookT (setE s k g e').tab a b = some (a, f) ∧ P f.region) ↔ ∃ f, lookT s.tab a b = some (a, f) ∧ P f.region := by
  rw [lookT_setE h.at']
  constructor
  · rintro ⟨f, hf, hp⟩
    rw [Option.map_eq_some_iff] at hf
    obtain ⟨⟨c, f'⟩, h1, h2⟩ := hf
    obtain ⟨rfl, h3⟩ := lookT_self h1
    refine ⟨f', h1, ?_⟩
    by_cases hk : c = k
    · subst hk
      rw [if_pos rfl] at h2
      injection h2 with _ h2
      subst h2
      rw [h.at'] at h3
      injection h3 with h3
      injection h3 with _ h3
      injection h3 with h3
      subst h3
      rw [h.region] at hp
      exact hp
    · rw [if_neg hk] at h2
      injection h2 with _ h2
      subst h2
      exact hp
  · rintro ⟨f, hf, hp⟩
    rw [hf]
    by_cases hk : a = k
    · subst hk
      obtain ⟨_, h3⟩ := lookT_self hf
      rw [h.at'] at h3
      injection h3 with h3
      injection h3 with _ h3
      injection h3 with h3
      subst h3
      exact ⟨e', by show some (if a = a then (a, e') else (a, e)) = _; rw [if_pos rfl], by rw [h.region]; exact hp⟩
    · exact ⟨f, by show some (if a = k then (k, e') else (a, f)) = _; rw [if_neg hk], hp⟩
end Go.Proofs.YtipelpbkeiphmaaGreatDoor
namespace Go.Proofs.YtipelpbkeiphmaaGreatDoor
open Go.SL

theorem far_same {s : CS} {k g : Nat} {e e' : Ent} (h : SameL s k g e e') {r : Int × Int} {t : Int} (hl : ∀ p : Nat, r = ((k : Int), (p : Int)) → lkE e' p = lkE e p) : Far (setE s k g e') r t ↔ Far s r t := by
  have hkl := (List.getElem?_eq_some_iff.1 h.at').1
  have hlay : ∀ f, layE (setE s k g e') f = layE s f := fun _ => rfl
  have hle : layE s e' = layE s e := by unfold layE; rw [h.lay]
  constructor
  · rintro ⟨j, p, g1, e1, a, b, f, rfl, h1, h2, h3, h4, h5, h6, rfl⟩
    have h1 : (s.tab.set k ⟨g, some e'⟩)[j]? = some ⟨g1, some e1⟩ := h1
    obtain ⟨f', h5', h6'⟩ := (reg_setE (P := fun r => r ≠ e1.region) h).1 ⟨f, h5, h6⟩
    rcases tab_set h1 with ⟨rfl, h7, _⟩ | ⟨_, h7⟩
    · injection h7 with h0 h7
      injection h7 with h7
      subst h0 h7
      rw [hlay, hle] at h3
      rw [h.len] at h2
      rw [hl p rfl] at h4
      rw [h.region] at h6'
      exact ⟨j, p, g1, e, a, b, f', rfl, h.at', h2, h3, h4, h5', h6', rfl⟩
    · exact ⟨j, p, g1, e1, a, b, f', rfl, h7, h2, h3, h4, h5', h6', rfl⟩
  · rintro ⟨j, p, g1, e1, a, b, f, rfl, h1, h2, h3, h4, h5, h6, rfl⟩
    obtain ⟨f', h5', h6'⟩ := (reg_setE (P := fun r => r ≠ e1.region) h).2 ⟨f, h5, h6⟩
    by_cases hj : j = k
    · subst hj
      rw [h.at'] at h1
      injection h1 with h1
      injection h1 with h0 h1
      injection h1 with h1
      subst h0 h1
      exact ⟨j, p, g, e', a, b, f', rfl, List.getElem?_set_self hkl, by rw [h.len]; exact h2, by rw [hlay, hle]; exact h3, by rw [hl p rfl]; exact h4, h5', by rw [h.region]; exact h6', rfl⟩
    · exact ⟨j, p, g1, e1, a, b, f', rfl, by show (s.tab.set k _)[j]? = _; rw [List.getElem?_set_ne (Ne.symm hj)]; exact h1, h2, h3, h4, h5', h6', rfl⟩
theorem lkE_set {e : Ent} {p q x : Nat} (h : q ≠ p) : lkE { e with ws := e.ws.set p x } q = lkE e q := by
  unfold lkE
  show lnkOf ((e.ws.set p x).getD q 0) = _
  rw [List.getD_eq_getElem?_getD, List.getElem?_set_ne (Ne.symm h), List.getD_eq_getElem?_getD]
theorem lkE_new {e : Ent} {p : Nat} {l : Lnk} (hl : okL l) (hp : p < e.ws.length) : lkE { e with ws := e.ws.set p (wordL l) } p = l := by
  unfold lkE
  show lnkOf ((e.ws.set p (wordL l)).getD p 0) = _
  rw [List.getD_eq_getElem?_getD, List.getElem?_set_self hp, Option.getD_some, lnkOf_word hl]
theorem nodup_noteR {s : CS} (h : (s.rem.map (·.1)).Nodup) (k : Nat) (e : Ent) (p : Int) (l : Lnk) : ((noteR s k e p l).map (·.1)).Nodup := by
  unfold noteR
  repeat' split
  · exact nodup_ins (nodup_era h)
  · exact nodup_era h
  · exact nodup_era h
  · exact nodup_era h
theorem fnd_noteR {s : CS} (h : (s.rem.map (·.1)).Nodup) {k : Nat} {e : Ent} {p : Int} {l : Lnk} {r : Int × Int} (hr : r ≠ ((k : Int), p)) : fnd (noteR s k e p l) r = fnd s.rem r := by
  have h1 : fnd (era s.rem ((k : Int), p)) r = fnd s.rem r := by rw [fnd_era h, if_neg (Ne.symm hr)]
  unfold noteR
  repeat' split
  · rw [fnd_ins, if_neg (Ne.symm hr), h1]
  · exact h1
  · exact h1
  · exact h1
theorem fnd_noteS {s : CS} (h : (s.rem.map (·.1)).Nodup) {k : Nat} {e : Ent} {p : Int} {l : Lnk} {t : Int} : fnd (noteR s k e p l) ((k : Int), p) = some t ↔ ∃ (a b : Nat) (f : Ent), l = .obj a b ∧ lookT s.tab a b = some (a, f) ∧ f.region ≠ e.region ∧ t = a := by
  have h1 : fnd (era s.rem ((k : Int), p)) ((k : Int), p) = none := by rw [fnd_era h, if_pos rfl]
  cases l with
  | none => rw [show noteR s k e p .none = era s.rem ((k : Int), p) from rfl, h1]; exact ⟨fun h => (by cases h), fun ⟨_, _, _, h, _⟩ => (by cases h)⟩
  | grave => rw [show noteR s k e p .grave = era s.rem ((k : Int), p) from rfl, h1]; exact ⟨fun h => (by cases h), fun ⟨_, _, _, h, _⟩ => (by cases h)⟩
  | obj a b =>
    cases hl : lookT s.tab a b with
    | none =>
      rw [noteR_stale hl, h1]
      refine ⟨fun h => (by cases h), ?_⟩
      rintro ⟨a', b', f, h2, h3, _⟩
      injection h2 with h2 h2'
      subst h2 h2'
      rw [hl] at h3
      cases h3
    | some q =>
      obtain ⟨c, f⟩ := q
      obtain ⟨rfl, _⟩ := lookT_self hl
      rw [noteR_live hl]
      split
      · rename_i hne
        rw [fnd_ins, if_pos rfl]
        constructor
        · intro h2
          injection h2 with h2
          exact ⟨c, b, f, rfl, hl, hne, h2.symm⟩
        · rintro ⟨a', b', f', h2, h3, h4, rfl⟩
          injection h2 with h2 h2'
          rw [h2]
      · rename_i hne
        rw [h1]
        refine ⟨fun h => (by cases h), ?_⟩
        rintro ⟨a', b', f', h2, h3, h4, rfl⟩
        injection h2 with h2 h2'
        subst h2 h2'
        rw [hl] at h3
        injection h3 with h3
        injection h3 with _ h3
        subst h3
        exact absurd h4 hne
theorem inv_tie {s : CS} (hI : Inv s) {k g p : Nat} {e : Ent} {l : Lnk} (hk : s.tab[k]? = some ⟨g, some e⟩) (hp : p < e.ws.length) (hr : isRefL (layE s e) p = true) (hl : okL l) (ht : ∀ a b, l = .obj a b → ∃ f, lookT s.tab a b = some (a, f)) :
    Inv { setE s k g { e with ws := e.ws.set p (wordL l) } with rem := noteR (setE s k g { e with ws := e.ws.set p (wordL l) }) k { e with ws := e.ws.set p (wordL l) } p l } := by
  have hlen : ({ e with ws := e.ws.set p (wordL l) } : Ent).ws.length = e.ws.length := by show (e.ws.set p _).length = _; rw [List.length_set]
  have hS : SameL s k g e { e with ws := e.ws.set p (wordL l) } := ⟨hk, rfl, rfl, hlen⟩
  have hkl := (List.getElem?_eq_some_iff.1 hk).1
  have hle : layE s { e with ws := e.ws.set p (wordL l) } = layE s e := rfl
  refine ⟨nodup_noteR (s := setE s k g _) hI.nd _ _ _ _, fun r t => ?_, ?_⟩
  · show fnd (noteR _ k _ p l) r = some t ↔ Far (setE s k g _) r t
    by_cases hrp : r = ((k : Int), (p : Int))
    · subst hrp
      rw [fnd_noteS (s := setE s k g _) hI.nd]
      constructor
      · rintro ⟨a, b, f, rfl, h1, h2, rfl⟩
        exact ⟨k, p, g, _, a, b, f, rfl, List.getElem?_set_self hkl, by rw [hlen]; exact hp, hr, lkE_new hl hp, h1, h2, rfl⟩
      · rintro ⟨j, q, g1, e1, a, b, f, hq, h1, h2, h3, h4, h5, h6, rfl⟩
        injection hq with hq1 hq2
        obtain rfl : k = j := by omega
        obtain rfl : p = q := by omega
        replace h1 : (s.tab.set k _)[k]? = some ⟨g1, some e1⟩ := h1
        rw [List.getElem?_set_self hkl] at h1
        injection h1 with h1
        injection h1 with h0 h1
        injection h1 with h1
        subst h0 h1
        rw [lkE_new hl hp] at h4
        exact ⟨a, b, f, h4, h5, h6, rfl⟩
    · rw [fnd_noteR (s := setE s k g _) hI.nd hrp, far_same hS fun q hq => lkE_set (by rintro rfl; exact hrp hq)]
      exact hI.rem r t
  · intro j g1 e1 q a b h1 h2 h3 h4
    have h1 : (s.tab.set k _)[j]? = some ⟨g1, some e1⟩ := h1
    show ∃ f, lookT (setE s k g _).tab a b = _
    rw [link_setE hS]
    rcases tab_set h1 with ⟨rfl, h7, _⟩ | ⟨_, h7⟩
    · injection h7 with h0 h7
      injection h7 with h7
      subst h0 h7
      by_cases hq : q = p
      · subst hq
        rw [lkE_new hl hp] at h4
        exact ht a b h4
      · rw [lkE_set hq] at h4
        exact hI.link j g1 e q a b hk (by rw [← hlen]; exact h2) h3 h4
    · exact hI.link j g1 e1 q a b h7 h2 h3 h4
theorem inv_tieS {s : CS} (hI : Inv s) (i g p : Int) {l : Lnk} (hl : okL l) (ht : ∀ a b, l = .obj a b → ∃ f, lookT s.tab a b = some (a, f)) : Inv (tieS s i g p l).1 := by
  cases hv : validT s.tab i g with
  | none => rw [tieS_none hv]; exact hI
  | some q =>
    obtain ⟨k, e⟩ := q
    obtain ⟨n, rfl, rfl, hk, _⟩ := valid_at hv
    rw [tieS_some hv]
    split
    · rename_i h0
      obtain ⟨j, rfl, hj, hr⟩ := placeE_ok h0
      exact inv_tie hI hk hj hr hl ht
    · exact hI
theorem inv_TieS {s : CS} (hw : WF s) (hI : Inv s) (i g p u v : Int) : Inv (TieS s i g p u v).1 := by
  unfold TieS
  split
  · exact hI
  · split
    · exact hI
    · rename_i _ hn
      cases hv : validT s.tab u v with
      | none => rw [hv] at hn; exact absurd rfl hn
      | some q =>
        obtain ⟨k, e⟩ := q
        obtain ⟨n, rfl, rfl, hk, _⟩ := valid_at hv
        refine inv_tieS hI i g p (okT_of hw hk) fun a b hab => ?_
        injection hab with h1 h2
        rw [Int.toNat_natCast] at h1 h2
        subst h1 h2
        exact ⟨e, lookT_some.2 ⟨n, rfl, rfl, hk⟩⟩
/-- Of an object more nothing is remembered. -/
theorem inv_more {s s' : CS} (hI : Inv s) {k g0 n : Nat} {e0 : Ent} (hk : s.tab[k]? = some ⟨g0, none⟩) (h1 : s'.lays = s.lays) (h2 : s'.rem = s.rem) (h3 : s'.tab = s.tab.set k ⟨g0 + 1, some e0⟩) (h0 : e0.ws = List.replicate n 0) : Inv s' := by
  have hkl := (List.getElem?_eq_some_iff.1 hk).1
  have hle : ∀ e, layE s' e = layE s e := fun e => by unfold layE; rw [h1]
  have hz : ∀ p, lkE e0 p = .none := fun p => by
    unfold lkE
    rw [h0, List.getD_eq_getElem?_getD, List.getElem?_replicate]
    split <;> rfl
  have hup : ∀ {a b : Nat} {f : Ent}, lookT s.tab a b = some (a, f) → lookT s'.tab a b = some (a, f) := fun {a b f} hf => by
    obtain ⟨_, hf'⟩ := lookT_self hf
    refine lookT_some.2 ⟨b, rfl, rfl, ?_⟩
    rw [h3, List.getElem?_set_ne (by rintro rfl; rw [hk] at hf'; cases hf')]
    exact hf'
  have hat : ∀ {j g1 : Nat} {e1 : Ent}, s.tab[j]? = some ⟨g1, some e1⟩ → s'.tab[j]? = some ⟨g1, some e1⟩ := fun {j g1 e1} hj => by
    rw [h3, List.getElem?_set_ne (by rintro rfl; rw [hk] at hj; cases hj)]
    exact hj
  refine ⟨by rw [h2]; exact hI.nd, fun r t => ?_, ?_⟩
  · rw [h2, hI.rem]
    constructor
    · rintro ⟨j, p, g1, e1, a, b, f, rfl, q1, q2, q3, q4, q5, q6, rfl⟩
      exact ⟨j, p, g1, e1, a, b, f, rfl, hat q1, q2, by rw [hle]; exact q3, q4, hup q5, q6, rfl⟩
    · rintro ⟨j, p, g1, e1, a, b, f, rfl, q1, q2, q3, q4, q5, q6, rfl⟩
      rw [h3] at q1
      rcases tab_set q1 with ⟨rfl, q7, _⟩ | ⟨_, q7⟩
      · injection q7 with _ q7
        injection q7 with q7
        subst q7
        rw [hz] at q4
        cases q4
      · rw [hle] at q3
        obtain ⟨f', hf'⟩ := hI.link j g1 e1 p a b q7 q2 q3 q4
        have h5 := hup hf'
        rw [q5] at h5
        injection h5 with h5
        injection h5 with _ h5
        subst h5
        exact ⟨j, p, g1, e1, a, b, f, rfl, q7, q2, q3, q4, hf', q6, rfl⟩
  · intro j g1 e1 p a b q1 q2 q3 q4
    rw [h3] at q1
    rcases tab_set q1 with ⟨rfl, q7, _⟩ | ⟨_, q7⟩
    · injection q7 with _ q7
      injection q7 with q7
      subst q7
      rw [hz] at q4
      cases q4
    · rw [hle] at q3
      obtain ⟨f', hf'⟩ := hI.link j g1 e1 p a b q7 q2 q3 q4
      exact ⟨f', hup hf'⟩
/-- Where nothing is nothing is remembered. -/
theorem inv_empty {s : CS} (h1 : s.rem = []) (h2 : ∀ (k g : Nat) (e : Ent), s.tab[k]? ≠ some ⟨g, some e⟩) : Inv s :=
  ⟨by rw [h1]; exact List.nodup_nil, fun r t => ⟨fun h => (by rw [h1] at h; cases h), fun ⟨k, p, g, e, _, _, _, _, h, _⟩ => absurd h (h2 k g e)⟩, fun k g e _ _ _ h => absurd h (h2 k g e)⟩
theorem no_free {n : Nat} (k g : Nat) (e : Ent) : (List.replicate n (⟨0, none⟩ : Slt))[k]? ≠ some ⟨g, some e⟩ := by
  intro h
  rw [List.getElem?_replicate] at h
  split at h
  · injection h with h
    injection h with _ h
    cases h
  · cases h
end Go.Proofs.YtipelpbkeiphmaaGreatDoor
namespace Go.Proofs.YtipelpbkeiphmaaGreatDoor
open Go.SL

/-- What is remembered is of used slots, each place once. -/
structure RemOK (s : CS) : Prop where
  nd : (s.rem.map (·.1)).Nodup
  key : ∀ r t, fnd s.rem r = some t → ∃ (k p g : Nat) (e : Ent), r = ((k : Int), (p : Int)) ∧ s.tab[k]? = some ⟨g, some e⟩ ∧ p < e.ws.length
theorem Inv.rk {s : CS} (h : Inv s) : RemOK s := ⟨h.nd, fun r t hr => by
  obtain ⟨k, p, g, e, a, b, f, h1, h2, h3, _⟩ := (h.rem r t).1 hr
  exact ⟨k, p, g, e, h1, h2, h3⟩⟩
def wordAt (ts : List Slt) (r : Int × Int) : Nat := match ts[r.1.toNat]? with
  | some ⟨_, some e⟩ => e.addr + 1 + r.2.toNat
  | _ => 0
theorem wordAt_some {ts : List Slt} {k p g : Nat} {e : Ent} (h : ts[k]? = some ⟨g, some e⟩) : wordAt ts ((k : Int), (p : Int)) = e.addr + 1 + p := by
  unfold wordAt
  show (match ts[((k : Int)).toNat]? with | some ⟨_, some e⟩ => e.addr + 1 + ((p : Int)).toNat | _ => 0) = _
  rw [Int.toNat_natCast, h, Int.toNat_natCast]
theorem rem_len {s : CS} (hw : WF s) (h : RemOK s) : s.rem.length ≤ 1000000 := by
  have key : ∀ r ∈ s.rem.map (·.1), ∃ (k p g : Nat) (e : Ent), r = ((k : Int), (p : Int)) ∧ s.tab[k]? = some ⟨g, some e⟩ ∧ p < e.ws.length := by
    intro r hr
    obtain ⟨⟨r', t⟩, h1, rfl⟩ := List.mem_map.1 hr
    exact h.key r' t ((fnd_iff h.nd).2 h1)
  have h1 : ((s.rem.map (·.1)).map (wordAt s.tab)).Nodup := by
    refine List.pairwise_map.2 (List.Pairwise.imp_of_mem ?_ h.nd)
    intro r r' hr hr' hne heq
    obtain ⟨k, p, g, e, rfl, h2, h3⟩ := key r hr
    obtain ⟨k', p', g', e', rfl, h2', h3'⟩ := key r' hr'
    rw [wordAt_some h2, wordAt_some h2'] at heq
    by_cases hk : k = k'
    · subst hk
      rw [h2] at h2'
      injection h2' with h2'
      injection h2' with _ h2'
      injection h2' with h2'
      subst h2'
      obtain rfl : p = p' := by omega
      exact hne rfl
    · have := hw.apart k k' g g' e e' hk h2 h2'
      unfold endOf at this
      omega
  have h2 := sub_length h1 (l₂ := List.range 64512) (by
    intro z hz
    obtain ⟨r, hr, rfl⟩ := List.mem_map.1 hz
    obtain ⟨k, p, g, e, rfl, h2, h3⟩ := key r hr
    rw [wordAt_some h2, List.mem_range]
    have h4 := (hw.obj k g e h2).2.1.1
    have h5 : s.own.length * s.size ≤ 63 * 1024 := Nat.mul_le_mul hw.own.2 hw.size.2
    unfold endOf at h4
    omega)
  rw [List.length_map, List.length_map, List.length_range] at h2
  omega
theorem fnd_foldl_era : ∀ (ks : List (Int × Int)) {m : List ((Int × Int) × Int)}, (m.map (·.1)).Nodup → ∀ r, fnd (ks.foldl era m) r = if r ∈ ks then none else fnd m r
  | [], m, h, r => by rw [if_neg (by simp)]; rfl
  | k :: ks, m, h, r => by
    rw [List.foldl_cons, fnd_foldl_era ks (nodup_era h), fnd_era h]
    by_cases h1 : r ∈ ks
    · rw [if_pos h1, if_pos (List.mem_cons_of_mem _ h1)]
    · rw [if_neg h1]
      by_cases h2 : k = r
      · rw [if_pos h2, if_pos (by rw [h2]; exact List.mem_cons_self)]
      · rw [if_neg h2, if_neg (by rw [List.mem_cons]; exact fun h3 => h3.elim (fun h => h2 h.symm) h1)]

/-- What Lose leaves. -/
structure Lost (s : CS) (k n : Nat) (s' : CS) : Prop where
  size : s'.size = s.size
  own : s'.own = s.own
  lays : s'.lays = s.lays
  last : s'.last = s.last
  par : s'.par = s.par
  sps : s'.sps = s.sps
  tab : s'.tab = s.tab.set k ⟨n, none⟩
  nd : (s'.rem.map (·.1)).Nodup
  rem : ∀ r, fnd s'.rem r = if r.1 = (k : Int) then none else fnd s.rem r
theorem Lost.rk {s s' : CS} {k n : Nat} (h : Lost s k n s') (hR : RemOK s) : RemOK s' := by
  refine ⟨h.nd, fun r t hr => ?_⟩
  rw [h.rem] at hr
  split at hr
  · cases hr
  · rename_i hne
    obtain ⟨j, p, g, e, rfl, h1, h2⟩ := hR.key r t hr
    exact ⟨j, p, g, e, rfl, by rw [h.tab, List.getElem?_set_ne (by rintro rfl; exact hne rfl)]; exact h1, h2⟩
theorem tab_less {ts : List Slt} {k n j g : Nat} {f : Ent} (h : (ts.set k ⟨n, none⟩)[j]? = some ⟨g, some f⟩) : j ≠ k ∧ ts[j]? = some ⟨g, some f⟩ := by
  rcases tab_set h with ⟨_, h2, _⟩ | h2
  · injection h2 with _ h2
    cases h2
  · exact h2
theorem WF_lose {s : CS} (h : WF s) (hnd : (s.par.map (·.1)).Nodup) {k n : Nat} {e : Ent} (hk : s.tab[k]? = some ⟨n, some e⟩) {q : Nat} {L : List Nat} {m1 m2 : List (Int × Nat × List Nat)} (hm : s.mns = m1 ++ (e.region, q, L) :: m2) (R : List ((Int × Int) × Int)) :
    WF { s with tab := s.tab.set k ⟨n, none⟩, rem := R, mns := m1 ++ (e.region, q, L.filter (· ≠ k)) :: m2 } := by
  have hnm : ((m1 ++ (e.region, q, L) :: m2).map (·.1)).Nodup := by rw [← hm, h.mkeys]; exact hnd
  have hmk : (m1 ++ (e.region, q, L.filter (· ≠ k)) :: m2).map (·.1) = s.par.map (·.1) := by rw [← h.mkeys, hm]; exact keys_mid rfl
  refine ⟨h.size, h.own, by show 1 ≤ (s.tab.set _ _).length ∧ (s.tab.set _ _).length ≤ 63; rw [List.length_set]; exact h.slots, h.lays, ?_, fun i g f hi => h.obj i g f (tab_less hi).2, fun i j g g' f f' hne hi hj => h.apart i j g g' f f' hne (tab_less hi).2 (tab_less hj).2, h.par, h.skeys, hmk, h.spc, fun x hx i g f hi => h.free x hx i g f (tab_less hi).2, h.live, ?_⟩
  · intro i t hi
    rcases tab_set hi with ⟨rfl, rfl, _⟩ | ⟨_, hi⟩
    · exact ⟨(h.gen _ _ hk).1, fun h => by cases h⟩
    · exact h.gen _ _ hi
  · intro x hx
    have hx' : x = (e.region, q, L.filter (· ≠ k)) ∨ (x ∈ s.mns ∧ x.1 ≠ e.region) := by
      rcases of_mid hx with h1 | h1
      · exact .inl h1
      · refine .inr ⟨by rw [hm]; exact mid_of h1, fun hx1 => ?_⟩
        rw [List.map_append, List.map_cons, List.nodup_append] at hnm
        obtain ⟨_, h2, h3⟩ := hnm
        rcases List.mem_append.1 h1 with hx | hx
        · exact h3 x.1 (List.mem_map.2 ⟨x, hx, rfl⟩) e.region (by simp) hx1
        · rw [List.nodup_cons] at h2
          exact h2.1 (List.mem_map.2 ⟨x, hx, hx1⟩)
    rcases hx' with rfl | ⟨hx, hne⟩
    · obtain ⟨h1, h2⟩ := h.mine (e.region, q, L) (by rw [hm]; simp)
      refine ⟨h1.filter _, fun j => ?_⟩
      show j ∈ L.filter (· ≠ k) ↔ _
      rw [List.mem_filter, h2]
      constructor
      · rintro ⟨⟨g, f, h3, h4⟩, h5⟩
        have h5 : j ≠ k := by simpa using h5
        exact ⟨g, f, by show (s.tab.set _ _)[_]? = _; rw [List.getElem?_set_ne (Ne.symm h5)]; exact h3, h4⟩
      · rintro ⟨g, f, h3, h4⟩
        obtain ⟨h5, h6⟩ := tab_less h3
        exact ⟨⟨g, f, h6, h4⟩, by simpa using h5⟩
    · obtain ⟨h1, h2⟩ := h.mine x hx
      refine ⟨h1, fun j => ?_⟩
      rw [h2]
      constructor
      · rintro ⟨g, f, h3, h4⟩
        refine ⟨g, f, ?_, h4⟩
        show (s.tab.set _ _)[_]? = _
        rw [List.getElem?_set_ne]
        · exact h3
        · rintro rfl
          rw [hk] at h3
          injection h3 with h3
          injection h3 with _ h3
          injection h3 with h3
          subst h3
          exact hne h4.symm
      · rintro ⟨g, f, h3, h4⟩
        exact ⟨g, f, (tab_less h3).2, h4⟩
theorem MemOK_lose {s s' : CS} {mem : List Nat} (m : MemOK s mem) {k n : Nat} (h1 : s'.own = s.own) (h2 : s'.size = s.size) (h3 : s'.tab = s.tab.set k ⟨n, none⟩) : MemOK s' mem :=
  ⟨by rw [h1, h2]; exact m.len, fun i g e hi => m.head i g e (by rw [h3] at hi; exact (tab_less hi).2), fun i g e hi => m.words i g e (by rw [h3] at hi; exact (tab_less hi).2)⟩

end Go.Proofs.YtipelpbkeiphmaaGreatDoor
namespace Go.Proofs.YtipelpbkeiphmaaGreatDoor
open Go.SL

/-- All of the cells but for the tree. -/
def CELLQ (p : Nat) (q : Ptr) (s : CS) : HProp := ex fun mem : List Nat => star [prop (WF s ∧ MemOK s mem), CROW p q, IMG q.ip q.sp q.bp, BOOK q.bp s.lays, ST q.sp s.size mem s.own, TAB q.tp s.tab, RS q.rp s.rem,
  mp (ki .i64) ptrv q.sm (s.sps.map spkey), star (s.sps.map (spres q.sp)), mp (ki .i64) ptrv q.mm (s.mns.map mnkey), star (s.mns.map mnres)]
theorem CQ_out [Extra] {w : World} {p : Nat} {q : Ptr} {s : CS} {fr : List HProp} (H : Holds w (CELLQ p q s :: fr)) : ∃ mem : List Nat, WF s ∧ MemOK s mem ∧
    Holds w (CROW p q :: IMG q.ip q.sp q.bp :: BOOK q.bp s.lays :: ST q.sp s.size mem s.own :: TAB q.tp s.tab :: RS q.rp s.rem :: mp (ki .i64) ptrv q.sm (s.sps.map spkey) :: star (s.sps.map (spres q.sp)) :: mp (ki .i64) ptrv q.mm (s.mns.map mnkey) :: star (s.mns.map mnres) :: fr) := by
  obtain ⟨mem, H⟩ := Holds.ex.1 H
  have H := Holds.star.1 H
  obtain ⟨⟨h1, h2⟩, H⟩ := Holds.prop.1 H
  exact ⟨mem, h1, h2, H⟩
theorem CQ_in [Extra] {w : World} {p : Nat} {q : Ptr} {s : CS} {fr : List HProp} {mem : List Nat} (h : WF s) (hm : MemOK s mem)
    (H : Holds w (CROW p q :: IMG q.ip q.sp q.bp :: BOOK q.bp s.lays :: ST q.sp s.size mem s.own :: TAB q.tp s.tab :: RS q.rp s.rem :: mp (ki .i64) ptrv q.sm (s.sps.map spkey) :: star (s.sps.map (spres q.sp)) :: mp (ki .i64) ptrv q.mm (s.mns.map mnkey) :: star (s.mns.map mnres) :: fr)) : Holds w (CELLQ p q s :: fr) :=
  Holds.ex.2 ⟨mem, Holds.star.2 (Holds.prop.2 ⟨⟨h, hm⟩, H⟩)⟩
theorem Q_CELL [Extra] {w : World} {p : Nat} {q : Ptr} {s : CS} {fr : List HProp} (H : Holds w (CELLQ p q s :: TRE q.trp s.last s.par :: fr)) : Holds w (CELL p s :: fr) := by
  obtain ⟨mem, hw, hm, H⟩ := CQ_out H
  replace H := Js [0,0,0,0,0,5,0,0,0,0,0] 0 H
  exact CELL_in hw hm H

theorem Lose_Q [Extra] (p : Nat) (q : Ptr) (s : CS) (hnd : (s.par.map (·.1)).Nodup) (k n : Nat) (e : Ent) (hk : s.tab[k]? = some ⟨n, some e⟩) (hn : n < 255) (hR : RemOK s) {w : World} {fr : List HProp} (H : Holds w (CELLQ p q s :: fr)) :
    Calls Tryz.prog 88 #[pp p, .int .i64 k] w (ret fun v w' => v = .tuple #[] ∧ ∃ s', Lost s k n s' ∧ Holds w' (CELLQ p q s' :: fr)) := by
  obtain ⟨mem, hw, hm, H⟩ := CQ_out H
  replace H := Js [4,0,0,0,0] 0 H
  refine calls_of Tryz.func88 rfl (by kernel_rfl) ?_
  refine J2 H ?_
  refine Jc rfl rfl (at_T p q s.tab k n e hk H) ?_
  clear H; rintro v w ⟨rfl, H⟩
  refine J19 H ?_
  clear H; intro b4 w H
  refine J6 H ?_
  clear H; intro w H
  refine J50 H ?_
  have hkl := (List.getElem?_eq_some_iff.1 hk).1
  obtain ⟨_, _, y, hy⟩ := hw.obj k n e hk
  have hrk : e.region ∈ s.mns.map (·.1) := by rw [hw.mkeys]; exact List.mem_map.2 ⟨(e.region, y), hy, rfl⟩
  obtain ⟨b2, hkM⟩ := fnd_keys (l := s.mns) (f := fun x => x.1) (g := fun x => x.2.1) (k := e.region) hrk
  obtain ⟨⟨r1, b1, L⟩, m1, m2, hmns, h11, h12⟩ := fnd_split hkM
  have h11 : r1 = e.region := h11
  have h12 : b1 = b2 := h12
  subst h11 h12
  have hkM' : fnd (s.mns.map mnkey) e.region = some b1 := hkM
  have hL := hw.mine (e.region, b1, L) (by rw [hmns]; simp)
  have hL1 : L.length ≤ 100000 := by
    have := ris_len L 0 64 (fun x hx => ⟨Nat.zero_le _, by
      obtain ⟨g, f, h3, _⟩ := (hL.2 x).1 hx
      have h4 := (List.getElem?_eq_some_iff.1 h3).1
      have := hw.slots.2
      omega⟩) hL.1
    omega
  replace H := Js [1,0] 0 H
  refine J18 H ?_
  refine Jc rfl rfl (tAt_spec q.tp s.tab k n e hk H) ?_
  clear H; rintro v w ⟨rfl, H⟩
  refine J19 H ?_
  clear H; intro b6 w H
  refine J6 H ?_
  clear H; intro w H
  refine J0 H ?_
  replace H := Js [7,0,0,0,0,0,0,0] 0 H
  refine J18 H ?_
  refine Jc rfl rfl (rForget_spec q.rp s.rem hR.nd (rem_len hw hR) k H) ?_
  clear H; rintro v w ⟨ks, hks, _, rfl, H⟩
  refine Lp_nil ?_
  replace H := Js [11,10,2,2,2,0,0,0,0,0,0,0] 0 H
  replace H : Holds w (BAG b1 L :: star ((m1 ++ m2).map mnres) :: _) := (Holds.pick (R := mnres) (x := (e.region, b1, L)) hmns).1 H
  refine J1 H ?_
  clear H; intro w H
  refine J28 H ?_
  refine J167 H ?_
  refine J47 H ?_
  refine A_load1 5 [8] H rfl (Wants.none rfl) rfl rfl (by kernel_rfl) ?_
  refine A_lookup 6 [8] (key := e.region) H rfl (Wants.none rfl) rfl rfl tkI (by kernel_rfl) ?_
  rw [hkM']
  refine J89 H ?_
  refine Jo 8 H ?_
  refine Jk rfl rfl (gDel_spec b1 L k hL.1 hL1 H) ?_
  clear H; rintro v w ⟨rfl, H⟩
  refine J4 H ?_
  replace H := Js [3,0,0,0] 0 H
  refine J1 H ?_
  clear H; intro w H
  refine J151 H ?_
  refine Jo 5 H ?_
  refine Jk rfl rfl (tDrop_spec q.tp s.tab k n e hk hn H) ?_
  clear H; rintro v w ⟨rfl, H⟩
  refine J4 H ?_
  have hwf := WF_lose hw hnd hk hmns (ks.foldl era s.rem)
  have hmem := MemOK_lose (s' := { s with tab := s.tab.set k ⟨n, none⟩, rem := ks.foldl era s.rem, mns := m1 ++ (e.region, b1, L.filter (· ≠ k)) :: m2 }) hm rfl rfl rfl
  have hkeyM : s.mns.map mnkey = (m1 ++ (e.region, b1, L.filter (· ≠ k)) :: m2).map mnkey := by rw [hmns]; simp
  rw [hkeyM] at H
  replace H := Js [1,1,0,0] 0 H
  have H := (Holds.pick (R := mnres) (x := (e.region, b1, L.filter (· ≠ k))) (g1 := m1) (g2 := m2) rfl).2 H
  replace H := Js [4,6,6,6,1,3,4,4,1,0] 2 H
  have H := CQ_in hwf hmem H
  refine fn_end0 _ (.inl rfl) H rfl fun w' H' => ⟨rfl, { s with tab := s.tab.set k ⟨n, none⟩, rem := ks.foldl era s.rem, mns := m1 ++ (e.region, b1, L.filter (· ≠ k)) :: m2 }, ⟨rfl, rfl, rfl, rfl, rfl, rfl, rfl, nodup_foldl_era ks hR.nd, fun r => ?_⟩, H'⟩
  show fnd (ks.foldl era s.rem) r = _
  rw [fnd_foldl_era ks hR.nd]
  by_cases hr : r.1 = (k : Int)
  · rw [if_pos hr]
    by_cases h1 : r ∈ ks
    · rw [if_pos h1]
    · rw [if_neg h1]
      cases hf : fnd s.rem r with
      | none => rfl
      | some t => exact absurd ((hks r).2 ⟨hr, by rw [hf]; rfl⟩) h1
  · rw [if_neg hr, if_neg]
    intro h1
    exact hr ((hks r).1 h1).1
end Go.Proofs.YtipelpbkeiphmaaGreatDoor
namespace Go.Proofs.YtipelpbkeiphmaaGreatDoor
open Go.SL

theorem rOf_spec [Extra] (p : Nat) (m : List (Rf × Int)) (hm : m.length ≤ 1000000) (t : Int) {w : World} {fr : List HProp} (H : Holds w (RS p m :: fr)) :
    Calls Tryz.prog 68 #[pp p, .int .i64 t] w (ret fun v w' => ∃ ks, (∀ r, r ∈ ks ↔ fnd m r = some t) ∧ Rising ks ∧ Holds w' (sls 166 2 v (rcells ks) :: RS p m :: fr)) := by
  refine calls_of Tryz.func68 rfl (by kernel_rfl) ?_
  obtain ⟨bt, bo, bf, H⟩ := RS_out H
  refine J83 H ?_
  replace H := Js [2,0,0,0] 0 H
  obtain ⟨G, hG, H⟩ := GrR_out H
  refine Lp_s rfl (St_lookup (key := t) H rfl rfl tkI rfl ?_)
  have hn0 := keys_nodup bo H
  have hn : (G.map (·.key)).Nodup := by rw [← gkb_keys]; exact hn0
  cases hf : fnd (G.map gkb) t with
  | none =>
    replace H := mpv_nil kp v1 H
    refine Jc rfl rfl (sorted_spec none [] (by simp) (by simp) H) ?_
    rintro v w ⟨ks, hp, hs, H⟩
    refine J42 H ?_
    have hks : ks = [] := by simpa using hp
    subst hks
    replace H := Js [2,2,2,2,2,0] 1 H
    replace H := GrR_in G hG H
    replace H := Js [1,1,0,0,0] 0 H
    replace H := RS_in bt bo bf (fun _ _ => Iff.rfl) (fun _ _ => Iff.rfl) H
    refine C_ret (Jy H.swap rfl fun w' H' => ⟨[], fun r => ?_, hs, H'⟩)
    have h1 := fnd_eq_none.1 hf
    rw [gkb_keys] at h1
    exact ⟨fun h => by simp at h, fun h => absurd (mem_key ((hG t r).2 h)) h1⟩
  | some bi =>
    obtain ⟨g, g1, g2, rfl, rfl, rfl⟩ := group_at hf
    have H := (Holds.pick rfl).1 H.swap
    have hi := keys_nodup g.blk H
    have hlen : g.m.length ≤ 1000000 := by
      have := sub_length hi (l₂ := m.map (·.1)) (fun r hr => by
        have := (hG g.key r).1 ((mem_at hn).2 hr)
        exact List.mem_map_of_mem (f := (·.1)) (fnd_mem this))
      simp at this
      omega
    replace H := mpv_of H
    refine Jc rfl rfl (sorted_spec (some g.blk) g.m hlen hi H) ?_
    rintro v w ⟨ks, hp, hs, H⟩
    refine J42 H ?_
    replace H := mpv_some H.swap
    replace H := Js [0,1,0,0,0,0,0] 0 H
    replace H := (Holds.pick (R := inner) (gs := g1 ++ g :: g2) rfl).2 H
    replace H := Js [2,0,1,1,1,0] 0 H
    replace H := GrR_in (g1 ++ g :: g2) hG H
    replace H := Js [1,1,0,0,0] 0 H
    replace H := RS_in bt bo bf (fun _ _ => Iff.rfl) (fun _ _ => Iff.rfl) H
    refine C_ret (Jy H.swap rfl fun w' H' => ⟨ks, fun r => ?_, hs, H'⟩)
    rw [hp.mem_iff, ← hG, mem_at hn]
end Go.Proofs.YtipelpbkeiphmaaGreatDoor
namespace Go.Proofs.YtipelpbkeiphmaaGreatDoor
open Go.SL

theorem uChunks_spec [Extra] (p sp owner : Nat) (S : Spc) (hp : S.parts.length ≤ 100000) (hq : ∀ x ∈ S.parts, x.1 + x.2 ≤ 100000) (hc : (chunksOf S.parts).length ≤ 100000) {w : World} {fr : List HProp} (H : Holds w (SPC p sp owner S :: fr)) :
    Calls Tryz.prog 132 #[pp p] w (ret fun v w' => ∃ a c, v = .slice a (chunksOf S.parts).length c ∧ Holds w' (NL v (chunksOf S.parts) :: SPC p sp owner S :: fr)) := by
  obtain ⟨a, c, H⟩ := SPC_out H
  refine calls_of Tryz.func132 rfl (by kernel_rfl) ?_
  refine J12 H ?_
  refine J110 H ?_
  refine J168 H ?_
  replace H := sls_nil (E := 3) (k := 1) H
  refine J21 H ?_
  refine C_loop (fun ms σ w z => ms = [] ∧ ∃ (i : Nat) (a3 : Option Addr) (c3 : Nat), i ≤ S.parts.length ∧ z = S.parts.length - i ∧ σ 3 = .slice a3 (chunksOf (S.parts.take i)).length c3 ∧ σ 13 = .slice a S.parts.length c ∧ σ 14 = .int .i64 S.parts.length ∧ σ 15 = .int .i64 i ∧ Holds w (NL (.slice a3 (chunksOf (S.parts.take i)).length c3) (chunksOf (S.parts.take i)) :: pts p (row 269 [pp sp, .int .i64 owner, .slice a S.parts.length c, .int .i64 S.at', .int .i64 S.fin]) :: sls 271 2 (.slice a S.parts.length c) (S.parts.flatMap ptv) :: fr)) (m := S.parts.length) ⟨rfl, 0, none, 0, by omega, rfl, rfl, rfl, rfl, rfl, H⟩ ?_
  clear H
  rintro ms σ w z ⟨rfl, i, a3, c3, hi, rfl, g3, g13, g14, g15, H⟩
  rw [upd_self g3, upd_self g13, upd_self g14, upd_self g15]
  refine J13 H ?_
  refine C_dec rfl (fun h => C_skip ?_) (fun h => C_exit ?_)
  · have hlt : i < S.parts.length := by omega
    have hn := List.getElem?_eq_getElem hlt
    have htk : S.parts.take (i + 1) = S.parts.take i ++ [S.parts[i]] := by rw [List.take_add_one, hn]; rfl
    have hle : (chunksOf (S.parts.take (i + 1))).length ≤ 100000 := by
      refine Nat.le_trans ?_ hc
      conv => rhs; rw [← List.take_append_drop (i + 1) S.parts]
      rw [chunksOf_append, List.length_append]
      omega
    have hx := hq _ (List.getElem_mem hlt)
    generalize S.parts[i] = x at hn htk hx
    obtain ⟨x1, x2⟩ := x
    rw [htk, chunksOf_append, chunksOf_one, List.length_append, List.length_map, List.length_range] at hle
    have hx : x1 + x2 ≤ 100000 := hx
    have hcq : chunksOf (S.parts.take (i + 1)) = chunksOf (S.parts.take i) ++ (List.range x2).map (x1 + ·) := by rw [htk, chunksOf_append, chunksOf_one]
    clear g3
    generalize chunksOf (S.parts.take i) = Q at H hle hcq ⊢
    have hl : (chunksOf (S.parts.take (i + 1))).length = Q.length + x2 := by rw [hcq, List.length_append, List.length_map, List.length_range]
    replace H := Js [2,0,0] 0 H
    obtain ⟨bT, sT, rfl, H, hcl⟩ := sls_open H (by omega)
    have hrd : Reads (S.parts.flatMap ptv ++ sT) (i * 2 + 0) 2 (ptv (x1, x2)) := flat_reads (vs := ptv (x1, x2)) ptv_len hn (by repeat (first | exact Reads.nil _ | apply Reads.cons rfl))
    have ei : 0 + ((i : Nat) : Int).toNat * 2 = i * 2 := by simp
    refine J31 H ?_
    refine Lp_s rfl (St_indexAddr rfl rfl (by omega) (by omega) rfl ?_)
    rw [ei]
    refine Lp_s rfl (St_loadN H rfl hrd rfl ?_)
    refine J17 H ?_
    clear H; intro b5 w H
    refine J6 H ?_
    clear H; intro w H
    refine Lp_nil ?_
    refine J98 H ?_
    refine J0 H ?_
    replace H := hcl _ _ H.swap
    replace H := Js [2,1,1,0] 0 H
    refine J14 H ?_
    refine C_join (fun ms σ w => ms = [] ∧ ∃ (a3 : Option Addr) (c3 : Nat), σ 3 = .slice a3 (Q.length + x2) c3 ∧ σ 13 = .slice (some ⟨bT, 0, none⟩) S.parts.length c ∧ σ 14 = .int .i64 S.parts.length ∧ σ 15 = .int .i64 i ∧ Holds w (NL (.slice a3 (Q.length + x2) c3) (Q ++ (List.range x2).map (x1 + ·)) :: pts p (row 269 [pp sp, .int .i64 owner, .slice (some ⟨bT, 0, none⟩) S.parts.length c, .int .i64 S.at', .int .i64 S.fin]) :: sls 271 2 (.slice (some ⟨bT, 0, none⟩) S.parts.length c) (S.parts.flatMap ptv) :: fr)) ?_ ?_
    · refine C_block ?_
      refine C_loop (fun ms σ w z => ms = [] ∧ ∃ (j : Nat) (a3 : Option Addr) (c3 : Nat), j ≤ x2 ∧ z = x2 - j ∧ σ 3 = .slice a3 (Q.length + j) c3 ∧ σ 5 = pp b5 ∧ σ 13 = .slice (some ⟨bT, 0, none⟩) S.parts.length c ∧ σ 14 = .int .i64 S.parts.length ∧ σ 15 = .int .i64 i ∧ σ 20 = .int .i64 x2 ∧ σ 21 = .int .i64 j ∧ Holds w (NL (.slice a3 (Q.length + j) c3) (Q ++ (List.range j).map (x1 + ·)) :: pts b5 (row 271 [.int .i64 x1, .int .i64 x2]) :: pts p (row 269 [pp sp, .int .i64 owner, .slice (some ⟨bT, 0, none⟩) S.parts.length c, .int .i64 S.at', .int .i64 S.fin]) :: sls 271 2 (.slice (some ⟨bT, 0, none⟩) S.parts.length c) (S.parts.flatMap ptv) :: fr)) (m := x2) ⟨rfl, 0, a3, c3, by omega, rfl, rfl, rfl, rfl, rfl, rfl, rfl, rfl, by rw [List.range_zero, List.map_nil, List.append_nil]; exact H⟩ ?_
      clear H
      rintro ms σ w z ⟨rfl, j, a3, c3, hj, rfl, g3, g5, g13, g14, g15, g20, g21, H⟩
      rw [upd_self g3, upd_self g5, upd_self g13, upd_self g14, upd_self g15, upd_self g20, upd_self g21]
      refine J13 H ?_
      refine C_dec rfl (fun h => C_skip ?_) (fun h => C_exit ?_)
      · have hjl : j < x2 := by omega
        refine J108 H ?_
        refine J16 H ?_
        refine J38 H ?_
        refine J11 H ?_
        rw [show IntKind.i64.wrap ((x1 : Int) + (j : Int)) = ((x1 + j : Nat) : Int) by rw [wrap64 (by omega) (by omega)]; omega]
        refine J32 H ?_
        clear H; intro b29 w H
        replace H := Js [1,0,0,0,0] 0 H
        refine Lp_s rfl (St_append H rfl rfl (by repeat (first | exact Reads.nil _ | apply Reads.cons rfl)) rfl (by decide) (by rw [ncells_length, List.length_append, List.length_map, List.length_range]; simp only [List.length_cons, List.length_nil]; omega) rfl rfl ?_)
        clear H; intro v30 w H
        rw [show ncells (Q ++ (List.range j).map (x1 + ·)) ++ [.int .i64 ((x1 + j : Nat) : Int)] = ncells (Q ++ (List.range (j + 1)).map (x1 + ·)) by rw [List.range_succ, List.map_append, ← List.append_assoc]; exact (ncells_append (Q ++ (List.range j).map (x1 + ·)) [x1 + j]).symm] at H
        obtain ⟨a30, c30, rfl⟩ := sls_slice H (m := Q.length + (j + 1)) (by rw [ncells_length, List.length_append, List.length_map, List.length_range]) (by decide)
        refine J25 H ?_
        replace H := Js [0,1,1,1] 1 H
        exact ⟨_, ⟨rfl, j + 1, a30, c30, hjl, rfl, rfl, rfl, rfl, rfl, rfl, rfl, inc64 (by omega), H⟩, by omega⟩
      · have hge : j = x2 := by omega
        subst hge
        replace H := Js [0,1,1] 1 H
        exact ⟨rfl, rfl, a3, c3, rfl, rfl, rfl, rfl, H⟩
    clear H
    rintro ms σ w ⟨rfl, a3, c3, g3, g13, g14, g15, H⟩
    rw [upd_self g3, upd_self g13, upd_self g14, upd_self g15]
    refine J5 H ?_
    exact ⟨_, ⟨rfl, i + 1, a3, c3, hlt, rfl, by rw [hl]; rfl, rfl, rfl, inc64 (by omega), by rw [hl, hcq]; exact H⟩, by omega⟩
  · have hge : i = S.parts.length := by omega
    subst hge
    rw [List.take_length] at H ⊢
    refine J5 H ?_
    replace H := Js [1,1,0] 0 H
    exact C_ret (Jy (SPC_in H) rfl fun w' H' => ⟨_, _, rfl, H'.swap⟩)
end Go.Proofs.YtipelpbkeiphmaaGreatDoor
namespace Go.Proofs.YtipelpbkeiphmaaGreatDoor
open Go.SL

theorem check_own [Extra] (p size : Nat) (mem own : List Nat) (c : Nat) (hc : c < own.length) (h0 : own.getD c 0 ≠ 0) {w : World} {fr : List HProp} (H : Holds w (ST p size mem own :: fr)) :
    Calls Tryz.prog 291 #[pp p, .int .i64 c] w (ret fun v w' => v = .int .i64 0 ∧ Holds w' (ST p size mem own :: fr)) := by
  obtain ⟨v, v2, u, ws, many, hok, H⟩ := ST_out H
  obtain ⟨a2, c2, rfl⟩ := sls_slice (H.drop.drop) (ncells_length own) (by decide)
  have hcl := hok.c2
  refine calls_of Tryz.func291 rfl (by kernel_rfl) ?_
  refine J12 H ?_
  replace H := Js [2,0,0] 0 H
  have hx : own[c]? = some (own.getD c 0) := by rw [List.getD_eq_getElem?_getD, List.getElem?_eq_getElem hc]; rfl
  generalize own.getD c 0 = o at h0 hx
  obtain ⟨b, s, rfl, H, hclose⟩ := sls_open H (by omega)
  refine J14 H ?_
  refine C_joinQ (fun ms σ w => ms = [] ∧ Holds w (pts b (row 3 (ncells own ++ s)) :: pts p (row 213 [v, .int .i64 size, .slice (some ⟨b, 0, none⟩) own.length c2, pp u]) :: UL v mem :: BM u own.length ws many :: fr)) ?_ ?_
  · refine C_block ?_
    refine J2 H ?_
    rw [show decide ((c : Int) < 0) = false from decide_eq_false (by omega)]
    refine J150 H ?_
    rw [show decide ((c : Int) ≥ (own.length : Int)) = false from decide_eq_false (by omega)]
    refine J75 H ?_
    refine J18 H ?_
    refine Lp_s rfl (St_indexAddr rfl rfl (by omega) (by omega) rfl ?_)
    refine Lp_s rfl (St_load1 H rfl (ncells_get hx) rfl ?_)
    refine J7 H ?_
    rw [show ((o : Int) == 0) = false by rw [beq_eq_false_iff_ne]; omega]
    refine J35 H ?_
    exact .inl ⟨rfl, rfl, H⟩
  · clear H
    rintro ms σ w ⟨rfl, H⟩
    replace H := hclose _ _ H
    replace H := Js [1,1,0] 0 H
    replace H := ST_in hok H
    refine J12 H ?_
    exact C_ret (Jy H rfl fun w' H' => ⟨rfl, H'⟩)
theorem Release_spec [Extra] (p size : Nat) (mem own : List Nat) (c : Nat) (h63 : own.length ≤ 63) (hc : c < own.length) (h0 : own.getD c 0 ≠ 0) {w : World} {fr : List HProp} (H : Holds w (ST p size mem own :: fr)) :
    Calls Tryz.prog 218 #[pp p, .int .i64 c] w (ret fun v w' => v = .int .i64 0 ∧ Holds w' (ST p size mem (own.set c 0) :: fr)) := by
  refine calls_of Tryz.func218 rfl (by kernel_rfl) ?_
  refine J141 H ?_
  refine Jc rfl rfl (check_own p size mem own c hc h0 H) ?_
  clear H; rintro v w ⟨rfl, H⟩
  refine J25 H ?_
  obtain ⟨v, v2, u, ws, many, hok, H⟩ := ST_out H
  obtain ⟨x, rfl, hb, rfl, hx⟩ := ST_single hok h63
  obtain ⟨a2, c2, rfl⟩ := sls_slice (H.drop.drop) (ncells_length own) (by decide)
  have hcl := hok.c2
  replace H := Js [2,0,0] 0 H
  obtain ⟨b, s, rfl, H, _, _, hclose⟩ := sls_open2 H (by omega)
  refine J14 H ?_
  refine C_join (fun ms σ w => ms = [] ∧ σ 5 = .int .i64 0 ∧ Holds w (BM1 u own.length (setB x c false) :: NL (.slice (some ⟨b, 0, none⟩) own.length c2) (own.set c 0) :: pts p (row 213 [v, .int .i64 size, .slice (some ⟨b, 0, none⟩) own.length c2, pp u]) :: UL v mem :: fr)) ?_ ?_
  · refine C_true rfl ?_
    refine J18 H ?_
    refine Lp_s rfl (St_indexAddr rfl rfl (by omega) (by omega) rfl ?_)
    refine Lp_s rfl (St_store1 H rfl rfl inferInstance rfl (by simp only [List.length_append, ncells_length]; omega) rfl ?_)
    clear H; intro w H
    have e0 : (ncells own ++ s).set (0 + ((c : Nat) : Int).toNat * 1) (.int .i64 0) = ncells (own.set c 0) ++ s := ncells_set (by omega)
    rw [e0] at H
    replace H := hclose _ _ _ (by rw [ncells_length, ncells_length, List.length_set]) H
    refine Lp_nil ?_
    replace H := Js [3,0,0,0] 0 H
    refine J18 H ?_
    refine Jc rfl rfl (bSet_spec u _ x c false hb hc H) ?_
    clear H; rintro v' w ⟨rfl, H⟩
    refine Lp_nil ?_
    exact ⟨rfl, rfl, rfl, H⟩
  · clear H
    rintro ms σ w ⟨rfl, g5, H⟩
    rw [upd_self g5]
    refine J5 H ?_
    replace H := Js [2,2,1,0] 0 H
    have hx' : ∀ i, i < (own.set c 0).length → (setB x c false).testBit i = decide ((own.set c 0).getD i 0 ≠ 0) := by
      intro i hi
      rw [List.length_set] at hi
      rw [setB_bit, List.getD_eq_getElem?_getD, List.getElem?_set]
      by_cases hic : i = c
      · subst hic
        rw [if_pos rfl, if_pos rfl, if_pos hc]
        simp
      · rw [if_neg hic, if_neg (fun h => hic h.symm), hx i hi, List.getD_eq_getElem?_getD]
    refine C_ret (Jy (ST_in (own := own.set c 0) (ws := [setB x c false]) (many := cntB own.length (setB x c false)) ⟨hok.s1, hok.s2, by rw [List.length_set]; exact hok.c1, by rw [List.length_set]; exact hok.c2, by rw [List.length_set]; exact hok.len, by have := cntB_own _ _ hx'; rw [List.length_set] at this; exact this, fun _ => ⟨_, rfl, by rw [List.length_set]; exact (Bits.set hb hc).lt, hx'⟩⟩ (by rw [List.length_set]; exact H)) rfl fun w' H' => ⟨rfl, H'⟩)
end Go.Proofs.YtipelpbkeiphmaaGreatDoor
namespace Go.Proofs.YtipelpbkeiphmaaGreatDoor
open Go.SL

def findP (l : List (Nat × Nat)) (first : Nat) : Option (Nat × Nat) := l.find? fun x => x.1 == first
def findV : Option (Nat × Nat) → Value
  | some x => .tuple #[.agg #[.int .i64 x.1, .int .i64 x.2], .bool true]
  | none => .tuple #[.agg #[.int .i64 0, .int .i64 0], .bool false]
theorem ufind_spec [Extra] (p sp owner : Nat) (S : Spc) (first : Nat) (hp : S.parts.length ≤ 100000) {w : World} {fr : List HProp} (H : Holds w (SPC p sp owner S :: fr)) :
    Calls Tryz.prog 183 #[pp p, .int .i64 first] w (ret fun v w' => v = findV (findP S.parts first) ∧ Holds w' (SPC p sp owner S :: fr)) := by
  obtain ⟨a, c, H⟩ := SPC_out H
  refine calls_of Tryz.func183 rfl (by kernel_rfl) ?_
  refine J23 H ?_
  clear H; intro b4 w H
  refine J0 H ?_
  refine J148 H ?_
  refine J49 H ?_
  replace H := Js [2,1,0] 0 H
  refine C_loop (fun ms σ w z => ms = [] ∧ ∃ i : Nat, i ≤ S.parts.length ∧ z = S.parts.length - i ∧ (∀ y ∈ S.parts.take i, y.1 ≠ first) ∧ σ 1 = .int .i64 first ∧ σ 4 = pp b4 ∧ σ 11 = .slice a S.parts.length c ∧ σ 12 = .int .i64 S.parts.length ∧ σ 13 = .int .i64 i ∧ Holds w (sls 271 2 (.slice a S.parts.length c) (S.parts.flatMap ptv) :: pts p (row 269 [pp sp, .int .i64 owner, .slice a S.parts.length c, .int .i64 S.at', .int .i64 S.fin]) :: pts b4 (row 271 [.int .i64 0, .int .i64 0]) :: fr)) (m := S.parts.length) ⟨rfl, 0, by omega, rfl, (fun y hy => by simp at hy), rfl, rfl, rfl, rfl, rfl, H⟩ ?_
  clear H
  rintro ms σ w z ⟨rfl, i, hi, rfl, hno, g1, g4, g11, g12, g13, H⟩
  rw [upd_self g1, upd_self g4, upd_self g11, upd_self g12, upd_self g13]
  refine J13 H ?_
  refine C_dec rfl (fun h => C_skip ?_) (fun h => C_exit ?_)
  · have hlt : i < S.parts.length := by omega
    have hn := List.getElem?_eq_getElem hlt
    have htk : S.parts.take (i + 1) = S.parts.take i ++ [S.parts[i]] := by rw [List.take_add_one, hn]; rfl
    have hsp : S.parts = S.parts.take i ++ S.parts[i] :: S.parts.drop (i + 1) := by rw [List.getElem_cons_drop, List.take_append_drop]
    generalize S.parts[i] = x at hn htk hsp
    obtain ⟨x1, x2⟩ := x
    obtain ⟨bT, sT, rfl, H, hcl⟩ := sls_open H (by omega)
    have hrd : Reads (S.parts.flatMap ptv ++ sT) (i * 2 + 0) 2 (ptv (x1, x2)) := flat_reads (vs := ptv (x1, x2)) ptv_len hn (by repeat (first | exact Reads.nil _ | apply Reads.cons rfl))
    have ei : 0 + ((i : Nat) : Int).toNat * 2 = i * 2 := by simp
    refine J31 H ?_
    refine Lp_s rfl (St_indexAddr rfl rfl (by omega) (by omega) rfl ?_)
    rw [ei]
    refine Lp_s rfl (St_loadN H rfl hrd rfl ?_)
    refine J17 H ?_
    clear H; intro b7 w H
    refine J6 H ?_
    clear H; intro w H
    refine Lp_nil ?_
    refine J105 H ?_
    by_cases hx : x1 = first
    · subst hx
      have hf : findP S.parts x1 = some (x1, x2) := by
        unfold findP
        rw [hsp, List.find?_append, List.find?_eq_none.2 (fun y hy => by simpa using hno y hy), List.find?_cons_of_pos (by simp)]
        rfl
      rw [show ((x1 : Int) == (x1 : Int)) = true from beq_self_eq_true _, hf]
      refine Lp_nil ?_
      refine J33 H ?_
      refine J78 H ?_
      clear H; intro w H
      refine J0 H ?_
      replace H := Js [3,1,1] 1 H
      refine C_ret (Jz H (fun w' H' => .cellN H' rfl (by repeat (first | exact Reads.nil _ | apply Reads.cons rfl)) (.tmp .nil)) fun w' H' => ⟨rfl, ?_⟩)
      have H2 := hcl _ _ H'.drop
      exact SPC_in H2.swap
    · rw [show ((x1 : Int) == (first : Int)) = false by rw [beq_eq_false_iff_ne]; omega]
      refine Lp_nil ?_
      repeat refine C_seq ?_
      refine C_false rfl (C_skip ?_)
      refine J5 H ?_
      replace H := hcl _ _ H.drop
      exact ⟨_, ⟨rfl, i + 1, hlt, rfl, (fun y hy => by
        rw [htk] at hy
        rcases List.mem_append.1 hy with hy | hy
        · exact hno y hy
        · rw [List.mem_singleton] at hy
          subst hy
          exact hx), rfl, rfl, rfl, rfl, inc64 (by omega), H⟩, by omega⟩
  · have hge : i = S.parts.length := by omega
    subst hge
    rw [List.take_length] at hno
    have hf : findP S.parts first = none := List.find?_eq_none.2 (fun y hy => by simpa using hno y hy)
    rw [hf]
    repeat refine C_seq ?_
    refine C_region ?_
    refine Lp_s rfl (St_build rfl rfl ?_)
    refine J6 H ?_
    clear H; intro w H
    refine J0 H ?_
    replace H := Js [2,1,0] 0 H
    refine C_ret (Jz H (fun w' H' => .cellN H' rfl (by repeat (first | exact Reads.nil _ | apply Reads.cons rfl)) (.tmp .nil)) fun w' H' => ⟨rfl, ?_⟩)
    replace H' := H'.drop
    exact SPC_in H'

theorem eqlp (x y : Int × Int) : (if isEql BinOp.eql = true then decide (x = y) else !decide (x = y)) = decide (x = y) := if_pos rfl
theorem flat_take : ∀ (l : List (Nat × Nat)) (k : Nat), (l.flatMap ptv).take (k * 2) = (l.take k).flatMap ptv
  | _, 0 => by simp
  | [], k + 1 => by simp
  | x :: l, k + 1 => by
    rw [List.take_succ_cons, List.flatMap_cons, List.flatMap_cons, ← flat_take l k, Nat.succ_mul]
    rfl
theorem flat_drop : ∀ (l : List (Nat × Nat)) (k : Nat), (l.flatMap ptv).drop (k * 2) = (l.drop k).flatMap ptv
  | _, 0 => by simp
  | [], k + 1 => by simp
  | x :: l, k + 1 => by
    rw [List.drop_succ_cons, List.flatMap_cons, ← flat_drop l k, Nat.succ_mul]
    rfl
theorem ucut_spec [Extra] (p sp owner : Nat) (S : Spc) (k x1 x2 : Nat) (hk : S.parts[k]? = some (x1, x2)) (hno : ∀ y ∈ S.parts.take k, y ≠ (x1, x2)) (hp : S.parts.length ≤ 100000) {w : World} {fr : List HProp} (H : Holds w (SPC p sp owner S :: fr)) :
    Calls Tryz.prog 184 #[pp p, .agg #[.int .i64 x1, .int .i64 x2]] w (ret fun v w' => v = .tuple #[] ∧ Holds w' (SPC p sp owner { S with parts := S.parts.take k ++ S.parts.drop (k + 1) } :: fr)) := by
  have hkl := (List.getElem?_eq_some_iff.1 hk).1
  obtain ⟨a, c, H⟩ := SPC_out H
  refine calls_of Tryz.func184 rfl (by kernel_rfl) ?_
  refine J8 H ?_
  clear H; intro b3 w H
  refine Lp_nil ?_
  refine J148 H ?_
  refine J49 H ?_
  replace H := Js [2,1,0] 0 H
  refine C_loop (fun ms σ w z => ms = [] ∧ ∃ i : Nat, i ≤ k ∧ z = S.parts.length - i ∧ σ 0 = pp p ∧ σ 3 = pp b3 ∧ σ 9 = .slice a S.parts.length c ∧ σ 10 = .int .i64 S.parts.length ∧ σ 11 = .int .i64 i ∧ Holds w (sls 271 2 (.slice a S.parts.length c) (S.parts.flatMap ptv) :: pts p (row 269 [pp sp, .int .i64 owner, .slice a S.parts.length c, .int .i64 S.at', .int .i64 S.fin]) :: pts b3 (row 271 [.int .i64 x1, .int .i64 x2]) :: fr)) (m := S.parts.length) ⟨rfl, 0, by omega, rfl, rfl, rfl, rfl, rfl, rfl, H⟩ ?_
  clear H
  rintro ms σ w z ⟨rfl, i, hi, rfl, g0, g3, g9, g10, g11, H⟩
  rw [upd_self g0, upd_self g3, upd_self g9, upd_self g10, upd_self g11]
  refine J13 H ?_
  refine C_dec rfl (fun h => C_skip ?_) (fun h => absurd h (by omega))
  have hlt : i < S.parts.length := by omega
  have hn := List.getElem?_eq_getElem hlt
  have hmem : i < k → S.parts[i] ∈ S.parts.take k := fun h => by
    refine List.mem_iff_getElem?.2 ⟨i, ?_⟩
    rw [List.getElem?_take_of_lt h]
    exact hn
  generalize S.parts[i] = y at hn hmem
  obtain ⟨y1, y2⟩ := y
  obtain ⟨bT, sT, rfl, H, hcap, _, hcl⟩ := sls_open2 H (by omega)
  have hrd : Reads (S.parts.flatMap ptv ++ sT) (i * 2 + 0) 2 (ptv (y1, y2)) := flat_reads (vs := ptv (y1, y2)) ptv_len hn (by repeat (first | exact Reads.nil _ | apply Reads.cons rfl))
  have ei : 0 + ((i : Nat) : Int).toNat * 2 = i * 2 := by simp
  refine J21 H ?_
  refine J16 H ?_
  refine Lp_s rfl (St_indexAddr rfl rfl (by omega) (by omega) rfl ?_)
  rw [ei]
  refine Lp_s rfl (St_loadN H rfl hrd rfl ?_)
  refine J17 H ?_
  clear H; intro b5 w H
  refine Lp_pv rfl rfl ?_
  refine Lp_s rfl (St_storeN H rfl rfl inferInstance rfl rfl (Nat.le_of_ble_eq_true rfl) rfl ?_)
  clear H; intro w H
  refine Lp_nil ?_
  refine J26 H ?_
  refine J44 H ?_
  refine Lp_s rfl (St_eqPair rfl rfl (.inl rfl) rfl ?_)
  refine Lp_nil ?_
  rw [eqlp]
  by_cases he : (y1, y2) = (x1, x2)
  · have hik : i = k := by
      rcases Nat.lt_or_ge i k with h1 | h1
      · exact absurd he (hno _ (hmem h1))
      · omega
    subst hik
    injection he with he1 he2
    subst he1 he2
    rw [decide_eq_true rfl]
    refine J33 H ?_
    replace H := Js [1,0] 0 H
    refine J1 H ?_
    clear H; intro w H
    refine J73 H ?_
    refine J92 H ?_
    refine J120 H ?_
    refine A_load1 4 [18] H rfl (Wants.none rfl) rfl rfl (by kernel_rfl) ?_
    refine J54 H ?_
    refine J101 H ?_
    refine A_slice3 7 rfl (Wants.none rfl) rfl rfl rfl (Nat.le_refl i) (by omega) (by kernel_rfl) ?_
    refine J55 H ?_
    refine J112 H ?_
    refine A_fieldAddr 10 rfl (Wants.none rfl) rfl (by kernel_rfl) ?_
    refine A_load1 11 [18] H rfl (Wants.none rfl) rfl rfl (by kernel_rfl) ?_
    refine J85 H ?_
    rw [show IntKind.i64.wrap ((i : Int) + 1) = ((i + 1 : Nat) : Int) by rw [wrap64 (by omega) (by omega)]; omega]
    refine A_sliceFromV 14 rfl (Wants.none rfl) rfl rfl (by omega) hcap (by kernel_rfl) ?_
    refine Jo 15 H ?_
    refine St_appCut (N := S.parts.length) H rfl rfl (flat_len ptv_len _) hlt rfl (fun h0 => by rw [if_neg (by omega)]; omega) (by omega) (by rw [flat_len ptv_len]; omega) rfl rfl ?_
    clear H; intro v34 w H
    rw [flat_take, flat_drop, ← List.flatMap_append] at H
    have hpl : (S.parts.take i ++ S.parts.drop (i + 1)).length = S.parts.length - 1 := by simp; omega
    obtain ⟨a34, c34, rfl⟩ := sls_slice H (flat_len ptv_len _) (by decide)
    refine A_pv 16 rfl (Wants.none rfl) rfl (by kernel_rfl) ?_
    refine A_fieldAddr 17 rfl (Wants.none rfl) rfl (by kernel_rfl) ?_
    refine Jo 18 H ?_
    refine J113 H ?_
    clear H; intro w H
    refine J4 H ?_
    replace H := Js [2,0] 2 H
    exact C_ret (Jy H rfl fun w' H' => ⟨rfl, SPC_in (S := { S with parts := S.parts.take i ++ S.parts.drop (i + 1) }) H'⟩)
  · have hik : i < k := by
      rcases Nat.lt_or_ge i k with h1 | h1
      · exact h1
      · obtain rfl : i = k := by omega
        rw [hn] at hk
        injection hk with hk
        exact absurd hk he
    rw [show decide (((y1 : Int), (y2 : Int)) = ((x1 : Int), (x2 : Int))) = false from decide_eq_false (fun h => he (by
      injection h with h1 h2
      congr 1 <;> omega))]
    refine J9 H ?_
    refine J5 H ?_
    replace H := hcl _ _ _ rfl H.drop
    exact ⟨_, ⟨rfl, i + 1, by omega, rfl, rfl, rfl, rfl, rfl, inc64 (by omega), H⟩, by omega⟩
end Go.Proofs.YtipelpbkeiphmaaGreatDoor
