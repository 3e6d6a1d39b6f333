/- Cells: what is proved on the way: every input of the statement; no condition. Texts joined: SrtI BagA RmC RmD RmE KidA RefC RefD ModA ModB ModC. -/
import Derived.Test.YtcaaojbnjfdglaaGreatDoorChf
import Derived.Test.YtcaaojbnjfdglaaGreatDoorChj
import Derived.Test.YtcaaojbnjfdglaaGreatDoorChe
import Derived.Test.YtcaaojbnjfdglaaGreatDoorChi
set_option linter.unusedVariables false
set_option linter.unusedSimpArgs false
set_option linter.unusedSectionVars false
namespace Go.Proofs.YtcaaojbnjfdglaaGreatDoor
open Go.SL

def icells (l : List Int) : List Value := l.map fun x => Value.int .i64 x
theorem icells_length (l : List Int) : (icells l).length = l.length * 1 := by simp [icells]
theorem icells_append (a b : List Int) : icells (a ++ b) = icells a ++ icells b := by simp [icells]
@[reducible] def IL (v : Value) (l : List Int) : HProp := sls 3 1 v (icells l)

theorem Sort_spec [Extra] (v : Value) (l : List Int) (hl : l.length ≤ 1000000) {w : World} {fr : List HProp} (H : Holds w (IL v l :: fr)) :
    Calls Tryz.prog 129 #[v] w (ret fun x w' => x = .tuple #[] ∧ Holds w' (IL v (l.mergeSort fun x y => decide (x ≤ y)) :: fr)) := by
  obtain ⟨a, c, rfl⟩ := sls_slice H (icells_length l) (by decide)
  have hlen : (l.mergeSort fun x y => decide (x ≤ y)).length = l.length := List.length_mergeSort l
  by_cases h0 : l = []
  · subst h0
    refine (Any.slices_Sort_int_none Tryz.laysSort a c w).mono ?_
    rintro e w' ⟨rfl, rfl⟩
    rw [List.mergeSort_nil]
    exact ⟨rfl, H⟩
  · have hpos : 0 < l.length := List.length_pos_iff.2 h0
    obtain ⟨b, s, rfl, H, h1, h2, hclose⟩ := sls_open2 H hpos
    have hb := H.pts
    refine (Any.slices_Sort_int Tryz.laysSort b 0 c l w (fun j hj => ⟨?_, frozen_row hb⟩) H.fresh (by omega)).mono ?_
    · refine cell_row hb ?_
      have hj' : j < l.length := by simpa using hj
      rw [Nat.zero_add, List.getElem?_append_left (by simpa [icells] using hj')]
      simp [icells, hj']
    · rintro e w' ⟨rfl, m, os, rfl⟩
      refine ⟨rfl, hclose _ _ (icells (l.mergeSort fun x y => decide (x ≤ y))) (by rw [icells_length, icells_length, hlen]) ?_⟩
      have e1 : (Go.Sort.putRow (Value.int .i64) (Go.Sort.ahead w m) b 0 (l.mergeSort fun x y => decide (x ≤ y)).toArray).heap = w.heap.modify b (Go.Sort.onCells (Go.Sort.putCells (Value.int .i64) 0 (l.mergeSort fun x y => decide (x ≤ y)).toArray)) := rfl
      have H1 : Holds (Go.Sort.putRow (Value.int .i64) (Go.Sort.ahead w m) b 0 (l.mergeSort fun x y => decide (x ≤ y)).toArray) (pts b (row 3 (icells (l.mergeSort fun x y => decide (x ≤ y)) ++ s)) :: fr) := by
        refine H.set ?_ ?_
        · rw [e1, Array.getElem?_modify, if_pos rfl, hb]
          simp only [Option.map_some, row, Go.Sort.onCells]
          congr 2
          apply Array.ext'
          apply List.ext_getElem?
          intro t
          simp only [Go.Sort.putCells, Array.getElem?_toList, Array.getElem?_mapIdx, List.getElem?_toArray, Nat.zero_le, true_and, Nat.zero_add, Nat.sub_zero, List.size_toArray]
          have l1 : (icells l).length = l.length := by simp [icells]
          have l2 : (icells (l.mergeSort fun x y => decide (x ≤ y))).length = l.length := by simp [icells]
          by_cases ht : t < l.length
          · rw [List.getElem?_append_left (by omega), List.getElem?_append_left (by omega)]
            have ht' : t < (l.mergeSort fun x y => decide (x ≤ y)).length := by omega
            simp only [icells, List.getElem?_map, List.getElem?_eq_getElem ht, List.getElem?_eq_getElem ht', Option.map_some, if_pos ht']
            rw [getElem!_pos _ t (by simpa using ht')]
            simp
          · rw [List.getElem?_append_right (by omega), List.getElem?_append_right (by omega), l1, l2]
            have ht' : ¬ t < (l.mergeSort fun x y => decide (x ≤ y)).length := by omega
            cases s[t - l.length]? with
            | none => rfl
            | some y => simp; intro h; omega
        · intro c hc
          rw [e1, Array.getElem?_modify, if_neg (Ne.symm hc)]
      refine H1.up (fun c o hc => ?_) ⟨rfl, rfl⟩
      show ((Go.Sort.putRow (Value.int .i64) (Go.Sort.ahead w m) b 0 (l.mergeSort fun x y => decide (x ≤ y)).toArray).heap ++ os)[c]? = some o
      have := (Array.getElem?_eq_some_iff.1 hc).1
      rw [Array.getElem?_append_left this]
      exact hc

theorem Compact_few [Extra] (a : Option Addr) (n c : Nat) (hn : n < 2) {w : World} {fr : List HProp} (H : Holds w fr) :
    Calls Tryz.prog 152 #[.slice a n c] w (ret fun x w' => x = .slice a n c ∧ Holds w' fr) := by
  refine calls_of Tryz.func152 rfl (by kernel_rfl) ?_
  refine J14 H ?_
  refine J111 H ?_
  rw [show decide ((n : Int) < 2) = true from decide_eq_true (by omega)]
  refine J26 H ?_
  exact C_ret (Jy H rfl fun w' H' => ⟨rfl, H'⟩)

theorem Insert_end [Extra] (v : Value) (l : List Nat) (x : Nat) (hl : l.length ≤ 1000000) (b : Nat) {w : World} {fr : List HProp} (H : Holds w (NL v l :: pts b (row 3 [.int .i64 x]) :: fr)) :
    Calls Tryz.prog 139 #[v, .int .i64 l.length, .slice (some ⟨b, 0, none⟩) 1 1] w (ret fun v w' => Holds w' (NL v (l ++ [x]) :: fr)) := by
  obtain ⟨a, c, rfl⟩ := sls_slice H (ncells_length l) (by decide)
  refine calls_of Tryz.func139 rfl (by kernel_rfl) ?_
  refine J92 H ?_
  refine Lp_s rfl (St_sliceFromE rfl rfl (Nat.le_refl _) rfl fun v12 => ?_)
  refine Lp_nil ?_
  refine J146 H ?_
  refine J37 H ?_
  refine J111 H ?_
  refine J17 H ?_
  rw [show (((l.length : Nat) : Int) == (l.length : Int)) = true by simp]
  refine J11 H ?_
  refine J5 H ?_
  refine Lp_s rfl (St_append H rfl rfl (by repeat (first | exact Reads.nil _ | apply Reads.cons rfl)) rfl (by decide) (by rw [ncells_length]; simp only [List.length_cons, List.length_nil]; omega) rfl rfl ?_)
  clear H; intro v25 w H
  obtain ⟨a25, m25, c25, rfl⟩ := sls_any H
  refine J0 H ?_
  have e1 : ncells l ++ [.int .i64 x] = ncells (l ++ [x]) := by rw [ncells_append]; rfl
  rw [e1] at H
  exact C_ret (Jy (Holds.drop H.swap) rfl fun w' H' => H')
end Go.Proofs.YtcaaojbnjfdglaaGreatDoor
namespace Go.Proofs.YtcaaojbnjfdglaaGreatDoor
open Go.SL

def BAG (p : Nat) (l : List Nat) : HProp := ex fun v : Value => star [pts p (row 149 [v]), NL v l]
theorem BAG_out [Extra] {w : World} {p : Nat} {l : List Nat} {fr : List HProp} (H : Holds w (BAG p l :: fr)) : ∃ a c, Holds w (pts p (row 149 [.slice a l.length c]) :: NL (.slice a l.length c) l :: fr) := by
  obtain ⟨v, H⟩ := Holds.ex.1 H
  have H := Holds.star.1 H
  obtain ⟨a, c, rfl⟩ := sls_slice H.drop (ncells_length l) (by decide)
  exact ⟨a, c, H⟩
theorem BAG_in [Extra] {w : World} {p : Nat} {l : List Nat} {v : Value} {fr : List HProp} (H : Holds w (pts p (row 149 [v]) :: NL v l :: fr)) : Holds w (BAG p l :: fr) :=
  Holds.ex.2 ⟨v, Holds.star.2 H⟩

theorem gNew_spec [Extra] {w : World} {fr : List HProp} (H : Holds w fr) : Calls Tryz.prog 96 #[.slice none 0 0] w (ret fun v w' => ∃ p, v = pp p ∧ Holds w' (BAG p [] :: fr)) := by
  refine calls_of Tryz.func96 rfl (by kernel_rfl) ?_
  refine J14 H ?_
  refine J16 H ?_
  refine Jc rfl rfl (Clone_spec (.slice none 0 0) [] (by simp) ⟨rfl, none, 0, rfl, .inl rfl⟩ H) ?_
  clear H; rintro v w H
  obtain ⟨a, c, rfl⟩ := sls_slice H (ncells_length []) (by decide)
  refine J0 H ?_
  refine J16 H ?_
  refine Jc rfl rfl (Sort_spec _ [] (by simp) H) ?_
  clear H; rintro v w ⟨rfl, H⟩
  rw [List.mergeSort_nil] at H
  refine Lp_nil ?_
  refine J16 H ?_
  refine Jc rfl rfl (Compact_few a 0 c (by omega) H) ?_
  clear H; rintro v w ⟨rfl, H⟩
  refine J49 H ?_
  clear H; intro b10 w H
  refine J0 H ?_
  exact C_ret (Jy H rfl fun w' H' => ⟨_, rfl, BAG_in (l := []) H'⟩)

theorem posL_end {l : List Nat} {x : Nat} (h : ∀ a ∈ l, a < x) : posL l x = l.length := by
  unfold posL
  rw [List.countP_eq_length]
  intro a ha
  simpa using h a ha

theorem gPut_spec [Extra] (p : Nat) (l : List Nat) (x : Nat) (hs : l.Pairwise (· < ·)) (hl : l.length ≤ 100000) (hx : ∀ a ∈ l, a < x) {w : World} {fr : List HProp} (H : Holds w (BAG p l :: fr)) :
    Calls Tryz.prog 81 #[pp p, .int .i64 x] w (ret fun v w' => v = .bool true ∧ Holds w' (BAG p (l ++ [x]) :: fr)) := by
  obtain ⟨a, c, H⟩ := BAG_out H
  have hn : x ∉ l := fun h => by have := hx x h; omega
  refine calls_of Tryz.func81 rfl (by kernel_rfl) ?_
  refine J87 H ?_
  refine J13 H ?_
  obtain ⟨D1, H, hD1, hC1⟩ := sls_rd H.swap (ncells_length _) (by decide)
  refine Jc rfl rfl (Search_spec _ l (by omega) hs x (hD1 _) H) ?_
  clear H; rintro v w ⟨rfl, H⟩
  replace H := hC1 _ _ H
  rw [posL_end hx, decide_eq_false hn]
  refine J55 H ?_
  refine J12 H ?_
  refine C_join (fun ms σ w => ms = [] ∧ σ 6 = .bool false ∧ Holds w (BAG p (l ++ [x]) :: fr)) ?_ ?_
  · refine C_true rfl ?_
    refine J10 H ?_
    refine J88 H ?_
    refine J39 H ?_
    clear H; intro b27 w H
    replace H := Js [1,0,0] 0 H
    refine Jc rfl rfl (Insert_end _ l x (by omega) _ H) ?_
    clear H; intro v w H
    obtain ⟨a28, m28, c28, rfl⟩ := sls_any H
    refine J79 H ?_
    clear H; intro w H
    refine Lp_nil ?_
    exact ⟨rfl, rfl, rfl, BAG_in H.swap⟩
  · clear H
    rintro ms σ w ⟨rfl, g6, H⟩
    rw [upd_self g6]
    refine J17 H ?_
    exact C_ret (Jy H rfl fun w' H' => ⟨rfl, H'⟩)

theorem gHas_spec [Extra] (p : Nat) (l : List Nat) (x : Nat) (hs : l.Pairwise (· < ·)) (hl : l.length ≤ 100000) {w : World} {fr : List HProp} (H : Holds w (BAG p l :: fr)) :
    Calls Tryz.prog 30 #[pp p, .int .i64 x] w (ret fun v w' => v = .bool (decide (x ∈ l)) ∧ Holds w' (BAG p l :: fr)) := by
  obtain ⟨a, c, H⟩ := BAG_out H
  refine calls_of Tryz.func30 rfl (by kernel_rfl) ?_
  refine J87 H ?_
  refine J13 H ?_
  obtain ⟨D1, H, hD1, hC1⟩ := sls_rd H.swap (ncells_length _) (by decide)
  refine Jc rfl rfl (Search_spec _ l (by omega) hs x (hD1 _) H) ?_
  clear H; rintro v w ⟨rfl, H⟩
  replace H := hC1 _ _ H
  refine J55 H ?_
  exact C_ret (Jy (BAG_in H.swap) rfl fun w' H' => ⟨rfl, H'⟩)

theorem gLen_spec [Extra] (p : Nat) (l : List Nat) {w : World} {fr : List HProp} (H : Holds w (BAG p l :: fr)) :
    Calls Tryz.prog 88 #[pp p] w (ret fun v w' => v = .int .i64 l.length ∧ Holds w' (BAG p l :: fr)) := by
  obtain ⟨a, c, H⟩ := BAG_out H
  refine calls_of Tryz.func88 rfl (by kernel_rfl) ?_
  refine J87 H ?_
  refine J157 H ?_
  exact C_ret (Jy (BAG_in H) rfl fun w' H' => ⟨rfl, H'⟩)
end Go.Proofs.YtcaaojbnjfdglaaGreatDoor
namespace Go.Proofs.YtcaaojbnjfdglaaGreatDoor
open Go.SL

theorem sub_length {α : Type} : ∀ {l₁ l₂ : List α}, l₁.Nodup → (∀ z ∈ l₁, z ∈ l₂) → l₁.length ≤ l₂.length
  | [], _, _, _ => Nat.zero_le _
  | c :: l, l₂, hn, hs => by
    obtain ⟨s, t, rfl⟩ := List.append_of_mem (hs c (by simp))
    have h := List.nodup_cons.1 hn
    have := sub_length (l₂ := s ++ t) h.2 (fun z hz => by
      have h1 := hs z (by simp [hz])
      have h2 : z ≠ c := fun e => h.1 (e ▸ hz)
      simp [h2] at h1
      simpa using h1)
    simp at this ⊢
    omega

end Go.Proofs.YtcaaojbnjfdglaaGreatDoor
namespace Go.Proofs.YtcaaojbnjfdglaaGreatDoor
open Go.SL

def ltR (x y : Rf) : Prop := x.1 < y.1 ∨ x.1 = y.1 ∧ x.2 < y.2
instance (x y : Rf) : Decidable (ltR x y) := by unfold ltR; exact inferInstance

end Go.Proofs.YtcaaojbnjfdglaaGreatDoor
namespace Go.Proofs.YtcaaojbnjfdglaaGreatDoor
open Go.SL

theorem fnd_isSome_mem {K V : Type} [DecidableEq K] {m : List (K × V)} {x : K} (h : (fnd m x).isSome = true) : x ∈ m.map (·.1) := by
  cases hf : fnd m x with
  | none => rw [hf] at h; cases h
  | some v => exact List.mem_map_of_mem (f := (·.1)) (fnd_mem hf)

end Go.Proofs.YtcaaojbnjfdglaaGreatDoor
namespace Go.Proofs.YtcaaojbnjfdglaaGreatDoor
open Go.SL

end Go.Proofs.YtcaaojbnjfdglaaGreatDoor
namespace Go.Proofs.YtcaaojbnjfdglaaGreatDoor
open Go.SL

theorem dDecode_spec [Extra] (v : Value) (ws : List Nat) (hws : ∀ x ∈ ws, x < 18446744073709551616) {w : World} {fr : List HProp} (hr : RdS fr v ws.length 1 (ucells ws)) (H : Holds w fr) :
    Calls Tryz.prog 39 #[v] w (ret fun r w' => (decodeL ws = none ∧ r = .tuple #[layV 0 (.slice none 0 0) 0 (.slice none 0 0), .bool false] ∧ Holds w' fr) ∨
      ∃ l vr vq, decodeL ws = some l ∧ r = .tuple #[layV l.fixed vr l.record vq, .bool true] ∧ Holds w' (NL vr l.refs :: NL vq l.recs :: fr)) := by
  obtain ⟨_, ad, cap, rfl, hr'⟩ := id hr
  refine calls_of Tryz.func39 rfl (by kernel_rfl) ?_
  refine J18 H ?_
  clear H; intro b2 w H
  refine J0 H ?_
  refine J146 H ?_
  refine J9 H ?_
  by_cases h3 : ws.length = 3
  · obtain ⟨x, y, z, rfl⟩ : ∃ x y z, ws = [x, y, z] := by
      match ws, h3 with
      | [x, y, z], _ => exact ⟨x, y, z, rfl⟩
    have hx := hws x (by simp)
    have hy := hws y (by simp)
    have hz := hws z (by simp)
    rcases hr' with h | ⟨b, o, E, fz, c, rfl, hA, hrd⟩
    · cases h
    haveI := hA
    have c0 : c[o + 0 * 1]? = some (.int .u64 x) := by have := hrd.get 0 (.int .u64 x) (by simp [ucells]); simpa using this
    have c1 : c[o + 1 * 1]? = some (.int .u64 y) := by have := hrd.get 1 (.int .u64 y) (by simp [ucells]); simpa using this
    have c2 : c[o + 2 * 1]? = some (.int .u64 z) := by have := hrd.get 2 (.int .u64 z) (by simp [ucells]); simpa using this
    rw [show ((([x, y, z] : List Nat).length : Int) != 3) = false from rfl]
    refine J147 H ?_
    refine Lp_g rfl rfl rfl (St_indexAddr rfl rfl (by omega) (by show (0 : Int) < (3 : Nat); omega) rfl ?_)
    refine Lp_g rfl rfl rfl (St_load1 H rfl c0 rfl ?_)
    refine J27 H ?_
    by_cases hb : x < 65536
    · rw [show decide ((x : Int) ≥ 65536) = false from decide_eq_false (by omega)]
      refine J20 H ?_
      have m8 : Int.tmod (x : Int) 256 = ((x % 256 : Nat) : Int) := by rw [Int.tmod_eq_emod_of_nonneg (by omega)]; omega
      have q8 : IntKind.u64.wrap (Int.tdiv (x : Int) 256) = ((x / 256 : Nat) : Int) := by
        rw [Int.tdiv_eq_ediv_of_nonneg (by omega), show (x : Int) / 256 = ((x / 256 : Nat) : Int) by omega, wrapU_nat (by omega)]
      have w8 : IntKind.i64.wrap ((x % 256 : Nat) : Int) = ((x % 256 : Nat) : Int) := wrapI_nat (by omega)
      have v8 : IntKind.i64.wrap ((x / 256 : Nat) : Int) = ((x / 256 : Nat) : Int) := wrapI_nat (by omega)
      refine J12 H ?_
      refine C_joinQ (fun ms σ w => ms = [] ∧ ∃ b4 va vb, σ 2 = pp b2 ∧ σ 4 = pp b4 ∧
        Holds w (pts b4 (row 101 [.int .i64 ((x % 256 : Nat) : Int), va, .int .i64 ((x / 256 : Nat) : Int), vb]) :: NL va (bitsTo y 64) :: NL vb (bitsTo z 64) :: pts b2 (row 101 [.int .i64 0, .slice none 0 0, .int .i64 0, .slice none 0 0]) :: fr)) ?_ ?_
      · refine J1 H ?_
        clear H; intro w H
        refine J69 H ?_
        refine A_indexAddr 1 rfl (Wants.none rfl) rfl rfl (by omega) (by show (0 : Int) < (3 : Nat); omega) (by kernel_rfl) ?_
        refine A_load1 2 [20] H rfl (Wants.none rfl) rfl c0 (by kernel_rfl) ?_
        refine J46 H ?_
        refine A_convI 4 rfl (Wants.none rfl) rfl (by kernel_rfl) ?_
        refine J45 H ?_
        refine A_indexAddr 6 rfl (Wants.none rfl) rfl rfl (by omega) (by show (1 : Int) < (3 : Nat); omega) (by kernel_rfl) ?_
        refine A_load1 7 [8] H rfl (Wants.none rfl) rfl c1 (by kernel_rfl) ?_
        refine J60 H ?_
        refine A_indexAddr 10 rfl (Wants.none rfl) rfl rfl (by omega) (by show (0 : Int) < (3 : Nat); omega) (by kernel_rfl) ?_
        refine A_load1 11 [20] H rfl (Wants.none rfl) rfl c0 (by kernel_rfl) ?_
        refine J168 H ?_
        refine A_convI 13 rfl (Wants.none rfl) rfl (by kernel_rfl) ?_
        refine J178 H ?_
        refine A_indexAddr 15 rfl (Wants.none rfl) rfl rfl (by omega) (by show (2 : Int) < (3 : Nat); omega) (by kernel_rfl) ?_
        refine A_load1 16 [17] H rfl (Wants.none rfl) rfl c2 (by kernel_rfl) ?_
        rw [m8, q8, w8, v8]
        refine A_two 8 19 rfl rfl (by kernel_rfl) (by repeat first | exact .nil | refine .cons (.inr H.at) ?_ | refine .cons (.inr H.mp) ?_ | refine .cons (.inl (by kernel_rfl)) ?_) (Wants.none rfl) (Wants.none rfl) (St_call (a := []) (b := []) rfl rfl (call (places_spec y hy H) ?_)) (St_alloc H rfl ?_)
        · clear H; intro va w H
          obtain ⟨aa, ma, ca, rfl⟩ := sls_any H
          refine A_two 17 19 rfl rfl (by kernel_rfl) (by repeat first | exact .nil | refine .cons (.inr H.at) ?_ | refine .cons (.inr H.mp) ?_ | refine .cons (.inl (by kernel_rfl)) ?_) (Wants.none rfl) (Wants.none rfl) (St_call (a := []) (b := []) rfl rfl (call (places_spec z hz H) ?_)) (St_alloc H rfl ?_)
          · clear H; intro vb w H
            obtain ⟨ab, mb, cb, rfl⟩ := sls_any H
            refine A_build 18 rfl (Wants.none rfl) rfl (by kernel_rfl) ?_
            refine Jo 19 H ?_
            refine St_alloc H rfl ?_
            clear H; intro b4 w H
            refine Jo 20 H ?_
            refine J40 H ?_
            clear H; intro w H
            refine J2 H ?_
            replace H := Js [0,1,0,0] 0 H
            exact .inl ⟨rfl, rfl, b4, _, _, rfl, rfl, H⟩
          · clear H; intro b4 w H
            refine Jo 17 H ?_
            refine Jk rfl rfl (places_spec z hz H) ?_
            clear H; intro vb w H
            obtain ⟨ab, mb, cb, rfl⟩ := sls_any H
            refine A_build 18 rfl (Wants.none rfl) rfl (by kernel_rfl) ?_
            refine Jo 20 H ?_
            refine J40 H ?_
            clear H; intro w H
            refine J2 H ?_
            replace H := Js [1,1,0,0] 0 H
            exact .inl ⟨rfl, rfl, b4, _, _, rfl, rfl, H⟩
        · clear H; intro b4 w H
          refine Jo 8 H ?_
          refine Jk rfl rfl (places_spec y hy H) ?_
          clear H; intro va w H
          obtain ⟨aa, ma, ca, rfl⟩ := sls_any H
          refine Jo 17 H ?_
          refine Jk rfl rfl (places_spec z hz H) ?_
          clear H; intro vb w H
          obtain ⟨ab, mb, cb, rfl⟩ := sls_any H
          refine A_build 18 rfl (Wants.none rfl) rfl (by kernel_rfl) ?_
          refine Jo 20 H ?_
          refine J40 H ?_
          clear H; intro w H
          refine J2 H ?_
          replace H := Js [2,1,0,0] 0 H
          exact .inl ⟨rfl, rfl, b4, _, _, rfl, rfl, H⟩
      · clear H
        rintro ms σ w ⟨rfl, b4, va, vb, g2, g4, H⟩
        rw [upd_self g2, upd_self g4]
        have hla := bitsTo_len y 64
        have hlb := bitsTo_len z 64
        obtain ⟨aa, ca, rfl⟩ := sls_slice (H.drop) (ncells_length (bitsTo y 64)) (by decide)
        obtain ⟨ab, cb, rfl⟩ := sls_slice (H.drop.drop) (ncells_length (bitsTo z 64)) (by decide)
        refine J30 H ?_
        replace H := Js [1,1,0,0] 0 H
        obtain ⟨D1, H, hD1, hC1⟩ := sls_rd H (ncells_length (bitsTo y 64)) (by decide)
        obtain ⟨D2, H, hD2, hC2⟩ := sls_rd H.swap (ncells_length (bitsTo z 64)) (by decide)
        refine Jc rfl rfl (dRight_spec _ _ (layOf x y z) ⟨by show x % 256 ≤ _; omega, by show x / 256 ≤ _; omega, by show (bitsTo y 64).length ≤ _; omega, by show (bitsTo z 64).length ≤ _; omega⟩ ⟨(hD1 _).there, hD2 _⟩ H) ?_
        clear H; rintro v w ⟨⟨q, rfl, hq⟩, H⟩
        have H := (hC1 _ _ (hC2 _ _ H).swap)
        refine J0 H ?_
        cases q with
        | true =>
          refine J61 H ?_
          refine J85 H ?_
          clear H; intro w H
          refine J0 H ?_
          replace H := Js [3,0,0] 1 H
          refine C_ret (Jz H (fun w' H' => .cellN H' rfl (by repeat (first | exact Reads.nil _ | apply Reads.cons rfl)) (.tmp .nil)) fun w' H' => .inr ⟨layOf x y z, _, _, ?_, rfl, H'.drop⟩)
          rw [decodeL3, if_pos ⟨hb, hq.1 rfl⟩]
        | false =>
          refine J3 H ?_
          refine J152 H ?_
          clear H; intro w H
          refine J0 H ?_
          replace H := Js [3] 3 H
          refine C_ret (Jz H (fun w' H' => .cellN H' rfl (by repeat (first | exact Reads.nil _ | apply Reads.cons rfl)) (.tmp .nil)) fun w' H' => .inl ⟨?_, rfl, H'.drop⟩)
          rw [decodeL3, if_neg]
          rintro ⟨_, h2⟩
          have := hq.2 h2
          cases this
    · rw [show decide ((x : Int) ≥ 65536) = true from decide_eq_true (by omega)]
      refine J76 H ?_
      clear H; intro w H
      refine J0 H ?_
      refine C_ret (Jz H (fun w' H' => .cellN H' rfl (by repeat (first | exact Reads.nil _ | apply Reads.cons rfl)) (.tmp .nil)) fun w' H' => .inl ⟨?_, rfl, H'.drop⟩)
      rw [decodeL3, if_neg]
      rintro ⟨h1, _⟩
      exact hb h1
  · have hd : decodeL ws = none := by
      match ws with
      | [] => rfl
      | [_] => rfl
      | [_, _] => rfl
      | [_, _, _] => exact absurd rfl h3
      | _ :: _ :: _ :: _ :: _ => rfl
    rw [show ((ws.length : Int) != 3) = true by simp; omega]
    refine J9 H ?_
    refine J130 H ?_
    refine J76 H ?_
    clear H; intro w H
    refine J0 H ?_
    exact C_ret (Jz H (fun w' H' => .cellN H' rfl (by repeat (first | exact Reads.nil _ | apply Reads.cons rfl)) (.tmp .nil)) fun w' H' => .inl ⟨hd, rfl, H'.drop⟩)
end Go.Proofs.YtcaaojbnjfdglaaGreatDoor
namespace Go.Proofs.YtcaaojbnjfdglaaGreatDoor
open Go.SL

def liveP (P : List Int) (id : Int) : Bool := decide (0 < id ∧ id < P.length ∧ 0 ≤ P.getD id.toNat 0)
def idsTo (P : List Int) (f : Int → Bool) (k : Nat) : List Nat := (List.range k).filter fun i => decide (1 ≤ i) && f (P.getD i 0)
def allP (P : List Int) : List Nat := idsTo P (fun q => decide (0 ≤ q)) P.length
theorem idsTo_succ (P : List Int) (f : Int → Bool) (k : Nat) (hk : 1 ≤ k) : idsTo P f (k + 1) = idsTo P f k ++ if f (P.getD k 0) then [k] else [] := by
  unfold idsTo
  rw [List.range_succ, List.filter_append]
  congr 1
  simp only [List.filter_cons, List.filter_nil, decide_eq_true hk, Bool.true_and]
theorem idsTo_one (P : List Int) (f : Int → Bool) : idsTo P f 1 = [] := rfl
theorem idsTo_len (P : List Int) (f : Int → Bool) (k : Nat) : (idsTo P f k).length ≤ k := by
  have := List.length_filter_le (fun i => decide (1 ≤ i) && f (P.getD i 0)) (List.range k)
  simpa [idsTo] using this
theorem idsTo_mem {P : List Int} {f : Int → Bool} {k i : Nat} : i ∈ idsTo P f k ↔ i < k ∧ 1 ≤ i ∧ f (P.getD i 0) = true := by
  unfold idsTo
  simp [List.mem_filter]
theorem idsTo_sorted (P : List Int) (f : Int → Bool) (k : Nat) : (idsTo P f k).Pairwise (· < ·) := List.Pairwise.filter _ List.pairwise_lt_range

def RTR (p : Nat) (P : List Int) : HProp := ex fun v : Value => star [pts p (row 211 [v]), IL v P]
theorem RTR_out [Extra] {w : World} {p : Nat} {P : List Int} {l : List HProp} (H : Holds w (RTR p P :: l)) : ∃ a c, Holds w (pts p (row 211 [.slice a P.length c]) :: IL (.slice a P.length c) P :: l) := by
  obtain ⟨v, H⟩ := Holds.ex.1 H
  have H := Holds.star.1 H
  obtain ⟨a, c, rfl⟩ := sls_slice H.drop (icells_length P) (by decide)
  exact ⟨a, c, H⟩
theorem RTR_in [Extra] {w : World} {p : Nat} {P : List Int} {v : Value} {l : List HProp} (H : Holds w (pts p (row 211 [v]) :: IL v P :: l)) : Holds w (RTR p P :: l) :=
  Holds.ex.2 ⟨v, Holds.star.2 H⟩

theorem dNew_spec [Extra] {w : World} {fr : List HProp} (H : Holds w fr) : Calls Tryz.prog 113 #[] w (ret fun v w' => ∃ p, v = pp p ∧ Holds w' (RTR p [-1] :: fr)) := by
  refine calls_of Tryz.func113 rfl (by kernel_rfl) ?_
  refine J175 H ?_
  refine J39 H ?_
  clear H; intro b1 w H
  refine J49 H ?_
  clear H; intro b3 w H
  refine J0 H ?_
  have H := sls_lit (len := 1) (k := 1) (by rfl) H.swap
  exact C_ret (Jy H.swap rfl fun w' H' => ⟨_, rfl, RTR_in (P := [-1]) H'⟩)

theorem icell_at {P : List Int} {s : List Value} {i : Nat} (h : i < P.length) : (icells P ++ s)[0 + i * 1]? = some (.int .i64 (P.getD i 0)) := by
  rw [Nat.zero_add, Nat.mul_one, List.getElem?_append_left (by simpa [icells] using h)]
  simp [icells, h]

theorem dLive_spec [Extra] (p : Nat) (P : List Int) (id : Int) {w : World} {fr : List HProp} (H : Holds w (RTR p P :: fr)) :
    Calls Tryz.prog 163 #[pp p, .int .i64 id] w (ret fun v w' => v = .bool (liveP P id) ∧ Holds w' (RTR p P :: fr)) := by
  obtain ⟨a, c, H⟩ := RTR_out H
  refine calls_of Tryz.func163 rfl (by kernel_rfl) ?_
  refine J92 H ?_
  by_cases h1 : id > 0
  · rw [show decide (id > 0) = true from decide_eq_true (by omega)]
    refine J89 H ?_
    by_cases h2 : id < (P.length : Int)
    · rw [show decide (id < (P.length : Int)) = true from decide_eq_true (by omega)]
      obtain ⟨k, rfl⟩ : ∃ k : Nat, id = k := ⟨id.toNat, by omega⟩
      obtain ⟨b, s, rfl, H, hclose⟩ := sls_open H.swap (by omega)
      have hc := icell_at (P := P) (s := s) (i := k) (by omega)
      refine J134 H ?_
      refine Lp_g rfl rfl rfl (St_indexAddr rfl rfl (by omega) (by omega) rfl ?_)
      refine Lp_g rfl rfl rfl (St_load1 H rfl hc rfl ?_)
      refine J47 H ?_
      replace H := (hclose _ _ H).swap
      refine C_ret (Jy (RTR_in H) rfl fun w' H' => ⟨?_, H'⟩)
      show Value.bool (decide (P.getD k 0 ≥ 0)) = _
      unfold liveP
      congr 1
      rw [decide_eq_decide, Int.toNat_natCast]
      exact ⟨fun h => ⟨h1, h2, h⟩, fun h => h.2.2⟩
    · rw [show decide (id < (P.length : Int)) = false from decide_eq_false (by omega)]
      refine J236 H ?_
      refine J4 H ?_
      refine C_ret (Jy (RTR_in H) rfl fun w' H' => ⟨?_, H'⟩)
      show Value.bool false = _
      unfold liveP
      rw [decide_eq_false (fun h => h2 h.2.1)]
  · rw [show decide (id > 0) = false from decide_eq_false (by omega)]
    refine J171 H ?_
    refine J236 H ?_
    refine J4 H ?_
    refine C_ret (Jy (RTR_in H) rfl fun w' H' => ⟨?_, H'⟩)
    show Value.bool false = _
    unfold liveP
    rw [decide_eq_false (fun h => h1 h.1)]

theorem All_spec [Extra] (p : Nat) (P : List Int) (hl : P.length ≤ 1000000) {w : World} {fr : List HProp} (H : Holds w (RTR p P :: fr)) :
    Calls Tryz.prog 71 #[pp p] w (ret fun v w' => Holds w' (NL v (allP P) :: RTR p P :: fr)) := by
  refine calls_of Tryz.func71 rfl (by kernel_rfl) ?_
  refine J117 H ?_
  refine J14 H ?_
  refine J23 H ?_
  refine C_loop (fun ms σ w n => ms = [] ∧ ∃ (i : Nat) (g : Value), 1 ≤ i ∧ (i ≤ P.length ∨ i = 1) ∧ n = P.length - i ∧ σ 0 = pp p ∧ σ 3 = g ∧ σ 4 = .int .i64 i ∧ Holds w (NL g (idsTo P (fun q => decide (0 ≤ q)) i) :: RTR p P :: fr)) (m := P.length - 1) ⟨rfl, 1, _, by omega, .inr rfl, rfl, rfl, rfl, rfl, sls_nil H⟩ ?_
  clear H
  rintro ms σ w n ⟨rfl, i, g, hi1, hi2, rfl, g0, g3, g4, H⟩
  obtain ⟨ag, mg, cg, rfl⟩ := sls_any H
  obtain ⟨a, c, H⟩ := RTR_out H.swap
  rw [upd_self g0, upd_self g3, upd_self g4]
  refine J10 H ?_
  refine J29 H ?_
  refine J222 H ?_
  refine C_dec rfl (fun h => C_skip ?_) (fun h => C_exit ?_)
  · have hlt : i < P.length := by omega
    obtain ⟨b, s, rfl, H, hclose⟩ := sls_open H.swap (by omega)
    have hc := icell_at (P := P) (s := s) (i := i) (by omega)
    have hnx := idsTo_succ P (fun q => decide (0 ≤ q)) i hi1
    generalize P.getD i 0 = y at hc hnx
    refine J23 H ?_
    refine J13 H ?_
    refine Lp_s rfl (St_indexAddr rfl rfl (by omega) (by omega) rfl ?_)
    refine Lp_s rfl (St_load1 H rfl hc rfl ?_)
    refine J0 H ?_
    replace H := RTR_in (hclose _ _ H).swap
    refine J12 H ?_
    refine C_dec rfl (fun h => ?_) (fun h => C_skip ?_)
    · rw [if_pos (by simpa using h)] at hnx
      refine J5 H ?_
      refine J39 H ?_
      clear H; intro b24 w H
      replace H := Js [2,0,0] 0 H
      refine Lp_s rfl (St_append H rfl rfl (by repeat (first | exact Reads.nil _ | apply Reads.cons rfl)) rfl (by decide) (by rw [ncells_length]; have := idsTo_len P (fun q => decide (0 ≤ q)) i; simp only [List.length_cons, List.length_nil]; omega) rfl rfl ?_)
      clear H; intro v25 w H
      obtain ⟨a25, m25, c25, rfl⟩ := sls_any H
      refine J0 H ?_
      refine J17 H ?_
      replace H := Js [0,1] 1 H
      refine ⟨_, ⟨rfl, i + 1, _, by omega, .inl hlt, rfl, rfl, rfl, inc64 (by omega), ?_⟩, by omega⟩
      rw [hnx]
      show Holds w (sls _ 1 _ (ncells (_ ++ [i])) :: _)
      rw [ncells_append]
      exact H
    · rw [if_neg (by simpa using h), List.append_nil] at hnx
      refine J17 H ?_
      exact ⟨_, ⟨rfl, i + 1, _, by omega, .inl hlt, rfl, rfl, rfl, inc64 (by omega), by rw [hnx]; exact H.swap⟩, by omega⟩
  · have he : idsTo P (fun q => decide (0 ≤ q)) i = allP P := by
      unfold allP
      rcases hi2 with h1 | rfl
      · rw [show i = P.length by omega]
      · rw [idsTo_one]
        symm
        rw [List.eq_nil_iff_forall_not_mem]
        intro x hx
        have := idsTo_mem.1 hx
        omega
    rw [he] at H
    refine J3 H ?_
    have H := (RTR_in H).swap
    exact C_ret (Jy H rfl fun w' H' => H')

/-- What Add answers: the error. -/
def dErr (P : List Int) (parent : Int) : Nat := if parent ≠ 0 ∧ liveP P parent = false then 6 else if 64 ≤ (allP P).length then 5 else 0

theorem dAdd_spec [Extra] (p : Nat) (P : List Int) (parent : Int) (hl : P.length ≤ 100000) (h1 : 1 ≤ P.length) {w : World} {fr : List HProp} (H : Holds w (RTR p P :: fr)) :
    Calls Tryz.prog 114 #[pp p, .int .i64 parent] w (ret fun v w' => (dErr P parent ≠ 0 ∧ v = .tuple #[.int .i64 0, .int .i64 (dErr P parent)] ∧ Holds w' (RTR p P :: fr)) ∨
      (dErr P parent = 0 ∧ v = .tuple #[.int .i64 P.length, .int .i64 0] ∧ Holds w' (RTR p (P ++ [parent]) :: fr))) := by
  refine calls_of Tryz.func114 rfl (by kernel_rfl) ?_
  refine J3 H ?_
  refine J5 H ?_
  refine Jc rfl rfl (dLive_spec p P parent H) ?_
  clear H; rintro v w ⟨rfl, H⟩
  generalize hlv : liveP P parent = lv
  refine J24 H ?_
  refine C_join (fun ms σ w => ms = [] ∧ (∃ q, σ 16 = .bool q ∧ (q = true ↔ parent ≠ 0 ∧ liveP P parent = false)) ∧ σ 0 = pp p ∧ σ 1 = .int .i64 parent ∧ Holds w (RTR p P :: fr)) ?_ ?_
  · refine J5 H ?_
    by_cases h0 : parent = 0
    · rw [show (parent != 0) = false by simpa using h0]
      refine J9 H ?_
      refine J164 H ?_
      refine J0 H ?_
      exact ⟨rfl, rfl, ⟨false, rfl, by simp [h0]⟩, rfl, rfl, H⟩
    · rw [show (parent != 0) = true by simpa using h0]
      refine J48 H ?_
      refine J0 H ?_
      exact ⟨rfl, rfl, ⟨!lv, rfl, by simp [h0, hlv]⟩, rfl, rfl, H⟩
  clear H
  rintro ms σ w ⟨rfl, ⟨q, g16, hq⟩, g0, g1, H⟩
  rw [upd_self g16, upd_self g0, upd_self g1]
  cases q with
  | true =>
    have he : dErr P parent = 6 := by unfold dErr; rw [if_pos (hq.1 rfl)]
    refine J26 H ?_
    exact C_ret (Jy H rfl fun w' H' => .inl ⟨by omega, by rw [he]; rfl, H'⟩)
  | false =>
    have hq' : ¬ (parent ≠ 0 ∧ liveP P parent = false) := fun h => by have := hq.2 h; cases this
    refine J8 H ?_
    refine J16 H ?_
    refine Jc rfl rfl (All_spec p P (by omega) H) ?_
    clear H; intro v w H
    obtain ⟨aa, ca, rfl⟩ := sls_slice H (ncells_length _) (by decide)
    refine J0 H ?_
    refine J111 H ?_
    by_cases h64 : 64 ≤ (allP P).length
    · have he : dErr P parent = 5 := by unfold dErr; rw [if_neg hq', if_pos h64]
      rw [show decide (((allP P).length : Int) ≥ 64) = true from decide_eq_true (by omega)]
      refine J26 H ?_
      exact C_ret (Jy H.drop rfl fun w' H' => .inl ⟨by omega, by rw [he]; rfl, H'⟩)
    · have he : dErr P parent = 0 := by unfold dErr; rw [if_neg hq', if_neg h64]
      rw [show decide (((allP P).length : Int) ≥ 64) = false from decide_eq_false (by omega)]
      refine J8 H ?_
      replace H := H.drop
      obtain ⟨a, c, H⟩ := RTR_out H
      refine J177 H ?_
      refine J39 H ?_
      clear H; intro b28 w H
      replace H := Js [2,0,0] 0 H
      refine Lp_s rfl (St_append H rfl rfl (by repeat (first | exact Reads.nil _ | apply Reads.cons rfl)) rfl (by decide) (by rw [icells_length]; simp only [List.length_cons, List.length_nil]; omega) rfl rfl ?_)
      clear H; intro v29 w H
      have e1 : icells P ++ [.int .i64 parent] = icells (P ++ [parent]) := by rw [icells_append]; rfl
      rw [e1] at H
      obtain ⟨a29, c29, rfl⟩ := sls_slice H (icells_length _) (by decide)
      refine J79 H ?_
      clear H; intro w H
      refine Lp_nil ?_
      refine J169 H ?_
      refine J220 H ?_
      replace H := Js [2,0] 1 H
      refine C_ret (Jy (RTR_in H) rfl fun w' H' => .inr ⟨he, ?_, H'⟩)
      show Value.tuple #[.int .i64 (IntKind.i64.wrap (((P ++ [parent]).length : Int) - 1)), _] = _
      rw [show (P ++ [parent]).length = P.length + 1 by simp, wrap64 (by omega) (by omega), show (((P.length + 1 : Nat) : Int)) - 1 = (P.length : Int) by omega]
      rfl
end Go.Proofs.YtcaaojbnjfdglaaGreatDoor
namespace Go.Proofs.YtcaaojbnjfdglaaGreatDoor
open Go.SL

structure Mob where
  region : Nat
  lay : Nat
  count : Nat
  w : List Nat
  kind : List Nat
  to : List Nat
  held : Bool
  pinned : Bool
  gone : Bool
structure MS where
  P : List Int
  lays : List Lay
  objs : List Mob
structure MobOK (lays : List Lay) (n : Nat) (x : Mob) : Prop where
  lay : ∃ l, lays[x.lay - 1]? = some l ∧ RightL l ∧ sizeL l x.count = (x.w.length, 0)
  lay1 : 1 ≤ x.lay
  kind : x.kind.length = x.w.length
  to : x.to.length = x.w.length
  goes : ∀ p, x.kind[p]? = some 2 → x.to.getD p 0 < n
structure MWF (m : MS) : Prop where
  P : 1 ≤ m.P.length ∧ m.P.length ≤ 100000
  lays : m.lays.length ≤ 64 ∧ ∀ l ∈ m.lays, RightL l
  objs : ∀ x ∈ m.objs, MobOK m.lays m.objs.length x
  few : m.objs.length ≤ 100000
def layM (m : MS) (x : Mob) : Lay := (m.lays[x.lay - 1]?).getD ⟨0, [], 0, []⟩
theorem layM_ok {lays : List Lay} {P : List Int} {os : List Mob} {n : Nat} {x : Mob} (h : MobOK lays n x) : lays[x.lay - 1]? = some (layM ⟨P, lays, os⟩ x) ∧ RightL (layM ⟨P, lays, os⟩ x) ∧ sizeL (layM ⟨P, lays, os⟩ x) x.count = (x.w.length, 0) := by
  obtain ⟨l, h1, h2, h3⟩ := h.lay
  have : layM ⟨P, lays, os⟩ x = l := by unfold layM; rw [h1]; rfl
  rw [this]
  exact ⟨h1, h2, h3⟩

/-- An object's block, its slices' values, what it is. -/
structure OC where
  ptr : Nat
  vw : Value
  vk : Value
  vt : Value
  ob : Mob
@[reducible] def mrow (vw vk vt : Value) (x : Mob) : Obj := row 50 [.int .i64 x.region, .int .i64 x.lay, .int .i64 x.count, vw, vk, vt, .bool x.held, .bool x.pinned, .bool x.gone]
@[reducible] def ocr (x : OC) : HProp := star [pts x.ptr (mrow x.vw x.vk x.vt x.ob), UL x.vw x.ob.w, NL x.vk x.ob.kind, NL x.vt x.ob.to]
structure MQ where
  t : Nat
  vL : Value
  lc : List LyC
  vO : Value
  oc : List OC
def MODEL (p : Nat) (m : MS) : HProp := ex fun q : MQ => star [prop (MWF m ∧ q.lc.map (·.2.2) = m.lays ∧ q.oc.map (·.ob) = m.objs), pts p (row 56 [pp q.t, q.vL, q.vO]), RTR q.t m.P, sls 101 4 q.vL (bcells q.lc), star (q.lc.map bres), sls 51 1 q.vO (q.oc.map fun x => pp x.ptr), star (q.oc.map ocr)]
theorem MODEL_out [Extra] {w : World} {p : Nat} {m : MS} {l : List HProp} (H : Holds w (MODEL p m :: l)) : ∃ (t : Nat) (lc : List LyC) (oc : List OC) (aL : Option Addr) (cL : Nat) (aO : Option Addr) (cO : Nat), MWF m ∧ lc.map (·.2.2) = m.lays ∧ oc.map (·.ob) = m.objs ∧ lc.length = m.lays.length ∧ oc.length = m.objs.length ∧
    Holds w (pts p (row 56 [pp t, .slice aL m.lays.length cL, .slice aO m.objs.length cO]) :: RTR t m.P :: sls 101 4 (.slice aL m.lays.length cL) (bcells lc) :: star (lc.map bres) :: sls 51 1 (.slice aO m.objs.length cO) (oc.map fun x => pp x.ptr) :: star (oc.map ocr) :: l) := by
  obtain ⟨⟨t, vL, lc, vO, oc⟩, H⟩ := Holds.ex.1 H
  have H := Holds.star.1 H
  obtain ⟨⟨h1, h2, h3⟩, H⟩ := Holds.prop.1 H
  have hl1 : lc.length = m.lays.length := by rw [← h2, List.length_map]
  have hl2 : oc.length = m.objs.length := by rw [← h3, List.length_map]
  obtain ⟨aL, cL, rfl⟩ := sls_slice (H.drop.drop) (bcells_length lc) (by decide)
  obtain ⟨aO, cO, rfl⟩ := sls_slice (m := oc.length) (H.drop.drop.drop.drop) (by simp) (by decide)
  refine ⟨t, lc, oc, aL, cL, aO, cO, h1, h2, h3, hl1, hl2, ?_⟩
  rw [← hl1, ← hl2]
  exact H
theorem MODEL_in [Extra] {w : World} {p t : Nat} {m : MS} {l : List HProp} {lc : List LyC} {oc : List OC} {vL vO : Value} (h1 : MWF m) (h2 : lc.map (·.2.2) = m.lays) (h3 : oc.map (·.ob) = m.objs)
    (H : Holds w (pts p (row 56 [pp t, vL, vO]) :: RTR t m.P :: sls 101 4 vL (bcells lc) :: star (lc.map bres) :: sls 51 1 vO (oc.map fun x => pp x.ptr) :: star (oc.map ocr) :: l)) : Holds w (MODEL p m :: l) :=
  Holds.ex.2 ⟨⟨t, vL, lc, vO, oc⟩, Holds.star.2 (Holds.prop.2 ⟨⟨h1, h2, h3⟩, H⟩)⟩

/-- One object, taken out. -/
theorem MODEL_at [Extra] {w : World} {p : Nat} {m : MS} {l : List HProp} (H : Holds w (MODEL p m :: l)) {o : Nat} {x : Mob} (ho : m.objs[o]? = some x) : ∃ (t : Nat) (lc : List LyC) (aL : Option Addr) (cL bO cO : Nat) (s ptrs : List Value) (q : Nat) (vw vk vt : Value) (rest : List HProp), MWF m ∧ lc.map (·.2.2) = m.lays ∧ (ptrs ++ s)[0 + o * 1]? = some (pp q) ∧
    Holds w (pts q (mrow vw vk vt x) :: UL vw x.w :: NL vk x.kind :: NL vt x.to :: pts bO (row 51 (ptrs ++ s)) :: pts p (row 56 [pp t, .slice aL m.lays.length cL, .slice (some ⟨bO, 0, none⟩) m.objs.length cO]) :: sls 101 4 (.slice aL m.lays.length cL) (bcells lc) :: star (lc.map bres) :: RTR t m.P :: star rest :: l) ∧
    ∀ (w' : World) (l' : List HProp) (x' : Mob), MWF { m with objs := m.objs.set o x' } → Holds w' (pts q (mrow vw vk vt x') :: UL vw x'.w :: NL vk x'.kind :: NL vt x'.to :: pts bO (row 51 (ptrs ++ s)) :: pts p (row 56 [pp t, .slice aL m.lays.length cL, .slice (some ⟨bO, 0, none⟩) m.objs.length cO]) :: sls 101 4 (.slice aL m.lays.length cL) (bcells lc) :: star (lc.map bres) :: RTR t m.P :: star rest :: l') → Holds w' (MODEL p { m with objs := m.objs.set o x' } :: l') := by
  obtain ⟨t, lc, oc, aL, cL, aO, cO, h1, h2, h3, hl1, hl2, H⟩ := MODEL_out H
  have hol : o < m.objs.length := (List.getElem?_eq_some_iff.1 ho).1
  obtain ⟨y, hy, hyx⟩ : ∃ y, oc[o]? = some y ∧ y.ob = x := by
    rw [← h3, List.getElem?_map, Option.map_eq_some_iff] at ho
    exact ho
  obtain ⟨q, vw, vk, vt, x1⟩ := y
  obtain rfl : x1 = x := hyx
  have hpk := SL.split_at hy
  replace H := Js [4,4,0,0,0,0] 0 H
  obtain ⟨bO, s, rfl, H, hclose⟩ := sls_open H (by omega)
  replace H := Js [1,0,0,0,0,0] 0 H
  have H := Holds.star.1 ((Holds.pick (R := ocr) hpk).1 H)
  replace H : Holds w (pts q (mrow vw vk vt x1) :: UL vw x1.w :: NL vk x1.kind :: NL vt x1.to :: star ((oc.take o ++ oc.drop (o + 1)).map ocr) :: pts bO (row 51 ((oc.map fun x => pp x.ptr) ++ s)) :: pts p (row 56 [pp t, .slice aL m.lays.length cL, .slice (some ⟨bO, 0, none⟩) m.objs.length cO]) :: RTR t m.P :: sls 101 4 (.slice aL m.lays.length cL) (bcells lc) :: star (lc.map bres) :: l) := H
  refine ⟨t, lc, aL, cL, bO, cO, s, oc.map fun x => pp x.ptr, q, vw, vk, vt, (oc.take o ++ oc.drop (o + 1)).map ocr, h1, h2, ?_, ?_, ?_⟩
  · rw [Nat.zero_add, Nat.mul_one, List.getElem?_append_left (by simp; omega), List.getElem?_map, hy]
    rfl
  · replace H := Js [0,0,0,0,1,1,2,2,1,0] 0 H
    exact H
  · intro w' l' x' hm' H
    replace H := Js [0,0,0,0,5,0,0,2,0,0] 0 H
    have H := (Holds.pick (R := ocr) (x := ⟨q, vw, vk, vt, x'⟩) (g1 := oc.take o) (g2 := oc.drop (o + 1)) rfl).2 (Holds.star.2 H)
    rw [← SL.set_split hy] at H
    replace H := Js [1,0,0,0,0,0] 0 H
    have H := hclose _ _ H
    have hp : (oc.map fun x => pp x.ptr) = ((oc.set o ⟨q, vw, vk, vt, x'⟩).map fun x => pp x.ptr) := by
      rw [List.map_set]
      symm
      apply List.ext_getElem?
      intro i
      rw [List.getElem?_set]
      split
      · rename_i hi
        subst hi
        rw [List.getElem?_map, hy]
        simp; omega
      · rfl
    rw [hp] at H
    replace H := Js [2,2,2,2,0,0] 0 H
    have hs : ({ m with objs := m.objs.set o x' } : MS).objs = m.objs.set o x' := rfl
    exact MODEL_in (m := { m with objs := m.objs.set o x' }) hm' h2 (by rw [List.map_set, h3]) H

def valM (m : MS) (o : Int) : Option (Nat × Mob) :=
  if 0 ≤ o then
    match m.objs[o.toNat]? with
    | some x => if x.held && !x.gone then some (o.toNat, x) else none
    | none => none
  else none
theorem valM_nat (m : MS) (o : Nat) : valM m o = match m.objs[o]? with | some x => if x.held && !x.gone then some (o, x) else none | none => none := by
  unfold valM
  rw [if_pos (by omega), Int.toNat_natCast]
def placeM (m : MS) (o place : Int) (ref : Bool) : Nat :=
  match valM m o with
  | none => 8
  | some (_, x) => placeE (layM m x) x.w.length place ref

theorem MODEL_same [Extra] {w : World} {p : Nat} {m : MS} {l : List HProp} {o : Nat} {x : Mob} (ho : m.objs[o]? = some x) (H : Holds w (MODEL p { m with objs := m.objs.set o x } :: l)) : Holds w (MODEL p m :: l) := by
  have : m.objs.set o x = m.objs := by
    apply List.ext_getElem?
    intro i
    rw [List.getElem?_set]
    split
    · rename_i hi
      subst hi
      rw [ho]
      have := (List.getElem?_eq_some_iff.1 ho).1
      simp [this]
    · rfl
  rw [this] at H
  exact H
theorem set_same {m : MS} {o : Nat} {x : Mob} (ho : m.objs[o]? = some x) (h : MWF m) : MWF { m with objs := m.objs.set o x } := by
  have : m.objs.set o x = m.objs := by
    apply List.ext_getElem?
    intro i
    rw [List.getElem?_set]
    split
    · rename_i hi
      subst hi
      rw [ho]
      have := (List.getElem?_eq_some_iff.1 ho).1
      simp [this]
    · rfl
  rw [this]
  exact h

theorem Valid_spec [Extra] (p : Nat) (m : MS) (o : Int) {w : World} {fr : List HProp} (H : Holds w (MODEL p m :: fr)) :
    Calls Tryz.prog 26 #[pp p, .int .i64 o] w (ret fun v w' => v = .bool (valM m o).isSome ∧ Holds w' (MODEL p m :: fr)) := by
  by_cases h0 : o ≥ 0
  · obtain ⟨k, rfl⟩ : ∃ k : Nat, o = k := ⟨o.toNat, by omega⟩
    by_cases h1 : k < m.objs.length
    · have hx := List.getElem?_eq_getElem h1
      generalize m.objs[k] = x at hx
      have hv : valM m k = if x.held && !x.gone then some (k, x) else none := by rw [valM_nat, hx]
      obtain ⟨t, lc, aL, cL, bO, cO, s, ptrs, q, vw, vk, vt, rest, hm, h2, hp, H, hclose⟩ := MODEL_at H hx
      have hm' := set_same hx hm
      obtain ⟨xr, xl, xc, xw, xk, xt, xh, xp, xg⟩ := x
      refine calls_of Tryz.func26 rfl (by kernel_rfl) ?_
      refine J92 H ?_
      rw [show decide ((k : Int) ≥ 0) = true from decide_eq_true (by omega)]
      refine J89 H ?_
      rw [show decide ((k : Int) < (m.objs.length : Int)) = true from decide_eq_true (by omega)]
      refine J134 H ?_
      refine Lp_g rfl rfl rfl (St_indexAddr rfl rfl (by omega) (by omega) rfl ?_)
      refine Lp_g rfl rfl rfl (St_load1 H rfl hp rfl ?_)
      cases xh with
      | true =>
        refine J27 H ?_
        refine J81 H ?_
        refine J134 H ?_
        refine Lp_g rfl rfl rfl (St_indexAddr rfl rfl (by omega) (by omega) rfl ?_)
        refine Lp_g rfl rfl rfl (St_load1 H rfl hp rfl ?_)
        refine J166 H ?_
        refine J4 H ?_
        refine C_ret (Jy (MODEL_same hx (hclose _ _ _ hm' H)) rfl fun w' H' => ⟨?_, H'⟩)
        rw [hv]
        cases xg <;> rfl
      | false =>
        refine J27 H ?_
        refine J81 H ?_
        refine J78 H ?_
        refine J163 H ?_
        refine J4 H ?_
        refine C_ret (Jy (MODEL_same hx (hclose _ _ _ hm' H)) rfl fun w' H' => ⟨?_, H'⟩)
        rw [hv]
        rfl
    · have hv : valM m k = none := by rw [valM_nat, List.getElem?_eq_none (by omega)]
      obtain ⟨t, lc, oc, aL, cL, aO, cO, a1, a2, a3, a4, a5, H⟩ := MODEL_out H
      refine calls_of Tryz.func26 rfl (by kernel_rfl) ?_
      refine J92 H ?_
      rw [show decide ((k : Int) ≥ 0) = true from decide_eq_true (by omega)]
      refine J89 H ?_
      rw [show decide ((k : Int) < (m.objs.length : Int)) = false from decide_eq_false (by omega)]
      refine J236 H ?_
      refine J173 H ?_
      refine J163 H ?_
      refine J4 H ?_
      refine C_ret (Jy (MODEL_in a1 a2 a3 H) rfl fun w' H' => ⟨?_, H'⟩)
      rw [hv]
      rfl
  · have hv : valM m o = none := by unfold valM; rw [if_neg (by omega)]
    refine calls_of Tryz.func26 rfl (by kernel_rfl) ?_
    refine J92 H ?_
    rw [show decide (o ≥ 0) = false from decide_eq_false (by omega)]
    refine J171 H ?_
    refine J236 H ?_
    refine J173 H ?_
    refine J163 H ?_
    refine J4 H ?_
    refine C_ret (Jy H rfl fun w' H' => ⟨?_, H'⟩)
    rw [hv]
    rfl
end Go.Proofs.YtcaaojbnjfdglaaGreatDoor
namespace Go.Proofs.YtcaaojbnjfdglaaGreatDoor
open Go.SL

theorem LAYS_at [Extra] {w : World} {aL : Option Addr} {n cL : Nat} {lc : List LyC} {l : List HProp} (hn : lc.length = n) (H : Holds w (sls 101 4 (.slice aL n cL) (bcells lc) :: star (lc.map bres) :: l)) {i : Nat} {y : LyC} (hy : lc[i]? = some y) :
    ∃ (bL : Nat) (s : List Value) (D1 D2 R : HProp), aL = some ⟨bL, 0, none⟩ ∧ Holds w (pts bL (row 101 (bcells lc ++ s)) :: D1 :: D2 :: R :: l) ∧ (∀ l', RdL (D1 :: D2 :: l') y.1 y.2.1 y.2.2) ∧
      ∀ (w' : World) (l' : List HProp), Holds w' (pts bL (row 101 (bcells lc ++ s)) :: D1 :: D2 :: R :: l') → Holds w' (sls 101 4 (.slice aL n cL) (bcells lc) :: star (lc.map bres) :: l') := by
  have hi : i < lc.length := (List.getElem?_eq_some_iff.1 hy).1
  have hpk := SL.split_at hy
  obtain ⟨vr, vq, l'⟩ := y
  obtain ⟨bL, s, rfl, H, hclose⟩ := sls_open H (by omega)
  have H := Holds.star.1 ((Holds.pick (R := bres) hpk).1 H.swap)
  replace H : Holds w (NL vr l'.refs :: NL vq l'.recs :: star ((lc.take i ++ lc.drop (i + 1)).map bres) :: pts bL (row 101 (bcells lc ++ s)) :: l) := H
  obtain ⟨D1, H, hD1, hC1⟩ := sls_rd H (ncells_length _) (by decide)
  obtain ⟨D2, H, hD2, hC2⟩ := sls_rd H.swap (ncells_length _) (by decide)
  replace H := Js [3,0,0,0] 0 H
  refine ⟨bL, s, D2, D1, star ((lc.take i ++ lc.drop (i + 1)).map bres), rfl, H, fun l' => ⟨(hD1 _).there, hD2 _⟩, ?_⟩
  intro w' l2 H
  replace H := Js [1,1,1,0] 0 H
  have H := hC1 _ _ (hC2 _ _ H).swap
  replace H := Js [0,0,0,0] 0 H
  have H := (Holds.pick (R := bres) hpk).2 (Holds.star.2 H)
  exact hclose _ _ H.swap
theorem MODEL_sizes {m : MS} {w : MWF m} {x : Mob} {o : Nat} (h : m.objs[o]? = some x) : x.w.length < 8192 := by
  obtain ⟨l, _, _, h⟩ := (w.objs x (List.mem_of_getElem? h)).lay
  unfold sizeL at h
  split at h
  · injection h with h1 h2; cases h2
  · split at h
    · injection h with h1 h2; cases h2
    · injection h with h1 h2; omega
theorem valM_some {m : MS} {o : Int} {k : Nat} {x : Mob} (h : valM m o = some (k, x)) : o = k ∧ m.objs[k]? = some x ∧ x.held = true ∧ x.gone = false := by
  unfold valM at h
  split at h
  · split at h
    · rename_i y hy
      split at h
      · rename_i hh
        injection h with h
        injection h with h1 h2
        subst h1 h2
        have hh' := Bool.and_eq_true_iff.1 hh
        exact ⟨by omega, hy, hh'.1, by simpa using hh'.2⟩
      · cases h
    · cases h
  · cases h
theorem lay_at {m : MS} (h : MWF m) {lc : List LyC} (hl : lc.map (·.2.2) = m.lays) {x : Mob} {o : Nat} (hx : m.objs[o]? = some x) : ∃ y : LyC, lc[x.lay - 1]? = some y ∧ y.2.2 = layM m x ∧ 1 ≤ x.lay ∧ x.lay ≤ lc.length ∧ RightL (layM m x) ∧ sizeL (layM m x) x.count = (x.w.length, 0) := by
  have hm := h.objs x (List.mem_of_getElem? hx)
  obtain ⟨h1, h2, h3⟩ := layM_ok (P := m.P) (os := m.objs) hm
  have h1' : m.lays[x.lay - 1]? = some (layM m x) := h1
  have h3' : (lc.map (·.2.2))[x.lay - 1]? = some (layM m x) := by rw [hl]; exact h1'
  rw [List.getElem?_map, Option.map_eq_some_iff] at h3'
  obtain ⟨y, hy, e⟩ := h3'
  have := (List.getElem?_eq_some_iff.1 hy).1
  have := hm.lay1
  exact ⟨y, hy, e, hm.lay1, by omega, h2, h3⟩
theorem sizeL_rec {l : Lay} {c : Nat} {n p : Nat} (h : sizeL l c = (n, 0)) (hp : p < n) : l.record ≠ 0 ∨ p < l.fixed := by
  unfold sizeL at h
  split at h
  · injection h with h1 h2; cases h2
  · split at h
    · injection h with h1 h2; cases h2
    · injection h with h1 h2
      by_cases h0 : l.record = 0
      · rw [h0] at h1; right; omega
      · left; exact h0

theorem Place_spec [Extra] (p : Nat) (m : MS) (o place : Int) (ref : Bool) {w : World} {fr : List HProp} (H : Holds w (MODEL p m :: fr)) :
    Calls Tryz.prog 28 #[pp p, .int .i64 o, .int .i64 place, .bool ref] w (ret fun v w' => v = .int .i64 (placeM m o place ref : Nat) ∧ Holds w' (MODEL p m :: fr)) := by
  refine calls_of Tryz.func28 rfl (by kernel_rfl) ?_
  refine J92 H ?_
  refine Jc rfl rfl (Valid_spec p m o H) ?_
  clear H; rintro v w ⟨rfl, H⟩
  refine J0 H ?_
  cases hv : valM m o with
  | none =>
    have hr : placeM m o place ref = 8 := by unfold placeM; rw [hv]
    refine J237 H ?_
    refine C_ret (Jy H rfl fun w' H' => ⟨by rw [hr]; rfl, H'⟩)
  | some kx =>
    obtain ⟨k, x⟩ := kx
    obtain ⟨rfl, hx, hh, hg⟩ := valM_some hv
    have hr : placeM m k place ref = placeE (layM m x) x.w.length place ref := by unfold placeM; rw [hv]
    have hkl := (List.getElem?_eq_some_iff.1 hx).1
    obtain ⟨t, lc, aL, cL, bO, cO, s, ptrs, q, vw, vk, vt, rest, hm, h2, hp, H, hclose⟩ := MODEL_at H hx
    have hm' := set_same hx hm
    obtain ⟨y, hy, hyl, hl1, hl2, hR, hsz⟩ := lay_at hm h2 hx
    obtain ⟨aw, cw, rfl⟩ := sls_slice H.drop (ucells_length _) (by decide)
    refine J61 H ?_
    refine J13 H ?_
    refine Lp_s rfl (St_indexAddr rfl rfl (by omega) (by omega) rfl ?_)
    refine Lp_s rfl (St_load1 H rfl hp rfl ?_)
    refine J0 H ?_
    refine J5 H ?_
    by_cases h1 : place < 0 ∨ (x.w.length : Int) ≤ place
    · have hr' : placeM m k place ref = 3 := by rw [hr]; unfold placeE; rw [if_pos h1]
      by_cases h0 : place < 0
      · rw [show decide (place < 0) = true from decide_eq_true (by omega)]
        refine J171 H ?_
        refine J51 H ?_
        refine C_ret (Jy (MODEL_same hx (hclose _ _ _ hm' H)) rfl fun w' H' => ⟨by rw [hr']; rfl, H'⟩)
      · rw [show decide (place < 0) = false from decide_eq_false (by omega)]
        refine J89 H ?_
        rw [show decide (place ≥ (x.w.length : Int)) = true from decide_eq_true (by omega)]
        refine J51 H ?_
        refine C_ret (Jy (MODEL_same hx (hclose _ _ _ hm' H)) rfl fun w' H' => ⟨by rw [hr']; rfl, H'⟩)
    · obtain ⟨j, rfl⟩ : ∃ j : Nat, place = j := ⟨place.toNat, by omega⟩
      have hsm := MODEL_sizes (w := hm) hx
      rw [show decide ((j : Int) < 0) = false from decide_eq_false (by omega)]
      refine J89 H ?_
      rw [show decide ((j : Int) ≥ (x.w.length : Int)) = false from decide_eq_false (by omega)]
      refine J20 H ?_
      replace H := Js [6,6,0,0,0,0,0,0,0,0] 0 H
      obtain ⟨bL, sL, D1, D2, R, rfl, H, hD, hcl⟩ := LAYS_at (by rw [← h2, List.length_map]) H hy
      obtain ⟨vr, vq, ly⟩ := y
      obtain rfl : ly = layM m x := hyl
      refine J1 H ?_
      clear H; intro w H
      refine J15 H ?_
      refine A_load1 3 [12] H rfl (Wants.none rfl) rfl rfl (by kernel_rfl) ?_
      refine J229 H ?_
      refine A_load1 7 [12] H rfl (Wants.none rfl) rfl rfl (by kernel_rfl) ?_
      refine J84 H ?_
      rw [show IntKind.i64.wrap ((x.lay : Int) - 1) = ((x.lay - 1 : Nat) : Int) by rw [wrap64 (by omega) (by have := hm.lays.1; rw [← h2, List.length_map] at this; omega)]; omega]
      refine A_indexAddr 9 rfl (Wants.none rfl) rfl rfl (by omega) (by rw [← h2, List.length_map]; omega) (by kernel_rfl) ?_
      refine A_loadN 10 [12] H rfl (Wants.none rfl) rfl (bcells_reads hy) (by kernel_rfl) ?_
      refine J179 H ?_
      refine Jo 12 H ?_
      refine Jk rfl rfl (dIsRef_spec vr vq (layM m x) hR j (sizeL_rec hsz (by omega)) (by omega) ((hD _).there) H) ?_
      clear H; rintro v w ⟨rfl, H⟩
      refine J93 H ?_
      replace H := hcl _ _ H
      replace H := Js [2,2,2,2,2,2,0,0,0,0] 0 H
      replace H := MODEL_same hx (hclose _ _ _ hm' H)
      generalize hbb : isRefL (layM m x) j = bb
      cases bb with
      | true =>
        cases ref with
        | true =>
          refine J238 H ?_
          have hr' : placeM m k j true = 0 := by rw [hr]; unfold placeE; rw [if_neg h1, Int.toNat_natCast, if_neg (by rw [hbb]; decide)]
          refine J8 H ?_
          refine J14 H ?_
          refine C_ret (Jy H rfl fun w' H' => ⟨by rw [hr']; rfl, H'⟩)
        | false =>
          refine J238 H ?_
          have hr' : placeM m k j false = 9 := by rw [hr]; unfold placeE; rw [if_neg h1, Int.toNat_natCast, if_pos (by rw [hbb]; decide)]
          refine J38 H ?_
          refine C_ret (Jy H rfl fun w' H' => ⟨by rw [hr']; rfl, H'⟩)
      | false =>
        cases ref with
        | true =>
          refine J238 H ?_
          have hr' : placeM m k j true = 9 := by rw [hr]; unfold placeE; rw [if_neg h1, Int.toNat_natCast, if_pos (by rw [hbb]; decide)]
          refine J38 H ?_
          refine C_ret (Jy H rfl fun w' H' => ⟨by rw [hr']; rfl, H'⟩)
        | false =>
          refine J238 H ?_
          have hr' : placeM m k j false = 0 := by rw [hr]; unfold placeE; rw [if_neg h1, Int.toNat_natCast, if_neg (by rw [hbb]; decide)]
          refine J8 H ?_
          refine J14 H ?_
          refine C_ret (Jy H rfl fun w' H' => ⟨by rw [hr']; rfl, H'⟩)

@[reducible] def setM (m : MS) (k : Nat) (x : Mob) : MS := { m with objs := m.objs.set k x }
theorem MWF_set {m : MS} (h : MWF m) {o : Nat} {x : Mob} (hx : MobOK m.lays m.objs.length x) : MWF (setM m o x) := by
  refine ⟨h.P, h.lays, fun y hy => ?_, by show (m.objs.set o x).length ≤ _; rw [List.length_set]; exact h.few⟩
  have hl : (m.objs.set o x).length = m.objs.length := List.length_set
  show MobOK m.lays (m.objs.set o x).length y
  rw [hl]
  rcases List.mem_or_eq_of_mem_set hy with hy | rfl
  · exact h.objs y hy
  · exact hx

def dropM (m : MS) (o : Int) : MS × Nat :=
  match valM m o with
  | none => (m, 8)
  | some (k, x) => (setM m k { x with held := false }, 0)
theorem Drop15_spec [Extra] (p : Nat) (m : MS) (o : Int) {w : World} {fr : List HProp} (H : Holds w (MODEL p m :: fr)) :
    Calls Tryz.prog 53 #[pp p, .int .i64 o] w (ret fun v w' => v = .int .i64 ((dropM m o).2 : Nat) ∧ Holds w' (MODEL p (dropM m o).1 :: fr)) := by
  refine calls_of Tryz.func53 rfl (by kernel_rfl) ?_
  refine J92 H ?_
  refine Jc rfl rfl (Valid_spec p m o H) ?_
  clear H; rintro v w ⟨rfl, H⟩
  refine J0 H ?_
  cases hv : valM m o with
  | none =>
    have hr : dropM m o = (m, 8) := by unfold dropM; rw [hv]
    rw [hr]
    refine J237 H ?_
    refine C_ret (Jy H rfl fun w' H' => ⟨rfl, H'⟩)
  | some kx =>
    obtain ⟨k, x⟩ := kx
    have hr : dropM m o = (setM m k { x with held := false }, 0) := by unfold dropM; rw [hv]
    rw [hr]
    obtain ⟨rfl, hx, hh, hg⟩ := valM_some hv
    have hkl := (List.getElem?_eq_some_iff.1 hx).1
    obtain ⟨t, lc, aL, cL, bO, cO, s, ptrs, q, vw, vk, vt, rest, hm, h2, hp, H, hclose⟩ := MODEL_at H hx
    have hm' : MWF (setM m k { x with held := false }) := MWF_set hm (by obtain ⟨a, b, c, d, e⟩ := hm.objs x (List.mem_of_getElem? hx); exact ⟨a, b, c, d, e⟩)
    refine J61 H ?_
    refine J13 H ?_
    refine Lp_s rfl (St_indexAddr rfl rfl (by omega) (by omega) rfl ?_)
    refine Lp_s rfl (St_load1 H rfl hp rfl ?_)
    refine J79 H ?_
    clear H; intro w H
    refine J148 H ?_
    refine C_ret (Jy (hclose _ _ _ hm' H) rfl fun w' H' => ⟨rfl, H'⟩)

def pinM (m : MS) (o : Int) (on : Bool) : MS × Nat :=
  match valM m o with
  | none => (m, 8)
  | some (k, x) => if x.pinned = on then (m, 7) else (setM m k { x with pinned := on }, 0)
theorem Pin15_spec [Extra] (p : Nat) (m : MS) (o : Int) (on : Bool) {w : World} {fr : List HProp} (H : Holds w (MODEL p m :: fr)) :
    Calls Tryz.prog 54 #[pp p, .int .i64 o, .bool on] w (ret fun v w' => v = .int .i64 ((pinM m o on).2 : Nat) ∧ Holds w' (MODEL p (pinM m o on).1 :: fr)) := by
  refine calls_of Tryz.func54 rfl (by kernel_rfl) ?_
  refine J92 H ?_
  refine Jc rfl rfl (Valid_spec p m o H) ?_
  clear H; rintro v w ⟨rfl, H⟩
  refine J0 H ?_
  cases hv : valM m o with
  | none =>
    have hr : pinM m o on = (m, 8) := by unfold pinM; rw [hv]
    rw [hr]
    refine J237 H ?_
    refine C_ret (Jy H rfl fun w' H' => ⟨rfl, H'⟩)
  | some kx =>
    obtain ⟨k, x⟩ := kx
    have hr : pinM m o on = if x.pinned = on then (m, 7) else (setM m k { x with pinned := on }, 0) := by unfold pinM; rw [hv]
    rw [hr]
    obtain ⟨rfl, hx, hh, hg⟩ := valM_some hv
    have hkl := (List.getElem?_eq_some_iff.1 hx).1
    obtain ⟨t, lc, aL, cL, bO, cO, s, ptrs, q, vw, vk, vt, rest, hm, h2, hp, H, hclose⟩ := MODEL_at H hx
    have hm0 := set_same hx hm
    have hm' : MWF (setM m k { x with pinned := on }) := MWF_set hm (by obtain ⟨a, b, c, d, e⟩ := hm.objs x (List.mem_of_getElem? hx); exact ⟨a, b, c, d, e⟩)
    refine J61 H ?_
    obtain ⟨xr, xl, xc, xw, xk, xt, xh, xp, xg⟩ := x
    refine J13 H ?_
    refine Lp_s rfl (St_indexAddr rfl rfl (by omega) (by omega) rfl ?_)
    refine Lp_s rfl (St_load1 H rfl hp rfl ?_)
    cases xp with
    | true =>
      cases on with
      | true =>
        refine J239 H ?_
        refine Lp_nil ?_
        refine J38 H ?_
        refine C_ret (Jy (MODEL_same hx (hclose _ _ _ hm0 H)) rfl fun w' H' => ⟨rfl, H'⟩)
      | false =>
        refine J239 H ?_
        refine J180 H ?_
        refine J13 H ?_
        refine Lp_s rfl (St_indexAddr rfl rfl (by omega) (by omega) rfl ?_)
        refine Lp_s rfl (St_load1 H rfl hp rfl ?_)
        refine J28 H ?_
        refine J104 H ?_
        clear H; intro w H
        refine J148 H ?_
        refine C_ret (Jy (hclose _ _ _ hm' H) rfl fun w' H' => ⟨rfl, H'⟩)
    | false =>
      cases on with
      | true =>
        refine J239 H ?_
        refine J180 H ?_
        refine J13 H ?_
        refine Lp_s rfl (St_indexAddr rfl rfl (by omega) (by omega) rfl ?_)
        refine Lp_s rfl (St_load1 H rfl hp rfl ?_)
        refine J28 H ?_
        refine J104 H ?_
        clear H; intro w H
        refine J148 H ?_
        refine C_ret (Jy (hclose _ _ _ hm' H) rfl fun w' H' => ⟨rfl, H'⟩)
      | false =>
        refine J239 H ?_
        refine Lp_nil ?_
        refine J38 H ?_
        refine C_ret (Jy (MODEL_same hx (hclose _ _ _ hm0 H)) rfl fun w' H' => ⟨rfl, H'⟩)
end Go.Proofs.YtcaaojbnjfdglaaGreatDoor
namespace Go.Proofs.YtcaaojbnjfdglaaGreatDoor
open Go.SL

theorem ncells_setI {l : List Nat} {spare : List Value} {i x : Nat} {v : Int} (h : i < l.length) (hv : v = (x : Nat)) : (ncells l ++ spare).set (0 + i * 1) (.int .i64 v) = ncells (l.set i x) ++ spare := by subst hv; exact ncells_set h
theorem placeM_some {m : MS} {o place : Int} {ref : Bool} {k : Nat} {x : Mob} (h : valM m o = some (k, x)) : placeM m o place ref = placeE (layM m x) x.w.length place ref := by unfold placeM; rw [h]
theorem placeM_none {m : MS} {o place : Int} {ref : Bool} (h : valM m o = none) : placeM m o place ref = 8 := by unfold placeM; rw [h]

def cutM (m : MS) (o place : Int) : MS × Nat :=
  match valM m o with
  | none => (m, 8)
  | some (k, x) => if placeE (layM m x) x.w.length place true = 0 then (setM m k { x with kind := x.kind.set place.toNat 0, to := x.to.set place.toNat 0 }, 0) else (m, placeE (layM m x) x.w.length place true)
theorem cutM_none {m : MS} {o place : Int} (h : valM m o = none) : cutM m o place = (m, 8) := by unfold cutM; rw [h]
theorem cutM_some {m : MS} {o place : Int} {k : Nat} {x : Mob} (h : valM m o = some (k, x)) : cutM m o place = if placeE (layM m x) x.w.length place true = 0 then (setM m k { x with kind := x.kind.set place.toNat 0, to := x.to.set place.toNat 0 }, 0) else (m, placeE (layM m x) x.w.length place true) := by unfold cutM; rw [h]
theorem MobOK_cut {ls : List Lay} {n : Nat} {x : Mob} (h : MobOK ls n x) (j kd t : Nat) (hk : kd = 2 → t < n) : MobOK ls n { x with kind := x.kind.set j kd, to := x.to.set j t } := by
  obtain ⟨a, b, c, d, e⟩ := h
  refine ⟨a, b, by show (x.kind.set j kd).length = _; rw [List.length_set]; exact c, by show (x.to.set j t).length = _; rw [List.length_set]; exact d, ?_⟩
  intro i (hi : (x.kind.set j kd)[i]? = some 2)
  show (x.to.set j t).getD i 0 < n
  by_cases hji : j = i
  · subst hji
    have hl : j < x.kind.length := by
      have := (List.getElem?_eq_some_iff.1 hi).1
      simpa using this
    rw [List.getElem?_set_self hl] at hi
    injection hi with hi
    rw [List.getD_eq_getElem?_getD, List.getElem?_set_self (by omega)]
    exact hk hi
  · rw [List.getElem?_set_ne hji] at hi
    have := e i hi
    rw [List.getD_eq_getElem?_getD, List.getElem?_set_ne hji, ← List.getD_eq_getElem?_getD]
    exact this

theorem Cut15_spec [Extra] (p : Nat) (m : MS) (o place : Int) {w : World} {fr : List HProp} (H : Holds w (MODEL p m :: fr)) :
    Calls Tryz.prog 52 #[pp p, .int .i64 o, .int .i64 place] w (ret fun v w' => v = .int .i64 ((cutM m o place).2 : Nat) ∧ Holds w' (MODEL p (cutM m o place).1 :: fr)) := by
  refine calls_of Tryz.func52 rfl (by kernel_rfl) ?_
  refine J102 H ?_
  refine Jc rfl rfl (Place_spec p m o place true H) ?_
  clear H; rintro v w ⟨rfl, H⟩
  refine J22 H ?_
  by_cases h0 : placeM m o place true = 0
  · obtain ⟨k, x, hv⟩ : ∃ k x, valM m o = some (k, x) := by
      cases hv : valM m o with
      | none => rw [placeM_none hv] at h0; cases h0
      | some kx => exact ⟨kx.1, kx.2, rfl⟩
    rw [placeM_some hv] at h0 ⊢
    rw [cutM_some hv, if_pos h0, h0]
    obtain ⟨rfl, hx, hh, hg⟩ := valM_some hv
    have hkl := (List.getElem?_eq_some_iff.1 hx).1
    obtain ⟨j, rfl, hj, hr⟩ := placeE_ok h0
    rw [Int.toNat_natCast]
    obtain ⟨t, lc, aL, cL, bO, cO, s, ptrs, q, vw, vk, vt, rest, hm, h2, hp, H, hclose⟩ := MODEL_at H hx
    have hob := hm.objs x (List.mem_of_getElem? hx)
    have hkn := hob.kind
    have htn := hob.to
    have hsm := MODEL_sizes (w := hm) hx
    obtain ⟨ak, ck, rfl⟩ := sls_slice H.drop.drop (ncells_length _) (by decide)
    obtain ⟨at', ct, rfl⟩ := sls_slice H.drop.drop.drop (ncells_length _) (by decide)
    replace H := Js [2,0,0,0] 0 H
    obtain ⟨bk, sk, rfl, H, _, _, hck⟩ := sls_open2 H (by omega)
    replace H := Js [3,0,0,0] 0 H
    obtain ⟨bt, st, rfl, H, _, _, hct⟩ := sls_open2 H (by omega)
    refine J11 H ?_
    refine J13 H ?_
    refine Lp_s rfl (St_indexAddr rfl rfl (by omega) (by omega) rfl ?_)
    refine Lp_s rfl (St_load1 H rfl hp rfl ?_)
    refine J80 H ?_
    refine Lp_s rfl (St_indexAddr rfl rfl (by omega) (by omega) rfl ?_)
    refine Lp_s rfl (St_store1 H rfl rfl inferInstance rfl (by simp only [List.length_append, ncells_length]; omega) rfl ?_)
    clear H; intro w H
    rw [Int.toNat_natCast, ncells_setI (v := 0) (x := 0) (by omega) rfl] at H
    refine Lp_nil ?_
    refine J13 H ?_
    refine Lp_s rfl (St_indexAddr rfl rfl (by omega) (by omega) rfl ?_)
    refine Lp_s rfl (St_load1 H rfl hp rfl ?_)
    refine J80 H ?_
    refine Lp_s rfl (St_indexAddr rfl rfl (by omega) (by omega) rfl ?_)
    refine Lp_s rfl (St_store1 H rfl rfl inferInstance rfl (by simp only [List.length_append, ncells_length]; omega) rfl ?_)
    clear H; intro w H
    rw [Int.toNat_natCast, ncells_setI (v := 0) (x := 0) (by omega) rfl] at H
    refine Lp_nil ?_
    replace H := Js [1,0,0,0] 0 H
    replace H := hck _ _ (ncells (x.kind.set j 0)) (by simp [ncells]) H
    replace H := Js [1,0,0,0] 0 H
    replace H := hct _ _ (ncells (x.to.set j 0)) (by simp [ncells]) H
    replace H := Js [2,2,1,0] 0 H
    replace H := hclose _ _ { x with kind := x.kind.set j 0, to := x.to.set j 0 } (MWF_set hm (MobOK_cut hob j 0 0 (by omega))) H
    refine J3 H ?_
    exact C_ret (Jy H rfl fun w' H' => ⟨rfl, H'⟩)
  · have hc : cutM m o place = (m, placeM m o place true) := by
      cases hv : valM m o with
      | none => rw [cutM_none hv, placeM_none hv]
      | some kx =>
        obtain ⟨k, x⟩ := kx
        rw [placeM_some hv] at h0 ⊢
        rw [cutM_some hv, if_neg h0]
    rw [hc, show (((placeM m o place true : Nat) : Int) == 0) = false by simpa using h0]
    refine J203 H ?_
    exact C_ret (Jy H rfl fun w' H' => ⟨rfl, H'⟩)

def tieM (m : MS) (o place u : Int) : MS × Nat :=
  match valM m o with
  | none => (m, 8)
  | some (k, x) => if placeE (layM m x) x.w.length place true = 0 then match valM m u with
    | none => (m, 8)
    | some (ku, _) => (setM m k { x with kind := x.kind.set place.toNat 2, to := x.to.set place.toNat ku }, 0)
    else (m, placeE (layM m x) x.w.length place true)
theorem Tie15_spec [Extra] (p : Nat) (m : MS) (o place u : Int) {w : World} {fr : List HProp} (H : Holds w (MODEL p m :: fr)) :
    Calls Tryz.prog 51 #[pp p, .int .i64 o, .int .i64 place, .int .i64 u] w (ret fun v w' => v = .int .i64 ((tieM m o place u).2 : Nat) ∧ Holds w' (MODEL p (tieM m o place u).1 :: fr)) := by
  refine calls_of Tryz.func51 rfl (by kernel_rfl) ?_
  refine J102 H ?_
  refine Jc rfl rfl (Place_spec p m o place true H) ?_
  clear H; rintro v w ⟨rfl, H⟩
  refine J22 H ?_
  by_cases h0 : placeM m o place true = 0
  · obtain ⟨k, x, hv⟩ : ∃ k x, valM m o = some (k, x) := by
      cases hv : valM m o with
      | none => rw [placeM_none hv] at h0; cases h0
      | some kx => exact ⟨kx.1, kx.2, rfl⟩
    rw [placeM_some hv] at h0 ⊢
    rw [h0]
    refine J221 H ?_
    refine Jc rfl rfl (Valid_spec p m u H) ?_
    clear H; rintro v w ⟨rfl, H⟩
    refine J0 H ?_
    cases hu : valM m u with
    | none =>
      have hr : tieM m o place u = (m, 8) := by unfold tieM; rw [hv]; show (if placeE _ _ _ _ = 0 then _ else _) = _; rw [if_pos h0, hu]
      rw [hr]
      refine J237 H ?_
      exact C_ret (Jy H rfl fun w' H' => ⟨rfl, H'⟩)
    | some kx =>
    obtain ⟨ku, xu⟩ := kx
    have hr : tieM m o place u = (setM m k { x with kind := x.kind.set place.toNat 2, to := x.to.set place.toNat ku }, 0) := by unfold tieM; rw [hv]; show (if placeE _ _ _ _ = 0 then _ else _) = _; rw [if_pos h0, hu]
    rw [hr]
    obtain ⟨rfl, hx, hh, hg⟩ := valM_some hv
    obtain ⟨rfl, hxu, _, _⟩ := valM_some hu
    have hkl := (List.getElem?_eq_some_iff.1 hx).1
    have hkul := (List.getElem?_eq_some_iff.1 hxu).1
    obtain ⟨j, rfl, hj, hr⟩ := placeE_ok h0
    rw [Int.toNat_natCast]
    refine J61 H ?_
    obtain ⟨t, lc, aL, cL, bO, cO, s, ptrs, q, vw, vk, vt, rest, hm, h2, hp, H, hclose⟩ := MODEL_at H hx
    have hob := hm.objs x (List.mem_of_getElem? hx)
    have hkn := hob.kind
    have htn := hob.to
    have hsm := MODEL_sizes (w := hm) hx
    obtain ⟨ak, ck, rfl⟩ := sls_slice H.drop.drop (ncells_length _) (by decide)
    obtain ⟨at', ct, rfl⟩ := sls_slice H.drop.drop.drop (ncells_length _) (by decide)
    replace H := Js [2,0,0,0] 0 H
    obtain ⟨bk, sk, rfl, H, _, _, hck⟩ := sls_open2 H (by omega)
    replace H := Js [3,0,0,0] 0 H
    obtain ⟨bt, st, rfl, H, _, _, hct⟩ := sls_open2 H (by omega)
    refine J13 H ?_
    refine Lp_s rfl (St_indexAddr rfl rfl (by omega) (by omega) rfl ?_)
    refine Lp_s rfl (St_load1 H rfl hp rfl ?_)
    refine J80 H ?_
    refine Lp_s rfl (St_indexAddr rfl rfl (by omega) (by omega) rfl ?_)
    refine Lp_s rfl (St_store1 H rfl rfl inferInstance rfl (by simp only [List.length_append, ncells_length]; omega) rfl ?_)
    clear H; intro w H
    rw [Int.toNat_natCast, ncells_setI (v := 2) (x := 2) (by omega) rfl] at H
    refine Lp_nil ?_
    refine J13 H ?_
    refine Lp_s rfl (St_indexAddr rfl rfl (by omega) (by omega) rfl ?_)
    refine Lp_s rfl (St_load1 H rfl hp rfl ?_)
    refine J9 H ?_
    refine J88 H ?_
    refine Lp_s rfl (St_indexAddr rfl rfl (by omega) (by omega) rfl ?_)
    refine Lp_s rfl (St_store1 H rfl rfl inferInstance rfl (by simp only [List.length_append, ncells_length]; omega) rfl ?_)
    clear H; intro w H
    rw [Int.toNat_natCast, ncells_setI (v := ku) (x := ku) (by omega) rfl] at H
    refine Lp_nil ?_
    replace H := Js [1,0,0,0] 0 H
    replace H := hck _ _ (ncells (x.kind.set j 2)) (by simp [ncells]) H
    replace H := Js [1,0,0,0] 0 H
    replace H := hct _ _ (ncells (x.to.set j ku)) (by simp [ncells]) H
    replace H := Js [2,2,1,0] 0 H
    replace H := hclose _ _ { x with kind := x.kind.set j 2, to := x.to.set j ku } (MWF_set hm (MobOK_cut hob j 2 ku (fun _ => hkul))) H
    refine J14 H ?_
    exact C_ret (Jy H rfl fun w' H' => ⟨rfl, H'⟩)
  · have hc : tieM m o place u = (m, placeM m o place true) := by
      cases hv : valM m o with
      | none => unfold tieM; rw [hv, placeM_none hv]
      | some kx =>
        obtain ⟨k, x⟩ := kx
        rw [placeM_some hv] at h0 ⊢
        unfold tieM; rw [hv]; show (if placeE _ _ _ _ = 0 then _ else _) = _; rw [if_neg h0]
    rw [hc, show (((placeM m o place true : Nat) : Int) != 0) = true by simpa using h0]
    refine J26 H ?_
    exact C_ret (Jy H rfl fun w' H' => ⟨rfl, H'⟩)

def holdM (m : MS) (t : Nat) : MS := match m.objs[t]? with | some y => setM m t { y with held := true } | none => m
def refM (m : MS) (o place : Int) : MS × Nat × Nat × Nat :=
  match valM m o with
  | none => (m, 0, 0, 8)
  | some (_, x) => if placeE (layM m x) x.w.length place true = 0 then (if x.kind.getD place.toNat 0 = 2 then holdM m (x.to.getD place.toNat 0) else m, x.kind.getD place.toNat 0, x.to.getD place.toNat 0, 0) else (m, 0, 0, placeE (layM m x) x.w.length place true)
theorem Ref15_spec [Extra] (p : Nat) (m : MS) (o place : Int) {w : World} {fr : List HProp} (H : Holds w (MODEL p m :: fr)) :
    Calls Tryz.prog 49 #[pp p, .int .i64 o, .int .i64 place] w (ret fun v w' => v = .tuple #[.int .i64 ((refM m o place).2.1 : Nat), .int .i64 ((refM m o place).2.2.1 : Nat), .int .i64 ((refM m o place).2.2.2 : Nat)] ∧ Holds w' (MODEL p (refM m o place).1 :: fr)) := by
  refine calls_of Tryz.func49 rfl (by kernel_rfl) ?_
  refine J17 H ?_
  refine J10 H ?_
  refine Jc rfl rfl (Place_spec p m o place true H) ?_
  clear H; rintro v w ⟨rfl, H⟩
  refine J22 H ?_
  by_cases h0 : placeM m o place true = 0
  · obtain ⟨k, x, hv⟩ : ∃ k x, valM m o = some (k, x) := by
      cases hv : valM m o with
      | none => rw [placeM_none hv] at h0; cases h0
      | some kx => exact ⟨kx.1, kx.2, rfl⟩
    rw [placeM_some hv] at h0 ⊢
    have hrm : refM m o place = (if x.kind.getD place.toNat 0 = 2 then holdM m (x.to.getD place.toNat 0) else m, x.kind.getD place.toNat 0, x.to.getD place.toNat 0, 0) := by unfold refM; rw [hv]; show (if placeE _ _ _ _ = 0 then _ else _) = _; rw [if_pos h0]
    rw [hrm, h0]
    refine J8 H ?_
    obtain ⟨rfl, hx, hh, hg⟩ := valM_some hv
    have hkl := (List.getElem?_eq_some_iff.1 hx).1
    obtain ⟨j, rfl, hj, hr⟩ := placeE_ok h0
    rw [Int.toNat_natCast]
    obtain ⟨t, lc, aL, cL, bO, cO, s, ptrs, q, vw, vk, vt, rest, hm, h2, hp, H, hclose⟩ := MODEL_at H hx
    have hob := hm.objs x (List.mem_of_getElem? hx)
    have hkn := hob.kind
    have htn := hob.to
    have hsm := MODEL_sizes (w := hm) hx
    obtain ⟨ak, ck, rfl⟩ := sls_slice H.drop.drop (ncells_length _) (by decide)
    obtain ⟨at', ct, rfl⟩ := sls_slice H.drop.drop.drop (ncells_length _) (by decide)
    replace H := Js [2,0,0,0] 0 H
    obtain ⟨bk, sk, rfl, H, _, _, hck⟩ := sls_open2 H (by omega)
    replace H := Js [3,0,0,0] 0 H
    obtain ⟨bt, st, rfl, H, _, _, hct⟩ := sls_open2 H (by omega)
    have hkj := List.getElem?_eq_getElem (l := x.kind) (i := j) (by omega)
    have htj := List.getElem?_eq_getElem (l := x.to) (i := j) (by omega)
    have hkd : x.kind.getD j 0 = x.kind[j] := by rw [List.getD_eq_getElem?_getD, hkj]; rfl
    have htd : x.to.getD j 0 = x.to[j] := by rw [List.getD_eq_getElem?_getD, htj]; rfl
    have hgo := hob.goes j
    rw [htd] at hgo
    rw [hkd, htd]
    generalize x.kind[j] = kd at *
    generalize x.to[j] = td at *
    refine J13 H ?_
    refine Lp_s rfl (St_indexAddr rfl rfl (by omega) (by omega) rfl ?_)
    refine Lp_s rfl (St_load1 H rfl hp rfl ?_)
    refine J80 H ?_
    refine Lp_s rfl (St_indexAddr rfl rfl (by omega) (by omega) rfl ?_)
    refine Lp_s rfl (St_load1 H rfl (ncells_get hkj) rfl ?_)
    refine J0 H ?_
    refine J13 H ?_
    refine Lp_s rfl (St_indexAddr rfl rfl (by omega) (by omega) rfl ?_)
    refine Lp_s rfl (St_load1 H rfl hp rfl ?_)
    refine J80 H ?_
    refine Lp_s rfl (St_indexAddr rfl rfl (by omega) (by omega) rfl ?_)
    refine Lp_s rfl (St_load1 H rfl (ncells_get htj) rfl ?_)
    refine J0 H ?_
    replace H := Js [1,0,0,0] 0 H
    replace H := hck _ _ (ncells x.kind) rfl H
    replace H := Js [1,0,0,0] 0 H
    replace H := hct _ _ (ncells x.to) rfl H
    replace H := Js [2,2,1,0] 0 H
    replace H := MODEL_same hx (hclose _ _ x (set_same hx hm) H)
    clear hck hct hclose
    refine J3 H ?_
    by_cases h2' : kd = 2
    · subst h2'
      rw [if_pos rfl]
      have htl := hgo hkj
      have hy := List.getElem?_eq_getElem htl
      generalize m.objs[td] = y at hy
      have hh' : holdM m td = setM m td { y with held := true } := by unfold holdM; rw [hy]
      rw [hh']
      refine J11 H ?_
      obtain ⟨t', lc', aL', cL', bO', cO', s', ptrs', q', vw', vk', vt', rest', hm', h2', hp', H, hclose⟩ := MODEL_at H hy
      refine J13 H ?_
      refine Lp_s rfl (St_indexAddr rfl rfl (by omega) (by omega) rfl ?_)
      refine Lp_s rfl (St_load1 H rfl hp' rfl ?_)
      refine J79 H ?_
      clear H; intro w H
      refine Lp_nil ?_
      refine J74 H ?_
      refine C_ret (Jy (hclose _ _ { y with held := true } (MWF_set hm (by obtain ⟨a, b, c, d, e⟩ := hm.objs y (List.mem_of_getElem? hy); exact ⟨a, b, c, d, e⟩)) H) rfl fun w' H' => ⟨rfl, H'⟩)
    · rw [if_neg h2', show ((kd : Int) == 2) = false by simp; omega]
      refine J8 H ?_
      refine J74 H ?_
      exact C_ret (Jy H rfl fun w' H' => ⟨rfl, H'⟩)
  · have hc : refM m o place = (m, 0, 0, placeM m o place true) := by
      cases hv : valM m o with
      | none => unfold refM; rw [hv, placeM_none hv]
      | some kx =>
        obtain ⟨k, x⟩ := kx
        rw [placeM_some hv] at h0 ⊢
        unfold refM; rw [hv]; show (if placeE _ _ _ _ = 0 then _ else _) = _; rw [if_neg h0]
    rw [hc, show (((placeM m o place true : Nat) : Int) != 0) = true by simpa using h0]
    refine J11 H ?_
    refine J176 H ?_
    exact C_ret (Jy H rfl fun w' H' => ⟨rfl, H'⟩)
end Go.Proofs.YtcaaojbnjfdglaaGreatDoor
