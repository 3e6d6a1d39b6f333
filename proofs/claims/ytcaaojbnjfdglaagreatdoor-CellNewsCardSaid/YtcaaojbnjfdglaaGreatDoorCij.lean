/- Cells: what is proved on the way: every input of the statement; no condition. Texts joined: ImgC ImgD SrtI BagA RmC RmD RmE KidA TabA TabB TabC TabD CelA. -/
import Derived.Test.YtcaaojbnjfdglaaGreatDoorCif
import Derived.Test.YtcaaojbnjfdglaaGreatDoorCii
import Derived.Test.YtcaaojbnjfdglaaGreatDoorCie
set_option linter.unusedVariables false
set_option linter.unusedSimpArgs false
set_option linter.unusedSectionVars false
namespace Go.Proofs.YtcaaojbnjfdglaaGreatDoor
open Go.SL

theorem Load_spec [Extra] (ip sp bp size : Nat) (ls : List Lay) (mem own : List Nat) (addr i c s n : Nat) (l : Lay) (h : ImgAt ls size mem own addr i c s n l) (place : Int) {w : World} {fr : List HProp} (H : Holds w (IMG ip sp bp :: BOOK bp ls :: ST sp size mem own :: fr)) :
    Calls Tryz.prog 62 #[pp ip, .int .i64 addr, .int .i64 place] w (ret fun v w' => v = .tuple #[.int .u64 ((if placeE l n place false = 0 then mem.getD (addr + 1 + place.toNat) 0 else 0 : Nat) : Int), .int .i64 (placeE l n place false)] ∧ Holds w' (IMG ip sp bp :: BOOK bp ls :: ST sp size mem own :: fr)) := by
  have hrd : Calls Tryz.prog 119 #[pp ip, .int .i64 addr, .int .i64 place, .bool false, .func (.func 120) #[] #[]] w (ret fun v w' => v = .tuple #[.int .u64 ((if placeE l n place false = 0 then mem.getD (addr + 1 + place.toNat) 0 else 0 : Nat) : Int), .int .i64 (placeE l n place false)] ∧ Holds w' (IMG ip sp bp :: BOOK bp ls :: ST sp size mem own :: fr)) := by
    refine calls_of Tryz.func119 rfl (by kernel_rfl) ?_
    refine J8 H ?_
    refine J14 H ?_
    refine J78 H ?_
    refine Jc rfl rfl (word_spec ip sp bp size ls mem own addr i c s n l h place false H) ?_
    clear H; rintro v w ⟨rfl, H⟩
    refine J45 H ?_
    by_cases he : placeE l n place false = 0
    · obtain ⟨p, rfl, hp, hr⟩ := placeE_ok he
      rw [he]
      refine J9 H ?_
      refine J79 H ?_
      refine J10 H ?_
      replace H := Js [2,0,0] 0 H
      refine Jc rfl rfl (Read_spec sp size mem own (addr + 1 + p) (by have := h.fit; omega) (h.owned.sub (by omega) (by omega) (by omega)) H) ?_
      clear H; rintro v w ⟨rfl, H⟩
      refine J39 H ?_
      refine J17 H ?_
      replace H := Js [1,1,0] 0 H
      exact C_ret (Jy H rfl fun w' H' => ⟨rfl, H'⟩)
    · rw [if_neg he, if_neg he]
      rw [show (((placeE l n place false : Nat) : Int) != 0) = true by simpa using he]
      refine J35 H ?_
      refine J2 H ?_
      refine J3 H ?_
      exact C_ret (Jy H rfl fun w' H' => ⟨rfl, H'⟩)
  refine calls_of Tryz.func62 rfl (by kernel_rfl) ?_
  refine J137 H ?_
  refine Jc rfl rfl (hrd) ?_
  clear H; rintro v w ⟨rfl, H⟩
  refine J7 H ?_
  refine J3 H ?_
  exact C_ret (Jy H rfl fun w' H' => ⟨rfl, H'⟩)

theorem lkv_agg (k : Lnk) : ∃ a b d : Int, lkv k = .agg #[.int .i64 a, .int .i64 b, .int .i64 d] := by cases k <;> exact ⟨_, _, _, rfl⟩

theorem Follow_spec [Extra] (ip sp bp size : Nat) (ls : List Lay) (mem own : List Nat) (addr i c s n : Nat) (l : Lay) (h : ImgAt ls size mem own addr i c s n l) (place : Int) (k : Lnk) (hk : placeE l n place true = 0 → okL k ∧ mem.getD (addr + 1 + place.toNat) 0 = wordL k) (hk2 : placeE l n place true ≠ 0 → k = .none) {w : World} {fr : List HProp} (H : Holds w (IMG ip sp bp :: BOOK bp ls :: ST sp size mem own :: fr)) :
    Calls Tryz.prog 64 #[pp ip, .int .i64 addr, .int .i64 place] w (ret fun v w' => v = .tuple #[lkv k, .int .i64 (placeE l n place true)] ∧ Holds w' (IMG ip sp bp :: BOOK bp ls :: ST sp size mem own :: fr)) := by
  have hlk : ∀ (q : Nat) (k : Lnk) (w : World) (fr : List HProp), q < mem.length → Owned size own q 1 → okL k → mem.getD q 0 = wordL k → Holds w (ST sp size mem own :: fr) →
      Calls Tryz.prog 122 #[pp sp, .int .i64 q] w (ret fun v w' => v = .tuple #[lkv k, .int .i64 0] ∧ Holds w' (ST sp size mem own :: fr)) := by
    intro q k w fr h1 h2 h3 h4 H
    refine calls_of Tryz.func122 rfl (by kernel_rfl) ?_
    refine J18 H ?_
    clear H; intro b4 w H
    refine J0 H ?_
    refine J2 H ?_
    refine Jc rfl rfl (Read_spec sp size mem own q h1 h2 H.swap) ?_
    clear H; rintro v w ⟨rfl, H⟩
    rw [h4]
    refine J121 H ?_
    refine Jc rfl rfl (Link_spec k h3 H) ?_
    clear H; rintro v w ⟨rfl, H⟩
    obtain ⟨a, b, d, hkv⟩ := lkv_agg k
    rw [hkv]
    refine J7 H ?_
    refine J4 H ?_
    clear H; intro w H
    refine J0 H ?_
    exact C_ret (Jz H.swap (fun w' H' => .cellN H' rfl (by repeat (first | exact Reads.nil _ | apply Reads.cons rfl)) (.tmp .nil)) fun w' H' => ⟨rfl, H'.drop⟩)
  have hrd : ∀ (w : World) (fr : List HProp), Holds w (IMG ip sp bp :: BOOK bp ls :: ST sp size mem own :: fr) → Calls Tryz.prog 121 #[pp ip, .int .i64 addr, .int .i64 place, .bool true, .func (.func 122) #[] #[]] w (ret fun v w' => v = .tuple #[lkv k, .int .i64 (placeE l n place true)] ∧ Holds w' (IMG ip sp bp :: BOOK bp ls :: ST sp size mem own :: fr)) := by
    intro w fr H
    refine calls_of Tryz.func121 rfl (by kernel_rfl) ?_
    refine J18 H ?_
    clear H; intro b10 w H
    refine J154 H ?_
    clear H; intro b12 w H
    refine J47 H ?_
    refine J7 H ?_
    replace H := Js [2,2,2,0,0] 0 H
    refine Jc rfl rfl (word_spec ip sp bp size ls mem own addr i c s n l h place true H) ?_
    clear H; rintro v w ⟨rfl, H⟩
    refine J45 H ?_
    by_cases he : placeE l n place true = 0
    · obtain ⟨hk3, hk4⟩ := hk he
      obtain ⟨p, rfl, hp, hr⟩ := placeE_ok he
      rw [he]
      refine J9 H ?_
      refine J79 H ?_
      refine J10 H ?_
      replace H := Js [2,0,0,0,0] 0 H
      refine Jc rfl rfl (hlk (addr + 1 + p) k _ _ (by have := h.fit; omega) (h.owned.sub (by omega) (by omega) (by omega)) hk3 hk4 H) ?_
      clear H; rintro v w ⟨rfl, H⟩
      obtain ⟨a, b, d, hkv⟩ := lkv_agg k
      rw [hkv]
      refine J11 H ?_
      clear H; intro b15 w H
      refine J4 H ?_
      clear H; intro w H
      refine J36 H ?_
      refine J72 H ?_
      clear H; intro w H
      refine J0 H ?_
      replace H := Js [5,2,2,1] 2 H
      exact C_ret (Jz H (fun w' H' => .cellN H' rfl (by repeat (first | exact Reads.nil _ | apply Reads.cons rfl)) (.tmp .nil)) fun w' H' => ⟨rfl, H'.drop⟩)
    · obtain rfl := hk2 he
      rw [if_neg he]
      rw [show (((placeE l n place true : Nat) : Int) != 0) = true by simpa using he]
      refine J35 H ?_
      refine J55 H ?_
      clear H; intro w H
      refine J0 H ?_
      replace H := Js [4,0,0,0] 1 H
      exact C_ret (Jz H (fun w' H' => .cellN H' rfl (by repeat (first | exact Reads.nil _ | apply Reads.cons rfl)) (.tmp .nil)) fun w' H' => ⟨rfl, H'.drop⟩)
  refine calls_of Tryz.func64 rfl (by kernel_rfl) ?_
  refine J18 H ?_
  clear H; intro b6 w H
  refine J0 H ?_
  refine J12 H ?_
  replace H := Js [1,1,1,0] 0 H
  refine Jc rfl rfl (hrd _ _ H) ?_
  clear H; rintro v w ⟨rfl, H⟩
  obtain ⟨a, b, d, hkv⟩ := lkv_agg k
  rw [hkv]
  refine J7 H ?_
  refine J4 H ?_
  clear H; intro w H
  refine J0 H ?_
  replace H := Js [3,0,0,0] 0 H
  exact C_ret (Jz H (fun w' H' => .cellN H' rfl (by repeat (first | exact Reads.nil _ | apply Reads.cons rfl)) (.tmp .nil)) fun w' H' => ⟨rfl, H'.drop⟩)

theorem iTie_spec [Extra] (ip sp bp size : Nat) (ls : List Lay) (mem own : List Nat) (addr i c s n : Nat) (l : Lay) (h : ImgAt ls size mem own addr i c s n l) (place : Int) (k : Lnk) (hk : okL k) {w : World} {fr : List HProp} (H : Holds w (IMG ip sp bp :: BOOK bp ls :: ST sp size mem own :: fr)) :
    Calls Tryz.prog 126 #[pp ip, .int .i64 addr, .int .i64 place, lkv k] w (ret fun v w' => v = .int .i64 (placeE l n place true) ∧ Holds w' (IMG ip sp bp :: BOOK bp ls :: ST sp size (if placeE l n place true = 0 then mem.set (addr + 1 + place.toNat) (wordL k) else mem) own :: fr)) := by
  obtain ⟨a, b, d, hkv⟩ := lkv_agg k
  have hW := fun (w : World) (fr : List HProp) (H : Holds w fr) => Word_spec k hk H
  rw [hkv] at hW ⊢
  refine calls_of Tryz.func126 rfl (by kernel_rfl) ?_
  refine J6 H ?_
  clear H; intro b7 w H
  refine J0 H ?_
  replace H := Js [1,1,1,0] 0 H
  refine J12 H ?_
  refine Jc rfl rfl (word_spec ip sp bp size ls mem own addr i c s n l h place true H) ?_
  clear H; rintro v w ⟨rfl, H⟩
  refine J45 H ?_
  by_cases he : placeE l n place true = 0
  · obtain ⟨p, rfl, hp, hr⟩ := placeE_ok he
    rw [he]
    refine J9 H ?_
    refine J26 H ?_
    refine Jc rfl rfl (hW _ _ H) ?_
    clear H; rintro v w ⟨rfl, H⟩
    refine J39 H ?_
    refine J65 H ?_
    refine J3 H ?_
    replace H := Js [2,0,0] 1 H
    refine J12 H ?_
    refine Lp_s rfl (St_call (a := [pp sp]) (b := []) rfl rfl (call (Write_spec sp size mem own (addr + 1 + p) (wordL k) (by have := h.fit; omega) (h.owned.sub (by omega) (by omega) (by omega)) H) ?_))
    clear H; rintro v w ⟨rfl, H⟩
    refine J0 H ?_
    replace H := Js [1,1,0] 0 H
    exact C_ret (Jy H rfl fun w' H' => ⟨rfl, H'⟩)
  · rw [if_neg he, if_neg he]
    rw [show (((placeE l n place true : Nat) : Int) != 0) = true by simpa using he]
    refine J24 H ?_
    replace H := Js [0,0,0] 1 H
    exact C_ret (Jy H rfl fun w' H' => ⟨rfl, H'⟩)

end Go.Proofs.YtcaaojbnjfdglaaGreatDoor
namespace Go.Proofs.YtcaaojbnjfdglaaGreatDoor
open Go.SL

theorem iMake_spec [Extra] (ip sp bp size : Nat) (ls : List Lay) (mem own : List Nat) (addr i c s n : Nat) (l : Lay) (hm : MayH i c s) (hl : ls[i - 1]? = some l) (hR : RightL l) (hz : sizeL l c = (n, 0)) (hf : addr + 1 + n ≤ mem.length) (ho : Owned size own addr (n + 1)) {w : World} {fr : List HProp} (H : Holds w (IMG ip sp bp :: BOOK bp ls :: ST sp size mem own :: fr)) :
    Calls Tryz.prog 80 #[pp ip, .int .i64 addr, hdv i c s] w (ret fun v w' => v = .tuple #[.int .i64 ((n + 1 : Nat) : Int), .int .i64 0] ∧ Holds w' (IMG ip sp bp :: BOOK bp ls :: ST sp size (setR (mem.set addr (encH i c s)) (addr + 1) n 0) own :: fr)) := by
  have hml := ST_len (H.pull 2)
  refine calls_of Tryz.func80 rfl (by kernel_rfl) ?_
  refine J6 H ?_
  clear H; intro b5 w H
  refine J3 H ?_
  refine J172 H ?_
  refine J26 H ?_
  refine Jc rfl rfl (Encode_spec i c s hm H) ?_
  clear H; rintro v w ⟨rfl, H⟩
  refine J39 H ?_
  refine J34 H ?_
  replace H := Js [1,1,1,0] 0 H
  refine Jc rfl rfl (isize_spec ip sp bp ls i c s n l hm hl hR hz H) ?_
  clear H; rintro v w ⟨vr, vq, rfl, H⟩
  obtain ⟨aa, ma, ca, rfl⟩ := sls_any H
  obtain ⟨ab, mb, cb, rfl⟩ := sls_any H.drop
  refine J7 H ?_
  refine J7 H ?_
  refine J16 H ?_
  clear H; intro b10 w H
  refine J4 H ?_
  clear H; intro w H
  refine J3 H ?_
  refine J92 H ?_
  refine J30 H ?_
  refine J7 H ?_
  replace H := Js [5,3,3] 4 H
  rw [wrap64 (x := ((n : Nat) : Int) + 1) (by omega) (by omega), show ((n : Nat) : Int) + 1 = ((n + 1 : Nat) : Int) by omega]
  refine Jc rfl rfl (CopySame_spec sp size mem own addr (n + 1) (by omega) (by omega) ho H) ?_
  clear H; rintro v w ⟨rfl, H⟩
  refine J36 H ?_
  refine J30 H ?_
  refine Jc rfl rfl (Write_spec sp size mem own addr (encH i c s) (by omega) (ho.sub (Nat.le_refl _) (by omega) (by omega)) H) ?_
  clear H; rintro v w ⟨rfl, H⟩
  refine J141 H ?_
  generalize hmm : mem.set addr (encH i c s) = m2 at H
  have hm2 : m2.length = mem.length := by rw [← hmm, List.length_set]
  refine J23 H ?_
  refine C_loop (fun ms σ w q => ms = [] ∧ ∃ j : Nat, j ≤ n ∧ q = n - j ∧ σ 0 = pp ip ∧ σ 1 = .int .i64 addr ∧ σ 11 = .int .i64 n ∧ σ 53 = .int .i64 n ∧ σ 54 = .int .i64 j ∧ Holds w (ST sp size (setR m2 (addr + 1) j 0) own :: IMG ip sp bp :: BOOK bp ls :: fr)) (m := n) ⟨rfl, 0, by omega, rfl, rfl, rfl, rfl, rfl, rfl, by rw [setR_zero]; exact H⟩ ?_
  clear H
  rintro ms σ w q ⟨rfl, j, hj, rfl, g0, g1, g11, g53, g54, H⟩
  rw [upd_self g0, upd_self g1, upd_self g11, upd_self g53, upd_self g54]
  refine J48 H ?_
  refine C_dec rfl (fun h => C_skip ?_) (fun h => C_exit ?_)
  · have hlt : j < n := by omega
    refine J23 H ?_
    refine J8 H ?_
    refine J30 H ?_
    refine J7 H ?_
    rw [wrap64 (x := (addr : Int) + 1) (by omega) (by omega), wrap64 (x := (addr : Int) + 1 + (j : Int)) (by omega) (by omega), show (addr : Int) + 1 + (j : Int) = ((addr + 1 + j : Nat) : Int) by omega]
    refine Jc rfl rfl (Write_spec sp size _ own (addr + 1 + j) 0 (by rw [setR_length (by omega)]; omega) (ho.sub (by omega) (by omega) (by omega)) H) ?_
    clear H; rintro v w ⟨rfl, H⟩
    rw [setR_succ (by omega)] at H
    refine J141 H ?_
    exact ⟨_, ⟨rfl, j + 1, hlt, rfl, rfl, rfl, rfl, rfl, inc64 (by omega), H⟩, by omega⟩
  · have hge : j = n := by omega
    subst hge
    refine J2 H ?_
    refine J3 H ?_
    rw [wrap64 (x := ((j : Nat) : Int) + 1) (by omega) (by omega), show ((j : Nat) : Int) + 1 = ((j + 1 : Nat) : Int) by omega]
    replace H := Js [1,1,0] 0 H
    exact C_ret (Jy H rfl fun w' H' => ⟨rfl, H'⟩)
end Go.Proofs.YtcaaojbnjfdglaaGreatDoor
namespace Go.Proofs.YtcaaojbnjfdglaaGreatDoor
open Go.SL

def icells (l : List Int) : List Value := l.map fun x => Value.int .i64 x
theorem icells_length (l : List Int) : (icells l).length = l.length * 1 := by simp [icells]
@[reducible] def IL (v : Value) (l : List Int) : HProp := sls 3 1 v (icells l)

theorem Sort_spec [Extra] (v : Value) (l : List Int) (hl : l.length ≤ 1000000) {w : World} {fr : List HProp} (H : Holds w (IL v l :: fr)) :
    Calls Tryz.prog 129 #[v] w (ret fun x w' => x = .tuple #[] ∧ Holds w' (IL v (l.mergeSort fun x y => decide (x ≤ y)) :: fr)) := by
  obtain ⟨a, c, rfl⟩ := sls_slice H (icells_length l) (by decide)
  have hlen : (l.mergeSort fun x y => decide (x ≤ y)).length = l.length := List.length_mergeSort l
  by_cases h0 : l = []
  · subst h0
    refine (Any.slices_Sort_int_none Tryz.laysSort a c w).mono ?_
    rintro e w' ⟨rfl, rfl⟩
    rw [List.mergeSort_nil]
    exact ⟨rfl, H⟩
  · have hpos : 0 < l.length := List.length_pos_iff.2 h0
    obtain ⟨b, s, rfl, H, h1, h2, hclose⟩ := sls_open2 H hpos
    have hb := H.pts
    refine (Any.slices_Sort_int Tryz.laysSort b 0 c l w (fun j hj => ⟨?_, frozen_row hb⟩) H.fresh (by omega)).mono ?_
    · refine cell_row hb ?_
      have hj' : j < l.length := by simpa using hj
      rw [Nat.zero_add, List.getElem?_append_left (by simpa [icells] using hj')]
      simp [icells, hj']
    · rintro e w' ⟨rfl, m, os, rfl⟩
      refine ⟨rfl, hclose _ _ (icells (l.mergeSort fun x y => decide (x ≤ y))) (by rw [icells_length, icells_length, hlen]) ?_⟩
      have e1 : (Go.Sort.putRow (Value.int .i64) (Go.Sort.ahead w m) b 0 (l.mergeSort fun x y => decide (x ≤ y)).toArray).heap = w.heap.modify b (Go.Sort.onCells (Go.Sort.putCells (Value.int .i64) 0 (l.mergeSort fun x y => decide (x ≤ y)).toArray)) := rfl
      have H1 : Holds (Go.Sort.putRow (Value.int .i64) (Go.Sort.ahead w m) b 0 (l.mergeSort fun x y => decide (x ≤ y)).toArray) (pts b (row 3 (icells (l.mergeSort fun x y => decide (x ≤ y)) ++ s)) :: fr) := by
        refine H.set ?_ ?_
        · rw [e1, Array.getElem?_modify, if_pos rfl, hb]
          simp only [Option.map_some, row, Go.Sort.onCells]
          congr 2
          apply Array.ext'
          apply List.ext_getElem?
          intro t
          simp only [Go.Sort.putCells, Array.getElem?_toList, Array.getElem?_mapIdx, List.getElem?_toArray, Nat.zero_le, true_and, Nat.zero_add, Nat.sub_zero, List.size_toArray]
          have l1 : (icells l).length = l.length := by simp [icells]
          have l2 : (icells (l.mergeSort fun x y => decide (x ≤ y))).length = l.length := by simp [icells]
          by_cases ht : t < l.length
          · rw [List.getElem?_append_left (by omega), List.getElem?_append_left (by omega)]
            have ht' : t < (l.mergeSort fun x y => decide (x ≤ y)).length := by omega
            simp only [icells, List.getElem?_map, List.getElem?_eq_getElem ht, List.getElem?_eq_getElem ht', Option.map_some, if_pos ht']
            rw [getElem!_pos _ t (by simpa using ht')]
            simp
          · rw [List.getElem?_append_right (by omega), List.getElem?_append_right (by omega), l1, l2]
            have ht' : ¬ t < (l.mergeSort fun x y => decide (x ≤ y)).length := by omega
            cases s[t - l.length]? with
            | none => rfl
            | some y => simp; intro h; omega
        · intro c hc
          rw [e1, Array.getElem?_modify, if_neg (Ne.symm hc)]
      refine H1.up (fun c o hc => ?_) ⟨rfl, rfl⟩
      show ((Go.Sort.putRow (Value.int .i64) (Go.Sort.ahead w m) b 0 (l.mergeSort fun x y => decide (x ≤ y)).toArray).heap ++ os)[c]? = some o
      have := (Array.getElem?_eq_some_iff.1 hc).1
      rw [Array.getElem?_append_left this]
      exact hc

theorem Compact_few [Extra] (a : Option Addr) (n c : Nat) (hn : n < 2) {w : World} {fr : List HProp} (H : Holds w fr) :
    Calls Tryz.prog 152 #[.slice a n c] w (ret fun x w' => x = .slice a n c ∧ Holds w' fr) := by
  refine calls_of Tryz.func152 rfl (by kernel_rfl) ?_
  refine J14 H ?_
  refine J145 H ?_
  rw [show decide ((n : Int) < 2) = true from decide_eq_true (by omega)]
  refine J24 H ?_
  exact C_ret (Jy H rfl fun w' H' => ⟨rfl, H'⟩)

theorem Insert_end [Extra] (v : Value) (l : List Nat) (x : Nat) (hl : l.length ≤ 1000000) (b : Nat) {w : World} {fr : List HProp} (H : Holds w (NL v l :: pts b (row 3 [.int .i64 x]) :: fr)) :
    Calls Tryz.prog 139 #[v, .int .i64 l.length, .slice (some ⟨b, 0, none⟩) 1 1] w (ret fun v w' => Holds w' (NL v (l ++ [x]) :: fr)) := by
  obtain ⟨a, c, rfl⟩ := sls_slice H (ncells_length l) (by decide)
  refine calls_of Tryz.func139 rfl (by kernel_rfl) ?_
  refine J14 H ?_
  refine J2 H ?_
  refine Lp_s rfl (St_sliceFromE rfl rfl (Nat.le_refl _) rfl fun v12 => ?_)
  refine Lp_nil ?_
  refine J129 H ?_
  refine J36 H ?_
  refine J145 H ?_
  refine J17 H ?_
  rw [show (((l.length : Nat) : Int) == (l.length : Int)) = true by simp]
  refine J35 H ?_
  refine J2 H ?_
  refine Lp_s rfl (St_append H rfl rfl (by repeat (first | exact Reads.nil _ | apply Reads.cons rfl)) rfl (by decide) (by rw [ncells_length]; simp only [List.length_cons, List.length_nil]; omega) rfl rfl ?_)
  clear H; intro v25 w H
  obtain ⟨a25, m25, c25, rfl⟩ := sls_any H
  refine J0 H ?_
  have e1 : ncells l ++ [.int .i64 x] = ncells (l ++ [x]) := by rw [ncells_append]; rfl
  rw [e1] at H
  exact C_ret (Jy (Holds.drop H.swap) rfl fun w' H' => H')
end Go.Proofs.YtcaaojbnjfdglaaGreatDoor
namespace Go.Proofs.YtcaaojbnjfdglaaGreatDoor
open Go.SL

def BAG (p : Nat) (l : List Nat) : HProp := ex fun v : Value => star [pts p (row 149 [v]), NL v l]
theorem BAG_out [Extra] {w : World} {p : Nat} {l : List Nat} {fr : List HProp} (H : Holds w (BAG p l :: fr)) : ∃ a c, Holds w (pts p (row 149 [.slice a l.length c]) :: NL (.slice a l.length c) l :: fr) := by
  obtain ⟨v, H⟩ := Holds.ex.1 H
  have H := Holds.star.1 H
  obtain ⟨a, c, rfl⟩ := sls_slice H.drop (ncells_length l) (by decide)
  exact ⟨a, c, H⟩
theorem BAG_in [Extra] {w : World} {p : Nat} {l : List Nat} {v : Value} {fr : List HProp} (H : Holds w (pts p (row 149 [v]) :: NL v l :: fr)) : Holds w (BAG p l :: fr) :=
  Holds.ex.2 ⟨v, Holds.star.2 H⟩

theorem gNew_spec [Extra] {w : World} {fr : List HProp} (H : Holds w fr) : Calls Tryz.prog 96 #[.slice none 0 0] w (ret fun v w' => ∃ p, v = pp p ∧ Holds w' (BAG p [] :: fr)) := by
  refine calls_of Tryz.func96 rfl (by kernel_rfl) ?_
  refine J14 H ?_
  refine J15 H ?_
  refine Jc rfl rfl (Clone_spec (.slice none 0 0) [] (by simp) ⟨rfl, none, 0, rfl, .inl rfl⟩ H) ?_
  clear H; rintro v w H
  obtain ⟨a, c, rfl⟩ := sls_slice H (ncells_length []) (by decide)
  refine J0 H ?_
  refine J15 H ?_
  refine Jc rfl rfl (Sort_spec _ [] (by simp) H) ?_
  clear H; rintro v w ⟨rfl, H⟩
  rw [List.mergeSort_nil] at H
  refine Lp_nil ?_
  refine J15 H ?_
  refine Jc rfl rfl (Compact_few a 0 c (by omega) H) ?_
  clear H; rintro v w ⟨rfl, H⟩
  refine J44 H ?_
  clear H; intro b10 w H
  refine J0 H ?_
  exact C_ret (Jy H rfl fun w' H' => ⟨_, rfl, BAG_in (l := []) H'⟩)

theorem posL_end {l : List Nat} {x : Nat} (h : ∀ a ∈ l, a < x) : posL l x = l.length := by
  unfold posL
  rw [List.countP_eq_length]
  intro a ha
  simpa using h a ha

theorem gPut_spec [Extra] (p : Nat) (l : List Nat) (x : Nat) (hs : l.Pairwise (· < ·)) (hl : l.length ≤ 100000) (hx : ∀ a ∈ l, a < x) {w : World} {fr : List HProp} (H : Holds w (BAG p l :: fr)) :
    Calls Tryz.prog 81 #[pp p, .int .i64 x] w (ret fun v w' => v = .bool true ∧ Holds w' (BAG p (l ++ [x]) :: fr)) := by
  obtain ⟨a, c, H⟩ := BAG_out H
  have hn : x ∉ l := fun h => by have := hx x h; omega
  refine calls_of Tryz.func81 rfl (by kernel_rfl) ?_
  refine J73 H ?_
  refine J32 H ?_
  obtain ⟨D1, H, hD1, hC1⟩ := sls_rd H.swap (ncells_length _) (by decide)
  refine Jc rfl rfl (Search_spec _ l (by omega) hs x (hD1 _) H) ?_
  clear H; rintro v w ⟨rfl, H⟩
  replace H := hC1 _ _ H
  rw [posL_end hx, decide_eq_false hn]
  refine J45 H ?_
  refine J13 H ?_
  refine C_join (fun ms σ w => ms = [] ∧ σ 6 = .bool false ∧ Holds w (BAG p (l ++ [x]) :: fr)) ?_ ?_
  · refine C_true rfl ?_
    refine J79 H ?_
    refine J7 H ?_
    refine J59 H ?_
    clear H; intro b27 w H
    replace H := Js [1,0,0] 0 H
    refine Jc rfl rfl (Insert_end _ l x (by omega) _ H) ?_
    clear H; intro v w H
    obtain ⟨a28, m28, c28, rfl⟩ := sls_any H
    refine J97 H ?_
    clear H; intro w H
    refine Lp_nil ?_
    exact ⟨rfl, rfl, rfl, BAG_in H.swap⟩
  · clear H
    rintro ms σ w ⟨rfl, g6, H⟩
    rw [upd_self g6]
    refine J17 H ?_
    exact C_ret (Jy H rfl fun w' H' => ⟨rfl, H'⟩)

end Go.Proofs.YtcaaojbnjfdglaaGreatDoor
namespace Go.Proofs.YtcaaojbnjfdglaaGreatDoor
open Go.SL

theorem sub_length {α : Type} : ∀ {l₁ l₂ : List α}, l₁.Nodup → (∀ z ∈ l₁, z ∈ l₂) → l₁.length ≤ l₂.length
  | [], _, _, _ => Nat.zero_le _
  | c :: l, l₂, hn, hs => by
    obtain ⟨s, t, rfl⟩ := List.append_of_mem (hs c (by simp))
    have h := List.nodup_cons.1 hn
    have := sub_length (l₂ := s ++ t) h.2 (fun z hz => by
      have h1 := hs z (by simp [hz])
      have h2 : z ≠ c := fun e => h.1 (e ▸ hz)
      simp [h2] at h1
      simpa using h1)
    simp at this ⊢
    omega

end Go.Proofs.YtcaaojbnjfdglaaGreatDoor
namespace Go.Proofs.YtcaaojbnjfdglaaGreatDoor
open Go.SL

def ltR (x y : Rf) : Prop := x.1 < y.1 ∨ x.1 = y.1 ∧ x.2 < y.2
instance (x y : Rf) : Decidable (ltR x y) := by unfold ltR; exact inferInstance

end Go.Proofs.YtcaaojbnjfdglaaGreatDoor
namespace Go.Proofs.YtcaaojbnjfdglaaGreatDoor
open Go.SL

theorem fnd_isSome_mem {K V : Type} [DecidableEq K] {m : List (K × V)} {x : K} (h : (fnd m x).isSome = true) : x ∈ m.map (·.1) := by
  cases hf : fnd m x with
  | none => rw [hf] at h; cases h
  | some v => exact List.mem_map_of_mem (f := (·.1)) (fnd_mem hf)

end Go.Proofs.YtcaaojbnjfdglaaGreatDoor
namespace Go.Proofs.YtcaaojbnjfdglaaGreatDoor
open Go.SL

end Go.Proofs.YtcaaojbnjfdglaaGreatDoor
namespace Go.Proofs.YtcaaojbnjfdglaaGreatDoor
open Go.SL

@[reducible] def evl (e : Ent) : List Value := [.int .i64 e.addr, .int .i64 e.region, .bool e.held, .bool e.pinned]
def tval (t : Slt) : List Value := match t.ent with
  | none => [.int .i64 t.gen, .bool false, .int .i64 0, .int .i64 0, .bool false, .bool false]
  | some e => [.int .i64 t.gen, .bool true, .int .i64 e.addr, .int .i64 e.region, .bool e.held, .bool e.pinned]
theorem tval_len (t : Slt) : (tval t).length = 6 := by unfold tval; split <;> rfl
theorem tval_gen (t : Slt) : (tval t)[0]? = some (.int .i64 t.gen) := by unfold tval; split <;> rfl
theorem tval_used (t : Slt) : (tval t)[1]? = some (.bool t.ent.isSome) := by
  unfold tval
  split
  · rename_i h; rw [h]; rfl
  · rename_i h; rw [h]; rfl
def busy (t : Slt) : Bool := t.ent.isSome || t.gen == 255
def goneT (ts : List Slt) : Nat := (ts.filter fun t => t.ent.isNone && t.gen == 255).length
def busyT (ts : List Slt) : Nat := (ts.filter busy).length

structure TabOk (ts : List Slt) (x : Nat) : Prop where
  bits : Bits ts.length x
  bit : ∀ (i : Nat) (t : Slt), ts[i]? = some t → x.testBit i = busy t
  gen : ∀ (i : Nat) (t : Slt), ts[i]? = some t → t.gen ≤ 255

theorem cnt_filter {α : Type} {ts : List α} {f : α → Bool} {x : Nat} (h : ∀ (i : Nat) (t : α), ts[i]? = some t → x.testBit i = f t) : cntB ts.length x = (ts.filter f).length := by
  unfold cntB
  have e2 : ∀ (l : List α) (k : Nat), (∀ (i : Nat) (t : α), l[i]? = some t → x.testBit (k + i) = f t) → ((List.range' k l.length).filter fun i => x.testBit i).length = (l.filter f).length := by
    intro l
    induction l with
    | nil => intro k _; rfl
    | cons a l ih =>
      intro k hk
      have h0 := hk 0 a rfl
      have hr := ih (k + 1) (fun i t ht => by rw [show k + 1 + i = k + (i + 1) by omega]; exact hk (i + 1) t (by simpa using ht))
      rw [List.length_cons, List.range'_succ, List.filter_cons, List.filter_cons]
      rw [Nat.add_zero] at h0
      rw [h0]
      split
      · simp [hr]
      · exact hr
  rw [List.range_eq_range']
  exact e2 ts 0 (fun i t ht => by rw [Nat.zero_add]; exact h i t ht)
theorem TabOk.cnt {ts : List Slt} {x : Nat} (h : TabOk ts x) : cntB ts.length x = busyT ts := cnt_filter h.bit

def TAB (p : Nat) (ts : List Slt) : HProp := ex fun q : Value × Nat × Nat => star [prop (TabOk ts q.2.2), pts p (row 183 [q.1, pp q.2.1, .int .i64 (goneT ts)]), sls 193 6 q.1 (ts.flatMap tval), BM1 q.2.1 ts.length q.2.2]
theorem TAB_out [Extra] {w : World} {p : Nat} {ts : List Slt} {l : List HProp} (H : Holds w (TAB p ts :: l)) : ∃ b c s u x, TabOk ts x ∧ ts.length ≤ c ∧
    Holds w (pts p (row 183 [.slice (some ⟨b, 0, none⟩) ts.length c, pp u, .int .i64 (goneT ts)]) :: pts b (row 193 (ts.flatMap tval ++ s)) :: BM1 u ts.length x :: l) ∧
    ∀ w' l' ts' x', ts'.length = ts.length → goneT ts' = goneT ts → TabOk ts' x' → Holds w' (pts p (row 183 [.slice (some ⟨b, 0, none⟩) ts.length c, pp u, .int .i64 (goneT ts)]) :: pts b (row 193 (ts'.flatMap tval ++ s)) :: BM1 u ts.length x' :: l') → Holds w' (TAB p ts' :: l') := by
  obtain ⟨⟨v, u, x⟩, H⟩ := Holds.ex.1 H
  have H := Holds.star.1 H
  obtain ⟨h, H⟩ := Holds.prop.1 H
  replace H : Holds w (pts p (row 183 [v, pp u, .int .i64 (goneT ts)]) :: sls 193 6 v (ts.flatMap tval) :: BM1 u ts.length x :: l) := H
  obtain ⟨a, c, rfl⟩ := sls_slice H.drop (flat_len tval_len ts) (by decide)
  obtain ⟨b, s, rfl, H, hcap, hsp, hclose⟩ := sls_open2 H.swap h.bits.pos
  refine ⟨b, c, s, u, x, h, hcap, H.swap, fun w' l' ts' x' e1 e2 h' H' => ?_⟩
  have H' := hclose w' _ (ts'.flatMap tval) (by rw [flat_len tval_len, flat_len tval_len, e1]) H'.swap
  refine Holds.ex.2 ⟨(.slice (some ⟨b, 0, none⟩) ts.length c, u, x'), Holds.star.2 (Holds.prop.2 ⟨h', ?_⟩)⟩
  show Holds w' (pts p (row 183 [_, pp u, .int .i64 (goneT ts')]) :: sls 193 6 _ _ :: BM1 u ts'.length x' :: l')
  rw [e1, e2]
  exact H'.swap
theorem tNew_spec [Extra] (n : Nat) (h1 : 1 ≤ n) (h2 : n ≤ 63) {w : World} {fr : List HProp} (H : Holds w fr) :
    Calls Tryz.prog 103 #[.int .i64 n] w (ret fun v w' => ∃ p, v = .tuple #[pp p, .int .i64 0] ∧ Holds w' (TAB p (List.replicate n ⟨0, none⟩) :: fr)) := by
  refine calls_of Tryz.func103 rfl (by kernel_rfl) ?_
  refine J86 H ?_
  rw [show decide ((n : Int) < 1) = false from decide_eq_false (by omega)]
  refine J74 H ?_
  rw [show decide ((n : Int) > 4096) = false from decide_eq_false (by omega)]
  refine J20 H ?_
  refine J15 H ?_
  refine Jc rfl rfl (bNew_spec n (by omega) (by omega) H) ?_
  clear H; rintro v w ⟨u, rfl, H⟩
  refine J98 H ?_
  refine Lp_s rfl (St_makeSlice H rfl rfl (by decide) (by omega) rfl ?_)
  clear H; intro b18 w H
  refine J10 H ?_
  refine J44 H ?_
  clear H; intro b21 w H
  refine J3 H ?_
  have hz : zeros (cellsL (.agg #[.int .i64 0, .bool false, .int .i64 0, .int .i64 0, .bool false, .bool false])) n = (List.replicate n (⟨0, none⟩ : Slt)).flatMap tval := by
    clear H
    clear h1 h2
    induction n with
    | zero => rfl
    | succ n ih => show _ ++ zeros _ n = _; rw [ih, List.replicate_succ, List.flatMap_cons]; rfl
  have hlen : (List.replicate n (⟨0, none⟩ : Slt)).length = n := by simp
  have hgone : goneT (List.replicate n (⟨0, none⟩ : Slt)) = 0 := by
    unfold goneT
    rw [List.filter_eq_nil_iff.2 (fun t ht => by rw [List.eq_of_mem_replicate ht]; simp)]
    rfl
  have hok : TabOk (List.replicate n (⟨0, none⟩ : Slt)) 0 := by
    refine ⟨by rw [hlen]; exact ⟨by omega, h2, Nat.two_pow_pos _⟩, fun i t ht => ?_, fun i t ht => ?_⟩
    · rw [List.eq_of_mem_replicate (List.mem_of_getElem? ht), Nat.zero_testBit]; rfl
    · rw [List.eq_of_mem_replicate (List.mem_of_getElem? ht)]; simp
  have hbm : BM u n (List.replicate ((n + 63) / 64) 0) 0 = BM1 u n 0 := by
    rw [show (n + 63) / 64 = 1 by omega]
    have : cntB n 0 = 0 := by
      unfold cntB
      rw [List.filter_eq_nil_iff.2 (fun i _ => by simp)]
      rfl
    show BM u n [0] 0 = BM u n [0] (cntB n 0)
    rw [this]
  rw [hz, hbm] at H
  refine C_ret (Jy H rfl fun w' H' => ⟨_, rfl, Holds.ex.2 ⟨(.slice (some ⟨b18, 0, none⟩) n n, u, 0), Holds.star.2 (Holds.prop.2 ⟨hok, ?_⟩)⟩⟩)
  show Holds w' (pts b21 (row 183 [_, pp u, .int .i64 (goneT (List.replicate n (⟨0, none⟩ : Slt)))]) :: sls 193 6 _ _ :: BM1 u (List.replicate n (⟨0, none⟩ : Slt)).length 0 :: fr)
  rw [hgone, hlen]
  exact H'

theorem Left_spec [Extra] (p : Nat) (ts : List Slt) {w : World} {fr : List HProp} (H : Holds w (TAB p ts :: fr)) :
    Calls Tryz.prog 41 #[pp p] w (ret fun v w' => v = .int .i64 ((ts.length - busyT ts : Nat) : Int) ∧ Holds w' (TAB p ts :: fr)) := by
  obtain ⟨b, c, s, u, x, hok, hc, H, hclose⟩ := TAB_out H
  have hb := hok.bits.le
  have hcnt := hok.cnt
  have hle := cntB_le ts.length x
  refine calls_of Tryz.func41 rfl (by kernel_rfl) ?_
  refine J139 H ?_
  clear H; intro w H
  refine J95 H ?_
  refine A_lenSlice 4 rfl (Wants.none rfl) rfl (by kernel_rfl) ?_
  refine J49 H ?_
  refine J81 H ?_
  refine A_load1 8 [9] H rfl (Wants.none rfl) rfl rfl (by kernel_rfl) ?_
  replace H := Js [2,0,0] 0 H
  refine Jo 9 H ?_
  refine Jk rfl rfl (Count_spec u _ _ _ H) ?_
  clear H; rintro v w ⟨rfl, H⟩
  refine J91 H ?_
  replace H := Js [1,1,0] 0 H
  refine C_ret (Jy (hclose _ _ ts x rfl rfl hok H) rfl fun w' H' => ⟨?_, H'⟩)
  show Value.int .i64 (IntKind.i64.wrap ((ts.length : Int) - (cntB ts.length x : Int))) = _
  rw [wrap64 (by omega) (by omega), ← hcnt]
  congr 1
  omega
end Go.Proofs.YtcaaojbnjfdglaaGreatDoor
namespace Go.Proofs.YtcaaojbnjfdglaaGreatDoor
open Go.SL

@[reducible] def tkI2 (i g : Int) : Value := .agg #[.int .i64 i, .int .i64 g]

theorem lookT_none {ts : List Slt} {i g : Int} (h : lookT ts i g = none) : i < 0 ∨ (ts.length : Int) ≤ i ∨ ∃ (k : Nat) (t : Slt), i = k ∧ ts[k]? = some t ∧ (t.ent = none ∨ (t.ent.isSome = true ∧ (t.gen : Int) ≠ g)) := by
  by_cases h0 : i < 0
  · exact .inl h0
  by_cases h1 : (ts.length : Int) ≤ i
  · exact .inr (.inl h1)
  refine .inr (.inr ?_)
  obtain ⟨k, rfl⟩ : ∃ k : Nat, i = k := ⟨i.toNat, by omega⟩
  have hk := List.getElem?_eq_getElem (l := ts) (i := k) (by omega)
  generalize ts[k]'(by omega) = t at hk
  refine ⟨k, t, rfl, hk, ?_⟩
  obtain ⟨n, e⟩ := t
  cases e with
  | none => exact .inl rfl
  | some e =>
    refine .inr ⟨rfl, fun hg => ?_⟩
    rw [(lookT_some (k := k) (e := e)).2 ⟨n, rfl, hg.symm, hk⟩] at h
    cases h

theorem find_open [Extra] (p b c u : Nat) (go : Value) (hgo : go.oneCell' = true) (ts : List Slt) (s : List Value) (hlen : ts.length ≤ 63) (i g : Int) {w : World} {fr : List HProp} (H : Holds w (pts p (row 183 [.slice (some ⟨b, 0, none⟩) ts.length c, pp u, go]) :: pts b (row 193 (ts.flatMap tval ++ s)) :: fr)) :
    Calls Tryz.prog 112 #[pp p, tkI2 i g] w (ret fun v w' => v = (match lookT ts i g with | some (k, _) => .tuple #[.pointer (some ⟨b, k * 6, none⟩), .int .i64 0] | none => .tuple #[.pointer none, .int .i64 8]) ∧
      Holds w' (pts p (row 183 [.slice (some ⟨b, 0, none⟩) ts.length c, pp u, go]) :: pts b (row 193 (ts.flatMap tval ++ s)) :: fr)) := by
  refine calls_of Tryz.func112 rfl (by kernel_rfl) ?_
  refine J6 H ?_
  clear H; intro b3 w H
  refine J3 H ?_
  refine J172 H ?_
  cases hL : lookT ts i g with
  | some q =>
    obtain ⟨k, e⟩ := q
    obtain ⟨n, rfl, rfl, hk⟩ := lookT_some.1 hL
    have hkl : k < ts.length := (List.getElem?_eq_some_iff.1 hk).1
    have c1 : (ts.flatMap tval ++ s)[k * 6 + 1]? = some (.bool true) := flat_get tval_len hk rfl
    have c0 : (ts.flatMap tval ++ s)[k * 6 + 0]? = some (.int .i64 n) := flat_get tval_len hk rfl
    have ei : 0 + ((k : Nat) : Int).toNat * 6 = k * 6 := by simp
    refine J1 H ?_
    clear H; intro w H
    refine J70 H ?_
    rw [show decide ((k : Int) < 0) = false from decide_eq_false (by omega)]
    refine J50 H ?_
    refine A_fieldAddr 4 rfl (Wants.of rfl rfl rfl) rfl (by kernel_rfl) ?_
    refine J175 H ?_
    refine J155 H ?_
    refine A_fieldAddr 8 rfl (Wants.of rfl rfl rfl) rfl (by kernel_rfl) ?_
    refine J176 H ?_
    refine A_lenSlice 10 rfl (Wants.of rfl rfl rfl) rfl (by kernel_rfl) ?_
    refine A_pv 11 rfl (Wants.of rfl rfl rfl) rfl (by kernel_rfl) ?_
    rw [show decide ((k : Int) ≥ (ts.length : Int)) = false from decide_eq_false (by omega)]
    refine J99 H ?_
    refine J156 H ?_
    refine A_pv 15 rfl (Wants.of rfl rfl rfl) rfl (by kernel_rfl) ?_
    refine A_fieldAddr 16 rfl (Wants.of rfl rfl rfl) rfl (by kernel_rfl) ?_
    refine A_load1 17 [] H rfl (Wants.of rfl rfl rfl) rfl rfl (by kernel_rfl) ?_
    refine A_fieldAddr 18 rfl (Wants.of rfl rfl rfl) rfl (by kernel_rfl) ?_
    refine A_load1 19 [] H rfl (Wants.of rfl rfl rfl) rfl rfl (by kernel_rfl) ?_
    refine A_indexAddr 20 rfl (Wants.of rfl rfl rfl) rfl rfl (by omega) (by omega) (by kernel_rfl) ?_
    rw [ei]
    refine A_fieldAddr 21 rfl (Wants.of rfl rfl rfl) rfl (by kernel_rfl) ?_
    refine A_load1 22 [] H rfl (Wants.of rfl rfl rfl) rfl c1 (by kernel_rfl) ?_
    refine A_pv 23 rfl (Wants.of rfl rfl rfl) rfl (by kernel_rfl) ?_
    refine J100 H ?_
    refine A_pv 26 rfl (Wants.of rfl rfl rfl) rfl (by kernel_rfl) ?_
    refine A_pv 27 rfl (Wants.of rfl rfl rfl) rfl (by kernel_rfl) ?_
    refine A_fieldAddr 28 rfl (Wants.of rfl rfl rfl) rfl (by kernel_rfl) ?_
    refine A_load1 29 [] H rfl (Wants.of rfl rfl rfl) rfl rfl (by kernel_rfl) ?_
    refine J157 H ?_
    refine A_load1 31 [] H rfl (Wants.of rfl rfl rfl) rfl rfl (by kernel_rfl) ?_
    refine A_indexAddr 32 rfl (Wants.of rfl rfl rfl) rfl rfl (by omega) (by omega) (by kernel_rfl) ?_
    rw [ei]
    refine J158 H ?_
    refine A_load1 34 [] H rfl (Wants.of rfl rfl rfl) rfl c0 (by kernel_rfl) ?_
    refine A_fieldAddr 35 rfl (Wants.of rfl rfl rfl) rfl (by kernel_rfl) ?_
    refine A_load1 36 [] H rfl (Wants.of rfl rfl rfl) rfl rfl (by kernel_rfl) ?_
    refine A_pv 37 rfl (Wants.of rfl rfl rfl) rfl (by kernel_rfl) ?_
    rw [show (((n : Nat) : Int) != (n : Int)) = false by simp]
    refine A_pv 38 rfl (Wants.none rfl) rfl (by kernel_rfl) ?_
    refine A_end (by kernel_rfl) (by repeat first | exact .nil | refine .cons (.inr H.at) ?_ | refine .cons (.inr H.mp) ?_ | refine .cons (.inl (by kernel_rfl)) ?_) ?_
    refine J9 H ?_
    refine J1 H ?_
    clear H; intro w H
    refine J95 H ?_
    refine J40 H ?_
    refine A_load1 5 [] H rfl (Wants.none rfl) rfl rfl (by kernel_rfl) ?_
    refine A_indexAddr 6 rfl (Wants.none rfl) rfl rfl (by omega) (by omega) (by kernel_rfl) ?_
    rw [ei]
    refine A_pv 7 rfl (Wants.none rfl) rfl (by kernel_rfl) ?_
    refine A_pv 8 rfl (Wants.none rfl) rfl (by kernel_rfl) ?_
    refine J5 H ?_
    exact C_ret (Jy H.drop rfl fun w' H' => ⟨rfl, H'⟩)
  | none =>
    rcases lookT_none hL with h0 | h1 | ⟨k, t, rfl, hk, ht⟩
    · refine J1 H ?_
      clear H; intro w H
      refine J70 H ?_
      rw [show decide (i < 0) = true from decide_eq_true (by omega)]
      refine J50 H ?_
      refine A_no 4 rfl (Wants.of rfl rfl rfl) (fun c e => by cases e) (by kernel_rfl) ?_
      refine A_no 5 rfl (Wants.of rfl rfl rfl) (fun c e => by cases e) (by kernel_rfl) ?_
      refine A_no 6 rfl (Wants.of rfl rfl rfl) (fun c e => by cases e) (by kernel_rfl) ?_
      refine A_no 7 rfl (Wants.of rfl rfl rfl) (fun c e => by cases e) (by kernel_rfl) ?_
      refine A_no 8 rfl (Wants.of rfl rfl rfl) (fun c e => by cases e) (by kernel_rfl) ?_
      refine A_no 9 rfl (Wants.of rfl rfl rfl) (fun c e => by cases e) (by kernel_rfl) ?_
      refine A_no 10 rfl (Wants.of rfl rfl rfl) (fun c e => by cases e) (by kernel_rfl) ?_
      refine A_no 11 rfl (Wants.of rfl rfl rfl) (fun c e => by cases e) (by kernel_rfl) ?_
      refine J99 H ?_
      refine A_no 14 rfl (Wants.of rfl rfl rfl) (fun c e => by cases e) (by kernel_rfl) ?_
      refine A_no 15 rfl (Wants.of rfl rfl rfl) (fun c e => by cases e) (by kernel_rfl) ?_
      refine A_no 16 rfl (Wants.of rfl rfl rfl) (fun c e => by cases e) (by kernel_rfl) ?_
      refine A_no 17 rfl (Wants.of rfl rfl rfl) (fun c e => by cases e) (by kernel_rfl) ?_
      refine A_no 18 rfl (Wants.of rfl rfl rfl) (fun c e => by cases e) (by kernel_rfl) ?_
      refine A_no 19 rfl (Wants.of rfl rfl rfl) (fun c e => by cases e) (by kernel_rfl) ?_
      refine A_no 20 rfl (Wants.of rfl rfl rfl) (fun c e => by cases e) (by kernel_rfl) ?_
      refine A_no 21 rfl (Wants.of rfl rfl rfl) (fun c e => by cases e) (by kernel_rfl) ?_
      refine A_no 22 rfl (Wants.of rfl rfl rfl) (fun c e => by cases e) (by kernel_rfl) ?_
      refine A_no 23 rfl (Wants.of rfl rfl rfl) (fun c e => by cases e) (by kernel_rfl) ?_
      refine J100 H ?_
      refine A_no 26 rfl (Wants.of rfl rfl rfl) (fun c e => by cases e) (by kernel_rfl) ?_
      refine A_no 27 rfl (Wants.of rfl rfl rfl) (fun c e => by cases e) (by kernel_rfl) ?_
      refine A_no 28 rfl (Wants.of rfl rfl rfl) (fun c e => by cases e) (by kernel_rfl) ?_
      refine A_no 29 rfl (Wants.of rfl rfl rfl) (fun c e => by cases e) (by kernel_rfl) ?_
      refine A_no 30 rfl (Wants.of rfl rfl rfl) (fun c e => by cases e) (by kernel_rfl) ?_
      refine A_no 31 rfl (Wants.of rfl rfl rfl) (fun c e => by cases e) (by kernel_rfl) ?_
      refine A_no 32 rfl (Wants.of rfl rfl rfl) (fun c e => by cases e) (by kernel_rfl) ?_
      refine A_no 33 rfl (Wants.of rfl rfl rfl) (fun c e => by cases e) (by kernel_rfl) ?_
      refine A_no 34 rfl (Wants.of rfl rfl rfl) (fun c e => by cases e) (by kernel_rfl) ?_
      refine A_no 35 rfl (Wants.of rfl rfl rfl) (fun c e => by cases e) (by kernel_rfl) ?_
      refine A_no 36 rfl (Wants.of rfl rfl rfl) (fun c e => by cases e) (by kernel_rfl) ?_
      refine A_no 37 rfl (Wants.of rfl rfl rfl) (fun c e => by cases e) (by kernel_rfl) ?_
      refine J122 H ?_
      exact C_ret (Jy H.drop rfl fun w' H' => ⟨rfl, H'⟩)
    · by_cases h0 : i < 0
      · refine J1 H ?_
        clear H; intro w H
        refine J70 H ?_
        rw [show decide (i < 0) = true from decide_eq_true (by omega)]
        refine J50 H ?_
        refine A_no 4 rfl (Wants.of rfl rfl rfl) (fun c e => by cases e) (by kernel_rfl) ?_
        refine A_no 5 rfl (Wants.of rfl rfl rfl) (fun c e => by cases e) (by kernel_rfl) ?_
        refine A_no 6 rfl (Wants.of rfl rfl rfl) (fun c e => by cases e) (by kernel_rfl) ?_
        refine A_no 7 rfl (Wants.of rfl rfl rfl) (fun c e => by cases e) (by kernel_rfl) ?_
        refine A_no 8 rfl (Wants.of rfl rfl rfl) (fun c e => by cases e) (by kernel_rfl) ?_
        refine A_no 9 rfl (Wants.of rfl rfl rfl) (fun c e => by cases e) (by kernel_rfl) ?_
        refine A_no 10 rfl (Wants.of rfl rfl rfl) (fun c e => by cases e) (by kernel_rfl) ?_
        refine A_no 11 rfl (Wants.of rfl rfl rfl) (fun c e => by cases e) (by kernel_rfl) ?_
        refine J99 H ?_
        refine A_no 14 rfl (Wants.of rfl rfl rfl) (fun c e => by cases e) (by kernel_rfl) ?_
        refine A_no 15 rfl (Wants.of rfl rfl rfl) (fun c e => by cases e) (by kernel_rfl) ?_
        refine A_no 16 rfl (Wants.of rfl rfl rfl) (fun c e => by cases e) (by kernel_rfl) ?_
        refine A_no 17 rfl (Wants.of rfl rfl rfl) (fun c e => by cases e) (by kernel_rfl) ?_
        refine A_no 18 rfl (Wants.of rfl rfl rfl) (fun c e => by cases e) (by kernel_rfl) ?_
        refine A_no 19 rfl (Wants.of rfl rfl rfl) (fun c e => by cases e) (by kernel_rfl) ?_
        refine A_no 20 rfl (Wants.of rfl rfl rfl) (fun c e => by cases e) (by kernel_rfl) ?_
        refine A_no 21 rfl (Wants.of rfl rfl rfl) (fun c e => by cases e) (by kernel_rfl) ?_
        refine A_no 22 rfl (Wants.of rfl rfl rfl) (fun c e => by cases e) (by kernel_rfl) ?_
        refine A_no 23 rfl (Wants.of rfl rfl rfl) (fun c e => by cases e) (by kernel_rfl) ?_
        refine J100 H ?_
        refine A_no 26 rfl (Wants.of rfl rfl rfl) (fun c e => by cases e) (by kernel_rfl) ?_
        refine A_no 27 rfl (Wants.of rfl rfl rfl) (fun c e => by cases e) (by kernel_rfl) ?_
        refine A_no 28 rfl (Wants.of rfl rfl rfl) (fun c e => by cases e) (by kernel_rfl) ?_
        refine A_no 29 rfl (Wants.of rfl rfl rfl) (fun c e => by cases e) (by kernel_rfl) ?_
        refine A_no 30 rfl (Wants.of rfl rfl rfl) (fun c e => by cases e) (by kernel_rfl) ?_
        refine A_no 31 rfl (Wants.of rfl rfl rfl) (fun c e => by cases e) (by kernel_rfl) ?_
        refine A_no 32 rfl (Wants.of rfl rfl rfl) (fun c e => by cases e) (by kernel_rfl) ?_
        refine A_no 33 rfl (Wants.of rfl rfl rfl) (fun c e => by cases e) (by kernel_rfl) ?_
        refine A_no 34 rfl (Wants.of rfl rfl rfl) (fun c e => by cases e) (by kernel_rfl) ?_
        refine A_no 35 rfl (Wants.of rfl rfl rfl) (fun c e => by cases e) (by kernel_rfl) ?_
        refine A_no 36 rfl (Wants.of rfl rfl rfl) (fun c e => by cases e) (by kernel_rfl) ?_
        refine A_no 37 rfl (Wants.of rfl rfl rfl) (fun c e => by cases e) (by kernel_rfl) ?_
        refine J122 H ?_
        exact C_ret (Jy H.drop rfl fun w' H' => ⟨rfl, H'⟩)
      · refine J1 H ?_
        clear H; intro w H
        refine J70 H ?_
        rw [show decide (i < 0) = false from decide_eq_false (by omega)]
        refine J50 H ?_
        refine A_fieldAddr 4 rfl (Wants.of rfl rfl rfl) rfl (by kernel_rfl) ?_
        refine J175 H ?_
        refine J155 H ?_
        refine A_fieldAddr 8 rfl (Wants.of rfl rfl rfl) rfl (by kernel_rfl) ?_
        refine J176 H ?_
        refine A_lenSlice 10 rfl (Wants.of rfl rfl rfl) rfl (by kernel_rfl) ?_
        refine A_pv 11 rfl (Wants.of rfl rfl rfl) rfl (by kernel_rfl) ?_
        rw [show decide (i ≥ (ts.length : Int)) = true from decide_eq_true (by omega)]
        refine J99 H ?_
        refine A_no 14 rfl (Wants.of rfl rfl rfl) (fun c e => by cases e) (by kernel_rfl) ?_
        refine A_no 15 rfl (Wants.of rfl rfl rfl) (fun c e => by cases e) (by kernel_rfl) ?_
        refine A_no 16 rfl (Wants.of rfl rfl rfl) (fun c e => by cases e) (by kernel_rfl) ?_
        refine A_no 17 rfl (Wants.of rfl rfl rfl) (fun c e => by cases e) (by kernel_rfl) ?_
        refine A_no 18 rfl (Wants.of rfl rfl rfl) (fun c e => by cases e) (by kernel_rfl) ?_
        refine A_no 19 rfl (Wants.of rfl rfl rfl) (fun c e => by cases e) (by kernel_rfl) ?_
        refine A_no 20 rfl (Wants.of rfl rfl rfl) (fun c e => by cases e) (by kernel_rfl) ?_
        refine A_no 21 rfl (Wants.of rfl rfl rfl) (fun c e => by cases e) (by kernel_rfl) ?_
        refine A_no 22 rfl (Wants.of rfl rfl rfl) (fun c e => by cases e) (by kernel_rfl) ?_
        refine A_no 23 rfl (Wants.of rfl rfl rfl) (fun c e => by cases e) (by kernel_rfl) ?_
        refine J100 H ?_
        refine A_no 26 rfl (Wants.of rfl rfl rfl) (fun c e => by cases e) (by kernel_rfl) ?_
        refine A_no 27 rfl (Wants.of rfl rfl rfl) (fun c e => by cases e) (by kernel_rfl) ?_
        refine A_no 28 rfl (Wants.of rfl rfl rfl) (fun c e => by cases e) (by kernel_rfl) ?_
        refine A_no 29 rfl (Wants.of rfl rfl rfl) (fun c e => by cases e) (by kernel_rfl) ?_
        refine A_no 30 rfl (Wants.of rfl rfl rfl) (fun c e => by cases e) (by kernel_rfl) ?_
        refine A_no 31 rfl (Wants.of rfl rfl rfl) (fun c e => by cases e) (by kernel_rfl) ?_
        refine A_no 32 rfl (Wants.of rfl rfl rfl) (fun c e => by cases e) (by kernel_rfl) ?_
        refine A_no 33 rfl (Wants.of rfl rfl rfl) (fun c e => by cases e) (by kernel_rfl) ?_
        refine A_no 34 rfl (Wants.of rfl rfl rfl) (fun c e => by cases e) (by kernel_rfl) ?_
        refine A_no 35 rfl (Wants.of rfl rfl rfl) (fun c e => by cases e) (by kernel_rfl) ?_
        refine A_no 36 rfl (Wants.of rfl rfl rfl) (fun c e => by cases e) (by kernel_rfl) ?_
        refine A_no 37 rfl (Wants.of rfl rfl rfl) (fun c e => by cases e) (by kernel_rfl) ?_
        refine J122 H ?_
        exact C_ret (Jy H.drop rfl fun w' H' => ⟨rfl, H'⟩)
    · have hkl : k < ts.length := (List.getElem?_eq_some_iff.1 hk).1
      have c1 : (ts.flatMap tval ++ s)[k * 6 + 1]? = some (.bool t.ent.isSome) := flat_get tval_len hk (tval_used t)
      have c0 : (ts.flatMap tval ++ s)[k * 6 + 0]? = some (.int .i64 t.gen) := flat_get tval_len hk (tval_gen t)
      have ei : 0 + ((k : Nat) : Int).toNat * 6 = k * 6 := by simp
      refine J1 H ?_
      clear H; intro w H
      refine J70 H ?_
      rw [show decide ((k : Int) < 0) = false from decide_eq_false (by omega)]
      refine J50 H ?_
      refine A_fieldAddr 4 rfl (Wants.of rfl rfl rfl) rfl (by kernel_rfl) ?_
      refine J175 H ?_
      refine J155 H ?_
      refine A_fieldAddr 8 rfl (Wants.of rfl rfl rfl) rfl (by kernel_rfl) ?_
      refine J176 H ?_
      refine A_lenSlice 10 rfl (Wants.of rfl rfl rfl) rfl (by kernel_rfl) ?_
      refine A_pv 11 rfl (Wants.of rfl rfl rfl) rfl (by kernel_rfl) ?_
      rw [show decide ((k : Int) ≥ (ts.length : Int)) = false from decide_eq_false (by omega)]
      refine J99 H ?_
      refine J156 H ?_
      refine A_pv 15 rfl (Wants.of rfl rfl rfl) rfl (by kernel_rfl) ?_
      refine A_fieldAddr 16 rfl (Wants.of rfl rfl rfl) rfl (by kernel_rfl) ?_
      refine A_load1 17 [] H rfl (Wants.of rfl rfl rfl) rfl rfl (by kernel_rfl) ?_
      refine A_fieldAddr 18 rfl (Wants.of rfl rfl rfl) rfl (by kernel_rfl) ?_
      refine A_load1 19 [] H rfl (Wants.of rfl rfl rfl) rfl rfl (by kernel_rfl) ?_
      refine A_indexAddr 20 rfl (Wants.of rfl rfl rfl) rfl rfl (by omega) (by omega) (by kernel_rfl) ?_
      rw [ei]
      refine A_fieldAddr 21 rfl (Wants.of rfl rfl rfl) rfl (by kernel_rfl) ?_
      refine A_load1 22 [] H rfl (Wants.of rfl rfl rfl) rfl c1 (by kernel_rfl) ?_
      rcases ht with ht | ⟨ht, hne⟩
      · rw [ht]
        refine A_pv 23 rfl (Wants.of rfl rfl rfl) rfl (by kernel_rfl) ?_
        refine J100 H ?_
        refine A_no 26 rfl (Wants.of rfl rfl rfl) (fun c e => by cases e) (by kernel_rfl) ?_
        refine A_no 27 rfl (Wants.of rfl rfl rfl) (fun c e => by cases e) (by kernel_rfl) ?_
        refine A_no 28 rfl (Wants.of rfl rfl rfl) (fun c e => by cases e) (by kernel_rfl) ?_
        refine A_no 29 rfl (Wants.of rfl rfl rfl) (fun c e => by cases e) (by kernel_rfl) ?_
        refine A_no 30 rfl (Wants.of rfl rfl rfl) (fun c e => by cases e) (by kernel_rfl) ?_
        refine A_no 31 rfl (Wants.of rfl rfl rfl) (fun c e => by cases e) (by kernel_rfl) ?_
        refine A_no 32 rfl (Wants.of rfl rfl rfl) (fun c e => by cases e) (by kernel_rfl) ?_
        refine A_no 33 rfl (Wants.of rfl rfl rfl) (fun c e => by cases e) (by kernel_rfl) ?_
        refine A_no 34 rfl (Wants.of rfl rfl rfl) (fun c e => by cases e) (by kernel_rfl) ?_
        refine A_no 35 rfl (Wants.of rfl rfl rfl) (fun c e => by cases e) (by kernel_rfl) ?_
        refine A_no 36 rfl (Wants.of rfl rfl rfl) (fun c e => by cases e) (by kernel_rfl) ?_
        refine A_no 37 rfl (Wants.of rfl rfl rfl) (fun c e => by cases e) (by kernel_rfl) ?_
        refine J122 H ?_
        exact C_ret (Jy H.drop rfl fun w' H' => ⟨rfl, H'⟩)
      · rw [ht]
        refine A_pv 23 rfl (Wants.of rfl rfl rfl) rfl (by kernel_rfl) ?_
        refine J100 H ?_
        refine A_pv 26 rfl (Wants.of rfl rfl rfl) rfl (by kernel_rfl) ?_
        refine A_pv 27 rfl (Wants.of rfl rfl rfl) rfl (by kernel_rfl) ?_
        refine A_fieldAddr 28 rfl (Wants.of rfl rfl rfl) rfl (by kernel_rfl) ?_
        refine A_load1 29 [] H rfl (Wants.of rfl rfl rfl) rfl rfl (by kernel_rfl) ?_
        refine J157 H ?_
        refine A_load1 31 [] H rfl (Wants.of rfl rfl rfl) rfl rfl (by kernel_rfl) ?_
        refine A_indexAddr 32 rfl (Wants.of rfl rfl rfl) rfl rfl (by omega) (by omega) (by kernel_rfl) ?_
        rw [ei]
        refine J158 H ?_
        refine A_load1 34 [] H rfl (Wants.of rfl rfl rfl) rfl c0 (by kernel_rfl) ?_
        refine A_fieldAddr 35 rfl (Wants.of rfl rfl rfl) rfl (by kernel_rfl) ?_
        refine A_load1 36 [] H rfl (Wants.of rfl rfl rfl) rfl rfl (by kernel_rfl) ?_
        refine A_pv 37 rfl (Wants.of rfl rfl rfl) rfl (by kernel_rfl) ?_
        rw [show (((t.gen : Nat) : Int) != g) = true by simpa using hne]
        refine J122 H ?_
        exact C_ret (Jy H.drop rfl fun w' H' => ⟨rfl, H'⟩)
end Go.Proofs.YtcaaojbnjfdglaaGreatDoor
namespace Go.Proofs.YtcaaojbnjfdglaaGreatDoor
open Go.SL

theorem goneT_set {ts : List Slt} {k : Nat} {t t' : Slt} (hk : ts[k]? = some t) (hb : (t'.ent.isNone && t'.gen == 255) = (t.ent.isNone && t.gen == 255)) : goneT (ts.set k t') = goneT ts := by
  unfold goneT
  rw [set_split hk]
  conv => rhs; rw [split_at hk]
  rw [List.filter_append, List.filter_append, List.filter_cons, List.filter_cons, hb]
  split <;> simp
theorem TabOk.set {ts : List Slt} {x k : Nat} {t t' : Slt} (h : TabOk ts x) (hk : ts[k]? = some t) (hb : busy t' = busy t) (hg : t'.gen ≤ 255) : TabOk (ts.set k t') x := by
  refine ⟨by rw [List.length_set]; exact h.bits, fun i u hu => ?_, fun i u hu => ?_⟩
  · rcases tab_set hu with ⟨rfl, rfl, _⟩ | ⟨_, hu⟩
    · rw [hb]; exact h.bit _ _ hk
    · exact h.bit _ _ hu
  · rcases tab_set hu with ⟨rfl, rfl, _⟩ | ⟨_, hu⟩
    · exact hg
    · exact h.gen _ _ hu

theorem tGet_spec [Extra] (p : Nat) (ts : List Slt) (i g : Int) {w : World} {fr : List HProp} (H : Holds w (TAB p ts :: fr)) :
    Calls Tryz.prog 44 #[pp p, tkI2 i g] w (ret fun v w' => v = (match lookT ts i g with | some (_, e) => .tuple #[.agg (evl e).toArray, .int .i64 0] | none => .tuple #[.agg #[.int .i64 0, .int .i64 0, .bool false, .bool false], .int .i64 8]) ∧ Holds w' (TAB p ts :: fr)) := by
  obtain ⟨b, c, s, u, x, hok, hc, H, hclose⟩ := TAB_out H
  refine calls_of Tryz.func44 rfl (by kernel_rfl) ?_
  refine J6 H ?_
  clear H; intro b3 w H
  refine J16 H ?_
  clear H; intro b4 w H
  refine J66 H ?_
  replace H := Js [2,2,0,0,0] 0 H
  refine Jc rfl rfl (find_open p b c u _ rfl ts s hok.bits.le i g H) ?_
  clear H; rintro v w ⟨rfl, H⟩
  cases hL : lookT ts i g with
  | some q =>
    obtain ⟨k, e⟩ := q
    obtain ⟨n, rfl, rfl, hk⟩ := lookT_some.1 hL
    have hrd : Reads (ts.flatMap tval ++ s) (k * 6 + 2) 4 (evl e) := flat_reads (vs := evl e) tval_len hk (by repeat (first | exact Reads.nil _ | apply Reads.cons rfl))
    refine J39 H ?_
    refine J2 H ?_
    refine J101 H ?_
    refine Lp_s rfl (St_loadN H rfl hrd rfl ?_)
    refine J4 H ?_
    clear H; intro w H
    refine J0 H ?_
    replace H := Js [2,0,0,1] 1 H
    exact C_ret (Jz H (fun w' H' => .cellN H' rfl (by repeat (first | exact Reads.nil _ | apply Reads.cons rfl)) (.tmp .nil)) fun w' H' => ⟨rfl, hclose _ _ ts x rfl rfl hok H'.drop⟩)
  | none =>
    refine J45 H ?_
    refine J159 H ?_
    clear H; intro w H
    refine J0 H ?_
    replace H := Js [2,0,0,1] 1 H
    exact C_ret (Jz H (fun w' H' => .cellN H' rfl (by repeat (first | exact Reads.nil _ | apply Reads.cons rfl)) (.tmp .nil)) fun w' H' => ⟨rfl, hclose _ _ ts x rfl rfl hok H'.drop⟩)

theorem tSet_spec [Extra] (p : Nat) (ts : List Slt) (i g : Int) (e' : Ent) {w : World} {fr : List HProp} (H : Holds w (TAB p ts :: fr)) :
    Calls Tryz.prog 60 #[pp p, tkI2 i g, .agg (evl e').toArray] w (ret fun v w' => (∃ k e, lookT ts i g = some (k, e) ∧ v = .int .i64 0 ∧ Holds w' (TAB p (ts.set k ⟨g.toNat, some e'⟩) :: fr)) ∨ (lookT ts i g = none ∧ v = .int .i64 8 ∧ Holds w' (TAB p ts :: fr))) := by
  obtain ⟨b, c, s, u, x, hok, hc, H, hclose⟩ := TAB_out H
  refine calls_of Tryz.func60 rfl (by kernel_rfl) ?_
  refine J6 H ?_
  clear H; intro b4 w H
  refine J25 H ?_
  clear H; intro b5 w H
  refine J66 H ?_
  replace H := Js [2,2,0,0,0] 0 H
  refine Jc rfl rfl (find_open p b c u _ rfl ts s hok.bits.le i g H) ?_
  clear H; rintro v w ⟨rfl, H⟩
  cases hL : lookT ts i g with
  | some q =>
    obtain ⟨k, e⟩ := q
    obtain ⟨n, rfl, rfl, hk⟩ := lookT_some.1 hL
    refine J45 H ?_
    refine J13 H ?_
    refine C_join (fun ms σ w => ms = [] ∧ σ 8 = .int .i64 0 ∧ Holds w (TAB p (ts.set k ⟨n, some e'⟩) :: fr)) ?_ ?_
    · refine C_true rfl ?_
      refine J34 H ?_
      refine J10 H ?_
      refine J101 H ?_
      replace H := Js [1,0,0,0,0] 0 H
      have hlen := flat_len tval_len ts
      have hkl : k < ts.length := (List.getElem?_eq_some_iff.1 hk).1
      refine Lp_s rfl (St_storeN (vs := evl e') H rfl rfl inferInstance rfl rfl (by rw [List.length_append, hlen]; omega) rfl ?_)
      clear H; intro w H
      rw [flat_wr (x' := ⟨n, some e'⟩) tval_len hk (by simp) rfl] at H
      refine Lp_nil ?_
      replace H := Js [1,0,2] 2 H
      exact ⟨rfl, rfl, rfl, hclose _ _ (ts.set k ⟨n, some e'⟩) x (by simp) (goneT_set hk rfl) (hok.set hk rfl (by have := hok.gen _ _ hk; exact this)) H⟩
    · clear H
      rintro ms σ w ⟨rfl, g8, H⟩
      rw [upd_self g8]
      refine J8 H ?_
      exact C_ret (Jy H rfl fun w' H' => .inl ⟨k, e, rfl, rfl, H'⟩)
  | none =>
    refine J39 H ?_
    refine J8 H ?_
    replace H := Js [0,0,2] 2 H
    exact C_ret (Jy H rfl fun w' H' => .inr ⟨rfl, rfl, hclose _ _ ts x rfl rfl hok H'⟩)

end Go.Proofs.YtcaaojbnjfdglaaGreatDoor
namespace Go.Proofs.YtcaaojbnjfdglaaGreatDoor
open Go.SL

theorem tAt_spec [Extra] (p : Nat) (ts : List Slt) (k n : Nat) (e : Ent) (hk : ts[k]? = some ⟨n, some e⟩) {w : World} {fr : List HProp} (H : Holds w (TAB p ts :: fr)) :
    Calls Tryz.prog 98 #[pp p, .int .i64 k] w (ret fun v w' => v = .tuple #[tkn k n, .bool true] ∧ Holds w' (TAB p ts :: fr)) := by
  obtain ⟨b, c, s, u, x, hok, hc, H, hclose⟩ := TAB_out H
  have hb := hok.bits.le
  have hkl : k < ts.length := (List.getElem?_eq_some_iff.1 hk).1
  have c1 : (ts.flatMap tval ++ s)[k * 6 + 1]? = some (.bool true) := flat_get tval_len hk rfl
  have c0 : (ts.flatMap tval ++ s)[k * 6 + 0]? = some (.int .i64 n) := flat_get tval_len hk rfl
  have ei : 0 + ((k : Nat) : Int).toNat * 6 = k * 6 := by simp
  refine calls_of Tryz.func98 rfl (by kernel_rfl) ?_
  refine J18 H ?_
  clear H; intro b4 w H
  refine J0 H ?_
  repeat refine C_seq ?_
  refine C_region ?_
  refine Lp_pv rfl rfl ?_
  refine Lp_s rfl (St_eqPtrNil rfl rfl (.inl rfl) rfl ?_)
  refine Lp_pv rfl rfl ?_
  refine Lp_gpv rfl rfl rfl rfl ?_
  refine Lp_gpv rfl rfl rfl rfl ?_
  rw [show decide ((k : Int) < 0) = false from decide_eq_false (by omega)]
  refine J7 H ?_
  refine J112 H ?_
  refine J21 H ?_
  rw [show decide ((k : Int) ≥ (ts.length : Int)) = false from decide_eq_false (by omega)]
  refine J7 H ?_
  refine J22 H ?_
  refine J42 H ?_
  refine Lp_g rfl rfl rfl (St_indexAddr rfl rfl (by omega) (by omega) rfl ?_)
  rw [ei]
  refine Lp_g rfl rfl rfl (St_fieldAddr rfl rfl ?_)
  refine Lp_g rfl rfl rfl (St_load1 H rfl c1 rfl ?_)
  refine J56 H ?_
  refine J79 H ?_
  refine J10 H ?_
  refine Lp_s rfl (St_indexAddr rfl rfl (by omega) (by omega) rfl ?_)
  rw [ei]
  refine J101 H ?_
  refine Lp_s rfl (St_load1 H rfl c0 rfl ?_)
  refine J60 H ?_
  refine J4 H ?_
  clear H; intro w H
  refine J0 H ?_
  exact C_ret (Jz H (fun w' H' => .cellN H' rfl (by repeat (first | exact Reads.nil _ | apply Reads.cons rfl)) (.tmp .nil)) fun w' H' => ⟨rfl, hclose _ _ ts x rfl rfl hok H'.drop⟩)

theorem tAdd_spec [Extra] (p : Nat) (ts : List Slt) (e : Ent) {w : World} {fr : List HProp} [hT : HasTab 0 Lib.deBruijn64tab fr] (H : Holds w (TAB p ts :: fr)) :
    Calls Tryz.prog 79 #[pp p, .agg (evl e).toArray] w (ret fun v w' => (∃ k n, ts[k]? = some ⟨n, none⟩ ∧ n ≤ 254 ∧ (∀ j t, j < k → ts[j]? = some t → busy t = true) ∧ v = .tuple #[tkn k (n + 1), .int .i64 0] ∧ Holds w' (TAB p (ts.set k ⟨n + 1, some e⟩) :: fr)) ∨
      ((∀ t ∈ ts, busy t = true) ∧ v = .tuple #[tkn 0 0, .int .i64 12] ∧ Holds w' (TAB p ts :: fr))) := by
  obtain ⟨b, c, s, u, x, hok, hc, H, hclose⟩ := TAB_out H
  have hb := hok.bits.le
  refine calls_of Tryz.func79 rfl (by kernel_rfl) ?_
  refine J6 H ?_
  clear H; intro b3 w H
  refine J16 H ?_
  clear H; intro b4 w H
  refine J153 H ?_
  refine J65 H ?_
  replace H := Js [4,0,0,0,0] 0 H
  refine Jc rfl rfl (First_spec u ts.length x 0 _ hok.bits (by omega) H) ?_
  clear H; rintro v w ⟨hF, H⟩
  rcases hF with ⟨k, rfl, _, hk, hoff, hall⟩ | ⟨rfl, hall⟩
  · have ht := List.getElem?_eq_getElem hk
    have hbz : ∀ j t, j < k → ts[j]? = some t → busy t = true := fun j t hj hjt => by rw [← hok.bit j t hjt]; exact hall j (Nat.zero_le _) hj
    generalize ts[k] = t at ht
    have hbk := hok.bit k t ht
    have hg := hok.gen k t ht
    rw [hoff] at hbk
    obtain ⟨n, en⟩ := t
    have hen : en = none ∧ n ≤ 254 := by
      unfold busy at hbk
      cases en with
      | none => simp at hbk hg; exact ⟨rfl, by omega⟩
      | some y => simp at hbk
    obtain ⟨rfl, hn⟩ := hen
    have ei : 0 + ((k : Nat) : Int).toNat * 6 = k * 6 := by simp
    have hlen := flat_len tval_len ts
    refine J39 H ?_
    refine J32 H ?_
    refine Jc rfl rfl (bSet_spec u _ x k true hok.bits hk H) ?_
    clear H; rintro v w ⟨rfl, H⟩
    refine Lp_nil ?_
    refine J32 H ?_
    refine Lp_s rfl (St_indexAddr rfl rfl (by omega) (by omega) rfl ?_)
    rw [ei]
    refine J0 H ?_
    have c0 : (ts.flatMap tval ++ s)[k * 6 + 0]? = some (.int .i64 n) := flat_get tval_len ht rfl
    replace H := Js [4,0,0,0,0] 0 H
    refine J2 H ?_
    refine J101 H ?_
    refine Lp_s rfl (St_load1 H rfl c0 rfl ?_)
    refine J7 H ?_
    refine J101 H ?_
    rw [wrap64 (x := ((n : Nat) : Int) + 1) (by omega) (by omega), show ((n : Nat) : Int) + 1 = ((n + 1 : Nat) : Int) by omega]
    refine Lp_s rfl (St_store1 H rfl rfl inferInstance rfl (by rw [List.length_append, hlen]; omega) rfl ?_)
    clear H; intro w H
    rw [flat_set (x' := ⟨n + 1, none⟩) tval_len ht (by omega) rfl] at H
    refine Lp_nil ?_
    have ht1 : (ts.set k ⟨n + 1, none⟩)[k]? = some (⟨n + 1, none⟩ : Slt) := List.getElem?_set_self hk
    have hlen1 := flat_len tval_len (ts.set k ⟨n + 1, none⟩)
    rw [List.length_set] at hlen1
    refine J1 H ?_
    clear H; intro w H
    refine A_pv 0 rfl (Wants.none rfl) rfl (by kernel_rfl) ?_
    refine A_pv 1 rfl (Wants.none rfl) rfl (by kernel_rfl) ?_
    refine A_loadN 2 [8] H rfl (Wants.none rfl) rfl (by repeat (first | exact Reads.nil _ | apply Reads.cons rfl)) (by kernel_rfl) ?_
    refine J50 H ?_
    refine J40 H ?_
    refine Jo 5 H ?_
    refine St_store1 H rfl rfl inferInstance rfl (by rw [List.length_append, hlen1]; omega) rfl ?_
    clear H; intro w H
    rw [flat_set (x' := ⟨n + 1, some ⟨0, 0, false, false, 0, 0, []⟩⟩) tval_len ht1 (by omega) rfl, List.set_set] at H
    have ht2 : (ts.set k ⟨n + 1, some ⟨0, 0, false, false, 0, 0, []⟩⟩)[k]? = some (⟨n + 1, some ⟨0, 0, false, false, 0, 0, []⟩⟩ : Slt) := List.getElem?_set_self hk
    have hlen2 := flat_len tval_len (ts.set k ⟨n + 1, some ⟨0, 0, false, false, 0, 0, []⟩⟩)
    rw [List.length_set] at hlen2
    refine J81 H ?_
    refine Jo 8 H ?_
    refine St_storeN (vs := evl e) H rfl rfl inferInstance rfl rfl (by rw [List.length_append, hlen2]; omega) rfl ?_
    clear H; intro w H
    rw [flat_wr (x' := ⟨n + 1, some e⟩) tval_len ht2 (by simp) rfl, List.set_set] at H
    refine J5 H ?_
    have ht3 : (ts.set k ⟨n + 1, some e⟩)[k]? = some (⟨n + 1, some e⟩ : Slt) := List.getElem?_set_self hk
    have c3 : ((ts.set k ⟨n + 1, some e⟩).flatMap tval ++ s)[k * 6 + 0]? = some (.int .i64 ((n + 1 : Nat) : Int)) := flat_get tval_len ht3 rfl
    refine J12 H ?_
    refine J101 H ?_
    refine Lp_s rfl (St_load1 H rfl c3 rfl ?_)
    refine J60 H ?_
    refine J4 H ?_
    clear H; intro w H
    refine J0 H ?_
    replace H := Js [2,3,0,0] 1 H
    have hn255 : (n == 255) = false := by simp; omega
    have hok' : TabOk (ts.set k ⟨n + 1, some e⟩) (setB x k true) := by
      refine ⟨by rw [List.length_set]; exact hok.bits.set hk, fun i v hv => ?_, fun i v hv => ?_⟩
      · rw [setB_bit]
        rcases tab_set hv with ⟨rfl, rfl, _⟩ | ⟨hne, hv⟩
        · rw [if_pos rfl]; rfl
        · rw [if_neg hne]; exact hok.bit _ _ hv
      · rcases tab_set hv with ⟨rfl, rfl, _⟩ | ⟨_, hv⟩
        · show n + 1 ≤ 255; omega
        · exact hok.gen _ _ hv
    exact C_ret (Jz H (fun w' H' => .cellN H' rfl (by repeat (first | exact Reads.nil _ | apply Reads.cons rfl)) (.tmp .nil)) fun w' H' => .inl ⟨k, n, ht, hn, hbz, rfl, hclose _ _ (ts.set k ⟨n + 1, some e⟩) (setB x k true) (by simp) (goneT_set ht (by simp [hn255])) hok' H'.drop⟩)
  · refine J80 H ?_
    refine J134 H ?_
    clear H; intro w H
    refine J0 H ?_
    replace H := Js [1,2,2,0] 1 H
    refine C_ret (Jz H (fun w' H' => .cellN H' rfl (by repeat (first | exact Reads.nil _ | apply Reads.cons rfl)) (.tmp .nil)) fun w' H' => .inr ⟨fun t ht => ?_, rfl, hclose _ _ ts x rfl rfl hok H'.drop⟩)
    obtain ⟨j, hj⟩ := List.getElem?_of_mem ht
    rw [← hok.bit j t hj]
    exact hall j (Nat.zero_le _) (List.getElem?_eq_some_iff.1 hj).1
end Go.Proofs.YtcaaojbnjfdglaaGreatDoor
namespace Go.Proofs.YtcaaojbnjfdglaaGreatDoor
open Go.SL

structure Ptr where
  sp : Nat
  bp : Nat
  ip : Nat
  tp : Nat
  trp : Nat
  rp : Nat
  sm : Nat
  mm : Nat
@[reducible] def ptrv : Nat → Value := fun b => pp b
@[reducible] def spkey (x : Int × Nat × Spc) : Int × Nat := (x.1, x.2.1)
@[reducible] def mnkey (x : Int × Nat × List Nat) : Int × Nat := (x.1, x.2.1)
@[reducible] def spres (sp : Nat) (x : Int × Nat × Spc) : HProp := SPC x.2.1 sp x.1.toNat x.2.2
@[reducible] def mnres (x : Int × Nat × List Nat) : HProp := BAG x.2.1 x.2.2
@[reducible] def CROW (p : Nat) (q : Ptr) : HProp := pts p (row 90 [pp q.sp, pp q.bp, pp q.ip, pp q.tp, pp q.trp, pp q.rp, .map (some q.sm), .map (some q.mm)])
def CELL (p : Nat) (s : CS) : HProp := ex fun x : Ptr × List Nat => star [prop (WF s ∧ MemOK s x.2), CROW p x.1, IMG x.1.ip x.1.sp x.1.bp, BOOK x.1.bp s.lays, ST x.1.sp s.size x.2 s.own, TAB x.1.tp s.tab, TRE x.1.trp s.last s.par, RS x.1.rp s.rem,
  mp (ki .i64) ptrv x.1.sm (s.sps.map spkey), star (s.sps.map (spres x.1.sp)), mp (ki .i64) ptrv x.1.mm (s.mns.map mnkey), star (s.mns.map mnres)]
theorem CELL_out [Extra] {w : World} {p : Nat} {s : CS} {fr : List HProp} (H : Holds w (CELL p s :: fr)) : ∃ (q : Ptr) (mem : List Nat), WF s ∧ MemOK s mem ∧
    Holds w (CROW p q :: IMG q.ip q.sp q.bp :: BOOK q.bp s.lays :: ST q.sp s.size mem s.own :: TAB q.tp s.tab :: TRE q.trp s.last s.par :: RS q.rp s.rem :: mp (ki .i64) ptrv q.sm (s.sps.map spkey) :: star (s.sps.map (spres q.sp)) :: mp (ki .i64) ptrv q.mm (s.mns.map mnkey) :: star (s.mns.map mnres) :: fr) := by
  obtain ⟨⟨q, mem⟩, H⟩ := Holds.ex.1 H
  have H := Holds.star.1 H
  obtain ⟨h, H⟩ := Holds.prop.1 H
  exact ⟨q, mem, h.1, h.2, H⟩
theorem CELL_in [Extra] {w : World} {p : Nat} {s : CS} {fr : List HProp} {q : Ptr} {mem : List Nat} (h : WF s) (hm : MemOK s mem)
    (H : Holds w (CROW p q :: IMG q.ip q.sp q.bp :: BOOK q.bp s.lays :: ST q.sp s.size mem s.own :: TAB q.tp s.tab :: TRE q.trp s.last s.par :: RS q.rp s.rem :: mp (ki .i64) ptrv q.sm (s.sps.map spkey) :: star (s.sps.map (spres q.sp)) :: mp (ki .i64) ptrv q.mm (s.mns.map mnkey) :: star (s.mns.map mnres) :: fr)) : Holds w (CELL p s :: fr) :=
  Holds.ex.2 ⟨(q, mem), Holds.star.2 (Holds.prop.2 ⟨⟨h, hm⟩, H⟩)⟩

def layE (s : CS) (e : Ent) : Lay := (s.lays[e.lay - 1]?).getD ⟨0, [], 0, []⟩
def lnkOf (w : Nat) : Lnk := if w = 0 then .none else if w = 1 then .grave else .obj (w % 4294967296 - 2) (w / 4294967296)
theorem lnkOf_big {x : Nat} (h0 : x ≠ 0) (h1 : x ≠ 1) : lnkOf x = .obj (x % 4294967296 - 2) (x / 4294967296) := by
  unfold lnkOf
  rw [if_neg h0, if_neg h1]
theorem lnk_arith {i g : Nat} (h : i < 4096) : (i + 2 + g * 4294967296) % 4294967296 - 2 = i ∧ (i + 2 + g * 4294967296) / 4294967296 = g := by omega
theorem lnkOf_obj {i g : Nat} (h1 : i < 4096) : lnkOf (wordL (.obj i g)) = .obj i g := by
  rw [wordL_obj, lnkOf_big (by omega) (by omega), (lnk_arith h1).1, (lnk_arith h1).2]
theorem lnkOf_word {k : Lnk} (h : okL k) : lnkOf (wordL k) = k := by
  cases k with
  | none => rfl
  | grave => rfl
  | obj i g => exact lnkOf_obj h.1

theorem img_of {s : CS} (h : WF s) {mem : List Nat} (m : MemOK s mem) {k g : Nat} {e : Ent} (hk : s.tab[k]? = some ⟨g, some e⟩) : ImgAt s.lays s.size mem s.own e.addr e.lay e.count k e.ws.length (layE s e) := by
  obtain ⟨⟨hm, l, h1, h2, h3, h4⟩, hl, _⟩ := h.obj k g e hk
  have hle : layE s e = l := by unfold layE; rw [h1]; rfl
  rw [hle]
  refine ⟨hm, h1, h2, h3, ?_, ?_, ?_⟩
  · rw [List.getD_eq_getElem?_getD, m.head _ _ _ hk, Option.getD_some]
  · have := hl.1
    unfold endOf at this
    rw [m.len]
    exact this
  · intro c c1 c2
    obtain ⟨r, hr, _, hr1⟩ := hl.2 c c1 (by rw [show e.addr + (e.ws.length + 1) - 1 = e.addr + e.ws.length by omega] at c2; exact c2)
    rw [List.getD_eq_getElem?_getD, hr]
    show r ≠ 0
    omega
theorem word_of {s : CS} (h : WF s) {mem : List Nat} (m : MemOK s mem) {k g : Nat} {e : Ent} (hk : s.tab[k]? = some ⟨g, some e⟩) {p : Nat} (hp : p < e.ws.length) : mem.getD (e.addr + 1 + p) 0 = e.ws.getD p 0 := by
  have hx := List.getElem?_eq_getElem hp
  rw [List.getD_eq_getElem?_getD, List.getD_eq_getElem?_getD, m.words _ _ _ hk p _ hx, hx]
/-- What a reference's word tells. -/
theorem link_of {s : CS} (h : WF s) {k g : Nat} {e : Ent} (hk : s.tab[k]? = some ⟨g, some e⟩) {p : Nat} (hp : p < e.ws.length) (hr : isRefL (layE s e) p = true) : okL (lnkOf (e.ws.getD p 0)) ∧ e.ws.getD p 0 = wordL (lnkOf (e.ws.getD p 0)) := by
  obtain ⟨⟨hm, l, h1, h2, h3, h4⟩, hl, _⟩ := h.obj k g e hk
  have hle : layE s e = l := by unfold layE; rw [h1]; rfl
  rw [hle] at hr
  have hx := List.getElem?_eq_getElem hp
  obtain ⟨q, hq, hw⟩ := (h4 p _ hx).2 hr
  have hd : e.ws.getD p 0 = wordL q := by rw [List.getD_eq_getElem?_getD, hx, Option.getD_some]; exact hw
  rw [hd, lnkOf_word hq]
  exact ⟨hq, rfl⟩

/-- An entry, or an error, as values. -/
def getV : Option (Nat × Ent) → Value
  | some (_, e) => .tuple #[.agg (evl e).toArray, .int .i64 0]
  | none => .tuple #[.agg #[.int .i64 0, .int .i64 0, .bool false, .bool false], .int .i64 8]
theorem getV_form (o : Option (Nat × Ent)) : ∃ e1 e2 h1 h2 e4, getV o = .tuple #[.agg #[.int .i64 e1, .int .i64 e2, .bool h1, .bool h2], .int .i64 e4] := by
  cases o <;> exact ⟨_, _, _, _, _, rfl⟩
theorem tGetV_spec [Extra] (p : Nat) (ts : List Slt) (i g : Int) {w : World} {fr : List HProp} (H : Holds w (TAB p ts :: fr)) :
    Calls Tryz.prog 44 #[pp p, tkI2 i g] w (ret fun v w' => v = getV (lookT ts i g) ∧ Holds w' (TAB p ts :: fr)) :=
  call (tGet_spec p ts i g H) fun v w h => ⟨by rw [h.1]; cases lookT ts i g <;> rfl, h.2⟩

theorem valid_spec [Extra] (p : Nat) (s : CS) (i g : Int) {w : World} {fr : List HProp} (H : Holds w (CELL p s :: fr)) :
    Calls Tryz.prog 67 #[pp p, tkI2 i g] w (ret fun v w' => v = getV (validT s.tab i g) ∧ Holds w' (CELL p s :: fr)) := by
  obtain ⟨q, mem, hw, hm, H⟩ := CELL_out H
  refine calls_of Tryz.func67 rfl (by kernel_rfl) ?_
  refine J6 H ?_
  clear H; intro b3 w H
  refine J16 H ?_
  clear H; intro b4 w H
  refine J153 H ?_
  obtain ⟨e1, e2, h1, h2, e4, hsh⟩ := getV_form (lookT s.tab i g)
  refine J13 H ?_
  refine C_join (fun ms σ w => ms = [] ∧ ∃ b6, σ 4 = pp b4 ∧ σ 6 = pp b6 ∧ σ 7 = .int .i64 e4 ∧
    Holds w (pts b4 (row 109 [.int .i64 0, .int .i64 0, .bool false, .bool false]) :: pts b6 (row 109 [.int .i64 e1, .int .i64 e2, .bool h1, .bool h2]) :: CELL p s :: fr)) ?_ ?_
  · replace H := Js [6,0,0,0,0,0,0,0,0,0,0,0,0] 0 H
    refine J1 H ?_
    clear H; intro w H
    refine J29 H ?_
    refine A_load1 3 [5, 10] H rfl (Wants.none rfl) rfl rfl (by kernel_rfl) ?_
    refine J179 H ?_
    refine A_two 5 9 rfl rfl (by kernel_rfl) (by repeat first | exact .nil | refine .cons (.inr H.at) ?_ | refine .cons (.inr H.mp) ?_ | refine .cons (.inl (by kernel_rfl)) ?_) (Wants.none rfl) (Wants.none rfl) (St_call (a := []) (b := []) rfl rfl (call (tGetV_spec q.tp s.tab i g H) ?_)) (St_alloc H rfl ?_)
    · clear H; rintro v w ⟨rfl, H⟩
      rw [hsh]
      refine J160 H ?_
      refine Jo 9 H ?_
      refine St_alloc H rfl ?_
      clear H; intro b6 w H
      refine J161 H ?_
      clear H; intro w H
      refine J162 H ?_
      replace H := Js [4,4,4,4,1,3,3,3,3,3,3,1,0] 1 H
      refine ⟨rfl, rfl, b6, rfl, rfl, rfl, ?_⟩
      replace H := CELL_in hw hm H
      replace H := Js [1,1,0] 0 H
      exact H
    · clear H; intro b6 w H
      refine Jo 5 H ?_
      refine Jk rfl rfl (tGetV_spec q.tp s.tab i g H.swap) ?_
      clear H; rintro v w ⟨rfl, H⟩
      rw [hsh]
      refine J160 H ?_
      refine J161 H ?_
      clear H; intro w H
      refine J162 H ?_
      replace H := Js [4,4,4,4,0,3,3,3,3,3,3,1,0] 1 H
      refine ⟨rfl, rfl, b6, rfl, rfl, rfl, ?_⟩
      replace H := CELL_in hw hm H
      replace H := Js [1,1,0] 0 H
      exact H
  · clear H
    rintro ms σ w ⟨rfl, b6, g4, g6, g7, H⟩
    rw [upd_self g4, upd_self g6, upd_self g7]
    have hv : validT s.tab i g = (match lookT s.tab i g with | some (k, e) => if e.held then some (k, e) else none | none => none) := rfl
    cases hL : lookT s.tab i g with
    | none =>
      rw [hL] at hsh hv
      have hv : validT s.tab i g = none := hv
      rw [hv]
      cases hsh
      refine J12 H ?_
      refine J54 H ?_
      refine J84 H ?_
      clear H; intro w H
      refine J0 H ?_
      exact C_ret (Jz H (fun w' H' => .cellN H' rfl (by repeat (first | exact Reads.nil _ | apply Reads.cons rfl)) (.tmp .nil)) fun w' H' => ⟨rfl, H'.drop.drop⟩)
    | some x =>
      obtain ⟨k, e⟩ := x
      obtain ⟨ea, er, eh, ep, el, ec, ew⟩ := e
      rw [hL] at hsh hv
      cases hsh
      cases eh with
      | true =>
        have hv : validT s.tab i g = some (k, ⟨ea, er, true, ep, el, ec, ew⟩) := hv
        rw [hv]
        refine J12 H ?_
        refine J42 H ?_
        refine J20 H ?_
        refine J72 H ?_
        clear H; intro w H
        refine J0 H ?_
        exact C_ret (Jz H (fun w' H' => .cellN H' rfl (by repeat (first | exact Reads.nil _ | apply Reads.cons rfl)) (.tmp .nil)) fun w' H' => ⟨rfl, H'.drop.drop⟩)
      | false =>
        have hv : validT s.tab i g = none := hv
        rw [hv]
        refine J12 H ?_
        refine J42 H ?_
        refine J84 H ?_
        clear H; intro w H
        refine J0 H ?_
        exact C_ret (Jz H (fun w' H' => .cellN H' rfl (by repeat (first | exact Reads.nil _ | apply Reads.cons rfl)) (.tmp .nil)) fun w' H' => ⟨rfl, H'.drop.drop⟩)
end Go.Proofs.YtcaaojbnjfdglaaGreatDoor
