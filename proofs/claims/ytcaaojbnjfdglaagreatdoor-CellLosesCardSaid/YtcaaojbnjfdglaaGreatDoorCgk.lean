/- Cells: what is proved on the way: every input of the statement; no condition. Texts joined: SrtI BagA RmC RmD RmE KidA RefC RefD. -/
import Derived.Test.YtcaaojbnjfdglaaGreatDoorCgf
import Derived.Test.YtcaaojbnjfdglaaGreatDoorCgj
import Derived.Test.YtcaaojbnjfdglaaGreatDoorCge
import Derived.Test.YtcaaojbnjfdglaaGreatDoorCgi
set_option linter.unusedVariables false
set_option linter.unusedSimpArgs false
set_option linter.unusedSectionVars false
namespace Go.Proofs.YtcaaojbnjfdglaaGreatDoor
open Go.SL

def icells (l : List Int) : List Value := l.map fun x => Value.int .i64 x
theorem icells_length (l : List Int) : (icells l).length = l.length * 1 := by simp [icells]
theorem icells_append (a b : List Int) : icells (a ++ b) = icells a ++ icells b := by simp [icells]
theorem ncells_icells (l : List Nat) : ncells l = icells (l.map fun x : Nat => (x : Int)) := by simp [ncells, icells]
@[reducible] def IL (v : Value) (l : List Int) : HProp := sls 3 1 v (icells l)

theorem Sort_spec [Extra] (v : Value) (l : List Int) (hl : l.length ≤ 1000000) {w : World} {fr : List HProp} (H : Holds w (IL v l :: fr)) :
    Calls Tryz.prog 129 #[v] w (ret fun x w' => x = .tuple #[] ∧ Holds w' (IL v (l.mergeSort fun x y => decide (x ≤ y)) :: fr)) := by
  obtain ⟨a, c, rfl⟩ := sls_slice H (icells_length l) (by decide)
  have hlen : (l.mergeSort fun x y => decide (x ≤ y)).length = l.length := List.length_mergeSort l
  by_cases h0 : l = []
  · subst h0
    refine (Any.slices_Sort_int_none Tryz.laysSort a c w).mono ?_
    rintro e w' ⟨rfl, rfl⟩
    rw [List.mergeSort_nil]
    exact ⟨rfl, H⟩
  · have hpos : 0 < l.length := List.length_pos_iff.2 h0
    obtain ⟨b, s, rfl, H, h1, h2, hclose⟩ := sls_open2 H hpos
    have hb := H.pts
    refine (Any.slices_Sort_int Tryz.laysSort b 0 c l w (fun j hj => ⟨?_, frozen_row hb⟩) H.fresh (by omega)).mono ?_
    · refine cell_row hb ?_
      have hj' : j < l.length := by simpa using hj
      rw [Nat.zero_add, List.getElem?_append_left (by simpa [icells] using hj')]
      simp [icells, hj']
    · rintro e w' ⟨rfl, m, os, rfl⟩
      refine ⟨rfl, hclose _ _ (icells (l.mergeSort fun x y => decide (x ≤ y))) (by rw [icells_length, icells_length, hlen]) ?_⟩
      have e1 : (Go.Sort.putRow (Value.int .i64) (Go.Sort.ahead w m) b 0 (l.mergeSort fun x y => decide (x ≤ y)).toArray).heap = w.heap.modify b (Go.Sort.onCells (Go.Sort.putCells (Value.int .i64) 0 (l.mergeSort fun x y => decide (x ≤ y)).toArray)) := rfl
      have H1 : Holds (Go.Sort.putRow (Value.int .i64) (Go.Sort.ahead w m) b 0 (l.mergeSort fun x y => decide (x ≤ y)).toArray) (pts b (row 3 (icells (l.mergeSort fun x y => decide (x ≤ y)) ++ s)) :: fr) := by
        refine H.set ?_ ?_
        · rw [e1, Array.getElem?_modify, if_pos rfl, hb]
          simp only [Option.map_some, row, Go.Sort.onCells]
          congr 2
          apply Array.ext'
          apply List.ext_getElem?
          intro t
          simp only [Go.Sort.putCells, Array.getElem?_toList, Array.getElem?_mapIdx, List.getElem?_toArray, Nat.zero_le, true_and, Nat.zero_add, Nat.sub_zero, List.size_toArray]
          have l1 : (icells l).length = l.length := by simp [icells]
          have l2 : (icells (l.mergeSort fun x y => decide (x ≤ y))).length = l.length := by simp [icells]
          by_cases ht : t < l.length
          · rw [List.getElem?_append_left (by omega), List.getElem?_append_left (by omega)]
            have ht' : t < (l.mergeSort fun x y => decide (x ≤ y)).length := by omega
            simp only [icells, List.getElem?_map, List.getElem?_eq_getElem ht, List.getElem?_eq_getElem ht', Option.map_some, if_pos ht']
            rw [getElem!_pos _ t (by simpa using ht')]
            simp
          · rw [List.getElem?_append_right (by omega), List.getElem?_append_right (by omega), l1, l2]
            have ht' : ¬ t < (l.mergeSort fun x y => decide (x ≤ y)).length := by omega
            cases s[t - l.length]? with
            | none => rfl
            | some y => simp; intro h; omega
        · intro c hc
          rw [e1, Array.getElem?_modify, if_neg (Ne.symm hc)]
      refine H1.up (fun c o hc => ?_) ⟨rfl, rfl⟩
      show ((Go.Sort.putRow (Value.int .i64) (Go.Sort.ahead w m) b 0 (l.mergeSort fun x y => decide (x ≤ y)).toArray).heap ++ os)[c]? = some o
      have := (Array.getElem?_eq_some_iff.1 hc).1
      rw [Array.getElem?_append_left this]
      exact hc

theorem Compact_few [Extra] (a : Option Addr) (n c : Nat) (hn : n < 2) {w : World} {fr : List HProp} (H : Holds w fr) :
    Calls Tryz.prog 152 #[.slice a n c] w (ret fun x w' => x = .slice a n c ∧ Holds w' fr) := by
  refine calls_of Tryz.func152 rfl (by kernel_rfl) ?_
  refine J23 H ?_
  refine J95 H ?_
  rw [show decide ((n : Int) < 2) = true from decide_eq_true (by omega)]
  refine J25 H ?_
  exact C_ret (Jy H rfl fun w' H' => ⟨rfl, H'⟩)

theorem Insert_end [Extra] (v : Value) (l : List Nat) (x : Nat) (hl : l.length ≤ 1000000) (b : Nat) {w : World} {fr : List HProp} (H : Holds w (NL v l :: pts b (row 3 [.int .i64 x]) :: fr)) :
    Calls Tryz.prog 139 #[v, .int .i64 l.length, .slice (some ⟨b, 0, none⟩) 1 1] w (ret fun v w' => Holds w' (NL v (l ++ [x]) :: fr)) := by
  obtain ⟨a, c, rfl⟩ := sls_slice H (ncells_length l) (by decide)
  refine calls_of Tryz.func139 rfl (by kernel_rfl) ?_
  refine J77 H ?_
  refine Lp_s rfl (St_sliceFromE rfl rfl (Nat.le_refl _) rfl fun v12 => ?_)
  refine Lp_nil ?_
  refine J103 H ?_
  refine J37 H ?_
  refine J95 H ?_
  refine J15 H ?_
  rw [show (((l.length : Nat) : Int) == (l.length : Int)) = true by simp]
  refine J11 H ?_
  refine J6 H ?_
  refine Lp_s rfl (St_append H rfl rfl (by repeat (first | exact Reads.nil _ | apply Reads.cons rfl)) rfl (by decide) (by rw [ncells_length]; simp only [List.length_cons, List.length_nil]; omega) rfl rfl ?_)
  clear H; intro v25 w H
  obtain ⟨a25, m25, c25, rfl⟩ := sls_any H
  refine J0 H ?_
  have e1 : ncells l ++ [.int .i64 x] = ncells (l ++ [x]) := by rw [ncells_append]; rfl
  rw [e1] at H
  exact C_ret (Jy (Holds.drop H.swap) rfl fun w' H' => H')
end Go.Proofs.YtcaaojbnjfdglaaGreatDoor
namespace Go.Proofs.YtcaaojbnjfdglaaGreatDoor
open Go.SL

def BAG (p : Nat) (l : List Nat) : HProp := ex fun v : Value => star [pts p (row 149 [v]), NL v l]
theorem BAG_out [Extra] {w : World} {p : Nat} {l : List Nat} {fr : List HProp} (H : Holds w (BAG p l :: fr)) : ∃ a c, Holds w (pts p (row 149 [.slice a l.length c]) :: NL (.slice a l.length c) l :: fr) := by
  obtain ⟨v, H⟩ := Holds.ex.1 H
  have H := Holds.star.1 H
  obtain ⟨a, c, rfl⟩ := sls_slice H.drop (ncells_length l) (by decide)
  exact ⟨a, c, H⟩
theorem BAG_in [Extra] {w : World} {p : Nat} {l : List Nat} {v : Value} {fr : List HProp} (H : Holds w (pts p (row 149 [v]) :: NL v l :: fr)) : Holds w (BAG p l :: fr) :=
  Holds.ex.2 ⟨v, Holds.star.2 H⟩

theorem gNew_spec [Extra] {w : World} {fr : List HProp} (H : Holds w fr) : Calls Tryz.prog 96 #[.slice none 0 0] w (ret fun v w' => ∃ p, v = pp p ∧ Holds w' (BAG p [] :: fr)) := by
  refine calls_of Tryz.func96 rfl (by kernel_rfl) ?_
  refine J159 H ?_
  refine Jc rfl rfl (Clone_spec (.slice none 0 0) [] (by simp) ⟨rfl, none, 0, rfl, .inl rfl⟩ H) ?_
  clear H; rintro v w H
  obtain ⟨a, c, rfl⟩ := sls_slice H (ncells_length []) (by decide)
  refine J188 H ?_
  refine Jc rfl rfl (Sort_spec _ [] (by simp) H) ?_
  clear H; rintro v w ⟨rfl, H⟩
  rw [List.mergeSort_nil] at H
  refine Lp_nil ?_
  refine J20 H ?_
  refine Jc rfl rfl (Compact_few a 0 c (by omega) H) ?_
  clear H; rintro v w ⟨rfl, H⟩
  refine J50 H ?_
  clear H; intro b10 w H
  refine J0 H ?_
  exact C_ret (Jy H rfl fun w' H' => ⟨_, rfl, BAG_in (l := []) H'⟩)

theorem posL_end {l : List Nat} {x : Nat} (h : ∀ a ∈ l, a < x) : posL l x = l.length := by
  unfold posL
  rw [List.countP_eq_length]
  intro a ha
  simpa using h a ha

theorem gPut_spec [Extra] (p : Nat) (l : List Nat) (x : Nat) (hs : l.Pairwise (· < ·)) (hl : l.length ≤ 100000) (hx : ∀ a ∈ l, a < x) {w : World} {fr : List HProp} (H : Holds w (BAG p l :: fr)) :
    Calls Tryz.prog 81 #[pp p, .int .i64 x] w (ret fun v w' => v = .bool true ∧ Holds w' (BAG p (l ++ [x]) :: fr)) := by
  obtain ⟨a, c, H⟩ := BAG_out H
  have hn : x ∉ l := fun h => by have := hx x h; omega
  refine calls_of Tryz.func81 rfl (by kernel_rfl) ?_
  refine J168 H ?_
  obtain ⟨D1, H, hD1, hC1⟩ := sls_rd H.swap (ncells_length _) (by decide)
  refine Jc rfl rfl (Search_spec _ l (by omega) hs x (hD1 _) H) ?_
  clear H; rintro v w ⟨rfl, H⟩
  replace H := hC1 _ _ H
  rw [posL_end hx, decide_eq_false hn]
  refine J65 H ?_
  refine J12 H ?_
  refine C_join (fun ms σ w => ms = [] ∧ σ 6 = .bool false ∧ Holds w (BAG p (l ++ [x]) :: fr)) ?_ ?_
  · refine C_true rfl ?_
    refine J9 H ?_
    refine J49 H ?_
    refine J48 H ?_
    clear H; intro b27 w H
    replace H := Js [1,0,0] 0 H
    refine Jc rfl rfl (Insert_end _ l x (by omega) _ H) ?_
    clear H; intro v w H
    obtain ⟨a28, m28, c28, rfl⟩ := sls_any H
    refine J56 H ?_
    clear H; intro w H
    refine Lp_nil ?_
    exact ⟨rfl, rfl, rfl, BAG_in H.swap⟩
  · clear H
    rintro ms σ w ⟨rfl, g6, H⟩
    rw [upd_self g6]
    refine J15 H ?_
    exact C_ret (Jy H rfl fun w' H' => ⟨rfl, H'⟩)

theorem gHas_spec [Extra] (p : Nat) (l : List Nat) (x : Nat) (hs : l.Pairwise (· < ·)) (hl : l.length ≤ 100000) {w : World} {fr : List HProp} (H : Holds w (BAG p l :: fr)) :
    Calls Tryz.prog 30 #[pp p, .int .i64 x] w (ret fun v w' => v = .bool (decide (x ∈ l)) ∧ Holds w' (BAG p l :: fr)) := by
  obtain ⟨a, c, H⟩ := BAG_out H
  refine calls_of Tryz.func30 rfl (by kernel_rfl) ?_
  refine J168 H ?_
  obtain ⟨D1, H, hD1, hC1⟩ := sls_rd H.swap (ncells_length _) (by decide)
  refine Jc rfl rfl (Search_spec _ l (by omega) hs x (hD1 _) H) ?_
  clear H; rintro v w ⟨rfl, H⟩
  replace H := hC1 _ _ H
  refine J65 H ?_
  exact C_ret (Jy (BAG_in H.swap) rfl fun w' H' => ⟨rfl, H'⟩)

end Go.Proofs.YtcaaojbnjfdglaaGreatDoor
namespace Go.Proofs.YtcaaojbnjfdglaaGreatDoor
open Go.SL

theorem kp_inj : ∀ a b : Rf, kp a = kp b → a = b := tkR.inj
/-- The references' cells, one behind the other. -/
def rcells (l : List Rf) : List Value := l.flatMap fun r => [.int .i64 r.1, .int .i64 r.2]
theorem rcells_length (l : List Rf) : (rcells l).length = l.length * 2 := by
  induction l with
  | nil => rfl
  | cons r l ih => simp only [rcells, List.flatMap_cons, List.length_append, List.length_cons, List.length_nil] at ih ⊢; omega
theorem rcells_append (a b : List Rf) : rcells (a ++ b) = rcells a ++ rcells b := by simp [rcells]

theorem rKeys_spec [Extra] (x : Option Nat) (m : List (Rf × Int)) {w : World} {fr : List HProp} (H : Holds w (mpv kp v1 (.map x) m :: fr)) :
    Calls Tryz.prog 159 #[.map x] w
      (ret fun v w' => ∃ b, v = .func (.func 192) #[] #[pp b] ∧ Holds w' (pts b (row 185 [.map x]) :: mpv kp v1 (.map x) m :: fr)) := by
  refine calls_of Tryz.func159 rfl (by kernel_rfl) ?_
  refine J78 H ?_
  clear H; intro b1 w H
  refine J26 H ?_
  refine C_ret (Jy H rfl fun w' H' => ⟨b1, rfl, H'⟩)

theorem sub_length {α : Type} : ∀ {l₁ l₂ : List α}, l₁.Nodup → (∀ z ∈ l₁, z ∈ l₂) → l₁.length ≤ l₂.length
  | [], _, _, _ => Nat.zero_le _
  | c :: l, l₂, hn, hs => by
    obtain ⟨s, t, rfl⟩ := List.append_of_mem (hs c (by simp))
    have h := List.nodup_cons.1 hn
    have := sub_length (l₂ := s ++ t) h.2 (fun z hz => by
      have h1 := hs z (by simp [hz])
      have h2 : z ≠ c := fun e => h.1 (e ▸ hz)
      simp [h2] at h1
      simpa using h1)
    simp at this ⊢
    omega

theorem KeysIter [Extra] (yl b : Nat) (x : Option Nat) (m : List (Rf × Int)) (J : List Rf → HProp)
    (hy : ∀ ks r rest w, ks.length < m.length → Holds w (J ks :: rest) → SL.Yields Tryz.prog yl #[rf r] w (fun v w' => v = .bool true ∧ Holds w' (J (ks ++ [r]) :: rest)))
    {w : World} {fr : List HProp} (H : Holds w (J [] :: pts b (row 185 [.map x]) :: mpv kp v1 (.map x) m :: fr)) :
    Calls Tryz.prog 192 #[.func (.yield yl) #[] #[], pp b] w
      (ret fun _ w' => ∃ ks, ks.Perm (m.map (·.1)) ∧ Holds w' (J ks :: mpv kp v1 (.map x) m :: fr)) := by
  refine calls_of Tryz.func192 rfl (by kernel_rfl) ?_
  refine J79 H ?_
  replace H := Js [2,0,0] 0 H
  refine Lp_s rfl (St_range kp v1 H rfl rfl ?_)
  clear H; intro bi w H
  refine Lp_nil ?_
  refine C_block ?_
  refine C_loop (fun ms σ w n => ms = [] ∧ ∃ ks : List Rf, σ 0 = .func (.yield yl) #[] #[] ∧ σ 5 = pp bi ∧ n = m.length - ks.length ∧ Holds w (mit kp v1 (.map x) m bi ks :: J ks :: pts b (row 185 [.map x]) :: fr)) (m := m.length) ⟨rfl, [], rfl, rfl, rfl, H⟩ ?_
  clear H w
  rintro ms σ w n ⟨rfl, ks, h0, h5, rfl, H⟩
  rw [upd_self h0, upd_self h5]
  refine J46 H ?_
  refine Lp_s rfl (St_next H kp_inj rfl rfl (fun hp w H => ?_) (fun q hq hn hnd hsub w H => ?_))
  · refine J14 H ?_
    refine C_false rfl (C_exit ?_)
    replace H := mit_mpv H
    replace H := Js [1,0] 1 H
    exact fn_end0 _ (.inl rfl) H rfl fun w' H' => ⟨ks, hp, H'⟩
  · have hlt : ks.length < m.length := by
      have h1 : (ks ++ [q.1]).Nodup := by
        rw [List.nodup_append]
        exact ⟨hnd, by simp, fun c hc c' hc' e0 => by simp at hc'; subst hc'; subst e0; exact hn hc⟩
      have h2 := sub_length h1 (l₂ := m.map (·.1)) (fun z hz => by
        rcases List.mem_append.1 hz with hz | hz
        · exact hsub z hz
        · simp at hz; subst hz; exact List.mem_map_of_mem hq)
      simp at h2
      omega
    refine J14 H ?_
    refine C_true rfl (C_skip ?_)
    refine C_block ?_
    refine J46 H ?_
    refine Lp_s rfl (St_entry H kp_inj hq rfl rfl ?_)
    refine J10 H ?_
    refine J17 H ?_
    clear H; intro b3 w H
    refine J7 H ?_
    clear H; intro w H
    refine Lp_nil ?_
    refine J39 H ?_
    replace H := Js [2,0,0,0] 0 H
    refine Lp_s rfl (St_yield rfl rfl (SL.Yields.mono (hy ks q.1 _ _ hlt H) ?_))
    clear H; rintro v w ⟨rfl, H⟩
    refine J18 H ?_
    replace H := Js [2,0,1] 1 H
    exact ⟨_, ⟨rfl, ks ++ [q.1], rfl, rfl, rfl, H⟩, by simp; omega⟩

/-- What the collecting loop keeps. -/
def CJ (L : HProp) (b2 : Nat) (ks : List Rf) : HProp := ex fun v : Value => star [sls 241 2 v (rcells ks), L, pts b2 (row 106 [v])]

theorem CJ_out [Extra] {w : World} {L : HProp} {b2 : Nat} {ks : List Rf} {l : List HProp} (H : Holds w (CJ L b2 ks :: l)) : ∃ v, Holds w (sls 241 2 v (rcells ks) :: L :: pts b2 (row 106 [v]) :: l) := by
  obtain ⟨v, H⟩ := Holds.ex.1 H
  exact ⟨v, Holds.star.1 H⟩
theorem CJ_in [Extra] {w : World} {L : HProp} {b2 : Nat} {ks : List Rf} {l : List HProp} {v : Value} (H : Holds w (sls 241 2 v (rcells ks) :: L :: pts b2 (row 106 [v]) :: l)) : Holds w (CJ L b2 ks :: l) :=
  Holds.ex.2 ⟨v, Holds.star.2 H⟩

theorem sls_one [Extra] {w : World} {E k : Nat} {v : Value} {c : List Value} {l : List HProp} (H : Holds w (sls E k v c :: l)) : v.oneCell' = true := by
  rcases sls_case H with ⟨rfl, _⟩ | ⟨_, _, _, _, rfl, _⟩ <;> rfl

theorem rAppendSeq_spec [Extra] (b : Nat) (x : Option Nat) (m : List (Rf × Int)) (hm : m.length ≤ 1000000) {w : World} {fr : List HProp} (H : Holds w (pts b (row 185 [.map x]) :: mpv kp v1 (.map x) m :: fr)) :
    Calls Tryz.prog 209 #[.slice none 0 0, .func (.func 192) #[] #[pp b]] w
      (ret fun v w' => ∃ ks, ks.Perm (m.map (·.1)) ∧ Holds w' (sls 241 2 v (rcells ks) :: mpv kp v1 (.map x) m :: fr)) := by
  refine calls_of Tryz.func209 rfl (by kernel_rfl) ?_
  refine J78 H ?_
  clear H; intro b2 w H
  refine J0 H ?_
  refine J21 H ?_
  refine C_block (C_rangeFunc (a := []) (b := [pp b]) H rfl (fun yl D w H => ?_))
  generalize hL : LR _ yl _ _ _ _ D .ready = L at H ⊢
  replace H := sls_nil (E := 241) (k := 2) H
  replace H := Js [0,0,1,1,1,0] 0 H
  refine call (KeysIter yl b x m (CJ L b2) ?_ (CJ_in (ks := []) H)) ?_
  · intro ks r rest w hlt H
    obtain ⟨a, c⟩ := r
    obtain ⟨v, H⟩ := CJ_out H
    have h1 := sls_one H
    subst hL
    replace H := Js [1,0,0] 0 H
    refine Yields_of (args := [rf (a, c)]) H rfl rfl ?_
    refine J22 H ?_
    clear H; intro b5 w H
    refine J7 H ?_
    clear H; intro w H
    refine Lp_nil ?_
    replace H := Js [1,1,0,0] 0 H
    refine ⟨rfl, _, H, fun w H => C_block ?_⟩
    refine J79 H ?_
    refine J55 H ?_
    refine J48 H ?_
    clear H; intro b10 w H
    replace H := Js [2,0,0,0,0] 0 H
    refine Lp_s rfl (St_append H rfl rfl (by repeat (first | exact Reads.nil _ | apply Reads.cons rfl)) rfl (by decide) (by simp only [rcells_length, List.length_cons, List.length_nil]; omega) rfl rfl ?_)
    clear H; intro v11 w H
    obtain ⟨a11, c11, rfl⟩ := sls_slice (m := ks.length + 1) H (by simp [rcells_length]; omega) (by decide)
    refine Lp_s rfl (St_store1 H rfl rfl inferInstance (sls_one H) (Nat.le_of_ble_eq_true rfl) rfl ?_)
    clear H; intro w H
    refine Lp_nil ?_
    replace H := Js [2,0,2] 2 H
    refine ⟨rfl, _, H, fun w H => ⟨rfl, CJ_in (v := .slice a11 (ks.length + 1) c11) ?_⟩⟩
    replace H := Js [1,0,0] 0 H
    rw [rcells_append]
    exact H
  · rintro v w' ⟨ks, hp, H⟩
    obtain ⟨v2, H⟩ := CJ_out H
    have h1 := sls_one H
    subst hL
    replace H := Js [1,0,0,0,0] 0 H
    refine ⟨_, H, fun w H => ?_⟩
    refine J79 H ?_
    refine J73 H ?_
    replace H := Js [3,0,1] 1 H
    exact C_ret (fn_end (ms := [D]) _ (.inr rfl) ((Holds.star (k := [pts D (.deferred (some []))])).2 H) rfl fun w' H' => ⟨ks, hp, H'⟩)

theorem rCollect_spec [Extra] (b : Nat) (x : Option Nat) (m : List (Rf × Int)) (hm : m.length ≤ 1000000) {w : World} {fr : List HProp} (H : Holds w (pts b (row 185 [.map x]) :: mpv kp v1 (.map x) m :: fr)) :
    Calls Tryz.prog 190 #[.func (.func 192) #[] #[pp b]] w
      (ret fun v w' => ∃ ks, ks.Perm (m.map (·.1)) ∧ Holds w' (sls 241 2 v (rcells ks) :: mpv kp v1 (.map x) m :: fr)) := by
  refine calls_of Tryz.func190 rfl (by kernel_rfl) ?_
  refine J159 H ?_
  refine Jc rfl rfl (rAppendSeq_spec b x m hm H) ?_
  rintro v w ⟨ks, hp, H⟩
  refine J73 H ?_
  exact C_ret (Jy H rfl fun w' H' => ⟨ks, hp, H'⟩)
end Go.Proofs.YtcaaojbnjfdglaaGreatDoor
namespace Go.Proofs.YtcaaojbnjfdglaaGreatDoor
open Go.SL

theorem risNaN_spec [Extra] (a : Int) (w : World) : Calls Tryz.prog 182 #[.int .i64 a] w (ret fun v w' => v = .bool false ∧ w' = w) := by
  refine calls_of Tryz.func182 rfl (by kernel_rfl) ?_
  repeat refine C_seq ?_
  refine C_region ?_
  refine Lp_pv rfl rfl ?_
  refine Lp_nil ?_
  repeat refine C_seq ?_
  refine C_region ?_
  refine Lp_pv rfl rfl ?_
  refine Lp_pv rfl rfl ?_
  refine Lp_pv rfl rfl ?_
  refine Lp_pv rfl rfl ?_
  refine Lp_nil ?_
  exact C_ret (fn_endX (.inr rfl) rfl ⟨by show Value.bool (a != a) = _; simp, rfl⟩)

def cmpI (a b : Int) : Int := if a < b then -1 else if b < a then 1 else 0

theorem rCompare_spec [Extra] (a b : Int) (w : World) : Calls Tryz.prog 162 #[.int .i64 a, .int .i64 b] w (ret fun v w' => v = .int .i64 (cmpI a b) ∧ w' = w) := by
  refine calls_of Tryz.func162 rfl (by kernel_rfl) ?_
  repeat refine C_seq ?_
  refine C_region ?_
  refine Lp_pv rfl rfl ?_
  refine Lp_nil ?_
  repeat refine C_seq ?_
  refine C_region ?_
  refine Lp_pv rfl rfl ?_
  refine Jc rfl rfl (risNaN_spec a _) ?_
  rintro v w' ⟨rfl, rfl⟩
  refine Lp_pv rfl rfl ?_
  refine Lp_nil ?_
  repeat refine C_seq ?_
  refine C_region ?_
  refine Lp_pv rfl rfl ?_
  refine Jc rfl rfl (risNaN_spec b _) ?_
  rintro v w' ⟨rfl, rfl⟩
  refine Lp_pv rfl rfl ?_
  refine Lp_nil ?_
  repeat refine C_seq ?_
  refine C_region ?_
  refine Lp_pv rfl rfl ?_
  refine Lp_nil ?_
  repeat refine C_seq ?_
  refine C_false rfl (C_skip ?_)
  repeat refine C_seq ?_
  refine C_region ?_
  refine Lp_pv rfl rfl ?_
  refine Lp_nil ?_
  repeat refine C_seq ?_
  refine C_false rfl (C_skip ?_)
  repeat refine C_seq ?_
  refine C_region ?_
  refine Lp_pv rfl rfl ?_
  refine Lp_pv rfl rfl ?_
  refine Lp_pv rfl rfl ?_
  refine Lp_nil ?_
  repeat refine C_seq ?_
  refine C_dec rfl (fun h => ?_) (fun h => C_skip ?_)
  · repeat refine C_seq ?_
    refine C_region ?_
    refine Lp_pv rfl rfl ?_
    refine Lp_nil ?_
    exact C_ret (fn_endX (.inr rfl) rfl ⟨by show Value.int .i64 (-1) = _; simp [cmpI, h], rfl⟩)
  · repeat refine C_seq ?_
    refine C_region ?_
    refine Lp_pv rfl rfl ?_
    refine Lp_pv rfl rfl ?_
    refine Lp_pv rfl rfl ?_
    refine Lp_nil ?_
    repeat refine C_seq ?_
    refine C_dec rfl (fun h2 => ?_) (fun h2 => C_skip ?_)
    · repeat refine C_seq ?_
      refine C_region ?_
      refine Lp_pv rfl rfl ?_
      refine Lp_nil ?_
      exact C_ret (fn_endX (.inr rfl) rfl ⟨by have : b < a := h2; show Value.int .i64 1 = _; simp [cmpI, h, this], rfl⟩)
    · repeat refine C_seq ?_
      refine C_region ?_
      refine Lp_pv rfl rfl ?_
      refine Lp_nil ?_
      exact C_ret (fn_endX (.inr rfl) rfl ⟨by have : ¬ b < a := h2; show Value.int .i64 0 = _; simp [cmpI, h, this], rfl⟩)

def orI (x y : Int) : Int := if x = 0 then y else x

theorem rOr_spec [Extra] (b : Nat) (x y : Int) {w : World} {fr : List HProp} (H : Holds w (pts b (row 3 [.int .i64 x, .int .i64 y]) :: fr)) :
    Calls Tryz.prog 161 #[.slice (some ⟨b, 0, none⟩) 2 2] w (ret fun v w' => v = .int .i64 (orI x y) ∧ w' = w) := by
  refine calls_of Tryz.func161 rfl (by kernel_rfl) ?_
  refine J183 H ?_
  refine J103 H ?_
  refine J14 H ?_
  refine J30 H ?_
  refine C_loop (fun ms σ w' n => ms = [] ∧ w' = w ∧ ∃ i : Nat, i ≤ 2 ∧ n = 2 - i ∧ σ 6 = .slice (some ⟨b, 0, none⟩) 2 2 ∧ σ 7 = .int .i64 2 ∧ σ 8 = .int .i64 i ∧ σ 3 = .int .i64 0 ∧ (1 ≤ i → x = 0) ∧ (2 ≤ i → y = 0)) (m := 2) ⟨rfl, rfl, 0, by omega, rfl, rfl, rfl, rfl, rfl, by omega, by omega⟩ ?_
  rintro ms σ w' n ⟨rfl, rfl, i, hi, rfl, h6, h7, h8, h3, hx, hy⟩
  rw [upd_self h6, upd_self h7, upd_self h8, upd_self h3]
  have h012 : i = 0 ∨ i = 1 ∨ i = 2 := by omega
  rcases h012 with rfl | rfl | rfl
  · refine J21 H ?_
    refine C_true rfl (C_skip ?_)
    refine J68 H ?_
    refine Lp_s rfl (St_indexAddr rfl rfl (by decide) (by decide) rfl ?_)
    refine J104 H ?_
    refine J171 H ?_
    refine J14 H ?_
    refine C_cond rfl (fun ht => ?_) (fun ht => C_skip ?_)
    · have hx0 : x ≠ 0 := by simpa using ht
      refine J3 H ?_
      exact C_ret (fn_endX (.inr rfl) rfl ⟨by show Value.int .i64 x = _; simp [orI, hx0], rfl⟩)
    · have hx0 : x = 0 := by simpa using ht
      refine J3 H ?_
      exact ⟨_, ⟨rfl, rfl, 1, by omega, rfl, rfl, rfl, rfl, rfl, by omega, by omega⟩, by omega⟩
  · refine J21 H ?_
    refine C_true rfl (C_skip ?_)
    refine J68 H ?_
    refine Lp_s rfl (St_indexAddr rfl rfl (by decide) (by decide) rfl ?_)
    refine J104 H ?_
    refine J171 H ?_
    refine J14 H ?_
    refine C_cond rfl (fun ht => ?_) (fun ht => C_skip ?_)
    · have hx0 : y ≠ 0 := by simpa using ht
      refine J3 H ?_
      exact C_ret (fn_endX (.inr rfl) rfl ⟨by show Value.int .i64 y = _; simp [orI, hx (by omega)], rfl⟩)
    · have hx0 : y = 0 := by simpa using ht
      refine J3 H ?_
      exact ⟨_, ⟨rfl, rfl, 2, by omega, rfl, rfl, rfl, rfl, rfl, by omega, by omega⟩, by omega⟩
  · refine J21 H ?_
    refine C_false rfl (C_exit ?_)
    refine J3 H ?_
    exact C_ret (fn_endX (.inr rfl) rfl ⟨by show Value.int .i64 0 = _; simp [orI, hx (by omega), hy (by omega)], rfl⟩)

def cmpR (x y : Rf) : Int := orI (cmpI x.1 y.1) (cmpI x.2 y.2)

open Go.Sort in
theorem rcmp_spec (x y : Rf) (w : World) : Calls Tryz.prog 160 #[rf x, rf y] w (ret fun v w' => v = .int .i64 (cmpR x y) ∧ ∃ q os', w' = grow (w.drewN q) os') := by
  obtain ⟨a, b⟩ := x
  obtain ⟨c, d⟩ := y
  letI : Extra := ⟨w.os, w.output⟩
  have H : Holds w [] := Holds.nil w ⟨rfl, rfl⟩
  refine calls_of Tryz.func160 rfl (by kernel_rfl) ?_
  repeat refine C_seq ?_
  refine C_region ?_
  refine Lp_s rfl (St_boxNX H rfl rfl ?_)
  clear H; intro b2 w1 e1 H
  refine Lp_s rfl (St_boxNX H rfl rfl ?_)
  clear H; intro b3 w2 e2 H
  refine Lp_pv rfl rfl ?_
  refine Lp_nil ?_
  repeat refine C_seq ?_
  refine C_drawX H mixed ?_
  clear H; intro w3 e3 H
  refine A_fieldAddr 0 rfl (Wants.none rfl) rfl (by kernel_rfl) ?_
  refine A_load1 1 [4, 9, 10, 11] H rfl (Wants.none rfl) rfl rfl (by kernel_rfl) ?_
  refine A_fieldAddr 2 rfl (Wants.none rfl) rfl (by kernel_rfl) ?_
  refine A_load1 3 [4, 9, 10, 11] H rfl (Wants.none rfl) rfl rfl (by kernel_rfl) ?_
  refine A_fieldAddr 5 rfl (Wants.none rfl) rfl (by kernel_rfl) ?_
  refine A_load1 6 [9, 10, 11] H rfl (Wants.none rfl) rfl rfl (by kernel_rfl) ?_
  refine A_fieldAddr 7 rfl (Wants.none rfl) rfl (by kernel_rfl) ?_
  refine A_load1 8 [9, 10, 11] H rfl (Wants.none rfl) rfl rfl (by kernel_rfl) ?_
  refine Jo 4 H ?_
  refine Jk rfl rfl (rCompare_spec a c _) ?_
  rintro v w' ⟨rfl, rfl⟩
  refine Jo 9 H ?_
  refine Jk rfl rfl (rCompare_spec b d _) ?_
  rintro v w' ⟨rfl, rfl⟩
  refine Jo 10 H ?_
  refine St_buildSliceX H rfl rfl rfl ?_
  clear H; intro b15 w5 e5 H
  refine Jo 11 H ?_
  refine Jk rfl rfl (rOr_spec b15 (cmpI a c) (cmpI b d) H) ?_
  rintro v w' ⟨rfl, rfl⟩
  refine A_pv 12 rfl (Wants.none rfl) rfl (by kernel_rfl) ?_
  refine A_end (by kernel_rfl) (by repeat first | exact .nil | refine .cons (.inr H.at) ?_ | refine .cons (.inr H.mp) ?_ | refine .cons (.inl (by kernel_rfl)) ?_) ?_
  have key : ∃ q os', w' = grow (w.drewN q) os' := by
    rw [e5, e3, e2, e1]
    simp only [alloc_eq_grow]
    exact ⟨1, _, by
      show grow (grow (grow (w.drewN 1) _) _) _ = _
      rw [grow_grow, grow_grow]⟩
  exact C_ret (fn_endX (.inr rfl) rfl ⟨rfl, key⟩)

def ltR (x y : Rf) : Prop := x.1 < y.1 ∨ x.1 = y.1 ∧ x.2 < y.2
instance (x y : Rf) : Decidable (ltR x y) := by unfold ltR; exact inferInstance

theorem cmpR_neg (x y : Rf) : cmpR x y < 0 ↔ ltR x y := by
  unfold cmpR orI cmpI ltR
  constructor
  · intro h
    repeat' split at h
    all_goals omega
  · intro h
    repeat' split
    all_goals omega

open Go.Sort in
theorem ltOf_cmpR (x y : Rf) : ltOf cmpR x y = decide (ltR x y) := by
  unfold ltOf
  rw [Bool.eq_iff_iff]
  simp [cmpR_neg]

open Go.Sort in
theorem swoR : SWO (ltOf cmpR) where
  irrefl x := by rw [ltOf_cmpR]; simp [ltR]
  trans x y z h1 h2 := by
    rw [ltOf_cmpR] at h1 h2 ⊢
    have h1 : ltR x y := of_decide_eq_true h1
    have h2 : ltR y z := of_decide_eq_true h2
    have h3 : ltR x z := by unfold ltR at *; omega
    exact decide_eq_true h3
  ntrans x y z h1 h2 := by
    rw [ltOf_cmpR] at h1 h2 ⊢
    have h1 : ¬ ltR x y := of_decide_eq_false h1
    have h2 : ¬ ltR y z := of_decide_eq_false h2
    have h3 : ¬ ltR x z := by unfold ltR at *; omega
    exact decide_eq_false h3

def encR (r : Rf) : List Value := [.int .i64 r.1, .int .i64 r.2]
theorem rcells_eq (l : List Rf) : rcells l = l.flatMap encR := rfl

/-- References in order, each once. -/
def Rising (l : List Rf) : Prop := l.Pairwise ltR

theorem rSortedFunc_spec [Extra] (b : Nat) (x : Option Nat) (m : List (Rf × Int)) (hm : m.length ≤ 1000000) (hn : (m.map (·.1)).Nodup) {w : World} {fr : List HProp} (H : Holds w (pts b (row 185 [.map x]) :: mpv kp v1 (.map x) m :: fr)) :
    Calls Tryz.prog 158 #[.func (.func 192) #[] #[pp b], .func (.func 160) #[] #[]] w
      (ret fun v w' => ∃ ks, ks.Perm (m.map (·.1)) ∧ Rising ks ∧ Holds w' (sls 241 2 v (rcells ks) :: mpv kp v1 (.map x) m :: fr)) := by
  refine calls_of Tryz.func158 rfl (by kernel_rfl) ?_
  refine J159 H ?_
  refine Jc rfl rfl (rCollect_spec b x m hm H) ?_
  rintro v w ⟨ks, hp, H⟩
  refine J73 H ?_
  refine J46 H ?_
  refine Lp_mv rfl rfl ?_
  refine J10 H ?_
  have hs := sortFunc_spec (k := 2) (enc := encR) Tryz.sortRef (t := 241) rfl inferInstance (by decide) (fun _ => rfl) (fun x v hv => by simp [encR] at hv; rcases hv with rfl | rfl <;> rfl) cmpR swoR (g := 160) inferInstance (fun x y W => (rcmp_spec x y W).mono fun e w' h => by
    cases e with
    | returned v => exact ⟨by rw [h.1], h.2⟩
    | panicked c => exact h.elim
    | outgrown => exact h.elim) H (by have := hp.length_eq; simp at this; omega)
  refine Jc rfl rfl (hs) ?_
  rintro v2 w ⟨ks2, hp2, hs2, H⟩
  refine Lp_nil ?_
  refine J46 H ?_
  refine Lp_mv rfl rfl ?_
  refine J73 H ?_
  have hp3 := hp2.trans hp
  refine C_ret (Jy H rfl fun w' H' => ⟨ks2, hp3, ?_, H'⟩)
  have hnd : ks2.Nodup := hp3.nodup_iff.2 hn
  refine (hs2.and hnd).imp ?_
  rintro a b ⟨h1, h2⟩
  rw [ltOf_cmpR] at h1
  have h3 : ¬ ltR b a := of_decide_eq_false h1
  unfold ltR at h3 ⊢
  have h4 : ¬ (a.1 = b.1 ∧ a.2 = b.2) := fun e => h2 (Prod.ext e.1 e.2)
  omega

theorem sorted_spec [Extra] (x : Option Nat) (m : List (Rf × Int)) (hm : m.length ≤ 1000000) (hn : (m.map (·.1)).Nodup) {w : World} {fr : List HProp} (H : Holds w (mpv kp v1 (.map x) m :: fr)) :
    Calls Tryz.prog 111 #[.map x] w
      (ret fun v w' => ∃ ks, ks.Perm (m.map (·.1)) ∧ Rising ks ∧ Holds w' (sls 241 2 v (rcells ks) :: mpv kp v1 (.map x) m :: fr)) := by
  refine calls_of Tryz.func111 rfl (by kernel_rfl) ?_
  refine J159 H ?_
  refine Jc rfl rfl (rKeys_spec x m H) ?_
  rintro v w ⟨b, rfl, H⟩
  
  refine Jc rfl rfl (rSortedFunc_spec b x m hm hn H) ?_
  rintro v w ⟨ks, hp, hs, H⟩
  refine J73 H ?_
  exact C_ret (Jy H rfl fun w' H' => ⟨ks, hp, hs, H'⟩)
end Go.Proofs.YtcaaojbnjfdglaaGreatDoor
namespace Go.Proofs.YtcaaojbnjfdglaaGreatDoor
open Go.SL

theorem mem_at {g1 g2 : List Gr} {g : Gr} (hn : ((g1 ++ g :: g2).map (·.key)).Nodup) {r : Rf} : mem (g1 ++ g :: g2) g.key r ↔ r ∈ g.m.map (·.1) := by
  rw [mem_mid]
  exact ⟨fun h => h.elim (·.2) fun h => absurd (mem_key h) (rest_key hn), fun h => .inl ⟨rfl, h⟩⟩

theorem mpv_some [Extra] {w : World} {K V : Type} {ek : K → Value} {vv : V → Value} {b : Nat} {m : List (K × V)} {l : List HProp} (H : Holds w (mpv ek vv (.map (some b)) m :: l)) : Holds w (mp ek vv b m :: l) := H.head fun h hm => by
  rcases hm with ⟨h, _⟩ | ⟨b', h, hm⟩
  · cases h
  · cases h; exact hm

theorem fnd_isSome_mem {K V : Type} [DecidableEq K] {m : List (K × V)} {x : K} (h : (fnd m x).isSome = true) : x ∈ m.map (·.1) := by
  cases hf : fnd m x with
  | none => rw [hf] at h; cases h
  | some v => exact List.mem_map_of_mem (f := (·.1)) (fnd_mem hf)

theorem rFrom_spec [Extra] (p : Nat) (m : List (Rf × Int)) (hm : m.length ≤ 1000000) (t : Int) {w : World} {fr : List HProp} (H : Holds w (RS p m :: fr)) :
    Calls Tryz.prog 43 #[pp p, .int .i64 t] w (ret fun v w' => ∃ ks, (∀ r, r ∈ ks ↔ (r.1 = t ∧ (fnd m r).isSome = true)) ∧ Rising ks ∧ Holds w' (sls 241 2 v (rcells ks) :: RS p m :: fr)) := by
  refine calls_of Tryz.func43 rfl (by kernel_rfl) ?_
  obtain ⟨bt, bo, bf, H⟩ := RS_out H
  refine J168 H ?_
  replace H := Js [3,0,0,0] 0 H
  obtain ⟨G, hG, H⟩ := GrR_out H
  refine Lp_s rfl (St_lookup (key := t) H rfl rfl tkI rfl ?_)
  have hn0 := keys_nodup bf H
  have hn : (G.map (·.key)).Nodup := by rw [← gkb_keys]; exact hn0
  cases hf : fnd (G.map gkb) t with
  | none =>
    replace H := mpv_nil kp v1 H
    refine Jc rfl rfl (sorted_spec none [] (by simp) (by simp) H) ?_
    rintro v w ⟨ks, hp, hs, H⟩
    refine J73 H ?_
    have hks : ks = [] := by simpa using hp
    subst hks
    replace H := Js [2,2,2,2,2,0] 1 H
    replace H := GrR_in G hG H
    replace H := Js [1,1,1,0,0] 0 H
    replace H := RS_in bt bo bf (fun _ _ => Iff.rfl) (fun _ _ => Iff.rfl) H
    refine C_ret (Jy H.swap rfl fun w' H' => ⟨[], fun r => ?_, hs, H'⟩)
    have h1 := fnd_eq_none.1 hf
    rw [gkb_keys] at h1
    exact ⟨fun h => by simp at h, fun h => absurd (mem_key ((hG t r).2 h)) h1⟩
  | some bi =>
    obtain ⟨g, g1, g2, rfl, rfl, rfl⟩ := group_at hf
    have H := (Holds.pick rfl).1 H.swap
    have hi := keys_nodup g.blk H
    have hlen : g.m.length ≤ 1000000 := by
      have := sub_length hi (l₂ := m.map (·.1)) (fun r hr => by
        have := (hG g.key r).1 ((mem_at hn).2 hr)
        exact fnd_isSome_mem this.2)
      simp at this
      omega
    replace H := mpv_of H
    refine Jc rfl rfl (sorted_spec (some g.blk) g.m hlen hi H) ?_
    rintro v w ⟨ks, hp, hs, H⟩
    refine J73 H ?_
    replace H := mpv_some H.swap
    replace H := Js [0,1,0,0,0,0,0] 0 H
    replace H := (Holds.pick (R := inner) (gs := g1 ++ g :: g2) rfl).2 H
    replace H := Js [2,0,1,1,1,0] 0 H
    replace H := GrR_in (g1 ++ g :: g2) hG H
    replace H := Js [1,1,1,0,0] 0 H
    replace H := RS_in bt bo bf (fun _ _ => Iff.rfl) (fun _ _ => Iff.rfl) H
    refine C_ret (Jy H.swap rfl fun w' H' => ⟨ks, fun r => ?_, hs, H'⟩)
    rw [hp.mem_iff, ← hG, mem_at hn]



theorem rcells_reads {ks : List Rf} {spare : List Value} {i : Nat} {r : Rf} (h : ks[i]? = some r) : Reads (rcells ks ++ spare) (0 + i * 2) 2 [.int .i64 r.1, .int .i64 r.2] := by
  have hl := rcells_length ks
  have hi := (List.getElem?_eq_some_iff.1 h).1
  have g : ∀ t, (rcells ks)[t]? = (ks[t / 2]?).bind fun x => (encR x)[t % 2]? := fun t => by rw [rcells_eq]; exact flatMap_get (k := 2) (fun _ => rfl) (by decide) ks t
  refine .cons ?_ (.cons ?_ (.nil _))
  · rw [List.getElem?_append_left (by omega), g, show (0 + i * 2) / 2 = i by omega, show (0 + i * 2) % 2 = 0 by omega, h]; rfl
  · rw [List.getElem?_append_left (by omega), g, show (0 + i * 2 + 1) / 2 = i by omega, show (0 + i * 2 + 1) % 2 = 1 by omega, h]; rfl

theorem rcells_nil {ks : List Rf} (h : rcells ks = []) : ks = [] := by
  have := rcells_length ks
  rw [h] at this
  exact List.eq_nil_of_length_eq_zero (by simp at this; omega)

theorem nodup_foldl_era : ∀ (ks : List Rf) {m : List (Rf × Int)}, (m.map (·.1)).Nodup → ((ks.foldl era m).map (·.1)).Nodup
  | [], _, h => h
  | k :: ks, _, h => nodup_foldl_era ks (nodup_era h)

theorem rForget_spec [Extra] (p : Nat) (m : List (Rf × Int)) (hn : (m.map (·.1)).Nodup) (hm : m.length ≤ 1000000) (t : Int) {w : World} {fr : List HProp} (H : Holds w (RS p m :: fr)) :
    Calls Tryz.prog 99 #[pp p, .int .i64 t] w (ret fun v w' => ∃ ks, (∀ r, r ∈ ks ↔ (r.1 = t ∧ (fnd m r).isSome = true)) ∧ Rising ks ∧ v = .int .i64 ks.length ∧ Holds w' (RS p (ks.foldl era m) :: fr)) := by
  refine calls_of Tryz.func99 rfl (by kernel_rfl) ?_
  refine J77 H ?_
  refine Jc rfl rfl (rFrom_spec p m hm t H) ?_
  rintro v w ⟨ks, hks, hs, H⟩
  refine J73 H ?_
  have hlen : ks.length ≤ 1000000 := by
    have hnd : ks.Nodup := hs.imp fun {a b} h e => by subst e; unfold ltR at h; omega
    have := sub_length hnd (l₂ := m.map (·.1)) fun r hr => fnd_isSome_mem ((hks r).1 hr).2
    simp at this
    omega
  rcases sls_case H with ⟨rfl, h0, H2⟩ | ⟨b, len, cap, spare, rfl, e3, e4, e5, H2⟩ <;> replace H := H2 <;> clear H2
  · have := rcells_nil h0
    subst this
    repeat refine C_seq ?_
    refine C_region ?_
    refine Lp_pv rfl rfl ?_
    refine Lp_s rfl (St_lenSlice rfl rfl ?_)
    refine Lp_pv rfl rfl ?_
    refine Lp_nil ?_
    repeat refine C_seq ?_
    refine C_block ?_
    refine C_loop (fun ms σ w n => ms = [] ∧ σ 12 = .int .i64 0 ∧ σ 13 = .int .i64 0 ∧ σ 5 = .slice none 0 0 ∧ Holds w (RS p m :: fr)) (m := 1) ⟨rfl, rfl, rfl, rfl, H⟩ ?_
    clear H
    rintro ms σ w n ⟨rfl, h12, h13, h5, H⟩
    rw [upd_self h12, upd_self h13, upd_self h5]
    refine J21 H ?_
    refine C_false rfl (C_exit ?_)
    refine J95 H ?_
    exact C_ret (Jy H rfl fun w' H' => ⟨[], hks, hs, rfl, H'⟩)
  · have hl2 : len = ks.length := by rw [rcells_length] at e3; omega
    subst hl2
    refine J119 H ?_
    refine C_loop (fun ms σ w n => ms = [] ∧ ∃ i : Nat, i ≤ ks.length ∧ n = ks.length - i ∧ σ 0 = pp p ∧ σ 11 = .slice (some ⟨b, 0, none⟩) ks.length cap ∧ σ 12 = .int .i64 ks.length ∧ σ 13 = .int .i64 i ∧ σ 5 = .slice (some ⟨b, 0, none⟩) ks.length cap ∧
      Holds w (RS p ((ks.take i).foldl era m) :: pts b (row 241 (rcells ks ++ spare)) :: fr)) (m := ks.length) ⟨rfl, 0, by omega, rfl, rfl, rfl, rfl, rfl, rfl, H.swap⟩ ?_
    clear H
    rintro ms σ w n ⟨rfl, i, hi, rfl, h0, h11, h12, h13, h5, H⟩
    rw [upd_self h0, upd_self h11, upd_self h12, upd_self h13, upd_self h5]
    refine J21 H ?_
    refine C_dec rfl (fun h => C_skip ?_) (fun h => C_exit ?_)
    · have hlt : i < ks.length := by omega
      have hr := List.getElem?_eq_getElem hlt
      generalize ks[i] = r at hr
      obtain ⟨a, c⟩ := r
      refine J68 H ?_
      refine Lp_s rfl (St_indexAddr rfl rfl (by omega) (by omega) rfl ?_)
      refine Lp_s rfl (St_loadN H rfl (rcells_reads hr) rfl ?_)
      refine J17 H ?_
      clear H; intro b7 w H
      refine J7 H ?_
      clear H; intro w H
      refine Lp_nil ?_
      refine J39 H ?_
      replace H := Js [1,1] 1 H
      refine Jc rfl rfl (rCut_spec p _ (nodup_foldl_era _ hn) (a, c) H) ?_
      clear H; rintro v w ⟨rfl, H⟩
      refine J128 H ?_
      refine ⟨_, ⟨rfl, i + 1, hlt, rfl, rfl, rfl, rfl, inc64 (by omega), rfl, ?_⟩, by omega⟩
      rw [List.take_add_one, hr]
      simpa using H
    · have hge : i = ks.length := by omega
      subst hge
      refine J95 H ?_
      rw [List.take_length] at H
      exact C_ret (Jy H.swap.drop rfl fun w' H' => ⟨ks, hks, hs, rfl, H'⟩)
end Go.Proofs.YtcaaojbnjfdglaaGreatDoor
namespace Go.Proofs.YtcaaojbnjfdglaaGreatDoor
open Go.SL

theorem ki_inj : ∀ a b : Int, ki .i64 a = ki .i64 b → a = b := fun a b h => by cases h; rfl
def kidB (par : List (Int × Int)) (id k : Int) : Bool := decide (fnd par k = some id)

theorem Kids_spec [Extra] (p last : Nat) (par : List (Int × Int)) (id : Int) (h0 : id = 0 ∨ (fnd par id).isSome = true) (hl : par.length ≤ 1000) {w : World} {fr : List HProp} (H : Holds w (TRE p last par :: fr)) :
    Calls Tryz.prog 72 #[pp p, .int .i64 id] w (ret fun v w' => ∃ u K, v = .tuple #[u, .int .i64 0] ∧ K.Perm ((par.map (·.1)).filter (kidB par id)) ∧ K.Pairwise (· ≤ ·) ∧ Holds w' (IL u K :: TRE p last par :: fr)) := by
  have hnd := TRE_keys H
  refine calls_of Tryz.func72 rfl (by kernel_rfl) ?_
  refine J233 H ?_
  refine Jc rfl rfl (need_spec p last par id H) ?_
  clear H; rintro v w ⟨rfl, H⟩
  refine J14 H ?_
  refine C_join (fun ms σ w => ms = [] ∧ σ 22 = .bool false ∧ σ 0 = pp p ∧ σ 1 = .int .i64 id ∧ Holds w (TRE p last par :: fr)) ?_ ?_
  · cases hf : (fnd par id).isSome with
    | true =>
      refine J9 H ?_
      refine J131 H ?_
      refine J92 H ?_
      refine Lp_no rfl rfl rfl ?_
      refine J0 H ?_
      exact ⟨rfl, rfl, rfl, rfl, rfl, H⟩
    | false =>
      obtain rfl : id = 0 := by
        rcases h0 with h | h
        · exact h
        · rw [hf] at h; cases h
      refine J9 H ?_
      refine J24 H ?_
      refine J169 H ?_
      refine J33 H ?_
      refine J33 H ?_
      refine J0 H ?_
      exact ⟨rfl, rfl, rfl, rfl, rfl, H⟩
  clear H
  rintro ms σ w ⟨rfl, g22, g0, g1, H⟩
  rw [upd_self g22, upd_self g0, upd_self g1]
  refine J234 H ?_
  obtain ⟨b, H⟩ := TRE_out H
  refine J51 H ?_
  replace H := mpv_of H.swap
  refine Lp_s rfl (St_range (ki .i64) v1 H rfl rfl ?_)
  clear H; intro bi w H
  refine Lp_nil ?_
  refine J12 H ?_
  refine C_joinQ (fun ms σ w => ms = [] ∧ ∃ (u : Value) (K : List Int), σ 7 = u ∧ K.Perm ((par.map (·.1)).filter (kidB par id)) ∧ Holds w (IL u K :: TRE p last par :: fr)) ?_ ?_
  · refine C_block ?_
    refine C_loop (fun ms σ w n => ms = [] ∧ ∃ (ks : List Int) (u : Value), ks.length ≤ par.length ∧ n = par.length - ks.length ∧ σ 1 = .int .i64 id ∧ σ 7 = u ∧ σ 28 = pp bi ∧ Holds w (IL u (ks.filter (kidB par id)) :: mit (ki .i64) v1 (.map (some b)) par bi ks :: pts p (row 214 [.map (some b), .int .i64 last]) :: fr)) (m := par.length) ⟨rfl, [], _, by simp, rfl, rfl, rfl, rfl, sls_nil H⟩ ?_
    clear H
    rintro ms σ w n ⟨rfl, ks, u, hkl, rfl, g1, g7, g28, H⟩
    obtain ⟨au, mu, cu, rfl⟩ := sls_any H
    rw [upd_self g1, upd_self g7, upd_self g28]
    refine J46 H ?_
    refine Lp_s rfl (St_next H.swap ki_inj rfl rfl (fun hp w H => ?_) (fun q hq hn hnd2 hsub w H => ?_))
    · refine J14 H ?_
      refine C_false rfl (C_exit ?_)
      replace H := mpv_some (mit_mpv H)
      replace H := Js [1,1,0] 0 H
      have H2 : Holds w (TRE p last par :: IL (.slice au mu cu) (ks.filter (kidB par id)) :: fr) := TRE_in (by replace H := Holds.sel [1, 1, 0] 0 H; dsimp only [SL.sel, SL.pull, List.drop] at H; exact H)
      exact .inl ⟨rfl, rfl, _, _, rfl, hp.filter _, H2.swap⟩
    · have hlt : ks.length < par.length := by
        have h1 : (ks ++ [q.1]).Nodup := by
          rw [List.nodup_append]
          exact ⟨hnd2, by simp, fun c hc c' hc' e0 => by simp at hc'; subst hc'; subst e0; exact hn hc⟩
        have h2 := sub_length h1 (l₂ := par.map (·.1)) (fun z hz => by
          rcases List.mem_append.1 hz with hz | hz
          · exact hsub z hz
          · simp at hz; subst hz; exact List.mem_map.2 ⟨q, hq, rfl⟩)
        simp at h2
        omega
      have hfq : fnd par q.1 = some q.2 := (fnd_iff hnd).2 hq
      refine J14 H ?_
      refine C_true rfl (C_skip ?_)
      refine C_block ?_
      refine J46 H ?_
      refine Lp_s rfl (St_entry H ki_inj hq rfl rfl ?_)
      refine J170 H ?_
      obtain ⟨k, t⟩ := q
      refine J15 H ?_
      by_cases ht : t = id
      · have hk : kidB par id k = true := by unfold kidB; rw [hfq, ht]; simp
        rw [show (t == id) = true by simpa using ht]
        refine J11 H ?_
        refine J217 H ?_
        clear H; intro b39 w H
        replace H := Js [2,0,0,0] 0 H
        have hle := List.length_filter_le (kidB par id) ks
        refine Lp_s rfl (St_append H rfl rfl (by repeat (first | exact Reads.nil _ | apply Reads.cons rfl)) rfl (by decide) (by rw [icells_length]; simp only [List.length_cons, List.length_nil]; omega) rfl rfl ?_)
        clear H; intro v40 w H
        obtain ⟨a40, m40, c40, rfl⟩ := sls_any H
        refine J0 H ?_
        replace H := Js [0,1,1] 1 H
        refine ⟨_, ⟨rfl, ks ++ [k], _, by simp; omega, rfl, rfl, rfl, rfl, ?_⟩, by simp; omega⟩
        rw [List.filter_append, show [k].filter (kidB par id) = [k] by simp [hk]]
        show Holds w (sls _ 1 _ (icells (ks.filter (kidB par id) ++ [k])) :: _)
        rw [icells_append]
        exact H
      · have hk : kidB par id k = false := by unfold kidB; rw [hfq]; simp; exact ht
        rw [show (t == id) = false by simpa using ht]
        refine J8 H ?_
        refine ⟨_, ⟨rfl, ks ++ [k], .slice au mu cu, by simp; omega, rfl, rfl, rfl, rfl, ?_⟩, by simp; omega⟩
        rw [List.filter_append, show [k].filter (kidB par id) = [] by simp [hk], List.append_nil]
        replace H := Js [1,0,0] 0 H
        exact H
  · clear H
    rintro ms σ w ⟨rfl, u, K, g7, hK, H⟩
    have hKl : K.length ≤ 1000 := by
      have h1 := hK.length_eq
      have h2 := List.length_filter_le (kidB par id) (par.map (·.1))
      simp at h2
      omega
    obtain ⟨au, cu, rfl⟩ := sls_slice H (icells_length K) (by decide)
    rw [upd_self g7]
    refine J20 H ?_
    refine Jc rfl rfl (Sort_spec _ K (by omega) H) ?_
    clear H; rintro v w ⟨rfl, H⟩
    refine Lp_nil ?_
    refine J15 H ?_
    refine C_ret (Jy H rfl fun w' H' => ⟨_, _, rfl, (List.mergeSort_perm K _).trans hK, ?_, H'⟩)
    have := List.pairwise_mergeSort (le := fun x y : Int => decide (x ≤ y)) (fun a b c h1 h2 => by simp at *; omega) (fun a b => by simp; omega) K
    exact this.imp (fun h => by simpa using h)
end Go.Proofs.YtcaaojbnjfdglaaGreatDoor
namespace Go.Proofs.YtcaaojbnjfdglaaGreatDoor
open Go.SL

theorem Same_spec [Extra] (va vb : Value) (a b : List Int) (hl : a.length ≤ 1000000) {w : World} {fr : List HProp} (H : Holds w (IL va a :: IL vb b :: fr)) :
    Calls Tryz.prog 32 #[va, vb] w (ret fun v w' => v = .bool (decide (a = b)) ∧ Holds w' (IL va a :: IL vb b :: fr)) := by
  obtain ⟨aa, ca, rfl⟩ := sls_slice H (icells_length a) (by decide)
  obtain ⟨ab, cb, rfl⟩ := sls_slice H.drop (icells_length b) (by decide)
  refine calls_of Tryz.func32 rfl (by kernel_rfl) ?_
  refine J23 H ?_
  refine J103 H ?_
  refine J10 H ?_
  refine Lp_s rfl (St_lenSlice rfl rfl ?_)
  refine J0 H ?_
  by_cases hlen : a.length = b.length
  · rw [show ((a.length : Int) != (b.length : Int)) = false by simp; omega]
    refine J8 H ?_
    refine J262 H ?_
    refine C_loop (fun ms σ w q => ms = [] ∧ ∃ i : Nat, i ≤ a.length ∧ q = a.length - i ∧ a.take i = b.take i ∧ σ 0 = .slice aa a.length ca ∧ σ 1 = .slice ab b.length cb ∧ σ 5 = .int .i64 i ∧ Holds w (IL (.slice aa a.length ca) a :: IL (.slice ab b.length cb) b :: fr)) (m := a.length) ⟨rfl, 0, by omega, rfl, by simp, rfl, rfl, rfl, H⟩ ?_
    clear H
    rintro ms σ w q ⟨rfl, i, hi, rfl, heq, g0, g1, g5, H⟩
    rw [upd_self g0, upd_self g1, upd_self g5]
    refine J6 H ?_
    refine J162 H ?_
    refine C_dec rfl (fun h => C_skip ?_) (fun h => C_exit ?_)
    · have hlt : i < a.length := by omega
      have hlt2 : i < b.length := by omega
      have hx := List.getElem?_eq_getElem hlt
      have hy := List.getElem?_eq_getElem hlt2
      generalize a[i] = x at hx
      generalize b[i] = y at hy
      obtain ⟨ba, sa, rfl, H, hca⟩ := sls_open H (by omega)
      obtain ⟨bb, sb, rfl, H, hcb⟩ := sls_open H.swap (by omega)
      have c1 : (icells a ++ sa)[0 + i * 1]? = some (.int .i64 x) := by
        rw [Nat.zero_add, Nat.mul_one, List.getElem?_append_left (by simpa [icells] using hlt)]
        simp [icells, hx]
      have c2 : (icells b ++ sb)[0 + i * 1]? = some (.int .i64 y) := by
        rw [Nat.zero_add, Nat.mul_one, List.getElem?_append_left (by simpa [icells] using hlt2)]
        simp [icells, hy]
      refine J30 H ?_
      refine J1 H ?_
      clear H; intro w H
      refine J258 H ?_
      refine A_indexAddr 2 rfl (Wants.none rfl) rfl rfl (by omega) (by omega) (by kernel_rfl) ?_
      refine A_load1 3 [] H rfl (Wants.none rfl) rfl c1 (by kernel_rfl) ?_
      refine J87 H ?_
      refine A_indexAddr 6 rfl (Wants.none rfl) rfl rfl (by omega) (by omega) (by kernel_rfl) ?_
      refine A_load1 7 [] H rfl (Wants.none rfl) rfl c2 (by kernel_rfl) ?_
      refine J134 H ?_
      replace H := hcb _ _ H
      replace H := hca _ _ H.swap
      by_cases hxy : x = y
      · rw [show (x != y) = false by simpa using hxy]
        refine J210 H ?_
        refine ⟨_, ⟨rfl, i + 1, hlt, rfl, ?_, rfl, rfl, inc64 (by omega), H⟩, by omega⟩
        rw [List.take_add_one, List.take_add_one, hx, hy, heq, hxy]
      · rw [show (x != y) = true by simpa using hxy]
        refine J31 H ?_
        refine C_ret (Jy H rfl fun w' H' => ⟨?_, H'⟩)
        have hne : a ≠ b := by
          rintro rfl
          rw [hx] at hy
          injection hy with hy
          exact hxy hy
        rw [decide_eq_false hne]
        rfl
    · have hge : i = a.length := by omega
      subst hge
      rw [List.take_length, hlen, List.take_length] at heq
      refine J23 H ?_
      exact C_ret (Jy H rfl fun w' H' => ⟨by rw [decide_eq_true heq]; rfl, H'⟩)
  · rw [show ((a.length : Int) != (b.length : Int)) = true by simp; omega]
    refine J31 H ?_
    refine C_ret (Jy H rfl fun w' H' => ⟨?_, H'⟩)
    have hne : a ≠ b := by rintro rfl; exact hlen rfl
    rw [decide_eq_false hne]
    rfl

theorem dDecode_spec [Extra] (v : Value) (ws : List Nat) (hws : ∀ x ∈ ws, x < 18446744073709551616) {w : World} {fr : List HProp} (hr : RdS fr v ws.length 1 (ucells ws)) (H : Holds w fr) :
    Calls Tryz.prog 39 #[v] w (ret fun r w' => (decodeL ws = none ∧ r = .tuple #[layV 0 (.slice none 0 0) 0 (.slice none 0 0), .bool false] ∧ Holds w' fr) ∨
      ∃ l vr vq, decodeL ws = some l ∧ r = .tuple #[layV l.fixed vr l.record vq, .bool true] ∧ Holds w' (NL vr l.refs :: NL vq l.recs :: fr)) := by
  obtain ⟨_, ad, cap, rfl, hr'⟩ := id hr
  refine calls_of Tryz.func39 rfl (by kernel_rfl) ?_
  refine J22 H ?_
  clear H; intro b2 w H
  refine J0 H ?_
  refine J103 H ?_
  refine J10 H ?_
  by_cases h3 : ws.length = 3
  · obtain ⟨x, y, z, rfl⟩ : ∃ x y z, ws = [x, y, z] := by
      match ws, h3 with
      | [x, y, z], _ => exact ⟨x, y, z, rfl⟩
    have hx := hws x (by simp)
    have hy := hws y (by simp)
    have hz := hws z (by simp)
    rcases hr' with h | ⟨b, o, E, fz, c, rfl, hA, hrd⟩
    · cases h
    haveI := hA
    have c0 : c[o + 0 * 1]? = some (.int .u64 x) := by have := hrd.get 0 (.int .u64 x) (by simp [ucells]); simpa using this
    have c1 : c[o + 1 * 1]? = some (.int .u64 y) := by have := hrd.get 1 (.int .u64 y) (by simp [ucells]); simpa using this
    have c2 : c[o + 2 * 1]? = some (.int .u64 z) := by have := hrd.get 2 (.int .u64 z) (by simp [ucells]); simpa using this
    rw [show ((([x, y, z] : List Nat).length : Int) != 3) = false from rfl]
    refine J144 H ?_
    refine Lp_g rfl rfl rfl (St_indexAddr rfl rfl (by omega) (by show (0 : Int) < (3 : Nat); omega) rfl ?_)
    refine Lp_g rfl rfl rfl (St_load1 H rfl c0 rfl ?_)
    refine J24 H ?_
    by_cases hb : x < 65536
    · rw [show decide ((x : Int) ≥ 65536) = false from decide_eq_false (by omega)]
      refine J18 H ?_
      have m8 : Int.tmod (x : Int) 256 = ((x % 256 : Nat) : Int) := by rw [Int.tmod_eq_emod_of_nonneg (by omega)]; omega
      have q8 : IntKind.u64.wrap (Int.tdiv (x : Int) 256) = ((x / 256 : Nat) : Int) := by
        rw [Int.tdiv_eq_ediv_of_nonneg (by omega), show (x : Int) / 256 = ((x / 256 : Nat) : Int) by omega, wrapU_nat (by omega)]
      have w8 : IntKind.i64.wrap ((x % 256 : Nat) : Int) = ((x % 256 : Nat) : Int) := wrapI_nat (by omega)
      have v8 : IntKind.i64.wrap ((x / 256 : Nat) : Int) = ((x / 256 : Nat) : Int) := wrapI_nat (by omega)
      refine J12 H ?_
      refine C_joinQ (fun ms σ w => ms = [] ∧ ∃ b4 va vb, σ 2 = pp b2 ∧ σ 4 = pp b4 ∧
        Holds w (pts b4 (row 101 [.int .i64 ((x % 256 : Nat) : Int), va, .int .i64 ((x / 256 : Nat) : Int), vb]) :: NL va (bitsTo y 64) :: NL vb (bitsTo z 64) :: pts b2 (row 101 [.int .i64 0, .slice none 0 0, .int .i64 0, .slice none 0 0]) :: fr)) ?_ ?_
      · refine J1 H ?_
        clear H; intro w H
        refine J83 H ?_
        refine A_indexAddr 1 rfl (Wants.none rfl) rfl rfl (by omega) (by show (0 : Int) < (3 : Nat); omega) (by kernel_rfl) ?_
        refine A_load1 2 [20] H rfl (Wants.none rfl) rfl c0 (by kernel_rfl) ?_
        refine J60 H ?_
        refine A_convI 4 rfl (Wants.none rfl) rfl (by kernel_rfl) ?_
        refine J44 H ?_
        refine A_indexAddr 6 rfl (Wants.none rfl) rfl rfl (by omega) (by show (1 : Int) < (3 : Nat); omega) (by kernel_rfl) ?_
        refine A_load1 7 [8] H rfl (Wants.none rfl) rfl c1 (by kernel_rfl) ?_
        refine J40 H ?_
        refine A_indexAddr 10 rfl (Wants.none rfl) rfl rfl (by omega) (by show (0 : Int) < (3 : Nat); omega) (by kernel_rfl) ?_
        refine A_load1 11 [20] H rfl (Wants.none rfl) rfl c0 (by kernel_rfl) ?_
        refine J133 H ?_
        refine A_convI 13 rfl (Wants.none rfl) rfl (by kernel_rfl) ?_
        refine J156 H ?_
        refine A_indexAddr 15 rfl (Wants.none rfl) rfl rfl (by omega) (by show (2 : Int) < (3 : Nat); omega) (by kernel_rfl) ?_
        refine A_load1 16 [17] H rfl (Wants.none rfl) rfl c2 (by kernel_rfl) ?_
        rw [m8, q8, w8, v8]
        refine A_two 8 19 rfl rfl (by kernel_rfl) (by repeat first | exact .nil | refine .cons (.inr H.at) ?_ | refine .cons (.inr H.mp) ?_ | refine .cons (.inl (by kernel_rfl)) ?_) (Wants.none rfl) (Wants.none rfl) (St_call (a := []) (b := []) rfl rfl (call (places_spec y hy H) ?_)) (St_alloc H rfl ?_)
        · clear H; intro va w H
          obtain ⟨aa, ma, ca, rfl⟩ := sls_any H
          refine A_two 17 19 rfl rfl (by kernel_rfl) (by repeat first | exact .nil | refine .cons (.inr H.at) ?_ | refine .cons (.inr H.mp) ?_ | refine .cons (.inl (by kernel_rfl)) ?_) (Wants.none rfl) (Wants.none rfl) (St_call (a := []) (b := []) rfl rfl (call (places_spec z hz H) ?_)) (St_alloc H rfl ?_)
          · clear H; intro vb w H
            obtain ⟨ab, mb, cb, rfl⟩ := sls_any H
            refine A_build 18 rfl (Wants.none rfl) rfl (by kernel_rfl) ?_
            refine Jo 19 H ?_
            refine St_alloc H rfl ?_
            clear H; intro b4 w H
            refine Jo 20 H ?_
            refine J35 H ?_
            clear H; intro w H
            refine J2 H ?_
            replace H := Js [0,1,0,0] 0 H
            exact .inl ⟨rfl, rfl, b4, _, _, rfl, rfl, H⟩
          · clear H; intro b4 w H
            refine Jo 17 H ?_
            refine Jk rfl rfl (places_spec z hz H) ?_
            clear H; intro vb w H
            obtain ⟨ab, mb, cb, rfl⟩ := sls_any H
            refine A_build 18 rfl (Wants.none rfl) rfl (by kernel_rfl) ?_
            refine Jo 20 H ?_
            refine J35 H ?_
            clear H; intro w H
            refine J2 H ?_
            replace H := Js [1,1,0,0] 0 H
            exact .inl ⟨rfl, rfl, b4, _, _, rfl, rfl, H⟩
        · clear H; intro b4 w H
          refine Jo 8 H ?_
          refine Jk rfl rfl (places_spec y hy H) ?_
          clear H; intro va w H
          obtain ⟨aa, ma, ca, rfl⟩ := sls_any H
          refine Jo 17 H ?_
          refine Jk rfl rfl (places_spec z hz H) ?_
          clear H; intro vb w H
          obtain ⟨ab, mb, cb, rfl⟩ := sls_any H
          refine A_build 18 rfl (Wants.none rfl) rfl (by kernel_rfl) ?_
          refine Jo 20 H ?_
          refine J35 H ?_
          clear H; intro w H
          refine J2 H ?_
          replace H := Js [2,1,0,0] 0 H
          exact .inl ⟨rfl, rfl, b4, _, _, rfl, rfl, H⟩
      · clear H
        rintro ms σ w ⟨rfl, b4, va, vb, g2, g4, H⟩
        rw [upd_self g2, upd_self g4]
        have hla := bitsTo_len y 64
        have hlb := bitsTo_len z 64
        obtain ⟨aa, ca, rfl⟩ := sls_slice (H.drop) (ncells_length (bitsTo y 64)) (by decide)
        obtain ⟨ab, cb, rfl⟩ := sls_slice (H.drop.drop) (ncells_length (bitsTo z 64)) (by decide)
        refine J29 H ?_
        replace H := Js [1,1,0,0] 0 H
        obtain ⟨D1, H, hD1, hC1⟩ := sls_rd H (ncells_length (bitsTo y 64)) (by decide)
        obtain ⟨D2, H, hD2, hC2⟩ := sls_rd H.swap (ncells_length (bitsTo z 64)) (by decide)
        refine Jc rfl rfl (dRight_spec _ _ (layOf x y z) ⟨by show x % 256 ≤ _; omega, by show x / 256 ≤ _; omega, by show (bitsTo y 64).length ≤ _; omega, by show (bitsTo z 64).length ≤ _; omega⟩ ⟨(hD1 _).there, hD2 _⟩ H) ?_
        clear H; rintro v w ⟨⟨q, rfl, hq⟩, H⟩
        have H := (hC1 _ _ (hC2 _ _ H).swap)
        refine J0 H ?_
        cases q with
        | true =>
          refine J34 H ?_
          refine J86 H ?_
          clear H; intro w H
          refine J0 H ?_
          replace H := Js [3,0,0] 1 H
          refine C_ret (Jz H (fun w' H' => .cellN H' rfl (by repeat (first | exact Reads.nil _ | apply Reads.cons rfl)) (.tmp .nil)) fun w' H' => .inr ⟨layOf x y z, _, _, ?_, rfl, H'.drop⟩)
          rw [decodeL3, if_pos ⟨hb, hq.1 rfl⟩]
        | false =>
          refine J3 H ?_
          refine J148 H ?_
          clear H; intro w H
          refine J0 H ?_
          replace H := Js [3] 3 H
          refine C_ret (Jz H (fun w' H' => .cellN H' rfl (by repeat (first | exact Reads.nil _ | apply Reads.cons rfl)) (.tmp .nil)) fun w' H' => .inl ⟨?_, rfl, H'.drop⟩)
          rw [decodeL3, if_neg]
          rintro ⟨_, h2⟩
          have := hq.2 h2
          cases this
    · rw [show decide ((x : Int) ≥ 65536) = true from decide_eq_true (by omega)]
      refine J74 H ?_
      clear H; intro w H
      refine J0 H ?_
      refine C_ret (Jz H (fun w' H' => .cellN H' rfl (by repeat (first | exact Reads.nil _ | apply Reads.cons rfl)) (.tmp .nil)) fun w' H' => .inl ⟨?_, rfl, H'.drop⟩)
      rw [decodeL3, if_neg]
      rintro ⟨h1, _⟩
      exact hb h1
  · have hd : decodeL ws = none := by
      match ws with
      | [] => rfl
      | [_] => rfl
      | [_, _] => rfl
      | [_, _, _] => exact absurd rfl h3
      | _ :: _ :: _ :: _ :: _ => rfl
    rw [show ((ws.length : Int) != 3) = true by simp; omega]
    refine J10 H ?_
    refine J93 H ?_
    refine J74 H ?_
    clear H; intro w H
    refine J0 H ?_
    exact C_ret (Jz H (fun w' H' => .cellN H' rfl (by repeat (first | exact Reads.nil _ | apply Reads.cons rfl)) (.tmp .nil)) fun w' H' => .inl ⟨hd, rfl, H'.drop⟩)
end Go.Proofs.YtcaaojbnjfdglaaGreatDoor
namespace Go.Proofs.YtcaaojbnjfdglaaGreatDoor
open Go.SL

def liveP (P : List Int) (id : Int) : Bool := decide (0 < id ∧ id < P.length ∧ 0 ≤ P.getD id.toNat 0)
def idsTo (P : List Int) (f : Int → Bool) (k : Nat) : List Nat := (List.range k).filter fun i => decide (1 ≤ i) && f (P.getD i 0)
def allP (P : List Int) : List Nat := idsTo P (fun q => decide (0 ≤ q)) P.length
def kidsP (P : List Int) (id : Int) : List Nat := idsTo P (fun q => q == id) P.length
theorem idsTo_succ (P : List Int) (f : Int → Bool) (k : Nat) (hk : 1 ≤ k) : idsTo P f (k + 1) = idsTo P f k ++ if f (P.getD k 0) then [k] else [] := by
  unfold idsTo
  rw [List.range_succ, List.filter_append]
  congr 1
  simp only [List.filter_cons, List.filter_nil, decide_eq_true hk, Bool.true_and]
theorem idsTo_one (P : List Int) (f : Int → Bool) : idsTo P f 1 = [] := rfl
theorem idsTo_len (P : List Int) (f : Int → Bool) (k : Nat) : (idsTo P f k).length ≤ k := by
  have := List.length_filter_le (fun i => decide (1 ≤ i) && f (P.getD i 0)) (List.range k)
  simpa [idsTo] using this
theorem idsTo_mem {P : List Int} {f : Int → Bool} {k i : Nat} : i ∈ idsTo P f k ↔ i < k ∧ 1 ≤ i ∧ f (P.getD i 0) = true := by
  unfold idsTo
  simp [List.mem_filter]
theorem idsTo_sorted (P : List Int) (f : Int → Bool) (k : Nat) : (idsTo P f k).Pairwise (· < ·) := List.Pairwise.filter _ List.pairwise_lt_range

def RTR (p : Nat) (P : List Int) : HProp := ex fun v : Value => star [pts p (row 211 [v]), IL v P]
theorem RTR_out [Extra] {w : World} {p : Nat} {P : List Int} {l : List HProp} (H : Holds w (RTR p P :: l)) : ∃ a c, Holds w (pts p (row 211 [.slice a P.length c]) :: IL (.slice a P.length c) P :: l) := by
  obtain ⟨v, H⟩ := Holds.ex.1 H
  have H := Holds.star.1 H
  obtain ⟨a, c, rfl⟩ := sls_slice H.drop (icells_length P) (by decide)
  exact ⟨a, c, H⟩
theorem RTR_in [Extra] {w : World} {p : Nat} {P : List Int} {v : Value} {l : List HProp} (H : Holds w (pts p (row 211 [v]) :: IL v P :: l)) : Holds w (RTR p P :: l) :=
  Holds.ex.2 ⟨v, Holds.star.2 H⟩

theorem dNew_spec [Extra] {w : World} {fr : List HProp} (H : Holds w fr) : Calls Tryz.prog 113 #[] w (ret fun v w' => ∃ p, v = pp p ∧ Holds w' (RTR p [-1] :: fr)) := by
  refine calls_of Tryz.func113 rfl (by kernel_rfl) ?_
  refine J163 H ?_
  refine J48 H ?_
  clear H; intro b1 w H
  refine J50 H ?_
  clear H; intro b3 w H
  refine J0 H ?_
  have H := sls_lit (len := 1) (k := 1) (by rfl) H.swap
  exact C_ret (Jy H.swap rfl fun w' H' => ⟨_, rfl, RTR_in (P := [-1]) H'⟩)

theorem icell_at {P : List Int} {s : List Value} {i : Nat} (h : i < P.length) : (icells P ++ s)[0 + i * 1]? = some (.int .i64 (P.getD i 0)) := by
  rw [Nat.zero_add, Nat.mul_one, List.getElem?_append_left (by simpa [icells] using h)]
  simp [icells, h]

theorem dLive_spec [Extra] (p : Nat) (P : List Int) (id : Int) {w : World} {fr : List HProp} (H : Holds w (RTR p P :: fr)) :
    Calls Tryz.prog 163 #[pp p, .int .i64 id] w (ret fun v w' => v = .bool (liveP P id) ∧ Holds w' (RTR p P :: fr)) := by
  obtain ⟨a, c, H⟩ := RTR_out H
  refine calls_of Tryz.func163 rfl (by kernel_rfl) ?_
  refine J77 H ?_
  by_cases h1 : id > 0
  · rw [show decide (id > 0) = true from decide_eq_true (by omega)]
    refine J96 H ?_
    by_cases h2 : id < (P.length : Int)
    · rw [show decide (id < (P.length : Int)) = true from decide_eq_true (by omega)]
      obtain ⟨k, rfl⟩ : ∃ k : Nat, id = k := ⟨id.toNat, by omega⟩
      obtain ⟨b, s, rfl, H, hclose⟩ := sls_open H.swap (by omega)
      have hc := icell_at (P := P) (s := s) (i := k) (by omega)
      refine J172 H ?_
      refine Lp_g rfl rfl rfl (St_indexAddr rfl rfl (by omega) (by omega) rfl ?_)
      refine Lp_g rfl rfl rfl (St_load1 H rfl hc rfl ?_)
      refine J62 H ?_
      replace H := (hclose _ _ H).swap
      refine C_ret (Jy (RTR_in H) rfl fun w' H' => ⟨?_, H'⟩)
      show Value.bool (decide (P.getD k 0 ≥ 0)) = _
      unfold liveP
      congr 1
      rw [decide_eq_decide, Int.toNat_natCast]
      exact ⟨fun h => ⟨h1, h2, h⟩, fun h => h.2.2⟩
    · rw [show decide (id < (P.length : Int)) = false from decide_eq_false (by omega)]
      refine J135 H ?_
      refine J4 H ?_
      refine C_ret (Jy (RTR_in H) rfl fun w' H' => ⟨?_, H'⟩)
      show Value.bool false = _
      unfold liveP
      rw [decide_eq_false (fun h => h2 h.2.1)]
  · rw [show decide (id > 0) = false from decide_eq_false (by omega)]
    refine J161 H ?_
    refine J135 H ?_
    refine J4 H ?_
    refine C_ret (Jy (RTR_in H) rfl fun w' H' => ⟨?_, H'⟩)
    show Value.bool false = _
    unfold liveP
    rw [decide_eq_false (fun h => h1 h.1)]

theorem All_spec [Extra] (p : Nat) (P : List Int) (hl : P.length ≤ 1000000) {w : World} {fr : List HProp} (H : Holds w (RTR p P :: fr)) :
    Calls Tryz.prog 71 #[pp p] w (ret fun v w' => Holds w' (NL v (allP P) :: RTR p P :: fr)) := by
  refine calls_of Tryz.func71 rfl (by kernel_rfl) ?_
  refine J215 H ?_
  refine C_loop (fun ms σ w n => ms = [] ∧ ∃ (i : Nat) (g : Value), 1 ≤ i ∧ (i ≤ P.length ∨ i = 1) ∧ n = P.length - i ∧ σ 0 = pp p ∧ σ 3 = g ∧ σ 4 = .int .i64 i ∧ Holds w (NL g (idsTo P (fun q => decide (0 ≤ q)) i) :: RTR p P :: fr)) (m := P.length - 1) ⟨rfl, 1, _, by omega, .inr rfl, rfl, rfl, rfl, rfl, sls_nil H⟩ ?_
  clear H
  rintro ms σ w n ⟨rfl, i, g, hi1, hi2, rfl, g0, g3, g4, H⟩
  obtain ⟨ag, mg, cg, rfl⟩ := sls_any H
  obtain ⟨a, c, H⟩ := RTR_out H.swap
  rw [upd_self g0, upd_self g3, upd_self g4]
  refine J150 H ?_
  refine J162 H ?_
  refine C_dec rfl (fun h => C_skip ?_) (fun h => C_exit ?_)
  · have hlt : i < P.length := by omega
    obtain ⟨b, s, rfl, H, hclose⟩ := sls_open H.swap (by omega)
    have hc := icell_at (P := P) (s := s) (i := i) (by omega)
    have hnx := idsTo_succ P (fun q => decide (0 ≤ q)) i hi1
    generalize P.getD i 0 = y at hc hnx
    refine J30 H ?_
    refine J13 H ?_
    refine Lp_s rfl (St_indexAddr rfl rfl (by omega) (by omega) rfl ?_)
    refine Lp_s rfl (St_load1 H rfl hc rfl ?_)
    refine J0 H ?_
    replace H := RTR_in (hclose _ _ H).swap
    refine J12 H ?_
    refine C_dec rfl (fun h => ?_) (fun h => C_skip ?_)
    · rw [if_pos (by simpa using h)] at hnx
      refine J217 H ?_
      clear H; intro b24 w H
      replace H := Js [2,0,0] 0 H
      refine Lp_s rfl (St_append H rfl rfl (by repeat (first | exact Reads.nil _ | apply Reads.cons rfl)) rfl (by decide) (by rw [ncells_length]; have := idsTo_len P (fun q => decide (0 ≤ q)) i; simp only [List.length_cons, List.length_nil]; omega) rfl rfl ?_)
      clear H; intro v25 w H
      obtain ⟨a25, m25, c25, rfl⟩ := sls_any H
      refine J216 H ?_
      replace H := Js [0,1] 1 H
      refine ⟨_, ⟨rfl, i + 1, _, by omega, .inl hlt, rfl, rfl, rfl, inc64 (by omega), ?_⟩, by omega⟩
      rw [hnx]
      show Holds w (sls _ 1 _ (ncells (_ ++ [i])) :: _)
      rw [ncells_append]
      exact H
    · rw [if_neg (by simpa using h), List.append_nil] at hnx
      refine J15 H ?_
      exact ⟨_, ⟨rfl, i + 1, _, by omega, .inl hlt, rfl, rfl, rfl, inc64 (by omega), by rw [hnx]; exact H.swap⟩, by omega⟩
  · have he : idsTo P (fun q => decide (0 ≤ q)) i = allP P := by
      unfold allP
      rcases hi2 with h1 | rfl
      · rw [show i = P.length by omega]
      · rw [idsTo_one]
        symm
        rw [List.eq_nil_iff_forall_not_mem]
        intro x hx
        have := idsTo_mem.1 hx
        omega
    rw [he] at H
    refine J3 H ?_
    have H := (RTR_in H).swap
    exact C_ret (Jy H rfl fun w' H' => H')

theorem dKids_spec [Extra] (p : Nat) (P : List Int) (id : Int) (hl : P.length ≤ 1000000) {w : World} {fr : List HProp} (H : Holds w (RTR p P :: fr)) :
    Calls Tryz.prog 73 #[pp p, .int .i64 id] w (ret fun v w' => Holds w' (NL v (kidsP P id) :: RTR p P :: fr)) := by
  refine calls_of Tryz.func73 rfl (by kernel_rfl) ?_
  refine J215 H ?_
  refine C_loop (fun ms σ w n => ms = [] ∧ ∃ (i : Nat) (g : Value), 1 ≤ i ∧ (i ≤ P.length ∨ i = 1) ∧ n = P.length - i ∧ σ 0 = pp p ∧ σ 1 = .int .i64 id ∧ σ 5 = g ∧ σ 6 = .int .i64 i ∧ Holds w (NL g (idsTo P (fun q => q == id) i) :: RTR p P :: fr)) (m := P.length - 1) ⟨rfl, 1, _, by omega, .inr rfl, rfl, rfl, rfl, rfl, rfl, sls_nil H⟩ ?_
  clear H
  rintro ms σ w n ⟨rfl, i, g, hi1, hi2, rfl, g0, g1, g3, g4, H⟩
  obtain ⟨ag, mg, cg, rfl⟩ := sls_any H
  obtain ⟨a, c, H⟩ := RTR_out H.swap
  rw [upd_self g0, upd_self g1, upd_self g3, upd_self g4]
  refine J150 H ?_
  refine J162 H ?_
  refine C_dec rfl (fun h => C_skip ?_) (fun h => C_exit ?_)
  · have hlt : i < P.length := by omega
    obtain ⟨b, s, rfl, H, hclose⟩ := sls_open H.swap (by omega)
    have hc := icell_at (P := P) (s := s) (i := i) (by omega)
    have hnx := idsTo_succ P (fun q => q == id) i hi1
    generalize P.getD i 0 = y at hc hnx
    refine J30 H ?_
    refine J13 H ?_
    refine Lp_s rfl (St_indexAddr rfl rfl (by omega) (by omega) rfl ?_)
    refine Lp_s rfl (St_load1 H rfl hc rfl ?_)
    refine J4 H ?_
    replace H := RTR_in (hclose _ _ H).swap
    refine J12 H ?_
    refine C_dec rfl (fun h => ?_) (fun h => C_skip ?_)
    · rw [if_pos (by simpa using h)] at hnx
      refine J217 H ?_
      clear H; intro b27 w H
      replace H := Js [2,0,0] 0 H
      refine Lp_s rfl (St_append H rfl rfl (by repeat (first | exact Reads.nil _ | apply Reads.cons rfl)) rfl (by decide) (by rw [ncells_length]; have := idsTo_len P (fun q => q == id) i; simp only [List.length_cons, List.length_nil]; omega) rfl rfl ?_)
      clear H; intro v25 w H
      obtain ⟨a25, m25, c25, rfl⟩ := sls_any H
      refine J216 H ?_
      replace H := Js [0,1] 1 H
      refine ⟨_, ⟨rfl, i + 1, _, by omega, .inl hlt, rfl, rfl, rfl, rfl, inc64 (by omega), ?_⟩, by omega⟩
      rw [hnx]
      show Holds w (sls _ 1 _ (ncells (_ ++ [i])) :: _)
      rw [ncells_append]
      exact H
    · rw [if_neg (by simpa using h), List.append_nil] at hnx
      refine J15 H ?_
      exact ⟨_, ⟨rfl, i + 1, _, by omega, .inl hlt, rfl, rfl, rfl, rfl, inc64 (by omega), by rw [hnx]; exact H.swap⟩, by omega⟩
  · have he : idsTo P (fun q => q == id) i = kidsP P id := by
      unfold kidsP
      rcases hi2 with h1 | rfl
      · rw [show i = P.length by omega]
      · rw [idsTo_one]
        symm
        rw [List.eq_nil_iff_forall_not_mem]
        intro x hx
        have := idsTo_mem.1 hx
        omega
    rw [he] at H
    refine J3 H ?_
    have H := (RTR_in H).swap
    exact C_ret (Jy H rfl fun w' H' => H')

/-- What Add answers: the error. -/
def dErr (P : List Int) (parent : Int) : Nat := if parent ≠ 0 ∧ liveP P parent = false then 6 else if 64 ≤ (allP P).length then 5 else 0

theorem dAdd_spec [Extra] (p : Nat) (P : List Int) (parent : Int) (hl : P.length ≤ 100000) (h1 : 1 ≤ P.length) {w : World} {fr : List HProp} (H : Holds w (RTR p P :: fr)) :
    Calls Tryz.prog 114 #[pp p, .int .i64 parent] w (ret fun v w' => (dErr P parent ≠ 0 ∧ v = .tuple #[.int .i64 0, .int .i64 (dErr P parent)] ∧ Holds w' (RTR p P :: fr)) ∨
      (dErr P parent = 0 ∧ v = .tuple #[.int .i64 P.length, .int .i64 0] ∧ Holds w' (RTR p (P ++ [parent]) :: fr))) := by
  refine calls_of Tryz.func114 rfl (by kernel_rfl) ?_
  refine J233 H ?_
  refine Jc rfl rfl (dLive_spec p P parent H) ?_
  clear H; rintro v w ⟨rfl, H⟩
  generalize hlv : liveP P parent = lv
  refine J14 H ?_
  refine C_join (fun ms σ w => ms = [] ∧ (∃ q, σ 16 = .bool q ∧ (q = true ↔ parent ≠ 0 ∧ liveP P parent = false)) ∧ σ 0 = pp p ∧ σ 1 = .int .i64 parent ∧ Holds w (RTR p P :: fr)) ?_ ?_
  · refine J6 H ?_
    by_cases h0 : parent = 0
    · rw [show (parent != 0) = false by simpa using h0]
      refine J10 H ?_
      refine J94 H ?_
      refine J0 H ?_
      exact ⟨rfl, rfl, ⟨false, rfl, by simp [h0]⟩, rfl, rfl, H⟩
    · rw [show (parent != 0) = true by simpa using h0]
      refine J63 H ?_
      refine J0 H ?_
      exact ⟨rfl, rfl, ⟨!lv, rfl, by simp [h0, hlv]⟩, rfl, rfl, H⟩
  clear H
  rintro ms σ w ⟨rfl, ⟨q, g16, hq⟩, g0, g1, H⟩
  rw [upd_self g16, upd_self g0, upd_self g1]
  cases q with
  | true =>
    have he : dErr P parent = 6 := by unfold dErr; rw [if_pos (hq.1 rfl)]
    refine J25 H ?_
    exact C_ret (Jy H rfl fun w' H' => .inl ⟨by omega, by rw [he]; rfl, H'⟩)
  | false =>
    have hq' : ¬ (parent ≠ 0 ∧ liveP P parent = false) := fun h => by have := hq.2 h; cases this
    refine J8 H ?_
    refine J20 H ?_
    refine Jc rfl rfl (All_spec p P (by omega) H) ?_
    clear H; intro v w H
    obtain ⟨aa, ca, rfl⟩ := sls_slice H (ncells_length _) (by decide)
    refine J0 H ?_
    refine J95 H ?_
    by_cases h64 : 64 ≤ (allP P).length
    · have he : dErr P parent = 5 := by unfold dErr; rw [if_neg hq', if_pos h64]
      rw [show decide (((allP P).length : Int) ≥ 64) = true from decide_eq_true (by omega)]
      refine J25 H ?_
      exact C_ret (Jy H.drop rfl fun w' H' => .inl ⟨by omega, by rw [he]; rfl, H'⟩)
    · have he : dErr P parent = 0 := by unfold dErr; rw [if_neg hq', if_neg h64]
      rw [show decide (((allP P).length : Int) ≥ 64) = false from decide_eq_false (by omega)]
      refine J8 H ?_
      replace H := H.drop
      obtain ⟨a, c, H⟩ := RTR_out H
      refine J231 H ?_
      refine J48 H ?_
      clear H; intro b28 w H
      replace H := Js [2,0,0] 0 H
      refine Lp_s rfl (St_append H rfl rfl (by repeat (first | exact Reads.nil _ | apply Reads.cons rfl)) rfl (by decide) (by rw [icells_length]; simp only [List.length_cons, List.length_nil]; omega) rfl rfl ?_)
      clear H; intro v29 w H
      have e1 : icells P ++ [.int .i64 parent] = icells (P ++ [parent]) := by rw [icells_append]; rfl
      rw [e1] at H
      obtain ⟨a29, c29, rfl⟩ := sls_slice H (icells_length _) (by decide)
      refine J56 H ?_
      clear H; intro w H
      refine Lp_nil ?_
      refine J112 H ?_
      refine J27 H ?_
      refine J0 H ?_
      replace H := Js [2,0] 1 H
      refine C_ret (Jy (RTR_in H) rfl fun w' H' => .inr ⟨he, ?_, H'⟩)
      show Value.tuple #[.int .i64 (IntKind.i64.wrap (((P ++ [parent]).length : Int) - 1)), _] = _
      rw [show (P ++ [parent]).length = P.length + 1 by simp, wrap64 (by omega) (by omega), show (((P.length + 1 : Nat) : Int)) - 1 = (P.length : Int) by omega]
      rfl
end Go.Proofs.YtcaaojbnjfdglaaGreatDoor
