/- Cells: what is proved on the way: every input of the statement; no condition. Texts joined: StoA StoB LayP LayA LayB LayC. -/
import Derived.Test.YtipelpbkeiphmaaGreatDoorBaf
import Derived.Test.YtipelpbkeiphmaaGreatDoorBag
import Derived.Test.YtipelpbkeiphmaaGreatDoorBae
set_option linter.unusedVariables false
set_option linter.unusedSimpArgs false
set_option linter.unusedSectionVars false
namespace Go.Proofs.YtipelpbkeiphmaaGreatDoor
open Go.SL

def ncells (l : List Nat) : List Value := l.map fun x : Nat => Value.int .i64 (x : Int)
theorem ncells_length (l : List Nat) : (ncells l).length = l.length * 1 := by simp [ncells]
theorem ncells_append (a b : List Nat) : ncells (a ++ b) = ncells a ++ ncells b := by simp [ncells]
theorem ncells_get {l : List Nat} {spare : List Value} {i x : Nat} (h : l[i]? = some x) : (ncells l ++ spare)[0 + i * 1]? = some (.int .i64 x) := by
  have hi := (List.getElem?_eq_some_iff.1 h).1
  rw [Nat.zero_add, Nat.mul_one, List.getElem?_append_left (by simpa [ncells] using hi)]
  simp [ncells, h]
theorem ncells_set {l : List Nat} {spare : List Value} {i x : Nat} (h : i < l.length) : (ncells l ++ spare).set (0 + i * 1) (.int .i64 x) = ncells (l.set i x) ++ spare := by
  rw [Nat.zero_add, Nat.mul_one, List.set_append_left _ _ (by simpa [ncells] using h)]
  simp [ncells, List.map_set]
theorem ucells_set {l : List Nat} {spare : List Value} {i x : Nat} (h : i < l.length) : (ucells l ++ spare).set (0 + i * 1) (.int .u64 x) = ucells (l.set i x) ++ spare := by
  rw [Nat.zero_add, Nat.mul_one, List.set_append_left _ _ (by simpa [ucells] using h)]
  simp [ucells, List.map_set]
@[reducible] def NL (v : Value) (l : List Nat) : HProp := sls 3 1 v (ncells l)

theorem quoN {a b : Nat} (h : a < 9223372036854775808) : IntKind.i64.wrap (Int.tdiv (a : Int) (b : Int)) = ((a / b : Nat) : Int) := by
  have hle : a / b ≤ a := Nat.div_le_self _ _
  rw [Int.tdiv_eq_ediv_of_nonneg (by omega), ← Int.natCast_ediv]
  generalize a / b = q at hle
  exact wrap64 (by omega) (by omega)

structure STok (size : Nat) (mem own ws : List Nat) (many : Nat) : Prop where
  s1 : 1 ≤ size
  s2 : size ≤ 1024
  c1 : 1 ≤ own.length
  c2 : own.length ≤ 1024
  len : mem.length = own.length * size
  many : many = (own.filter (· != 0)).length
  one : own.length ≤ 63 → ∃ x, ws = [x] ∧ x < 2 ^ own.length ∧ ∀ c, c < own.length → x.testBit c = decide (own.getD c 0 ≠ 0)

theorem cntB_own : ∀ (own : List Nat) (x : Nat), (∀ c, c < own.length → x.testBit c = decide (own.getD c 0 ≠ 0)) → cntB own.length x = (own.filter (· != 0)).length
  | own, x, h => by
    unfold cntB
    have e : (List.range own.length).filter (fun i => x.testBit i) = (List.range own.length).filter (fun i => own.getD i 0 != 0) := by
      apply List.filter_congr
      intro i hi
      rw [List.mem_range] at hi
      show x.testBit i = (own.getD i 0 != 0)
      rw [h i hi]
      generalize own.getD i 0 = z
      cases z <;> simp
    rw [e]
    clear e h
    have : ∀ (l : List Nat), ((List.range l.length).filter (fun i => l.getD i 0 != 0)).length = (l.filter (· != 0)).length := by
      intro l
      have e2 : l.filter (· != 0) = ((List.range l.length).filter (fun i => l.getD i 0 != 0)).map (fun i => l.getD i 0) := by
        have e3 : l = (List.range l.length).map (fun i => l.getD i 0) := by
          apply List.ext_getElem?
          intro i
          by_cases hi : i < l.length
          · rw [List.getElem?_map, List.getElem?_range hi, List.getElem?_eq_getElem hi]
            simp [hi]
          · rw [List.getElem?_eq_none (by omega), List.getElem?_eq_none (by simp; omega)]
        conv => lhs; rw [e3]
        rw [List.filter_map]
        rfl
      rw [e2, List.length_map]
    exact this own

/-- A store: words of a chunk, the words, the chunks' owners. -/
def ST (p size : Nat) (mem own : List Nat) : HProp := ex fun q : Value × Value × Nat × List Nat × Nat =>
  star [prop (STok size mem own q.2.2.2.1 q.2.2.2.2), pts p (row 213 [q.1, .int .i64 size, q.2.1, pp q.2.2.1]), UL q.1 mem, NL q.2.1 own, BM q.2.2.1 own.length q.2.2.2.1 q.2.2.2.2]
theorem ST_out [Extra] {w : World} {p size : Nat} {mem own : List Nat} {l : List HProp} (H : Holds w (ST p size mem own :: l)) : ∃ v v2 u ws many, STok size mem own ws many ∧
    Holds w (pts p (row 213 [v, .int .i64 size, v2, pp u]) :: UL v mem :: NL v2 own :: BM u own.length ws many :: l) := by
  obtain ⟨⟨v, v2, u, ws, many⟩, H⟩ := Holds.ex.1 H
  have H := Holds.star.1 H
  obtain ⟨h, H⟩ := Holds.prop.1 H
  exact ⟨v, v2, u, ws, many, h, H⟩
theorem ST_in [Extra] {w : World} {p size : Nat} {mem own : List Nat} {l : List HProp} {v v2 : Value} {u : Nat} {ws : List Nat} {many : Nat} (h : STok size mem own ws many)
    (H : Holds w (pts p (row 213 [v, .int .i64 size, v2, pp u]) :: UL v mem :: NL v2 own :: BM u own.length ws many :: l)) : Holds w (ST p size mem own :: l) :=
  Holds.ex.2 ⟨(v, v2, u, ws, many), Holds.star.2 (Holds.prop.2 ⟨h, H⟩)⟩

theorem sNew_spec [Extra] (n size : Nat) (h1 : 1 ≤ n) (h2 : n ≤ 1024) (h3 : 1 ≤ size) (h4 : size ≤ 1024) {w : World} {fr : List HProp} (H : Holds w fr) :
    Calls Tryz.prog 186 #[.int .i64 n, .int .i64 size] w (ret fun v w' => ∃ p, v = .tuple #[pp p, .int .i64 0] ∧ Holds w' (ST p size (List.replicate (n * size) 0) (List.replicate n 0) :: fr)) := by
  have hns : n * size ≤ 1048576 := Nat.mul_le_mul h2 h4
  refine calls_of Tryz.func186 rfl (by kernel_rfl) ?_
  refine J5 H ?_
  refine J10 H ?_
  rw [show decide ((n : Int) < 1) = false from decide_eq_false (by omega)]
  refine J58 H ?_
  rw [show decide ((n : Int) > 1024) = false from decide_eq_false (by omega)]
  refine J58 H ?_
  rw [show decide ((size : Int) < 1) = false from decide_eq_false (by omega)]
  refine J24 H ?_
  refine J0 H ?_
  rw [show decide ((size : Int) > 1024) = false from decide_eq_false (by omega)]
  refine J9 H ?_
  refine J16 H ?_
  refine Jc rfl rfl (bNew_spec n (by omega) (by omega) H) ?_
  clear H; rintro v w ⟨u, rfl, H⟩
  refine J136 H ?_
  clear H; intro w H
  refine J73 H ?_
  refine J92 H ?_
  refine J79 H ?_
  refine J89 H ?_
  have e1 : IntKind.i64.wrap ((n : Int) * (size : Int)) = ((n * size : Nat) : Int) := by
    rw [← Int.natCast_mul, wrap64 (by omega) (by omega)]
  rw [e1]
  have hok : STok size (List.replicate (n * size) 0) (List.replicate n 0) (List.replicate (((List.replicate n 0).length + 63) / 64) 0) 0 := by
    refine ⟨h3, h4, by simpa using h1, by simpa using h2, by simp, by simp, fun h => ⟨0, ?_, Nat.two_pow_pos _, fun c hc => ?_⟩⟩
    · have : ((List.replicate n 0 : List Nat).length + 63) / 64 = 1 := by simp at h ⊢; omega
      rw [this]; rfl
    · have hc' : c < n := by simpa using hc
      simp [Nat.zero_testBit, hc']
  have z1 : zeros (cellsL (.int .u64 0)) (n * size) = ucells (List.replicate (n * size) 0) := by
    rw [show cellsL (.int .u64 0) = [.int .u64 0] from rfl, zeros1]; simp [ucells]
  have z2 : zeros (cellsL (.int .i64 0)) n = ncells (List.replicate n 0) := by
    rw [show cellsL (.int .i64 0) = [.int .i64 0] from rfl, zeros1]; simp [ncells]
  have hl : (List.replicate n 0 : List Nat).length = n := by simp
  rw [hl] at hok
  refine A_two 3 6 rfl rfl (by kernel_rfl) (by repeat first | exact .nil | refine .cons (.inr H.at) ?_ | refine .cons (.inr H.mp) ?_ | refine .cons (.inl (by kernel_rfl)) ?_) (Wants.none rfl) (Wants.none rfl) (St_makeSlice H rfl rfl (by decide) (by omega) rfl ?_) (St_makeSlice H rfl rfl (by decide) (by omega) rfl ?_)
  · clear H; intro b30 w H
    rw [z1] at H
    refine Jo 6 H ?_
    refine St_makeSlice H rfl rfl (by decide) (by omega) rfl ?_
    clear H; intro b33 w H
    rw [z2] at H
    refine A_build 8 rfl (Wants.none rfl) rfl (by kernel_rfl) ?_
    refine Jo 9 H ?_
    refine St_boxN H rfl rfl ?_
    clear H; intro b36 w H
    refine J74 H ?_
    refine J36 H ?_
    replace H := Js [0,1,0,0] 0 H
    have H := ST_in (own := List.replicate n 0) hok (by rw [hl]; exact H)
    exact C_ret (Jy H rfl fun w' H' => ⟨_, rfl, H'⟩)
  · clear H; intro b33 w H
    rw [z2] at H
    refine Jo 3 H ?_
    refine St_makeSlice H rfl rfl (by decide) (by omega) rfl ?_
    clear H; intro b30 w H
    rw [z1] at H
    refine A_build 8 rfl (Wants.none rfl) rfl (by kernel_rfl) ?_
    refine Jo 9 H ?_
    refine St_boxN H rfl rfl ?_
    clear H; intro b36 w H
    refine J74 H ?_
    refine J36 H ?_
    have H := ST_in (own := List.replicate n 0) hok (by rw [hl]; exact H)
    exact C_ret (Jy H rfl fun w' H' => ⟨_, rfl, H'⟩)

theorem Words_spec [Extra] (p size : Nat) (mem own : List Nat) {w : World} {fr : List HProp} (H : Holds w (ST p size mem own :: fr)) : Calls Tryz.prog 96 #[pp p] w (ret fun v w' => v = .int .i64 size ∧ Holds w' (ST p size mem own :: fr)) := by
  obtain ⟨v, v2, u, ws, many, hok, H⟩ := ST_out H
  refine calls_of Tryz.func96 rfl (by kernel_rfl) ?_
  refine J110 H ?_
  refine J0 H ?_
  exact C_ret (Jy (ST_in hok H) rfl fun w' H' => ⟨rfl, H'⟩)

/-- From an address on so many words are owned. -/
def Owned (size : Nat) (own : List Nat) (a n : Nat) : Prop := ∀ c, a / size ≤ c → c ≤ (a + n - 1) / size → own.getD c 0 ≠ 0

theorem at_spec [Extra] (p size : Nat) (mem own : List Nat) (a n : Nat) (h1 : 1 ≤ n) (h2 : a + n ≤ mem.length) (h3 : Owned size own a n) {w : World} {fr : List HProp} (H : Holds w (ST p size mem own :: fr)) :
    Calls Tryz.prog 246 #[pp p, .int .i64 a, .int .i64 n] w (ret fun v w' => v = .int .i64 0 ∧ Holds w' (ST p size mem own :: fr)) := by
  obtain ⟨v, v2, u, ws, many, hok, H⟩ := ST_out H
  have hok' := hok
  obtain ⟨s1, s2, c1, c2, hlen, _, _⟩ := hok'
  have hmem : mem.length ≤ 1048576 := by rw [hlen]; exact Nat.mul_le_mul c2 s2
  have hdiv : (a + n - 1) / size < own.length := by
    rw [Nat.div_lt_iff_lt_mul (by omega), ← hlen]; omega
  have hdd : a / size ≤ (a + n - 1) / size := Nat.div_le_div_right (by omega)
  obtain ⟨a1, k1, rfl⟩ := sls_slice (H.drop) (ucells_length mem) (by decide)
  obtain ⟨a2, k2, rfl⟩ := sls_slice (H.drop.drop) (ncells_length own) (by decide)
  refine calls_of Tryz.func246 rfl (by kernel_rfl) ?_
  refine J12 H ?_
  refine J10 H ?_
  rw [show decide ((n : Int) < 0) = false from decide_eq_false (by omega)]
  refine J58 H ?_
  rw [show decide ((a : Int) < 0) = false from decide_eq_false (by omega)]
  refine J180 H ?_
  refine J11 H ?_
  rw [show decide ((a : Int) > (mem.length : Int)) = false from decide_eq_false (by omega)]
  refine Lp_gpv rfl rfl rfl rfl ?_
  refine Lp_gpv rfl rfl rfl rfl ?_
  refine Lp_gpv rfl rfl rfl rfl ?_
  refine Lp_g rfl rfl rfl (St_fieldAddr rfl rfl ?_)
  refine Lp_g rfl rfl rfl (St_load1 H rfl rfl rfl ?_)
  refine Lp_g rfl rfl rfl (St_lenSlice rfl rfl ?_)
  refine J80 H ?_
  refine J0 H ?_
  rw [show decide ((n : Int) > IntKind.i64.wrap ((mem.length : Int) - (a : Int))) = false from decide_eq_false (by rw [wrap64 (by omega) (by omega)]; omega)]
  refine J9 H ?_
  refine J5 H ?_
  rw [show ((n : Int) == 0) = false by simp; omega]
  refine J9 H ?_
  refine J66 H ?_
  refine Lp_pv (v := .int .i64 ((a / size : Nat) : Int)) (by
    show (if IntKind.i64 = IntKind.i64 then (if (size : Int) = 0 then none else some _) else none) = _
    rw [if_pos rfl, if_neg (by omega), quoN (by omega)]) rfl ?_
  refine J49 H ?_
  refine C_loop (fun ms σ w q => ms = [] ∧ ∃ c : Nat, a / size ≤ c ∧ c ≤ (a + n - 1) / size + 1 ∧ q = (a + n - 1) / size + 1 - c ∧ σ 0 = pp p ∧ σ 1 = .int .i64 a ∧ σ 2 = .int .i64 n ∧ σ 7 = .int .i64 c ∧ Holds w (pts p (row 213 [.slice a1 mem.length k1, .int .i64 size, .slice a2 own.length k2, pp u]) :: UL (.slice a1 mem.length k1) mem :: NL (.slice a2 own.length k2) own :: BM u own.length ws many :: fr)) (m := (a + n - 1) / size + 1 - a / size) ⟨rfl, a / size, Nat.le_refl _, by omega, rfl, rfl, rfl, rfl, rfl, H⟩ ?_
  clear H
  rintro ms σ w q ⟨rfl, c, hc1, hc2, rfl, g0, g1, g2, g7, H⟩
  rw [upd_self g0, upd_self g1, upd_self g2, upd_self g7]
  refine J2 H ?_
  refine J30 H ?_
  refine J7 H ?_
  refine J38 H ?_
  rw [wrap64 (x := (a : Int) + (n : Int)) (by omega) (by omega), wrap64 (x := (a : Int) + (n : Int) - 1) (by omega) (by omega), show (a : Int) + (n : Int) - 1 = ((a + n - 1 : Nat) : Int) by omega]
  refine Lp_pv (v := .int .i64 (((a + n - 1) / size : Nat) : Int)) (by
    show (if IntKind.i64 = IntKind.i64 then (if (size : Int) = 0 then none else some _) else none) = _
    rw [if_pos rfl, if_neg (by omega), quoN (by omega)]) rfl ?_
  refine J15 H ?_
  refine C_dec rfl (fun h => C_skip ?_) (fun h => C_exit ?_)
  · have hcl : c < own.length := by omega
    have hx := List.getElem?_eq_getElem hcl
    have hne : (own.getD c 0 : Nat) ≠ 0 := h3 c hc1 (by omega)
    have hg : own.getD c 0 = own[c] := by simp [hcl]
    rw [hg] at hne
    generalize own[c] = y at hx hne
    replace H := Js [2,0,0,0] 0 H
    obtain ⟨b, s, rfl, H, hclose⟩ := sls_open H (by omega)
    refine J21 H ?_
    refine J18 H ?_
    refine Lp_s rfl (St_indexAddr rfl rfl (by omega) (by omega) rfl ?_)
    refine Lp_s rfl (St_load1 H rfl (ncells_get hx) rfl ?_)
    refine J0 H ?_
    rw [show ((y : Int) == 0) = false by simp; omega]
    refine J9 H ?_
    replace H := hclose _ _ H
    replace H := Js [1,1,0,0] 0 H
    refine J20 H ?_
    exact ⟨_, ⟨rfl, c + 1, by omega, by omega, rfl, rfl, rfl, rfl, inc64 (by omega), H⟩, by omega⟩
  · refine J12 H ?_
    exact C_ret (Jy (ST_in hok H) rfl fun w' H' => ⟨rfl, H'⟩)
end Go.Proofs.YtipelpbkeiphmaaGreatDoor
namespace Go.Proofs.YtipelpbkeiphmaaGreatDoor
open Go.SL

theorem Read_spec [Extra] (p size : Nat) (mem own : List Nat) (a : Nat) (h2 : a < mem.length) (h3 : Owned size own a 1) {w : World} {fr : List HProp} (H : Holds w (ST p size mem own :: fr)) :
    Calls Tryz.prog 212 #[pp p, .int .i64 a] w (ret fun v w' => v = .tuple #[.int .u64 (mem.getD a 0), .int .i64 0] ∧ Holds w' (ST p size mem own :: fr)) := by
  refine calls_of Tryz.func212 rfl (by kernel_rfl) ?_
  refine J140 H ?_
  refine J2 H ?_
  refine Jc rfl rfl (at_spec p size mem own a 1 (by decide) (by omega) h3 H) ?_
  clear H; rintro v w ⟨rfl, H⟩
  refine J50 H ?_
  obtain ⟨v, v2, u, ws, many, hok, H⟩ := ST_out H
  have H := H.swap
  obtain ⟨a1, c1, rfl⟩ := sls_slice H (ucells_length mem) (by decide)
  obtain ⟨b, s, rfl, H, hclose⟩ := sls_open H (by omega)
  have hx := List.getElem?_eq_getElem h2
  have hg : mem.getD a 0 = mem[a] := by simp [h2]
  rw [hg]
  generalize mem[a] = x at hx
  refine J18 H ?_
  refine Lp_s rfl (St_indexAddr rfl rfl (by omega) (by omega) rfl ?_)
  refine Lp_s rfl (St_load1 H rfl (ucells_get hx) rfl ?_)
  refine J3 H ?_
  exact C_ret (Jy (ST_in hok (hclose _ _ H).swap) rfl fun w' H' => ⟨rfl, H'⟩)

theorem STok.mem {size : Nat} {mem mem' own ws : List Nat} {many : Nat} (h : STok size mem own ws many) (e : mem'.length = mem.length) : STok size mem' own ws many := ⟨h.s1, h.s2, h.c1, h.c2, e.trans h.len, h.many, h.one⟩

theorem Write_spec [Extra] (p size : Nat) (mem own : List Nat) (a x : Nat) (h2 : a < mem.length) (h3 : Owned size own a 1) {w : World} {fr : List HProp} (H : Holds w (ST p size mem own :: fr)) :
    Calls Tryz.prog 168 #[pp p, .int .i64 a, .int .u64 x] w (ret fun v w' => v = .int .i64 0 ∧ Holds w' (ST p size (mem.set a x) own :: fr)) := by
  refine calls_of Tryz.func168 rfl (by kernel_rfl) ?_
  refine J141 H ?_
  refine Jc rfl rfl (at_spec p size mem own a 1 (by decide) (by omega) h3 H) ?_
  clear H; rintro v w ⟨rfl, H⟩
  refine J25 H ?_
  obtain ⟨v, v2, u, ws, many, hok, H⟩ := ST_out H
  have H := H.swap
  obtain ⟨a1, c1, rfl⟩ := sls_slice H (ucells_length mem) (by decide)
  obtain ⟨b, s, rfl, H, _, _, hclose⟩ := sls_open2 H (by omega)
  refine J14 H ?_
  refine C_join (fun ms σ w => ms = [] ∧ σ 7 = .int .i64 0 ∧ Holds w (pts b (row 127 (ucells (mem.set a x) ++ s)) :: pts p (row 213 [.slice (some ⟨b, 0, none⟩) mem.length c1, .int .i64 size, v2, pp u]) :: NL v2 own :: BM u own.length ws many :: fr)) ?_ ?_
  · refine C_true rfl ?_
    refine J37 H ?_
    refine Lp_s rfl (St_indexAddr rfl rfl (by omega) (by omega) rfl ?_)
    refine Lp_s rfl (St_store1 H rfl rfl inferInstance rfl (by simp only [List.length_append, ucells_length]; omega) rfl ?_)
    clear H; intro w H
    rw [ucells_set (by omega)] at H
    refine Lp_nil ?_
    exact ⟨rfl, rfl, rfl, H⟩
  · clear H
    rintro ms σ w ⟨rfl, g7, H⟩
    rw [upd_self g7]
    refine J5 H ?_
    exact C_ret (Jy (ST_in (hok.mem (by simp)) (hclose _ _ _ (by simp [ucells]) H).swap) rfl fun w' H' => ⟨rfl, H'⟩)

theorem CopySame_spec [Extra] (p size : Nat) (mem own : List Nat) (a n : Nat) (h1 : 1 ≤ n) (h2 : a + n ≤ mem.length) (h3 : Owned size own a n) {w : World} {fr : List HProp} (H : Holds w (ST p size mem own :: fr)) :
    Calls Tryz.prog 185 #[pp p, .int .i64 a, .int .i64 a, .int .i64 n] w (ret fun v w' => v = .int .i64 0 ∧ Holds w' (ST p size mem own :: fr)) := by
  refine calls_of Tryz.func185 rfl (by kernel_rfl) ?_
  refine J173 H ?_
  refine J10 H ?_
  refine Jc rfl rfl (at_spec p size mem own a n h1 h2 h3 H) ?_
  clear H; rintro v w ⟨rfl, H⟩
  refine J142 H ?_
  refine Jc rfl rfl (at_spec p size mem own a n h1 h2 h3 H) ?_
  clear H; rintro v w ⟨rfl, H⟩
  refine J61 H ?_
  refine C_joinQ (fun ms σ w => ms = [] ∧ σ 0 = pp p ∧ σ 1 = .int .i64 a ∧ σ 2 = .int .i64 a ∧ σ 3 = .int .i64 n ∧ Holds w (ST p size mem own :: fr)) ?_ ?_
  · refine C_block ?_
    refine J10 H ?_
    refine J24 H ?_
    refine J75 H ?_
    refine J10 H ?_
    refine J24 H ?_
    refine J56 H ?_
    exact .inl ⟨rfl, rfl, rfl, rfl, rfl, rfl, H⟩
  · clear H
    rintro ms σ w ⟨rfl, g0, g1, g2, g3, H⟩
    rw [upd_self g0, upd_self g1, upd_self g2, upd_self g3]
    obtain ⟨v, v2, u, ws, many, hok, H⟩ := ST_out H
    have H := H.swap
    have hmem : mem.length ≤ 1048576 := by rw [hok.len]; exact Nat.mul_le_mul hok.c2 hok.s2
    obtain ⟨a1, c1, rfl⟩ := sls_slice H (ucells_length mem) (by decide)
    rcases sls_case H with ⟨h, _⟩ | ⟨b, len, cap', s, h, e3, e4, e5, H⟩
    · injection h with h4 h5 h6; omega
    injection h with h4 h5 h6
    subst h4 h5 h6
    have hrd : Reads (ucells mem ++ s) (0 + a * 1) ((a + n - a) * 1) (ucells ((mem.drop a).take n)) := by
      have e : (ucells ((mem.drop a).take n)).length = (a + n - a) * 1 := by simp [ucells]; omega
      rw [← e]
      refine Reads.of_get fun j v hj => ?_
      have hj' : j < n := by have := (List.getElem?_eq_some_iff.1 hj).1; simp [ucells] at this; omega
      rw [List.getElem?_append_left (by simp [ucells]; omega)]
      simp only [ucells, List.getElem?_map, List.getElem?_take_of_lt hj', List.getElem?_drop] at hj
      simp only [ucells, List.getElem?_map, Nat.zero_add, Nat.mul_one]
      exact hj
    have hs1 : (ucells ((mem.drop a).take n)).all (·.oneCell') = true := List.all_eq_true.2 fun v hv => by
      simp only [ucells, List.mem_map] at hv
      obtain ⟨x, _, rfl⟩ := hv
      rfl
    refine J1 H ?_
    clear H; intro w H
    refine J28 H ?_
    refine A_load1 3 [18] H rfl (Wants.none rfl) rfl rfl (by kernel_rfl) ?_
    refine J97 H ?_
    refine J89 H ?_
    rw [wrap64 (x := (a : Int) + (n : Int)) (by omega) (by omega), show (a : Int) + (n : Int) = ((a + n : Nat) : Int) by omega]
    refine A_sliceAB 8 rfl (Wants.none rfl) rfl rfl rfl (by omega) (by omega) (by omega) (by kernel_rfl) ?_
    refine J77 H ?_
    refine A_fieldAddr 11 rfl (Wants.none rfl) rfl (by kernel_rfl) ?_
    refine A_load1 12 [18] H rfl (Wants.none rfl) rfl rfl (by kernel_rfl) ?_
    refine A_pv 13 rfl (Wants.none rfl) rfl (by kernel_rfl) ?_
    refine A_pv 14 rfl (Wants.none rfl) rfl (by kernel_rfl) ?_
    refine A_pv 15 rfl (Wants.none rfl) rfl (by kernel_rfl) ?_
    refine A_pv 16 rfl (Wants.none rfl) rfl (by kernel_rfl) ?_
    rw [wrap64 (x := (a : Int) + (n : Int)) (by omega) (by omega), show (a : Int) + (n : Int) = ((a + n : Nat) : Int) by omega]
    refine A_sliceAB 17 rfl (Wants.none rfl) rfl rfl rfl (by omega) (by omega) (by omega) (by kernel_rfl) ?_
    refine Jo 18 H ?_
    refine St_copySame H rfl rfl hrd (by simp only [List.length_append, ucells_length]; omega) hs1 rfl ?_
    clear H; intro w H
    refine J4 H ?_
    refine J12 H ?_
    exact C_ret (Jy (ST_in hok (sls_of e3 e4 e5 H).swap) rfl fun w' H' => ⟨rfl, H'⟩)

/-- So many places from a on are all v. -/
def setR (l : List Nat) (a n v : Nat) : List Nat := l.take a ++ List.replicate n v ++ l.drop (a + n)
theorem setR_length {l : List Nat} {a n v : Nat} (h : a + n ≤ l.length) : (setR l a n v).length = l.length := by simp [setR]; omega
theorem setR_get {l : List Nat} {a n v : Nat} (h : a + n ≤ l.length) (i : Nat) : (setR l a n v)[i]? = if a ≤ i ∧ i < a + n then some v else l[i]? := by
  unfold setR
  by_cases h1 : i < a
  · rw [if_neg (by omega), List.append_assoc, List.getElem?_append_left (by simp; omega), List.getElem?_take_of_lt h1]
  · have e1 : (l.take a).length = a := by simp; omega
    rw [List.append_assoc, List.getElem?_append_right (by omega), e1]
    by_cases h2 : i < a + n
    · rw [if_pos (by omega), List.getElem?_append_left (by simp; omega), List.getElem?_replicate, if_pos (by omega)]
    · rw [if_neg (by omega), List.getElem?_append_right (by simp; omega), List.getElem?_drop, List.length_replicate]
      congr 1
      omega
theorem setR_getD {l : List Nat} {a n v : Nat} (h : a + n ≤ l.length) (i : Nat) : (setR l a n v).getD i 0 = if a ≤ i ∧ i < a + n then v else l.getD i 0 := by
  rw [List.getD_eq_getElem?_getD, setR_get h]
  split
  · rfl
  · rw [List.getD_eq_getElem?_getD]
theorem setR_zero {l : List Nat} {a v : Nat} : setR l a 0 v = l := by simp [setR]
theorem setR_succ {l : List Nat} {a n v : Nat} (h : a + n < l.length) : (setR l a n v).set (a + n) v = setR l a (n + 1) v := by
  apply List.ext_getElem?
  intro i
  rw [List.getElem?_set, setR_get (by omega), setR_get (by omega), setR_length (by omega)]
  by_cases h1 : a + n = i
  · subst h1
    rw [if_pos rfl, if_pos (by omega), if_pos (by omega)]
  · rw [if_neg h1]
    by_cases h2 : a ≤ i ∧ i < a + n
    · rw [if_pos h2, if_pos (by omega)]
    · rw [if_neg h2, if_neg (by omega)]

theorem ST_single {size : Nat} {mem own ws : List Nat} {many : Nat} (h : STok size mem own ws many) (h63 : own.length ≤ 63) : ∃ x, ws = [x] ∧ Bits own.length x ∧ many = cntB own.length x ∧ ∀ c, c < own.length → x.testBit c = decide (own.getD c 0 ≠ 0) := by
  obtain ⟨x, h1, h2, h3⟩ := h.one h63
  exact ⟨x, h1, ⟨h.c1, h63, h2⟩, by rw [cntB_own own x h3]; exact h.many, h3⟩

theorem TakeRun_spec [Extra] (p size : Nat) (mem own : List Nat) (o n : Nat) (h63 : own.length ≤ 63) (ho : 1 ≤ o) (hn : 1 ≤ n) (hn2 : n < 1000000) {w : World} {fr : List HProp} [hT : HasTab 0 Lib.deBruijn64tab fr] (H : Holds w (ST p size mem own :: fr)) :
    Calls Tryz.prog 182 #[pp p, .int .i64 o, .int .i64 n] w (ret fun v w' =>
      (∃ a : Nat, v = .tuple #[.int .i64 a, .int .i64 0] ∧ a + n ≤ own.length ∧ (∀ i, a ≤ i → i < a + n → own.getD i 0 = 0) ∧ Holds w' (ST p size (setR mem (a * size) (n * size) 0) (setR own a n o) :: fr)) ∨
      (v = .tuple #[.int .i64 0, .int .i64 11] ∧ (∀ a, a + n ≤ own.length → ∃ i, a ≤ i ∧ i < a + n ∧ own.getD i 0 ≠ 0) ∧ Holds w' (ST p size mem own :: fr))) := by
  obtain ⟨v, v2, u, ws, many, hok, H⟩ := ST_out H
  obtain ⟨x, rfl, hb, rfl, hx⟩ := ST_single hok h63
  refine calls_of Tryz.func182 rfl (by kernel_rfl) ?_
  refine J143 H ?_
  refine C_joinQ (fun ms σ w => ms = [] ∧ σ 0 = pp p ∧ σ 1 = .int .i64 o ∧ σ 2 = .int .i64 n ∧ Holds w (pts p (row 213 [v, .int .i64 size, v2, pp u]) :: UL v mem :: NL v2 own :: BM1 u own.length x :: fr)) ?_ ?_
  · refine J59 H ?_
    refine J10 H ?_
    rw [show decide ((o : Int) < 1) = false from decide_eq_false (by omega)]
    refine J24 H ?_
    refine J3 H ?_
    rw [show decide ((n : Int) < 1) = false from decide_eq_false (by omega)]
    refine J9 H ?_
    exact .inl ⟨rfl, rfl, rfl, rfl, rfl, H⟩
  · clear H
    rintro ms σ w ⟨rfl, g0, g1, g2, H⟩
    rw [upd_self g0, upd_self g1, upd_self g2]
    refine J18 H ?_
    replace H := Js [3,0,0,0] 0 H
    refine Jc rfl rfl (Run_spec u _ x n _ hb hn hn2 H) ?_
    clear H; rintro r w ⟨hR, H⟩
    rcases hR with ⟨a, rfl, ha, hfree⟩ | ⟨rfl, hno⟩
    · have hlen := hok.len
      have hs1 := hok.s1
      have hs2 := hok.s2
      have hmem : mem.length ≤ 1048576 := by rw [hok.len]; exact Nat.mul_le_mul hok.c2 hok.s2
      have hmul : (a + n) * size ≤ mem.length := by rw [hlen]; exact Nat.mul_le_mul_right _ ha
      have hmul2 : (a + n) * size = a * size + n * size := Nat.add_mul _ _ _
      have hns : 1 * 1 ≤ n * size := Nat.mul_le_mul hn hs1
      refine J39 H ?_
      refine J37 H ?_
      refine Jc rfl rfl (Fill_spec u _ x a n true hb ha H) ?_
      clear H; rintro v w ⟨rfl, H⟩
      refine J67 H ?_
      obtain ⟨a2, c2, rfl⟩ := sls_slice (H.drop.drop.drop) (ncells_length own) (by decide)
      refine J14 H ?_
      refine C_joinQ (fun ms σ w => ms = [] ∧ σ 0 = pp p ∧ σ 2 = .int .i64 n ∧ σ 8 = .int .i64 a ∧ Holds w (NL (.slice a2 own.length c2) (setR own a n o) :: pts p (row 213 [v, .int .i64 size, .slice a2 own.length c2, pp u]) :: UL v mem :: BM1 u own.length (fillB x a n true) :: fr)) ?_ ?_
      · refine C_block ?_
        replace H := Js [3,1,1,0] 0 H
        refine C_loop (fun ms σ w q => ms = [] ∧ ∃ j : Nat, j ≤ n ∧ q = n - j ∧ σ 0 = pp p ∧ σ 1 = .int .i64 o ∧ σ 2 = .int .i64 n ∧ σ 8 = .int .i64 a ∧ σ 10 = .int .i64 ((a + j : Nat) : Int) ∧ Holds w (NL (.slice a2 own.length c2) (setR own a j o) :: pts p (row 213 [v, .int .i64 size, .slice a2 own.length c2, pp u]) :: UL v mem :: BM1 u own.length (fillB x a n true) :: fr)) (m := n) ⟨rfl, 0, by omega, rfl, rfl, rfl, rfl, rfl, rfl, by rw [setR_zero]; exact H⟩ ?_
        clear H
        rintro ms σ w q ⟨rfl, j, hj, rfl, g0, g1, g2, g8, g10, H⟩
        rw [upd_self g0, upd_self g1, upd_self g2, upd_self g8, upd_self g10]
        refine J81 H ?_
        rw [wrap64 (x := (a : Int) + (n : Int)) (by omega) (by omega)]
        refine J14 H ?_
        refine C_dec rfl (fun h => C_skip ?_) (fun h => C_exit ?_)
        · have hlt : j < n := by omega
          have hsl := setR_length (l := own) (a := a) (n := j) (v := o) (by omega)
          obtain ⟨b, s, rfl, H, _, _, hclose⟩ := sls_open2 H (by omega)
          refine J21 H ?_
          refine J37 H ?_
          refine Lp_s rfl (St_indexAddr rfl rfl (by omega) (by omega) rfl ?_)
          refine Lp_s rfl (St_store1 H rfl rfl inferInstance rfl (by simp only [List.length_append, ncells_length]; omega) rfl ?_)
          clear H; intro w H
          rw [Int.toNat_natCast, ncells_set (by omega), setR_succ (by omega)] at H
          replace H := hclose _ _ _ (by rw [ncells_length, ncells_length, setR_length (by omega), setR_length (by omega)]) H
          refine J138 H ?_
          exact ⟨_, ⟨rfl, j + 1, hlt, rfl, rfl, rfl, rfl, rfl, by rw [show ((a + (j + 1) : Nat) : Int) = ((a + j : Nat) : Int) + 1 by omega]; exact inc64 (i := a + j) (by omega), H⟩, by omega⟩
        · have hge : j = n := by omega
          subst hge
          exact .inl ⟨rfl, rfl, rfl, rfl, rfl, H⟩
      · clear H
        rintro ms σ w ⟨rfl, g0, g2, g8, H⟩
        rw [upd_self g0, upd_self g2, upd_self g8]
        replace H := Js [2,1,0,0] 0 H
        obtain ⟨a1, c1, rfl⟩ := sls_slice H (ucells_length mem) (by decide)
        obtain ⟨b, s, rfl, H, hcap, hsp, hclose⟩ := sls_open2 H (by omega)
        refine J1 H ?_
        clear H; intro w H
        refine J28 H ?_
        refine A_load1 3 [19] H rfl (Wants.none rfl) rfl rfl (by kernel_rfl) ?_
        refine J97 H ?_
        refine J64 H ?_
        refine A_load1 8 [19] H rfl (Wants.none rfl) rfl rfl (by kernel_rfl) ?_
        refine J77 H ?_
        refine J115 H ?_
        refine J174 H ?_
        refine A_fieldAddr 15 rfl (Wants.none rfl) rfl (by kernel_rfl) ?_
        refine A_load1 16 [19] H rfl (Wants.none rfl) rfl rfl (by kernel_rfl) ?_
        refine J144 H ?_
        rw [wrap64 (x := (a : Int) + (n : Int)) (by omega) (by omega), show ((a : Int) + (n : Int)) * (size : Int) = (((a + n) * size : Nat) : Int) by rw [Int.natCast_mul, Int.natCast_add], wrap64 (x := (((a + n) * size : Nat) : Int)) (by omega) (by omega), ← Int.natCast_mul, wrap64 (x := ((a * size : Nat) : Int)) (by omega) (by omega)]
        refine A_sliceAB 18 rfl (Wants.none rfl) rfl rfl rfl (by omega) (by omega) (by omega) (by kernel_rfl) ?_
        have hz : zeros (cellsL (.int .u64 0)) ((a + n) * size - a * size) = ucells (List.replicate (n * size) 0) := by
          rw [show cellsL (.int .u64 0) = [.int .u64 0] from rfl, zeros1, show (a + n) * size - a * size = n * size by omega]; simp [ucells]
        refine Jo 19 H ?_
        refine St_clear H rfl (by omega) (by rw [hz]; simp only [List.length_append, ucells_length, List.length_replicate]; omega) rfl rfl ?_
        clear H; intro w H
        rw [hz] at H
        have hw : wr (ucells mem ++ s) (0 + a * size * 1) (ucells (List.replicate (n * size) 0)) = ucells (setR mem (a * size) (n * size) 0) ++ s := by
          rw [wr_eq _ _ _ (by simp [ucells]; omega)]
          rw [List.take_append_of_le_length (by simp [ucells]; omega), List.drop_append_of_le_length (by simp [ucells]; omega)]
          simp only [Nat.zero_add, Nat.mul_one, ucells, setR, List.map_append, List.map_take, List.map_drop, List.length_map, List.length_replicate, List.append_assoc]
        rw [hw] at H
        replace H := hclose _ _ _ (by simp [ucells, setR_length (show a * size + n * size ≤ mem.length by omega)]) H
        refine J4 H ?_
        refine J20 H ?_
        replace H := Js [1,0,0,0] 0 H
        have hsl := setR_length (l := own) (v := o) ha
        have hx' : ∀ c, c < (setR own a n o).length → (fillB x a n true).testBit c = decide ((setR own a n o).getD c 0 ≠ 0) := by
          intro c hc
          rw [fillB_bit, setR_getD ha]
          split
          · simp; omega
          · exact hx c (by omega)
        have hbf := hb.fill (a := a) (k := n) (on := true) ha
        refine C_ret (Jy (ST_in (own := setR own a n o) (ws := [fillB x a n true]) (many := cntB own.length (fillB x a n true)) ⟨hs1, hs2, by rw [hsl]; exact hok.c1, by rw [hsl]; exact hok.c2, by rw [setR_length (by omega), hsl, hlen], ?_, fun _ => ⟨_, rfl, by rw [hsl]; exact hbf.lt, hx'⟩⟩ (by rw [hsl]; exact H)) rfl fun w' H' => .inl ⟨a, rfl, ha, fun i h1 h2 => ?_, H'⟩)
        · rw [← hsl]; exact cntB_own _ _ hx'
        · have := hx i (by omega)
          rw [hfree i h1 h2] at this
          simpa using this.symm
    · refine J114 H ?_
      refine J5 H ?_
      refine J29 H ?_
      replace H := Js [1,1,1,0] 0 H
      refine C_ret (Jy (ST_in hok H) rfl fun w' H' => .inr ⟨rfl, fun a ha => ?_, H'⟩)
      obtain ⟨i, h1, h2, h3⟩ := hno a ha
      refine ⟨i, h1, h2, ?_⟩
      have := hx i (by omega)
      rw [h3] at this
      simpa using this.symm
end Go.Proofs.YtipelpbkeiphmaaGreatDoor
namespace Go.Proofs.YtipelpbkeiphmaaGreatDoor
/-- The places below k of the bits that are on. -/
def bitsTo (w k : Nat) : List Nat := (List.range k).filter fun i => w.testBit i
theorem bitsTo_succ (w k : Nat) : bitsTo w (k + 1) = bitsTo w k ++ if w.testBit k then [k] else [] := by
  unfold bitsTo
  rw [List.range_succ, List.filter_append]
  congr 1
  by_cases h : w.testBit k <;> simp [h]
theorem bitsTo_off {w k : Nat} : ∀ {t : Nat}, k ≤ t → (∀ i, k ≤ i → i < t → w.testBit i = false) → bitsTo w t = bitsTo w k
  | 0, h, _ => by rw [show k = 0 by omega]
  | t + 1, h, hh => by
    by_cases hk : k = t + 1
    · rw [hk]
    · rw [bitsTo_succ, hh t (by omega) (by omega), bitsTo_off (t := t) (by omega) (fun i h1 h2 => hh i h1 (by omega))]
      simp
theorem bitsTo_len (w k : Nat) : (bitsTo w k).length ≤ k := by
  have := List.length_filter_le (fun i => w.testBit i) (List.range k)
  simpa [bitsTo] using this
theorem low_form {x t : Nat} (ht : x.testBit t = true) (hl : ∀ i, i < t → x.testBit i = false) : x = 2 ^ (t + 1) * (x / 2 ^ (t + 1)) + 2 ^ t := by
  have e : x % 2 ^ (t + 1) = 2 ^ t := by
    apply Nat.eq_of_testBit_eq
    intro j
    rw [Nat.testBit_mod_two_pow, Nat.testBit_two_pow]
    by_cases h1 : j < t
    · rw [hl j h1]; simp; omega
    · by_cases h2 : j = t
      · subst h2; simp [ht]
      · have : ¬ j < t + 1 := by omega
        simp [this]; omega
  have := Nat.div_add_mod x (2 ^ (t + 1))
  omega
theorem clear_low {x t : Nat} (ht : x.testBit t = true) (hl : ∀ i, i < t → x.testBit i = false) (j : Nat) : (x &&& (x - 1)).testBit j = (x.testBit j && decide (j ≠ t)) := by
  have e := low_form ht hl
  have hp : 0 < 2 ^ t := Nat.two_pow_pos t
  have hlt : 2 ^ t - 1 < 2 ^ (t + 1) := by rw [Nat.pow_succ]; omega
  have e1 : x - 1 = 2 ^ (t + 1) * (x / 2 ^ (t + 1)) + (2 ^ t - 1) := by omega
  rw [Nat.testBit_and, e1, Nat.testBit_two_pow_mul_add _ hlt, Nat.testBit_two_pow_sub_one]
  by_cases h1 : j < t
  · rw [hl j h1]; simp
  · by_cases h2 : j = t
    · subst h2; simp
    · rw [if_neg (by omega), Nat.testBit_div_two_pow, show j - (t + 1) + (t + 1) = j by omega]
      simp [h2]
/-- Places that rise, below a size. -/
def RisL (l : List Nat) (size : Nat) : Prop := (∀ p ∈ l, p < size) ∧ l.Pairwise (· < ·)
instance (l : List Nat) (size : Nat) : Decidable (RisL l size) := inferInstanceAs (Decidable (_ ∧ _))

theorem ris_snoc {l : List Nat} {x : Nat} (h : l.Pairwise (· < ·)) (hx : ∀ y, l.getLast? = some y → y < x) : (l ++ [x]).Pairwise (· < ·) := by
  rw [List.pairwise_append]
  refine ⟨h, by simp, fun a ha b hb => ?_⟩
  simp at hb
  subst hb
  obtain ⟨y, hy⟩ : ∃ y, l.getLast? = some y := by
    cases l with
    | nil => cases ha
    | cons c l => exact ⟨_, List.getLast?_eq_some_getLast (by simp)⟩
  have h1 := hx y hy
  have h2 : a ≤ y := by
    obtain ⟨l', rfl⟩ := List.getLast?_eq_some_iff.1 hy
    rw [List.pairwise_append] at h
    simp at ha
    rcases ha with ha | rfl
    · exact Nat.le_of_lt (h.2.2 a ha y (by simp))
    · exact Nat.le_refl _
  omega

/-- A layout. -/
structure Lay where
  fixed : Nat
  refs : List Nat
  record : Nat
  recs : List Nat
def RightL (l : Lay) : Prop := l.fixed ≤ 64 ∧ l.record ≤ 64 ∧ l.fixed + l.record ≠ 0 ∧ RisL l.refs l.fixed ∧ RisL l.recs l.record
instance (l : Lay) : Decidable (RightL l) := inferInstanceAs (Decidable (_ ∧ _))

/-- What the size of an object is told as: the words, the error. -/
def sizeL (l : Lay) (count : Int) : Nat × Nat :=
  if count < 0 ∨ count > 1024 ∨ (count > 0 ∧ l.record = 0) then (0, 3)
  else if l.fixed + count.toNat * l.record ≥ 8192 then (0, 10) else (l.fixed + count.toNat * l.record, 0)
def isRefL (l : Lay) (p : Nat) : Bool := if p < l.fixed then decide (p ∈ l.refs) else decide ((p - l.fixed) % l.record ∈ l.recs)
def layOf (a b c : Nat) : Lay := ⟨a % 256, bitsTo b 64, a / 256, bitsTo c 64⟩
def decodeL (ws : List Nat) : Option Lay :=
  match ws with
  | [a, b, c] => if a < 65536 ∧ RightL (layOf a b c) then some (layOf a b c) else none
  | _ => none
theorem decodeL_right {ws : List Nat} {l : Lay} (h : decodeL ws = some l) : RightL l := by
  unfold decodeL at h
  split at h
  · split at h
    · rename_i h1
      cases h
      exact h1.2
    · cases h
  · cases h
theorem sizeL_ok {l : Lay} {c : Int} {n : Nat} (h : sizeL l c = (n, 0)) : 0 ≤ c ∧ c ≤ 1024 ∧ n = l.fixed + c.toNat * l.record ∧ n < 8192 ∧ (c > 0 → l.record ≠ 0) := by
  unfold sizeL at h
  split at h
  · cases h
  · split at h
    · cases h
    · rename_i h1 h2
      injection h with h3 h4
      omega
end Go.Proofs.YtipelpbkeiphmaaGreatDoor
namespace Go.Proofs.YtipelpbkeiphmaaGreatDoor
open Go.SL

theorem rises_spec [Extra] (v : Value) (l : List Nat) (size : Nat) (hl : l.length ≤ 1000000) {w : World} {fr : List HProp} (hr : RdS fr v l.length 1 (ncells l)) (H : Holds w fr) :
    Calls Tryz.prog 308 #[v, .int .i64 size] w (ret fun x w' => (∃ b, x = .bool b ∧ (b = true ↔ RisL l size)) ∧ Holds w' fr) := by
  obtain ⟨_, ad, cap, rfl, hr⟩ := hr
  refine calls_of Tryz.func308 rfl (by kernel_rfl) ?_
  refine J132 H ?_
  refine C_loop (fun ms σ w q => ms = [] ∧ ∃ i : Nat, i ≤ l.length ∧ q = l.length - i ∧ RisL (l.take i) size ∧ σ 0 = .slice ad l.length cap ∧ σ 1 = .int .i64 size ∧ σ 7 = .slice ad l.length cap ∧ σ 8 = .int .i64 l.length ∧ σ 9 = .int .i64 i ∧ Holds w fr) (m := l.length) ⟨rfl, 0, by omega, rfl, ⟨by simp, by simp⟩, rfl, rfl, rfl, rfl, rfl, H⟩ ?_
  clear H
  rintro ms σ w q ⟨rfl, i, hi, rfl, hR, g0, g1, g7, g8, g9, H⟩
  rw [upd_self g0, upd_self g1, upd_self g7, upd_self g8, upd_self g9]
  refine J13 H ?_
  refine C_dec rfl (fun h => C_skip ?_) (fun h => C_exit ?_)
  · have hlt : i < l.length := by omega
    have hx := List.getElem?_eq_getElem hlt
    have htk : l.take (i + 1) = l.take i ++ [l[i]] := by rw [List.take_add_one, hx]; rfl
    have hmem : l[i] ∈ l := List.getElem_mem hlt
    generalize l[i] = x at hx htk hmem
    rcases hr with hr | ⟨b, o, E, fz, c, rfl, hA, hrd⟩
    · omega
    haveI := hA
    have hcell : c[o + i * 1]? = some (.int .i64 x) := by
      rw [Nat.mul_one]
      exact hrd.get i _ (by simp [ncells, hx])
    refine J21 H ?_
    refine J16 H ?_
    refine Lp_s rfl (St_indexAddr rfl rfl (by omega) (by omega) rfl ?_)
    refine Lp_s rfl (St_load1 H rfl hcell rfl ?_)
    refine J3 H ?_
    refine J10 H ?_
    rw [show decide ((x : Int) < 0) = false from decide_eq_false (by omega)]
    refine J80 H ?_
    refine J7 H ?_
    by_cases hxs : x < size
    · rw [show decide ((x : Int) ≥ (size : Int)) = false from decide_eq_false (by omega)]
      refine J111 H ?_
      by_cases hi0 : 0 < i
      · rw [show decide ((i : Int) > 0) = true from decide_eq_true (by omega)]
        refine J24 H ?_
        refine J80 H ?_
        rw [wrap64 (x := (i : Int) - 1) (by omega) (by omega), show (i : Int) - 1 = ((i - 1 : Nat) : Int) by omega]
        have hy := List.getElem?_eq_getElem (l := l) (i := i - 1) (by omega)
        have hlast : (l.take i).getLast? = some l[i - 1] := by
          rw [List.getLast?_eq_getElem?, List.length_take, Nat.min_eq_left hi, List.getElem?_take_of_lt (by omega), hy]
        have hpw : l.Pairwise (· < ·) → l[i - 1] < x := fun hp => by
          have := List.pairwise_iff_getElem.1 hp (i - 1) i (by omega) hlt (by omega)
          have e : l[i] = x := by
            have := List.getElem?_eq_getElem hlt
            rw [hx] at this
            exact (Option.some.inj this).symm
          omega
        generalize l[i - 1]'(by omega) = y at hy hlast hpw
        have hcell2 : c[o + (i - 1) * 1]? = some (.int .i64 y) := by
          rw [Nat.mul_one]
          exact hrd.get (i - 1) _ (by simp [ncells, hy])
        refine Lp_g rfl rfl rfl (St_indexAddr rfl rfl (by omega) (by omega) rfl ?_)
        refine Lp_g rfl rfl rfl (St_load1 H rfl hcell2 rfl ?_)
        refine J24 H ?_
        refine J15 H ?_
        refine C_dec rfl (fun h => ?_) (fun h => C_skip ?_)
        · refine J12 H ?_
          exact C_ret (Jy H rfl fun w' H' => ⟨⟨false, rfl, by
            constructor
            · intro h'; cases h'
            · rintro ⟨_, h2⟩
              have := hpw h2
              omega⟩, H'⟩)
        · refine J5 H ?_
          refine ⟨_, ⟨rfl, i + 1, hlt, rfl, ?_, rfl, rfl, rfl, rfl, inc64 (by omega), H⟩, by omega⟩
          rw [htk]
          refine ⟨fun p hp => ?_, ris_snoc hR.2 fun z hz => ?_⟩
          · simp at hp
            rcases hp with hp | rfl
            · exact hR.1 p hp
            · exact hxs
          · rw [hlast] at hz
            cases hz
            omega
      · have hi00 : i = 0 := by omega
        subst hi00
        rw [show decide (((0 : Nat) : Int) > 0) = false from rfl]
        refine J22 H ?_
        refine J41 H ?_
        refine J82 H ?_
        refine J71 H ?_
        refine J5 H ?_
        refine ⟨_, ⟨rfl, 1, hlt, rfl, ?_, rfl, rfl, rfl, rfl, inc64 (i := 0) (by omega), H⟩, by omega⟩
        rw [htk]
        exact ⟨by simpa using hxs, by simp⟩
    · rw [show decide ((x : Int) ≥ (size : Int)) = true from decide_eq_true (by omega)]
      refine J7 H ?_
      refine J116 H ?_
      refine J117 H ?_
      refine J117 H ?_
      refine J145 H ?_
      refine J0 H ?_
      refine J34 H ?_
      exact C_ret (Jy H rfl fun w' H' => ⟨⟨false, rfl, by
        constructor
        · intro h'; cases h'
        · rintro ⟨h1, _⟩
          have := h1 x hmem
          omega⟩, H'⟩)
  · have hge : i = l.length := by omega
    subst hge
    rw [List.take_length] at hR
    refine J12 H ?_
    exact C_ret (Jy H rfl fun w' H' => ⟨⟨true, rfl, by simp [hR]⟩, H'⟩)

@[reducible] def layV (f : Nat) (vr : Value) (r : Nat) (vq : Value) : Value := .agg #[.int .i64 f, vr, .int .i64 r, vq]
structure RdL (fr : List HProp) (vr vq : Value) (l : Lay) : Prop where
  r : RdS fr vr l.refs.length 1 (ncells l.refs)
  q : RdS fr vq l.recs.length 1 (ncells l.recs)
theorem RdL.there {A : HProp} {fr : List HProp} {vr vq : Value} {l : Lay} (h : RdL fr vr vq l) : RdL (A :: fr) vr vq l := ⟨h.r.there, h.q.there⟩

theorem RdS.one {fr : List HProp} {v : Value} {m k : Nat} {cs : List Value} (h : RdS fr v m k cs) : fo v = some v ∧ v.oneCell' = true ∧ cellsL v = [v] := by
  obtain ⟨_, ad, cap, rfl, _⟩ := h
  exact ⟨rfl, rfl, rfl⟩

/-- Of numbers that are small. -/
structure SmallL (l : Lay) : Prop where
  f : l.fixed ≤ 1000000
  r : l.record ≤ 1000000
  a : l.refs.length ≤ 1000000
  b : l.recs.length ≤ 1000000

theorem lRight_spec [Extra] (vr vq : Value) (l : Lay) (hs : SmallL l) {w : World} {fr : List HProp} (hr : RdL fr vr vq l) (H : Holds w fr) :
    Calls Tryz.prog 260 #[layV l.fixed vr l.record vq] w (ret fun x w' => (∃ b, x = .bool b ∧ (b = true ↔ RightL l)) ∧ Holds w' fr) := by
  obtain ⟨s1, s2, s3, s4⟩ := hs
  obtain ⟨hr1, hr2⟩ := hr
  obtain ⟨_, ad1, cap1, rfl, hr1'⟩ := id hr1
  obtain ⟨_, ad2, cap2, rfl, hr2'⟩ := id hr2
  refine calls_of Tryz.func260 rfl (by kernel_rfl) ?_
  refine J8 H ?_
  clear H; intro b1 w H
  refine J15 H ?_
  refine C_joinQ (fun ms σ w => ms = [] ∧ (l.fixed ≤ 64 ∧ l.record ≤ 64 ∧ l.fixed + l.record ≠ 0) ∧ σ 1 = pp b1 ∧ Holds w (pts b1 (row 201 [.int .i64 l.fixed, .slice ad1 l.refs.length cap1, .int .i64 l.record, .slice ad2 l.recs.length cap2]) :: fr)) ?_ ?_
  · refine C_block ?_
    refine J130 H ?_
    rw [show decide ((l.fixed : Int) < 0) = false from decide_eq_false (by omega)]
    refine J170 H ?_
    by_cases h1 : l.fixed ≤ 64
    · rw [show decide ((l.fixed : Int) > 64) = false from decide_eq_false (by omega)]
      refine J75 H ?_
      refine J130 H ?_
      rw [show decide ((l.record : Int) < 0) = false from decide_eq_false (by omega)]
      refine J170 H ?_
      by_cases h2 : l.record ≤ 64
      · rw [show decide ((l.record : Int) > 64) = false from decide_eq_false (by omega)]
        refine J75 H ?_
        refine J98 H ?_
        refine J38 H ?_
        refine J11 H ?_
        refine J0 H ?_
        rw [wrap64 (x := (l.fixed : Int) + (l.record : Int)) (by omega) (by omega)]
        by_cases h3 : l.fixed + l.record = 0
        · rw [show (((l.fixed : Int) + (l.record : Int)) == 0) = true by simp; omega]
          refine J34 H ?_
          exact C_ret (.inr ⟨by simp, Jy H.drop rfl fun w' H' => ⟨⟨false, rfl, ⟨fun h => (by cases h), fun h => by unfold RightL at h; omega⟩⟩, H'⟩⟩)
        · rw [show (((l.fixed : Int) + (l.record : Int)) == 0) = false by simp; omega]
          refine J9 H ?_
          exact .inl ⟨rfl, rfl, ⟨h1, h2, h3⟩, rfl, H⟩
      · rw [show decide ((l.record : Int) > 64) = true from decide_eq_true (by omega)]
        refine J61 H ?_
        refine C_true rfl (C_skip ?_)
        refine J34 H ?_
        exact C_ret (.inr ⟨by simp, Jy H.drop rfl fun w' H' => ⟨⟨false, rfl, ⟨fun h => (by cases h), fun h => by unfold RightL at h; omega⟩⟩, H'⟩⟩)
    · rw [show decide ((l.fixed : Int) > 64) = true from decide_eq_true (by omega)]
      refine J61 H ?_
      refine C_true rfl (C_skip ?_)
      refine J34 H ?_
      exact C_ret (.inr ⟨by simp, Jy H.drop rfl fun w' H' => ⟨⟨false, rfl, ⟨fun h => (by cases h), fun h => by unfold RightL at h; omega⟩⟩, H'⟩⟩)
  · clear H
    rintro ms σ w ⟨rfl, ⟨h1, h2, h3⟩, g1, H⟩
    rw [upd_self g1]
    refine J98 H ?_
    refine J38 H ?_
    refine Jc rfl rfl (rises_spec _ l.refs l.fixed s3 hr1.there H) ?_
    clear H; rintro v w ⟨⟨b, rfl, hb⟩, H⟩
    refine J7 H ?_
    cases b with
    | true =>
      refine J88 H ?_
      refine J88 H ?_
      refine Lp_g rfl rfl rfl (St_call (a := []) (b := []) rfl rfl (call (rises_spec _ l.recs l.record s4 hr2.there H) ?_))
      clear H; rintro v w ⟨⟨b, rfl, hb2⟩, H⟩
      refine J3 H ?_
      refine C_ret (Jy H.drop rfl fun w' H' => ⟨⟨b, rfl, ?_⟩, H'⟩)
      rw [hb2]
      exact ⟨fun h => ⟨h1, h2, h3, hb.1 rfl, h⟩, fun h => h.2.2.2.2⟩
    | false =>
      refine J41 H ?_
      refine Lp_no rfl rfl rfl ?_
      refine J3 H ?_
      refine C_ret (Jy H.drop rfl fun w' H' => ⟨⟨false, rfl, ⟨fun h => (by cases h), fun h => ?_⟩⟩, H'⟩)
      have := hb.2 h.2.2.2.1
      cases this
end Go.Proofs.YtipelpbkeiphmaaGreatDoor
namespace Go.Proofs.YtipelpbkeiphmaaGreatDoor
open Go.SL

theorem ris_len : ∀ (l : List Nat) (lo size : Nat), (∀ p ∈ l, lo ≤ p ∧ p < size) → l.Pairwise (· < ·) → l.length ≤ size - lo
  | [], _, _, _, _ => Nat.zero_le _
  | a :: l, lo, size, h, hp => by
    rw [List.pairwise_cons] at hp
    have h1 := ris_len l (a + 1) size (fun p hx => ⟨hp.1 p hx, (h p (List.mem_cons_of_mem _ hx)).2⟩) hp.2
    have h2 := h a (List.mem_cons_self ..)
    simp only [List.length_cons]
    omega
theorem RisL.len {l : List Nat} {n : Nat} (h : RisL l n) : l.length ≤ n := by
  have := ris_len l 0 n (fun p hp => ⟨Nat.zero_le _, h.1 p hp⟩) h.2
  omega
theorem RightL.small {l : Lay} (h : RightL l) : SmallL l := by
  obtain ⟨h1, h2, _, h4, h5⟩ := h
  have := h4.len
  have := h5.len
  exact ⟨by omega, by omega, by omega, by omega⟩

def sizF : List Fl := [(0, 8), (8, 8), (16, 48)]
theorem ris_siz : RisF sizF := by
  refine ⟨?_, ?_⟩
  · intro f hf
    simp [sizF] at hf
    rcases hf with rfl | rfl | rfl <;> simp [RightF]
  · simp [sizF]
theorem sizes_spec [Extra] {w : World} {fr : List HProp} (H : Holds w fr) : Calls Tryz.prog 258 #[] w (ret fun v w' => Holds w' (FL v sizF :: fr)) := by
  refine calls_of Tryz.func258 rfl (by kernel_rfl) ?_
  refine J133 H ?_
  refine J171 H ?_
  refine J32 H ?_
  clear H; intro b4 w H
  refine J0 H ?_
  exact C_ret (Jy (sls_lit (len := 3) (by rfl) H) rfl fun w' H' => H')

theorem Size_spec [Extra] (vr vq : Value) (l : Lay) (hR : RightL l) (count : Int) {w : World} {fr : List HProp} (hr : RdL fr vr vq l) (H : Holds w fr) :
    Calls Tryz.prog 195 #[layV l.fixed vr l.record vq, .int .i64 count] w (ret fun x w' => x = .tuple #[.int .i64 ((sizeL l count).1 : Nat), .int .i64 ((sizeL l count).2 : Nat)] ∧ Holds w' fr) := by
  have hf := hR.1
  have hc := hR.2.1
  obtain ⟨_, ad1, cap1, rfl, hr1⟩ := id hr.r
  obtain ⟨_, ad2, cap2, rfl, hr2⟩ := id hr.q
  refine calls_of Tryz.func195 rfl (by kernel_rfl) ?_
  refine J8 H ?_
  clear H; intro b2 w H
  refine J61 H ?_
  refine C_joinQ (fun ms σ w => ms = [] ∧ (0 ≤ count ∧ count ≤ 1024 ∧ (count > 0 → l.record ≠ 0)) ∧ σ 1 = .int .i64 count ∧ σ 2 = pp b2 ∧ Holds w (pts b2 (row 201 [.int .i64 l.fixed, .slice ad1 l.refs.length cap1, .int .i64 l.record, .slice ad2 l.recs.length cap2]) :: fr)) ?_ ?_
  · refine C_block ?_
    refine J26 H ?_
    refine Jc rfl rfl (lRight_spec _ _ l hR.small hr.there H) ?_
    clear H; rintro v w ⟨⟨b, rfl, hb⟩, H⟩
    obtain rfl := hb.2 hR
    refine J75 H ?_
    refine J10 H ?_
    by_cases c0 : count < 0
    · have hs : sizeL l count = (0, 3) := by unfold sizeL; rw [if_pos (by omega)]
      rw [show decide (count < 0) = true from decide_eq_true (by omega)]
      refine Lp_no rfl rfl rfl ?_
      refine Lp_no rfl rfl rfl ?_
      refine J11 H ?_
      refine J116 H ?_
      refine J145 H ?_
      refine J118 H ?_
      exact C_ret (.inr ⟨by simp, Jy H.drop rfl fun w' H' => ⟨by rw [hs]; rfl, H'⟩⟩)
    · rw [show decide (count < 0) = false from decide_eq_false (by omega)]
      refine J24 H ?_
      by_cases c1 : count > 1024
      · have hs : sizeL l count = (0, 3) := by unfold sizeL; rw [if_pos (by omega)]
        rw [show decide (count > 1024) = true from decide_eq_true (by omega)]
        refine J11 H ?_
        refine J116 H ?_
        refine J145 H ?_
        refine J118 H ?_
        exact C_ret (.inr ⟨by simp, Jy H.drop rfl fun w' H' => ⟨by rw [hs]; rfl, H'⟩⟩)
      · rw [show decide (count > 1024) = false from decide_eq_false (by omega)]
        refine J11 H ?_
        refine J24 H ?_
        by_cases c2 : count > 0
        · rw [show decide (count > 0) = true from decide_eq_true (by omega)]
          refine J22 H ?_
          refine J45 H ?_
          by_cases c3 : l.record = 0
          · have hs : sizeL l count = (0, 3) := by unfold sizeL; rw [if_pos (by omega)]
            rw [show ((l.record : Int) == 0) = true by simp; omega]
            refine J22 H ?_
            refine J118 H ?_
            exact C_ret (.inr ⟨by simp, Jy H.drop rfl fun w' H' => ⟨by rw [hs]; rfl, H'⟩⟩)
          · rw [show ((l.record : Int) == 0) = false by simp; omega]
            refine J22 H ?_
            refine J56 H ?_
            exact .inl ⟨rfl, rfl, ⟨by omega, by omega, fun _ => c3⟩, rfl, rfl, H⟩
        · rw [show decide (count > 0) = false from decide_eq_false (by omega)]
          refine J22 H ?_
          refine J82 H ?_
          refine J22 H ?_
          refine J56 H ?_
          exact .inl ⟨rfl, rfl, ⟨by omega, by omega, fun h => absurd h c2⟩, rfl, rfl, H⟩
  · clear H
    rintro ms σ w ⟨rfl, ⟨c0, c1, c2⟩, g1, g2, H⟩
    rw [upd_self g1, upd_self g2]
    obtain ⟨c, rfl⟩ : ∃ c : Nat, count = c := ⟨count.toNat, by omega⟩
    have hcm : c * l.record ≤ 1024 * 64 := Nat.mul_le_mul (by omega) hc
    have hcm2 : (c : Int) * (l.record : Int) = ((c * l.record : Nat) : Int) := (Int.natCast_mul _ _).symm
    refine J130 H ?_
    refine J38 H ?_
    refine J11 H ?_
    refine J25 H ?_
    rw [hcm2, wrap64 (x := ((c * l.record : Nat) : Int)) (by omega) (by omega), wrap64 (x := (l.fixed : Int) + ((c * l.record : Nat) : Int)) (by omega) (by omega)]
    by_cases c3 : l.fixed + c * l.record ≥ 8192
    · have hs : sizeL l (c : Int) = (0, 10) := by unfold sizeL; rw [if_neg (by omega), if_pos (by simpa using c3)]
      rw [show decide ((l.fixed : Int) + ((c * l.record : Nat) : Int) ≥ 8192) = true from decide_eq_true (by omega)]
      refine J29 H ?_
      exact C_ret (Jy H.drop rfl fun w' H' => ⟨by rw [hs]; rfl, H'⟩)
    · have hs : sizeL l (c : Int) = (l.fixed + c * l.record, 0) := by unfold sizeL; rw [if_neg (by omega), if_neg (by simpa using c3)]; simp
      rw [show decide ((l.fixed : Int) + ((c * l.record : Nat) : Int) ≥ 8192) = false from decide_eq_false (by omega)]
      refine J9 H ?_
      refine J20 H ?_
      exact C_ret (Jy H.drop rfl fun w' H' => ⟨by rw [hs]; show Value.tuple #[.int .i64 ((l.fixed : Int) + ((c * l.record : Nat) : Int)), _] = _; rw [← Int.natCast_add]; rfl, H'⟩)

theorem Clone_spec [Extra] (v : Value) (l : List Nat) (hl : l.length ≤ 1000000) {w : World} {fr : List HProp} (hr : RdS fr v l.length 1 (ncells l)) (H : Holds w fr) :
    Calls Tryz.prog 160 #[v] w (ret fun x w' => Holds w' (NL x l :: fr)) := by
  obtain ⟨hr1, ad, cap, rfl, hr'⟩ := id hr
  refine calls_of Tryz.func160 rfl (by kernel_rfl) ?_
  refine J119 H ?_
  refine Lp_s rfl (St_eqSliceNil rfl rfl (.inl rfl) rfl ?_)
  refine Lp_nil ?_
  cases ad with
  | none =>
    have h0 : l.length = 0 := by
      rcases hr' with h | ⟨b, o, E, fz, c, h, _⟩
      · exact h
      · cases h
    have hn : l = [] := List.eq_nil_of_length_eq_zero h0
    subst hn
    refine J34 H ?_
    exact C_ret (Jy (sls_nil H) rfl fun w' H' => H')
  | some ad =>
    refine J9 H ?_
    refine J51 H ?_
    refine Lp_s rfl (St_buildSlice0 H rfl ?_)
    clear H; intro b5 w H
    refine J7 H ?_
    refine Lp_s rfl (St_appendS H rfl rfl hr (by simp [ncells, List.all_eq_true, Value.oneCell']) (by rw [ncells_length]; simp only [List.length_nil]; omega) rfl rfl ?_)
    clear H; intro v7 w H
    refine J42 H ?_
    exact C_ret (Jy H rfl fun w' H' => H')

theorem own_spec [Extra] (vr vq : Value) (l : Lay) (hs : SmallL l) {w : World} {fr : List HProp} (hr : RdL fr vr vq l) (H : Holds w fr) :
    Calls Tryz.prog 261 #[layV l.fixed vr l.record vq] w (ret fun x w' => ∃ vr' vq', x = layV l.fixed vr' l.record vq' ∧ Holds w' (NL vr' l.refs :: NL vq' l.recs :: fr)) := by
  obtain ⟨_, ad1, cap1, rfl, hr1⟩ := id hr.r
  obtain ⟨_, ad2, cap2, rfl, hr2⟩ := id hr.q
  refine calls_of Tryz.func261 rfl (by kernel_rfl) ?_
  refine J8 H ?_
  clear H; intro b1 w H
  refine J17 H ?_
  clear H; intro b2 w H
  refine Lp_nil ?_
  refine J1 H ?_
  clear H; intro w H
  refine A_fieldAddr 0 rfl (Wants.none rfl) rfl (by kernel_rfl) ?_
  refine A_load1 1 [2, 5, 7, 9] H rfl (Wants.none rfl) rfl rfl (by kernel_rfl) ?_
  refine J120 H ?_
  refine A_load1 4 [5, 7, 9] H rfl (Wants.none rfl) rfl rfl (by kernel_rfl) ?_
  refine Jo 2 H ?_
  refine Jk rfl rfl (Clone_spec _ l.refs hs.a hr.r.there.there H) ?_
  clear H; rintro v5 w H
  obtain ⟨a5, m5, c5, rfl⟩ := sls_any H
  refine J57 H ?_
  refine Jo 5 H ?_
  refine Jk rfl rfl (Clone_spec _ l.recs hs.b hr.q.there.there.there H) ?_
  clear H; rintro v8 w H
  obtain ⟨a8, m8, c8, rfl⟩ := sls_any H
  
  refine Jo 7 H ?_
  refine J113 H ?_
  clear H; intro w H
  refine A_fieldAddr 8 rfl (Wants.none rfl) rfl (by kernel_rfl) ?_
  refine Jo 9 H ?_
  refine J113 H ?_
  clear H; intro w H
  refine J4 H ?_
  refine J78 H ?_
  clear H; intro w H
  refine Lp_nil ?_
  replace H := Js [2,1,0] 1 H
  exact C_ret (Jz H (fun w' H' => .cellN H' rfl (by repeat (first | exact Reads.nil _ | apply Reads.cons rfl)) .nil) fun w' H' => ⟨_, _, rfl, H'.drop⟩)

theorem spread_spec [Extra] (x : Nat) (hx : x < 18446744073709551616) {w : World} {fr : List HProp} [hT : HasTab 0 Lib.deBruijn64tab fr] (H : Holds w fr) :
    Calls Tryz.prog 259 #[.int .u64 x] w (ret fun v w' => Holds w' (NL v (bitsTo x 64) :: fr)) := by
  refine calls_of Tryz.func259 rfl (by kernel_rfl) ?_
  refine J12 H ?_
  refine J12 H ?_
  refine J21 H ?_
  refine C_loop (fun ms σ w n => ms = [] ∧ ∃ (k y : Nat) (g : Value), k ≤ 64 ∧ n = 64 - k ∧ y < 18446744073709551616 ∧ (∀ i, y.testBit i = (x.testBit i && decide (k ≤ i))) ∧ σ 0 = .int .u64 y ∧ σ 3 = g ∧ Holds w (NL g (bitsTo x k) :: fr)) (m := 64) ⟨rfl, 0, x, _, by omega, rfl, hx, fun i => by simp, rfl, rfl, sls_nil H⟩ ?_
  clear H
  rintro ms σ w n ⟨rfl, k, y, g, hk, rfl, hy, hbit, g0, g3, H⟩
  obtain ⟨ag, mg, cg, rfl⟩ := sls_any H
  rw [upd_self g0, upd_self g3]
  refine J5 H ?_
  by_cases h0 : y = 0
  · rw [show ((y : Int) != 0) = false by simp; exact h0]
    refine J14 H ?_
    refine C_false rfl (C_exit ?_)
    have he : bitsTo x 64 = bitsTo x k := bitsTo_off (by omega) (fun i h1 h2 => by
      have := hbit i
      rw [h0, Nat.zero_testBit] at this
      simpa [h1] using this.symm)
    rw [← he] at H
    refine J5 H ?_
    exact C_ret (Jy H rfl fun w' H' => H')
  · rw [show ((y : Int) != 0) = true by simp; exact h0]
    refine J14 H ?_
    refine C_true rfl (C_skip ?_)
    obtain ⟨ht1, ht2, ht3⟩ := ctz_bits h0 hy
    refine J21 H ?_
    refine J2 H ?_
    refine Jc rfl rfl (Tz_spec y hy H) ?_
    clear H; rintro v w ⟨rfl, H⟩
    refine J32 H ?_
    clear H; intro b13 w H
    generalize Lib.ctz 64 y = t at ht1 ht2 ht3 H
    replace H := Js [1,0] 0 H
    refine Lp_s rfl (St_append H rfl rfl (by repeat (first | exact Reads.nil _ | apply Reads.cons rfl)) rfl (by decide) (by rw [ncells_length]; have := bitsTo_len x k; simp only [List.length_cons, List.length_nil]; omega) rfl rfl ?_)
    clear H; intro v14 w H
    obtain ⟨a14, m14, c14, rfl⟩ := sls_any H
    refine J0 H ?_
    have hb := hbit t
    rw [ht2] at hb
    have hb1 : x.testBit t = true ∧ k ≤ t := by simpa using hb.symm
    have hcl := clear_low ht2 ht3
    have hyl : y &&& (y - 1) < 18446744073709551616 := Nat.lt_of_le_of_lt Nat.and_le_left hy
    refine J81 H ?_
    have e1 : IntKind.u64.wrap ((y : Int) - 1) = ((y - 1 : Nat) : Int) := by
      rw [show (y : Int) - 1 = ((y - 1 : Nat) : Int) by omega, wrapU_nat (by omega)]
    rw [e1, bit_and hy (by omega)]
    have e2 : bitsTo x (t + 1) = bitsTo x k ++ [t] := by
      rw [bitsTo_succ, hb1.1, if_pos rfl, bitsTo_off hb1.2 (fun i h1 h2 => ?_)]
      have h3 := ht3 i h2
      rw [hbit i] at h3
      simpa [h1] using h3
    refine ⟨_, ⟨rfl, t + 1, y &&& (y - 1), _, by omega, rfl, hyl, fun i => ?_, rfl, rfl, ?_⟩, by omega⟩
    · rw [hcl, hbit i]
      by_cases h1 : i < t
      · have h3 := ht3 i h1
        rw [hbit i] at h3
        rw [h3, show decide (t + 1 ≤ i) = false by simp; omega]
        simp
      · by_cases h2 : i = t
        · subst h2; simp
        · rw [show decide (t + 1 ≤ i) = true by simp; omega, show decide (k ≤ i) = true by simp; omega]
          simp [h2]
    · rw [e2]
      show Holds w (sls _ 1 _ (ncells (bitsTo x k ++ [t])) :: _)
      rw [ncells_append]
      exact Holds.drop H.swap
end Go.Proofs.YtipelpbkeiphmaaGreatDoor
namespace Go.Proofs.YtipelpbkeiphmaaGreatDoor
open Go.SL

theorem decodeL3 (x y z : Nat) : decodeL [x, y, z] = if x < 65536 ∧ RightL (layOf x y z) then some (layOf x y z) else none := rfl

theorem lDecode_no [Extra] (v : Value) (n : Nat) (hn : n ≠ 3) (hv : ∃ a c, v = .slice a n c) {w : World} {fr : List HProp} (H : Holds w fr) :
    Calls Tryz.prog 192 #[v] w (ret fun x w' => x = .tuple #[layV 0 (.slice none 0 0) 0 (.slice none 0 0), .int .i64 4] ∧ Holds w' fr) := by
  obtain ⟨a, c, rfl⟩ := hv
  refine calls_of Tryz.func192 rfl (by kernel_rfl) ?_
  refine J23 H ?_
  clear H; intro b2 w H
  refine J0 H ?_
  refine J99 H ?_
  rw [show ((n : Int) != 3) = true by simp; omega]
  refine J137 H ?_
  clear H; intro w H
  refine J0 H ?_
  exact C_ret (Jz H (fun w' H' => .cellN H' rfl (by repeat (first | exact Reads.nil _ | apply Reads.cons rfl)) (.tmp .nil)) fun w' H' => ⟨rfl, H'.drop⟩)

theorem lDecode_spec [Extra] (v : Value) (x y z : Nat) (hx : x < 18446744073709551616) (hy : y < 18446744073709551616) (hz : z < 18446744073709551616) {w : World} {fr : List HProp} [hT : HasTab 0 Lib.deBruijn64tab fr] (hr : RdS fr v 3 1 (ucells [x, y, z])) (H : Holds w fr) :
    Calls Tryz.prog 192 #[v] w (ret fun r w' => (decodeL [x, y, z] = none ∧ r = .tuple #[layV 0 (.slice none 0 0) 0 (.slice none 0 0), .int .i64 4] ∧ Holds w' fr) ∨
      ∃ l vr vq, decodeL [x, y, z] = some l ∧ r = .tuple #[layV l.fixed vr l.record vq, .int .i64 0] ∧ Holds w' (NL vr l.refs :: NL vq l.recs :: fr)) := by
  obtain ⟨_, ad, cap, rfl, hr'⟩ := id hr
  rcases hr' with h | ⟨b, o, E, fz, c, rfl, hA, hrd⟩
  · omega
  haveI := hA
  have c0 : c[o + 0 * 1]? = some (.int .u64 x) := by have := hrd.get 0 (.int .u64 x) (by simp [ucells]); simpa using this
  have c1 : c[o + 1 * 1]? = some (.int .u64 y) := by have := hrd.get 1 (.int .u64 y) (by simp [ucells]); simpa using this
  have c2 : c[o + 2 * 1]? = some (.int .u64 z) := by have := hrd.get 2 (.int .u64 z) (by simp [ucells]); simpa using this
  refine calls_of Tryz.func192 rfl (by kernel_rfl) ?_
  refine J23 H ?_
  clear H; intro b2 w H
  refine J0 H ?_
  refine J90 H ?_
  refine J35 H ?_
  refine J1 H ?_
  clear H; intro w H
  refine J76 H ?_
  refine A_indexAddr 1 rfl (Wants.none rfl) rfl rfl (by omega) (by omega) (by kernel_rfl) ?_
  refine A_load1 2 [4] H rfl (Wants.none rfl) rfl c0 (by kernel_rfl) ?_
  refine Jo 3 H ?_
  refine Jk rfl rfl (sizes_spec H) ?_
  clear H; rintro v w H
  refine Jo 4 H ?_
  refine Jk rfl rfl (Unpack_spec x hx _ sizF ris_siz (by decide) H) ?_
  clear H; rintro v2 w ⟨u, rfl, H⟩
  obtain ⟨au, cu, rfl⟩ := sls_slice H (m := 3) (by simp [ucells, sizF]) (by decide)
  refine J54 H ?_
  refine J146 H ?_
  refine J121 H ?_
  obtain ⟨bu, su, rfl, H, hclose⟩ := sls_open H (by omega)
  have d0 : (ucells (sizF.map (getF x)) ++ su)[0 + 0 * 1]? = some (.int .u64 (getF x (0, 8))) := rfl
  have d1 : (ucells (sizF.map (getF x)) ++ su)[0 + 1 * 1]? = some (.int .u64 (getF x (8, 8))) := rfl
  have d2 : (ucells (sizF.map (getF x)) ++ su)[0 + 2 * 1]? = some (.int .u64 (getF x (16, 48))) := rfl
  have e8 : IntKind.i64.wrap ((getF x (0, 8) : Nat) : Int) = ((x % 256 : Nat) : Int) := by
    rw [wrapI_nat (by have := Nat.mod_lt (x / 2 ^ 0) (show 0 < 2 ^ 8 by decide); show x / 2 ^ 0 % 2 ^ 8 < _; omega)]
    show ((x / 2 ^ 0 % 2 ^ 8 : Nat) : Int) = _
    simp
  have e16 : IntKind.i64.wrap ((getF x (8, 8) : Nat) : Int) = ((x / 256 % 256 : Nat) : Int) := by
    rw [wrapI_nat (by have := Nat.mod_lt (x / 2 ^ 8) (show 0 < 2 ^ 8 by decide); show x / 2 ^ 8 % 2 ^ 8 < _; omega)]
    rfl
  refine J14 H ?_
  refine C_joinQ (fun ms σ w => ms = [] ∧ ∃ b6 va vb, σ 2 = pp b2 ∧ σ 4 = .slice (some ⟨bu, 0, none⟩) 3 cu ∧ σ 6 = pp b6 ∧
    Holds w (pts b6 (row 201 [.int .i64 ((x % 256 : Nat) : Int), va, .int .i64 ((x / 256 % 256 : Nat) : Int), vb]) :: NL va (bitsTo y 64) :: NL vb (bitsTo z 64) :: pts bu (row 127 (ucells (sizF.map (getF x)) ++ su)) :: pts b2 (row 201 [.int .i64 0, .slice none 0 0, .int .i64 0, .slice none 0 0]) :: fr)) ?_ ?_
  · replace H := Js [0,1] 1 H
    refine J1 H ?_
    clear H; intro w H
    refine J76 H ?_
    refine A_indexAddr 1 rfl (Wants.none rfl) rfl rfl (by omega) (by omega) (by kernel_rfl) ?_
    refine A_load1 2 [18] H rfl (Wants.none rfl) rfl d0 (by kernel_rfl) ?_
    refine J134 H ?_
    refine J62 H ?_
    refine A_indexAddr 5 rfl (Wants.none rfl) rfl rfl (by omega) (by omega) (by kernel_rfl) ?_
    refine A_load1 6 [7] H rfl (Wants.none rfl) rfl c1 (by kernel_rfl) ?_
    refine J55 H ?_
    refine A_indexAddr 9 rfl (Wants.none rfl) rfl rfl (by omega) (by omega) (by kernel_rfl) ?_
    refine A_load1 10 [18] H rfl (Wants.none rfl) rfl d1 (by kernel_rfl) ?_
    refine A_convI 11 rfl (Wants.none rfl) rfl (by kernel_rfl) ?_
    refine A_pv 12 rfl (Wants.none rfl) rfl (by kernel_rfl) ?_
    refine A_indexAddr 13 rfl (Wants.none rfl) rfl rfl (by omega) (by omega) (by kernel_rfl) ?_
    refine A_load1 14 [15] H rfl (Wants.none rfl) rfl c2 (by kernel_rfl) ?_
    rw [e8, e16]
    refine A_two 7 17 rfl rfl (by kernel_rfl) (by repeat first | exact .nil | refine .cons (.inr H.at) ?_ | refine .cons (.inr H.mp) ?_ | refine .cons (.inl (by kernel_rfl)) ?_) (Wants.none rfl) (Wants.none rfl) (St_call (a := []) (b := []) rfl rfl (call (spread_spec y hy H) ?_)) (St_alloc H rfl ?_)
    · clear H; intro va w H
      obtain ⟨aa, ma, ca, rfl⟩ := sls_any H
      refine A_two 15 17 rfl rfl (by kernel_rfl) (by repeat first | exact .nil | refine .cons (.inr H.at) ?_ | refine .cons (.inr H.mp) ?_ | refine .cons (.inl (by kernel_rfl)) ?_) (Wants.none rfl) (Wants.none rfl) (St_call (a := []) (b := []) rfl rfl (call (spread_spec z hz H) ?_)) (St_alloc H rfl ?_)
      · clear H; intro vb w H
        obtain ⟨ab, mb, cb, rfl⟩ := sls_any H
        refine A_build 16 rfl (Wants.none rfl) rfl (by kernel_rfl) ?_
        refine Jo 17 H ?_
        refine St_alloc H rfl ?_
        clear H; intro b6 w H
        refine Jo 18 H ?_
        refine J65 H ?_
        clear H; intro w H
        refine J4 H ?_
        replace H := Js [0,1,0,0,0] 0 H
        exact .inl ⟨rfl, rfl, b6, _, _, rfl, rfl, rfl, H⟩
      · clear H; intro b6 w H
        refine Jo 15 H ?_
        refine Jk rfl rfl (spread_spec z hz H) ?_
        clear H; intro vb w H
        obtain ⟨ab, mb, cb, rfl⟩ := sls_any H
        refine A_build 16 rfl (Wants.none rfl) rfl (by kernel_rfl) ?_
        refine Jo 18 H ?_
        refine J65 H ?_
        clear H; intro w H
        refine J4 H ?_
        replace H := Js [1,1,0,0,0] 0 H
        exact .inl ⟨rfl, rfl, b6, _, _, rfl, rfl, rfl, H⟩
    · clear H; intro b6 w H
      refine Jo 7 H ?_
      refine Jk rfl rfl (spread_spec y hy H) ?_
      clear H; intro va w H
      obtain ⟨aa, ma, ca, rfl⟩ := sls_any H
      refine Jo 15 H ?_
      refine Jk rfl rfl (spread_spec z hz H) ?_
      clear H; intro vb w H
      obtain ⟨ab, mb, cb, rfl⟩ := sls_any H
      refine A_build 16 rfl (Wants.none rfl) rfl (by kernel_rfl) ?_
      refine Jo 18 H ?_
      refine J65 H ?_
      clear H; intro w H
      refine J4 H ?_
      replace H := Js [2,1,0,0,0] 0 H
      exact .inl ⟨rfl, rfl, b6, _, _, rfl, rfl, rfl, H⟩
  · clear H
    rintro ms σ w ⟨rfl, b6, va, vb, g2, g4, g6, H⟩
    rw [upd_self g2, upd_self g4, upd_self g6]
    have hla := bitsTo_len y 64
    have hlb := bitsTo_len z 64
    obtain ⟨aa, ca, rfl⟩ := sls_slice (H.drop) (ncells_length (bitsTo y 64)) (by decide)
    obtain ⟨ab, cb, rfl⟩ := sls_slice (H.drop.drop) (ncells_length (bitsTo z 64)) (by decide)
    refine J16 H ?_
    refine Lp_s rfl (St_indexAddr rfl rfl (by omega) (by omega) rfl ?_)
    refine Lp_s rfl (St_load1 H rfl d2 rfl ?_)
    refine J7 H ?_
    have hn : getF x (16, 48) = x / 65536 := by
      show x / 2 ^ 16 % 2 ^ 48 = _
      rw [Nat.mod_eq_of_lt (by omega)]
    rw [hn]
    by_cases hb : x < 65536
    · rw [show (((x / 65536 : Nat) : Int) != 0) = false by simp; omega]
      refine J7 H ?_
      refine J70 H ?_
      have h8 : x / 256 % 256 = x / 256 := Nat.mod_eq_of_lt (by omega)
      rw [h8] at H ⊢
      replace H := Js [1,1,0,0,0] 0 H
      obtain ⟨D1, H, hD1, hC1⟩ := sls_rd H (ncells_length (bitsTo y 64)) (by decide)
      obtain ⟨D2, H, hD2, hC2⟩ := sls_rd H.swap (ncells_length (bitsTo z 64)) (by decide)
      refine Lp_g rfl rfl rfl (St_call (a := []) (b := []) rfl rfl (call (lRight_spec _ _ (layOf x y z) ⟨by show x % 256 ≤ _; omega, by show x / 256 ≤ _; omega, by show (bitsTo y 64).length ≤ _; omega, by show (bitsTo z 64).length ≤ _; omega⟩ ⟨(hD1 _).there, hD2 _⟩ H) ?_))
      clear H; rintro v w ⟨⟨q, rfl, hq⟩, H⟩
      have H := (hC1 _ _ (hC2 _ _ H).swap)
      cases q with
      | true =>
        refine J71 H ?_
        refine J78 H ?_
        clear H; intro w H
        refine J0 H ?_
        replace H := Js [4,0,0] 2 H
        refine C_ret (Jz H (fun w' H' => .cellN H' rfl (by repeat (first | exact Reads.nil _ | apply Reads.cons rfl)) (.tmp .nil)) fun w' H' => .inr ⟨layOf x y z, _, _, ?_, rfl, H'.drop⟩)
        rw [decodeL3]
        rw [if_pos ⟨hb, hq.1 rfl⟩]
      | false =>
        refine J22 H ?_
        refine J147 H ?_
        clear H; intro w H
        refine J0 H ?_
        replace H := Js [4] 4 H
        refine C_ret (Jz H (fun w' H' => .cellN H' rfl (by repeat (first | exact Reads.nil _ | apply Reads.cons rfl)) (.tmp .nil)) fun w' H' => .inl ⟨?_, rfl, H'.drop⟩)
        rw [decodeL3]
        rw [if_neg]
        rintro ⟨_, h2⟩
        have := hq.2 h2
        cases this
    · rw [show (((x / 65536 : Nat) : Int) != 0) = true by simp; omega]
      refine J7 H ?_
      refine J82 H ?_
      refine J147 H ?_
      clear H; intro w H
      refine J0 H ?_
      replace H := Js [4] 4 H
      refine C_ret (Jz H (fun w' H' => .cellN H' rfl (by repeat (first | exact Reads.nil _ | apply Reads.cons rfl)) (.tmp .nil)) fun w' H' => .inl ⟨?_, rfl, H'.drop⟩)
      rw [decodeL3]
      rw [if_neg]
      rintro ⟨h1, _⟩
      exact hb h1
end Go.Proofs.YtipelpbkeiphmaaGreatDoor
