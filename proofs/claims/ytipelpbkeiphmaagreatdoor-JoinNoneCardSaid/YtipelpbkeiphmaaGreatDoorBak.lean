/- Cells: what is proved on the way: every input of the statement; no condition. Texts joined: RmC RmD RmE KidA TreP TreB BagC BagD TabA. -/
import Derived.Test.YtipelpbkeiphmaaGreatDoorBaf
import Derived.Test.YtipelpbkeiphmaaGreatDoorBai
import Derived.Test.YtipelpbkeiphmaaGreatDoorBae
import Derived.Test.YtipelpbkeiphmaaGreatDoorBaj
set_option linter.unusedVariables false
set_option linter.unusedSimpArgs false
set_option linter.unusedSectionVars false
namespace Go.Proofs.YtipelpbkeiphmaaGreatDoor
open Go.SL

theorem kp_inj : ∀ a b : Rf, kp a = kp b → a = b := tkR.inj
/-- The references' cells, one behind the other. -/
def rcells (l : List Rf) : List Value := l.flatMap fun r => [.int .i64 r.1, .int .i64 r.2]
theorem rcells_length (l : List Rf) : (rcells l).length = l.length * 2 := by
  induction l with
  | nil => rfl
  | cons r l ih => simp only [rcells, List.flatMap_cons, List.length_append, List.length_cons, List.length_nil] at ih ⊢; omega
theorem rcells_append (a b : List Rf) : rcells (a ++ b) = rcells a ++ rcells b := by simp [rcells]

theorem rKeys_spec [Extra] (x : Option Nat) (m : List (Rf × Int)) {w : World} {fr : List HProp} (H : Holds w (mpv kp v1 (.map x) m :: fr)) :
    Calls Tryz.prog 226 #[.map x] w
      (ret fun v w' => ∃ b, v = .func (.func 295) #[] #[pp b] ∧ Holds w' (pts b (row 217 [.map x]) :: mpv kp v1 (.map x) m :: fr)) := by
  refine calls_of Tryz.func226 rfl (by kernel_rfl) ?_
  refine J52 H ?_
  clear H; intro b1 w H
  refine J24 H ?_
  refine C_ret (Jy H rfl fun w' H' => ⟨b1, rfl, H'⟩)

theorem sub_length {α : Type} : ∀ {l₁ l₂ : List α}, l₁.Nodup → (∀ z ∈ l₁, z ∈ l₂) → l₁.length ≤ l₂.length
  | [], _, _, _ => Nat.zero_le _
  | c :: l, l₂, hn, hs => by
    obtain ⟨s, t, rfl⟩ := List.append_of_mem (hs c (by simp))
    have h := List.nodup_cons.1 hn
    have := sub_length (l₂ := s ++ t) h.2 (fun z hz => by
      have h1 := hs z (by simp [hz])
      have h2 : z ≠ c := fun e => h.1 (e ▸ hz)
      simp [h2] at h1
      simpa using h1)
    simp at this ⊢
    omega

theorem KeysIter [Extra] (yl b : Nat) (x : Option Nat) (m : List (Rf × Int)) (J : List Rf → HProp)
    (hy : ∀ ks r rest w, ks.length < m.length → Holds w (J ks :: rest) → SL.Yields Tryz.prog yl #[rf r] w (fun v w' => v = .bool true ∧ Holds w' (J (ks ++ [r]) :: rest)))
    {w : World} {fr : List HProp} (H : Holds w (J [] :: pts b (row 217 [.map x]) :: mpv kp v1 (.map x) m :: fr)) :
    Calls Tryz.prog 295 #[.func (.yield yl) #[] #[], pp b] w
      (ret fun _ w' => ∃ ks, ks.Perm (m.map (·.1)) ∧ Holds w' (J ks :: mpv kp v1 (.map x) m :: fr)) := by
  refine calls_of Tryz.func295 rfl (by kernel_rfl) ?_
  refine J43 H ?_
  replace H := Js [2,0,0] 0 H
  refine Lp_s rfl (St_range kp v1 H rfl rfl ?_)
  clear H; intro bi w H
  refine Lp_nil ?_
  refine C_block ?_
  refine C_loop (fun ms σ w n => ms = [] ∧ ∃ ks : List Rf, σ 0 = .func (.yield yl) #[] #[] ∧ σ 5 = pp bi ∧ n = m.length - ks.length ∧ Holds w (mit kp v1 (.map x) m bi ks :: J ks :: pts b (row 217 [.map x]) :: fr)) (m := m.length) ⟨rfl, [], rfl, rfl, rfl, H⟩ ?_
  clear H w
  rintro ms σ w n ⟨rfl, ks, h0, h5, rfl, H⟩
  rw [upd_self h0, upd_self h5]
  refine J30 H ?_
  refine Lp_s rfl (St_next H kp_inj rfl rfl (fun hp w H => ?_) (fun q hq hn hnd hsub w H => ?_))
  · refine J15 H ?_
    refine C_false rfl (C_exit ?_)
    replace H := mit_mpv H
    replace H := Js [1,0] 1 H
    exact fn_end0 _ (.inl rfl) H rfl fun w' H' => ⟨ks, hp, H'⟩
  · have hlt : ks.length < m.length := by
      have h1 : (ks ++ [q.1]).Nodup := by
        rw [List.nodup_append]
        exact ⟨hnd, by simp, fun c hc c' hc' e0 => by simp at hc'; subst hc'; subst e0; exact hn hc⟩
      have h2 := sub_length h1 (l₂ := m.map (·.1)) (fun z hz => by
        rcases List.mem_append.1 hz with hz | hz
        · exact hsub z hz
        · simp at hz; subst hz; exact List.mem_map_of_mem hq)
      simp at h2
      omega
    refine J15 H ?_
    refine C_true rfl (C_skip ?_)
    refine C_block ?_
    refine J30 H ?_
    refine Lp_s rfl (St_entry H kp_inj hq rfl rfl ?_)
    refine J6 H ?_
    refine J17 H ?_
    clear H; intro b3 w H
    refine J7 H ?_
    clear H; intro w H
    refine Lp_nil ?_
    refine J75 H ?_
    replace H := Js [2,0,0,0] 0 H
    refine Lp_s rfl (St_yield rfl rfl (SL.Yields.mono (hy ks q.1 _ _ hlt H) ?_))
    clear H; rintro v w ⟨rfl, H⟩
    refine J35 H ?_
    replace H := Js [2,0,1] 1 H
    exact ⟨_, ⟨rfl, ks ++ [q.1], rfl, rfl, rfl, H⟩, by simp; omega⟩

/-- What the collecting loop keeps. -/
def CJ (L : HProp) (b2 : Nat) (ks : List Rf) : HProp := ex fun v : Value => star [sls 166 2 v (rcells ks), L, pts b2 (row 143 [v])]

theorem CJ_out [Extra] {w : World} {L : HProp} {b2 : Nat} {ks : List Rf} {l : List HProp} (H : Holds w (CJ L b2 ks :: l)) : ∃ v, Holds w (sls 166 2 v (rcells ks) :: L :: pts b2 (row 143 [v]) :: l) := by
  obtain ⟨v, H⟩ := Holds.ex.1 H
  exact ⟨v, Holds.star.1 H⟩
theorem CJ_in [Extra] {w : World} {L : HProp} {b2 : Nat} {ks : List Rf} {l : List HProp} {v : Value} (H : Holds w (sls 166 2 v (rcells ks) :: L :: pts b2 (row 143 [v]) :: l)) : Holds w (CJ L b2 ks :: l) :=
  Holds.ex.2 ⟨v, Holds.star.2 H⟩

theorem sls_one [Extra] {w : World} {E k : Nat} {v : Value} {c : List Value} {l : List HProp} (H : Holds w (sls E k v c :: l)) : v.oneCell' = true := by
  rcases sls_case H with ⟨rfl, _⟩ | ⟨_, _, _, _, rfl, _⟩ <;> rfl

theorem rAppendSeq_spec [Extra] (b : Nat) (x : Option Nat) (m : List (Rf × Int)) (hm : m.length ≤ 1000000) {w : World} {fr : List HProp} (H : Holds w (pts b (row 217 [.map x]) :: mpv kp v1 (.map x) m :: fr)) :
    Calls Tryz.prog 318 #[.slice none 0 0, .func (.func 295) #[] #[pp b]] w
      (ret fun v w' => ∃ ks, ks.Perm (m.map (·.1)) ∧ Holds w' (sls 166 2 v (rcells ks) :: mpv kp v1 (.map x) m :: fr)) := by
  refine calls_of Tryz.func318 rfl (by kernel_rfl) ?_
  refine J52 H ?_
  clear H; intro b2 w H
  refine J0 H ?_
  refine J12 H ?_
  refine C_block (C_rangeFunc (a := []) (b := [pp b]) H rfl (fun yl D w H => ?_))
  generalize hL : LR _ yl _ _ _ _ D .ready = L at H ⊢
  replace H := sls_nil (E := 166) (k := 2) H
  replace H := Js [0,0,1,1,1,0] 0 H
  refine call (KeysIter yl b x m (CJ L b2) ?_ (CJ_in (ks := []) H)) ?_
  · intro ks r rest w hlt H
    obtain ⟨a, c⟩ := r
    obtain ⟨v, H⟩ := CJ_out H
    have h1 := sls_one H
    subst hL
    replace H := Js [1,0,0] 0 H
    refine Yields_of (args := [rf (a, c)]) H rfl rfl ?_
    refine J22 H ?_
    clear H; intro b5 w H
    refine J7 H ?_
    clear H; intro w H
    refine Lp_nil ?_
    replace H := Js [1,1,0,0] 0 H
    refine ⟨rfl, _, H, fun w H => C_block ?_⟩
    refine J43 H ?_
    refine J44 H ?_
    refine J34 H ?_
    clear H; intro b10 w H
    replace H := Js [2,0,0,0,0] 0 H
    refine Lp_s rfl (St_append H rfl rfl (by repeat (first | exact Reads.nil _ | apply Reads.cons rfl)) rfl (by decide) (by simp only [rcells_length, List.length_cons, List.length_nil]; omega) rfl rfl ?_)
    clear H; intro v11 w H
    obtain ⟨a11, c11, rfl⟩ := sls_slice (m := ks.length + 1) H (by simp [rcells_length]; omega) (by decide)
    refine Lp_s rfl (St_store1 H rfl rfl inferInstance (sls_one H) (Nat.le_of_ble_eq_true rfl) rfl ?_)
    clear H; intro w H
    refine Lp_nil ?_
    replace H := Js [2,0,2] 2 H
    refine ⟨rfl, _, H, fun w H => ⟨rfl, CJ_in (v := .slice a11 (ks.length + 1) c11) ?_⟩⟩
    replace H := Js [1,0,0] 0 H
    rw [rcells_append]
    exact H
  · rintro v w' ⟨ks, hp, H⟩
    obtain ⟨v2, H⟩ := CJ_out H
    have h1 := sls_one H
    subst hL
    replace H := Js [1,0,0,0,0] 0 H
    refine ⟨_, H, fun w H => ?_⟩
    refine J43 H ?_
    refine J42 H ?_
    replace H := Js [3,0,1] 1 H
    exact C_ret (fn_end (ms := [D]) _ (.inr rfl) ((Holds.star (k := [pts D (.deferred (some []))])).2 H) rfl fun w' H' => ⟨ks, hp, H'⟩)

theorem rCollect_spec [Extra] (b : Nat) (x : Option Nat) (m : List (Rf × Int)) (hm : m.length ≤ 1000000) {w : World} {fr : List HProp} (H : Holds w (pts b (row 217 [.map x]) :: mpv kp v1 (.map x) m :: fr)) :
    Calls Tryz.prog 293 #[.func (.func 295) #[] #[pp b]] w
      (ret fun v w' => ∃ ks, ks.Perm (m.map (·.1)) ∧ Holds w' (sls 166 2 v (rcells ks) :: mpv kp v1 (.map x) m :: fr)) := by
  refine calls_of Tryz.func293 rfl (by kernel_rfl) ?_
  refine J121 H ?_
  refine Jc rfl rfl (rAppendSeq_spec b x m hm H) ?_
  rintro v w ⟨ks, hp, H⟩
  refine J42 H ?_
  exact C_ret (Jy H rfl fun w' H' => ⟨ks, hp, H'⟩)
end Go.Proofs.YtipelpbkeiphmaaGreatDoor
namespace Go.Proofs.YtipelpbkeiphmaaGreatDoor
open Go.SL

theorem risNaN_spec [Extra] (a : Int) (w : World) : Calls Tryz.prog 163 #[.int .i64 a] w (ret fun v w' => v = .bool false ∧ w' = w) := by
  refine calls_of Tryz.func163 rfl (by kernel_rfl) ?_
  repeat refine C_seq ?_
  refine C_region ?_
  refine Lp_pv rfl rfl ?_
  refine Lp_nil ?_
  repeat refine C_seq ?_
  refine C_region ?_
  refine Lp_pv rfl rfl ?_
  refine Lp_pv rfl rfl ?_
  refine Lp_pv rfl rfl ?_
  refine Lp_pv rfl rfl ?_
  refine Lp_nil ?_
  exact C_ret (fn_endX (.inr rfl) rfl ⟨by show Value.bool (a != a) = _; simp, rfl⟩)

def cmpI (a b : Int) : Int := if a < b then -1 else if b < a then 1 else 0

theorem rCompare_spec [Extra] (a b : Int) (w : World) : Calls Tryz.prog 78 #[.int .i64 a, .int .i64 b] w (ret fun v w' => v = .int .i64 (cmpI a b) ∧ w' = w) := by
  refine calls_of Tryz.func78 rfl (by kernel_rfl) ?_
  repeat refine C_seq ?_
  refine C_region ?_
  refine Lp_pv rfl rfl ?_
  refine Lp_nil ?_
  repeat refine C_seq ?_
  refine C_region ?_
  refine Lp_pv rfl rfl ?_
  refine Jc rfl rfl (risNaN_spec a _) ?_
  rintro v w' ⟨rfl, rfl⟩
  refine Lp_pv rfl rfl ?_
  refine Lp_nil ?_
  repeat refine C_seq ?_
  refine C_region ?_
  refine Lp_pv rfl rfl ?_
  refine Jc rfl rfl (risNaN_spec b _) ?_
  rintro v w' ⟨rfl, rfl⟩
  refine Lp_pv rfl rfl ?_
  refine Lp_nil ?_
  repeat refine C_seq ?_
  refine C_region ?_
  refine Lp_pv rfl rfl ?_
  refine Lp_nil ?_
  repeat refine C_seq ?_
  refine C_false rfl (C_skip ?_)
  repeat refine C_seq ?_
  refine C_region ?_
  refine Lp_pv rfl rfl ?_
  refine Lp_nil ?_
  repeat refine C_seq ?_
  refine C_false rfl (C_skip ?_)
  repeat refine C_seq ?_
  refine C_region ?_
  refine Lp_pv rfl rfl ?_
  refine Lp_pv rfl rfl ?_
  refine Lp_pv rfl rfl ?_
  refine Lp_nil ?_
  repeat refine C_seq ?_
  refine C_dec rfl (fun h => ?_) (fun h => C_skip ?_)
  · repeat refine C_seq ?_
    refine C_region ?_
    refine Lp_pv rfl rfl ?_
    refine Lp_nil ?_
    exact C_ret (fn_endX (.inr rfl) rfl ⟨by show Value.int .i64 (-1) = _; simp [cmpI, h], rfl⟩)
  · repeat refine C_seq ?_
    refine C_region ?_
    refine Lp_pv rfl rfl ?_
    refine Lp_pv rfl rfl ?_
    refine Lp_pv rfl rfl ?_
    refine Lp_nil ?_
    repeat refine C_seq ?_
    refine C_dec rfl (fun h2 => ?_) (fun h2 => C_skip ?_)
    · repeat refine C_seq ?_
      refine C_region ?_
      refine Lp_pv rfl rfl ?_
      refine Lp_nil ?_
      exact C_ret (fn_endX (.inr rfl) rfl ⟨by have : b < a := h2; show Value.int .i64 1 = _; simp [cmpI, h, this], rfl⟩)
    · repeat refine C_seq ?_
      refine C_region ?_
      refine Lp_pv rfl rfl ?_
      refine Lp_nil ?_
      exact C_ret (fn_endX (.inr rfl) rfl ⟨by have : ¬ b < a := h2; show Value.int .i64 0 = _; simp [cmpI, h, this], rfl⟩)

def orI (x y : Int) : Int := if x = 0 then y else x

theorem rOr_spec [Extra] (b : Nat) (x y : Int) {w : World} {fr : List HProp} (H : Holds w (pts b (row 3 [.int .i64 x, .int .i64 y]) :: fr)) :
    Calls Tryz.prog 77 #[.slice (some ⟨b, 0, none⟩) 2 2] w (ret fun v w' => v = .int .i64 (orI x y) ∧ w' = w) := by
  refine calls_of Tryz.func77 rfl (by kernel_rfl) ?_
  refine J9 H ?_
  repeat refine C_seq ?_
  refine C_region ?_
  refine Lp_pv rfl rfl ?_
  refine Lp_nil ?_
  repeat refine C_seq ?_
  refine C_region ?_
  refine Lp_pv rfl rfl ?_
  refine Lp_s rfl (St_lenSlice rfl rfl ?_)
  refine J15 H ?_
  refine J21 H ?_
  refine C_loop (fun ms σ w' n => ms = [] ∧ w' = w ∧ ∃ i : Nat, i ≤ 2 ∧ n = 2 - i ∧ σ 6 = .slice (some ⟨b, 0, none⟩) 2 2 ∧ σ 7 = .int .i64 2 ∧ σ 8 = .int .i64 i ∧ σ 3 = .int .i64 0 ∧ (1 ≤ i → x = 0) ∧ (2 ≤ i → y = 0)) (m := 2) ⟨rfl, rfl, 0, by omega, rfl, rfl, rfl, rfl, rfl, by omega, by omega⟩ ?_
  rintro ms σ w' n ⟨rfl, rfl, i, hi, rfl, h6, h7, h8, h3, hx, hy⟩
  rw [upd_self h6, upd_self h7, upd_self h8, upd_self h3]
  have h012 : i = 0 ∨ i = 1 ∨ i = 2 := by omega
  rcases h012 with rfl | rfl | rfl
  · refine J12 H ?_
    refine C_true rfl (C_skip ?_)
    refine J33 H ?_
    refine Lp_s rfl (St_indexAddr rfl rfl (by decide) (by decide) rfl ?_)
    refine J95 H ?_
    refine J157 H ?_
    refine J15 H ?_
    refine C_cond rfl (fun ht => ?_) (fun ht => C_skip ?_)
    · have hx0 : x ≠ 0 := by simpa using ht
      refine J5 H ?_
      exact C_ret (fn_endX (.inr rfl) rfl ⟨by show Value.int .i64 x = _; simp [orI, hx0], rfl⟩)
    · have hx0 : x = 0 := by simpa using ht
      refine J5 H ?_
      exact ⟨_, ⟨rfl, rfl, 1, by omega, rfl, rfl, rfl, rfl, rfl, by omega, by omega⟩, by omega⟩
  · refine J12 H ?_
    refine C_true rfl (C_skip ?_)
    refine J33 H ?_
    refine Lp_s rfl (St_indexAddr rfl rfl (by decide) (by decide) rfl ?_)
    refine J95 H ?_
    refine J157 H ?_
    refine J15 H ?_
    refine C_cond rfl (fun ht => ?_) (fun ht => C_skip ?_)
    · have hx0 : y ≠ 0 := by simpa using ht
      refine J5 H ?_
      exact C_ret (fn_endX (.inr rfl) rfl ⟨by show Value.int .i64 y = _; simp [orI, hx (by omega)], rfl⟩)
    · have hx0 : y = 0 := by simpa using ht
      refine J5 H ?_
      exact ⟨_, ⟨rfl, rfl, 2, by omega, rfl, rfl, rfl, rfl, rfl, by omega, by omega⟩, by omega⟩
  · refine J12 H ?_
    refine C_false rfl (C_exit ?_)
    refine J5 H ?_
    exact C_ret (fn_endX (.inr rfl) rfl ⟨by show Value.int .i64 0 = _; simp [orI, hx (by omega), hy (by omega)], rfl⟩)

def cmpR (x y : Rf) : Int := orI (cmpI x.1 y.1) (cmpI x.2 y.2)

open Go.Sort in
theorem rcmp_spec (x y : Rf) (w : World) : Calls Tryz.prog 227 #[rf x, rf y] w (ret fun v w' => v = .int .i64 (cmpR x y) ∧ ∃ q os', w' = grow (w.drewN q) os') := by
  obtain ⟨a, b⟩ := x
  obtain ⟨c, d⟩ := y
  letI : Extra := ⟨w.os, w.output⟩
  have H : Holds w [] := Holds.nil w ⟨rfl, rfl⟩
  refine calls_of Tryz.func227 rfl (by kernel_rfl) ?_
  repeat refine C_seq ?_
  refine C_region ?_
  refine Lp_s rfl (St_boxNX H rfl rfl ?_)
  clear H; intro b2 w1 e1 H
  refine Lp_s rfl (St_boxNX H rfl rfl ?_)
  clear H; intro b3 w2 e2 H
  refine Lp_pv rfl rfl ?_
  refine Lp_nil ?_
  repeat refine C_seq ?_
  refine C_drawX H mixed ?_
  clear H; intro w3 e3 H
  refine A_fieldAddr 0 rfl (Wants.none rfl) rfl (by kernel_rfl) ?_
  refine A_load1 1 [4, 9, 10, 11] H rfl (Wants.none rfl) rfl rfl (by kernel_rfl) ?_
  refine A_fieldAddr 2 rfl (Wants.none rfl) rfl (by kernel_rfl) ?_
  refine A_load1 3 [4, 9, 10, 11] H rfl (Wants.none rfl) rfl rfl (by kernel_rfl) ?_
  refine A_fieldAddr 5 rfl (Wants.none rfl) rfl (by kernel_rfl) ?_
  refine A_load1 6 [9, 10, 11] H rfl (Wants.none rfl) rfl rfl (by kernel_rfl) ?_
  refine A_fieldAddr 7 rfl (Wants.none rfl) rfl (by kernel_rfl) ?_
  refine A_load1 8 [9, 10, 11] H rfl (Wants.none rfl) rfl rfl (by kernel_rfl) ?_
  refine Jo 4 H ?_
  refine Jk rfl rfl (rCompare_spec a c _) ?_
  rintro v w' ⟨rfl, rfl⟩
  refine Jo 9 H ?_
  refine Jk rfl rfl (rCompare_spec b d _) ?_
  rintro v w' ⟨rfl, rfl⟩
  refine Jo 10 H ?_
  refine St_buildSliceX H rfl rfl rfl ?_
  clear H; intro b15 w5 e5 H
  refine Jo 11 H ?_
  refine Jk rfl rfl (rOr_spec b15 (cmpI a c) (cmpI b d) H) ?_
  rintro v w' ⟨rfl, rfl⟩
  refine A_pv 12 rfl (Wants.none rfl) rfl (by kernel_rfl) ?_
  refine A_end (by kernel_rfl) (by repeat first | exact .nil | refine .cons (.inr H.at) ?_ | refine .cons (.inr H.mp) ?_ | refine .cons (.inl (by kernel_rfl)) ?_) ?_
  have key : ∃ q os', w' = grow (w.drewN q) os' := by
    rw [e5, e3, e2, e1]
    simp only [alloc_eq_grow]
    exact ⟨1, _, by
      show grow (grow (grow (w.drewN 1) _) _) _ = _
      rw [grow_grow, grow_grow]⟩
  exact C_ret (fn_endX (.inr rfl) rfl ⟨rfl, key⟩)

def ltR (x y : Rf) : Prop := x.1 < y.1 ∨ x.1 = y.1 ∧ x.2 < y.2
instance (x y : Rf) : Decidable (ltR x y) := by unfold ltR; exact inferInstance

theorem cmpR_neg (x y : Rf) : cmpR x y < 0 ↔ ltR x y := by
  unfold cmpR orI cmpI ltR
  constructor
  · intro h
    repeat' split at h
    all_goals omega
  · intro h
    repeat' split
    all_goals omega

open Go.Sort in
theorem ltOf_cmpR (x y : Rf) : ltOf cmpR x y = decide (ltR x y) := by
  unfold ltOf
  rw [Bool.eq_iff_iff]
  simp [cmpR_neg]

open Go.Sort in
theorem swoR : SWO (ltOf cmpR) where
  irrefl x := by rw [ltOf_cmpR]; simp [ltR]
  trans x y z h1 h2 := by
    rw [ltOf_cmpR] at h1 h2 ⊢
    have h1 : ltR x y := of_decide_eq_true h1
    have h2 : ltR y z := of_decide_eq_true h2
    have h3 : ltR x z := by unfold ltR at *; omega
    exact decide_eq_true h3
  ntrans x y z h1 h2 := by
    rw [ltOf_cmpR] at h1 h2 ⊢
    have h1 : ¬ ltR x y := of_decide_eq_false h1
    have h2 : ¬ ltR y z := of_decide_eq_false h2
    have h3 : ¬ ltR x z := by unfold ltR at *; omega
    exact decide_eq_false h3

def encR (r : Rf) : List Value := [.int .i64 r.1, .int .i64 r.2]
theorem rcells_eq (l : List Rf) : rcells l = l.flatMap encR := rfl

/-- References in order, each once. -/
def Rising (l : List Rf) : Prop := l.Pairwise ltR

theorem rSortedFunc_spec [Extra] (b : Nat) (x : Option Nat) (m : List (Rf × Int)) (hm : m.length ≤ 1000000) (hn : (m.map (·.1)).Nodup) {w : World} {fr : List HProp} (H : Holds w (pts b (row 217 [.map x]) :: mpv kp v1 (.map x) m :: fr)) :
    Calls Tryz.prog 225 #[.func (.func 295) #[] #[pp b], .func (.func 227) #[] #[]] w
      (ret fun v w' => ∃ ks, ks.Perm (m.map (·.1)) ∧ Rising ks ∧ Holds w' (sls 166 2 v (rcells ks) :: mpv kp v1 (.map x) m :: fr)) := by
  refine calls_of Tryz.func225 rfl (by kernel_rfl) ?_
  refine J121 H ?_
  refine Jc rfl rfl (rCollect_spec b x m hm H) ?_
  rintro v w ⟨ks, hp, H⟩
  refine J42 H ?_
  refine J30 H ?_
  refine Lp_mv rfl rfl ?_
  refine J6 H ?_
  have hs := sortFunc_spec (k := 2) (enc := encR) Tryz.sortRef (t := 166) rfl inferInstance (by decide) (fun _ => rfl) (fun x v hv => by simp [encR] at hv; rcases hv with rfl | rfl <;> rfl) cmpR swoR (g := 227) inferInstance (fun x y W => (rcmp_spec x y W).mono fun e w' h => by
    cases e with
    | returned v => exact ⟨by rw [h.1], h.2⟩
    | panicked c => exact h.elim
    | outgrown => exact h.elim) H (by have := hp.length_eq; simp at this; omega)
  refine Jc rfl rfl (hs) ?_
  rintro v2 w ⟨ks2, hp2, hs2, H⟩
  refine Lp_nil ?_
  refine J30 H ?_
  refine Lp_mv rfl rfl ?_
  refine J42 H ?_
  have hp3 := hp2.trans hp
  refine C_ret (Jy H rfl fun w' H' => ⟨ks2, hp3, ?_, H'⟩)
  have hnd : ks2.Nodup := hp3.nodup_iff.2 hn
  refine (hs2.and hnd).imp ?_
  rintro a b ⟨h1, h2⟩
  rw [ltOf_cmpR] at h1
  have h3 : ¬ ltR b a := of_decide_eq_false h1
  unfold ltR at h3 ⊢
  have h4 : ¬ (a.1 = b.1 ∧ a.2 = b.2) := fun e => h2 (Prod.ext e.1 e.2)
  omega

theorem sorted_spec [Extra] (x : Option Nat) (m : List (Rf × Int)) (hm : m.length ≤ 1000000) (hn : (m.map (·.1)).Nodup) {w : World} {fr : List HProp} (H : Holds w (mpv kp v1 (.map x) m :: fr)) :
    Calls Tryz.prog 152 #[.map x] w
      (ret fun v w' => ∃ ks, ks.Perm (m.map (·.1)) ∧ Rising ks ∧ Holds w' (sls 166 2 v (rcells ks) :: mpv kp v1 (.map x) m :: fr)) := by
  refine calls_of Tryz.func152 rfl (by kernel_rfl) ?_
  refine J121 H ?_
  refine Jc rfl rfl (rKeys_spec x m H) ?_
  rintro v w ⟨b, rfl, H⟩
  
  refine Jc rfl rfl (rSortedFunc_spec b x m hm hn H) ?_
  rintro v w ⟨ks, hp, hs, H⟩
  refine J42 H ?_
  exact C_ret (Jy H rfl fun w' H' => ⟨ks, hp, hs, H'⟩)
end Go.Proofs.YtipelpbkeiphmaaGreatDoor
namespace Go.Proofs.YtipelpbkeiphmaaGreatDoor
open Go.SL

theorem mem_at {g1 g2 : List Gr} {g : Gr} (hn : ((g1 ++ g :: g2).map (·.key)).Nodup) {r : Rf} : mem (g1 ++ g :: g2) g.key r ↔ r ∈ g.m.map (·.1) := by
  rw [mem_mid]
  exact ⟨fun h => h.elim (·.2) fun h => absurd (mem_key h) (rest_key hn), fun h => .inl ⟨rfl, h⟩⟩

theorem mpv_some [Extra] {w : World} {K V : Type} {ek : K → Value} {vv : V → Value} {b : Nat} {m : List (K × V)} {l : List HProp} (H : Holds w (mpv ek vv (.map (some b)) m :: l)) : Holds w (mp ek vv b m :: l) := H.head fun h hm => by
  rcases hm with ⟨h, _⟩ | ⟨b', h, hm⟩
  · cases h
  · cases h; exact hm

theorem fnd_isSome_mem {K V : Type} [DecidableEq K] {m : List (K × V)} {x : K} (h : (fnd m x).isSome = true) : x ∈ m.map (·.1) := by
  cases hf : fnd m x with
  | none => rw [hf] at h; cases h
  | some v => exact List.mem_map_of_mem (f := (·.1)) (fnd_mem hf)

theorem rFrom_spec [Extra] (p : Nat) (m : List (Rf × Int)) (hm : m.length ≤ 1000000) (t : Int) {w : World} {fr : List HProp} (H : Holds w (RS p m :: fr)) :
    Calls Tryz.prog 228 #[pp p, .int .i64 t] w (ret fun v w' => ∃ ks, (∀ r, r ∈ ks ↔ (r.1 = t ∧ (fnd m r).isSome = true)) ∧ Rising ks ∧ Holds w' (sls 166 2 v (rcells ks) :: RS p m :: fr)) := by
  refine calls_of Tryz.func228 rfl (by kernel_rfl) ?_
  obtain ⟨bt, bo, bf, H⟩ := RS_out H
  refine J85 H ?_
  replace H := Js [3,0,0,0] 0 H
  obtain ⟨G, hG, H⟩ := GrR_out H
  refine Lp_s rfl (St_lookup (key := t) H rfl rfl tkI rfl ?_)
  have hn0 := keys_nodup bf H
  have hn : (G.map (·.key)).Nodup := by rw [← gkb_keys]; exact hn0
  cases hf : fnd (G.map gkb) t with
  | none =>
    replace H := mpv_nil kp v1 H
    refine Jc rfl rfl (sorted_spec none [] (by simp) (by simp) H) ?_
    rintro v w ⟨ks, hp, hs, H⟩
    refine J42 H ?_
    have hks : ks = [] := by simpa using hp
    subst hks
    replace H := Js [2,2,2,2,2,0] 1 H
    replace H := GrR_in G hG H
    replace H := Js [1,1,1,0,0] 0 H
    replace H := RS_in bt bo bf (fun _ _ => Iff.rfl) (fun _ _ => Iff.rfl) H
    refine C_ret (Jy H.swap rfl fun w' H' => ⟨[], fun r => ?_, hs, H'⟩)
    have h1 := fnd_eq_none.1 hf
    rw [gkb_keys] at h1
    exact ⟨fun h => by simp at h, fun h => absurd (mem_key ((hG t r).2 h)) h1⟩
  | some bi =>
    obtain ⟨g, g1, g2, rfl, rfl, rfl⟩ := group_at hf
    have H := (Holds.pick rfl).1 H.swap
    have hi := keys_nodup g.blk H
    have hlen : g.m.length ≤ 1000000 := by
      have := sub_length hi (l₂ := m.map (·.1)) (fun r hr => by
        have := (hG g.key r).1 ((mem_at hn).2 hr)
        exact fnd_isSome_mem this.2)
      simp at this
      omega
    replace H := mpv_of H
    refine Jc rfl rfl (sorted_spec (some g.blk) g.m hlen hi H) ?_
    rintro v w ⟨ks, hp, hs, H⟩
    refine J42 H ?_
    replace H := mpv_some H.swap
    replace H := Js [0,1,0,0,0,0,0] 0 H
    replace H := (Holds.pick (R := inner) (gs := g1 ++ g :: g2) rfl).2 H
    replace H := Js [2,0,1,1,1,0] 0 H
    replace H := GrR_in (g1 ++ g :: g2) hG H
    replace H := Js [1,1,1,0,0] 0 H
    replace H := RS_in bt bo bf (fun _ _ => Iff.rfl) (fun _ _ => Iff.rfl) H
    refine C_ret (Jy H.swap rfl fun w' H' => ⟨ks, fun r => ?_, hs, H'⟩)
    rw [hp.mem_iff, ← hG, mem_at hn]



theorem rcells_reads {ks : List Rf} {spare : List Value} {i : Nat} {r : Rf} (h : ks[i]? = some r) : Reads (rcells ks ++ spare) (0 + i * 2) 2 [.int .i64 r.1, .int .i64 r.2] := by
  have hl := rcells_length ks
  have hi := (List.getElem?_eq_some_iff.1 h).1
  have g : ∀ t, (rcells ks)[t]? = (ks[t / 2]?).bind fun x => (encR x)[t % 2]? := fun t => by rw [rcells_eq]; exact flatMap_get (k := 2) (fun _ => rfl) (by decide) ks t
  refine .cons ?_ (.cons ?_ (.nil _))
  · rw [List.getElem?_append_left (by omega), g, show (0 + i * 2) / 2 = i by omega, show (0 + i * 2) % 2 = 0 by omega, h]; rfl
  · rw [List.getElem?_append_left (by omega), g, show (0 + i * 2 + 1) / 2 = i by omega, show (0 + i * 2 + 1) % 2 = 1 by omega, h]; rfl

theorem rcells_nil {ks : List Rf} (h : rcells ks = []) : ks = [] := by
  have := rcells_length ks
  rw [h] at this
  exact List.eq_nil_of_length_eq_zero (by simp at this; omega)

theorem nodup_foldl_era : ∀ (ks : List Rf) {m : List (Rf × Int)}, (m.map (·.1)).Nodup → ((ks.foldl era m).map (·.1)).Nodup
  | [], _, h => h
  | k :: ks, _, h => nodup_foldl_era ks (nodup_era h)

theorem rForget_spec [Extra] (p : Nat) (m : List (Rf × Int)) (hn : (m.map (·.1)).Nodup) (hm : m.length ≤ 1000000) (t : Int) {w : World} {fr : List HProp} (H : Holds w (RS p m :: fr)) :
    Calls Tryz.prog 171 #[pp p, .int .i64 t] w (ret fun v w' => ∃ ks, (∀ r, r ∈ ks ↔ (r.1 = t ∧ (fnd m r).isSome = true)) ∧ Rising ks ∧ v = .int .i64 ks.length ∧ Holds w' (RS p (ks.foldl era m) :: fr)) := by
  refine calls_of Tryz.func171 rfl (by kernel_rfl) ?_
  refine J9 H ?_
  refine J2 H ?_
  refine Jc rfl rfl (rFrom_spec p m hm t H) ?_
  rintro v w ⟨ks, hks, hs, H⟩
  refine J42 H ?_
  have hlen : ks.length ≤ 1000000 := by
    have hnd : ks.Nodup := hs.imp fun {a b} h e => by subst e; unfold ltR at h; omega
    have := sub_length hnd (l₂ := m.map (·.1)) fun r hr => fnd_isSome_mem ((hks r).1 hr).2
    simp at this
    omega
  rcases sls_case H with ⟨rfl, h0, H2⟩ | ⟨b, len, cap, spare, rfl, e3, e4, e5, H2⟩ <;> replace H := H2 <;> clear H2
  · have := rcells_nil h0
    subst this
    repeat refine C_seq ?_
    refine C_region ?_
    refine Lp_pv rfl rfl ?_
    refine Lp_s rfl (St_lenSlice rfl rfl ?_)
    refine Lp_pv rfl rfl ?_
    refine Lp_nil ?_
    repeat refine C_seq ?_
    refine C_block ?_
    refine C_loop (fun ms σ w n => ms = [] ∧ σ 12 = .int .i64 0 ∧ σ 13 = .int .i64 0 ∧ σ 5 = .slice none 0 0 ∧ Holds w (RS p m :: fr)) (m := 1) ⟨rfl, rfl, rfl, rfl, H⟩ ?_
    clear H
    rintro ms σ w n ⟨rfl, h12, h13, h5, H⟩
    rw [upd_self h12, upd_self h13, upd_self h5]
    refine J12 H ?_
    refine C_false rfl (C_exit ?_)
    refine J70 H ?_
    exact C_ret (Jy H rfl fun w' H' => ⟨[], hks, hs, rfl, H'⟩)
  · have hl2 : len = ks.length := by rw [rcells_length] at e3; omega
    subst hl2
    refine J92 H ?_
    refine J49 H ?_
    refine C_loop (fun ms σ w n => ms = [] ∧ ∃ i : Nat, i ≤ ks.length ∧ n = ks.length - i ∧ σ 0 = pp p ∧ σ 11 = .slice (some ⟨b, 0, none⟩) ks.length cap ∧ σ 12 = .int .i64 ks.length ∧ σ 13 = .int .i64 i ∧ σ 5 = .slice (some ⟨b, 0, none⟩) ks.length cap ∧
      Holds w (RS p ((ks.take i).foldl era m) :: pts b (row 166 (rcells ks ++ spare)) :: fr)) (m := ks.length) ⟨rfl, 0, by omega, rfl, rfl, rfl, rfl, rfl, rfl, H.swap⟩ ?_
    clear H
    rintro ms σ w n ⟨rfl, i, hi, rfl, h0, h11, h12, h13, h5, H⟩
    rw [upd_self h0, upd_self h11, upd_self h12, upd_self h13, upd_self h5]
    refine J12 H ?_
    refine C_dec rfl (fun h => C_skip ?_) (fun h => C_exit ?_)
    · have hlt : i < ks.length := by omega
      have hr := List.getElem?_eq_getElem hlt
      generalize ks[i] = r at hr
      obtain ⟨a, c⟩ := r
      refine J33 H ?_
      refine Lp_s rfl (St_indexAddr rfl rfl (by omega) (by omega) rfl ?_)
      refine Lp_s rfl (St_loadN H rfl (rcells_reads hr) rfl ?_)
      refine J17 H ?_
      clear H; intro b7 w H
      refine J7 H ?_
      clear H; intro w H
      refine Lp_nil ?_
      refine J75 H ?_
      replace H := Js [1,1] 1 H
      refine Jc rfl rfl (rCut_spec p _ (nodup_foldl_era _ hn) (a, c) H) ?_
      clear H; rintro v w ⟨rfl, H⟩
      refine J68 H ?_
      refine ⟨_, ⟨rfl, i + 1, hlt, rfl, rfl, rfl, rfl, inc64 (by omega), rfl, ?_⟩, by omega⟩
      rw [List.take_add_one, hr]
      simpa using H
    · have hge : i = ks.length := by omega
      subst hge
      refine J70 H ?_
      rw [List.take_length] at H
      exact C_ret (Jy H.swap.drop rfl fun w' H' => ⟨ks, hks, hs, rfl, H'⟩)
end Go.Proofs.YtipelpbkeiphmaaGreatDoor
namespace Go.Proofs.YtipelpbkeiphmaaGreatDoor
open Go.SL

theorem ki_inj : ∀ a b : Int, ki .i64 a = ki .i64 b → a = b := fun a b h => by cases h; rfl
def kidB (par : List (Int × Int)) (id k : Int) : Bool := decide (fnd par k = some id)

theorem Kids_spec [Extra] (p last : Nat) (par : List (Int × Int)) (id : Int) (h0 : id = 0 ∨ (fnd par id).isSome = true) (hl : par.length ≤ 1000) {w : World} {fr : List HProp} (H : Holds w (TRE p last par :: fr)) :
    Calls Tryz.prog 32 #[pp p, .int .i64 id] w (ret fun v w' => ∃ u K, v = .tuple #[u, .int .i64 0] ∧ K.Perm ((par.map (·.1)).filter (kidB par id)) ∧ K.Pairwise (· ≤ ·) ∧ Holds w' (IL u K :: TRE p last par :: fr)) := by
  have hnd := TRE_keys H
  refine calls_of Tryz.func32 rfl (by kernel_rfl) ?_
  refine J86 H ?_
  refine Jc rfl rfl (need_spec p last par id H) ?_
  clear H; rintro v w ⟨rfl, H⟩
  refine J15 H ?_
  refine C_join (fun ms σ w => ms = [] ∧ σ 22 = .bool false ∧ σ 0 = pp p ∧ σ 1 = .int .i64 id ∧ Holds w (TRE p last par :: fr)) ?_ ?_
  · cases hf : (fnd par id).isSome with
    | true =>
      refine J11 H ?_
      refine J69 H ?_
      refine Lp_nn rfl rfl ?_
      refine Lp_nn rfl rfl ?_
      refine Lp_no rfl rfl rfl ?_
      refine J0 H ?_
      exact ⟨rfl, rfl, rfl, rfl, rfl, H⟩
    | false =>
      obtain rfl : id = 0 := by
        rcases h0 with h | h
        · exact h
        · rw [hf] at h; cases h
      refine J11 H ?_
      refine Lp_gpv rfl rfl rfl rfl ?_
      refine Lp_g rfl rfl rfl (St_eqPtrNil rfl rfl (.inl rfl) rfl ?_)
      refine J25 H ?_
      refine J25 H ?_
      refine J0 H ?_
      exact ⟨rfl, rfl, rfl, rfl, rfl, H⟩
  clear H
  rintro ms σ w ⟨rfl, g22, g0, g1, H⟩
  rw [upd_self g22, upd_self g0, upd_self g1]
  refine J8 H ?_
  refine J9 H ?_
  obtain ⟨b, H⟩ := TRE_out H
  refine J48 H ?_
  replace H := mpv_of H.swap
  refine Lp_s rfl (St_range (ki .i64) v1 H rfl rfl ?_)
  clear H; intro bi w H
  refine Lp_nil ?_
  refine J14 H ?_
  refine C_joinQ (fun ms σ w => ms = [] ∧ ∃ (u : Value) (K : List Int), σ 7 = u ∧ K.Perm ((par.map (·.1)).filter (kidB par id)) ∧ Holds w (IL u K :: TRE p last par :: fr)) ?_ ?_
  · refine C_block ?_
    refine C_loop (fun ms σ w n => ms = [] ∧ ∃ (ks : List Int) (u : Value), ks.length ≤ par.length ∧ n = par.length - ks.length ∧ σ 1 = .int .i64 id ∧ σ 7 = u ∧ σ 28 = pp bi ∧ Holds w (IL u (ks.filter (kidB par id)) :: mit (ki .i64) v1 (.map (some b)) par bi ks :: pts p (row 207 [.map (some b), .int .i64 last]) :: fr)) (m := par.length) ⟨rfl, [], _, by simp, rfl, rfl, rfl, rfl, sls_nil H⟩ ?_
    clear H
    rintro ms σ w n ⟨rfl, ks, u, hkl, rfl, g1, g7, g28, H⟩
    obtain ⟨au, mu, cu, rfl⟩ := sls_any H
    rw [upd_self g1, upd_self g7, upd_self g28]
    refine J30 H ?_
    refine Lp_s rfl (St_next H.swap ki_inj rfl rfl (fun hp w H => ?_) (fun q hq hn hnd2 hsub w H => ?_))
    · refine J15 H ?_
      refine C_false rfl (C_exit ?_)
      replace H := mpv_some (mit_mpv H)
      replace H := Js [1,1,0] 0 H
      have H2 : Holds w (TRE p last par :: IL (.slice au mu cu) (ks.filter (kidB par id)) :: fr) := TRE_in (by replace H := Holds.sel [1, 1, 0] 0 H; dsimp only [SL.sel, SL.pull, List.drop] at H; exact H)
      exact .inl ⟨rfl, rfl, _, _, rfl, hp.filter _, H2.swap⟩
    · have hlt : ks.length < par.length := by
        have h1 : (ks ++ [q.1]).Nodup := by
          rw [List.nodup_append]
          exact ⟨hnd2, by simp, fun c hc c' hc' e0 => by simp at hc'; subst hc'; subst e0; exact hn hc⟩
        have h2 := sub_length h1 (l₂ := par.map (·.1)) (fun z hz => by
          rcases List.mem_append.1 hz with hz | hz
          · exact hsub z hz
          · simp at hz; subst hz; exact List.mem_map.2 ⟨q, hq, rfl⟩)
        simp at h2
        omega
      have hfq : fnd par q.1 = some q.2 := (fnd_iff hnd).2 hq
      refine J15 H ?_
      refine C_true rfl (C_skip ?_)
      refine C_block ?_
      refine J30 H ?_
      refine Lp_s rfl (St_entry H ki_inj hq rfl rfl ?_)
      refine Lp_pv rfl rfl ?_
      refine Lp_pv rfl rfl ?_
      refine Lp_pv rfl rfl ?_
      refine Lp_pv rfl rfl ?_
      refine Lp_nil ?_
      obtain ⟨k, t⟩ := q
      refine J20 H ?_
      by_cases ht : t = id
      · have hk : kidB par id k = true := by unfold kidB; rw [hfq, ht]; simp
        rw [show (t == id) = true by simpa using ht]
        refine J29 H ?_
        refine J2 H ?_
        refine J34 H ?_
        clear H; intro b39 w H
        replace H := Js [2,0,0,0] 0 H
        have hle := List.length_filter_le (kidB par id) ks
        refine Lp_s rfl (St_append H rfl rfl (by repeat (first | exact Reads.nil _ | apply Reads.cons rfl)) rfl (by decide) (by rw [icells_length]; simp only [List.length_cons, List.length_nil]; omega) rfl rfl ?_)
        clear H; intro v40 w H
        obtain ⟨a40, m40, c40, rfl⟩ := sls_any H
        refine J0 H ?_
        replace H := Js [0,1,1] 1 H
        refine ⟨_, ⟨rfl, ks ++ [k], _, by simp; omega, rfl, rfl, rfl, rfl, ?_⟩, by simp; omega⟩
        rw [List.filter_append, show [k].filter (kidB par id) = [k] by simp [hk]]
        show Holds w (sls _ 1 _ (icells (ks.filter (kidB par id) ++ [k])) :: _)
        rw [icells_append]
        exact H
      · have hk : kidB par id k = false := by unfold kidB; rw [hfq]; simp; exact ht
        rw [show (t == id) = false by simpa using ht]
        refine J8 H ?_
        refine ⟨_, ⟨rfl, ks ++ [k], .slice au mu cu, by simp; omega, rfl, rfl, rfl, rfl, ?_⟩, by simp; omega⟩
        rw [List.filter_append, show [k].filter (kidB par id) = [] by simp [hk], List.append_nil]
        replace H := Js [1,0,0] 0 H
        exact H
  · clear H
    rintro ms σ w ⟨rfl, u, K, g7, hK, H⟩
    have hKl : K.length ≤ 1000 := by
      have h1 := hK.length_eq
      have h2 := List.length_filter_le (kidB par id) (par.map (·.1))
      simp at h2
      omega
    obtain ⟨au, cu, rfl⟩ := sls_slice H (icells_length K) (by decide)
    rw [upd_self g7]
    refine J16 H ?_
    refine Jc rfl rfl (Sort_spec _ K (by omega) H) ?_
    clear H; rintro v w ⟨rfl, H⟩
    refine J141 H ?_
    refine C_ret (Jy H rfl fun w' H' => ⟨_, _, rfl, (List.mergeSort_perm K _).trans hK, ?_, H'⟩)
    have := List.pairwise_mergeSort (le := fun x y : Int => decide (x ≤ y)) (fun a b c h1 h2 => by simp at *; omega) (fun a b => by simp; omega) K
    exact this.imp (fun h => by simpa using h)
end Go.Proofs.YtipelpbkeiphmaaGreatDoor
namespace Go.Proofs.YtipelpbkeiphmaaGreatDoor
open Go.SL

/-- Parents are older than their kids, and live. -/
structure TreeOK (par : List (Int × Int)) : Prop where
  nd : (par.map (·.1)).Nodup
  up : ∀ r q, fnd par r = some q → 0 ≤ q ∧ q < r ∧ (q = 0 ∨ (fnd par q).isSome = true)
inductive Desc (par : List (Int × Int)) (id : Int) : Int → Prop
  | self : Desc par id id
  | kid {c k : Int} : Desc par id k → fnd par c = some k → Desc par id c
theorem Desc.ge {par : List (Int × Int)} (h : TreeOK par) {id c : Int} (d : Desc par id c) : id ≤ c := by
  induction d with
  | self => exact Int.le_refl _
  | kid _ hf ih => have := (h.up _ _ hf).2.1; omega
theorem Desc.live {par : List (Int × Int)} {id c : Int} (hid : (fnd par id).isSome = true) (d : Desc par id c) : (fnd par c).isSome = true := by
  cases d with
  | self => exact hid
  | kid _ hf => rw [hf]; rfl
theorem Desc.inv {par : List (Int × Int)} {id c : Int} (d : Desc par id c) : c = id ∨ ∃ k, fnd par c = some k ∧ Desc par id k := by
  cases d with
  | self => exact .inl rfl
  | kid hk hf => exact .inr ⟨_, hf, hk⟩

/-- The search so far: those of the first i have told their kids. -/
structure Bfs (par : List (Int × Int)) (id : Int) (l : List Int) (i : Nat) : Prop where
  nd : l.Nodup
  le : i ≤ l.length
  desc : ∀ c ∈ l, Desc par id c
  mem : ∀ c, c ∈ l ↔ c = id ∨ ∃ k ∈ l.take i, fnd par c = some k
theorem Bfs.start (par : List (Int × Int)) (id : Int) : Bfs par id [id] 0 :=
  ⟨by simp, by simp, fun c hc => by rw [List.mem_singleton] at hc; subst hc; exact .self, fun c => by simp⟩
theorem Bfs.step {par : List (Int × Int)} (h : TreeOK par) {id : Int} {l K : List Int} {i : Nat} (b : Bfs par id l i) {x : Int} (hx : l[i]? = some x) (hK : K.Nodup) (hm : ∀ c, c ∈ K ↔ fnd par c = some x) : Bfs par id (l ++ K) (i + 1) := by
  have hil := (List.getElem?_eq_some_iff.1 hx).1
  have htk : (l ++ K).take (i + 1) = l.take i ++ [x] := by
    rw [List.take_append_of_le_length (by omega), List.take_add_one, hx]
    rfl
  have hxl := List.mem_of_getElem? hx
  have hnt : x ∉ l.take i := fun hh => by
    obtain ⟨j, hj⟩ := List.getElem?_of_mem hh
    rw [List.getElem?_take] at hj
    split at hj
    · rename_i hji
      obtain ⟨hj1, hj2⟩ := List.getElem?_eq_some_iff.1 hj
      obtain ⟨_, hx2⟩ := List.getElem?_eq_some_iff.1 hx
      exact (List.pairwise_iff_getElem.1 b.nd) j i hj1 hil hji (hj2.trans hx2.symm)
    · cases hj
  refine ⟨?_, by rw [List.length_append]; omega, fun c hc => ?_, fun c => ?_⟩
  · rw [List.nodup_append]
    refine ⟨b.nd, hK, fun a ha c hc hac => ?_⟩
    subst hac
    have hf := (hm a).1 hc
    rcases (b.mem a).1 ha with rfl | ⟨k, hk, hk2⟩
    · have := (b.desc x hxl).ge h
      have := (h.up _ _ hf).2.1
      omega
    · rw [hf] at hk2
      injection hk2 with hk2
      subst hk2
      exact hnt hk
  · rcases List.mem_append.1 hc with hc | hc
    · exact b.desc c hc
    · exact .kid (b.desc x hxl) ((hm c).1 hc)
  · rw [htk, List.mem_append, b.mem, hm]
    constructor
    · rintro ((h1 | ⟨k, hk, h1⟩) | h1)
      · exact .inl h1
      · exact .inr ⟨k, List.mem_append.2 (.inl hk), h1⟩
      · exact .inr ⟨x, by simp, h1⟩
    · rintro (h1 | ⟨k, hk, h1⟩)
      · exact .inl (.inl h1)
      · rcases List.mem_append.1 hk with hk | hk
        · exact .inl (.inr ⟨k, hk, h1⟩)
        · rw [List.mem_singleton] at hk
          subst hk
          exact .inr h1
theorem Bfs.ends {par : List (Int × Int)} {id : Int} {l : List Int} (b : Bfs par id l l.length) (c : Int) : c ∈ l ↔ Desc par id c := by
  refine ⟨b.desc c, fun d => ?_⟩
  induction d with
  | self => exact (b.mem _).2 (.inl rfl)
  | kid _ hf ih => exact (b.mem _).2 (.inr ⟨_, by rw [List.take_length]; exact ih, hf⟩)
theorem Bfs.len {par : List (Int × Int)} {id : Int} (hid : (fnd par id).isSome = true) {l : List Int} {i : Nat} (b : Bfs par id l i) : l.length ≤ par.length := by
  have := sub_length b.nd (l₂ := par.map (·.1)) (fun c hc => by
    have h1 := (b.desc c hc).live hid
    cases hf : fnd par c with
    | none => rw [hf] at h1; cases h1
    | some q => exact List.mem_map.2 ⟨(c, q), fnd_mem hf, rfl⟩)
  rwa [List.length_map] at this
end Go.Proofs.YtipelpbkeiphmaaGreatDoor
namespace Go.Proofs.YtipelpbkeiphmaaGreatDoor
open Go.SL

theorem icells_get {l : List Int} {s : List Value} {i : Nat} {x : Int} (h : l[i]? = some x) : (icells l ++ s)[0 + i * 1]? = some (.int .i64 x) := by
  have hi := (List.getElem?_eq_some_iff.1 h).1
  rw [Nat.zero_add, Nat.mul_one, List.getElem?_append_left (by rw [icells_length]; omega)]
  unfold icells
  rw [List.getElem?_map, h]
  rfl
theorem icells_all (l : List Int) : (icells l).all (·.oneCell') = true := by simp [icells, List.all_eq_true, Value.oneCell']

theorem Under_spec [Extra] (p last : Nat) (par : List (Int × Int)) (id : Int) (hT : TreeOK par) (hid : (fnd par id).isSome = true) (hl : par.length ≤ 1000) {w : World} {fr : List HProp} (H : Holds w (TRE p last par :: fr)) :
    Calls Tryz.prog 27 #[pp p, .int .i64 id] w (ret fun v w' => ∃ u L, v = .tuple #[u, .int .i64 0] ∧ L.Nodup ∧ L.Pairwise (· ≤ ·) ∧ (∀ c, c ∈ L ↔ Desc par id c) ∧ L.length ≤ par.length ∧ Holds w' (IL u L :: TRE p last par :: fr)) := by
  refine calls_of Tryz.func27 rfl (by kernel_rfl) ?_
  refine J86 H ?_
  refine Jc rfl rfl (need_spec p last par id H) ?_
  clear H; rintro v w ⟨rfl, H⟩
  rw [if_pos hid]
  refine J50 H ?_
  refine J16 H ?_
  refine J34 H ?_
  clear H; intro b18 w H
  refine J0 H ?_
  replace H : Holds w (IL _ [id] :: _) := sls_lit (c := icells [id]) rfl H
  refine J12 H ?_
  refine C_join (fun ms σ w => ms = [] ∧ ∃ (l : List Int) (a : Option Addr) (c : Nat), Bfs par id l l.length ∧ σ 7 = .slice a l.length c ∧ Holds w (IL (.slice a l.length c) l :: TRE p last par :: fr)) ?_ ?_
  · refine C_block ?_
    refine C_loop (fun ms σ w n => ms = [] ∧ ∃ (i : Nat) (l : List Int) (a : Option Addr) (c : Nat), Bfs par id l i ∧ n = par.length - i ∧ σ 0 = pp p ∧ σ 7 = .slice a l.length c ∧ σ 8 = .int .i64 i ∧ Holds w (IL (.slice a l.length c) l :: TRE p last par :: fr)) (m := par.length) ⟨rfl, 0, [id], _, _, Bfs.start par id, rfl, rfl, rfl, rfl, H⟩ ?_
    clear H
    rintro ms σ w n ⟨rfl, i, l, a, c, hB, rfl, g0, g7, g8, H⟩
    rw [upd_self g0, upd_self g7, upd_self g8]
    have hll := hB.len hid
    have hil := hB.le
    refine J2 H ?_
    refine J40 H ?_
    refine J15 H ?_
    refine C_dec rfl (fun h => C_skip ?_) (fun h => C_exit ?_)
    · have hlt : i < l.length := by omega
      have hx := List.getElem?_eq_getElem hlt
      have hxd := hB.desc _ (List.getElem_mem hlt)
      generalize l[i] = x at hx hxd
      obtain ⟨bT, sT, rfl, H, hcl⟩ := sls_open H (by omega)
      refine J21 H ?_
      refine J11 H ?_
      refine Lp_s rfl (St_indexAddr rfl rfl (by omega) (by omega) rfl ?_)
      refine Lp_s rfl (St_load1 H rfl (by simpa using icells_get hx) rfl ?_)
      replace H := hcl _ _ H
      refine Jc rfl rfl (Kids_spec p last par x (.inr (hxd.live hid)) hl H.swap) ?_
      clear H; rintro v w ⟨u, K, rfl, hK, hKs, H⟩
      obtain ⟨au, mu, cu, rfl⟩ := sls_any H
      refine J27 H ?_
      have hKm : ∀ c, c ∈ K ↔ fnd par c = some x := fun c => by
        rw [hK.mem_iff, List.mem_filter]
        unfold kidB
        constructor
        · rintro ⟨_, h1⟩
          simpa using h1
        · intro h1
          exact ⟨List.mem_map.2 ⟨(c, x), fnd_mem h1, rfl⟩, by simpa using h1⟩
      have hKn : K.Nodup := hK.nodup_iff.2 (hT.nd.filter _)
      have hB2 := hB.step hT hx hKn hKm
      have hl2 := hB2.len hid
      rw [List.length_append] at hl2
      refine J2 H ?_
      replace H := Js [0,1,0] 0 H
      obtain ⟨DK, H, hDK, hCK⟩ := sls_rd H (icells_length K) (by decide)
      replace H := Js [1,0] 0 H
      refine Lp_s rfl (St_appendS H rfl rfl (hDK _) (icells_all K) (by rw [icells_length, icells_length]; omega) rfl rfl ?_)
      clear H; intro v36 w H
      rw [← icells_append] at H
      obtain ⟨a36, c36, rfl⟩ := sls_slice H (icells_length _) (by decide)
      refine J0 H ?_
      refine J20 H ?_
      replace H := Js [0,1] 1 H
      exact ⟨_, ⟨rfl, i + 1, l ++ K, a36, c36, hB2, rfl, rfl, rfl, inc64 (by omega), H⟩, by omega⟩
    · have hge : i = l.length := by omega
      subst hge
      exact ⟨rfl, rfl, l, a, c, hB, rfl, H⟩
  clear H
  rintro ms σ w ⟨rfl, l, a, c, hB, g7, H⟩
  rw [upd_self g7]
  have hll := hB.len hid
  refine J16 H ?_
  refine Jc rfl rfl (Sort_spec _ l (by omega) H) ?_
  clear H; rintro v w ⟨rfl, H⟩
  refine J141 H ?_
  have hp : (l.mergeSort fun x y => decide (x ≤ y)).Perm l := List.mergeSort_perm l _
  refine C_ret (Jy H rfl fun w' H' => ⟨_, l.mergeSort fun x y => decide (x ≤ y), rfl, hp.nodup_iff.2 hB.nd, ?_, fun c => ?_, ?_, H'⟩)
  · have := List.pairwise_mergeSort (le := fun x y : Int => decide (x ≤ y)) (fun a b c h1 h2 => by simp at *; omega) (fun a b => by simp; omega) l
    exact this.imp fun h => by simpa using h
  · rw [hp.mem_iff]
    exact hB.ends c
  · rw [hp.length_eq]
    exact hll

theorem TFree_spec [Extra] (p last : Nat) (par : List (Int × Int)) (id : Int) (hT : TreeOK par) (hid : (fnd par id).isSome = true) (hl : par.length ≤ 1000) {w : World} {fr : List HProp} (H : Holds w (TRE p last par :: fr)) :
    Calls Tryz.prog 81 #[pp p, .int .i64 id] w (ret fun v w' => ∃ u L, v = .tuple #[u, .int .i64 0] ∧ L.Nodup ∧ L.Pairwise (· ≤ ·) ∧ (∀ c, c ∈ L ↔ Desc par id c) ∧ L.length ≤ par.length ∧ Holds w' (IL u L :: TRE p last (L.foldl era par) :: fr)) := by
  refine calls_of Tryz.func81 rfl (by kernel_rfl) ?_
  refine J86 H ?_
  refine Jc rfl rfl (Under_spec p last par id hT hid hl H) ?_
  clear H; rintro v w ⟨u, L, rfl, h1, h2, h3, h4, H⟩
  obtain ⟨a, c, rfl⟩ := sls_slice H (icells_length _) (by decide)
  refine J27 H ?_
  refine J92 H ?_
  refine J15 H ?_
  refine C_join (fun ms σ w => ms = [] ∧ σ 6 = .slice a L.length c ∧ σ 7 = .int .i64 0 ∧ Holds w (IL (.slice a L.length c) L :: TRE p last (L.foldl era par) :: fr)) ?_ ?_
  · refine C_block ?_
    refine C_loop (fun ms σ w n => ms = [] ∧ ∃ i : Nat, i ≤ L.length ∧ n = L.length - i ∧ σ 0 = pp p ∧ σ 6 = .slice a L.length c ∧ σ 7 = .int .i64 0 ∧ σ 16 = .slice a L.length c ∧ σ 17 = .int .i64 L.length ∧ σ 18 = .int .i64 i ∧ Holds w (IL (.slice a L.length c) L :: TRE p last ((L.take i).foldl era par) :: fr)) (m := L.length) ⟨rfl, 0, by omega, rfl, rfl, rfl, rfl, rfl, rfl, rfl, H⟩ ?_
    clear H
    rintro ms σ w n ⟨rfl, i, hi, rfl, g0, g6, g7, g16, g17, g18, H⟩
    rw [upd_self g0, upd_self g6, upd_self g7, upd_self g16, upd_self g17, upd_self g18]
    refine J12 H ?_
    refine C_dec rfl (fun h => C_skip ?_) (fun h => C_exit ?_)
    · have hlt : i < L.length := by omega
      have hx := List.getElem?_eq_getElem hlt
      generalize L[i] = x at hx
      have htk : L.take (i + 1) = L.take i ++ [x] := by rw [List.take_add_one, hx]; rfl
      obtain ⟨bT, sT, rfl, H, hcl⟩ := sls_open H (by omega)
      refine J33 H ?_
      refine Lp_s rfl (St_indexAddr rfl rfl (by omega) (by omega) rfl ?_)
      refine Lp_s rfl (St_load1 H rfl (by simpa using icells_get hx) rfl ?_)
      refine J0 H ?_
      replace H := (hcl _ _ H).swap
      obtain ⟨bm, H⟩ := TRE_out H
      refine J18 H ?_
      refine Lp_s rfl (St_delete (key := x) H.swap rfl rfl tkI rfl ?_)
      clear H; intro w H
      refine Lp_nil ?_
      replace H := TRE_in H.swap
      refine J5 H ?_
      exact ⟨_, ⟨rfl, i + 1, hlt, rfl, rfl, rfl, rfl, rfl, rfl, inc64 (by omega), by rw [htk, List.foldl_append]; exact H.swap⟩, by omega⟩
    · have hge : i = L.length := by omega
      subst hge
      rw [List.take_length] at H
      exact ⟨rfl, rfl, rfl, rfl, H⟩
  clear H
  rintro ms σ w ⟨rfl, g6, g7, H⟩
  rw [upd_self g6, upd_self g7]
  refine J2 H ?_
  refine J3 H ?_
  exact C_ret (Jy H rfl fun w' H' => ⟨_, L, rfl, h1, h2, h3, h4, H'⟩)
end Go.Proofs.YtipelpbkeiphmaaGreatDoor
namespace Go.Proofs.YtipelpbkeiphmaaGreatDoor
open Go.SL

theorem Compact_spec [Extra] (v : Value) (l : List Int) (hs : l.Pairwise (· < ·)) (hl : l.length ≤ 1000000) {w : World} {fr : List HProp} (H : Holds w (IL v l :: fr)) :
    Calls Tryz.prog 164 #[v] w (ret fun x w' => x = v ∧ Holds w' (IL v l :: fr)) := by
  obtain ⟨a, c, rfl⟩ := sls_slice H (icells_length l) (by decide)
  refine calls_of Tryz.func164 rfl (by kernel_rfl) ?_
  refine J9 H ?_
  refine J70 H ?_
  by_cases h2 : l.length < 2
  · rw [show decide ((l.length : Int) < 2) = true from decide_eq_true (by omega)]
    refine J31 H ?_
    exact C_ret (Jy H rfl fun w' H' => ⟨rfl, H'⟩)
  rw [show decide ((l.length : Int) < 2) = false from decide_eq_false (by omega)]
  refine J8 H ?_
  refine J12 H ?_
  refine C_join (fun ms σ w => ms = [] ∧ σ 0 = .slice a l.length c ∧ Holds w (IL (.slice a l.length c) l :: fr)) ?_ ?_
  · refine C_block ?_
    refine C_loop (fun ms σ w n => ms = [] ∧ ∃ k : Nat, 1 ≤ k ∧ k ≤ l.length ∧ n = l.length - k ∧ σ 0 = .slice a l.length c ∧ σ 3 = .int .i64 k ∧ Holds w (IL (.slice a l.length c) l :: fr)) (m := l.length - 1) ⟨rfl, 1, by omega, by omega, rfl, rfl, rfl, H⟩ ?_
    clear H
    rintro ms σ w n ⟨rfl, k, hk1, hk, rfl, g0, g3, H⟩
    rw [upd_self g0, upd_self g3]
    refine J2 H ?_
    refine J40 H ?_
    refine J15 H ?_
    refine C_dec rfl (fun h => C_skip ?_) (fun h => C_exit ?_)
    · have hlt : k < l.length := by omega
      have hx := List.getElem?_eq_getElem hlt
      have hy := List.getElem?_eq_getElem (show k - 1 < l.length by omega)
      have hxy := (List.pairwise_iff_getElem.1 hs) (k - 1) k (by omega) hlt (by omega)
      generalize l[k] = x at hx hxy
      generalize l[k - 1] = y at hy hxy
      obtain ⟨bT, sT, rfl, H, hcl⟩ := sls_open H (by omega)
      have ek : IntKind.i64.wrap ((k : Int) - 1) = ((k - 1 : Nat) : Int) := by rw [wrap64 (by omega) (by omega)]; omega
      refine J21 H ?_
      refine J1 H ?_
      clear H; intro w H
      refine J76 H ?_
      refine A_indexAddr 2 rfl (Wants.none rfl) rfl rfl (by omega) (by omega) (by kernel_rfl) ?_
      refine A_load1 3 [] H rfl (Wants.none rfl) rfl (by simpa using icells_get hx) (by kernel_rfl) ?_
      refine J98 H ?_
      rw [ek]
      refine A_indexAddr 7 rfl (Wants.none rfl) rfl rfl (by omega) (by omega) (by kernel_rfl) ?_
      refine A_load1 8 [] H rfl (Wants.none rfl) rfl (by simpa using icells_get hy) (by kernel_rfl) ?_
      refine J114 H ?_
      rw [show (x == y) = false from by rw [beq_eq_false_iff_ne]; omega]
      refine J4 H ?_
      replace H := hcl _ _ H
      refine J8 H ?_
      refine J20 H ?_
      exact ⟨_, ⟨rfl, k + 1, by omega, hlt, rfl, rfl, inc64 (by omega), H⟩, by omega⟩
    · exact ⟨rfl, rfl, rfl, H⟩
  clear H
  rintro ms σ w ⟨rfl, g0, H⟩
  rw [upd_self g0]
  refine J5 H ?_
  exact C_ret (Jy H rfl fun w' H' => ⟨rfl, H'⟩)

theorem NL_of [Extra] {w : World} {v : Value} {l : List Nat} {fr : List HProp} (H : Holds w (IL v (l.map fun x : Nat => (x : Int)) :: fr)) : Holds w (NL v l :: fr) := by
  show Holds w (sls 3 1 v (ncells l) :: fr)
  rw [ncells_icells]
  exact H
def joinL (l m : List Nat) : List Nat := (l ++ m).mergeSort fun x y => decide (x ≤ y)
theorem joinL_mem {l m : List Nat} {x : Nat} : x ∈ joinL l m ↔ x ∈ l ∨ x ∈ m := by
  unfold joinL
  rw [List.mem_mergeSort, List.mem_append]
theorem joinL_len (l m : List Nat) : (joinL l m).length = l.length + m.length := by
  unfold joinL
  rw [List.length_mergeSort, List.length_append]
theorem joinL_sorted {l m : List Nat} (hl : l.Pairwise (· < ·)) (hm : m.Pairwise (· < ·)) (hd : ∀ x ∈ l, x ∉ m) : (joinL l m).Pairwise (· < ·) := by
  have h1 : (joinL l m).Pairwise (fun x y => decide (x ≤ y) = true) := List.pairwise_mergeSort (fun a b c h1 h2 => by simp at *; omega) (fun a b => by simp; omega) _
  have h2 : (joinL l m).Nodup := by
    unfold joinL
    rw [(List.mergeSort_perm _ _).nodup_iff, List.nodup_append]
    exact ⟨hl.imp fun h => by omega, hm.imp fun h => by omega, fun a ha b hb hab => hd a ha (hab ▸ hb)⟩
  refine (h1.and h2).imp fun h => ?_
  have := h.1
  have h3 : _ ≠ _ := h.2
  simp at this
  omega
theorem joinL_cast (l m : List Nat) : (joinL l m).map (fun x : Nat => (x : Int)) = (((l ++ m).map fun x : Nat => (x : Int)).mergeSort fun x y => decide (x ≤ y)) := by
  unfold joinL
  rw [List.map_mergeSort]
  intro a _ b _
  simp

theorem gJoin_spec [Extra] (p q : Nat) (l m : List Nat) (hl : l.Pairwise (· < ·)) (hm : m.Pairwise (· < ·)) (hd : ∀ x ∈ l, x ∉ m) (hll : l.length ≤ 100000) (hml : m.length ≤ 100000) {w : World} {fr : List HProp} (H : Holds w (BAG p l :: BAG q m :: fr)) :
    Calls Tryz.prog 83 #[pp p, pp q] w (ret fun v w' => v = .tuple #[] ∧ Holds w' (BAG p (joinL l m) :: BAG q m :: fr)) := by
  obtain ⟨a, c, H⟩ := BAG_out H
  replace H := Js [2,0,0] 0 H
  obtain ⟨a', c', H⟩ := BAG_out H
  refine calls_of Tryz.func83 rfl (by kernel_rfl) ?_
  refine J154 H ?_
  refine J6 H ?_
  refine J127 H ?_
  replace H := Js [3,2,0,0] 0 H
  obtain ⟨D1, H, hD1, hC1⟩ := sls_rd H (ncells_length l) (by decide)
  replace H := Js [3,1,1,0] 0 H
  obtain ⟨D2, H, hD2, hC2⟩ := sls_rd H (ncells_length m) (by decide)
  refine J1 H ?_
  clear H; intro w H
  refine J101 H ?_
  refine J55 H ?_
  refine J102 H ?_
  refine J64 H ?_
  refine A_load1 8 [] H rfl (Wants.none rfl) rfl rfl (by kernel_rfl) ?_
  replace H := Js [3,0,0,0] 0 H
  refine Jo 4 H ?_
  refine Jk rfl rfl (Clone_spec _ l (by omega) (hD1 _) H) ?_
  clear H; intro v15 w H
  obtain ⟨a15, c15, rfl⟩ := sls_slice H (ncells_length l) (by decide)
  refine Jo 9 H ?_
  refine St_appendS H rfl rfl ((hD2 _).there) (by simp [ncells, List.all_eq_true, Value.oneCell']) (by rw [ncells_length, ncells_length]; omega) rfl rfl ?_
  clear H; intro v20 w H
  rw [← ncells_append, ncells_icells] at H
  obtain ⟨a20, c20, rfl⟩ := sls_slice (m := l.length + m.length) H (by rw [icells_length, List.length_map, List.length_append]) (by decide)
  refine J77 H ?_
  refine J4 H ?_
  refine J16 H ?_
  refine Jc rfl rfl (Sort_spec (.slice a20 (l.length + m.length) c20) ((l ++ m).map fun x : Nat => (x : Int)) (by rw [List.length_map, List.length_append]; omega) H) ?_
  clear H; rintro v w ⟨rfl, H⟩
  refine Lp_nil ?_
  rw [← joinL_cast] at H
  have hjs := joinL_sorted hl hm hd
  have hjl := joinL_len l m
  refine J2 H ?_
  refine Jc rfl rfl (Compact_spec (.slice a20 (l.length + m.length) c20) ((joinL l m).map fun x : Nat => (x : Int)) (List.Pairwise.map _ (fun a b h => by omega) hjs) (by rw [List.length_map]; omega) H) ?_
  clear H; rintro v w ⟨rfl, H⟩
  refine J51 H ?_
  clear H; intro w H
  refine Lp_nil ?_
  replace H := NL_of H
  replace H := Js [2,3,2,0] 1 H
  replace H := hC2 _ _ H
  replace H := Js [2,2,1,0] 0 H
  replace H := BAG_in H
  replace H := BAG_in (Holds.sel [1, 1, 0] 0 H)
  exact fn_end0 _ (.inl rfl) H.swap rfl fun w' H' => ⟨rfl, H'⟩
end Go.Proofs.YtipelpbkeiphmaaGreatDoor
namespace Go.Proofs.YtipelpbkeiphmaaGreatDoor
open Go.SL

theorem Values_spec [Extra] (a : Option Addr) (n c : Nat) {w : World} {fr : List HProp} (H : Holds w fr) :
    Calls Tryz.prog 159 #[.slice a n c] w (ret fun v w' => ∃ b1, v = .func (.func 229) #[] #[pp b1] ∧ Holds w' (pts b1 (row 46 [.slice a n c]) :: fr)) := by
  refine calls_of Tryz.func159 rfl (by kernel_rfl) ?_
  refine J52 H ?_
  clear H; intro b1 w H
  refine J24 H ?_
  exact C_ret (Jy H rfl fun w' H' => ⟨_, rfl, H'⟩)
theorem gAll_spec [Extra] (p : Nat) (l : List Nat) (hl : l.length ≤ 1000000) {w : World} {fr : List HProp} (H : Holds w (BAG p l :: fr)) :
    Calls Tryz.prog 72 #[pp p] w (ret fun v w' => ∃ (b1 : Nat) (a : Option Addr) (c : Nat), v = .func (.func 229) #[] #[pp b1] ∧ Holds w' (pts b1 (row 46 [.slice a l.length c]) :: NL (.slice a l.length c) l :: BAG p l :: fr)) := by
  obtain ⟨a, c, H⟩ := BAG_out H
  refine calls_of Tryz.func72 rfl (by kernel_rfl) ?_
  refine J112 H ?_
  obtain ⟨D1, H, hD1, hC1⟩ := sls_rd H.swap (ncells_length l) (by decide)
  refine Jc rfl rfl (Clone_spec _ l hl (hD1 _) H) ?_
  clear H; intro v w H
  obtain ⟨a9, c9, rfl⟩ := sls_slice H (ncells_length l) (by decide)
  refine Jc rfl rfl (Values_spec a9 l.length c9 H) ?_
  clear H; rintro v w ⟨b1, rfl, H⟩
  refine J0 H ?_
  replace H := Js [2,0,0,0] 0 H
  replace H := hC1 _ _ H
  replace H := Js [3,0,0,0] 0 H
  replace H := BAG_in H
  replace H := Js [1,1,0] 0 H
  exact C_ret (Jy H rfl fun w' H' => ⟨_, a9, c9, rfl, H'⟩)
theorem BagIter [Extra] (yl b1 : Nat) (a : Option Addr) (c : Nat) (l : List Nat) (hl : l.length ≤ 1000000) (J : List Nat → HProp) {w : World} {fr : List HProp}
    (hy : ∀ (ks : List Nat) (k : Nat) (t : List Nat) (rest : List HProp) (w : World), l = ks ++ k :: t → Holds w (J ks :: rest) → SL.Yields Tryz.prog yl #[.int .i64 k] w (fun v w' => v = .bool true ∧ Holds w' (J (ks ++ [k]) :: rest)))
    (H : Holds w (J [] :: pts b1 (row 46 [.slice a l.length c]) :: NL (.slice a l.length c) l :: fr)) :
    Calls Tryz.prog 229 #[.func (.yield yl) #[] #[], pp b1] w (ret fun _ w' => Holds w' (J l :: pts b1 (row 46 [.slice a l.length c]) :: NL (.slice a l.length c) l :: fr)) := by
  refine calls_of Tryz.func229 rfl (by kernel_rfl) ?_
  refine J43 H ?_
  refine J40 H ?_
  refine J49 H ?_
  refine C_loop (fun ms σ w n => ms = [] ∧ ∃ i : Nat, i ≤ l.length ∧ n = l.length - i ∧ σ 0 = .func (.yield yl) #[] #[] ∧ σ 5 = .slice a l.length c ∧ σ 6 = .int .i64 l.length ∧ σ 7 = .int .i64 i ∧ Holds w (J (l.take i) :: pts b1 (row 46 [.slice a l.length c]) :: NL (.slice a l.length c) l :: fr)) (m := l.length) ⟨rfl, 0, by omega, rfl, rfl, rfl, rfl, rfl, H⟩ ?_
  clear H
  rintro ms σ w n ⟨rfl, i, hi, rfl, g0, g5, g6, g7, H⟩
  rw [upd_self g0, upd_self g5, upd_self g6, upd_self g7]
  refine J12 H ?_
  refine C_dec rfl (fun h => C_skip ?_) (fun h => C_exit ?_)
  · have hlt : i < l.length := by omega
    have hx := List.getElem?_eq_getElem hlt
    have hsp : l = l.take i ++ l[i] :: l.drop (i + 1) := by rw [List.getElem_cons_drop, List.take_append_drop]
    have htk : l.take (i + 1) = l.take i ++ [l[i]] := by rw [List.take_add_one, hx]; rfl
    generalize l[i] = x at hx hsp htk
    replace H := Js [2,0,0] 0 H
    obtain ⟨bT, sT, rfl, H, hcl⟩ := sls_open H (by omega)
    refine J33 H ?_
    refine Lp_s rfl (St_indexAddr rfl rfl (by omega) (by omega) rfl ?_)
    refine Lp_s rfl (St_load1 H rfl (ncells_get hx) rfl ?_)
    refine J0 H ?_
    replace H := hcl _ _ H
    refine J2 H ?_
    replace H := Js [1,1,0] 0 H
    refine Lp_s rfl (St_yield rfl rfl (SL.Yields.mono (hy _ x _ _ _ hsp H) ?_))
    clear H; rintro v w ⟨rfl, H⟩
    rw [← htk] at H
    refine J35 H ?_
    refine J5 H ?_
    exact ⟨_, ⟨rfl, i + 1, hlt, rfl, rfl, rfl, rfl, inc64 (by omega), H⟩, by omega⟩
  · have hge : i = l.length := by omega
    subst hge
    rw [List.take_length] at H
    exact fn_end0 _ (.inl rfl) H rfl fun w' H' => H'
end Go.Proofs.YtipelpbkeiphmaaGreatDoor
namespace Go.Proofs.YtipelpbkeiphmaaGreatDoor
open Go.SL

@[reducible] def evl (e : Ent) : List Value := [.int .i64 e.addr, .int .i64 e.region, .bool e.held, .bool e.pinned]
def tval (t : Slt) : List Value := match t.ent with
  | none => [.int .i64 t.gen, .bool false, .int .i64 0, .int .i64 0, .bool false, .bool false]
  | some e => [.int .i64 t.gen, .bool true, .int .i64 e.addr, .int .i64 e.region, .bool e.held, .bool e.pinned]
theorem tval_len (t : Slt) : (tval t).length = 6 := by unfold tval; split <;> rfl
theorem tval_gen (t : Slt) : (tval t)[0]? = some (.int .i64 t.gen) := by unfold tval; split <;> rfl
theorem tval_used (t : Slt) : (tval t)[1]? = some (.bool t.ent.isSome) := by
  unfold tval
  split
  · rename_i h; rw [h]; rfl
  · rename_i h; rw [h]; rfl
def busy (t : Slt) : Bool := t.ent.isSome || t.gen == 255
def goneT (ts : List Slt) : Nat := (ts.filter fun t => t.ent.isNone && t.gen == 255).length
def busyT (ts : List Slt) : Nat := (ts.filter busy).length

structure TabOk (ts : List Slt) (x : Nat) : Prop where
  bits : Bits ts.length x
  bit : ∀ (i : Nat) (t : Slt), ts[i]? = some t → x.testBit i = busy t
  gen : ∀ (i : Nat) (t : Slt), ts[i]? = some t → t.gen ≤ 255

theorem cnt_filter {α : Type} {ts : List α} {f : α → Bool} {x : Nat} (h : ∀ (i : Nat) (t : α), ts[i]? = some t → x.testBit i = f t) : cntB ts.length x = (ts.filter f).length := by
  unfold cntB
  have e2 : ∀ (l : List α) (k : Nat), (∀ (i : Nat) (t : α), l[i]? = some t → x.testBit (k + i) = f t) → ((List.range' k l.length).filter fun i => x.testBit i).length = (l.filter f).length := by
    intro l
    induction l with
    | nil => intro k _; rfl
    | cons a l ih =>
      intro k hk
      have h0 := hk 0 a rfl
      have hr := ih (k + 1) (fun i t ht => by rw [show k + 1 + i = k + (i + 1) by omega]; exact hk (i + 1) t (by simpa using ht))
      rw [List.length_cons, List.range'_succ, List.filter_cons, List.filter_cons]
      rw [Nat.add_zero] at h0
      rw [h0]
      split
      · simp [hr]
      · exact hr
  rw [List.range_eq_range']
  exact e2 ts 0 (fun i t ht => by rw [Nat.zero_add]; exact h i t ht)
theorem TabOk.cnt {ts : List Slt} {x : Nat} (h : TabOk ts x) : cntB ts.length x = busyT ts := cnt_filter h.bit

def TAB (p : Nat) (ts : List Slt) : HProp := ex fun q : Value × Nat × Nat => star [prop (TabOk ts q.2.2), pts p (row 216 [q.1, pp q.2.1, .int .i64 (goneT ts)]), sls 223 6 q.1 (ts.flatMap tval), BM1 q.2.1 ts.length q.2.2]
theorem TAB_out [Extra] {w : World} {p : Nat} {ts : List Slt} {l : List HProp} (H : Holds w (TAB p ts :: l)) : ∃ b c s u x, TabOk ts x ∧ ts.length ≤ c ∧
    Holds w (pts p (row 216 [.slice (some ⟨b, 0, none⟩) ts.length c, pp u, .int .i64 (goneT ts)]) :: pts b (row 223 (ts.flatMap tval ++ s)) :: BM1 u ts.length x :: l) ∧
    ∀ w' l' ts' x', ts'.length = ts.length → goneT ts' = goneT ts → TabOk ts' x' → Holds w' (pts p (row 216 [.slice (some ⟨b, 0, none⟩) ts.length c, pp u, .int .i64 (goneT ts)]) :: pts b (row 223 (ts'.flatMap tval ++ s)) :: BM1 u ts.length x' :: l') → Holds w' (TAB p ts' :: l') := by
  obtain ⟨⟨v, u, x⟩, H⟩ := Holds.ex.1 H
  have H := Holds.star.1 H
  obtain ⟨h, H⟩ := Holds.prop.1 H
  replace H : Holds w (pts p (row 216 [v, pp u, .int .i64 (goneT ts)]) :: sls 223 6 v (ts.flatMap tval) :: BM1 u ts.length x :: l) := H
  obtain ⟨a, c, rfl⟩ := sls_slice H.drop (flat_len tval_len ts) (by decide)
  obtain ⟨b, s, rfl, H, hcap, hsp, hclose⟩ := sls_open2 H.swap h.bits.pos
  refine ⟨b, c, s, u, x, h, hcap, H.swap, fun w' l' ts' x' e1 e2 h' H' => ?_⟩
  have H' := hclose w' _ (ts'.flatMap tval) (by rw [flat_len tval_len, flat_len tval_len, e1]) H'.swap
  refine Holds.ex.2 ⟨(.slice (some ⟨b, 0, none⟩) ts.length c, u, x'), Holds.star.2 (Holds.prop.2 ⟨h', ?_⟩)⟩
  show Holds w' (pts p (row 216 [_, pp u, .int .i64 (goneT ts')]) :: sls 223 6 _ _ :: BM1 u ts'.length x' :: l')
  rw [e1, e2]
  exact H'.swap
theorem tNew_spec [Extra] (n : Nat) (h1 : 1 ≤ n) (h2 : n ≤ 63) {w : World} {fr : List HProp} (H : Holds w fr) :
    Calls Tryz.prog 187 #[.int .i64 n] w (ret fun v w' => ∃ p, v = .tuple #[pp p, .int .i64 0] ∧ Holds w' (TAB p (List.replicate n ⟨0, none⟩) :: fr)) := by
  refine calls_of Tryz.func187 rfl (by kernel_rfl) ?_
  refine J86 H ?_
  rw [show decide ((n : Int) < 1) = false from decide_eq_false (by omega)]
  refine J113 H ?_
  rw [show decide ((n : Int) > 4096) = false from decide_eq_false (by omega)]
  refine J35 H ?_
  refine J16 H ?_
  refine Jc rfl rfl (bNew_spec n (by omega) (by omega) H) ?_
  clear H; rintro v w ⟨u, rfl, H⟩
  refine J27 H ?_
  refine J16 H ?_
  refine Lp_s rfl (St_makeSlice H rfl rfl (by decide) (by omega) rfl ?_)
  clear H; intro b18 w H
  refine J6 H ?_
  refine J59 H ?_
  clear H; intro b21 w H
  refine J3 H ?_
  have hz : zeros (cellsL (.agg #[.int .i64 0, .bool false, .int .i64 0, .int .i64 0, .bool false, .bool false])) n = (List.replicate n (⟨0, none⟩ : Slt)).flatMap tval := by
    clear H
    clear h1 h2
    induction n with
    | zero => rfl
    | succ n ih => show _ ++ zeros _ n = _; rw [ih, List.replicate_succ, List.flatMap_cons]; rfl
  have hlen : (List.replicate n (⟨0, none⟩ : Slt)).length = n := by simp
  have hgone : goneT (List.replicate n (⟨0, none⟩ : Slt)) = 0 := by
    unfold goneT
    rw [List.filter_eq_nil_iff.2 (fun t ht => by rw [List.eq_of_mem_replicate ht]; simp)]
    rfl
  have hok : TabOk (List.replicate n (⟨0, none⟩ : Slt)) 0 := by
    refine ⟨by rw [hlen]; exact ⟨by omega, h2, Nat.two_pow_pos _⟩, fun i t ht => ?_, fun i t ht => ?_⟩
    · rw [List.eq_of_mem_replicate (List.mem_of_getElem? ht), Nat.zero_testBit]; rfl
    · rw [List.eq_of_mem_replicate (List.mem_of_getElem? ht)]; simp
  have hbm : BM u n (List.replicate ((n + 63) / 64) 0) 0 = BM1 u n 0 := by
    rw [show (n + 63) / 64 = 1 by omega]
    have : cntB n 0 = 0 := by
      unfold cntB
      rw [List.filter_eq_nil_iff.2 (fun i _ => by simp)]
      rfl
    show BM u n [0] 0 = BM u n [0] (cntB n 0)
    rw [this]
  rw [hz, hbm] at H
  refine C_ret (Jy H rfl fun w' H' => ⟨_, rfl, Holds.ex.2 ⟨(.slice (some ⟨b18, 0, none⟩) n n, u, 0), Holds.star.2 (Holds.prop.2 ⟨hok, ?_⟩)⟩⟩)
  show Holds w' (pts b21 (row 216 [_, pp u, .int .i64 (goneT (List.replicate n (⟨0, none⟩ : Slt)))]) :: sls 223 6 _ _ :: BM1 u (List.replicate n (⟨0, none⟩ : Slt)).length 0 :: fr)
  rw [hgone, hlen]
  exact H'

theorem Left_spec [Extra] (p : Nat) (ts : List Slt) {w : World} {fr : List HProp} (H : Holds w (TAB p ts :: fr)) :
    Calls Tryz.prog 65 #[pp p] w (ret fun v w' => v = .int .i64 ((ts.length - busyT ts : Nat) : Int) ∧ Holds w' (TAB p ts :: fr)) := by
  obtain ⟨b, c, s, u, x, hok, hc, H, hclose⟩ := TAB_out H
  have hb := hok.bits.le
  have hcnt := hok.cnt
  have hle := cntB_le ts.length x
  refine calls_of Tryz.func65 rfl (by kernel_rfl) ?_
  refine J175 H ?_
  refine J1 H ?_
  clear H; intro w H
  refine J101 H ?_
  refine A_lenSlice 4 rfl (Wants.none rfl) rfl (by kernel_rfl) ?_
  refine J55 H ?_
  refine J102 H ?_
  refine J64 H ?_
  refine A_load1 8 [9] H rfl (Wants.none rfl) rfl rfl (by kernel_rfl) ?_
  replace H := Js [2,0,0] 0 H
  refine Jo 9 H ?_
  refine Jk rfl rfl (Count_spec u _ _ _ H) ?_
  clear H; rintro v w ⟨rfl, H⟩
  refine J77 H ?_
  refine J36 H ?_
  replace H := Js [1,1,0] 0 H
  refine C_ret (Jy (hclose _ _ ts x rfl rfl hok H) rfl fun w' H' => ⟨?_, H'⟩)
  show Value.int .i64 (IntKind.i64.wrap ((ts.length : Int) - (cntB ts.length x : Int))) = _
  rw [wrap64 (by omega) (by omega), ← hcnt]
  congr 1
  omega
end Go.Proofs.YtipelpbkeiphmaaGreatDoor
