/- Cells: what is proved on the way: every input of the statement; no condition. Texts joined: KidA TreP TreB BagC BagD TabA TabB TabC TabD CelA. -/
import Derived.Test.YtipelpbkeiphmaaGreatDoorBaf
import Derived.Test.YtipelpbkeiphmaaGreatDoorBaj
import Derived.Test.YtipelpbkeiphmaaGreatDoorBai
set_option linter.unusedVariables false
set_option linter.unusedSimpArgs false
set_option linter.unusedSectionVars false
namespace Go.Proofs.YtipelpbkeiphmaaGreatDoor
open Go.SL

theorem ki_inj : ∀ a b : Int, ki .i64 a = ki .i64 b → a = b := fun a b h => by cases h; rfl
def kidB (par : List (Int × Int)) (id k : Int) : Bool := decide (fnd par k = some id)

theorem Kids_spec [Extra] (p last : Nat) (par : List (Int × Int)) (id : Int) (h0 : id = 0 ∨ (fnd par id).isSome = true) (hl : par.length ≤ 1000) {w : World} {fr : List HProp} (H : Holds w (TRE p last par :: fr)) :
    Calls Tryz.prog 32 #[pp p, .int .i64 id] w (ret fun v w' => ∃ u K, v = .tuple #[u, .int .i64 0] ∧ K.Perm ((par.map (·.1)).filter (kidB par id)) ∧ K.Pairwise (· ≤ ·) ∧ Holds w' (IL u K :: TRE p last par :: fr)) := by
  have hnd := TRE_keys H
  refine calls_of Tryz.func32 rfl (by kernel_rfl) ?_
  refine J84 H ?_
  refine Jc rfl rfl (need_spec p last par id H) ?_
  clear H; rintro v w ⟨rfl, H⟩
  refine J15 H ?_
  refine C_join (fun ms σ w => ms = [] ∧ σ 22 = .bool false ∧ σ 0 = pp p ∧ σ 1 = .int .i64 id ∧ Holds w (TRE p last par :: fr)) ?_ ?_
  · cases hf : (fnd par id).isSome with
    | true =>
      refine J10 H ?_
      refine J116 H ?_
      refine Lp_no rfl rfl rfl ?_
      refine J0 H ?_
      exact ⟨rfl, rfl, rfl, rfl, rfl, H⟩
    | false =>
      obtain rfl : id = 0 := by
        rcases h0 with h | h
        · exact h
        · rw [hf] at h; cases h
      refine J10 H ?_
      refine Lp_gpv rfl rfl rfl rfl ?_
      refine Lp_g rfl rfl rfl (St_eqPtrNil rfl rfl (.inl rfl) rfl ?_)
      refine J24 H ?_
      refine J24 H ?_
      refine J0 H ?_
      exact ⟨rfl, rfl, rfl, rfl, rfl, H⟩
  clear H
  rintro ms σ w ⟨rfl, g22, g0, g1, H⟩
  rw [upd_self g22, upd_self g0, upd_self g1]
  refine J159 H ?_
  obtain ⟨b, H⟩ := TRE_out H
  refine J48 H ?_
  replace H := mpv_of H.swap
  refine Lp_s rfl (St_range (ki .i64) v1 H rfl rfl ?_)
  clear H; intro bi w H
  refine Lp_nil ?_
  refine J14 H ?_
  refine C_joinQ (fun ms σ w => ms = [] ∧ ∃ (u : Value) (K : List Int), σ 7 = u ∧ K.Perm ((par.map (·.1)).filter (kidB par id)) ∧ Holds w (IL u K :: TRE p last par :: fr)) ?_ ?_
  · refine C_block ?_
    refine C_loop (fun ms σ w n => ms = [] ∧ ∃ (ks : List Int) (u : Value), ks.length ≤ par.length ∧ n = par.length - ks.length ∧ σ 1 = .int .i64 id ∧ σ 7 = u ∧ σ 28 = pp bi ∧ Holds w (IL u (ks.filter (kidB par id)) :: mit (ki .i64) v1 (.map (some b)) par bi ks :: pts p (row 207 [.map (some b), .int .i64 last]) :: fr)) (m := par.length) ⟨rfl, [], _, by simp, rfl, rfl, rfl, rfl, sls_nil H⟩ ?_
    clear H
    rintro ms σ w n ⟨rfl, ks, u, hkl, rfl, g1, g7, g28, H⟩
    obtain ⟨au, mu, cu, rfl⟩ := sls_any H
    rw [upd_self g1, upd_self g7, upd_self g28]
    refine J51 H ?_
    refine Lp_s rfl (St_next H.swap ki_inj rfl rfl (fun hp w H => ?_) (fun q hq hn hnd2 hsub w H => ?_))
    · refine J15 H ?_
      refine C_false rfl (C_exit ?_)
      replace H := mpv_some (mit_mpv H)
      replace H := Js [1,1,0] 0 H
      have H2 : Holds w (TRE p last par :: IL (.slice au mu cu) (ks.filter (kidB par id)) :: fr) := TRE_in (by replace H := Holds.sel [1, 1, 0] 0 H; dsimp only [SL.sel, SL.pull, List.drop] at H; exact H)
      exact .inl ⟨rfl, rfl, _, _, rfl, hp.filter _, H2.swap⟩
    · have hlt : ks.length < par.length := by
        have h1 : (ks ++ [q.1]).Nodup := by
          rw [List.nodup_append]
          exact ⟨hnd2, by simp, fun c hc c' hc' e0 => by simp at hc'; subst hc'; subst e0; exact hn hc⟩
        have h2 := sub_length h1 (l₂ := par.map (·.1)) (fun z hz => by
          rcases List.mem_append.1 hz with hz | hz
          · exact hsub z hz
          · simp at hz; subst hz; exact List.mem_map.2 ⟨q, hq, rfl⟩)
        simp at h2
        omega
      have hfq : fnd par q.1 = some q.2 := (fnd_iff hnd).2 hq
      refine J15 H ?_
      refine C_true rfl (C_skip ?_)
      refine C_block ?_
      refine J51 H ?_
      refine Lp_s rfl (St_entry H ki_inj hq rfl rfl ?_)
      refine Lp_pv rfl rfl ?_
      refine Lp_pv rfl rfl ?_
      refine Lp_pv rfl rfl ?_
      refine Lp_pv rfl rfl ?_
      refine Lp_nil ?_
      obtain ⟨k, t⟩ := q
      refine J20 H ?_
      by_cases ht : t = id
      · have hk : kidB par id k = true := by unfold kidB; rw [hfq, ht]; simp
        rw [show (t == id) = true by simpa using ht]
        refine J33 H ?_
        refine J2 H ?_
        refine J32 H ?_
        clear H; intro b39 w H
        replace H := Js [2,0,0,0] 0 H
        have hle := List.length_filter_le (kidB par id) ks
        refine Lp_s rfl (St_append H rfl rfl (by repeat (first | exact Reads.nil _ | apply Reads.cons rfl)) rfl (by decide) (by rw [icells_length]; simp only [List.length_cons, List.length_nil]; omega) rfl rfl ?_)
        clear H; intro v40 w H
        obtain ⟨a40, m40, c40, rfl⟩ := sls_any H
        refine J0 H ?_
        replace H := Js [0,1,1] 1 H
        refine ⟨_, ⟨rfl, ks ++ [k], _, by simp; omega, rfl, rfl, rfl, rfl, ?_⟩, by simp; omega⟩
        rw [List.filter_append, show [k].filter (kidB par id) = [k] by simp [hk]]
        show Holds w (sls _ 1 _ (icells (ks.filter (kidB par id) ++ [k])) :: _)
        rw [icells_append]
        exact H
      · have hk : kidB par id k = false := by unfold kidB; rw [hfq]; simp; exact ht
        rw [show (t == id) = false by simpa using ht]
        refine J9 H ?_
        refine ⟨_, ⟨rfl, ks ++ [k], .slice au mu cu, by simp; omega, rfl, rfl, rfl, rfl, ?_⟩, by simp; omega⟩
        rw [List.filter_append, show [k].filter (kidB par id) = [] by simp [hk], List.append_nil]
        replace H := Js [1,0,0] 0 H
        exact H
  · clear H
    rintro ms σ w ⟨rfl, u, K, g7, hK, H⟩
    have hKl : K.length ≤ 1000 := by
      have h1 := hK.length_eq
      have h2 := List.length_filter_le (kidB par id) (par.map (·.1))
      simp at h2
      omega
    obtain ⟨au, cu, rfl⟩ := sls_slice H (icells_length K) (by decide)
    rw [upd_self g7]
    refine J16 H ?_
    refine Jc rfl rfl (Sort_spec _ K (by omega) H) ?_
    clear H; rintro v w ⟨rfl, H⟩
    refine J138 H ?_
    refine C_ret (Jy H rfl fun w' H' => ⟨_, _, rfl, (List.mergeSort_perm K _).trans hK, ?_, H'⟩)
    have := List.pairwise_mergeSort (le := fun x y : Int => decide (x ≤ y)) (fun a b c h1 h2 => by simp at *; omega) (fun a b => by simp; omega) K
    exact this.imp (fun h => by simpa using h)
end Go.Proofs.YtipelpbkeiphmaaGreatDoor
namespace Go.Proofs.YtipelpbkeiphmaaGreatDoor
open Go.SL

/-- Parents are older than their kids, and live. -/
structure TreeOK (par : List (Int × Int)) : Prop where
  nd : (par.map (·.1)).Nodup
  up : ∀ r q, fnd par r = some q → 0 ≤ q ∧ q < r ∧ (q = 0 ∨ (fnd par q).isSome = true)
inductive Desc (par : List (Int × Int)) (id : Int) : Int → Prop
  | self : Desc par id id
  | kid {c k : Int} : Desc par id k → fnd par c = some k → Desc par id c
theorem Desc.ge {par : List (Int × Int)} (h : TreeOK par) {id c : Int} (d : Desc par id c) : id ≤ c := by
  induction d with
  | self => exact Int.le_refl _
  | kid _ hf ih => have := (h.up _ _ hf).2.1; omega
theorem Desc.live {par : List (Int × Int)} {id c : Int} (hid : (fnd par id).isSome = true) (d : Desc par id c) : (fnd par c).isSome = true := by
  cases d with
  | self => exact hid
  | kid _ hf => rw [hf]; rfl
theorem Desc.inv {par : List (Int × Int)} {id c : Int} (d : Desc par id c) : c = id ∨ ∃ k, fnd par c = some k ∧ Desc par id k := by
  cases d with
  | self => exact .inl rfl
  | kid hk hf => exact .inr ⟨_, hf, hk⟩

/-- The search so far: those of the first i have told their kids. -/
structure Bfs (par : List (Int × Int)) (id : Int) (l : List Int) (i : Nat) : Prop where
  nd : l.Nodup
  le : i ≤ l.length
  desc : ∀ c ∈ l, Desc par id c
  mem : ∀ c, c ∈ l ↔ c = id ∨ ∃ k ∈ l.take i, fnd par c = some k
theorem Bfs.start (par : List (Int × Int)) (id : Int) : Bfs par id [id] 0 :=
  ⟨by simp, by simp, fun c hc => by rw [List.mem_singleton] at hc; subst hc; exact .self, fun c => by simp⟩
theorem Bfs.step {par : List (Int × Int)} (h : TreeOK par) {id : Int} {l K : List Int} {i : Nat} (b : Bfs par id l i) {x : Int} (hx : l[i]? = some x) (hK : K.Nodup) (hm : ∀ c, c ∈ K ↔ fnd par c = some x) : Bfs par id (l ++ K) (i + 1) := by
  have hil := (List.getElem?_eq_some_iff.1 hx).1
  have htk : (l ++ K).take (i + 1) = l.take i ++ [x] := by
    rw [List.take_append_of_le_length (by omega), List.take_add_one, hx]
    rfl
  have hxl := List.mem_of_getElem? hx
  have hnt : x ∉ l.take i := fun hh => by
    obtain ⟨j, hj⟩ := List.getElem?_of_mem hh
    rw [List.getElem?_take] at hj
    split at hj
    · rename_i hji
      obtain ⟨hj1, hj2⟩ := List.getElem?_eq_some_iff.1 hj
      obtain ⟨_, hx2⟩ := List.getElem?_eq_some_iff.1 hx
      exact (List.pairwise_iff_getElem.1 b.nd) j i hj1 hil hji (hj2.trans hx2.symm)
    · cases hj
  refine ⟨?_, by rw [List.length_append]; omega, fun c hc => ?_, fun c => ?_⟩
  · rw [List.nodup_append]
    refine ⟨b.nd, hK, fun a ha c hc hac => ?_⟩
    subst hac
    have hf := (hm a).1 hc
    rcases (b.mem a).1 ha with rfl | ⟨k, hk, hk2⟩
    · have := (b.desc x hxl).ge h
      have := (h.up _ _ hf).2.1
      omega
    · rw [hf] at hk2
      injection hk2 with hk2
      subst hk2
      exact hnt hk
  · rcases List.mem_append.1 hc with hc | hc
    · exact b.desc c hc
    · exact .kid (b.desc x hxl) ((hm c).1 hc)
  · rw [htk, List.mem_append, b.mem, hm]
    constructor
    · rintro ((h1 | ⟨k, hk, h1⟩) | h1)
      · exact .inl h1
      · exact .inr ⟨k, List.mem_append.2 (.inl hk), h1⟩
      · exact .inr ⟨x, by simp, h1⟩
    · rintro (h1 | ⟨k, hk, h1⟩)
      · exact .inl (.inl h1)
      · rcases List.mem_append.1 hk with hk | hk
        · exact .inl (.inr ⟨k, hk, h1⟩)
        · rw [List.mem_singleton] at hk
          subst hk
          exact .inr h1
theorem Bfs.ends {par : List (Int × Int)} {id : Int} {l : List Int} (b : Bfs par id l l.length) (c : Int) : c ∈ l ↔ Desc par id c := by
  refine ⟨b.desc c, fun d => ?_⟩
  induction d with
  | self => exact (b.mem _).2 (.inl rfl)
  | kid _ hf ih => exact (b.mem _).2 (.inr ⟨_, by rw [List.take_length]; exact ih, hf⟩)
theorem Bfs.len {par : List (Int × Int)} {id : Int} (hid : (fnd par id).isSome = true) {l : List Int} {i : Nat} (b : Bfs par id l i) : l.length ≤ par.length := by
  have := sub_length b.nd (l₂ := par.map (·.1)) (fun c hc => by
    have h1 := (b.desc c hc).live hid
    cases hf : fnd par c with
    | none => rw [hf] at h1; cases h1
    | some q => exact List.mem_map.2 ⟨(c, q), fnd_mem hf, rfl⟩)
  rwa [List.length_map] at this
end Go.Proofs.YtipelpbkeiphmaaGreatDoor
namespace Go.Proofs.YtipelpbkeiphmaaGreatDoor
open Go.SL

theorem icells_get {l : List Int} {s : List Value} {i : Nat} {x : Int} (h : l[i]? = some x) : (icells l ++ s)[0 + i * 1]? = some (.int .i64 x) := by
  have hi := (List.getElem?_eq_some_iff.1 h).1
  rw [Nat.zero_add, Nat.mul_one, List.getElem?_append_left (by rw [icells_length]; omega)]
  unfold icells
  rw [List.getElem?_map, h]
  rfl
theorem icells_all (l : List Int) : (icells l).all (·.oneCell') = true := by simp [icells, List.all_eq_true, Value.oneCell']

theorem Under_spec [Extra] (p last : Nat) (par : List (Int × Int)) (id : Int) (hT : TreeOK par) (hid : (fnd par id).isSome = true) (hl : par.length ≤ 1000) {w : World} {fr : List HProp} (H : Holds w (TRE p last par :: fr)) :
    Calls Tryz.prog 27 #[pp p, .int .i64 id] w (ret fun v w' => ∃ u L, v = .tuple #[u, .int .i64 0] ∧ L.Nodup ∧ L.Pairwise (· ≤ ·) ∧ (∀ c, c ∈ L ↔ Desc par id c) ∧ L.length ≤ par.length ∧ Holds w' (IL u L :: TRE p last par :: fr)) := by
  refine calls_of Tryz.func27 rfl (by kernel_rfl) ?_
  refine J84 H ?_
  refine Jc rfl rfl (need_spec p last par id H) ?_
  clear H; rintro v w ⟨rfl, H⟩
  rw [if_pos hid]
  refine J50 H ?_
  refine J16 H ?_
  refine J32 H ?_
  clear H; intro b18 w H
  refine J0 H ?_
  replace H : Holds w (IL _ [id] :: _) := sls_lit (c := icells [id]) rfl H
  refine J13 H ?_
  refine C_join (fun ms σ w => ms = [] ∧ ∃ (l : List Int) (a : Option Addr) (c : Nat), Bfs par id l l.length ∧ σ 7 = .slice a l.length c ∧ Holds w (IL (.slice a l.length c) l :: TRE p last par :: fr)) ?_ ?_
  · refine C_block ?_
    refine C_loop (fun ms σ w n => ms = [] ∧ ∃ (i : Nat) (l : List Int) (a : Option Addr) (c : Nat), Bfs par id l i ∧ n = par.length - i ∧ σ 0 = pp p ∧ σ 7 = .slice a l.length c ∧ σ 8 = .int .i64 i ∧ Holds w (IL (.slice a l.length c) l :: TRE p last par :: fr)) (m := par.length) ⟨rfl, 0, [id], _, _, Bfs.start par id, rfl, rfl, rfl, rfl, H⟩ ?_
    clear H
    rintro ms σ w n ⟨rfl, i, l, a, c, hB, rfl, g0, g7, g8, H⟩
    rw [upd_self g0, upd_self g7, upd_self g8]
    have hll := hB.len hid
    have hil := hB.le
    refine J2 H ?_
    refine J91 H ?_
    refine J15 H ?_
    refine C_dec rfl (fun h => C_skip ?_) (fun h => C_exit ?_)
    · have hlt : i < l.length := by omega
      have hx := List.getElem?_eq_getElem hlt
      have hxd := hB.desc _ (List.getElem_mem hlt)
      generalize l[i] = x at hx hxd
      obtain ⟨bT, sT, rfl, H, hcl⟩ := sls_open H (by omega)
      refine J21 H ?_
      refine J10 H ?_
      refine Lp_s rfl (St_indexAddr rfl rfl (by omega) (by omega) rfl ?_)
      refine Lp_s rfl (St_load1 H rfl (by simpa using icells_get hx) rfl ?_)
      replace H := hcl _ _ H
      refine Jc rfl rfl (Kids_spec p last par x (.inr (hxd.live hid)) hl H.swap) ?_
      clear H; rintro v w ⟨u, K, rfl, hK, hKs, H⟩
      obtain ⟨au, mu, cu, rfl⟩ := sls_any H
      refine J27 H ?_
      have hKm : ∀ c, c ∈ K ↔ fnd par c = some x := fun c => by
        rw [hK.mem_iff, List.mem_filter]
        unfold kidB
        constructor
        · rintro ⟨_, h1⟩
          simpa using h1
        · intro h1
          exact ⟨List.mem_map.2 ⟨(c, x), fnd_mem h1, rfl⟩, by simpa using h1⟩
      have hKn : K.Nodup := hK.nodup_iff.2 (hT.nd.filter _)
      have hB2 := hB.step hT hx hKn hKm
      have hl2 := hB2.len hid
      rw [List.length_append] at hl2
      refine J2 H ?_
      replace H := Js [0,1,0] 0 H
      obtain ⟨DK, H, hDK, hCK⟩ := sls_rd H (icells_length K) (by decide)
      replace H := Js [1,0] 0 H
      refine Lp_s rfl (St_appendS H rfl rfl (hDK _) (icells_all K) (by rw [icells_length, icells_length]; omega) rfl rfl ?_)
      clear H; intro v36 w H
      rw [← icells_append] at H
      obtain ⟨a36, c36, rfl⟩ := sls_slice H (icells_length _) (by decide)
      refine J0 H ?_
      refine J20 H ?_
      replace H := Js [0,1] 1 H
      exact ⟨_, ⟨rfl, i + 1, l ++ K, a36, c36, hB2, rfl, rfl, rfl, inc64 (by omega), H⟩, by omega⟩
    · have hge : i = l.length := by omega
      subst hge
      exact ⟨rfl, rfl, l, a, c, hB, rfl, H⟩
  clear H
  rintro ms σ w ⟨rfl, l, a, c, hB, g7, H⟩
  rw [upd_self g7]
  have hll := hB.len hid
  refine J16 H ?_
  refine Jc rfl rfl (Sort_spec _ l (by omega) H) ?_
  clear H; rintro v w ⟨rfl, H⟩
  refine J138 H ?_
  have hp : (l.mergeSort fun x y => decide (x ≤ y)).Perm l := List.mergeSort_perm l _
  refine C_ret (Jy H rfl fun w' H' => ⟨_, l.mergeSort fun x y => decide (x ≤ y), rfl, hp.nodup_iff.2 hB.nd, ?_, fun c => ?_, ?_, H'⟩)
  · have := List.pairwise_mergeSort (le := fun x y : Int => decide (x ≤ y)) (fun a b c h1 h2 => by simp at *; omega) (fun a b => by simp; omega) l
    exact this.imp fun h => by simpa using h
  · rw [hp.mem_iff]
    exact hB.ends c
  · rw [hp.length_eq]
    exact hll

theorem TFree_spec [Extra] (p last : Nat) (par : List (Int × Int)) (id : Int) (hT : TreeOK par) (hid : (fnd par id).isSome = true) (hl : par.length ≤ 1000) {w : World} {fr : List HProp} (H : Holds w (TRE p last par :: fr)) :
    Calls Tryz.prog 81 #[pp p, .int .i64 id] w (ret fun v w' => ∃ u L, v = .tuple #[u, .int .i64 0] ∧ L.Nodup ∧ L.Pairwise (· ≤ ·) ∧ (∀ c, c ∈ L ↔ Desc par id c) ∧ L.length ≤ par.length ∧ Holds w' (IL u L :: TRE p last (L.foldl era par) :: fr)) := by
  refine calls_of Tryz.func81 rfl (by kernel_rfl) ?_
  refine J84 H ?_
  refine Jc rfl rfl (Under_spec p last par id hT hid hl H) ?_
  clear H; rintro v w ⟨u, L, rfl, h1, h2, h3, h4, H⟩
  obtain ⟨a, c, rfl⟩ := sls_slice H (icells_length _) (by decide)
  refine J27 H ?_
  refine J90 H ?_
  refine J15 H ?_
  refine C_join (fun ms σ w => ms = [] ∧ σ 6 = .slice a L.length c ∧ σ 7 = .int .i64 0 ∧ Holds w (IL (.slice a L.length c) L :: TRE p last (L.foldl era par) :: fr)) ?_ ?_
  · refine C_block ?_
    refine C_loop (fun ms σ w n => ms = [] ∧ ∃ i : Nat, i ≤ L.length ∧ n = L.length - i ∧ σ 0 = pp p ∧ σ 6 = .slice a L.length c ∧ σ 7 = .int .i64 0 ∧ σ 16 = .slice a L.length c ∧ σ 17 = .int .i64 L.length ∧ σ 18 = .int .i64 i ∧ Holds w (IL (.slice a L.length c) L :: TRE p last ((L.take i).foldl era par) :: fr)) (m := L.length) ⟨rfl, 0, by omega, rfl, rfl, rfl, rfl, rfl, rfl, rfl, H⟩ ?_
    clear H
    rintro ms σ w n ⟨rfl, i, hi, rfl, g0, g6, g7, g16, g17, g18, H⟩
    rw [upd_self g0, upd_self g6, upd_self g7, upd_self g16, upd_self g17, upd_self g18]
    refine J13 H ?_
    refine C_dec rfl (fun h => C_skip ?_) (fun h => C_exit ?_)
    · have hlt : i < L.length := by omega
      have hx := List.getElem?_eq_getElem hlt
      generalize L[i] = x at hx
      have htk : L.take (i + 1) = L.take i ++ [x] := by rw [List.take_add_one, hx]; rfl
      obtain ⟨bT, sT, rfl, H, hcl⟩ := sls_open H (by omega)
      refine J31 H ?_
      refine Lp_s rfl (St_indexAddr rfl rfl (by omega) (by omega) rfl ?_)
      refine Lp_s rfl (St_load1 H rfl (by simpa using icells_get hx) rfl ?_)
      refine J0 H ?_
      replace H := (hcl _ _ H).swap
      obtain ⟨bm, H⟩ := TRE_out H
      refine J18 H ?_
      refine Lp_s rfl (St_delete (key := x) H.swap rfl rfl tkI rfl ?_)
      clear H; intro w H
      refine Lp_nil ?_
      replace H := TRE_in H.swap
      refine J5 H ?_
      exact ⟨_, ⟨rfl, i + 1, hlt, rfl, rfl, rfl, rfl, rfl, rfl, inc64 (by omega), by rw [htk, List.foldl_append]; exact H.swap⟩, by omega⟩
    · have hge : i = L.length := by omega
      subst hge
      rw [List.take_length] at H
      exact ⟨rfl, rfl, rfl, rfl, H⟩
  clear H
  rintro ms σ w ⟨rfl, g6, g7, H⟩
  rw [upd_self g6, upd_self g7]
  refine J2 H ?_
  refine J3 H ?_
  exact C_ret (Jy H rfl fun w' H' => ⟨_, L, rfl, h1, h2, h3, h4, H'⟩)
end Go.Proofs.YtipelpbkeiphmaaGreatDoor
namespace Go.Proofs.YtipelpbkeiphmaaGreatDoor
open Go.SL

theorem Compact_spec [Extra] (v : Value) (l : List Int) (hs : l.Pairwise (· < ·)) (hl : l.length ≤ 1000000) {w : World} {fr : List HProp} (H : Holds w (IL v l :: fr)) :
    Calls Tryz.prog 164 #[v] w (ret fun x w' => x = v ∧ Holds w' (IL v l :: fr)) := by
  obtain ⟨a, c, rfl⟩ := sls_slice H (icells_length l) (by decide)
  refine calls_of Tryz.func164 rfl (by kernel_rfl) ?_
  refine J157 H ?_
  refine J0 H ?_
  by_cases h2 : l.length < 2
  · rw [show decide ((l.length : Int) < 2) = true from decide_eq_true (by omega)]
    refine J29 H ?_
    exact C_ret (Jy H rfl fun w' H' => ⟨rfl, H'⟩)
  rw [show decide ((l.length : Int) < 2) = false from decide_eq_false (by omega)]
  refine J9 H ?_
  refine J13 H ?_
  refine C_join (fun ms σ w => ms = [] ∧ σ 0 = .slice a l.length c ∧ Holds w (IL (.slice a l.length c) l :: fr)) ?_ ?_
  · refine C_block ?_
    refine C_loop (fun ms σ w n => ms = [] ∧ ∃ k : Nat, 1 ≤ k ∧ k ≤ l.length ∧ n = l.length - k ∧ σ 0 = .slice a l.length c ∧ σ 3 = .int .i64 k ∧ Holds w (IL (.slice a l.length c) l :: fr)) (m := l.length - 1) ⟨rfl, 1, by omega, by omega, rfl, rfl, rfl, H⟩ ?_
    clear H
    rintro ms σ w n ⟨rfl, k, hk1, hk, rfl, g0, g3, H⟩
    rw [upd_self g0, upd_self g3]
    refine J2 H ?_
    refine J91 H ?_
    refine J15 H ?_
    refine C_dec rfl (fun h => C_skip ?_) (fun h => C_exit ?_)
    · have hlt : k < l.length := by omega
      have hx := List.getElem?_eq_getElem hlt
      have hy := List.getElem?_eq_getElem (show k - 1 < l.length by omega)
      have hxy := (List.pairwise_iff_getElem.1 hs) (k - 1) k (by omega) hlt (by omega)
      generalize l[k] = x at hx hxy
      generalize l[k - 1] = y at hy hxy
      obtain ⟨bT, sT, rfl, H, hcl⟩ := sls_open H (by omega)
      have ek : IntKind.i64.wrap ((k : Int) - 1) = ((k - 1 : Nat) : Int) := by rw [wrap64 (by omega) (by omega)]; omega
      refine J21 H ?_
      refine J1 H ?_
      clear H; intro w H
      refine J73 H ?_
      refine A_indexAddr 2 rfl (Wants.none rfl) rfl rfl (by omega) (by omega) (by kernel_rfl) ?_
      refine A_load1 3 [] H rfl (Wants.none rfl) rfl (by simpa using icells_get hx) (by kernel_rfl) ?_
      refine J97 H ?_
      rw [ek]
      refine A_indexAddr 7 rfl (Wants.none rfl) rfl rfl (by omega) (by omega) (by kernel_rfl) ?_
      refine A_load1 8 [] H rfl (Wants.none rfl) rfl (by simpa using icells_get hy) (by kernel_rfl) ?_
      refine J112 H ?_
      rw [show (x == y) = false from by rw [beq_eq_false_iff_ne]; omega]
      refine J4 H ?_
      replace H := hcl _ _ H
      refine J9 H ?_
      refine J20 H ?_
      exact ⟨_, ⟨rfl, k + 1, by omega, hlt, rfl, rfl, inc64 (by omega), H⟩, by omega⟩
    · exact ⟨rfl, rfl, rfl, H⟩
  clear H
  rintro ms σ w ⟨rfl, g0, H⟩
  rw [upd_self g0]
  refine J5 H ?_
  exact C_ret (Jy H rfl fun w' H' => ⟨rfl, H'⟩)

theorem NL_of [Extra] {w : World} {v : Value} {l : List Nat} {fr : List HProp} (H : Holds w (IL v (l.map fun x : Nat => (x : Int)) :: fr)) : Holds w (NL v l :: fr) := by
  show Holds w (sls 3 1 v (ncells l) :: fr)
  rw [ncells_icells]
  exact H
def joinL (l m : List Nat) : List Nat := (l ++ m).mergeSort fun x y => decide (x ≤ y)
theorem joinL_mem {l m : List Nat} {x : Nat} : x ∈ joinL l m ↔ x ∈ l ∨ x ∈ m := by
  unfold joinL
  rw [List.mem_mergeSort, List.mem_append]
theorem joinL_len (l m : List Nat) : (joinL l m).length = l.length + m.length := by
  unfold joinL
  rw [List.length_mergeSort, List.length_append]
theorem joinL_sorted {l m : List Nat} (hl : l.Pairwise (· < ·)) (hm : m.Pairwise (· < ·)) (hd : ∀ x ∈ l, x ∉ m) : (joinL l m).Pairwise (· < ·) := by
  have h1 : (joinL l m).Pairwise (fun x y => decide (x ≤ y) = true) := List.pairwise_mergeSort (fun a b c h1 h2 => by simp at *; omega) (fun a b => by simp; omega) _
  have h2 : (joinL l m).Nodup := by
    unfold joinL
    rw [(List.mergeSort_perm _ _).nodup_iff, List.nodup_append]
    exact ⟨hl.imp fun h => by omega, hm.imp fun h => by omega, fun a ha b hb hab => hd a ha (hab ▸ hb)⟩
  refine (h1.and h2).imp fun h => ?_
  have := h.1
  have h3 : _ ≠ _ := h.2
  simp at this
  omega
theorem joinL_cast (l m : List Nat) : (joinL l m).map (fun x : Nat => (x : Int)) = (((l ++ m).map fun x : Nat => (x : Int)).mergeSort fun x y => decide (x ≤ y)) := by
  unfold joinL
  rw [List.map_mergeSort]
  intro a _ b _
  simp

theorem gJoin_spec [Extra] (p q : Nat) (l m : List Nat) (hl : l.Pairwise (· < ·)) (hm : m.Pairwise (· < ·)) (hd : ∀ x ∈ l, x ∉ m) (hll : l.length ≤ 100000) (hml : m.length ≤ 100000) {w : World} {fr : List HProp} (H : Holds w (BAG p l :: BAG q m :: fr)) :
    Calls Tryz.prog 83 #[pp p, pp q] w (ret fun v w' => v = .tuple #[] ∧ Holds w' (BAG p (joinL l m) :: BAG q m :: fr)) := by
  obtain ⟨a, c, H⟩ := BAG_out H
  replace H := Js [2,0,0] 0 H
  obtain ⟨a', c', H⟩ := BAG_out H
  refine calls_of Tryz.func83 rfl (by kernel_rfl) ?_
  refine J152 H ?_
  refine J7 H ?_
  refine J126 H ?_
  replace H := Js [3,2,0,0] 0 H
  obtain ⟨D1, H, hD1, hC1⟩ := sls_rd H (ncells_length l) (by decide)
  replace H := Js [3,1,1,0] 0 H
  obtain ⟨D2, H, hD2, hC2⟩ := sls_rd H (ncells_length m) (by decide)
  refine J1 H ?_
  clear H; intro w H
  refine J100 H ?_
  refine J54 H ?_
  refine J101 H ?_
  refine J64 H ?_
  refine A_load1 8 [] H rfl (Wants.none rfl) rfl rfl (by kernel_rfl) ?_
  replace H := Js [3,0,0,0] 0 H
  refine Jo 4 H ?_
  refine Jk rfl rfl (Clone_spec _ l (by omega) (hD1 _) H) ?_
  clear H; intro v15 w H
  obtain ⟨a15, c15, rfl⟩ := sls_slice H (ncells_length l) (by decide)
  refine Jo 9 H ?_
  refine St_appendS H rfl rfl ((hD2 _).there) (by simp [ncells, List.all_eq_true, Value.oneCell']) (by rw [ncells_length, ncells_length]; omega) rfl rfl ?_
  clear H; intro v20 w H
  rw [← ncells_append, ncells_icells] at H
  obtain ⟨a20, c20, rfl⟩ := sls_slice (m := l.length + m.length) H (by rw [icells_length, List.length_map, List.length_append]) (by decide)
  refine J74 H ?_
  refine J4 H ?_
  refine J16 H ?_
  refine Jc rfl rfl (Sort_spec (.slice a20 (l.length + m.length) c20) ((l ++ m).map fun x : Nat => (x : Int)) (by rw [List.length_map, List.length_append]; omega) H) ?_
  clear H; rintro v w ⟨rfl, H⟩
  refine Lp_nil ?_
  rw [← joinL_cast] at H
  have hjs := joinL_sorted hl hm hd
  have hjl := joinL_len l m
  refine J2 H ?_
  refine Jc rfl rfl (Compact_spec (.slice a20 (l.length + m.length) c20) ((joinL l m).map fun x : Nat => (x : Int)) (List.Pairwise.map _ (fun a b h => by omega) hjs) (by rw [List.length_map]; omega) H) ?_
  clear H; rintro v w ⟨rfl, H⟩
  refine J52 H ?_
  clear H; intro w H
  refine Lp_nil ?_
  replace H := NL_of H
  replace H := Js [2,3,2,0] 1 H
  replace H := hC2 _ _ H
  replace H := Js [2,2,1,0] 0 H
  replace H := BAG_in H
  replace H := BAG_in (Holds.sel [1, 1, 0] 0 H)
  exact fn_end0 _ (.inl rfl) H.swap rfl fun w' H' => ⟨rfl, H'⟩
end Go.Proofs.YtipelpbkeiphmaaGreatDoor
namespace Go.Proofs.YtipelpbkeiphmaaGreatDoor
open Go.SL

theorem Values_spec [Extra] (a : Option Addr) (n c : Nat) {w : World} {fr : List HProp} (H : Holds w fr) :
    Calls Tryz.prog 159 #[.slice a n c] w (ret fun v w' => ∃ b1, v = .func (.func 229) #[] #[pp b1] ∧ Holds w' (pts b1 (row 46 [.slice a n c]) :: fr)) := by
  refine calls_of Tryz.func159 rfl (by kernel_rfl) ?_
  refine J53 H ?_
  clear H; intro b1 w H
  refine J25 H ?_
  exact C_ret (Jy H rfl fun w' H' => ⟨_, rfl, H'⟩)
theorem gAll_spec [Extra] (p : Nat) (l : List Nat) (hl : l.length ≤ 1000000) {w : World} {fr : List HProp} (H : Holds w (BAG p l :: fr)) :
    Calls Tryz.prog 72 #[pp p] w (ret fun v w' => ∃ (b1 : Nat) (a : Option Addr) (c : Nat), v = .func (.func 229) #[] #[pp b1] ∧ Holds w' (pts b1 (row 46 [.slice a l.length c]) :: NL (.slice a l.length c) l :: BAG p l :: fr)) := by
  obtain ⟨a, c, H⟩ := BAG_out H
  refine calls_of Tryz.func72 rfl (by kernel_rfl) ?_
  refine J110 H ?_
  obtain ⟨D1, H, hD1, hC1⟩ := sls_rd H.swap (ncells_length l) (by decide)
  refine Jc rfl rfl (Clone_spec _ l hl (hD1 _) H) ?_
  clear H; intro v w H
  obtain ⟨a9, c9, rfl⟩ := sls_slice H (ncells_length l) (by decide)
  refine Jc rfl rfl (Values_spec a9 l.length c9 H) ?_
  clear H; rintro v w ⟨b1, rfl, H⟩
  refine J0 H ?_
  replace H := Js [2,0,0,0] 0 H
  replace H := hC1 _ _ H
  replace H := Js [3,0,0,0] 0 H
  replace H := BAG_in H
  replace H := Js [1,1,0] 0 H
  exact C_ret (Jy H rfl fun w' H' => ⟨_, a9, c9, rfl, H'⟩)
theorem BagIter [Extra] (yl b1 : Nat) (a : Option Addr) (c : Nat) (l : List Nat) (hl : l.length ≤ 1000000) (J : List Nat → HProp) {w : World} {fr : List HProp}
    (hy : ∀ (ks : List Nat) (k : Nat) (t : List Nat) (rest : List HProp) (w : World), l = ks ++ k :: t → Holds w (J ks :: rest) → SL.Yields Tryz.prog yl #[.int .i64 k] w (fun v w' => v = .bool true ∧ Holds w' (J (ks ++ [k]) :: rest)))
    (H : Holds w (J [] :: pts b1 (row 46 [.slice a l.length c]) :: NL (.slice a l.length c) l :: fr)) :
    Calls Tryz.prog 229 #[.func (.yield yl) #[] #[], pp b1] w (ret fun _ w' => Holds w' (J l :: pts b1 (row 46 [.slice a l.length c]) :: NL (.slice a l.length c) l :: fr)) := by
  refine calls_of Tryz.func229 rfl (by kernel_rfl) ?_
  refine J43 H ?_
  refine J91 H ?_
  refine J49 H ?_
  refine C_loop (fun ms σ w n => ms = [] ∧ ∃ i : Nat, i ≤ l.length ∧ n = l.length - i ∧ σ 0 = .func (.yield yl) #[] #[] ∧ σ 5 = .slice a l.length c ∧ σ 6 = .int .i64 l.length ∧ σ 7 = .int .i64 i ∧ Holds w (J (l.take i) :: pts b1 (row 46 [.slice a l.length c]) :: NL (.slice a l.length c) l :: fr)) (m := l.length) ⟨rfl, 0, by omega, rfl, rfl, rfl, rfl, rfl, H⟩ ?_
  clear H
  rintro ms σ w n ⟨rfl, i, hi, rfl, g0, g5, g6, g7, H⟩
  rw [upd_self g0, upd_self g5, upd_self g6, upd_self g7]
  refine J13 H ?_
  refine C_dec rfl (fun h => C_skip ?_) (fun h => C_exit ?_)
  · have hlt : i < l.length := by omega
    have hx := List.getElem?_eq_getElem hlt
    have hsp : l = l.take i ++ l[i] :: l.drop (i + 1) := by rw [List.getElem_cons_drop, List.take_append_drop]
    have htk : l.take (i + 1) = l.take i ++ [l[i]] := by rw [List.take_add_one, hx]; rfl
    generalize l[i] = x at hx hsp htk
    replace H := Js [2,0,0] 0 H
    obtain ⟨bT, sT, rfl, H, hcl⟩ := sls_open H (by omega)
    refine J31 H ?_
    refine Lp_s rfl (St_indexAddr rfl rfl (by omega) (by omega) rfl ?_)
    refine Lp_s rfl (St_load1 H rfl (ncells_get hx) rfl ?_)
    refine J0 H ?_
    replace H := hcl _ _ H
    refine J2 H ?_
    replace H := Js [1,1,0] 0 H
    refine Lp_s rfl (St_yield rfl rfl (SL.Yields.mono (hy _ x _ _ _ hsp H) ?_))
    clear H; rintro v w ⟨rfl, H⟩
    rw [← htk] at H
    refine J35 H ?_
    refine J5 H ?_
    exact ⟨_, ⟨rfl, i + 1, hlt, rfl, rfl, rfl, rfl, inc64 (by omega), H⟩, by omega⟩
  · have hge : i = l.length := by omega
    subst hge
    rw [List.take_length] at H
    exact fn_end0 _ (.inl rfl) H rfl fun w' H' => H'
end Go.Proofs.YtipelpbkeiphmaaGreatDoor
namespace Go.Proofs.YtipelpbkeiphmaaGreatDoor
open Go.SL

@[reducible] def evl (e : Ent) : List Value := [.int .i64 e.addr, .int .i64 e.region, .bool e.held, .bool e.pinned]
def tval (t : Slt) : List Value := match t.ent with
  | none => [.int .i64 t.gen, .bool false, .int .i64 0, .int .i64 0, .bool false, .bool false]
  | some e => [.int .i64 t.gen, .bool true, .int .i64 e.addr, .int .i64 e.region, .bool e.held, .bool e.pinned]
theorem tval_len (t : Slt) : (tval t).length = 6 := by unfold tval; split <;> rfl
theorem tval_gen (t : Slt) : (tval t)[0]? = some (.int .i64 t.gen) := by unfold tval; split <;> rfl
theorem tval_used (t : Slt) : (tval t)[1]? = some (.bool t.ent.isSome) := by
  unfold tval
  split
  · rename_i h; rw [h]; rfl
  · rename_i h; rw [h]; rfl
def busy (t : Slt) : Bool := t.ent.isSome || t.gen == 255
def goneT (ts : List Slt) : Nat := (ts.filter fun t => t.ent.isNone && t.gen == 255).length
def busyT (ts : List Slt) : Nat := (ts.filter busy).length

structure TabOk (ts : List Slt) (x : Nat) : Prop where
  bits : Bits ts.length x
  bit : ∀ (i : Nat) (t : Slt), ts[i]? = some t → x.testBit i = busy t
  gen : ∀ (i : Nat) (t : Slt), ts[i]? = some t → t.gen ≤ 255

theorem cnt_filter {α : Type} {ts : List α} {f : α → Bool} {x : Nat} (h : ∀ (i : Nat) (t : α), ts[i]? = some t → x.testBit i = f t) : cntB ts.length x = (ts.filter f).length := by
  unfold cntB
  have e2 : ∀ (l : List α) (k : Nat), (∀ (i : Nat) (t : α), l[i]? = some t → x.testBit (k + i) = f t) → ((List.range' k l.length).filter fun i => x.testBit i).length = (l.filter f).length := by
    intro l
    induction l with
    | nil => intro k _; rfl
    | cons a l ih =>
      intro k hk
      have h0 := hk 0 a rfl
      have hr := ih (k + 1) (fun i t ht => by rw [show k + 1 + i = k + (i + 1) by omega]; exact hk (i + 1) t (by simpa using ht))
      rw [List.length_cons, List.range'_succ, List.filter_cons, List.filter_cons]
      rw [Nat.add_zero] at h0
      rw [h0]
      split
      · simp [hr]
      · exact hr
  rw [List.range_eq_range']
  exact e2 ts 0 (fun i t ht => by rw [Nat.zero_add]; exact h i t ht)
theorem TabOk.cnt {ts : List Slt} {x : Nat} (h : TabOk ts x) : cntB ts.length x = busyT ts := cnt_filter h.bit

def TAB (p : Nat) (ts : List Slt) : HProp := ex fun q : Value × Nat × Nat => star [prop (TabOk ts q.2.2), pts p (row 216 [q.1, pp q.2.1, .int .i64 (goneT ts)]), sls 223 6 q.1 (ts.flatMap tval), BM1 q.2.1 ts.length q.2.2]
theorem TAB_out [Extra] {w : World} {p : Nat} {ts : List Slt} {l : List HProp} (H : Holds w (TAB p ts :: l)) : ∃ b c s u x, TabOk ts x ∧ ts.length ≤ c ∧
    Holds w (pts p (row 216 [.slice (some ⟨b, 0, none⟩) ts.length c, pp u, .int .i64 (goneT ts)]) :: pts b (row 223 (ts.flatMap tval ++ s)) :: BM1 u ts.length x :: l) ∧
    ∀ w' l' ts' x', ts'.length = ts.length → goneT ts' = goneT ts → TabOk ts' x' → Holds w' (pts p (row 216 [.slice (some ⟨b, 0, none⟩) ts.length c, pp u, .int .i64 (goneT ts)]) :: pts b (row 223 (ts'.flatMap tval ++ s)) :: BM1 u ts.length x' :: l') → Holds w' (TAB p ts' :: l') := by
  obtain ⟨⟨v, u, x⟩, H⟩ := Holds.ex.1 H
  have H := Holds.star.1 H
  obtain ⟨h, H⟩ := Holds.prop.1 H
  replace H : Holds w (pts p (row 216 [v, pp u, .int .i64 (goneT ts)]) :: sls 223 6 v (ts.flatMap tval) :: BM1 u ts.length x :: l) := H
  obtain ⟨a, c, rfl⟩ := sls_slice H.drop (flat_len tval_len ts) (by decide)
  obtain ⟨b, s, rfl, H, hcap, hsp, hclose⟩ := sls_open2 H.swap h.bits.pos
  refine ⟨b, c, s, u, x, h, hcap, H.swap, fun w' l' ts' x' e1 e2 h' H' => ?_⟩
  have H' := hclose w' _ (ts'.flatMap tval) (by rw [flat_len tval_len, flat_len tval_len, e1]) H'.swap
  refine Holds.ex.2 ⟨(.slice (some ⟨b, 0, none⟩) ts.length c, u, x'), Holds.star.2 (Holds.prop.2 ⟨h', ?_⟩)⟩
  show Holds w' (pts p (row 216 [_, pp u, .int .i64 (goneT ts')]) :: sls 223 6 _ _ :: BM1 u ts'.length x' :: l')
  rw [e1, e2]
  exact H'.swap
theorem tNew_spec [Extra] (n : Nat) (h1 : 1 ≤ n) (h2 : n ≤ 63) {w : World} {fr : List HProp} (H : Holds w fr) :
    Calls Tryz.prog 187 #[.int .i64 n] w (ret fun v w' => ∃ p, v = .tuple #[pp p, .int .i64 0] ∧ Holds w' (TAB p (List.replicate n ⟨0, none⟩) :: fr)) := by
  refine calls_of Tryz.func187 rfl (by kernel_rfl) ?_
  refine J84 H ?_
  rw [show decide ((n : Int) < 1) = false from decide_eq_false (by omega)]
  refine J111 H ?_
  rw [show decide ((n : Int) > 4096) = false from decide_eq_false (by omega)]
  refine J35 H ?_
  refine J16 H ?_
  refine Jc rfl rfl (bNew_spec n (by omega) (by omega) H) ?_
  clear H; rintro v w ⟨u, rfl, H⟩
  refine J27 H ?_
  refine J16 H ?_
  refine Lp_s rfl (St_makeSlice H rfl rfl (by decide) (by omega) rfl ?_)
  clear H; intro b18 w H
  refine J7 H ?_
  refine J40 H ?_
  clear H; intro b21 w H
  refine J3 H ?_
  have hz : zeros (cellsL (.agg #[.int .i64 0, .bool false, .int .i64 0, .int .i64 0, .bool false, .bool false])) n = (List.replicate n (⟨0, none⟩ : Slt)).flatMap tval := by
    clear H
    clear h1 h2
    induction n with
    | zero => rfl
    | succ n ih => show _ ++ zeros _ n = _; rw [ih, List.replicate_succ, List.flatMap_cons]; rfl
  have hlen : (List.replicate n (⟨0, none⟩ : Slt)).length = n := by simp
  have hgone : goneT (List.replicate n (⟨0, none⟩ : Slt)) = 0 := by
    unfold goneT
    rw [List.filter_eq_nil_iff.2 (fun t ht => by rw [List.eq_of_mem_replicate ht]; simp)]
    rfl
  have hok : TabOk (List.replicate n (⟨0, none⟩ : Slt)) 0 := by
    refine ⟨by rw [hlen]; exact ⟨by omega, h2, Nat.two_pow_pos _⟩, fun i t ht => ?_, fun i t ht => ?_⟩
    · rw [List.eq_of_mem_replicate (List.mem_of_getElem? ht), Nat.zero_testBit]; rfl
    · rw [List.eq_of_mem_replicate (List.mem_of_getElem? ht)]; simp
  have hbm : BM u n (List.replicate ((n + 63) / 64) 0) 0 = BM1 u n 0 := by
    rw [show (n + 63) / 64 = 1 by omega]
    have : cntB n 0 = 0 := by
      unfold cntB
      rw [List.filter_eq_nil_iff.2 (fun i _ => by simp)]
      rfl
    show BM u n [0] 0 = BM u n [0] (cntB n 0)
    rw [this]
  rw [hz, hbm] at H
  refine C_ret (Jy H rfl fun w' H' => ⟨_, rfl, Holds.ex.2 ⟨(.slice (some ⟨b18, 0, none⟩) n n, u, 0), Holds.star.2 (Holds.prop.2 ⟨hok, ?_⟩)⟩⟩)
  show Holds w' (pts b21 (row 216 [_, pp u, .int .i64 (goneT (List.replicate n (⟨0, none⟩ : Slt)))]) :: sls 223 6 _ _ :: BM1 u (List.replicate n (⟨0, none⟩ : Slt)).length 0 :: fr)
  rw [hgone, hlen]
  exact H'

theorem Left_spec [Extra] (p : Nat) (ts : List Slt) {w : World} {fr : List HProp} (H : Holds w (TAB p ts :: fr)) :
    Calls Tryz.prog 65 #[pp p] w (ret fun v w' => v = .int .i64 ((ts.length - busyT ts : Nat) : Int) ∧ Holds w' (TAB p ts :: fr)) := by
  obtain ⟨b, c, s, u, x, hok, hc, H, hclose⟩ := TAB_out H
  have hb := hok.bits.le
  have hcnt := hok.cnt
  have hle := cntB_le ts.length x
  refine calls_of Tryz.func65 rfl (by kernel_rfl) ?_
  refine J173 H ?_
  refine J1 H ?_
  clear H; intro w H
  refine J100 H ?_
  refine A_lenSlice 4 rfl (Wants.none rfl) rfl (by kernel_rfl) ?_
  refine J54 H ?_
  refine J101 H ?_
  refine J64 H ?_
  refine A_load1 8 [9] H rfl (Wants.none rfl) rfl rfl (by kernel_rfl) ?_
  replace H := Js [2,0,0] 0 H
  refine Jo 9 H ?_
  refine Jk rfl rfl (Count_spec u _ _ _ H) ?_
  clear H; rintro v w ⟨rfl, H⟩
  refine J74 H ?_
  refine J36 H ?_
  replace H := Js [1,1,0] 0 H
  refine C_ret (Jy (hclose _ _ ts x rfl rfl hok H) rfl fun w' H' => ⟨?_, H'⟩)
  show Value.int .i64 (IntKind.i64.wrap ((ts.length : Int) - (cntB ts.length x : Int))) = _
  rw [wrap64 (by omega) (by omega), ← hcnt]
  congr 1
  omega
end Go.Proofs.YtipelpbkeiphmaaGreatDoor
namespace Go.Proofs.YtipelpbkeiphmaaGreatDoor
open Go.SL

@[reducible] def tkI2 (i g : Int) : Value := .agg #[.int .i64 i, .int .i64 g]

theorem lookT_none {ts : List Slt} {i g : Int} (h : lookT ts i g = none) : i < 0 ∨ (ts.length : Int) ≤ i ∨ ∃ (k : Nat) (t : Slt), i = k ∧ ts[k]? = some t ∧ (t.ent = none ∨ (t.ent.isSome = true ∧ (t.gen : Int) ≠ g)) := by
  by_cases h0 : i < 0
  · exact .inl h0
  by_cases h1 : (ts.length : Int) ≤ i
  · exact .inr (.inl h1)
  refine .inr (.inr ?_)
  obtain ⟨k, rfl⟩ : ∃ k : Nat, i = k := ⟨i.toNat, by omega⟩
  have hk := List.getElem?_eq_getElem (l := ts) (i := k) (by omega)
  generalize ts[k]'(by omega) = t at hk
  refine ⟨k, t, rfl, hk, ?_⟩
  obtain ⟨n, e⟩ := t
  cases e with
  | none => exact .inl rfl
  | some e =>
    refine .inr ⟨rfl, fun hg => ?_⟩
    rw [(lookT_some (k := k) (e := e)).2 ⟨n, rfl, hg.symm, hk⟩] at h
    cases h

theorem find_open [Extra] (p b c u : Nat) (go : Value) (hgo : go.oneCell' = true) (ts : List Slt) (s : List Value) (hlen : ts.length ≤ 63) (i g : Int) {w : World} {fr : List HProp} (H : Holds w (pts p (row 216 [.slice (some ⟨b, 0, none⟩) ts.length c, pp u, go]) :: pts b (row 223 (ts.flatMap tval ++ s)) :: fr)) :
    Calls Tryz.prog 126 #[pp p, tkI2 i g] w (ret fun v w' => v = (match lookT ts i g with | some (k, _) => .tuple #[.pointer (some ⟨b, k * 6, none⟩), .int .i64 0] | none => .tuple #[.pointer none, .int .i64 8]) ∧
      Holds w' (pts p (row 216 [.slice (some ⟨b, 0, none⟩) ts.length c, pp u, go]) :: pts b (row 223 (ts.flatMap tval ++ s)) :: fr)) := by
  refine calls_of Tryz.func126 rfl (by kernel_rfl) ?_
  refine J8 H ?_
  clear H; intro b3 w H
  refine J3 H ?_
  refine J175 H ?_
  cases hL : lookT ts i g with
  | some q =>
    obtain ⟨k, e⟩ := q
    obtain ⟨n, rfl, rfl, hk⟩ := lookT_some.1 hL
    have hkl : k < ts.length := (List.getElem?_eq_some_iff.1 hk).1
    have c1 : (ts.flatMap tval ++ s)[k * 6 + 1]? = some (.bool true) := flat_get tval_len hk rfl
    have c0 : (ts.flatMap tval ++ s)[k * 6 + 0]? = some (.int .i64 n) := flat_get tval_len hk rfl
    have ei : 0 + ((k : Nat) : Int).toNat * 6 = k * 6 := by simp
    refine J1 H ?_
    clear H; intro w H
    refine J60 H ?_
    rw [show decide ((k : Int) < 0) = false from decide_eq_false (by omega)]
    refine J46 H ?_
    refine A_fieldAddr 4 rfl (Wants.of rfl rfl rfl) rfl (by kernel_rfl) ?_
    refine J177 H ?_
    refine A_pv 6 rfl (Wants.of rfl rfl rfl) rfl (by kernel_rfl) ?_
    refine A_pv 7 rfl (Wants.of rfl rfl rfl) rfl (by kernel_rfl) ?_
    refine A_fieldAddr 8 rfl (Wants.of rfl rfl rfl) rfl (by kernel_rfl) ?_
    refine J178 H ?_
    refine A_lenSlice 10 rfl (Wants.of rfl rfl rfl) rfl (by kernel_rfl) ?_
    refine J160 H ?_
    rw [show decide ((k : Int) ≥ (ts.length : Int)) = false from decide_eq_false (by omega)]
    refine J85 H ?_
    refine A_pv 14 rfl (Wants.of rfl rfl rfl) rfl (by kernel_rfl) ?_
    refine A_pv 15 rfl (Wants.of rfl rfl rfl) rfl (by kernel_rfl) ?_
    refine A_fieldAddr 16 rfl (Wants.of rfl rfl rfl) rfl (by kernel_rfl) ?_
    refine A_load1 17 [] H rfl (Wants.of rfl rfl rfl) rfl rfl (by kernel_rfl) ?_
    refine A_fieldAddr 18 rfl (Wants.of rfl rfl rfl) rfl (by kernel_rfl) ?_
    refine A_load1 19 [] H rfl (Wants.of rfl rfl rfl) rfl rfl (by kernel_rfl) ?_
    refine A_indexAddr 20 rfl (Wants.of rfl rfl rfl) rfl rfl (by omega) (by omega) (by kernel_rfl) ?_
    rw [ei]
    refine A_fieldAddr 21 rfl (Wants.of rfl rfl rfl) rfl (by kernel_rfl) ?_
    refine A_load1 22 [] H rfl (Wants.of rfl rfl rfl) rfl c1 (by kernel_rfl) ?_
    refine A_pv 23 rfl (Wants.of rfl rfl rfl) rfl (by kernel_rfl) ?_
    refine J102 H ?_
    refine A_pv 26 rfl (Wants.of rfl rfl rfl) rfl (by kernel_rfl) ?_
    refine A_pv 27 rfl (Wants.of rfl rfl rfl) rfl (by kernel_rfl) ?_
    refine A_fieldAddr 28 rfl (Wants.of rfl rfl rfl) rfl (by kernel_rfl) ?_
    refine A_load1 29 [] H rfl (Wants.of rfl rfl rfl) rfl rfl (by kernel_rfl) ?_
    refine A_fieldAddr 30 rfl (Wants.of rfl rfl rfl) rfl (by kernel_rfl) ?_
    refine A_load1 31 [] H rfl (Wants.of rfl rfl rfl) rfl rfl (by kernel_rfl) ?_
    refine A_indexAddr 32 rfl (Wants.of rfl rfl rfl) rfl rfl (by omega) (by omega) (by kernel_rfl) ?_
    rw [ei]
    refine A_fieldAddr 33 rfl (Wants.of rfl rfl rfl) rfl (by kernel_rfl) ?_
    refine A_load1 34 [] H rfl (Wants.of rfl rfl rfl) rfl c0 (by kernel_rfl) ?_
    refine A_fieldAddr 35 rfl (Wants.of rfl rfl rfl) rfl (by kernel_rfl) ?_
    refine A_load1 36 [] H rfl (Wants.of rfl rfl rfl) rfl rfl (by kernel_rfl) ?_
    refine A_pv 37 rfl (Wants.of rfl rfl rfl) rfl (by kernel_rfl) ?_
    rw [show (((n : Nat) : Int) != (n : Int)) = false by simp]
    refine A_pv 38 rfl (Wants.none rfl) rfl (by kernel_rfl) ?_
    refine A_end (by kernel_rfl) (by repeat first | exact .nil | refine .cons (.inr H.at) ?_ | refine .cons (.inr H.mp) ?_ | refine .cons (.inl (by kernel_rfl)) ?_) ?_
    refine J9 H ?_
    refine J1 H ?_
    clear H; intro w H
    refine J100 H ?_
    refine J131 H ?_
    refine A_indexAddr 6 rfl (Wants.none rfl) rfl rfl (by omega) (by omega) (by kernel_rfl) ?_
    rw [ei]
    refine A_pv 7 rfl (Wants.none rfl) rfl (by kernel_rfl) ?_
    refine A_pv 8 rfl (Wants.none rfl) rfl (by kernel_rfl) ?_
    refine J4 H ?_
    exact C_ret (Jy H.drop rfl fun w' H' => ⟨rfl, H'⟩)
  | none =>
    rcases lookT_none hL with h0 | h1 | ⟨k, t, rfl, hk, ht⟩
    · refine J1 H ?_
      clear H; intro w H
      refine J60 H ?_
      rw [show decide (i < 0) = true from decide_eq_true (by omega)]
      refine J46 H ?_
      refine A_no 4 rfl (Wants.of rfl rfl rfl) (fun c e => by cases e) (by kernel_rfl) ?_
      refine A_no 5 rfl (Wants.of rfl rfl rfl) (fun c e => by cases e) (by kernel_rfl) ?_
      refine A_no 6 rfl (Wants.of rfl rfl rfl) (fun c e => by cases e) (by kernel_rfl) ?_
      refine A_no 7 rfl (Wants.of rfl rfl rfl) (fun c e => by cases e) (by kernel_rfl) ?_
      refine A_no 8 rfl (Wants.of rfl rfl rfl) (fun c e => by cases e) (by kernel_rfl) ?_
      refine A_no 9 rfl (Wants.of rfl rfl rfl) (fun c e => by cases e) (by kernel_rfl) ?_
      refine A_no 10 rfl (Wants.of rfl rfl rfl) (fun c e => by cases e) (by kernel_rfl) ?_
      refine A_no 11 rfl (Wants.of rfl rfl rfl) (fun c e => by cases e) (by kernel_rfl) ?_
      refine J85 H ?_
      refine A_no 14 rfl (Wants.of rfl rfl rfl) (fun c e => by cases e) (by kernel_rfl) ?_
      refine A_no 15 rfl (Wants.of rfl rfl rfl) (fun c e => by cases e) (by kernel_rfl) ?_
      refine A_no 16 rfl (Wants.of rfl rfl rfl) (fun c e => by cases e) (by kernel_rfl) ?_
      refine A_no 17 rfl (Wants.of rfl rfl rfl) (fun c e => by cases e) (by kernel_rfl) ?_
      refine A_no 18 rfl (Wants.of rfl rfl rfl) (fun c e => by cases e) (by kernel_rfl) ?_
      refine A_no 19 rfl (Wants.of rfl rfl rfl) (fun c e => by cases e) (by kernel_rfl) ?_
      refine A_no 20 rfl (Wants.of rfl rfl rfl) (fun c e => by cases e) (by kernel_rfl) ?_
      refine A_no 21 rfl (Wants.of rfl rfl rfl) (fun c e => by cases e) (by kernel_rfl) ?_
      refine A_no 22 rfl (Wants.of rfl rfl rfl) (fun c e => by cases e) (by kernel_rfl) ?_
      refine A_no 23 rfl (Wants.of rfl rfl rfl) (fun c e => by cases e) (by kernel_rfl) ?_
      refine J102 H ?_
      refine A_no 26 rfl (Wants.of rfl rfl rfl) (fun c e => by cases e) (by kernel_rfl) ?_
      refine A_no 27 rfl (Wants.of rfl rfl rfl) (fun c e => by cases e) (by kernel_rfl) ?_
      refine A_no 28 rfl (Wants.of rfl rfl rfl) (fun c e => by cases e) (by kernel_rfl) ?_
      refine A_no 29 rfl (Wants.of rfl rfl rfl) (fun c e => by cases e) (by kernel_rfl) ?_
      refine A_no 30 rfl (Wants.of rfl rfl rfl) (fun c e => by cases e) (by kernel_rfl) ?_
      refine A_no 31 rfl (Wants.of rfl rfl rfl) (fun c e => by cases e) (by kernel_rfl) ?_
      refine A_no 32 rfl (Wants.of rfl rfl rfl) (fun c e => by cases e) (by kernel_rfl) ?_
      refine A_no 33 rfl (Wants.of rfl rfl rfl) (fun c e => by cases e) (by kernel_rfl) ?_
      refine A_no 34 rfl (Wants.of rfl rfl rfl) (fun c e => by cases e) (by kernel_rfl) ?_
      refine A_no 35 rfl (Wants.of rfl rfl rfl) (fun c e => by cases e) (by kernel_rfl) ?_
      refine A_no 36 rfl (Wants.of rfl rfl rfl) (fun c e => by cases e) (by kernel_rfl) ?_
      refine A_no 37 rfl (Wants.of rfl rfl rfl) (fun c e => by cases e) (by kernel_rfl) ?_
      refine J128 H ?_
      exact C_ret (Jy H.drop rfl fun w' H' => ⟨rfl, H'⟩)
    · by_cases h0 : i < 0
      · refine J1 H ?_
        clear H; intro w H
        refine J60 H ?_
        rw [show decide (i < 0) = true from decide_eq_true (by omega)]
        refine J46 H ?_
        refine A_no 4 rfl (Wants.of rfl rfl rfl) (fun c e => by cases e) (by kernel_rfl) ?_
        refine A_no 5 rfl (Wants.of rfl rfl rfl) (fun c e => by cases e) (by kernel_rfl) ?_
        refine A_no 6 rfl (Wants.of rfl rfl rfl) (fun c e => by cases e) (by kernel_rfl) ?_
        refine A_no 7 rfl (Wants.of rfl rfl rfl) (fun c e => by cases e) (by kernel_rfl) ?_
        refine A_no 8 rfl (Wants.of rfl rfl rfl) (fun c e => by cases e) (by kernel_rfl) ?_
        refine A_no 9 rfl (Wants.of rfl rfl rfl) (fun c e => by cases e) (by kernel_rfl) ?_
        refine A_no 10 rfl (Wants.of rfl rfl rfl) (fun c e => by cases e) (by kernel_rfl) ?_
        refine A_no 11 rfl (Wants.of rfl rfl rfl) (fun c e => by cases e) (by kernel_rfl) ?_
        refine J85 H ?_
        refine A_no 14 rfl (Wants.of rfl rfl rfl) (fun c e => by cases e) (by kernel_rfl) ?_
        refine A_no 15 rfl (Wants.of rfl rfl rfl) (fun c e => by cases e) (by kernel_rfl) ?_
        refine A_no 16 rfl (Wants.of rfl rfl rfl) (fun c e => by cases e) (by kernel_rfl) ?_
        refine A_no 17 rfl (Wants.of rfl rfl rfl) (fun c e => by cases e) (by kernel_rfl) ?_
        refine A_no 18 rfl (Wants.of rfl rfl rfl) (fun c e => by cases e) (by kernel_rfl) ?_
        refine A_no 19 rfl (Wants.of rfl rfl rfl) (fun c e => by cases e) (by kernel_rfl) ?_
        refine A_no 20 rfl (Wants.of rfl rfl rfl) (fun c e => by cases e) (by kernel_rfl) ?_
        refine A_no 21 rfl (Wants.of rfl rfl rfl) (fun c e => by cases e) (by kernel_rfl) ?_
        refine A_no 22 rfl (Wants.of rfl rfl rfl) (fun c e => by cases e) (by kernel_rfl) ?_
        refine A_no 23 rfl (Wants.of rfl rfl rfl) (fun c e => by cases e) (by kernel_rfl) ?_
        refine J102 H ?_
        refine A_no 26 rfl (Wants.of rfl rfl rfl) (fun c e => by cases e) (by kernel_rfl) ?_
        refine A_no 27 rfl (Wants.of rfl rfl rfl) (fun c e => by cases e) (by kernel_rfl) ?_
        refine A_no 28 rfl (Wants.of rfl rfl rfl) (fun c e => by cases e) (by kernel_rfl) ?_
        refine A_no 29 rfl (Wants.of rfl rfl rfl) (fun c e => by cases e) (by kernel_rfl) ?_
        refine A_no 30 rfl (Wants.of rfl rfl rfl) (fun c e => by cases e) (by kernel_rfl) ?_
        refine A_no 31 rfl (Wants.of rfl rfl rfl) (fun c e => by cases e) (by kernel_rfl) ?_
        refine A_no 32 rfl (Wants.of rfl rfl rfl) (fun c e => by cases e) (by kernel_rfl) ?_
        refine A_no 33 rfl (Wants.of rfl rfl rfl) (fun c e => by cases e) (by kernel_rfl) ?_
        refine A_no 34 rfl (Wants.of rfl rfl rfl) (fun c e => by cases e) (by kernel_rfl) ?_
        refine A_no 35 rfl (Wants.of rfl rfl rfl) (fun c e => by cases e) (by kernel_rfl) ?_
        refine A_no 36 rfl (Wants.of rfl rfl rfl) (fun c e => by cases e) (by kernel_rfl) ?_
        refine A_no 37 rfl (Wants.of rfl rfl rfl) (fun c e => by cases e) (by kernel_rfl) ?_
        refine J128 H ?_
        exact C_ret (Jy H.drop rfl fun w' H' => ⟨rfl, H'⟩)
      · refine J1 H ?_
        clear H; intro w H
        refine J60 H ?_
        rw [show decide (i < 0) = false from decide_eq_false (by omega)]
        refine J46 H ?_
        refine A_fieldAddr 4 rfl (Wants.of rfl rfl rfl) rfl (by kernel_rfl) ?_
        refine J177 H ?_
        refine A_pv 6 rfl (Wants.of rfl rfl rfl) rfl (by kernel_rfl) ?_
        refine A_pv 7 rfl (Wants.of rfl rfl rfl) rfl (by kernel_rfl) ?_
        refine A_fieldAddr 8 rfl (Wants.of rfl rfl rfl) rfl (by kernel_rfl) ?_
        refine J178 H ?_
        refine A_lenSlice 10 rfl (Wants.of rfl rfl rfl) rfl (by kernel_rfl) ?_
        refine J160 H ?_
        rw [show decide (i ≥ (ts.length : Int)) = true from decide_eq_true (by omega)]
        refine J85 H ?_
        refine A_no 14 rfl (Wants.of rfl rfl rfl) (fun c e => by cases e) (by kernel_rfl) ?_
        refine A_no 15 rfl (Wants.of rfl rfl rfl) (fun c e => by cases e) (by kernel_rfl) ?_
        refine A_no 16 rfl (Wants.of rfl rfl rfl) (fun c e => by cases e) (by kernel_rfl) ?_
        refine A_no 17 rfl (Wants.of rfl rfl rfl) (fun c e => by cases e) (by kernel_rfl) ?_
        refine A_no 18 rfl (Wants.of rfl rfl rfl) (fun c e => by cases e) (by kernel_rfl) ?_
        refine A_no 19 rfl (Wants.of rfl rfl rfl) (fun c e => by cases e) (by kernel_rfl) ?_
        refine A_no 20 rfl (Wants.of rfl rfl rfl) (fun c e => by cases e) (by kernel_rfl) ?_
        refine A_no 21 rfl (Wants.of rfl rfl rfl) (fun c e => by cases e) (by kernel_rfl) ?_
        refine A_no 22 rfl (Wants.of rfl rfl rfl) (fun c e => by cases e) (by kernel_rfl) ?_
        refine A_no 23 rfl (Wants.of rfl rfl rfl) (fun c e => by cases e) (by kernel_rfl) ?_
        refine J102 H ?_
        refine A_no 26 rfl (Wants.of rfl rfl rfl) (fun c e => by cases e) (by kernel_rfl) ?_
        refine A_no 27 rfl (Wants.of rfl rfl rfl) (fun c e => by cases e) (by kernel_rfl) ?_
        refine A_no 28 rfl (Wants.of rfl rfl rfl) (fun c e => by cases e) (by kernel_rfl) ?_
        refine A_no 29 rfl (Wants.of rfl rfl rfl) (fun c e => by cases e) (by kernel_rfl) ?_
        refine A_no 30 rfl (Wants.of rfl rfl rfl) (fun c e => by cases e) (by kernel_rfl) ?_
        refine A_no 31 rfl (Wants.of rfl rfl rfl) (fun c e => by cases e) (by kernel_rfl) ?_
        refine A_no 32 rfl (Wants.of rfl rfl rfl) (fun c e => by cases e) (by kernel_rfl) ?_
        refine A_no 33 rfl (Wants.of rfl rfl rfl) (fun c e => by cases e) (by kernel_rfl) ?_
        refine A_no 34 rfl (Wants.of rfl rfl rfl) (fun c e => by cases e) (by kernel_rfl) ?_
        refine A_no 35 rfl (Wants.of rfl rfl rfl) (fun c e => by cases e) (by kernel_rfl) ?_
        refine A_no 36 rfl (Wants.of rfl rfl rfl) (fun c e => by cases e) (by kernel_rfl) ?_
        refine A_no 37 rfl (Wants.of rfl rfl rfl) (fun c e => by cases e) (by kernel_rfl) ?_
        refine J128 H ?_
        exact C_ret (Jy H.drop rfl fun w' H' => ⟨rfl, H'⟩)
    · have hkl : k < ts.length := (List.getElem?_eq_some_iff.1 hk).1
      have c1 : (ts.flatMap tval ++ s)[k * 6 + 1]? = some (.bool t.ent.isSome) := flat_get tval_len hk (tval_used t)
      have c0 : (ts.flatMap tval ++ s)[k * 6 + 0]? = some (.int .i64 t.gen) := flat_get tval_len hk (tval_gen t)
      have ei : 0 + ((k : Nat) : Int).toNat * 6 = k * 6 := by simp
      refine J1 H ?_
      clear H; intro w H
      refine J60 H ?_
      rw [show decide ((k : Int) < 0) = false from decide_eq_false (by omega)]
      refine J46 H ?_
      refine A_fieldAddr 4 rfl (Wants.of rfl rfl rfl) rfl (by kernel_rfl) ?_
      refine J177 H ?_
      refine A_pv 6 rfl (Wants.of rfl rfl rfl) rfl (by kernel_rfl) ?_
      refine A_pv 7 rfl (Wants.of rfl rfl rfl) rfl (by kernel_rfl) ?_
      refine A_fieldAddr 8 rfl (Wants.of rfl rfl rfl) rfl (by kernel_rfl) ?_
      refine J178 H ?_
      refine A_lenSlice 10 rfl (Wants.of rfl rfl rfl) rfl (by kernel_rfl) ?_
      refine J160 H ?_
      rw [show decide ((k : Int) ≥ (ts.length : Int)) = false from decide_eq_false (by omega)]
      refine J85 H ?_
      refine A_pv 14 rfl (Wants.of rfl rfl rfl) rfl (by kernel_rfl) ?_
      refine A_pv 15 rfl (Wants.of rfl rfl rfl) rfl (by kernel_rfl) ?_
      refine A_fieldAddr 16 rfl (Wants.of rfl rfl rfl) rfl (by kernel_rfl) ?_
      refine A_load1 17 [] H rfl (Wants.of rfl rfl rfl) rfl rfl (by kernel_rfl) ?_
      refine A_fieldAddr 18 rfl (Wants.of rfl rfl rfl) rfl (by kernel_rfl) ?_
      refine A_load1 19 [] H rfl (Wants.of rfl rfl rfl) rfl rfl (by kernel_rfl) ?_
      refine A_indexAddr 20 rfl (Wants.of rfl rfl rfl) rfl rfl (by omega) (by omega) (by kernel_rfl) ?_
      rw [ei]
      refine A_fieldAddr 21 rfl (Wants.of rfl rfl rfl) rfl (by kernel_rfl) ?_
      refine A_load1 22 [] H rfl (Wants.of rfl rfl rfl) rfl c1 (by kernel_rfl) ?_
      rcases ht with ht | ⟨ht, hne⟩
      · rw [ht]
        refine A_pv 23 rfl (Wants.of rfl rfl rfl) rfl (by kernel_rfl) ?_
        refine J102 H ?_
        refine A_no 26 rfl (Wants.of rfl rfl rfl) (fun c e => by cases e) (by kernel_rfl) ?_
        refine A_no 27 rfl (Wants.of rfl rfl rfl) (fun c e => by cases e) (by kernel_rfl) ?_
        refine A_no 28 rfl (Wants.of rfl rfl rfl) (fun c e => by cases e) (by kernel_rfl) ?_
        refine A_no 29 rfl (Wants.of rfl rfl rfl) (fun c e => by cases e) (by kernel_rfl) ?_
        refine A_no 30 rfl (Wants.of rfl rfl rfl) (fun c e => by cases e) (by kernel_rfl) ?_
        refine A_no 31 rfl (Wants.of rfl rfl rfl) (fun c e => by cases e) (by kernel_rfl) ?_
        refine A_no 32 rfl (Wants.of rfl rfl rfl) (fun c e => by cases e) (by kernel_rfl) ?_
        refine A_no 33 rfl (Wants.of rfl rfl rfl) (fun c e => by cases e) (by kernel_rfl) ?_
        refine A_no 34 rfl (Wants.of rfl rfl rfl) (fun c e => by cases e) (by kernel_rfl) ?_
        refine A_no 35 rfl (Wants.of rfl rfl rfl) (fun c e => by cases e) (by kernel_rfl) ?_
        refine A_no 36 rfl (Wants.of rfl rfl rfl) (fun c e => by cases e) (by kernel_rfl) ?_
        refine A_no 37 rfl (Wants.of rfl rfl rfl) (fun c e => by cases e) (by kernel_rfl) ?_
        refine J128 H ?_
        exact C_ret (Jy H.drop rfl fun w' H' => ⟨rfl, H'⟩)
      · rw [ht]
        refine A_pv 23 rfl (Wants.of rfl rfl rfl) rfl (by kernel_rfl) ?_
        refine J102 H ?_
        refine A_pv 26 rfl (Wants.of rfl rfl rfl) rfl (by kernel_rfl) ?_
        refine A_pv 27 rfl (Wants.of rfl rfl rfl) rfl (by kernel_rfl) ?_
        refine A_fieldAddr 28 rfl (Wants.of rfl rfl rfl) rfl (by kernel_rfl) ?_
        refine A_load1 29 [] H rfl (Wants.of rfl rfl rfl) rfl rfl (by kernel_rfl) ?_
        refine A_fieldAddr 30 rfl (Wants.of rfl rfl rfl) rfl (by kernel_rfl) ?_
        refine A_load1 31 [] H rfl (Wants.of rfl rfl rfl) rfl rfl (by kernel_rfl) ?_
        refine A_indexAddr 32 rfl (Wants.of rfl rfl rfl) rfl rfl (by omega) (by omega) (by kernel_rfl) ?_
        rw [ei]
        refine A_fieldAddr 33 rfl (Wants.of rfl rfl rfl) rfl (by kernel_rfl) ?_
        refine A_load1 34 [] H rfl (Wants.of rfl rfl rfl) rfl c0 (by kernel_rfl) ?_
        refine A_fieldAddr 35 rfl (Wants.of rfl rfl rfl) rfl (by kernel_rfl) ?_
        refine A_load1 36 [] H rfl (Wants.of rfl rfl rfl) rfl rfl (by kernel_rfl) ?_
        refine A_pv 37 rfl (Wants.of rfl rfl rfl) rfl (by kernel_rfl) ?_
        rw [show (((t.gen : Nat) : Int) != g) = true by simpa using hne]
        refine J128 H ?_
        exact C_ret (Jy H.drop rfl fun w' H' => ⟨rfl, H'⟩)
end Go.Proofs.YtipelpbkeiphmaaGreatDoor
namespace Go.Proofs.YtipelpbkeiphmaaGreatDoor
open Go.SL

theorem goneT_set {ts : List Slt} {k : Nat} {t t' : Slt} (hk : ts[k]? = some t) (hb : (t'.ent.isNone && t'.gen == 255) = (t.ent.isNone && t.gen == 255)) : goneT (ts.set k t') = goneT ts := by
  unfold goneT
  rw [set_split hk]
  conv => rhs; rw [split_at hk]
  rw [List.filter_append, List.filter_append, List.filter_cons, List.filter_cons, hb]
  split <;> simp
theorem TabOk.set {ts : List Slt} {x k : Nat} {t t' : Slt} (h : TabOk ts x) (hk : ts[k]? = some t) (hb : busy t' = busy t) (hg : t'.gen ≤ 255) : TabOk (ts.set k t') x := by
  refine ⟨by rw [List.length_set]; exact h.bits, fun i u hu => ?_, fun i u hu => ?_⟩
  · rcases tab_set hu with ⟨rfl, rfl, _⟩ | ⟨_, hu⟩
    · rw [hb]; exact h.bit _ _ hk
    · exact h.bit _ _ hu
  · rcases tab_set hu with ⟨rfl, rfl, _⟩ | ⟨_, hu⟩
    · exact hg
    · exact h.gen _ _ hu

theorem tGet_spec [Extra] (p : Nat) (ts : List Slt) (i g : Int) {w : World} {fr : List HProp} (H : Holds w (TAB p ts :: fr)) :
    Calls Tryz.prog 39 #[pp p, tkI2 i g] w (ret fun v w' => v = (match lookT ts i g with | some (_, e) => .tuple #[.agg (evl e).toArray, .int .i64 0] | none => .tuple #[.agg #[.int .i64 0, .int .i64 0, .bool false, .bool false], .int .i64 8]) ∧ Holds w' (TAB p ts :: fr)) := by
  obtain ⟨b, c, s, u, x, hok, hc, H, hclose⟩ := TAB_out H
  refine calls_of Tryz.func39 rfl (by kernel_rfl) ?_
  refine J8 H ?_
  clear H; intro b3 w H
  refine J17 H ?_
  clear H; intro b4 w H
  refine J123 H ?_
  replace H := Js [2,2,0,0,0] 0 H
  refine Jc rfl rfl (find_open p b c u _ rfl ts s hok.bits.le i g H) ?_
  clear H; rintro v w ⟨rfl, H⟩
  cases hL : lookT ts i g with
  | some q =>
    obtain ⟨k, e⟩ := q
    obtain ⟨n, rfl, rfl, hk⟩ := lookT_some.1 hL
    have hrd : Reads (ts.flatMap tval ++ s) (k * 6 + 2) 4 (evl e) := flat_reads (vs := evl e) tval_len hk (by repeat (first | exact Reads.nil _ | apply Reads.cons rfl))
    refine J39 H ?_
    refine J2 H ?_
    refine J69 H ?_
    refine Lp_s rfl (St_loadN H rfl hrd rfl ?_)
    refine J6 H ?_
    clear H; intro w H
    refine J0 H ?_
    replace H := Js [2,0,0,1] 1 H
    exact C_ret (Jz H (fun w' H' => .cellN H' rfl (by repeat (first | exact Reads.nil _ | apply Reads.cons rfl)) (.tmp .nil)) fun w' H' => ⟨rfl, hclose _ _ ts x rfl rfl hok H'.drop⟩)
  | none =>
    refine J68 H ?_
    refine J161 H ?_
    clear H; intro w H
    refine J0 H ?_
    replace H := Js [2,0,0,1] 1 H
    exact C_ret (Jz H (fun w' H' => .cellN H' rfl (by repeat (first | exact Reads.nil _ | apply Reads.cons rfl)) (.tmp .nil)) fun w' H' => ⟨rfl, hclose _ _ ts x rfl rfl hok H'.drop⟩)

end Go.Proofs.YtipelpbkeiphmaaGreatDoor
namespace Go.Proofs.YtipelpbkeiphmaaGreatDoor
open Go.SL

theorem tAt_spec [Extra] (p : Nat) (ts : List Slt) (k n : Nat) (e : Ent) (hk : ts[k]? = some ⟨n, some e⟩) {w : World} {fr : List HProp} (H : Holds w (TAB p ts :: fr)) :
    Calls Tryz.prog 73 #[pp p, .int .i64 k] w (ret fun v w' => v = .tuple #[tkn k n, .bool true] ∧ Holds w' (TAB p ts :: fr)) := by
  obtain ⟨b, c, s, u, x, hok, hc, H, hclose⟩ := TAB_out H
  have hb := hok.bits.le
  have hkl : k < ts.length := (List.getElem?_eq_some_iff.1 hk).1
  have c1 : (ts.flatMap tval ++ s)[k * 6 + 1]? = some (.bool true) := flat_get tval_len hk rfl
  have c0 : (ts.flatMap tval ++ s)[k * 6 + 0]? = some (.int .i64 n) := flat_get tval_len hk rfl
  have ei : 0 + ((k : Nat) : Int).toNat * 6 = k * 6 := by simp
  refine calls_of Tryz.func73 rfl (by kernel_rfl) ?_
  refine J23 H ?_
  clear H; intro b4 w H
  refine J0 H ?_
  refine J152 H ?_
  refine J111 H ?_
  rw [show decide ((k : Int) < 0) = false from decide_eq_false (by omega)]
  refine J11 H ?_
  refine J180 H ?_
  rw [show decide ((k : Int) ≥ (ts.length : Int)) = false from decide_eq_false (by omega)]
  refine J11 H ?_
  refine J24 H ?_
  refine J45 H ?_
  refine Lp_g rfl rfl rfl (St_indexAddr rfl rfl (by omega) (by omega) rfl ?_)
  rw [ei]
  refine Lp_g rfl rfl rfl (St_fieldAddr rfl rfl ?_)
  refine Lp_g rfl rfl rfl (St_load1 H rfl c1 rfl ?_)
  refine J71 H ?_
  refine J66 H ?_
  refine J7 H ?_
  refine Lp_s rfl (St_indexAddr rfl rfl (by omega) (by omega) rfl ?_)
  rw [ei]
  refine J69 H ?_
  refine Lp_s rfl (St_load1 H rfl c0 rfl ?_)
  refine J63 H ?_
  refine J6 H ?_
  clear H; intro w H
  refine J0 H ?_
  exact C_ret (Jz H (fun w' H' => .cellN H' rfl (by repeat (first | exact Reads.nil _ | apply Reads.cons rfl)) (.tmp .nil)) fun w' H' => ⟨rfl, hclose _ _ ts x rfl rfl hok H'.drop⟩)

theorem tAdd_spec [Extra] (p : Nat) (ts : List Slt) (e : Ent) {w : World} {fr : List HProp} [hT : HasTab 0 Lib.deBruijn64tab fr] (H : Holds w (TAB p ts :: fr)) :
    Calls Tryz.prog 196 #[pp p, .agg (evl e).toArray] w (ret fun v w' => (∃ k n, ts[k]? = some ⟨n, none⟩ ∧ n ≤ 254 ∧ (∀ j t, j < k → ts[j]? = some t → busy t = true) ∧ v = .tuple #[tkn k (n + 1), .int .i64 0] ∧ Holds w' (TAB p (ts.set k ⟨n + 1, some e⟩) :: fr)) ∨
      ((∀ t ∈ ts, busy t = true) ∧ v = .tuple #[tkn 0 0, .int .i64 12] ∧ Holds w' (TAB p ts :: fr))) := by
  obtain ⟨b, c, s, u, x, hok, hc, H, hclose⟩ := TAB_out H
  have hb := hok.bits.le
  refine calls_of Tryz.func196 rfl (by kernel_rfl) ?_
  refine J8 H ?_
  clear H; intro b3 w H
  refine J17 H ?_
  clear H; intro b4 w H
  refine J125 H ?_
  refine J48 H ?_
  replace H := Js [4,0,0,0,0] 0 H
  refine Jc rfl rfl (First_spec u ts.length x 0 _ hok.bits (by omega) H) ?_
  clear H; rintro v w ⟨hF, H⟩
  rcases hF with ⟨k, rfl, _, hk, hoff, hall⟩ | ⟨rfl, hall⟩
  · have ht := List.getElem?_eq_getElem hk
    have hbz : ∀ j t, j < k → ts[j]? = some t → busy t = true := fun j t hj hjt => by rw [← hok.bit j t hjt]; exact hall j (Nat.zero_le _) hj
    generalize ts[k] = t at ht
    have hbk := hok.bit k t ht
    have hg := hok.gen k t ht
    rw [hoff] at hbk
    obtain ⟨n, en⟩ := t
    have hen : en = none ∧ n ≤ 254 := by
      unfold busy at hbk
      cases en with
      | none => simp at hbk hg; exact ⟨rfl, by omega⟩
      | some y => simp at hbk
    obtain ⟨rfl, hn⟩ := hen
    have ei : 0 + ((k : Nat) : Int).toNat * 6 = k * 6 := by simp
    have hlen := flat_len tval_len ts
    refine J39 H ?_
    refine J18 H ?_
    refine Jc rfl rfl (bSet_spec u _ x k true hok.bits hk H) ?_
    clear H; rintro v w ⟨rfl, H⟩
    refine Lp_nil ?_
    refine J18 H ?_
    refine Lp_s rfl (St_indexAddr rfl rfl (by omega) (by omega) rfl ?_)
    rw [ei]
    refine J0 H ?_
    have c0 : (ts.flatMap tval ++ s)[k * 6 + 0]? = some (.int .i64 n) := flat_get tval_len ht rfl
    replace H := Js [4,0,0,0,0] 0 H
    refine J2 H ?_
    refine J69 H ?_
    refine Lp_s rfl (St_load1 H rfl c0 rfl ?_)
    refine J11 H ?_
    refine J69 H ?_
    rw [wrap64 (x := ((n : Nat) : Int) + 1) (by omega) (by omega), show ((n : Nat) : Int) + 1 = ((n + 1 : Nat) : Int) by omega]
    refine Lp_s rfl (St_store1 H rfl rfl inferInstance rfl (by rw [List.length_append, hlen]; omega) rfl ?_)
    clear H; intro w H
    rw [flat_set (x' := ⟨n + 1, none⟩) tval_len ht (by omega) rfl] at H
    refine Lp_nil ?_
    have ht1 : (ts.set k ⟨n + 1, none⟩)[k]? = some (⟨n + 1, none⟩ : Slt) := List.getElem?_set_self hk
    have hlen1 := flat_len tval_len (ts.set k ⟨n + 1, none⟩)
    rw [List.length_set] at hlen1
    refine J1 H ?_
    clear H; intro w H
    refine J73 H ?_
    refine A_loadN 2 [8] H rfl (Wants.none rfl) rfl (by repeat (first | exact Reads.nil _ | apply Reads.cons rfl)) (by kernel_rfl) ?_
    refine J46 H ?_
    refine J47 H ?_
    refine Jo 5 H ?_
    refine St_store1 H rfl rfl inferInstance rfl (by rw [List.length_append, hlen1]; omega) rfl ?_
    clear H; intro w H
    rw [flat_set (x' := ⟨n + 1, some ⟨0, 0, false, false, 0, 0, []⟩⟩) tval_len ht1 (by omega) rfl, List.set_set] at H
    have ht2 : (ts.set k ⟨n + 1, some ⟨0, 0, false, false, 0, 0, []⟩⟩)[k]? = some (⟨n + 1, some ⟨0, 0, false, false, 0, 0, []⟩⟩ : Slt) := List.getElem?_set_self hk
    have hlen2 := flat_len tval_len (ts.set k ⟨n + 1, some ⟨0, 0, false, false, 0, 0, []⟩⟩)
    rw [List.length_set] at hlen2
    refine J101 H ?_
    refine J64 H ?_
    refine Jo 8 H ?_
    refine St_storeN (vs := evl e) H rfl rfl inferInstance rfl rfl (by rw [List.length_append, hlen2]; omega) rfl ?_
    clear H; intro w H
    rw [flat_wr (x' := ⟨n + 1, some e⟩) tval_len ht2 (by simp) rfl, List.set_set] at H
    refine J4 H ?_
    have ht3 : (ts.set k ⟨n + 1, some e⟩)[k]? = some (⟨n + 1, some e⟩ : Slt) := List.getElem?_set_self hk
    have c3 : ((ts.set k ⟨n + 1, some e⟩).flatMap tval ++ s)[k * 6 + 0]? = some (.int .i64 ((n + 1 : Nat) : Int)) := flat_get tval_len ht3 rfl
    refine J10 H ?_
    refine J69 H ?_
    refine Lp_s rfl (St_load1 H rfl c3 rfl ?_)
    refine J63 H ?_
    refine J6 H ?_
    clear H; intro w H
    refine J0 H ?_
    replace H := Js [2,3,0,0] 1 H
    have hn255 : (n == 255) = false := by simp; omega
    have hok' : TabOk (ts.set k ⟨n + 1, some e⟩) (setB x k true) := by
      refine ⟨by rw [List.length_set]; exact hok.bits.set hk, fun i v hv => ?_, fun i v hv => ?_⟩
      · rw [setB_bit]
        rcases tab_set hv with ⟨rfl, rfl, _⟩ | ⟨hne, hv⟩
        · rw [if_pos rfl]; rfl
        · rw [if_neg hne]; exact hok.bit _ _ hv
      · rcases tab_set hv with ⟨rfl, rfl, _⟩ | ⟨_, hv⟩
        · show n + 1 ≤ 255; omega
        · exact hok.gen _ _ hv
    exact C_ret (Jz H (fun w' H' => .cellN H' rfl (by repeat (first | exact Reads.nil _ | apply Reads.cons rfl)) (.tmp .nil)) fun w' H' => .inl ⟨k, n, ht, hn, hbz, rfl, hclose _ _ (ts.set k ⟨n + 1, some e⟩) (setB x k true) (by simp) (goneT_set ht (by simp [hn255])) hok' H'.drop⟩)
  · refine J114 H ?_
    refine J5 H ?_
    refine J137 H ?_
    clear H; intro w H
    refine J0 H ?_
    replace H := Js [1,2,2,0] 1 H
    refine C_ret (Jz H (fun w' H' => .cellN H' rfl (by repeat (first | exact Reads.nil _ | apply Reads.cons rfl)) (.tmp .nil)) fun w' H' => .inr ⟨fun t ht => ?_, rfl, hclose _ _ ts x rfl rfl hok H'.drop⟩)
    obtain ⟨j, hj⟩ := List.getElem?_of_mem ht
    rw [← hok.bit j t hj]
    exact hall j (Nat.zero_le _) (List.getElem?_eq_some_iff.1 hj).1
end Go.Proofs.YtipelpbkeiphmaaGreatDoor
namespace Go.Proofs.YtipelpbkeiphmaaGreatDoor
open Go.SL

structure Ptr where
  sp : Nat
  bp : Nat
  ip : Nat
  tp : Nat
  trp : Nat
  rp : Nat
  sm : Nat
  mm : Nat
@[reducible] def ptrv : Nat → Value := fun b => pp b
@[reducible] def spkey (x : Int × Nat × Spc) : Int × Nat := (x.1, x.2.1)
@[reducible] def mnkey (x : Int × Nat × List Nat) : Int × Nat := (x.1, x.2.1)
@[reducible] def spres (sp : Nat) (x : Int × Nat × Spc) : HProp := SPC x.2.1 sp x.1.toNat x.2.2
@[reducible] def mnres (x : Int × Nat × List Nat) : HProp := BAG x.2.1 x.2.2
@[reducible] def CROW (p : Nat) (q : Ptr) : HProp := pts p (row 76 [pp q.sp, pp q.bp, pp q.ip, pp q.tp, pp q.trp, pp q.rp, .map (some q.sm), .map (some q.mm)])
def CELL (p : Nat) (s : CS) : HProp := ex fun x : Ptr × List Nat => star [prop (WF s ∧ MemOK s x.2), CROW p x.1, IMG x.1.ip x.1.sp x.1.bp, BOOK x.1.bp s.lays, ST x.1.sp s.size x.2 s.own, TAB x.1.tp s.tab, TRE x.1.trp s.last s.par, RS x.1.rp s.rem,
  mp (ki .i64) ptrv x.1.sm (s.sps.map spkey), star (s.sps.map (spres x.1.sp)), mp (ki .i64) ptrv x.1.mm (s.mns.map mnkey), star (s.mns.map mnres)]
theorem CELL_out [Extra] {w : World} {p : Nat} {s : CS} {fr : List HProp} (H : Holds w (CELL p s :: fr)) : ∃ (q : Ptr) (mem : List Nat), WF s ∧ MemOK s mem ∧
    Holds w (CROW p q :: IMG q.ip q.sp q.bp :: BOOK q.bp s.lays :: ST q.sp s.size mem s.own :: TAB q.tp s.tab :: TRE q.trp s.last s.par :: RS q.rp s.rem :: mp (ki .i64) ptrv q.sm (s.sps.map spkey) :: star (s.sps.map (spres q.sp)) :: mp (ki .i64) ptrv q.mm (s.mns.map mnkey) :: star (s.mns.map mnres) :: fr) := by
  obtain ⟨⟨q, mem⟩, H⟩ := Holds.ex.1 H
  have H := Holds.star.1 H
  obtain ⟨h, H⟩ := Holds.prop.1 H
  exact ⟨q, mem, h.1, h.2, H⟩
theorem CELL_in [Extra] {w : World} {p : Nat} {s : CS} {fr : List HProp} {q : Ptr} {mem : List Nat} (h : WF s) (hm : MemOK s mem)
    (H : Holds w (CROW p q :: IMG q.ip q.sp q.bp :: BOOK q.bp s.lays :: ST q.sp s.size mem s.own :: TAB q.tp s.tab :: TRE q.trp s.last s.par :: RS q.rp s.rem :: mp (ki .i64) ptrv q.sm (s.sps.map spkey) :: star (s.sps.map (spres q.sp)) :: mp (ki .i64) ptrv q.mm (s.mns.map mnkey) :: star (s.mns.map mnres) :: fr)) : Holds w (CELL p s :: fr) :=
  Holds.ex.2 ⟨(q, mem), Holds.star.2 (Holds.prop.2 ⟨⟨h, hm⟩, H⟩)⟩

def layE (s : CS) (e : Ent) : Lay := (s.lays[e.lay - 1]?).getD ⟨0, [], 0, []⟩
def lnkOf (w : Nat) : Lnk := if w = 0 then .none else if w = 1 then .grave else .obj (w % 4294967296 - 2) (w / 4294967296)
theorem lnkOf_big {x : Nat} (h0 : x ≠ 0) (h1 : x ≠ 1) : lnkOf x = .obj (x % 4294967296 - 2) (x / 4294967296) := by
  unfold lnkOf
  rw [if_neg h0, if_neg h1]
theorem lnk_arith {i g : Nat} (h : i < 4096) : (i + 2 + g * 4294967296) % 4294967296 - 2 = i ∧ (i + 2 + g * 4294967296) / 4294967296 = g := by omega
theorem lnkOf_obj {i g : Nat} (h1 : i < 4096) : lnkOf (wordL (.obj i g)) = .obj i g := by
  rw [wordL_obj, lnkOf_big (by omega) (by omega), (lnk_arith h1).1, (lnk_arith h1).2]
theorem lnkOf_word {k : Lnk} (h : okL k) : lnkOf (wordL k) = k := by
  cases k with
  | none => rfl
  | grave => rfl
  | obj i g => exact lnkOf_obj h.1

theorem img_of {s : CS} (h : WF s) {mem : List Nat} (m : MemOK s mem) {k g : Nat} {e : Ent} (hk : s.tab[k]? = some ⟨g, some e⟩) : ImgAt s.lays s.size mem s.own e.addr e.lay e.count k e.ws.length (layE s e) := by
  obtain ⟨⟨hm, l, h1, h2, h3, h4⟩, hl, _⟩ := h.obj k g e hk
  have hle : layE s e = l := by unfold layE; rw [h1]; rfl
  rw [hle]
  refine ⟨hm, h1, h2, h3, ?_, ?_, ?_⟩
  · rw [List.getD_eq_getElem?_getD, m.head _ _ _ hk, Option.getD_some]
  · have := hl.1
    unfold endOf at this
    rw [m.len]
    exact this
  · intro c c1 c2
    obtain ⟨r, hr, _, hr1⟩ := hl.2 c c1 (by rw [show e.addr + (e.ws.length + 1) - 1 = e.addr + e.ws.length by omega] at c2; exact c2)
    rw [List.getD_eq_getElem?_getD, hr]
    show r ≠ 0
    omega
theorem word_of {s : CS} (h : WF s) {mem : List Nat} (m : MemOK s mem) {k g : Nat} {e : Ent} (hk : s.tab[k]? = some ⟨g, some e⟩) {p : Nat} (hp : p < e.ws.length) : mem.getD (e.addr + 1 + p) 0 = e.ws.getD p 0 := by
  have hx := List.getElem?_eq_getElem hp
  rw [List.getD_eq_getElem?_getD, List.getD_eq_getElem?_getD, m.words _ _ _ hk p _ hx, hx]
/-- What a reference's word tells. -/
theorem link_of {s : CS} (h : WF s) {k g : Nat} {e : Ent} (hk : s.tab[k]? = some ⟨g, some e⟩) {p : Nat} (hp : p < e.ws.length) (hr : isRefL (layE s e) p = true) : okL (lnkOf (e.ws.getD p 0)) ∧ e.ws.getD p 0 = wordL (lnkOf (e.ws.getD p 0)) := by
  obtain ⟨⟨hm, l, h1, h2, h3, h4⟩, hl, _⟩ := h.obj k g e hk
  have hle : layE s e = l := by unfold layE; rw [h1]; rfl
  rw [hle] at hr
  have hx := List.getElem?_eq_getElem hp
  obtain ⟨q, hq, hw⟩ := (h4 p _ hx).2 hr
  have hd : e.ws.getD p 0 = wordL q := by rw [List.getD_eq_getElem?_getD, hx, Option.getD_some]; exact hw
  rw [hd, lnkOf_word hq]
  exact ⟨hq, rfl⟩

/-- An entry, or an error, as values. -/
def getV : Option (Nat × Ent) → Value
  | some (_, e) => .tuple #[.agg (evl e).toArray, .int .i64 0]
  | none => .tuple #[.agg #[.int .i64 0, .int .i64 0, .bool false, .bool false], .int .i64 8]
theorem getV_form (o : Option (Nat × Ent)) : ∃ e1 e2 h1 h2 e4, getV o = .tuple #[.agg #[.int .i64 e1, .int .i64 e2, .bool h1, .bool h2], .int .i64 e4] := by
  cases o <;> exact ⟨_, _, _, _, _, rfl⟩
theorem tGetV_spec [Extra] (p : Nat) (ts : List Slt) (i g : Int) {w : World} {fr : List HProp} (H : Holds w (TAB p ts :: fr)) :
    Calls Tryz.prog 39 #[pp p, tkI2 i g] w (ret fun v w' => v = getV (lookT ts i g) ∧ Holds w' (TAB p ts :: fr)) :=
  call (tGet_spec p ts i g H) fun v w h => ⟨by rw [h.1]; cases lookT ts i g <;> rfl, h.2⟩

theorem valid_spec [Extra] (p : Nat) (s : CS) (i g : Int) {w : World} {fr : List HProp} (H : Holds w (CELL p s :: fr)) :
    Calls Tryz.prog 198 #[pp p, tkI2 i g] w (ret fun v w' => v = getV (validT s.tab i g) ∧ Holds w' (CELL p s :: fr)) := by
  obtain ⟨q, mem, hw, hm, H⟩ := CELL_out H
  refine calls_of Tryz.func198 rfl (by kernel_rfl) ?_
  refine J8 H ?_
  clear H; intro b3 w H
  refine J17 H ?_
  clear H; intro b4 w H
  refine J125 H ?_
  obtain ⟨e1, e2, h1, h2, e4, hsh⟩ := getV_form (lookT s.tab i g)
  refine J14 H ?_
  refine C_join (fun ms σ w => ms = [] ∧ ∃ b6, σ 4 = pp b4 ∧ σ 6 = pp b6 ∧ σ 7 = .int .i64 e4 ∧
    Holds w (pts b4 (row 102 [.int .i64 0, .int .i64 0, .bool false, .bool false]) :: pts b6 (row 102 [.int .i64 e1, .int .i64 e2, .bool h1, .bool h2]) :: CELL p s :: fr)) ?_ ?_
  · replace H := Js [6,0,0,0,0,0,0,0,0,0,0,0,0] 0 H
    refine J1 H ?_
    clear H; intro w H
    refine J162 H ?_
    refine A_two 5 9 rfl rfl (by kernel_rfl) (by repeat first | exact .nil | refine .cons (.inr H.at) ?_ | refine .cons (.inr H.mp) ?_ | refine .cons (.inl (by kernel_rfl)) ?_) (Wants.none rfl) (Wants.none rfl) (St_call (a := []) (b := []) rfl rfl (call (tGetV_spec q.tp s.tab i g H) ?_)) (St_alloc H rfl ?_)
    · clear H; rintro v w ⟨rfl, H⟩
      rw [hsh]
      refine J163 H ?_
      clear H; intro b6 w H
      refine J164 H ?_
      clear H; intro w H
      refine J36 H ?_
      replace H := Js [4,4,4,4,1,3,3,3,3,3,3,1,0] 1 H
      refine ⟨rfl, rfl, b6, rfl, rfl, rfl, ?_⟩
      replace H := CELL_in hw hm H
      replace H := Js [1,1,0] 0 H
      exact H
    · clear H; intro b6 w H
      refine Jo 5 H ?_
      refine Jk rfl rfl (tGetV_spec q.tp s.tab i g H.swap) ?_
      clear H; rintro v w ⟨rfl, H⟩
      rw [hsh]
      refine J165 H ?_
      clear H; intro w H
      refine J36 H ?_
      replace H := Js [4,4,4,4,0,3,3,3,3,3,3,1,0] 1 H
      refine ⟨rfl, rfl, b6, rfl, rfl, rfl, ?_⟩
      replace H := CELL_in hw hm H
      replace H := Js [1,1,0] 0 H
      exact H
  · clear H
    rintro ms σ w ⟨rfl, b6, g4, g6, g7, H⟩
    rw [upd_self g4, upd_self g6, upd_self g7]
    have hv : validT s.tab i g = (match lookT s.tab i g with | some (k, e) => if e.held then some (k, e) else none | none => none) := rfl
    cases hL : lookT s.tab i g with
    | none =>
      rw [hL] at hsh hv
      have hv : validT s.tab i g = none := hv
      rw [hv]
      cases hsh
      refine J10 H ?_
      refine J82 H ?_
      refine J147 H ?_
      clear H; intro w H
      refine J0 H ?_
      exact C_ret (Jz H (fun w' H' => .cellN H' rfl (by repeat (first | exact Reads.nil _ | apply Reads.cons rfl)) (.tmp .nil)) fun w' H' => ⟨rfl, H'.drop.drop⟩)
    | some x =>
      obtain ⟨k, e⟩ := x
      obtain ⟨ea, er, eh, ep, el, ec, ew⟩ := e
      rw [hL] at hsh hv
      cases hsh
      cases eh with
      | true =>
        have hv : validT s.tab i g = some (k, ⟨ea, er, true, ep, el, ec, ew⟩) := hv
        rw [hv]
        refine J10 H ?_
        refine J45 H ?_
        refine J35 H ?_
        refine J78 H ?_
        clear H; intro w H
        refine J0 H ?_
        exact C_ret (Jz H (fun w' H' => .cellN H' rfl (by repeat (first | exact Reads.nil _ | apply Reads.cons rfl)) (.tmp .nil)) fun w' H' => ⟨rfl, H'.drop.drop⟩)
      | false =>
        have hv : validT s.tab i g = none := hv
        rw [hv]
        refine J10 H ?_
        refine J45 H ?_
        refine J147 H ?_
        clear H; intro w H
        refine J0 H ?_
        exact C_ret (Jz H (fun w' H' => .cellN H' rfl (by repeat (first | exact Reads.nil _ | apply Reads.cons rfl)) (.tmp .nil)) fun w' H' => ⟨rfl, H'.drop.drop⟩)
end Go.Proofs.YtipelpbkeiphmaaGreatDoor
