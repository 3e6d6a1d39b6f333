/- Cells: what is proved on the way: every input of the statement; no condition. Texts joined: CelI LawP LawQ LawR LawA LawB. -/
import Derived.Test.YtcaaojbnjfdglaaGreatDoorChf
import Derived.Test.YtcaaojbnjfdglaaGreatDoorChm
import Derived.Test.YtcaaojbnjfdglaaGreatDoorChl
import Derived.Test.YtcaaojbnjfdglaaGreatDoorChe
set_option linter.unusedVariables false
set_option linter.unusedSimpArgs false
set_option linter.unusedSectionVars false
namespace Go.Proofs.YtcaaojbnjfdglaaGreatDoor
open Go.SL

/-- What is wrong with an object that is to be made. -/
def layI (s : CS) (id : Int) : Lay := (s.lays[id.toNat - 1]?).getD ⟨0, [], 0, []⟩
def makeE (s : CS) (region id count : Int) : Nat := if (fnd s.par region).isSome = false then 15 else if id < 1 ∨ (s.lays.length : Int) < id then 6 else (sizeL (layI s id) count).2
def makeN (s : CS) (id count : Int) : Nat := (sizeL (layI s id) count).1
/-- No used slot lies behind a free one. -/
def Seq (s : CS) : Prop := ∀ (i j : Nat) (t : Slt) (g : Nat) (e : Ent), i < j → s.tab[i]? = some t → s.tab[j]? = some ⟨g, some e⟩ → busy t = true

theorem fnd_split {α : Type} {V : Type} {l : List α} {f : α → Int} {g : α → V} {k : Int} {b : V} (h : fnd (l.map fun a => (f a, g a)) k = some b) : ∃ x g1 g2, l = g1 ++ x :: g2 ∧ f x = k ∧ g x = b := by
  obtain ⟨x, hx, h1⟩ := List.mem_map.1 (fnd_mem h)
  injection h1 with h1 h2
  obtain ⟨g1, g2, h3⟩ := List.append_of_mem hx
  exact ⟨x, g1, g2, h3, h1, h2⟩
theorem fnd_keys {α : Type} {V : Type} {l : List α} {f : α → Int} {g : α → V} {k : Int} (h : k ∈ l.map f) : ∃ b, fnd (l.map fun a => (f a, g a)) k = some b := by
  cases hf : fnd (l.map fun a => (f a, g a)) k with
  | some b => exact ⟨b, rfl⟩
  | none =>
    refine absurd ?_ (fnd_eq_none.1 hf)
    rw [List.map_map]
    exact h
theorem parts_len {size : Nat} {own : List Nat} {r : Int} {S : Spc} (h : SpcOK size own r S) : S.parts.length ≤ own.length := by
  have h1 : ∀ l : List (Nat × Nat), (∀ p ∈ l, 1 ≤ p.2) → l.length ≤ (chunksOf l).length := by
    intro l
    induction l with
    | nil => intro _; exact Nat.zero_le _
    | cons a l ih =>
      intro ha
      have h1 := ih (fun p hp => ha p (List.mem_cons_of_mem _ hp))
      have h2 := ha a (List.mem_cons_self ..)
      simp only [chunksOf, List.flatMap_cons, List.length_append, List.length_map, List.length_range, List.length_cons] at h1 ⊢
      omega
  have h2 := h1 S.parts (fun p hp => (h.parts p hp).1)
  have h3 := sub_length h.nodup (l₂ := List.range own.length) (fun c hc => by
    obtain ⟨q, hq, _, _⟩ := (h.owned c).1 hc
    exact List.mem_range.2 (List.getElem?_eq_some_iff.1 hq).1)
  rw [List.length_range] at h3
  omega
theorem fin_le {size : Nat} {own : List Nat} {r : Int} {S : Spc} (h : SpcOK size own r S) (h1 : own.length ≤ 63) (h2 : size ≤ 1024) : S.fin ≤ 1048576 := by
  by_cases h0 : S.fin = 0
  · omega
  · obtain ⟨c, e, _, hc⟩ := h.fin h0
    have := (h.parts _ hc).2
    rw [e]
    exact Nat.le_trans (Nat.mul_le_mul (show c + 1 ≤ 64 by omega) h2) (by omega)

theorem lies_owned {size : Nat} {own : List Nat} {e : Ent} (h : Lies size own e) : Owned size own e.addr (e.ws.length + 1) := by
  intro c c1 c2
  obtain ⟨r, hr, _, hr1⟩ := h.2 c c1 (by rw [show e.addr + (e.ws.length + 1) - 1 = e.addr + e.ws.length by omega] at c2; exact c2)
  rw [List.getD_eq_getElem?_getD, hr]
  show r ≠ 0
  omega
theorem alloc_own {size : Nat} {own mem own' mem' : List Nat} {r n a : Nat} {S S' : Spc} (h : Alloced size own mem r S n own' mem' S' a) : own'.length = own.length := by
  cases h with
  | room _ => rfl
  | one ha _ _ => exact setR_length ha
  | run _ ha _ _ _ => exact setR_length ha

/-- No more chunks have owners than a run of that many. -/
def Grows (own own' : List Nat) (k : Nat) : Prop := own'.length = own.length ∧ ∃ a0 k0, k0 ≤ k ∧ ∀ i, own'.getD i 0 ≠ 0 → own.getD i 0 ≠ 0 ∨ (a0 ≤ i ∧ i < a0 + k0)
theorem alloc_grows {size : Nat} (hs : 1 ≤ size) {own mem own' mem' : List Nat} {r n a : Nat} {S S' : Spc} (h : Alloced size own mem r S (n + 1) own' mem' S' a) : Grows own own' (n / size + 1) := by
  refine ⟨alloc_own h, ?_⟩
  cases h with
  | room _ => exact ⟨0, 0, Nat.zero_le _, fun i hi => .inl hi⟩
  | @one b ha _ _ =>
    refine ⟨b, 1, Nat.le_add_left 1 _, fun i hi => ?_⟩
    rw [setR_getD ha] at hi
    split at hi
    · right; assumption
    · exact .inl hi
  | @run b k hk ha _ _ hn2 =>
    refine ⟨b, k, ?_, fun i hi => ?_⟩
    · have h2 : k - 1 ≤ n / size := by
        rw [Nat.le_div_iff_mul_le (by omega)]
        omega
      omega
    · rw [setR_getD ha] at hi
      split at hi
      · right; assumption
      · exact .inl hi

theorem Make_spec [Extra] (p : Nat) (s : CS) (region id count : Int) (hseq : Seq s) {w : World} {fr : List HProp} [hT : HasTab 0 Lib.deBruijn64tab fr] (H : Holds w (CELL p s :: fr)) :
    Calls Tryz.prog 29 #[pp p, .int .i64 region, .int .i64 id, .int .i64 count] w (ret fun v w' =>
      (makeE s region id count ≠ 0 ∧ v = .tuple #[tkn 0 0, .int .i64 (makeE s region id count)] ∧ Holds w' (CELL p s :: fr)) ∨
      (makeE s region id count = 0 ∧ (∀ t ∈ s.tab, busy t = true) ∧ v = .tuple #[tkn 0 0, .int .i64 12] ∧ Holds w' (CELL p s :: fr)) ∨
      (makeE s region id count = 0 ∧ (∀ a, a + (makeN s id count / s.size + 1) ≤ s.own.length → ∃ i, a ≤ i ∧ i < a + (makeN s id count / s.size + 1) ∧ s.own.getD i 0 ≠ 0) ∧ v = .tuple #[tkn 0 0, .int .i64 11] ∧ Holds w' (CELL p s :: fr)) ∨
      (makeE s region id count = 0 ∧ ∃ k g0 addr s', s.tab[k]? = some ⟨g0, none⟩ ∧ g0 ≤ 254 ∧ (∀ j t, j < k → s.tab[j]? = some t → busy t = true) ∧ v = .tuple #[tkn k (g0 + 1), .int .i64 0] ∧
        s'.size = s.size ∧ s'.lays = s.lays ∧ s'.last = s.last ∧ s'.par = s.par ∧ s'.rem = s.rem ∧ s'.tab = s.tab.set k ⟨g0 + 1, some ⟨addr, region, true, false, id.toNat, count.toNat, List.replicate (makeN s id count) 0⟩⟩ ∧ Grows s.own s'.own (makeN s id count / s.size + 1) ∧ Holds w' (CELL p s' :: fr))) := by
  obtain ⟨q, mem, hw, hm, H⟩ := CELL_out H
  have hndp := TRE_keys (H.pull 5)
  refine calls_of Tryz.func29 rfl (by kernel_rfl) ?_
  refine J18 H ?_
  clear H; intro b8 w H
  refine J0 H ?_
  replace H := Js [6,0,0,0,0,0,0,0,0,0,0,0] 0 H
  refine J12 H ?_
  refine C_joinQ (fun ms σ w => ms = [] ∧ (fnd s.par region).isSome = true ∧ σ 0 = pp p ∧ σ 1 = .int .i64 region ∧ σ 2 = .int .i64 id ∧ σ 3 = .int .i64 count ∧ σ 8 = pp b8 ∧
    Holds w (BOOK q.bp s.lays :: pts b8 (row 32 [.int .i64 0, .int .i64 0]) :: CROW p q :: IMG q.ip q.sp q.bp :: ST q.sp s.size mem s.own :: TAB q.tp s.tab :: TRE q.trp s.last s.par :: RS q.rp s.rem :: mp (ki .i64) ptrv q.sm (s.sps.map spkey) :: star (s.sps.map (spres q.sp)) :: mp (ki .i64) ptrv q.mm (s.mns.map mnkey) :: star (s.mns.map mnres) :: fr)) ?_ ?_
  · refine J108 H ?_
    refine J13 H ?_
    refine Jc rfl rfl (Live_spec q.trp s.last s.par region H) ?_
    clear H; rintro v w ⟨rfl, H⟩
    cases hf : (fnd s.par region).isSome with
    | false =>
      have he : makeE s region id count = 15 := by unfold makeE; rw [if_pos hf]
      refine J219 H ?_
      clear H; intro w H
      refine J0 H ?_
      replace H := Js [1,1,1,1,1,1,0,0,0,0,0,0] 0 H
      refine C_ret (.inr ⟨by simp, Jz H (fun w' H' => .cellN H' rfl (by repeat (first | exact Reads.nil _ | apply Reads.cons rfl)) (.tmp .nil)) fun w' H' => .inl ⟨by omega, by rw [he]; rfl, CELL_in hw hm H'.drop⟩⟩)
    | true =>
      refine J206 H ?_
      replace H := Js [4,1,1,1,1,1,0,0,0,0,0,0] 0 H
      exact .inl ⟨rfl, rfl, rfl, rfl, rfl, rfl, rfl, rfl, H⟩
  clear H
  rintro ms σ w ⟨rfl, hlive, g0, g1, g2, g3, g8, H⟩
  rw [upd_self g0, upd_self g1, upd_self g2, upd_self g3, upd_self g8]
  clear g0 g1 g2 g3 g8
  refine J13 H ?_
  by_cases hid : id < 1 ∨ (s.lays.length : Int) < id
  · have he : makeE s region id count = 6 := by unfold makeE; rw [hlive, if_neg (by simp), if_pos hid]
    refine Jc rfl rfl (bGet_no q.bp s.lays id hid H) ?_
    clear H; rintro v w ⟨rfl, H⟩
    refine J21 H ?_
    clear H; intro b10 w H
    refine J7 H ?_
    clear H; intro w H
    refine J22 H ?_
    refine J183 H ?_
    clear H; intro w H
    refine J0 H ?_
    replace H := Js [2,2,2,1,1,1,1,1,1,1,1,1] 1 H
    exact C_ret (Jz H (fun w' H' => .cellN H' rfl (by repeat (first | exact Reads.nil _ | apply Reads.cons rfl)) (.tmp .nil)) fun w' H' => .inl ⟨by omega, by rw [he]; rfl, CELL_in hw hm H'.drop⟩)
  obtain ⟨i, rfl⟩ : ∃ i : Nat, id = i := ⟨id.toNat, by omega⟩
  have hil := List.getElem?_eq_getElem (l := s.lays) (i := i - 1) (by omega)
  have hlay : layI s (i : Int) = s.lays[i - 1]'(by omega) := by
    unfold layI
    rw [Int.toNat_natCast, hil]
    rfl
  have hR : RightL (layI s (i : Int)) := by rw [hlay]; exact hw.lays.2 _ (List.getElem_mem _)
  rw [← hlay] at hil
  have hE : makeE s region i count = (sizeL (layI s i) count).2 := by unfold makeE; rw [hlive, if_neg (by simp), if_neg hid]
  have hN : makeN s i count = (sizeL (layI s i) count).1 := rfl
  generalize layI s (i : Int) = l at hil hR hE hN
  refine Jc rfl rfl (bGetN_spec q.bp s.lays i (by omega) l hil H) ?_
  clear H; rintro v w ⟨vr, vq, rfl, H⟩
  obtain ⟨ar, cr, rfl⟩ := sls_slice H (ncells_length _) (by decide)
  obtain ⟨aq, cq, rfl⟩ := sls_slice H.drop (ncells_length _) (by decide)
  refine J21 H ?_
  clear H; intro b10 w H
  refine J7 H ?_
  clear H; intro w H
  refine J37 H ?_
  refine J30 H ?_
  refine J9 H ?_
  replace H := Js [1,1,0,0,0,0,0,0,0,0,0,0,0,0,0] 0 H
  obtain ⟨D1, H, hD1, hC1⟩ := sls_rd H (ncells_length _) (by decide)
  obtain ⟨D2, H, hD2, hC2⟩ := sls_rd H.swap (ncells_length _) (by decide)
  refine Jc rfl rfl (Size_spec _ _ l hR count ⟨(hD1 _).there, hD2 _⟩ H) ?_
  clear H; rintro v w ⟨rfl, H⟩
  replace H := hC1 _ _ (hC2 _ _ H).swap
  replace H := Js [8,3,3,3,3,3,3,3,3,3,3,3] 3 H
  generalize hsz : sizeL l count = z at hE hN H ⊢
  obtain ⟨n, er⟩ := z
  refine J50 H ?_
  refine J24 H ?_
  refine C_joinQ (fun ms σ w => ms = [] ∧ er = 0 ∧ ¬ (∀ t ∈ s.tab, busy t = true) ∧ σ 0 = pp p ∧ σ 1 = .int .i64 region ∧ σ 2 = .int .i64 i ∧ σ 3 = .int .i64 count ∧ σ 8 = pp b8 ∧ σ 12 = .int .i64 n ∧
    Holds w (TAB q.tp s.tab :: BOOK q.bp s.lays :: pts b8 (row 32 [.int .i64 0, .int .i64 0]) :: CROW p q :: IMG q.ip q.sp q.bp :: ST q.sp s.size mem s.own :: TRE q.trp s.last s.par :: RS q.rp s.rem :: mp (ki .i64) ptrv q.sm (s.sps.map spkey) :: star (s.sps.map (spres q.sp)) :: mp (ki .i64) ptrv q.mm (s.mns.map mnkey) :: star (s.mns.map mnres) :: fr)) ?_ ?_
  · refine C_block ?_
    refine J17 H ?_
    by_cases h0 : er = 0
    · subst h0
      repeat refine C_seq ?_
      refine C_false rfl ?_
      refine J41 H ?_
      refine Jc rfl rfl (Left_spec q.tp s.tab H) ?_
      clear H; rintro v w ⟨rfl, H⟩
      have hbt : busyT s.tab ≤ s.tab.length := List.length_filter_le _ _
      by_cases hb : ∀ t ∈ s.tab, busy t = true
      · have hbe : busyT s.tab = s.tab.length := by unfold busyT; rw [List.filter_eq_self.2 hb]
        rw [show s.tab.length - busyT s.tab = 0 by omega]
        refine J219 H ?_
        clear H; intro w H
        refine J0 H ?_
        replace H := Js [2,2,2,1,1,0,0,0,0,0,0,0] 0 H
        refine C_ret (.inr ⟨by simp, Jz H (fun w' H' => .cellN H' rfl (by repeat (first | exact Reads.nil _ | apply Reads.cons rfl)) (.tmp .nil)) fun w' H' => .inr (.inl ⟨hE, hb, rfl, CELL_in hw hm H'.drop⟩)⟩)
      · have hbe : busyT s.tab ≠ s.tab.length := by
          intro h
          refine hb fun t ht => ?_
          exact List.length_filter_eq_length_iff.1 h t ht
        refine J4 H ?_
        rw [show (((s.tab.length - busyT s.tab : Nat) : Int) == 0) = false by simp; omega]
        refine J8 H ?_
        exact .inl ⟨rfl, rfl, rfl, hb, rfl, rfl, rfl, rfl, rfl, rfl, H⟩
    · rw [show (((er : Nat) : Int) != 0) = true by simpa using h0]
      refine J183 H ?_
      clear H; intro w H
      refine J0 H ?_
      replace H := Js [2,2,2,1,1,0,0,0,0,0,0,0] 0 H
      refine C_ret (.inr ⟨by simp, Jz H (fun w' H' => .cellN H' rfl (by repeat (first | exact Reads.nil _ | apply Reads.cons rfl)) (.tmp .nil)) fun w' H' => .inl ⟨by rw [hE]; exact h0, by rw [hE]; rfl, CELL_in hw hm H'.drop⟩⟩)
  clear H
  rintro ms σ w ⟨rfl, rfl, hfree, g0, g1, g2, g3, g8, g12, H⟩
  rw [upd_self g0, upd_self g1, upd_self g2, upd_self g3, upd_self g8, upd_self g12]
  clear g0 g1 g2 g3 g8 g12
  obtain ⟨z1, z2, z3, z4, z5⟩ := sizeL_ok hsz
  obtain ⟨c, rfl⟩ : ∃ c : Nat, count = c := ⟨count.toNat, by omega⟩
  have hrk : region ∈ s.par.map (·.1) := fnd_isSome_mem hlive
  obtain ⟨b, hkS⟩ := fnd_keys (l := s.sps) (f := fun x => x.1) (g := fun x => x.2.1) (k := region) (by rw [hw.skeys]; exact hrk)
  obtain ⟨⟨r0, b0, S⟩, p1, p2, hsps, h01, h02⟩ := fnd_split hkS
  obtain rfl : r0 = region := h01
  obtain rfl : b0 = b := h02
  obtain ⟨b2, hkM⟩ := fnd_keys (l := s.mns) (f := fun x => x.1) (g := fun x => x.2.1) (k := r0) (by rw [hw.mkeys]; exact hrk)
  obtain ⟨⟨r1, b1, L⟩, m1, m2, hmns, h11, h12⟩ := fnd_split hkM
  obtain rfl : r1 = r0 := h11
  obtain rfl : b1 = b2 := h12
  have hr1 : 1 ≤ r1 := by
    obtain ⟨⟨ra, rx⟩, hx, rfl⟩ := List.mem_map.1 hrk
    exact (hw.par.2.2 _ _ hx).1
  obtain ⟨r, rfl⟩ : ∃ r : Nat, r1 = r := ⟨r1.toNat, by omega⟩
  have hS : SpcOK s.size s.own r S := hw.spc ((r : Int), b0, S) (by rw [hsps]; simp)
  have hfin := fin_le hS hw.own.2 hw.size.2
  have hpl := parts_len hS
  have hown := hw.own.2
  refine J13 H ?_
  refine Lp_s rfl (St_lookup (ek := ki .i64) (vv := ptrv) (key := (r : Int)) H rfl rfl tkI rfl ?_)
  have hkS' : fnd (s.sps.map spkey) (r : Int) = some b0 := hkS
  have hkM' : fnd (s.mns.map mnkey) (r : Int) = some b1 := hkM
  rw [hkS']
  refine J28 H ?_
  rw [wrap64 (x := ((n : Nat) : Int) + 1) (by omega) (by omega), show ((n : Nat) : Int) + 1 = ((n + 1 : Nat) : Int) by omega]
  replace H := Js [9,5,0,0,0,0,0,0,0,0,0,0] 0 H
  replace H : Holds w (SPC b0 q.sp r S :: star ((p1 ++ p2).map (spres q.sp)) :: _) := (Holds.pick (R := spres q.sp) (x := ((r : Int), b0, S)) hsps).1 H
  replace H := Js [0,1,0,0,0,0,0,0,0,0,0,0,0] 0 H
  refine Jc rfl rfl (Alloc_spec b0 q.sp r s.size (n + 1) S mem s.own (by omega) (by omega) (by omega) hS.at1 hfin hown hw.size.1 hw.size.2 (by omega) H) ?_
  clear H
  rintro v w (⟨a, own', mem', S', rfl, al, H⟩ | ⟨rfl, hno, H⟩)
  case inr =>
    refine J55 H ?_
    refine J183 H ?_
    clear H; intro w H
    refine J0 H ?_
    replace H := Js [0,1,0,0,0,0,0,0,0,0,0,0,0] 0 H
    have H := (Holds.pick (R := spres q.sp) (x := ((r : Int), b0, S)) hsps).2 H
    replace H := Js [5,5,3,1,1,2,2,2,0,1,1,0] 0 H
    have H := (CELL_in hw hm H).swap
    refine C_ret (Jz H (fun w' H' => .cellN H' rfl (by repeat (first | exact Reads.nil _ | apply Reads.cons rfl)) (.tmp .nil)) fun w' H' => .inr (.inr (.inl ⟨hE, ?_, rfl, H'.drop⟩)))
    rw [hN]
    intro a ha
    rw [Nat.add_sub_cancel] at hno
    exact hno a ha
  have hol := alloc_own al
  obtain ⟨hml, hmo⟩ := alloc_mem hw hm.len al
  refine J31 H ?_
  refine J36 H ?_
  refine J99 H ?_
  replace H := Js [3,0,0,0,0,0,0,0,0,0,0,0,0] 0 H
  refine Jc rfl rfl (tAdd_spec q.tp s.tab ⟨a, r, true, false, i, c, List.replicate n 0⟩ H) ?_
  clear H
  rintro v w (⟨k, g0, hk, hg0, hbz, rfl, H⟩ | ⟨hb, _, _⟩)
  case inr => exact absurd hb hfree
  have hkl : k < s.tab.length := (List.getElem?_eq_some_iff.1 hk).1
  have hsl := hw.slots.2
  refine J21 H ?_
  clear H; intro b14 w H
  refine J7 H ?_
  clear H; intro w H
  refine J0 H ?_
  have hL := hw.mine ((r : Int), b1, L) (by rw [hmns]; simp)
  have hLk : ∀ j ∈ L, j < k := by
    intro j hj
    obtain ⟨g, f, hf, _⟩ := (hL.2 j).1 hj
    rcases Nat.lt_trichotomy j k with h | h | h
    · exact h
    · subst h
      rw [hk] at hf
      cases hf
    · have := hseq k j _ g f h hk hf
      unfold busy at this
      simp at this
      omega
  have hLs : (L ++ [k]).Pairwise (· < ·) := by
    rw [List.pairwise_append]
    exact ⟨hL.1, by simp, fun x hx y hy => by simp at hy; subst hy; exact hLk x hx⟩
  have hmay : MayH i c k := ⟨by omega, by have := hw.lays.1; omega, by omega, by omega⟩
  have hobj : ObjOK s.lays k ⟨a, r, true, false, i, c, List.replicate n 0⟩ := by
    refine ⟨hmay, l, hil, hR, by simpa using hsz, fun x w hx => ?_⟩
    have hx : (List.replicate n 0)[x]? = some w := hx
    have := List.eq_of_mem_replicate (List.mem_of_getElem? hx)
    subst this
    exact ⟨by omega, fun _ => ⟨.none, trivial, rfl⟩⟩
  have al' : Alloced s.size s.own mem r S ((Ent.mk a r true false i c (List.replicate n 0)).ws.length + 1) own' mem' S' (Ent.mk a r true false i c (List.replicate n 0)).addr := by
    show Alloced s.size s.own mem r S ((List.replicate n 0).length + 1) own' mem' S' a
    rw [List.length_replicate]
    exact al
  have hwf := WF_make hw hk hg0 hsps hmns hndp (e := ⟨a, r, true, false, i, c, List.replicate n 0⟩) rfl hobj al' hLs (fun j => by rw [List.mem_append, List.mem_singleton]; exact Or.comm)
  have htk : (s.tab.set k (⟨g0 + 1, some ⟨a, r, true, false, i, c, List.replicate n 0⟩⟩ : Slt))[k]? = some ⟨g0 + 1, some ⟨a, r, true, false, i, c, List.replicate n 0⟩⟩ := List.getElem?_set_self hkl
  have hlies : Lies s.size own' ⟨a, r, true, false, i, c, List.replicate n 0⟩ := (hwf.obj k _ _ htk).2.1
  have hfit : a + 1 + n ≤ mem'.length := by
    have h1 : endOf (Ent.mk a r true false i c (List.replicate n 0)) ≤ own'.length * s.size := hlies.1
    unfold endOf at h1
    rw [hml, hm.len, ← hol]
    simpa using h1
  have hod : Owned s.size own' a (n + 1) := by
    have := lies_owned hlies
    simpa using this
  replace H := Js [8,5,3,0,0,0,0,0,0,0,0,0,0,0] 0 H
  refine J1 H ?_
  clear H; intro w H
  refine J15 H ?_
  refine A_load1 3 [10] H rfl (Wants.none rfl) rfl rfl (by kernel_rfl) ?_
  refine J101 H ?_
  refine J106 H ?_
  refine A_load1 8 [10] H rfl (Wants.none rfl) rfl rfl (by kernel_rfl) ?_
  refine A_build 9 rfl (Wants.none rfl) rfl (by kernel_rfl) ?_
  refine Jo 10 H ?_
  refine Jk rfl rfl (iMake_spec q.ip q.sp q.bp s.size s.lays mem' own' a i c k n l hmay hil hR hsz hfit hod H) ?_
  clear H; rintro v w ⟨rfl, H⟩
  refine J2 H ?_
  replace H := Js [13,0,0,0,0,0,0,0,0,0,0,0,0,0] 0 H
  replace H : Holds w (BAG b1 L :: star ((m1 ++ m2).map mnres) :: _) := (Holds.pick (R := mnres) (x := ((r : Int), b1, L)) hmns).1 H
  have hL1 : L.length ≤ 63 := by
    have := ris_len L 0 k (fun x hx => ⟨Nat.zero_le _, hLk x hx⟩) hL.1
    omega
  refine J1 H ?_
  clear H; intro w H
  refine J15 H ?_
  refine A_load1 3 [8] H rfl (Wants.none rfl) rfl rfl (by kernel_rfl) ?_
  refine J70 H ?_
  refine A_lookup 5 [8] (key := (r : Int)) H rfl (Wants.none rfl) rfl rfl tkI (by kernel_rfl) ?_
  rw [hkM']
  refine J72 H ?_
  refine A_load1 7 [8] H rfl (Wants.none rfl) rfl rfl (by kernel_rfl) ?_
  refine Jo 8 H ?_
  refine Jk rfl rfl (gPut_spec b1 L k hL.1 (by omega) hLk H) ?_
  clear H; rintro v w ⟨rfl, H⟩
  refine J2 H ?_
  refine J85 H ?_
  clear H; intro w H
  refine J0 H ?_
  have hap : ∀ (j g : Nat) (f : Ent), s.tab[j]? = some ⟨g, some f⟩ → endOf f ≤ (Ent.mk a r true false i c (List.replicate n 0)).addr ∨ endOf (Ent.mk a r true false i c (List.replicate n 0)) ≤ f.addr := by
    intro j g f hj
    have hne : j ≠ k := fun h => by subst h; rw [hk] at hj; cases hj
    refine hwf.apart j k g (g0 + 1) f _ hne ?_ htk
    show (s.tab.set k _)[j]? = _
    rw [List.getElem?_set_ne (fun h => hne h.symm)]
    exact hj
  have hsl2 : (mem'.set a (encH i c k)).length = mem'.length := List.length_set
  have hmem := MemOK_make hw hm hk (e := ⟨a, r, true, false, i, c, List.replicate n 0⟩) al' (mem2 := setR (mem'.set a (encH i c k)) (a + 1) n 0) (by rw [setR_length (by omega), hsl2]) hol
    (by
      show (setR (mem'.set a (encH i c k)) (a + 1) n 0)[a]? = some (encH i c k)
      rw [setR_get (by omega), if_neg (by omega), List.getElem?_set_self (by omega)])
    (fun x w hx => by
      have hx : (List.replicate n 0)[x]? = some w := hx
      have h0 := List.eq_of_mem_replicate (List.mem_of_getElem? hx)
      have h1 := (List.getElem?_eq_some_iff.1 hx).1
      rw [List.length_replicate] at h1
      subst h0
      show (setR (mem'.set a (encH i c k)) (a + 1) n 0)[a + 1 + x]? = some 0
      rw [setR_get (by omega), if_pos (by omega)])
    (fun x hx => by
      have hx : x < a ∨ endOf (Ent.mk a r true false i c (List.replicate n 0)) ≤ x := hx
      unfold endOf at hx
      rw [List.length_replicate] at hx
      have hx : x < a ∨ a + 1 + n ≤ x := hx
      rw [setR_get (by omega), if_neg (by omega), List.getElem?_set_ne (by omega)])
    hap (s' := { s with own := own', tab := s.tab.set k ⟨g0 + 1, some ⟨a, r, true, false, i, c, List.replicate n 0⟩⟩, sps := p1 ++ ((r : Int), b0, S') :: p2, mns := m1 ++ ((r : Int), b1, L ++ [k]) :: m2 }) rfl rfl rfl
  have hkeyS : s.sps.map spkey = (p1 ++ ((r : Int), b0, S') :: p2).map spkey := by rw [hsps]; simp
  have hkeyM : s.mns.map mnkey = (m1 ++ ((r : Int), b1, L ++ [k]) :: m2).map mnkey := by rw [hmns]; simp
  rw [hkeyS, hkeyM] at H
  have H := (Holds.pick (R := mnres) (x := ((r : Int), b1, L ++ [k])) (g1 := m1) (g2 := m2) rfl).2 H
  replace H := Js [6,6,0,0,0,0,1,1,1,1,1,1,1] 1 H
  have H := (Holds.pick (R := spres q.sp) (x := ((r : Int), b0, S')) (g1 := p1) (g2 := p2) rfl).2 H
  replace H := Js [7,2,2,2,2,3,3,3,0,2,0,0] 0 H
  have H := (CELL_in hwf hmem H).swap
  refine C_ret (Jz H (fun w' H' => .cellN H' rfl (by repeat (first | exact Reads.nil _ | apply Reads.cons rfl)) (.tmp .nil)) fun w' H' => .inr (.inr (.inr ⟨hE, k, g0, a, { s with own := own', tab := s.tab.set k ⟨g0 + 1, some ⟨a, r, true, false, i, c, List.replicate n 0⟩⟩, sps := p1 ++ ((r : Int), b0, S') :: p2, mns := m1 ++ ((r : Int), b1, L ++ [k]) :: m2 }, hk, hg0, hbz, rfl, rfl, rfl, rfl, rfl, rfl, ?_, by rw [hN]; exact alloc_grows hw.size.1 al, H'.drop⟩)))
  show s.tab.set k _ = s.tab.set k _
  rw [hN]
  rfl
end Go.Proofs.YtcaaojbnjfdglaaGreatDoor
namespace Go.Proofs.YtcaaojbnjfdglaaGreatDoor
open Go.SL

def tokL : Option (Nat × Nat) → Lnk
  | some (k, g) => .obj k g
  | none => .none
def lnkM (told : List (Nat × Nat)) (kd t : Nat) : Lnk := if kd = 2 then tokL told[t]? else if kd = 1 then .grave else .none
def layX (ls : List Lay) (i : Nat) : Lay := (ls[i - 1]?).getD ⟨0, [], 0, []⟩

/-- What a slot has, and what the document's object is. -/
structure Like (lays : List Lay) (told : List (Nat × Nat)) (e : Ent) (x : Mob) : Prop where
  region : e.region = x.region
  lay : e.lay = x.lay
  count : e.count = x.count
  held : e.held = x.held
  pinned : e.pinned = x.pinned
  len : e.ws.length = x.w.length
  ref : ∀ p, p < x.w.length → isRefL (layX lays x.lay) p = true → lnkOf (e.ws.getD p 0) = lnkM told (x.kind.getD p 0) (x.to.getD p 0)
  word : ∀ p, p < x.w.length → isRefL (layX lays x.lay) p = false → e.ws.getD p 0 = x.w.getD p 0
  kind : ∀ p, p < x.w.length → x.kind.getD p 0 ≠ 0 → isRefL (layX lays x.lay) p = true ∧ x.kind.getD p 0 ≤ 2
structure Rel (s : CS) (m : MS) (told : List (Nat × Nat)) : Prop where
  len : told.length = m.objs.length
  lays : s.lays = m.lays
  tree : ∀ (r q : Int), (r, q) ∈ s.par ↔ ∃ k : Nat, r = k ∧ 1 ≤ k ∧ m.P[k]? = some q ∧ 0 ≤ q
  nd : (s.par.map (·.1)).Nodup
  last : s.last + 1 = m.P.length
  obj : ∀ (o : Nat) (x : Mob) (k g : Nat), m.objs[o]? = some x → told[o]? = some (k, g) → x.gone = false → ∃ e, s.tab[k]? = some ⟨g, some e⟩ ∧ Like m.lays told e x
  gone : ∀ (o : Nat) (x : Mob) (k g : Nat), m.objs[o]? = some x → told[o]? = some (k, g) → x.gone = true → ∀ e, s.tab[k]? ≠ some ⟨g, some e⟩
  used : ∀ (k g : Nat) (e : Ent), s.tab[k]? = some ⟨g, some e⟩ → ∃ o : Nat, told[o]? = some (k, g)
  gens : ∀ (o k g : Nat), told[o]? = some (k, g) → ∃ t, s.tab[k]? = some t ∧ g ≤ t.gen
  nodup : told.Nodup
/-- The same, but for what slots are used beside. -/
structure RelW (s : CS) (m : MS) (told : List (Nat × Nat)) : Prop where
  len : told.length = m.objs.length
  lays : s.lays = m.lays
  tree : ∀ (r q : Int), (r, q) ∈ s.par ↔ ∃ k : Nat, r = k ∧ 1 ≤ k ∧ m.P[k]? = some q ∧ 0 ≤ q
  nd : (s.par.map (·.1)).Nodup
  obj : ∀ (o : Nat) (x : Mob) (k g : Nat), m.objs[o]? = some x → told[o]? = some (k, g) → x.gone = false → ∃ e, s.tab[k]? = some ⟨g, some e⟩ ∧ Like m.lays told e x
  gone : ∀ (o : Nat) (x : Mob) (k g : Nat), m.objs[o]? = some x → told[o]? = some (k, g) → x.gone = true → ∀ e, s.tab[k]? ≠ some ⟨g, some e⟩
theorem Rel.w {s : CS} {m : MS} {told : List (Nat × Nat)} (R : Rel s m told) : RelW s m told := ⟨R.len, R.lays, R.tree, R.nd, R.obj, R.gone⟩

theorem nd_at {α : Type} {l : List α} (h : l.Nodup) {i j : Nat} {a : α} (hi : l[i]? = some a) (hj : l[j]? = some a) : i = j := by
  have h1 := (List.getElem?_eq_some_iff.1 hi)
  have h2 := (List.getElem?_eq_some_iff.1 hj)
  obtain ⟨a1, b1⟩ := h1
  obtain ⟨a2, b2⟩ := h2
  have h3 := List.pairwise_iff_getElem.1 h
  rcases Nat.lt_trichotomy i j with h4 | h4 | h4
  · exact absurd (b1.trans b2.symm) (h3 i j a1 a2 h4)
  · exact h4
  · exact absurd (b2.trans b1.symm) (h3 j i a2 a1 h4)

theorem Rel_set {s : CS} {m : MS} {told : List (Nat × Nat)} (R : Rel s m told) {n k g : Nat} {e e' : Ent} {x x' : Mob} (ht : told[n]? = some (k, g)) (hk : s.tab[k]? = some ⟨g, some e⟩) (hx : m.objs[n]? = some x) (hg : x.gone = false) (hg' : x'.gone = false) (hl : Like m.lays told e' x') (rem : List ((Int × Int) × Int)) :
    Rel { setE s k g e' with rem := rem } (setM m n x') told := by
  have hnl := (List.getElem?_eq_some_iff.1 hx).1
  have hkl := (List.getElem?_eq_some_iff.1 hk).1
  refine ⟨by show told.length = (m.objs.set n x').length; rw [List.length_set]; exact R.len, R.lays, R.tree, R.nd, R.last, ?_, ?_, ?_, ?_, R.nodup⟩
  · intro o x0 k0 g0 (hx0 : (m.objs.set n x')[o]? = some x0) ht0 hg0
    by_cases hon : n = o
    · subst hon
      rw [List.getElem?_set_self hnl] at hx0
      injection hx0 with hx0
      subst hx0
      rw [ht] at ht0
      injection ht0 with h1
      injection h1 with h1 h2
      subst h1 h2
      exact ⟨e', by show (s.tab.set k _)[k]? = _; rw [List.getElem?_set_self hkl], hl⟩
    · rw [List.getElem?_set_ne hon] at hx0
      obtain ⟨e0, h1, h2⟩ := R.obj o x0 k0 g0 hx0 ht0 hg0
      refine ⟨e0, ?_, h2⟩
      show (s.tab.set k _)[k0]? = _
      by_cases hkk : k = k0
      · subst hkk
        rw [hk] at h1
        injection h1 with h1
        injection h1 with h1 _
        subst h1
        exact absurd (nd_at R.nodup ht ht0) hon
      · rw [List.getElem?_set_ne hkk]; exact h1
  · intro o x0 k0 g0 (hx0 : (m.objs.set n x')[o]? = some x0) ht0 hg0 e0 (h1 : (s.tab.set k _)[k0]? = _)
    by_cases hon : n = o
    · subst hon
      rw [List.getElem?_set_self hnl] at hx0
      injection hx0 with hx0
      subst hx0
      rw [hg'] at hg0
      cases hg0
    · rw [List.getElem?_set_ne hon] at hx0
      rcases tab_set h1 with ⟨rfl, h2, _⟩ | ⟨_, h2⟩
      · injection h2 with h2 _
        subst h2
        exact hon (nd_at R.nodup ht ht0)
      · exact R.gone o x0 k0 g0 hx0 ht0 hg0 e0 h2
  · intro k0 g0 e0 (h1 : (s.tab.set k _)[k0]? = _)
    rcases tab_set h1 with ⟨rfl, h2, _⟩ | ⟨_, h2⟩
    · injection h2 with h2 _
      subst h2
      exact ⟨n, ht⟩
    · exact R.used k0 g0 e0 h2
  · intro o k0 g0 ht0
    obtain ⟨t, h1, h2⟩ := R.gens o k0 g0 ht0
    show ∃ t, (s.tab.set k _)[k0]? = some t ∧ _
    by_cases hkk : k = k0
    · subst hkk
      rw [hk] at h1
      injection h1 with h1
      subst h1
      exact ⟨_, List.getElem?_set_self hkl, h2⟩
    · exact ⟨t, by rw [List.getElem?_set_ne hkk]; exact h1, h2⟩
theorem Rel_gone {s : CS} {m : MS} {told : List (Nat × Nat)} (R : Rel s m told) {n : Nat} {x x' : Mob} (hx : m.objs[n]? = some x) (hg : x.gone = true) (hg' : x'.gone = true) : Rel s (setM m n x') told := by
  have hnl := (List.getElem?_eq_some_iff.1 hx).1
  refine ⟨by show told.length = (m.objs.set n x').length; rw [List.length_set]; exact R.len, R.lays, R.tree, R.nd, R.last, ?_, ?_, R.used, R.gens, R.nodup⟩
  · intro o x0 k0 g0 (hx0 : (m.objs.set n x')[o]? = some x0) ht0 hg0
    by_cases hon : n = o
    · subst hon
      rw [List.getElem?_set_self hnl] at hx0
      injection hx0 with hx0
      subst hx0
      rw [hg'] at hg0
      cases hg0
    · rw [List.getElem?_set_ne hon] at hx0
      exact R.obj o x0 k0 g0 hx0 ht0 hg0
  · intro o x0 k0 g0 (hx0 : (m.objs.set n x')[o]? = some x0) ht0 hg0
    by_cases hon : n = o
    · subst hon
      exact R.gone n x k0 g0 hx ht0 hg
    · rw [List.getElem?_set_ne hon] at hx0
      exact R.gone o x0 k0 g0 hx0 ht0 hg0

/-- What pick answers. -/
def Pick (told : List (Nat × Nat)) (i g o : Int) : Prop := (∃ k gg n : Nat, i = k ∧ g = gg ∧ o = n ∧ told[n]? = some (k, gg)) ∨ (o = -1 ∧ ∀ (k gg n : Nat), i = k → g = gg → told[n]? ≠ some (k, gg))
/-- A token is valid on both sides, or on neither. -/
@[reducible] def Vd (s : CS) (m : MS) (told : List (Nat × Nat)) (i g o : Int) : Prop := (validT s.tab i g = none ∧ valM m o = none) ∨
    ∃ (k gg n : Nat) (e : Ent) (x : Mob), i = k ∧ g = gg ∧ o = n ∧ told[n]? = some (k, gg) ∧ s.tab[k]? = some ⟨gg, some e⟩ ∧ m.objs[n]? = some x ∧ x.gone = false ∧ Like m.lays told e x ∧ validT s.tab i g = some (k, e) ∧ valM m o = some (n, x)
theorem rel_validW {s : CS} {m : MS} {told : List (Nat × Nat)} (R : RelW s m told) {k gg n : Nat} (ht : told[n]? = some (k, gg)) : Vd s m told k gg n := by
  have hnl : n < m.objs.length := by rw [← R.len]; exact (List.getElem?_eq_some_iff.1 ht).1
  have hx := List.getElem?_eq_getElem hnl
  generalize m.objs[n] = x at hx
  cases hg : x.gone with
  | true =>
    left
    constructor
    · cases hv : validT s.tab k gg with
      | none => rfl
      | some q =>
        obtain ⟨k', e⟩ := q
        obtain ⟨n', h1, h2, h3⟩ := lookT_some.1 (validT_some.1 hv).1
        obtain rfl : k = k' := by omega
        obtain rfl : gg = n' := by omega
        exact absurd h3 (R.gone n x k gg hx ht hg e)
    · rw [valM_nat, hx]
      simp [hg]
  | false =>
    obtain ⟨e, he, hl⟩ := R.obj n x k gg hx ht hg
    have hlk : lookT s.tab k gg = some (k, e) := lookT_some.2 ⟨gg, rfl, rfl, he⟩
    cases hh : x.held with
    | true =>
      right
      refine ⟨k, gg, n, e, x, rfl, rfl, rfl, ht, he, hx, hg, hl, validT_some.2 ⟨hlk, by rw [hl.held, hh]⟩, ?_⟩
      rw [valM_nat, hx]
      simp [hg, hh]
    | false =>
      left
      constructor
      · cases hv : validT s.tab k gg with
        | none => rfl
        | some q =>
          obtain ⟨k', e'⟩ := q
          obtain ⟨h1, h2⟩ := validT_some.1 hv
          rw [hlk] at h1
          injection h1 with h1
          injection h1 with h1 h3
          subst h3
          rw [hl.held, hh] at h2
          cases h2
      · rw [valM_nat, hx]
        simp [hh]
theorem rel_valid {s : CS} {m : MS} {told : List (Nat × Nat)} (R : Rel s m told) {i g o : Int} (P : Pick told i g o) : Vd s m told i g o := by
  rcases P with ⟨k, gg, n, rfl, rfl, rfl, ht⟩ | ⟨rfl, hno⟩
  · exact rel_validW R.w ht
  · left
    refine ⟨?_, rfl⟩
    cases hv : validT s.tab i g with
    | none => rfl
    | some q =>
      obtain ⟨k, e⟩ := q
      obtain ⟨n', h1, h2, h3⟩ := lookT_some.1 (validT_some.1 hv).1
      obtain ⟨o, ho⟩ := R.used k n' e h3
      exact absurd ho (hno k n' o h1 h2)
theorem lay_same {s : CS} {m : MS} {told : List (Nat × Nat)} (R : RelW s m told) {e : Ent} {x : Mob} (h : Like m.lays told e x) : layE s e = layM m x := by
  unfold layE layM
  rw [R.lays, h.lay]
theorem get_lawV {s : CS} {m : MS} {told : List (Nat × Nat)} (R : RelW s m told) {i g o : Int} (V : Vd s m told i g o) (place : Int) :
    (placeM m o place false ≠ 0 ∧ getW s i g place = (0, placeM m o place false)) ∨ (placeM m o place false = 0 ∧ ∃ (n j : Nat) (x : Mob), o = n ∧ place = j ∧ m.objs[n]? = some x ∧ j < x.w.length ∧ getW s i g place = (x.w.getD j 0, 0)) := by
  rcases V with ⟨h1, h2⟩ | ⟨k, gg, n, e, x, rfl, rfl, rfl, ht, hk, hx, hg, hl, h1, h2⟩
  · left
    rw [placeM_none h2, getW_none h1]
    exact ⟨by omega, rfl⟩
  · rw [placeM_some h2, getW_some h1, lay_same R hl, hl.len]
    by_cases h0 : placeE (layM m x) x.w.length place false = 0
    · right
      obtain ⟨j, rfl, hj, hr⟩ := placeE_ok h0
      refine ⟨h0, n, j, x, rfl, rfl, hx, hj, ?_⟩
      rw [if_pos h0, Int.toNat_natCast, hl.word j hj hr]
    · left
      exact ⟨h0, by rw [if_neg h0]⟩
theorem get_law {s : CS} {m : MS} {told : List (Nat × Nat)} (R : Rel s m told) {i g o : Int} (P : Pick told i g o) (place : Int) :
    (placeM m o place false ≠ 0 ∧ getW s i g place = (0, placeM m o place false)) ∨ (placeM m o place false = 0 ∧ ∃ (n j : Nat) (x : Mob), o = n ∧ place = j ∧ m.objs[n]? = some x ∧ j < x.w.length ∧ getW s i g place = (x.w.getD j 0, 0)) := get_lawV R.w (rel_valid R P) place
end Go.Proofs.YtcaaojbnjfdglaaGreatDoor
namespace Go.Proofs.YtcaaojbnjfdglaaGreatDoor
open Go.SL

theorem getD_set {α : Type} {l : List α} {i j : Nat} {a d : α} (h : i < l.length) : (l.set i a).getD j d = if i = j then a else l.getD j d := by
  rw [List.getD_eq_getElem?_getD, List.getD_eq_getElem?_getD, List.getElem?_set]
  split
  · rename_i hij; subst hij; simp [h]
  · rfl

def setWM (m : MS) (o place : Int) (X : Nat) : MS :=
  match valM m o with
  | none => m
  | some (k, x) => if placeE (layM m x) x.w.length place false = 0 then setM m k { x with w := x.w.set place.toNat X } else m
theorem setWM_none {m : MS} {o place : Int} {X : Nat} (h : valM m o = none) : setWM m o place X = m := by unfold setWM; rw [h]
theorem setWM_some {m : MS} {o place : Int} {X k : Nat} {x : Mob} (h : valM m o = some (k, x)) : setWM m o place X = if placeE (layM m x) x.w.length place false = 0 then setM m k { x with w := x.w.set place.toNat X } else m := by unfold setWM; rw [h]
theorem set_law {s : CS} {m : MS} {told : List (Nat × Nat)} (R : Rel s m told) {i g o : Int} (P : Pick told i g o) (place : Int) (X : Nat) :
    (setWS s i g place X).2 = placeM m o place false ∧ Rel (setWS s i g place X).1 (setWM m o place X) told := by
  rcases rel_valid R P with ⟨h1, h2⟩ | ⟨k, gg, n, e, x, rfl, rfl, rfl, ht, hk, hx, hg, hl, h1, h2⟩
  · rw [placeM_none h2, setWS_none h1, setWM_none h2]
    exact ⟨rfl, R⟩
  · rw [placeM_some h2, setWS_some h1, setWM_some h2, lay_same R.w hl, hl.len]
    by_cases h0 : placeE (layM m x) x.w.length place false = 0
    · obtain ⟨j, rfl, hj, hr⟩ := placeE_ok h0
      rw [if_pos h0, if_pos h0, h0, Int.toNat_natCast, Int.toNat_natCast]
      refine ⟨rfl, Rel_set R ht hk hx hg (by exact hg) ?_ s.rem⟩
      refine ⟨hl.region, hl.lay, hl.count, hl.held, hl.pinned, by simp [hl.len], ?_, ?_, ?_⟩
      · intro p hp hr'
        have hp' : p < x.w.length := by simpa using hp
        show lnkOf ((e.ws.set j X).getD p 0) = _
        rw [getD_set (by rw [hl.len]; exact hj)]
        rw [if_neg (by rintro rfl; exact absurd (hr'.symm.trans hr) (by decide))]
        exact hl.ref p hp' hr'
      · intro p hp hr'
        have hp' : p < x.w.length := by simpa using hp
        show (e.ws.set j X).getD p 0 = (x.w.set j X).getD p 0
        rw [getD_set (by rw [hl.len]; exact hj), getD_set hj]
        split
        · rfl
        · exact hl.word p hp' hr'
      · intro p hp hn
        have hp' : p < x.w.length := by simpa using hp
        exact hl.kind p hp' hn
    · rw [if_neg h0, if_neg h0]
      exact ⟨rfl, R⟩

theorem Like_held {ls : List Lay} {told : List (Nat × Nat)} {e : Ent} {x : Mob} (h : Like ls told e x) (b : Bool) : Like ls told { e with held := b } { x with held := b } := ⟨h.region, h.lay, h.count, rfl, h.pinned, h.len, h.ref, h.word, h.kind⟩
theorem Like_pinned {ls : List Lay} {told : List (Nat × Nat)} {e : Ent} {x : Mob} (h : Like ls told e x) (b : Bool) : Like ls told { e with pinned := b } { x with pinned := b } := ⟨h.region, h.lay, h.count, h.held, rfl, h.len, h.ref, h.word, h.kind⟩

theorem drop_law {s : CS} {m : MS} {told : List (Nat × Nat)} (R : Rel s m told) {i g o : Int} (P : Pick told i g o) :
    (dropS s i g).2 = (dropM m o).2 ∧ Rel (dropS s i g).1 (dropM m o).1 told := by
  rcases rel_valid R P with ⟨h1, h2⟩ | ⟨k, gg, n, e, x, rfl, rfl, rfl, ht, hk, hx, hg, hl, h1, h2⟩
  · have : dropM m o = (m, 8) := by unfold dropM; rw [h2]
    rw [this, dropS_none h1]
    exact ⟨rfl, R⟩
  · have : dropM m n = (setM m n { x with held := false }, 0) := by unfold dropM; rw [h2]
    rw [this, dropS_some h1, Int.toNat_natCast]
    exact ⟨rfl, Rel_set R ht hk hx hg (by exact hg) (Like_held hl false) s.rem⟩
theorem pin_law {s : CS} {m : MS} {told : List (Nat × Nat)} (R : Rel s m told) {i g o : Int} (P : Pick told i g o) (on : Bool) :
    (pinS s i g on).2 = (pinM m o on).2 ∧ Rel (pinS s i g on).1 (pinM m o on).1 told := by
  rcases rel_valid R P with ⟨h1, h2⟩ | ⟨k, gg, n, e, x, rfl, rfl, rfl, ht, hk, hx, hg, hl, h1, h2⟩
  · have : pinM m o on = (m, 8) := by unfold pinM; rw [h2]
    rw [this, pinS_none h1]
    exact ⟨rfl, R⟩
  · have : pinM m n on = if x.pinned = on then (m, 7) else (setM m n { x with pinned := on }, 0) := by unfold pinM; rw [h2]
    rw [this, pinS_some h1, Int.toNat_natCast, hl.pinned]
    by_cases hb : x.pinned = on
    · rw [if_pos hb, if_pos hb]
      exact ⟨rfl, R⟩
    · rw [if_neg hb, if_neg hb]
      exact ⟨rfl, Rel_set R ht hk hx hg (by exact hg) (Like_pinned hl on) s.rem⟩

theorem look_lawV {s : CS} {m : MS} {told : List (Nat × Nat)} (R : RelW s m told) {i g o : Int} (V : Vd s m told i g o) (place : Int) :
    (placeM m o place true ≠ 0 ∧ lookL s i g place = (.none, placeM m o place true)) ∨ (placeM m o place true = 0 ∧ ∃ (n j : Nat) (x : Mob), o = n ∧ place = j ∧ m.objs[n]? = some x ∧ valM m o = some (n, x) ∧ j < x.w.length ∧ isRefL (layX m.lays x.lay) j = true ∧ x.kind.getD j 0 ≤ 2 ∧ lookL s i g place = (lnkM told (x.kind.getD j 0) (x.to.getD j 0), 0)) := by
  rcases V with ⟨h1, h2⟩ | ⟨k, gg, n, e, x, rfl, rfl, rfl, ht, hk, hx, hg, hl, h1, h2⟩
  · left
    rw [placeM_none h2, lookL_none h1]
    exact ⟨by omega, rfl⟩
  · rw [placeM_some h2, lookL_some h1, lay_same R hl, hl.len]
    by_cases h0 : placeE (layM m x) x.w.length place true = 0
    · right
      obtain ⟨j, rfl, hj, hr⟩ := placeE_ok h0
      refine ⟨h0, n, j, x, rfl, rfl, hx, h2, hj, hr, ?_, ?_⟩
      · by_cases hz : x.kind.getD j 0 = 0
        · omega
        · exact (hl.kind j hj hz).2
      · rw [if_pos h0, Int.toNat_natCast, hl.ref j hj hr]
    · left
      exact ⟨h0, by rw [if_neg h0]⟩

theorem look_law {s : CS} {m : MS} {told : List (Nat × Nat)} (R : Rel s m told) {i g o : Int} (P : Pick told i g o) (place : Int) :
    (placeM m o place true ≠ 0 ∧ lookL s i g place = (.none, placeM m o place true)) ∨ (placeM m o place true = 0 ∧ ∃ (n j : Nat) (x : Mob), o = n ∧ place = j ∧ m.objs[n]? = some x ∧ valM m o = some (n, x) ∧ j < x.w.length ∧ isRefL (layX m.lays x.lay) j = true ∧ x.kind.getD j 0 ≤ 2 ∧ lookL s i g place = (lnkM told (x.kind.getD j 0) (x.to.getD j 0), 0)) := look_lawV R.w (rel_valid R P) place
theorem Like_tie {ls : List Lay} {told : List (Nat × Nat)} {e : Ent} {x : Mob} {n : Nat} (h : Like ls told e x) (hm : MobOK ls n x) {j : Nat} (hj : j < x.w.length) (hr : isRefL (layX ls x.lay) j = true) (kd t : Nat) (hkd : kd ≤ 2) (W : Nat) (hW : lnkOf W = lnkM told kd t) : Like ls told { e with ws := e.ws.set j W } { x with kind := x.kind.set j kd, to := x.to.set j t } := by
  refine ⟨h.region, h.lay, h.count, h.held, h.pinned, by simp [h.len], ?_, ?_, ?_⟩
  · intro p hp hr'
    show lnkOf ((e.ws.set j W).getD p 0) = lnkM told ((x.kind.set j kd).getD p 0) ((x.to.set j t).getD p 0)
    rw [getD_set (by rw [h.len]; exact hj), getD_set (by rw [hm.kind]; exact hj), getD_set (by rw [hm.to]; exact hj)]
    split
    · exact hW
    · exact h.ref p hp hr'
  · intro p hp hr'
    show (e.ws.set j W).getD p 0 = x.w.getD p 0
    rw [getD_set (by rw [h.len]; exact hj), if_neg (by rintro rfl; exact absurd (hr.symm.trans hr') (by decide))]
    exact h.word p hp hr'
  · intro p hp (hn : (x.kind.set j kd).getD p 0 ≠ 0)
    show _ ∧ (x.kind.set j kd).getD p 0 ≤ 2
    rw [getD_set (by rw [hm.kind]; exact hj)] at hn ⊢
    by_cases hjp : j = p
    · subst hjp
      rw [if_pos rfl]
      exact ⟨hr, hkd⟩
    · rw [if_neg hjp] at hn ⊢
      exact h.kind p hp hn

theorem cut_law {s : CS} {m : MS} {told : List (Nat × Nat)} (R : Rel s m told) (hm : MWF m) {i g o : Int} (P : Pick told i g o) (place : Int) :
    (tieS s i g place .none).2 = (cutM m o place).2 ∧ Rel (tieS s i g place .none).1 (cutM m o place).1 told := by
  rcases rel_valid R P with ⟨h1, h2⟩ | ⟨k, gg, n, e, x, rfl, rfl, rfl, ht, hk, hx, hg, hl, h1, h2⟩
  · rw [cutM_none h2, tieS_none h1]
    exact ⟨rfl, R⟩
  · rw [cutM_some h2, tieS_some h1, lay_same R.w hl, hl.len]
    by_cases h0 : placeE (layM m x) x.w.length place true = 0
    · obtain ⟨j, rfl, hj, hr⟩ := placeE_ok h0
      rw [if_pos h0, if_pos h0, Int.toNat_natCast, Int.toNat_natCast]
      exact ⟨rfl, Rel_set R ht hk hx hg (by exact hg) (Like_tie hl (hm.objs x (List.mem_of_getElem? hx)) hj hr 0 0 (by omega) _ rfl) _⟩
    · rw [if_neg h0, if_neg h0]
      exact ⟨rfl, R⟩

theorem tie_law {s : CS} {m : MS} {told : List (Nat × Nat)} (R : Rel s m told) (hw : WF s) (hm : MWF m) {i g o u v q : Int} (P : Pick told i g o) (Q : Pick told u v q) (place : Int) :
    (TieS s i g place u v).2 = (tieM m o place q).2 ∧ Rel (TieS s i g place u v).1 (tieM m o place q).1 told := by
  rcases rel_valid R P with ⟨h1, h2⟩ | ⟨k, gg, n, e, x, rfl, rfl, rfl, ht, hk, hx, hg, hl, h1, h2⟩
  · have h3 : tieM m o place q = (m, 8) := by unfold tieM; rw [h2]
    have h4 : TieS s i g place u v = (s, 8) := by unfold TieS; rw [lookL_none h1]; rw [if_pos (by decide)]
    rw [h3, h4]
    exact ⟨rfl, R⟩
  · by_cases h0 : placeE (layM m x) x.w.length place true = 0
    · have hz : (lookL s k gg place).2 = 0 := by rw [lookL_some h1, lay_same R.w hl, hl.len, if_pos h0]
      rcases rel_valid R Q with ⟨h3, h4⟩ | ⟨k', gg', n', e', x', rfl, rfl, rfl, ht', hk', hx', hg', hl', h3, h4⟩
      · have h5 : tieM m n place q = (m, 8) := by unfold tieM; rw [h2]; show (if placeE _ _ _ _ = 0 then _ else _) = _; rw [if_pos h0, h4]
        have h6 : TieS s k gg place u v = (s, 8) := by unfold TieS; rw [hz, if_neg (by decide), h3]; rfl
        rw [h5, h6]
        exact ⟨rfl, R⟩
      · have h5 : tieM m n place n' = (setM m n { x with kind := x.kind.set place.toNat 2, to := x.to.set place.toNat n' }, 0) := by unfold tieM; rw [h2]; show (if placeE _ _ _ _ = 0 then _ else _) = _; rw [if_pos h0, h4]
        have h6 : TieS s k gg place k' gg' = tieS s k gg place (.obj k' gg') := by unfold TieS; rw [hz, if_neg (by decide), h3]; rfl
        rw [h5, h6, tieS_some h1, lay_same R.w hl, hl.len, if_pos h0]
        obtain ⟨j, rfl, hj, hr⟩ := placeE_ok h0
        rw [Int.toNat_natCast, Int.toNat_natCast]
        have hok := okT_of hw hk'
        exact ⟨rfl, Rel_set R ht hk hx hg (by exact hg) (Like_tie hl (hm.objs x (List.mem_of_getElem? hx)) hj hr 2 n' (by omega) _ (by rw [lnkOf_obj hok.1]; unfold lnkM; rw [if_pos rfl, ht']; rfl)) _⟩
    · have hz : lookL s k gg place = (.none, placeE (layM m x) x.w.length place true) := by rw [lookL_some h1, lay_same R.w hl, hl.len, if_neg h0]
      have h5 : tieM m n place q = (m, placeE (layM m x) x.w.length place true) := by unfold tieM; rw [h2]; show (if placeE _ _ _ _ = 0 then _ else _) = _; rw [if_neg h0]
      have h6 : TieS s k gg place u v = (s, placeE (layM m x) x.w.length place true) := by unfold TieS; rw [hz, if_pos h0]
      rw [h5, h6]
      exact ⟨rfl, R⟩

theorem ref_law {s : CS} {m : MS} {told : List (Nat × Nat)} (R : Rel s m told) (hm : MWF m) {i g o : Int} (P : Pick told i g o) (place : Int) :
    (lookL s i g place).2 = (refM m o place).2.2.2 ∧ (lookL s i g place).1 = lnkM told (refM m o place).2.1 (refM m o place).2.2.1 ∧ (refM m o place).2.1 ≤ 2 ∧ ((refM m o place).2.1 = 2 → (refM m o place).2.2.1 < told.length) ∧ Rel (refS s i g place) (refM m o place).1 told := by
  rcases look_law R P place with ⟨h0, h1⟩ | ⟨h0, n, j, x, rfl, rfl, hx, hv, hj, hr, hk2, h1⟩
  · have h3 : refM m o place = (m, 0, 0, placeM m o place true) := by
      cases hv : valM m o with
      | none => unfold refM; rw [hv, placeM_none hv]
      | some kx =>
        obtain ⟨k, x⟩ := kx
        rw [placeM_some hv] at h0 ⊢
        unfold refM; rw [hv]; show (if placeE _ _ _ _ = 0 then _ else _) = _; rw [if_neg h0]
    have h4 : refS s i g place = s := by unfold refS; rw [h1]
    rw [h3, h4, h1]
    exact ⟨rfl, rfl, by show 0 ≤ 2; omega, fun h => (by cases h), R⟩
  · rw [placeM_some hv] at h0
    have h3 : refM m n j = (if x.kind.getD j 0 = 2 then holdM m (x.to.getD j 0) else m, x.kind.getD j 0, x.to.getD j 0, 0) := by unfold refM; rw [hv]; show (if placeE _ _ _ _ = 0 then _ else _) = _; rw [if_pos h0, Int.toNat_natCast]
    have hmo := hm.objs x (List.mem_of_getElem? hx)
    rw [h3, h1]
    by_cases hkd : x.kind.getD j 0 = 2
    · have hjk : j < x.kind.length := by rw [hmo.kind]; exact hj
      have hjk2 := List.getElem?_eq_getElem hjk
      have hgo := hmo.goes j (by rw [hjk2]; rw [List.getD_eq_getElem?_getD, hjk2] at hkd; exact congrArg some hkd)
      have hgt : x.to.getD j 0 < told.length := by rw [R.len]; exact hgo
      generalize htd : x.to.getD j 0 = td at *
      rw [hkd, if_pos rfl]
      have hy := List.getElem?_eq_getElem hgo
      generalize m.objs[td] = y at hy
      have htt := List.getElem?_eq_getElem hgt
      generalize told[td] = ab at htt
      obtain ⟨a, b⟩ := ab
      have hln : lnkM told 2 td = .obj a b := by unfold lnkM; rw [if_pos rfl, htt]; rfl
      have h4 : refS s i g j = holdS s a b := by unfold refS; rw [h1, hkd, hln]; rfl
      have h5 : holdM m td = setM m td { y with held := true } := by unfold holdM; rw [hy]
      rw [h4, h5]
      refine ⟨rfl, rfl, by show 2 ≤ 2; omega, fun _ => hgt, ?_⟩
      by_cases hyg : y.gone = true
      · have h6 : lookT s.tab a b = none := by
          cases hlk : lookT s.tab a b with
          | none => rfl
          | some q =>
            obtain ⟨k', e'⟩ := q
            obtain ⟨n', h1, h2, h3⟩ := lookT_some.1 hlk
            obtain rfl : a = k' := by omega
            obtain rfl : b = n' := by omega
            exact absurd h3 (R.gone td y a b hy htt hyg e')
        rw [holdS_none h6]
        exact Rel_gone R hy hyg (by exact hyg)
      · have hyg : y.gone = false := by simpa using hyg
        obtain ⟨e', he', hl'⟩ := R.obj td y a b hy htt hyg
        have h6 : lookT s.tab a b = some (a, e') := lookT_some.2 ⟨b, rfl, rfl, he'⟩
        rw [holdS_some h6]
        exact Rel_set R htt he' hy hyg (by exact hyg) (Like_held hl' true) s.rem
    · have h4 : refS s i g j = s := by
        unfold refS
        rw [h1]
        have : ∀ a b, lnkM told (x.kind.getD j 0) (x.to.getD j 0) ≠ .obj a b := by
          intro a b
          unfold lnkM
          rw [if_neg hkd]
          split <;> intro h <;> cases h
        generalize lnkM told (x.kind.getD j 0) (x.to.getD j 0) = L at this
        cases L with
        | none => rfl
        | grave => rfl
        | obj a b => exact absurd rfl (this a b)
      rw [h4, if_neg hkd]
      exact ⟨rfl, rfl, hk2, fun h => absurd h hkd, R⟩

/-- What is told of the document's object. -/
def tellM : Option (Nat × Mob) → Value
  | some (_, x) => .tuple #[.agg #[.int .i64 x.region, .int .i64 x.lay, .int .i64 x.count, .int .i64 x.w.length, .bool x.pinned], .int .i64 0]
  | none => .tuple #[.agg #[.int .i64 0, .int .i64 0, .int .i64 0, .int .i64 0, .bool false], .int .i64 8]
theorem tell_lawV {s : CS} {m : MS} {told : List (Nat × Nat)} (R : RelW s m told) {i g o : Int} (V : Vd s m told i g o) : tellV (validT s.tab i g) = tellM (valM m o) := by
  rcases V with ⟨h1, h2⟩ | ⟨k, gg, n, e, x, rfl, rfl, rfl, ht, hk, hx, hg, hl, h1, h2⟩
  · rw [h1, h2]; rfl
  · rw [h1, h2]
    show Value.tuple #[.agg (infv e).toArray, .int .i64 0] = _
    show Value.tuple #[.agg #[.int .i64 e.region, .int .i64 e.lay, .int .i64 e.count, .int .i64 e.ws.length, .bool e.pinned], .int .i64 0] = Value.tuple #[.agg #[.int .i64 x.region, .int .i64 x.lay, .int .i64 x.count, .int .i64 x.w.length, .bool x.pinned], .int .i64 0]
    rw [hl.region, hl.lay, hl.count, hl.len, hl.pinned]
end Go.Proofs.YtcaaojbnjfdglaaGreatDoor
namespace Go.Proofs.YtcaaojbnjfdglaaGreatDoor
open Go.SL

theorem live_law {s : CS} {m : MS} {told : List (Nat × Nat)} (R : Rel s m told) (id : Int) : (fnd s.par id).isSome = liveP m.P id := by
  unfold liveP
  cases hf : fnd s.par id with
  | some q =>
    obtain ⟨k, rfl, h1, h2, h3⟩ := (R.tree id q).1 (fnd_mem hf)
    have h4 := (List.getElem?_eq_some_iff.1 h2).1
    symm
    show decide _ = true
    rw [decide_eq_true]
    refine ⟨by omega, by omega, ?_⟩
    rw [Int.toNat_natCast, List.getD_eq_getElem?_getD, h2]
    exact h3
  | none =>
    symm
    show decide _ = false
    rw [decide_eq_false]
    rintro ⟨h1, h2, h3⟩
    obtain ⟨k, rfl⟩ : ∃ k : Nat, id = k := ⟨id.toNat, by omega⟩
    have hk : k < m.P.length := by omega
    have h4 := List.getElem?_eq_getElem hk
    rw [Int.toNat_natCast, List.getD_eq_getElem?_getD, h4] at h3
    have h5 := (R.tree k m.P[k]).2 ⟨k, rfl, by omega, h4, h3⟩
    rw [(fnd_iff R.nd).2 h5] at hf
    cases hf
theorem all_mem {P : List Int} {k : Nat} : k ∈ allP P ↔ ∃ q, P[k]? = some q ∧ 1 ≤ k ∧ 0 ≤ q := by
  unfold allP
  rw [idsTo_mem]
  constructor
  · rintro ⟨h1, h2, h3⟩
    have h4 := List.getElem?_eq_getElem h1
    rw [List.getD_eq_getElem?_getD, h4] at h3
    exact ⟨_, h4, h2, by simpa using h3⟩
  · rintro ⟨q, h1, h2, h3⟩
    refine ⟨(List.getElem?_eq_some_iff.1 h1).1, h2, ?_⟩
    rw [List.getD_eq_getElem?_getD, h1]
    simpa using h3
theorem all_nodup (P : List Int) : (allP P).Nodup := (idsTo_sorted P _ _).imp (fun h => by omega)
theorem len_law {s : CS} {m : MS} {told : List (Nat × Nat)} (R : RelW s m told) : s.par.length = (allP m.P).length := by
  have h1 : ((allP m.P).map fun k : Nat => (k : Int)).Nodup := by
    refine List.Pairwise.map _ ?_ (all_nodup m.P)
    intro a b hab
    omega
  have h2 := sub_length R.nd (l₂ := (allP m.P).map fun k : Nat => (k : Int)) (by
    intro z hz
    obtain ⟨⟨r, q⟩, hq, rfl⟩ := List.mem_map.1 hz
    obtain ⟨k, rfl, a, b, c⟩ := (R.tree r q).1 hq
    exact List.mem_map.2 ⟨k, all_mem.2 ⟨q, b, a, c⟩, rfl⟩)
  have h3 := sub_length h1 (l₂ := s.par.map (·.1)) (by
    intro z hz
    obtain ⟨k, hk, rfl⟩ := List.mem_map.1 hz
    obtain ⟨q, a, b, c⟩ := all_mem.1 hk
    exact List.mem_map.2 ⟨((k : Int), q), (R.tree k q).2 ⟨k, rfl, b, a, c⟩, rfl⟩)
  rw [List.length_map, List.length_map] at h2 h3
  omega
theorem err_law {s : CS} {m : MS} {told : List (Nat × Nat)} (R : Rel s m told) (hw : WF s) (parent : Int) : addErr s.par parent = dErr m.P parent := by
  unfold addErr dErr
  rw [live_law R, len_law R.w]
  have := hw.par.1
  rw [len_law R.w] at this
  by_cases h : parent ≠ 0 ∧ liveP m.P parent = false
  · rw [if_pos h, if_pos h]
  · rw [if_neg h, if_neg h]
    by_cases h2 : (allP m.P).length = 64
    · rw [if_pos h2, if_pos (by omega)]
    · rw [if_neg h2, if_neg (by omega)]
theorem open_rel {s : CS} {m : MS} {told : List (Nat × Nat)} (R : Rel s m told) {parent : Int} (h : dErr m.P parent = 0) (b b2 : Nat) : Rel (openS s parent b b2) { m with P := m.P ++ [parent] } told := by
  have hp : 0 ≤ parent := by
    unfold dErr at h
    split at h
    · cases h
    · rename_i hn
      by_cases h0 : parent = 0
      · omega
      · have : liveP m.P parent = true := by
          cases hl : liveP m.P parent with
          | true => rfl
          | false => exact absurd ⟨h0, hl⟩ hn
        unfold liveP at this
        have := of_decide_eq_true this
        omega
  have hl := R.last
  refine ⟨R.len, R.lays, ?_, ?_, ?_, R.obj, R.gone, R.used, R.gens, R.nodup⟩
  · intro r q
    show (r, q) ∈ s.par ++ [(((s.last + 1 : Nat) : Int), parent)] ↔ ∃ k : Nat, r = k ∧ 1 ≤ k ∧ (m.P ++ [parent])[k]? = some q ∧ 0 ≤ q
    rw [List.mem_append, R.tree r q]
    constructor
    · rintro (⟨k, rfl, a, b, c⟩ | h)
      · exact ⟨k, rfl, a, by rw [List.getElem?_append_left (List.getElem?_eq_some_iff.1 b).1]; exact b, c⟩
      · simp only [List.mem_singleton] at h
        injection h with h1 h2
        subst h1 h2
        exact ⟨s.last + 1, rfl, by omega, by rw [hl, List.getElem?_append_right (Nat.le_refl _), Nat.sub_self]; rfl, hp⟩
    · rintro ⟨k, rfl, a, b, c⟩
      by_cases hk : k < m.P.length
      · rw [List.getElem?_append_left hk] at b
        exact .inl ⟨k, rfl, a, b, c⟩
      · right
        have hk2 := (List.getElem?_eq_some_iff.1 b).1
        simp at hk2
        obtain rfl : k = m.P.length := by omega
        rw [List.getElem?_append_right (Nat.le_refl _), Nat.sub_self] at b
        injection b with b
        simp only [List.mem_singleton]
        rw [hl, ← b]
  · show ((s.par ++ [(((s.last + 1 : Nat) : Int), parent)]).map (·.1)).Nodup
    rw [List.map_append]
    refine List.nodup_append.2 ⟨R.nd, by simp, ?_⟩
    intro a ha b hb
    simp only [List.map_cons, List.map_nil, List.mem_singleton] at hb
    subst hb
    obtain ⟨⟨r, q⟩, hq, rfl⟩ := List.mem_map.1 ha
    obtain ⟨k, h1, _, h2, _⟩ := (R.tree r q).1 hq
    have := (List.getElem?_eq_some_iff.1 h2).1
    intro h3
    have h4 : r = ((s.last + 1 : Nat) : Int) := h3
    omega
  · show s.last + 1 + 1 = (m.P ++ [parent]).length
    simp; omega

theorem layX_app {ls : List Lay} {l : Lay} {i : Nat} (h : i - 1 < ls.length) : layX (ls ++ [l]) i = layX ls i := by
  unfold layX
  rw [List.getElem?_append_left h]
theorem Like_lays {ls : List Lay} {told : List (Nat × Nat)} {e : Ent} {x : Mob} (h : Like ls told e x) {l : Lay} (hi : x.lay - 1 < ls.length) : Like (ls ++ [l]) told e x := by
  refine ⟨h.region, h.lay, h.count, h.held, h.pinned, h.len, ?_, ?_, ?_⟩
  · rw [layX_app hi]; exact h.ref
  · rw [layX_app hi]; exact h.word
  · rw [layX_app hi]; exact h.kind
theorem def_law {s : CS} {m : MS} {told : List (Nat × Nat)} (R : Rel s m told) (hm : MWF m) (ws : List Nat) : (defS s ws).2 = (defM m ws).2 ∧ Rel (defS s ws).1 (defM m ws).1 told := by
  cases hd : decodeL ws with
  | none =>
    have h1 : defM m ws = (m, 0, 4) := by unfold defM; rw [hd]
    rw [h1, defS_none hd]
    exact ⟨rfl, R⟩
  | some l =>
    have h1 : defM m ws = if 64 ≤ m.lays.length then (m, 0, 5) else ({ m with lays := m.lays ++ [l] }, m.lays.length + 1, 0) := by unfold defM; rw [hd]
    rw [h1, defS_some hd, R.lays]
    have := hm.lays.1
    by_cases h64 : m.lays.length = 64
    · rw [if_pos h64, if_pos (by omega)]
      exact ⟨rfl, R⟩
    · rw [if_neg h64, if_neg (by omega)]
      refine ⟨rfl, R.len, rfl, R.tree, R.nd, R.last, ?_, R.gone, R.used, R.gens, R.nodup⟩
      intro o x k g hx ht hg
      obtain ⟨e, h1, h2⟩ := R.obj o x k g hx ht hg
      have hmo := hm.objs x (List.mem_of_getElem? hx)
      obtain ⟨l', h3, _⟩ := hmo.lay
      exact ⟨e, h1, Like_lays h2 (List.getElem?_eq_some_iff.1 h3).1⟩

theorem may_law {s : CS} {m : MS} {told : List (Nat × Nat)} (R : Rel s m told) (region id count : Int) : makeE s region id count = (mayM m region id count).2 ∧ ((mayM m region id count).2 = 0 → makeN s id count = (mayM m region id count).1) := by
  unfold makeE makeN mayM layI
  rw [live_law R, R.lays]
  by_cases h1 : liveP m.P region = false
  · rw [if_pos h1, if_pos h1]
    exact ⟨rfl, fun h => by cases h⟩
  · rw [if_neg h1, if_neg h1]
    by_cases h2 : id < 1 ∨ (m.lays.length : Int) < id
    · rw [if_pos h2, if_pos h2]
      exact ⟨rfl, fun h => by cases h⟩
    · rw [if_neg h2, if_neg h2]
      exact ⟨rfl, fun _ => rfl⟩

theorem Like_told {ls : List Lay} {told : List (Nat × Nat)} {e : Ent} {x : Mob} (h : Like ls told e x) {t : Nat × Nat} (hx : ∀ p, x.kind[p]? = some 2 → x.to.getD p 0 < told.length) : Like ls (told ++ [t]) e x := by
  refine ⟨h.region, h.lay, h.count, h.held, h.pinned, h.len, ?_, h.word, h.kind⟩
  intro p hp hr
  rw [h.ref p hp hr]
  unfold lnkM
  by_cases h2 : x.kind.getD p 0 = 2
  · rw [if_pos h2, if_pos h2]
    have h3 : x.kind[p]? = some 2 := by
      rw [List.getD_eq_getElem?_getD] at h2
      cases hk : x.kind[p]? with
      | none => rw [hk] at h2; cases h2
      | some q => rw [hk] at h2; exact congrArg some h2
    rw [List.getElem?_append_left (hx p h3)]
  · rw [if_neg h2, if_neg h2]
theorem rep_get (n p : Nat) : (List.replicate n 0).getD p 0 = 0 := by
  rw [List.getD_eq_getElem?_getD, List.getElem?_replicate]
  split <;> rfl
theorem make_rel {s s' : CS} {m : MS} {told : List (Nat × Nat)} (R : Rel s m told) (hm : MWF m) {region id count : Int} (hmay : (mayM m region id count).2 = 0) {k g0 addr : Nat} (hk : s.tab[k]? = some ⟨g0, none⟩)
    (e1 : s'.lays = s.lays) (e2 : s'.last = s.last) (e3 : s'.par = s.par) (e4 : s'.tab = s.tab.set k ⟨g0 + 1, some ⟨addr, region, true, false, id.toNat, count.toNat, List.replicate (makeN s id count) 0⟩⟩) :
    (∀ n : Nat, told[n]? ≠ some (k, g0 + 1)) ∧ Rel s' (makeM m region id count) (told ++ [(k, g0 + 1)]) := by
  have hkl := (List.getElem?_eq_some_iff.1 hk).1
  have hn : makeN s id count = (mayM m region id count).1 := (may_law R region id count).2 hmay
  have hr : makeM m region id count = { m with objs := m.objs ++ [newM region id count (mayM m region id count).1] } := rfl
  have hreg : region = (region.toNat : Int) := by
    obtain ⟨r, la, c, l, rfl, _⟩ := mayM_ok hmay
    rfl
  have hnew : ∀ n : Nat, told[n]? ≠ some (k, g0 + 1) := by
    intro n hn
    obtain ⟨t, h1, h2⟩ := R.gens n k (g0 + 1) hn
    rw [hk] at h1
    injection h1 with h1
    subst h1
    have h2 : g0 + 1 ≤ g0 := h2
    omega
  refine ⟨hnew, ?_⟩
  rw [hr]
  have hne : ∀ (o k0 g : Nat) (e : Ent), s.tab[k0]? = some ⟨g, some e⟩ → k ≠ k0 := by
    rintro o k0 g e h rfl
    rw [hk] at h
    injection h with h
    injection h with _ h
    cases h
  refine ⟨by show (told ++ [_]).length = (m.objs ++ [_]).length; rw [List.length_append, List.length_append, R.len]; rfl, by rw [e1]; exact R.lays, by rw [e3]; exact R.tree, by rw [e3]; exact R.nd, by rw [e2]; exact R.last, ?_, ?_, ?_, ?_, ?_⟩
  · intro o x k0 g (hx : (m.objs ++ [newM region id count (mayM m region id count).1])[o]? = some x) ht hg
    by_cases ho : o < m.objs.length
    · rw [List.getElem?_append_left ho] at hx
      rw [List.getElem?_append_left (by rw [R.len]; exact ho)] at ht
      obtain ⟨e, h1, h2⟩ := R.obj o x k0 g hx ht hg
      refine ⟨e, ?_, Like_told h2 (by rw [R.len]; exact (hm.objs x (List.mem_of_getElem? hx)).goes)⟩
      rw [e4, List.getElem?_set_ne (hne o k0 g e h1)]
      exact h1
    · have hol := (List.getElem?_eq_some_iff.1 hx).1
      rw [List.length_append] at hol
      obtain rfl : o = m.objs.length := by simp at hol; omega
      rw [List.getElem?_append_right (Nat.le_refl _), Nat.sub_self] at hx
      rw [← R.len, List.getElem?_append_right (Nat.le_refl _), Nat.sub_self] at ht
      injection hx with hx
      injection ht with ht
      injection ht with h1 h2
      subst hx h1 h2
      refine ⟨_, by rw [e4, List.getElem?_set_self hkl], ?_⟩
      rw [hn]
      refine ⟨hreg, rfl, rfl, rfl, rfl, rfl, ?_, ?_, ?_⟩
      · intro p hp _
        show lnkOf ((List.replicate _ 0).getD p 0) = lnkM _ ((List.replicate _ 0).getD p 0) ((List.replicate _ 0).getD p 0)
        rw [rep_get]
        rfl
      · intro p hp _
        rfl
      · intro p hp (hk : (List.replicate _ 0).getD p 0 ≠ 0)
        exact absurd (rep_get _ p) hk
  · intro o x k0 g (hx : (m.objs ++ [newM region id count (mayM m region id count).1])[o]? = some x) ht hg
    by_cases ho : o < m.objs.length
    · rw [List.getElem?_append_left ho] at hx
      rw [List.getElem?_append_left (by rw [R.len]; exact ho)] at ht
      intro e h1
      rw [e4] at h1
      rcases tab_set h1 with ⟨rfl, h2, _⟩ | ⟨_, h2⟩
      · injection h2 with h2 _
        subst h2
        exact hnew o ht
      · exact R.gone o x k0 g hx ht hg e h2
    · have hol := (List.getElem?_eq_some_iff.1 hx).1
      rw [List.length_append] at hol
      obtain rfl : o = m.objs.length := by simp at hol; omega
      rw [List.getElem?_append_right (Nat.le_refl _), Nat.sub_self] at hx
      injection hx with hx
      subst hx
      cases hg
  · intro k0 g e h1
    rw [e4] at h1
    rcases tab_set h1 with ⟨rfl, h2, _⟩ | ⟨_, h2⟩
    · injection h2 with h2 _
      subst h2
      exact ⟨told.length, by rw [List.getElem?_append_right (Nat.le_refl _), Nat.sub_self]; rfl⟩
    · obtain ⟨o, ho⟩ := R.used k0 g e h2
      exact ⟨o, by rw [List.getElem?_append_left (List.getElem?_eq_some_iff.1 ho).1]; exact ho⟩
  · intro o k0 g ht
    rw [e4]
    by_cases ho : o < told.length
    · rw [List.getElem?_append_left ho] at ht
      obtain ⟨t, h1, h2⟩ := R.gens o k0 g ht
      by_cases hkk : k = k0
      · subst hkk
        rw [hk] at h1
        injection h1 with h1
        subst h1
        exact ⟨_, List.getElem?_set_self hkl, by show g ≤ g0 + 1; have h2 : g ≤ g0 := h2; omega⟩
      · exact ⟨t, by rw [List.getElem?_set_ne hkk]; exact h1, h2⟩
    · have hol := (List.getElem?_eq_some_iff.1 ht).1
      rw [List.length_append] at hol
      obtain rfl : o = told.length := by simp at hol; omega
      rw [List.getElem?_append_right (Nat.le_refl _), Nat.sub_self] at ht
      injection ht with ht
      injection ht with h1 h2
      subst h1 h2
      exact ⟨_, List.getElem?_set_self hkl, Nat.le_refl _⟩
  · refine List.nodup_append.2 ⟨R.nodup, by simp, ?_⟩
    intro a ha b hb
    simp only [List.mem_singleton] at hb
    subst hb
    rintro rfl
    obtain ⟨n, h⟩ := List.mem_iff_getElem?.1 ha
    exact hnew n h
end Go.Proofs.YtcaaojbnjfdglaaGreatDoor
namespace Go.Proofs.YtcaaojbnjfdglaaGreatDoor
open Go.SL

def tkc (l : List (Nat × Nat)) : List Value := l.flatMap fun t => [.int .i64 (t.1 : Nat), .int .i64 (t.2 : Nat)]
theorem tkc_length (l : List (Nat × Nat)) : (tkc l).length = l.length * 2 := by
  induction l with
  | nil => rfl
  | cons p L ih => simp only [tkc, List.flatMap_cons, List.length_append, List.length_cons, List.length_nil] at ih ⊢; omega
theorem tkc_append (a b : List (Nat × Nat)) : tkc (a ++ b) = tkc a ++ tkc b := by simp [tkc]
theorem tkc_get {L : List (Nat × Nat)} {i : Nat} {p : Nat × Nat} (h : L[i]? = some p) : (tkc L)[i * 2]? = some (.int .i64 (p.1 : Nat)) ∧ (tkc L)[i * 2 + 1]? = some (.int .i64 (p.2 : Nat)) := by
  induction L generalizing i with
  | nil => simp at h
  | cons x L ih =>
    cases i with
    | zero =>
      simp at h
      subst h
      exact ⟨rfl, rfl⟩
    | succ i =>
      have := ih (i := i) (by simpa using h)
      rw [show (i + 1) * 2 = i * 2 + 2 by omega]
      exact this
theorem tkc_el {c : List Value} {o n : Nat} {L : List (Nat × Nat)} (h : Reads c o n (tkc L)) {i : Nat} {p : Nat × Nat} (hp : L[i]? = some p) : Reads c (o + i * 2) 2 [.int .i64 (p.1 : Nat), .int .i64 (p.2 : Nat)] := by
  obtain ⟨h1, h2⟩ := tkc_get hp
  refine h.part (es := [.int .i64 (p.1 : Nat), .int .i64 (p.2 : Nat)]) fun j v hj => ?_
  match j, hj with
  | 0, hj => rw [← hj]; exact h1
  | 1, hj => rw [← hj]; exact h2
theorem tkc_reads {L : List (Nat × Nat)} {spare : List Value} {i : Nat} {p : Nat × Nat} (h : L[i]? = some p) : Reads (tkc L ++ spare) (0 + i * 2) 2 [.int .i64 (p.1 : Nat), .int .i64 (p.2 : Nat)] := by
  refine tkc_el (L := L) (n := (tkc L).length) (Reads.of_get fun j v hj => ?_) h
  rw [Nat.zero_add, List.getElem?_append_left (List.getElem?_eq_some_iff.1 hj).1]
  exact hj

@[reducible] def TKL (v : Value) (told : List (Nat × Nat)) : HProp := sls 32 2 v (tkc told)
@[reducible] def RROW (p c mo : Nat) (v : Value) : HProp := pts p (row 40 [pp c, pp mo, v])
structure RQ where
  c : Nat
  mo : Nat
  v : Value
def RUN (p : Nat) (s : CS) (m : MS) (told : List (Nat × Nat)) : HProp := ex fun q : RQ => star [RROW p q.c q.mo q.v, CELL q.c s, MODEL q.mo m, TKL q.v told]
theorem RUN_out [Extra] {w : World} {p : Nat} {s : CS} {m : MS} {told : List (Nat × Nat)} {l : List HProp} (H : Holds w (RUN p s m told :: l)) : ∃ (c mo : Nat) (a : Option Addr) (cap : Nat), Holds w (RROW p c mo (.slice a told.length cap) :: CELL c s :: MODEL mo m :: TKL (.slice a told.length cap) told :: l) := by
  obtain ⟨⟨c, mo, v⟩, H⟩ := Holds.ex.1 H
  have H := Holds.star.1 H
  obtain ⟨a, cap, rfl⟩ := sls_slice (H.drop.drop.drop) (tkc_length told) (by decide)
  exact ⟨c, mo, a, cap, H⟩
theorem RUN_in [Extra] {w : World} {p c mo : Nat} {v : Value} {s : CS} {m : MS} {told : List (Nat × Nat)} {l : List HProp} (H : Holds w (RROW p c mo v :: CELL c s :: MODEL mo m :: TKL v told :: l)) : Holds w (RUN p s m told :: l) :=
  Holds.ex.2 ⟨⟨c, mo, v⟩, Holds.star.2 H⟩

theorem pick_spec [Extra] (p c mo : Nat) (a : Option Addr) (cap : Nat) (told : List (Nat × Nat)) (hlen : told.length ≤ 1000000) (k i g : Int) (raw : Bool) {w : World} {fr : List HProp} (H : Holds w (RROW p c mo (.slice a told.length cap) :: TKL (.slice a told.length cap) told :: fr)) :
    Calls Tryz.prog 16 #[pp p, .int .i64 k, .bool raw, tkI2 i g] w (ret fun v w' => ∃ i' g' o, v = .tuple #[tkI2 i' g', .int .i64 o] ∧ Pick told i' g' o ∧ (raw = false → told ≠ [] → o ≠ -1) ∧ (raw = true ∨ told = [] → i' = i ∧ g' = g) ∧ Holds w' (RROW p c mo (.slice a told.length cap) :: TKL (.slice a told.length cap) told :: fr)) := by
  refine calls_of Tryz.func16 rfl (by kernel_rfl) ?_
  refine J6 H ?_
  clear H; intro b7 w H
  refine J19 H ?_
  clear H; intro b8 w H
  refine J24 H ?_
  refine C_join (fun ms σ w => ms = [] ∧ (∃ q, σ 21 = .bool q ∧ (q = true ↔ raw = false ∧ told ≠ [])) ∧ σ 0 = pp p ∧ σ 1 = .int .i64 k ∧ σ 7 = pp b7 ∧ σ 8 = pp b8 ∧ Holds w (pts b7 (row 32 [.int .i64 i, .int .i64 g]) :: pts b8 (row 32 [.int .i64 0, .int .i64 0]) :: RROW p c mo (.slice a told.length cap) :: TKL (.slice a told.length cap) told :: fr)) ?_ ?_
  · cases raw with
    | true =>
      refine J10 H ?_
      refine J130 H ?_
      refine J164 H ?_
      refine J0 H ?_
      exact ⟨rfl, rfl, ⟨false, rfl, by simp⟩, rfl, rfl, rfl, rfl, H.swap⟩
    | false =>
      refine J205 H ?_
      refine J159 H ?_
      refine J0 H ?_
      refine ⟨rfl, rfl, ⟨_, rfl, ?_⟩, rfl, rfl, rfl, rfl, H.swap⟩
      cases told with
      | nil => simp
      | cons x l =>
        refine ⟨fun _ => ⟨rfl, by simp⟩, fun _ => ?_⟩
        show decide ((((x :: l).length : Nat) : Int) > 0) = true
        exact decide_eq_true (by rw [List.length_cons]; omega)
  clear H
  rintro ms σ w ⟨rfl, ⟨q, g21, hq⟩, g0, g1, g7, g8, H⟩
  rw [upd_self g21, upd_self g0, upd_self g1, upd_self g7, upd_self g8]
  refine J12 H ?_
  refine C_join (fun ms σ w => ms = [] ∧ σ 0 = pp p ∧ σ 7 = pp b7 ∧ σ 8 = pp b8 ∧ ∃ i' g' : Int, (raw = false → told ≠ [] → ∃ n x y : Nat, told[n]? = some (x, y) ∧ i' = x ∧ g' = y) ∧ (raw = true ∨ told = [] → i' = i ∧ g' = g) ∧ Holds w (pts b7 (row 32 [.int .i64 i', .int .i64 g']) :: pts b8 (row 32 [.int .i64 0, .int .i64 0]) :: RROW p c mo (.slice a told.length cap) :: TKL (.slice a told.length cap) told :: fr)) ?_ ?_
  · cases q with
    | true =>
      obtain ⟨hq1, hq2⟩ := hq.1 rfl
      refine J11 H ?_
      refine J1 H ?_
      clear H; intro w H
      refine J15 H ?_
      refine A_load1 3 [16] H rfl (Wants.none rfl) rfl rfl (by kernel_rfl) ?_
      refine J70 H ?_
      refine A_convI 5 rfl (Wants.none rfl) rfl (by kernel_rfl) ?_
      refine J126 H ?_
      refine J128 H ?_
      refine A_load1 9 [16] H rfl (Wants.none rfl) rfl rfl (by kernel_rfl) ?_
      refine A_lenSlice 10 rfl (Wants.none rfl) rfl (by kernel_rfl) ?_
      refine A_convI 11 rfl (Wants.none rfl) rfl (by kernel_rfl) ?_
      obtain ⟨K, hK⟩ : ∃ K : Nat, IntKind.u64.wrap k = K := ⟨(IntKind.u64.wrap k).toNat, by
        have : 0 ≤ IntKind.u64.wrap k := Int.emod_nonneg _ (by decide)
        omega⟩
      have hlp : 0 < told.length := List.length_pos_iff.2 hq2
      have e1 : IntKind.u64.wrap (told.length : Int) = (told.length : Int) := Int.emod_eq_of_lt (by omega) (by show (told.length : Int) < 18446744073709551616; omega)
      rw [hK, e1]
      have hmod := Nat.mod_lt K hlp
      refine A_pv (v := .int .u64 ((K % told.length : Nat) : Int)) 12 rfl (Wants.none rfl) (by
        show (if IntKind.u64 = IntKind.u64 then (if (told.length : Int) = 0 then none else some (Value.int IntKind.u64 (Int.tmod (K : Int) (told.length : Int)))) else none) = _
        rw [if_pos rfl, if_neg (by omega), Int.tmod_eq_emod_of_nonneg (by omega), Int.natCast_emod]) (by kernel_rfl) ?_
      refine A_convI 13 rfl (Wants.none rfl) rfl (by kernel_rfl) ?_
      rw [wrap64 (x := ((K % told.length : Nat) : Int)) (by omega) (by omega)]
      generalize K % told.length = n at hmod
      have hn := List.getElem?_eq_getElem hmod
      generalize told[n] = xy at hn
      obtain ⟨x, y⟩ := xy
      replace H := Js [3,0,0,0] 0 H
      obtain ⟨bT, sT, rfl, H, hcl⟩ := sls_open H hlp
      refine A_indexAddr 14 rfl (Wants.none rfl) rfl rfl (by omega) (by omega) (by kernel_rfl) ?_
      refine A_loadN 15 [16] H rfl (Wants.none rfl) rfl (tkc_reads hn) (by kernel_rfl) ?_
      refine Jo 16 H ?_
      refine J40 H ?_
      clear H; intro w H
      replace H := hcl _ _ H
      refine J2 H ?_
      replace H := Js [1,1,1,0] 0 H
      exact ⟨rfl, rfl, rfl, rfl, rfl, x, y, fun _ _ => ⟨n, x, y, hn, rfl, rfl⟩, fun h => absurd h (by rintro (h | h); exact absurd (hq1.symm.trans h) (by decide); exact hq2 h), H⟩
    | false =>
      refine J8 H ?_
      refine ⟨rfl, rfl, rfl, rfl, rfl, i, g, ?_, fun _ => ⟨rfl, rfl⟩, H⟩
      intro h1 h2
      exact absurd (hq.2 ⟨h1, h2⟩) (by decide)
  clear H
  rintro ms σ w ⟨rfl, g0, g7, g8, i', g', hin, hout, H⟩
  rw [upd_self g0, upd_self g7, upd_self g8]
  refine J169 H ?_
  refine J75 H ?_
  refine C_loop (fun ms σ w q => ms = [] ∧ ∃ j : Nat, j ≤ told.length ∧ q = told.length - j ∧ (∀ (n x y : Nat), n < j → told[n]? = some (x, y) → ¬(i' = x ∧ g' = y)) ∧ σ 7 = pp b7 ∧ σ 8 = pp b8 ∧ σ 41 = .slice a told.length cap ∧ σ 42 = .int .i64 told.length ∧ σ 43 = .int .i64 j ∧ Holds w (TKL (.slice a told.length cap) told :: pts b7 (row 32 [.int .i64 i', .int .i64 g']) :: pts b8 (row 32 [.int .i64 0, .int .i64 0]) :: RROW p c mo (.slice a told.length cap) :: fr)) (m := told.length) ⟨rfl, 0, by omega, rfl, by omega, rfl, rfl, rfl, rfl, rfl, H.sel [3, 0, 0, 0] 0⟩ ?_
  clear H
  rintro ms σ w q ⟨rfl, j, hj, rfl, hno, g7, g8, g41, g42, g43, H⟩
  rw [upd_self g7, upd_self g8, upd_self g41, upd_self g42, upd_self g43]
  refine J25 H ?_
  refine C_dec rfl (fun h => C_skip ?_) (fun h => C_exit ?_)
  · have hlt : j < told.length := by omega
    have hn := List.getElem?_eq_getElem hlt
    generalize told[j] = xy at hn
    obtain ⟨x, y⟩ := xy
    obtain ⟨bT, sT, rfl, H, hcl⟩ := sls_open H (by omega)
    refine J23 H ?_
    refine J16 H ?_
    refine Lp_s rfl (St_indexAddr rfl rfl (by omega) (by omega) rfl ?_)
    refine Lp_s rfl (St_loadN H rfl (tkc_reads hn) rfl ?_)
    refine J19 H ?_
    clear H; intro b11 w H
    refine Lp_pv rfl rfl ?_
    refine Lp_s rfl (St_storeN H rfl rfl inferInstance rfl rfl (Nat.le_of_ble_eq_true rfl) rfl ?_)
    clear H; intro w H
    refine Lp_nil ?_
    refine J30 H ?_
    refine J54 H ?_
    refine Lp_s rfl (St_eqPair rfl rfl (.inl rfl) rfl ?_)
    refine Lp_nil ?_
    replace H := H.drop
    refine C_dec (p := ((x : Int), (y : Int)) = (i', g')) rfl (fun he => ?_) (fun he => C_skip ?_)
    · injection he with h1 h2
      subst h1 h2
      refine J91 H ?_
      clear H; intro w H
      refine J0 H ?_
      replace H := hcl _ _ H
      replace H := Js [2,2,0] 1 H
      refine C_ret (Jz H (fun w' H' => .cellN H' rfl (by repeat (first | exact Reads.nil _ | apply Reads.cons rfl)) (.tmp .nil)) fun w' H' => ⟨x, y, j, rfl, .inl ⟨x, y, j, rfl, rfl, rfl, hn⟩, fun _ _ => by omega, hout, H'.drop⟩)
    · replace H := hcl _ _ H
      refine J3 H ?_
      refine ⟨_, ⟨rfl, j + 1, hlt, rfl, ?_, rfl, rfl, rfl, rfl, inc64 (by omega), H⟩, by omega⟩
      intro n x' y' hnj hn' hc
      by_cases hnj' : n = j
      · subst hnj'
        rw [hn] at hn'
        injection hn' with hn'
        injection hn' with h1 h2
        subst h1 h2
        exact he (by rw [hc.1, hc.2])
      · exact hno n x' y' (by omega) hn' hc
  · have hge : j = told.length := by omega
    subst hge
    refine J85 H ?_
    clear H; intro w H
    refine J0 H ?_
    replace H := Js [2,2,0] 1 H
    refine C_ret (Jz H (fun w' H' => .cellN H' rfl (by repeat (first | exact Reads.nil _ | apply Reads.cons rfl)) (.tmp .nil)) fun w' H' => ⟨i', g', -1, rfl, .inr ⟨rfl, ?_⟩, ?_, hout, H'.drop⟩)
    · intro x y n h1 h2 hn
      exact hno n x y (List.getElem?_eq_some_iff.1 hn).1 hn ⟨h1, h2⟩
    · intro h1 h2 _
      obtain ⟨n, x, y, hn, h3, h4⟩ := hin h1 h2
      exact hno n x y (List.getElem?_eq_some_iff.1 hn).1 hn ⟨h3, h4⟩
end Go.Proofs.YtcaaojbnjfdglaaGreatDoor
namespace Go.Proofs.YtcaaojbnjfdglaaGreatDoor
open Go.SL

theorem veq_refl3 (a b c : Int) : veq [.int .i64 a, .int .i64 b, .int .i64 c] [.int .i64 a, .int .i64 b, .int .i64 c] = true := by
  simp [veq]

theorem eql_veq (xs ys : List Value) : (if isEql BinOp.eql = true then veq xs ys else !veq xs ys) = veq xs ys := if_pos rfl

theorem link_spec [Extra] (p c mo : Nat) (a : Option Addr) (cap : Nat) (told : List (Nat × Nat)) (kd t : Nat) (hkd : kd ≤ 2) (ht : kd = 2 → t < told.length) {w : World} {fr : List HProp} (H : Holds w (RROW p c mo (.slice a told.length cap) :: TKL (.slice a told.length cap) told :: fr)) :
    Calls Tryz.prog 50 #[pp p, lkv (lnkM told kd t), .int .i64 kd, .int .i64 t] w (ret fun v w' => v = .bool true ∧ Holds w' (RROW p c mo (.slice a told.length cap) :: TKL (.slice a told.length cap) told :: fr)) := by
  by_cases h2 : kd = 2
  · subst h2
    have hlt := ht rfl
    have hn := List.getElem?_eq_getElem hlt
    generalize told[t] = xy at hn
    obtain ⟨x, y⟩ := xy
    have hln : lnkM told 2 t = .obj x y := by unfold lnkM; rw [if_pos rfl, hn]; rfl
    rw [hln]
    refine calls_of Tryz.func50 rfl (by kernel_rfl) ?_
    refine J6 H ?_
    clear H; intro b5 w H
    refine J22 H ?_
    refine J11 H ?_
    replace H := Js [2,0,0] 0 H
    obtain ⟨bT, sT, rfl, H, hcl⟩ := sls_open H (by omega)
    refine J1 H ?_
    clear H; intro w H
    refine J170 H ?_
    refine A_load1 4 [] H rfl (Wants.none rfl) rfl rfl (by kernel_rfl) ?_
    refine A_lenSlice 5 rfl (Wants.none rfl) rfl (by kernel_rfl) ?_
    refine J186 H ?_
    rw [show decide ((t : Int) < (told.length : Int)) = true from decide_eq_true (by omega)]
    refine J67 H ?_
    refine A_loadN 8 [] H rfl (Wants.of rfl rfl rfl) rfl (by repeat (first | exact Reads.nil _ | apply Reads.cons rfl)) (by kernel_rfl) ?_
    refine J254 H ?_
    refine A_pv 10 rfl (Wants.of rfl rfl rfl) rfl (by kernel_rfl) ?_
    refine A_fieldAddr 11 rfl (Wants.of rfl rfl rfl) rfl (by kernel_rfl) ?_
    refine A_load1 12 [] H rfl (Wants.of rfl rfl rfl) rfl rfl (by kernel_rfl) ?_
    refine A_pv 13 rfl (Wants.of rfl rfl rfl) rfl (by kernel_rfl) ?_
    refine A_indexAddr 14 rfl (Wants.of rfl rfl rfl) rfl rfl (by omega) (by omega) (by kernel_rfl) ?_
    refine A_loadN 15 [] H rfl (Wants.of rfl rfl rfl) rfl (tkc_reads hn) (by kernel_rfl) ?_
    refine A_build 16 rfl (Wants.of rfl rfl rfl) rfl (by kernel_rfl) ?_
    refine A_eqAgg 17 rfl (Wants.of rfl rfl rfl) rfl rfl rfl rfl (.inl rfl) (by kernel_rfl) ?_
    rw [eql_veq, veq_refl3]
    refine J187 H ?_
    refine J255 H ?_
    refine J2 H ?_
    replace H := hcl _ _ H
    replace H := Js [2,0] 1 H
    exact C_ret (Jy H rfl fun w' H' => ⟨rfl, H'⟩)
  · have hln : lkv (lnkM told kd t) = .agg #[.int .i64 kd, .int .i64 0, .int .i64 0] := by
      unfold lnkM
      rw [if_neg h2]
      by_cases h1 : kd = 1
      · subst h1; rfl
      · obtain rfl : kd = 0 := by omega
        rfl
    rw [hln]
    refine calls_of Tryz.func50 rfl (by kernel_rfl) ?_
    refine J6 H ?_
    clear H; intro b5 w H
    refine J22 H ?_
    rw [show ((kd : Int) == 2) = false by simp; omega]
    refine J8 H ?_
    refine J30 H ?_
    refine J9 H ?_
    refine J99 H ?_
    refine Lp_s rfl (St_eqAgg rfl rfl rfl rfl (.inl rfl) rfl ?_)
    refine J0 H ?_
    have hv := veq_refl3 kd 0 0
    exact C_ret (Jy H.drop rfl fun w' H' => ⟨congrArg Value.bool ((eql_veq _ _).trans hv), H'⟩)
end Go.Proofs.YtcaaojbnjfdglaaGreatDoor
