/- Cells: what is proved on the way: every input of the statement; no condition. Texts joined: WhoD LawW. -/
import Derived.Test.YtcaaojbnjfdglaaGreatDoorChf
import Derived.Test.YtcaaojbnjfdglaaGreatDoorChq
import Derived.Test.YtcaaojbnjfdglaaGreatDoorChp
set_option linter.unusedVariables false
set_option linter.unusedSimpArgs false
set_option linter.unusedSectionVars false
namespace Go.Proofs.YtcaaojbnjfdglaaGreatDoor
open Go.SL

def SeenIn (s : CS) (S : List (Int × Int)) (ks : List Nat) : Prop := ∀ r v, fnd S r = some v → ∃ k ∈ ks, ∃ (g : Nat) (e : Ent), s.tab[k]? = some ⟨g, some e⟩ ∧ (e.addr : Int) ≤ r ∧ r < (endOf e : Int)
def SeenTo (s : CS) (S : List (Int × Int)) (ks : List Nat) (e : Ent) (j : Nat) : Prop := ∀ r v, fnd S r = some v → (∃ k ∈ ks, ∃ (g : Nat) (e : Ent), s.tab[k]? = some ⟨g, some e⟩ ∧ (e.addr : Int) ≤ r ∧ r < (endOf e : Int)) ∨ ((e.addr : Int) ≤ r ∧ r < (e.addr : Int) + j)
theorem abs_list [Extra] {w : World} {l : List HProp} (H : Holds w l) : ∃ X, X = l ∧ Holds w X := ⟨l, rfl, H⟩
set_option maxRecDepth 10000 in
theorem Whole_spec [Extra] (p : Nat) (s : CS) (m : MS) (told : List (Nat × Nat)) (R : Rel s m told) (hI : Inv s) {w : World} {fr : List HProp} [hT : HasTab 0 Lib.deBruijn64tab fr] (H : Holds w (RUN p s m told :: fr)) :
    Calls Tryz.prog 33 #[pp p] w (ret fun v w' => v = .bool true ∧ Holds w' (RUN p s m told :: fr)) := by
  obtain ⟨c, mo, a, cap, H⟩ := RUN_out H
  obtain ⟨q, mem, hw, hm, H⟩ := CELL_out H.swap
  replace H := Js [4,0,9,4,0,0,0,0,0,0,0,0,0,0] 0 H
  obtain ⟨tq, H, hTAB⟩ := TAB_X H
  refine calls_of Tryz.func33 rfl (by kernel_rfl) ?_
  refine J18 H ?_
  clear H; intro b2 w H
  refine Lp_nil ?_
  refine J41 H ?_
  refine J19 H ?_
  clear H; intro b3 w H
  refine J143 H ?_
  clear H; intro w H
  refine Lp_nil ?_
  refine J110 H ?_
  refine Lp_s rfl (St_makeMap v1 (ki .i64) H rfl ?_)
  clear H; intro bm w H
  refine J19 H ?_
  clear H; intro b4 w H
  refine J143 H ?_
  clear H; intro w H
  refine J114 H ?_
  refine J9 H ?_
  refine J29 H ?_
  refine Jc rfl rfl (tAll_spec q.tp (H.sel [3, 0, 0, 0] 0)) ?_
  clear H; rintro v w ⟨bt, rfl, H⟩
  dsimp only [SL.sel, SL.pull, List.drop] at H
  refine J153 H ?_
  refine C_join (fun ms σ w => (∃ D, ms = [D] ∧ Holds w (pts D (.deferred (some [])) :: RROW p c mo (.slice a told.length cap) :: CELL c s :: MODEL mo m :: TKL (.slice a told.length cap) told :: pts b2 (row 4 [.bool false]) :: pts b3 (row 36 [pp c]) :: fr)) ∧ σ 0 = pp p ∧ σ 2 = pp b2 ∧ σ 3 = pp b3) ?_ ?_
  · refine C_block (C_rangeFunc (a := []) (b := [pp bt]) H rfl (fun yl D w H => ?_))
    generalize hL : LR _ yl _ _ _ _ D .ready = L at H ⊢
    obtain ⟨J, hJ⟩ : ∃ J : List Nat → HProp, J = fun ks => ex fun S : List (Int × Int) => star [prop (SeenIn s S ks), mp (ki .i64) v1 bm S, L, pts b4 (row 155 [.map (some bm)]), pts b3 (row 36 [pp c]), CROW c q, TRE q.trp s.last s.par, mp (ki .i64) ptrv q.mm (s.mns.map mnkey), star (s.mns.map mnres), IMG q.ip q.sp q.bp, BOOK q.bp s.lays, ST q.sp s.size mem s.own] := ⟨_, rfl⟩
    have hin : ∀ (ks : List Nat) (S : List (Int × Int)) (w : World) (l' : List HProp), SeenIn s S ks → Holds w (mp (ki .i64) v1 bm S :: L :: pts b4 (row 155 [.map (some bm)]) :: pts b3 (row 36 [pp c]) :: CROW c q :: TRE q.trp s.last s.par :: mp (ki .i64) ptrv q.mm (s.mns.map mnkey) :: star (s.mns.map mnres) :: IMG q.ip q.sp q.bp :: BOOK q.bp s.lays :: ST q.sp s.size mem s.own :: l') → Holds w (J ks :: l') := by
      intro ks S w l' h H
      rw [hJ]
      exact Holds.ex.2 ⟨S, Holds.star.2 (Holds.prop.2 ⟨h, H⟩)⟩
    have hout : ∀ (ks : List Nat) (w : World) (l' : List HProp), Holds w (J ks :: l') → ∃ S, SeenIn s S ks ∧ Holds w (mp (ki .i64) v1 bm S :: L :: pts b4 (row 155 [.map (some bm)]) :: pts b3 (row 36 [pp c]) :: CROW c q :: TRE q.trp s.last s.par :: mp (ki .i64) ptrv q.mm (s.mns.map mnkey) :: star (s.mns.map mnres) :: IMG q.ip q.sp q.bp :: BOOK q.bp s.lays :: ST q.sp s.size mem s.own :: l') := by
      intro ks w l' H
      rw [hJ] at H
      obtain ⟨S, H⟩ := Holds.ex.1 H
      exact ⟨S, Holds.prop.1 (Holds.star.1 H)⟩
    replace H := Js [5,0,3,3,4,9,11,11,6,6,6,1,2,0,0,0,0,0,0,0,0] 0 H
    replace H := hin [] [] _ _ (fun r v h => by cases h) H
    refine call (TabIter yl bt q.tp s.tab tq J ?_ H) ?_
    · clear H
      intro ks k g e rest w hk hpre H
      obtain ⟨t1, hpre⟩ := hpre
      obtain ⟨S, hS, H⟩ := hout _ _ _ H
      subst hL
      replace H := Js [1,0,0,0,0,0,0,0,0,0,0,0] 0 H
      refine Yields_of (args := [tkn k g, .agg (evl e).toArray]) H rfl rfl ?_
      refine J18 H ?_
      clear H; intro b5 w H
      refine J7 H ?_
      clear H; intro w H
      refine Lp_nil ?_
      refine J18 H ?_
      clear H; intro b6 w H
      refine J7 H ?_
      clear H; intro w H
      refine Lp_nil ?_
      replace H := Js [2,0,0,0,0,0,0,0,0,0,0,0,0,0] 0 H
      refine ⟨rfl, _, H, fun w H => C_block ?_⟩
      generalize hLB : LR _ yl _ _ _ _ D .busy = LB at H ⊢
      replace H := Js [10,10,10,6,5,1,1,0,0,0,0,0,0,0] 0 H
      refine J12 H ?_
      refine C_join (fun ms σ w => ms = [] ∧ ∃ b7, σ 3 = pp b3 ∧ σ 4 = pp b4 ∧ σ 5 = pp b5 ∧ σ 6 = pp b6 ∧ σ 7 = pp b7 ∧ σ 8 = .int .i64 ((e.ws.length + 1 : Nat) : Int) ∧ σ 9 = .int .i64 0 ∧ Holds w (pts b7 (row 127 [.int .i64 e.lay, .int .i64 e.count, .int .i64 k]) :: IMG q.ip q.sp q.bp :: BOOK q.bp s.lays :: ST q.sp s.size mem s.own :: CROW c q :: pts b3 (row 36 [pp c]) :: pts b6 (row 109 (evl e)) :: pts b5 (row 32 [.int .i64 k, .int .i64 g]) :: LB :: mp (ki .i64) v1 bm S :: pts b4 (row 155 [.map (some bm)]) :: TRE q.trp s.last s.par :: mp (ki .i64) ptrv q.mm (s.mns.map mnkey) :: star (s.mns.map mnres) :: TABX q.tp s.tab tq :: rest)) ?_ ?_
      · refine J1 H ?_
        clear H; intro w H
        refine A_load1 0 [6, 12] H rfl (Wants.none rfl) rfl rfl (by kernel_rfl) ?_
        refine J57 H ?_
        refine A_load1 3 [6, 12] H rfl (Wants.none rfl) rfl rfl (by kernel_rfl) ?_
        refine J44 H ?_
        refine A_load1 5 [6, 12] H rfl (Wants.none rfl) rfl rfl (by kernel_rfl) ?_
        refine A_two 6 11 rfl rfl (by kernel_rfl) (by repeat first | exact .nil | refine .cons (.inr H.at) ?_ | refine .cons (.inr H.mp) ?_ | refine .cons (.inl (by kernel_rfl)) ?_) (Wants.none rfl) (Wants.none rfl) (St_call (a := []) (b := []) rfl rfl (call (iAt_spec q.ip q.sp q.bp s.size s.lays mem s.own e.addr e.lay e.count k e.ws.length (layE s e) (img_of hw hm hk) H) ?_)) (St_alloc H rfl ?_)
        · clear H; rintro v w ⟨rfl, H⟩
          refine J252 H ?_
          refine J184 H ?_
          clear H; intro b7 w H
          refine J65 H ?_
          clear H; intro w H
          refine J253 H ?_
          exact ⟨rfl, rfl, b7, rfl, rfl, rfl, rfl, rfl, rfl, rfl, H⟩
        · clear H; intro b7 w H
          refine Jo 6 H ?_
          refine Jk rfl rfl (iAt_spec q.ip q.sp q.bp s.size s.lays mem s.own e.addr e.lay e.count k e.ws.length (layE s e) (img_of hw hm hk) (H.sel [1, 1, 1, 0] 0)) ?_
          clear H; rintro v w ⟨rfl, H⟩
          dsimp only [SL.sel, SL.pull, List.drop] at H
          refine J252 H ?_
          refine J65 H ?_
          clear H; intro w H
          refine J253 H ?_
          replace H := Js [3,0,0,0,0,0,0,0,0,0,0,0,0,0,0] 0 H
          exact ⟨rfl, rfl, b7, rfl, rfl, rfl, rfl, rfl, rfl, rfl, H⟩
      clear H
      rintro ms σ w ⟨rfl, b7, g3, g4, g5, g6, g7, g8, g9, H⟩
      rw [upd_self g3, upd_self g4, upd_self g5, upd_self g6, upd_self g7, upd_self g8, upd_self g9]
      have hndp := TRE_keys (H.pull 11)
      obtain ⟨_, _, y, hy⟩ := hw.obj k g e hk
      have hlive : (fnd s.par e.region).isSome = true := by rw [(fnd_iff hndp).2 hy]; rfl
      have hrk : e.region ∈ s.mns.map (·.1) := by rw [hw.mkeys]; exact List.mem_map.2 ⟨(e.region, y), hy, rfl⟩
      obtain ⟨b2', hkM⟩ := fnd_keys (l := s.mns) (f := fun x => x.1) (g := fun x => x.2.1) (k := e.region) hrk
      obtain ⟨⟨r1, b1, QL⟩, m1, m2, hmns, h11, h12⟩ := fnd_split hkM
      have h11 : r1 = e.region := h11
      have h12 : b1 = b2' := h12
      subst h11 h12
      have hkM' : fnd (s.mns.map mnkey) e.region = some b1 := hkM
      have hmL := hw.mine (e.region, b1, QL) (by rw [hmns]; simp)
      have hkL : k ∈ QL := (hmL.2 k).2 ⟨g, e, hk, rfl⟩
      have hL1 : QL.length ≤ 100000 := by
        have := ris_len QL 0 64 (fun x hx => ⟨Nat.zero_le _, by
          obtain ⟨g, f, h3, _⟩ := (hmL.2 x).1 hx
          have h4 := (List.getElem?_eq_some_iff.1 h3).1
          have := hw.slots.2
          omega⟩) hmL.1
        omega
      replace H := Js [11,0,0,0,0,0,0,0,0,0,0,0,0,0,0] 0 H
      refine J1 H ?_
      clear H; intro w H
      refine J156 H ?_
      refine A_fieldAddr 3 rfl (Wants.of rfl rfl rfl) rfl (by kernel_rfl) ?_
      refine A_load1 4 [] H rfl (Wants.of rfl rfl rfl) rfl rfl (by kernel_rfl) ?_
      refine A_fieldAddr 5 rfl (Wants.of rfl rfl rfl) rfl (by kernel_rfl) ?_
      refine A_load1 6 [] H rfl (Wants.of rfl rfl rfl) rfl rfl (by kernel_rfl) ?_
      refine J242 H ?_
      rw [show ((k : Int) != (k : Int)) = false from bne_self_eq_false _]
      refine J103 H ?_
      refine A_load1 10 [] H rfl (Wants.of rfl rfl rfl) rfl rfl (by kernel_rfl) ?_
      refine J138 H ?_
      refine A_fieldAddr 12 rfl (Wants.of rfl rfl rfl) rfl (by kernel_rfl) ?_
      refine A_load1 13 [] H rfl (Wants.of rfl rfl rfl) rfl rfl (by kernel_rfl) ?_
      refine A_fieldAddr 14 rfl (Wants.of rfl rfl rfl) rfl (by kernel_rfl) ?_
      refine A_load1 15 [] H rfl (Wants.of rfl rfl rfl) rfl rfl (by kernel_rfl) ?_
      refine Jo 16 H ?_
      refine Jk rfl rfl (Live_spec q.trp s.last s.par e.region H) ?_
      clear H; rintro v w ⟨rfl, H⟩
      rw [hlive]
      refine A_pv 17 rfl (Wants.of rfl rfl rfl) rfl (by kernel_rfl) ?_
      refine J187 H ?_
      refine J255 H ?_
      refine A_load1 20 [] H rfl (Wants.of rfl rfl rfl) rfl rfl (by kernel_rfl) ?_
      refine A_pv 21 rfl (Wants.of rfl rfl rfl) rfl (by kernel_rfl) ?_
      refine A_fieldAddr 22 rfl (Wants.of rfl rfl rfl) rfl (by kernel_rfl) ?_
      refine A_load1 23 [] H rfl (Wants.of rfl rfl rfl) rfl rfl (by kernel_rfl) ?_
      refine A_fieldAddr 24 rfl (Wants.of rfl rfl rfl) rfl (by kernel_rfl) ?_
      refine A_load1 25 [] H rfl (Wants.of rfl rfl rfl) rfl rfl (by kernel_rfl) ?_
      replace H := Js [13,0,0,0,0,0,0,0,0,0,0,0,0,0,0] 0 H
      replace H : Holds w (BAG b1 QL :: star ((m1 ++ m2).map mnres) :: _) := (Holds.pick (R := mnres) (x := (e.region, b1, QL)) hmns).1 H
      refine A_lookup 26 [] (key := e.region) H rfl (Wants.of rfl rfl rfl) rfl rfl tkI (by kernel_rfl) ?_
      rw [hkM']
      refine A_fieldAddr 27 rfl (Wants.of rfl rfl rfl) rfl (by kernel_rfl) ?_
      refine A_load1 28 [] H rfl (Wants.of rfl rfl rfl) rfl rfl (by kernel_rfl) ?_
      refine Jo 29 H ?_
      refine Jk rfl rfl (gHas_spec b1 QL k hmL.1 hL1 H) ?_
      clear H; rintro v w ⟨rfl, H⟩
      rw [decide_eq_true hkL]
      replace H := (Holds.pick (R := mnres) (x := (e.region, b1, QL)) hmns).2 H
      refine A_pv 30 rfl (Wants.of rfl rfl rfl) rfl (by kernel_rfl) ?_
      refine A_pv 31 rfl (Wants.none rfl) rfl (by kernel_rfl) ?_
      refine J121 H ?_
      refine J3 H ?_
      have hlies := (hw.obj k g e hk).2.1
      have hsz := hw.size
      have hkl63 : k < 64 := by
        have h1 := (List.getElem?_eq_some_iff.1 hk).1
        have h2 := hw.slots.2
        omega
      have hmemlen : s.own.length * s.size ≤ 63 * 1024 := Nat.mul_le_mul hw.own.2 hw.size.2
      have hend : e.addr + 1 + e.ws.length ≤ 64512 := by
        have := hlies.1
        unfold endOf at this
        omega
      have hkn : k ∉ ks := by
        have hnd : (usedL s.tab).Nodup := List.nodup_range.filter _
        rw [hpre, List.nodup_append] at hnd
        exact fun h => hnd.2.2 k h k List.mem_cons_self rfl
      replace H := Js [5,10,7,7,6,7,5,3,3,3,1,2,0,1] 1 H
      refine J12 H ?_
      refine C_block (C_loop (fun ms σ w z => ms = [] ∧ ∃ (j : Nat) (S : List (Int × Int)), j ≤ e.ws.length + 1 ∧ z = e.ws.length + 1 - j ∧ SeenTo s S ks e j ∧ σ 3 = pp b3 ∧ σ 4 = pp b4 ∧ σ 5 = pp b5 ∧ σ 6 = pp b6 ∧ σ 73 = .int .i64 ((e.ws.length + 1 : Nat) : Int) ∧ σ 74 = .int .i64 j ∧ Holds w (ST q.sp s.size mem s.own :: mp (ki .i64) v1 bm S :: pts b6 (row 109 (evl e)) :: pts b5 (row 32 [.int .i64 k, .int .i64 g]) :: pts b3 (row 36 [pp c]) :: pts b4 (row 155 [.map (some bm)]) :: CROW c q :: IMG q.ip q.sp q.bp :: BOOK q.bp s.lays :: LB :: TRE q.trp s.last s.par :: mp (ki .i64) ptrv q.mm (s.mns.map mnkey) :: star (s.mns.map mnres) :: TABX q.tp s.tab tq :: rest)) (m := e.ws.length + 1) ⟨rfl, 0, S, by omega, rfl, fun r v h => .inl (hS r v h), rfl, rfl, rfl, rfl, rfl, rfl, H⟩ ?_)
      clear H hS
      rintro ms σ w z ⟨rfl, j, S, hj, rfl, hS, g3, g4, g5, g6, g73, g74, H⟩
      rw [upd_self g3, upd_self g4, upd_self g5, upd_self g6, upd_self g73, upd_self g74]
      refine J25 H ?_
      refine C_dec rfl (fun h => C_skip ?_) (fun h => C_exit ?_)
      · have hjl : j < e.ws.length + 1 := by omega
        have hnone : fnd S ((e.addr + j : Nat) : Int) = none := by
          cases hf : fnd S ((e.addr + j : Nat) : Int) with
          | none => rfl
          | some v =>
            rcases hS _ _ hf with ⟨k2, hk2, g2, e2, h1, h2, h3⟩ | ⟨_, h2⟩
            · have := hw.apart k2 k g2 g e2 e (fun h => hkn (h ▸ hk2)) h1 hk
              unfold endOf at this h3
              omega
            · omega
        refine J100 H ?_
        refine J1 H ?_
        clear H; intro w H
        refine A_load1 0 [20, 21, 23] H rfl (Wants.none rfl) rfl rfl (by kernel_rfl) ?_
        refine A_fieldAddr 1 rfl (Wants.none rfl) rfl (by kernel_rfl) ?_
        refine A_load1 2 [20, 21, 23] H rfl (Wants.none rfl) rfl rfl (by kernel_rfl) ?_
        refine J46 H ?_
        have hw64 : IntKind.i64.wrap ((e.addr : Int) + (j : Int)) = ((e.addr + j : Nat) : Int) := by rw [wrap64 (by omega) (by omega)]; omega
        have hmx : (if (1 : Int) > ((s.size : Nat) : Int) then (1 : Int) else ((s.size : Nat) : Int)) = ((s.size : Nat) : Int) := by split <;> omega
        obtain ⟨rr, hr1, hr2, _⟩ := hlies.2 ((e.addr + j) / s.size) (Nat.div_le_div_right (by omega)) (Nat.div_le_div_right (by omega))
        have hcl := (List.getElem?_eq_some_iff.1 hr1).1
        have hown : ((s.own.getD ((e.addr + j) / s.size) 0 : Nat) : Int) = e.region := by rw [List.getD_eq_getElem?_getD, hr1, Option.getD_some]; exact hr2
        refine J70 H ?_
        rw [hw64]
        refine A_lookup 5 [] (key := ((e.addr + j : Nat) : Int)) H rfl (Wants.none rfl) rfl rfl tkI (by kernel_rfl) ?_
        rw [hnone]
        refine J126 H ?_
        refine A_load1 8 [] H rfl (Wants.of rfl rfl rfl) rfl rfl (by kernel_rfl) ?_
        refine J254 H ?_
        refine J257 H ?_
        refine A_load1 11 [] H rfl (Wants.of rfl rfl rfl) rfl rfl (by kernel_rfl) ?_
        refine A_fieldAddr 12 rfl (Wants.of rfl rfl rfl) rfl (by kernel_rfl) ?_
        refine A_load1 13 [] H rfl (Wants.of rfl rfl rfl) rfl rfl (by kernel_rfl) ?_
        refine J139 H ?_
        refine A_pv 15 rfl (Wants.of rfl rfl rfl) rfl (by kernel_rfl) ?_
        rw [hw64]
        refine A_load1 16 [] H rfl (Wants.of rfl rfl rfl) rfl rfl (by kernel_rfl) ?_
        refine A_pv 17 rfl (Wants.of rfl rfl rfl) rfl (by kernel_rfl) ?_
        refine J245 H ?_
        refine A_fieldAddr 24 rfl (Wants.of rfl rfl rfl) rfl (by kernel_rfl) ?_
        refine A_load1 25 [] H rfl (Wants.of rfl rfl rfl) rfl rfl (by kernel_rfl) ?_
        refine Jo 20 H ?_
        refine Jk rfl rfl (Words_spec q.sp s.size mem s.own H) ?_
        clear H; rintro v w ⟨rfl, H⟩
        refine Jo 21 H ?_
        refine St_max rfl rfl rfl ?_
        rw [hmx]
        refine A_pv (v := .int .i64 (((e.addr + j) / s.size : Nat) : Int)) 22 rfl (Wants.of rfl rfl rfl) (by
          show (if IntKind.i64 = IntKind.i64 then (if ((s.size : Nat) : Int) = 0 then none else some (Value.int IntKind.i64 (IntKind.i64.wrap (Int.tdiv ((e.addr + j : Nat) : Int) ((s.size : Nat) : Int))))) else none) = _
          rw [if_pos rfl, if_neg (by omega), quoN (by omega)]) (by kernel_rfl) ?_
        refine Jo 23 H ?_
        refine Jk rfl rfl (Owner_spec q.sp s.size mem s.own ((e.addr + j) / s.size) H hcl) ?_
        clear H; rintro v w ⟨rfl, H⟩
        rw [hown]
        refine J247 H ?_
        rw [show (e.region != e.region) = false from bne_self_eq_false _]
        refine A_pv 27 rfl (Wants.none rfl) rfl (by kernel_rfl) ?_
        refine J121 H ?_
        refine J64 H ?_
        refine J88 H ?_
        rw [hw64]
        refine J235 H ?_
        rw [show IntKind.i64.wrap (1 + (k : Int)) = ((k + 1 : Nat) : Int) by rw [wrap64 (by omega) (by omega)]; omega]
        refine Lp_s rfl (St_mapUpdate (ek := ki .i64) (vv := v1) (v := ((k + 1 : Nat) : Int)) (key := ((e.addr + j : Nat) : Int)) H rfl rfl rfl tkI rfl ?_)
        clear H; intro w H
        refine J127 H ?_
        exact ⟨_, ⟨rfl, j + 1, _, hjl, rfl, (fun r v h => by
          rw [fnd_ins] at h
          split at h
          · rename_i hr
            exact .inr ⟨by omega, by omega⟩
          · rcases hS r v h with h1 | ⟨h1, h2⟩
            · exact .inl h1
            · exact .inr ⟨h1, by omega⟩), rfl, rfl, rfl, rfl, rfl, inc64 (by omega), H⟩, by omega⟩
      · have hge : j = e.ws.length + 1 := by omega
        subst hge
        have hS' : SeenIn s S (ks ++ [k]) := by
          intro r v h
          rcases hS r v h with ⟨k2, hk2, h1⟩ | ⟨h1, h2⟩
          · exact ⟨k2, List.mem_append.2 (.inl hk2), h1⟩
          · exact ⟨k, by simp, g, e, hk, h1, by unfold endOf; omega⟩
        subst hLB
        replace H := Js [9,1,4,3,3,5,5,5,3,3,0,2] 2 H
        exact ⟨rfl, _, H, fun w H => ⟨rfl, hin _ _ _ _ hS' H.swap⟩⟩
    · clear H
      rintro v w H
      obtain ⟨S, hS, H⟩ := hout _ _ _ H
      subst hL
      replace H := Js [1,11,3,6,6,6,3,9,9,9,3,3,6,6,6,4,4,2] 3 H
      refine ⟨_, H, fun w H => ?_⟩
      replace H := hTAB _ _ H
      replace H := Js [1,1,1,1,0,0,0,0,0,0,0,0,0,0,0,0,0] 0 H
      replace H := CELL_in hw hm H
      replace H := Js [4,1,0,0,0,0,0] 0 H
      exact ⟨rfl, ⟨D, rfl, H⟩, rfl, rfl, rfl⟩
  · clear H
    rintro ms σ w ⟨⟨D, rfl, H⟩, g0, g2, g3⟩
    rw [upd_self g0, upd_self g2, upd_self g3]
    refine J3 H ?_
    replace H := Js [3,1,1,0,0,0,0] 0 H
    obtain ⟨mt, lc, oc, aL, cL, aO, cO, hmw, hm2, hm3, hm4, hm5, H⟩ := MODEL_out H
    replace H := Js [1,0,4,0,0,0,0,0,0,0,0,0] 0 H
    refine J256 H ?_
    refine Jc rfl rfl (All_spec mt m.P (by have := hmw.P.2; omega) H) ?_
    clear H; intro v w H
    obtain ⟨av, cv, rfl⟩ := sls_slice H (ncells_length _) (by decide)
    refine Lp_s rfl (St_lenSlice rfl rfl ?_)
    refine J0 H ?_
    replace H := Js [8,0,0,0,0,0,0,0,0,0,0,0,0] 0 H
    obtain ⟨q2, mem2, _, hm2', H⟩ := CELL_out H
    obtain ⟨fu, hfu⟩ : ∃ fu : Nat → Nat, fu = fun r => ((usedL s.tab).filter fun i => decide (regOf s.tab i = r)).length := ⟨_, rfl⟩
    obtain ⟨fc, hfc⟩ : ∃ fc : Nat → Nat, fc = fun r => ((ownL s.own).filter fun c => decide (s.own.getD c 0 = r)).length := ⟨_, rfl⟩
    have hU : ((allP m.P).map fu).sum = busyT s.tab - goneT s.tab := by rw [hfu, used_count]; exact used_sum hw R
    have hCn : ((allP m.P).map fc).sum = (s.own.filter (· != 0)).length := by rw [hfc, ← ownL_len]; exact own_sum hw R
    have hU63 : ((allP m.P).map fu).sum ≤ 63 := by rw [hU, used_count]; exact Nat.le_trans (used_le s) hw.slots.2
    have hC63 : ((allP m.P).map fc).sum ≤ 63 := by rw [hCn, ← ownL_len]; exact Nat.le_trans (own_le _) hw.own.2
    have hO63 : (s.own.filter (· != 0)).length ≤ s.own.length := List.length_filter_le _ _
    have hOw := hw.own.2
    have hal : (allP m.P).length ≤ 64 := by rw [← len_law R.w]; exact hw.par.1
    replace H := Js [11,9,7,0,18,2,6,5,0,0,0,0,0,0,0,0,0,0,0,0,0,0,0] 0 H
    refine J12 H ?_
    refine C_join (fun ms σ w => ms = [D] ∧ σ 0 = pp p ∧ σ 2 = pp b2 ∧ σ 3 = pp b3 ∧ σ 11 = .int .i64 (((allP m.P).map fu).sum : Nat) ∧ σ 12 = .int .i64 (((allP m.P).map fc).sum : Nat) ∧ Holds w (NL (.slice av (allP m.P).length cv) (allP m.P) :: mp (ki .i64) ptrv q2.mm (s.mns.map mnkey) :: mp (ki .i64) ptrv q2.sm (s.sps.map spkey) :: CROW c q2 :: pts b3 (row 36 [pp c]) :: ST q2.sp s.size mem2 s.own :: star (s.mns.map mnres) :: star (s.sps.map (spres q2.sp)) :: IMG q2.ip q2.sp q2.bp :: BOOK q2.bp s.lays :: TAB q2.tp s.tab :: TRE q2.trp s.last s.par :: RS q2.rp s.rem :: RTR mt m.P :: pts mo (row 56 [pp mt, .slice aL m.lays.length cL, .slice aO m.objs.length cO]) :: RROW p c mo (.slice a told.length cap) :: sls 101 4 (.slice aL m.lays.length cL) (bcells lc) :: star (lc.map bres) :: sls 51 1 (.slice aO m.objs.length cO) (oc.map fun x => pp x.ptr) :: star (oc.map ocr) :: pts D (.deferred (some [])) :: TKL (.slice a told.length cap) told :: pts b2 (row 4 [.bool false]) :: fr)) ?_ ?_
    · refine C_block ?_
      refine C_loop (fun ms σ w z => ms = [D] ∧ ∃ i : Nat, i ≤ (allP m.P).length ∧ z = (allP m.P).length - i ∧ σ 0 = pp p ∧ σ 2 = pp b2 ∧ σ 3 = pp b3 ∧ σ 11 = .int .i64 ((((allP m.P).take i).map fu).sum : Nat) ∧ σ 12 = .int .i64 ((((allP m.P).take i).map fc).sum : Nat) ∧ σ 121 = .slice av (allP m.P).length cv ∧ σ 122 = .int .i64 (allP m.P).length ∧ σ 123 = .int .i64 i ∧ Holds w (NL (.slice av (allP m.P).length cv) (allP m.P) :: mp (ki .i64) ptrv q2.mm (s.mns.map mnkey) :: mp (ki .i64) ptrv q2.sm (s.sps.map spkey) :: CROW c q2 :: pts b3 (row 36 [pp c]) :: ST q2.sp s.size mem2 s.own :: star (s.mns.map mnres) :: star (s.sps.map (spres q2.sp)) :: IMG q2.ip q2.sp q2.bp :: BOOK q2.bp s.lays :: TAB q2.tp s.tab :: TRE q2.trp s.last s.par :: RS q2.rp s.rem :: RTR mt m.P :: pts mo (row 56 [pp mt, .slice aL m.lays.length cL, .slice aO m.objs.length cO]) :: RROW p c mo (.slice a told.length cap) :: sls 101 4 (.slice aL m.lays.length cL) (bcells lc) :: star (lc.map bres) :: sls 51 1 (.slice aO m.objs.length cO) (oc.map fun x => pp x.ptr) :: star (oc.map ocr) :: pts D (.deferred (some [])) :: TKL (.slice a told.length cap) told :: pts b2 (row 4 [.bool false]) :: fr)) (m := (allP m.P).length) ⟨rfl, 0, by omega, rfl, rfl, rfl, rfl, rfl, rfl, rfl, rfl, rfl, H⟩ ?_
      clear H
      rintro ms σ w z ⟨rfl, i, hi, rfl, g0, g2, g3, g11, g12, g121, g122, g123, H⟩
      rw [upd_self g0, upd_self g2, upd_self g3, upd_self g11, upd_self g12, upd_self g121, upd_self g122, upd_self g123]
      refine J25 H ?_
      refine C_dec rfl (fun h => C_skip ?_) (fun h => C_exit ?_)
      · have hlt : i < (allP m.P).length := by omega
        have hn := List.getElem?_eq_getElem hlt
        generalize (allP m.P)[i] = x at hn
        have hsu := sum_take_succ fu hn
        have hsc := sum_take_succ fc hn
        obtain ⟨y, hy1, hy2, hy3⟩ := all_mem.1 (List.mem_of_getElem? hn)
        have hpar := (R.tree (x : Int) y).2 ⟨x, rfl, hy2, hy1, hy3⟩
        obtain ⟨bT, sT, rfl, H, hcl⟩ := sls_open H (by omega)
        refine J58 H ?_
        refine Lp_s rfl (St_indexAddr rfl rfl (by omega) (by omega) rfl ?_)
        refine Lp_s rfl (St_load1 H rfl (ncells_get hn) rfl ?_)
        refine J0 H ?_
        replace H := hcl _ _ H
        obtain ⟨b2', hkM⟩ := fnd_keys (l := s.mns) (f := fun x => x.1) (g := fun x => x.2.1) (k := (x : Int)) (by rw [hw.mkeys]; exact List.mem_map.2 ⟨_, hpar, rfl⟩)
        obtain ⟨⟨r1, b1, QL⟩, m1, m2, hmns, h11, h12⟩ := fnd_split hkM
        have h11 : r1 = (x : Int) := h11
        have h12 : b1 = b2' := h12
        subst h11 h12
        have hkM' : fnd (s.mns.map mnkey) (x : Int) = some b1 := hkM
        obtain ⟨b3', hkS⟩ := fnd_keys (l := s.sps) (f := fun x => x.1) (g := fun x => x.2.1) (k := (x : Int)) (by rw [hw.skeys]; exact List.mem_map.2 ⟨_, hpar, rfl⟩)
        obtain ⟨⟨r2, b0, SP⟩, p1, p2, hsps, h13, h14⟩ := fnd_split hkS
        have h13 : r2 = (x : Int) := h13
        have h14 : b0 = b3' := h14
        subst h13 h14
        have hkS' : fnd (s.sps.map spkey) (x : Int) = some b0 := hkS
        have hQ : QL.length = fu x := by rw [hfu]; exact congrArg List.length (mine_len hw (x := ((x : Int), b1, QL)) (by rw [hmns]; simp))
        have hC : (chunksOf SP.parts).length = fc x := by rw [hfc]; exact spc_len hw (x := ((x : Int), b0, SP)) (by rw [hsps]; simp)
        obtain ⟨hp1, hp2, hp3, hp4⟩ := spc_bounds hw (x := ((x : Int), b0, SP)) (by rw [hsps]; simp)
        have hp1 : SP.parts.length ≤ 63 := hp1
        have hp2 : ∀ y ∈ SP.parts, y.1 + y.2 ≤ 63 := hp2
        have hp3 : (chunksOf SP.parts).length ≤ 63 := hp3
        have hp4 : ∀ c ∈ chunksOf SP.parts, c < s.own.length ∧ (s.own.getD c 0 : Int) = (x : Int) := hp4
        have hu1 := sum_take_le (allP m.P) fu (i + 1)
        have hc1' := sum_take_le (allP m.P) fc (i + 1)
        refine J64 H ?_
        refine J80 H ?_
        refine Lp_s rfl (St_lookup (key := (x : Int)) H rfl rfl tkI rfl ?_)
        rw [hkM']
        refine J258 H ?_
        refine J9 H ?_
        refine Lp_g rfl rfl rfl (St_load1 H rfl rfl rfl ?_)
        refine J166 H ?_
        refine Lp_g rfl rfl rfl (St_lookup (key := (x : Int)) H rfl rfl tkI rfl ?_)
        rw [hkS']
        refine J232 H ?_
        refine J16 H ?_
        refine J62 H ?_
        refine J80 H ?_
        refine Lp_s rfl (St_lookup (key := (x : Int)) H rfl rfl tkI rfl ?_)
        rw [hkM']
        replace H := Js [6,0,0,0,0,0,0] 0 H
        replace H : Holds w (BAG b1 QL :: star ((m1 ++ m2).map mnres) :: _) := (Holds.pick (R := mnres) (x := ((x : Int), b1, QL)) hmns).1 H
        refine Jc rfl rfl (gLen_spec b1 QL H) ?_
        clear H; rintro v w ⟨rfl, H⟩
        replace H := (Holds.pick (R := mnres) (x := ((x : Int), b1, QL)) hmns).2 H
        refine J9 H ?_
        rw [show IntKind.i64.wrap (((((allP m.P).take i).map fu).sum : Nat) + (QL.length : Int)) = (((((allP m.P).take (i + 1)).map fu).sum : Nat) : Int) by rw [wrap64 (by omega) (by omega)]; omega]
        refine J278 H ?_
        refine J80 H ?_
        refine Lp_s rfl (St_lookup (key := (x : Int)) H rfl rfl tkI rfl ?_)
        rw [hkS']
        replace H := Js [7,0,0,0,0,0,0,0] 0 H
        replace H : Holds w (SPC b0 q2.sp x SP :: star ((p1 ++ p2).map (spres q2.sp)) :: _) := (Holds.pick (R := spres q2.sp) (x := ((x : Int), b0, SP)) hsps).1 H
        refine Jc rfl rfl (uChunks_spec b0 q2.sp x SP (by omega) (fun y hy => by have := hp2 y hy; omega) (by omega) H) ?_
        clear H; rintro v w ⟨ac, cc, rfl, H⟩
        refine J0 H ?_
        replace H := Js [1,1,0] 0 H
        replace H := (Holds.pick (R := spres q2.sp) (x := ((x : Int), b0, SP)) hsps).2 H
        replace H := Js [1,7,0,0,0,0,0,0,0] 0 H
        refine J111 H ?_
        obtain ⟨X, hX, H⟩ := abs_list H
        refine J12 H ?_
        refine C_join (fun ms σ w => ms = [D] ∧ σ 0 = pp p ∧ σ 2 = pp b2 ∧ σ 3 = pp b3 ∧ σ 11 = .int .i64 ((((allP m.P).take (i + 1)).map fu).sum : Nat) ∧ σ 12 = .int .i64 ((((allP m.P).take i).map fc).sum : Nat) ∧ σ 15 = .slice ac (chunksOf SP.parts).length cc ∧ σ 121 = .slice (some ⟨bT, 0, none⟩) (allP m.P).length cv ∧ σ 122 = .int .i64 (allP m.P).length ∧ σ 123 = .int .i64 i ∧ Holds w X) ?_ ?_
        · refine C_block ?_
          refine C_loop (fun ms σ w z => ms = [D] ∧ ∃ j : Nat, j ≤ (chunksOf SP.parts).length ∧ z = (chunksOf SP.parts).length - j ∧ σ 0 = pp p ∧ σ 2 = pp b2 ∧ σ 3 = pp b3 ∧ σ 11 = .int .i64 ((((allP m.P).take (i + 1)).map fu).sum : Nat) ∧ σ 12 = .int .i64 ((((allP m.P).take i).map fc).sum : Nat) ∧ σ 14 = .int .i64 x ∧ σ 15 = .slice ac (chunksOf SP.parts).length cc ∧ σ 121 = .slice (some ⟨bT, 0, none⟩) (allP m.P).length cv ∧ σ 122 = .int .i64 (allP m.P).length ∧ σ 123 = .int .i64 i ∧ σ 159 = .slice ac (chunksOf SP.parts).length cc ∧ σ 160 = .int .i64 (chunksOf SP.parts).length ∧ σ 161 = .int .i64 j ∧ Holds w X) (m := (chunksOf SP.parts).length) ⟨rfl, 0, by omega, rfl, rfl, rfl, rfl, rfl, rfl, rfl, rfl, rfl, rfl, rfl, rfl, rfl, rfl, H⟩ ?_
          clear H
          rintro ms σ w z ⟨rfl, j, hj, rfl, g0, g2, g3, g11, g12, g14, g15, g121, g122, g123, g159, g160, g161, H⟩
          rw [upd_self g0, upd_self g2, upd_self g3, upd_self g11, upd_self g12, upd_self g14, upd_self g15, upd_self g121, upd_self g122, upd_self g123, upd_self g159, upd_self g160, upd_self g161]
          refine J25 H ?_
          refine C_dec rfl (fun h => C_skip ?_) (fun h => C_exit ?_)
          · have hlt2 : j < (chunksOf SP.parts).length := by omega
            have hn2 := List.getElem?_eq_getElem hlt2
            obtain ⟨hc1, hc2⟩ := hp4 _ (List.getElem_mem hlt2)
            generalize (chunksOf SP.parts)[j] = ch at hn2 hc1 hc2
            rw [hX] at H
            obtain ⟨bC, sC, rfl, H, hcl2⟩ := sls_open H (by omega)
            refine J58 H ?_
            refine Lp_s rfl (St_indexAddr rfl rfl (by omega) (by omega) rfl ?_)
            refine Lp_s rfl (St_load1 H rfl (ncells_get hn2) rfl ?_)
            refine J0 H ?_
            replace H := hcl2 _ _ H
            refine J64 H ?_
            refine J80 H ?_
            refine Jc rfl rfl (Owner_spec q2.sp s.size mem2 s.own ch H.swap hc1) ?_
            clear H; rintro v w ⟨rfl, H⟩
            have H := H.swap
            rw [hc2]
            refine J4 H ?_
            rw [show ((x : Int) != (x : Int)) = false from bne_self_eq_false _]
            refine J203 H ?_
            exact ⟨_, ⟨rfl, j + 1, hlt2, rfl, rfl, rfl, rfl, rfl, rfl, rfl, rfl, rfl, rfl, rfl, rfl, rfl, inc64 (by omega), by rw [hX]; exact H⟩, by omega⟩
          · exact ⟨rfl, rfl, rfl, rfl, rfl, rfl, rfl, rfl, rfl, rfl, rfl, H⟩
        clear H
        rintro ms σ w ⟨rfl, g0, g2, g3, g11, g12, g15, g121, g122, g123, H⟩
        rw [upd_self g0, upd_self g2, upd_self g3, upd_self g11, upd_self g12, upd_self g15, upd_self g121, upd_self g122, upd_self g123]
        rw [hX] at H
        refine J5 H ?_
        refine Lp_s rfl (St_lenSlice rfl rfl ?_)
        refine J9 H ?_
        rw [show IntKind.i64.wrap (((((allP m.P).take i).map fc).sum : Nat) + ((chunksOf SP.parts).length : Int)) = (((((allP m.P).take (i + 1)).map fc).sum : Nat) : Int) by rw [wrap64 (by omega) (by omega)]; omega]
        refine J0 H ?_
        replace H := Js [4,4,4,4,4,1,2,1] 1 H
        refine J3 H ?_
        exact ⟨_, ⟨rfl, i + 1, hlt, rfl, rfl, rfl, rfl, rfl, rfl, rfl, rfl, inc64 (by omega), H⟩, by omega⟩
      · have hge : i = (allP m.P).length := by omega
        subst hge
        rw [List.take_length]
        exact ⟨rfl, rfl, rfl, rfl, rfl, rfl, rfl, H⟩
    clear H
    rintro ms σ w ⟨rfl, g0, g2, g3, g11, g12, H⟩
    rw [hU] at g11
    rw [hCn] at g12
    rw [upd_self g0, upd_self g2, upd_self g3, upd_self g11, upd_self g12]
    replace H := Js [10,5,1,1,1,1,1,1,1,1,1,1,1,1,1,1,1,1,1,1,1,1] 1 H
    refine J1 H ?_
    clear H; intro w H
    refine J69 H ?_
    refine A_load1 1 [] H rfl (Wants.none rfl) rfl rfl (by kernel_rfl) ?_
    refine A_pv 2 rfl (Wants.none rfl) rfl (by kernel_rfl) ?_
    refine J217 H ?_
    refine A_load1 4 [5] H rfl (Wants.none rfl) rfl rfl (by kernel_rfl) ?_
    refine Jo 5 H ?_
    refine Jk rfl rfl (Used_spec q2.tp s.tab H) ?_
    clear H; rintro v w ⟨rfl, H⟩
    generalize busyT s.tab - goneT s.tab = N
    refine J186 H ?_
    rw [show ((N : Int) == (N : Int)) = true from beq_self_eq_true _]
    refine J67 H ?_
    refine J189 H ?_
    refine J243 H ?_
    refine A_pv 10 rfl (Wants.of rfl rfl rfl) rfl (by kernel_rfl) ?_
    refine A_fieldAddr 11 rfl (Wants.of rfl rfl rfl) rfl (by kernel_rfl) ?_
    refine A_load1 12 [13] H rfl (Wants.of rfl rfl rfl) rfl rfl (by kernel_rfl) ?_
    refine A_load1 14 [] H rfl (Wants.of rfl rfl rfl) rfl rfl (by kernel_rfl) ?_
    refine J244 H ?_
    refine A_load1 17 [18] H rfl (Wants.of rfl rfl rfl) rfl rfl (by kernel_rfl) ?_
    refine Jo 13 H ?_
    refine Jk rfl rfl (Chunks_spec q2.sp s.size mem2 s.own H.swap) ?_
    clear H; rintro v w ⟨rfl, H⟩
    refine Jo 18 H ?_
    refine Jk rfl rfl (Free_spec q2.sp s.size mem2 s.own H) ?_
    clear H; rintro v w ⟨rfl, H⟩
    refine A_pv 19 rfl (Wants.of rfl rfl rfl) rfl (by kernel_rfl) ?_
    rw [show IntKind.i64.wrap ((s.own.length : Int) - ((s.own.length - (s.own.filter (· != 0)).length : Nat) : Int)) = (((s.own.filter (· != 0)).length : Nat) : Int) by rw [wrap64 (by omega) (by omega)]; omega]
    refine A_pv 20 rfl (Wants.of rfl rfl rfl) rfl (by kernel_rfl) ?_
    rw [show ((((s.own.filter (· != 0)).length : Nat) : Int) == (((s.own.filter (· != 0)).length : Nat) : Int)) = true from beq_self_eq_true _]
    refine A_pv 21 rfl (Wants.none rfl) rfl (by kernel_rfl) ?_
    refine A_pv 22 rfl (Wants.none rfl) rfl (by kernel_rfl) ?_
    refine A_load1 23 [] H rfl (Wants.of rfl rfl rfl) rfl rfl (by kernel_rfl) ?_
    refine A_pv 24 rfl (Wants.of rfl rfl rfl) rfl (by kernel_rfl) ?_
    refine A_fieldAddr 25 rfl (Wants.of rfl rfl rfl) rfl (by kernel_rfl) ?_
    refine A_load1 26 [27] H rfl (Wants.of rfl rfl rfl) rfl rfl (by kernel_rfl) ?_
    refine A_load1 28 [] H rfl (Wants.of rfl rfl rfl) rfl rfl (by kernel_rfl) ?_
    refine A_pv 29 rfl (Wants.of rfl rfl rfl) rfl (by kernel_rfl) ?_
    refine A_fieldAddr 30 rfl (Wants.of rfl rfl rfl) rfl (by kernel_rfl) ?_
    refine A_load1 31 [32] H rfl (Wants.of rfl rfl rfl) rfl rfl (by kernel_rfl) ?_
    refine Jo 27 H ?_
    refine St_lenMap (ki .i64) ptrv H rfl rfl ?_
    refine Jo 32 H ?_
    refine St_lenMap (ki .i64) ptrv H rfl rfl ?_
    rw [keys_len hw]
    refine A_pv 33 rfl (Wants.of rfl rfl rfl) rfl (by kernel_rfl) ?_
    rw [show ((((s.sps.map spkey).length : Nat) : Int) == (((s.sps.map spkey).length : Nat) : Int)) = true from beq_self_eq_true _]
    refine A_pv 34 rfl (Wants.none rfl) rfl (by kernel_rfl) ?_
    refine A_pv 35 rfl (Wants.none rfl) rfl (by kernel_rfl) ?_
    refine A_pv 36 rfl (Wants.of rfl rfl rfl) rfl (by kernel_rfl) ?_
    replace H := Js [4,7,7,0,0,5,5,1,3,0,1,2,1,2,2,2,2,1,2,0,0,0] 0 H
    replace H := CELL_in hw hm2' H
    replace H := Js [1,1,1,1,1,1,1,0,0,0,0,0] 0 H
    replace H := MODEL_in hmw hm2 hm3 H
    replace H := Js [1,1,0,0,0,0,0] 0 H
    replace H := RUN_in H
    refine Jo 37 H ?_
    refine Jk rfl rfl (remembers_spec p s m told hI H) ?_
    clear H; rintro v w ⟨rfl, H⟩
    refine A_pv 38 rfl (Wants.none rfl) rfl (by kernel_rfl) ?_
    refine Jo 39 H ?_
    refine J73 H ?_
    clear H; intro w H
    refine J2 H ?_
    replace H := Js [2,2,0] 1 H
    exact C_ret (fn_endCD (ms := [D]) _ (.inr rfl) (Holds.star.2 H) (fun w' H' => .cell1 H' rfl rfl .nil) fun w' H' => ⟨rfl, H'.drop⟩)
end Go.Proofs.YtcaaojbnjfdglaaGreatDoor
namespace Go.Proofs.YtcaaojbnjfdglaaGreatDoor
open Go.SL

set_option maxRecDepth 10000 in
theorem Whole_walk [Extra] (z1 z2 z3 : Int) (v : Value) (l : List Ac) (hl : l.length ≤ 9223372036854775807) {w : World} {fr : List HProp} [hT : HasTab 0 Lib.deBruijn64tab fr] (hr : RdS fr v l.length 9 (acells l)) (hok : ∀ x ∈ l, AcOK fr x) (H : Holds w fr) :
    Calls Tryz.prog 9 #[.agg #[.int .i64 z1, .int .i64 z2, .int .i64 z3], v] w (ret fun r w' => r = .bool true ∧ Holds w' fr) := by
  obtain ⟨_, ad, cap, rfl, hrd⟩ := id hr
  refine calls_of Tryz.func9 rfl (by kernel_rfl) ?_
  refine J6 H ?_
  clear H; intro b2 w H
  refine J0 H ?_
  refine J30 H ?_
  refine Jc rfl rfl (Of_spec z1 z2 z3 H) ?_
  clear H; rintro r w ⟨p, n, size, slots, rfl, hn1, hn2, hs1, hs2, ht1, ht2, H⟩
  refine J0 H ?_
  refine J110 H ?_
  refine Jc rfl rfl (alive15_spec H) ?_
  clear H; rintro v w ⟨rfl, H⟩
  refine J118 H ?_
  refine Lp_g rfl rfl rfl (St_eqPtrNil rfl rfl (.inl rfl) rfl ?_)
  refine J118 H ?_
  refine Lp_g rfl rfl rfl (St_call (a := []) (b := []) rfl rfl (call (over_spec _ l hl hr.there.there (fun x hx => (hok x hx).there.there) H) ?_))
  clear H; rintro r w ⟨b, rfl, hb, H⟩
  cases b with
  | true =>
    refine J0 H ?_
    refine J11 H ?_
    refine J110 H ?_
    refine Jc rfl rfl (alive15_spec H) ?_
    clear H; rintro v w ⟨rfl, H⟩
    refine J147 H ?_
    refine Lp_g rfl rfl rfl (St_eqPtrNil rfl rfl (.inr rfl) rfl ?_)
    refine J4 H ?_
    exact C_ret (Jy H.drop.drop rfl fun w' H' => ⟨rfl, H'⟩)
  | false =>
    have h60 := hb rfl
    refine J20 H ?_
    refine J146 H ?_
    refine J24 H ?_
    refine C_join (fun ms σ w => ms = [] ∧ ∃ s m told, Rel s m told ∧ Fresh s told ∧ m.objs.length ≤ 60 ∧ σ 5 = pp p ∧ Holds w (RUN p s m told :: pts b2 (row 23 [.int .i64 z1, .int .i64 z2, .int .i64 z3]) :: fr)) ?_ ?_
    · refine C_block ?_
      refine C_loop (fun ms σ w n => ms = [] ∧ ∃ (i : Nat) (s : CS) (m : MS) (told : List (Nat × Nat)), i ≤ l.length ∧ n = l.length - i ∧ Rel s m told ∧ Fresh s told ∧ m.objs.length ≤ i ∧ m.P.length ≤ i + 1 ∧ σ 5 = pp p ∧ σ 25 = .slice ad l.length cap ∧ σ 26 = .int .i64 l.length ∧ σ 27 = .int .i64 i ∧ Holds w (RUN p s m told :: pts b2 (row 23 [.int .i64 z1, .int .i64 z2, .int .i64 z3]) :: fr)) (m := l.length) ⟨rfl, 0, _, _, _, by omega, rfl, rel0 n size slots, fresh0 n size slots, by decide, by decide, rfl, rfl, rfl, rfl, H⟩ ?_
      clear H
      rintro ms σ w n' ⟨rfl, i, s, m, told, hi, rfl, R, F, hob, hP, gr, gsl, gle, gix, H⟩
      rw [upd_self gr, upd_self gsl, upd_self gle, upd_self gix]
      refine J25 H ?_
      refine C_dec rfl (fun h => C_skip ?_) (fun h => C_exit ?_)
      · have hlt : i < l.length := by omega
        have hy := List.getElem?_eq_getElem hlt
        generalize l[i] = y at hy
        obtain ⟨hX, hws, hrW⟩ := hok y (List.mem_of_getElem? hy)
        rcases hrd with hz | ⟨b, o, E, fz, c, rfl, hA, hrd⟩
        · omega
        haveI := hA
        obtain ⟨k, A, B, C, X, vW, ws, raw, i1, gg1⟩ := y
        obtain ⟨_, adW, capW, hvW, _⟩ := id hrW
        replace hvW : vW = .slice adW ws.length capW := hvW
        subst hvW
        refine J58 H ?_
        refine Lp_s rfl (St_indexAddr rfl rfl (by omega) (by omega) rfl ?_)
        refine Lp_s rfl (St_loadN H rfl (acells_el hrd hy) rfl ?_)
        refine J19 H ?_
        clear H; intro b7 w H
        refine J7 H ?_
        clear H; intro w H
        refine Lp_nil ?_
        replace H := H.swap
        refine J33 H ?_
        refine Jc rfl rfl (Do_spec p s m told R F.seq (by omega) (by omega) k A B C i1 gg1 X hX _ ws hws raw hrW.there.there H) ?_
        clear H; rintro r w ⟨rfl, s', m', told', R', S', H⟩
        refine J20 H ?_
        refine J3 H ?_
        replace H := (H.swap).drop
        have h1 := S'.objs
        have h2 := S'.P
        exact ⟨_, ⟨rfl, i + 1, s', m', told', hlt, rfl, R', F.step S', by omega, by omega, rfl, rfl, rfl, inc64 (by omega), H⟩, by omega⟩
      · exact ⟨rfl, rfl, s, m, told, R, F, by omega, rfl, H⟩
    clear H
    rintro ms σ w ⟨rfl, s, m, told, R, F, hob, gr, H⟩
    rw [upd_self gr]
    refine J16 H ?_
    refine Jc rfl rfl (Whole_spec p s m told R F.inv H) ?_
    clear H; rintro v w ⟨rfl, H⟩
    refine J0 H ?_
    exact C_ret (Jy H.drop.drop rfl fun w' H' => ⟨rfl, H'⟩)
end Go.Proofs.YtcaaojbnjfdglaaGreatDoor
