/- Cells: what is proved on the way: every input of the statement; no condition. Texts joined: LayC SlY SlT LayD Sri LayE RefA. -/
import Derived.Test.YtcaaojbnjfdglaaGreatDoorCah
import Derived.Test.YtcaaojbnjfdglaaGreatDoorCag
import Derived.Shelf.Spec.SlicesInsert
import Derived.Shelf.Spec.SlicesInsertGrow
import Derived.Shelf.Slices.SearchI
import Derived.Shelf.Slices.Empties
import Derived.Ground.Names2Prog
import Derived.Test.YtcaaojbnjfdglaaGreatDoorProg
set_option linter.unusedVariables false
set_option linter.unusedSimpArgs false
set_option linter.unusedSectionVars false
namespace Go.Proofs.YtcaaojbnjfdglaaGreatDoor
open Go.SL

theorem decodeL3 (x y z : Nat) : decodeL [x, y, z] = if x < 65536 ∧ RightL (layOf x y z) then some (layOf x y z) else none := rfl

theorem lDecode_no [Extra] (v : Value) (n : Nat) (hn : n ≠ 3) (hv : ∃ a c, v = .slice a n c) {w : World} {fr : List HProp} (H : Holds w fr) :
    Calls Tryz.prog 92 #[v] w (ret fun x w' => x = .tuple #[layV 0 (.slice none 0 0) 0 (.slice none 0 0), .int .i64 4] ∧ Holds w' fr) := by
  obtain ⟨a, c, rfl⟩ := hv
  refine calls_of Tryz.func92 rfl (by kernel_rfl) ?_
  repeat refine C_seq ?_
  refine C_region ?_
  (refine Lp_s rfl (St_alloc H rfl ?_); clear H; intro b2 w H)
  refine Lp_pv rfl rfl ?_
  refine Lp_nil ?_
  repeat refine C_seq ?_
  refine C_region ?_
  refine Lp_pv rfl rfl ?_
  refine Lp_s rfl (St_lenSlice rfl rfl ?_)
  refine Lp_pv rfl rfl ?_
  refine Lp_nil ?_
  rw [show ((n : Int) != 3) = true by simp; omega]
  repeat refine C_seq ?_
  refine C_true rfl ?_
  repeat refine C_seq ?_
  refine C_region ?_
  refine Lp_s rfl (St_build rfl rfl ?_)
  (refine Lp_s rfl (St_storeN H rfl rfl inferInstance rfl rfl (Nat.le_of_ble_eq_true rfl) rfl ?_); clear H; intro w H)
  refine Lp_pv rfl rfl ?_
  refine Lp_nil ?_
  exact C_ret (fn_endC _ (.inr rfl) H (fun w' H' => .cellN H' rfl (by repeat (first | exact Reads.nil _ | apply Reads.cons rfl)) (.tmp .nil)) fun w' H' => ⟨rfl, H'.drop⟩)

theorem lDecode_spec [Extra] (v : Value) (x y z : Nat) (hx : x < 18446744073709551616) (hy : y < 18446744073709551616) (hz : z < 18446744073709551616) {w : World} {fr : List HProp} [hT : HasTab 0 Lib.deBruijn64tab fr] (hr : RdS fr v 3 1 (ucells [x, y, z])) (H : Holds w fr) :
    Calls Tryz.prog 92 #[v] w (ret fun r w' => (decodeL [x, y, z] = none ∧ r = .tuple #[layV 0 (.slice none 0 0) 0 (.slice none 0 0), .int .i64 4] ∧ Holds w' fr) ∨
      ∃ l vr vq, decodeL [x, y, z] = some l ∧ r = .tuple #[layV l.fixed vr l.record vq, .int .i64 0] ∧ Holds w' (NL vr l.refs :: NL vq l.recs :: fr)) := by
  obtain ⟨_, ad, cap, rfl, hr'⟩ := id hr
  rcases hr' with h | ⟨b, o, E, fz, c, rfl, hA, hrd⟩
  · omega
  haveI := hA
  have c0 : c[o + 0 * 1]? = some (.int .u64 x) := by have := hrd.get 0 (.int .u64 x) (by simp [ucells]); simpa using this
  have c1 : c[o + 1 * 1]? = some (.int .u64 y) := by have := hrd.get 1 (.int .u64 y) (by simp [ucells]); simpa using this
  have c2 : c[o + 2 * 1]? = some (.int .u64 z) := by have := hrd.get 2 (.int .u64 z) (by simp [ucells]); simpa using this
  refine calls_of Tryz.func92 rfl (by kernel_rfl) ?_
  repeat refine C_seq ?_
  refine C_region ?_
  (refine Lp_s rfl (St_alloc H rfl ?_); clear H; intro b2 w H)
  refine Lp_pv rfl rfl ?_
  refine Lp_nil ?_
  repeat refine C_seq ?_
  refine C_region ?_
  refine Lp_pv rfl rfl ?_
  refine Lp_s rfl (St_lenSlice rfl rfl ?_)
  refine Lp_pv rfl rfl ?_
  refine Lp_nil ?_
  repeat refine C_seq ?_
  refine C_false rfl (C_skip ?_)
  repeat refine C_seq ?_
  refine C_drawH H mixed ?_
  clear H; intro w H
  refine A_pv 0 rfl (Wants.none rfl) rfl (by kernel_rfl) ?_
  refine A_indexAddr 1 rfl (Wants.none rfl) rfl rfl (by omega) (by omega) (by kernel_rfl) ?_
  refine A_load1 2 [4] H rfl (Wants.none rfl) rfl c0 (by kernel_rfl) ?_
  refine A_one 3 rfl (by kernel_rfl) (by repeat first | exact .nil | refine .cons (.inr H.at) ?_ | refine .cons (.inr H.mp) ?_ | refine .cons (.inl (by kernel_rfl)) ?_) (Wants.none rfl) (St_call (a := []) (b := []) rfl rfl (call (sizes_spec H) ?_))
  clear H; rintro v w H
  refine A_one 4 rfl (by kernel_rfl) (by repeat first | exact .nil | refine .cons (.inr H.at) ?_ | refine .cons (.inr H.mp) ?_ | refine .cons (.inl (by kernel_rfl)) ?_) (Wants.none rfl) (St_call (a := []) (b := []) rfl rfl (call (Unpack_spec x hx _ sizF ris_siz (by decide) H) ?_))
  clear H; rintro v2 w ⟨u, rfl, H⟩
  obtain ⟨au, cu, rfl⟩ := sls_slice H (m := 3) (by simp [ucells, sizF]) (by decide)
  refine A_pv 5 rfl (Wants.none rfl) rfl (by kernel_rfl) ?_
  refine A_pv 6 rfl (Wants.none rfl) rfl (by kernel_rfl) ?_
  refine A_pv 7 rfl (Wants.none rfl) rfl (by kernel_rfl) ?_
  refine A_pv 8 rfl (Wants.none rfl) rfl (by kernel_rfl) ?_
  refine A_pv 9 rfl (Wants.none rfl) rfl (by kernel_rfl) ?_
  refine A_end (by kernel_rfl) (by repeat first | exact .nil | refine .cons (.inr H.at) ?_ | refine .cons (.inr H.mp) ?_ | refine .cons (.inl (by kernel_rfl)) ?_) ?_
  obtain ⟨bu, su, rfl, H, hclose⟩ := sls_open H (by omega)
  have d0 : (ucells (sizF.map (getF x)) ++ su)[0 + 0 * 1]? = some (.int .u64 (getF x (0, 8))) := rfl
  have d1 : (ucells (sizF.map (getF x)) ++ su)[0 + 1 * 1]? = some (.int .u64 (getF x (8, 8))) := rfl
  have d2 : (ucells (sizF.map (getF x)) ++ su)[0 + 2 * 1]? = some (.int .u64 (getF x (16, 48))) := rfl
  have e8 : IntKind.i64.wrap ((getF x (0, 8) : Nat) : Int) = ((x % 256 : Nat) : Int) := by
    rw [wrapI_nat (by have := Nat.mod_lt (x / 2 ^ 0) (show 0 < 2 ^ 8 by decide); show x / 2 ^ 0 % 2 ^ 8 < _; omega)]
    show ((x / 2 ^ 0 % 2 ^ 8 : Nat) : Int) = _
    simp
  have e16 : IntKind.i64.wrap ((getF x (8, 8) : Nat) : Int) = ((x / 256 % 256 : Nat) : Int) := by
    rw [wrapI_nat (by have := Nat.mod_lt (x / 2 ^ 8) (show 0 < 2 ^ 8 by decide); show x / 2 ^ 8 % 2 ^ 8 < _; omega)]
    rfl
  repeat refine C_seq ?_
  refine C_joinQ (fun ms σ w => ms = [] ∧ ∃ b6 va vb, σ 2 = pp b2 ∧ σ 4 = .slice (some ⟨bu, 0, none⟩) 3 cu ∧ σ 6 = pp b6 ∧
    Holds w (pts b6 (row 101 [.int .i64 ((x % 256 : Nat) : Int), va, .int .i64 ((x / 256 % 256 : Nat) : Int), vb]) :: NL va (bitsTo y 64) :: NL vb (bitsTo z 64) :: pts bu (row 29 (ucells (sizF.map (getF x)) ++ su)) :: pts b2 (row 101 [.int .i64 0, .slice none 0 0, .int .i64 0, .slice none 0 0]) :: fr)) ?_ ?_
  · replace H := Holds.sel [0, 1] 1 H; dsimp only [SL.sel, SL.pull, List.drop] at H
    repeat refine C_seq ?_
    refine C_drawH H mixed ?_
    clear H; intro w H
    refine A_pv 0 rfl (Wants.none rfl) rfl (by kernel_rfl) ?_
    refine A_indexAddr 1 rfl (Wants.none rfl) rfl rfl (by omega) (by omega) (by kernel_rfl) ?_
    refine A_load1 2 [18] H rfl (Wants.none rfl) rfl d0 (by kernel_rfl) ?_
    refine A_convI 3 rfl (Wants.none rfl) rfl (by kernel_rfl) ?_
    refine A_pv 4 rfl (Wants.none rfl) rfl (by kernel_rfl) ?_
    refine A_indexAddr 5 rfl (Wants.none rfl) rfl rfl (by omega) (by omega) (by kernel_rfl) ?_
    refine A_load1 6 [7] H rfl (Wants.none rfl) rfl c1 (by kernel_rfl) ?_
    refine A_pv 8 rfl (Wants.none rfl) rfl (by kernel_rfl) ?_
    refine A_indexAddr 9 rfl (Wants.none rfl) rfl rfl (by omega) (by omega) (by kernel_rfl) ?_
    refine A_load1 10 [18] H rfl (Wants.none rfl) rfl d1 (by kernel_rfl) ?_
    refine A_convI 11 rfl (Wants.none rfl) rfl (by kernel_rfl) ?_
    refine A_pv 12 rfl (Wants.none rfl) rfl (by kernel_rfl) ?_
    refine A_indexAddr 13 rfl (Wants.none rfl) rfl rfl (by omega) (by omega) (by kernel_rfl) ?_
    refine A_load1 14 [15] H rfl (Wants.none rfl) rfl c2 (by kernel_rfl) ?_
    rw [e8, e16]
    refine A_two 7 17 rfl rfl (by kernel_rfl) (by repeat first | exact .nil | refine .cons (.inr H.at) ?_ | refine .cons (.inr H.mp) ?_ | refine .cons (.inl (by kernel_rfl)) ?_) (Wants.none rfl) (Wants.none rfl) (St_call (a := []) (b := []) rfl rfl (call (spread_spec y hy H) ?_)) (St_alloc H rfl ?_)
    · clear H; intro va w H
      obtain ⟨aa, ma, ca, rfl⟩ := sls_any H
      refine A_two 15 17 rfl rfl (by kernel_rfl) (by repeat first | exact .nil | refine .cons (.inr H.at) ?_ | refine .cons (.inr H.mp) ?_ | refine .cons (.inl (by kernel_rfl)) ?_) (Wants.none rfl) (Wants.none rfl) (St_call (a := []) (b := []) rfl rfl (call (spread_spec z hz H) ?_)) (St_alloc H rfl ?_)
      · clear H; intro vb w H
        obtain ⟨ab, mb, cb, rfl⟩ := sls_any H
        refine A_build 16 rfl (Wants.none rfl) rfl (by kernel_rfl) ?_
        refine A_one 17 rfl (by kernel_rfl) (by repeat first | exact .nil | refine .cons (.inr H.at) ?_ | refine .cons (.inr H.mp) ?_ | refine .cons (.inl (by kernel_rfl)) ?_) (Wants.none rfl) (St_alloc H rfl ?_); clear H; intro b6 w H
        refine A_one 18 rfl (by kernel_rfl) (by repeat first | exact .nil | refine .cons (.inr H.at) ?_ | refine .cons (.inr H.mp) ?_ | refine .cons (.inl (by kernel_rfl)) ?_) (Wants.none rfl) (St_storeN H rfl rfl inferInstance rfl rfl (Nat.le_of_ble_eq_true rfl) rfl ?_); clear H; intro w H
        refine A_end (by kernel_rfl) (by repeat first | exact .nil | refine .cons (.inr H.at) ?_ | refine .cons (.inr H.mp) ?_ | refine .cons (.inl (by kernel_rfl)) ?_) ?_
        replace H := Holds.sel [0, 1, 0, 0, 0] 0 H; dsimp only [SL.sel, SL.pull, List.drop] at H
        exact .inl ⟨rfl, rfl, b6, _, _, rfl, rfl, rfl, H⟩
      · clear H; intro b6 w H
        refine A_one 15 rfl (by kernel_rfl) (by repeat first | exact .nil | refine .cons (.inr H.at) ?_ | refine .cons (.inr H.mp) ?_ | refine .cons (.inl (by kernel_rfl)) ?_) (Wants.none rfl) (St_call (a := []) (b := []) rfl rfl (call (spread_spec z hz H) ?_)); clear H; intro vb w H
        obtain ⟨ab, mb, cb, rfl⟩ := sls_any H
        refine A_build 16 rfl (Wants.none rfl) rfl (by kernel_rfl) ?_
        refine A_one 18 rfl (by kernel_rfl) (by repeat first | exact .nil | refine .cons (.inr H.at) ?_ | refine .cons (.inr H.mp) ?_ | refine .cons (.inl (by kernel_rfl)) ?_) (Wants.none rfl) (St_storeN H rfl rfl inferInstance rfl rfl (Nat.le_of_ble_eq_true rfl) rfl ?_); clear H; intro w H
        refine A_end (by kernel_rfl) (by repeat first | exact .nil | refine .cons (.inr H.at) ?_ | refine .cons (.inr H.mp) ?_ | refine .cons (.inl (by kernel_rfl)) ?_) ?_
        replace H := Holds.sel [1, 1, 0, 0, 0] 0 H; dsimp only [SL.sel, SL.pull, List.drop] at H
        exact .inl ⟨rfl, rfl, b6, _, _, rfl, rfl, rfl, H⟩
    · clear H; intro b6 w H
      refine A_one 7 rfl (by kernel_rfl) (by repeat first | exact .nil | refine .cons (.inr H.at) ?_ | refine .cons (.inr H.mp) ?_ | refine .cons (.inl (by kernel_rfl)) ?_) (Wants.none rfl) (St_call (a := []) (b := []) rfl rfl (call (spread_spec y hy H) ?_)); clear H; intro va w H
      obtain ⟨aa, ma, ca, rfl⟩ := sls_any H
      refine A_one 15 rfl (by kernel_rfl) (by repeat first | exact .nil | refine .cons (.inr H.at) ?_ | refine .cons (.inr H.mp) ?_ | refine .cons (.inl (by kernel_rfl)) ?_) (Wants.none rfl) (St_call (a := []) (b := []) rfl rfl (call (spread_spec z hz H) ?_)); clear H; intro vb w H
      obtain ⟨ab, mb, cb, rfl⟩ := sls_any H
      refine A_build 16 rfl (Wants.none rfl) rfl (by kernel_rfl) ?_
      refine A_one 18 rfl (by kernel_rfl) (by repeat first | exact .nil | refine .cons (.inr H.at) ?_ | refine .cons (.inr H.mp) ?_ | refine .cons (.inl (by kernel_rfl)) ?_) (Wants.none rfl) (St_storeN H rfl rfl inferInstance rfl rfl (Nat.le_of_ble_eq_true rfl) rfl ?_); clear H; intro w H
      refine A_end (by kernel_rfl) (by repeat first | exact .nil | refine .cons (.inr H.at) ?_ | refine .cons (.inr H.mp) ?_ | refine .cons (.inl (by kernel_rfl)) ?_) ?_
      replace H := Holds.sel [2, 1, 0, 0, 0] 0 H; dsimp only [SL.sel, SL.pull, List.drop] at H
      exact .inl ⟨rfl, rfl, b6, _, _, rfl, rfl, rfl, H⟩
  · clear H
    rintro ms σ w ⟨rfl, b6, va, vb, g2, g4, g6, H⟩
    rw [upd_self g2, upd_self g4, upd_self g6]
    have hla := bitsTo_len y 64
    have hlb := bitsTo_len z 64
    obtain ⟨aa, ca, rfl⟩ := sls_slice (H.drop) (ncells_length (bitsTo y 64)) (by decide)
    obtain ⟨ab, cb, rfl⟩ := sls_slice (H.drop.drop) (ncells_length (bitsTo z 64)) (by decide)
    repeat refine C_seq ?_
    refine C_region ?_
    refine Lp_pv rfl rfl ?_
    refine Lp_s rfl (St_indexAddr rfl rfl (by omega) (by omega) rfl ?_)
    refine Lp_s rfl (St_load1 H rfl d2 rfl ?_)
    refine Lp_pv rfl rfl ?_
    have hn : getF x (16, 48) = x / 65536 := by
      show x / 2 ^ 16 % 2 ^ 48 = _
      rw [Nat.mod_eq_of_lt (by omega)]
    rw [hn]
    by_cases hb : x < 65536
    · rw [show (((x / 65536 : Nat) : Int) != 0) = false by simp; omega]
      refine Lp_pv rfl rfl ?_
      refine Lp_g rfl rfl rfl (St_loadN H rfl (by repeat (first | exact Reads.nil _ | apply Reads.cons rfl)) rfl ?_)
      have h8 : x / 256 % 256 = x / 256 := Nat.mod_eq_of_lt (by omega)
      rw [h8] at H ⊢
      replace H := Holds.sel [1, 1, 0, 0, 0] 0 H; dsimp only [SL.sel, SL.pull, List.drop] at H
      obtain ⟨D1, H, hD1, hC1⟩ := sls_rd H (ncells_length (bitsTo y 64)) (by decide)
      obtain ⟨D2, H, hD2, hC2⟩ := sls_rd H.swap (ncells_length (bitsTo z 64)) (by decide)
      refine Lp_g rfl rfl rfl (St_call (a := []) (b := []) rfl rfl (call (lRight_spec _ _ (layOf x y z) ⟨by show x % 256 ≤ _; omega, by show x / 256 ≤ _; omega, by show (bitsTo y 64).length ≤ _; omega, by show (bitsTo z 64).length ≤ _; omega⟩ ⟨(hD1 _).there, hD2 _⟩ H) ?_))
      clear H; rintro v w ⟨⟨q, rfl, hq⟩, H⟩
      have H := (hC1 _ _ (hC2 _ _ H).swap)
      cases q with
      | true =>
        refine Lp_gpv rfl rfl rfl rfl ?_
        refine Lp_pv rfl rfl ?_
        refine Lp_nil ?_
        repeat refine C_seq ?_
        refine C_false rfl (C_skip ?_)
        repeat refine C_seq ?_
        refine C_region ?_
        refine Lp_s rfl (St_loadN H rfl (by repeat (first | exact Reads.nil _ | apply Reads.cons rfl)) rfl ?_)
        (refine Lp_s rfl (St_storeN H rfl rfl inferInstance rfl rfl (Nat.le_of_ble_eq_true rfl) rfl ?_); clear H; intro w H)
        refine Lp_pv rfl rfl ?_
        refine Lp_nil ?_
        replace H := Holds.sel [4, 0, 0] 2 H; dsimp only [SL.sel, SL.pull, List.drop] at H
        refine C_ret (fn_endC _ (.inr rfl) H (fun w' H' => .cellN H' rfl (by repeat (first | exact Reads.nil _ | apply Reads.cons rfl)) (.tmp .nil)) fun w' H' => .inr ⟨layOf x y z, _, _, ?_, rfl, H'.drop⟩)
        rw [decodeL3]
        rw [if_pos ⟨hb, hq.1 rfl⟩]
      | false =>
        refine Lp_gpv rfl rfl rfl rfl ?_
        refine Lp_pv rfl rfl ?_
        refine Lp_nil ?_
        repeat refine C_seq ?_
        refine C_true rfl ?_
        repeat refine C_seq ?_
        refine C_region ?_
        refine Lp_s rfl (St_build rfl rfl ?_)
        (refine Lp_s rfl (St_storeN H rfl rfl inferInstance rfl rfl (Nat.le_of_ble_eq_true rfl) rfl ?_); clear H; intro w H)
        refine Lp_pv rfl rfl ?_
        refine Lp_nil ?_
        replace H := Holds.sel [4] 4 H; dsimp only [SL.sel, SL.pull, List.drop] at H
        refine C_ret (fn_endC _ (.inr rfl) H (fun w' H' => .cellN H' rfl (by repeat (first | exact Reads.nil _ | apply Reads.cons rfl)) (.tmp .nil)) fun w' H' => .inl ⟨?_, rfl, H'.drop⟩)
        rw [decodeL3]
        rw [if_neg]
        rintro ⟨_, h2⟩
        have := hq.2 h2
        cases this
    · rw [show (((x / 65536 : Nat) : Int) != 0) = true by simp; omega]
      refine Lp_pv rfl rfl ?_
      refine Lp_no rfl rfl rfl ?_
      refine Lp_no rfl rfl rfl ?_
      refine Lp_no rfl rfl rfl ?_
      refine Lp_pv rfl rfl ?_
      refine Lp_nil ?_
      repeat refine C_seq ?_
      refine C_true rfl ?_
      repeat refine C_seq ?_
      refine C_region ?_
      refine Lp_s rfl (St_build rfl rfl ?_)
      (refine Lp_s rfl (St_storeN H rfl rfl inferInstance rfl rfl (Nat.le_of_ble_eq_true rfl) rfl ?_); clear H; intro w H)
      refine Lp_pv rfl rfl ?_
      refine Lp_nil ?_
      replace H := Holds.sel [4] 4 H; dsimp only [SL.sel, SL.pull, List.drop] at H
      refine C_ret (fn_endC _ (.inr rfl) H (fun w' H' => .cellN H' rfl (by repeat (first | exact Reads.nil _ | apply Reads.cons rfl)) (.tmp .nil)) fun w' H' => .inl ⟨?_, rfl, H'.drop⟩)
      rw [decodeL3]
      rw [if_neg]
      rintro ⟨h1, _⟩
      exact hb h1
end Go.Proofs.YtcaaojbnjfdglaaGreatDoor
namespace Go.SL
section
variable {P : Program} {n : Nat} {r : Option Nat} {ops : Array Oper} {Q : Post} {ms : List Nat} {σ : Env} {w : World} {rest : List Oper} {o : Oper} {K : Env → World → Prop} {l l' : List HProp}
variable {u t s : TypeId} {p : String} {af : Array Edge} {g : Option (Nat × Bool)} {d : Option Tmp} {x y z : Operand}

/-- 'x[i:]': of some slice. -/
theorem St_sliceFromE {e size bytes len cap : Nat} {ad : Option Addr} {q : IntKind} {i : Nat} [hT : TSlice P t e size bytes] (hx : ev σ x = .slice ad len cap) (hy : ev σ y = .int q (i : Int)) (h1 : i ≤ len) (hd : okd n d = true)
    (k : ∀ v, K (put σ d v) w) : St P n r ⟨d, .slice t x (some y) none none, u, p, af, g⟩ σ w K := by
  have hs : (sizeOf e).run P w = .ok size w := by
    obtain ⟨k, hk, e2⟩ := Option.map_eq_some_iff.1 hT.info
    simp only [Prod.mk.injEq] at e2
    exact run_sizeOf' (by rw [hk]; simp [e2.1])
  cases ad with
  | none =>
    refine St_value (w' := w) hd (fun c e => by cases e) ?_ (k (.slice none (len - i) (cap - i)))
    simp [execOp, hx, hy, Instr.sliceAt, Instr.slice, run_und hT.und, Instr.sliceBounds, Instr.sliceBound, asIntOf, h1, hs]
  | some a =>
    by_cases hc : cap = i
    · subst hc
      refine St_value (w' := w) hd (fun c e => by cases e) ?_ (k (.slice (some a) (len - cap) (cap - cap)))
      simp [execOp, hx, hy, Instr.sliceAt, Instr.slice, run_und hT.und, Instr.sliceBounds, Instr.sliceBound, asIntOf, h1, hs]
    · refine St_value (w' := w) hd (fun c e => by cases e) ?_ (k (.slice (some (a.add (i * size))) (len - i) (cap - i)))
      simp [execOp, hx, hy, Instr.sliceAt, Instr.slice, run_und hT.und, Instr.sliceBounds, Instr.sliceBound, asIntOf, h1, hs, hc]
end
end Go.SL
namespace Go.SL

theorem split_at {α : Type} {l : List α} {k : Nat} {x : α} (h : l[k]? = some x) : l = l.take k ++ x :: l.drop (k + 1) := by
  obtain ⟨h1, h2⟩ := List.getElem?_eq_some_iff.1 h
  rw [← h2, List.getElem_cons_drop, List.take_append_drop]
theorem set_split {α : Type} {l : List α} {k : Nat} {x y : α} (h : l[k]? = some x) : l.set k y = l.take k ++ y :: l.drop (k + 1) := by
  have h1 := (List.getElem?_eq_some_iff.1 h).1
  rw [List.set_eq_take_append_cons_drop, if_pos h1]

theorem wr_mid {A B : List Value} : ∀ (vs y : List Value) (j : Nat), j + vs.length ≤ y.length → wr (A ++ (y ++ B)) (A.length + j) vs = A ++ (wr y j vs ++ B)
  | [], y, j, _ => rfl
  | v :: vs, y, j, h => by
    simp only [List.length_cons] at h
    show wr ((A ++ (y ++ B)).set (A.length + j) v) (A.length + j + 1) vs = A ++ (wr (y.set j v) (j + 1) vs ++ B)
    rw [List.set_append_right _ _ (by omega), show A.length + j - A.length = j by omega, List.set_append_left _ _ (by omega)]
    exact wr_mid vs (y.set j v) (j + 1) (by simp; omega)

section
variable {α : Type} {f : α → List Value} {m : Nat}
theorem flat_len (hf : ∀ a, (f a).length = m) (l : List α) : (l.flatMap f).length = l.length * m := by
  induction l with
  | nil => simp
  | cons a l ih => rw [List.flatMap_cons, List.length_append, ih, hf, List.length_cons, Nat.succ_mul]; omega
theorem flat_split {l : List α} {i : Nat} {x : α} (h : l[i]? = some x) (s : List Value) : l.flatMap f ++ s = (l.take i).flatMap f ++ (f x ++ ((l.drop (i + 1)).flatMap f ++ s)) := by
  conv => lhs; rw [split_at h]
  simp
theorem flat_alen (hf : ∀ a, (f a).length = m) {l : List α} {i : Nat} {x : α} (h : l[i]? = some x) : ((l.take i).flatMap f).length = i * m := by
  have h1 := (List.getElem?_eq_some_iff.1 h).1
  rw [flat_len hf, List.length_take, Nat.min_eq_left (by omega)]
theorem flat_get (hf : ∀ a, (f a).length = m) {l : List α} {i : Nat} {x : α} (h : l[i]? = some x) {s : List Value} {j : Nat} {v : Value} (hv : (f x)[j]? = some v) : (l.flatMap f ++ s)[i * m + j]? = some v := by
  have hj := (List.getElem?_eq_some_iff.1 hv).1
  rw [flat_split h, List.getElem?_append_right (by rw [flat_alen hf h]; omega), flat_alen hf h, show i * m + j - i * m = j by omega, List.getElem?_append_left hj]
  exact hv
theorem flat_reads (hf : ∀ a, (f a).length = m) {l : List α} {i : Nat} {x : α} (h : l[i]? = some x) {s : List Value} {j : Nat} {vs : List Value} (hv : Reads (f x) j vs.length vs) : Reads (l.flatMap f ++ s) (i * m + j) vs.length vs :=
  Reads.of_get fun k v hk => by
    rw [show i * m + j + k = i * m + (j + k) by omega]
    exact flat_get hf h (hv.get k v hk)
theorem flat_wr (hf : ∀ a, (f a).length = m) {l : List α} {i : Nat} {x x' : α} (h : l[i]? = some x) {s : List Value} {j : Nat} {vs : List Value} (hj : j + vs.length ≤ m) (hx : wr (f x) j vs = f x') : wr (l.flatMap f ++ s) (i * m + j) vs = (l.set i x').flatMap f ++ s := by
  rw [flat_split h, ← flat_alen hf h, wr_mid vs (f x) j (by rw [hf]; exact hj), hx, set_split h]
  simp
theorem flat_set (hf : ∀ a, (f a).length = m) {l : List α} {i : Nat} {x x' : α} (h : l[i]? = some x) {s : List Value} {j : Nat} {v : Value} (hj : j < m) (hx : (f x).set j v = f x') : (l.flatMap f ++ s).set (i * m + j) v = (l.set i x').flatMap f ++ s :=
  flat_wr (vs := [v]) hf h (by simp; omega) hx
end
end Go.SL
namespace Go.Proofs.YtcaaojbnjfdglaaGreatDoor
open Go.SL

/-- A layout in the heap: its two slices, and what it is. -/
abbrev LyC := Value × Value × Lay
@[reducible] def bres (x : LyC) : HProp := star [NL x.1 x.2.2.refs, NL x.2.1 x.2.2.recs]
@[reducible] def bval (x : LyC) : List Value := [.int .i64 x.2.2.fixed, x.1, .int .i64 x.2.2.record, x.2.1]
def bcells (l : List LyC) : List Value := l.flatMap bval
theorem bcells_length (l : List LyC) : (bcells l).length = l.length * 4 := by
  induction l with
  | nil => rfl
  | cons x l ih => simp only [bcells, List.flatMap_cons, List.length_append, List.length_cons, List.length_nil] at *; omega
theorem bcells_append (a b : List LyC) : bcells (a ++ b) = bcells a ++ bcells b := by simp [bcells]
theorem bcells_get : ∀ {L : List LyC} {i : Nat} {x : LyC}, L[i]? = some x → (bcells L)[i * 4]? = some (.int .i64 x.2.2.fixed) ∧ (bcells L)[i * 4 + 1]? = some x.1 ∧ (bcells L)[i * 4 + 2]? = some (.int .i64 x.2.2.record) ∧ (bcells L)[i * 4 + 3]? = some x.2.1
  | y :: L, 0, x, h => by
    simp at h
    subst h
    simp [bcells]
  | y :: L, i + 1, x, h => by
    have := bcells_get (L := L) (i := i) (by simpa using h)
    have e : bcells (y :: L) = bval y ++ bcells L := by simp [bcells]
    rw [e]
    rw [show (i + 1) * 4 = i * 4 + 4 by omega]
    simpa [bval] using this
theorem bcells_reads {L : List LyC} {spare : List Value} {i : Nat} {x : LyC} (h : L[i]? = some x) : Reads (bcells L ++ spare) (0 + i * 4) 4 (bval x) := by
  obtain ⟨h0, h1, h2, h3⟩ := bcells_get h
  have hl := (List.getElem?_eq_some_iff.1 h3).1
  rw [Nat.zero_add]
  refine Reads.cons ?_ (Reads.cons ?_ (Reads.cons ?_ (Reads.cons ?_ (Reads.nil _))))
  all_goals rw [List.getElem?_append_left (by omega)]
  · exact h0
  · exact h1
  · exact h2
  · exact h3

def BOOK (p : Nat) (ls : List Lay) : HProp := ex fun q : Value × List LyC => star [prop (q.2.map (·.2.2) = ls ∧ ls.length ≤ 64 ∧ ∀ x ∈ ls, RightL x), pts p (row 217 [q.1]), sls 101 4 q.1 (bcells q.2), star (q.2.map bres)]
theorem BOOK_out [Extra] {w : World} {p : Nat} {ls : List Lay} {l : List HProp} (H : Holds w (BOOK p ls :: l)) : ∃ v q, (q.map (·.2.2) = ls ∧ ls.length ≤ 64 ∧ ∀ x ∈ ls, RightL x) ∧ Holds w (pts p (row 217 [v]) :: sls 101 4 v (bcells q) :: star (q.map bres) :: l) := by
  obtain ⟨⟨v, q⟩, H⟩ := Holds.ex.1 H
  have H := Holds.star.1 H
  obtain ⟨h, H⟩ := Holds.prop.1 H
  exact ⟨v, q, h, H⟩
theorem BOOK_in [Extra] {w : World} {p : Nat} {ls : List Lay} {l : List HProp} {v : Value} {q : List LyC} (h : q.map (·.2.2) = ls ∧ ls.length ≤ 64 ∧ ∀ x ∈ ls, RightL x) (H : Holds w (pts p (row 217 [v]) :: sls 101 4 v (bcells q) :: star (q.map bres) :: l)) : Holds w (BOOK p ls :: l) :=
  Holds.ex.2 ⟨(v, q), Holds.star.2 (Holds.prop.2 ⟨h, H⟩)⟩

theorem NewBook_spec [Extra] {w : World} {fr : List HProp} (H : Holds w fr) : Calls Tryz.prog 104 #[] w (ret fun v w' => ∃ p, v = pp p ∧ Holds w' (BOOK p [] :: fr)) := by
  refine calls_of Tryz.func104 rfl (by kernel_rfl) ?_
  repeat refine C_seq ?_
  refine C_region ?_
  refine Lp_pv rfl rfl ?_
  refine Lp_nil ?_
  repeat refine C_seq ?_
  refine C_region ?_
  refine Lp_s rfl (St_build rfl rfl ?_)
  (refine Lp_s rfl (St_boxN H rfl rfl ?_); clear H; intro b2 w H)
  refine Lp_pv rfl rfl ?_
  refine Lp_nil ?_
  have H : Holds w (star (([] : List LyC).map bres) :: pts b2 (row 217 [.slice none 0 0]) :: fr) := Holds.star.2 H
  have H := sls_nil (E := 101) (k := 4) H
  replace H := Holds.sel [2, 0, 0] 0 H; dsimp only [SL.sel, SL.pull, List.drop] at H
  exact C_ret (fn_end0 _ (.inr rfl) (BOOK_in (q := []) ⟨rfl, by simp, by simp⟩ H) rfl fun w' H' => ⟨_, rfl, H'⟩)

theorem bAdd_spec [Extra] (p : Nat) (ls : List Lay) (vr vq : Value) (l : Lay) (hR : RightL l) {w : World} {fr : List HProp} (hr : RdL fr vr vq l) (H : Holds w (BOOK p ls :: fr)) :
    Calls Tryz.prog 93 #[pp p, layV l.fixed vr l.record vq] w (ret fun x w' => (ls.length = 64 ∧ x = .tuple #[.int .i64 0, .int .i64 5] ∧ Holds w' (BOOK p ls :: fr)) ∨
      (ls.length < 64 ∧ x = .tuple #[.int .i64 ((ls.length + 1 : Nat) : Int), .int .i64 0] ∧ Holds w' (BOOK p (ls ++ [l]) :: fr))) := by
  obtain ⟨_, ad1, cap1, rfl, hr1⟩ := id hr.r
  obtain ⟨_, ad2, cap2, rfl, hr2⟩ := id hr.q
  obtain ⟨v, q, ⟨hq, hlen, hall⟩, H⟩ := BOOK_out H
  have hql : q.length = ls.length := by rw [← hq, List.length_map]
  obtain ⟨av, cv, rfl⟩ := sls_slice H.drop (bcells_length q) (by decide)
  refine calls_of Tryz.func93 rfl (by kernel_rfl) ?_
  repeat refine C_seq ?_
  refine C_region ?_
  (refine Lp_s rfl (St_boxN H rfl rfl ?_); clear H; intro b3 w H)
  refine Lp_pv rfl rfl ?_
  refine Lp_pv rfl rfl ?_
  refine Lp_nil ?_
  repeat refine C_seq ?_
  refine C_joinQ (fun ms σ w => ms = [] ∧ ls.length < 64 ∧ σ 0 = pp p ∧ σ 3 = pp b3 ∧ Holds w (pts b3 (row 101 [.int .i64 l.fixed, .slice ad1 l.refs.length cap1, .int .i64 l.record, .slice ad2 l.recs.length cap2]) :: pts p (row 217 [.slice av q.length cv]) :: sls 101 4 (.slice av q.length cv) (bcells q) :: star (q.map bres) :: fr)) ?_ ?_
  · refine C_block ?_
    repeat refine C_seq ?_
    refine C_region ?_
    refine Lp_pv rfl rfl ?_
    refine Lp_s rfl (St_eqPtrNil rfl rfl (.inl rfl) rfl ?_)
    refine Lp_pv rfl rfl ?_
    refine Lp_nil ?_
    repeat refine C_seq ?_
    refine C_false rfl ?_
    repeat refine C_seq ?_
    refine C_region ?_
    refine Lp_s rfl (St_loadN H rfl (by repeat (first | exact Reads.nil _ | apply Reads.cons rfl)) rfl ?_)
    refine Lp_s rfl (St_call (a := []) (b := []) rfl rfl (call (lRight_spec _ _ l hR.small hr.there.there.there.there H) ?_))
    clear H; rintro v w ⟨⟨b, rfl, hb⟩, H⟩
    obtain rfl := hb.2 hR
    refine Lp_pv rfl rfl ?_
    refine Lp_pv rfl rfl ?_
    refine Lp_nil ?_
    repeat refine C_seq ?_
    refine C_false rfl ?_
    repeat refine C_seq ?_
    refine C_region ?_
    refine Lp_pv rfl rfl ?_
    refine Lp_pv rfl rfl ?_
    refine Lp_s rfl (St_fieldAddr rfl rfl ?_)
    refine Lp_s rfl (St_load1 H rfl rfl rfl ?_)
    refine Lp_s rfl (St_lenSlice rfl rfl ?_)
    refine Lp_pv rfl rfl ?_
    refine Lp_pv rfl rfl ?_
    refine Lp_nil ?_
    by_cases h64 : q.length = 64
    · rw [show ((q.length : Int) == 64) = true by simp; omega]
      repeat refine C_seq ?_
      refine C_true rfl ?_
      repeat refine C_seq ?_
      refine C_region ?_
      refine Lp_pv rfl rfl ?_
      refine Lp_pv rfl rfl ?_
      refine Lp_nil ?_
      exact C_ret (.inr ⟨by simp, fn_end0 _ (.inr rfl) (BOOK_in ⟨hq, hlen, hall⟩ H.drop) rfl fun w' H' => .inl ⟨by omega, rfl, H'⟩⟩)
    · rw [show ((q.length : Int) == 64) = false by simp; omega]
      repeat refine C_seq ?_
      refine C_false rfl (C_skip ?_)
      exact .inl ⟨rfl, rfl, by omega, rfl, rfl, H⟩
  · clear H
    rintro ms σ w ⟨rfl, h64, g0, g3, H⟩
    rw [upd_self g0, upd_self g3]
    repeat refine C_seq ?_
    refine C_drawH H mixed ?_
    clear H; intro w H
    refine A_pv 0 rfl (Wants.none rfl) rfl (by kernel_rfl) ?_
    refine A_pv 1 rfl (Wants.none rfl) rfl (by kernel_rfl) ?_
    refine A_pv 2 rfl (Wants.none rfl) rfl (by kernel_rfl) ?_
    refine A_fieldAddr 3 rfl (Wants.none rfl) rfl (by kernel_rfl) ?_
    refine A_load1 4 [8, 11] H rfl (Wants.none rfl) rfl rfl (by kernel_rfl) ?_
    refine A_loadN 5 [6, 7, 8, 11] H rfl (Wants.none rfl) rfl (by repeat (first | exact Reads.nil _ | apply Reads.cons rfl)) (by kernel_rfl) ?_
    refine A_one 6 rfl (by kernel_rfl) (by repeat first | exact .nil | refine .cons (.inr H.at) ?_ | refine .cons (.inr H.mp) ?_ | refine .cons (.inl (by kernel_rfl)) ?_) (Wants.none rfl) (St_call (a := []) (b := []) rfl rfl (call (own_spec _ _ l hR.small hr.there.there.there.there H) ?_))
    clear H; rintro v w ⟨vr', vq', rfl, H⟩
    obtain ⟨a4, m4, c4, rfl⟩ := sls_any H
    obtain ⟨a5, m5, c5, rfl⟩ := sls_any H.swap
    
    refine A_one 7 rfl (by kernel_rfl) (by repeat first | exact .nil | refine .cons (.inr H.at) ?_ | refine .cons (.inr H.mp) ?_ | refine .cons (.inl (by kernel_rfl)) ?_) (Wants.none rfl) (St_buildSlice H rfl rfl rfl ?_); clear H; intro b27 w H
    replace H := Holds.sel [5, 0, 3, 0, 0, 1] 1 H; dsimp only [SL.sel, SL.pull, List.drop] at H
    refine A_one 8 rfl (by kernel_rfl) (by repeat first | exact .nil | refine .cons (.inr H.at) ?_ | refine .cons (.inr H.mp) ?_ | refine .cons (.inl (by kernel_rfl)) ?_) (Wants.none rfl) (St_append H rfl rfl (by repeat (first | exact Reads.nil _ | apply Reads.cons rfl)) rfl (by decide) (by rw [bcells_length]; simp only [List.length_cons, List.length_nil]; omega) rfl rfl ?_); clear H; intro v28 w H
    have e1 : bcells q ++ [.int .i64 l.fixed, .slice a4 m4 c4, .int .i64 l.record, .slice a5 m5 c5] = bcells (q ++ [(.slice a4 m4 c4, .slice a5 m5 c5, l)]) := by
      rw [bcells_append]; rfl
    rw [e1] at H
    have hql' : (q ++ [((.slice a4 m4 c4 : Value), (.slice a5 m5 c5 : Value), l)]).length = ls.length + 1 := by simp [hql]
    obtain ⟨a28, c28, rfl⟩ := sls_slice H (m := ls.length + 1) (by rw [bcells_length, hql']) (by decide)
    refine A_pv 9 rfl (Wants.none rfl) rfl (by kernel_rfl) ?_
    refine A_fieldAddr 10 rfl (Wants.none rfl) rfl (by kernel_rfl) ?_
    refine A_one 11 rfl (by kernel_rfl) (by repeat first | exact .nil | refine .cons (.inr H.at) ?_ | refine .cons (.inr H.mp) ?_ | refine .cons (.inl (by kernel_rfl)) ?_) (Wants.none rfl) (St_store1 H rfl rfl inferInstance rfl (Nat.le_of_ble_eq_true rfl) rfl ?_); clear H; intro w H
    refine A_end (by kernel_rfl) (by repeat first | exact .nil | refine .cons (.inr H.at) ?_ | refine .cons (.inr H.mp) ?_ | refine .cons (.inl (by kernel_rfl)) ?_) ?_
    repeat refine C_seq ?_
    refine C_region ?_
    refine Lp_pv rfl rfl ?_
    refine Lp_pv rfl rfl ?_
    refine Lp_s rfl (St_fieldAddr rfl rfl ?_)
    refine Lp_s rfl (St_load1 H rfl rfl rfl ?_)
    refine Lp_s rfl (St_lenSlice rfl rfl ?_)
    refine Lp_pv rfl rfl ?_
    refine Lp_pv rfl rfl ?_
    refine Lp_nil ?_
    replace H := Holds.sel [2, 0, 1, 1, 1] 1 H; dsimp only [SL.sel, SL.pull, List.drop] at H
    have H1 : Holds w (star ((q ++ [((.slice a4 m4 c4 : Value), (.slice a5 m5 c5 : Value), l)]).map bres) :: pts p (row 217 [.slice a28 (ls.length + 1) c28]) :: sls 101 4 (.slice a28 (ls.length + 1) c28) (bcells (q ++ [(.slice a4 m4 c4, .slice a5 m5 c5, l)])) :: fr) := by
      refine (Holds.pick (x := ((.slice a4 m4 c4 : Value), (.slice a5 m5 c5 : Value), l)) (g1 := q) (g2 := []) rfl).2 ?_
      rw [List.append_nil]
      refine Holds.star.2 ?_
      replace H := Holds.sel [2, 2, 2, 0, 0] 0 H; dsimp only [SL.sel, SL.pull, List.drop] at H
      exact H
    replace H1 := Holds.sel [1, 1, 0] 0 H1; dsimp only [SL.sel, SL.pull, List.drop] at H1
    have H2 := BOOK_in (ls := ls ++ [l]) (q := q ++ [((.slice a4 m4 c4 : Value), (.slice a5 m5 c5 : Value), l)]) ⟨by rw [List.map_append, hq]; rfl, by simp; omega, fun x hx => by
      rcases List.mem_append.1 hx with hx | hx
      · exact hall x hx
      · simp at hx; subst hx; exact hR⟩ H1
    exact C_ret (fn_end0 _ (.inr rfl) H2 rfl fun w' H' => .inr ⟨h64, rfl, H'⟩)

theorem bGet_no [Extra] (p : Nat) (ls : List Lay) (id : Int) (hid : id < 1 ∨ (ls.length : Int) < id) {w : World} {fr : List HProp} (H : Holds w (BOOK p ls :: fr)) :
    Calls Tryz.prog 76 #[pp p, .int .i64 id] w (ret fun x w' => x = .tuple #[layV 0 (.slice none 0 0) 0 (.slice none 0 0), .int .i64 6] ∧ Holds w' (BOOK p ls :: fr)) := by
  obtain ⟨v, q, ⟨hq, hlen, hall⟩, H⟩ := BOOK_out H
  have hql : q.length = ls.length := by rw [← hq, List.length_map]
  obtain ⟨av, cv, rfl⟩ := sls_slice H.drop (bcells_length q) (by decide)
  refine calls_of Tryz.func76 rfl (by kernel_rfl) ?_
  repeat refine C_seq ?_
  refine C_region ?_
  (refine Lp_s rfl (St_alloc H rfl ?_); clear H; intro b4 w H)
  refine Lp_pv rfl rfl ?_
  refine Lp_nil ?_
  repeat refine C_seq ?_
  refine C_block ?_
  repeat refine C_seq ?_
  refine C_region ?_
  refine Lp_pv rfl rfl ?_
  refine Lp_s rfl (St_eqPtrNil rfl rfl (.inl rfl) rfl ?_)
  refine Lp_pv rfl rfl ?_
  refine Lp_nil ?_
  repeat refine C_seq ?_
  refine C_false rfl ?_
  repeat refine C_seq ?_
  refine C_region ?_
  refine Lp_pv rfl rfl ?_
  refine Lp_pv rfl rfl ?_
  by_cases h1 : id < 1
  · rw [show decide (id < 1) = true from decide_eq_true (by omega)]
    refine Lp_pv rfl rfl ?_
    refine Lp_no rfl rfl rfl ?_
    refine Lp_no rfl rfl rfl ?_
    refine Lp_no rfl rfl rfl ?_
    refine Lp_no rfl rfl rfl ?_
    refine Lp_no rfl rfl rfl ?_
    refine Lp_no rfl rfl rfl ?_
    refine Lp_no rfl rfl rfl ?_
    refine Lp_pv rfl rfl ?_
    refine Lp_pv rfl rfl ?_
    refine Lp_nil ?_
    repeat refine C_seq ?_
    refine C_true rfl ?_
    repeat refine C_seq ?_
    refine C_region ?_
    refine Lp_s rfl (St_build rfl rfl ?_)
    (refine Lp_s rfl (St_storeN H rfl rfl inferInstance rfl rfl (Nat.le_of_ble_eq_true rfl) rfl ?_); clear H; intro w H)
    refine Lp_pv rfl rfl ?_
    refine Lp_nil ?_
    exact C_ret (fn_endC _ (.inr rfl) H (fun w' H' => .cellN H' rfl (by repeat (first | exact Reads.nil _ | apply Reads.cons rfl)) (.tmp .nil)) fun w' H' => ⟨rfl, BOOK_in ⟨hq, hlen, hall⟩ H'.drop⟩)
  · rw [show decide (id < 1) = false from decide_eq_false (by omega)]
    refine Lp_pv rfl rfl ?_
    refine Lp_gpv rfl rfl rfl rfl ?_
    refine Lp_gpv rfl rfl rfl rfl ?_
    refine Lp_gpv rfl rfl rfl rfl ?_
    refine Lp_g rfl rfl rfl (St_fieldAddr rfl rfl ?_)
    refine Lp_g rfl rfl rfl (St_load1 H rfl rfl rfl ?_)
    refine Lp_g rfl rfl rfl (St_lenSlice rfl rfl ?_)
    refine Lp_gpv rfl rfl rfl rfl ?_
    rw [show decide (id > (q.length : Int)) = true from decide_eq_true (by omega)]
    refine Lp_pv rfl rfl ?_
    refine Lp_pv rfl rfl ?_
    refine Lp_nil ?_
    repeat refine C_seq ?_
    refine C_true rfl ?_
    repeat refine C_seq ?_
    refine C_region ?_
    refine Lp_s rfl (St_build rfl rfl ?_)
    (refine Lp_s rfl (St_storeN H rfl rfl inferInstance rfl rfl (Nat.le_of_ble_eq_true rfl) rfl ?_); clear H; intro w H)
    refine Lp_pv rfl rfl ?_
    refine Lp_nil ?_
    exact C_ret (fn_endC _ (.inr rfl) H (fun w' H' => .cellN H' rfl (by repeat (first | exact Reads.nil _ | apply Reads.cons rfl)) (.tmp .nil)) fun w' H' => ⟨rfl, BOOK_in ⟨hq, hlen, hall⟩ H'.drop⟩)

theorem bGet_spec [Extra] (p : Nat) (ls : List Lay) (k : Nat) (l : Lay) (hk : ls[k]? = some l) {w : World} {fr : List HProp} (H : Holds w (BOOK p ls :: fr)) :
    Calls Tryz.prog 76 #[pp p, .int .i64 ((k : Int) + 1)] w (ret fun x w' => ∃ vr vq, x = .tuple #[layV l.fixed vr l.record vq, .int .i64 0] ∧ Holds w' (NL vr l.refs :: NL vq l.recs :: BOOK p ls :: fr)) := by
  obtain ⟨v, q, ⟨hq, hlen, hall⟩, H⟩ := BOOK_out H
  have hql : q.length = ls.length := by rw [← hq, List.length_map]
  have hkl : k < ls.length := (List.getElem?_eq_some_iff.1 hk).1
  obtain ⟨av, cv, rfl⟩ := sls_slice H.drop (bcells_length q) (by decide)
  have hR : RightL l := hall l (List.mem_of_getElem? hk)
  obtain ⟨x, hx, hxl⟩ : ∃ x, q[k]? = some x ∧ x.2.2 = l := by
    rw [← hq, List.getElem?_map, Option.map_eq_some_iff] at hk
    exact hk
  obtain ⟨vr, vq, l'⟩ := x
  obtain rfl : l' = l := hxl
  have hpick : q = q.take k ++ (vr, vq, l') :: q.drop (k + 1) := split_at hx
  refine calls_of Tryz.func76 rfl (by kernel_rfl) ?_
  repeat refine C_seq ?_
  refine C_region ?_
  (refine Lp_s rfl (St_alloc H rfl ?_); clear H; intro b4 w H)
  refine Lp_pv rfl rfl ?_
  refine Lp_nil ?_
  repeat refine C_seq ?_
  refine C_joinQ (fun ms σ w => ms = [] ∧ σ 0 = pp p ∧ σ 1 = .int .i64 ((k : Int) + 1) ∧ σ 4 = pp b4 ∧ Holds w (pts b4 (row 101 [.int .i64 0, .slice none 0 0, .int .i64 0, .slice none 0 0]) :: pts p (row 217 [.slice av q.length cv]) :: sls 101 4 (.slice av q.length cv) (bcells q) :: star (q.map bres) :: fr)) ?_ ?_
  · refine C_block ?_
    repeat refine C_seq ?_
    refine C_region ?_
    refine Lp_pv rfl rfl ?_
    refine Lp_s rfl (St_eqPtrNil rfl rfl (.inl rfl) rfl ?_)
    refine Lp_pv rfl rfl ?_
    refine Lp_nil ?_
    repeat refine C_seq ?_
    refine C_false rfl ?_
    repeat refine C_seq ?_
    refine C_region ?_
    refine Lp_pv rfl rfl ?_
    refine Lp_pv rfl rfl ?_
    rw [show decide ((k : Int) + 1 < 1) = false from decide_eq_false (by omega)]
    refine Lp_pv rfl rfl ?_
    refine Lp_gpv rfl rfl rfl rfl ?_
    refine Lp_gpv rfl rfl rfl rfl ?_
    refine Lp_gpv rfl rfl rfl rfl ?_
    refine Lp_g rfl rfl rfl (St_fieldAddr rfl rfl ?_)
    refine Lp_g rfl rfl rfl (St_load1 H rfl rfl rfl ?_)
    refine Lp_g rfl rfl rfl (St_lenSlice rfl rfl ?_)
    refine Lp_gpv rfl rfl rfl rfl ?_
    rw [show decide ((k : Int) + 1 > (q.length : Int)) = false from decide_eq_false (by omega)]
    refine Lp_pv rfl rfl ?_
    refine Lp_pv rfl rfl ?_
    refine Lp_nil ?_
    repeat refine C_seq ?_
    refine C_false rfl (C_skip ?_)
    exact .inl ⟨rfl, rfl, rfl, rfl, rfl, H⟩
  · clear H
    rintro ms σ w ⟨rfl, g0, g1, g4, H⟩
    rw [upd_self g0, upd_self g1, upd_self g4]
    replace H := Holds.sel [3, 2, 0, 0] 0 H; dsimp only [SL.sel, SL.pull, List.drop] at H
    have H := Holds.star.1 ((Holds.pick hpick).1 H)
    replace H : Holds w (NL vr l'.refs :: NL vq l'.recs :: star ((q.take k ++ q.drop (k + 1)).map bres) :: sls 101 4 (.slice av q.length cv) (bcells q) :: pts b4 (row 101 [.int .i64 0, .slice none 0 0, .int .i64 0, .slice none 0 0]) :: pts p (row 217 [.slice av q.length cv]) :: fr) := H
    obtain ⟨ar, cr, rfl⟩ := sls_slice H (ncells_length _) (by decide)
    obtain ⟨aq, cq, rfl⟩ := sls_slice H.drop (ncells_length _) (by decide)
    obtain ⟨D1, H, hD1, hC1⟩ := sls_rd H (ncells_length _) (by decide)
    obtain ⟨D2, H, hD2, hC2⟩ := sls_rd H.swap (ncells_length _) (by decide)
    replace H := Holds.sel [3, 0, 0, 0, 0, 0] 0 H; dsimp only [SL.sel, SL.pull, List.drop] at H
    obtain ⟨b, s, rfl, H, hclose⟩ := sls_open H (by omega)
    repeat refine C_seq ?_
    refine C_region ?_
    refine Lp_pv rfl rfl ?_
    refine Lp_pv rfl rfl ?_
    refine Lp_s rfl (St_fieldAddr rfl rfl ?_)
    refine Lp_s rfl (St_load1 H rfl rfl rfl ?_)
    refine Lp_pv rfl rfl ?_
    refine Lp_pv rfl rfl ?_
    rw [wrap64 (x := (k : Int) + 1 - 1) (by omega) (by omega), show (k : Int) + 1 - 1 = (k : Int) by omega]
    refine Lp_s rfl (St_indexAddr rfl rfl (by omega) (by omega) rfl ?_)
    refine Lp_s rfl (St_loadN H rfl (bcells_reads hx) rfl ?_)
    refine Lp_s rfl (St_call (a := []) (b := []) rfl rfl (call (own_spec _ _ l' hR.small ⟨(hD1 _).there.there, (hD2 _).there⟩ H) ?_))
    clear H; rintro v w ⟨vr', vq', rfl, H⟩
    obtain ⟨a4, m4, c4, rfl⟩ := sls_any H
    obtain ⟨a5, m5, c5, rfl⟩ := sls_any H.swap
    (refine Lp_s rfl (St_storeN H rfl rfl inferInstance rfl rfl (Nat.le_of_ble_eq_true rfl) rfl ?_); clear H; intro w H)
    refine Lp_pv rfl rfl ?_
    refine Lp_nil ?_
    replace H := Holds.sel [3, 3, 2, 2, 2, 2, 0, 0] 0 H; dsimp only [SL.sel, SL.pull, List.drop] at H
    replace H := hC1 _ _ (hC2 _ _ H).swap
    replace H := Holds.sel [0, 0, 1, 0, 0, 0, 0, 0] 0 H; dsimp only [SL.sel, SL.pull, List.drop] at H
    replace H : Holds w (star (q.map bres) :: _) := (Holds.pick hpick).2 (Holds.star.2 H)
    replace H := Holds.sel [1, 1, 2, 2, 1, 0] 0 H; dsimp only [SL.sel, SL.pull, List.drop] at H
    replace H := hclose _ _ H
    replace H := Holds.sel [1, 1, 1, 1, 0, 0] 0 H; dsimp only [SL.sel, SL.pull, List.drop] at H
    exact C_ret (fn_endC _ (.inr rfl) H (fun w' H' => .cellN H' rfl (by repeat (first | exact Reads.nil _ | apply Reads.cons rfl)) (.tmp .nil)) fun w' H' => ⟨_, _, rfl, (BOOK_in (l := NL (.slice a4 m4 c4) l'.refs :: NL (.slice a5 m5 c5) l'.recs :: fr) ⟨hq, hlen, hall⟩ (by have H' := H'.drop; replace H' := Holds.sel [2, 2, 2, 0, 0] 0 H'; dsimp only [SL.sel, SL.pull, List.drop] at H'; exact H')).sel [1, 1, 0] 0⟩)
end Go.Proofs.YtcaaojbnjfdglaaGreatDoor
namespace Go.Proofs
open Go.Shelf
def Tryz.laysBs_ren : Go.Shelf.Ren := ⟨fun | 25 => 82 | 31 => 140 | 32 => 141 | 37 => 182 | n => n, fun | 22 => 48 | 3 => 3 | 4 => 4 | 40 => 124 | 0 => 0 | n => n, fun | n => n⟩
theorem Tryz.laysBs : Go.Proofs.Lays2.n25 Tryz.prog Tryz.laysBs_ren := {
  mixed := by kernel_rfl
  f25 := Tryz.func82.trans (congrArg some (by kernel_rfl))
  f31 := Tryz.func140.trans (congrArg some (by kernel_rfl))
  f32 := Tryz.func141.trans (congrArg some (by kernel_rfl))
  f37 := Tryz.func182.trans (congrArg some (by kernel_rfl))
  t0 := Tryz.underlying0
  a0 := Tryz.isAgg0
  z0 := Tryz.sizeOf0
  v0 := Tryz.zeroValue0
  t3 := Tryz.underlying3
  a3 := Tryz.isAgg3
  z3 := Tryz.sizeOf3
  v3 := Tryz.zeroValue3
  t4 := Tryz.underlying4
  a4 := Tryz.isAgg4
  z4 := Tryz.sizeOf4
  v4 := Tryz.zeroValue4
  t22 := Tryz.underlying48
  a22 := Tryz.isAgg48
  z22 := Tryz.sizeOf48
  v22 := Tryz.zeroValue48
  t40 := Tryz.underlying124
  a40 := Tryz.isAgg124
  z40 := Tryz.sizeOf124
  v40 := Tryz.zeroValue124 }
end Go.Proofs
namespace Go.Proofs.YtcaaojbnjfdglaaGreatDoor
open Go.SL

def posL (l : List Nat) (x : Nat) : Nat := l.countP (· < x)
theorem map_contains (l : List Nat) (x : Nat) : (l.map fun a : Nat => (a : Int)).contains (x : Int) = decide (x ∈ l) := by
  induction l with
  | nil => simp
  | cons a l ih =>
    rw [List.map_cons, List.contains_cons, ih]
    by_cases h : x = a
    · subst h; simp
    · have : ((x : Int) == (a : Int)) = false := by simp; omega
      simp [this, h]
theorem map_count (l : List Nat) (x : Nat) : (l.map fun a : Nat => (a : Int)).countP (· < (x : Int)) = posL l x := by
  unfold posL
  rw [List.countP_map]
  congr 1
  funext a
  simp

theorem Search_spec [Extra] (v : Value) (l : List Nat) (hl : l.length ≤ 1000000) (hs : l.Pairwise (· < ·)) (x : Nat) {w : World} {fr : List HProp} (hr : RdS fr v l.length 1 (ncells l)) (H : Holds w fr) :
    Calls Tryz.prog 82 #[v, .int .i64 x] w (ret fun r w' => r = .tuple #[.int .i64 (posL l x : Nat), .bool (decide (x ∈ l))] ∧ Holds w' fr) := by
  obtain ⟨_, ad, cap, rfl, hr'⟩ := id hr
  by_cases h0 : l = []
  · subst h0
    refine calls_of Tryz.func82 rfl (by kernel_rfl) ?_
    repeat refine C_seq ?_
    refine C_region ?_
    refine Lp_pv rfl rfl ?_
    refine Lp_pv rfl rfl ?_
    refine Lp_nil ?_
    repeat refine C_seq ?_
    refine C_region ?_
    refine Lp_pv rfl rfl ?_
    refine Lp_s rfl (St_lenSlice rfl rfl ?_)
    refine Lp_pv rfl rfl ?_
    refine Lp_nil ?_
    repeat refine C_seq ?_
    refine C_region ?_
    refine Lp_pv rfl rfl ?_
    refine Lp_pv rfl rfl ?_
    refine Lp_pv rfl rfl ?_
    refine Lp_nil ?_
    repeat refine C_seq ?_
    refine C_block ?_
    refine C_loop (fun ms σ w q => ms = [] ∧ σ 6 = .int .i64 0 ∧ σ 7 = .int .i64 0 ∧ σ 8 = .int .i64 0 ∧ Holds w fr) (m := 0) ⟨rfl, rfl, rfl, rfl, H⟩ ?_
    clear H
    rintro ms σ w q ⟨rfl, g6, g7, g8, H⟩
    rw [upd_self g6, upd_self g7, upd_self g8]
    repeat refine C_seq ?_
    refine C_region ?_
    refine Lp_pv rfl rfl ?_
    refine Lp_pv rfl rfl ?_
    refine Lp_pv rfl rfl ?_
    refine Lp_nil ?_
    repeat refine C_seq ?_
    refine C_false rfl (C_exit ?_)
    repeat refine C_seq ?_
    refine C_region ?_
    refine Lp_pv rfl rfl ?_
    refine Lp_pv rfl rfl ?_
    refine Lp_pv rfl rfl ?_
    refine Lp_pv rfl rfl ?_
    refine Lp_pv rfl rfl ?_
    refine Lp_no rfl rfl rfl ?_
    refine Lp_no rfl rfl rfl ?_
    refine Lp_no rfl rfl rfl ?_
    refine Lp_no rfl rfl rfl ?_
    refine Lp_no rfl rfl rfl ?_
    refine Lp_no rfl rfl rfl ?_
    refine Lp_no rfl rfl rfl ?_
    refine Lp_nn rfl rfl ?_
    refine Lp_nn rfl rfl ?_
    refine Lp_nn rfl rfl ?_
    refine Lp_nn rfl rfl ?_
    refine Lp_nn rfl rfl ?_
    refine Lp_nn rfl rfl ?_
    refine Lp_nn rfl rfl ?_
    refine Lp_nn rfl rfl ?_
    refine Lp_nn rfl rfl ?_
    refine Lp_no rfl rfl rfl ?_
    refine Lp_pv rfl rfl ?_
    refine Lp_pv rfl rfl ?_
    refine Lp_pv rfl rfl ?_
    refine Lp_nil ?_
    exact C_ret (fn_end0 _ (.inr rfl) H rfl fun w' H' => ⟨rfl, H'⟩)
  · rcases hr' with h | ⟨b, o, E, fz, c, rfl, hA, hrd⟩
    · exact absurd (List.eq_nil_of_length_eq_zero h) h0
    haveI := hA
    have hc : ∀ j, j < l.length → w.cell? ⟨b, o + j, none⟩ = some (.int .i64 (l.getD j 0)) := fun j hj => by
      refine cell_row H.at ?_
      rw [Nat.mul_one] at hrd
      refine hrd.get j _ ?_
      simp [ncells, hj]
    have e1 : ∀ j, (l.map fun a : Nat => (a : Int)).getD j 0 = ((l.getD j 0 : Nat) : Int) := fun j => by
      simp only [List.getD_eq_getElem?_getD, List.getElem?_map]
      cases l[j]? <;> rfl
    have e2 : (l.map fun a : Nat => (a : Int)).take l.length = l.map fun a : Nat => (a : Int) := List.take_of_length_le (by simp)
    refine (Any.slices_BinarySearch_int Tryz.laysBs b o l.length cap (l.map fun a : Nat => (a : Int)) x w (by simp) (by omega) (fun j hj => by rw [hc j (by simpa using hj), e1]) ?_).mono ?_
    · rw [e2]
      refine List.Pairwise.map _ (fun a b h => ?_) hs
      omega
    · rintro e w' ⟨rfl, q, rfl⟩
      refine ⟨?_, H.heap rfl⟩
      rw [e2, map_contains, map_count]

theorem IsRef_no [Extra] (vr vq : Value) (l : Lay) (hR : RightL l) (count : Int) (place : Int) {n : Nat} (hz : sizeL l count = (n, 0)) (hp : place < 0 ∨ (n : Int) ≤ place) {w : World} {fr : List HProp} (hr : RdL fr vr vq l) (H : Holds w fr) :
    Calls Tryz.prog 168 #[layV l.fixed vr l.record vq, .int .i64 count, .int .i64 place] w (ret fun x w' => x = .tuple #[.bool false, .int .i64 3] ∧ Holds w' fr) := by
  obtain ⟨_, ad1, cap1, rfl, hr1⟩ := id hr.r
  obtain ⟨_, ad2, cap2, rfl, hr2⟩ := id hr.q
  refine calls_of Tryz.func168 rfl (by kernel_rfl) ?_
  repeat refine C_seq ?_
  refine C_region ?_
  (refine Lp_s rfl (St_boxN H rfl rfl ?_); clear H; intro b3 w H)
  refine Lp_pv rfl rfl ?_
  refine Lp_pv rfl rfl ?_
  refine Lp_nil ?_
  repeat refine C_seq ?_
  refine C_region ?_
  refine Lp_s rfl (St_loadN H rfl (by repeat (first | exact Reads.nil _ | apply Reads.cons rfl)) rfl ?_)
  refine Lp_pv rfl rfl ?_
  refine Lp_s rfl (St_call (a := []) (b := []) rfl rfl (call (Size_spec _ _ l hR count hr.there H) ?_))
  clear H; rintro v w ⟨rfl, H⟩
  rw [hz]
  refine Lp_pv rfl rfl ?_
  refine Lp_pv rfl rfl ?_
  refine Lp_pv rfl rfl ?_
  refine Lp_pv rfl rfl ?_
  refine Lp_pv rfl rfl ?_
  refine Lp_nil ?_
  repeat refine C_seq ?_
  refine C_block ?_
  repeat refine C_seq ?_
  refine C_region ?_
  refine Lp_pv rfl rfl ?_
  refine Lp_pv rfl rfl ?_
  refine Lp_pv rfl rfl ?_
  refine Lp_nil ?_
  repeat refine C_seq ?_
  refine C_false rfl ?_
  repeat refine C_seq ?_
  refine C_region ?_
  refine Lp_pv rfl rfl ?_
  refine Lp_pv rfl rfl ?_
  by_cases h1 : place < 0
  · rw [show decide (place < 0) = true from decide_eq_true (by omega)]
    refine Lp_pv rfl rfl ?_
    refine Lp_no rfl rfl rfl ?_
    refine Lp_no rfl rfl rfl ?_
    refine Lp_no rfl rfl rfl ?_
    refine Lp_pv rfl rfl ?_
    refine Lp_pv rfl rfl ?_
    refine Lp_nil ?_
    repeat refine C_seq ?_
    refine C_true rfl ?_
    repeat refine C_seq ?_
    refine C_region ?_
    refine Lp_pv rfl rfl ?_
    refine Lp_pv rfl rfl ?_
    refine Lp_nil ?_
    exact C_ret (fn_end0 _ (.inr rfl) H.drop rfl fun w' H' => ⟨rfl, H'⟩)
  · rw [show decide (place < 0) = false from decide_eq_false (by omega)]
    refine Lp_pv rfl rfl ?_
    refine Lp_gpv rfl rfl rfl rfl ?_
    refine Lp_gpv rfl rfl rfl rfl ?_
    refine Lp_gpv rfl rfl rfl rfl ?_
    rw [show decide (place ≥ (n : Int)) = true from decide_eq_true (by omega)]
    refine Lp_pv rfl rfl ?_
    refine Lp_pv rfl rfl ?_
    refine Lp_nil ?_
    repeat refine C_seq ?_
    refine C_true rfl ?_
    repeat refine C_seq ?_
    refine C_region ?_
    refine Lp_pv rfl rfl ?_
    refine Lp_pv rfl rfl ?_
    refine Lp_nil ?_
    exact C_ret (fn_end0 _ (.inr rfl) H.drop rfl fun w' H' => ⟨rfl, H'⟩)

theorem IsRef_spec [Extra] (vr vq : Value) (l : Lay) (hR : RightL l) (count : Int) (p : Nat) {n : Nat} (hz : sizeL l count = (n, 0)) (hp : p < n) {w : World} {fr : List HProp} (hr : RdL fr vr vq l) (H : Holds w fr) :
    Calls Tryz.prog 168 #[layV l.fixed vr l.record vq, .int .i64 count, .int .i64 p] w (ret fun x w' => x = .tuple #[.bool (isRefL l p), .int .i64 0] ∧ Holds w' fr) := by
  have hsm := hR.small
  obtain ⟨z1, z2, z3, z4, z5⟩ := sizeL_ok hz
  obtain ⟨_, ad1, cap1, rfl, hr1⟩ := id hr.r
  obtain ⟨_, ad2, cap2, rfl, hr2⟩ := id hr.q
  refine calls_of Tryz.func168 rfl (by kernel_rfl) ?_
  repeat refine C_seq ?_
  refine C_region ?_
  (refine Lp_s rfl (St_boxN H rfl rfl ?_); clear H; intro b3 w H)
  refine Lp_pv rfl rfl ?_
  refine Lp_pv rfl rfl ?_
  refine Lp_nil ?_
  repeat refine C_seq ?_
  refine C_region ?_
  refine Lp_s rfl (St_loadN H rfl (by repeat (first | exact Reads.nil _ | apply Reads.cons rfl)) rfl ?_)
  refine Lp_pv rfl rfl ?_
  refine Lp_s rfl (St_call (a := []) (b := []) rfl rfl (call (Size_spec _ _ l hR count hr.there H) ?_))
  clear H; rintro v w ⟨rfl, H⟩
  rw [hz]
  refine Lp_pv rfl rfl ?_
  refine Lp_pv rfl rfl ?_
  refine Lp_pv rfl rfl ?_
  refine Lp_pv rfl rfl ?_
  refine Lp_pv rfl rfl ?_
  refine Lp_nil ?_
  repeat refine C_seq ?_
  refine C_joinQ (fun ms σ w => ms = [] ∧ σ 2 = .int .i64 p ∧ σ 3 = pp b3 ∧ Holds w (pts b3 (row 101 [.int .i64 l.fixed, .slice ad1 l.refs.length cap1, .int .i64 l.record, .slice ad2 l.recs.length cap2]) :: fr)) ?_ ?_
  · refine C_block ?_
    repeat refine C_seq ?_
    refine C_region ?_
    refine Lp_pv rfl rfl ?_
    refine Lp_pv rfl rfl ?_
    refine Lp_pv rfl rfl ?_
    refine Lp_nil ?_
    repeat refine C_seq ?_
    refine C_false rfl ?_
    repeat refine C_seq ?_
    refine C_region ?_
    refine Lp_pv rfl rfl ?_
    refine Lp_pv rfl rfl ?_
    rw [show decide ((p : Int) < 0) = false from decide_eq_false (by omega)]
    refine Lp_pv rfl rfl ?_
    refine Lp_gpv rfl rfl rfl rfl ?_
    refine Lp_gpv rfl rfl rfl rfl ?_
    refine Lp_gpv rfl rfl rfl rfl ?_
    rw [show decide ((p : Int) ≥ (n : Int)) = false from decide_eq_false (by omega)]
    refine Lp_pv rfl rfl ?_
    refine Lp_pv rfl rfl ?_
    refine Lp_nil ?_
    repeat refine C_seq ?_
    refine C_false rfl (C_skip ?_)
    exact .inl ⟨rfl, rfl, rfl, rfl, H⟩
  · clear H
    rintro ms σ w ⟨rfl, g2, g3, H⟩
    rw [upd_self g2, upd_self g3]
    repeat refine C_seq ?_
    refine C_region ?_
    refine Lp_s rfl (St_fieldAddr rfl rfl ?_)
    refine Lp_s rfl (St_load1 H rfl rfl rfl ?_)
    refine Lp_pv rfl rfl ?_
    refine Lp_pv rfl rfl ?_
    refine Lp_pv rfl rfl ?_
    refine Lp_nil ?_
    repeat refine C_seq ?_
    refine C_region ?_
    refine Lp_pv rfl rfl ?_
    refine Lp_s rfl (St_fieldAddr rfl rfl ?_)
    refine Lp_s rfl (St_load1 H rfl rfl rfl ?_)
    refine Lp_pv rfl rfl ?_
    refine Lp_nil ?_
    by_cases h1 : p < l.fixed
    · rw [show decide ((p : Int) ≥ (l.fixed : Int)) = false from decide_eq_false (by omega)]
      repeat refine C_seq ?_
      refine C_false rfl (C_skip ?_)
      repeat refine C_seq ?_
      refine C_region ?_
      refine Lp_pv rfl rfl ?_
      refine Lp_pv rfl rfl ?_
      refine Lp_s rfl (St_call (a := []) (b := []) rfl rfl (call (Search_spec _ l.refs hsm.a hR.2.2.2.1.2 p hr.r.there H) ?_))
      clear H; rintro v w ⟨rfl, H⟩
      refine Lp_pv rfl rfl ?_
      refine Lp_pv rfl rfl ?_
      refine Lp_pv rfl rfl ?_
      refine Lp_pv rfl rfl ?_
      refine Lp_pv rfl rfl ?_
      refine Lp_nil ?_
      repeat refine C_seq ?_
      refine C_region ?_
      refine Lp_pv rfl rfl ?_
      refine Lp_pv rfl rfl ?_
      refine Lp_pv rfl rfl ?_
      refine Lp_nil ?_
      exact C_ret (fn_end0 _ (.inr rfl) H.drop rfl fun w' H' => ⟨by unfold isRefL; rw [if_pos h1]; rfl, H'⟩)
    · have hrec : l.record ≠ 0 := by
        intro h0
        rw [h0] at z3
        omega
      have e1 : IntKind.i64.wrap ((p : Int) - (l.fixed : Int)) = ((p - l.fixed : Nat) : Int) := by rw [wrap64 (by omega) (by omega)]; omega
      rw [show decide ((p : Int) ≥ (l.fixed : Int)) = true from decide_eq_true (by omega)]
      repeat refine C_seq ?_
      refine C_join (fun ms σ w => ms = [] ∧ σ 10 = .slice ad2 l.recs.length cap2 ∧ σ 11 = .int .i64 (((p - l.fixed) % l.record : Nat) : Int) ∧ Holds w (pts b3 (row 101 [.int .i64 l.fixed, .slice ad1 l.refs.length cap1, .int .i64 l.record, .slice ad2 l.recs.length cap2]) :: fr)) ?_ ?_
      · refine C_true rfl ?_
        repeat refine C_seq ?_
        refine C_drawH H mixed ?_
        clear H; intro w H
        refine A_fieldAddr 0 rfl (Wants.none rfl) rfl (by kernel_rfl) ?_
        refine A_load1 1 [] H rfl (Wants.none rfl) rfl rfl (by kernel_rfl) ?_
        refine A_pv 2 rfl (Wants.none rfl) rfl (by kernel_rfl) ?_
        refine A_fieldAddr 3 rfl (Wants.none rfl) rfl (by kernel_rfl) ?_
        refine A_load1 4 [] H rfl (Wants.none rfl) rfl rfl (by kernel_rfl) ?_
        refine A_pv 5 rfl (Wants.none rfl) rfl (by kernel_rfl) ?_
        refine A_fieldAddr 6 rfl (Wants.none rfl) rfl (by kernel_rfl) ?_
        refine A_load1 7 [] H rfl (Wants.none rfl) rfl rfl (by kernel_rfl) ?_
        rw [e1]
        refine A_pv (v := .int .i64 (((p - l.fixed) % l.record : Nat) : Int)) 8 rfl (Wants.none rfl) (by
          show (if IntKind.i64 = IntKind.i64 then (if (l.record : Int) = 0 then none else some (Value.int .i64 (Int.tmod ((p - l.fixed : Nat) : Int) (l.record : Int)))) else none) = _
          rw [if_pos rfl, if_neg (by omega), Int.tmod_eq_emod_of_nonneg (by omega), Int.natCast_emod]) (by kernel_rfl) ?_
        refine A_pv 9 rfl (Wants.none rfl) rfl (by kernel_rfl) ?_
        refine A_pv 10 rfl (Wants.none rfl) rfl (by kernel_rfl) ?_
        refine A_end (by kernel_rfl) (by repeat first | exact .nil | refine .cons (.inr H.at) ?_ | refine .cons (.inr H.mp) ?_ | refine .cons (.inl (by kernel_rfl)) ?_) ?_
        exact ⟨rfl, rfl, rfl, rfl, H⟩
      · clear H
        rintro ms σ w ⟨rfl, g10, g11, H⟩
        rw [upd_self g10, upd_self g11]
        repeat refine C_seq ?_
        refine C_region ?_
        refine Lp_pv rfl rfl ?_
        refine Lp_pv rfl rfl ?_
        refine Lp_s rfl (St_call (a := []) (b := []) rfl rfl (call (Search_spec _ l.recs hsm.b hR.2.2.2.2.2 _ hr.q.there H) ?_))
        clear H; rintro v w ⟨rfl, H⟩
        refine Lp_pv rfl rfl ?_
        refine Lp_pv rfl rfl ?_
        refine Lp_pv rfl rfl ?_
        refine Lp_pv rfl rfl ?_
        refine Lp_pv rfl rfl ?_
        refine Lp_nil ?_
        repeat refine C_seq ?_
        refine C_region ?_
        refine Lp_pv rfl rfl ?_
        refine Lp_pv rfl rfl ?_
        refine Lp_pv rfl rfl ?_
        refine Lp_nil ?_
        exact C_ret (fn_end0 _ (.inr rfl) H.drop rfl fun w' H' => ⟨by unfold isRefL; rw [if_neg h1]; rfl, H'⟩)
end Go.Proofs.YtcaaojbnjfdglaaGreatDoor
namespace Go.Proofs.YtcaaojbnjfdglaaGreatDoor
open Go.SL

theorem rise_spec [Extra] (v : Value) (l : List Nat) (size : Nat) (hl : l.length ≤ 1000000) {w : World} {fr : List HProp} (hr : RdS fr v l.length 1 (ncells l)) (H : Holds w fr) :
    Calls Tryz.prog 157 #[v, .int .i64 size] w (ret fun x w' => (∃ b, x = .bool b ∧ (b = true ↔ RisL l size)) ∧ Holds w' fr) := by
  obtain ⟨_, ad, cap, rfl, hr⟩ := hr
  refine calls_of Tryz.func157 rfl (by kernel_rfl) ?_
  repeat refine C_seq ?_
  refine C_region ?_
  refine Lp_pv rfl rfl ?_
  refine Lp_nil ?_
  repeat refine C_seq ?_
  refine C_region ?_
  refine Lp_pv rfl rfl ?_
  refine Lp_nil ?_
  repeat refine C_seq ?_
  refine C_region ?_
  refine Lp_pv rfl rfl ?_
  refine Lp_nil ?_
  repeat refine C_seq ?_
  refine C_block ?_
  refine C_loop (fun ms σ w q => ms = [] ∧ ∃ (i : Nat) (t : Int), i ≤ l.length ∧ q = l.length - i ∧ RisL (l.take i) size ∧ ((i = 0 ∧ t = -1) ∨ ∃ y : Nat, (l.take i).getLast? = some y ∧ t = y) ∧ σ 0 = .slice ad l.length cap ∧ σ 1 = .int .i64 size ∧ σ 5 = .int .i64 t ∧ σ 6 = .int .i64 i ∧ Holds w fr) (m := l.length) ⟨rfl, 0, -1, by omega, rfl, ⟨by simp, by simp⟩, .inl ⟨rfl, rfl⟩, rfl, rfl, rfl, rfl, H⟩ ?_
  clear H
  rintro ms σ w q ⟨rfl, i, t, hi, rfl, hR, ht, g0, g1, g5, g6, H⟩
  rw [upd_self g0, upd_self g1, upd_self g5, upd_self g6]
  repeat refine C_seq ?_
  refine C_region ?_
  refine Lp_pv rfl rfl ?_
  refine Lp_pv rfl rfl ?_
  refine Lp_s rfl (St_lenSlice rfl rfl ?_)
  refine Lp_pv rfl rfl ?_
  refine Lp_nil ?_
  repeat refine C_seq ?_
  refine C_dec rfl (fun h => C_skip ?_) (fun h => C_exit ?_)
  · have hlt : i < l.length := by omega
    have hx := List.getElem?_eq_getElem hlt
    have htk : l.take (i + 1) = l.take i ++ [l[i]] := by rw [List.take_add_one, hx]; rfl
    have hmem : l[i] ∈ l := List.getElem_mem hlt
    have hlast : (l.take (i + 1)).getLast? = some l[i] := by rw [htk, List.getLast?_concat]
    have hbad : ∀ y : Nat, (l.take i).getLast? = some y → l.Pairwise (· < ·) → y < l[i] := fun y hy hp => by
      have hi0 : 0 < i := by
        rcases Nat.eq_zero_or_pos i with h0 | h0
        · subst h0; simp at hy
        · exact h0
      rw [List.getLast?_eq_getElem?, List.length_take, Nat.min_eq_left hi, List.getElem?_take_of_lt (by omega), List.getElem?_eq_getElem (by omega)] at hy
      have := List.pairwise_iff_getElem.1 hp (i - 1) i (by omega) hlt (by omega)
      injection hy with hy
      omega
    generalize l[i] = x at hx htk hmem hlast hbad
    rcases hr with hr | ⟨b, o, E, fz, c, rfl, hA, hrd⟩
    · omega
    haveI := hA
    have hcell : c[o + i * 1]? = some (.int .i64 x) := by
      rw [Nat.mul_one]
      exact hrd.get i _ (by simp [ncells, hx])
    repeat refine C_seq ?_
    refine C_block ?_
    repeat refine C_seq ?_
    refine C_region ?_
    refine Lp_pv rfl rfl ?_
    refine Lp_pv rfl rfl ?_
    refine Lp_s rfl (St_indexAddr rfl rfl (by omega) (by omega) rfl ?_)
    refine Lp_s rfl (St_load1 H rfl hcell rfl ?_)
    refine Lp_pv rfl rfl ?_
    refine Lp_pv rfl rfl ?_
    by_cases h1 : (x : Int) ≤ t
    · rw [show decide ((x : Int) ≤ t) = true from decide_eq_true (by omega)]
      refine Lp_pv rfl rfl ?_
      refine Lp_no rfl rfl rfl ?_
      refine Lp_no rfl rfl rfl ?_
      refine Lp_no rfl rfl rfl ?_
      refine Lp_no rfl rfl rfl ?_
      refine Lp_no rfl rfl rfl ?_
      refine Lp_no rfl rfl rfl ?_
      refine Lp_pv rfl rfl ?_
      refine Lp_nil ?_
      repeat refine C_seq ?_
      refine C_true rfl ?_
      repeat refine C_seq ?_
      refine C_region ?_
      refine Lp_pv rfl rfl ?_
      refine Lp_nil ?_
      refine C_ret (fn_end0 _ (.inr rfl) H rfl fun w' H' => ⟨⟨false, rfl, ⟨fun h => (by cases h), fun h => ?_⟩⟩, H'⟩)
      rcases ht with ⟨_, rfl⟩ | ⟨y, hy, rfl⟩
      · omega
      · have := hbad y hy h.2; omega
    · rw [show decide ((x : Int) ≤ t) = false from decide_eq_false (by omega)]
      refine Lp_pv rfl rfl ?_
      refine Lp_gpv rfl rfl rfl rfl ?_
      refine Lp_gpv rfl rfl rfl rfl ?_
      refine Lp_g rfl rfl rfl (St_indexAddr rfl rfl (by omega) (by omega) rfl ?_)
      refine Lp_g rfl rfl rfl (St_load1 H rfl hcell rfl ?_)
      refine Lp_gpv rfl rfl rfl rfl ?_
      refine Lp_gpv rfl rfl rfl rfl ?_
      by_cases h2 : x < size
      · rw [show decide ((x : Int) ≥ (size : Int)) = false from decide_eq_false (by omega)]
        refine Lp_pv rfl rfl ?_
        refine Lp_nil ?_
        repeat refine C_seq ?_
        refine C_false rfl (C_skip ?_)
        repeat refine C_seq ?_
        refine C_region ?_
        refine Lp_pv rfl rfl ?_
        refine Lp_pv rfl rfl ?_
        refine Lp_s rfl (St_indexAddr rfl rfl (by omega) (by omega) rfl ?_)
        refine Lp_s rfl (St_load1 H rfl hcell rfl ?_)
        refine Lp_pv rfl rfl ?_
        refine Lp_nil ?_
        repeat refine C_seq ?_
        refine C_region ?_
        refine Lp_pv rfl rfl ?_
        refine Lp_pv rfl rfl ?_
        refine Lp_pv rfl rfl ?_
        refine Lp_nil ?_
        refine ⟨_, ⟨rfl, i + 1, x, hlt, rfl, ?_, .inr ⟨x, hlast, rfl⟩, rfl, rfl, rfl, inc64 (by omega), H⟩, by omega⟩
        rw [htk]
        refine ⟨fun p hp => ?_, ris_snoc hR.2 fun z hz => ?_⟩
        · simp at hp
          rcases hp with hp | rfl
          · exact hR.1 p hp
          · exact h2
        · rcases ht with ⟨rfl, rfl⟩ | ⟨y, hy, rfl⟩
          · simp at hz
          · rw [hy] at hz; cases hz; omega
      · rw [show decide ((x : Int) ≥ (size : Int)) = true from decide_eq_true (by omega)]
        refine Lp_pv rfl rfl ?_
        refine Lp_nil ?_
        repeat refine C_seq ?_
        refine C_true rfl ?_
        repeat refine C_seq ?_
        refine C_region ?_
        refine Lp_pv rfl rfl ?_
        refine Lp_nil ?_
        refine C_ret (fn_end0 _ (.inr rfl) H rfl fun w' H' => ⟨⟨false, rfl, ⟨fun h => (by cases h), fun h => ?_⟩⟩, H'⟩)
        exact absurd (h.1 x hmem) h2
  · have hge : i = l.length := by omega
    subst hge
    rw [List.take_length] at hR
    repeat refine C_seq ?_
    refine C_region ?_
    refine Lp_pv rfl rfl ?_
    refine Lp_nil ?_
    exact C_ret (fn_end0 _ (.inr rfl) H rfl fun w' H' => ⟨⟨true, rfl, by simp [hR]⟩, H'⟩)

theorem has_spec [Extra] (v : Value) (l : List Nat) (x : Nat) (hl : l.length ≤ 1000000) {w : World} {fr : List HProp} (hr : RdS fr v l.length 1 (ncells l)) (H : Holds w fr) :
    Calls Tryz.prog 127 #[v, .int .i64 x] w (ret fun r w' => r = .bool (decide (x ∈ l)) ∧ Holds w' fr) := by
  obtain ⟨_, ad, cap, rfl, hr⟩ := hr
  refine calls_of Tryz.func127 rfl (by kernel_rfl) ?_
  repeat refine C_seq ?_
  refine C_region ?_
  refine Lp_pv rfl rfl ?_
  refine Lp_nil ?_
  repeat refine C_seq ?_
  refine C_region ?_
  refine Lp_pv rfl rfl ?_
  refine Lp_nil ?_
  repeat refine C_seq ?_
  refine C_block ?_
  refine C_loop (fun ms σ w q => ms = [] ∧ ∃ i : Nat, i ≤ l.length ∧ q = l.length - i ∧ x ∉ l.take i ∧ σ 0 = .slice ad l.length cap ∧ σ 1 = .int .i64 x ∧ σ 5 = .int .i64 i ∧ Holds w fr) (m := l.length) ⟨rfl, 0, by omega, rfl, by simp, rfl, rfl, rfl, H⟩ ?_
  clear H
  rintro ms σ w q ⟨rfl, i, hi, rfl, hn, g0, g1, g5, H⟩
  rw [upd_self g0, upd_self g1, upd_self g5]
  repeat refine C_seq ?_
  refine C_region ?_
  refine Lp_pv rfl rfl ?_
  refine Lp_pv rfl rfl ?_
  refine Lp_s rfl (St_lenSlice rfl rfl ?_)
  refine Lp_pv rfl rfl ?_
  refine Lp_nil ?_
  repeat refine C_seq ?_
  refine C_dec rfl (fun h => C_skip ?_) (fun h => C_exit ?_)
  · have hlt : i < l.length := by omega
    have hx := List.getElem?_eq_getElem hlt
    have htk : l.take (i + 1) = l.take i ++ [l[i]] := by rw [List.take_add_one, hx]; rfl
    have hmem : l[i] ∈ l := List.getElem_mem hlt
    generalize l[i] = y at hx htk hmem
    rcases hr with hr | ⟨b, o, E, fz, c, rfl, hA, hrd⟩
    · omega
    haveI := hA
    have hcell : c[o + i * 1]? = some (.int .i64 y) := by
      rw [Nat.mul_one]
      exact hrd.get i _ (by simp [ncells, hx])
    repeat refine C_seq ?_
    refine C_block ?_
    repeat refine C_seq ?_
    refine C_region ?_
    refine Lp_pv rfl rfl ?_
    refine Lp_pv rfl rfl ?_
    refine Lp_s rfl (St_indexAddr rfl rfl (by omega) (by omega) rfl ?_)
    refine Lp_s rfl (St_load1 H rfl hcell rfl ?_)
    refine Lp_pv rfl rfl ?_
    refine Lp_pv rfl rfl ?_
    refine Lp_nil ?_
    by_cases h1 : y = x
    · subst h1
      rw [show ((y : Int) == (y : Int)) = true by simp]
      repeat refine C_seq ?_
      refine C_true rfl ?_
      repeat refine C_seq ?_
      refine C_region ?_
      refine Lp_pv rfl rfl ?_
      refine Lp_nil ?_
      exact C_ret (fn_end0 _ (.inr rfl) H rfl fun w' H' => ⟨by rw [decide_eq_true hmem]; rfl, H'⟩)
    · rw [show ((y : Int) == (x : Int)) = false by simp; omega]
      repeat refine C_seq ?_
      refine C_false rfl (C_skip ?_)
      repeat refine C_seq ?_
      refine C_region ?_
      refine Lp_pv rfl rfl ?_
      refine Lp_pv rfl rfl ?_
      refine Lp_pv rfl rfl ?_
      refine Lp_nil ?_
      refine ⟨_, ⟨rfl, i + 1, hlt, rfl, ?_, rfl, rfl, inc64 (by omega), H⟩, by omega⟩
      rw [htk]
      simp only [List.mem_append, List.mem_singleton]
      rintro (h | h)
      · exact hn h
      · exact h1 h.symm
  · have hge : i = l.length := by omega
    subst hge
    rw [List.take_length] at hn
    repeat refine C_seq ?_
    refine C_region ?_
    refine Lp_pv rfl rfl ?_
    refine Lp_nil ?_
    exact C_ret (fn_end0 _ (.inr rfl) H rfl fun w' H' => ⟨by rw [decide_eq_false hn]; rfl, H'⟩)

theorem places_spec [Extra] (x : Nat) (hx : x < 18446744073709551616) {w : World} {fr : List HProp} (H : Holds w fr) :
    Calls Tryz.prog 108 #[.int .u64 x] w (ret fun v w' => Holds w' (NL v (bitsTo x 64) :: fr)) := by
  refine calls_of Tryz.func108 rfl (by kernel_rfl) ?_
  repeat refine C_seq ?_
  refine C_region ?_
  refine Lp_pv rfl rfl ?_
  refine Lp_nil ?_
  repeat refine C_seq ?_
  refine C_region ?_
  refine Lp_pv rfl rfl ?_
  refine Lp_nil ?_
  repeat refine C_seq ?_
  refine C_region ?_
  refine Lp_pv rfl rfl ?_
  refine Lp_nil ?_
  repeat refine C_seq ?_
  refine C_block ?_
  refine C_loop (fun ms σ w n => ms = [] ∧ ∃ (k : Nat) (g : Value), k ≤ 64 ∧ n = 64 - k ∧ σ 0 = .int .u64 ((x / 2 ^ k : Nat) : Int) ∧ σ 3 = g ∧ σ 4 = .int .i64 k ∧ Holds w (NL g (bitsTo x k) :: fr)) (m := 64) ⟨rfl, 0, _, by omega, rfl, by simp; rfl, rfl, rfl, sls_nil H⟩ ?_
  clear H
  rintro ms σ w n ⟨rfl, k, g, hk, rfl, g0, g3, g4, H⟩
  obtain ⟨ag, mg, cg, rfl⟩ := sls_any H
  rw [upd_self g0, upd_self g3, upd_self g4]
  repeat refine C_seq ?_
  refine C_region ?_
  refine Lp_pv rfl rfl ?_
  refine Lp_pv rfl rfl ?_
  refine Lp_nil ?_
  by_cases h64 : k < 64
  · rw [show decide ((k : Int) < 64) = true from decide_eq_true (by omega)]
    repeat refine C_seq ?_
    refine C_true rfl (C_skip ?_)
    have hdle : x / 2 ^ k ≤ x := Nat.div_le_self _ _
    have hbit : x.testBit k = decide (x / 2 ^ k % 2 = 1) := Nat.testBit_eq_decide_div_mod_eq
    have hnext : x / 2 ^ (k + 1) = x / 2 ^ k / 2 := by rw [Nat.pow_succ, Nat.div_div_eq_div_mul]
    generalize hy : x / 2 ^ k = y at hdle hbit hnext
    have hrem : Int.tmod (y : Int) 2 = ((y % 2 : Nat) : Int) := by rw [Int.tmod_eq_emod_of_nonneg (by omega)]; omega
    have hquo : IntKind.u64.wrap (Int.tdiv (y : Int) 2) = ((y / 2 : Nat) : Int) := by
      rw [Int.tdiv_eq_ediv_of_nonneg (by omega), show (y : Int) / 2 = ((y / 2 : Nat) : Int) by omega, wrapU_nat (by omega)]
    repeat refine C_seq ?_
    refine C_block ?_
    repeat refine C_seq ?_
    refine C_region ?_
    refine Lp_pv rfl rfl ?_
    refine Lp_pv rfl rfl ?_
    rw [hrem]
    refine Lp_pv rfl rfl ?_
    refine Lp_nil ?_
    repeat refine C_seq ?_
    refine C_join (fun ms σ w => ms = [] ∧ ∃ g : Value, σ 0 = .int .u64 y ∧ σ 3 = g ∧ σ 4 = .int .i64 k ∧ Holds w (NL g (bitsTo x (k + 1)) :: fr)) ?_ ?_
    · by_cases h1 : y % 2 = 1
      · have e2 : bitsTo x (k + 1) = bitsTo x k ++ [k] := by rw [bitsTo_succ, hbit, decide_eq_true h1]; rfl
        rw [show (((y % 2 : Nat) : Int) == 1) = true by simp; omega]
        refine C_true rfl ?_
        repeat refine C_seq ?_
        refine C_region ?_
        refine Lp_pv rfl rfl ?_
        refine Lp_pv rfl rfl ?_
        (refine Lp_s rfl (St_buildSlice H rfl rfl rfl ?_); clear H; intro b14 w H)
        refine Lp_s rfl (St_append H.swap rfl rfl (by repeat (first | exact Reads.nil _ | apply Reads.cons rfl)) rfl (by decide) (by rw [ncells_length]; have := bitsTo_len x k; simp only [List.length_cons, List.length_nil]; omega) rfl rfl ?_); clear H; intro v15 w H
        obtain ⟨a15, m15, c15, rfl⟩ := sls_any H
        refine Lp_pv rfl rfl ?_
        refine Lp_nil ?_
        refine ⟨rfl, rfl, _, rfl, rfl, rfl, ?_⟩
        rw [e2]
        show Holds w (sls _ 1 _ (ncells (bitsTo x k ++ [k])) :: _)
        rw [ncells_append]
        exact Holds.drop H.swap
      · have e2 : bitsTo x (k + 1) = bitsTo x k := by rw [bitsTo_succ, hbit, decide_eq_false h1]; simp
        rw [show (((y % 2 : Nat) : Int) == 1) = false by simp; omega]
        refine C_false rfl (C_skip ?_)
        exact ⟨rfl, rfl, _, rfl, rfl, rfl, by rw [e2]; exact H⟩
    · clear H
      rintro ms σ w ⟨rfl, g, g0, g3, g4, H⟩
      obtain ⟨ag, mg, cg, rfl⟩ := sls_any H
      rw [upd_self g0, upd_self g3, upd_self g4]
      repeat refine C_seq ?_
      refine C_region ?_
      refine Lp_pv rfl rfl ?_
      refine Lp_pv rfl rfl ?_
      rw [hquo]
      refine Lp_pv rfl rfl ?_
      refine Lp_nil ?_
      repeat refine C_seq ?_
      refine C_region ?_
      refine Lp_pv rfl rfl ?_
      refine Lp_pv rfl rfl ?_
      refine Lp_pv rfl rfl ?_
      refine Lp_nil ?_
      exact ⟨_, ⟨rfl, k + 1, _, h64, rfl, by rw [hnext]; rfl, rfl, inc64 (by omega), H⟩, by omega⟩
  · have hk64 : k = 64 := by omega
    subst hk64
    rw [show decide (((64 : Nat) : Int) < 64) = false from rfl]
    repeat refine C_seq ?_
    refine C_false rfl (C_exit ?_)
    repeat refine C_seq ?_
    refine C_region ?_
    refine Lp_pv rfl rfl ?_
    refine Lp_pv rfl rfl ?_
    refine Lp_nil ?_
    exact C_ret (fn_end0 _ (.inr rfl) H rfl fun w' H' => H')
end Go.Proofs.YtcaaojbnjfdglaaGreatDoor
