/- Cells: what is proved on the way: every input of the statement; no condition. Texts joined: JnB JnC OpnY. -/
import Derived.Test.YtipelpbkeiphmaaGreatDoorBaf
import Derived.Test.YtipelpbkeiphmaaGreatDoorBan
import Derived.Test.YtipelpbkeiphmaaGreatDoorBao
import Derived.Test.YtipelpbkeiphmaaGreatDoorRows
import Derived.Lib.SmallJoins
import Derived.Lib.LaidIn
import Derived.Stop.LaidErr
import Derived.Stop.Joined
import Derived.ChangeMaps5
import Derived.ChangeSlices
set_option linter.unusedVariables false
set_option linter.unusedSimpArgs false
set_option linter.unusedSectionVars false
namespace Go.Proofs.YtipelpbkeiphmaaGreatDoor
open Go.SL

def jB : MS := ⟨[-1, 0, 1], [L0], []⟩
def jC : MS := makeM jB 1 1 0
def jD : MS := makeM jC 2 1 0
def jE : MS := (tieM jD 0 1 1).1
def jF : MS := freeM jE [2]
theorem jmwfB : MWF jB := ⟨⟨by simp [jB], by simp [jB]⟩, ⟨by simp [jB], fun l h => by simp [jB] at h; subst h; exact right0⟩, (fun x h => by simp [jB] at h), by simp [jB]⟩
theorem jmayB : mayM jB 1 1 0 = (2, 0) := by decide
theorem jmayC : mayM jC 2 1 0 = (2, 0) := by decide
theorem jmwfC : MWF jC := MWF_make (by rw [jmayB]) jmwfB (by simp [jB])
theorem jmwfD : MWF jD := MWF_make (by rw [jmayC]) jmwfC (by show (jB.objs ++ [_]).length < _; simp [jB])
theorem jmwfE : MWF jE := by
  show MWF (setM jD 0 { newM 1 1 0 2 with kind := (newM 1 1 0 2).kind.set 1 2, to := (newM 1 1 0 2).to.set 1 1 })
  exact MWF_set jmwfD (MobOK_cut (jmwfD.objs _ (show newM 1 1 0 2 ∈ [newM 1 1 0 2, newM 2 1 0 2] from List.mem_cons_self)) 1 2 1 (fun _ => by decide))
theorem jpar {s : CS} {m : MS} {told : List (Nat × Nat)} (R : Rel s m told) (h : m.P = [-1, 0, 1]) (r q : Int) : fnd s.par r = some q ↔ (r = 1 ∧ q = 0) ∨ (r = 2 ∧ q = 1) := by
  rw [fnd_iff R.nd, R.tree, h]
  constructor
  · rintro ⟨k, rfl, h1, h2, h3⟩
    match k, h1, h2 with
    | 1, _, h2 => injection h2 with h2; exact .inl ⟨rfl, h2.symm⟩
    | 2, _, h2 => injection h2 with h2; exact .inr ⟨rfl, h2.symm⟩
    | k + 3, _, h2 => cases h2
  · rintro (⟨rfl, rfl⟩ | ⟨rfl, rfl⟩)
    · exact ⟨1, rfl, by omega, rfl, by omega⟩
    · exact ⟨2, rfl, by omega, rfl, by omega⟩
theorem sorted_one {L : List Int} {x : Int} (hnd : L.Nodup) (h : ∀ c, c ∈ L ↔ c = x) : L = [x] := by
  cases L with
  | nil => have := (h x).2 rfl; cases this
  | cons a L =>
    obtain rfl := (h a).1 List.mem_cons_self
    cases L with
    | nil => rfl
    | cons b L =>
      obtain rfl := (h b).1 (by simp)
      simp at hnd

theorem alive16_spec [Extra] {w : World} {fr : List HProp} [hT : HasTab 0 Lib.deBruijn64tab fr] (H : Holds w fr) :
    Calls Tryz.prog 21 #[] w (ret fun v w' => v = .bool true ∧ Holds w' fr) := by
  have Rs0 := rel0 6 8 6
  have hdS : defS (cs0 6 8 6) [2, 2, 0] = ({ cs0 6 8 6 with lays := [L0] }, 1, 0) := by rw [defS_some dec0]; rfl
  refine calls_of Tryz.func21 rfl (by kernel_rfl) ?_
  refine J122 H ?_
  refine Jc rfl rfl (cNew_spec 6 8 6 (by omega) (by omega) (by omega) (by omega) (by omega) (by omega) H) ?_
  clear H; rintro v w ⟨c, rfl, H⟩
  replace H : Holds w (CELL c (cs0 6 8 6) :: fr) := H
  refine J27 H ?_
  refine J10 H ?_
  refine J126 H ?_
  refine J16 H ?_
  refine J32 H ?_
  clear H; intro b22 w H
  replace H := H.swap
  have hrd : RdS (pts b22 (row 127 [.int .u64 2, .int .u64 2, .int .u64 0]) :: fr) (.slice (some ⟨b22, 0, none⟩) 3 3) 3 1 (ucells [2, 2, 0]) := ⟨rfl, _, _, rfl, .inr ⟨b22, 0, _, _, _, rfl, inferInstance, .cons rfl (.cons rfl (.cons rfl (.nil _)))⟩⟩
  refine Jc rfl rfl (Define_spec c (cs0 6 8 6) _ [2, 2, 0] (by decide) hrd H) ?_
  clear H; rintro v w ⟨rfl, H⟩
  rw [hdS] at H ⊢
  have RA : Rel { cs0 6 8 6 with lays := [L0] } ⟨[-1], [L0], []⟩ [] := by
    have h := (def_law Rs0 mwf0 [2, 2, 0]).2
    rw [hdS] at h
    exact h
  refine J158 H ?_
  refine Jc rfl rfl (Open_spec c _ 0 (by decide) H) ?_
  clear H; rintro v w (⟨h1, rfl, H⟩ | ⟨_, ob, ob2, rfl, H⟩)
  · exact absurd rfl h1
  have RO := open_rel RA (parent := 0) rfl ob ob2
  generalize hsA : openS { cs0 6 8 6 with lays := [L0] } 0 ob ob2 = sA at H RO
  have hA1 : sA.par = [(1, 0)] ∧ sA.last = 1 := by rw [← hsA]; exact ⟨rfl, rfl⟩
  refine J158 H ?_
  have hadd : addErr sA.par 1 = 0 := by rw [hA1.1]; decide
  refine Jc rfl rfl (Open_spec c _ 1 (by rw [hA1.2]; decide) H) ?_
  clear H; rintro v w (⟨h1, rfl, H⟩ | ⟨_, oc, oc2, rfl, H⟩)
  · exact absurd hadd h1
  have RB := open_rel RO (parent := 1) (by decide) oc oc2
  generalize hsB : openS sA 1 oc oc2 = sB at H RB
  have hB1 : sB.size = 8 := by rw [← hsB, ← hsA]; rfl
  have hB2 : sB.own = List.replicate 6 0 := by rw [← hsB, ← hsA]; rfl
  have hB3 : sB.tab = List.replicate 6 ⟨0, none⟩ := by rw [← hsB, ← hsA]; rfl
  have FB : Fresh sB [] := ⟨⟨6, by rw [hB3]; rfl⟩, rfl, inv_empty (by rw [← hsB, ← hsA]; rfl) (by rw [hB3]; exact no_free)⟩
  replace RB : Rel sB jB [] := RB
  refine J158 H ?_
  refine Jc rfl rfl (Make_all c sB 1 1 0 H) ?_
  clear H; rintro v w ⟨i1, g1, e1, sC, rfl, hM1, H⟩
  obtain ⟨rfl, rfl, rfl, RC, FC, hC1, hC2, hC3⟩ := alive_makeR RB jmwfB FB hM1 jmayB hB1 (by rw [hB3]; decide) ⟨0, by rw [hB2]; decide, by rw [hB2]; rfl⟩
  rw [hB3] at hC3
  rw [hB2] at hC2
  replace RC : Rel sC jC [(0, 1)] := RC
  replace FC : Fresh sC [(0, 1)] := FC
  have hfree : ∃ a, a < sC.own.length ∧ sC.own.getD a 0 = 0 := by
    obtain ⟨hl, a0, k0, hk0, hg⟩ := hC2
    have hz : ∀ a, a ≠ a0 → sC.own.getD a 0 = 0 := by
      intro a ha
      refine Classical.byContradiction fun h => ?_
      rcases hg a h with h1 | h1
      · exact h1 (rep_get 6 a)
      · omega
    have hl4 : sC.own.length = 6 := hl
    by_cases h0 : a0 = 0
    · exact ⟨1, by omega, hz 1 (by omega)⟩
    · exact ⟨0, by omega, hz 0 (by omega)⟩
  refine J19 H ?_
  clear H; intro b3 w H
  refine J6 H ?_
  clear H; intro w H
  refine J0 H ?_
  replace H := H.swap
  refine J16 H ?_
  refine Jc rfl rfl (Make_all c sC 2 1 0 H) ?_
  clear H; rintro v w ⟨i2, g2, e2, sD, rfl, hM2, H⟩
  obtain ⟨rfl, rfl, rfl, RD, FD, hD1, hD2, hD3⟩ := alive_makeR RC jmwfC FC hM2 jmayC hC1 (by rw [hC3]; decide) hfree
  replace RD : Rel sD jD [(0, 1), (1, 1)] := RD
  refine J19 H ?_
  clear H; intro b5 w H
  refine J6 H ?_
  clear H; intro w H
  refine J0 H ?_
  replace H := Js [1,0,0] 0 H
  refine J10 H ?_
  refine J58 H ?_
  refine J22 H ?_
  refine J70 H ?_
  refine J70 H ?_
  obtain ⟨_, _, hwD, _, _⟩ := CELL_out H
  have P0 : Pick [(0, 1), (1, 1)] 0 1 0 := .inl ⟨0, 1, 0, rfl, rfl, rfl, rfl⟩
  have P1 : Pick [(0, 1), (1, 1)] 1 1 1 := .inl ⟨1, 1, 1, rfl, rfl, rfl, rfl⟩
  obtain ⟨t1, RE⟩ := tie_law RD hwD jmwfD P0 P1 1
  rw [show (tieM jD 0 1 1).2 = 0 by decide] at t1
  replace RE : Rel (TieS sD 0 1 1 1 1).1 jE [(0, 1), (1, 1)] := RE
  have IE := inv_TieS hwD FD.inv 0 1 1 1 1
  have shE := shape_TieS sD 0 1 1 1 1
  refine Lp_g rfl rfl rfl (St_call (a := []) (b := []) rfl rfl (call (CTie_spec c sD 0 1 1 1 1 H) ?_))
  clear H; rintro v w ⟨rfl, H⟩
  rw [t1]
  generalize (TieS sD 0 1 1 1 1).1 = sE at H RE IE shE
  have hgE : ∀ (k g : Nat) (e : Ent), sE.tab[k]? = some ⟨g, some e⟩ → g < 255 := by
    intro k g e hk
    obtain ⟨⟨r, hs⟩, _, _⟩ := id FD
    rw [← shE] at hs
    rcases shape_at hs hk with ⟨_, h1, _⟩ | ⟨_, _, h1, _⟩
    · have h1 : g = 1 := h1
      omega
    · have h1 : g = 0 := h1
      omega
  have hparE := jpar RE rfl
  have hTE : TreeOK sE.par := by
    refine ⟨RE.nd, fun r q hr => ?_⟩
    rcases (hparE r q).1 hr with ⟨rfl, rfl⟩ | ⟨rfl, rfl⟩
    · exact ⟨by omega, by omega, .inl rfl⟩
    · exact ⟨by omega, by omega, .inr (by rw [(hparE 1 0).2 (.inl ⟨rfl, rfl⟩)]; rfl)⟩
  refine J71 H ?_
  refine J16 H ?_
  refine Jc rfl rfl (jFree_spec c sE 2 hTE (by rw [(hparE 2 1).2 (.inr ⟨rfl, rfl⟩)]; rfl) IE hgE H) ?_
  clear H; rintro v w ⟨u, L, sF, rfl, hL1, hL2, hL3, hL4, hF, H⟩
  have hLd : L = [2] := sorted_one hL1 fun c => by
    rw [hL3]
    constructor
    · intro d
      cases d with
      | self => rfl
      | kid hd hf =>
        rcases (hparE _ _).1 hf with ⟨rfl, rfl⟩ | ⟨rfl, rfl⟩
        · have := hd.ge hTE
          omega
        · have := hd.ge hTE
          omega
    · rintro rfl
      exact .self
  subst hLd
  obtain ⟨aL, cL, rfl⟩ := sls_slice H (icells_length [2]) (by decide)
  obtain ⟨G, D, hT⟩ := hF.t
  have RF : Rel sF jF [(0, 1), (1, 1)] := Rel_free (L := [2]) RE jmwfE IE hT
  refine J27 H ?_
  have t4 : lookL sF 0 1 1 = (.grave, 0) := by
    rcases look_law RF P0 1 with ⟨h1, h2⟩ | ⟨h1, n, j, x, h2, h3, h4, _, _, _, _, h5⟩
    · exact absurd (by decide) h1
    · obtain rfl : n = 0 := by omega
      obtain rfl : j = 1 := by omega
      rw [h5]
      have h6 : jF.objs[0]? = some ⟨1, 1, 0, [0, 0], [0, 1], [0, 0], true, false, false⟩ := by rfl
      rw [h6] at h4
      injection h4 with h4
      rw [← h4]
      rfl
  replace H := Js [1,0,0,0] 0 H
  refine J72 H ?_
  refine Jc rfl rfl (Look_spec c sF 0 1 1 H) ?_
  clear H; rintro v w ⟨rfl, H⟩
  rw [t4]
  refine J19 H ?_
  clear H; intro b9 w H
  refine J6 H ?_
  clear H; intro w H
  refine J0 H ?_
  refine J10 H ?_
  refine J22 H ?_
  refine Lp_g rfl rfl rfl (St_buildSlice H rfl rfl rfl ?_)
  clear H; intro b66 w H
  replace H : Holds w (IL (.slice (some ⟨b66, 0, none⟩) 1 1) [2] :: _) := sls_lit rfl H
  replace H := Js [3,0,0,0,0,0] 0 H
  have hSame := Same_spec (.slice aL 1 cL) (.slice (some ⟨b66, 0, none⟩) 1 1) [2] [2] (by decide) H
  refine Lp_g rfl rfl rfl (St_call (a := []) (b := []) rfl rfl (call (hSame) ?_))
  clear hSame
  clear H; rintro v w ⟨rfl, H⟩
  rw [show decide ([2] = ([2] : List Int)) = true from rfl]
  refine J11 H ?_
  refine J58 H ?_
  refine J70 H ?_
  refine Lp_g rfl rfl rfl (St_build rfl rfl ?_)
  refine Lp_g rfl rfl rfl (St_eqAgg rfl rfl rfl rfl (.inl rfl) rfl ?_)
  refine J3 H ?_
  replace H : Holds w fr := H.drop.drop.drop.drop.drop.drop.drop
  exact C_ret (Jy H rfl fun w' H' => ⟨rfl, H'⟩)
end Go.Proofs.YtipelpbkeiphmaaGreatDoor
namespace Go.SL
section
variable {P : Program} {n : Nat} {r : Option Nat} {ops : Array Oper} {σ : Env} {w : World}
variable {ivs : List (List Nat × (World → Prop))} {T : Env → World → Prop} {f : Nat} {L : Array Bool}
variable {u t : TypeId} {p : String} {af : Array Edge} {g : Option (Nat × Bool)} {d : Option Tmp} {x y : Operand}
theorem A_min {k q : IntKind} {a b : Int} {ts : Array TypeId} (i : Nat) (hi : ops[i]? = some ⟨d, .call { callee := .builtin .min, args := #[x, y], argTypes := ts }, u, p, af, g⟩) (hg : Wants ops σ ⟨d, .call { callee := .builtin .min, args := #[x, y], argTypes := ts }, u, p, af, g⟩ true) (hx : ev σ x = .int k a) (hy : ev σ y = .int q b)
    (hs : stB n ops (ivs.map (·.1)) L i [] = true) (h : Any P n r ops ivs T f (L.setIfInBounds i true) (put σ d (.int k (if b < a then b else a))) w) : Any P n r ops ivs T (f + 1) L σ w :=
  A_val (o := ⟨d, .call { callee := .builtin .min, args := #[x, y], argTypes := ts }, u, p, af, g⟩) i hi hg (fun c e => by cases e) (fun w => by simp [execOp, resolve, invoke, builtin, hx, hy, Builtin.min_, Builtin.min2]) hs h
theorem A_sliceToA {e size bytes len cap : Nat} {ad : Option Addr} {q : IntKind} {i : Int} (m : Nat) (hm : ops[m]? = some ⟨d, .slice t x none (some y) none, u, p, af, g⟩) (hg : Wants ops σ ⟨d, .slice t x none (some y) none, u, p, af, g⟩ true) [hT : TSlice P t e size bytes] (hx : ev σ x = .slice ad len cap) (hy : ev σ y = .int q i) (h0 : 0 ≤ i) (h1 : i ≤ cap)
    (hb : stB n ops (ivs.map (·.1)) L m [] = true) (k : Any P n r ops ivs T f (L.setIfInBounds m true) (put σ d (.slice ad i.toNat cap)) w) : Any P n r ops ivs T (f + 1) L σ w := by
  have hs : ∀ w, (sizeOf e).run P w = .ok size w := fun w => by
    obtain ⟨k, hk, e2⟩ := Option.map_eq_some_iff.1 hT.info
    simp only [Prod.mk.injEq] at e2
    exact run_sizeOf' (by rw [hk]; simp [e2.1])
  refine A_val (o := ⟨d, .slice t x none (some y) none, u, p, af, g⟩) m hm hg (fun c e => by cases e) (fun w => ?_) hb k
  cases ad with
  | none => simp [execOp, hx, hy, Instr.sliceAt, Instr.slice, run_und hT.und, Instr.sliceBounds, Instr.sliceBound, asIntOf, h0, h1, hs]
  | some a => simp [execOp, hx, hy, Instr.sliceAt, Instr.slice, run_und hT.und, Instr.sliceBounds, Instr.sliceBound, asIntOf, h0, h1, hs, add0]
end
end Go.SL
namespace Go.Proofs.YtipelpbkeiphmaaGreatDoor
open Go.SL

theorem May16_no [Extra] (p : Nat) (m : MS) (region : Int) (v : Value) (hl : liveP m.P region = false) {w : World} {fr : List HProp} (H : Holds w (MODEL p m :: fr)) :
    Calls Tryz.prog 22 #[pp p, .int .i64 region, v] w (ret fun v w' => v = .int .i64 15 ∧ Holds w' (MODEL p m :: fr)) := by
  obtain ⟨t, lc, oc, aL, cL, aO, cO, h1, h2, h3, h4, h5, H⟩ := MODEL_out H
  refine calls_of Tryz.func22 rfl (by kernel_rfl) ?_
  refine J12 H ?_
  refine J18 H ?_
  replace H := H.swap
  refine Jc rfl rfl (dLive_spec t m.P region H) ?_
  clear H; rintro v w ⟨rfl, H⟩
  rw [hl]
  refine J25 H ?_
  refine J34 H ?_
  exact C_ret (Jy (MODEL_in h1 h2 h3 H.swap) rfl fun w' H' => ⟨rfl, H'⟩)

theorem JoinNone_walk [Extra] (z1 z2 z3 region : Int) (ad : Option Addr) (len cap : Nat) (hlc : len ≤ cap) {w : World} {fr : List HProp} [hT : HasTab 0 Lib.deBruijn64tab fr] (H : Holds w fr) :
    Calls Tryz.prog 4 #[.agg #[.int .i64 z1, .int .i64 z2, .int .i64 z3], .int .i64 region, .slice ad len cap] w (ret fun v w' => v = .bool true ∧ Holds w' fr) := by
  have hmn : (if (100 : Int) < ((len : Nat) : Int) then 100 else ((len : Nat) : Int)) = ((min len 100 : Nat) : Int) := by split <;> omega
  refine calls_of Tryz.func4 rfl (by kernel_rfl) ?_
  refine J8 H ?_
  clear H; intro b3 w H
  refine J135 H ?_
  refine Jc rfl rfl (jFree_nil region H) ?_
  clear H; rintro v w ⟨rfl, H⟩
  refine J27 H ?_
  refine J16 H ?_
  refine Jc rfl rfl (jMerge_nil region H) ?_
  clear H; rintro v w ⟨rfl, H⟩
  refine J27 H ?_
  refine J10 H ?_
  refine J91 H ?_
  refine Lp_s rfl (St_min rfl rfl rfl ?_)
  rw [hmn]
  refine Lp_s rfl (St_sliceToA rfl rfl (by omega) (by omega) rfl ?_)
  refine Jc rfl rfl (jSplit_nil region _ H) ?_
  clear H; rintro v w ⟨rfl, H⟩
  refine J27 H ?_
  refine J26 H ?_
  refine Jc rfl rfl (Of_spec z1 z2 z3 H) ?_
  clear H; rintro v w ⟨p, n, size, slots, rfl, hn1, hn2, hs1, hs2, ht1, ht2, H⟩
  refine J0 H ?_
  refine J51 H ?_
  refine Jc rfl rfl (alive16_spec H) ?_
  clear H; rintro v w ⟨rfl, H⟩
  refine J11 H ?_
  refine J58 H ?_
  refine J169 H ?_
  refine J169 H ?_
  refine J126 H ?_
  obtain ⟨c, mo, a, cp, H⟩ := RUN_out H
  have hno : fnd (cs0 n size slots).par region = none := rfl
  refine J18 H ?_
  replace H := H.swap
  refine Jc rfl rfl (jFree_no c _ region hno H) ?_
  clear H; rintro v w ⟨rfl, H⟩
  refine J27 H ?_
  refine J18 H ?_
  refine Jc rfl rfl (jMerge_no c _ region hno H) ?_
  clear H; rintro v w ⟨rfl, H⟩
  refine J136 H ?_
  clear H; intro w H
  refine J28 H ?_
  refine A_load1 3 [10] H rfl (Wants.none rfl) rfl rfl (by kernel_rfl) ?_
  refine J97 H ?_
  refine A_lenSlice 7 rfl (Wants.none rfl) rfl (by kernel_rfl) ?_
  refine A_min 8 rfl (Wants.none rfl) rfl rfl (by kernel_rfl) ?_
  rw [hmn]
  refine A_sliceToA 9 rfl (Wants.none rfl) rfl rfl (by omega) (by omega) (by kernel_rfl) ?_
  refine Jo 10 H ?_
  refine Jk rfl rfl (jSplit_no c _ region _ hno H) ?_
  clear H; rintro v w ⟨rfl, H⟩
  refine J115 H ?_
  refine J106 H ?_
  refine J10 H ?_
  refine J169 H ?_
  refine J169 H ?_
  refine J22 H ?_
  refine Lp_g rfl rfl rfl (St_lenSlice rfl rfl ?_)
  refine J22 H ?_
  refine J11 H ?_
  refine J58 H ?_
  refine J58 H ?_
  refine Lp_g rfl rfl rfl (St_call (a := []) (b := []) rfl rfl (call (New15_spec H) ?_))
  clear H; rintro v w ⟨mp0, rfl, H⟩
  refine J22 H ?_
  have hl0 : liveP ms0.P region = false := by
    unfold liveP
    rw [decide_eq_false]
    rintro ⟨h1, h2, _⟩
    have h2 : region < 1 := h2
    omega
  refine Lp_g rfl rfl rfl (St_call (a := []) (b := []) rfl rfl (call (May16_no mp0 ms0 region (.slice none 0 0) hl0 H) ?_))
  clear H; rintro v w ⟨rfl, H⟩
  refine J24 H ?_
  refine J3 H ?_
  exact C_ret (Jy H.drop.drop.drop.drop.drop.drop rfl fun w' H' => ⟨rfl, H'⟩)
end Go.Proofs.YtipelpbkeiphmaaGreatDoor
set_option linter.constructorNameAsVariable false
set_option maxRecDepth 100000
namespace Go.Proofs.YtipelpbkeiphmaaGreatDoor
open Go.SL Go.ChangeShapes Go.WideShapes Go.ChangeAt Go.RowKit Go.Deep

section
variable {H : Type} {enc : TypeId × Value → H} {W : World} {n : Nat} {sp : Nat → Bool} {held : Bool} {base : Nat}
theorem cons_of_len {α : Type} {l : List α} {n : Nat} (h : l.length = n + 1) : ∃ a t, l = a :: t ∧ t.length = n := by
  cases l with
  | nil => cases h
  | cons a t => exact ⟨a, t, rfl, by simpa using h⟩
theorem size_cells {cs : List Value} {x : DataW H × List MemPlace} (h : DataW.trod enc Tryz.prog W base sp held n 44 cs = some x) : ∃ z1 z2 z3 : Int, cs = [.int .i64 z1, .int .i64 z2, .int .i64 z3] := by
  obtain ⟨xs, k, rfl, hx, hl, hlen, hf⟩ := DataW.trod_struct Tryz.underlying44 h
  have hl2 : cs.length = 3 := hl.trans (by kernel_rfl)
  obtain ⟨c0, ct0, rfl, g0⟩ := cons_of_len hl2
  obtain ⟨c1, ct1, rfl, g1⟩ := cons_of_len g0
  obtain ⟨c2, ct2, rfl, g2⟩ := cons_of_len g1
  obtain rfl := List.length_eq_zero_iff.1 g2
  obtain ⟨y0, yt0, rfl, k0⟩ := cons_of_len hlen
  obtain ⟨y1, yt1, rfl, k1⟩ := cons_of_len k0
  obtain ⟨y2, yt2, rfl, k2⟩ := cons_of_len k1
  have h0 := hf 0 _ rfl
  have h1 := hf 1 _ rfl
  have h2 := hf 2 _ rfl
  obtain ⟨z0, e0, _⟩ := DataW.trod_int Tryz.underlying3 h0
  obtain ⟨z1, e1, _⟩ := DataW.trod_int Tryz.underlying3 h1
  obtain ⟨z2, e2, _⟩ := DataW.trod_int Tryz.underlying3 h2
  refine ⟨z0, z1, z2, ?_⟩
  have e0 : [c0] = [.int .i64 z0] := e0
  have e1 : [c1] = [.int .i64 z1] := e1
  have e2 : [c2] = [.int .i64 z2] := e2
  simp only [List.cons.injEq, and_true] at e0 e1 e2
  rw [e0, e1, e2]
theorem open_size {v : Value} {d : DataW H} {ps : List MemPlace} {r : Reach} {b0 : Nat} (hv : Value.okWide Tryz.prog W r b0 44 v) (h : DataW.Trod enc Tryz.prog W 0 (fun _ => true) true 44 v d ps) : ∃ z1 z2 z3 : Int, v = .agg #[.int .i64 z1, .int .i64 z2, .int .i64 z3] := by
  obtain ⟨cs, rfl, hsz⟩ := okWide_struct Tryz.underlying44 hv
  obtain ⟨fuel, hf⟩ := h
  obtain ⟨z1, z2, z3, hx⟩ := size_cells hf
  refine ⟨z1, z2, z3, ?_⟩
  have : cs.toList = [.int .i64 z1, .int .i64 z2, .int .i64 z3] := hx
  rw [← Array.toArray_toList (xs := cs), this]
/-- A slice that was handed in. -/
theorem open_slcT {v : Value} {d : DataW H} {ps : List MemPlace} {r : Reach} {b0 : Nat} (hv : Value.okWide Tryz.prog W r b0 45 v) (h : DataW.Trod enc Tryz.prog W 0 (fun _ => true) true 45 v d ps) :
    ∃ (ad : Option Addr) (len cap : Nat), v = .slice ad len cap ∧ len ≤ cap := by
  obtain ⟨a, len, cap, rfl⟩ := okWide_slice Tryz.underlying45 hv
  obtain ⟨fuel, hf⟩ := h
  rcases open_slice Tryz.underlying45 hf with ⟨h1, _⟩ | ⟨a', len', cap', m, n, D, Pl, h1, hb, hl, hm, hmm, hx, hel⟩
  · have h1 : [Value.slice a len cap] = [.slice none 0 0] := h1
    simp at h1
    obtain ⟨rfl, rfl, rfl⟩ := h1
    exact ⟨none, 0, 0, rfl, Nat.le_refl _⟩
  · have h1 : [Value.slice a len cap] = [.slice (some a') len' cap'] := h1
    simp at h1
    obtain ⟨rfl, rfl, rfl⟩ := h1
    exact ⟨_, _, _, rfl, by omega⟩
end

/-! ### The table -/

theorem own0 : ownKnob Tryz.prog.godebug = none := by kernel_rfl
theorem laidOut0 : laidOutB Tryz.prog = true := by kernel_rfl
theorem tab_of_laid {W : World} (h : laidMetH Tryz.prog Rows.joinNoneRow.laid W) : TabIs 0 Lib.deBruijn64tab W ∧ 0 < W.heap.size := by
  have h' : laidMet Tryz.prog [("math/bits.deBruijn64tab", Lib.tabData .u8 (Lib.deBruijn64tab.map fun n : Nat => (n : Int)))] W := h
  have ht := Lib.tabIs_of_head (P := Tryz.prog) (g := 0) (t := 402) (n := 64) (by kernel_rfl) (by kernel_rfl) Tryz.underlying402 (by kernel_rfl) (by kernel_rfl) (by kernel_rfl) h'
  have hc : TabIs 0 Lib.deBruijn64tab W := by
    intro j hj
    have := ht.cell (g := 0) (by kernel_rfl) j (by simpa using hj)
    rw [this]
    congr 2
    rw [List.getD_eq_getElem?_getD, List.getD_eq_getElem?_getD, List.getElem?_map]
    cases Lib.deBruijn64tab[j]? <;> rfl
  refine ⟨hc, ?_⟩
  have h0 := hc 0 (by decide)
  unfold World.cell? at h0
  refine Nat.pos_of_ne_zero fun hz => ?_
  rw [Array.getElem?_eq_none (by omega)] at h0
  cases h0

def litCells : DataW Unit → List Value
  | .agg l => l.map fun
    | .lit (.int k z) => Value.int k z
    | _ => .nilFunc
  | _ => []
def setG (w : World) (g : Nat) (d : DataW Unit) : World := { w with heap := w.heap.modify g fun
    | .cells _ t frozen => .cells (litCells d).toArray t frozen
    | o => o }
/-- A world in which the table is as it is laid. -/
noncomputable def laidWorld (os : Os) : World := setG (World.holding Tryz.prog os ⟨#[], #[], []⟩) 0 Rows.laid_math_bits_deBruijn64tab
theorem laidWorld_met (os : Os) (args : Array Value) : laidMetH Tryz.prog Rows.joinNoneRow.laid ((laidWorld os).forCall (fun _ _ => 0) ⟨#[], args, []⟩).memory := by
  show laidMet Tryz.prog Rows.joinNoneRow.laid _
  exact (LaidIn.of_run [0] 8 (by kernel_rfl) (by kernel_rfl) (by kernel_rfl) (by kernel_rfl)).met
end Go.Proofs.YtipelpbkeiphmaaGreatDoor
