/- Cells: what is proved on the way: every input of the statement; no condition. Texts joined: CelB CelC CelD CelE CelF CelG CelH SrtJ CelI BmpC LnkA LnkB TabE. -/
import Derived.Test.YtipelpbkeiphmaaGreatDoorBaf
import Derived.Test.YtipelpbkeiphmaaGreatDoorBak
import Derived.Test.YtipelpbkeiphmaaGreatDoorBaj
import Derived.Test.YtipelpbkeiphmaaGreatDoorBag
set_option linter.unusedVariables false
set_option linter.unusedSimpArgs false
set_option linter.unusedSectionVars false
namespace Go.Proofs.YtipelpbkeiphmaaGreatDoor
open Go.SL

theorem with_spec [Extra] (p : Nat) (s : CS) (i g : Int) (f : FuncId) (cs : List Value) [TBody Tryz.prog f] (R : Value → World → Prop) (fr : List HProp)
    (hno : validT s.tab i g = none → ∀ w, Holds w (CELL p s :: fr) → R (.int .i64 8) w)
    (hyes : ∀ k e, validT s.tab i g = some (k, e) → ∀ w, Holds w (CELL p s :: fr) → Calls Tryz.prog f (.agg (evl e).toArray :: cs).toArray w (ret R)) {w : World} (H : Holds w (CELL p s :: fr)) :
    Calls Tryz.prog 121 #[pp p, tkI2 i g, .func (.func f) #[] cs.toArray] w (ret R) := by
  refine calls_of Tryz.func121 rfl (by kernel_rfl) ?_
  refine J8 H ?_
  clear H; intro b4 w H
  refine J123 H ?_
  refine Jc rfl rfl (valid_spec p s i g H.swap) ?_
  clear H; rintro v w ⟨rfl, H⟩
  cases hv : validT s.tab i g with
  | none =>
    refine J19 H ?_
    clear H; intro b7 w H
    refine J6 H ?_
    clear H; intro w H
    refine J25 H ?_
    refine J29 H ?_
    replace H := Js [1] 2 H
    exact C_ret (Jy H rfl fun w' H' => hno hv w' H')
  | some x =>
    obtain ⟨k, e⟩ := x
    refine J19 H ?_
    clear H; intro b7 w H
    refine J6 H ?_
    clear H; intro w H
    refine J154 H ?_
    replace H := Js [1] 2 H
    refine Lp_s rfl (St_call (a := []) (b := cs) rfl rfl (call (hyes k e hv w H) ?_))
    clear H; intro v w hr
    refine Lp_mv rfl rfl ?_
    refine Lp_nil ?_
    exact C_ret (fn_endX (.inr rfl) rfl hr)

theorem valid_at {s : CS} {i g : Int} {k : Nat} {e : Ent} (h : validT s.tab i g = some (k, e)) : ∃ n : Nat, i = k ∧ g = n ∧ s.tab[k]? = some ⟨n, some e⟩ ∧ e.held = true := by
  obtain ⟨h1, h2⟩ := validT_some.1 h
  obtain ⟨n, a, b, c⟩ := lookT_some.1 h1
  exact ⟨n, a, b, c, h2⟩

end Go.Proofs.YtipelpbkeiphmaaGreatDoor
namespace Go.Proofs.YtipelpbkeiphmaaGreatDoor
open Go.SL

theorem lay_of {s : CS} (h : WF s) {k g : Nat} {e : Ent} (hk : s.tab[k]? = some ⟨g, some e⟩) : s.lays[e.lay - 1]? = some (layE s e) := by
  obtain ⟨⟨hm, l, h1, h2, h3, h4⟩, hl, _⟩ := h.obj k g e hk
  rw [h1]
  unfold layE
  rw [h1]
  rfl

theorem flat_same {ts : List Slt} {k : Nat} {t t' : Slt} (hk : ts[k]? = some t) (h : tval t' = tval t) : (ts.set k t').flatMap tval = ts.flatMap tval := by
  rw [set_split hk]
  conv => rhs; rw [split_at hk]
  simp [h]
/-- Another object's words: the table is the same. -/
theorem TAB_ghost [Extra] {w : World} {p : Nat} {ts : List Slt} {l : List HProp} {k g : Nat} {e e' : Ent} (hk : ts[k]? = some ⟨g, some e⟩) (he : evl e' = evl e) (H : Holds w (TAB p ts :: l)) : Holds w (TAB p (ts.set k ⟨g, some e'⟩) :: l) := by
  obtain ⟨b, c, s, u, x, hok, hc, H, hclose⟩ := TAB_out H
  have hv : tval ⟨g, some e'⟩ = tval ⟨g, some e⟩ := by
    show Value.int .i64 g :: .bool true :: evl e' = .int .i64 g :: .bool true :: evl e
    rw [he]
  refine hclose _ _ (ts.set k ⟨g, some e'⟩) x (by simp) (goneT_set hk rfl) (hok.set hk rfl (by have := hok.gen _ _ hk; exact this)) ?_
  rw [flat_same hk hv]
  exact H

/-- What Look answers. -/
def lookL (s : CS) (i g place : Int) : Lnk × Nat :=
  match validT s.tab i g with
  | none => (.none, 8)
  | some (_, e) => if placeE (layE s e) e.ws.length place true = 0 then (lnkOf (e.ws.getD place.toNat 0), 0) else (.none, placeE (layE s e) e.ws.length place true)
theorem lookL_none {s : CS} {i g place : Int} (h : validT s.tab i g = none) : lookL s i g place = (.none, 8) := by unfold lookL; rw [h]
theorem lookL_some {s : CS} {i g place : Int} {k : Nat} {e : Ent} (h : validT s.tab i g = some (k, e)) : lookL s i g place = if placeE (layE s e) e.ws.length place true = 0 then (lnkOf (e.ws.getD place.toNat 0), 0) else (.none, placeE (layE s e) e.ws.length place true) := by unfold lookL; rw [h]

theorem Look_spec [Extra] (p : Nat) (s : CS) (i g place : Int) {w : World} {fr : List HProp} (H : Holds w (CELL p s :: fr)) :
    Calls Tryz.prog 108 #[pp p, tkI2 i g, .int .i64 place] w (ret fun v w' => v = .tuple #[lkv (lookL s i g place).1, .int .i64 ((lookL s i g place).2 : Nat)] ∧ Holds w' (CELL p s :: fr)) := by
  obtain ⟨a1, a2, a3, hkv⟩ := lkv_agg (lookL s i g place).1
  rw [hkv]
  refine calls_of Tryz.func108 rfl (by kernel_rfl) ?_
  refine J53 H ?_
  clear H; intro b3 w H
  refine Lp_s rfl (St_boxN H rfl rfl ?_)
  clear H; intro b4 w H
  refine Lp_s rfl (St_box1 H rfl rfl rfl ?_)
  clear H; intro b5 w H
  refine J17 H ?_
  clear H; intro b6 w H
  refine J0 H ?_
  refine J23 H ?_
  clear H; intro b8 w H
  refine Lp_nil ?_
  refine J43 H ?_
  refine J44 H ?_
  refine J7 H ?_
  replace H := Js [5,0,0,0,0,0] 0 H
  refine Jc rfl rfl (with_spec p s i g 200 [pp b3, pp b5, pp b8] (fun v w' => v = .int .i64 ((lookL s i g place).2 : Nat) ∧ Holds w' (pts b8 (row 109 [.int .i64 a1, .int .i64 a2, .int .i64 a3]) :: pts b6 (row 109 [.int .i64 0, .int .i64 0, .int .i64 0]) :: CELL p s :: fr)) _ ?_ ?_ H) ?_
  · intro hv w H
    rw [lookL_none hv] at hkv ⊢
    cases hkv
    replace H := Js [1,1,0] 3 H
    exact ⟨rfl, H⟩
  · intro k e hv w H
    obtain ⟨n, rfl, rfl, hk, hh⟩ := valid_at hv
    obtain ⟨q, mem, hw, hm, H⟩ := CELL_out H
    have hI := img_of hw hm hk
    refine calls_of Tryz.func200 rfl (by kernel_rfl) ?_
    refine J8 H ?_
    clear H; intro b4 w H
    refine J0 H ?_
    replace H := Js [2,2,2,0,0,0,0,0,0,0,0,0,0,0,0,1] 1 H
    have hlk : lkv (lookL s k n place).1 = lkv (if placeE (layE s e) e.ws.length place true = 0 then lnkOf (e.ws.getD place.toNat 0) else .none) := by
      rw [lookL_some hv]
      split <;> rfl
    have herr : placeE (layE s e) e.ws.length place true = (lookL s k n place).2 := by
      rw [lookL_some hv]
      split
      · assumption
      · rfl
    have hlf : placeE (layE s e) e.ws.length place true = 0 → okL (if placeE (layE s e) e.ws.length place true = 0 then lnkOf (e.ws.getD place.toNat 0) else .none) ∧ mem.getD (e.addr + 1 + place.toNat) 0 = wordL (if placeE (layE s e) e.ws.length place true = 0 then lnkOf (e.ws.getD place.toNat 0) else .none) := fun h0 => by
      obtain ⟨y, hpy, hy, hr⟩ := placeE_ok h0
      rw [if_pos h0, hpy, Int.toNat_natCast, word_of hw hm hk hy]
      exact link_of hw hk hy hr
    have hF := fun (w : World) (fr : List HProp) (H : Holds w (IMG q.ip q.sp q.bp :: BOOK q.bp s.lays :: ST q.sp s.size mem s.own :: fr)) => Follow_spec q.ip q.sp q.bp s.size s.lays mem s.own e.addr e.lay e.count k e.ws.length (layE s e) hI place (if placeE (layE s e) e.ws.length place true = 0 then lnkOf (e.ws.getD place.toNat 0) else .none) hlf (fun h0 => if_neg h0) H
    rw [← hlk, hkv] at hF
    refine J1 H ?_
    clear H; intro w H
    refine A_load1 0 [7, 11] H rfl (Wants.none rfl) rfl rfl (by kernel_rfl) ?_
    refine J166 H ?_
    refine A_load1 3 [7, 11] H rfl (Wants.none rfl) rfl rfl (by kernel_rfl) ?_
    refine J47 H ?_
    refine A_load1 5 [7, 11] H rfl (Wants.none rfl) rfl rfl (by kernel_rfl) ?_
    refine A_load1 6 [7, 11] H rfl (Wants.none rfl) rfl rfl (by kernel_rfl) ?_
    refine Jo 7 H ?_
    refine Jk rfl rfl (hF _ _ H) ?_
    clear H; rintro v w ⟨rfl, H⟩
    rw [herr]
    refine J55 H ?_
    refine J77 H ?_
    refine J96 H ?_
    clear H; intro w H
    refine J127 H ?_
    refine J5 H ?_
    replace H := Js [4,0,0,0,1,1,1,1,1,1,1,1,1] 3 H
    replace H := CELL_in hw hm H
    replace H := Js [1,1,0] 0 H
    exact C_ret (Jy H rfl fun w' H' => ⟨rfl, H'⟩)
  · clear H
    rintro v w ⟨rfl, H⟩
    refine J0 H ?_
    refine J156 H ?_
    clear H; intro w H
    refine J0 H ?_
    replace H := Js [1,1] 1 H
    exact C_ret (Jz H (fun w' H' => .cellN H' rfl (by repeat (first | exact Reads.nil _ | apply Reads.cons rfl)) (.tmp .nil)) fun w' H' => ⟨rfl, H'.drop⟩)
end Go.Proofs.YtipelpbkeiphmaaGreatDoor
namespace Go.Proofs.YtipelpbkeiphmaaGreatDoor
open Go.SL

end Go.Proofs.YtipelpbkeiphmaaGreatDoor
namespace Go.Proofs.YtipelpbkeiphmaaGreatDoor
open Go.SL

theorem RS_keys [Extra] {w : World} {p : Nat} {m : List (Rf × Int)} {l : List HProp} (H : Holds w (RS p m :: l)) : (m.map (·.1)).Nodup := by
  obtain ⟨bt, bo, bf, H⟩ := RS_out H
  exact keys_nodup bt H

theorem at_ok [Extra] (p : Nat) (s : CS) (k n : Nat) (e : Ent) (hk : s.tab[k]? = some ⟨n, some e⟩) {w : World} {fr : List HProp} (H : Holds w (CELL p s :: fr)) :
    Calls Tryz.prog 153 #[pp p, .int .i64 k] w (ret fun v w' => v = .tuple #[.agg (evl e).toArray, .bool true] ∧ Holds w' (CELL p s :: fr)) := by
  obtain ⟨q, mem, hw, hm, H⟩ := CELL_out H
  have hL : lookT s.tab k n = some (k, e) := lookT_some.2 ⟨n, rfl, rfl, hk⟩
  refine calls_of Tryz.func153 rfl (by kernel_rfl) ?_
  refine J23 H ?_
  clear H; intro b4 w H
  refine J125 H ?_
  refine J18 H ?_
  replace H := Js [5,0,0,0,0,0,0,0,0,0,0,0] 0 H
  refine Jc rfl rfl (tAt_spec q.tp s.tab k n e hk H) ?_
  clear H; rintro v w ⟨rfl, H⟩
  refine J19 H ?_
  clear H; intro b6 w H
  refine J6 H ?_
  clear H; intro w H
  refine J15 H ?_
  refine C_join (fun ms σ w => ms = [] ∧ ∃ b8, σ 4 = pp b4 ∧ σ 7 = .bool true ∧ σ 8 = pp b8 ∧
      Holds w (pts b4 (row 102 [.int .i64 0, .int .i64 0, .bool false, .bool false]) :: pts b8 (row 102 (evl e)) :: CELL p s :: fr)) ?_ ?_
  · replace H := Js [1,0,0,0,0,0,0,0,0,0,0,0,0] 0 H
    refine J1 H ?_
    clear H; intro w H
    refine J162 H ?_
    refine A_two 5 9 rfl rfl (by kernel_rfl) (by repeat first | exact .nil | refine .cons (.inr H.at) ?_ | refine .cons (.inr H.mp) ?_ | refine .cons (.inl (by kernel_rfl)) ?_) (Wants.none rfl) (Wants.none rfl) (St_call (a := []) (b := []) rfl rfl (call (tGetV_spec q.tp s.tab k n H) ?_)) (St_alloc H rfl ?_)
    · clear H; rintro v w ⟨rfl, H⟩
      rw [hL]
      refine J163 H ?_
      clear H; intro b8 w H
      refine J164 H ?_
      clear H; intro w H
      refine J36 H ?_
      replace H := Js [4,4,4,4,1,3,3,3,3,3,3,2,0] 1 H
      replace H := CELL_in hw hm H
      replace H := Js [1,1,0] 0 H
      exact ⟨rfl, rfl, b8, rfl, rfl, rfl, H⟩
    · clear H; intro b8 w H
      refine Jo 5 H ?_
      refine Jk rfl rfl (tGetV_spec q.tp s.tab k n H.swap) ?_
      clear H; rintro v w ⟨rfl, H⟩
      rw [hL]
      refine J165 H ?_
      clear H; intro w H
      refine J36 H ?_
      replace H := Js [4,4,4,4,0,3,3,3,3,3,3,2,0] 1 H
      replace H := CELL_in hw hm H
      replace H := Js [1,1,0] 0 H
      exact ⟨rfl, rfl, b8, rfl, rfl, rfl, H⟩
  · clear H
    rintro ms σ w ⟨rfl, b8, g4, g7, g8, H⟩
    rw [upd_self g4, upd_self g7, upd_self g8]
    refine J156 H ?_
    clear H; intro w H
    refine J0 H ?_
    exact C_ret (Jz H (fun w' H' => .cellN H' rfl (by repeat (first | exact Reads.nil _ | apply Reads.cons rfl)) (.tmp .nil)) fun w' H' => ⟨rfl, H'.drop.drop⟩)

/-- What is remembered behind a note. -/
def noteR (s : CS) (k : Nat) (e : Ent) (place : Int) (l : Lnk) : List (Rf × Int) :=
  match l with
  | .obj a b => match lookT s.tab a b with
    | some (_, f) => if f.region ≠ e.region then ins (era s.rem ((k : Int), place)) ((k : Int), place) (a : Int) else era s.rem ((k : Int), place)
    | none => era s.rem ((k : Int), place)
  | _ => era s.rem ((k : Int), place)

theorem noteR_stale {s : CS} {k a b : Nat} {e : Ent} {place : Int} (h : lookT s.tab a b = none) : noteR s k e place (.obj a b) = era s.rem ((k : Int), place) := by
  show (match lookT s.tab a b with | some (_, f) => if f.region ≠ e.region then ins (era s.rem ((k : Int), place)) ((k : Int), place) (a : Int) else era s.rem ((k : Int), place) | none => era s.rem ((k : Int), place)) = _
  rw [h]
theorem noteR_live {s : CS} {k a b kk : Nat} {e f : Ent} {place : Int} (h : lookT s.tab a b = some (kk, f)) : noteR s k e place (.obj a b) = if f.region ≠ e.region then ins (era s.rem ((k : Int), place)) ((k : Int), place) (a : Int) else era s.rem ((k : Int), place) := by
  show (match lookT s.tab a b with | some (_, f) => if f.region ≠ e.region then ins (era s.rem ((k : Int), place)) ((k : Int), place) (a : Int) else era s.rem ((k : Int), place) | none => era s.rem ((k : Int), place)) = _
  rw [h]

theorem noteN_spec [Extra] (p : Nat) (s : CS) (k n : Nat) (e : Ent) (hk : s.tab[k]? = some ⟨n, some e⟩) (place : Int) (l : Lnk) {w : World} {fr : List HProp} (H : Holds w (CELL p s :: fr)) :
    Calls Tryz.prog 253 #[pp p, .int .i64 k, .int .i64 place, lkv l] w (ret fun v w' => Holds w' (CELL p { s with rem := noteR s k e place l } :: fr)) := by
  obtain ⟨a1, a2, a3, hkv⟩ := lkv_agg l
  rw [hkv]
  obtain ⟨q, mem, hw, hm, H⟩ := CELL_out H
  have hnd := RS_keys (H.pull 6)
  have hnd0 := hnd
  refine calls_of Tryz.func253 rfl (by kernel_rfl) ?_
  refine J8 H ?_
  clear H; intro b7 w H
  refine J87 H ?_
  refine J63 H ?_
  refine J17 H ?_
  clear H; intro b8 w H
  refine J6 H ?_
  clear H; intro w H
  refine Lp_nil ?_
  replace H := Js [8,0,0,0,0,0,0,0,0,0,0,0,0] 0 H
  refine J1 H ?_
  clear H; intro w H
  refine J151 H ?_
  refine Jo 5 H ?_
  refine Jk rfl rfl (rCut_spec q.rp s.rem hnd ((k : Int), place) H) ?_
  clear H; rintro v w ⟨rfl, H⟩
  refine J4 H ?_
  replace H := Js [3,3,3,3,3,3,0,2,2,2,2,0,0] 0 H
  have H := CELL_in (s := { s with rem := era s.rem ((k : Int), place) }) (WF_rem hw _) (MemOK_rem hm _) H
  clear hw hm
  refine J98 H ?_
  refine J0 H ?_
  have hcase : (a1 ≠ 2 ∧ noteR s k e place l = era s.rem ((k : Int), place)) ∨ ∃ a b : Nat, l = .obj a b ∧ a1 = 2 ∧ a2 = a ∧ a3 = b := by
    cases l with
    | none => injection hkv with h; simp at h; exact .inl ⟨by omega, rfl⟩
    | grave => injection hkv with h; simp at h; exact .inl ⟨by omega, rfl⟩
    | obj a b => injection hkv with h; simp at h; exact .inr ⟨a, b, rfl, by omega, by omega, by omega⟩
  rcases hcase with ⟨h2, hn⟩ | ⟨a, b, rfl, rfl, rfl, rfl⟩
  · rw [show (a1 != 2) = true by simpa using h2]
    refine J33 H ?_
    rw [hn]
    replace H := Js [0] 2 H
    exact C_ret (Jy H rfl fun w' H' => H')
  · refine J9 H ?_
    refine J2 H ?_
    refine Jc rfl rfl (at_ok p { s with rem := era s.rem ((k : Int), place) } k n e hk H) ?_
    clear H; rintro v w ⟨rfl, H⟩
    refine J19 H ?_
    clear H; intro b9 w H
    refine J6 H ?_
    clear H; intro w H
    refine J0 H ?_
    replace H := Js [1,0,0,0] 0 H
    obtain ⟨q, mem, hw, hm, H⟩ := CELL_out H
    dsimp only at H
    obtain ⟨e1, e2, h1, h2, e4, hsh⟩ := getV_form (lookT s.tab a b)
    refine J14 H ?_
    refine C_join (fun ms σ w => ms = [] ∧ ∃ b11, σ 0 = pp p ∧ σ 7 = pp b7 ∧ σ 8 = pp b8 ∧ σ 9 = pp b9 ∧ σ 11 = pp b11 ∧ σ 12 = .int .i64 e4 ∧
        Holds w (CELL p { s with rem := era s.rem ((k : Int), place) } :: pts b11 (row 102 [.int .i64 e1, .int .i64 e2, .bool h1, .bool h2]) :: pts b9 (row 102 (evl e)) :: pts b8 (row 166 [.int .i64 k, .int .i64 place]) :: pts b7 (row 109 [.int .i64 2, .int .i64 a, .int .i64 b]) :: fr)) ?_ ?_
    · replace H := Js [4,0,0,0,0,0,0,0,0,0,0,0,0,0] 0 H
      refine J1 H ?_
      clear H; intro w H
      refine J28 H ?_
      refine A_load1 3 [6, 11] H rfl (Wants.none rfl) rfl rfl (by kernel_rfl) ?_
      refine J47 H ?_
      refine A_loadN 5 [6, 11] H rfl (Wants.none rfl) rfl (by repeat (first | exact Reads.nil _ | apply Reads.cons rfl)) (by kernel_rfl) ?_
      refine A_two 6 10 rfl rfl (by kernel_rfl) (by repeat first | exact .nil | refine .cons (.inr H.at) ?_ | refine .cons (.inr H.mp) ?_ | refine .cons (.inl (by kernel_rfl)) ?_) (Wants.none rfl) (Wants.none rfl) (St_call (a := []) (b := []) rfl rfl (call (tGetV_spec q.tp s.tab a b H) ?_)) (St_alloc H rfl ?_)
      · clear H; rintro v w ⟨rfl, H⟩
        rw [hsh]
        refine J153 H ?_
        refine Jo 10 H ?_
        refine St_alloc H rfl ?_
        clear H; intro b11 w H
        refine J96 H ?_
        clear H; intro w H
        refine J127 H ?_
        replace H := Js [2,2,2,2,1,1,1,1,1,1,1,0,0,0,0] 0 H
        have H := CELL_in (s := { s with rem := era s.rem ((k : Int), place) }) hw hm H
        exact ⟨rfl, rfl, b11, rfl, rfl, rfl, rfl, rfl, rfl, H⟩
      · clear H; intro b11 w H
        refine Jo 6 H ?_
        refine Jk rfl rfl (tGetV_spec q.tp s.tab a b H.swap) ?_
        clear H; rintro v w ⟨rfl, H⟩
        rw [hsh]
        refine J153 H ?_
        refine J96 H ?_
        clear H; intro w H
        refine J127 H ?_
        replace H := Js [2,2,2,2,0,1,1,1,1,1,1,0,0,0,0] 0 H
        have H := CELL_in (s := { s with rem := era s.rem ((k : Int), place) }) hw hm H
        exact ⟨rfl, rfl, b11, rfl, rfl, rfl, rfl, rfl, rfl, H⟩
    · clear H
      rintro ms σ w ⟨rfl, b11, g0, g7, g8, g9, g11, g12, H⟩
      rw [upd_self g0, upd_self g7, upd_self g8, upd_self g9, upd_self g11, upd_self g12]
      cases hL : lookT s.tab a b with
      | none =>
        have hn : noteR s k e place (.obj a b) = era s.rem ((k : Int), place) := noteR_stale hL
        rw [hL] at hsh
        cases hsh
        rw [hn]
        refine J10 H ?_
        refine J41 H ?_
        refine Lp_no rfl rfl rfl ?_
        refine J35 H ?_
        replace H := Js [0] 4 H
        exact fn_end0 _ (.inl rfl) H rfl fun w' H' => H'
      | some x =>
        obtain ⟨kk, f⟩ := x
        rw [hL] at hsh
        cases hsh
        refine J10 H ?_
        refine J88 H ?_
        refine J45 H ?_
        by_cases hr : f.region = e.region
        · have hn : noteR s k e place (.obj a b) = era s.rem ((k : Int), place) := by rw [noteR_live hL]; exact if_neg (by simpa using hr)
          rw [hn, show (f.region != e.region) = false by simpa using hr]
          refine J35 H ?_
          replace H := Js [0] 4 H
          exact fn_end0 _ (.inl rfl) H rfl fun w' H' => H'
        · have hn : noteR s k e place (.obj a b) = ins (era s.rem ((k : Int), place)) ((k : Int), place) (a : Int) := by rw [noteR_live hL]; exact if_pos hr
          rw [hn, show (f.region != e.region) = true by simpa using hr]
          refine J0 H ?_
          refine J33 H ?_
          obtain ⟨q, mem, hw, hm, H⟩ := CELL_out H
          dsimp only at H
          replace H := Js [6,0,0,0,0,0,0,0,0,0,0,0,0,0,0] 0 H
          have hnd := RS_keys H
          refine J1 H ?_
          clear H; intro w H
          refine J28 H ?_
          refine J167 H ?_
          refine A_loadN 4 [8] H rfl (Wants.none rfl) rfl (by repeat (first | exact Reads.nil _ | apply Reads.cons rfl)) (by kernel_rfl) ?_
          refine A_fieldAddr 5 rfl (Wants.none rfl) rfl (by kernel_rfl) ?_
          refine J57 H ?_
          refine A_load1 7 [8] H rfl (Wants.none rfl) rfl rfl (by kernel_rfl) ?_
          refine Jo 8 H ?_
          refine Jk rfl rfl (rPut_spec q.rp _ hnd ((k : Int), place) a H) ?_
          clear H; rintro v w ⟨rfl, H⟩
          refine J4 H ?_
          have he : era (era s.rem ((k : Int), place)) ((k : Int), place) = era s.rem ((k : Int), place) := by
            refine era_none ?_
            intro hmem
            exact absurd rfl ((keys_era hnd0).1 hmem).1
          rw [he] at H
          replace H := Js [1,1,1,1,1,1,0,0,0,0,0] 4 H
          have H := CELL_in (s := { s with rem := ins (era s.rem ((k : Int), place)) ((k : Int), place) (a : Int) }) (WF_rem hw _) (MemOK_rem hm _) H
          exact fn_end0 _ (.inl rfl) H rfl fun w' H' => H'
end Go.Proofs.YtipelpbkeiphmaaGreatDoor
namespace Go.Proofs.YtipelpbkeiphmaaGreatDoor
open Go.SL

/-- What a tie leaves, and answers. -/
def tieS (s : CS) (i g place : Int) (l : Lnk) : CS × Nat :=
  match validT s.tab i g with
  | none => (s, 8)
  | some (k, e) => if placeE (layE s e) e.ws.length place true = 0 then ({ setE s k g.toNat { e with ws := e.ws.set place.toNat (wordL l) } with rem := noteR (setE s k g.toNat { e with ws := e.ws.set place.toNat (wordL l) }) k { e with ws := e.ws.set place.toNat (wordL l) } place l }, 0) else (s, placeE (layE s e) e.ws.length place true)
theorem tieS_none {s : CS} {i g place : Int} {l : Lnk} (h : validT s.tab i g = none) : tieS s i g place l = (s, 8) := by unfold tieS; rw [h]
theorem tieS_some {s : CS} {i g place : Int} {l : Lnk} {k : Nat} {e : Ent} (h : validT s.tab i g = some (k, e)) : tieS s i g place l = if placeE (layE s e) e.ws.length place true = 0 then ({ setE s k g.toNat { e with ws := e.ws.set place.toNat (wordL l) } with rem := noteR (setE s k g.toNat { e with ws := e.ws.set place.toNat (wordL l) }) k { e with ws := e.ws.set place.toNat (wordL l) } place l }, 0) else (s, placeE (layE s e) e.ws.length place true) := by unfold tieS; rw [h]

theorem tie_spec [Extra] (p : Nat) (s : CS) (i g place : Int) (l : Lnk) (hl : okL l) {w : World} {fr : List HProp} (H : Holds w (CELL p s :: fr)) :
    Calls Tryz.prog 199 #[pp p, tkI2 i g, .int .i64 place, lkv l] w (ret fun v w' => v = .int .i64 ((tieS s i g place l).2 : Nat) ∧ Holds w' (CELL p (tieS s i g place l).1 :: fr)) := by
  obtain ⟨a1, a2, a3, hkv⟩ := lkv_agg l
  rw [hkv]
  refine calls_of Tryz.func199 rfl (by kernel_rfl) ?_
  refine J53 H ?_
  clear H; intro b4 w H
  refine Lp_s rfl (St_boxN H rfl rfl ?_)
  clear H; intro b5 w H
  refine Lp_s rfl (St_box1 H rfl rfl rfl ?_)
  clear H; intro b6 w H
  refine Lp_s rfl (St_boxN H rfl rfl ?_)
  clear H; intro b7 w H
  refine J0 H ?_
  refine J43 H ?_
  refine J44 H ?_
  refine J7 H ?_
  replace H := Js [4,0,0,0,0] 0 H
  refine Lp_s rfl (St_call (a := []) (b := []) rfl rfl (call (with_spec p s i g 264 [pp b4, pp b6, pp b7] (fun v w' =>
      (validT s.tab i g = none ∧ v = .int .i64 8 ∧ Holds w' (CELL p s :: fr)) ∨
      (∃ k n e, validT s.tab i g = some (k, e) ∧ g = (n : Nat) ∧ i = (k : Nat) ∧ s.tab[k]? = some ⟨n, some e⟩ ∧ ((placeE (layE s e) e.ws.length place true ≠ 0 ∧ v = .int .i64 (placeE (layE s e) e.ws.length place true) ∧ Holds w' (CELL p s :: fr)) ∨
        (placeE (layE s e) e.ws.length place true = 0 ∧ v = .int .i64 0 ∧ Holds w' (pts b4 (row 23 [pp p]) :: pts b5 (row 88 [.int .i64 i, .int .i64 g]) :: pts b6 (row 3 [.int .i64 place]) :: pts b7 (row 109 [.int .i64 a1, .int .i64 a2, .int .i64 a3]) :: CELL p (setE s k n { e with ws := e.ws.set place.toNat (wordL l) }) :: fr))))) _ ?_ ?_ H) ?_))
  · intro hv w H
    replace H := Js [0] 4 H
    exact .inl ⟨hv, rfl, H⟩
  · intro k e hv w H
    obtain ⟨n, rfl, rfl, hk, hh⟩ := valid_at hv
    obtain ⟨q, mem, hw, hm, H⟩ := CELL_out H
    have hI := img_of hw hm hk
    have hT := fun (w : World) (fr : List HProp) (H : Holds w (IMG q.ip q.sp q.bp :: BOOK q.bp s.lays :: ST q.sp s.size mem s.own :: fr)) => iTie_spec q.ip q.sp q.bp s.size s.lays mem s.own e.addr e.lay e.count k e.ws.length (layE s e) hI place l hl H
    rw [hkv] at hT
    refine calls_of Tryz.func264 rfl (by kernel_rfl) ?_
    refine J8 H ?_
    clear H; intro b4 w H
    refine J0 H ?_
    replace H := Js [2,2,2,0,0,0,0,0,0,0,0,0,0,0,0,0] 0 H
    refine J1 H ?_
    clear H; intro w H
    refine A_load1 0 [8] H rfl (Wants.none rfl) rfl rfl (by kernel_rfl) ?_
    refine J166 H ?_
    refine J167 H ?_
    refine J47 H ?_
    refine A_load1 5 [8] H rfl (Wants.none rfl) rfl rfl (by kernel_rfl) ?_
    refine A_load1 6 [8] H rfl (Wants.none rfl) rfl rfl (by kernel_rfl) ?_
    refine A_loadN 7 [8] H rfl (Wants.none rfl) rfl (by repeat (first | exact Reads.nil _ | apply Reads.cons rfl)) (by kernel_rfl) ?_
    refine Jo 8 H ?_
    refine Jk rfl rfl (hT _ _ H) ?_
    clear H; rintro v w ⟨rfl, H⟩
    refine J121 H ?_
    by_cases h0 : placeE (layE s e) e.ws.length place true = 0
    · obtain ⟨y, rfl, hy, hr⟩ := placeE_ok h0
      rw [if_pos h0] at H
      rw [h0]
      have hwl : wordL l < 18446744073709551616 := wordL_lt hl
      have hw' := WF_setE (e' := { e with ws := e.ws.set y (wordL l) }) hw hk ⟨rfl, rfl, rfl, rfl, by show (e.ws.set y (wordL l)).length = _; simp⟩ (ObjOK_word (hw.obj _ _ _ hk).1 (lay_of hw hk) hwl (fun _ => ⟨l, hl, rfl⟩))
      have hm' := MemOK_word hw hm hk hy (x := wordL l)
      replace H := Js [5,4,0,0,0,1,1,1,1,1,1,4,3,2,1] 1 H
      replace H := TAB_ghost (e' := { e with ws := e.ws.set y (wordL l) }) hk rfl H
      replace H := Js [1,1,1,1,0,0,0,0,0,0,0,0,0,0,0] 0 H
      replace H := CELL_in hw' hm' H
      replace H := Js [1,1,1,1,0] 0 H
      exact C_ret (Jy H rfl fun w' H' => .inr ⟨k, n, e, hv, rfl, rfl, hk, .inr ⟨h0, rfl, H'⟩⟩)
    · rw [if_neg h0] at H
      replace H := Js [4,0,0,0,1,1,1,1,1,1,1] 5 H
      replace H := CELL_in hw hm H
      exact C_ret (Jy H rfl fun w' H' => .inr ⟨k, n, e, hv, rfl, rfl, hk, .inl ⟨h0, rfl, H'⟩⟩)
  · clear H
    rintro v w (⟨hv, rfl, H⟩ | ⟨k, n, e, hv, rfl, rfl, hk, (⟨h0, rfl, H⟩ | ⟨h0, rfl, H⟩)⟩)
    · rw [tieS_none hv]
      refine J50 H ?_
      refine J5 H ?_
      exact C_ret (Jy H rfl fun w' H' => ⟨rfl, H'⟩)
    · rw [tieS_some hv, if_neg h0]
      refine J25 H ?_
      rw [show (((placeE (layE s e) e.ws.length place true : Nat) : Int) == 0) = false by simpa using h0]
      refine J9 H ?_
      refine J5 H ?_
      exact C_ret (Jy H rfl fun w' H' => ⟨rfl, H'⟩)
    · rw [tieS_some hv, if_pos h0, Int.toNat_natCast]
      have hN := fun (w : World) (fr : List HProp) (H : Holds w (CELL p (setE s k n { e with ws := e.ws.set place.toNat (wordL l) }) :: fr)) => noteN_spec p (setE s k n { e with ws := e.ws.set place.toNat (wordL l) }) k n { e with ws := e.ws.set place.toNat (wordL l) } (by show (s.tab.set k _)[k]? = _; simp [(List.getElem?_eq_some_iff.1 hk).1]) place l H
      rw [hkv] at hN
      refine J25 H ?_
      refine J14 H ?_
      refine C_join (fun ms σ w => ms = [] ∧ σ 9 = .int .i64 0 ∧ Holds w (CELL p { setE s k n { e with ws := e.ws.set place.toNat (wordL l) } with rem := noteR (setE s k n { e with ws := e.ws.set place.toNat (wordL l) }) k { e with ws := e.ws.set place.toNat (wordL l) } place l } :: fr)) ?_ ?_
      · refine C_true rfl ?_
        refine J43 H ?_
        refine J38 H ?_
        refine J94 H ?_
        refine J44 H ?_
        replace H := Js [4,0,0,0,0] 0 H
        refine Jc rfl rfl (hN _ _ H) ?_
        clear H; intro v w H
        refine Lp_nil ?_
        replace H := Js [0] 4 H
        exact ⟨rfl, rfl, rfl, H⟩
      · clear H
        rintro ms σ w ⟨rfl, g9, H⟩
        rw [upd_self g9]
        refine J5 H ?_
        exact C_ret (Jy H rfl fun w' H' => ⟨rfl, H'⟩)

/-- What Tie leaves, and answers. -/
def TieS (s : CS) (i g place u v : Int) : CS × Nat :=
  if (lookL s i g place).2 ≠ 0 then (s, (lookL s i g place).2)
  else if (validT s.tab u v).isNone then (s, 8) else tieS s i g place (.obj u.toNat v.toNat)

theorem okT_of {s : CS} (h : WF s) {k g : Nat} {e : Ent} (hk : s.tab[k]? = some ⟨g, some e⟩) : okT k g := by
  have h1 := (List.getElem?_eq_some_iff.1 hk).1
  have h2 := h.slots.2
  have h3 := h.gen _ _ hk
  exact ⟨by omega, h3.2 rfl, h3.1⟩

theorem CTie_spec [Extra] (p : Nat) (s : CS) (i g place u v : Int) {w : World} {fr : List HProp} (H : Holds w (CELL p s :: fr)) :
    Calls Tryz.prog 107 #[pp p, tkI2 i g, .int .i64 place, tkI2 u v] w (ret fun x w' => x = .int .i64 ((TieS s i g place u v).2 : Nat) ∧ Holds w' (CELL p (TieS s i g place u v).1 :: fr)) := by
  obtain ⟨a1, a2, a3, hkv⟩ := lkv_agg (lookL s i g place).1
  refine calls_of Tryz.func107 rfl (by kernel_rfl) ?_
  refine J8 H ?_
  clear H; intro b5 w H
  refine Lp_s rfl (St_boxN H rfl rfl ?_)
  clear H; intro b7 w H
  refine J123 H ?_
  refine J7 H ?_
  replace H := Js [2,0,0] 0 H
  refine Jc rfl rfl (Look_spec p s i g place H) ?_
  clear H; rintro v w ⟨rfl, H⟩
  rw [hkv]
  refine J19 H ?_
  clear H; intro b9 w H
  refine J6 H ?_
  clear H; intro w H
  refine J25 H ?_
  by_cases h0 : (lookL s i g place).2 = 0
  · have hT : TieS s i g place u v = if (validT s.tab u v).isNone then (s, 8) else tieS s i g place (.obj u.toNat v.toNat) := by unfold TieS; rw [if_neg (by simpa using h0)]
    rw [hT, h0]
    refine J9 H ?_
    refine J72 H ?_
    replace H := Js [1,0,0,0] 0 H
    refine Jc rfl rfl (valid_spec p s u v H) ?_
    clear H; rintro v w ⟨rfl, H⟩
    cases hv : validT s.tab u v with
    | none =>
      refine J19 H ?_
      clear H; intro b11 w H
      refine J6 H ?_
      clear H; intro w H
      refine J25 H ?_
      refine J29 H ?_
      replace H := Js [1] 4 H
      exact C_ret (Jy H rfl fun w' H' => ⟨rfl, H'⟩)
    | some x =>
      obtain ⟨k, f⟩ := x
      obtain ⟨n, rfl, rfl, hk, hh⟩ := valid_at hv
      have hok : okT k n := by
        obtain ⟨q, mem, hw, hm, _⟩ := CELL_out (H.pull 0)
        exact okT_of hw hk
      refine J19 H ?_
      clear H; intro b11 w H
      refine J6 H ?_
      clear H; intro w H
      refine J154 H ?_
      refine J7 H ?_
      refine J44 H ?_
      refine J63 H ?_
      replace H := Js [1,0,0,0,0] 0 H
      refine Jc rfl rfl (tie_spec p s i g place (.obj k n) hok H) ?_
      clear H; rintro v w ⟨rfl, H⟩
      refine J0 H ?_
      replace H := Js [0] 4 H
      exact C_ret (Jy H rfl fun w' H' => ⟨rfl, H'⟩)
  · have hT : TieS s i g place u v = (s, (lookL s i g place).2) := by unfold TieS; rw [if_pos h0]
    rw [hT]
    rw [show ((((lookL s i g place).2 : Nat) : Int) != 0) = true by simpa using h0]
    refine J29 H ?_
    replace H := Js [1] 3 H
    exact C_ret (Jy H rfl fun w' H' => ⟨rfl, H'⟩)

end Go.Proofs.YtipelpbkeiphmaaGreatDoor
namespace Go.Proofs.YtipelpbkeiphmaaGreatDoor
open Go.SL

end Go.Proofs.YtipelpbkeiphmaaGreatDoor
namespace Go.Proofs.YtipelpbkeiphmaaGreatDoor
open Go.SL

/-- What Define leaves, and answers. -/
def defS (s : CS) (ws : List Nat) : CS × Nat × Nat :=
  match decodeL ws with
  | none => (s, 0, 4)
  | some l => if s.lays.length = 64 then (s, 0, 5) else ({ s with lays := s.lays ++ [l] }, s.lays.length + 1, 0)
theorem defS_none {s : CS} {ws : List Nat} (h : decodeL ws = none) : defS s ws = (s, 0, 4) := by unfold defS; rw [h]
theorem defS_some {s : CS} {ws : List Nat} {l : Lay} (h : decodeL ws = some l) : defS s ws = if s.lays.length = 64 then (s, 0, 5) else ({ s with lays := s.lays ++ [l] }, s.lays.length + 1, 0) := by unfold defS; rw [h]
theorem decodeL_len {ws : List Nat} (h : ws.length ≠ 3) : decodeL ws = none := by
  match ws with
  | [] => rfl
  | [_] => rfl
  | [_, _] => rfl
  | [_, _, _] => exact absurd rfl h
  | _ :: _ :: _ :: _ :: _ => rfl

theorem Decode_all [Extra] (v : Value) (ws : List Nat) (hws : ∀ x ∈ ws, x < 18446744073709551616) {w : World} {fr : List HProp} [hT : HasTab 0 Lib.deBruijn64tab fr] (hr : RdS fr v ws.length 1 (ucells ws)) (H : Holds w fr) :
    Calls Tryz.prog 192 #[v] w (ret fun r w' => (decodeL ws = none ∧ r = .tuple #[layV 0 (.slice none 0 0) 0 (.slice none 0 0), .int .i64 4] ∧ Holds w' fr) ∨
      ∃ l vr vq, decodeL ws = some l ∧ r = .tuple #[layV l.fixed vr l.record vq, .int .i64 0] ∧ Holds w' (NL vr l.refs :: NL vq l.recs :: fr)) := by
  by_cases h3 : ws.length = 3
  · obtain ⟨x, y, z, rfl⟩ : ∃ x y z, ws = [x, y, z] := by
      match ws, h3 with
      | [x, y, z], _ => exact ⟨x, y, z, rfl⟩
    exact lDecode_spec v x y z (hws x (by simp)) (hws y (by simp)) (hws z (by simp)) hr H
  · obtain ⟨_, a, c, rfl, _⟩ := id hr
    exact call (lDecode_no _ ws.length h3 ⟨a, c, rfl⟩ H) fun r w h => .inl ⟨decodeL_len h3, h.1, h.2⟩

theorem Define_spec [Extra] (p : Nat) (s : CS) (v : Value) (ws : List Nat) (hws : ∀ x ∈ ws, x < 18446744073709551616) {w : World} {fr : List HProp} [hT : HasTab 0 Lib.deBruijn64tab fr] (hr : RdS fr v ws.length 1 (ucells ws)) (H : Holds w (CELL p s :: fr)) :
    Calls Tryz.prog 104 #[pp p, v] w (ret fun x w' => x = .tuple #[.int .i64 ((defS s ws).2.1 : Nat), .int .i64 ((defS s ws).2.2 : Nat)] ∧ Holds w' (CELL p (defS s ws).1 :: fr)) := by
  obtain ⟨_, av, cv, rfl, _⟩ := id hr
  refine calls_of Tryz.func104 rfl (by kernel_rfl) ?_
  refine J140 H ?_
  refine J16 H ?_
  refine Jc rfl rfl (Decode_all _ ws hws hr.there H) ?_
  clear H
  rintro v w (⟨hd, rfl, H⟩ | ⟨l, vr, vq, hd, rfl, H⟩)
  · rw [defS_none hd]
    refine J19 H ?_
    clear H; intro b6 w H
    refine J6 H ?_
    clear H; intro w H
    refine J86 H ?_
    replace H := Js [1] 1 H
    exact C_ret (Jy H rfl fun w' H' => ⟨rfl, H'⟩)
  · obtain ⟨aa, ma, rfl⟩ := sls_slice H (ncells_length _) (by decide)
    obtain ⟨ab, mb, rfl⟩ := sls_slice H.drop (ncells_length _) (by decide)
    rw [defS_some hd]
    refine J19 H ?_
    clear H; intro b6 w H
    refine J6 H ?_
    clear H; intro w H
    refine J50 H ?_
    replace H := Js [3,0,0,0] 0 H
    obtain ⟨q, mem, hw, hm, H⟩ := CELL_out H
    have hR := decodeL_right hd
    replace H := Js [12,12,2,0,0,0,0,0,0,0,0,0,0,0] 0 H
    obtain ⟨D1, H, hD1, hC1⟩ := sls_rd H (ncells_length _) (by decide)
    obtain ⟨D2, H, hD2, hC2⟩ := sls_rd H.swap (ncells_length _) (by decide)
    refine J1 H ?_
    clear H; intro w H
    refine J151 H ?_
    replace H := Js [2,1,0] 0 H
    refine Jo 5 H ?_
    refine Jk rfl rfl (bAdd_spec q.bp s.lays _ _ l hR ⟨hD1 _, (hD2 _).there⟩ H) ?_
    clear H
    rintro v w (⟨h64, rfl, H⟩ | ⟨h64, rfl, H⟩)
    · rw [if_pos h64]
      refine J146 H ?_
      refine J121 H ?_
      replace H := Js [3,3,0,2,2,2,2,2,2,2,2] 3 H
      have H := CELL_in hw hm H
      exact C_ret (Jy H rfl fun w' H' => ⟨rfl, H'⟩)
    · rw [if_neg (by omega)]
      refine J146 H ?_
      refine J121 H ?_
      replace H := Js [3,3,0,2,2,2,2,2,2,2,2] 3 H
      have H := CELL_in (s := { s with lays := s.lays ++ [l] }) (WF_define hw hR h64) ⟨hm.len, hm.head, hm.words⟩ H
      exact C_ret (Jy H rfl fun w' H' => ⟨rfl, H'⟩)

/-- The state with one region more. -/
@[reducible] def openS (s : CS) (parent : Int) (b b2 : Nat) : CS :=
  { s with last := s.last + 1, par := s.par ++ [(((s.last + 1 : Nat) : Int), parent)], sps := s.sps ++ [(((s.last + 1 : Nat) : Int), b, ⟨[], 0, 0⟩)], mns := s.mns ++ [(((s.last + 1 : Nat) : Int), b2, [])] }

theorem Open_spec [Extra] (p : Nat) (s : CS) (parent : Int) (hlast : s.last + 1 < 1000000) {w : World} {fr : List HProp} (H : Holds w (CELL p s :: fr)) :
    Calls Tryz.prog 105 #[pp p, .int .i64 parent] w (ret fun x w' => (addErr s.par parent ≠ 0 ∧ x = .tuple #[.int .i64 0, .int .i64 (addErr s.par parent)] ∧ Holds w' (CELL p s :: fr)) ∨
      (addErr s.par parent = 0 ∧ ∃ b b2, x = .tuple #[.int .i64 ((s.last + 1 : Nat) : Int), .int .i64 0] ∧ Holds w' (CELL p (openS s parent b b2) :: fr))) := by
  obtain ⟨q, mem, hw, hm, H⟩ := CELL_out H
  refine calls_of Tryz.func105 rfl (by kernel_rfl) ?_
  refine J140 H ?_
  refine J18 H ?_
  replace H := Js [5,0,0,0,0,0,0,0,0,0,0] 0 H
  refine Jc rfl rfl (trAdd_spec q.trp s.last s.par parent (by omega) (fun r x hx => (hw.par.2.2 r x hx).2) H) ?_
  clear H
  rintro v w (⟨he, rfl, H⟩ | ⟨he, rfl, H⟩)
  · refine J114 H ?_
    refine J5 H ?_
    rw [show (((addErr s.par parent : Nat) : Int) != 0) = true by simpa using he]
    refine J176 H ?_
    replace H := Js [1,1,1,1,1,0,0,0,0,0,0] 0 H
    have H := CELL_in hw hm H
    exact C_ret (Jy H rfl fun w' H' => .inl ⟨he, rfl, H'⟩)
  · have hl64 : s.par.length < 64 := by
      unfold addErr at he
      split at he
      · omega
      · split at he
        · omega
        · have := hw.par.1; omega
    have hfr : ∀ {α : Type} (l : List (Int × α)), l.map (·.1) = s.par.map (·.1) → ((s.last + 1 : Nat) : Int) ∉ l.map (·.1) := by
      intro α l hl hmem
      rw [hl] at hmem
      obtain ⟨⟨r, x⟩, hx, h1⟩ := List.mem_map.1 hmem
      have h1 : r = ((s.last + 1 : Nat) : Int) := h1
      have := (hw.par.2.2 r x hx).2
      omega
    have hf1 : ((s.last + 1 : Nat) : Int) ∉ (s.sps.map spkey).map (·.1) := hfr _ (by rw [List.map_map]; exact hw.skeys)
    have hf2 : ((s.last + 1 : Nat) : Int) ∉ (s.mns.map mnkey).map (·.1) := hfr _ (by rw [List.map_map]; exact hw.mkeys)
    refine J39 H ?_
    refine J1 H ?_
    clear H; intro w H
    refine J28 H ?_
    refine A_load1 3 [14] H rfl (Wants.none rfl) rfl rfl (by kernel_rfl) ?_
    refine J97 H ?_
    refine J64 H ?_
    refine A_load1 8 [10, 14] H rfl (Wants.none rfl) rfl rfl (by kernel_rfl) ?_
    refine J112 H ?_
    refine Jo 10 H ?_
    refine Jk rfl rfl (uNew_spec q.sp (s.last + 1) (by omega) H) ?_
    clear H; rintro v w ⟨b, rfl, H⟩
    refine J115 H ?_
    refine J85 H ?_
    refine Jo 14 H ?_
    refine St_mapUpdate (ek := ki .i64) (vv := ptrv) (v := b) (key := ((s.last + 1 : Nat) : Int)) H rfl rfl rfl tkI rfl ?_
    clear H; intro w H
    rw [ins_none hf1, show s.sps.map spkey ++ [(((s.last + 1 : Nat) : Int), b)] = (s.sps ++ [(((s.last + 1 : Nat) : Int), b, (⟨[], 0, 0⟩ : Spc))]).map spkey by simp] at H
    refine J4 H ?_
    refine J1 H ?_
    clear H; intro w H
    refine J124 H ?_
    refine J62 H ?_
    refine Jo 5 H ?_
    refine Jk rfl rfl (gNew_spec H) ?_
    clear H; rintro v w ⟨b2, rfl, H⟩
    
    refine Jo 6 H ?_
    refine St_mapUpdate (ek := ki .i64) (vv := ptrv) (v := b2) (key := ((s.last + 1 : Nat) : Int)) H rfl rfl rfl tkI rfl ?_
    clear H; intro w H
    rw [ins_none hf2, show s.mns.map mnkey ++ [(((s.last + 1 : Nat) : Int), b2)] = (s.mns ++ [(((s.last + 1 : Nat) : Int), b2, ([] : List Nat))]).map mnkey by simp] at H
    refine J4 H ?_
    refine J20 H ?_
    replace H := Js [1,9,2,2,2,2,2,1,1,1,1,1,0] 0 H
    have H := (Holds.pick (R := spres q.sp) (x := (((s.last + 1 : Nat) : Int), b, (⟨[], 0, 0⟩ : Spc))) (g1 := s.sps) (g2 := []) rfl).2 (by rw [List.append_nil]; exact H)
    replace H := Js [11,10,0,0,0,0,0,0,0,0,0,0] 0 H
    have H := (Holds.pick (R := mnres) (x := (((s.last + 1 : Nat) : Int), b2, ([] : List Nat))) (g1 := s.mns) (g2 := []) rfl).2 (by rw [List.append_nil]; exact H)
    replace H := Js [2,2,2,2,2,2,2,2,1,1,0] 0 H
    have H := CELL_in (s := openS s parent b b2) (WF_open hw hl64 hlast) ⟨hm.len, hm.head, hm.words⟩ H
    exact C_ret (Jy H rfl fun w' H' => .inr ⟨he, b, b2, rfl, H'⟩)

theorem cNew_spec [Extra] (n size slots : Nat) (h1 : 1 ≤ n) (h2 : n ≤ 63) (h3 : 1 ≤ size) (h4 : size ≤ 1024) (h5 : 1 ≤ slots) (h6 : slots ≤ 63) {w : World} {fr : List HProp} (H : Holds w fr) :
    Calls Tryz.prog 103 #[.int .i64 n, .int .i64 size, .int .i64 slots] w (ret fun v w' => ∃ p, v = .tuple #[pp p, .int .i64 0] ∧
      Holds w' (CELL p ⟨size, List.replicate n 0, [], List.replicate slots ⟨0, none⟩, 0, [], [], [], []⟩ :: fr)) := by
  refine calls_of Tryz.func103 rfl (by kernel_rfl) ?_
  refine J84 H ?_
  refine Jc rfl rfl (sNew_spec n size h1 (by omega) h3 h4 H) ?_
  clear H; rintro v w ⟨sp, rfl, H⟩
  refine J39 H ?_
  refine J16 H ?_
  refine Jc rfl rfl (tNew_spec slots h5 h6 H) ?_
  clear H; rintro v w ⟨tp, rfl, H⟩
  refine J39 H ?_
  refine J51 H ?_
  refine Jc rfl rfl (NewBook_spec H) ?_
  clear H; rintro v w ⟨bp, rfl, H⟩
  refine J155 H ?_
  refine Jc rfl rfl (iNew_spec sp bp H) ?_
  clear H; rintro v w ⟨ip, rfl, H⟩
  refine J27 H ?_
  refine J139 H ?_
  refine Jc rfl rfl (trNew_spec H) ?_
  clear H; rintro v w ⟨trp, rfl, H⟩
  refine Jc rfl rfl (rNew_spec H) ?_
  clear H; rintro v w ⟨rp, rfl, H⟩
  refine Lp_s rfl (St_makeMap ptrv (ki .i64) H rfl ?_)
  clear H; intro sm w H
  refine Lp_s rfl (St_makeMap ptrv (ki .i64) H rfl ?_)
  clear H; intro mm w H
  refine J40 H ?_
  clear H; intro b47 w H
  refine J3 H ?_
  have hget : ∀ {i : Nat} {t : Slt}, (List.replicate slots (⟨0, none⟩ : Slt))[i]? = some t → t = ⟨0, none⟩ := fun h => List.eq_of_mem_replicate (List.mem_of_getElem? h)
  have hget0 : ∀ {i r : Nat}, (List.replicate n 0)[i]? = some r → r = 0 := fun h => List.eq_of_mem_replicate (List.mem_of_getElem? h)
  have hw : WF ⟨size, List.replicate n 0, [], List.replicate slots ⟨0, none⟩, 0, [], [], [], []⟩ := by
    refine ⟨⟨h3, h4⟩, by simp; omega, by simp; omega, by simp, fun i t h => ?_, fun i g e h => ?_, fun i j g h e f _ hi _ => ?_, by simp, rfl, rfl, by simp, by simp, fun c r h h0 => ?_, by simp⟩
    · have := hget h; subst this; simp
    · have := hget h; cases this
    · have := hget hi; cases this
    · exact absurd (hget0 h) h0
  have hm : MemOK ⟨size, List.replicate n 0, [], List.replicate slots ⟨0, none⟩, 0, [], [], [], []⟩ (List.replicate (n * size) 0) := by
    refine ⟨by simp, fun i g e h => ?_, fun i g e h => ?_⟩
    · have := hget h; cases this
    · have := hget h; cases this
  have H : Holds w (star (([] : List (Int × Nat × Spc)).map (spres sp)) :: _) := Holds.star.2 H
  have H : Holds w (star (([] : List (Int × Nat × List Nat)).map mnres) :: _) := Holds.star.2 H
  replace H := Js [2,6,6,7,6,5,4,3,1,1,0] 0 H
  have H := CELL_in (s := ⟨size, List.replicate n 0, [], List.replicate slots ⟨0, none⟩, 0, [], [], [], []⟩) (q := ⟨sp, bp, ip, tp, trp, rp, sm, mm⟩) hw hm H
  exact C_ret (Jy H rfl fun w' H' => ⟨_, rfl, H'⟩)
end Go.Proofs.YtipelpbkeiphmaaGreatDoor
namespace Go.Proofs.YtipelpbkeiphmaaGreatDoor
open Go.SL Go.Lib

theorem setCells_holds [Extra] {E b : Nat} {post : List Value} {fr : List HProp} : ∀ (new old pre : List Value) {w : World}, old.length = new.length → Holds w (pts b (row E (pre ++ old ++ post)) :: fr) → Holds (w.setCells b pre.length new) (pts b (row E (pre ++ new ++ post)) :: fr)
  | [], old, pre, w, hl, H => by
    obtain rfl : old = [] := List.length_eq_zero_iff.1 hl
    exact H
  | v :: r, old, pre, w, hl, H => by
    obtain ⟨o, t, rfl⟩ : ∃ o t, old = o :: t := by
      cases old with
      | nil => cases hl
      | cons o t => exact ⟨o, t, rfl⟩
    have hb := H.pts
    have H1 : Holds (w.setCell ⟨b, pre.length, none⟩ v) (pts b (row E (pre ++ v :: t ++ post)) :: fr) := by
      refine H.set ?_ ?_
      · show (w.heap.modify b _)[b]? = _
        rw [Array.getElem?_modify, if_pos rfl, hb]
        simp only [Option.map_some, row]
        congr 2
        simp
      · intro c hc
        show (w.heap.modify b _)[c]? = _
        rw [Array.getElem?_modify, if_neg (Ne.symm hc)]
    rw [show pre ++ v :: t ++ post = (pre ++ [v]) ++ t ++ post by simp] at H1
    have h2 := setCells_holds r t (pre ++ [v]) (by simpa using hl) H1
    rw [List.length_append] at h2
    rw [show pre ++ v :: r ++ post = (pre ++ [v]) ++ r ++ post by simp]
    exact h2

theorem Insert_mid [Extra] (v : Value) (l : List Nat) (x i : Nat) (hi : i < l.length) (hl : l.length ≤ 100000) (b : Nat) {w : World} {fr : List HProp} (H : Holds w (NL v l :: pts b (row 3 [.int .i64 x]) :: fr)) :
    Calls Tryz.prog 252 #[v, .int .i64 i, .slice (some ⟨b, 0, none⟩) 1 1] w (ret fun v w' => Holds w' (NL v (l.take i ++ x :: l.drop i) :: fr)) := by
  have hnl : (l.take i ++ x :: l.drop i).length = l.length + 1 := by simp; omega
  have hcl : (ncells l).length = l.length := by rw [ncells_length]; omega
  have h1c : ∀ v ∈ ncells l, v.oneCell' = true := fun v hv => by obtain ⟨y, _, rfl⟩ := List.mem_map.1 hv; rfl
  have h1v : ∀ v ∈ [Value.int .i64 (x : Int)], v.oneCell' = true := fun v hv => by rw [List.mem_singleton] at hv; subst hv; rfl
  rcases sls_case H with ⟨_, h0, _⟩ | ⟨b', n, cap, s, rfl, e3, e4, e5, H2⟩
  · rw [h0] at hcl
    cases l with
    | nil => cases hi
    | cons a t => cases hcl
  obtain rfl : n = l.length := by omega
  have hb := H2.pts
  have hx := H2.swap.pts
  have hne : b' ≠ b := Holds.ne H2
  have hvs : ∀ j v, [Value.int .i64 (x : Int)][j]? = some v → w.cell? ⟨b, 0 + j, none⟩ = some v := fun j v hj => by
    rw [Nat.zero_add]
    exact cell_row hx hj
  have hcs : ∀ j v, (ncells l)[j]? = some v → w.cell? ⟨b', 0 + j, none⟩ = some v := fun j v hj => by
    rw [Nat.zero_add]
    refine cell_row hb ?_
    rw [List.getElem?_append_left (List.getElem?_eq_some_iff.1 hj).1]
    exact hj
  have hcat : ∀ t : List Value, (ncells l).take i ++ [Value.int .i64 (x : Int)] ++ ((ncells l).drop i ++ t) = ncells (l.take i ++ x :: l.drop i) ++ t := by
    intro t
    unfold ncells
    simp [List.map_take, List.map_drop]
  by_cases hroom : l.length + 1 ≤ cap
  · obtain ⟨s0, s', rfl⟩ : ∃ s0 s', s = s0 :: s' := by
      cases s with
      | nil => simp at e5; omega
      | cons s0 s' => exact ⟨s0, s', rfl⟩
    refine (Any2.slices_Insert_int_shift Tryz.laysIns b' 0 l.length cap i b 0 1 1 (ncells l) [.int .i64 x] w hi (by omega) hroom e4.2 (Ne.symm hne) hcl rfl hcs ?_ (fun j _ => frozen_row hb) hvs h1c h1v 3 3 1 (ncells l ++ s0 :: s').length ?_ ?_ ?_ (frozen_row hx) (frozen_row hx)).mono ?_
    · intro j hj
      rw [Nat.zero_add, cell_row hb (List.getElem?_eq_getElem (by simp; omega))]
      rfl
    · simp [World.shape?, hx]
    · simp [World.shape?, hb]
    · simp
    · rintro e w' ⟨rfl, rfl⟩
      have H3 : Holds w.drew (pts b' (row 3 ((ncells l).take (i + 1) ++ ((ncells l).drop (i + 1) ++ [s0]) ++ s')) :: pts b (row 3 [.int .i64 x]) :: fr) := by
        rw [show (ncells l).take (i + 1) ++ ((ncells l).drop (i + 1) ++ [s0]) ++ s' = ncells l ++ s0 :: s' by rw [← List.append_assoc, List.take_append_drop]; simp]
        exact H2.heap rfl
      have H4 := setCells_holds ((ncells l).drop i) _ _ (by simp; omega) H3
      rw [show ((ncells l).take (i + 1)).length = 0 + (i + 1) by rw [List.length_take]; omega] at H4
      have hgi : (ncells l).take (i + 1) = (ncells l).take i ++ [(ncells l)[i]'(by omega)] := by
        rw [List.take_add_one, List.getElem?_eq_getElem (by omega)]
        rfl
      rw [show (ncells l).take (i + 1) ++ (ncells l).drop i ++ s' = (ncells l).take i ++ [(ncells l)[i]'(by omega)] ++ ((ncells l).drop i ++ s') by rw [hgi]; simp] at H4
      have H5 := setCells_holds [Value.int .i64 (x : Int)] [(ncells l)[i]'(by omega)] ((ncells l).take i) rfl H4
      rw [show ((ncells l).take i).length = 0 + i by rw [List.length_take]; omega, hcat] at H5
      refine Holds.drop (Holds.swap (sls_of (by rw [ncells_length, hnl]) ⟨hroom, e4.2⟩ ?_ H5))
      simp at e5 ⊢
      omega
  · obtain rfl : cap = l.length := by omega
    refine (Any2.slices_Insert_int_grow Tryz.laysIns b' 0 l.length l.length i b 0 1 1 (ncells l) [.int .i64 x] w hi (by omega) (Nat.le_refl _) (by omega) (by omega) hcl rfl hcs hvs h1c h1v).mono ?_
    rintro e w' ⟨rfl, rfl⟩
    generalize hG : grownCap w (l.length + 1) l.length _ = G
    have hG1 : l.length + 1 ≤ G := by rw [← hG]; exact grownCap_ge w _ _ _
    have hG2 : G ≤ 9223372036854775807 := by rw [← hG]; exact grownCap_le_maxLen w _ _ _ (by unfold maxLen; omega)
    have H3 := H2.new (.cells (((ncells l).take i).toArray ++ Builtin.zeroCells (Value.int .i64 0).cells (l.length + 1 - i) ++ Builtin.zeroCells (Value.int .i64 0).cells (G - (l.length + 1))) 3 (0, 0))
    have hzc : ∀ k, (Builtin.zeroCells (Value.int .i64 0).cells k).toList.length = k := fun k => by rw [Array.length_toList, size_zeroCells]; exact Nat.mul_one k
    obtain ⟨z0, zt, hz⟩ : ∃ z0 zt, (Builtin.zeroCells (Value.int .i64 0).cells (l.length + 1 - i)).toList = z0 :: zt := by
      cases hh : (Builtin.zeroCells (Value.int .i64 0).cells (l.length + 1 - i)).toList with
      | nil => have := hzc (l.length + 1 - i); rw [hh] at this; simp at this; omega
      | cons z0 zt => exact ⟨z0, zt, rfl⟩
    have hzt : zt.length = l.length - i := by
      have := hzc (l.length + 1 - i)
      rw [hz, List.length_cons] at this
      omega
    have H4 : Holds (w.alloc (.cells (((ncells l).take i).toArray ++ Builtin.zeroCells (Value.int .i64 0).cells (l.length + 1 - i) ++ Builtin.zeroCells (Value.int .i64 0).cells (G - (l.length + 1))) 3 (0, 0))).drew (pts w.heap.size (row 3 ((ncells l).take i ++ [z0] ++ (zt ++ (Builtin.zeroCells (Value.int .i64 0).cells (G - (l.length + 1))).toList))) :: fr) := by
      have h := (Holds.swap H3).drop
      have h := (Holds.swap h).drop
      refine (Holds.head h fun hh x => ?_).heap rfl
      have e : ((ncells l).take i).toArray ++ Builtin.zeroCells (Value.int .i64 0).cells (l.length + 1 - i) ++ Builtin.zeroCells (Value.int .i64 0).cells (G - (l.length + 1)) = ((ncells l).take i ++ [z0] ++ (zt ++ (Builtin.zeroCells (Value.int .i64 0).cells (G - (l.length + 1))).toList)).toArray := by
        apply Array.ext'
        simp [hz]
      rw [e] at x
      exact x
    have H5 := setCells_holds [Value.int .i64 (x : Int)] [z0] ((ncells l).take i) rfl H4
    rw [show ((ncells l).take i).length = i by rw [List.length_take]; omega] at H5
    have H6 : Holds ((w.alloc (.cells (((ncells l).take i).toArray ++ Builtin.zeroCells (Value.int .i64 0).cells (l.length + 1 - i) ++ Builtin.zeroCells (Value.int .i64 0).cells (G - (l.length + 1))) 3 (0, 0))).drew.setCells w.heap.size i [Value.int .i64 (x : Int)]).drew (pts w.heap.size (row 3 (((ncells l).take i ++ [Value.int .i64 (x : Int)]) ++ zt ++ (Builtin.zeroCells (Value.int .i64 0).cells (G - (l.length + 1))).toList)) :: fr) := by
      rw [show ((ncells l).take i ++ [Value.int .i64 (x : Int)]) ++ zt ++ (Builtin.zeroCells (Value.int .i64 0).cells (G - (l.length + 1))).toList = (ncells l).take i ++ [Value.int .i64 (x : Int)] ++ (zt ++ (Builtin.zeroCells (Value.int .i64 0).cells (G - (l.length + 1))).toList) by simp]
      exact H5.heap rfl
    have H7 := setCells_holds ((ncells l).drop i) zt _ (by simp; omega) H6
    rw [show ((ncells l).take i ++ [Value.int .i64 (x : Int)]).length = i + 1 by simp; omega, show (ncells l).take i ++ [Value.int .i64 (x : Int)] ++ (ncells l).drop i ++ (Builtin.zeroCells (Value.int .i64 0).cells (G - (l.length + 1))).toList = (ncells l).take i ++ [Value.int .i64 (x : Int)] ++ ((ncells l).drop i ++ (Builtin.zeroCells (Value.int .i64 0).cells (G - (l.length + 1))).toList) by simp, hcat] at H7
    exact sls_of (by rw [ncells_length, hnl]) ⟨hG1, hG2⟩ (by rw [hzc]; omega) H7

/-- A number more in its place. -/
def insL (l : List Nat) (x : Nat) : List Nat := l.take (posL l x) ++ x :: l.drop (posL l x)
theorem posL_le (l : List Nat) (x : Nat) : posL l x ≤ l.length := List.countP_le_length
theorem insL_end {l : List Nat} {x : Nat} (h : ∀ a ∈ l, a < x) : insL l x = l ++ [x] := by
  unfold insL
  rw [posL_end h, List.take_length, List.drop_length]
theorem insL_mem {l : List Nat} {x y : Nat} : y ∈ insL l x ↔ y = x ∨ y ∈ l := by
  unfold insL
  rw [List.mem_append, List.mem_cons]
  have h : y ∈ l ↔ y ∈ l.take (posL l x) ∨ y ∈ l.drop (posL l x) := by rw [← List.mem_append, List.take_append_drop]
  rw [h]
  constructor
  · rintro (h | h | h)
    · exact .inr (.inl h)
    · exact .inl h
    · exact .inr (.inr h)
  · rintro (h | h | h)
    · exact .inr (.inl h)
    · exact .inl h
    · exact .inr (.inr h)
theorem insL_cons_lt {a : Nat} {l : List Nat} {x : Nat} (h : a < x) : insL (a :: l) x = a :: insL l x := by
  unfold insL
  have : posL (a :: l) x = posL l x + 1 := by
    unfold posL
    rw [List.countP_cons_of_pos (by simpa using h)]
  rw [this, List.take_succ_cons, List.drop_succ_cons]
  rfl
theorem insL_cons_gt {a : Nat} {l : List Nat} {x : Nat} (hs : (a :: l).Pairwise (· < ·)) (h : x < a) : insL (a :: l) x = x :: a :: l := by
  unfold insL
  have : posL (a :: l) x = 0 := by
    unfold posL
    rw [List.countP_eq_zero]
    intro y hy
    rw [List.pairwise_cons] at hs
    rcases List.mem_cons.1 hy with rfl | hy
    · simpa using Nat.le_of_lt h
    · have := hs.1 y hy
      simp
      omega
  rw [this]
  rfl
theorem insL_sorted : ∀ {l : List Nat} {x : Nat}, l.Pairwise (· < ·) → x ∉ l → (insL l x).Pairwise (· < ·)
  | [], x, _, _ => by unfold insL; simp
  | a :: l, x, hs, hx => by
    rw [List.mem_cons, not_or] at hx
    by_cases h : a < x
    · rw [insL_cons_lt h, List.pairwise_cons]
      rw [List.pairwise_cons] at hs
      refine ⟨fun y hy => ?_, insL_sorted hs.2 hx.2⟩
      rcases insL_mem.1 hy with rfl | hy
      · exact h
      · exact hs.1 y hy
    · have h : x < a := by omega
      rw [insL_cons_gt hs h, List.pairwise_cons]
      refine ⟨fun y hy => ?_, hs⟩
      rcases List.mem_cons.1 hy with rfl | hy
      · exact h
      · rw [List.pairwise_cons] at hs
        have := hs.1 y hy
        omega

theorem gPutA_spec [Extra] (p : Nat) (l : List Nat) (x : Nat) (hs : l.Pairwise (· < ·)) (hl : l.length < 100000) (hn : x ∉ l) {w : World} {fr : List HProp} (H : Holds w (BAG p l :: fr)) :
    Calls Tryz.prog 179 #[pp p, .int .i64 x] w (ret fun v w' => v = .bool true ∧ Holds w' (BAG p (insL l x) :: fr)) := by
  by_cases he : posL l x = l.length
  · have hx : ∀ a ∈ l, a < x := by
      have : l.countP (· < x) = l.length := he
      rw [List.countP_eq_length] at this
      intro a ha
      simpa using this a ha
    rw [insL_end hx]
    exact gPut_spec p l x hs (by omega) hx H
  obtain ⟨a, c, H⟩ := BAG_out H
  have hle := posL_le l x
  refine calls_of Tryz.func179 rfl (by kernel_rfl) ?_
  refine J83 H ?_
  obtain ⟨D1, H, hD1, hC1⟩ := sls_rd H.swap (ncells_length _) (by decide)
  refine Jc rfl rfl (Search_spec _ l (by omega) hs x (hD1 _) H) ?_
  clear H; rintro v w ⟨rfl, H⟩
  replace H := hC1 _ _ H
  rw [decide_eq_false hn]
  refine J68 H ?_
  refine J14 H ?_
  refine C_join (fun ms σ w => ms = [] ∧ σ 6 = .bool false ∧ Holds w (BAG p (insL l x) :: fr)) ?_ ?_
  · refine C_true rfl ?_
    refine J66 H ?_
    refine J11 H ?_
    refine J32 H ?_
    clear H; intro b27 w H
    replace H := Js [1,0,0] 0 H
    refine Jc rfl rfl (Insert_mid _ l x (posL l x) (by omega) (by omega) _ H) ?_
    clear H; intro v w H
    obtain ⟨a28, m28, c28, rfl⟩ := sls_any H
    refine J52 H ?_
    clear H; intro w H
    refine Lp_nil ?_
    exact ⟨rfl, rfl, rfl, BAG_in H.swap⟩
  · clear H
    rintro ms σ w ⟨rfl, g6, H⟩
    rw [upd_self g6]
    refine J20 H ?_
    exact C_ret (Jy H rfl fun w' H' => ⟨rfl, H'⟩)
end Go.Proofs.YtipelpbkeiphmaaGreatDoor
namespace Go.Proofs.YtipelpbkeiphmaaGreatDoor
open Go.SL

/-- What is wrong with an object that is to be made. -/
def layI (s : CS) (id : Int) : Lay := (s.lays[id.toNat - 1]?).getD ⟨0, [], 0, []⟩
def makeE (s : CS) (region id count : Int) : Nat := if (fnd s.par region).isSome = false then 15 else if id < 1 ∨ (s.lays.length : Int) < id then 6 else (sizeL (layI s id) count).2
def makeN (s : CS) (id count : Int) : Nat := (sizeL (layI s id) count).1
/-- No used slot lies behind a free one. -/
def Seq (s : CS) : Prop := ∀ (i j : Nat) (t : Slt) (g : Nat) (e : Ent), i < j → s.tab[i]? = some t → s.tab[j]? = some ⟨g, some e⟩ → busy t = true

theorem fnd_split {α : Type} {V : Type} {l : List α} {f : α → Int} {g : α → V} {k : Int} {b : V} (h : fnd (l.map fun a => (f a, g a)) k = some b) : ∃ x g1 g2, l = g1 ++ x :: g2 ∧ f x = k ∧ g x = b := by
  obtain ⟨x, hx, h1⟩ := List.mem_map.1 (fnd_mem h)
  injection h1 with h1 h2
  obtain ⟨g1, g2, h3⟩ := List.append_of_mem hx
  exact ⟨x, g1, g2, h3, h1, h2⟩
theorem fnd_keys {α : Type} {V : Type} {l : List α} {f : α → Int} {g : α → V} {k : Int} (h : k ∈ l.map f) : ∃ b, fnd (l.map fun a => (f a, g a)) k = some b := by
  cases hf : fnd (l.map fun a => (f a, g a)) k with
  | some b => exact ⟨b, rfl⟩
  | none =>
    refine absurd ?_ (fnd_eq_none.1 hf)
    rw [List.map_map]
    exact h
theorem parts_len {size : Nat} {own : List Nat} {r : Int} {S : Spc} (h : SpcOK size own r S) : S.parts.length ≤ own.length := by
  have h1 : ∀ l : List (Nat × Nat), (∀ p ∈ l, 1 ≤ p.2) → l.length ≤ (chunksOf l).length := by
    intro l
    induction l with
    | nil => intro _; exact Nat.zero_le _
    | cons a l ih =>
      intro ha
      have h1 := ih (fun p hp => ha p (List.mem_cons_of_mem _ hp))
      have h2 := ha a (List.mem_cons_self ..)
      simp only [chunksOf, List.flatMap_cons, List.length_append, List.length_map, List.length_range, List.length_cons] at h1 ⊢
      omega
  have h2 := h1 S.parts (fun p hp => (h.parts p hp).1)
  have h3 := sub_length h.nodup (l₂ := List.range own.length) (fun c hc => by
    obtain ⟨q, hq, _, _⟩ := (h.owned c).1 hc
    exact List.mem_range.2 (List.getElem?_eq_some_iff.1 hq).1)
  rw [List.length_range] at h3
  omega
theorem fin_le {size : Nat} {own : List Nat} {r : Int} {S : Spc} (h : SpcOK size own r S) (h1 : own.length ≤ 63) (h2 : size ≤ 1024) : S.fin ≤ 1048576 := by
  by_cases h0 : S.fin = 0
  · omega
  · obtain ⟨c, e, _, hc⟩ := h.fin h0
    have := (h.parts _ hc).2
    rw [e]
    exact Nat.le_trans (Nat.mul_le_mul (show c + 1 ≤ 64 by omega) h2) (by omega)

theorem lies_owned {size : Nat} {own : List Nat} {e : Ent} (h : Lies size own e) : Owned size own e.addr (e.ws.length + 1) := by
  intro c c1 c2
  obtain ⟨r, hr, _, hr1⟩ := h.2 c c1 (by rw [show e.addr + (e.ws.length + 1) - 1 = e.addr + e.ws.length by omega] at c2; exact c2)
  rw [List.getD_eq_getElem?_getD, hr]
  show r ≠ 0
  omega
theorem alloc_own {size : Nat} {own mem own' mem' : List Nat} {r n a : Nat} {S S' : Spc} (h : Alloced size own mem r S n own' mem' S' a) : own'.length = own.length := by
  cases h with
  | room _ => rfl
  | one ha _ _ => exact setR_length ha
  | run _ ha _ _ _ => exact setR_length ha

/-- No more chunks have owners than a run of that many. -/
def Grows (own own' : List Nat) (k : Nat) : Prop := own'.length = own.length ∧ ∃ a0 k0, k0 ≤ k ∧ ∀ i, own'.getD i 0 ≠ 0 → own.getD i 0 ≠ 0 ∨ (a0 ≤ i ∧ i < a0 + k0)
theorem alloc_grows {size : Nat} (hs : 1 ≤ size) {own mem own' mem' : List Nat} {r n a : Nat} {S S' : Spc} (h : Alloced size own mem r S (n + 1) own' mem' S' a) : Grows own own' (n / size + 1) := by
  refine ⟨alloc_own h, ?_⟩
  cases h with
  | room _ => exact ⟨0, 0, Nat.zero_le _, fun i hi => .inl hi⟩
  | @one b ha _ _ =>
    refine ⟨b, 1, Nat.le_add_left 1 _, fun i hi => ?_⟩
    rw [setR_getD ha] at hi
    split at hi
    · right; assumption
    · exact .inl hi
  | @run b k hk ha _ _ hn2 =>
    refine ⟨b, k, ?_, fun i hi => ?_⟩
    · have h2 : k - 1 ≤ n / size := by
        rw [Nat.le_div_iff_mul_le (by omega)]
        omega
      omega
    · rw [setR_getD ha] at hi
      split at hi
      · right; assumption
      · exact .inl hi

theorem Make_spec [Extra] (p : Nat) (s : CS) (region id count : Int) {w : World} {fr : List HProp} [hT : HasTab 0 Lib.deBruijn64tab fr] (H : Holds w (CELL p s :: fr)) :
    Calls Tryz.prog 106 #[pp p, .int .i64 region, .int .i64 id, .int .i64 count] w (ret fun v w' =>
      (makeE s region id count ≠ 0 ∧ v = .tuple #[tkn 0 0, .int .i64 (makeE s region id count)] ∧ Holds w' (CELL p s :: fr)) ∨
      (makeE s region id count = 0 ∧ (∀ t ∈ s.tab, busy t = true) ∧ v = .tuple #[tkn 0 0, .int .i64 12] ∧ Holds w' (CELL p s :: fr)) ∨
      (makeE s region id count = 0 ∧ (∀ a, a + (makeN s id count / s.size + 1) ≤ s.own.length → ∃ i, a ≤ i ∧ i < a + (makeN s id count / s.size + 1) ∧ s.own.getD i 0 ≠ 0) ∧ v = .tuple #[tkn 0 0, .int .i64 11] ∧ Holds w' (CELL p s :: fr)) ∨
      (makeE s region id count = 0 ∧ ∃ k g0 addr s', s.tab[k]? = some ⟨g0, none⟩ ∧ g0 ≤ 254 ∧ (∀ j t, j < k → s.tab[j]? = some t → busy t = true) ∧ v = .tuple #[tkn k (g0 + 1), .int .i64 0] ∧
        s'.size = s.size ∧ s'.lays = s.lays ∧ s'.last = s.last ∧ s'.par = s.par ∧ s'.rem = s.rem ∧ s'.tab = s.tab.set k ⟨g0 + 1, some ⟨addr, region, true, false, id.toNat, count.toNat, List.replicate (makeN s id count) 0⟩⟩ ∧ Grows s.own s'.own (makeN s id count / s.size + 1) ∧ Holds w' (CELL p s' :: fr))) := by
  obtain ⟨q, mem, hw, hm, H⟩ := CELL_out H
  have hndp := TRE_keys (H.pull 5)
  refine calls_of Tryz.func106 rfl (by kernel_rfl) ?_
  refine J23 H ?_
  clear H; intro b8 w H
  refine J0 H ?_
  replace H := Js [6,0,0,0,0,0,0,0,0,0,0,0] 0 H
  refine J14 H ?_
  refine C_joinQ (fun ms σ w => ms = [] ∧ (fnd s.par region).isSome = true ∧ σ 0 = pp p ∧ σ 1 = .int .i64 region ∧ σ 2 = .int .i64 id ∧ σ 3 = .int .i64 count ∧ σ 8 = pp b8 ∧
    Holds w (BOOK q.bp s.lays :: pts b8 (row 88 [.int .i64 0, .int .i64 0]) :: CROW p q :: IMG q.ip q.sp q.bp :: ST q.sp s.size mem s.own :: TAB q.tp s.tab :: TRE q.trp s.last s.par :: RS q.rp s.rem :: mp (ki .i64) ptrv q.sm (s.sps.map spkey) :: star (s.sps.map (spres q.sp)) :: mp (ki .i64) ptrv q.mm (s.mns.map mnkey) :: star (s.mns.map mnres) :: fr)) ?_ ?_
  · refine J59 H ?_
    refine J18 H ?_
    refine Jc rfl rfl (Live_spec q.trp s.last s.par region H) ?_
    clear H; rintro v w ⟨rfl, H⟩
    cases hf : (fnd s.par region).isSome with
    | false =>
      have he : makeE s region id count = 15 := by unfold makeE; rw [if_pos hf]
      refine J149 H ?_
      clear H; intro w H
      refine J0 H ?_
      replace H := Js [1,1,1,1,1,1,0,0,0,0,0,0] 0 H
      refine C_ret (.inr ⟨by simp, Jz H (fun w' H' => .cellN H' rfl (by repeat (first | exact Reads.nil _ | apply Reads.cons rfl)) (.tmp .nil)) fun w' H' => .inl ⟨by omega, by rw [he]; rfl, CELL_in hw hm H'.drop⟩⟩)
    | true =>
      refine J56 H ?_
      replace H := Js [4,1,1,1,1,1,0,0,0,0,0,0] 0 H
      exact .inl ⟨rfl, rfl, rfl, rfl, rfl, rfl, rfl, rfl, H⟩
  clear H
  rintro ms σ w ⟨rfl, hlive, g0, g1, g2, g3, g8, H⟩
  rw [upd_self g0, upd_self g1, upd_self g2, upd_self g3, upd_self g8]
  clear g0 g1 g2 g3 g8
  refine J18 H ?_
  by_cases hid : id < 1 ∨ (s.lays.length : Int) < id
  · have he : makeE s region id count = 6 := by unfold makeE; rw [hlive, if_neg (by simp), if_pos hid]
    refine Jc rfl rfl (bGet_no q.bp s.lays id hid H) ?_
    clear H; rintro v w ⟨rfl, H⟩
    refine J19 H ?_
    clear H; intro b10 w H
    refine J6 H ?_
    clear H; intro w H
    refine J25 H ?_
    refine J161 H ?_
    clear H; intro w H
    refine J0 H ?_
    replace H := Js [2,2,2,1,1,1,1,1,1,1,1,1] 1 H
    exact C_ret (Jz H (fun w' H' => .cellN H' rfl (by repeat (first | exact Reads.nil _ | apply Reads.cons rfl)) (.tmp .nil)) fun w' H' => .inl ⟨by omega, by rw [he]; rfl, CELL_in hw hm H'.drop⟩)
  obtain ⟨i, rfl⟩ : ∃ i : Nat, id = i := ⟨id.toNat, by omega⟩
  have hil := List.getElem?_eq_getElem (l := s.lays) (i := i - 1) (by omega)
  have hlay : layI s (i : Int) = s.lays[i - 1]'(by omega) := by
    unfold layI
    rw [Int.toNat_natCast, hil]
    rfl
  have hR : RightL (layI s (i : Int)) := by rw [hlay]; exact hw.lays.2 _ (List.getElem_mem _)
  rw [← hlay] at hil
  have hE : makeE s region i count = (sizeL (layI s i) count).2 := by unfold makeE; rw [hlive, if_neg (by simp), if_neg hid]
  have hN : makeN s i count = (sizeL (layI s i) count).1 := rfl
  generalize layI s (i : Int) = l at hil hR hE hN
  refine Jc rfl rfl (bGetN_spec q.bp s.lays i (by omega) l hil H) ?_
  clear H; rintro v w ⟨vr, vq, rfl, H⟩
  obtain ⟨ar, cr, rfl⟩ := sls_slice H (ncells_length _) (by decide)
  obtain ⟨aq, cq, rfl⟩ := sls_slice H.drop (ncells_length _) (by decide)
  refine J19 H ?_
  clear H; intro b10 w H
  refine J6 H ?_
  clear H; intro w H
  refine J50 H ?_
  refine J26 H ?_
  refine J7 H ?_
  replace H := Js [1,1,0,0,0,0,0,0,0,0,0,0,0,0,0] 0 H
  obtain ⟨D1, H, hD1, hC1⟩ := sls_rd H (ncells_length _) (by decide)
  obtain ⟨D2, H, hD2, hC2⟩ := sls_rd H.swap (ncells_length _) (by decide)
  refine Jc rfl rfl (Size_spec _ _ l hR count ⟨(hD1 _).there, hD2 _⟩ H) ?_
  clear H; rintro v w ⟨rfl, H⟩
  replace H := hC1 _ _ (hC2 _ _ H).swap
  replace H := Js [8,3,3,3,3,3,3,3,3,3,3,3] 3 H
  generalize hsz : sizeL l count = z at hE hN H ⊢
  obtain ⟨n, er⟩ := z
  refine J30 H ?_
  refine J15 H ?_
  refine C_joinQ (fun ms σ w => ms = [] ∧ er = 0 ∧ ¬ (∀ t ∈ s.tab, busy t = true) ∧ σ 0 = pp p ∧ σ 1 = .int .i64 region ∧ σ 2 = .int .i64 i ∧ σ 3 = .int .i64 count ∧ σ 8 = pp b8 ∧ σ 12 = .int .i64 n ∧
    Holds w (TAB q.tp s.tab :: BOOK q.bp s.lays :: pts b8 (row 88 [.int .i64 0, .int .i64 0]) :: CROW p q :: IMG q.ip q.sp q.bp :: ST q.sp s.size mem s.own :: TRE q.trp s.last s.par :: RS q.rp s.rem :: mp (ki .i64) ptrv q.sm (s.sps.map spkey) :: star (s.sps.map (spres q.sp)) :: mp (ki .i64) ptrv q.mm (s.mns.map mnkey) :: star (s.mns.map mnres) :: fr)) ?_ ?_
  · refine C_block ?_
    refine J20 H ?_
    by_cases h0 : er = 0
    · subst h0
      refine J109 H ?_
      refine J48 H ?_
      refine Jc rfl rfl (Left_spec q.tp s.tab H) ?_
      clear H; rintro v w ⟨rfl, H⟩
      have hbt : busyT s.tab ≤ s.tab.length := List.length_filter_le _ _
      by_cases hb : ∀ t ∈ s.tab, busy t = true
      · have hbe : busyT s.tab = s.tab.length := by unfold busyT; rw [List.filter_eq_self.2 hb]
        rw [show s.tab.length - busyT s.tab = 0 by omega]
        refine J149 H ?_
        clear H; intro w H
        refine J0 H ?_
        replace H := Js [2,2,2,1,1,0,0,0,0,0,0,0] 0 H
        refine C_ret (.inr ⟨by simp, Jz H (fun w' H' => .cellN H' rfl (by repeat (first | exact Reads.nil _ | apply Reads.cons rfl)) (.tmp .nil)) fun w' H' => .inr (.inl ⟨hE, hb, rfl, CELL_in hw hm H'.drop⟩)⟩)
      · have hbe : busyT s.tab ≠ s.tab.length := by
          intro h
          refine hb fun t ht => ?_
          exact List.length_filter_eq_length_iff.1 h t ht
        refine J3 H ?_
        rw [show (((s.tab.length - busyT s.tab : Nat) : Int) == 0) = false by simp; omega]
        refine J9 H ?_
        exact .inl ⟨rfl, rfl, rfl, hb, rfl, rfl, rfl, rfl, rfl, rfl, H⟩
    · rw [show (((er : Nat) : Int) != 0) = true by simpa using h0]
      refine J161 H ?_
      clear H; intro w H
      refine J0 H ?_
      replace H := Js [2,2,2,1,1,0,0,0,0,0,0,0] 0 H
      refine C_ret (.inr ⟨by simp, Jz H (fun w' H' => .cellN H' rfl (by repeat (first | exact Reads.nil _ | apply Reads.cons rfl)) (.tmp .nil)) fun w' H' => .inl ⟨by rw [hE]; exact h0, by rw [hE]; rfl, CELL_in hw hm H'.drop⟩⟩)
  clear H
  rintro ms σ w ⟨rfl, rfl, hfree, g0, g1, g2, g3, g8, g12, H⟩
  rw [upd_self g0, upd_self g1, upd_self g2, upd_self g3, upd_self g8, upd_self g12]
  clear g0 g1 g2 g3 g8 g12
  obtain ⟨z1, z2, z3, z4, z5⟩ := sizeL_ok hsz
  obtain ⟨c, rfl⟩ : ∃ c : Nat, count = c := ⟨count.toNat, by omega⟩
  have hrk : region ∈ s.par.map (·.1) := fnd_isSome_mem hlive
  obtain ⟨b, hkS⟩ := fnd_keys (l := s.sps) (f := fun x => x.1) (g := fun x => x.2.1) (k := region) (by rw [hw.skeys]; exact hrk)
  obtain ⟨⟨r0, b0, S⟩, p1, p2, hsps, h01, h02⟩ := fnd_split hkS
  obtain rfl : r0 = region := h01
  obtain rfl : b0 = b := h02
  obtain ⟨b2, hkM⟩ := fnd_keys (l := s.mns) (f := fun x => x.1) (g := fun x => x.2.1) (k := r0) (by rw [hw.mkeys]; exact hrk)
  obtain ⟨⟨r1, b1, L⟩, m1, m2, hmns, h11, h12⟩ := fnd_split hkM
  obtain rfl : r1 = r0 := h11
  obtain rfl : b1 = b2 := h12
  have hr1 : 1 ≤ r1 := by
    obtain ⟨⟨ra, rx⟩, hx, rfl⟩ := List.mem_map.1 hrk
    exact (hw.par.2.2 _ _ hx).1
  obtain ⟨r, rfl⟩ : ∃ r : Nat, r1 = r := ⟨r1.toNat, by omega⟩
  have hS : SpcOK s.size s.own r S := hw.spc ((r : Int), b0, S) (by rw [hsps]; simp)
  have hfin := fin_le hS hw.own.2 hw.size.2
  have hpl := parts_len hS
  have hown := hw.own.2
  refine J18 H ?_
  refine Lp_s rfl (St_lookup (ek := ki .i64) (vv := ptrv) (key := (r : Int)) H rfl rfl tkI rfl ?_)
  have hkS' : fnd (s.sps.map spkey) (r : Int) = some b0 := hkS
  have hkM' : fnd (s.mns.map mnkey) (r : Int) = some b1 := hkM
  rw [hkS']
  refine J11 H ?_
  rw [wrap64 (x := ((n : Nat) : Int) + 1) (by omega) (by omega), show ((n : Nat) : Int) + 1 = ((n + 1 : Nat) : Int) by omega]
  replace H := Js [9,5,0,0,0,0,0,0,0,0,0,0] 0 H
  replace H : Holds w (SPC b0 q.sp r S :: star ((p1 ++ p2).map (spres q.sp)) :: _) := (Holds.pick (R := spres q.sp) (x := ((r : Int), b0, S)) hsps).1 H
  replace H := Js [0,1,0,0,0,0,0,0,0,0,0,0,0] 0 H
  refine Jc rfl rfl (Alloc_spec b0 q.sp r s.size (n + 1) S mem s.own (by omega) (by omega) (by omega) hS.at1 hfin hown hw.size.1 hw.size.2 (by omega) H) ?_
  clear H
  rintro v w (⟨a, own', mem', S', rfl, al, H⟩ | ⟨rfl, hno, H⟩)
  case inr =>
    refine J68 H ?_
    refine J161 H ?_
    clear H; intro w H
    refine J0 H ?_
    replace H := Js [0,1,0,0,0,0,0,0,0,0,0,0,0] 0 H
    have H := (Holds.pick (R := spres q.sp) (x := ((r : Int), b0, S)) hsps).2 H
    replace H := Js [5,5,3,1,1,2,2,2,0,1,1,0] 0 H
    have H := (CELL_in hw hm H).swap
    refine C_ret (Jz H (fun w' H' => .cellN H' rfl (by repeat (first | exact Reads.nil _ | apply Reads.cons rfl)) (.tmp .nil)) fun w' H' => .inr (.inr (.inl ⟨hE, ?_, rfl, H'.drop⟩)))
    rw [hN]
    intro a ha
    rw [Nat.add_sub_cancel] at hno
    exact hno a ha
  have hol := alloc_own al
  obtain ⟨hml, hmo⟩ := alloc_mem hw hm.len al
  refine J39 H ?_
  refine J37 H ?_
  refine J63 H ?_
  replace H := Js [3,0,0,0,0,0,0,0,0,0,0,0,0] 0 H
  refine Jc rfl rfl (tAdd_spec q.tp s.tab ⟨a, r, true, false, i, c, List.replicate n 0⟩ H) ?_
  clear H
  rintro v w (⟨k, g0, hk, hg0, hbz, rfl, H⟩ | ⟨hb, _, _⟩)
  case inr => exact absurd hb hfree
  have hkl : k < s.tab.length := (List.getElem?_eq_some_iff.1 hk).1
  have hsl := hw.slots.2
  refine J19 H ?_
  clear H; intro b14 w H
  refine J6 H ?_
  clear H; intro w H
  refine J0 H ?_
  have hL := hw.mine ((r : Int), b1, L) (by rw [hmns]; simp)
  have hLk : k ∉ L := by
    intro hj
    obtain ⟨g, f, hf, _⟩ := (hL.2 k).1 hj
    rw [hk] at hf
    cases hf
  have hLs : (insL L k).Pairwise (· < ·) := insL_sorted hL.1 hLk
  have hmay : MayH i c k := ⟨by omega, by have := hw.lays.1; omega, by omega, by omega⟩
  have hobj : ObjOK s.lays k ⟨a, r, true, false, i, c, List.replicate n 0⟩ := by
    refine ⟨hmay, l, hil, hR, by simpa using hsz, fun x w hx => ?_⟩
    have hx : (List.replicate n 0)[x]? = some w := hx
    have := List.eq_of_mem_replicate (List.mem_of_getElem? hx)
    subst this
    exact ⟨by omega, fun _ => ⟨.none, trivial, rfl⟩⟩
  have al' : Alloced s.size s.own mem r S ((Ent.mk a r true false i c (List.replicate n 0)).ws.length + 1) own' mem' S' (Ent.mk a r true false i c (List.replicate n 0)).addr := by
    show Alloced s.size s.own mem r S ((List.replicate n 0).length + 1) own' mem' S' a
    rw [List.length_replicate]
    exact al
  have hwf := WF_make hw hk hg0 hsps hmns hndp (e := ⟨a, r, true, false, i, c, List.replicate n 0⟩) rfl hobj al' hLs (fun j => insL_mem)
  have htk : (s.tab.set k (⟨g0 + 1, some ⟨a, r, true, false, i, c, List.replicate n 0⟩⟩ : Slt))[k]? = some ⟨g0 + 1, some ⟨a, r, true, false, i, c, List.replicate n 0⟩⟩ := List.getElem?_set_self hkl
  have hlies : Lies s.size own' ⟨a, r, true, false, i, c, List.replicate n 0⟩ := (hwf.obj k _ _ htk).2.1
  have hfit : a + 1 + n ≤ mem'.length := by
    have h1 : endOf (Ent.mk a r true false i c (List.replicate n 0)) ≤ own'.length * s.size := hlies.1
    unfold endOf at h1
    rw [hml, hm.len, ← hol]
    simpa using h1
  have hod : Owned s.size own' a (n + 1) := by
    have := lies_owned hlies
    simpa using this
  replace H := Js [8,5,3,0,0,0,0,0,0,0,0,0,0,0] 0 H
  refine J1 H ?_
  clear H; intro w H
  refine J28 H ?_
  refine A_load1 3 [10] H rfl (Wants.none rfl) rfl rfl (by kernel_rfl) ?_
  refine J97 H ?_
  refine J64 H ?_
  refine A_load1 8 [10] H rfl (Wants.none rfl) rfl rfl (by kernel_rfl) ?_
  refine A_build 9 rfl (Wants.none rfl) rfl (by kernel_rfl) ?_
  refine Jo 10 H ?_
  refine Jk rfl rfl (iMake_spec q.ip q.sp q.bp s.size s.lays mem' own' a i c k n l hmay hil hR hsz hfit hod H) ?_
  clear H; rintro v w ⟨rfl, H⟩
  refine J4 H ?_
  replace H := Js [13,0,0,0,0,0,0,0,0,0,0,0,0,0] 0 H
  replace H : Holds w (BAG b1 L :: star ((m1 ++ m2).map mnres) :: _) := (Holds.pick (R := mnres) (x := ((r : Int), b1, L)) hmns).1 H
  have hL1 : L.length ≤ 63 := by
    have := ris_len L 0 63 (fun x hx => ⟨Nat.zero_le _, by
      obtain ⟨g, f, h3, _⟩ := (hL.2 x).1 hx
      have h4 := (List.getElem?_eq_some_iff.1 h3).1
      have := hw.slots.2
      omega⟩) hL.1
    omega
  refine J1 H ?_
  clear H; intro w H
  refine J28 H ?_
  refine J167 H ?_
  refine J62 H ?_
  refine A_lookup 5 [8] (key := (r : Int)) H rfl (Wants.none rfl) rfl rfl tkI (by kernel_rfl) ?_
  rw [hkM']
  refine J57 H ?_
  refine A_load1 7 [8] H rfl (Wants.none rfl) rfl rfl (by kernel_rfl) ?_
  refine Jo 8 H ?_
  refine Jk rfl rfl (gPutA_spec b1 L k hL.1 (by omega) hLk H) ?_
  clear H; rintro v w ⟨rfl, H⟩
  refine J4 H ?_
  refine J78 H ?_
  clear H; intro w H
  refine J0 H ?_
  have hap : ∀ (j g : Nat) (f : Ent), s.tab[j]? = some ⟨g, some f⟩ → endOf f ≤ (Ent.mk a r true false i c (List.replicate n 0)).addr ∨ endOf (Ent.mk a r true false i c (List.replicate n 0)) ≤ f.addr := by
    intro j g f hj
    have hne : j ≠ k := fun h => by subst h; rw [hk] at hj; cases hj
    refine hwf.apart j k g (g0 + 1) f _ hne ?_ htk
    show (s.tab.set k _)[j]? = _
    rw [List.getElem?_set_ne (fun h => hne h.symm)]
    exact hj
  have hsl2 : (mem'.set a (encH i c k)).length = mem'.length := List.length_set
  have hmem := MemOK_make hw hm hk (e := ⟨a, r, true, false, i, c, List.replicate n 0⟩) al' (mem2 := setR (mem'.set a (encH i c k)) (a + 1) n 0) (by rw [setR_length (by omega), hsl2]) hol
    (by
      show (setR (mem'.set a (encH i c k)) (a + 1) n 0)[a]? = some (encH i c k)
      rw [setR_get (by omega), if_neg (by omega), List.getElem?_set_self (by omega)])
    (fun x w hx => by
      have hx : (List.replicate n 0)[x]? = some w := hx
      have h0 := List.eq_of_mem_replicate (List.mem_of_getElem? hx)
      have h1 := (List.getElem?_eq_some_iff.1 hx).1
      rw [List.length_replicate] at h1
      subst h0
      show (setR (mem'.set a (encH i c k)) (a + 1) n 0)[a + 1 + x]? = some 0
      rw [setR_get (by omega), if_pos (by omega)])
    (fun x hx => by
      have hx : x < a ∨ endOf (Ent.mk a r true false i c (List.replicate n 0)) ≤ x := hx
      unfold endOf at hx
      rw [List.length_replicate] at hx
      have hx : x < a ∨ a + 1 + n ≤ x := hx
      rw [setR_get (by omega), if_neg (by omega), List.getElem?_set_ne (by omega)])
    hap (s' := { s with own := own', tab := s.tab.set k ⟨g0 + 1, some ⟨a, r, true, false, i, c, List.replicate n 0⟩⟩, sps := p1 ++ ((r : Int), b0, S') :: p2, mns := m1 ++ ((r : Int), b1, insL L k) :: m2 }) rfl rfl rfl
  have hkeyS : s.sps.map spkey = (p1 ++ ((r : Int), b0, S') :: p2).map spkey := by rw [hsps]; simp
  have hkeyM : s.mns.map mnkey = (m1 ++ ((r : Int), b1, insL L k) :: m2).map mnkey := by rw [hmns]; simp
  rw [hkeyS, hkeyM] at H
  have H := (Holds.pick (R := mnres) (x := ((r : Int), b1, insL L k)) (g1 := m1) (g2 := m2) rfl).2 H
  replace H := Js [6,6,0,0,0,0,1,1,1,1,1,1,1] 1 H
  have H := (Holds.pick (R := spres q.sp) (x := ((r : Int), b0, S')) (g1 := p1) (g2 := p2) rfl).2 H
  replace H := Js [7,2,2,2,2,3,3,3,0,2,0,0] 0 H
  have H := (CELL_in hwf hmem H).swap
  refine C_ret (Jz H (fun w' H' => .cellN H' rfl (by repeat (first | exact Reads.nil _ | apply Reads.cons rfl)) (.tmp .nil)) fun w' H' => .inr (.inr (.inr ⟨hE, k, g0, a, { s with own := own', tab := s.tab.set k ⟨g0 + 1, some ⟨a, r, true, false, i, c, List.replicate n 0⟩⟩, sps := p1 ++ ((r : Int), b0, S') :: p2, mns := m1 ++ ((r : Int), b1, insL L k) :: m2 }, hk, hg0, hbz, rfl, rfl, rfl, rfl, rfl, rfl, ?_, by rw [hN]; exact alloc_grows hw.size.1 al, H'.drop⟩)))
  show s.tab.set k _ = s.tab.set k _
  rw [hN]
  rfl
end Go.Proofs.YtipelpbkeiphmaaGreatDoor
namespace Go.Proofs.YtipelpbkeiphmaaGreatDoor
open Go.SL

end Go.Proofs.YtipelpbkeiphmaaGreatDoor
namespace Go.Proofs.YtipelpbkeiphmaaGreatDoor
open Go.SL

end Go.Proofs.YtipelpbkeiphmaaGreatDoor
namespace Go.Proofs.YtipelpbkeiphmaaGreatDoor
open Go.SL

/-! ### A slot that is not used -/
end Go.Proofs.YtipelpbkeiphmaaGreatDoor
namespace Go.Proofs.YtipelpbkeiphmaaGreatDoor
open Go.SL

end Go.Proofs.YtipelpbkeiphmaaGreatDoor
