/- TokenSet: the walk. No condition. -/
import Derived.Test.YtdpephigccnkdaaDoorTokL
set_option linter.unusedVariables false
set_option linter.unusedSimpArgs false
set_option linter.unusedSectionVars false
namespace Go.Proofs.YtdpephigccnkdaaDoor
open Go.SL

/-- The tokens turned about: the first i of them. -/
def bk (L : List Tk) (k i : Nat) : List Tk := (List.range i).map fun i => L.getD ((L.length - 1 - i + k) % L.length) (0, 0)
theorem bk_length (L : List Tk) (k i : Nat) : (bk L k i).length = i := by simp [bk]
theorem bk_snoc (L : List Tk) (k i : Nat) : bk L k (i + 1) = bk L k i ++ [L.getD ((L.length - 1 - i + k) % L.length) (0, 0)] := by simp [bk, List.range_succ]
theorem bk_mem {L : List Tk} {k : Nat} (hk : k < L.length) (t : Tk) : t ∈ bk L k L.length ↔ t ∈ L := by
  unfold bk
  rw [List.mem_map]
  have hpos : 0 < L.length := by omega
  constructor
  · rintro ⟨i, _, rfl⟩
    have hlt := Nat.mod_lt (L.length - 1 - i + k) hpos
    rw [List.getD_eq_getElem?_getD, List.getElem?_eq_getElem hlt]
    exact List.getElem_mem hlt
  · intro ht
    obtain ⟨p, hp, rfl⟩ := List.getElem_of_mem ht
    have hq := Nat.mod_lt (L.length - 1 - p + k) hpos
    refine ⟨(L.length - 1 - p + k) % L.length, List.mem_range.2 hq, ?_⟩
    have e : (L.length - 1 - (L.length - 1 - p + k) % L.length + k) % L.length = p := by
      rcases Nat.lt_or_ge (L.length - 1 - p + k) L.length with h | h
      · rw [Nat.mod_eq_of_lt h, show L.length - 1 - (L.length - 1 - p + k) + k = p by omega, Nat.mod_eq_of_lt hp]
      · have e2 : (L.length - 1 - p + k) % L.length = L.length - 1 - p + k - L.length := by
          rw [Nat.mod_eq_sub_mod h, Nat.mod_eq_of_lt (by omega)]
        rw [e2, show L.length - 1 - (L.length - 1 - p + k - L.length) + k = p + L.length by omega, Nat.add_mod_right, Nat.mod_eq_of_lt hp]
    rw [e, List.getD_eq_getElem?_getD, List.getElem?_eq_getElem hp]
    rfl

theorem sorted_same {a b us vs : List Tk} {e f : Int} (hab : ∀ t, t ∈ b ↔ t ∈ a) (hl : b.length = a.length) (h1 : Sorted a us e) (h2 : Sorted b vs f) : f = e ∧ vs = us := by
  rcases h1 with ⟨e1, u1, t, ht, hr⟩ | ⟨e1, u1, hr, hlen⟩ | ⟨e1, hr, hlen, hs, hm⟩
  · rcases h2 with ⟨e2, u2, _⟩ | ⟨_, _, hr2, _⟩ | ⟨_, hr2, _⟩
    · exact ⟨by rw [e1, e2], by rw [u1, u2]⟩
    · rw [hr2 t ((hab t).2 ht)] at hr; cases hr
    · rw [hr2 t ((hab t).2 ht)] at hr; cases hr
  · rcases h2 with ⟨_, _, t, ht, hr2⟩ | ⟨e2, u2, _⟩ | ⟨_, _, hlen2, _⟩
    · rw [hr t ((hab t).1 ht)] at hr2; cases hr2
    · exact ⟨by rw [e1, e2], by rw [u1, u2]⟩
    · omega
  · rcases h2 with ⟨_, _, t, ht, hr2⟩ | ⟨_, _, _, hlen2⟩ | ⟨e2, _, _, hs2, hm2⟩
    · rw [hr t ((hab t).1 ht)] at hr2; cases hr2
    · omega
    · exact ⟨by rw [e1, e2], risT_unique hs2 hs fun t => by rw [hm2, hab, hm]⟩

theorem sorted_twice {a us vs : List Tk} {e f : Int} (h1 : Sorted a us e) (ha : a.length ≤ 64) (h2 : Sorted us vs f) : f = 0 ∧ vs = us := by
  have key : (∀ t ∈ us, rightB t = true) ∧ us.length ≤ 64 ∧ RisT us := by
    rcases h1 with ⟨_, rfl, _⟩ | ⟨_, rfl, _⟩ | ⟨_, hr, hlen, hs, hm⟩
    · exact ⟨by simp, by simp, List.Pairwise.nil⟩
    · exact ⟨by simp, by simp, List.Pairwise.nil⟩
    · refine ⟨fun t ht => hr t ((hm t).1 ht), ?_, hs⟩
      have hnd : us.Nodup := hs.imp fun {a b} h e => by subst e; exact ltT_irrefl _ h
      have := nodup_len hnd (fun t ht => (hm t).1 ht)
      omega
  obtain ⟨k1, k2, k3⟩ := key
  rcases h2 with ⟨_, _, t, ht, hr2⟩ | ⟨_, _, _, hlen2⟩ | ⟨e2, _, _, hs2, hm2⟩
  · rw [k1 t ht] at hr2; cases hr2
  · omega
  · exact ⟨e2, risT_unique hs2 k3 hm2⟩

theorem sorted_len {a us : List Tk} {e : Int} (h1 : Sorted a us e) : us.length ≤ a.length := by
  rcases h1 with ⟨_, rfl, _⟩ | ⟨_, rfl, _⟩ | ⟨_, hr, hlen, hs, hm⟩
  · simp
  · simp
  · have hnd : us.Nodup := hs.imp fun {a b} h e => by subst e; exact ltT_irrefl _ h
    exact nodup_len hnd (fun t ht => (hm t).1 ht)

theorem wrapU {x : Int} : 0 ≤ IntKind.u64.wrap x := by
  simp [IntKind.wrap, IntKind.bits, IntKind.signed]; omega

set_option maxHeartbeats 8000000 in
theorem Set_walk {W : World} (hp : Pow W) (ad : Option Addr) (cap : Nat) (ts : List Tk) (hc : ts.length ≤ cap) (hm : ts.length ≤ maxLen) (hin : TokIn W ad ts) (turn : Int) (hw0 : (Lit.int .i64 turn).wf = true) {w : World} [Extra] (H : Holds w [old W]) :
    Calls Tryd.prog 7 #[.slice ad ts.length cap, .int .i64 turn] w (ret fun x w' => x = .bool true ∧ Holds w' [old W]) := by
  refine calls_of Tryd.func7 rfl (by kernel_rfl) ?_
  repeat refine C_seq ?_
  refine C_region ?_
  first | refine Lp_pv rfl rfl ?_ | refine Lp_mv rfl rfl ?_
  refine Lp_nil ?_
  repeat refine C_seq ?_
  refine C_region ?_
  first | refine Lp_pv rfl rfl ?_ | refine Lp_mv rfl rfl ?_
  first | refine Lp_pv rfl rfl ?_ | refine Lp_mv rfl rfl ?_
  refine Lp_s rfl (St_lenSlice rfl rfl ?_)
  refine Lp_s rfl (St_min rfl rfl rfl ?_)
  rw [show (if (64 : Int) < (ts.length : Int) then (64 : Int) else (ts.length : Int)) = ((min ts.length 64 : Nat) : Int) by split <;> omega]
  refine Lp_s rfl (St_sliceToA rfl rfl (by omega) (by omega) rfl ?_)
  have hlen : (ts.take (min ts.length 64)).length = min ts.length 64 := by rw [List.length_take]; omega
  have hrd := fun fr => tokIn_rd (cap := cap) (m := min ts.length 64) hin (by omega) fr
  generalize ts.take (min ts.length 64) = L at hrd hlen
  have hL : L.length ≤ 64 := by omega
  rw [show ((min ts.length 64 : Nat) : Int).toNat = L.length by omega]
  rw [← hlen] at hrd
  first | refine Lp_pv rfl rfl ?_ | refine Lp_mv rfl rfl ?_
  refine Lp_nil ?_
  repeat refine C_seq ?_
  refine C_region ?_
  first | refine Lp_pv rfl rfl ?_ | refine Lp_mv rfl rfl ?_
  refine Lp_s rfl (St_call (a := []) (b := []) rfl rfl (call (Sort_spec _ L (by omega) (hrd []) H) ?_))
  clear H
  rintro x w ⟨va, us, e, rfl, hs, H⟩
  have hul := sorted_len hs
  obtain ⟨a5, c5, rfl⟩ := sls_slice H (tcells_length us) (by decide)
  first | refine Lp_pv rfl rfl ?_ | refine Lp_mv rfl rfl ?_
  refine Lp_pv rfl rfl ?_
  refine Lp_pv rfl rfl ?_
  first | refine Lp_pv rfl rfl ?_ | refine Lp_mv rfl rfl ?_
  first | refine Lp_pv rfl rfl ?_ | refine Lp_mv rfl rfl ?_
  refine Lp_nil ?_
  repeat refine C_seq ?_
  refine C_region ?_
  first | refine Lp_pv rfl rfl ?_ | refine Lp_mv rfl rfl ?_
  refine Lp_nil ?_
  repeat refine C_seq ?_
  refine C_region ?_
  first | refine Lp_pv rfl rfl ?_ | refine Lp_mv rfl rfl ?_
  refine Lp_s rfl (St_lenSlice rfl rfl ?_)
  first | refine Lp_pv rfl rfl ?_ | refine Lp_mv rfl rfl ?_
  refine Lp_nil ?_
  have hk : ∃ k : Nat, (0 < L.length → k < L.length ∧ (IntKind.u64.wrap turn).tmod (L.length : Int) = (k : Int)) := by
    refine ⟨((IntKind.u64.wrap turn).tmod (L.length : Int)).toNat, fun h => ?_⟩
    have h0 := wrapU (x := turn)
    have e1 : (IntKind.u64.wrap turn).tmod (L.length : Int) = (IntKind.u64.wrap turn) % (L.length : Int) := Int.tmod_eq_emod_of_nonneg h0
    have h1 := Int.emod_nonneg (IntKind.u64.wrap turn) (show (L.length : Int) ≠ 0 by omega)
    have h2 := Int.emod_lt_of_pos (IntKind.u64.wrap turn) (show (0 : Int) < (L.length : Int) by omega)
    rw [e1]
    exact ⟨by omega, by omega⟩
  obtain ⟨k, hk⟩ := hk
  repeat refine C_seq ?_
  refine C_block ?_
  refine C_loop (fun ms σ w n => ms = [] ∧ ∃ (i : Nat) (g : Value), i ≤ L.length ∧ n = L.length - i ∧ σ 0 = .slice ad L.length cap ∧ σ 1 = .int .i64 turn ∧ σ 5 = .slice a5 us.length c5 ∧ σ 6 = .int .i64 e ∧ σ 7 = g ∧ σ 25 = .int .i64 L.length ∧ σ 26 = .int .i64 i ∧
    Holds w [TL g (bk L k i), TL (.slice a5 us.length c5) us, old W]) (m := L.length) ⟨rfl, 0, _, by omega, rfl, rfl, rfl, rfl, rfl, rfl, rfl, rfl, sls_nil H⟩ ?_
  clear H
  rintro ms σ w n ⟨rfl, i, g, hi, rfl, g0, g1, g5, g6, g7, g25, g26, H⟩
  rw [upd_self g0, upd_self g1, upd_self g5, upd_self g6, upd_self g7, upd_self g25, upd_self g26]
  repeat refine C_seq ?_
  refine C_region ?_
  refine Lp_pv rfl rfl ?_
  refine Lp_nil ?_
  repeat refine C_seq ?_
  refine C_dec rfl (fun h => C_skip ?_) (fun h => C_exit ?_)
  · have hlt : i < L.length := by omega
    obtain ⟨hk1, hk2⟩ := hk (by omega)
    have hpos : 0 < L.length := by omega
    have hml := Nat.mod_lt (L.length - 1 - i + k) hpos
    have hy := List.getElem?_eq_getElem hml
    have hbs := bk_snoc L k i
    rw [List.getD_eq_getElem?_getD, hy] at hbs
    generalize L[(L.length - 1 - i + k) % L.length] = y at hy hbs
    obtain ⟨y1, y2⟩ := y
    repeat refine C_seq ?_
    refine C_block ?_
    repeat refine C_seq ?_
    refine C_region ?_
    first | refine Lp_pv rfl rfl ?_ | refine Lp_mv rfl rfl ?_
    first | refine Lp_pv rfl rfl ?_ | refine Lp_mv rfl rfl ?_
    refine Lp_nil ?_
    repeat refine C_seq ?_
    refine C_region ?_
    first | refine Lp_pv rfl rfl ?_ | refine Lp_mv rfl rfl ?_
    first | refine Lp_pv rfl rfl ?_ | refine Lp_mv rfl rfl ?_
    first | refine Lp_pv rfl rfl ?_ | refine Lp_mv rfl rfl ?_
    refine Lp_s rfl (St_lenSlice rfl rfl ?_)
    refine Lp_pv rfl rfl ?_
    first | refine Lp_pv rfl rfl ?_ | refine Lp_mv rfl rfl ?_
    refine Lp_pv rfl rfl ?_
    first | refine Lp_pv rfl rfl ?_ | refine Lp_mv rfl rfl ?_
    refine Lp_s rfl (St_convI rfl rfl ?_)
    first | refine Lp_pv rfl rfl ?_ | refine Lp_mv rfl rfl ?_
    refine Lp_s rfl (St_lenSlice rfl rfl ?_)
    refine Lp_s rfl (St_convI rfl rfl ?_)
    have eu : IntKind.u64.wrap (L.length : Int) = (L.length : Int) := by simp [IntKind.wrap, IntKind.bits, IntKind.signed]; omega
    rw [eu]
    refine Lp_pv (v := .int .u64 (k : Int)) (by
      show (if IntKind.u64 = IntKind.u64 then (if (L.length : Int) = 0 then none else some (Value.int .u64 ((IntKind.u64.wrap turn).tmod (L.length : Int)))) else none) = _
      rw [if_pos rfl, if_neg (by omega), hk2]) rfl ?_
    refine Lp_s rfl (St_convI rfl rfl ?_)
    refine Lp_pv rfl rfl ?_
    first | refine Lp_pv rfl rfl ?_ | refine Lp_mv rfl rfl ?_
    refine Lp_s rfl (St_lenSlice rfl rfl ?_)
    have ei : IntKind.i64.wrap (IntKind.i64.wrap (IntKind.i64.wrap ((L.length : Int) - 1) - (i : Int)) + IntKind.i64.wrap (k : Int)) = ((L.length - 1 - i + k : Nat) : Int) := by
      rw [wrap64 (x := (L.length : Int) - 1) (by omega) (by omega), wrap64 (x := (L.length : Int) - 1 - i) (by omega) (by omega), wrap64 (x := (k : Int)) (by omega) (by omega), wrap64 (by omega) (by omega)]
      omega
    rw [ei]
    have em : (((L.length - 1 - i + k : Nat) : Int)).tmod (L.length : Int) = (((L.length - 1 - i + k) % L.length : Nat) : Int) := by
      rw [Int.tmod_eq_emod_of_nonneg (by omega)]
      omega
    refine Lp_pv (v := .int .i64 (((L.length - 1 - i + k) % L.length : Nat) : Int)) (by
      show (if IntKind.i64 = IntKind.i64 then (if (L.length : Int) = 0 then none else some (Value.int .i64 ((((L.length - 1 - i + k : Nat) : Int)).tmod (L.length : Int)))) else none) = _
      rw [if_pos rfl, if_neg (by omega), em]) rfl ?_
    obtain ⟨_, ad', cap', e', hrr⟩ := hrd []
    cases e'
    rcases hrr with hz | ⟨bo, oo, E, fz, c, rfl, hA, hrc⟩
    · omega
    haveI := hA
    refine Lp_s rfl (St_indexAddr rfl rfl (by omega) (by omega) rfl ?_)
    refine Lp_s rfl (St_loadN H rfl (tcells_el hrc hy) rfl ?_)
    (refine Lp_s rfl (St_buildSlice H rfl rfl rfl ?_); clear H; intro b49 w H)
    replace H := Holds.sel [1, 0, 0, 0] 0 H; dsimp only [SL.sel, SL.pull, List.drop] at H
    refine Lp_s rfl (St_append H rfl rfl (by repeat (first | exact Reads.nil _ | apply Reads.cons rfl)) rfl (by decide) (by rw [tcells_length, bk_length]; simp only [List.length_cons, List.length_nil]; omega) rfl rfl ?_); clear H; intro v50 w H
    first | refine Lp_pv rfl rfl ?_ | refine Lp_mv rfl rfl ?_
    refine Lp_nil ?_
    repeat refine C_seq ?_
    refine C_region ?_
    refine Lp_pv rfl rfl ?_
    first | refine Lp_pv rfl rfl ?_ | refine Lp_mv rfl rfl ?_
    refine Lp_nil ?_
    replace H := Holds.sel [0, 1, 1] 1 H; dsimp only [SL.sel, SL.pull, List.drop] at H
    refine ⟨_, ⟨rfl, i + 1, v50, hlt, rfl, rfl, rfl, rfl, rfl, rfl, rfl, inc64 (by omega), ?_⟩, by omega⟩
    rw [hbs]
    show Holds w (sls _ 2 v50 (tcells (bk L k i ++ [(y1, y2)])) :: _)
    rw [tcells_append]
    exact H
  · have hge : i = L.length := by omega
    subst hge
    obtain ⟨a7, c7, rfl⟩ := sls_slice (m := L.length) H (by rw [tcells_length, bk_length]) (by decide)
    obtain ⟨D7, H, hD7, hclose7⟩ := sls_rd (m := (bk L k L.length).length) H (tcells_length _) (by decide)
    have hbl := bk_length L k L.length
    repeat refine C_seq ?_
    refine C_region ?_
    first | refine Lp_pv rfl rfl ?_ | refine Lp_mv rfl rfl ?_
    refine Lp_s rfl (St_call (a := []) (b := []) rfl rfl (call (Sort_spec _ (bk L k L.length) (by omega) (hD7 _) H) ?_))
    clear H
    rintro x w ⟨vb, us2, e2, rfl, hs2, H⟩
    have hmem : ∀ t, t ∈ bk L k L.length ↔ t ∈ L := by
      intro t
      rcases Nat.eq_zero_or_pos L.length with h0 | h0
      · have hz : L = [] := List.eq_nil_of_length_eq_zero h0
        subst hz
        simp [bk]
      · exact bk_mem (hk h0).1 t
    obtain ⟨rfl, rfl⟩ := sorted_same hmem hbl hs hs2
    obtain ⟨a9, c9, rfl⟩ := sls_slice H (tcells_length _) (by decide)
    first | refine Lp_pv rfl rfl ?_ | refine Lp_mv rfl rfl ?_
    refine Lp_pv rfl rfl ?_
    refine Lp_pv rfl rfl ?_
    first | refine Lp_pv rfl rfl ?_ | refine Lp_mv rfl rfl ?_
    first | refine Lp_pv rfl rfl ?_ | refine Lp_mv rfl rfl ?_
    refine Lp_nil ?_
    replace H := Holds.sel [2, 0, 1] 1 H; dsimp only [SL.sel, SL.pull, List.drop] at H
    obtain ⟨D5, H, hD5, hclose5⟩ := sls_rd H (tcells_length _) (by decide)
    repeat refine C_seq ?_
    refine C_region ?_
    first | refine Lp_pv rfl rfl ?_ | refine Lp_mv rfl rfl ?_
    refine Lp_s rfl (St_call (a := []) (b := []) rfl rfl (call (Sort_spec _ _ (by omega) (hD5 _) H) ?_))
    clear H
    rintro x w ⟨vc, us3, e3, rfl, hs3, H⟩
    obtain ⟨rfl, rfl⟩ := sorted_twice hs hL hs3
    obtain ⟨a11, c11, rfl⟩ := sls_slice H (tcells_length _) (by decide)
    replace H := hclose5 _ _ H.swap
    first | refine Lp_pv rfl rfl ?_ | refine Lp_mv rfl rfl ?_
    refine Lp_pv rfl rfl ?_
    refine Lp_pv rfl rfl ?_
    first | refine Lp_pv rfl rfl ?_ | refine Lp_mv rfl rfl ?_
    first | refine Lp_pv rfl rfl ?_ | refine Lp_mv rfl rfl ?_
    refine Lp_nil ?_
    repeat refine C_seq ?_
    refine C_region ?_
    first | refine Lp_pv rfl rfl ?_ | refine Lp_mv rfl rfl ?_
    first | refine Lp_pv rfl rfl ?_ | refine Lp_mv rfl rfl ?_
    first | refine Lp_pv rfl rfl ?_ | refine Lp_s rfl (St_eqPtrNil rfl rfl (.inr rfl) rfl ?_) | refine Lp_s rfl (St_eqMapNil rfl rfl (.inr rfl) rfl ?_) | refine Lp_s rfl (St_eqPair rfl rfl (.inr rfl) rfl ?_) | refine Lp_s rfl (St_eqBool rfl rfl (.inr rfl) rfl ?_) | refine Lp_s rfl (St_eqS rfl rfl (.inr rfl) rfl ?_) | refine Lp_s rfl (St_eqSliceNil rfl rfl (.inr rfl) rfl ?_) | refine Lp_s rfl (St_eqStr rfl rfl (.inr rfl) rfl ?_)
    rw [show (e2 != e2) = false by simp]
    first | refine Lp_pv rfl rfl ?_ | refine Lp_mv rfl rfl ?_
    first | refine Lp_gpv rfl rfl rfl rfl ?_ | refine Lp_no rfl rfl rfl ?_ | refine Lp_nn rfl rfl ?_
    first | refine Lp_g rfl rfl rfl (St_lenSlice rfl rfl ?_) | refine Lp_no rfl rfl rfl ?_ | refine Lp_nn rfl rfl ?_
    first | refine Lp_gpv rfl rfl rfl rfl ?_ | refine Lp_no rfl rfl rfl ?_ | refine Lp_nn rfl rfl ?_
    first | refine Lp_g rfl rfl rfl (St_lenSlice rfl rfl ?_) | refine Lp_no rfl rfl rfl ?_ | refine Lp_nn rfl rfl ?_
    first | refine Lp_gpv rfl rfl rfl rfl ?_ | refine Lp_g rfl rfl rfl (St_eqPtrNil rfl rfl (.inr rfl) rfl ?_) | refine Lp_g rfl rfl rfl (St_eqMapNil rfl rfl (.inr rfl) rfl ?_) | refine Lp_g rfl rfl rfl (St_eqPair rfl rfl (.inr rfl) rfl ?_) | refine Lp_g rfl rfl rfl (St_eqBool rfl rfl (.inr rfl) rfl ?_) | refine Lp_g rfl rfl rfl (St_eqS rfl rfl (.inr rfl) rfl ?_) | refine Lp_g rfl rfl rfl (St_eqSliceNil rfl rfl (.inr rfl) rfl ?_) | refine Lp_g rfl rfl rfl (St_eqStr rfl rfl (.inr rfl) rfl ?_) | refine Lp_no rfl rfl rfl ?_ | refine Lp_nn rfl rfl ?_
    rw [show ((us3.length : Int) != (us3.length : Int)) = false by simp]
    refine Lp_pv rfl rfl ?_
    first | refine Lp_pv rfl rfl ?_ | refine Lp_mv rfl rfl ?_
    first | refine Lp_gpv rfl rfl rfl rfl ?_ | refine Lp_no rfl rfl rfl ?_ | refine Lp_nn rfl rfl ?_
    first | refine Lp_gpv rfl rfl rfl rfl ?_ | refine Lp_g rfl rfl rfl (St_eqPtrNil rfl rfl (.inr rfl) rfl ?_) | refine Lp_g rfl rfl rfl (St_eqMapNil rfl rfl (.inr rfl) rfl ?_) | refine Lp_g rfl rfl rfl (St_eqPair rfl rfl (.inr rfl) rfl ?_) | refine Lp_g rfl rfl rfl (St_eqBool rfl rfl (.inr rfl) rfl ?_) | refine Lp_g rfl rfl rfl (St_eqS rfl rfl (.inr rfl) rfl ?_) | refine Lp_g rfl rfl rfl (St_eqSliceNil rfl rfl (.inr rfl) rfl ?_) | refine Lp_g rfl rfl rfl (St_eqStr rfl rfl (.inr rfl) rfl ?_) | refine Lp_no rfl rfl rfl ?_ | refine Lp_nn rfl rfl ?_
    refine Lp_pv rfl rfl ?_
    first | refine Lp_pv rfl rfl ?_ | refine Lp_mv rfl rfl ?_
    first | refine Lp_gpv rfl rfl rfl rfl ?_ | refine Lp_no rfl rfl rfl ?_ | refine Lp_nn rfl rfl ?_
    first | refine Lp_g rfl rfl rfl (St_lenSlice rfl rfl ?_) | refine Lp_no rfl rfl rfl ?_ | refine Lp_nn rfl rfl ?_
    first | refine Lp_gpv rfl rfl rfl rfl ?_ | refine Lp_no rfl rfl rfl ?_ | refine Lp_nn rfl rfl ?_
    first | refine Lp_g rfl rfl rfl (St_lenSlice rfl rfl ?_) | refine Lp_no rfl rfl rfl ?_ | refine Lp_nn rfl rfl ?_
    first | refine Lp_gpv rfl rfl rfl rfl ?_ | refine Lp_g rfl rfl rfl (St_eqPtrNil rfl rfl (.inr rfl) rfl ?_) | refine Lp_g rfl rfl rfl (St_eqMapNil rfl rfl (.inr rfl) rfl ?_) | refine Lp_g rfl rfl rfl (St_eqPair rfl rfl (.inr rfl) rfl ?_) | refine Lp_g rfl rfl rfl (St_eqBool rfl rfl (.inr rfl) rfl ?_) | refine Lp_g rfl rfl rfl (St_eqS rfl rfl (.inr rfl) rfl ?_) | refine Lp_g rfl rfl rfl (St_eqSliceNil rfl rfl (.inr rfl) rfl ?_) | refine Lp_g rfl rfl rfl (St_eqStr rfl rfl (.inr rfl) rfl ?_) | refine Lp_no rfl rfl rfl ?_ | refine Lp_nn rfl rfl ?_
    refine Lp_pv rfl rfl ?_
    refine Lp_nil ?_
    repeat refine C_seq ?_
    refine C_cond rfl (fun h => absurd h (by simp)) (fun h => C_skip ?_)
    repeat refine C_seq ?_
    refine C_region ?_
    first | refine Lp_pv rfl rfl ?_ | refine Lp_mv rfl rfl ?_
    refine Lp_s rfl (St_lenSlice rfl rfl ?_)
    first | refine Lp_pv rfl rfl ?_ | refine Lp_mv rfl rfl ?_
    refine Lp_nil ?_
    repeat refine C_seq ?_
    refine C_block ?_
    refine C_loop (fun ms σ w n => ms = [] ∧ ∃ i : Nat, i ≤ us3.length ∧ n = us3.length - i ∧ σ 5 = .slice a5 us3.length c5 ∧ σ 9 = .slice a9 us3.length c9 ∧ σ 11 = .slice a11 us3.length c11 ∧ σ 83 = .slice a5 us3.length c5 ∧ σ 84 = .int .i64 us3.length ∧ σ 85 = .int .i64 i ∧
      Holds w [TL (.slice a5 us3.length c5) us3, TL (.slice a11 us3.length c11) us3, TL (.slice a9 us3.length c9) us3, old W]) (m := us3.length) ⟨rfl, 0, by omega, rfl, rfl, rfl, rfl, rfl, rfl, rfl, H⟩ ?_
    clear H
    rintro ms σ w n ⟨rfl, i, hi, rfl, g5, g9, g11, g83, g84, g85, H⟩
    rw [upd_self g5, upd_self g9, upd_self g11, upd_self g83, upd_self g84, upd_self g85]
    repeat refine C_seq ?_
    refine C_region ?_
    refine Lp_pv rfl rfl ?_
    refine Lp_nil ?_
    repeat refine C_seq ?_
    refine C_dec rfl (fun h => C_skip ?_) (fun h => C_exit ?_)
    · have hlt : i < us3.length := by omega
      have hy := List.getElem?_eq_getElem hlt
      generalize us3[i] = y at hy
      obtain ⟨y1, y2⟩ := y
      obtain ⟨b5, s5, rfl, H, h5⟩ := sls_open H (by omega)
      obtain ⟨b11, s11, rfl, H, h11⟩ := sls_open H.swap (by omega)
      replace H := Holds.sel [2, 0, 0, 0] 0 H; dsimp only [SL.sel, SL.pull, List.drop] at H
      obtain ⟨b9, s9, rfl, H, h9⟩ := sls_open H (by omega)
      repeat refine C_seq ?_
      refine C_block ?_
      repeat refine C_seq ?_
      refine C_region ?_
      first | refine Lp_pv rfl rfl ?_ | refine Lp_mv rfl rfl ?_
      first | refine Lp_pv rfl rfl ?_ | refine Lp_mv rfl rfl ?_
      refine Lp_nil ?_
      repeat refine C_seq ?_
      refine C_drawH H mixed ?_
      clear H; intro w H
      refine A_pv 0 rfl (Wants.none rfl) rfl (by kernel_rfl) ?_
      refine A_pv 1 rfl (Wants.none rfl) rfl (by kernel_rfl) ?_
      refine A_indexAddr 2 rfl (Wants.none rfl) rfl rfl (by omega) (by omega) (by kernel_rfl) ?_
      refine A_loadN 3 [] H rfl (Wants.none rfl) rfl (tcells_reads hy) (by kernel_rfl) ?_
      refine A_pv 4 rfl (Wants.none rfl) rfl (by kernel_rfl) ?_
      refine A_pv 5 rfl (Wants.none rfl) rfl (by kernel_rfl) ?_
      refine A_indexAddr 6 rfl (Wants.none rfl) rfl rfl (by omega) (by omega) (by kernel_rfl) ?_
      refine A_loadN 7 [] H rfl (Wants.none rfl) rfl (tcells_reads hy) (by kernel_rfl) ?_
      first | refine A_pv 8 rfl (Wants.none rfl) rfl (by kernel_rfl) ?_ | refine A_eqPair 8 rfl (Wants.none rfl) rfl rfl (.inr rfl) (by kernel_rfl) ?_ | refine A_eqPtrNil 8 rfl (Wants.none rfl) rfl rfl (.inr rfl) (by kernel_rfl) ?_ | refine A_eqBool 8 rfl (Wants.none rfl) rfl rfl (.inr rfl) (by kernel_rfl) ?_ | refine A_eqS 8 rfl (Wants.none rfl) rfl rfl (.inr rfl) (by kernel_rfl) ?_ | refine A_eqStr 8 rfl (Wants.none rfl) rfl rfl (.inr rfl) (by kernel_rfl) ?_
      rw [show decide ((y1, y2) = (y1, y2)) = true from decide_eq_true rfl]
      refine A_pv 9 rfl (Wants.none rfl) rfl (by kernel_rfl) ?_
      first | refine A_pv 10 rfl (Wants.of rfl rfl rfl) rfl (by kernel_rfl) ?_ | refine A_no 10 rfl (Wants.of rfl rfl rfl) (fun c e => by cases e) (by kernel_rfl) ?_ | refine A_no 10 rfl (Wants.skip rfl rfl) (fun c e => by cases e) (by kernel_rfl) ?_
      first | refine A_pv 11 rfl (Wants.of rfl rfl rfl) rfl (by kernel_rfl) ?_ | refine A_no 11 rfl (Wants.of rfl rfl rfl) (fun c e => by cases e) (by kernel_rfl) ?_ | refine A_no 11 rfl (Wants.skip rfl rfl) (fun c e => by cases e) (by kernel_rfl) ?_
      refine A_indexAddr 12 rfl (Wants.of rfl rfl rfl) rfl rfl (by omega) (by omega) (by kernel_rfl) ?_
      refine A_loadN 13 [] H rfl (Wants.of rfl rfl rfl) rfl (tcells_reads hy) (by kernel_rfl) ?_
      first | refine A_pv 14 rfl (Wants.of rfl rfl rfl) rfl (by kernel_rfl) ?_ | refine A_no 14 rfl (Wants.of rfl rfl rfl) (fun c e => by cases e) (by kernel_rfl) ?_ | refine A_no 14 rfl (Wants.skip rfl rfl) (fun c e => by cases e) (by kernel_rfl) ?_
      first | refine A_pv 15 rfl (Wants.of rfl rfl rfl) rfl (by kernel_rfl) ?_ | refine A_no 15 rfl (Wants.of rfl rfl rfl) (fun c e => by cases e) (by kernel_rfl) ?_ | refine A_no 15 rfl (Wants.skip rfl rfl) (fun c e => by cases e) (by kernel_rfl) ?_
      refine A_indexAddr 16 rfl (Wants.of rfl rfl rfl) rfl rfl (by omega) (by omega) (by kernel_rfl) ?_
      refine A_loadN 17 [] H rfl (Wants.of rfl rfl rfl) rfl (tcells_reads hy) (by kernel_rfl) ?_
      first | refine A_pv 18 rfl (Wants.of rfl rfl rfl) rfl (by kernel_rfl) ?_ | refine A_eqPair 18 rfl (Wants.of rfl rfl rfl) rfl rfl (.inr rfl) (by kernel_rfl) ?_ | refine A_eqPtrNil 18 rfl (Wants.of rfl rfl rfl) rfl rfl (.inr rfl) (by kernel_rfl) ?_ | refine A_eqBool 18 rfl (Wants.of rfl rfl rfl) rfl rfl (.inr rfl) (by kernel_rfl) ?_ | refine A_eqS 18 rfl (Wants.of rfl rfl rfl) rfl rfl (.inr rfl) (by kernel_rfl) ?_ | refine A_eqStr 18 rfl (Wants.of rfl rfl rfl) rfl rfl (.inr rfl) (by kernel_rfl) ?_ | refine A_no 18 rfl (Wants.of rfl rfl rfl) (fun c e => by cases e) (by kernel_rfl) ?_ | refine A_no 18 rfl (Wants.skip rfl rfl) (fun c e => by cases e) (by kernel_rfl) ?_
      refine A_pv 19 rfl (Wants.none rfl) rfl (by kernel_rfl) ?_
      refine A_end (by kernel_rfl) (by repeat (first | exact InvL.nil | refine InvL.cons (.inr (Holds.at H)) ?_ | refine InvL.cons (.inr (Holds.mp H)) ?_ | refine InvL.cons (.inl (by kernel_rfl)) ?_)) ?_
      repeat refine C_seq ?_
      refine C_cond rfl (fun h => absurd h (by simp [isEql])) (fun h => C_skip ?_)
      repeat refine C_seq ?_
      refine C_region ?_
      refine Lp_pv rfl rfl ?_
      first | refine Lp_pv rfl rfl ?_ | refine Lp_mv rfl rfl ?_
      refine Lp_nil ?_
      replace H := h9 _ _ H
      replace H := Holds.sel [1, 0, 0, 0] 0 H; dsimp only [SL.sel, SL.pull, List.drop] at H
      replace H := h11 _ _ H
      replace H := Holds.sel [2, 0, 0, 0] 0 H; dsimp only [SL.sel, SL.pull, List.drop] at H
      replace H := h5 _ _ H
      exact ⟨_, ⟨rfl, i + 1, hlt, rfl, rfl, rfl, rfl, rfl, rfl, inc64 (by omega), H⟩, by omega⟩
    · replace H := Holds.sel [3] 3 H; dsimp only [SL.sel, SL.pull, List.drop] at H
      repeat refine C_seq ?_
      refine C_region ?_
      refine Lp_s rfl (St_call (a := []) (b := []) rfl rfl (call (talive_spec hp H) ?_))
      clear H; rintro v w ⟨rfl, H⟩
      first | refine Lp_pv rfl rfl ?_ | refine Lp_mv rfl rfl ?_
      refine Lp_nil ?_
      exact C_ret (fn_end0 _ (.inr rfl) H rfl fun w' H' => ⟨rfl, H'⟩)
end Go.Proofs.YtdpephigccnkdaaDoor
