/- RemsetOrder: the walk. No condition. -/
import Derived.Test.YtdpephigccnkdaaRemK
set_option linter.unusedVariables false
set_option linter.unusedSimpArgs false
set_option linter.unusedSectionVars false
namespace Go.Proofs.Ytdpephigccnkdaa
open Go.SL

theorem pred64 {k : Nat} (h0 : 1 ≤ k) (h : k < 1000000000) : IntKind.i64.wrap ((k : Int) - 1) = ((k - 1 : Nat) : Int) := by
  rw [wrap64 (by omega) (by omega)]; omega

theorem rcell0 {ks : List Rf} {spare : List Value} {i : Nat} {r : Rf} (h : ks[i]? = some r) : (rcells ks ++ spare)[0 + i * 2 + 0]? = some (.int .i64 r.1) := by
  have := rcells_reads (spare := spare) h
  cases this with
  | cons h0 t => exact h0
theorem rcell1 {ks : List Rf} {spare : List Value} {i : Nat} {r : Rf} (h : ks[i]? = some r) : (rcells ks ++ spare)[0 + i * 2 + 1]? = some (.int .i64 r.2) := by
  have := rcells_reads (spare := spare) h
  cases this with
  | cons h0 t => cases t with | cons h1 t => exact h1

theorem AL.cap {W : World} {ad : Option Addr} {m cap : Nat} {l : List Act} (h : AL W (.slice ad m cap) l) : m ≤ cap := by
  cases h with
  | nl => omega
  | sm h hc g => exact hc

theorem ofSrc_le (m : List (Rf × Int)) (S : List Int) : ofSrc m S ≤ m.length := List.length_filter_le _ _

theorem AL_take {W : World} {ad : Option Addr} {m cap : Nat} {l : List Act} (h : AL W (.slice ad m cap) l) (i : Nat) (hi : i < l.length) : ∃ b o, ad = some ⟨b, o, none⟩ ∧ AL W (.slice (some ⟨b, o, none⟩) i cap) (l.take i) := by
  cases h with
  | nl => simp at hi
  | @sm b o cap E fz c l h hc g =>
    refine ⟨b, o, rfl, ?_⟩
    have e : (l.take i).length = i := by rw [List.length_take]; omega
    have := AL.sm (W := W) (cap := cap) (l := l.take i) (o := o) h (by omega) (fun j a ha => g j a (by
      rw [List.getElem?_take] at ha
      split at ha
      · exact ha
      · cases ha))
    rw [e] at this
    exact this

set_option maxHeartbeats 4000000 in
theorem Order_walk (W : World) (v : Value) (l : List Act) (hl : AL W v l) {w : World} [Extra] (H : Holds w [old W]) :
    Calls Try.prog 6 #[v] w (ret fun x w' => x = .bool true ∧ Holds w' [old W]) := by
  obtain ⟨ad, cap, rfl⟩ := hl.slice
  refine calls_of Try.func6 rfl (by kernel_rfl) ?_
  repeat refine C_seq ?_
  refine C_region ?_
  first | refine Lp_pv rfl rfl ?_ | refine Lp_mv rfl rfl ?_
  refine Lp_nil ?_
  repeat refine C_seq ?_
  refine C_region ?_
  first | refine Lp_pv rfl rfl ?_ | refine Lp_mv rfl rfl ?_
  refine Lp_s rfl (St_call (a := []) (b := []) rfl rfl (call (grown_spec W _ l hl H) ?_))
  rintro x w (⟨h100, rfl, H⟩ | ⟨h100, p, rfl, H⟩)
  · first | refine Lp_pv rfl rfl ?_ | refine Lp_mv rfl rfl ?_
    refine Lp_nil ?_
    repeat refine C_seq ?_
    refine C_region ?_
    refine Lp_s rfl (St_call (a := []) (b := []) rfl rfl (call (alive_spec H) ?_))
    clear H; rintro v w ⟨rfl, H⟩
    refine Lp_pv rfl rfl ?_
    first | refine Lp_pv rfl rfl ?_ | refine Lp_mv rfl rfl ?_
    first | refine Lp_gpv rfl rfl rfl rfl ?_ | refine Lp_no rfl rfl rfl ?_ | refine Lp_nn rfl rfl ?_
    first | refine Lp_gpv rfl rfl rfl rfl ?_ | refine Lp_g rfl rfl rfl (St_eqPtrNil rfl rfl (.inl rfl) rfl ?_) | refine Lp_g rfl rfl rfl (St_eqMapNil rfl rfl (.inl rfl) rfl ?_) | refine Lp_g rfl rfl rfl (St_eqPair rfl rfl (.inl rfl) rfl ?_) | refine Lp_g rfl rfl rfl (St_eqBool rfl rfl (.inl rfl) rfl ?_) | refine Lp_g rfl rfl rfl (St_eqStr rfl rfl (.inl rfl) rfl ?_) | refine Lp_no rfl rfl rfl ?_ | refine Lp_nn rfl rfl ?_
    refine Lp_pv rfl rfl ?_
    refine Lp_nil ?_
    repeat refine C_seq ?_
    refine C_true rfl ?_
    repeat refine C_seq ?_
    refine C_region ?_
    refine Lp_s rfl (St_call (a := []) (b := []) rfl rfl (call (alive_spec H) ?_))
    clear H; rintro v w ⟨rfl, H⟩
    first | refine Lp_pv rfl rfl ?_ | refine Lp_mv rfl rfl ?_
    first | refine Lp_gpv rfl rfl rfl rfl ?_ | refine Lp_no rfl rfl rfl ?_ | refine Lp_nn rfl rfl ?_
    first | refine Lp_g rfl rfl rfl (St_lenSlice rfl rfl ?_) | refine Lp_no rfl rfl rfl ?_ | refine Lp_nn rfl rfl ?_
    first | refine Lp_gpv rfl rfl rfl rfl ?_ | refine Lp_no rfl rfl rfl ?_ | refine Lp_nn rfl rfl ?_
    refine Lp_pv rfl rfl ?_
    first | refine Lp_pv rfl rfl ?_ | refine Lp_mv rfl rfl ?_
    refine Lp_nil ?_
    refine C_ret (fn_end0 _ (.inr rfl) H rfl fun w' H' => ⟨?_, H'⟩)
    show Value.bool (decide ((l.length : Int) > 100)) = _
    simp; omega
  · have hnd := nodup_grown l
    have hall := ofSrc_all l
    have hml : (grownM l).length ≤ 100 := Nat.le_trans (length_grown l) h100
    generalize grownM l = m at H hnd hml hall
    first | refine Lp_pv rfl rfl ?_ | refine Lp_mv rfl rfl ?_
    refine Lp_nil ?_
    repeat refine C_seq ?_
    refine C_region ?_
    refine Lp_s rfl (St_call (a := []) (b := []) rfl rfl (call (alive_spec H) ?_))
    clear H; rintro v w ⟨rfl, H⟩
    refine Lp_pv rfl rfl ?_
    first | refine Lp_pv rfl rfl ?_ | refine Lp_mv rfl rfl ?_
    first | refine Lp_gpv rfl rfl rfl rfl ?_ | refine Lp_no rfl rfl rfl ?_ | refine Lp_nn rfl rfl ?_
    first | refine Lp_gpv rfl rfl rfl rfl ?_ | refine Lp_g rfl rfl rfl (St_eqPtrNil rfl rfl (.inl rfl) rfl ?_) | refine Lp_g rfl rfl rfl (St_eqMapNil rfl rfl (.inl rfl) rfl ?_) | refine Lp_g rfl rfl rfl (St_eqPair rfl rfl (.inl rfl) rfl ?_) | refine Lp_g rfl rfl rfl (St_eqBool rfl rfl (.inl rfl) rfl ?_) | refine Lp_g rfl rfl rfl (St_eqStr rfl rfl (.inl rfl) rfl ?_) | refine Lp_no rfl rfl rfl ?_ | refine Lp_nn rfl rfl ?_
    refine Lp_pv rfl rfl ?_
    refine Lp_nil ?_
    repeat refine C_seq ?_
    refine C_false rfl (C_skip ?_)
    repeat refine C_seq ?_
    refine C_region ?_
    first | refine Lp_pv rfl rfl ?_ | refine Lp_mv rfl rfl ?_
    refine Lp_nil ?_
    repeat refine C_seq ?_
    refine C_region ?_
    first | refine Lp_pv rfl rfl ?_ | refine Lp_mv rfl rfl ?_
    refine Lp_s rfl (St_lenSlice rfl rfl ?_)
    first | refine Lp_pv rfl rfl ?_ | refine Lp_mv rfl rfl ?_
    refine Lp_nil ?_
    repeat refine C_seq ?_
    refine C_block ?_
    refine C_loop (fun ms σ w n => ms = [] ∧ ∃ i : Nat, i ≤ l.length ∧ n = l.length - i ∧ σ 0 = .slice ad l.length cap ∧ σ 3 = pp p ∧ σ 4 = .int .i64 (ofSrc m ((l.map (fun a => a.r.1)).take i) : Nat) ∧ σ 28 = .slice ad l.length cap ∧ σ 29 = .int .i64 l.length ∧ σ 30 = .int .i64 i ∧ Holds w [RS p m, old W]) (m := l.length) ⟨rfl, 0, by omega, rfl, rfl, rfl, ?_, rfl, rfl, rfl, H⟩ ?_
    · have hz : ofSrc m [] = 0 := by simp [ofSrc]
      rw [List.take_zero, hz]
      rfl
    clear H
    rintro ms σ w n ⟨rfl, i, hi, rfl, h0, h3, h4, h28, h29, h30, H⟩
    rw [upd_self h0, upd_self h3, upd_self h4, upd_self h28, upd_self h29, upd_self h30]
    repeat refine C_seq ?_
    refine C_region ?_
    refine Lp_pv rfl rfl ?_
    refine Lp_nil ?_
    repeat refine C_seq ?_
    refine C_dec rfl (fun h => C_skip ?_) (fun h => C_exit ?_)
    · have hlt : i < l.length := by omega
      have ha := List.getElem?_eq_getElem hlt
      generalize l[i] = a at ha
      obtain ⟨b, o, E, fz, c, rfl, iold, hrd⟩ := hl.at ha
      obtain ⟨kd, ⟨r1, r2⟩, nn⟩ := a
      repeat refine C_seq ?_
      refine C_block ?_
      repeat refine C_seq ?_
      refine C_region ?_
      first | refine Lp_pv rfl rfl ?_ | refine Lp_mv rfl rfl ?_
      refine Lp_s rfl (St_indexAddr rfl rfl (by omega) (by omega) rfl ?_)
      refine Lp_s rfl (St_loadN H rfl hrd rfl ?_)
      (refine Lp_s rfl (St_alloc H rfl ?_); clear H; intro b6 w H)
      first | refine Lp_pv rfl rfl ?_ | refine Lp_mv rfl rfl ?_
      first | (refine Lp_s rfl (St_store1 H rfl rfl inferInstance rfl (Nat.le_of_ble_eq_true rfl) rfl ?_); clear H; intro w H) | (refine Lp_s rfl (St_storeN H rfl rfl inferInstance rfl rfl (Nat.le_of_ble_eq_true rfl) rfl ?_); clear H; intro w H)
      refine Lp_nil ?_
      replace H : Holds w [RS p m, pts b6 (row 42 [.int .i64 kd, .int .i64 r1, .int .i64 r2, .int .i64 nn]), old W] := H.swap
      repeat refine C_seq ?_
      refine C_drawH H mixed ?_
      clear H; intro w H
      refine A_pv 0 rfl (Wants.none rfl) rfl (by kernel_rfl) ?_
      refine A_fieldAddr 1 rfl (Wants.none rfl) rfl (by kernel_rfl) ?_
      first | refine A_load1 2 [3, 8] H rfl (Wants.none rfl) rfl rfl (by kernel_rfl) ?_ | refine A_loadN 2 [3, 8] H rfl (Wants.none rfl) rfl (by repeat (first | exact Reads.nil _ | apply Reads.cons rfl)) (by kernel_rfl) ?_
      refine A_pv 4 rfl (Wants.none rfl) rfl (by kernel_rfl) ?_
      refine A_fieldAddr 5 rfl (Wants.none rfl) rfl (by kernel_rfl) ?_
      refine A_fieldAddr 6 rfl (Wants.none rfl) rfl (by kernel_rfl) ?_
      first | refine A_load1 7 [8] H rfl (Wants.none rfl) rfl rfl (by kernel_rfl) ?_ | refine A_loadN 7 [8] H rfl (Wants.none rfl) rfl (by repeat (first | exact Reads.nil _ | apply Reads.cons rfl)) (by kernel_rfl) ?_
      refine A_one 3 rfl (by kernel_rfl) (by repeat (first | exact InvL.nil | refine InvL.cons (.inr (Holds.at H)) ?_ | refine InvL.cons (.inr (Holds.mp H)) ?_ | refine InvL.cons (.inl (by kernel_rfl)) ?_)) (Wants.none rfl) (St_call (a := []) (b := []) rfl rfl (call (Of_spec p m (by omega) nn H) ?_))
      rintro v38 w ⟨ko, hko, hso, H⟩
      have hol := rising_len (m := m) hso fun r hr => by rw [(hko r).1 hr]; rfl
      obtain ⟨a38, c38, rfl⟩ := sls_slice H (rcells_length ko) (by decide)
      refine A_one 8 rfl (by kernel_rfl) (by repeat (first | exact InvL.nil | refine InvL.cons (.inr (Holds.at H)) ?_ | refine InvL.cons (.inr (Holds.mp H)) ?_ | refine InvL.cons (.inl (by kernel_rfl)) ?_)) (Wants.none rfl) (St_call (a := []) (b := []) rfl rfl (call (From_spec p m (by omega) r1 H.swap) ?_))
      rintro v43 w ⟨kf, hkf, hsf, H⟩
      have hfl := rising_len (m := m) hsf fun r hr => ((hkf r).1 hr).2
      obtain ⟨a43, c43, rfl⟩ := sls_slice H (rcells_length kf) (by decide)
      refine A_pv 9 rfl (Wants.none rfl) rfl (by kernel_rfl) ?_
      refine A_pv 10 rfl (Wants.none rfl) rfl (by kernel_rfl) ?_
      refine A_end (by kernel_rfl) (by repeat (first | exact InvL.nil | refine InvL.cons (.inr (Holds.at H)) ?_ | refine InvL.cons (.inr (Holds.mp H)) ?_ | refine InvL.cons (.inl (by kernel_rfl)) ?_)) ?_
      replace H : Holds w [SR (.slice a43 kf.length c43) kf, SR (.slice a38 ko.length c38) ko, RS p m, pts b6 (row 42 [.int .i64 kd, .int .i64 r1, .int .i64 r2, .int .i64 nn]), old W] := by
        replace H := Holds.sel [0, 1, 0, 0, 0] 0 H; dsimp only [SL.sel, SL.pull, List.drop] at H
        exact H
      repeat refine C_seq ?_
      refine C_region ?_
      first | refine Lp_pv rfl rfl ?_ | refine Lp_mv rfl rfl ?_
      refine Lp_nil ?_
      repeat refine C_seq ?_
      refine C_join (fun ms σ w => ms = [] ∧ σ 0 = .slice (some ⟨b, o, none⟩) l.length cap ∧ σ 3 = pp p ∧ σ 4 = .int .i64 (ofSrc m ((l.map (fun a => a.r.1)).take i) : Nat) ∧ σ 5 = .int .i64 i ∧ σ 6 = pp b6 ∧ σ 28 = .slice (some ⟨b, o, none⟩) l.length cap ∧ σ 29 = .int .i64 l.length ∧ σ 30 = .int .i64 i ∧ σ 8 = .slice a43 kf.length c43 ∧ Holds w [SR (.slice a43 kf.length c43) kf, SR (.slice a38 ko.length c38) ko, RS p m, pts b6 (row 42 [.int .i64 kd, .int .i64 r1, .int .i64 r2, .int .i64 nn]), old W]) ?_ ?_
      · refine C_block ?_
        refine C_loop (fun ms σ w n => ms = [] ∧ ∃ k : Nat, 1 ≤ k ∧ k ≤ ko.length + 1 ∧ n = ko.length + 1 - k ∧ σ 0 = .slice (some ⟨b, o, none⟩) l.length cap ∧ σ 3 = pp p ∧ σ 4 = .int .i64 (ofSrc m ((l.map (fun a => a.r.1)).take i) : Nat) ∧ σ 5 = .int .i64 i ∧ σ 6 = pp b6 ∧ σ 28 = .slice (some ⟨b, o, none⟩) l.length cap ∧ σ 29 = .int .i64 l.length ∧ σ 30 = .int .i64 i ∧ σ 7 = .slice a38 ko.length c38 ∧ σ 8 = .slice a43 kf.length c43 ∧ σ 9 = .int .i64 k ∧ Holds w [SR (.slice a43 kf.length c43) kf, SR (.slice a38 ko.length c38) ko, RS p m, pts b6 (row 42 [.int .i64 kd, .int .i64 r1, .int .i64 r2, .int .i64 nn]), old W]) (m := ko.length) ⟨rfl, 1, by omega, by omega, by omega, rfl, rfl, rfl, rfl, rfl, rfl, rfl, rfl, rfl, rfl, rfl, H⟩ ?_
        clear H
        rintro ms σ w n ⟨rfl, k, hk1, hk, rfl, h0, h3, h4, h5, h6, h28, h29, h30, h7, h8, h9, H⟩
        rw [upd_self h0, upd_self h3, upd_self h4, upd_self h5, upd_self h6, upd_self h28, upd_self h29, upd_self h30, upd_self h7, upd_self h8, upd_self h9]
        repeat refine C_seq ?_
        refine C_region ?_
        first | refine Lp_pv rfl rfl ?_ | refine Lp_mv rfl rfl ?_
        first | refine Lp_pv rfl rfl ?_ | refine Lp_mv rfl rfl ?_
        refine Lp_s rfl (St_lenSlice rfl rfl ?_)
        refine Lp_pv rfl rfl ?_
        refine Lp_nil ?_
        repeat refine C_seq ?_
        refine C_dec rfl (fun h => C_skip ?_) (fun h => C_exit ?_)
        · have hkt : k < ko.length := by omega
          have hx := List.getElem?_eq_getElem (l := ko) (i := k - 1) (by omega)
          have hy := List.getElem?_eq_getElem hkt
          have hxy := (List.pairwise_iff_getElem.1 hso) (k - 1) k (by omega) hkt (by omega)
          generalize ko[k - 1]'(by omega) = x at hx hxy
          generalize ko[k] = y at hy hxy
          obtain ⟨x1, x2⟩ := x
          obtain ⟨y1, y2⟩ := y
          unfold ltR at hxy
          have hp := pred64 hk1 (show k < 1000000000 by omega)
          replace H := Holds.sel [1, 0, 0, 0, 0] 0 H; dsimp only [SL.sel, SL.pull, List.drop] at H
          obtain ⟨bo, so, rfl, H, hclose⟩ := sls_open H (by omega)
          repeat refine C_seq ?_
          refine C_block ?_
          repeat refine C_seq ?_
          refine C_drawH H mixed ?_
          clear H; intro w H
          refine A_pv 0 rfl (Wants.none rfl) rfl (by kernel_rfl) ?_
          refine A_pv 1 rfl (Wants.none rfl) rfl (by kernel_rfl) ?_
          refine A_pv 2 rfl (Wants.none rfl) rfl (by kernel_rfl) ?_
          rw [hp]
          refine A_indexAddr 3 rfl (Wants.none rfl) rfl rfl (by omega) (by omega) (by kernel_rfl) ?_
          refine A_fieldAddr 4 rfl (Wants.none rfl) rfl (by kernel_rfl) ?_
          refine A_load1 5 [] H rfl (Wants.none rfl) rfl (rcell0 hx) (by kernel_rfl) ?_
          refine A_pv 6 rfl (Wants.none rfl) rfl (by kernel_rfl) ?_
          refine A_pv 7 rfl (Wants.none rfl) rfl (by kernel_rfl) ?_
          refine A_indexAddr 8 rfl (Wants.none rfl) rfl rfl (by omega) (by omega) (by kernel_rfl) ?_
          refine A_fieldAddr 9 rfl (Wants.none rfl) rfl (by kernel_rfl) ?_
          refine A_load1 10 [] H rfl (Wants.none rfl) rfl (rcell0 hy) (by kernel_rfl) ?_
          refine A_pv 11 rfl (Wants.none rfl) rfl (by kernel_rfl) ?_
          rw [show decide (x1 > y1) = false from decide_eq_false (by omega)]
          refine A_pv 12 rfl (Wants.none rfl) rfl (by kernel_rfl) ?_
          first | refine A_pv 13 rfl (Wants.of rfl rfl rfl) rfl (by kernel_rfl) ?_ | refine A_no 13 rfl (Wants.of rfl rfl rfl) (fun c e => by cases e) (by kernel_rfl) ?_ | refine A_no 13 rfl (Wants.skip rfl rfl) (fun c e => by cases e) (by kernel_rfl) ?_
          first | refine A_pv 14 rfl (Wants.of rfl rfl rfl) rfl (by kernel_rfl) ?_ | refine A_no 14 rfl (Wants.of rfl rfl rfl) (fun c e => by cases e) (by kernel_rfl) ?_ | refine A_no 14 rfl (Wants.skip rfl rfl) (fun c e => by cases e) (by kernel_rfl) ?_
          first | refine A_pv 15 rfl (Wants.of rfl rfl rfl) rfl (by kernel_rfl) ?_ | refine A_no 15 rfl (Wants.of rfl rfl rfl) (fun c e => by cases e) (by kernel_rfl) ?_ | refine A_no 15 rfl (Wants.skip rfl rfl) (fun c e => by cases e) (by kernel_rfl) ?_
          rw [hp]
          refine A_indexAddr 16 rfl (Wants.of rfl rfl rfl) rfl rfl (by omega) (by omega) (by kernel_rfl) ?_
          first | refine A_fieldAddr 17 rfl (Wants.of rfl rfl rfl) rfl (by kernel_rfl) ?_ | refine A_no 17 rfl (Wants.of rfl rfl rfl) (fun c e => by cases e) (by kernel_rfl) ?_ | refine A_no 17 rfl (Wants.skip rfl rfl) (fun c e => by cases e) (by kernel_rfl) ?_
          refine A_load1 18 [] H rfl (Wants.of rfl rfl rfl) rfl (rcell0 hx) (by kernel_rfl) ?_
          first | refine A_pv 19 rfl (Wants.of rfl rfl rfl) rfl (by kernel_rfl) ?_ | refine A_no 19 rfl (Wants.of rfl rfl rfl) (fun c e => by cases e) (by kernel_rfl) ?_ | refine A_no 19 rfl (Wants.skip rfl rfl) (fun c e => by cases e) (by kernel_rfl) ?_
          first | refine A_pv 20 rfl (Wants.of rfl rfl rfl) rfl (by kernel_rfl) ?_ | refine A_no 20 rfl (Wants.of rfl rfl rfl) (fun c e => by cases e) (by kernel_rfl) ?_ | refine A_no 20 rfl (Wants.skip rfl rfl) (fun c e => by cases e) (by kernel_rfl) ?_
          refine A_indexAddr 21 rfl (Wants.of rfl rfl rfl) rfl rfl (by omega) (by omega) (by kernel_rfl) ?_
          first | refine A_fieldAddr 22 rfl (Wants.of rfl rfl rfl) rfl (by kernel_rfl) ?_ | refine A_no 22 rfl (Wants.of rfl rfl rfl) (fun c e => by cases e) (by kernel_rfl) ?_ | refine A_no 22 rfl (Wants.skip rfl rfl) (fun c e => by cases e) (by kernel_rfl) ?_
          refine A_load1 23 [] H rfl (Wants.of rfl rfl rfl) rfl (rcell0 hy) (by kernel_rfl) ?_
          first | refine A_pv 24 rfl (Wants.of rfl rfl rfl) rfl (by kernel_rfl) ?_ | refine A_eqPair 24 rfl (Wants.of rfl rfl rfl) rfl rfl (.inl rfl) (by kernel_rfl) ?_ | refine A_eqPtrNil 24 rfl (Wants.of rfl rfl rfl) rfl rfl (.inl rfl) (by kernel_rfl) ?_ | refine A_eqBool 24 rfl (Wants.of rfl rfl rfl) rfl rfl (.inl rfl) (by kernel_rfl) ?_ | refine A_eqStr 24 rfl (Wants.of rfl rfl rfl) rfl rfl (.inl rfl) (by kernel_rfl) ?_ | refine A_no 24 rfl (Wants.of rfl rfl rfl) (fun c e => by cases e) (by kernel_rfl) ?_ | refine A_no 24 rfl (Wants.skip rfl rfl) (fun c e => by cases e) (by kernel_rfl) ?_
          by_cases e : x1 = y1
          · rw [show (x1 == y1) = true by simpa using e]
            first | refine A_pv 25 rfl (Wants.of rfl rfl rfl) rfl (by kernel_rfl) ?_ | refine A_no 25 rfl (Wants.of rfl rfl rfl) (fun c e => by cases e) (by kernel_rfl) ?_ | refine A_no 25 rfl (Wants.skip rfl rfl) (fun c e => by cases e) (by kernel_rfl) ?_
            first | refine A_pv 26 rfl (Wants.of rfl rfl rfl) rfl (by kernel_rfl) ?_ | refine A_no 26 rfl (Wants.of rfl rfl rfl) (fun c e => by cases e) (by kernel_rfl) ?_ | refine A_no 26 rfl (Wants.skip rfl rfl) (fun c e => by cases e) (by kernel_rfl) ?_
            first | refine A_pv 27 rfl (Wants.of rfl rfl rfl) rfl (by kernel_rfl) ?_ | refine A_no 27 rfl (Wants.of rfl rfl rfl) (fun c e => by cases e) (by kernel_rfl) ?_ | refine A_no 27 rfl (Wants.skip rfl rfl) (fun c e => by cases e) (by kernel_rfl) ?_
            first | refine A_pv 28 rfl (Wants.of rfl rfl rfl) rfl (by kernel_rfl) ?_ | refine A_no 28 rfl (Wants.of rfl rfl rfl) (fun c e => by cases e) (by kernel_rfl) ?_ | refine A_no 28 rfl (Wants.skip rfl rfl) (fun c e => by cases e) (by kernel_rfl) ?_
            rw [hp]
            refine A_indexAddr 29 rfl (Wants.of rfl rfl rfl) rfl rfl (by omega) (by omega) (by kernel_rfl) ?_
            first | refine A_fieldAddr 30 rfl (Wants.of rfl rfl rfl) rfl (by kernel_rfl) ?_ | refine A_no 30 rfl (Wants.of rfl rfl rfl) (fun c e => by cases e) (by kernel_rfl) ?_ | refine A_no 30 rfl (Wants.skip rfl rfl) (fun c e => by cases e) (by kernel_rfl) ?_
            refine A_load1 31 [] H rfl (Wants.of rfl rfl rfl) rfl (rcell1 hx) (by kernel_rfl) ?_
            first | refine A_pv 32 rfl (Wants.of rfl rfl rfl) rfl (by kernel_rfl) ?_ | refine A_no 32 rfl (Wants.of rfl rfl rfl) (fun c e => by cases e) (by kernel_rfl) ?_ | refine A_no 32 rfl (Wants.skip rfl rfl) (fun c e => by cases e) (by kernel_rfl) ?_
            first | refine A_pv 33 rfl (Wants.of rfl rfl rfl) rfl (by kernel_rfl) ?_ | refine A_no 33 rfl (Wants.of rfl rfl rfl) (fun c e => by cases e) (by kernel_rfl) ?_ | refine A_no 33 rfl (Wants.skip rfl rfl) (fun c e => by cases e) (by kernel_rfl) ?_
            refine A_indexAddr 34 rfl (Wants.of rfl rfl rfl) rfl rfl (by omega) (by omega) (by kernel_rfl) ?_
            first | refine A_fieldAddr 35 rfl (Wants.of rfl rfl rfl) rfl (by kernel_rfl) ?_ | refine A_no 35 rfl (Wants.of rfl rfl rfl) (fun c e => by cases e) (by kernel_rfl) ?_ | refine A_no 35 rfl (Wants.skip rfl rfl) (fun c e => by cases e) (by kernel_rfl) ?_
            refine A_load1 36 [] H rfl (Wants.of rfl rfl rfl) rfl (rcell1 hy) (by kernel_rfl) ?_
            first | refine A_pv 37 rfl (Wants.of rfl rfl rfl) rfl (by kernel_rfl) ?_ | refine A_no 37 rfl (Wants.of rfl rfl rfl) (fun c e => by cases e) (by kernel_rfl) ?_ | refine A_no 37 rfl (Wants.skip rfl rfl) (fun c e => by cases e) (by kernel_rfl) ?_
            rw [show decide (x2 ≥ y2) = false from decide_eq_false (by omega)]
            first | refine A_pv 38 rfl (Wants.of rfl rfl rfl) rfl (by kernel_rfl) ?_ | refine A_no 38 rfl (Wants.of rfl rfl rfl) (fun c e => by cases e) (by kernel_rfl) ?_ | refine A_no 38 rfl (Wants.skip rfl rfl) (fun c e => by cases e) (by kernel_rfl) ?_
            refine A_pv 39 rfl (Wants.none rfl) rfl (by kernel_rfl) ?_
            refine A_end (by kernel_rfl) (by repeat (first | exact InvL.nil | refine InvL.cons (.inr (Holds.at H)) ?_ | refine InvL.cons (.inr (Holds.mp H)) ?_ | refine InvL.cons (.inl (by kernel_rfl)) ?_)) ?_
            repeat refine C_seq ?_
            refine C_false rfl (C_skip ?_)
            repeat refine C_seq ?_
            refine C_region ?_
            first | refine Lp_pv rfl rfl ?_ | refine Lp_mv rfl rfl ?_
            refine Lp_pv rfl rfl ?_
            first | refine Lp_pv rfl rfl ?_ | refine Lp_mv rfl rfl ?_
            refine Lp_nil ?_
            replace H := hclose _ _ H
            replace H := Holds.sel [1, 0, 0, 0, 0] 0 H; dsimp only [SL.sel, SL.pull, List.drop] at H
            exact ⟨_, ⟨rfl, k + 1, by omega, by omega, rfl, rfl, rfl, rfl, rfl, rfl, rfl, rfl, rfl, rfl, rfl, inc64 (by omega), H⟩, by omega⟩
          · rw [show (x1 == y1) = false by simpa using e]
            first | refine A_pv 25 rfl (Wants.of rfl rfl rfl) rfl (by kernel_rfl) ?_ | refine A_no 25 rfl (Wants.of rfl rfl rfl) (fun c e => by cases e) (by kernel_rfl) ?_ | refine A_no 25 rfl (Wants.skip rfl rfl) (fun c e => by cases e) (by kernel_rfl) ?_
            first | refine A_pv 26 rfl (Wants.of rfl rfl rfl) rfl (by kernel_rfl) ?_ | refine A_no 26 rfl (Wants.of rfl rfl rfl) (fun c e => by cases e) (by kernel_rfl) ?_ | refine A_no 26 rfl (Wants.skip rfl rfl) (fun c e => by cases e) (by kernel_rfl) ?_
            first | refine A_pv 27 rfl (Wants.of rfl rfl rfl) rfl (by kernel_rfl) ?_ | refine A_no 27 rfl (Wants.of rfl rfl rfl) (fun c e => by cases e) (by kernel_rfl) ?_ | refine A_no 27 rfl (Wants.skip rfl rfl) (fun c e => by cases e) (by kernel_rfl) ?_
            first | refine A_pv 28 rfl (Wants.of rfl rfl rfl) rfl (by kernel_rfl) ?_ | refine A_no 28 rfl (Wants.of rfl rfl rfl) (fun c e => by cases e) (by kernel_rfl) ?_ | refine A_no 28 rfl (Wants.skip rfl rfl) (fun c e => by cases e) (by kernel_rfl) ?_
            refine A_no 29 rfl (Wants.of rfl rfl rfl) (fun c e => by cases e) (by kernel_rfl) ?_
            first | refine A_fieldAddr 30 rfl (Wants.of rfl rfl rfl) rfl (by kernel_rfl) ?_ | refine A_no 30 rfl (Wants.of rfl rfl rfl) (fun c e => by cases e) (by kernel_rfl) ?_ | refine A_no 30 rfl (Wants.skip rfl rfl) (fun c e => by cases e) (by kernel_rfl) ?_
            first | refine A_load1 31 [] H rfl (Wants.of rfl rfl rfl) rfl rfl (by kernel_rfl) ?_ | refine A_loadN 31 [] H rfl (Wants.of rfl rfl rfl) rfl (by repeat (first | exact Reads.nil _ | apply Reads.cons rfl)) (by kernel_rfl) ?_ | refine A_no 31 rfl (Wants.of rfl rfl rfl) (fun c e => by cases e) (by kernel_rfl) ?_ | refine A_no 31 rfl (Wants.skip rfl rfl) (fun c e => by cases e) (by kernel_rfl) ?_
            first | refine A_pv 32 rfl (Wants.of rfl rfl rfl) rfl (by kernel_rfl) ?_ | refine A_no 32 rfl (Wants.of rfl rfl rfl) (fun c e => by cases e) (by kernel_rfl) ?_ | refine A_no 32 rfl (Wants.skip rfl rfl) (fun c e => by cases e) (by kernel_rfl) ?_
            first | refine A_pv 33 rfl (Wants.of rfl rfl rfl) rfl (by kernel_rfl) ?_ | refine A_no 33 rfl (Wants.of rfl rfl rfl) (fun c e => by cases e) (by kernel_rfl) ?_ | refine A_no 33 rfl (Wants.skip rfl rfl) (fun c e => by cases e) (by kernel_rfl) ?_
            refine A_no 34 rfl (Wants.of rfl rfl rfl) (fun c e => by cases e) (by kernel_rfl) ?_
            first | refine A_fieldAddr 35 rfl (Wants.of rfl rfl rfl) rfl (by kernel_rfl) ?_ | refine A_no 35 rfl (Wants.of rfl rfl rfl) (fun c e => by cases e) (by kernel_rfl) ?_ | refine A_no 35 rfl (Wants.skip rfl rfl) (fun c e => by cases e) (by kernel_rfl) ?_
            first | refine A_load1 36 [] H rfl (Wants.of rfl rfl rfl) rfl rfl (by kernel_rfl) ?_ | refine A_loadN 36 [] H rfl (Wants.of rfl rfl rfl) rfl (by repeat (first | exact Reads.nil _ | apply Reads.cons rfl)) (by kernel_rfl) ?_ | refine A_no 36 rfl (Wants.of rfl rfl rfl) (fun c e => by cases e) (by kernel_rfl) ?_ | refine A_no 36 rfl (Wants.skip rfl rfl) (fun c e => by cases e) (by kernel_rfl) ?_
            first | refine A_pv 37 rfl (Wants.of rfl rfl rfl) rfl (by kernel_rfl) ?_ | refine A_no 37 rfl (Wants.of rfl rfl rfl) (fun c e => by cases e) (by kernel_rfl) ?_ | refine A_no 37 rfl (Wants.skip rfl rfl) (fun c e => by cases e) (by kernel_rfl) ?_
            first | refine A_pv 38 rfl (Wants.of rfl rfl rfl) rfl (by kernel_rfl) ?_ | refine A_no 38 rfl (Wants.of rfl rfl rfl) (fun c e => by cases e) (by kernel_rfl) ?_ | refine A_no 38 rfl (Wants.skip rfl rfl) (fun c e => by cases e) (by kernel_rfl) ?_
            refine A_pv 39 rfl (Wants.none rfl) rfl (by kernel_rfl) ?_
            refine A_end (by kernel_rfl) (by repeat (first | exact InvL.nil | refine InvL.cons (.inr (Holds.at H)) ?_ | refine InvL.cons (.inr (Holds.mp H)) ?_ | refine InvL.cons (.inl (by kernel_rfl)) ?_)) ?_
            repeat refine C_seq ?_
            refine C_false rfl (C_skip ?_)
            repeat refine C_seq ?_
            refine C_region ?_
            first | refine Lp_pv rfl rfl ?_ | refine Lp_mv rfl rfl ?_
            refine Lp_pv rfl rfl ?_
            first | refine Lp_pv rfl rfl ?_ | refine Lp_mv rfl rfl ?_
            refine Lp_nil ?_
            replace H := hclose _ _ H
            replace H := Holds.sel [1, 0, 0, 0, 0] 0 H; dsimp only [SL.sel, SL.pull, List.drop] at H
            exact ⟨_, ⟨rfl, k + 1, by omega, by omega, rfl, rfl, rfl, rfl, rfl, rfl, rfl, rfl, rfl, rfl, rfl, inc64 (by omega), H⟩, by omega⟩
        · exact ⟨rfl, rfl, rfl, rfl, rfl, rfl, rfl, rfl, rfl, rfl, rfl, H⟩
      · clear H
        rintro ms σ w ⟨rfl, h0, h3, h4, h5, h6, h28, h29, h30, h8, H⟩
        rw [upd_self h0, upd_self h3, upd_self h4, upd_self h5, upd_self h6, upd_self h28, upd_self h29, upd_self h30, upd_self h8]
        replace H := Holds.sel [0, 1, 1, 1] 1 H; dsimp only [SL.sel, SL.pull, List.drop] at H
        repeat refine C_seq ?_
        refine C_region ?_
        first | refine Lp_pv rfl rfl ?_ | refine Lp_mv rfl rfl ?_
        refine Lp_nil ?_
        repeat refine C_seq ?_
        refine C_join (fun ms σ w => ms = [] ∧ σ 0 = .slice (some ⟨b, o, none⟩) l.length cap ∧ σ 3 = pp p ∧ σ 4 = .int .i64 (ofSrc m ((l.map (fun a => a.r.1)).take i) : Nat) ∧ σ 5 = .int .i64 i ∧ σ 6 = pp b6 ∧ σ 28 = .slice (some ⟨b, o, none⟩) l.length cap ∧ σ 29 = .int .i64 l.length ∧ σ 30 = .int .i64 i ∧ σ 8 = .slice a43 kf.length c43 ∧ Holds w [SR (.slice a43 kf.length c43) kf, RS p m, pts b6 (row 42 [.int .i64 kd, .int .i64 r1, .int .i64 r2, .int .i64 nn]), old W]) ?_ ?_
        · refine C_block ?_
          refine C_loop (fun ms σ w n => ms = [] ∧ ∃ k : Nat, 1 ≤ k ∧ k ≤ kf.length + 1 ∧ n = kf.length + 1 - k ∧ σ 0 = .slice (some ⟨b, o, none⟩) l.length cap ∧ σ 3 = pp p ∧ σ 4 = .int .i64 (ofSrc m ((l.map (fun a => a.r.1)).take i) : Nat) ∧ σ 5 = .int .i64 i ∧ σ 6 = pp b6 ∧ σ 28 = .slice (some ⟨b, o, none⟩) l.length cap ∧ σ 29 = .int .i64 l.length ∧ σ 30 = .int .i64 i ∧ σ 8 = .slice a43 kf.length c43 ∧ σ 10 = .int .i64 k ∧ Holds w [SR (.slice a43 kf.length c43) kf, RS p m, pts b6 (row 42 [.int .i64 kd, .int .i64 r1, .int .i64 r2, .int .i64 nn]), old W]) (m := kf.length) ⟨rfl, 1, by omega, by omega, by omega, rfl, rfl, rfl, rfl, rfl, rfl, rfl, rfl, rfl, rfl, H⟩ ?_
          clear H
          rintro ms σ w n ⟨rfl, k, hk1, hk, rfl, h0, h3, h4, h5, h6, h28, h29, h30, h8, h10, H⟩
          rw [upd_self h0, upd_self h3, upd_self h4, upd_self h5, upd_self h6, upd_self h28, upd_self h29, upd_self h30, upd_self h8, upd_self h10]
          repeat refine C_seq ?_
          refine C_region ?_
          first | refine Lp_pv rfl rfl ?_ | refine Lp_mv rfl rfl ?_
          first | refine Lp_pv rfl rfl ?_ | refine Lp_mv rfl rfl ?_
          refine Lp_s rfl (St_lenSlice rfl rfl ?_)
          refine Lp_pv rfl rfl ?_
          refine Lp_nil ?_
          repeat refine C_seq ?_
          refine C_dec rfl (fun h => C_skip ?_) (fun h => C_exit ?_)
          · have hkt : k < kf.length := by omega
            have hx := List.getElem?_eq_getElem (l := kf) (i := k - 1) (by omega)
            have hy := List.getElem?_eq_getElem hkt
            have hxy := (List.pairwise_iff_getElem.1 hsf) (k - 1) k (by omega) hkt (by omega)
            have hx1 := ((hkf _).1 (List.mem_of_getElem? hx)).1
            have hy1 := ((hkf _).1 (List.mem_of_getElem? hy)).1
            generalize kf[k - 1]'(by omega) = x at hx hxy hx1
            generalize kf[k] = y at hy hxy hy1
            obtain ⟨x1, x2⟩ := x
            obtain ⟨y1, y2⟩ := y
            unfold ltR at hxy
            have hp := pred64 hk1 (show k < 1000000000 by omega)
            obtain ⟨bo, so, rfl, H, hclose⟩ := sls_open H (by omega)
            repeat refine C_seq ?_
            refine C_block ?_
            repeat refine C_seq ?_
            refine C_drawH H mixed ?_
            clear H; intro w H
            refine A_pv 0 rfl (Wants.none rfl) rfl (by kernel_rfl) ?_
            refine A_pv 1 rfl (Wants.none rfl) rfl (by kernel_rfl) ?_
            refine A_pv 2 rfl (Wants.none rfl) rfl (by kernel_rfl) ?_
            rw [hp]
            refine A_indexAddr 3 rfl (Wants.none rfl) rfl rfl (by omega) (by omega) (by kernel_rfl) ?_
            refine A_fieldAddr 4 rfl (Wants.none rfl) rfl (by kernel_rfl) ?_
            refine A_load1 5 [] H rfl (Wants.none rfl) rfl (rcell1 hx) (by kernel_rfl) ?_
            refine A_pv 6 rfl (Wants.none rfl) rfl (by kernel_rfl) ?_
            refine A_pv 7 rfl (Wants.none rfl) rfl (by kernel_rfl) ?_
            refine A_indexAddr 8 rfl (Wants.none rfl) rfl rfl (by omega) (by omega) (by kernel_rfl) ?_
            refine A_fieldAddr 9 rfl (Wants.none rfl) rfl (by kernel_rfl) ?_
            refine A_load1 10 [] H rfl (Wants.none rfl) rfl (rcell1 hy) (by kernel_rfl) ?_
            refine A_pv 11 rfl (Wants.none rfl) rfl (by kernel_rfl) ?_
            rw [show decide (x2 ≥ y2) = false from decide_eq_false (by have e1 : x1 = r1 := hx1; have e2 : y1 = r1 := hy1; omega)]
            refine A_end (by kernel_rfl) (by repeat (first | exact InvL.nil | refine InvL.cons (.inr (Holds.at H)) ?_ | refine InvL.cons (.inr (Holds.mp H)) ?_ | refine InvL.cons (.inl (by kernel_rfl)) ?_)) ?_
            repeat refine C_seq ?_
            refine C_false rfl (C_skip ?_)
            repeat refine C_seq ?_
            refine C_region ?_
            first | refine Lp_pv rfl rfl ?_ | refine Lp_mv rfl rfl ?_
            refine Lp_pv rfl rfl ?_
            first | refine Lp_pv rfl rfl ?_ | refine Lp_mv rfl rfl ?_
            refine Lp_nil ?_
            replace H := hclose _ _ H
            exact ⟨_, ⟨rfl, k + 1, by omega, by omega, rfl, rfl, rfl, rfl, rfl, rfl, rfl, rfl, rfl, rfl, inc64 (by omega), H⟩, by omega⟩
          · exact ⟨rfl, rfl, rfl, rfl, rfl, rfl, rfl, rfl, rfl, rfl, rfl, H⟩
        · clear H
          rintro ms σ w ⟨rfl, h0, h3, h4, h5, h6, h28, h29, h30, h8, H⟩
          rw [upd_self h0, upd_self h3, upd_self h4, upd_self h5, upd_self h6, upd_self h28, upd_self h29, upd_self h30, upd_self h8]
          obtain ⟨_, _, e0, hli⟩ := AL_take hl i hlt
          cases e0
          have hcap : i ≤ cap := by
            have := hl.cap
            omega
          repeat refine C_seq ?_
          refine C_region ?_
          first | refine Lp_pv rfl rfl ?_ | refine Lp_mv rfl rfl ?_
          refine Lp_nil ?_
          repeat refine C_seq ?_
          refine C_region ?_
          first | refine Lp_pv rfl rfl ?_ | refine Lp_mv rfl rfl ?_
          first | refine Lp_pv rfl rfl ?_ | refine Lp_mv rfl rfl ?_
          refine Lp_s rfl (St_sliceTo rfl rfl (by omega) (by omega) rfl ?_)
          refine Lp_s rfl (St_lenSlice rfl rfl ?_)
          first | refine Lp_pv rfl rfl ?_ | refine Lp_mv rfl rfl ?_
          refine Lp_nil ?_
          repeat refine C_seq ?_
          refine C_join (fun ms σ w => ms = [] ∧ σ 0 = .slice (some ⟨b, o, none⟩) l.length cap ∧ σ 3 = pp p ∧ σ 4 = .int .i64 (ofSrc m ((l.map (fun a => a.r.1)).take i) : Nat) ∧ σ 5 = .int .i64 i ∧ σ 6 = pp b6 ∧ σ 28 = .slice (some ⟨b, o, none⟩) l.length cap ∧ σ 29 = .int .i64 l.length ∧ σ 30 = .int .i64 i ∧ σ 8 = .slice a43 kf.length c43 ∧ σ 11 = .bool (decide (r1 ∈ (l.map (fun a => a.r.1)).take i)) ∧ Holds w [SR (.slice a43 kf.length c43) kf, RS p m, pts b6 (row 42 [.int .i64 kd, .int .i64 r1, .int .i64 r2, .int .i64 nn]), old W]) ?_ ?_
          · refine C_block ?_
            refine C_loop (fun ms σ w n => ms = [] ∧ ∃ k : Nat, k ≤ i ∧ n = i - k ∧ σ 0 = .slice (some ⟨b, o, none⟩) l.length cap ∧ σ 3 = pp p ∧ σ 4 = .int .i64 (ofSrc m ((l.map (fun a => a.r.1)).take i) : Nat) ∧ σ 5 = .int .i64 i ∧ σ 6 = pp b6 ∧ σ 28 = .slice (some ⟨b, o, none⟩) l.length cap ∧ σ 29 = .int .i64 l.length ∧ σ 30 = .int .i64 i ∧ σ 8 = .slice a43 kf.length c43 ∧ σ 11 = .bool (decide (r1 ∈ (l.map (fun a => a.r.1)).take k)) ∧ σ 110 = .slice (some ⟨b, o, none⟩) i cap ∧ σ 111 = .int .i64 i ∧ σ 112 = .int .i64 k ∧ Holds w [SR (.slice a43 kf.length c43) kf, RS p m, pts b6 (row 42 [.int .i64 kd, .int .i64 r1, .int .i64 r2, .int .i64 nn]), old W]) (m := i) ⟨rfl, 0, by omega, rfl, rfl, rfl, rfl, rfl, rfl, rfl, rfl, rfl, rfl, ?_, rfl, rfl, rfl, H⟩ ?_
            · rw [List.take_zero, decide_eq_false (by simp)]
              rfl
            clear H
            rintro ms σ w n ⟨rfl, k, hk, rfl, h0, h3, h4, h5, h6, h28, h29, h30, h8, h11, h110, h111, h112, H⟩
            rw [upd_self h0, upd_self h3, upd_self h4, upd_self h5, upd_self h6, upd_self h28, upd_self h29, upd_self h30, upd_self h8, upd_self h11, upd_self h110, upd_self h111, upd_self h112]
            repeat refine C_seq ?_
            refine C_region ?_
            refine Lp_pv rfl rfl ?_
            refine Lp_nil ?_
            repeat refine C_seq ?_
            refine C_dec rfl (fun h => C_skip ?_) (fun h => C_exit ?_)
            · have hkt : k < i := by omega
              have ha2 := List.getElem?_eq_getElem (l := l) (i := k) (by omega)
              generalize l[k]'(by omega) = a2 at ha2
              obtain ⟨b', o', E', fz', c', e', iold', hrd'⟩ := hl.at ha2
              cases e'
              have hts : (l.map (fun a => a.r.1)).take (k + 1) = (l.map (fun a => a.r.1)).take k ++ [a2.r.1] := by
                rw [List.take_add_one, List.getElem?_map, ha2]; rfl
              obtain ⟨kd2, ⟨s1, s2⟩, nn2⟩ := a2
              repeat refine C_seq ?_
              refine C_block ?_
              repeat refine C_seq ?_
              refine C_region ?_
              refine Lp_s rfl (St_indexAddr rfl rfl (by omega) (by omega) rfl ?_)
              refine Lp_s rfl (St_loadN H rfl hrd' rfl ?_)
              (refine Lp_s rfl (St_alloc H rfl ?_); clear H; intro b13 w H)
              first | (refine Lp_s rfl (St_store1 H rfl rfl inferInstance rfl (Nat.le_of_ble_eq_true rfl) rfl ?_); clear H; intro w H) | (refine Lp_s rfl (St_storeN H rfl rfl inferInstance rfl rfl (Nat.le_of_ble_eq_true rfl) rfl ?_); clear H; intro w H)
              refine Lp_nil ?_
              replace H := H.swap
              have hdk : decide (r1 ∈ (l.map (fun a => a.r.1)).take (k + 1)) = (decide (r1 ∈ (l.map (fun a => a.r.1)).take k) || (s1 == r1)) := by
                rw [hts, Bool.eq_iff_iff]
                simp
                exact or_congr Iff.rfl eq_comm
              by_cases hin : r1 ∈ (l.map (fun a => a.r.1)).take k
              · rw [decide_eq_true hin]
                rw [decide_eq_true hin, Bool.true_or] at hdk
                repeat refine C_seq ?_
                refine C_region ?_
                first | refine Lp_pv rfl rfl ?_ | refine Lp_mv rfl rfl ?_
                first | refine Lp_pv rfl rfl ?_ | refine Lp_mv rfl rfl ?_
                first | refine Lp_g rfl rfl rfl (St_fieldAddr rfl rfl ?_) | refine Lp_no rfl rfl rfl ?_ | refine Lp_nn rfl rfl ?_
                first | refine Lp_g rfl rfl rfl (St_fieldAddr rfl rfl ?_) | refine Lp_no rfl rfl rfl ?_ | refine Lp_nn rfl rfl ?_
                first | refine Lp_g rfl rfl rfl (St_load1 H rfl rfl rfl ?_) | refine Lp_g rfl rfl rfl (St_loadN H rfl (by repeat (first | exact Reads.nil _ | apply Reads.cons rfl)) rfl ?_) | refine Lp_no rfl rfl rfl ?_ | refine Lp_nn rfl rfl ?_
                first | refine Lp_g rfl rfl rfl (St_fieldAddr rfl rfl ?_) | refine Lp_no rfl rfl rfl ?_ | refine Lp_nn rfl rfl ?_
                first | refine Lp_g rfl rfl rfl (St_fieldAddr rfl rfl ?_) | refine Lp_no rfl rfl rfl ?_ | refine Lp_nn rfl rfl ?_
                first | refine Lp_g rfl rfl rfl (St_load1 H rfl rfl rfl ?_) | refine Lp_g rfl rfl rfl (St_loadN H rfl (by repeat (first | exact Reads.nil _ | apply Reads.cons rfl)) rfl ?_) | refine Lp_no rfl rfl rfl ?_ | refine Lp_nn rfl rfl ?_
                first | refine Lp_gpv rfl rfl rfl rfl ?_ | refine Lp_g rfl rfl rfl (St_eqPtrNil rfl rfl (.inl rfl) rfl ?_) | refine Lp_g rfl rfl rfl (St_eqMapNil rfl rfl (.inl rfl) rfl ?_) | refine Lp_g rfl rfl rfl (St_eqPair rfl rfl (.inl rfl) rfl ?_) | refine Lp_g rfl rfl rfl (St_eqBool rfl rfl (.inl rfl) rfl ?_) | refine Lp_g rfl rfl rfl (St_eqStr rfl rfl (.inl rfl) rfl ?_) | refine Lp_no rfl rfl rfl ?_ | refine Lp_nn rfl rfl ?_
                refine Lp_pv rfl rfl ?_
                first | refine Lp_pv rfl rfl ?_ | refine Lp_mv rfl rfl ?_
                refine Lp_nil ?_
                repeat refine C_seq ?_
                refine C_region ?_
                refine Lp_pv rfl rfl ?_
                first | refine Lp_pv rfl rfl ?_ | refine Lp_mv rfl rfl ?_
                refine Lp_nil ?_
                replace H := Holds.sel [0, 1, 1, 1] 1 H; dsimp only [SL.sel, SL.pull, List.drop] at H
                refine ⟨_, ⟨rfl, k + 1, hkt, rfl, rfl, rfl, rfl, rfl, rfl, rfl, rfl, rfl, rfl, ?_, rfl, rfl, inc64 (by omega), H⟩, by omega⟩
                rw [hdk]; rfl
              · rw [decide_eq_false hin]
                rw [decide_eq_false hin, Bool.false_or] at hdk
                repeat refine C_seq ?_
                refine C_region ?_
                first | refine Lp_pv rfl rfl ?_ | refine Lp_mv rfl rfl ?_
                first | refine Lp_pv rfl rfl ?_ | refine Lp_mv rfl rfl ?_
                first | refine Lp_g rfl rfl rfl (St_fieldAddr rfl rfl ?_) | refine Lp_no rfl rfl rfl ?_ | refine Lp_nn rfl rfl ?_
                first | refine Lp_g rfl rfl rfl (St_fieldAddr rfl rfl ?_) | refine Lp_no rfl rfl rfl ?_ | refine Lp_nn rfl rfl ?_
                first | refine Lp_g rfl rfl rfl (St_load1 H rfl rfl rfl ?_) | refine Lp_g rfl rfl rfl (St_loadN H rfl (by repeat (first | exact Reads.nil _ | apply Reads.cons rfl)) rfl ?_) | refine Lp_no rfl rfl rfl ?_ | refine Lp_nn rfl rfl ?_
                first | refine Lp_g rfl rfl rfl (St_fieldAddr rfl rfl ?_) | refine Lp_no rfl rfl rfl ?_ | refine Lp_nn rfl rfl ?_
                first | refine Lp_g rfl rfl rfl (St_fieldAddr rfl rfl ?_) | refine Lp_no rfl rfl rfl ?_ | refine Lp_nn rfl rfl ?_
                first | refine Lp_g rfl rfl rfl (St_load1 H rfl rfl rfl ?_) | refine Lp_g rfl rfl rfl (St_loadN H rfl (by repeat (first | exact Reads.nil _ | apply Reads.cons rfl)) rfl ?_) | refine Lp_no rfl rfl rfl ?_ | refine Lp_nn rfl rfl ?_
                first | refine Lp_gpv rfl rfl rfl rfl ?_ | refine Lp_g rfl rfl rfl (St_eqPtrNil rfl rfl (.inl rfl) rfl ?_) | refine Lp_g rfl rfl rfl (St_eqMapNil rfl rfl (.inl rfl) rfl ?_) | refine Lp_g rfl rfl rfl (St_eqPair rfl rfl (.inl rfl) rfl ?_) | refine Lp_g rfl rfl rfl (St_eqBool rfl rfl (.inl rfl) rfl ?_) | refine Lp_g rfl rfl rfl (St_eqStr rfl rfl (.inl rfl) rfl ?_) | refine Lp_no rfl rfl rfl ?_ | refine Lp_nn rfl rfl ?_
                refine Lp_pv rfl rfl ?_
                first | refine Lp_pv rfl rfl ?_ | refine Lp_mv rfl rfl ?_
                refine Lp_nil ?_
                repeat refine C_seq ?_
                refine C_region ?_
                refine Lp_pv rfl rfl ?_
                first | refine Lp_pv rfl rfl ?_ | refine Lp_mv rfl rfl ?_
                refine Lp_nil ?_
                replace H := Holds.sel [0, 1, 1, 1] 1 H; dsimp only [SL.sel, SL.pull, List.drop] at H
                refine ⟨_, ⟨rfl, k + 1, hkt, rfl, rfl, rfl, rfl, rfl, rfl, rfl, rfl, rfl, rfl, ?_, rfl, rfl, inc64 (by omega), H⟩, by omega⟩
                rw [hdk]; rfl
            · have hge : k = i := by omega
              subst hge
              exact ⟨rfl, rfl, rfl, rfl, rfl, rfl, rfl, rfl, rfl, rfl, rfl, rfl, H⟩
          · clear H
            rintro ms σ w ⟨rfl, h0, h3, h4, h5, h6, h28, h29, h30, h8, h11, H⟩
            rw [upd_self h0, upd_self h3, upd_self h4, upd_self h5, upd_self h6, upd_self h28, upd_self h29, upd_self h30, upd_self h8, upd_self h11]
            have hti : (l.map (fun a => a.r.1)).take (i + 1) = (l.map (fun a => a.r.1)).take i ++ [r1] := by
              rw [List.take_add_one, List.getElem?_map, ha]; rfl
            by_cases hin : r1 ∈ (l.map (fun a => a.r.1)).take i
            · rw [decide_eq_true hin]
              repeat refine C_seq ?_
              refine C_region ?_
              first | refine Lp_pv rfl rfl ?_ | refine Lp_mv rfl rfl ?_
              refine Lp_pv rfl rfl ?_
              refine Lp_nil ?_
              repeat refine C_seq ?_
              refine C_false rfl (C_skip ?_)
              repeat refine C_seq ?_
              refine C_region ?_
              refine Lp_pv rfl rfl ?_
              first | refine Lp_pv rfl rfl ?_ | refine Lp_mv rfl rfl ?_
              refine Lp_nil ?_
              replace H := Holds.sel [1, 2] 2 H; dsimp only [SL.sel, SL.pull, List.drop] at H
              refine ⟨_, ⟨rfl, i + 1, hlt, rfl, rfl, rfl, ?_, rfl, rfl, inc64 (by omega), H⟩, by omega⟩
              rw [hti, ofSrc_old hin]; rfl
            · rw [decide_eq_false hin]
              repeat refine C_seq ?_
              refine C_region ?_
              first | refine Lp_pv rfl rfl ?_ | refine Lp_mv rfl rfl ?_
              refine Lp_pv rfl rfl ?_
              refine Lp_nil ?_
              repeat refine C_seq ?_
              refine C_true rfl ?_
              repeat refine C_seq ?_
              refine C_region ?_
              first | refine Lp_pv rfl rfl ?_ | refine Lp_mv rfl rfl ?_
              first | refine Lp_pv rfl rfl ?_ | refine Lp_mv rfl rfl ?_
              refine Lp_s rfl (St_lenSlice rfl rfl ?_)
              refine Lp_pv rfl rfl ?_
              first | refine Lp_pv rfl rfl ?_ | refine Lp_mv rfl rfl ?_
              refine Lp_nil ?_
              repeat refine C_seq ?_
              refine C_region ?_
              refine Lp_pv rfl rfl ?_
              first | refine Lp_pv rfl rfl ?_ | refine Lp_mv rfl rfl ?_
              refine Lp_nil ?_
              replace H := Holds.sel [1, 2] 2 H; dsimp only [SL.sel, SL.pull, List.drop] at H
              refine ⟨_, ⟨rfl, i + 1, hlt, rfl, rfl, rfl, ?_, rfl, rfl, inc64 (by omega), H⟩, by omega⟩
              have hb := ofSrc_le m ((l.map (fun a => a.r.1)).take i)
              have hfm : kf.length = ofSrc m [r1] := from_len hnd hsf hkf
              have hb2 := ofSrc_le m [r1]
              rw [hti, ofSrc_new hin, ← hfm]
              show Value.int .i64 (IntKind.i64.wrap _) = _
              rw [wrap64 (by omega) (by omega)]; rfl
    · have hge : i = l.length := by omega
      subst hge
      rw [List.take_of_length_le (by simp), hall]
      repeat refine C_seq ?_
      refine C_region ?_
      first | refine Lp_pv rfl rfl ?_ | refine Lp_mv rfl rfl ?_
      first | refine Lp_pv rfl rfl ?_ | refine Lp_mv rfl rfl ?_
      refine Lp_s rfl (St_call (a := []) (b := []) rfl rfl (call (Len_spec p m H) ?_))
      clear H; rintro v w ⟨rfl, H⟩
      first | refine Lp_pv rfl rfl ?_ | refine Lp_s rfl (St_eqPtrNil rfl rfl (.inl rfl) rfl ?_) | refine Lp_s rfl (St_eqMapNil rfl rfl (.inl rfl) rfl ?_) | refine Lp_s rfl (St_eqPair rfl rfl (.inl rfl) rfl ?_) | refine Lp_s rfl (St_eqBool rfl rfl (.inl rfl) rfl ?_) | refine Lp_s rfl (St_eqStr rfl rfl (.inl rfl) rfl ?_)
      first | refine Lp_pv rfl rfl ?_ | refine Lp_mv rfl rfl ?_
      refine Lp_nil ?_
      replace H := H.drop
      refine C_ret (fn_end0 _ (.inr rfl) H rfl fun w' H' => ⟨?_, H'⟩)
      show Value.bool ((m.length : Int) == m.length) = _
      simp
end Go.Proofs.Ytdpephigccnkdaa
