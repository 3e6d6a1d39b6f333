/- Cells: what is proved on the way: every input of the statement; no condition. Texts joined: LawL SlZ. -/
import Derived.Test.YtcaaojbnjfdglaaGreatDoorCau
import Derived.Test.YtcaaojbnjfdglaaGreatDoorCac
import Derived.WideKeyArgs
import Derived.ChangeOld
import Derived.OpenShut
import Derived.ProofKit
import Derived.Deep.Slices
set_option linter.unusedVariables false
set_option linter.unusedSimpArgs false
set_option linter.unusedSectionVars false
namespace Go.Proofs.YtcaaojbnjfdglaaGreatDoor
open Go.SL

theorem AcOK.there {A : HProp} {fr : List HProp} {x : Ac} (h : AcOK fr x) : AcOK (A :: fr) x := ⟨h.1, h.2.1, h.2.2.there⟩
theorem Acts_walk [Extra] (z1 z2 z3 : Int) (v : Value) (l : List Ac) (hl : l.length ≤ 9223372036854775807) {w : World} {fr : List HProp} [hT : HasTab 0 Lib.deBruijn64tab fr] (hr : RdS fr v l.length 9 (acells l)) (hok : ∀ x ∈ l, AcOK fr x) (H : Holds w fr) :
    Calls Tryz.prog 4 #[.agg #[.int .i64 z1, .int .i64 z2, .int .i64 z3], v] w (ret fun r w' => r = .bool true ∧ Holds w' fr) := by
  obtain ⟨_, ad, cap, rfl, hrd⟩ := id hr
  refine calls_of Tryz.func4 rfl (by kernel_rfl) ?_
  repeat refine C_seq ?_
  refine C_region ?_
  (refine Lp_s rfl (St_boxN H rfl rfl ?_); clear H; intro b2 w H)
  refine Lp_pv rfl rfl ?_
  refine Lp_nil ?_
  repeat refine C_seq ?_
  refine C_region ?_
  refine Lp_s rfl (St_loadN H rfl (by repeat (first | exact Reads.nil _ | apply Reads.cons rfl)) rfl ?_)
  refine Lp_s rfl (St_call (a := []) (b := []) rfl rfl (call (Of_spec z1 z2 z3 H) ?_))
  clear H; rintro r w ⟨p, n, size, slots, rfl, hn1, hn2, hs1, hs2, ht1, ht2, H⟩
  refine Lp_pv rfl rfl ?_
  refine Lp_nil ?_
  repeat refine C_seq ?_
  refine C_region ?_
  refine Lp_s rfl (St_call (a := []) (b := []) rfl rfl (call (alive15_spec H) ?_))
  clear H; rintro v w ⟨rfl, H⟩
  refine Lp_pv rfl rfl ?_
  refine Lp_pv rfl rfl ?_
  refine Lp_gpv rfl rfl rfl rfl ?_
  refine Lp_g rfl rfl rfl (St_eqPtrNil rfl rfl (.inl rfl) rfl ?_)
  refine Lp_pv rfl rfl ?_
  refine Lp_pv rfl rfl ?_
  refine Lp_gpv rfl rfl rfl rfl ?_
  refine Lp_g rfl rfl rfl (St_call (a := []) (b := []) rfl rfl (call (over_spec _ l hl hr.there.there (fun x hx => (hok x hx).there.there) H) ?_))
  clear H; rintro r w ⟨b, rfl, hb, H⟩
  cases b with
  | true =>
    refine Lp_pv rfl rfl ?_
    refine Lp_nil ?_
    repeat refine C_seq ?_
    refine C_true rfl ?_
    repeat refine C_seq ?_
    refine C_region ?_
    refine Lp_s rfl (St_call (a := []) (b := []) rfl rfl (call (alive15_spec H) ?_))
    clear H; rintro v w ⟨rfl, H⟩
    refine Lp_pv rfl rfl ?_
    refine Lp_gpv rfl rfl rfl rfl ?_
    refine Lp_g rfl rfl rfl (St_eqPtrNil rfl rfl (.inr rfl) rfl ?_)
    refine Lp_pv rfl rfl ?_
    refine Lp_pv rfl rfl ?_
    refine Lp_nil ?_
    exact C_ret (fn_end0 _ (.inr rfl) H.drop.drop rfl fun w' H' => ⟨rfl, H'⟩)
  | false =>
    have h60 := hb rfl
    refine Lp_pv rfl rfl ?_
    refine Lp_nil ?_
    repeat refine C_seq ?_
    refine C_false rfl (C_skip ?_)
    repeat refine C_seq ?_
    refine C_region ?_
    refine Lp_pv rfl rfl ?_
    refine Lp_s rfl (St_lenSlice rfl rfl ?_)
    refine Lp_pv rfl rfl ?_
    refine Lp_nil ?_
    replace H := (H.swap).drop
    repeat refine C_seq ?_
    refine C_join (fun ms σ w => ms = [] ∧ ∃ s m told, Rel s m told ∧ Fresh s told ∧ m.objs.length ≤ 60 ∧ σ 5 = pp p ∧ Holds w (RUN p s m told :: fr)) ?_ ?_
    · refine C_block ?_
      refine C_loop (fun ms σ w n => ms = [] ∧ ∃ (i : Nat) (s : CS) (m : MS) (told : List (Nat × Nat)), i ≤ l.length ∧ n = l.length - i ∧ Rel s m told ∧ Fresh s told ∧ m.objs.length ≤ i ∧ m.P.length ≤ i + 1 ∧ σ 5 = pp p ∧ σ 25 = .slice ad l.length cap ∧ σ 26 = .int .i64 l.length ∧ σ 27 = .int .i64 i ∧ Holds w (RUN p s m told :: fr)) (m := l.length) ⟨rfl, 0, _, _, _, by omega, rfl, rel0 n size slots, fresh0 n size slots, by decide, by decide, rfl, rfl, rfl, rfl, H⟩ ?_
      clear H
      rintro ms σ w n' ⟨rfl, i, s, m, told, hi, rfl, R, F, hob, hP, g5, g25, g26, g27, H⟩
      rw [upd_self g5, upd_self g25, upd_self g26, upd_self g27]
      repeat refine C_seq ?_
      refine C_region ?_
      refine Lp_pv rfl rfl ?_
      refine Lp_nil ?_
      repeat refine C_seq ?_
      refine C_dec rfl (fun h => C_skip ?_) (fun h => C_exit ?_)
      · have hlt : i < l.length := by omega
        have hy := List.getElem?_eq_getElem hlt
        generalize l[i] = y at hy
        obtain ⟨hX, hws, hrW⟩ := hok y (List.mem_of_getElem? hy)
        rcases hrd with hz | ⟨b, o, E, fz, c, rfl, hA, hrd⟩
        · omega
        haveI := hA
        obtain ⟨k, A, B, C, X, vW, ws, raw, i1, g1⟩ := y
        obtain ⟨_, adW, capW, hvW, _⟩ := id hrW
        replace hvW : vW = .slice adW ws.length capW := hvW
        subst hvW
        repeat refine C_seq ?_
        refine C_block ?_
        repeat refine C_seq ?_
        refine C_region ?_
        refine Lp_s rfl (St_indexAddr rfl rfl (by omega) (by omega) rfl ?_)
        refine Lp_s rfl (St_loadN H rfl (acells_el hrd hy) rfl ?_)
        (refine Lp_s rfl (St_alloc H rfl ?_); clear H; intro b7 w H)
        (refine Lp_s rfl (St_storeN H rfl rfl inferInstance rfl rfl (Nat.le_of_ble_eq_true rfl) rfl ?_); clear H; intro w H)
        refine Lp_nil ?_
        replace H := H.swap
        repeat refine C_seq ?_
        refine C_region ?_
        refine Lp_pv rfl rfl ?_
        refine Lp_s rfl (St_loadN H rfl (by repeat (first | exact Reads.nil _ | apply Reads.cons rfl)) rfl ?_)
        refine Lp_s rfl (St_call (a := []) (b := []) rfl rfl (call (Do_spec p s m told R F.seq (by omega) (by omega) k A B C i1 g1 X hX _ ws hws raw hrW.there H) ?_))
        clear H; rintro r w ⟨rfl, s', m', told', R', S', H⟩
        refine Lp_pv rfl rfl ?_
        refine Lp_nil ?_
        repeat refine C_seq ?_
        refine C_false rfl (C_skip ?_)
        repeat refine C_seq ?_
        refine C_region ?_
        refine Lp_pv rfl rfl ?_
        refine Lp_pv rfl rfl ?_
        refine Lp_nil ?_
        replace H := (H.swap).drop
        have h1 := S'.objs
        have h2 := S'.P
        exact ⟨_, ⟨rfl, i + 1, s', m', told', hlt, rfl, R', F.step S', by omega, by omega, rfl, rfl, rfl, inc64 (by omega), H⟩, by omega⟩
      · exact ⟨rfl, rfl, s, m, told, R, F, by omega, rfl, H⟩
    clear H
    rintro ms σ w ⟨rfl, s, m, told, R, F, hob, g5, H⟩
    rw [upd_self g5]
    repeat refine C_seq ?_
    refine C_region ?_
    refine Lp_pv rfl rfl ?_
    refine Lp_s rfl (St_call (a := []) (b := []) rfl rfl (call (Same15_spec p s m told R H) ?_))
    clear H; rintro v w ⟨rfl, H⟩
    refine Lp_pv rfl rfl ?_
    refine Lp_nil ?_
    exact C_ret (fn_end0 _ (.inr rfl) H.drop rfl fun w' H' => ⟨rfl, H'⟩)
end Go.Proofs.YtcaaojbnjfdglaaGreatDoor
namespace Go.SL
open Go.ChangeShapes

section
variable {H : Type} {enc : TypeId × Value → H} {P : Program} {W W' : World}

theorem trodAll_stays (hl : laidOutB P = true) : ∀ {ts : List TypeId} {vs : List Value} {ds : List (DataW H)} {ps : List MemPlace} {sp : Nat → Bool}, (∀ t ∈ ts, P.readableRec t = true ∧ t < P.types.size) →
    DataW.TrodAll enc P W 0 (fun _ => true) true ts vs ds ps → (∀ p ∈ ps, W.sameAt W' p) → (∀ p ∈ ps, sp p.block = true) → DataW.TrodAll enc P W' 0 sp true ts vs ds ps
  | [], [], [], _, _, _, h, _, _ => h
  | t :: ts, v :: vs, d :: ds, _, sp, hr, ⟨p, q, h, hs, e⟩, same, hsp => by
    subst e
    have hr0 := hr t (by simp)
    exact ⟨p, q, Go.WideElems.Trod_stays hl hr0.1 hr0.2 h (fun x hx => same x (List.mem_append_left _ hx)) (fun x hx => hsp x (List.mem_append_left _ hx)),
      trodAll_stays hl (fun t ht => hr t (by simp [ht])) hs (fun x hx => same x (List.mem_append_right _ hx)) (fun x hx => hsp x (List.mem_append_right _ hx)), rfl⟩

/-- What a statement asks at the end, from this: old blocks are as they were. -/
theorem closing {f : Func} {s : ChangeSpec} {args : Array Value} {v : Value} {ds gs : List (DataW H)} {before : List MemPlace} (hl : laidOutB P = true) (hts : ∀ t ∈ f.params.toList, P.readableRec t = true ∧ t < P.types.size)
    (hv : s.vars = []) (hW : DataW.Whole enc P f.params.toList s.vars false W args.toList ds gs before) (hh : ∀ b, b < W.heap.size → W'.heap[b]? = W.heap[b]?) (hos : W'.os = W.os) (hout : W'.output = W.output)
    (ha : (s.fn H (ds ++ gs)).args = ds) (hva : (s.fn H (ds ++ gs)).vars = [])
    (hres : DataW.TrodAll enc P W' W.heap.size (fun _ => false) false f.resultTypes.toList (v.resultList f.resultTypes.size) (s.fn H (ds ++ gs)).results []) : s.post enc P f false true false false W args v W' := by
  have hlt := hW.lt
  have hW' := hW
  obtain ⟨p, q, h1, h2, rfl, h3, h4⟩ := hW
  rw [hv] at h2
  obtain ⟨rfl, rfl⟩ := trodVars_none h2
  have same : ∀ x ∈ p, W.sameAt W' x := by
    intro x hx
    have hb := hlt x (by simp [hx])
    cases x with
    | cell b off => show W'.cell? _ = W.cell? _; unfold World.cell?; rw [hh b hb]
    | map b => exact hh b hb
  have hsp : ∀ x ∈ p, (fun b => decide (b < W.heap.size)) x.block = true := fun x hx => by
    have := hlt x (by simp [hx])
    simpa using this
  refine ⟨ds, [], p ++ [], [], p, [], hW', hres, ?_, ?_, ⟨hos, hout, fun i hi => ?_⟩, fun h => by cases h⟩
  · rw [ha]
    exact trodAll_stays hl hts h1 same hsp
  · rw [hva, hv]
    show ([] : List MemPlace) = []
    rfl
  · rw [hh i hi]
    cases hx : W.heap[i]? with
    | none => trivial
    | some o => cases o <;> simp
end
end Go.SL
