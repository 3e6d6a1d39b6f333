/- Cells: what is proved on the way: every input of the statement; no condition. Texts joined: Srd SlJ SlI SlZ Dic RemA. -/
import Derived.Shelf.SlGeneric
import Derived.Shelf.Slices.Delete
import Derived.Ground.Names2Prog
import Derived.Test.YtipelpbkeiphmaaGreatDoorProg
import Derived.Test.YtipelpbkeiphmaaGreatDoorBae
import Derived.Test.YtipelpbkeiphmaaGreatDoorBac
import Derived.RangeFuncNested
import Derived.WideKeyArgs
import Derived.ChangeOld
import Derived.OpenShut
import Derived.ProofKit
import Derived.Deep.Slices
import Derived.Test.YtipelpbkeiphmaaGreatDoorBaa
import Derived.Test.YtipelpbkeiphmaaGreatDoorBab
import Derived.Test.YtipelpbkeiphmaaGreatDoorBad
namespace Go.Proofs
open Go.Shelf
def Tryz.laysDel_ren : Go.Shelf.Ren := ⟨fun | 23 => 247 | n => n, fun | 22 => 46 | 3 => 3 | 4 => 4 | 0 => 0 | n => n, fun | n => n⟩
theorem Tryz.laysDel : Go.Proofs.Lays2.n23 Tryz.prog Tryz.laysDel_ren := {
  mixed := by kernel_rfl
  f23 := Tryz.func247.trans (congrArg some (by kernel_rfl))
  t0 := Tryz.underlying0
  a0 := Tryz.isAgg0
  z0 := Tryz.sizeOf0
  v0 := Tryz.zeroValue0
  t3 := Tryz.underlying3
  a3 := Tryz.isAgg3
  z3 := Tryz.sizeOf3
  v3 := Tryz.zeroValue3
  t4 := Tryz.underlying4
  a4 := Tryz.isAgg4
  z4 := Tryz.sizeOf4
  v4 := Tryz.zeroValue4
  t22 := Tryz.underlying46
  a22 := Tryz.isAgg46
  z22 := Tryz.sizeOf46
  v22 := Tryz.zeroValue46
  i3 := by kernel_rfl }
end Go.Proofs
set_option linter.unusedVariables false
set_option linter.unusedSimpArgs false
set_option linter.unusedSectionVars false
namespace Go.SL
section
variable {P : Program} {n : Nat} {r : Option Nat} {ops : Array Oper} {Q : Post} {ms : List Nat} {σ : Env} {w : World} {rest : List Oper} {o : Oper} {K : Env → World → Prop} {l l' : List HProp}
variable {ivs : List (List Nat × (World → Prop))} {T : Env → World → Prop} {f : Nat} {L : Array Bool}
variable {u t s : TypeId} {p : String} {af : Array Edge} {g : Option (Nat × Bool)} {d : Option Tmp} {x y z : Operand}

theorem run_slice3 {e size bytes b o2 len cap i j : Nat} {q q' : IntKind} (hT : TSlice P t e size bytes) (h1 : i ≤ j) (h2 : j ≤ cap) :
    (Instr.sliceAt t (.slice (some ⟨b, o2, none⟩) len cap) none (some (.int q (i : Int))) (some (.int q' (j : Int)))).run P w = .ok (.slice (some ⟨b, o2, none⟩) i j) w := by
  have hs : (sizeOf e).run P w = .ok size w := by
    obtain ⟨k, hk, e2⟩ := Option.map_eq_some_iff.1 hT.info
    simp only [Prod.mk.injEq] at e2
    exact run_sizeOf' (by rw [hk]; simp [e2.1])
  have b1 : (0 : Int) ≤ i ∧ (i : Int) ≤ j := by omega
  have b2 : (0 : Int) ≤ j ∧ (j : Int) ≤ cap := by omega
  simp [Instr.sliceAt, Instr.slice, run_und hT.und, Instr.sliceBounds, Instr.sliceBound, asIntOf, h1, h2, hs, add_lit']
theorem A_slice3 {e size bytes b o2 len cap i j : Nat} {q q' : IntKind} (m : Nat) (hm : ops[m]? = some ⟨d, .slice t x none (some y) (some z), u, p, af, g⟩) (hg : Wants ops σ ⟨d, .slice t x none (some y) (some z), u, p, af, g⟩ true) [hT : TSlice P t e size bytes] (hx : ev σ x = .slice (some ⟨b, o2, none⟩) len cap) (hy : ev σ y = .int q (i : Int)) (hz : ev σ z = .int q' (j : Int)) (h1 : i ≤ j) (h2 : j ≤ cap)
    (hb : stB n ops (ivs.map (·.1)) L m [] = true) (k : Any P n r ops ivs T f (L.setIfInBounds m true) (put σ d (.slice (some ⟨b, o2, none⟩) i j)) w) : Any P n r ops ivs T (f + 1) L σ w :=
  A_val m hm hg (fun c e => by cases e) (fun w => by simp only [execOp, hx, hy, hz, Option.map_some, Option.map_none, Sem.run_bind, run_slice3 hT h1 h2, Result.andThen_ok, Sem.run_pure]) hb k
theorem run_sliceFromV {e size bytes b o2 len cap i : Nat} {q : IntKind} (hT : TSlice P t e size bytes) (h1 : i ≤ len) (h2 : len ≤ cap) :
    (Instr.sliceAt t (.slice (some ⟨b, o2, none⟩) len cap) (some (.int q (i : Int))) none none).run P w = .ok (.slice (some ⟨b, if cap = i then o2 else o2 + i * size, none⟩) (len - i) (cap - i)) w := by
  have hs : (sizeOf e).run P w = .ok size w := by
    obtain ⟨k, hk, e2⟩ := Option.map_eq_some_iff.1 hT.info
    simp only [Prod.mk.injEq] at e2
    exact run_sizeOf' (by rw [hk]; simp [e2.1])
  have b1 : (0 : Int) ≤ i ∧ (i : Int) ≤ len := by omega
  by_cases he : cap = i
  · simp [Instr.sliceAt, Instr.slice, run_und hT.und, Instr.sliceBounds, Instr.sliceBound, asIntOf, h1, h2, hs, add_lit', he]
  · simp [Instr.sliceAt, Instr.slice, run_und hT.und, Instr.sliceBounds, Instr.sliceBound, asIntOf, h1, h2, hs, add_lit', he]
theorem A_sliceFromV {e size bytes b o2 len cap i : Nat} {q : IntKind} (m : Nat) (hm : ops[m]? = some ⟨d, .slice t x (some y) none none, u, p, af, g⟩) (hg : Wants ops σ ⟨d, .slice t x (some y) none none, u, p, af, g⟩ true) [hT : TSlice P t e size bytes] (hx : ev σ x = .slice (some ⟨b, o2, none⟩) len cap) (hy : ev σ y = .int q (i : Int)) (h1 : i ≤ len) (h2 : len ≤ cap)
    (hb : stB n ops (ivs.map (·.1)) L m [] = true) (k : Any P n r ops ivs T f (L.setIfInBounds m true) (put σ d (.slice (some ⟨b, if cap = i then o2 else o2 + i * size, none⟩) (len - i) (cap - i))) w) : Any P n r ops ivs T (f + 1) L σ w :=
  A_val m hm hg (fun c e => by cases e) (fun w => by simp only [execOp, hx, hy, Option.map_some, Option.map_none, Sem.run_bind, run_sliceFromV hT h1 h2, Result.andThen_ok, Sem.run_pure]) hb k

/-- 'append(x[:i:i], x[i+1:]...)': the same without one. -/
theorem St_appCut [Extra] {e size bytes b o' N i m c2 : Nat} {zv : Value} {c spare : List Value} [hT : TSlice P t e size bytes] [hz : TZero P e zv] (H : Holds w (pts b (row e (c ++ spare)) :: l))
    (hx : ev σ x = .slice (some ⟨b, 0, none⟩) i i) (hy : ev σ y = .slice (some ⟨b, o', none⟩) m c2) (hc : c.length = N * size) (hi : i < N) (hm : m = N - (i + 1)) (ho : 0 < m → o' = (i + 1) * size) (hN : N ≤ 1000000)
    (hb : c.length * bytes ≤ 140737488355328) (hd : okd n d = true) (hq : (decide ((cellsL zv).length = size) && decide (0 < size) && decide (0 < bytes)) = true)
    (k : ∀ v' w', Holds w' (sls e size v' (c.take (i * size) ++ c.drop ((i + 1) * size)) :: l) → K (put σ d v') w') : St P n r ⟨d, .call { callee := .builtin .append, args := #[x, y], argTypes := #[t, t] }, u, p, af, g⟩ σ w K := by
  simp only [Bool.and_eq_true, decide_eq_true_eq] at hq
  obtain ⟨⟨hzl, hsz⟩, hby⟩ := hq
  have hN1 : (i + 1) * size ≤ N * size := Nat.mul_le_mul_right _ hi
  have hi1 : (i + 1) * size = i * size + size := Nat.succ_mul i size
  have htl : (c.take (i * size)).length = i * size := by rw [List.length_take]; omega
  rcases Nat.eq_zero_or_pos m with hm0 | hmp
  · obtain rfl : N = i + 1 := by omega
    subst hm0
    have hdr : c.drop ((i + 1) * size) = [] := List.drop_eq_nil_of_le (by omega)
    refine St_value (v := .slice (some ⟨b, 0, none⟩) i i) (w' := w) hd (fun c e => by cases e) ?_ (k _ _ ?_)
    · simp [execOp, resolve, invoke, builtin, hx, hy, run_append0 (w := w) hT u (Nat.le_refl i)]
    · rw [hdr, List.append_nil]
      refine sls_of (spare := c.drop (i * size) ++ spare) htl ⟨Nat.le_refl _, by omega⟩ (by simp) ?_
      rw [← List.append_assoc, List.take_append_drop]
      exact H
  · have hbk := H.pts
    obtain ⟨j, hj, e2⟩ := Option.map_eq_some_iff.1 hT.info
    simp only [Prod.mk.injEq] at e2
    obtain ⟨i1, i2⟩ := e2
    obtain ⟨j', hj', hz'⟩ := Option.map_eq_some_iff.1 hz.zero
    have : j' = j := by rw [hj] at hj'; cases hj'; rfl
    subst this
    have hzc : zv.cells.size = size := by rw [cellsL_eq, hzl]
    have hdl : (c.drop ((i + 1) * size)).length = m * size := by rw [List.length_drop, hc, ← Nat.sub_mul, hm]
    have him : i + m + 1 = N := by omega
    have bb : N ≤ N * bytes := Nat.le_mul_of_pos_right N hby
    have mb : N ≤ N * size := Nat.le_mul_of_pos_right N hsz
    have hNb : N * bytes ≤ c.length * bytes := Nat.mul_le_mul_right _ (by rw [hc]; exact mb)
    have hib : (i + m) * bytes ≤ N * bytes := Nat.mul_le_mul_right _ (by omega)
    have holds : ∀ q v, (c.take (i * size))[q]? = some v → w.cell? ((⟨b, 0, none⟩ : Addr).add q) = some v := fun q v hv => by
      rw [add_lit', Nat.zero_add]
      refine cell_row hbk ?_
      have h1 := (List.getElem?_eq_some_iff.1 hv).1
      rw [htl] at h1
      rw [List.getElem?_append_left (by omega)]
      rw [List.getElem?_take_of_lt h1] at hv
      exact hv
    have hnews : ∀ q v, (c.drop ((i + 1) * size))[q]? = some v → w.cell? ((⟨b, o', none⟩ : Addr).add q) = some v := fun q v hv => by
      rw [add_lit', ho hmp]
      refine cell_row hbk ?_
      have h1 := (List.getElem?_eq_some_iff.1 hv).1
      rw [hdl] at h1
      rw [List.getElem?_drop] at hv
      rw [List.getElem?_append_left (List.getElem?_eq_some_iff.1 hv).1]
      exact hv
    have hr := run_append_grow (P := P) w t u e j' zv hT.und hj hz' ⟨b, 0, none⟩ i i (c.take (i * size)) (by rw [i1]; exact htl) holds ⟨b, o', none⟩ m c2 (c.drop ((i + 1) * size)) (by rw [i1]; exact hdl) hnews (by omega) (by omega)
      (growslice_fits (by omega) (by rw [i2]; omega))
    refine St_value (v := .slice (some ⟨w.heap.size, 0, none⟩) (i + m) (grownCap w (i + m) i e)) (w' := w.drew.alloc (.cells ((c.take (i * size)).toArray ++ (c.drop ((i + 1) * size)).toArray ++ Builtin.zeroCells zv.cells (grownCap w (i + m) i e - (i + m))) e)) hd (fun c e => by cases e) (by simp only [execOp, resolve, invoke, builtin, Sem.run_bind, Sem.run_pure, Result.andThen_ok, List.map_toArray, List.map_cons, List.map_nil, hx, hy, hr]) (k _ _ ?_)
    have hg : i + m ≤ grownCap w (i + m) i e ∧ grownCap w (i + m) i e ≤ 9223372036854775807 := ⟨grownCap_ge w (i + m) i e, grownCap_le_maxLen w (i + m) i e (by unfold maxLen; omega)⟩
    refine sls_of (spare := (Builtin.zeroCells zv.cells (grownCap w (i + m) i e - (i + m))).toList) (by rw [List.length_append, htl, hdl, Nat.add_mul]) hg (by simp [size_zeroCells, hzc]) ?_
    have H' : Holds w.drew l := H.drop.heap rfl
    have := H'.new (.cells ((c.take (i * size)).toArray ++ (c.drop ((i + 1) * size)).toArray ++ Builtin.zeroCells zv.cells (grownCap w (i + m) i e - (i + m))) e (0, 0))
    refine this.head fun h x => ?_
    have e3 : (c.take (i * size)).toArray ++ (c.drop ((i + 1) * size)).toArray ++ Builtin.zeroCells zv.cells (grownCap w (i + m) i e - (i + m)) = (c.take (i * size) ++ c.drop ((i + 1) * size) ++ (Builtin.zeroCells zv.cells (grownCap w (i + m) i e - (i + m))).toList).toArray := by apply Array.ext'; simp
    rw [e3] at x
    exact x
end
end Go.SL
namespace Go.SL
section
variable {P : Program} {n : Nat} {r : Option Nat} {Q : Post} {ms : List Nat} {σ : Env} {w : World} {l : List HProp}
theorem fn_endCD [Extra] {fn : Func} {R : Value → World → Prop} {e : Exit} {vs : List Value} (l : List HProp) (he : e = .normal ∨ e = .ret) (H : Holds w (mk ms :: l))
    (hv : ∀ w', Holds w' l → ResAt P σ w' fn.results.toList vs) (hR : ∀ w', Holds w' l → R (resV vs) w') : fnPost P n fn R e ms σ w :=
  ⟨he, .inl ⟨l, H, fun w' H' a ra => ⟨_, results_at ra (hv w' H'), hR w' H'⟩⟩⟩
end
end Go.SL
namespace Go.SL
open Go.ChangeShapes

section
variable {H : Type} {enc : TypeId × Value → H} {P : Program} {W W' : World}

theorem trodAll_stays (hl : laidOutB P = true) : ∀ {ts : List TypeId} {vs : List Value} {ds : List (DataW H)} {ps : List MemPlace} {sp : Nat → Bool}, (∀ t ∈ ts, P.readableRec t = true ∧ t < P.types.size) →
    DataW.TrodAll enc P W 0 (fun _ => true) true ts vs ds ps → (∀ p ∈ ps, W.sameAt W' p) → (∀ p ∈ ps, sp p.block = true) → DataW.TrodAll enc P W' 0 sp true ts vs ds ps
  | [], [], [], _, _, _, h, _, _ => h
  | t :: ts, v :: vs, d :: ds, _, sp, hr, ⟨p, q, h, hs, e⟩, same, hsp => by
    subst e
    have hr0 := hr t (by simp)
    exact ⟨p, q, Go.WideElems.Trod_stays hl hr0.1 hr0.2 h (fun x hx => same x (List.mem_append_left _ hx)) (fun x hx => hsp x (List.mem_append_left _ hx)),
      trodAll_stays hl (fun t ht => hr t (by simp [ht])) hs (fun x hx => same x (List.mem_append_right _ hx)) (fun x hx => hsp x (List.mem_append_right _ hx)), rfl⟩

/-- What a statement asks at the end, from this: old blocks are as they were. -/
theorem closing {f : Func} {s : ChangeSpec} {args : Array Value} {v : Value} {ds gs : List (DataW H)} {before : List MemPlace} (hl : laidOutB P = true) (hts : ∀ t ∈ f.params.toList, P.readableRec t = true ∧ t < P.types.size)
    (hv : s.vars = []) (hW : DataW.Whole enc P f.params.toList s.vars false W args.toList ds gs before) (hh : ∀ b, b < W.heap.size → W'.heap[b]? = W.heap[b]?) (hos : W'.os = W.os) (hout : W'.output = W.output)
    (ha : (s.fn H (ds ++ gs)).args = ds) (hva : (s.fn H (ds ++ gs)).vars = [])
    (hres : DataW.TrodAll enc P W' W.heap.size (fun _ => false) false f.resultTypes.toList (v.resultList f.resultTypes.size) (s.fn H (ds ++ gs)).results []) : s.post enc P f false true false false W args v W' := by
  have hlt := hW.lt
  have hW' := hW
  obtain ⟨p, q, h1, h2, rfl, h3, h4⟩ := hW
  rw [hv] at h2
  obtain ⟨rfl, rfl⟩ := trodVars_none h2
  have same : ∀ x ∈ p, W.sameAt W' x := by
    intro x hx
    have hb := hlt x (by simp [hx])
    cases x with
    | cell b off => show W'.cell? _ = W.cell? _; unfold World.cell?; rw [hh b hb]
    | map b => exact hh b hb
  have hsp : ∀ x ∈ p, (fun b => decide (b < W.heap.size)) x.block = true := fun x hx => by
    have := hlt x (by simp [hx])
    simpa using this
  refine ⟨ds, [], p ++ [], [], p, [], hW', hres, ?_, ?_, ⟨hos, hout, fun i hi => ?_⟩, fun h => by cases h⟩
  · rw [ha]
    exact trodAll_stays hl hts h1 same hsp
  · rw [hva, hv]
    show ([] : List MemPlace) = []
    rfl
  · rw [hh i hi]
    cases hx : W.heap[i]? with
    | none => trivial
    | some o => cases o <;> simp
end
end Go.SL
namespace Go.SL
section
variable [Extra] {P : Program} {n : Nat} {r : Option Nat} {ops : Array Oper} {Q : Post} {ms : List Nat} {σ : Env} {w : World} {rest : List Oper} {o : Oper} {l : List HProp} {ivs : List (List Nat × (World → Prop))} {T : Env → World → Prop} {f : Nat} {L : Array Bool} {t u : TypeId} {p : String} {af : Array Edge} {g : Option (Nat × Bool)} {d : Option Tmp} {x : Operand} {G K : Prop}
theorem Jo (j : Nat) (H : Holds w l) (k : St P n r o σ w (Any P n r ops ivs T f (L.setIfInBounds j true))) (hi : ops[j]? = some o := by rfl) (hr : Region.ready .any ops L = [j] := by kernel_rfl)
    (hI : Holds w l → InvL ivs L w := by intro H; repeat first | exact InvL.nil | refine InvL.cons (.inr (Holds.at H)) ?_ | refine InvL.cons (.inr (Holds.mp H)) ?_ | refine InvL.cons (.inl (by kernel_rfl)) ?_)
    (hg : Wants ops σ o true := by first | exact Wants.none rfl | exact Wants.of rfl rfl rfl) : Any P n r ops ivs T (f + 1) L σ w := A_one j hi hr (hI H) hg k
theorem Jk {f : FuncId} {K : Env → World → Prop} {xs : List Operand} {ts : Array TypeId} {R : Value → World → Prop} (hx : ev σ x = .func (.func f) #[] #[]) [hb : TBody P f] (hd : okd n d = true) (s : Calls P f (xs.map (ev σ)).toArray w (ret R)) (k : ∀ v w', R v w' → K (put σ d v) w') :
    St P n r ⟨d, .call { callee := .value x, args := xs.toArray, argTypes := ts }, u, p, af, g⟩ σ w K := St_call (a := []) (b := []) hx hd (by rw [List.nil_append, List.append_nil]; exact call s k)
theorem Jc {f : FuncId} {xs : List Operand} {ts : Array TypeId} {R : Value → World → Prop} (hx : ev σ x = .func (.func f) #[] #[]) [hb : TBody P f] (hd : okd n d = true) (s : Calls P f (xs.map (ev σ)).toArray w (ret R)) (k : ∀ v w', R v w' → Lp P n r ops Q rest ms (put σ d v) w') :
    Lp P n r ops Q (⟨d, .call { callee := .value x, args := xs.toArray, argTypes := ts }, u, p, af, none⟩ :: rest) ms σ w := Lp_s rfl (Jk hx hd s k)
theorem Js {l' : List HProp} (is : List Nat) (m : Nat) (H : Holds w l) (h : Holds w (sel is m l) → Holds w l' := by intro H; dsimp only [SL.sel, SL.pull, List.drop] at H; exact H) : Holds w l' := h (H.sel is m)
theorem Jy {fn : Func} {R : Value → World → Prop} {e : Exit} {vs : List Value} (H : Holds w l) (h : res σ fn.results.toList = some vs) (hr : ∀ w', Holds w' l → R (resV vs) w') (he : e = .normal ∨ e = .ret := by first | exact .inr rfl | exact .inl rfl) : fnPost P n fn R e [] σ w := fn_end0 _ he H h hr
theorem Jz {fn : Func} {R : Value → World → Prop} {e : Exit} {vs : List Value} (H : Holds w l) (h : ∀ w', Holds w' l → ResAt P σ w' fn.results.toList vs) (hr : ∀ w', Holds w' l → R (resV vs) w') (he : e = .normal ∨ e = .ret := by first | exact .inr rfl | exact .inl rfl) : fnPost P n fn R e [] σ w := fn_endC _ he H h hr
theorem J0 (H : Holds w l) (k : K) (h : Holds w l → K → G := by
 intro H k
 refine Lp_pv rfl rfl ?_
 refine Lp_nil ?_
 exact k) : G := h H k
theorem J1 (H : Holds w l) (k : K) (h : Holds w l → K → G := by
 intro H k
 repeat refine C_seq ?_
 refine C_drawH H mixed ?_
 exact k) : G := h H k
theorem J2 (H : Holds w l) (k : K) (h : Holds w l → K → G := by
 intro H k
 repeat refine C_seq ?_
 refine C_region ?_
 refine Lp_pv rfl rfl ?_
 refine Lp_pv rfl rfl ?_
 exact k) : G := h H k
theorem J3 (H : Holds w l) (k : K) (h : Holds w l → K → G := by
 intro H k
 refine Lp_pv rfl rfl ?_
 refine Lp_pv rfl rfl ?_
 refine Lp_nil ?_
 exact k) : G := h H k
theorem J4 (H : Holds w l) (k : K) (h : Holds w l → K → G := by
 intro H k
 refine A_end (by kernel_rfl) (by repeat first | exact .nil | refine .cons (.inr H.at) ?_ | refine .cons (.inr H.mp) ?_ | refine .cons (.inl (by kernel_rfl)) ?_) ?_
 exact k) : G := h H k
theorem J5 (H : Holds w l) (k : K) (h : Holds w l → K → G := by
 intro H k
 repeat refine C_seq ?_
 refine C_region ?_
 refine Lp_pv rfl rfl ?_
 refine Lp_pv rfl rfl ?_
 refine Lp_nil ?_
 exact k) : G := h H k
theorem J6 (H : Holds w l) (k : K) (h : Holds w l → K → G := by
 intro H k
 refine Lp_s rfl (St_storeN H rfl rfl inferInstance rfl rfl (Nat.le_of_ble_eq_true rfl) rfl ?_)
 exact k) : G := h H k
theorem J7 (H : Holds w l) (k : K) (h : Holds w l → K → G := by
 intro H k
 refine Lp_pv rfl rfl ?_
 exact k) : G := h H k
theorem J8 (H : Holds w l) (k : K) (h : Holds w l → K → G := by
 intro H k
 repeat refine C_seq ?_
 refine C_region ?_
 refine Lp_s rfl (St_boxN H rfl rfl ?_)
 exact k) : G := h H k
theorem J9 (H : Holds w l) (k : K) (h : Holds w l → K → G := by
 intro H k
 repeat refine C_seq ?_
 refine C_false rfl (C_skip ?_)
 exact k) : G := h H k
theorem J10 (H : Holds w l) (k : K) (h : Holds w l → K → G := by
 intro H k
 repeat refine C_seq ?_
 refine C_region ?_
 refine Lp_pv rfl rfl ?_
 refine Lp_pv rfl rfl ?_
 refine Lp_pv rfl rfl ?_
 exact k) : G := h H k
theorem J11 (H : Holds w l) (k : K) (h : Holds w l → K → G := by
 intro H k
 refine Lp_pv rfl rfl ?_
 refine Lp_pv rfl rfl ?_
 exact k) : G := h H k
theorem J12 (H : Holds w l) (k : K) (h : Holds w l → K → G := by
 intro H k
 repeat refine C_seq ?_
 refine C_region ?_
 refine Lp_pv rfl rfl ?_
 refine Lp_nil ?_
 exact k) : G := h H k
theorem J13 (H : Holds w l) (k : K) (h : Holds w l → K → G := by
 intro H k
 repeat refine C_seq ?_
 refine C_region ?_
 refine Lp_pv rfl rfl ?_
 refine Lp_nil ?_
 repeat refine C_seq ?_
 exact k) : G := h H k
theorem J14 (H : Holds w l) (k : K) (h : Holds w l → K → G := by
 intro H k
 repeat refine C_seq ?_
 exact k) : G := h H k
theorem J15 (H : Holds w l) (k : K) (h : Holds w l → K → G := by
 intro H k
 refine Lp_pv rfl rfl ?_
 refine Lp_nil ?_
 repeat refine C_seq ?_
 exact k) : G := h H k
theorem J16 (H : Holds w l) (k : K) (h : Holds w l → K → G := by
 intro H k
 repeat refine C_seq ?_
 refine C_region ?_
 refine Lp_pv rfl rfl ?_
 exact k) : G := h H k
theorem J17 (H : Holds w l) (k : K) (h : Holds w l → K → G := by
 intro H k
 refine Lp_s rfl (St_alloc H rfl ?_)
 exact k) : G := h H k
theorem J18 (H : Holds w l) (k : K) (h : Holds w l → K → G := by
 intro H k
 repeat refine C_seq ?_
 refine C_region ?_
 refine Lp_pv rfl rfl ?_
 refine Lp_pv rfl rfl ?_
 refine Lp_s rfl (St_fieldAddr rfl rfl ?_)
 refine Lp_s rfl (St_load1 H rfl rfl rfl ?_)
 refine Lp_pv rfl rfl ?_
 exact k) : G := h H k
theorem J19 (H : Holds w l) (k : K) (h : Holds w l → K → G := by
 intro H k
 refine Lp_pv rfl rfl ?_
 refine Lp_pv rfl rfl ?_
 refine Lp_pv rfl rfl ?_
 refine Lp_s rfl (St_alloc H rfl ?_)
 exact k) : G := h H k
theorem J20 (H : Holds w l) (k : K) (h : Holds w l → K → G := by
 intro H k
 repeat refine C_seq ?_
 refine C_region ?_
 refine Lp_pv rfl rfl ?_
 refine Lp_pv rfl rfl ?_
 refine Lp_pv rfl rfl ?_
 refine Lp_nil ?_
 exact k) : G := h H k
theorem J21 (H : Holds w l) (k : K) (h : Holds w l → K → G := by
 intro H k
 repeat refine C_seq ?_
 refine C_block ?_
 exact k) : G := h H k
theorem J22 (H : Holds w l) (k : K) (h : Holds w l → K → G := by
 intro H k
 refine Lp_gpv rfl rfl rfl rfl ?_
 exact k) : G := h H k
theorem J23 (H : Holds w l) (k : K) (h : Holds w l → K → G := by
 intro H k
 repeat refine C_seq ?_
 refine C_region ?_
 refine Lp_s rfl (St_alloc H rfl ?_)
 exact k) : G := h H k
theorem J24 (H : Holds w l) (k : K) (h : Holds w l → K → G := by
 intro H k
 refine Lp_gpv rfl rfl rfl rfl ?_
 refine Lp_gpv rfl rfl rfl rfl ?_
 exact k) : G := h H k
theorem J25 (H : Holds w l) (k : K) (h : Holds w l → K → G := by
 intro H k
 refine Lp_pv rfl rfl ?_
 refine Lp_nil ?_
 repeat refine C_seq ?_
 refine C_region ?_
 refine Lp_pv rfl rfl ?_
 refine Lp_pv rfl rfl ?_
 refine Lp_nil ?_
 exact k) : G := h H k
theorem J26 (H : Holds w l) (k : K) (h : Holds w l → K → G := by
 intro H k
 repeat refine C_seq ?_
 refine C_region ?_
 refine Lp_s rfl (St_loadN H rfl (by repeat (first | exact Reads.nil _ | apply Reads.cons rfl)) rfl ?_)
 exact k) : G := h H k
theorem J27 (H : Holds w l) (k : K) (h : Holds w l → K → G := by
 intro H k
 refine Lp_pv rfl rfl ?_
 refine Lp_pv rfl rfl ?_
 refine Lp_pv rfl rfl ?_
 refine Lp_pv rfl rfl ?_
 refine Lp_pv rfl rfl ?_
 refine Lp_nil ?_
 exact k) : G := h H k
theorem J28 (H : Holds w l) (k : K) (h : Holds w l → K → G := by
 intro H k
 refine A_pv 0 rfl (Wants.none rfl) rfl (by kernel_rfl) ?_
 refine A_pv 1 rfl (Wants.none rfl) rfl (by kernel_rfl) ?_
 refine A_fieldAddr 2 rfl (Wants.none rfl) rfl (by kernel_rfl) ?_
 exact k) : G := h H k
theorem J29 (H : Holds w l) (k : K) (h : Holds w l → K → G := by
 intro H k
 repeat refine C_seq ?_
 refine C_true rfl ?_
 repeat refine C_seq ?_
 refine C_region ?_
 refine Lp_pv rfl rfl ?_
 refine Lp_pv rfl rfl ?_
 refine Lp_nil ?_
 exact k) : G := h H k
theorem J30 (H : Holds w l) (k : K) (h : Holds w l → K → G := by
 intro H k
 refine Lp_pv rfl rfl ?_
 refine Lp_pv rfl rfl ?_
 refine Lp_pv rfl rfl ?_
 refine Lp_pv rfl rfl ?_
 exact k) : G := h H k
theorem J31 (H : Holds w l) (k : K) (h : Holds w l → K → G := by
 intro H k
 repeat refine C_seq ?_
 refine C_block ?_
 repeat refine C_seq ?_
 refine C_region ?_
 exact k) : G := h H k
theorem J32 (H : Holds w l) (k : K) (h : Holds w l → K → G := by
 intro H k
 refine Lp_s rfl (St_buildSlice H rfl rfl rfl ?_)
 exact k) : G := h H k
theorem J33 (H : Holds w l) (k : K) (h : Holds w l → K → G := by
 intro H k
 repeat refine C_seq ?_
 refine C_true rfl ?_
 exact k) : G := h H k
theorem J34 (H : Holds w l) (k : K) (h : Holds w l → K → G := by
 intro H k
 repeat refine C_seq ?_
 refine C_true rfl ?_
 repeat refine C_seq ?_
 refine C_region ?_
 refine Lp_pv rfl rfl ?_
 refine Lp_nil ?_
 exact k) : G := h H k
theorem J35 (H : Holds w l) (k : K) (h : Holds w l → K → G := by
 intro H k
 refine Lp_pv rfl rfl ?_
 refine Lp_nil ?_
 repeat refine C_seq ?_
 refine C_false rfl (C_skip ?_)
 exact k) : G := h H k
theorem J36 (H : Holds w l) (k : K) (h : Holds w l → K → G := by
 intro H k
 refine A_pv 11 rfl (Wants.none rfl) rfl (by kernel_rfl) ?_
 refine A_end (by kernel_rfl) (by repeat first | exact .nil | refine .cons (.inr H.at) ?_ | refine .cons (.inr H.mp) ?_ | refine .cons (.inl (by kernel_rfl)) ?_) ?_
 exact k) : G := h H k
theorem J37 (H : Holds w l) (k : K) (h : Holds w l → K → G := by
 intro H k
 repeat refine C_seq ?_
 refine C_region ?_
 refine Lp_pv rfl rfl ?_
 refine Lp_pv rfl rfl ?_
 refine Lp_s rfl (St_fieldAddr rfl rfl ?_)
 refine Lp_s rfl (St_load1 H rfl rfl rfl ?_)
 refine Lp_pv rfl rfl ?_
 refine Lp_pv rfl rfl ?_
 exact k) : G := h H k
theorem J38 (H : Holds w l) (k : K) (h : Holds w l → K → G := by
 intro H k
 refine Lp_s rfl (St_fieldAddr rfl rfl ?_)
 refine Lp_s rfl (St_load1 H rfl rfl rfl ?_)
 exact k) : G := h H k
theorem J39 (H : Holds w l) (k : K) (h : Holds w l → K → G := by
 intro H k
 refine Lp_pv rfl rfl ?_
 refine Lp_pv rfl rfl ?_
 refine Lp_pv rfl rfl ?_
 refine Lp_pv rfl rfl ?_
 refine Lp_pv rfl rfl ?_
 refine Lp_nil ?_
 repeat refine C_seq ?_
 refine C_region ?_
 refine Lp_pv rfl rfl ?_
 refine Lp_pv rfl rfl ?_
 refine Lp_nil ?_
 repeat refine C_seq ?_
 refine C_false rfl (C_skip ?_)
 exact k) : G := h H k
theorem J40 (H : Holds w l) (k : K) (h : Holds w l → K → G := by
 intro H k
 refine Lp_s rfl (St_build rfl rfl ?_)
 refine Lp_s rfl (St_boxN H rfl rfl ?_)
 exact k) : G := h H k
theorem J41 (H : Holds w l) (k : K) (h : Holds w l → K → G := by
 intro H k
 refine Lp_no rfl rfl rfl ?_
 refine Lp_no rfl rfl rfl ?_
 refine Lp_no rfl rfl rfl ?_
 refine Lp_no rfl rfl rfl ?_
 exact k) : G := h H k
theorem J42 (H : Holds w l) (k : K) (h : Holds w l → K → G := by
 intro H k
 refine Lp_mv rfl rfl ?_
 refine Lp_nil ?_
 exact k) : G := h H k
theorem J43 (H : Holds w l) (k : K) (h : Holds w l → K → G := by
 intro H k
 repeat refine C_seq ?_
 refine C_region ?_
 refine Lp_s rfl (St_load1 H rfl rfl rfl ?_)
 exact k) : G := h H k
theorem J44 (H : Holds w l) (k : K) (h : Holds w l → K → G := by
 intro H k
 refine Lp_s rfl (St_loadN H rfl (by repeat (first | exact Reads.nil _ | apply Reads.cons rfl)) rfl ?_)
 exact k) : G := h H k
theorem J45 (H : Holds w l) (k : K) (h : Holds w l → K → G := by
 intro H k
 refine Lp_g rfl rfl rfl (St_fieldAddr rfl rfl ?_)
 refine Lp_g rfl rfl rfl (St_load1 H rfl rfl rfl ?_)
 refine Lp_gpv rfl rfl rfl rfl ?_
 exact k) : G := h H k
theorem J46 (H : Holds w l) (k : K) (h : Holds w l → K → G := by
 intro H k
 refine A_pv 3 rfl (Wants.none rfl) rfl (by kernel_rfl) ?_
 exact k) : G := h H k
theorem J47 (H : Holds w l) (k : K) (h : Holds w l → K → G := by
 intro H k
 refine A_fieldAddr 4 rfl (Wants.none rfl) rfl (by kernel_rfl) ?_
 exact k) : G := h H k
theorem J48 (H : Holds w l) (k : K) (h : Holds w l → K → G := by
 intro H k
 repeat refine C_seq ?_
 refine C_region ?_
 refine Lp_pv rfl rfl ?_
 refine Lp_pv rfl rfl ?_
 refine Lp_s rfl (St_fieldAddr rfl rfl ?_)
 refine Lp_s rfl (St_load1 H rfl rfl rfl ?_)
 exact k) : G := h H k
theorem J49 (H : Holds w l) (k : K) (h : Holds w l → K → G := by
 intro H k
 refine Lp_pv rfl rfl ?_
 refine Lp_nil ?_
 repeat refine C_seq ?_
 refine C_block ?_
 exact k) : G := h H k
theorem J50 (H : Holds w l) (k : K) (h : Holds w l → K → G := by
 intro H k
 refine Lp_pv rfl rfl ?_
 refine Lp_nil ?_
 repeat refine C_seq ?_
 refine C_region ?_
 refine Lp_pv rfl rfl ?_
 refine Lp_pv rfl rfl ?_
 refine Lp_nil ?_
 repeat refine C_seq ?_
 refine C_false rfl (C_skip ?_)
 exact k) : G := h H k
theorem J51 (H : Holds w l) (k : K) (h : Holds w l → K → G := by
 intro H k
 repeat refine C_seq ?_
 refine C_region ?_
 exact k) : G := h H k
theorem J52 (H : Holds w l) (k : K) (h : Holds w l → K → G := by
 intro H k
 refine Lp_pv rfl rfl ?_
 refine Lp_s rfl (St_fieldAddr rfl rfl ?_)
 refine Lp_s rfl (St_store1 H rfl rfl inferInstance rfl (Nat.le_of_ble_eq_true rfl) rfl ?_)
 exact k) : G := h H k
theorem J53 (H : Holds w l) (k : K) (h : Holds w l → K → G := by
 intro H k
 repeat refine C_seq ?_
 refine C_region ?_
 refine Lp_s rfl (St_box1 H rfl rfl rfl ?_)
 exact k) : G := h H k
theorem J54 (H : Holds w l) (k : K) (h : Holds w l → K → G := by
 intro H k
 refine A_pv 5 rfl (Wants.none rfl) rfl (by kernel_rfl) ?_
 exact k) : G := h H k
theorem J55 (H : Holds w l) (k : K) (h : Holds w l → K → G := by
 intro H k
 refine A_pv 8 rfl (Wants.none rfl) rfl (by kernel_rfl) ?_
 exact k) : G := h H k
theorem J56 (H : Holds w l) (k : K) (h : Holds w l → K → G := by
 intro H k
 refine Lp_pv rfl rfl ?_
 refine Lp_pv rfl rfl ?_
 refine Lp_nil ?_
 repeat refine C_seq ?_
 refine C_false rfl (C_skip ?_)
 exact k) : G := h H k
theorem J57 (H : Holds w l) (k : K) (h : Holds w l → K → G := by
 intro H k
 refine A_fieldAddr 6 rfl (Wants.none rfl) rfl (by kernel_rfl) ?_
 exact k) : G := h H k
theorem J58 (H : Holds w l) (k : K) (h : Holds w l → K → G := by
 intro H k
 refine Lp_gpv rfl rfl rfl rfl ?_
 refine Lp_gpv rfl rfl rfl rfl ?_
 refine Lp_pv rfl rfl ?_
 refine Lp_pv rfl rfl ?_
 exact k) : G := h H k
theorem J59 (H : Holds w l) (k : K) (h : Holds w l → K → G := by
 intro H k
 refine C_block ?_
 repeat refine C_seq ?_
 refine C_region ?_
 refine Lp_pv rfl rfl ?_
 refine Lp_s rfl (St_eqPtrNil rfl rfl (.inl rfl) rfl ?_)
 refine Lp_pv rfl rfl ?_
 refine Lp_nil ?_
 repeat refine C_seq ?_
 refine C_false rfl ?_
 exact k) : G := h H k
theorem J60 (H : Holds w l) (k : K) (h : Holds w l → K → G := by
 intro H k
 refine A_fieldAddr 0 rfl (Wants.none rfl) rfl (by kernel_rfl) ?_
 refine A_load1 1 [] H rfl (Wants.none rfl) rfl rfl (by kernel_rfl) ?_
 refine A_pv 2 rfl (Wants.none rfl) rfl (by kernel_rfl) ?_
 exact k) : G := h H k
theorem J61 (H : Holds w l) (k : K) (h : Holds w l → K → G := by
 intro H k
 refine Lp_pv rfl rfl ?_
 refine Lp_pv rfl rfl ?_
 refine Lp_nil ?_
 repeat refine C_seq ?_
 exact k) : G := h H k
theorem J62 (H : Holds w l) (k : K) (h : Holds w l → K → G := by
 intro H k
 refine A_pv 4 rfl (Wants.none rfl) rfl (by kernel_rfl) ?_
 exact k) : G := h H k
theorem J63 (H : Holds w l) (k : K) (h : Holds w l → K → G := by
 intro H k
 refine Lp_s rfl (St_build rfl rfl ?_)
 exact k) : G := h H k
theorem J64 (H : Holds w l) (k : K) (h : Holds w l → K → G := by
 intro H k
 refine A_fieldAddr 7 rfl (Wants.none rfl) rfl (by kernel_rfl) ?_
 exact k) : G := h H k
theorem J65 (H : Holds w l) (k : K) (h : Holds w l → K → G := by
 intro H k
 refine St_storeN H rfl rfl inferInstance rfl rfl (Nat.le_of_ble_eq_true rfl) rfl ?_
 exact k) : G := h H k
theorem J66 (H : Holds w l) (k : K) (h : Holds w l → K → G := by
 intro H k
 repeat refine C_seq ?_
 refine C_region ?_
 refine Lp_pv rfl rfl ?_
 refine Lp_pv rfl rfl ?_
 refine Lp_pv rfl rfl ?_
 refine Lp_s rfl (St_fieldAddr rfl rfl ?_)
 refine Lp_s rfl (St_load1 H rfl rfl rfl ?_)
 exact k) : G := h H k
theorem J67 (H : Holds w l) (k : K) (h : Holds w l → K → G := by
 intro H k
 refine Lp_nil ?_
 repeat refine C_seq ?_
 refine C_region ?_
 refine Lp_pv rfl rfl ?_
 refine Lp_pv rfl rfl ?_
 refine Lp_nil ?_
 exact k) : G := h H k
theorem J68 (H : Holds w l) (k : K) (h : Holds w l → K → G := by
 intro H k
 refine Lp_pv rfl rfl ?_
 refine Lp_pv rfl rfl ?_
 refine Lp_pv rfl rfl ?_
 refine Lp_pv rfl rfl ?_
 refine Lp_pv rfl rfl ?_
 refine Lp_nil ?_
 repeat refine C_seq ?_
 refine C_region ?_
 refine Lp_pv rfl rfl ?_
 refine Lp_pv rfl rfl ?_
 refine Lp_nil ?_
 exact k) : G := h H k
theorem J69 (H : Holds w l) (k : K) (h : Holds w l → K → G := by
 intro H k
 refine Lp_s rfl (St_fieldAddr rfl rfl ?_)
 exact k) : G := h H k
theorem J70 (H : Holds w l) (k : K) (h : Holds w l → K → G := by
 intro H k
 refine Lp_g rfl rfl rfl (St_loadN H rfl (by repeat (first | exact Reads.nil _ | apply Reads.cons rfl)) rfl ?_)
 exact k) : G := h H k
theorem J71 (H : Holds w l) (k : K) (h : Holds w l → K → G := by
 intro H k
 refine Lp_gpv rfl rfl rfl rfl ?_
 refine Lp_pv rfl rfl ?_
 refine Lp_nil ?_
 repeat refine C_seq ?_
 refine C_false rfl (C_skip ?_)
 exact k) : G := h H k
theorem J72 (H : Holds w l) (k : K) (h : Holds w l → K → G := by
 intro H k
 repeat refine C_seq ?_
 refine C_region ?_
 refine Lp_pv rfl rfl ?_
 refine Lp_s rfl (St_loadN H rfl (by repeat (first | exact Reads.nil _ | apply Reads.cons rfl)) rfl ?_)
 exact k) : G := h H k
theorem J73 (H : Holds w l) (k : K) (h : Holds w l → K → G := by
 intro H k
 refine A_pv 0 rfl (Wants.none rfl) rfl (by kernel_rfl) ?_
 refine A_pv 1 rfl (Wants.none rfl) rfl (by kernel_rfl) ?_
 exact k) : G := h H k
theorem J74 (H : Holds w l) (k : K) (h : Holds w l → K → G := by
 intro H k
 refine A_pv 10 rfl (Wants.none rfl) rfl (by kernel_rfl) ?_
 exact k) : G := h H k
theorem J75 (H : Holds w l) (k : K) (h : Holds w l → K → G := by
 intro H k
 refine Lp_pv rfl rfl ?_
 refine Lp_pv rfl rfl ?_
 refine Lp_nil ?_
 repeat refine C_seq ?_
 refine C_false rfl ?_
 exact k) : G := h H k
theorem J76 (H : Holds w l) (k : K) (h : Holds w l → K → G := by
 intro H k
 refine A_pv 0 rfl (Wants.none rfl) rfl (by kernel_rfl) ?_
 exact k) : G := h H k
theorem J77 (H : Holds w l) (k : K) (h : Holds w l → K → G := by
 intro H k
 refine A_pv 9 rfl (Wants.none rfl) rfl (by kernel_rfl) ?_
 refine A_pv 10 rfl (Wants.none rfl) rfl (by kernel_rfl) ?_
 exact k) : G := h H k
theorem J78 (H : Holds w l) (k : K) (h : Holds w l → K → G := by
 intro H k
 repeat refine C_seq ?_
 refine C_region ?_
 refine Lp_s rfl (St_loadN H rfl (by repeat (first | exact Reads.nil _ | apply Reads.cons rfl)) rfl ?_)
 refine Lp_s rfl (St_storeN H rfl rfl inferInstance rfl rfl (Nat.le_of_ble_eq_true rfl) rfl ?_)
 exact k) : G := h H k
theorem J79 (H : Holds w l) (k : K) (h : Holds w l → K → G := by
 intro H k
 refine A_pv 4 rfl (Wants.none rfl) rfl (by kernel_rfl) ?_
 refine A_pv 5 rfl (Wants.none rfl) rfl (by kernel_rfl) ?_
 exact k) : G := h H k
theorem J80 (H : Holds w l) (k : K) (h : Holds w l → K → G := by
 intro H k
 refine Lp_gpv rfl rfl rfl rfl ?_
 refine Lp_gpv rfl rfl rfl rfl ?_
 refine Lp_gpv rfl rfl rfl rfl ?_
 exact k) : G := h H k
theorem J81 (H : Holds w l) (k : K) (h : Holds w l → K → G := by
 intro H k
 repeat refine C_seq ?_
 refine C_region ?_
 refine Lp_pv rfl rfl ?_
 refine Lp_pv rfl rfl ?_
 refine Lp_pv rfl rfl ?_
 refine Lp_pv rfl rfl ?_
 refine Lp_pv rfl rfl ?_
 refine Lp_nil ?_
 exact k) : G := h H k
theorem J82 (H : Holds w l) (k : K) (h : Holds w l → K → G := by
 intro H k
 refine Lp_no rfl rfl rfl ?_
 refine Lp_no rfl rfl rfl ?_
 refine Lp_no rfl rfl rfl ?_
 exact k) : G := h H k
theorem J83 (H : Holds w l) (k : K) (h : Holds w l → K → G := by
 intro H k
 repeat refine C_seq ?_
 refine C_region ?_
 refine Lp_pv rfl rfl ?_
 refine Lp_nil ?_
 repeat refine C_seq ?_
 refine C_region ?_
 refine Lp_pv rfl rfl ?_
 refine Lp_s rfl (St_eqPtrNil rfl rfl (.inl rfl) rfl ?_)
 refine Lp_nil ?_
 repeat refine C_seq ?_
 refine C_false rfl (C_skip ?_)
 repeat refine C_seq ?_
 refine C_region ?_
 refine Lp_pv rfl rfl ?_
 refine Lp_pv rfl rfl ?_
 refine Lp_s rfl (St_fieldAddr rfl rfl ?_)
 refine Lp_s rfl (St_load1 H rfl rfl rfl ?_)
 refine Lp_pv rfl rfl ?_
 exact k) : G := h H k
theorem J84 (H : Holds w l) (k : K) (h : Holds w l → K → G := by
 intro H k
 repeat refine C_seq ?_
 refine C_region ?_
 refine Lp_pv rfl rfl ?_
 refine Lp_pv rfl rfl ?_
 refine Lp_nil ?_
 repeat refine C_seq ?_
 refine C_region ?_
 refine Lp_pv rfl rfl ?_
 refine Lp_pv rfl rfl ?_
 exact k) : G := h H k
theorem J85 (H : Holds w l) (k : K) (h : Holds w l → K → G := by
 intro H k
 refine A_pv 12 rfl (Wants.none rfl) rfl (by kernel_rfl) ?_
 refine A_pv 13 rfl (Wants.none rfl) rfl (by kernel_rfl) ?_
 exact k) : G := h H k
theorem J86 (H : Holds w l) (k : K) (h : Holds w l → K → G := by
 intro H k
 refine Lp_pv rfl rfl ?_
 refine Lp_nil ?_
 repeat refine C_seq ?_
 refine C_region ?_
 refine Lp_pv rfl rfl ?_
 refine Lp_pv rfl rfl ?_
 refine Lp_nil ?_
 repeat refine C_seq ?_
 refine C_true rfl ?_
 repeat refine C_seq ?_
 refine C_region ?_
 refine Lp_pv rfl rfl ?_
 refine Lp_pv rfl rfl ?_
 refine Lp_pv rfl rfl ?_
 refine Lp_nil ?_
 exact k) : G := h H k
theorem J87 (H : Holds w l) (k : K) (h : Holds w l → K → G := by
 intro H k
 refine Lp_nil ?_
 repeat refine C_seq ?_
 refine C_region ?_
 refine Lp_pv rfl rfl ?_
 refine Lp_pv rfl rfl ?_
 exact k) : G := h H k
theorem J88 (H : Holds w l) (k : K) (h : Holds w l → K → G := by
 intro H k
 refine Lp_g rfl rfl rfl (St_fieldAddr rfl rfl ?_)
 refine Lp_g rfl rfl rfl (St_load1 H rfl rfl rfl ?_)
 exact k) : G := h H k
theorem J89 (H : Holds w l) (k : K) (h : Holds w l → K → G := by
 intro H k
 refine A_pv 7 rfl (Wants.none rfl) rfl (by kernel_rfl) ?_
 exact k) : G := h H k
theorem J90 (H : Holds w l) (k : K) (h : Holds w l → K → G := by
 intro H k
 repeat refine C_seq ?_
 refine C_region ?_
 refine Lp_pv rfl rfl ?_
 refine Lp_s rfl (St_lenSlice rfl rfl ?_)
 exact k) : G := h H k
theorem J91 (H : Holds w l) (k : K) (h : Holds w l → K → G := by
 intro H k
 refine Lp_s rfl (St_lenSlice rfl rfl ?_)
 exact k) : G := h H k
theorem J92 (H : Holds w l) (k : K) (h : Holds w l → K → G := by
 intro H k
 refine A_pv 2 rfl (Wants.none rfl) rfl (by kernel_rfl) ?_
 exact k) : G := h H k
theorem J93 (H : Holds w l) (k : K) (h : Holds w l → K → G := by
 intro H k
 refine Lp_pv rfl rfl ?_
 refine Lp_g rfl rfl rfl (St_fieldAddr rfl rfl ?_)
 refine Lp_g rfl rfl rfl (St_load1 H rfl rfl rfl ?_)
 refine Lp_gpv rfl rfl rfl rfl ?_
 refine Lp_pv rfl rfl ?_
 exact k) : G := h H k
theorem J94 (H : Holds w l) (k : K) (h : Holds w l → K → G := by
 intro H k
 refine Lp_s rfl (St_load1 H rfl rfl rfl ?_)
 exact k) : G := h H k
theorem J95 (H : Holds w l) (k : K) (h : Holds w l → K → G := by
 intro H k
 refine Lp_pv rfl rfl ?_
 refine Lp_nil ?_
 repeat refine C_seq ?_
 refine C_false rfl ?_
 exact k) : G := h H k
theorem J96 (H : Holds w l) (k : K) (h : Holds w l → K → G := by
 intro H k
 refine Jo 11 H ?_
 refine St_storeN H rfl rfl inferInstance rfl rfl (Nat.le_of_ble_eq_true rfl) rfl ?_
 exact k) : G := h H k
theorem J97 (H : Holds w l) (k : K) (h : Holds w l → K → G := by
 intro H k
 refine A_pv 4 rfl (Wants.none rfl) rfl (by kernel_rfl) ?_
 refine A_pv 5 rfl (Wants.none rfl) rfl (by kernel_rfl) ?_
 refine A_pv 6 rfl (Wants.none rfl) rfl (by kernel_rfl) ?_
 exact k) : G := h H k
theorem J98 (H : Holds w l) (k : K) (h : Holds w l → K → G := by
 intro H k
 repeat refine C_seq ?_
 refine C_region ?_
 refine Lp_s rfl (St_fieldAddr rfl rfl ?_)
 refine Lp_s rfl (St_load1 H rfl rfl rfl ?_)
 exact k) : G := h H k
theorem J99 (H : Holds w l) (k : K) (h : Holds w l → K → G := by
 intro H k
 repeat refine C_seq ?_
 refine C_region ?_
 refine Lp_pv rfl rfl ?_
 refine Lp_s rfl (St_lenSlice rfl rfl ?_)
 refine Lp_pv rfl rfl ?_
 refine Lp_nil ?_
 exact k) : G := h H k
theorem J100 (H : Holds w l) (k : K) (h : Holds w l → K → G := by
 intro H k
 refine A_pv 0 rfl (Wants.none rfl) rfl (by kernel_rfl) ?_
 refine A_pv 1 rfl (Wants.none rfl) rfl (by kernel_rfl) ?_
 refine A_fieldAddr 2 rfl (Wants.none rfl) rfl (by kernel_rfl) ?_
 refine A_load1 3 [] H rfl (Wants.none rfl) rfl rfl (by kernel_rfl) ?_
 exact k) : G := h H k
theorem J101 (H : Holds w l) (k : K) (h : Holds w l → K → G := by
 intro H k
 refine A_pv 6 rfl (Wants.none rfl) rfl (by kernel_rfl) ?_
 exact k) : G := h H k
theorem J102 (H : Holds w l) (k : K) (h : Holds w l → K → G := by
 intro H k
 refine A_pv 24 rfl (Wants.none rfl) rfl (by kernel_rfl) ?_
 refine A_pv 25 rfl (Wants.none rfl) rfl (by kernel_rfl) ?_
 exact k) : G := h H k
theorem J103 (H : Holds w l) (k : K) (h : Holds w l → K → G := by
 intro H k
 repeat refine C_seq ?_
 refine C_region ?_
 refine Lp_s rfl (St_load1 H rfl rfl rfl ?_)
 refine Lp_pv rfl rfl ?_
 exact k) : G := h H k
theorem J104 (H : Holds w l) (k : K) (h : Holds w l → K → G := by
 intro H k
 repeat refine C_seq ?_
 refine C_region ?_
 refine Lp_pv rfl rfl ?_
 refine Lp_pv rfl rfl ?_
 refine Lp_nil ?_
 repeat refine C_seq ?_
 refine C_false rfl (C_skip ?_)
 exact k) : G := h H k
theorem J105 (H : Holds w l) (k : K) (h : Holds w l → K → G := by
 intro H k
 repeat refine C_seq ?_
 refine C_region ?_
 refine Lp_s rfl (St_fieldAddr rfl rfl ?_)
 refine Lp_s rfl (St_load1 H rfl rfl rfl ?_)
 refine Lp_pv rfl rfl ?_
 refine Lp_pv rfl rfl ?_
 exact k) : G := h H k
theorem J106 (H : Holds w l) (k : K) (h : Holds w l → K → G := by
 intro H k
 refine A_pv 12 rfl (Wants.none rfl) rfl (by kernel_rfl) ?_
 refine A_pv 13 rfl (Wants.none rfl) rfl (by kernel_rfl) ?_
 refine A_pv 14 rfl (Wants.none rfl) rfl (by kernel_rfl) ?_
 refine A_pv 15 rfl (Wants.none rfl) rfl (by kernel_rfl) ?_
 refine A_end (by kernel_rfl) (by repeat first | exact .nil | refine .cons (.inr H.at) ?_ | refine .cons (.inr H.mp) ?_ | refine .cons (.inl (by kernel_rfl)) ?_) ?_
 exact k) : G := h H k
theorem J107 (H : Holds w l) (k : K) (h : Holds w l → K → G := by
 intro H k
 repeat refine C_seq ?_
 refine C_region ?_
 refine Lp_s rfl (St_loadN H rfl (by repeat (first | exact Reads.nil _ | apply Reads.cons rfl)) rfl ?_)
 refine Lp_s rfl (St_build rfl rfl ?_)
 refine Lp_s rfl (St_eqAgg rfl rfl rfl rfl (.inl rfl) rfl ?_)
 exact k) : G := h H k
theorem J108 (H : Holds w l) (k : K) (h : Holds w l → K → G := by
 intro H k
 repeat refine C_seq ?_
 refine C_block ?_
 repeat refine C_seq ?_
 refine C_region ?_
 refine Lp_pv rfl rfl ?_
 refine Lp_pv rfl rfl ?_
 refine Lp_nil ?_
 exact k) : G := h H k
theorem J109 (H : Holds w l) (k : K) (h : Holds w l → K → G := by
 intro H k
 repeat refine C_seq ?_
 refine C_false rfl ?_
 exact k) : G := h H k
theorem J110 (H : Holds w l) (k : K) (h : Holds w l → K → G := by
 intro H k
 repeat refine C_seq ?_
 refine C_region ?_
 refine Lp_pv rfl rfl ?_
 refine Lp_nil ?_
 repeat refine C_seq ?_
 refine C_region ?_
 refine Lp_pv rfl rfl ?_
 refine Lp_s rfl (St_eqPtrNil rfl rfl (.inl rfl) rfl ?_)
 refine Lp_nil ?_
 repeat refine C_seq ?_
 refine C_false rfl (C_skip ?_)
 repeat refine C_seq ?_
 refine C_region ?_
 refine Lp_pv rfl rfl ?_
 refine Lp_pv rfl rfl ?_
 refine Lp_s rfl (St_fieldAddr rfl rfl ?_)
 refine Lp_s rfl (St_load1 H rfl rfl rfl ?_)
 exact k) : G := h H k
theorem J111 (H : Holds w l) (k : K) (h : Holds w l → K → G := by
 intro H k
 refine Lp_pv rfl rfl ?_
 refine Lp_gpv rfl rfl rfl rfl ?_
 refine Lp_gpv rfl rfl rfl rfl ?_
 exact k) : G := h H k
theorem J112 (H : Holds w l) (k : K) (h : Holds w l → K → G := by
 intro H k
 refine A_pv 9 rfl (Wants.none rfl) rfl (by kernel_rfl) ?_
 exact k) : G := h H k
theorem J113 (H : Holds w l) (k : K) (h : Holds w l → K → G := by
 intro H k
 refine St_store1 H rfl rfl inferInstance rfl (Nat.le_of_ble_eq_true rfl) rfl ?_
 exact k) : G := h H k
theorem J114 (H : Holds w l) (k : K) (h : Holds w l → K → G := by
 intro H k
 first | refine Lp_pv rfl rfl ?_ | refine Lp_mv rfl rfl ?_
 refine Lp_pv rfl rfl ?_
 refine Lp_pv rfl rfl ?_
 refine Lp_pv rfl rfl ?_
 refine Lp_pv rfl rfl ?_
 refine Lp_nil ?_
 exact k) : G := h H k
theorem J115 (H : Holds w l) (k : K) (h : Holds w l → K → G := by
 intro H k
 refine A_pv 11 rfl (Wants.none rfl) rfl (by kernel_rfl) ?_
 exact k) : G := h H k
theorem J116 (H : Holds w l) (k : K) (h : Holds w l → K → G := by
 intro H k
 refine Lp_no rfl rfl rfl ?_
 refine Lp_no rfl rfl rfl ?_
 refine Lp_no rfl rfl rfl ?_
 refine Lp_nn rfl rfl ?_
 refine Lp_nn rfl rfl ?_
 exact k) : G := h H k
theorem J117 (H : Holds w l) (k : K) (h : Holds w l → K → G := by
 intro H k
 refine Lp_nn rfl rfl ?_
 refine Lp_nn rfl rfl ?_
 exact k) : G := h H k
theorem J118 (H : Holds w l) (k : K) (h : Holds w l → K → G := by
 intro H k
 refine Lp_pv rfl rfl ?_
 refine Lp_pv rfl rfl ?_
 refine Lp_nil ?_
 repeat refine C_seq ?_
 refine C_true rfl ?_
 repeat refine C_seq ?_
 refine C_region ?_
 refine Lp_pv rfl rfl ?_
 refine Lp_pv rfl rfl ?_
 refine Lp_nil ?_
 exact k) : G := h H k
theorem J119 (H : Holds w l) (k : K) (h : Holds w l → K → G := by
 intro H k
 repeat refine C_seq ?_
 refine C_region ?_
 refine Lp_pv rfl rfl ?_
 refine Lp_nil ?_
 repeat refine C_seq ?_
 refine C_region ?_
 refine Lp_pv rfl rfl ?_
 exact k) : G := h H k
theorem J120 (H : Holds w l) (k : K) (h : Holds w l → K → G := by
 intro H k
 refine A_fieldAddr 3 rfl (Wants.none rfl) rfl (by kernel_rfl) ?_
 exact k) : G := h H k
theorem J121 (H : Holds w l) (k : K) (h : Holds w l → K → G := by
 intro H k
 refine A_pv 9 rfl (Wants.none rfl) rfl (by kernel_rfl) ?_
 refine A_end (by kernel_rfl) (by repeat first | exact .nil | refine .cons (.inr H.at) ?_ | refine .cons (.inr H.mp) ?_ | refine .cons (.inl (by kernel_rfl)) ?_) ?_
 exact k) : G := h H k
theorem J122 (H : Holds w l) (k : K) (h : Holds w l → K → G := by
 intro H k
 repeat refine C_seq ?_
 refine C_region ?_
 refine Lp_pv rfl rfl ?_
 refine Lp_nil ?_
 repeat refine C_seq ?_
 refine C_region ?_
 exact k) : G := h H k
theorem J123 (H : Holds w l) (k : K) (h : Holds w l → K → G := by
 intro H k
 refine Lp_pv rfl rfl ?_
 refine Lp_nil ?_
 repeat refine C_seq ?_
 refine C_region ?_
 refine Lp_pv rfl rfl ?_
 refine Lp_s rfl (St_loadN H rfl (by repeat (first | exact Reads.nil _ | apply Reads.cons rfl)) rfl ?_)
 exact k) : G := h H k
theorem J124 (H : Holds w l) (k : K) (h : Holds w l → K → G := by
 intro H k
 refine A_pv 0 rfl (Wants.none rfl) rfl (by kernel_rfl) ?_
 refine A_pv 1 rfl (Wants.none rfl) rfl (by kernel_rfl) ?_
 refine A_fieldAddr 2 rfl (Wants.none rfl) rfl (by kernel_rfl) ?_
 refine A_load1 3 [6] H rfl (Wants.none rfl) rfl rfl (by kernel_rfl) ?_
 exact k) : G := h H k
theorem J125 (H : Holds w l) (k : K) (h : Holds w l → K → G := by
 intro H k
 refine Lp_pv rfl rfl ?_
 refine Lp_nil ?_
 repeat refine C_seq ?_
 refine C_region ?_
 refine Lp_pv rfl rfl ?_
 refine Lp_s rfl (St_eqPtrNil rfl rfl (.inl rfl) rfl ?_)
 refine Lp_nil ?_
 repeat refine C_seq ?_
 refine C_false rfl (C_skip ?_)
 exact k) : G := h H k
theorem J126 (H : Holds w l) (k : K) (h : Holds w l → K → G := by
 intro H k
 refine Lp_gpv rfl rfl rfl rfl ?_
 refine Lp_g rfl rfl rfl (St_eqPtrNil rfl rfl (.inl rfl) rfl ?_)
 refine Lp_pv rfl rfl ?_
 refine Lp_nil ?_
 repeat refine C_seq ?_
 refine C_false rfl (C_skip ?_)
 exact k) : G := h H k
theorem J127 (H : Holds w l) (k : K) (h : Holds w l → K → G := by
 intro H k
 refine A_pv 12 rfl (Wants.none rfl) rfl (by kernel_rfl) ?_
 refine A_end (by kernel_rfl) (by repeat first | exact .nil | refine .cons (.inr H.at) ?_ | refine .cons (.inr H.mp) ?_ | refine .cons (.inl (by kernel_rfl)) ?_) ?_
 exact k) : G := h H k
theorem J128 (H : Holds w l) (k : K) (h : Holds w l → K → G := by
 intro H k
 refine A_pv 38 rfl (Wants.none rfl) rfl (by kernel_rfl) ?_
 refine A_end (by kernel_rfl) (by repeat first | exact .nil | refine .cons (.inr H.at) ?_ | refine .cons (.inr H.mp) ?_ | refine .cons (.inl (by kernel_rfl)) ?_) ?_
 repeat refine C_seq ?_
 refine C_true rfl ?_
 repeat refine C_seq ?_
 refine C_region ?_
 refine Lp_pv rfl rfl ?_
 refine Lp_pv rfl rfl ?_
 refine Lp_nil ?_
 exact k) : G := h H k
theorem J129 (H : Holds w l) (k : K) (h : Holds w l → K → G := by
 intro H k
 repeat refine C_seq ?_
 refine C_region ?_
 refine Lp_s rfl (St_load1 H rfl rfl rfl ?_)
 refine Lp_pv rfl rfl ?_
 refine Lp_s rfl (St_fieldAddr rfl rfl ?_)
 refine Lp_s rfl (St_load1 H rfl rfl rfl ?_)
 refine Lp_pv rfl rfl ?_
 exact k) : G := h H k
theorem J130 (H : Holds w l) (k : K) (h : Holds w l → K → G := by
 intro H k
 repeat refine C_seq ?_
 refine C_region ?_
 refine Lp_s rfl (St_fieldAddr rfl rfl ?_)
 refine Lp_s rfl (St_load1 H rfl rfl rfl ?_)
 refine Lp_pv rfl rfl ?_
 exact k) : G := h H k
theorem J131 (H : Holds w l) (k : K) (h : Holds w l → K → G := by
 intro H k
 refine A_fieldAddr 4 rfl (Wants.none rfl) rfl (by kernel_rfl) ?_
 refine A_load1 5 [] H rfl (Wants.none rfl) rfl rfl (by kernel_rfl) ?_
 exact k) : G := h H k
theorem J132 (H : Holds w l) (k : K) (h : Holds w l → K → G := by
 intro H k
 repeat refine C_seq ?_
 refine C_region ?_
 refine Lp_pv rfl rfl ?_
 refine Lp_nil ?_
 repeat refine C_seq ?_
 refine C_region ?_
 refine Lp_pv rfl rfl ?_
 refine Lp_s rfl (St_lenSlice rfl rfl ?_)
 refine Lp_pv rfl rfl ?_
 refine Lp_nil ?_
 repeat refine C_seq ?_
 refine C_block ?_
 exact k) : G := h H k
theorem J133 (H : Holds w l) (k : K) (h : Holds w l → K → G := by
 intro H k
 repeat refine C_seq ?_
 refine C_region ?_
 refine Lp_pv rfl rfl ?_
 refine Lp_nil ?_
 repeat refine C_seq ?_
 refine C_region ?_
 refine Lp_s rfl (St_build rfl rfl ?_)
 exact k) : G := h H k
theorem J134 (H : Holds w l) (k : K) (h : Holds w l → K → G := by
 intro H k
 refine A_convI 3 rfl (Wants.none rfl) rfl (by kernel_rfl) ?_
 exact k) : G := h H k
theorem J135 (H : Holds w l) (k : K) (h : Holds w l → K → G := by
 intro H k
 refine Lp_pv rfl rfl ?_
 refine Lp_nil ?_
 repeat refine C_seq ?_
 refine C_region ?_
 refine Lp_pv rfl rfl ?_
 exact k) : G := h H k
theorem J136 (H : Holds w l) (k : K) (h : Holds w l → K → G := by
 intro H k
 refine Lp_pv rfl rfl ?_
 refine Lp_pv rfl rfl ?_
 refine Lp_pv rfl rfl ?_
 refine Lp_pv rfl rfl ?_
 refine Lp_pv rfl rfl ?_
 refine Lp_nil ?_
 repeat refine C_seq ?_
 refine C_drawH H mixed ?_
 exact k) : G := h H k
theorem J137 (H : Holds w l) (k : K) (h : Holds w l → K → G := by
 intro H k
 repeat refine C_seq ?_
 refine C_true rfl ?_
 repeat refine C_seq ?_
 refine C_region ?_
 refine Lp_s rfl (St_build rfl rfl ?_)
 refine Lp_s rfl (St_storeN H rfl rfl inferInstance rfl rfl (Nat.le_of_ble_eq_true rfl) rfl ?_)
 exact k) : G := h H k
theorem J138 (H : Holds w l) (k : K) (h : Holds w l → K → G := by
 intro H k
 refine Lp_nil ?_
 repeat refine C_seq ?_
 refine C_region ?_
 refine Lp_pv rfl rfl ?_
 refine Lp_pv rfl rfl ?_
 refine Lp_pv rfl rfl ?_
 refine Lp_nil ?_
 exact k) : G := h H k
theorem J139 (H : Holds w l) (k : K) (h : Holds w l → K → G := by
 intro H k
 repeat refine C_seq ?_
 refine C_region ?_
 refine Lp_pv rfl rfl ?_
 refine Lp_pv rfl rfl ?_
 refine Lp_pv rfl rfl ?_
 refine Lp_pv rfl rfl ?_
 exact k) : G := h H k
theorem J140 (H : Holds w l) (k : K) (h : Holds w l → K → G := by
 intro H k
 repeat refine C_seq ?_
 refine C_region ?_
 refine Lp_pv rfl rfl ?_
 refine Lp_pv rfl rfl ?_
 refine Lp_nil ?_
 repeat refine C_seq ?_
 refine C_region ?_
 refine Lp_pv rfl rfl ?_
 refine Lp_s rfl (St_eqPtrNil rfl rfl (.inl rfl) rfl ?_)
 refine Lp_nil ?_
 repeat refine C_seq ?_
 refine C_false rfl (C_skip ?_)
 exact k) : G := h H k
theorem J141 (H : Holds w l) (k : K) (h : Holds w l → K → G := by
 intro H k
 repeat refine C_seq ?_
 refine C_region ?_
 refine Lp_pv rfl rfl ?_
 refine Lp_nil ?_
 repeat refine C_seq ?_
 refine C_region ?_
 refine Lp_pv rfl rfl ?_
 refine Lp_s rfl (St_eqPtrNil rfl rfl (.inl rfl) rfl ?_)
 refine Lp_nil ?_
 repeat refine C_seq ?_
 refine C_false rfl (C_skip ?_)
 repeat refine C_seq ?_
 refine C_region ?_
 refine Lp_pv rfl rfl ?_
 refine Lp_pv rfl rfl ?_
 exact k) : G := h H k
theorem J142 (H : Holds w l) (k : K) (h : Holds w l → K → G := by
 intro H k
 refine Lp_pv rfl rfl ?_
 refine Lp_pv rfl rfl ?_
 refine Lp_pv rfl rfl ?_
 exact k) : G := h H k
theorem J143 (H : Holds w l) (k : K) (h : Holds w l → K → G := by
 intro H k
 repeat refine C_seq ?_
 refine C_region ?_
 refine Lp_pv rfl rfl ?_
 refine Lp_pv rfl rfl ?_
 refine Lp_nil ?_
 repeat refine C_seq ?_
 exact k) : G := h H k
theorem J144 (H : Holds w l) (k : K) (h : Holds w l → K → G := by
 intro H k
 refine A_pv 17 rfl (Wants.none rfl) rfl (by kernel_rfl) ?_
 exact k) : G := h H k
theorem J145 (H : Holds w l) (k : K) (h : Holds w l → K → G := by
 intro H k
 refine Lp_nn rfl rfl ?_
 refine Lp_no rfl rfl rfl ?_
 exact k) : G := h H k
theorem J146 (H : Holds w l) (k : K) (h : Holds w l → K → G := by
 intro H k
 refine A_pv 6 rfl (Wants.none rfl) rfl (by kernel_rfl) ?_
 refine A_pv 7 rfl (Wants.none rfl) rfl (by kernel_rfl) ?_
 refine A_pv 8 rfl (Wants.none rfl) rfl (by kernel_rfl) ?_
 exact k) : G := h H k
theorem J147 (H : Holds w l) (k : K) (h : Holds w l → K → G := by
 intro H k
 refine Lp_pv rfl rfl ?_
 refine Lp_nil ?_
 repeat refine C_seq ?_
 refine C_true rfl ?_
 repeat refine C_seq ?_
 refine C_region ?_
 refine Lp_s rfl (St_build rfl rfl ?_)
 refine Lp_s rfl (St_storeN H rfl rfl inferInstance rfl rfl (Nat.le_of_ble_eq_true rfl) rfl ?_)
 exact k) : G := h H k
theorem J148 (H : Holds w l) (k : K) (h : Holds w l → K → G := by
 intro H k
 repeat refine C_seq ?_
 refine C_region ?_
 refine Lp_pv rfl rfl ?_
 refine Lp_pv rfl rfl ?_
 refine Lp_s rfl (St_fieldAddr rfl rfl ?_)
 refine Lp_s rfl (St_load1 H rfl rfl rfl ?_)
 refine Lp_s rfl (St_lenSlice rfl rfl ?_)
 exact k) : G := h H k
theorem J149 (H : Holds w l) (k : K) (h : Holds w l → K → G := by
 intro H k
 refine Lp_pv rfl rfl ?_
 refine Lp_pv rfl rfl ?_
 refine Lp_nil ?_
 repeat refine C_seq ?_
 refine C_true rfl ?_
 repeat refine C_seq ?_
 refine C_region ?_
 refine Lp_s rfl (St_build rfl rfl ?_)
 refine Lp_s rfl (St_storeN H rfl rfl inferInstance rfl rfl (Nat.le_of_ble_eq_true rfl) rfl ?_)
 exact k) : G := h H k
theorem J150 (H : Holds w l) (k : K) (h : Holds w l → K → G := by
 intro H k
 refine Lp_pv rfl rfl ?_
 refine Lp_gpv rfl rfl rfl rfl ?_
 refine Lp_gpv rfl rfl rfl rfl ?_
 refine Lp_gpv rfl rfl rfl rfl ?_
 refine Lp_g rfl rfl rfl (St_fieldAddr rfl rfl ?_)
 refine Lp_g rfl rfl rfl (St_load1 H rfl rfl rfl ?_)
 refine Lp_g rfl rfl rfl (St_lenSlice rfl rfl ?_)
 refine Lp_gpv rfl rfl rfl rfl ?_
 exact k) : G := h H k
theorem J151 (H : Holds w l) (k : K) (h : Holds w l → K → G := by
 intro H k
 refine A_pv 0 rfl (Wants.none rfl) rfl (by kernel_rfl) ?_
 refine A_pv 1 rfl (Wants.none rfl) rfl (by kernel_rfl) ?_
 refine A_fieldAddr 2 rfl (Wants.none rfl) rfl (by kernel_rfl) ?_
 refine A_load1 3 [5] H rfl (Wants.none rfl) rfl rfl (by kernel_rfl) ?_
 refine A_loadN 4 [5] H rfl (Wants.none rfl) rfl (by repeat (first | exact Reads.nil _ | apply Reads.cons rfl)) (by kernel_rfl) ?_
 exact k) : G := h H k
theorem J152 (H : Holds w l) (k : K) (h : Holds w l → K → G := by
 intro H k
 repeat refine C_seq ?_
 refine C_region ?_
 refine Lp_pv rfl rfl ?_
 refine Lp_s rfl (St_eqPtrNil rfl rfl (.inl rfl) rfl ?_)
 exact k) : G := h H k
theorem J153 (H : Holds w l) (k : K) (h : Holds w l → K → G := by
 intro H k
 refine A_pv 7 rfl (Wants.none rfl) rfl (by kernel_rfl) ?_
 refine A_pv 8 rfl (Wants.none rfl) rfl (by kernel_rfl) ?_
 refine A_pv 9 rfl (Wants.none rfl) rfl (by kernel_rfl) ?_
 exact k) : G := h H k
theorem J154 (H : Holds w l) (k : K) (h : Holds w l → K → G := by
 intro H k
 refine Lp_pv rfl rfl ?_
 refine Lp_nil ?_
 repeat refine C_seq ?_
 refine C_region ?_
 refine Lp_pv rfl rfl ?_
 refine Lp_pv rfl rfl ?_
 refine Lp_nil ?_
 repeat refine C_seq ?_
 refine C_false rfl (C_skip ?_)
 repeat refine C_seq ?_
 refine C_region ?_
 refine Lp_pv rfl rfl ?_
 refine Lp_s rfl (St_loadN H rfl (by repeat (first | exact Reads.nil _ | apply Reads.cons rfl)) rfl ?_)
 exact k) : G := h H k
theorem J155 (H : Holds w l) (k : K) (h : Holds w l → K → G := by
 intro H k
 refine Lp_pv rfl rfl ?_
 refine Lp_nil ?_
 repeat refine C_seq ?_
 refine C_region ?_
 refine Lp_pv rfl rfl ?_
 refine Lp_pv rfl rfl ?_
 exact k) : G := h H k
theorem J156 (H : Holds w l) (k : K) (h : Holds w l → K → G := by
 intro H k
 repeat refine C_seq ?_
 refine C_region ?_
 refine Lp_s rfl (St_loadN H rfl (by repeat (first | exact Reads.nil _ | apply Reads.cons rfl)) rfl ?_)
 refine Lp_pv rfl rfl ?_
 refine Lp_s rfl (St_storeN H rfl rfl inferInstance rfl rfl (Nat.le_of_ble_eq_true rfl) rfl ?_)
 exact k) : G := h H k
theorem J157 (H : Holds w l) (k : K) (h : Holds w l → K → G := by
 intro H k
 repeat refine C_seq ?_
 refine C_region ?_
 refine Lp_pv rfl rfl ?_
 refine Lp_nil ?_
 repeat refine C_seq ?_
 refine C_region ?_
 refine Lp_pv rfl rfl ?_
 refine Lp_s rfl (St_lenSlice rfl rfl ?_)
 exact k) : G := h H k
theorem J158 (H : Holds w l) (k : K) (h : Holds w l → K → G := by
 intro H k
 refine Lp_nil ?_
 repeat refine C_seq ?_
 refine C_region ?_
 refine Lp_pv rfl rfl ?_
 exact k) : G := h H k
theorem J159 (H : Holds w l) (k : K) (h : Holds w l → K → G := by
 intro H k
 repeat refine C_seq ?_
 refine C_false rfl (C_skip ?_)
 repeat refine C_seq ?_
 refine C_region ?_
 refine Lp_pv rfl rfl ?_
 refine Lp_nil ?_
 exact k) : G := h H k
theorem J160 (H : Holds w l) (k : K) (h : Holds w l → K → G := by
 intro H k
 refine A_pv 11 rfl (Wants.of rfl rfl rfl) rfl (by kernel_rfl) ?_
 exact k) : G := h H k
theorem J161 (H : Holds w l) (k : K) (h : Holds w l → K → G := by
 intro H k
 repeat refine C_seq ?_
 refine C_true rfl ?_
 repeat refine C_seq ?_
 refine C_region ?_
 refine Lp_s rfl (St_build rfl rfl ?_)
 refine Lp_pv rfl rfl ?_
 refine Lp_s rfl (St_storeN H rfl rfl inferInstance rfl rfl (Nat.le_of_ble_eq_true rfl) rfl ?_)
 exact k) : G := h H k
theorem J162 (H : Holds w l) (k : K) (h : Holds w l → K → G := by
 intro H k
 refine A_pv 0 rfl (Wants.none rfl) rfl (by kernel_rfl) ?_
 refine A_pv 1 rfl (Wants.none rfl) rfl (by kernel_rfl) ?_
 refine A_fieldAddr 2 rfl (Wants.none rfl) rfl (by kernel_rfl) ?_
 refine A_load1 3 [5, 10] H rfl (Wants.none rfl) rfl rfl (by kernel_rfl) ?_
 refine A_loadN 4 [5, 10] H rfl (Wants.none rfl) rfl (by repeat (first | exact Reads.nil _ | apply Reads.cons rfl)) (by kernel_rfl) ?_
 exact k) : G := h H k
theorem J163 (H : Holds w l) (k : K) (h : Holds w l → K → G := by
 intro H k
 refine A_pv 6 rfl (Wants.none rfl) rfl (by kernel_rfl) ?_
 refine A_pv 7 rfl (Wants.none rfl) rfl (by kernel_rfl) ?_
 refine A_pv 8 rfl (Wants.none rfl) rfl (by kernel_rfl) ?_
 refine Jo 9 H ?_
 refine St_alloc H rfl ?_
 exact k) : G := h H k
theorem J164 (H : Holds w l) (k : K) (h : Holds w l → K → G := by
 intro H k
 refine Jo 10 H ?_
 refine St_storeN H rfl rfl inferInstance rfl rfl (Nat.le_of_ble_eq_true rfl) rfl ?_
 exact k) : G := h H k
theorem J165 (H : Holds w l) (k : K) (h : Holds w l → K → G := by
 intro H k
 refine A_pv 6 rfl (Wants.none rfl) rfl (by kernel_rfl) ?_
 refine A_pv 7 rfl (Wants.none rfl) rfl (by kernel_rfl) ?_
 refine A_pv 8 rfl (Wants.none rfl) rfl (by kernel_rfl) ?_
 refine Jo 10 H ?_
 refine St_storeN H rfl rfl inferInstance rfl rfl (Nat.le_of_ble_eq_true rfl) rfl ?_
 exact k) : G := h H k
theorem J166 (H : Holds w l) (k : K) (h : Holds w l → K → G := by
 intro H k
 refine A_pv 1 rfl (Wants.none rfl) rfl (by kernel_rfl) ?_
 refine A_fieldAddr 2 rfl (Wants.none rfl) rfl (by kernel_rfl) ?_
 exact k) : G := h H k
theorem J167 (H : Holds w l) (k : K) (h : Holds w l → K → G := by
 intro H k
 refine A_load1 3 [8] H rfl (Wants.none rfl) rfl rfl (by kernel_rfl) ?_
 exact k) : G := h H k
theorem J168 (H : Holds w l) (k : K) (h : Holds w l → K → G := by
 intro H k
 refine Lp_s rfl (St_lenSlice rfl rfl ?_)
 refine Lp_pv rfl rfl ?_
 refine Lp_nil ?_
 exact k) : G := h H k
theorem J169 (H : Holds w l) (k : K) (h : Holds w l → K → G := by
 intro H k
 refine Lp_gpv rfl rfl rfl rfl ?_
 refine Lp_gpv rfl rfl rfl rfl ?_
 refine Lp_gpv rfl rfl rfl rfl ?_
 refine Lp_pv rfl rfl ?_
 refine Lp_pv rfl rfl ?_
 exact k) : G := h H k
theorem J170 (H : Holds w l) (k : K) (h : Holds w l → K → G := by
 intro H k
 refine Lp_pv rfl rfl ?_
 refine Lp_g rfl rfl rfl (St_fieldAddr rfl rfl ?_)
 refine Lp_g rfl rfl rfl (St_load1 H rfl rfl rfl ?_)
 refine Lp_gpv rfl rfl rfl rfl ?_
 exact k) : G := h H k
theorem J171 (H : Holds w l) (k : K) (h : Holds w l → K → G := by
 intro H k
 refine Lp_s rfl (St_build rfl rfl ?_)
 refine Lp_s rfl (St_build rfl rfl ?_)
 exact k) : G := h H k
theorem J172 (H : Holds w l) (k : K) (h : Holds w l → K → G := by
 intro H k
 refine Lp_s rfl (St_fieldAddr rfl rfl ?_)
 refine Lp_s rfl (St_store1 H rfl rfl inferInstance rfl (Nat.le_of_ble_eq_true rfl) rfl ?_)
 exact k) : G := h H k
theorem J173 (H : Holds w l) (k : K) (h : Holds w l → K → G := by
 intro H k
 repeat refine C_seq ?_
 refine C_region ?_
 refine Lp_pv rfl rfl ?_
 refine Lp_nil ?_
 repeat refine C_seq ?_
 refine C_region ?_
 refine Lp_pv rfl rfl ?_
 refine Lp_s rfl (St_eqPtrNil rfl rfl (.inl rfl) rfl ?_)
 refine Lp_nil ?_
 repeat refine C_seq ?_
 refine C_false rfl (C_skip ?_)
 exact k) : G := h H k
theorem J174 (H : Holds w l) (k : K) (h : Holds w l → K → G := by
 intro H k
 refine A_pv 12 rfl (Wants.none rfl) rfl (by kernel_rfl) ?_
 refine A_pv 13 rfl (Wants.none rfl) rfl (by kernel_rfl) ?_
 refine A_pv 14 rfl (Wants.none rfl) rfl (by kernel_rfl) ?_
 exact k) : G := h H k
theorem J175 (H : Holds w l) (k : K) (h : Holds w l → K → G := by
 intro H k
 repeat refine C_seq ?_
 refine C_region ?_
 refine Lp_pv rfl rfl ?_
 refine Lp_s rfl (St_eqPtrNil rfl rfl (.inl rfl) rfl ?_)
 refine Lp_nil ?_
 repeat refine C_seq ?_
 refine C_false rfl (C_skip ?_)
 exact k) : G := h H k
theorem J176 (H : Holds w l) (k : K) (h : Holds w l → K → G := by
 intro H k
 repeat refine C_seq ?_
 refine C_true rfl ?_
 repeat refine C_seq ?_
 refine C_region ?_
 refine Lp_pv rfl rfl ?_
 refine Lp_pv rfl rfl ?_
 refine Lp_pv rfl rfl ?_
 refine Lp_nil ?_
 exact k) : G := h H k
theorem J177 (H : Holds w l) (k : K) (h : Holds w l → K → G := by
 intro H k
 refine A_load1 5 [] H rfl (Wants.of rfl rfl rfl) rfl rfl (by kernel_rfl) ?_
 exact k) : G := h H k
theorem J178 (H : Holds w l) (k : K) (h : Holds w l → K → G := by
 intro H k
 refine A_load1 9 [] H rfl (Wants.of rfl rfl rfl) rfl rfl (by kernel_rfl) ?_
 exact k) : G := h H k
theorem J179 (H : Holds w l) (k : K) (h : Holds w l → K → G := by
 intro H k
 repeat refine C_seq ?_
 refine C_region ?_
 refine Lp_pv rfl rfl ?_
 refine Lp_s rfl (St_eqPtrNil rfl rfl (.inl rfl) rfl ?_)
 refine Lp_pv rfl rfl ?_
 refine Lp_nil ?_
 repeat refine C_seq ?_
 refine C_false rfl ?_
 exact k) : G := h H k
theorem J180 (H : Holds w l) (k : K) (h : Holds w l → K → G := by
 intro H k
 refine Lp_gpv rfl rfl rfl rfl ?_
 refine Lp_gpv rfl rfl rfl rfl ?_
 refine Lp_gpv rfl rfl rfl rfl ?_
 refine Lp_g rfl rfl rfl (St_fieldAddr rfl rfl ?_)
 refine Lp_g rfl rfl rfl (St_load1 H rfl rfl rfl ?_)
 refine Lp_g rfl rfl rfl (St_lenSlice rfl rfl ?_)
 refine Lp_gpv rfl rfl rfl rfl ?_
 exact k) : G := h H k
end
end Go.SL
namespace Go.Proofs.YtipelpbkeiphmaaGreatDoor
open Go.SL

abbrev Rf := Int × Int
theorem tkR : TKey Tryz.prog 166 kp := tkey_pair inferInstance
theorem tkI : TKey Tryz.prog 3 (ki .i64) := tkey_int inferInstance
@[reducible] def vm : Nat → Value := fun b => .map (some b)
@[reducible] def v1 : Int → Value := fun x => .int .i64 x
@[reducible] def rf (r : Rf) : Value := .agg #[.int .i64 r.1, .int .i64 r.2]

/-- A group: its number, its block, its references. -/
structure Gr where
  key : Int
  blk : Nat
  m : List (Rf × Int)

@[reducible] def inner (g : Gr) : HProp := mp kp v1 g.blk g.m
@[reducible] def gkb (g : Gr) : Int × Nat := (g.key, g.blk)
def mem (G : List Gr) (k : Int) (r : Rf) : Prop := ∃ g ∈ G, g.key = k ∧ r ∈ g.m.map (·.1)
def GrR (bo : Nat) (S : Int → Rf → Prop) : HProp := ex fun G => star [prop (∀ k r, mem G k r ↔ S k r), mp (ki .i64) vm bo (G.map gkb), star (G.map inner)]

theorem GrR_out [Extra] {w : World} {bo : Nat} {S : Int → Rf → Prop} {l : List HProp} (H : Holds w (GrR bo S :: l)) :
    ∃ G, (∀ k r, mem G k r ↔ S k r) ∧ Holds w (mp (ki .i64) vm bo (G.map gkb) :: star (G.map inner) :: l) := by
  obtain ⟨G, H⟩ := Holds.ex.1 H
  have H := Holds.star.1 H
  obtain ⟨h1, H⟩ := Holds.prop.1 H
  exact ⟨G, h1, H⟩

theorem GrR_in [Extra] {w : World} {bo : Nat} {S : Int → Rf → Prop} {l : List HProp} (G : List Gr) (h : ∀ k r, mem G k r ↔ S k r) (H : Holds w (mp (ki .i64) vm bo (G.map gkb) :: star (G.map inner) :: l)) : Holds w (GrR bo S :: l) :=
  Holds.ex.2 ⟨G, Holds.star.2 (Holds.prop.2 ⟨h, H⟩)⟩

theorem keys_nodup [Extra] {w : World} {K V : Type} {ek : K → Value} {vv : V → Value} (b : Nat) {m : List (K × V)} {l : List HProp} (H : Holds w l) [AtM ek vv b m l] : (m.map (·.1)).Nodup := by
  obtain ⟨es, c, _, h⟩ := Holds.mp H (ek := ek) (vv := vv) (b := b) (m := m)
  exact h.nodup

theorem gkb_keys (G : List Gr) : (G.map gkb).map (·.1) = G.map (·.key) := by simp [gkb, Function.comp_def]

theorem group_at {G : List Gr} {k : Int} {b : Nat} (h : fnd (G.map gkb) k = some b) : ∃ g g1 g2, G = g1 ++ g :: g2 ∧ g.key = k ∧ g.blk = b := by
  have h1 := fnd_mem h
  obtain ⟨g, hg, e⟩ := List.mem_map.1 h1
  obtain ⟨g1, g2, rfl⟩ := List.append_of_mem hg
  simp only [gkb, Prod.mk.injEq] at e
  exact ⟨g, g1, g2, rfl, e.1, e.2⟩

theorem era_mid {K V : Type} [DecidableEq K] {l1 l2 : List (K × V)} {p : K × V} (h : ((l1 ++ p :: l2).map (·.1)).Nodup) : era (l1 ++ p :: l2) p.1 = l1 ++ l2 := by
  induction l1 with
  | nil => simp [era]
  | cons q l1 ih =>
    simp only [List.cons_append, List.map_cons, List.nodup_cons] at h
    have hne : q.1 ≠ p.1 := fun e => h.1 (by rw [e]; simp)
    simp [era, hne, ih h.2]

theorem mem_mid {g1 g2 : List Gr} {g : Gr} {k : Int} {r : Rf} : mem (g1 ++ g :: g2) k r ↔ (g.key = k ∧ r ∈ g.m.map (·.1)) ∨ mem (g1 ++ g2) k r := by
  unfold mem
  simp only [List.mem_append, List.mem_cons]
  constructor
  · rintro ⟨x, hx | rfl | hx, h⟩
    · exact .inr ⟨x, .inl hx, h⟩
    · exact .inl h
    · exact .inr ⟨x, .inr hx, h⟩
  · rintro (h | ⟨x, hx | hx, h⟩)
    · exact ⟨g, .inr (.inl rfl), h⟩
    · exact ⟨x, .inl hx, h⟩
    · exact ⟨x, .inr (.inr hx), h⟩

theorem mem_key {G : List Gr} {k : Int} {r : Rf} (h : mem G k r) : k ∈ G.map (·.key) := by
  obtain ⟨g, hg, rfl, _⟩ := h
  exact List.mem_map_of_mem hg

theorem rest_key {g1 g2 : List Gr} {g : Gr} (h : ((g1 ++ g :: g2).map (·.key)).Nodup) : g.key ∉ (g1 ++ g2).map (·.key) := by
  rw [((List.perm_middle (a := g) (l₁ := g1) (l₂ := g2)).map (·.key)).nodup_iff] at h
  exact (List.nodup_cons.1 h).1

theorem mem_swap {g1 g2 : List Gr} {g g' : Gr} (hk : g'.key = g.key) (hn : ((g1 ++ g :: g2).map (·.key)).Nodup) {k : Int} {r : Rf} : mem (g1 ++ g' :: g2) k r ↔ if k = g.key then r ∈ g'.m.map (·.1) else mem (g1 ++ g :: g2) k r := by
  have hr := rest_key hn
  rw [mem_mid, mem_mid, hk]
  by_cases h : k = g.key
  · subst h
    simp only [if_true, true_and]
    exact ⟨fun h => h.elim id fun h => absurd (mem_key h) hr, .inl⟩
  · rw [if_neg h]
    constructor
    · rintro (⟨e, _⟩ | h')
      · exact absurd e.symm h
      · exact .inr h'
    · rintro (⟨e, _⟩ | h')
      · exact absurd e.symm h
      · exact .inr h'

theorem lose_spec [Extra] (bo : Nat) (S : Int → Rf → Prop) (k : Int) (r : Rf) {w : World} {fr : List HProp} (H : Holds w (GrR bo S :: fr)) :
    Calls Tryz.prog 170 #[.map (some bo), .int .i64 k, rf r] w (ret fun v w' => Holds w' (GrR bo (fun k' r' => S k' r' ∧ ¬ (k' = k ∧ r' = r)) :: fr)) := by
  obtain ⟨a, b⟩ := r
  refine calls_of Tryz.func170 rfl (by kernel_rfl) ?_
  obtain ⟨G, hG, H⟩ := GrR_out H
  refine J8 H ?_
  clear H; intro b5 w H
  refine J87 H ?_
  refine Lp_s rfl (St_lookup (key := k) H rfl rfl tkI rfl ?_)
  have hn0 := keys_nodup bo H
  have hn : (G.map (·.key)).Nodup := by rw [← gkb_keys]; exact hn0
  cases hf : fnd (G.map gkb) k with
  | none =>
    refine J44 H ?_
    refine Lp_s rfl (St_delete_nil (key := (a, b)) rfl rfl tkR rfl ?_)
    refine J87 H ?_
    refine Lp_s rfl (St_lookup (key := k) H rfl rfl tkI rfl ?_)
    rw [hf]
    refine Lp_s rfl (St_lenMap_nil rfl rfl ?_)
    refine J0 H ?_
    refine C_true rfl ?_
    refine J2 H ?_
    refine Lp_s rfl (St_delete (key := k) H rfl rfl tkI rfl ?_)
    clear H; intro w H
    refine Lp_nil ?_
    have hk := fnd_eq_none.1 hf
    rw [era_none hk] at H
    refine fn_end0 _ (.inl rfl) (GrR_in G (fun k' r' => ?_) H.drop) rfl (fun w' H' => H')
    rw [← hG k' r']
    exact ⟨fun h => ⟨h, fun e => hk (by rw [gkb_keys, ← e.1]; exact mem_key h)⟩, (·.1)⟩
  | some bi =>
    obtain ⟨g, g1, g2, rfl, rfl, rfl⟩ := group_at hf
    have H := (Holds.pick rfl).1 (H.pull 2)
    refine J44 H ?_
    have hi := keys_nodup g.blk H
    refine Lp_s rfl (St_delete (key := (a, b)) H rfl rfl tkR rfl ?_)
    clear H; intro w H
    refine J87 H ?_
    refine Lp_s rfl (St_lookup (key := g.key) H rfl rfl tkI rfl ?_)
    rw [hf]
    refine Lp_s rfl (St_lenMap kp v1 H rfl rfl ?_)
    refine J0 H ?_
    refine C_cond rfl (fun ht => ?_) (fun ht => ?_)
    · refine J2 H ?_
      refine Lp_s rfl (St_delete (key := g.key) H rfl rfl tkI rfl ?_)
      clear H; intro w H
      refine Lp_nil ?_
      have e : era ((g1 ++ g :: g2).map gkb) g.key = (g1 ++ g2).map gkb := by
        simp only [List.map_append, List.map_cons] at hn0 ⊢
        exact era_mid (p := gkb g) (by simpa using hn0)
      rw [e] at H
      refine fn_end0 _ (.inl rfl) (GrR_in (g1 ++ g2) (fun k' r' => ?_) (l := fr) ?_) rfl (fun w' H' => H')
      · have hr := rest_key hn
        have hz : era g.m (a, b) = [] := List.eq_nil_of_length_eq_zero (by simpa using ht)
        rw [← hG k' r', mem_mid]
        constructor
        · intro h
          exact ⟨.inr h, fun e => hr (by rw [← e.1]; exact mem_key h)⟩
        · rintro ⟨⟨rfl, h⟩ | h, h2⟩
          · have := (keys_era (m := g.m) (x := (a, b)) (y := r') hi).2 ⟨fun e => h2 ⟨rfl, e⟩, h⟩
            rw [hz] at this
            simp at this
          · exact h
      · replace H := Js [3,1] 2 H
        exact H
    · refine C_skip ?_
      replace H := Js [0,0,1] 1 H
      refine fn_end0 _ (.inl rfl) (GrR_in (g1 ++ { g with m := era g.m (a, b) } :: g2) (fun k' r' => ?_) (l := fr) ?_) rfl (fun w' H' => H')
      · rw [mem_swap (g := g) (g' := { g with m := era g.m (a, b) }) rfl hn, ← hG k' r']
        split
        · rename_i e
          subst e
          rw [keys_era hi, mem_mid]
          have hr := rest_key hn
          constructor
          · rintro ⟨h1, h2⟩
            exact ⟨.inl ⟨rfl, h2⟩, fun e => h1 e.2⟩
          · rintro ⟨⟨_, h⟩ | h, h2⟩
            · exact ⟨fun e => h2 ⟨rfl, e⟩, h⟩
            · exact absurd (mem_key h) hr
        · rename_i e
          exact ⟨fun h => ⟨h, fun e' => e e'.1⟩, (·.1)⟩
      · have H := ((Holds.pick (R := inner) (gs := g1 ++ { g with m := era g.m (a, b) } :: g2) rfl).2 H).swap
        simpa only [List.map_append, List.map_cons, List.map_nil, gkb] using H

theorem note_spec [Extra] (bo : Nat) (S : Int → Rf → Prop) (k : Int) (r : Rf) {w : World} {fr : List HProp} (H : Holds w (GrR bo S :: fr)) :
    Calls Tryz.prog 323 #[.map (some bo), .int .i64 k, rf r] w (ret fun v w' => Holds w' (GrR bo (fun k' r' => S k' r' ∨ (k' = k ∧ r' = r)) :: fr)) := by
  obtain ⟨a, b⟩ := r
  refine calls_of Tryz.func323 rfl (by kernel_rfl) ?_
  obtain ⟨G, hG, H⟩ := GrR_out H
  refine J8 H ?_
  clear H; intro b5 w H
  refine J87 H ?_
  refine Lp_s rfl (St_lookup (key := k) H rfl rfl tkI rfl ?_)
  have hn0 := keys_nodup bo H
  have hn : (G.map (·.key)).Nodup := by rw [← gkb_keys]; exact hn0
  cases hf : fnd (G.map gkb) k with
  | none =>
    refine Lp_s rfl (St_eqMapNil rfl rfl (.inl rfl) rfl ?_)
    refine Lp_nil ?_
    refine C_true rfl ?_
    refine J2 H ?_
    refine Lp_s rfl (St_makeMap v1 kp H rfl ?_)
    clear H; intro b12 w H
    refine Lp_s rfl (St_mapUpdate (key := k) (v := b12) H rfl rfl rfl tkI rfl ?_)
    clear H; intro w H
    refine J87 H ?_
    have hk := fnd_eq_none.1 hf
    refine Lp_s rfl (St_lookup (key := k) H rfl rfl tkI rfl ?_)
    have hf2 : fnd (ins (G.map gkb) k b12) k = some b12 := by rw [fnd_ins, if_pos rfl]
    rw [hf2]
    refine J44 H ?_
    refine Lp_s rfl (St_mapUpdate (key := (a, b)) (v := 1) H rfl rfl rfl tkR rfl ?_)
    clear H; intro w H
    refine Lp_nil ?_
    rw [ins_none hk] at H
    replace H := Js [0,2,1] 1 H
    refine fn_end0 _ (.inl rfl) (GrR_in (G ++ { key := k, blk := b12, m := [((a, b), 1)] } :: []) (fun k' r' => ?_) (l := fr) ?_) rfl (fun w' H' => H')
    · rw [mem_mid, List.append_nil, hG k' r']
      constructor
      · rintro (⟨rfl, h⟩ | h)
        · exact .inr ⟨rfl, by simpa using h⟩
        · exact .inl h
      · rintro (h | ⟨rfl, rfl⟩)
        · exact .inr h
        · exact .inl ⟨rfl, by simp⟩
    · have H := ((Holds.pick (R := inner) (gs := G ++ { key := k, blk := b12, m := [((a, b), 1)] } :: []) rfl).2 (by rw [List.append_nil]; exact H)).swap
      simpa only [List.map_append, List.map_cons, List.map_nil, gkb] using H
  | some bi =>
    obtain ⟨g, g1, g2, rfl, rfl, rfl⟩ := group_at hf
    have H := (Holds.pick rfl).1 (H.pull 2)
    refine Lp_s rfl (St_eqMapNil rfl rfl (.inl rfl) rfl ?_)
    refine Lp_nil ?_
    refine C_false rfl (C_skip ?_)
    refine J2 H ?_
    refine Lp_s rfl (St_lookup (key := g.key) H rfl rfl tkI rfl ?_)
    rw [hf]
    refine J44 H ?_
    refine Lp_s rfl (St_mapUpdate (key := (a, b)) (v := 1) H rfl rfl rfl tkR rfl ?_)
    clear H; intro w H
    refine Lp_nil ?_
    replace H := Js [0,0,1] 1 H
    refine fn_end0 _ (.inl rfl) (GrR_in (g1 ++ { g with m := ins g.m (a, b) 1 } :: g2) (fun k' r' => ?_) (l := fr) ?_) rfl (fun w' H' => H')
    · rw [mem_swap (g := g) (g' := { g with m := ins g.m (a, b) 1 }) rfl hn, ← hG k' r']
      split
      · rename_i e
        subst e
        rw [keys_ins, mem_mid]
        have hr := rest_key hn
        constructor
        · rintro (h | h)
          · exact .inr ⟨rfl, h⟩
          · exact .inl (.inl ⟨rfl, h⟩)
        · rintro ((⟨_, h⟩ | h) | ⟨_, h⟩)
          · exact .inr h
          · exact absurd (mem_key h) hr
          · exact .inl h
      · rename_i e
        exact ⟨.inl, fun h => h.elim id fun e' => absurd e'.1 e⟩
    · have H := ((Holds.pick (R := inner) (gs := g1 ++ { g with m := ins g.m (a, b) 1 } :: g2) rfl).2 H).swap
      simpa only [List.map_append, List.map_cons, List.map_nil, gkb] using H
end Go.Proofs.YtipelpbkeiphmaaGreatDoor
