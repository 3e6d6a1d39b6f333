/- Cells: what is proved on the way: every input of the statement; no condition. Texts joined: Srt Srd SlJ SlI SlZ Dic. -/
import Derived.Shelf.SlGeneric
import Derived.Shelf.SlSortCmp.NoneTotal
import Derived.Ground.SlsfProg
import Derived.Test.YtipelpbkeiphmaaGreatDoorProg
import Derived.Shelf.Slices.Delete
import Derived.Ground.Names2Prog
import Derived.Test.YtipelpbkeiphmaaGreatDoorBae
import Derived.Test.YtipelpbkeiphmaaGreatDoorBac
import Derived.RangeFuncNested
import Derived.WideKeyArgs
import Derived.ChangeOld
import Derived.OpenShut
import Derived.ProofKit
import Derived.Deep.Slices
import Derived.Test.YtipelpbkeiphmaaGreatDoorBaa
import Derived.Test.YtipelpbkeiphmaaGreatDoorBab
import Derived.Test.YtipelpbkeiphmaaGreatDoorBad
namespace Go.Proofs
open Go.Shelf
def Tryz.sortRef_ren : Go.Shelf.Ren := ⟨fun | 6 => 294 | 15 => 162 | 14 => 319 | 28 => 238 | 29 => 239 | 20 => 330 | 21 => 331 | 22 => 332 | 23 => 333 | 24 => 334 | 25 => 335 | 26 => 336 | 27 => 337 | 46 => 340 | 47 => 297 | 48 => 298 | 49 => 341 | 50 => 342 | 57 => 343 | n => n, fun | 22 => 143 | 24 => 166 | 25 => 323 | 3 => 3 | 39 => 210 | 0 => 0 | 53 => 334 | 55 => 127 | 4 => 4 | 46 => 328 | 45 => 327 | 50 => 235 | 5 => 5 | 9 => 9 | 66 => 382 | 70 => 386 | 76 => 405 | 77 => 298 | n => n, fun | n => n⟩
theorem Tryz.sortRef : Go.Proofs.SlLaysF0.n6 Tryz.prog Tryz.sortRef_ren := {
  mixed := by kernel_rfl
  f6 := ⟨Tryz.f294.name, by decide, Tryz.func294.trans (congrArg some (by kernel_rfl))⟩
  f14 := ⟨Tryz.f319.name, by decide, Tryz.func319.trans (congrArg some (by kernel_rfl))⟩
  f15 := Tryz.func162.trans (congrArg some (by kernel_rfl))
  f20 := ⟨Tryz.f330.name, by decide, Tryz.func330.trans (congrArg some (by kernel_rfl))⟩
  f21 := ⟨Tryz.f331.name, by decide, Tryz.func331.trans (congrArg some (by kernel_rfl))⟩
  f22 := ⟨Tryz.f332.name, by decide, Tryz.func332.trans (congrArg some (by kernel_rfl))⟩
  f23 := ⟨Tryz.f333.name, by decide, Tryz.func333.trans (congrArg some (by kernel_rfl))⟩
  f24 := ⟨Tryz.f334.name, by decide, Tryz.func334.trans (congrArg some (by kernel_rfl))⟩
  f25 := ⟨Tryz.f335.name, by decide, Tryz.func335.trans (congrArg some (by kernel_rfl))⟩
  f26 := ⟨Tryz.f336.name, by decide, Tryz.func336.trans (congrArg some (by kernel_rfl))⟩
  f27 := ⟨Tryz.f337.name, by decide, Tryz.func337.trans (congrArg some (by kernel_rfl))⟩
  f28 := Tryz.func238.trans (congrArg some (by kernel_rfl))
  f29 := Tryz.func239.trans (congrArg some (by kernel_rfl))
  f46 := ⟨Tryz.f340.name, by decide, Tryz.func340.trans (congrArg some (by kernel_rfl))⟩
  f47 := Tryz.func297.trans (congrArg some (by kernel_rfl))
  f48 := Tryz.func298.trans (congrArg some (by kernel_rfl))
  f49 := ⟨Tryz.f341.name, by decide, Tryz.func341.trans (congrArg some (by kernel_rfl))⟩
  f50 := ⟨Tryz.f342.name, by decide, Tryz.func342.trans (congrArg some (by kernel_rfl))⟩
  f57 := ⟨Tryz.f343.name, by decide, Tryz.func343.trans (congrArg some (by kernel_rfl))⟩
  t0 := Tryz.underlying0
  a0 := Tryz.isAgg0
  z0 := Tryz.sizeOf0
  v0 := Tryz.zeroValue0
  t3 := Tryz.underlying3
  a3 := Tryz.isAgg3
  z3 := Tryz.sizeOf3
  v3 := Tryz.zeroValue3
  t4 := Tryz.underlying4
  a4 := Tryz.isAgg4
  z4 := Tryz.sizeOf4
  v4 := Tryz.zeroValue4
  t5 := Tryz.underlying5
  a5 := Tryz.isAgg5
  z5 := Tryz.sizeOf5
  v5 := Tryz.zeroValue5
  t9 := Tryz.underlying9
  a9 := Tryz.isAgg9
  z9 := Tryz.sizeOf9
  v9 := Tryz.zeroValue9
  t22 := Tryz.underlying143
  a22 := Tryz.isAgg143
  z22 := Tryz.sizeOf143
  v22 := Tryz.zeroValue143
  t25 := Tryz.underlying323
  a25 := Tryz.isAgg323
  z25 := Tryz.sizeOf323
  v25 := Tryz.zeroValue323
  t39 := Tryz.underlying210
  a39 := Tryz.isAgg210
  z39 := Tryz.sizeOf210
  v39 := Tryz.zeroValue210
  t45 := Tryz.underlying327
  a45 := Tryz.isAgg327
  z45 := Tryz.sizeOf327
  v45 := Tryz.zeroValue327
  t46 := Tryz.underlying328
  a46 := Tryz.isAgg328
  z46 := Tryz.sizeOf328
  v46 := Tryz.zeroValue328
  t50 := Tryz.underlying235
  a50 := Tryz.isAgg235
  z50 := Tryz.sizeOf235
  v50 := Tryz.zeroValue235
  t53 := Tryz.underlying334
  a53 := Tryz.isAgg334
  z53 := Tryz.sizeOf334
  v53 := Tryz.zeroValue334
  t55 := Tryz.underlying127
  a55 := Tryz.isAgg127
  z55 := Tryz.sizeOf127
  v55 := Tryz.zeroValue127
  t66 := Tryz.underlying382
  a66 := Tryz.isAgg382
  z66 := Tryz.sizeOf382
  v66 := Tryz.zeroValue382
  t70 := Tryz.underlying386
  a70 := Tryz.isAgg386
  z70 := Tryz.sizeOf386
  v70 := Tryz.zeroValue386
  t76 := Tryz.underlying405
  a76 := Tryz.isAgg405
  z76 := Tryz.sizeOf405
  v76 := Tryz.zeroValue405
  t77 := Tryz.underlying298
  a77 := Tryz.isAgg298
  z77 := Tryz.sizeOf298
  v77 := Tryz.zeroValue298 }
end Go.Proofs
namespace Go.Proofs
open Go.Shelf
def Tryz.laysDel_ren : Go.Shelf.Ren := ⟨fun | 23 => 247 | n => n, fun | 22 => 46 | 3 => 3 | 4 => 4 | 0 => 0 | n => n, fun | n => n⟩
theorem Tryz.laysDel : Go.Proofs.Lays2.n23 Tryz.prog Tryz.laysDel_ren := {
  mixed := by kernel_rfl
  f23 := Tryz.func247.trans (congrArg some (by kernel_rfl))
  t0 := Tryz.underlying0
  a0 := Tryz.isAgg0
  z0 := Tryz.sizeOf0
  v0 := Tryz.zeroValue0
  t3 := Tryz.underlying3
  a3 := Tryz.isAgg3
  z3 := Tryz.sizeOf3
  v3 := Tryz.zeroValue3
  t4 := Tryz.underlying4
  a4 := Tryz.isAgg4
  z4 := Tryz.sizeOf4
  v4 := Tryz.zeroValue4
  t22 := Tryz.underlying46
  a22 := Tryz.isAgg46
  z22 := Tryz.sizeOf46
  v22 := Tryz.zeroValue46
  i3 := by kernel_rfl }
end Go.Proofs
set_option linter.unusedVariables false
set_option linter.unusedSimpArgs false
set_option linter.unusedSectionVars false
namespace Go.SL
section
variable {P : Program} {n : Nat} {r : Option Nat} {ops : Array Oper} {Q : Post} {ms : List Nat} {σ : Env} {w : World} {rest : List Oper} {o : Oper} {K : Env → World → Prop} {l l' : List HProp}
variable {ivs : List (List Nat × (World → Prop))} {T : Env → World → Prop} {f : Nat} {L : Array Bool}
variable {u t s : TypeId} {p : String} {af : Array Edge} {g : Option (Nat × Bool)} {d : Option Tmp} {x y z : Operand}

theorem run_slice3 {e size bytes b o2 len cap i j : Nat} {q q' : IntKind} (hT : TSlice P t e size bytes) (h1 : i ≤ j) (h2 : j ≤ cap) :
    (Instr.sliceAt t (.slice (some ⟨b, o2, none⟩) len cap) none (some (.int q (i : Int))) (some (.int q' (j : Int)))).run P w = .ok (.slice (some ⟨b, o2, none⟩) i j) w := by
  have hs : (sizeOf e).run P w = .ok size w := by
    obtain ⟨k, hk, e2⟩ := Option.map_eq_some_iff.1 hT.info
    simp only [Prod.mk.injEq] at e2
    exact run_sizeOf' (by rw [hk]; simp [e2.1])
  have b1 : (0 : Int) ≤ i ∧ (i : Int) ≤ j := by omega
  have b2 : (0 : Int) ≤ j ∧ (j : Int) ≤ cap := by omega
  simp [Instr.sliceAt, Instr.slice, run_und hT.und, Instr.sliceBounds, Instr.sliceBound, asIntOf, h1, h2, hs, add_lit']
theorem A_slice3 {e size bytes b o2 len cap i j : Nat} {q q' : IntKind} (m : Nat) (hm : ops[m]? = some ⟨d, .slice t x none (some y) (some z), u, p, af, g⟩) (hg : Wants ops σ ⟨d, .slice t x none (some y) (some z), u, p, af, g⟩ true) [hT : TSlice P t e size bytes] (hx : ev σ x = .slice (some ⟨b, o2, none⟩) len cap) (hy : ev σ y = .int q (i : Int)) (hz : ev σ z = .int q' (j : Int)) (h1 : i ≤ j) (h2 : j ≤ cap)
    (hb : stB n ops (ivs.map (·.1)) L m [] = true) (k : Any P n r ops ivs T f (L.setIfInBounds m true) (put σ d (.slice (some ⟨b, o2, none⟩) i j)) w) : Any P n r ops ivs T (f + 1) L σ w :=
  A_val m hm hg (fun c e => by cases e) (fun w => by simp only [execOp, hx, hy, hz, Option.map_some, Option.map_none, Sem.run_bind, run_slice3 hT h1 h2, Result.andThen_ok, Sem.run_pure]) hb k
theorem run_sliceFromV {e size bytes b o2 len cap i : Nat} {q : IntKind} (hT : TSlice P t e size bytes) (h1 : i ≤ len) (h2 : len ≤ cap) :
    (Instr.sliceAt t (.slice (some ⟨b, o2, none⟩) len cap) (some (.int q (i : Int))) none none).run P w = .ok (.slice (some ⟨b, if cap = i then o2 else o2 + i * size, none⟩) (len - i) (cap - i)) w := by
  have hs : (sizeOf e).run P w = .ok size w := by
    obtain ⟨k, hk, e2⟩ := Option.map_eq_some_iff.1 hT.info
    simp only [Prod.mk.injEq] at e2
    exact run_sizeOf' (by rw [hk]; simp [e2.1])
  have b1 : (0 : Int) ≤ i ∧ (i : Int) ≤ len := by omega
  by_cases he : cap = i
  · simp [Instr.sliceAt, Instr.slice, run_und hT.und, Instr.sliceBounds, Instr.sliceBound, asIntOf, h1, h2, hs, add_lit', he]
  · simp [Instr.sliceAt, Instr.slice, run_und hT.und, Instr.sliceBounds, Instr.sliceBound, asIntOf, h1, h2, hs, add_lit', he]
theorem A_sliceFromV {e size bytes b o2 len cap i : Nat} {q : IntKind} (m : Nat) (hm : ops[m]? = some ⟨d, .slice t x (some y) none none, u, p, af, g⟩) (hg : Wants ops σ ⟨d, .slice t x (some y) none none, u, p, af, g⟩ true) [hT : TSlice P t e size bytes] (hx : ev σ x = .slice (some ⟨b, o2, none⟩) len cap) (hy : ev σ y = .int q (i : Int)) (h1 : i ≤ len) (h2 : len ≤ cap)
    (hb : stB n ops (ivs.map (·.1)) L m [] = true) (k : Any P n r ops ivs T f (L.setIfInBounds m true) (put σ d (.slice (some ⟨b, if cap = i then o2 else o2 + i * size, none⟩) (len - i) (cap - i))) w) : Any P n r ops ivs T (f + 1) L σ w :=
  A_val m hm hg (fun c e => by cases e) (fun w => by simp only [execOp, hx, hy, Option.map_some, Option.map_none, Sem.run_bind, run_sliceFromV hT h1 h2, Result.andThen_ok, Sem.run_pure]) hb k

/-- 'append(x[:i:i], x[i+1:]...)': the same without one. -/
theorem St_appCut [Extra] {e size bytes b o' N i m c2 : Nat} {zv : Value} {c spare : List Value} [hT : TSlice P t e size bytes] [hz : TZero P e zv] (H : Holds w (pts b (row e (c ++ spare)) :: l))
    (hx : ev σ x = .slice (some ⟨b, 0, none⟩) i i) (hy : ev σ y = .slice (some ⟨b, o', none⟩) m c2) (hc : c.length = N * size) (hi : i < N) (hm : m = N - (i + 1)) (ho : 0 < m → o' = (i + 1) * size) (hN : N ≤ 1000000)
    (hb : c.length * bytes ≤ 140737488355328) (hd : okd n d = true) (hq : (decide ((cellsL zv).length = size) && decide (0 < size) && decide (0 < bytes)) = true)
    (k : ∀ v' w', Holds w' (sls e size v' (c.take (i * size) ++ c.drop ((i + 1) * size)) :: l) → K (put σ d v') w') : St P n r ⟨d, .call { callee := .builtin .append, args := #[x, y], argTypes := #[t, t] }, u, p, af, g⟩ σ w K := by
  simp only [Bool.and_eq_true, decide_eq_true_eq] at hq
  obtain ⟨⟨hzl, hsz⟩, hby⟩ := hq
  have hN1 : (i + 1) * size ≤ N * size := Nat.mul_le_mul_right _ hi
  have hi1 : (i + 1) * size = i * size + size := Nat.succ_mul i size
  have htl : (c.take (i * size)).length = i * size := by rw [List.length_take]; omega
  rcases Nat.eq_zero_or_pos m with hm0 | hmp
  · obtain rfl : N = i + 1 := by omega
    subst hm0
    have hdr : c.drop ((i + 1) * size) = [] := List.drop_eq_nil_of_le (by omega)
    refine St_value (v := .slice (some ⟨b, 0, none⟩) i i) (w' := w) hd (fun c e => by cases e) ?_ (k _ _ ?_)
    · simp [execOp, resolve, invoke, builtin, hx, hy, run_append0 (w := w) hT u (Nat.le_refl i)]
    · rw [hdr, List.append_nil]
      refine sls_of (spare := c.drop (i * size) ++ spare) htl ⟨Nat.le_refl _, by omega⟩ (by simp) ?_
      rw [← List.append_assoc, List.take_append_drop]
      exact H
  · have hbk := H.pts
    obtain ⟨j, hj, e2⟩ := Option.map_eq_some_iff.1 hT.info
    simp only [Prod.mk.injEq] at e2
    obtain ⟨i1, i2⟩ := e2
    obtain ⟨j', hj', hz'⟩ := Option.map_eq_some_iff.1 hz.zero
    have : j' = j := by rw [hj] at hj'; cases hj'; rfl
    subst this
    have hzc : zv.cells.size = size := by rw [cellsL_eq, hzl]
    have hdl : (c.drop ((i + 1) * size)).length = m * size := by rw [List.length_drop, hc, ← Nat.sub_mul, hm]
    have him : i + m + 1 = N := by omega
    have bb : N ≤ N * bytes := Nat.le_mul_of_pos_right N hby
    have mb : N ≤ N * size := Nat.le_mul_of_pos_right N hsz
    have hNb : N * bytes ≤ c.length * bytes := Nat.mul_le_mul_right _ (by rw [hc]; exact mb)
    have hib : (i + m) * bytes ≤ N * bytes := Nat.mul_le_mul_right _ (by omega)
    have holds : ∀ q v, (c.take (i * size))[q]? = some v → w.cell? ((⟨b, 0, none⟩ : Addr).add q) = some v := fun q v hv => by
      rw [add_lit', Nat.zero_add]
      refine cell_row hbk ?_
      have h1 := (List.getElem?_eq_some_iff.1 hv).1
      rw [htl] at h1
      rw [List.getElem?_append_left (by omega)]
      rw [List.getElem?_take_of_lt h1] at hv
      exact hv
    have hnews : ∀ q v, (c.drop ((i + 1) * size))[q]? = some v → w.cell? ((⟨b, o', none⟩ : Addr).add q) = some v := fun q v hv => by
      rw [add_lit', ho hmp]
      refine cell_row hbk ?_
      have h1 := (List.getElem?_eq_some_iff.1 hv).1
      rw [hdl] at h1
      rw [List.getElem?_drop] at hv
      rw [List.getElem?_append_left (List.getElem?_eq_some_iff.1 hv).1]
      exact hv
    have hr := run_append_grow (P := P) w t u e j' zv hT.und hj hz' ⟨b, 0, none⟩ i i (c.take (i * size)) (by rw [i1]; exact htl) holds ⟨b, o', none⟩ m c2 (c.drop ((i + 1) * size)) (by rw [i1]; exact hdl) hnews (by omega) (by omega)
      (growslice_fits (by omega) (by rw [i2]; omega))
    refine St_value (v := .slice (some ⟨w.heap.size, 0, none⟩) (i + m) (grownCap w (i + m) i e)) (w' := w.drew.alloc (.cells ((c.take (i * size)).toArray ++ (c.drop ((i + 1) * size)).toArray ++ Builtin.zeroCells zv.cells (grownCap w (i + m) i e - (i + m))) e)) hd (fun c e => by cases e) (by simp only [execOp, resolve, invoke, builtin, Sem.run_bind, Sem.run_pure, Result.andThen_ok, List.map_toArray, List.map_cons, List.map_nil, hx, hy, hr]) (k _ _ ?_)
    have hg : i + m ≤ grownCap w (i + m) i e ∧ grownCap w (i + m) i e ≤ 9223372036854775807 := ⟨grownCap_ge w (i + m) i e, grownCap_le_maxLen w (i + m) i e (by unfold maxLen; omega)⟩
    refine sls_of (spare := (Builtin.zeroCells zv.cells (grownCap w (i + m) i e - (i + m))).toList) (by rw [List.length_append, htl, hdl, Nat.add_mul]) hg (by simp [size_zeroCells, hzc]) ?_
    have H' : Holds w.drew l := H.drop.heap rfl
    have := H'.new (.cells ((c.take (i * size)).toArray ++ (c.drop ((i + 1) * size)).toArray ++ Builtin.zeroCells zv.cells (grownCap w (i + m) i e - (i + m))) e (0, 0))
    refine this.head fun h x => ?_
    have e3 : (c.take (i * size)).toArray ++ (c.drop ((i + 1) * size)).toArray ++ Builtin.zeroCells zv.cells (grownCap w (i + m) i e - (i + m)) = (c.take (i * size) ++ c.drop ((i + 1) * size) ++ (Builtin.zeroCells zv.cells (grownCap w (i + m) i e - (i + m))).toList).toArray := by apply Array.ext'; simp
    rw [e3] at x
    exact x
end
end Go.SL
namespace Go.SL
section
variable {P : Program} {n : Nat} {r : Option Nat} {Q : Post} {ms : List Nat} {σ : Env} {w : World} {l : List HProp}
theorem fn_endCD [Extra] {fn : Func} {R : Value → World → Prop} {e : Exit} {vs : List Value} (l : List HProp) (he : e = .normal ∨ e = .ret) (H : Holds w (mk ms :: l))
    (hv : ∀ w', Holds w' l → ResAt P σ w' fn.results.toList vs) (hR : ∀ w', Holds w' l → R (resV vs) w') : fnPost P n fn R e ms σ w :=
  ⟨he, .inl ⟨l, H, fun w' H' a ra => ⟨_, results_at ra (hv w' H'), hR w' H'⟩⟩⟩
end
end Go.SL
namespace Go.SL
open Go.ChangeShapes

section
variable {H : Type} {enc : TypeId × Value → H} {P : Program} {W W' : World}

theorem trodAll_stays (hl : laidOutB P = true) : ∀ {ts : List TypeId} {vs : List Value} {ds : List (DataW H)} {ps : List MemPlace} {sp : Nat → Bool}, (∀ t ∈ ts, P.readableRec t = true ∧ t < P.types.size) →
    DataW.TrodAll enc P W 0 (fun _ => true) true ts vs ds ps → (∀ p ∈ ps, W.sameAt W' p) → (∀ p ∈ ps, sp p.block = true) → DataW.TrodAll enc P W' 0 sp true ts vs ds ps
  | [], [], [], _, _, _, h, _, _ => h
  | t :: ts, v :: vs, d :: ds, _, sp, hr, ⟨p, q, h, hs, e⟩, same, hsp => by
    subst e
    have hr0 := hr t (by simp)
    exact ⟨p, q, Go.WideElems.Trod_stays hl hr0.1 hr0.2 h (fun x hx => same x (List.mem_append_left _ hx)) (fun x hx => hsp x (List.mem_append_left _ hx)),
      trodAll_stays hl (fun t ht => hr t (by simp [ht])) hs (fun x hx => same x (List.mem_append_right _ hx)) (fun x hx => hsp x (List.mem_append_right _ hx)), rfl⟩

/-- What a statement asks at the end, from this: old blocks are as they were. -/
theorem closing {f : Func} {s : ChangeSpec} {args : Array Value} {v : Value} {ds gs : List (DataW H)} {before : List MemPlace} (hl : laidOutB P = true) (hts : ∀ t ∈ f.params.toList, P.readableRec t = true ∧ t < P.types.size)
    (hv : s.vars = []) (hW : DataW.Whole enc P f.params.toList s.vars false W args.toList ds gs before) (hh : ∀ b, b < W.heap.size → W'.heap[b]? = W.heap[b]?) (hos : W'.os = W.os) (hout : W'.output = W.output)
    (ha : (s.fn H (ds ++ gs)).args = ds) (hva : (s.fn H (ds ++ gs)).vars = [])
    (hres : DataW.TrodAll enc P W' W.heap.size (fun _ => false) false f.resultTypes.toList (v.resultList f.resultTypes.size) (s.fn H (ds ++ gs)).results []) : s.post enc P f false true false false W args v W' := by
  have hlt := hW.lt
  have hW' := hW
  obtain ⟨p, q, h1, h2, rfl, h3, h4⟩ := hW
  rw [hv] at h2
  obtain ⟨rfl, rfl⟩ := trodVars_none h2
  have same : ∀ x ∈ p, W.sameAt W' x := by
    intro x hx
    have hb := hlt x (by simp [hx])
    cases x with
    | cell b off => show W'.cell? _ = W.cell? _; unfold World.cell?; rw [hh b hb]
    | map b => exact hh b hb
  have hsp : ∀ x ∈ p, (fun b => decide (b < W.heap.size)) x.block = true := fun x hx => by
    have := hlt x (by simp [hx])
    simpa using this
  refine ⟨ds, [], p ++ [], [], p, [], hW', hres, ?_, ?_, ⟨hos, hout, fun i hi => ?_⟩, fun h => by cases h⟩
  · rw [ha]
    exact trodAll_stays hl hts h1 same hsp
  · rw [hva, hv]
    show ([] : List MemPlace) = []
    rfl
  · rw [hh i hi]
    cases hx : W.heap[i]? with
    | none => trivial
    | some o => cases o <;> simp
end
end Go.SL
namespace Go.SL
section
variable [Extra] {P : Program} {n : Nat} {r : Option Nat} {ops : Array Oper} {Q : Post} {ms : List Nat} {σ : Env} {w : World} {rest : List Oper} {o : Oper} {l : List HProp} {ivs : List (List Nat × (World → Prop))} {T : Env → World → Prop} {f : Nat} {L : Array Bool} {t u : TypeId} {p : String} {af : Array Edge} {g : Option (Nat × Bool)} {d : Option Tmp} {x : Operand} {G K : Prop}
theorem Jo (j : Nat) (H : Holds w l) (k : St P n r o σ w (Any P n r ops ivs T f (L.setIfInBounds j true))) (hi : ops[j]? = some o := by rfl) (hr : Region.ready .any ops L = [j] := by kernel_rfl)
    (hI : Holds w l → InvL ivs L w := by intro H; repeat first | exact InvL.nil | refine InvL.cons (.inr (Holds.at H)) ?_ | refine InvL.cons (.inr (Holds.mp H)) ?_ | refine InvL.cons (.inl (by kernel_rfl)) ?_)
    (hg : Wants ops σ o true := by first | exact Wants.none rfl | exact Wants.of rfl rfl rfl) : Any P n r ops ivs T (f + 1) L σ w := A_one j hi hr (hI H) hg k
theorem Jk {f : FuncId} {K : Env → World → Prop} {xs : List Operand} {ts : Array TypeId} {R : Value → World → Prop} (hx : ev σ x = .func (.func f) #[] #[]) [hb : TBody P f] (hd : okd n d = true) (s : Calls P f (xs.map (ev σ)).toArray w (ret R)) (k : ∀ v w', R v w' → K (put σ d v) w') :
    St P n r ⟨d, .call { callee := .value x, args := xs.toArray, argTypes := ts }, u, p, af, g⟩ σ w K := St_call (a := []) (b := []) hx hd (by rw [List.nil_append, List.append_nil]; exact call s k)
theorem Jc {f : FuncId} {xs : List Operand} {ts : Array TypeId} {R : Value → World → Prop} (hx : ev σ x = .func (.func f) #[] #[]) [hb : TBody P f] (hd : okd n d = true) (s : Calls P f (xs.map (ev σ)).toArray w (ret R)) (k : ∀ v w', R v w' → Lp P n r ops Q rest ms (put σ d v) w') :
    Lp P n r ops Q (⟨d, .call { callee := .value x, args := xs.toArray, argTypes := ts }, u, p, af, none⟩ :: rest) ms σ w := Lp_s rfl (Jk hx hd s k)
theorem Js {l' : List HProp} (is : List Nat) (m : Nat) (H : Holds w l) (h : Holds w (sel is m l) → Holds w l' := by intro H; dsimp only [SL.sel, SL.pull, List.drop] at H; exact H) : Holds w l' := h (H.sel is m)
theorem Jy {fn : Func} {R : Value → World → Prop} {e : Exit} {vs : List Value} (H : Holds w l) (h : res σ fn.results.toList = some vs) (hr : ∀ w', Holds w' l → R (resV vs) w') (he : e = .normal ∨ e = .ret := by first | exact .inr rfl | exact .inl rfl) : fnPost P n fn R e [] σ w := fn_end0 _ he H h hr
theorem Jz {fn : Func} {R : Value → World → Prop} {e : Exit} {vs : List Value} (H : Holds w l) (h : ∀ w', Holds w' l → ResAt P σ w' fn.results.toList vs) (hr : ∀ w', Holds w' l → R (resV vs) w') (he : e = .normal ∨ e = .ret := by first | exact .inr rfl | exact .inl rfl) : fnPost P n fn R e [] σ w := fn_endC _ he H h hr
theorem J0 (H : Holds w l) (k : K) (h : Holds w l → K → G := by
 intro H k
 refine Lp_pv rfl rfl ?_
 refine Lp_nil ?_
 exact k) : G := h H k
theorem J1 (H : Holds w l) (k : K) (h : Holds w l → K → G := by
 intro H k
 repeat refine C_seq ?_
 refine C_drawH H mixed ?_
 exact k) : G := h H k
theorem J2 (H : Holds w l) (k : K) (h : Holds w l → K → G := by
 intro H k
 repeat refine C_seq ?_
 refine C_region ?_
 refine Lp_pv rfl rfl ?_
 refine Lp_pv rfl rfl ?_
 exact k) : G := h H k
theorem J3 (H : Holds w l) (k : K) (h : Holds w l → K → G := by
 intro H k
 refine Lp_pv rfl rfl ?_
 refine Lp_pv rfl rfl ?_
 refine Lp_nil ?_
 exact k) : G := h H k
theorem J4 (H : Holds w l) (k : K) (h : Holds w l → K → G := by
 intro H k
 refine A_end (by kernel_rfl) (by repeat first | exact .nil | refine .cons (.inr H.at) ?_ | refine .cons (.inr H.mp) ?_ | refine .cons (.inl (by kernel_rfl)) ?_) ?_
 exact k) : G := h H k
theorem J5 (H : Holds w l) (k : K) (h : Holds w l → K → G := by
 intro H k
 repeat refine C_seq ?_
 refine C_region ?_
 refine Lp_pv rfl rfl ?_
 refine Lp_pv rfl rfl ?_
 refine Lp_nil ?_
 exact k) : G := h H k
theorem J6 (H : Holds w l) (k : K) (h : Holds w l → K → G := by
 intro H k
 refine Lp_pv rfl rfl ?_
 exact k) : G := h H k
theorem J7 (H : Holds w l) (k : K) (h : Holds w l → K → G := by
 intro H k
 refine Lp_s rfl (St_storeN H rfl rfl inferInstance rfl rfl (Nat.le_of_ble_eq_true rfl) rfl ?_)
 exact k) : G := h H k
theorem J8 (H : Holds w l) (k : K) (h : Holds w l → K → G := by
 intro H k
 repeat refine C_seq ?_
 refine C_false rfl (C_skip ?_)
 exact k) : G := h H k
theorem J9 (H : Holds w l) (k : K) (h : Holds w l → K → G := by
 intro H k
 repeat refine C_seq ?_
 refine C_region ?_
 refine Lp_pv rfl rfl ?_
 refine Lp_nil ?_
 exact k) : G := h H k
theorem J10 (H : Holds w l) (k : K) (h : Holds w l → K → G := by
 intro H k
 repeat refine C_seq ?_
 refine C_region ?_
 refine Lp_s rfl (St_boxN H rfl rfl ?_)
 exact k) : G := h H k
theorem J11 (H : Holds w l) (k : K) (h : Holds w l → K → G := by
 intro H k
 repeat refine C_seq ?_
 refine C_region ?_
 refine Lp_pv rfl rfl ?_
 refine Lp_pv rfl rfl ?_
 refine Lp_pv rfl rfl ?_
 exact k) : G := h H k
theorem J12 (H : Holds w l) (k : K) (h : Holds w l → K → G := by
 intro H k
 repeat refine C_seq ?_
 refine C_region ?_
 refine Lp_pv rfl rfl ?_
 refine Lp_nil ?_
 repeat refine C_seq ?_
 exact k) : G := h H k
theorem J13 (H : Holds w l) (k : K) (h : Holds w l → K → G := by
 intro H k
 refine Lp_pv rfl rfl ?_
 refine Lp_pv rfl rfl ?_
 exact k) : G := h H k
theorem J14 (H : Holds w l) (k : K) (h : Holds w l → K → G := by
 intro H k
 repeat refine C_seq ?_
 exact k) : G := h H k
theorem J15 (H : Holds w l) (k : K) (h : Holds w l → K → G := by
 intro H k
 refine Lp_pv rfl rfl ?_
 refine Lp_nil ?_
 repeat refine C_seq ?_
 exact k) : G := h H k
theorem J16 (H : Holds w l) (k : K) (h : Holds w l → K → G := by
 intro H k
 repeat refine C_seq ?_
 refine C_region ?_
 refine Lp_pv rfl rfl ?_
 exact k) : G := h H k
theorem J17 (H : Holds w l) (k : K) (h : Holds w l → K → G := by
 intro H k
 refine Lp_s rfl (St_alloc H rfl ?_)
 exact k) : G := h H k
theorem J18 (H : Holds w l) (k : K) (h : Holds w l → K → G := by
 intro H k
 repeat refine C_seq ?_
 refine C_region ?_
 refine Lp_pv rfl rfl ?_
 refine Lp_pv rfl rfl ?_
 refine Lp_s rfl (St_fieldAddr rfl rfl ?_)
 refine Lp_s rfl (St_load1 H rfl rfl rfl ?_)
 refine Lp_pv rfl rfl ?_
 exact k) : G := h H k
theorem J19 (H : Holds w l) (k : K) (h : Holds w l → K → G := by
 intro H k
 refine Lp_pv rfl rfl ?_
 refine Lp_pv rfl rfl ?_
 refine Lp_pv rfl rfl ?_
 refine Lp_s rfl (St_alloc H rfl ?_)
 exact k) : G := h H k
theorem J20 (H : Holds w l) (k : K) (h : Holds w l → K → G := by
 intro H k
 repeat refine C_seq ?_
 refine C_region ?_
 refine Lp_pv rfl rfl ?_
 refine Lp_pv rfl rfl ?_
 refine Lp_pv rfl rfl ?_
 refine Lp_nil ?_
 exact k) : G := h H k
theorem J21 (H : Holds w l) (k : K) (h : Holds w l → K → G := by
 intro H k
 repeat refine C_seq ?_
 refine C_block ?_
 exact k) : G := h H k
theorem J22 (H : Holds w l) (k : K) (h : Holds w l → K → G := by
 intro H k
 repeat refine C_seq ?_
 refine C_region ?_
 refine Lp_s rfl (St_alloc H rfl ?_)
 exact k) : G := h H k
theorem J23 (H : Holds w l) (k : K) (h : Holds w l → K → G := by
 intro H k
 refine Lp_gpv rfl rfl rfl rfl ?_
 exact k) : G := h H k
theorem J24 (H : Holds w l) (k : K) (h : Holds w l → K → G := by
 intro H k
 refine Lp_pv rfl rfl ?_
 refine Lp_nil ?_
 repeat refine C_seq ?_
 refine C_region ?_
 refine Lp_pv rfl rfl ?_
 refine Lp_pv rfl rfl ?_
 refine Lp_nil ?_
 exact k) : G := h H k
theorem J25 (H : Holds w l) (k : K) (h : Holds w l → K → G := by
 intro H k
 refine Lp_gpv rfl rfl rfl rfl ?_
 refine Lp_gpv rfl rfl rfl rfl ?_
 exact k) : G := h H k
theorem J26 (H : Holds w l) (k : K) (h : Holds w l → K → G := by
 intro H k
 repeat refine C_seq ?_
 refine C_region ?_
 refine Lp_s rfl (St_loadN H rfl (by repeat (first | exact Reads.nil _ | apply Reads.cons rfl)) rfl ?_)
 exact k) : G := h H k
theorem J27 (H : Holds w l) (k : K) (h : Holds w l → K → G := by
 intro H k
 refine Lp_pv rfl rfl ?_
 refine Lp_pv rfl rfl ?_
 refine Lp_pv rfl rfl ?_
 refine Lp_pv rfl rfl ?_
 refine Lp_pv rfl rfl ?_
 refine Lp_nil ?_
 exact k) : G := h H k
theorem J28 (H : Holds w l) (k : K) (h : Holds w l → K → G := by
 intro H k
 refine A_pv 0 rfl (Wants.none rfl) rfl (by kernel_rfl) ?_
 refine A_pv 1 rfl (Wants.none rfl) rfl (by kernel_rfl) ?_
 refine A_fieldAddr 2 rfl (Wants.none rfl) rfl (by kernel_rfl) ?_
 exact k) : G := h H k
theorem J29 (H : Holds w l) (k : K) (h : Holds w l → K → G := by
 intro H k
 repeat refine C_seq ?_
 refine C_true rfl ?_
 exact k) : G := h H k
theorem J30 (H : Holds w l) (k : K) (h : Holds w l → K → G := by
 intro H k
 repeat refine C_seq ?_
 refine C_region ?_
 exact k) : G := h H k
theorem J31 (H : Holds w l) (k : K) (h : Holds w l → K → G := by
 intro H k
 repeat refine C_seq ?_
 refine C_true rfl ?_
 repeat refine C_seq ?_
 refine C_region ?_
 refine Lp_pv rfl rfl ?_
 refine Lp_pv rfl rfl ?_
 refine Lp_nil ?_
 exact k) : G := h H k
theorem J32 (H : Holds w l) (k : K) (h : Holds w l → K → G := by
 intro H k
 refine Lp_pv rfl rfl ?_
 refine Lp_pv rfl rfl ?_
 refine Lp_pv rfl rfl ?_
 refine Lp_pv rfl rfl ?_
 exact k) : G := h H k
theorem J33 (H : Holds w l) (k : K) (h : Holds w l → K → G := by
 intro H k
 repeat refine C_seq ?_
 refine C_block ?_
 repeat refine C_seq ?_
 refine C_region ?_
 exact k) : G := h H k
theorem J34 (H : Holds w l) (k : K) (h : Holds w l → K → G := by
 intro H k
 refine Lp_s rfl (St_buildSlice H rfl rfl rfl ?_)
 exact k) : G := h H k
theorem J35 (H : Holds w l) (k : K) (h : Holds w l → K → G := by
 intro H k
 refine Lp_pv rfl rfl ?_
 refine Lp_nil ?_
 repeat refine C_seq ?_
 refine C_false rfl (C_skip ?_)
 exact k) : G := h H k
theorem J36 (H : Holds w l) (k : K) (h : Holds w l → K → G := by
 intro H k
 refine A_pv 11 rfl (Wants.none rfl) rfl (by kernel_rfl) ?_
 refine A_end (by kernel_rfl) (by repeat first | exact .nil | refine .cons (.inr H.at) ?_ | refine .cons (.inr H.mp) ?_ | refine .cons (.inl (by kernel_rfl)) ?_) ?_
 exact k) : G := h H k
theorem J37 (H : Holds w l) (k : K) (h : Holds w l → K → G := by
 intro H k
 repeat refine C_seq ?_
 refine C_region ?_
 refine Lp_pv rfl rfl ?_
 refine Lp_pv rfl rfl ?_
 refine Lp_s rfl (St_fieldAddr rfl rfl ?_)
 refine Lp_s rfl (St_load1 H rfl rfl rfl ?_)
 refine Lp_pv rfl rfl ?_
 refine Lp_pv rfl rfl ?_
 exact k) : G := h H k
theorem J38 (H : Holds w l) (k : K) (h : Holds w l → K → G := by
 intro H k
 refine Lp_s rfl (St_fieldAddr rfl rfl ?_)
 refine Lp_s rfl (St_load1 H rfl rfl rfl ?_)
 exact k) : G := h H k
theorem J39 (H : Holds w l) (k : K) (h : Holds w l → K → G := by
 intro H k
 refine Lp_pv rfl rfl ?_
 refine Lp_pv rfl rfl ?_
 refine Lp_pv rfl rfl ?_
 refine Lp_pv rfl rfl ?_
 refine Lp_pv rfl rfl ?_
 refine Lp_nil ?_
 repeat refine C_seq ?_
 refine C_region ?_
 refine Lp_pv rfl rfl ?_
 refine Lp_pv rfl rfl ?_
 refine Lp_nil ?_
 repeat refine C_seq ?_
 refine C_false rfl (C_skip ?_)
 exact k) : G := h H k
theorem J40 (H : Holds w l) (k : K) (h : Holds w l → K → G := by
 intro H k
 refine Lp_s rfl (St_lenSlice rfl rfl ?_)
 exact k) : G := h H k
theorem J41 (H : Holds w l) (k : K) (h : Holds w l → K → G := by
 intro H k
 repeat refine C_seq ?_
 refine C_true rfl ?_
 repeat refine C_seq ?_
 refine C_region ?_
 refine Lp_pv rfl rfl ?_
 refine Lp_nil ?_
 exact k) : G := h H k
theorem J42 (H : Holds w l) (k : K) (h : Holds w l → K → G := by
 intro H k
 refine Lp_mv rfl rfl ?_
 refine Lp_nil ?_
 exact k) : G := h H k
theorem J43 (H : Holds w l) (k : K) (h : Holds w l → K → G := by
 intro H k
 repeat refine C_seq ?_
 refine C_region ?_
 refine Lp_s rfl (St_load1 H rfl rfl rfl ?_)
 exact k) : G := h H k
theorem J44 (H : Holds w l) (k : K) (h : Holds w l → K → G := by
 intro H k
 refine Lp_s rfl (St_loadN H rfl (by repeat (first | exact Reads.nil _ | apply Reads.cons rfl)) rfl ?_)
 exact k) : G := h H k
theorem J45 (H : Holds w l) (k : K) (h : Holds w l → K → G := by
 intro H k
 refine A_pv 3 rfl (Wants.none rfl) rfl (by kernel_rfl) ?_
 exact k) : G := h H k
theorem J46 (H : Holds w l) (k : K) (h : Holds w l → K → G := by
 intro H k
 refine Lp_s rfl (St_build rfl rfl ?_)
 exact k) : G := h H k
theorem J47 (H : Holds w l) (k : K) (h : Holds w l → K → G := by
 intro H k
 refine A_fieldAddr 4 rfl (Wants.none rfl) rfl (by kernel_rfl) ?_
 exact k) : G := h H k
theorem J48 (H : Holds w l) (k : K) (h : Holds w l → K → G := by
 intro H k
 repeat refine C_seq ?_
 refine C_region ?_
 refine Lp_pv rfl rfl ?_
 refine Lp_pv rfl rfl ?_
 refine Lp_s rfl (St_fieldAddr rfl rfl ?_)
 refine Lp_s rfl (St_load1 H rfl rfl rfl ?_)
 exact k) : G := h H k
theorem J49 (H : Holds w l) (k : K) (h : Holds w l → K → G := by
 intro H k
 refine Lp_pv rfl rfl ?_
 refine Lp_nil ?_
 repeat refine C_seq ?_
 refine C_block ?_
 exact k) : G := h H k
theorem J50 (H : Holds w l) (k : K) (h : Holds w l → K → G := by
 intro H k
 refine Lp_pv rfl rfl ?_
 refine Lp_nil ?_
 repeat refine C_seq ?_
 refine C_region ?_
 refine Lp_pv rfl rfl ?_
 refine Lp_pv rfl rfl ?_
 refine Lp_nil ?_
 repeat refine C_seq ?_
 refine C_false rfl (C_skip ?_)
 exact k) : G := h H k
theorem J51 (H : Holds w l) (k : K) (h : Holds w l → K → G := by
 intro H k
 refine Lp_pv rfl rfl ?_
 refine Lp_s rfl (St_fieldAddr rfl rfl ?_)
 refine Lp_s rfl (St_store1 H rfl rfl inferInstance rfl (Nat.le_of_ble_eq_true rfl) rfl ?_)
 exact k) : G := h H k
theorem J52 (H : Holds w l) (k : K) (h : Holds w l → K → G := by
 intro H k
 repeat refine C_seq ?_
 refine C_region ?_
 refine Lp_s rfl (St_box1 H rfl rfl rfl ?_)
 exact k) : G := h H k
theorem J53 (H : Holds w l) (k : K) (h : Holds w l → K → G := by
 intro H k
 first | refine Lp_gpv rfl rfl rfl rfl ?_ | refine Lp_no rfl rfl rfl ?_ | refine Lp_nn rfl rfl ?_
 exact k) : G := h H k
theorem J54 (H : Holds w l) (k : K) (h : Holds w l → K → G := by
 intro H k
 refine Lp_g rfl rfl rfl (St_fieldAddr rfl rfl ?_)
 refine Lp_g rfl rfl rfl (St_load1 H rfl rfl rfl ?_)
 refine Lp_gpv rfl rfl rfl rfl ?_
 exact k) : G := h H k
theorem J55 (H : Holds w l) (k : K) (h : Holds w l → K → G := by
 intro H k
 refine A_pv 5 rfl (Wants.none rfl) rfl (by kernel_rfl) ?_
 exact k) : G := h H k
theorem J56 (H : Holds w l) (k : K) (h : Holds w l → K → G := by
 intro H k
 refine Lp_pv rfl rfl ?_
 refine Lp_pv rfl rfl ?_
 refine Lp_nil ?_
 repeat refine C_seq ?_
 refine C_false rfl (C_skip ?_)
 exact k) : G := h H k
theorem J57 (H : Holds w l) (k : K) (h : Holds w l → K → G := by
 intro H k
 refine A_fieldAddr 6 rfl (Wants.none rfl) rfl (by kernel_rfl) ?_
 exact k) : G := h H k
theorem J58 (H : Holds w l) (k : K) (h : Holds w l → K → G := by
 intro H k
 refine Lp_gpv rfl rfl rfl rfl ?_
 refine Lp_gpv rfl rfl rfl rfl ?_
 refine Lp_pv rfl rfl ?_
 refine Lp_pv rfl rfl ?_
 exact k) : G := h H k
theorem J59 (H : Holds w l) (k : K) (h : Holds w l → K → G := by
 intro H k
 refine Lp_s rfl (St_build rfl rfl ?_)
 refine Lp_s rfl (St_boxN H rfl rfl ?_)
 exact k) : G := h H k
theorem J60 (H : Holds w l) (k : K) (h : Holds w l → K → G := by
 intro H k
 refine C_block ?_
 repeat refine C_seq ?_
 refine C_region ?_
 refine Lp_pv rfl rfl ?_
 refine Lp_s rfl (St_eqPtrNil rfl rfl (.inl rfl) rfl ?_)
 refine Lp_pv rfl rfl ?_
 refine Lp_nil ?_
 repeat refine C_seq ?_
 refine C_false rfl ?_
 exact k) : G := h H k
theorem J61 (H : Holds w l) (k : K) (h : Holds w l → K → G := by
 intro H k
 refine A_fieldAddr 0 rfl (Wants.none rfl) rfl (by kernel_rfl) ?_
 refine A_load1 1 [] H rfl (Wants.none rfl) rfl rfl (by kernel_rfl) ?_
 refine A_pv 2 rfl (Wants.none rfl) rfl (by kernel_rfl) ?_
 exact k) : G := h H k
theorem J62 (H : Holds w l) (k : K) (h : Holds w l → K → G := by
 intro H k
 refine Lp_pv rfl rfl ?_
 refine Lp_pv rfl rfl ?_
 refine Lp_nil ?_
 repeat refine C_seq ?_
 exact k) : G := h H k
theorem J63 (H : Holds w l) (k : K) (h : Holds w l → K → G := by
 intro H k
 refine A_pv 4 rfl (Wants.none rfl) rfl (by kernel_rfl) ?_
 exact k) : G := h H k
theorem J64 (H : Holds w l) (k : K) (h : Holds w l → K → G := by
 intro H k
 refine A_fieldAddr 7 rfl (Wants.none rfl) rfl (by kernel_rfl) ?_
 exact k) : G := h H k
theorem J65 (H : Holds w l) (k : K) (h : Holds w l → K → G := by
 intro H k
 refine A_pv 8 rfl (Wants.none rfl) rfl (by kernel_rfl) ?_
 exact k) : G := h H k
theorem J66 (H : Holds w l) (k : K) (h : Holds w l → K → G := by
 intro H k
 refine St_storeN H rfl rfl inferInstance rfl rfl (Nat.le_of_ble_eq_true rfl) rfl ?_
 exact k) : G := h H k
theorem J67 (H : Holds w l) (k : K) (h : Holds w l → K → G := by
 intro H k
 repeat refine C_seq ?_
 refine C_region ?_
 refine Lp_pv rfl rfl ?_
 refine Lp_pv rfl rfl ?_
 refine Lp_pv rfl rfl ?_
 refine Lp_s rfl (St_fieldAddr rfl rfl ?_)
 refine Lp_s rfl (St_load1 H rfl rfl rfl ?_)
 exact k) : G := h H k
theorem J68 (H : Holds w l) (k : K) (h : Holds w l → K → G := by
 intro H k
 refine Lp_nil ?_
 repeat refine C_seq ?_
 refine C_region ?_
 refine Lp_pv rfl rfl ?_
 refine Lp_pv rfl rfl ?_
 refine Lp_nil ?_
 exact k) : G := h H k
theorem J69 (H : Holds w l) (k : K) (h : Holds w l → K → G := by
 intro H k
 refine Lp_no rfl rfl rfl ?_
 refine Lp_no rfl rfl rfl ?_
 refine Lp_no rfl rfl rfl ?_
 exact k) : G := h H k
theorem J70 (H : Holds w l) (k : K) (h : Holds w l → K → G := by
 intro H k
 repeat refine C_seq ?_
 refine C_region ?_
 refine Lp_pv rfl rfl ?_
 refine Lp_s rfl (St_lenSlice rfl rfl ?_)
 refine Lp_pv rfl rfl ?_
 refine Lp_nil ?_
 exact k) : G := h H k
theorem J71 (H : Holds w l) (k : K) (h : Holds w l → K → G := by
 intro H k
 refine Lp_pv rfl rfl ?_
 refine Lp_pv rfl rfl ?_
 refine Lp_pv rfl rfl ?_
 refine Lp_pv rfl rfl ?_
 refine Lp_pv rfl rfl ?_
 refine Lp_nil ?_
 repeat refine C_seq ?_
 refine C_region ?_
 refine Lp_pv rfl rfl ?_
 refine Lp_pv rfl rfl ?_
 refine Lp_nil ?_
 exact k) : G := h H k
theorem J72 (H : Holds w l) (k : K) (h : Holds w l → K → G := by
 intro H k
 refine Lp_s rfl (St_fieldAddr rfl rfl ?_)
 exact k) : G := h H k
theorem J73 (H : Holds w l) (k : K) (h : Holds w l → K → G := by
 intro H k
 refine Lp_g rfl rfl rfl (St_loadN H rfl (by repeat (first | exact Reads.nil _ | apply Reads.cons rfl)) rfl ?_)
 exact k) : G := h H k
theorem J74 (H : Holds w l) (k : K) (h : Holds w l → K → G := by
 intro H k
 refine Lp_gpv rfl rfl rfl rfl ?_
 refine Lp_pv rfl rfl ?_
 refine Lp_nil ?_
 repeat refine C_seq ?_
 refine C_false rfl (C_skip ?_)
 exact k) : G := h H k
theorem J75 (H : Holds w l) (k : K) (h : Holds w l → K → G := by
 intro H k
 repeat refine C_seq ?_
 refine C_region ?_
 refine Lp_pv rfl rfl ?_
 refine Lp_s rfl (St_loadN H rfl (by repeat (first | exact Reads.nil _ | apply Reads.cons rfl)) rfl ?_)
 exact k) : G := h H k
theorem J76 (H : Holds w l) (k : K) (h : Holds w l → K → G := by
 intro H k
 refine A_pv 0 rfl (Wants.none rfl) rfl (by kernel_rfl) ?_
 refine A_pv 1 rfl (Wants.none rfl) rfl (by kernel_rfl) ?_
 exact k) : G := h H k
theorem J77 (H : Holds w l) (k : K) (h : Holds w l → K → G := by
 intro H k
 refine A_pv 10 rfl (Wants.none rfl) rfl (by kernel_rfl) ?_
 exact k) : G := h H k
theorem J78 (H : Holds w l) (k : K) (h : Holds w l → K → G := by
 intro H k
 refine Lp_pv rfl rfl ?_
 refine Lp_pv rfl rfl ?_
 refine Lp_nil ?_
 repeat refine C_seq ?_
 refine C_false rfl ?_
 exact k) : G := h H k
theorem J79 (H : Holds w l) (k : K) (h : Holds w l → K → G := by
 intro H k
 refine A_pv 0 rfl (Wants.none rfl) rfl (by kernel_rfl) ?_
 exact k) : G := h H k
theorem J80 (H : Holds w l) (k : K) (h : Holds w l → K → G := by
 intro H k
 refine A_pv 9 rfl (Wants.none rfl) rfl (by kernel_rfl) ?_
 refine A_pv 10 rfl (Wants.none rfl) rfl (by kernel_rfl) ?_
 exact k) : G := h H k
theorem J81 (H : Holds w l) (k : K) (h : Holds w l → K → G := by
 intro H k
 repeat refine C_seq ?_
 refine C_region ?_
 refine Lp_s rfl (St_loadN H rfl (by repeat (first | exact Reads.nil _ | apply Reads.cons rfl)) rfl ?_)
 refine Lp_s rfl (St_storeN H rfl rfl inferInstance rfl rfl (Nat.le_of_ble_eq_true rfl) rfl ?_)
 exact k) : G := h H k
theorem J82 (H : Holds w l) (k : K) (h : Holds w l → K → G := by
 intro H k
 refine A_pv 4 rfl (Wants.none rfl) rfl (by kernel_rfl) ?_
 refine A_pv 5 rfl (Wants.none rfl) rfl (by kernel_rfl) ?_
 exact k) : G := h H k
theorem J83 (H : Holds w l) (k : K) (h : Holds w l → K → G := by
 intro H k
 refine Lp_gpv rfl rfl rfl rfl ?_
 refine Lp_gpv rfl rfl rfl rfl ?_
 refine Lp_gpv rfl rfl rfl rfl ?_
 exact k) : G := h H k
theorem J84 (H : Holds w l) (k : K) (h : Holds w l → K → G := by
 intro H k
 repeat refine C_seq ?_
 refine C_region ?_
 refine Lp_pv rfl rfl ?_
 refine Lp_pv rfl rfl ?_
 refine Lp_pv rfl rfl ?_
 refine Lp_pv rfl rfl ?_
 refine Lp_pv rfl rfl ?_
 refine Lp_nil ?_
 exact k) : G := h H k
theorem J85 (H : Holds w l) (k : K) (h : Holds w l → K → G := by
 intro H k
 repeat refine C_seq ?_
 refine C_region ?_
 refine Lp_pv rfl rfl ?_
 refine Lp_nil ?_
 repeat refine C_seq ?_
 refine C_region ?_
 refine Lp_pv rfl rfl ?_
 refine Lp_s rfl (St_eqPtrNil rfl rfl (.inl rfl) rfl ?_)
 refine Lp_nil ?_
 repeat refine C_seq ?_
 refine C_false rfl (C_skip ?_)
 repeat refine C_seq ?_
 refine C_region ?_
 refine Lp_pv rfl rfl ?_
 refine Lp_pv rfl rfl ?_
 refine Lp_s rfl (St_fieldAddr rfl rfl ?_)
 refine Lp_s rfl (St_load1 H rfl rfl rfl ?_)
 refine Lp_pv rfl rfl ?_
 exact k) : G := h H k
theorem J86 (H : Holds w l) (k : K) (h : Holds w l → K → G := by
 intro H k
 repeat refine C_seq ?_
 refine C_region ?_
 refine Lp_pv rfl rfl ?_
 refine Lp_pv rfl rfl ?_
 refine Lp_nil ?_
 repeat refine C_seq ?_
 refine C_region ?_
 refine Lp_pv rfl rfl ?_
 refine Lp_pv rfl rfl ?_
 exact k) : G := h H k
theorem J87 (H : Holds w l) (k : K) (h : Holds w l → K → G := by
 intro H k
 refine A_pv 12 rfl (Wants.none rfl) rfl (by kernel_rfl) ?_
 refine A_pv 13 rfl (Wants.none rfl) rfl (by kernel_rfl) ?_
 exact k) : G := h H k
theorem J88 (H : Holds w l) (k : K) (h : Holds w l → K → G := by
 intro H k
 refine Lp_pv rfl rfl ?_
 refine Lp_nil ?_
 repeat refine C_seq ?_
 refine C_region ?_
 refine Lp_pv rfl rfl ?_
 refine Lp_pv rfl rfl ?_
 refine Lp_nil ?_
 repeat refine C_seq ?_
 refine C_true rfl ?_
 repeat refine C_seq ?_
 refine C_region ?_
 refine Lp_pv rfl rfl ?_
 refine Lp_pv rfl rfl ?_
 refine Lp_pv rfl rfl ?_
 refine Lp_nil ?_
 exact k) : G := h H k
theorem J89 (H : Holds w l) (k : K) (h : Holds w l → K → G := by
 intro H k
 refine Lp_nil ?_
 repeat refine C_seq ?_
 refine C_region ?_
 refine Lp_pv rfl rfl ?_
 refine Lp_pv rfl rfl ?_
 exact k) : G := h H k
theorem J90 (H : Holds w l) (k : K) (h : Holds w l → K → G := by
 intro H k
 refine Lp_g rfl rfl rfl (St_fieldAddr rfl rfl ?_)
 refine Lp_g rfl rfl rfl (St_load1 H rfl rfl rfl ?_)
 exact k) : G := h H k
theorem J91 (H : Holds w l) (k : K) (h : Holds w l → K → G := by
 intro H k
 refine A_pv 7 rfl (Wants.none rfl) rfl (by kernel_rfl) ?_
 exact k) : G := h H k
theorem J92 (H : Holds w l) (k : K) (h : Holds w l → K → G := by
 intro H k
 repeat refine C_seq ?_
 refine C_region ?_
 refine Lp_pv rfl rfl ?_
 refine Lp_s rfl (St_lenSlice rfl rfl ?_)
 exact k) : G := h H k
theorem J93 (H : Holds w l) (k : K) (h : Holds w l → K → G := by
 intro H k
 refine A_pv 2 rfl (Wants.none rfl) rfl (by kernel_rfl) ?_
 exact k) : G := h H k
theorem J94 (H : Holds w l) (k : K) (h : Holds w l → K → G := by
 intro H k
 refine Lp_pv rfl rfl ?_
 refine Lp_g rfl rfl rfl (St_fieldAddr rfl rfl ?_)
 refine Lp_g rfl rfl rfl (St_load1 H rfl rfl rfl ?_)
 refine Lp_gpv rfl rfl rfl rfl ?_
 refine Lp_pv rfl rfl ?_
 exact k) : G := h H k
theorem J95 (H : Holds w l) (k : K) (h : Holds w l → K → G := by
 intro H k
 refine Lp_s rfl (St_load1 H rfl rfl rfl ?_)
 exact k) : G := h H k
theorem J96 (H : Holds w l) (k : K) (h : Holds w l → K → G := by
 intro H k
 refine Lp_pv rfl rfl ?_
 refine Lp_nil ?_
 repeat refine C_seq ?_
 refine C_false rfl ?_
 exact k) : G := h H k
theorem J97 (H : Holds w l) (k : K) (h : Holds w l → K → G := by
 intro H k
 refine Jo 11 H ?_
 refine St_storeN H rfl rfl inferInstance rfl rfl (Nat.le_of_ble_eq_true rfl) rfl ?_
 exact k) : G := h H k
theorem J98 (H : Holds w l) (k : K) (h : Holds w l → K → G := by
 intro H k
 refine A_pv 4 rfl (Wants.none rfl) rfl (by kernel_rfl) ?_
 refine A_pv 5 rfl (Wants.none rfl) rfl (by kernel_rfl) ?_
 refine A_pv 6 rfl (Wants.none rfl) rfl (by kernel_rfl) ?_
 exact k) : G := h H k
theorem J99 (H : Holds w l) (k : K) (h : Holds w l → K → G := by
 intro H k
 refine Lp_no rfl rfl rfl ?_
 refine Lp_no rfl rfl rfl ?_
 exact k) : G := h H k
theorem J100 (H : Holds w l) (k : K) (h : Holds w l → K → G := by
 intro H k
 repeat refine C_seq ?_
 refine C_region ?_
 refine Lp_s rfl (St_fieldAddr rfl rfl ?_)
 refine Lp_s rfl (St_load1 H rfl rfl rfl ?_)
 exact k) : G := h H k
theorem J101 (H : Holds w l) (k : K) (h : Holds w l → K → G := by
 intro H k
 refine A_pv 0 rfl (Wants.none rfl) rfl (by kernel_rfl) ?_
 refine A_pv 1 rfl (Wants.none rfl) rfl (by kernel_rfl) ?_
 refine A_fieldAddr 2 rfl (Wants.none rfl) rfl (by kernel_rfl) ?_
 refine A_load1 3 [] H rfl (Wants.none rfl) rfl rfl (by kernel_rfl) ?_
 exact k) : G := h H k
theorem J102 (H : Holds w l) (k : K) (h : Holds w l → K → G := by
 intro H k
 refine A_pv 6 rfl (Wants.none rfl) rfl (by kernel_rfl) ?_
 exact k) : G := h H k
theorem J103 (H : Holds w l) (k : K) (h : Holds w l → K → G := by
 intro H k
 refine A_pv 24 rfl (Wants.none rfl) rfl (by kernel_rfl) ?_
 refine A_pv 25 rfl (Wants.none rfl) rfl (by kernel_rfl) ?_
 exact k) : G := h H k
theorem J104 (H : Holds w l) (k : K) (h : Holds w l → K → G := by
 intro H k
 repeat refine C_seq ?_
 refine C_region ?_
 refine Lp_s rfl (St_load1 H rfl rfl rfl ?_)
 refine Lp_pv rfl rfl ?_
 exact k) : G := h H k
theorem J105 (H : Holds w l) (k : K) (h : Holds w l → K → G := by
 intro H k
 first | refine Lp_pv rfl rfl ?_ | refine Lp_mv rfl rfl ?_
 exact k) : G := h H k
theorem J106 (H : Holds w l) (k : K) (h : Holds w l → K → G := by
 intro H k
 repeat refine C_seq ?_
 refine C_region ?_
 refine Lp_pv rfl rfl ?_
 refine Lp_pv rfl rfl ?_
 refine Lp_nil ?_
 repeat refine C_seq ?_
 refine C_false rfl (C_skip ?_)
 exact k) : G := h H k
theorem J107 (H : Holds w l) (k : K) (h : Holds w l → K → G := by
 intro H k
 repeat refine C_seq ?_
 refine C_region ?_
 refine Lp_s rfl (St_fieldAddr rfl rfl ?_)
 refine Lp_s rfl (St_load1 H rfl rfl rfl ?_)
 refine Lp_pv rfl rfl ?_
 refine Lp_pv rfl rfl ?_
 exact k) : G := h H k
theorem J108 (H : Holds w l) (k : K) (h : Holds w l → K → G := by
 intro H k
 refine A_pv 12 rfl (Wants.none rfl) rfl (by kernel_rfl) ?_
 refine A_pv 13 rfl (Wants.none rfl) rfl (by kernel_rfl) ?_
 refine A_pv 14 rfl (Wants.none rfl) rfl (by kernel_rfl) ?_
 refine A_pv 15 rfl (Wants.none rfl) rfl (by kernel_rfl) ?_
 refine A_end (by kernel_rfl) (by repeat first | exact .nil | refine .cons (.inr H.at) ?_ | refine .cons (.inr H.mp) ?_ | refine .cons (.inl (by kernel_rfl)) ?_) ?_
 exact k) : G := h H k
theorem J109 (H : Holds w l) (k : K) (h : Holds w l → K → G := by
 intro H k
 repeat refine C_seq ?_
 refine C_region ?_
 refine Lp_s rfl (St_loadN H rfl (by repeat (first | exact Reads.nil _ | apply Reads.cons rfl)) rfl ?_)
 refine Lp_s rfl (St_build rfl rfl ?_)
 refine Lp_s rfl (St_eqAgg rfl rfl rfl rfl (.inl rfl) rfl ?_)
 exact k) : G := h H k
theorem J110 (H : Holds w l) (k : K) (h : Holds w l → K → G := by
 intro H k
 repeat refine C_seq ?_
 refine C_block ?_
 repeat refine C_seq ?_
 refine C_region ?_
 refine Lp_pv rfl rfl ?_
 refine Lp_pv rfl rfl ?_
 refine Lp_nil ?_
 exact k) : G := h H k
theorem J111 (H : Holds w l) (k : K) (h : Holds w l → K → G := by
 intro H k
 repeat refine C_seq ?_
 refine C_false rfl ?_
 exact k) : G := h H k
theorem J112 (H : Holds w l) (k : K) (h : Holds w l → K → G := by
 intro H k
 repeat refine C_seq ?_
 refine C_region ?_
 refine Lp_pv rfl rfl ?_
 refine Lp_nil ?_
 repeat refine C_seq ?_
 refine C_region ?_
 refine Lp_pv rfl rfl ?_
 refine Lp_s rfl (St_eqPtrNil rfl rfl (.inl rfl) rfl ?_)
 refine Lp_nil ?_
 repeat refine C_seq ?_
 refine C_false rfl (C_skip ?_)
 repeat refine C_seq ?_
 refine C_region ?_
 refine Lp_pv rfl rfl ?_
 refine Lp_pv rfl rfl ?_
 refine Lp_s rfl (St_fieldAddr rfl rfl ?_)
 refine Lp_s rfl (St_load1 H rfl rfl rfl ?_)
 exact k) : G := h H k
theorem J113 (H : Holds w l) (k : K) (h : Holds w l → K → G := by
 intro H k
 refine Lp_pv rfl rfl ?_
 refine Lp_gpv rfl rfl rfl rfl ?_
 refine Lp_gpv rfl rfl rfl rfl ?_
 exact k) : G := h H k
theorem J114 (H : Holds w l) (k : K) (h : Holds w l → K → G := by
 intro H k
 refine A_pv 9 rfl (Wants.none rfl) rfl (by kernel_rfl) ?_
 exact k) : G := h H k
theorem J115 (H : Holds w l) (k : K) (h : Holds w l → K → G := by
 intro H k
 refine St_store1 H rfl rfl inferInstance rfl (Nat.le_of_ble_eq_true rfl) rfl ?_
 exact k) : G := h H k
theorem J116 (H : Holds w l) (k : K) (h : Holds w l → K → G := by
 intro H k
 first | refine Lp_pv rfl rfl ?_ | refine Lp_mv rfl rfl ?_
 refine Lp_pv rfl rfl ?_
 refine Lp_pv rfl rfl ?_
 refine Lp_pv rfl rfl ?_
 refine Lp_pv rfl rfl ?_
 refine Lp_nil ?_
 exact k) : G := h H k
theorem J117 (H : Holds w l) (k : K) (h : Holds w l → K → G := by
 intro H k
 refine Lp_gpv rfl rfl rfl rfl ?_
 refine Lp_gpv rfl rfl rfl rfl ?_
 refine Lp_gpv rfl rfl rfl rfl ?_
 refine Lp_g rfl rfl rfl (St_fieldAddr rfl rfl ?_)
 refine Lp_g rfl rfl rfl (St_load1 H rfl rfl rfl ?_)
 refine Lp_g rfl rfl rfl (St_lenSlice rfl rfl ?_)
 refine Lp_gpv rfl rfl rfl rfl ?_
 exact k) : G := h H k
theorem J118 (H : Holds w l) (k : K) (h : Holds w l → K → G := by
 intro H k
 refine A_pv 11 rfl (Wants.none rfl) rfl (by kernel_rfl) ?_
 exact k) : G := h H k
theorem J119 (H : Holds w l) (k : K) (h : Holds w l → K → G := by
 intro H k
 refine Lp_no rfl rfl rfl ?_
 refine Lp_no rfl rfl rfl ?_
 refine Lp_no rfl rfl rfl ?_
 refine Lp_no rfl rfl rfl ?_
 refine Lp_no rfl rfl rfl ?_
 exact k) : G := h H k
theorem J120 (H : Holds w l) (k : K) (h : Holds w l → K → G := by
 intro H k
 refine Lp_pv rfl rfl ?_
 refine Lp_pv rfl rfl ?_
 refine Lp_nil ?_
 repeat refine C_seq ?_
 refine C_true rfl ?_
 repeat refine C_seq ?_
 refine C_region ?_
 refine Lp_pv rfl rfl ?_
 refine Lp_pv rfl rfl ?_
 refine Lp_nil ?_
 exact k) : G := h H k
theorem J121 (H : Holds w l) (k : K) (h : Holds w l → K → G := by
 intro H k
 repeat refine C_seq ?_
 refine C_region ?_
 refine Lp_pv rfl rfl ?_
 refine Lp_nil ?_
 repeat refine C_seq ?_
 refine C_region ?_
 refine Lp_pv rfl rfl ?_
 exact k) : G := h H k
theorem J122 (H : Holds w l) (k : K) (h : Holds w l → K → G := by
 intro H k
 refine A_fieldAddr 3 rfl (Wants.none rfl) rfl (by kernel_rfl) ?_
 exact k) : G := h H k
theorem J123 (H : Holds w l) (k : K) (h : Holds w l → K → G := by
 intro H k
 refine A_pv 9 rfl (Wants.none rfl) rfl (by kernel_rfl) ?_
 refine A_end (by kernel_rfl) (by repeat first | exact .nil | refine .cons (.inr H.at) ?_ | refine .cons (.inr H.mp) ?_ | refine .cons (.inl (by kernel_rfl)) ?_) ?_
 exact k) : G := h H k
theorem J124 (H : Holds w l) (k : K) (h : Holds w l → K → G := by
 intro H k
 refine Lp_pv rfl rfl ?_
 refine Lp_nil ?_
 repeat refine C_seq ?_
 refine C_region ?_
 refine Lp_pv rfl rfl ?_
 refine Lp_s rfl (St_loadN H rfl (by repeat (first | exact Reads.nil _ | apply Reads.cons rfl)) rfl ?_)
 exact k) : G := h H k
theorem J125 (H : Holds w l) (k : K) (h : Holds w l → K → G := by
 intro H k
 refine A_pv 0 rfl (Wants.none rfl) rfl (by kernel_rfl) ?_
 refine A_pv 1 rfl (Wants.none rfl) rfl (by kernel_rfl) ?_
 refine A_fieldAddr 2 rfl (Wants.none rfl) rfl (by kernel_rfl) ?_
 refine A_load1 3 [6] H rfl (Wants.none rfl) rfl rfl (by kernel_rfl) ?_
 exact k) : G := h H k
theorem J126 (H : Holds w l) (k : K) (h : Holds w l → K → G := by
 intro H k
 refine Lp_pv rfl rfl ?_
 refine Lp_nil ?_
 repeat refine C_seq ?_
 refine C_region ?_
 refine Lp_pv rfl rfl ?_
 refine Lp_s rfl (St_eqPtrNil rfl rfl (.inl rfl) rfl ?_)
 refine Lp_nil ?_
 repeat refine C_seq ?_
 refine C_false rfl (C_skip ?_)
 exact k) : G := h H k
theorem J127 (H : Holds w l) (k : K) (h : Holds w l → K → G := by
 intro H k
 refine Lp_gpv rfl rfl rfl rfl ?_
 refine Lp_g rfl rfl rfl (St_eqPtrNil rfl rfl (.inl rfl) rfl ?_)
 refine Lp_pv rfl rfl ?_
 refine Lp_nil ?_
 repeat refine C_seq ?_
 refine C_false rfl (C_skip ?_)
 exact k) : G := h H k
theorem J128 (H : Holds w l) (k : K) (h : Holds w l → K → G := by
 intro H k
 refine A_pv 12 rfl (Wants.none rfl) rfl (by kernel_rfl) ?_
 refine A_end (by kernel_rfl) (by repeat first | exact .nil | refine .cons (.inr H.at) ?_ | refine .cons (.inr H.mp) ?_ | refine .cons (.inl (by kernel_rfl)) ?_) ?_
 exact k) : G := h H k
theorem J129 (H : Holds w l) (k : K) (h : Holds w l → K → G := by
 intro H k
 refine A_pv 38 rfl (Wants.none rfl) rfl (by kernel_rfl) ?_
 refine A_end (by kernel_rfl) (by repeat first | exact .nil | refine .cons (.inr H.at) ?_ | refine .cons (.inr H.mp) ?_ | refine .cons (.inl (by kernel_rfl)) ?_) ?_
 repeat refine C_seq ?_
 refine C_true rfl ?_
 repeat refine C_seq ?_
 refine C_region ?_
 refine Lp_pv rfl rfl ?_
 refine Lp_pv rfl rfl ?_
 refine Lp_nil ?_
 exact k) : G := h H k
theorem J130 (H : Holds w l) (k : K) (h : Holds w l → K → G := by
 intro H k
 repeat refine C_seq ?_
 refine C_region ?_
 refine Lp_s rfl (St_load1 H rfl rfl rfl ?_)
 refine Lp_pv rfl rfl ?_
 refine Lp_s rfl (St_fieldAddr rfl rfl ?_)
 refine Lp_s rfl (St_load1 H rfl rfl rfl ?_)
 refine Lp_pv rfl rfl ?_
 exact k) : G := h H k
theorem J131 (H : Holds w l) (k : K) (h : Holds w l → K → G := by
 intro H k
 first | refine Lp_pv rfl rfl ?_ | refine Lp_mv rfl rfl ?_
 first | refine Lp_gpv rfl rfl rfl rfl ?_ | refine Lp_no rfl rfl rfl ?_ | refine Lp_nn rfl rfl ?_
 first | refine Lp_gpv rfl rfl rfl rfl ?_ | refine Lp_no rfl rfl rfl ?_ | refine Lp_nn rfl rfl ?_
 exact k) : G := h H k
theorem J132 (H : Holds w l) (k : K) (h : Holds w l → K → G := by
 intro H k
 first | refine Lp_g rfl rfl rfl (St_fieldAddr rfl rfl ?_) | refine Lp_no rfl rfl rfl ?_ | refine Lp_nn rfl rfl ?_
 exact k) : G := h H k
theorem J133 (H : Holds w l) (k : K) (h : Holds w l → K → G := by
 intro H k
 repeat refine C_seq ?_
 refine C_region ?_
 refine Lp_s rfl (St_fieldAddr rfl rfl ?_)
 refine Lp_s rfl (St_load1 H rfl rfl rfl ?_)
 refine Lp_pv rfl rfl ?_
 exact k) : G := h H k
theorem J134 (H : Holds w l) (k : K) (h : Holds w l → K → G := by
 intro H k
 refine A_fieldAddr 4 rfl (Wants.none rfl) rfl (by kernel_rfl) ?_
 refine A_load1 5 [] H rfl (Wants.none rfl) rfl rfl (by kernel_rfl) ?_
 exact k) : G := h H k
theorem J135 (H : Holds w l) (k : K) (h : Holds w l → K → G := by
 intro H k
 repeat refine C_seq ?_
 refine C_region ?_
 refine Lp_pv rfl rfl ?_
 refine Lp_nil ?_
 repeat refine C_seq ?_
 refine C_region ?_
 refine Lp_pv rfl rfl ?_
 refine Lp_s rfl (St_lenSlice rfl rfl ?_)
 refine Lp_pv rfl rfl ?_
 refine Lp_nil ?_
 repeat refine C_seq ?_
 refine C_block ?_
 exact k) : G := h H k
theorem J136 (H : Holds w l) (k : K) (h : Holds w l → K → G := by
 intro H k
 repeat refine C_seq ?_
 refine C_region ?_
 refine Lp_pv rfl rfl ?_
 refine Lp_nil ?_
 repeat refine C_seq ?_
 refine C_region ?_
 refine Lp_s rfl (St_build rfl rfl ?_)
 exact k) : G := h H k
theorem J137 (H : Holds w l) (k : K) (h : Holds w l → K → G := by
 intro H k
 refine A_convI 3 rfl (Wants.none rfl) rfl (by kernel_rfl) ?_
 exact k) : G := h H k
theorem J138 (H : Holds w l) (k : K) (h : Holds w l → K → G := by
 intro H k
 refine Lp_pv rfl rfl ?_
 refine Lp_nil ?_
 repeat refine C_seq ?_
 refine C_region ?_
 refine Lp_pv rfl rfl ?_
 exact k) : G := h H k
theorem J139 (H : Holds w l) (k : K) (h : Holds w l → K → G := by
 intro H k
 refine Lp_pv rfl rfl ?_
 refine Lp_pv rfl rfl ?_
 refine Lp_pv rfl rfl ?_
 refine Lp_pv rfl rfl ?_
 refine Lp_pv rfl rfl ?_
 refine Lp_nil ?_
 repeat refine C_seq ?_
 refine C_drawH H mixed ?_
 exact k) : G := h H k
theorem J140 (H : Holds w l) (k : K) (h : Holds w l → K → G := by
 intro H k
 repeat refine C_seq ?_
 refine C_true rfl ?_
 repeat refine C_seq ?_
 refine C_region ?_
 refine Lp_s rfl (St_build rfl rfl ?_)
 refine Lp_s rfl (St_storeN H rfl rfl inferInstance rfl rfl (Nat.le_of_ble_eq_true rfl) rfl ?_)
 exact k) : G := h H k
theorem J141 (H : Holds w l) (k : K) (h : Holds w l → K → G := by
 intro H k
 refine Lp_nil ?_
 repeat refine C_seq ?_
 refine C_region ?_
 refine Lp_pv rfl rfl ?_
 refine Lp_pv rfl rfl ?_
 refine Lp_pv rfl rfl ?_
 refine Lp_nil ?_
 exact k) : G := h H k
theorem J142 (H : Holds w l) (k : K) (h : Holds w l → K → G := by
 intro H k
 repeat refine C_seq ?_
 refine C_region ?_
 refine Lp_pv rfl rfl ?_
 refine Lp_pv rfl rfl ?_
 refine Lp_pv rfl rfl ?_
 refine Lp_pv rfl rfl ?_
 exact k) : G := h H k
theorem J143 (H : Holds w l) (k : K) (h : Holds w l → K → G := by
 intro H k
 repeat refine C_seq ?_
 refine C_region ?_
 refine Lp_pv rfl rfl ?_
 refine Lp_pv rfl rfl ?_
 refine Lp_nil ?_
 repeat refine C_seq ?_
 refine C_region ?_
 refine Lp_pv rfl rfl ?_
 refine Lp_s rfl (St_eqPtrNil rfl rfl (.inl rfl) rfl ?_)
 refine Lp_nil ?_
 repeat refine C_seq ?_
 refine C_false rfl (C_skip ?_)
 exact k) : G := h H k
theorem J144 (H : Holds w l) (k : K) (h : Holds w l → K → G := by
 intro H k
 repeat refine C_seq ?_
 refine C_region ?_
 refine Lp_pv rfl rfl ?_
 refine Lp_nil ?_
 repeat refine C_seq ?_
 refine C_region ?_
 refine Lp_pv rfl rfl ?_
 refine Lp_s rfl (St_eqPtrNil rfl rfl (.inl rfl) rfl ?_)
 refine Lp_nil ?_
 repeat refine C_seq ?_
 refine C_false rfl (C_skip ?_)
 repeat refine C_seq ?_
 refine C_region ?_
 refine Lp_pv rfl rfl ?_
 refine Lp_pv rfl rfl ?_
 exact k) : G := h H k
theorem J145 (H : Holds w l) (k : K) (h : Holds w l → K → G := by
 intro H k
 refine Lp_pv rfl rfl ?_
 refine Lp_pv rfl rfl ?_
 refine Lp_pv rfl rfl ?_
 exact k) : G := h H k
theorem J146 (H : Holds w l) (k : K) (h : Holds w l → K → G := by
 intro H k
 repeat refine C_seq ?_
 refine C_region ?_
 refine Lp_pv rfl rfl ?_
 refine Lp_pv rfl rfl ?_
 refine Lp_nil ?_
 repeat refine C_seq ?_
 exact k) : G := h H k
theorem J147 (H : Holds w l) (k : K) (h : Holds w l → K → G := by
 intro H k
 refine A_pv 17 rfl (Wants.none rfl) rfl (by kernel_rfl) ?_
 exact k) : G := h H k
theorem J148 (H : Holds w l) (k : K) (h : Holds w l → K → G := by
 intro H k
 refine Lp_nn rfl rfl ?_
 refine Lp_no rfl rfl rfl ?_
 exact k) : G := h H k
theorem J149 (H : Holds w l) (k : K) (h : Holds w l → K → G := by
 intro H k
 refine A_pv 6 rfl (Wants.none rfl) rfl (by kernel_rfl) ?_
 refine A_pv 7 rfl (Wants.none rfl) rfl (by kernel_rfl) ?_
 refine A_pv 8 rfl (Wants.none rfl) rfl (by kernel_rfl) ?_
 exact k) : G := h H k
theorem J150 (H : Holds w l) (k : K) (h : Holds w l → K → G := by
 intro H k
 refine Lp_pv rfl rfl ?_
 refine Lp_nil ?_
 repeat refine C_seq ?_
 refine C_true rfl ?_
 repeat refine C_seq ?_
 refine C_region ?_
 refine Lp_s rfl (St_build rfl rfl ?_)
 refine Lp_s rfl (St_storeN H rfl rfl inferInstance rfl rfl (Nat.le_of_ble_eq_true rfl) rfl ?_)
 exact k) : G := h H k
theorem J151 (H : Holds w l) (k : K) (h : Holds w l → K → G := by
 intro H k
 repeat refine C_seq ?_
 refine C_region ?_
 refine Lp_pv rfl rfl ?_
 refine Lp_pv rfl rfl ?_
 refine Lp_s rfl (St_fieldAddr rfl rfl ?_)
 refine Lp_s rfl (St_load1 H rfl rfl rfl ?_)
 refine Lp_s rfl (St_lenSlice rfl rfl ?_)
 exact k) : G := h H k
theorem J152 (H : Holds w l) (k : K) (h : Holds w l → K → G := by
 intro H k
 refine Lp_pv rfl rfl ?_
 refine Lp_pv rfl rfl ?_
 refine Lp_nil ?_
 repeat refine C_seq ?_
 refine C_true rfl ?_
 repeat refine C_seq ?_
 refine C_region ?_
 refine Lp_s rfl (St_build rfl rfl ?_)
 refine Lp_s rfl (St_storeN H rfl rfl inferInstance rfl rfl (Nat.le_of_ble_eq_true rfl) rfl ?_)
 exact k) : G := h H k
theorem J153 (H : Holds w l) (k : K) (h : Holds w l → K → G := by
 intro H k
 refine A_pv 0 rfl (Wants.none rfl) rfl (by kernel_rfl) ?_
 refine A_pv 1 rfl (Wants.none rfl) rfl (by kernel_rfl) ?_
 refine A_fieldAddr 2 rfl (Wants.none rfl) rfl (by kernel_rfl) ?_
 refine A_load1 3 [5] H rfl (Wants.none rfl) rfl rfl (by kernel_rfl) ?_
 refine A_loadN 4 [5] H rfl (Wants.none rfl) rfl (by repeat (first | exact Reads.nil _ | apply Reads.cons rfl)) (by kernel_rfl) ?_
 exact k) : G := h H k
theorem J154 (H : Holds w l) (k : K) (h : Holds w l → K → G := by
 intro H k
 repeat refine C_seq ?_
 refine C_region ?_
 refine Lp_pv rfl rfl ?_
 refine Lp_s rfl (St_eqPtrNil rfl rfl (.inl rfl) rfl ?_)
 exact k) : G := h H k
theorem J155 (H : Holds w l) (k : K) (h : Holds w l → K → G := by
 intro H k
 refine A_pv 7 rfl (Wants.none rfl) rfl (by kernel_rfl) ?_
 refine A_pv 8 rfl (Wants.none rfl) rfl (by kernel_rfl) ?_
 refine A_pv 9 rfl (Wants.none rfl) rfl (by kernel_rfl) ?_
 exact k) : G := h H k
theorem J156 (H : Holds w l) (k : K) (h : Holds w l → K → G := by
 intro H k
 refine Lp_pv rfl rfl ?_
 refine Lp_nil ?_
 repeat refine C_seq ?_
 refine C_region ?_
 refine Lp_pv rfl rfl ?_
 refine Lp_pv rfl rfl ?_
 refine Lp_nil ?_
 repeat refine C_seq ?_
 refine C_false rfl (C_skip ?_)
 repeat refine C_seq ?_
 refine C_region ?_
 refine Lp_pv rfl rfl ?_
 refine Lp_s rfl (St_loadN H rfl (by repeat (first | exact Reads.nil _ | apply Reads.cons rfl)) rfl ?_)
 exact k) : G := h H k
theorem J157 (H : Holds w l) (k : K) (h : Holds w l → K → G := by
 intro H k
 refine Lp_pv rfl rfl ?_
 refine Lp_nil ?_
 repeat refine C_seq ?_
 refine C_region ?_
 refine Lp_pv rfl rfl ?_
 refine Lp_pv rfl rfl ?_
 exact k) : G := h H k
theorem J158 (H : Holds w l) (k : K) (h : Holds w l → K → G := by
 intro H k
 repeat refine C_seq ?_
 refine C_region ?_
 refine Lp_s rfl (St_loadN H rfl (by repeat (first | exact Reads.nil _ | apply Reads.cons rfl)) rfl ?_)
 refine Lp_pv rfl rfl ?_
 refine Lp_s rfl (St_storeN H rfl rfl inferInstance rfl rfl (Nat.le_of_ble_eq_true rfl) rfl ?_)
 exact k) : G := h H k
theorem J159 (H : Holds w l) (k : K) (h : Holds w l → K → G := by
 intro H k
 refine Lp_nil ?_
 repeat refine C_seq ?_
 refine C_region ?_
 refine Lp_pv rfl rfl ?_
 exact k) : G := h H k
theorem J160 (H : Holds w l) (k : K) (h : Holds w l → K → G := by
 intro H k
 refine A_pv 11 rfl (Wants.of rfl rfl rfl) rfl (by kernel_rfl) ?_
 exact k) : G := h H k
theorem J161 (H : Holds w l) (k : K) (h : Holds w l → K → G := by
 intro H k
 repeat refine C_seq ?_
 refine C_true rfl ?_
 repeat refine C_seq ?_
 refine C_region ?_
 refine Lp_s rfl (St_build rfl rfl ?_)
 refine Lp_pv rfl rfl ?_
 refine Lp_s rfl (St_storeN H rfl rfl inferInstance rfl rfl (Nat.le_of_ble_eq_true rfl) rfl ?_)
 exact k) : G := h H k
theorem J162 (H : Holds w l) (k : K) (h : Holds w l → K → G := by
 intro H k
 refine A_pv 0 rfl (Wants.none rfl) rfl (by kernel_rfl) ?_
 refine A_pv 1 rfl (Wants.none rfl) rfl (by kernel_rfl) ?_
 refine A_fieldAddr 2 rfl (Wants.none rfl) rfl (by kernel_rfl) ?_
 refine A_load1 3 [5, 10] H rfl (Wants.none rfl) rfl rfl (by kernel_rfl) ?_
 refine A_loadN 4 [5, 10] H rfl (Wants.none rfl) rfl (by repeat (first | exact Reads.nil _ | apply Reads.cons rfl)) (by kernel_rfl) ?_
 exact k) : G := h H k
theorem J163 (H : Holds w l) (k : K) (h : Holds w l → K → G := by
 intro H k
 refine A_pv 6 rfl (Wants.none rfl) rfl (by kernel_rfl) ?_
 refine A_pv 7 rfl (Wants.none rfl) rfl (by kernel_rfl) ?_
 refine A_pv 8 rfl (Wants.none rfl) rfl (by kernel_rfl) ?_
 refine Jo 9 H ?_
 refine St_alloc H rfl ?_
 exact k) : G := h H k
theorem J164 (H : Holds w l) (k : K) (h : Holds w l → K → G := by
 intro H k
 refine Jo 10 H ?_
 refine St_storeN H rfl rfl inferInstance rfl rfl (Nat.le_of_ble_eq_true rfl) rfl ?_
 exact k) : G := h H k
theorem J165 (H : Holds w l) (k : K) (h : Holds w l → K → G := by
 intro H k
 refine A_pv 6 rfl (Wants.none rfl) rfl (by kernel_rfl) ?_
 refine A_pv 7 rfl (Wants.none rfl) rfl (by kernel_rfl) ?_
 refine A_pv 8 rfl (Wants.none rfl) rfl (by kernel_rfl) ?_
 refine Jo 10 H ?_
 refine St_storeN H rfl rfl inferInstance rfl rfl (Nat.le_of_ble_eq_true rfl) rfl ?_
 exact k) : G := h H k
theorem J166 (H : Holds w l) (k : K) (h : Holds w l → K → G := by
 intro H k
 refine A_pv 1 rfl (Wants.none rfl) rfl (by kernel_rfl) ?_
 refine A_fieldAddr 2 rfl (Wants.none rfl) rfl (by kernel_rfl) ?_
 exact k) : G := h H k
theorem J167 (H : Holds w l) (k : K) (h : Holds w l → K → G := by
 intro H k
 refine A_load1 3 [8] H rfl (Wants.none rfl) rfl rfl (by kernel_rfl) ?_
 exact k) : G := h H k
theorem J168 (H : Holds w l) (k : K) (h : Holds w l → K → G := by
 intro H k
 repeat refine C_seq ?_
 refine C_region ?_
 first | refine Lp_pv rfl rfl ?_ | refine Lp_mv rfl rfl ?_
 refine Lp_nil ?_
 repeat refine C_seq ?_
 refine C_region ?_
 exact k) : G := h H k
theorem J169 (H : Holds w l) (k : K) (h : Holds w l → K → G := by
 intro H k
 repeat refine C_seq ?_
 refine C_region ?_
 first | refine Lp_pv rfl rfl ?_ | refine Lp_mv rfl rfl ?_
 refine Lp_nil ?_
 exact k) : G := h H k
theorem J170 (H : Holds w l) (k : K) (h : Holds w l → K → G := by
 intro H k
 refine Lp_pv rfl rfl ?_
 first | refine Lp_pv rfl rfl ?_ | refine Lp_mv rfl rfl ?_
 refine Lp_nil ?_
 exact k) : G := h H k
theorem J171 (H : Holds w l) (k : K) (h : Holds w l → K → G := by
 intro H k
 refine Lp_gpv rfl rfl rfl rfl ?_
 refine Lp_gpv rfl rfl rfl rfl ?_
 refine Lp_gpv rfl rfl rfl rfl ?_
 refine Lp_pv rfl rfl ?_
 refine Lp_pv rfl rfl ?_
 exact k) : G := h H k
theorem J172 (H : Holds w l) (k : K) (h : Holds w l → K → G := by
 intro H k
 refine Lp_pv rfl rfl ?_
 refine Lp_g rfl rfl rfl (St_fieldAddr rfl rfl ?_)
 refine Lp_g rfl rfl rfl (St_load1 H rfl rfl rfl ?_)
 refine Lp_gpv rfl rfl rfl rfl ?_
 exact k) : G := h H k
theorem J173 (H : Holds w l) (k : K) (h : Holds w l → K → G := by
 intro H k
 refine Lp_s rfl (St_build rfl rfl ?_)
 refine Lp_s rfl (St_build rfl rfl ?_)
 exact k) : G := h H k
theorem J174 (H : Holds w l) (k : K) (h : Holds w l → K → G := by
 intro H k
 refine Lp_s rfl (St_fieldAddr rfl rfl ?_)
 refine Lp_s rfl (St_store1 H rfl rfl inferInstance rfl (Nat.le_of_ble_eq_true rfl) rfl ?_)
 exact k) : G := h H k
theorem J175 (H : Holds w l) (k : K) (h : Holds w l → K → G := by
 intro H k
 repeat refine C_seq ?_
 refine C_region ?_
 refine Lp_pv rfl rfl ?_
 refine Lp_nil ?_
 repeat refine C_seq ?_
 refine C_region ?_
 refine Lp_pv rfl rfl ?_
 refine Lp_s rfl (St_eqPtrNil rfl rfl (.inl rfl) rfl ?_)
 refine Lp_nil ?_
 repeat refine C_seq ?_
 refine C_false rfl (C_skip ?_)
 exact k) : G := h H k
theorem J176 (H : Holds w l) (k : K) (h : Holds w l → K → G := by
 intro H k
 refine A_pv 12 rfl (Wants.none rfl) rfl (by kernel_rfl) ?_
 refine A_pv 13 rfl (Wants.none rfl) rfl (by kernel_rfl) ?_
 refine A_pv 14 rfl (Wants.none rfl) rfl (by kernel_rfl) ?_
 exact k) : G := h H k
theorem J177 (H : Holds w l) (k : K) (h : Holds w l → K → G := by
 intro H k
 refine Lp_nn rfl rfl ?_
 refine Lp_nn rfl rfl ?_
 refine Lp_nn rfl rfl ?_
 refine Lp_nn rfl rfl ?_
 exact k) : G := h H k
theorem J178 (H : Holds w l) (k : K) (h : Holds w l → K → G := by
 intro H k
 repeat refine C_seq ?_
 refine C_region ?_
 refine Lp_pv rfl rfl ?_
 refine Lp_s rfl (St_eqPtrNil rfl rfl (.inl rfl) rfl ?_)
 refine Lp_nil ?_
 repeat refine C_seq ?_
 refine C_false rfl (C_skip ?_)
 exact k) : G := h H k
theorem J179 (H : Holds w l) (k : K) (h : Holds w l → K → G := by
 intro H k
 repeat refine C_seq ?_
 refine C_true rfl ?_
 repeat refine C_seq ?_
 refine C_region ?_
 refine Lp_pv rfl rfl ?_
 refine Lp_pv rfl rfl ?_
 refine Lp_pv rfl rfl ?_
 refine Lp_nil ?_
 exact k) : G := h H k
theorem J180 (H : Holds w l) (k : K) (h : Holds w l → K → G := by
 intro H k
 refine A_load1 5 [] H rfl (Wants.of rfl rfl rfl) rfl rfl (by kernel_rfl) ?_
 exact k) : G := h H k
theorem J181 (H : Holds w l) (k : K) (h : Holds w l → K → G := by
 intro H k
 refine A_load1 9 [] H rfl (Wants.of rfl rfl rfl) rfl rfl (by kernel_rfl) ?_
 exact k) : G := h H k
theorem J182 (H : Holds w l) (k : K) (h : Holds w l → K → G := by
 intro H k
 repeat refine C_seq ?_
 refine C_region ?_
 refine Lp_pv rfl rfl ?_
 refine Lp_s rfl (St_eqPtrNil rfl rfl (.inl rfl) rfl ?_)
 refine Lp_pv rfl rfl ?_
 refine Lp_nil ?_
 repeat refine C_seq ?_
 refine C_false rfl ?_
 exact k) : G := h H k
end
end Go.SL
