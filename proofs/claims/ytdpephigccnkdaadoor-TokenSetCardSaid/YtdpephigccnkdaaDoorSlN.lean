/- min, and 'x[:i]' of any slice, for the walk. No condition. -/
import Derived.Test.YtdpephigccnkdaaDoorSlM
set_option linter.unusedVariables false
set_option linter.unusedSimpArgs false
set_option linter.unusedSectionVars false
namespace Go.SL
section
variable {P : Program} {n : Nat} {r : Option Nat} {σ : Env} {w : World} {K : Env → World → Prop} {l : List HProp}
variable {u t : TypeId} {p : String} {af : Array Edge} {g : Option (Nat × Bool)} {d : Option Tmp} {x y : Operand}

theorem St_min {k q : IntKind} {a b : Int} {ts : Array TypeId} (hx : ev σ x = .int k a) (hy : ev σ y = .int q b) (hd : okd n d = true) (h : K (put σ d (.int k (if b < a then b else a))) w) :
    St P n r ⟨d, .call { callee := .builtin .min, args := #[x, y], argTypes := ts }, u, p, af, g⟩ σ w K := by
  refine St_value (v := .int k (if b < a then b else a)) (w' := w) hd (fun c e => by cases e) ?_ h
  simp [execOp, resolve, invoke, builtin, hx, hy, Builtin.min_, Builtin.min2]

theorem add0 (a : Addr) : a.add 0 = a := by simp [Addr.add]

/-- 'x[:i]', whatever the slice. -/
theorem St_sliceToA {e size bytes len cap : Nat} {ad : Option Addr} {q : IntKind} {i : Int} [hT : TSlice P t e size bytes] (hx : ev σ x = .slice ad len cap) (hy : ev σ y = .int q i) (h0 : 0 ≤ i) (h1 : i ≤ cap) (hd : okd n d = true)
    (k : K (put σ d (.slice ad i.toNat cap)) w) : St P n r ⟨d, .slice t x none (some y) none, u, p, af, g⟩ σ w K := by
  have hs : (sizeOf e).run P w = .ok size w := by
    obtain ⟨k, hk, e2⟩ := Option.map_eq_some_iff.1 hT.info
    simp only [Prod.mk.injEq] at e2
    exact run_sizeOf' (by rw [hk]; simp [e2.1])
  refine St_value (v := .slice ad i.toNat cap) (w' := w) hd (fun c e => by cases e) ?_ k
  cases ad with
  | none => simp [execOp, hx, hy, Instr.sliceAt, Instr.slice, run_und hT.und, Instr.sliceBounds, Instr.sliceBound, asIntOf, h0, h1, hs]
  | some a => simp [execOp, hx, hy, Instr.sliceAt, Instr.slice, run_und hT.und, Instr.sliceBounds, Instr.sliceBound, asIntOf, h0, h1, hs, add0]
end
end Go.SL
