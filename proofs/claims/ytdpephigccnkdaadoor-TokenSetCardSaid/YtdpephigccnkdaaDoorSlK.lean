/- Parts of slices and strings, for the walk. No condition. -/
import Derived.Test.YtdpephigccnkdaaDoorSlH
set_option linter.unusedVariables false
set_option linter.unusedSimpArgs false
set_option linter.unusedSectionVars false
namespace Go.SL

section
variable {P : Program} {n : Nat} {r : Option Nat} {σ : Env} {w : World} {K : Env → World → Prop}
variable {u t : TypeId} {p : String} {af : Array Edge} {g : Option (Nat × Bool)} {d : Option Tmp} {x y z : Operand}

/-- 'x[:i]'. -/
theorem St_sliceTo {e size bytes b o len cap : Nat} {q : IntKind} {i : Int} [hT : TSlice P t e size bytes] (hx : ev σ x = .slice (some ⟨b, o, none⟩) len cap) (hy : ev σ y = .int q i) (h0 : 0 ≤ i) (h1 : i ≤ cap) (hd : okd n d = true)
    (k : K (put σ d (.slice (some ⟨b, o, none⟩) i.toNat cap)) w) : St P n r ⟨d, .slice t x none (some y) none, u, p, af, g⟩ σ w K := by
  have hs : (sizeOf e).run P w = .ok size w := by
    obtain ⟨k, hk, e2⟩ := Option.map_eq_some_iff.1 hT.info
    simp only [Prod.mk.injEq] at e2
    exact run_sizeOf' (by rw [hk]; simp [e2.1])
  refine St_value (v := .slice (some ⟨b, o, none⟩) i.toNat cap) (w' := w) hd (fun c e => by cases e) ?_ k
  simp [execOp, hx, hy, Instr.sliceAt, Instr.slice, run_und hT.und, Instr.sliceBounds, Instr.sliceBound, asIntOf, h0, h1, hs, add_lit']
end
end Go.SL
