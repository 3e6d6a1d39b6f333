/- Cells: what is proved on the way: every input of the statement; no condition. Texts joined: OpnB. -/
import Derived.Test.YtcaaojbnjfdglaaGreatDoorCin
set_option linter.unusedVariables false
set_option linter.unusedSimpArgs false
set_option maxRecDepth 100000
namespace Go.Proofs.YtcaaojbnjfdglaaGreatDoor
open Go.SL Go.ChangeShapes Go.WideShapes Go.ChangeAt Go.RowKit Go.Deep
section
variable {H : Type} {enc : TypeId × Value → H} {W : World}
theorem open_wordsP {v : Value} {d : DataW H} {ps : List MemPlace} {r : Reach} {b0 : Nat} (hv : Value.okWide Tryz.prog W r b0 30 v) (h : DataW.Trod enc Tryz.prog W 0 (fun _ => true) true 30 v d ps) :
    ∃ (ad : Option Addr) (cap : Nat) (ws : List Nat), v = .slice ad ws.length cap ∧ (∀ z ∈ ws, z < 18446744073709551616) ∧ (ws = [] ∨ ∃ b o E fz c, ad = some ⟨b, o, none⟩ ∧ W.heap[b]? = some (.cells (List.toArray c) E fz) ∧ Reads c o (ws.length * 1) (ucells ws)) := by
  obtain ⟨a, len, cap, rfl⟩ := okWide_slice Tryz.underlying30 hv
  obtain ⟨fuel, hf⟩ := h
  exact open_words hf
end
theorem words_rd {W : World} {ad : Option Addr} {cap : Nat} {ws : List Nat} (h : ws = [] ∨ ∃ b o E fz c, ad = some ⟨b, o, none⟩ ∧ W.heap[b]? = some (.cells (List.toArray c) E fz) ∧ Reads c o (ws.length * 1) (ucells ws)) (fr : List HProp) : RdS (old W :: fr) (.slice ad ws.length cap) ws.length 1 (ucells ws) := by
  refine ⟨ucells_length _, ad, cap, rfl, ?_⟩
  rcases h with rfl | ⟨b, o, E, fz, c, rfl, hb, hr⟩
  · exact .inl rfl
  · haveI : InOld W b (.cells (List.toArray c) E fz) := ⟨hb⟩
    exact .inr ⟨b, o, E, fz, c, rfl, inferInstance, hr⟩
end Go.Proofs.YtcaaojbnjfdglaaGreatDoor
