/- TokenSet: for every input the statement answers true, and reads its input only; the library's tables as the program's text lays them. -/
import Derived.Test.YtdpephigccnkdaaDoorTokM
import Derived.Test.YtdpephigccnkdaaDoorTokO
import Derived.Test.YtdpephigccnkdaaDoorTie
import Derived.Test.YtdpephigccnkdaaDoorCards
import Derived.SevenTiedAt
set_option linter.unusedVariables false
set_option linter.unusedSimpArgs false
namespace Go.Proofs.YtdpephigccnkdaaDoor
open Go.SL Go.ChangeShapes Go.WideShapes Go.ChangeAt Go.RowKit Go.ChangeMaps

set_option maxRecDepth 100000 in
theorem tokenSet_lifted (os : Os) (started : os.Started) (H : Type) (enc : TypeId × Value → H) :
    ReturnsInHanded {} Tryd.checked os 7 .any (fun w args => (Rows.tokenSetSpec.pre enc Tryd.prog Tryd.f7 [] false w args ∧ laidMetH Tryd.prog Rows.tokenOrdersRow.laid w) ∧ sizedMet enc Tryd.prog Tryd.f7 (OpenSpec.ofChange Rows.tokenSetSpec) false w args)
      (Rows.tokenSetSpec.post enc Tryd.prog Tryd.f7 false true false false) := by
  refine returnsInHanded_of_change_and (C := Tryd.checked) (X := fun w _ => laidMetH Tryd.prog Rows.tokenOrdersRow.laid w) (fun _ _ _ hh h => h.of_heap hh) own0 started (by kernel_rfl) Tryd.func7
    (ChangeSpec.witness_at (enc := enc) (C := Tryd.checked) (os := os) (X := fun w _ => laidMetH Tryd.prog Rows.tokenOrdersRow.laid w) false (laidWorld os) #[.slice none 0 0, .int .i64 0] 8 rfl (by kernel_rfl) (by kernel_rfl) (by kernel_rfl) (by kernel_rfl) (by kernel_rfl) (laidWorld_met os _)) ?_
  intro W base args ds gs before hval0 hW hcnd _ hL _
  have hval : ∀ (j : Nat) t v, Tryd.f7.params[j]? = some t → args[j]? = some v → Value.okWide Tryd.prog W .any base t v := hval0
  have hW' := hW
  obtain ⟨p, q, hA0, hV, rfl, hfz, hnd⟩ := hW
  have hA : DataW.TrodAll enc Tryd.prog W 0 (fun _ => true) true Tryd.f7.params.toList args.toList ds p := hA0
  rw [Tryd.params7] at hA hval
  obtain ⟨v0, vs0, d0, ds0, p0, q0, hargs, rfl, rfl, h0, r0⟩ := trodAll_cons hA
  obtain ⟨v1, vs1, d1, ds1, p1, q1, rfl, rfl, rfl, h1, r1⟩ := trodAll_cons r0
  obtain ⟨rfl, rfl, rfl⟩ := trodAll_nil r1
  obtain rfl : args = #[v0, v1] := by cases args; simp_all
  obtain ⟨rfl, rfl⟩ := trodVars_none hV
  obtain ⟨ad0, cap0, l0, rfl, hc0, hm0, hr0⟩ := open_toks (hval 0 _ v0 rfl rfl) h0
  obtain ⟨a1, rfl, rfl, rfl, w1⟩ := open_int Tryd.underlying3 (hval 1 _ v1 rfl rfl) h1
  have hpow := pow_of_laid hL
  letI : Extra := ⟨W.os, W.output⟩
  have walk := Set_walk hpow ad0 cap0 l0 hc0 hm0 hr0 a1 w1 (Holds.start W ⟨rfl, rfl⟩)
  refine walk.mono ?_
  intro e W' h
  cases e with
  | panicked c => exact h.elim
  | outgrown => exact h.elim
  | returned x =>
    obtain ⟨rfl, HH⟩ := h
    have hall : (Tryd.f7.params.toList.all fun t => Tryd.prog.readableRec t && decide (t < Tryd.prog.types.size)) = true := by kernel_rfl
    refine ⟨_, rfl, closing laidOut0 (fun t ht => by have := List.all_eq_true.1 hall t ht; rw [Bool.and_eq_true, decide_eq_true_eq] at this; exact this) rfl hW' (fun b hb => HH.old hb) HH.2.1 HH.2.2 rfl rfl ?_⟩
    exact trodAll_cons_mk (shut_bool Tryd.underlying4 _) trodAll_mk0

theorem tokenSetRow : Rows.TokenSetSaid :=
  OpenClaim.holds_of_wide 7 Tryd.f7 rfl rfl rfl rfl rfl rfl rfl ⟨rfl, rfl, rfl, rfl, rfl⟩ rfl rfl rfl rfl rfl (by kernel_rfl) Tryd.func7 (by kernel_rfl)
    (of_decide_eq_true (by kernel_rfl)) (by unfold Func.isWrapper; first | (rw [if_pos (by decide +kernel)]; kernel_rfl) | (rw [if_neg (by decide +kernel)]; exact ⟨rfl, rfl⟩))
    (fun os started H enc _ => tokenSet_lifted os started H enc)

theorem tokenSet : Rows.TokenSetCardSaid :=
  Claim7.holds_tied_plain_at .later [] [.data, .data, .data] true _ false
    tokenSetRow (fun _ h => by cases h) (by kernel_rfl) (fun _ h => by cases h) tokenSet_row_tie rfl ⟨rfl, rfl⟩ (by kernel_rfl) rfl
    (fun f fn hf hfn => by
      obtain rfl : f = 7 := Option.some.inj ((show Tryd.prog.funcNamed "turnrow/turnrowlaw06.TokenSet" = some 7 by kernel_rfl).symm.trans hf) |>.symm
      obtain rfl : fn = Tryd.f7 := (Option.some.inj (Tryd.func7.symm.trans hfn)).symm
      have hall : (Tryd.f7.params.toList.all fun t => !Tryd.prog.wantsStandIn t) = true := by kernel_rfl
      exact ⟨by kernel_rfl, fun j t ht => by
        have := List.all_eq_true.1 hall t (List.mem_of_getElem? (i := j) (by rw [Array.getElem?_toList]; exact ht))
        exact Bool.not_eq_true' _ ▸ this⟩)
    (by kernel_rfl)
end Go.Proofs.YtdpephigccnkdaaDoor
