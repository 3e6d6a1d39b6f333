/- TokenTexts: for every input the statement answers true, and reads its input only; the library's tables as the program's text lays them. -/
import Derived.Test.YtdpephigccnkdaaDoorTokK
import Derived.Test.YtdpephigccnkdaaDoorTokO
import Derived.Test.YtdpephigccnkdaaDoorTie
import Derived.Test.YtdpephigccnkdaaDoorCards
import Derived.SevenTiedAt
set_option linter.unusedVariables false
set_option linter.unusedSimpArgs false
namespace Go.Proofs.YtdpephigccnkdaaDoor
open Go.SL Go.ChangeShapes Go.WideShapes Go.ChangeAt Go.RowKit Go.ChangeMaps

set_option maxRecDepth 100000 in
theorem tokenTexts_lifted (os : Os) (started : os.Started) (H : Type) (enc : TypeId × Value → H) :
    ReturnsInHanded {} Tryd.checked os 3 .any (fun w args => (Rows.tokenTextsSpec.pre enc Tryd.prog Tryd.f3 [] false w args ∧ laidMetH Tryd.prog Rows.tokenOrdersRow.laid w) ∧ sizedMet enc Tryd.prog Tryd.f3 (OpenSpec.ofChange Rows.tokenTextsSpec) false w args)
      (Rows.tokenTextsSpec.post enc Tryd.prog Tryd.f3 false true false false) := by
  refine returnsInHanded_of_change_and (C := Tryd.checked) (X := fun w _ => laidMetH Tryd.prog Rows.tokenOrdersRow.laid w) (fun _ _ _ hh h => h.of_heap hh) own0 started (by kernel_rfl) Tryd.func3
    (ChangeSpec.witness_at (enc := enc) (C := Tryd.checked) (os := os) (X := fun w _ => laidMetH Tryd.prog Rows.tokenOrdersRow.laid w) false (laidWorld os) #[.agg #[.int .i64 0, .int .i64 0], .string .empty] 8 rfl (by kernel_rfl) (by kernel_rfl) (by kernel_rfl) (by kernel_rfl) (by kernel_rfl) (laidWorld_met os _)) ?_
  intro W base args ds gs before hval0 hW hcnd _ hL _
  have hval : ∀ (j : Nat) t v, Tryd.f3.params[j]? = some t → args[j]? = some v → Value.okWide Tryd.prog W .any base t v := hval0
  have hW' := hW
  obtain ⟨p, q, hA0, hV, rfl, hfz, hnd⟩ := hW
  have hA : DataW.TrodAll enc Tryd.prog W 0 (fun _ => true) true Tryd.f3.params.toList args.toList ds p := hA0
  rw [Tryd.params3] at hA hval
  obtain ⟨v0, vs0, d0, ds0, p0, q0, hargs, rfl, rfl, h0, r0⟩ := trodAll_cons hA
  obtain ⟨v1, vs1, d1, ds1, p1, q1, rfl, rfl, rfl, h1, r1⟩ := trodAll_cons r0
  obtain ⟨rfl, rfl, rfl⟩ := trodAll_nil r1
  obtain rfl : args = #[v0, v1] := by cases args; simp_all
  obtain ⟨rfl, rfl⟩ := trodVars_none hV
  obtain ⟨t0, rfl⟩ := open_tok (hval 0 _ v0 rfl rfl) h0
  obtain ⟨s1, rfl, rfl, rfl, w1⟩ := open_string Tryd.underlying9 (hval 1 _ v1 rfl rfl) h1
  have hs1 : s1.data.toList.length ≤ 9223372036854775807 := by
    have e : s1.data.toList.length = s1.size := by rw [Array.length_toList]; rfl
    unfold maxLen at w1
    omega
  have hpow := pow_of_laid hL
  letI : Extra := ⟨W.os, W.output⟩
  have walk := Texts_walk hpow t0 s1.data.toList hs1 (Holds.start W ⟨rfl, rfl⟩)
  have es1 : str s1.data.toList = .string s1 := by unfold str; rw [← str_data]
  rw [es1] at walk
  refine walk.mono ?_
  intro e W' h
  cases e with
  | panicked c => exact h.elim
  | outgrown => exact h.elim
  | returned x =>
    obtain ⟨rfl, HH⟩ := h
    have hall : (Tryd.f3.params.toList.all fun t => Tryd.prog.readableRec t && decide (t < Tryd.prog.types.size)) = true := by kernel_rfl
    refine ⟨_, rfl, closing laidOut0 (fun t ht => by have := List.all_eq_true.1 hall t ht; rw [Bool.and_eq_true, decide_eq_true_eq] at this; exact this) rfl hW' (fun b hb => HH.old hb) HH.2.1 HH.2.2 rfl rfl ?_⟩
    exact trodAll_cons_mk (shut_bool Tryd.underlying4 _) trodAll_mk0

theorem tokenTextsRow : Rows.TokenTextsSaid :=
  OpenClaim.holds_of_wide 3 Tryd.f3 rfl rfl rfl rfl rfl rfl rfl ⟨rfl, rfl, rfl, rfl, rfl⟩ rfl rfl rfl rfl rfl (by kernel_rfl) Tryd.func3 (by kernel_rfl)
    (of_decide_eq_true (by kernel_rfl)) (by unfold Func.isWrapper; first | (rw [if_pos (by decide +kernel)]; kernel_rfl) | (rw [if_neg (by decide +kernel)]; exact ⟨rfl, rfl⟩))
    (fun os started H enc _ => tokenTexts_lifted os started H enc)

theorem tokenTexts : Rows.TokenTextsCardSaid :=
  Claim7.holds_tied_plain_at .later [] [.data, .data, .data] true _ false
    tokenTextsRow (fun _ h => by cases h) (by kernel_rfl) (fun _ h => by cases h) tokenTexts_row_tie rfl ⟨rfl, rfl⟩ (by kernel_rfl) rfl
    (fun f fn hf hfn => by
      obtain rfl : f = 3 := Option.some.inj ((show Tryd.prog.funcNamed "turnrow/turnrowlaw06.TokenTexts" = some 3 by kernel_rfl).symm.trans hf) |>.symm
      obtain rfl : fn = Tryd.f3 := (Option.some.inj (Tryd.func3.symm.trans hfn)).symm
      have hall : (Tryd.f3.params.toList.all fun t => !Tryd.prog.wantsStandIn t) = true := by kernel_rfl
      exact ⟨by kernel_rfl, fun j t ht => by
        have := List.all_eq_true.1 hall t (List.mem_of_getElem? (i := j) (by rw [Array.getElem?_toList]; exact ht))
        exact Bool.not_eq_true' _ ▸ this⟩)
    (by kernel_rfl)
end Go.Proofs.YtdpephigccnkdaaDoor
