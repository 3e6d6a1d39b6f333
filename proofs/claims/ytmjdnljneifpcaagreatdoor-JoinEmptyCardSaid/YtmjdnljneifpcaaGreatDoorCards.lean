/-
  DERIVED. GIVEN WITH THE SEED: THE CARDS: each row of YtmjdnljneifpcaaGreatDoorRows.lean that lists a variable, with what it lists TIED to the program's text (the seventh form; the later family's looks); each row that meets fmt, with fmt's text TOLD by the authors' own Lean function (tested against real Go, not proved from fmt's source: count such statements apart). THE CARD IS WHAT COUNTS. Prove the row's statement (the work); the ties are given (YtmjdnljneifpcaaGreatDoorTie.lean); close each card by the builder's one call (the guide's Derived/Test/ToyasCard.lean, 'card_holds'). Laid BY PROGRAM, IN A SANDBOX (cutbox-door.mjs). By AI agents, Wed Nov 11 2026. No macro, syntax, notation, axiom, sorry.
-/
import Derived.Test.YtmjdnljneifpcaaGreatDoorRows
import GoSem.ClaimSeven
namespace Go.Proofs.YtmjdnljneifpcaaGreatDoor
namespace Rows

/-- THE TIED CARD OF 'turnrowlaw16.JoinActs'. -/
def joinActsCard : Claim7 := { stood := { row := joinActsRow, standIns := [], harness := (true, "7ced7dfcf9bdb87681c755aca14cf732c815012417cf580e61a369d45c65a03f"), looks := false }, kinds := [], alts := [], laidByText := true, laidKinds := [.data], laidTests := true, laidLooks := .later }
def JoinActsCardSaid : Prop := Claim7.holds Tryz.pinned (.plain (OpenSpec.ofChange joinActsSpec)) joinActsCard

/-- THE TIED CARD OF 'turnrowlaw16.JoinWhole'. -/
def joinWholeCard : Claim7 := { stood := { row := joinWholeRow, standIns := [], harness := (true, "7ced7dfcf9bdb87681c755aca14cf732c815012417cf580e61a369d45c65a03f"), looks := false }, kinds := [], alts := [], laidByText := true, laidKinds := [.data], laidTests := true, laidLooks := .later }
def JoinWholeCardSaid : Prop := Claim7.holds Tryz.pinned (.plain (OpenSpec.ofChange joinWholeSpec)) joinWholeCard

/-- THE TIED CARD OF 'turnrowlaw16.JoinFrees'. -/
def joinFreesCard : Claim7 := { stood := { row := joinFreesRow, standIns := [], harness := (true, "7ced7dfcf9bdb87681c755aca14cf732c815012417cf580e61a369d45c65a03f"), looks := false }, kinds := [], alts := [], laidByText := true, laidKinds := [.data], laidTests := true, laidLooks := .later }
def JoinFreesCardSaid : Prop := Claim7.holds Tryz.pinned (.plain (OpenSpec.ofChange joinFreesSpec)) joinFreesCard

/-- THE TIED CARD OF 'turnrowlaw16.JoinEmpty'. -/
def joinEmptyCard : Claim7 := { stood := { row := joinEmptyRow, standIns := [], harness := (true, "7ced7dfcf9bdb87681c755aca14cf732c815012417cf580e61a369d45c65a03f"), looks := false }, kinds := [], alts := [], laidByText := true, laidKinds := [.data], laidTests := true, laidLooks := .later }
def JoinEmptyCardSaid : Prop := Claim7.holds Tryz.pinned (.plain (OpenSpec.ofChange joinEmptySpec)) joinEmptyCard

/-- THE TIED CARD OF 'turnrowlaw16.JoinParts'. -/
def joinPartsCard : Claim7 := { stood := { row := joinPartsRow, standIns := [], harness := (true, "7ced7dfcf9bdb87681c755aca14cf732c815012417cf580e61a369d45c65a03f"), looks := false }, kinds := [], alts := [], laidByText := true, laidKinds := [.data], laidTests := true, laidLooks := .later }
def JoinPartsCardSaid : Prop := Claim7.holds Tryz.pinned (.plain (OpenSpec.ofChange joinPartsSpec)) joinPartsCard

/-- THE SECOND FORM's CARD OF 'turnrowlaw16.JoinActs'. -/
def joinActsUptoCard : Claim7 := { stood := { row := joinActsUptoRow, standIns := [], harness := (true, "7ced7dfcf9bdb87681c755aca14cf732c815012417cf580e61a369d45c65a03f"), looks := false }, kinds := [], alts := [], laidByText := true, laidKinds := [.data], laidTests := true, laidLooks := .later }
def JoinActsUptoCardSaid : Prop := Claim7.holds Tryz.pinned (.plain (OpenSpec.upto joinActsSpec)) joinActsUptoCard

/-- THE SECOND FORM's CARD OF 'turnrowlaw16.JoinWhole'. -/
def joinWholeUptoCard : Claim7 := { stood := { row := joinWholeUptoRow, standIns := [], harness := (true, "7ced7dfcf9bdb87681c755aca14cf732c815012417cf580e61a369d45c65a03f"), looks := false }, kinds := [], alts := [], laidByText := true, laidKinds := [.data], laidTests := true, laidLooks := .later }
def JoinWholeUptoCardSaid : Prop := Claim7.holds Tryz.pinned (.plain (OpenSpec.upto joinWholeSpec)) joinWholeUptoCard

/-- THE SECOND FORM's CARD OF 'turnrowlaw16.JoinFrees'. -/
def joinFreesUptoCard : Claim7 := { stood := { row := joinFreesUptoRow, standIns := [], harness := (true, "7ced7dfcf9bdb87681c755aca14cf732c815012417cf580e61a369d45c65a03f"), looks := false }, kinds := [], alts := [], laidByText := true, laidKinds := [.data], laidTests := true, laidLooks := .later }
def JoinFreesUptoCardSaid : Prop := Claim7.holds Tryz.pinned (.plain (OpenSpec.upto joinFreesSpec)) joinFreesUptoCard

/-- THE SECOND FORM's CARD OF 'turnrowlaw16.JoinEmpty'. -/
def joinEmptyUptoCard : Claim7 := { stood := { row := joinEmptyUptoRow, standIns := [], harness := (true, "7ced7dfcf9bdb87681c755aca14cf732c815012417cf580e61a369d45c65a03f"), looks := false }, kinds := [], alts := [], laidByText := true, laidKinds := [.data], laidTests := true, laidLooks := .later }
def JoinEmptyUptoCardSaid : Prop := Claim7.holds Tryz.pinned (.plain (OpenSpec.upto joinEmptySpec)) joinEmptyUptoCard

/-- THE SECOND FORM's CARD OF 'turnrowlaw16.JoinParts'. -/
def joinPartsUptoCard : Claim7 := { stood := { row := joinPartsUptoRow, standIns := [], harness := (true, "7ced7dfcf9bdb87681c755aca14cf732c815012417cf580e61a369d45c65a03f"), looks := false }, kinds := [], alts := [], laidByText := true, laidKinds := [.data], laidTests := true, laidLooks := .later }
def JoinPartsUptoCardSaid : Prop := Claim7.holds Tryz.pinned (.plain (OpenSpec.upto joinPartsSpec)) joinPartsUptoCard
end Rows
end Go.Proofs.YtmjdnljneifpcaaGreatDoor
