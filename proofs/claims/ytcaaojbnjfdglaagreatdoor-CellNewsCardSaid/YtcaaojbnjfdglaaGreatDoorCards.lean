/-
  DERIVED. GIVEN WITH THE SEED: THE CARDS: each row of YtcaaojbnjfdglaaGreatDoorRows.lean that lists a variable, with what it lists TIED to the program's text (the seventh form; the later family's looks); each row that meets fmt, with fmt's text TOLD by the authors' own Lean function (tested against real Go, not proved from fmt's source: count such statements apart). THE CARD IS WHAT COUNTS. Prove the row's statement (the work); the ties are given (YtcaaojbnjfdglaaGreatDoorTie.lean); close each card by the builder's one call (the guide's Derived/Test/ToyasCard.lean, 'card_holds'). Laid BY PROGRAM, IN A SANDBOX (cutbox-door.mjs). By AI agents, Wed Nov 11 2026. No macro, syntax, notation, axiom, sorry.
-/
import Derived.Test.YtcaaojbnjfdglaaGreatDoorRows
import GoSem.ClaimSeven
namespace Go.Proofs.YtcaaojbnjfdglaaGreatDoor
namespace Rows

/-- THE TIED CARD OF 'turnrowlaw15.CellDrops'. -/
def cellDropsCard : Claim7 := { stood := { row := cellDropsRow, standIns := [], harness := (true, "b3dda4d31f6fa8fb20e6e5517acdc5fe5278d66fd889a7a4ad3397ba80f33e29"), looks := false }, kinds := [], alts := [], laidByText := true, laidKinds := [.data], laidTests := true, laidLooks := .later }
def CellDropsCardSaid : Prop := Claim7.holds Tryz.pinned (.plain (OpenSpec.ofChange cellDropsSpec)) cellDropsCard

/-- THE TIED CARD OF 'turnrowlaw15.CellActs'. -/
def cellActsCard : Claim7 := { stood := { row := cellActsRow, standIns := [], harness := (true, "b3dda4d31f6fa8fb20e6e5517acdc5fe5278d66fd889a7a4ad3397ba80f33e29"), looks := false }, kinds := [], alts := [], laidByText := true, laidKinds := [.data], laidTests := true, laidLooks := .later }
def CellActsCardSaid : Prop := Claim7.holds Tryz.pinned (.plain (OpenSpec.ofChange cellActsSpec)) cellActsCard

/-- THE TIED CARD OF 'turnrowlaw15.CellApart'. -/
def cellApartCard : Claim7 := { stood := { row := cellApartRow, standIns := [], harness := (true, "b3dda4d31f6fa8fb20e6e5517acdc5fe5278d66fd889a7a4ad3397ba80f33e29"), looks := false }, kinds := [], alts := [], laidByText := true, laidKinds := [.data], laidTests := true, laidLooks := .later }
def CellApartCardSaid : Prop := Claim7.holds Tryz.pinned (.plain (OpenSpec.ofChange cellApartSpec)) cellApartCard

/-- THE TIED CARD OF 'turnrowlaw15.CellPins'. -/
def cellPinsCard : Claim7 := { stood := { row := cellPinsRow, standIns := [], harness := (true, "b3dda4d31f6fa8fb20e6e5517acdc5fe5278d66fd889a7a4ad3397ba80f33e29"), looks := false }, kinds := [], alts := [], laidByText := true, laidKinds := [.data], laidTests := true, laidLooks := .later }
def CellPinsCardSaid : Prop := Claim7.holds Tryz.pinned (.plain (OpenSpec.ofChange cellPinsSpec)) cellPinsCard

/-- THE TIED CARD OF 'turnrowlaw15.CellFresh'. -/
def cellFreshCard : Claim7 := { stood := { row := cellFreshRow, standIns := [], harness := (true, "b3dda4d31f6fa8fb20e6e5517acdc5fe5278d66fd889a7a4ad3397ba80f33e29"), looks := false }, kinds := [], alts := [], laidByText := true, laidKinds := [.data], laidTests := true, laidLooks := .later }
def CellFreshCardSaid : Prop := Claim7.holds Tryz.pinned (.plain (OpenSpec.ofChange cellFreshSpec)) cellFreshCard

/-- THE TIED CARD OF 'turnrowlaw15.CellTargets'. -/
def cellTargetsCard : Claim7 := { stood := { row := cellTargetsRow, standIns := [], harness := (true, "b3dda4d31f6fa8fb20e6e5517acdc5fe5278d66fd889a7a4ad3397ba80f33e29"), looks := false }, kinds := [], alts := [], laidByText := true, laidKinds := [.data], laidTests := true, laidLooks := .later }
def CellTargetsCardSaid : Prop := Claim7.holds Tryz.pinned (.plain (OpenSpec.ofChange cellTargetsSpec)) cellTargetsCard

/-- THE TIED CARD OF 'turnrowlaw15.CellWhole'. -/
def cellWholeCard : Claim7 := { stood := { row := cellWholeRow, standIns := [], harness := (true, "b3dda4d31f6fa8fb20e6e5517acdc5fe5278d66fd889a7a4ad3397ba80f33e29"), looks := false }, kinds := [], alts := [], laidByText := true, laidKinds := [.data], laidTests := true, laidLooks := .later }
def CellWholeCardSaid : Prop := Claim7.holds Tryz.pinned (.plain (OpenSpec.ofChange cellWholeSpec)) cellWholeCard

/-- THE TIED CARD OF 'turnrowlaw15.CellNews'. -/
def cellNewsCard : Claim7 := { stood := { row := cellNewsRow, standIns := [], harness := (true, "b3dda4d31f6fa8fb20e6e5517acdc5fe5278d66fd889a7a4ad3397ba80f33e29"), looks := false }, kinds := [], alts := [], laidByText := true, laidKinds := [.data], laidTests := true, laidLooks := .later }
def CellNewsCardSaid : Prop := Claim7.holds Tryz.pinned (.plain (OpenSpec.ofChange cellNewsSpec)) cellNewsCard

/-- THE TIED CARD OF 'turnrowlaw15.CellLoses'. -/
def cellLosesCard : Claim7 := { stood := { row := cellLosesRow, standIns := [], harness := (true, "b3dda4d31f6fa8fb20e6e5517acdc5fe5278d66fd889a7a4ad3397ba80f33e29"), looks := false }, kinds := [], alts := [], laidByText := true, laidKinds := [.data], laidTests := true, laidLooks := .later }
def CellLosesCardSaid : Prop := Claim7.holds Tryz.pinned (.plain (OpenSpec.ofChange cellLosesSpec)) cellLosesCard

/-- THE SECOND FORM's CARD OF 'turnrowlaw15.CellDrops'. -/
def cellDropsUptoCard : Claim7 := { stood := { row := cellDropsUptoRow, standIns := [], harness := (true, "b3dda4d31f6fa8fb20e6e5517acdc5fe5278d66fd889a7a4ad3397ba80f33e29"), looks := false }, kinds := [], alts := [], laidByText := true, laidKinds := [.data], laidTests := true, laidLooks := .later }
def CellDropsUptoCardSaid : Prop := Claim7.holds Tryz.pinned (.plain (OpenSpec.upto cellDropsSpec)) cellDropsUptoCard

/-- THE SECOND FORM's CARD OF 'turnrowlaw15.CellActs'. -/
def cellActsUptoCard : Claim7 := { stood := { row := cellActsUptoRow, standIns := [], harness := (true, "b3dda4d31f6fa8fb20e6e5517acdc5fe5278d66fd889a7a4ad3397ba80f33e29"), looks := false }, kinds := [], alts := [], laidByText := true, laidKinds := [.data], laidTests := true, laidLooks := .later }
def CellActsUptoCardSaid : Prop := Claim7.holds Tryz.pinned (.plain (OpenSpec.upto cellActsSpec)) cellActsUptoCard

/-- THE SECOND FORM's CARD OF 'turnrowlaw15.CellApart'. -/
def cellApartUptoCard : Claim7 := { stood := { row := cellApartUptoRow, standIns := [], harness := (true, "b3dda4d31f6fa8fb20e6e5517acdc5fe5278d66fd889a7a4ad3397ba80f33e29"), looks := false }, kinds := [], alts := [], laidByText := true, laidKinds := [.data], laidTests := true, laidLooks := .later }
def CellApartUptoCardSaid : Prop := Claim7.holds Tryz.pinned (.plain (OpenSpec.upto cellApartSpec)) cellApartUptoCard

/-- THE SECOND FORM's CARD OF 'turnrowlaw15.CellPins'. -/
def cellPinsUptoCard : Claim7 := { stood := { row := cellPinsUptoRow, standIns := [], harness := (true, "b3dda4d31f6fa8fb20e6e5517acdc5fe5278d66fd889a7a4ad3397ba80f33e29"), looks := false }, kinds := [], alts := [], laidByText := true, laidKinds := [.data], laidTests := true, laidLooks := .later }
def CellPinsUptoCardSaid : Prop := Claim7.holds Tryz.pinned (.plain (OpenSpec.upto cellPinsSpec)) cellPinsUptoCard

/-- THE SECOND FORM's CARD OF 'turnrowlaw15.CellFresh'. -/
def cellFreshUptoCard : Claim7 := { stood := { row := cellFreshUptoRow, standIns := [], harness := (true, "b3dda4d31f6fa8fb20e6e5517acdc5fe5278d66fd889a7a4ad3397ba80f33e29"), looks := false }, kinds := [], alts := [], laidByText := true, laidKinds := [.data], laidTests := true, laidLooks := .later }
def CellFreshUptoCardSaid : Prop := Claim7.holds Tryz.pinned (.plain (OpenSpec.upto cellFreshSpec)) cellFreshUptoCard

/-- THE SECOND FORM's CARD OF 'turnrowlaw15.CellTargets'. -/
def cellTargetsUptoCard : Claim7 := { stood := { row := cellTargetsUptoRow, standIns := [], harness := (true, "b3dda4d31f6fa8fb20e6e5517acdc5fe5278d66fd889a7a4ad3397ba80f33e29"), looks := false }, kinds := [], alts := [], laidByText := true, laidKinds := [.data], laidTests := true, laidLooks := .later }
def CellTargetsUptoCardSaid : Prop := Claim7.holds Tryz.pinned (.plain (OpenSpec.upto cellTargetsSpec)) cellTargetsUptoCard

/-- THE SECOND FORM's CARD OF 'turnrowlaw15.CellWhole'. -/
def cellWholeUptoCard : Claim7 := { stood := { row := cellWholeUptoRow, standIns := [], harness := (true, "b3dda4d31f6fa8fb20e6e5517acdc5fe5278d66fd889a7a4ad3397ba80f33e29"), looks := false }, kinds := [], alts := [], laidByText := true, laidKinds := [.data], laidTests := true, laidLooks := .later }
def CellWholeUptoCardSaid : Prop := Claim7.holds Tryz.pinned (.plain (OpenSpec.upto cellWholeSpec)) cellWholeUptoCard

/-- THE SECOND FORM's CARD OF 'turnrowlaw15.CellNews'. -/
def cellNewsUptoCard : Claim7 := { stood := { row := cellNewsUptoRow, standIns := [], harness := (true, "b3dda4d31f6fa8fb20e6e5517acdc5fe5278d66fd889a7a4ad3397ba80f33e29"), looks := false }, kinds := [], alts := [], laidByText := true, laidKinds := [.data], laidTests := true, laidLooks := .later }
def CellNewsUptoCardSaid : Prop := Claim7.holds Tryz.pinned (.plain (OpenSpec.upto cellNewsSpec)) cellNewsUptoCard

/-- THE SECOND FORM's CARD OF 'turnrowlaw15.CellLoses'. -/
def cellLosesUptoCard : Claim7 := { stood := { row := cellLosesUptoRow, standIns := [], harness := (true, "b3dda4d31f6fa8fb20e6e5517acdc5fe5278d66fd889a7a4ad3397ba80f33e29"), looks := false }, kinds := [], alts := [], laidByText := true, laidKinds := [.data], laidTests := true, laidLooks := .later }
def CellLosesUptoCardSaid : Prop := Claim7.holds Tryz.pinned (.plain (OpenSpec.upto cellLosesSpec)) cellLosesUptoCard
end Rows
end Go.Proofs.YtcaaojbnjfdglaaGreatDoor
