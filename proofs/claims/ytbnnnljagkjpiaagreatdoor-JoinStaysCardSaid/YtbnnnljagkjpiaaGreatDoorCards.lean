/-
  DERIVED. GIVEN WITH THE SEED: THE CARDS: each row of YtbnnnljagkjpiaaGreatDoorRows.lean that lists a variable, with what it lists TIED to the program's text (the seventh form; the later family's looks); each row that meets fmt, with fmt's text TOLD by the authors' own Lean function (tested against real Go, not proved from fmt's source: count such statements apart). THE CARD IS WHAT COUNTS. Prove the row's statement (the work); the ties are given (YtbnnnljagkjpiaaGreatDoorTie.lean); close each card by the builder's one call (the guide's Derived/Test/ToyasCard.lean, 'card_holds'). Laid BY PROGRAM, IN A SANDBOX (cutbox-door.mjs). By AI agents, Wed Nov 11 2026. No macro, syntax, notation, axiom, sorry.
-/
import Derived.Test.YtbnnnljagkjpiaaGreatDoorRows
import GoSem.ClaimSeven
namespace Go.Proofs.YtbnnnljagkjpiaaGreatDoor
namespace Rows

/-- THE TIED CARD OF 'turnrowlaw16.JoinStays'. -/
def joinStaysCard : Claim7 := { stood := { row := joinStaysRow, standIns := [], harness := (true, "22b27d240cf4767c5976244da2937653bfbd0c43dfb2fa8940347460aa2734e7"), looks := false }, kinds := [], alts := [], laidByText := true, laidKinds := [.data], laidTests := true, laidLooks := .later }
def JoinStaysCardSaid : Prop := Claim7.holds Tryz.pinned (.plain (OpenSpec.ofChange joinStaysSpec)) joinStaysCard

/-- THE TIED CARD OF 'turnrowlaw16.JoinGraves'. -/
def joinGravesCard : Claim7 := { stood := { row := joinGravesRow, standIns := [], harness := (true, "22b27d240cf4767c5976244da2937653bfbd0c43dfb2fa8940347460aa2734e7"), looks := false }, kinds := [], alts := [], laidByText := true, laidKinds := [.data], laidTests := true, laidLooks := .later }
def JoinGravesCardSaid : Prop := Claim7.holds Tryz.pinned (.plain (OpenSpec.ofChange joinGravesSpec)) joinGravesCard

/-- THE SECOND FORM's CARD OF 'turnrowlaw16.JoinStays'. -/
def joinStaysUptoCard : Claim7 := { stood := { row := joinStaysUptoRow, standIns := [], harness := (true, "22b27d240cf4767c5976244da2937653bfbd0c43dfb2fa8940347460aa2734e7"), looks := false }, kinds := [], alts := [], laidByText := true, laidKinds := [.data], laidTests := true, laidLooks := .later }
def JoinStaysUptoCardSaid : Prop := Claim7.holds Tryz.pinned (.plain (OpenSpec.upto joinStaysSpec)) joinStaysUptoCard

/-- THE SECOND FORM's CARD OF 'turnrowlaw16.JoinGraves'. -/
def joinGravesUptoCard : Claim7 := { stood := { row := joinGravesUptoRow, standIns := [], harness := (true, "22b27d240cf4767c5976244da2937653bfbd0c43dfb2fa8940347460aa2734e7"), looks := false }, kinds := [], alts := [], laidByText := true, laidKinds := [.data], laidTests := true, laidLooks := .later }
def JoinGravesUptoCardSaid : Prop := Claim7.holds Tryz.pinned (.plain (OpenSpec.upto joinGravesSpec)) joinGravesUptoCard
end Rows
end Go.Proofs.YtbnnnljagkjpiaaGreatDoor
