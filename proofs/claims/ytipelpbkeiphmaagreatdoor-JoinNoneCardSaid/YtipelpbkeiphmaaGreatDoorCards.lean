/-
  DERIVED. GIVEN WITH THE SEED: THE CARDS: each row of YtipelpbkeiphmaaGreatDoorRows.lean that lists a variable, with what it lists TIED to the program's text (the seventh form; the later family's looks); each row that meets fmt, with fmt's text TOLD by the authors' own Lean function (tested against real Go, not proved from fmt's source: count such statements apart). THE CARD IS WHAT COUNTS. Prove the row's statement (the work); the ties are given (YtipelpbkeiphmaaGreatDoorTie.lean); close each card by the builder's one call (the guide's Derived/Test/ToyasCard.lean, 'card_holds'). Laid BY PROGRAM, IN A SANDBOX (cutbox-door.mjs). By AI agents, Wed Nov 11 2026. No macro, syntax, notation, axiom, sorry.
-/
import Derived.Test.YtipelpbkeiphmaaGreatDoorRows
import GoSem.ClaimSeven
namespace Go.Proofs.YtipelpbkeiphmaaGreatDoor
namespace Rows

/-- THE TIED CARD OF 'turnrowlaw18.AuditNone'. -/
def auditNoneCard : Claim7 := { stood := { row := auditNoneRow, standIns := [], harness := (true, "16dad5f8b8985790fe1cdacca27aa8d4212e50c711d62e5556b44457d596c6de"), looks := false }, kinds := [], alts := [], laidByText := true, laidKinds := [.data], laidTests := true, laidLooks := .later }
def AuditNoneCardSaid : Prop := Claim7.holds Tryz.pinned (.plain (OpenSpec.ofChange auditNoneSpec)) auditNoneCard

/-- THE TIED CARD OF 'turnrowlaw16.JoinNone'. -/
def joinNoneCard : Claim7 := { stood := { row := joinNoneRow, standIns := [], harness := (true, "16dad5f8b8985790fe1cdacca27aa8d4212e50c711d62e5556b44457d596c6de"), looks := false }, kinds := [], alts := [], laidByText := true, laidKinds := [.data], laidTests := true, laidLooks := .later }
def JoinNoneCardSaid : Prop := Claim7.holds Tryz.pinned (.plain (OpenSpec.ofChange joinNoneSpec)) joinNoneCard

/-- THE TIED CARD OF 'turnrowlaw16.JoinActs'. -/
def joinActsCard : Claim7 := { stood := { row := joinActsRow, standIns := [], harness := (true, "16dad5f8b8985790fe1cdacca27aa8d4212e50c711d62e5556b44457d596c6de"), looks := false }, kinds := [], alts := [], laidByText := true, laidKinds := [.data], laidTests := true, laidLooks := .later }
def JoinActsCardSaid : Prop := Claim7.holds Tryz.pinned (.plain (OpenSpec.ofChange joinActsSpec)) joinActsCard

/-- THE TIED CARD OF 'turnrowlaw16.JoinStays'. -/
def joinStaysCard : Claim7 := { stood := { row := joinStaysRow, standIns := [], harness := (true, "16dad5f8b8985790fe1cdacca27aa8d4212e50c711d62e5556b44457d596c6de"), looks := false }, kinds := [], alts := [], laidByText := true, laidKinds := [.data], laidTests := true, laidLooks := .later }
def JoinStaysCardSaid : Prop := Claim7.holds Tryz.pinned (.plain (OpenSpec.ofChange joinStaysSpec)) joinStaysCard

/-- THE TIED CARD OF 'turnrowlaw16.JoinFrees'. -/
def joinFreesCard : Claim7 := { stood := { row := joinFreesRow, standIns := [], harness := (true, "16dad5f8b8985790fe1cdacca27aa8d4212e50c711d62e5556b44457d596c6de"), looks := false }, kinds := [], alts := [], laidByText := true, laidKinds := [.data], laidTests := true, laidLooks := .later }
def JoinFreesCardSaid : Prop := Claim7.holds Tryz.pinned (.plain (OpenSpec.ofChange joinFreesSpec)) joinFreesCard

/-- THE TIED CARD OF 'turnrowlaw16.JoinGraves'. -/
def joinGravesCard : Claim7 := { stood := { row := joinGravesRow, standIns := [], harness := (true, "16dad5f8b8985790fe1cdacca27aa8d4212e50c711d62e5556b44457d596c6de"), looks := false }, kinds := [], alts := [], laidByText := true, laidKinds := [.data], laidTests := true, laidLooks := .later }
def JoinGravesCardSaid : Prop := Claim7.holds Tryz.pinned (.plain (OpenSpec.ofChange joinGravesSpec)) joinGravesCard

/-- THE TIED CARD OF 'turnrowlaw16.JoinWhole'. -/
def joinWholeCard : Claim7 := { stood := { row := joinWholeRow, standIns := [], harness := (true, "16dad5f8b8985790fe1cdacca27aa8d4212e50c711d62e5556b44457d596c6de"), looks := false }, kinds := [], alts := [], laidByText := true, laidKinds := [.data], laidTests := true, laidLooks := .later }
def JoinWholeCardSaid : Prop := Claim7.holds Tryz.pinned (.plain (OpenSpec.ofChange joinWholeSpec)) joinWholeCard

/-- THE TIED CARD OF 'turnrowlaw16.JoinParts'. -/
def joinPartsCard : Claim7 := { stood := { row := joinPartsRow, standIns := [], harness := (true, "16dad5f8b8985790fe1cdacca27aa8d4212e50c711d62e5556b44457d596c6de"), looks := false }, kinds := [], alts := [], laidByText := true, laidKinds := [.data], laidTests := true, laidLooks := .later }
def JoinPartsCardSaid : Prop := Claim7.holds Tryz.pinned (.plain (OpenSpec.ofChange joinPartsSpec)) joinPartsCard

/-- THE TIED CARD OF 'turnrowlaw16.JoinEmpty'. -/
def joinEmptyCard : Claim7 := { stood := { row := joinEmptyRow, standIns := [], harness := (true, "16dad5f8b8985790fe1cdacca27aa8d4212e50c711d62e5556b44457d596c6de"), looks := false }, kinds := [], alts := [], laidByText := true, laidKinds := [.data], laidTests := true, laidLooks := .later }
def JoinEmptyCardSaid : Prop := Claim7.holds Tryz.pinned (.plain (OpenSpec.ofChange joinEmptySpec)) joinEmptyCard

/-- THE TIED CARD OF 'turnrowlaw17.EvacNone'. -/
def evacNoneCard : Claim7 := { stood := { row := evacNoneRow, standIns := [], harness := (true, "16dad5f8b8985790fe1cdacca27aa8d4212e50c711d62e5556b44457d596c6de"), looks := false }, kinds := [], alts := [], laidByText := true, laidKinds := [.data], laidTests := true, laidLooks := .later }
def EvacNoneCardSaid : Prop := Claim7.holds Tryz.pinned (.plain (OpenSpec.ofChange evacNoneSpec)) evacNoneCard

/-- THE SECOND FORM's CARD OF 'turnrowlaw18.AuditNone'. -/
def auditNoneUptoCard : Claim7 := { stood := { row := auditNoneUptoRow, standIns := [], harness := (true, "16dad5f8b8985790fe1cdacca27aa8d4212e50c711d62e5556b44457d596c6de"), looks := false }, kinds := [], alts := [], laidByText := true, laidKinds := [.data], laidTests := true, laidLooks := .later }
def AuditNoneUptoCardSaid : Prop := Claim7.holds Tryz.pinned (.plain (OpenSpec.upto auditNoneSpec)) auditNoneUptoCard

/-- THE SECOND FORM's CARD OF 'turnrowlaw16.JoinNone'. -/
def joinNoneUptoCard : Claim7 := { stood := { row := joinNoneUptoRow, standIns := [], harness := (true, "16dad5f8b8985790fe1cdacca27aa8d4212e50c711d62e5556b44457d596c6de"), looks := false }, kinds := [], alts := [], laidByText := true, laidKinds := [.data], laidTests := true, laidLooks := .later }
def JoinNoneUptoCardSaid : Prop := Claim7.holds Tryz.pinned (.plain (OpenSpec.upto joinNoneSpec)) joinNoneUptoCard

/-- THE SECOND FORM's CARD OF 'turnrowlaw16.JoinActs'. -/
def joinActsUptoCard : Claim7 := { stood := { row := joinActsUptoRow, standIns := [], harness := (true, "16dad5f8b8985790fe1cdacca27aa8d4212e50c711d62e5556b44457d596c6de"), looks := false }, kinds := [], alts := [], laidByText := true, laidKinds := [.data], laidTests := true, laidLooks := .later }
def JoinActsUptoCardSaid : Prop := Claim7.holds Tryz.pinned (.plain (OpenSpec.upto joinActsSpec)) joinActsUptoCard

/-- THE SECOND FORM's CARD OF 'turnrowlaw16.JoinStays'. -/
def joinStaysUptoCard : Claim7 := { stood := { row := joinStaysUptoRow, standIns := [], harness := (true, "16dad5f8b8985790fe1cdacca27aa8d4212e50c711d62e5556b44457d596c6de"), looks := false }, kinds := [], alts := [], laidByText := true, laidKinds := [.data], laidTests := true, laidLooks := .later }
def JoinStaysUptoCardSaid : Prop := Claim7.holds Tryz.pinned (.plain (OpenSpec.upto joinStaysSpec)) joinStaysUptoCard

/-- THE SECOND FORM's CARD OF 'turnrowlaw16.JoinFrees'. -/
def joinFreesUptoCard : Claim7 := { stood := { row := joinFreesUptoRow, standIns := [], harness := (true, "16dad5f8b8985790fe1cdacca27aa8d4212e50c711d62e5556b44457d596c6de"), looks := false }, kinds := [], alts := [], laidByText := true, laidKinds := [.data], laidTests := true, laidLooks := .later }
def JoinFreesUptoCardSaid : Prop := Claim7.holds Tryz.pinned (.plain (OpenSpec.upto joinFreesSpec)) joinFreesUptoCard

/-- THE SECOND FORM's CARD OF 'turnrowlaw16.JoinGraves'. -/
def joinGravesUptoCard : Claim7 := { stood := { row := joinGravesUptoRow, standIns := [], harness := (true, "16dad5f8b8985790fe1cdacca27aa8d4212e50c711d62e5556b44457d596c6de"), looks := false }, kinds := [], alts := [], laidByText := true, laidKinds := [.data], laidTests := true, laidLooks := .later }
def JoinGravesUptoCardSaid : Prop := Claim7.holds Tryz.pinned (.plain (OpenSpec.upto joinGravesSpec)) joinGravesUptoCard

/-- THE SECOND FORM's CARD OF 'turnrowlaw16.JoinWhole'. -/
def joinWholeUptoCard : Claim7 := { stood := { row := joinWholeUptoRow, standIns := [], harness := (true, "16dad5f8b8985790fe1cdacca27aa8d4212e50c711d62e5556b44457d596c6de"), looks := false }, kinds := [], alts := [], laidByText := true, laidKinds := [.data], laidTests := true, laidLooks := .later }
def JoinWholeUptoCardSaid : Prop := Claim7.holds Tryz.pinned (.plain (OpenSpec.upto joinWholeSpec)) joinWholeUptoCard

/-- THE SECOND FORM's CARD OF 'turnrowlaw16.JoinParts'. -/
def joinPartsUptoCard : Claim7 := { stood := { row := joinPartsUptoRow, standIns := [], harness := (true, "16dad5f8b8985790fe1cdacca27aa8d4212e50c711d62e5556b44457d596c6de"), looks := false }, kinds := [], alts := [], laidByText := true, laidKinds := [.data], laidTests := true, laidLooks := .later }
def JoinPartsUptoCardSaid : Prop := Claim7.holds Tryz.pinned (.plain (OpenSpec.upto joinPartsSpec)) joinPartsUptoCard

/-- THE SECOND FORM's CARD OF 'turnrowlaw16.JoinEmpty'. -/
def joinEmptyUptoCard : Claim7 := { stood := { row := joinEmptyUptoRow, standIns := [], harness := (true, "16dad5f8b8985790fe1cdacca27aa8d4212e50c711d62e5556b44457d596c6de"), looks := false }, kinds := [], alts := [], laidByText := true, laidKinds := [.data], laidTests := true, laidLooks := .later }
def JoinEmptyUptoCardSaid : Prop := Claim7.holds Tryz.pinned (.plain (OpenSpec.upto joinEmptySpec)) joinEmptyUptoCard

/-- THE SECOND FORM's CARD OF 'turnrowlaw17.EvacNone'. -/
def evacNoneUptoCard : Claim7 := { stood := { row := evacNoneUptoRow, standIns := [], harness := (true, "16dad5f8b8985790fe1cdacca27aa8d4212e50c711d62e5556b44457d596c6de"), looks := false }, kinds := [], alts := [], laidByText := true, laidKinds := [.data], laidTests := true, laidLooks := .later }
def EvacNoneUptoCardSaid : Prop := Claim7.holds Tryz.pinned (.plain (OpenSpec.upto evacNoneSpec)) evacNoneUptoCard
end Rows
end Go.Proofs.YtipelpbkeiphmaaGreatDoor
