/-
  DERIVED. GIVEN WITH THE SEED: THE CARDS: each row of YtdpephigccnkdaaDoorRows.lean that lists a variable, with what it lists TIED to the program's text (the seventh form; the later family's looks); each row that meets fmt, with fmt's text TOLD by the authors' own Lean function (tested against real Go, not proved from fmt's source: count such statements apart). THE CARD IS WHAT COUNTS. Prove the row's statement (the work); the ties are given (YtdpephigccnkdaaDoorTie.lean); close each card by the builder's one call (the guide's Derived/Test/ToyasCard.lean, 'card_holds'). Laid BY PROGRAM, IN A SANDBOX (cutbox-door.mjs). By AI agents, Wed Nov 11 2026. No macro, syntax, notation, axiom, sorry.
-/
import Derived.Test.YtdpephigccnkdaaDoorRows
import GoSem.ClaimSeven
namespace Go.Proofs.YtdpephigccnkdaaDoor
namespace Rows

/-- THE TIED CARD OF 'turnrowlaw06.TokenTexts'. -/
def tokenTextsCard : Claim7 := { stood := { row := tokenTextsRow, standIns := [], harness := (true, "42c835c4369b13df39f835b9cefe80b31bdbdb162be9b2424f4ae3fe7c250136"), looks := false }, kinds := [], alts := [], laidByText := true, laidKinds := [.data, .data, .data], laidTests := true, laidLooks := .later }
def TokenTextsCardSaid : Prop := Claim7.holds Tryd.pinned (.plain (OpenSpec.ofChange tokenTextsSpec)) tokenTextsCard

/-- THE TIED CARD OF 'turnrowlaw06.TokenBack'. -/
def tokenBackCard : Claim7 := { stood := { row := tokenBackRow, standIns := [], harness := (true, "42c835c4369b13df39f835b9cefe80b31bdbdb162be9b2424f4ae3fe7c250136"), looks := false }, kinds := [], alts := [], laidByText := true, laidKinds := [.data, .data, .data], laidTests := true, laidLooks := .later }
def TokenBackCardSaid : Prop := Claim7.holds Tryd.pinned (.plain (OpenSpec.ofChange tokenBackSpec)) tokenBackCard

/-- THE TIED CARD OF 'turnrowlaw06.TokenOrders'. -/
def tokenOrdersCard : Claim7 := { stood := { row := tokenOrdersRow, standIns := [], harness := (true, "42c835c4369b13df39f835b9cefe80b31bdbdb162be9b2424f4ae3fe7c250136"), looks := false }, kinds := [], alts := [], laidByText := true, laidKinds := [.data, .data, .data], laidTests := true, laidLooks := .later }
def TokenOrdersCardSaid : Prop := Claim7.holds Tryd.pinned (.plain (OpenSpec.ofChange tokenOrdersSpec)) tokenOrdersCard

/-- THE TIED CARD OF 'turnrowlaw06.TokenSorts'. -/
def tokenSortsCard : Claim7 := { stood := { row := tokenSortsRow, standIns := [], harness := (true, "42c835c4369b13df39f835b9cefe80b31bdbdb162be9b2424f4ae3fe7c250136"), looks := false }, kinds := [], alts := [], laidByText := true, laidKinds := [.data, .data, .data], laidTests := true, laidLooks := .later }
def TokenSortsCardSaid : Prop := Claim7.holds Tryd.pinned (.plain (OpenSpec.ofChange tokenSortsSpec)) tokenSortsCard

/-- THE TIED CARD OF 'turnrowlaw06.TokenSet'. -/
def tokenSetCard : Claim7 := { stood := { row := tokenSetRow, standIns := [], harness := (true, "42c835c4369b13df39f835b9cefe80b31bdbdb162be9b2424f4ae3fe7c250136"), looks := false }, kinds := [], alts := [], laidByText := true, laidKinds := [.data, .data, .data], laidTests := true, laidLooks := .later }
def TokenSetCardSaid : Prop := Claim7.holds Tryd.pinned (.plain (OpenSpec.ofChange tokenSetSpec)) tokenSetCard

/-- THE SECOND FORM's CARD OF 'turnrowlaw06.TokenTexts'. -/
def tokenTextsUptoCard : Claim7 := { stood := { row := tokenTextsUptoRow, standIns := [], harness := (true, "42c835c4369b13df39f835b9cefe80b31bdbdb162be9b2424f4ae3fe7c250136"), looks := false }, kinds := [], alts := [], laidByText := true, laidKinds := [.data, .data, .data], laidTests := true, laidLooks := .later }
def TokenTextsUptoCardSaid : Prop := Claim7.holds Tryd.pinned (.plain (OpenSpec.upto tokenTextsSpec)) tokenTextsUptoCard

/-- THE SECOND FORM's CARD OF 'turnrowlaw06.TokenBack'. -/
def tokenBackUptoCard : Claim7 := { stood := { row := tokenBackUptoRow, standIns := [], harness := (true, "42c835c4369b13df39f835b9cefe80b31bdbdb162be9b2424f4ae3fe7c250136"), looks := false }, kinds := [], alts := [], laidByText := true, laidKinds := [.data, .data, .data], laidTests := true, laidLooks := .later }
def TokenBackUptoCardSaid : Prop := Claim7.holds Tryd.pinned (.plain (OpenSpec.upto tokenBackSpec)) tokenBackUptoCard

/-- THE SECOND FORM's CARD OF 'turnrowlaw06.TokenOrders'. -/
def tokenOrdersUptoCard : Claim7 := { stood := { row := tokenOrdersUptoRow, standIns := [], harness := (true, "42c835c4369b13df39f835b9cefe80b31bdbdb162be9b2424f4ae3fe7c250136"), looks := false }, kinds := [], alts := [], laidByText := true, laidKinds := [.data, .data, .data], laidTests := true, laidLooks := .later }
def TokenOrdersUptoCardSaid : Prop := Claim7.holds Tryd.pinned (.plain (OpenSpec.upto tokenOrdersSpec)) tokenOrdersUptoCard

/-- THE SECOND FORM's CARD OF 'turnrowlaw06.TokenSorts'. -/
def tokenSortsUptoCard : Claim7 := { stood := { row := tokenSortsUptoRow, standIns := [], harness := (true, "42c835c4369b13df39f835b9cefe80b31bdbdb162be9b2424f4ae3fe7c250136"), looks := false }, kinds := [], alts := [], laidByText := true, laidKinds := [.data, .data, .data], laidTests := true, laidLooks := .later }
def TokenSortsUptoCardSaid : Prop := Claim7.holds Tryd.pinned (.plain (OpenSpec.upto tokenSortsSpec)) tokenSortsUptoCard

/-- THE SECOND FORM's CARD OF 'turnrowlaw06.TokenSet'. -/
def tokenSetUptoCard : Claim7 := { stood := { row := tokenSetUptoRow, standIns := [], harness := (true, "42c835c4369b13df39f835b9cefe80b31bdbdb162be9b2424f4ae3fe7c250136"), looks := false }, kinds := [], alts := [], laidByText := true, laidKinds := [.data, .data, .data], laidTests := true, laidLooks := .later }
def TokenSetUptoCardSaid : Prop := Claim7.holds Tryd.pinned (.plain (OpenSpec.upto tokenSetSpec)) tokenSetUptoCard
end Rows
end Go.Proofs.YtdpephigccnkdaaDoor
