/-
  NARROWER THAN 'FOR EVERY INPUT', by the rows' own cells (each row's printed sentence says how): CellDrops: laid · CellActs: laid · CellApart: laid · CellPins: laid · CellFresh: laid · CellTargets: laid · CellWhole: laid · CellNews: laid · CellLoses: laid.
  DERIVED. THE GIVEN ROWS OF THIS SEAT. 9 by the template 'for every input the law returns true; each argument reads behind the call as it read before'; 0 by the template 'total and deterministic' (their statements: YtcaaojbnjfdglaaGreatDoorTotals.lean).
  GIVEN WITH THE SEED: the statements are not yours to turn. If you find one false, say at which input.
  Laid BY PROGRAM, IN A SANDBOX (cutbox-rows.mjs): the forced cells as the released guide's own fill.sh prints them over the translation b4cecce81fdc0f13… (all of the seat's roots in one cut). By AI agents, Wed Nov 11 2026. No macro, syntax, notation, axiom, sorry.
-/
import Derived.Test.YtcaaojbnjfdglaaGreatDoorChecked
import GoSem.Claim
import GoSem.ClaimJoined
import GoSem.ClaimMapViews
import Derived.JoinedTies
import Derived.KernelRfl
namespace Go.Proofs.YtcaaojbnjfdglaaGreatDoor
/- THE CELL 'sum', in the pinned program and in every row, IS THE sha256 OF THE DUMP (.gsa) THAT YtcaaojbnjfdglaaGreatDoorProg.lean LOADS. Nothing in Lean hashes anything: it is a label: what it is worth is what the hold of that sum in a sandbox is worth. -/
noncomputable def Tryz.pinned : Pinned := { name := "ytcaaojbnjfdglaagreatdoor", sum := "b4cecce81fdc0f13399bd30551546f13a951d20af22c92d028acd0e436435b7e", checked := Tryz.checked }
namespace Rows
def none {H : Type} : Left H := { results := [], args := [] }

/- WHAT THE LISTED PACKAGE-LEVEL VARIABLES READ AS WHEN THE CALL BEGINS. Each datum BY PROGRAM (the guide's laid-datum.mjs) off the statement by which the dump's own 'gosem.cut.vars' lays the variable. In a bare row this is a premise. The card (YtcaaojbnjfdglaaGreatDoorCards.lean) ties it to the program's text. -/
def laid_math_bits_deBruijn64tab {H : Type} : DataW H := .agg [.lit (.int .u8 0), .lit (.int .u8 1), .lit (.int .u8 56), .lit (.int .u8 2), .lit (.int .u8 57), .lit (.int .u8 49), .lit (.int .u8 28), .lit (.int .u8 3), .lit (.int .u8 61), .lit (.int .u8 58), .lit (.int .u8 42), .lit (.int .u8 50), .lit (.int .u8 38), .lit (.int .u8 29), .lit (.int .u8 17), .lit (.int .u8 4), .lit (.int .u8 62), .lit (.int .u8 47), .lit (.int .u8 59), .lit (.int .u8 36), .lit (.int .u8 45), .lit (.int .u8 43), .lit (.int .u8 51), .lit (.int .u8 22), .lit (.int .u8 53), .lit (.int .u8 39), .lit (.int .u8 33), .lit (.int .u8 30), .lit (.int .u8 24), .lit (.int .u8 18), .lit (.int .u8 12), .lit (.int .u8 5), .lit (.int .u8 63), .lit (.int .u8 55), .lit (.int .u8 48), .lit (.int .u8 27), .lit (.int .u8 60), .lit (.int .u8 41), .lit (.int .u8 37), .lit (.int .u8 16), .lit (.int .u8 46), .lit (.int .u8 35), .lit (.int .u8 44), .lit (.int .u8 21), .lit (.int .u8 52), .lit (.int .u8 32), .lit (.int .u8 23), .lit (.int .u8 11), .lit (.int .u8 54), .lit (.int .u8 26), .lit (.int .u8 40), .lit (.int .u8 15), .lit (.int .u8 34), .lit (.int .u8 20), .lit (.int .u8 31), .lit (.int .u8 10), .lit (.int .u8 25), .lit (.int .u8 14), .lit (.int .u8 19), .lit (.int .u8 9), .lit (.int .u8 13), .lit (.int .u8 8), .lit (.int .u8 7), .lit (.int .u8 6)]

/-- 'turnrowlaw15.CellDrops': WHATEVER THE INPUT: true; the input reads as it did. -/
def cellDropsSpec : ChangeSpec := { name := "cellDrops", fn := fun _ => fun
  | [d1, d2, d3] => { results := [.lit (.bool true)], args := [d1, d2, d3] }
  | _ => none }
def cellDropsRow : OpenClaim := { program := "ytcaaojbnjfdglaagreatdoor", sum := "b4cecce81fdc0f13399bd30551546f13a951d20af22c92d028acd0e436435b7e", func := "turnrow/turnrowlaw15.CellDrops", spec := "cellDrops", inPlace := ["slices.overlaps[int]"], unfollowed := true, recurses := true, named := ["math/bits.deBruijn64tab"], plainKeys := false, apart := false, laid := [("math/bits.deBruijn64tab", laid_math_bits_deBruijn64tab)] }
def CellDropsSaid : Prop := cellDropsRow.holds Tryz.pinned (OpenSpec.ofChange cellDropsSpec)

/-- ITS FALSE NEIGHBOUR: 'it returns false'. Refute it at one input. -/
def cellDropsWrong : ChangeSpec := { name := "cellDrops", fn := fun _ => fun
  | [d1, d2, d3] => { results := [.lit (.bool false)], args := [d1, d2, d3] }
  | _ => none }
def CellDropsWrongFalsely : Prop := cellDropsRow.holds Tryz.pinned (OpenSpec.ofChange cellDropsWrong)

/-- 'turnrowlaw15.CellActs': WHATEVER THE INPUT: true; the input reads as it did. -/
def cellActsSpec : ChangeSpec := { name := "cellActs", fn := fun _ => fun
  | [d1, d2] => { results := [.lit (.bool true)], args := [d1, d2] }
  | _ => none }
def cellActsRow : OpenClaim := { program := "ytcaaojbnjfdglaagreatdoor", sum := "b4cecce81fdc0f13399bd30551546f13a951d20af22c92d028acd0e436435b7e", func := "turnrow/turnrowlaw15.CellActs", spec := "cellActs", inPlace := ["slices.overlaps[int]"], unfollowed := true, recurses := true, named := ["math/bits.deBruijn64tab"], plainKeys := false, apart := false, laid := [("math/bits.deBruijn64tab", laid_math_bits_deBruijn64tab)] }
def CellActsSaid : Prop := cellActsRow.holds Tryz.pinned (OpenSpec.ofChange cellActsSpec)

/-- ITS FALSE NEIGHBOUR: 'it returns false'. Refute it at one input. -/
def cellActsWrong : ChangeSpec := { name := "cellActs", fn := fun _ => fun
  | [d1, d2] => { results := [.lit (.bool false)], args := [d1, d2] }
  | _ => none }
def CellActsWrongFalsely : Prop := cellActsRow.holds Tryz.pinned (OpenSpec.ofChange cellActsWrong)

/-- 'turnrowlaw15.CellApart': WHATEVER THE INPUT: true; the input reads as it did. -/
def cellApartSpec : ChangeSpec := { name := "cellApart", fn := fun _ => fun
  | [d1, d2, d3] => { results := [.lit (.bool true)], args := [d1, d2, d3] }
  | _ => none }
def cellApartRow : OpenClaim := { program := "ytcaaojbnjfdglaagreatdoor", sum := "b4cecce81fdc0f13399bd30551546f13a951d20af22c92d028acd0e436435b7e", func := "turnrow/turnrowlaw15.CellApart", spec := "cellApart", inPlace := ["slices.overlaps[int]"], unfollowed := true, recurses := true, named := ["math/bits.deBruijn64tab"], plainKeys := false, apart := false, laid := [("math/bits.deBruijn64tab", laid_math_bits_deBruijn64tab)] }
def CellApartSaid : Prop := cellApartRow.holds Tryz.pinned (OpenSpec.ofChange cellApartSpec)

/-- ITS FALSE NEIGHBOUR: 'it returns false'. Refute it at one input. -/
def cellApartWrong : ChangeSpec := { name := "cellApart", fn := fun _ => fun
  | [d1, d2, d3] => { results := [.lit (.bool false)], args := [d1, d2, d3] }
  | _ => none }
def CellApartWrongFalsely : Prop := cellApartRow.holds Tryz.pinned (OpenSpec.ofChange cellApartWrong)

/-- 'turnrowlaw15.CellPins': WHATEVER THE INPUT: true; the input reads as it did. -/
def cellPinsSpec : ChangeSpec := { name := "cellPins", fn := fun _ => fun
  | [d1, d2, d3] => { results := [.lit (.bool true)], args := [d1, d2, d3] }
  | _ => none }
def cellPinsRow : OpenClaim := { program := "ytcaaojbnjfdglaagreatdoor", sum := "b4cecce81fdc0f13399bd30551546f13a951d20af22c92d028acd0e436435b7e", func := "turnrow/turnrowlaw15.CellPins", spec := "cellPins", inPlace := ["slices.overlaps[int]"], unfollowed := true, recurses := true, named := ["math/bits.deBruijn64tab"], plainKeys := false, apart := false, laid := [("math/bits.deBruijn64tab", laid_math_bits_deBruijn64tab)] }
def CellPinsSaid : Prop := cellPinsRow.holds Tryz.pinned (OpenSpec.ofChange cellPinsSpec)

/-- ITS FALSE NEIGHBOUR: 'it returns false'. Refute it at one input. -/
def cellPinsWrong : ChangeSpec := { name := "cellPins", fn := fun _ => fun
  | [d1, d2, d3] => { results := [.lit (.bool false)], args := [d1, d2, d3] }
  | _ => none }
def CellPinsWrongFalsely : Prop := cellPinsRow.holds Tryz.pinned (OpenSpec.ofChange cellPinsWrong)

/-- 'turnrowlaw15.CellFresh': WHATEVER THE INPUT: true; the input reads as it did. -/
def cellFreshSpec : ChangeSpec := { name := "cellFresh", fn := fun _ => fun
  | [d1, d2, d3] => { results := [.lit (.bool true)], args := [d1, d2, d3] }
  | _ => none }
def cellFreshRow : OpenClaim := { program := "ytcaaojbnjfdglaagreatdoor", sum := "b4cecce81fdc0f13399bd30551546f13a951d20af22c92d028acd0e436435b7e", func := "turnrow/turnrowlaw15.CellFresh", spec := "cellFresh", inPlace := ["slices.overlaps[int]"], unfollowed := true, recurses := true, named := ["math/bits.deBruijn64tab"], plainKeys := false, apart := false, laid := [("math/bits.deBruijn64tab", laid_math_bits_deBruijn64tab)] }
def CellFreshSaid : Prop := cellFreshRow.holds Tryz.pinned (OpenSpec.ofChange cellFreshSpec)

/-- ITS FALSE NEIGHBOUR: 'it returns false'. Refute it at one input. -/
def cellFreshWrong : ChangeSpec := { name := "cellFresh", fn := fun _ => fun
  | [d1, d2, d3] => { results := [.lit (.bool false)], args := [d1, d2, d3] }
  | _ => none }
def CellFreshWrongFalsely : Prop := cellFreshRow.holds Tryz.pinned (OpenSpec.ofChange cellFreshWrong)

/-- 'turnrowlaw15.CellTargets': WHATEVER THE INPUT: true; the input reads as it did. -/
def cellTargetsSpec : ChangeSpec := { name := "cellTargets", fn := fun _ => fun
  | [d1, d2, d3] => { results := [.lit (.bool true)], args := [d1, d2, d3] }
  | _ => none }
def cellTargetsRow : OpenClaim := { program := "ytcaaojbnjfdglaagreatdoor", sum := "b4cecce81fdc0f13399bd30551546f13a951d20af22c92d028acd0e436435b7e", func := "turnrow/turnrowlaw15.CellTargets", spec := "cellTargets", inPlace := ["slices.overlaps[int]"], unfollowed := true, recurses := true, named := ["math/bits.deBruijn64tab"], plainKeys := false, apart := false, laid := [("math/bits.deBruijn64tab", laid_math_bits_deBruijn64tab)] }
def CellTargetsSaid : Prop := cellTargetsRow.holds Tryz.pinned (OpenSpec.ofChange cellTargetsSpec)

/-- ITS FALSE NEIGHBOUR: 'it returns false'. Refute it at one input. -/
def cellTargetsWrong : ChangeSpec := { name := "cellTargets", fn := fun _ => fun
  | [d1, d2, d3] => { results := [.lit (.bool false)], args := [d1, d2, d3] }
  | _ => none }
def CellTargetsWrongFalsely : Prop := cellTargetsRow.holds Tryz.pinned (OpenSpec.ofChange cellTargetsWrong)

/-- 'turnrowlaw15.CellWhole': WHATEVER THE INPUT: true; the input reads as it did. -/
def cellWholeSpec : ChangeSpec := { name := "cellWhole", fn := fun _ => fun
  | [d1, d2] => { results := [.lit (.bool true)], args := [d1, d2] }
  | _ => none }
def cellWholeRow : OpenClaim := { program := "ytcaaojbnjfdglaagreatdoor", sum := "b4cecce81fdc0f13399bd30551546f13a951d20af22c92d028acd0e436435b7e", func := "turnrow/turnrowlaw15.CellWhole", spec := "cellWhole", inPlace := ["slices.overlaps[int]"], unfollowed := true, recurses := true, named := ["math/bits.deBruijn64tab"], plainKeys := false, apart := false, laid := [("math/bits.deBruijn64tab", laid_math_bits_deBruijn64tab)] }
def CellWholeSaid : Prop := cellWholeRow.holds Tryz.pinned (OpenSpec.ofChange cellWholeSpec)

/-- ITS FALSE NEIGHBOUR: 'it returns false'. Refute it at one input. -/
def cellWholeWrong : ChangeSpec := { name := "cellWhole", fn := fun _ => fun
  | [d1, d2] => { results := [.lit (.bool false)], args := [d1, d2] }
  | _ => none }
def CellWholeWrongFalsely : Prop := cellWholeRow.holds Tryz.pinned (OpenSpec.ofChange cellWholeWrong)

/-- 'turnrowlaw15.CellNews': WHATEVER THE INPUT: true; the input reads as it did. -/
def cellNewsSpec : ChangeSpec := { name := "cellNews", fn := fun _ => fun
  | [d1, d2] => { results := [.lit (.bool true)], args := [d1, d2] }
  | _ => none }
def cellNewsRow : OpenClaim := { program := "ytcaaojbnjfdglaagreatdoor", sum := "b4cecce81fdc0f13399bd30551546f13a951d20af22c92d028acd0e436435b7e", func := "turnrow/turnrowlaw15.CellNews", spec := "cellNews", inPlace := ["slices.overlaps[int]"], unfollowed := true, recurses := true, named := ["math/bits.deBruijn64tab"], plainKeys := false, apart := false, laid := [("math/bits.deBruijn64tab", laid_math_bits_deBruijn64tab)] }
def CellNewsSaid : Prop := cellNewsRow.holds Tryz.pinned (OpenSpec.ofChange cellNewsSpec)

/-- ITS FALSE NEIGHBOUR: 'it returns false'. Refute it at one input. -/
def cellNewsWrong : ChangeSpec := { name := "cellNews", fn := fun _ => fun
  | [d1, d2] => { results := [.lit (.bool false)], args := [d1, d2] }
  | _ => none }
def CellNewsWrongFalsely : Prop := cellNewsRow.holds Tryz.pinned (OpenSpec.ofChange cellNewsWrong)

/-- 'turnrowlaw15.CellLoses': WHATEVER THE INPUT: true; the input reads as it did. -/
def cellLosesSpec : ChangeSpec := { name := "cellLoses", fn := fun _ => fun
  | [d1, d2, d3] => { results := [.lit (.bool true)], args := [d1, d2, d3] }
  | _ => none }
def cellLosesRow : OpenClaim := { program := "ytcaaojbnjfdglaagreatdoor", sum := "b4cecce81fdc0f13399bd30551546f13a951d20af22c92d028acd0e436435b7e", func := "turnrow/turnrowlaw15.CellLoses", spec := "cellLoses", inPlace := ["slices.overlaps[int]"], unfollowed := true, recurses := true, named := ["math/bits.deBruijn64tab"], plainKeys := false, apart := false, laid := [("math/bits.deBruijn64tab", laid_math_bits_deBruijn64tab)] }
def CellLosesSaid : Prop := cellLosesRow.holds Tryz.pinned (OpenSpec.ofChange cellLosesSpec)

/-- ITS FALSE NEIGHBOUR: 'it returns false'. Refute it at one input. -/
def cellLosesWrong : ChangeSpec := { name := "cellLoses", fn := fun _ => fun
  | [d1, d2, d3] => { results := [.lit (.bool false)], args := [d1, d2, d3] }
  | _ => none }
def CellLosesWrongFalsely : Prop := cellLosesRow.holds Tryz.pinned (OpenSpec.ofChange cellLosesWrong)

/- THE SECOND FORM. 'bulk': how many values and letters a reading holds, each counted each time it is reached (what is shared counts as often as it is met; a slice's spare places count too). A statement '..UptoSaid' is the law's where the arguments, and the package variables that the reading takes, are together of bulk at most 1048576: NARROWER than '..Said'. Prove '..Said' where nothing that the law and all that it calls make is longer than what came in: it says more and counts as full. Else prove '..UptoSaid'. A law counts once. -/
mutual
def uptoBulk {H : Type} : DataW H → Nat
  | .lit (.string bytes) => bytes.length + 1
  | .lit _ => 1
  | .nil => 1
  | .ptr d => uptoBulk d + 1
  | .slice elems spare => uptoBulkAll elems + uptoBulkAll spare + 1
  | .agg parts => uptoBulkAll parts + 1
  | .iface _ d => uptoBulk d + 1
  | .map entries => uptoBulkEntries entries + 1
  | .held _ => 1
def uptoBulkAll {H : Type} : List (DataW H) → Nat
  | [] => 0
  | d :: r => uptoBulk d + uptoBulkAll r
def uptoBulkEntries {H : Type} : List (Lit × DataW H) → Nat
  | [] => 0
  | x :: r => uptoBulkEntry x + uptoBulkEntries r
def uptoBulkEntry {H : Type} : Lit × DataW H → Nat
  | (.string bytes, d) => bytes.length + uptoBulk d + 1
  | (_, d) => uptoBulk d + 1
 end
def uptoSmall : (H : Type) → List (DataW H) → Bool := fun _ ds => decide (uptoBulkAll ds ≤ 1048576)
def OpenSpec.upto (s : _root_.Go.ChangeSpec) : _root_.Go.OpenSpec := { _root_.Go.OpenSpec.ofChange s with cond := some uptoSmall }

/-- 'turnrowlaw15.CellDrops', WHERE WHAT IT READS IS OF BULK AT MOST 1048576: true; the input reads as it did. -/
def cellDropsUptoRow : OpenClaim := { program := "ytcaaojbnjfdglaagreatdoor", sum := "b4cecce81fdc0f13399bd30551546f13a951d20af22c92d028acd0e436435b7e", func := "turnrow/turnrowlaw15.CellDrops", spec := "cellDrops", inPlace := ["slices.overlaps[int]"], unfollowed := true, recurses := true, named := ["math/bits.deBruijn64tab"], plainKeys := false, apart := false, laid := [("math/bits.deBruijn64tab", laid_math_bits_deBruijn64tab)], narrowed := true }
def CellDropsUptoSaid : Prop := cellDropsUptoRow.holds Tryz.pinned (OpenSpec.upto cellDropsSpec)

/-- 'turnrowlaw15.CellActs', WHERE WHAT IT READS IS OF BULK AT MOST 1048576: true; the input reads as it did. -/
def cellActsUptoRow : OpenClaim := { program := "ytcaaojbnjfdglaagreatdoor", sum := "b4cecce81fdc0f13399bd30551546f13a951d20af22c92d028acd0e436435b7e", func := "turnrow/turnrowlaw15.CellActs", spec := "cellActs", inPlace := ["slices.overlaps[int]"], unfollowed := true, recurses := true, named := ["math/bits.deBruijn64tab"], plainKeys := false, apart := false, laid := [("math/bits.deBruijn64tab", laid_math_bits_deBruijn64tab)], narrowed := true }
def CellActsUptoSaid : Prop := cellActsUptoRow.holds Tryz.pinned (OpenSpec.upto cellActsSpec)

/-- 'turnrowlaw15.CellApart', WHERE WHAT IT READS IS OF BULK AT MOST 1048576: true; the input reads as it did. -/
def cellApartUptoRow : OpenClaim := { program := "ytcaaojbnjfdglaagreatdoor", sum := "b4cecce81fdc0f13399bd30551546f13a951d20af22c92d028acd0e436435b7e", func := "turnrow/turnrowlaw15.CellApart", spec := "cellApart", inPlace := ["slices.overlaps[int]"], unfollowed := true, recurses := true, named := ["math/bits.deBruijn64tab"], plainKeys := false, apart := false, laid := [("math/bits.deBruijn64tab", laid_math_bits_deBruijn64tab)], narrowed := true }
def CellApartUptoSaid : Prop := cellApartUptoRow.holds Tryz.pinned (OpenSpec.upto cellApartSpec)

/-- 'turnrowlaw15.CellPins', WHERE WHAT IT READS IS OF BULK AT MOST 1048576: true; the input reads as it did. -/
def cellPinsUptoRow : OpenClaim := { program := "ytcaaojbnjfdglaagreatdoor", sum := "b4cecce81fdc0f13399bd30551546f13a951d20af22c92d028acd0e436435b7e", func := "turnrow/turnrowlaw15.CellPins", spec := "cellPins", inPlace := ["slices.overlaps[int]"], unfollowed := true, recurses := true, named := ["math/bits.deBruijn64tab"], plainKeys := false, apart := false, laid := [("math/bits.deBruijn64tab", laid_math_bits_deBruijn64tab)], narrowed := true }
def CellPinsUptoSaid : Prop := cellPinsUptoRow.holds Tryz.pinned (OpenSpec.upto cellPinsSpec)

/-- 'turnrowlaw15.CellFresh', WHERE WHAT IT READS IS OF BULK AT MOST 1048576: true; the input reads as it did. -/
def cellFreshUptoRow : OpenClaim := { program := "ytcaaojbnjfdglaagreatdoor", sum := "b4cecce81fdc0f13399bd30551546f13a951d20af22c92d028acd0e436435b7e", func := "turnrow/turnrowlaw15.CellFresh", spec := "cellFresh", inPlace := ["slices.overlaps[int]"], unfollowed := true, recurses := true, named := ["math/bits.deBruijn64tab"], plainKeys := false, apart := false, laid := [("math/bits.deBruijn64tab", laid_math_bits_deBruijn64tab)], narrowed := true }
def CellFreshUptoSaid : Prop := cellFreshUptoRow.holds Tryz.pinned (OpenSpec.upto cellFreshSpec)

/-- 'turnrowlaw15.CellTargets', WHERE WHAT IT READS IS OF BULK AT MOST 1048576: true; the input reads as it did. -/
def cellTargetsUptoRow : OpenClaim := { program := "ytcaaojbnjfdglaagreatdoor", sum := "b4cecce81fdc0f13399bd30551546f13a951d20af22c92d028acd0e436435b7e", func := "turnrow/turnrowlaw15.CellTargets", spec := "cellTargets", inPlace := ["slices.overlaps[int]"], unfollowed := true, recurses := true, named := ["math/bits.deBruijn64tab"], plainKeys := false, apart := false, laid := [("math/bits.deBruijn64tab", laid_math_bits_deBruijn64tab)], narrowed := true }
def CellTargetsUptoSaid : Prop := cellTargetsUptoRow.holds Tryz.pinned (OpenSpec.upto cellTargetsSpec)

/-- 'turnrowlaw15.CellWhole', WHERE WHAT IT READS IS OF BULK AT MOST 1048576: true; the input reads as it did. -/
def cellWholeUptoRow : OpenClaim := { program := "ytcaaojbnjfdglaagreatdoor", sum := "b4cecce81fdc0f13399bd30551546f13a951d20af22c92d028acd0e436435b7e", func := "turnrow/turnrowlaw15.CellWhole", spec := "cellWhole", inPlace := ["slices.overlaps[int]"], unfollowed := true, recurses := true, named := ["math/bits.deBruijn64tab"], plainKeys := false, apart := false, laid := [("math/bits.deBruijn64tab", laid_math_bits_deBruijn64tab)], narrowed := true }
def CellWholeUptoSaid : Prop := cellWholeUptoRow.holds Tryz.pinned (OpenSpec.upto cellWholeSpec)

/-- 'turnrowlaw15.CellNews', WHERE WHAT IT READS IS OF BULK AT MOST 1048576: true; the input reads as it did. -/
def cellNewsUptoRow : OpenClaim := { program := "ytcaaojbnjfdglaagreatdoor", sum := "b4cecce81fdc0f13399bd30551546f13a951d20af22c92d028acd0e436435b7e", func := "turnrow/turnrowlaw15.CellNews", spec := "cellNews", inPlace := ["slices.overlaps[int]"], unfollowed := true, recurses := true, named := ["math/bits.deBruijn64tab"], plainKeys := false, apart := false, laid := [("math/bits.deBruijn64tab", laid_math_bits_deBruijn64tab)], narrowed := true }
def CellNewsUptoSaid : Prop := cellNewsUptoRow.holds Tryz.pinned (OpenSpec.upto cellNewsSpec)

/-- 'turnrowlaw15.CellLoses', WHERE WHAT IT READS IS OF BULK AT MOST 1048576: true; the input reads as it did. -/
def cellLosesUptoRow : OpenClaim := { program := "ytcaaojbnjfdglaagreatdoor", sum := "b4cecce81fdc0f13399bd30551546f13a951d20af22c92d028acd0e436435b7e", func := "turnrow/turnrowlaw15.CellLoses", spec := "cellLoses", inPlace := ["slices.overlaps[int]"], unfollowed := true, recurses := true, named := ["math/bits.deBruijn64tab"], plainKeys := false, apart := false, laid := [("math/bits.deBruijn64tab", laid_math_bits_deBruijn64tab)], narrowed := true }
def CellLosesUptoSaid : Prop := cellLosesUptoRow.holds Tryz.pinned (OpenSpec.upto cellLosesSpec)

end Rows
end Go.Proofs.YtcaaojbnjfdglaaGreatDoor
