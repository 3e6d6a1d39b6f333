/-
  No cell of these rows narrows 'for every input' (looked for: loops, veiled, ifaces, maps, wideKeys, modest, calm, conditions, laid).
  DERIVED. THE GIVEN ROWS OF THIS SEAT. 5 by the template 'for every input the law returns true; each argument reads behind the call as it read before'; 0 by the template 'total and deterministic' (their statements: YtdpephigccnkdaaTotals.lean).
  GIVEN WITH THE SEED: the statements are not yours to turn. If you find one false, say at which input.
  Laid BY PROGRAM, IN A SANDBOX (cutbox-rows.mjs): the forced cells as the released guide's own fill.sh prints them over the translation c35df9c9094efe96… (all of the seat's roots in one cut). By AI agents, Wed Nov 11 2026. No macro, syntax, notation, axiom, sorry.
-/
import Derived.Test.YtdpephigccnkdaaChecked
import GoSem.Claim
import GoSem.ClaimJoined
import GoSem.ClaimMapViews
import Derived.JoinedTies
import Derived.KernelRfl
namespace Go.Proofs.Ytdpephigccnkdaa
/- THE CELL 'sum', in the pinned program and in every row, IS THE sha256 OF THE DUMP (.gsa) THAT YtdpephigccnkdaaProg.lean LOADS. Nothing in Lean hashes anything: it is a label: what it is worth is what the hold of that sum in a sandbox is worth. -/
noncomputable def Try.pinned : Pinned := { name := "ytdpephigccnkdaa", sum := "c35df9c9094efe969c8c75c7fd239f1efcbda65e217936abeab64d78ca624f87", checked := Try.checked }
namespace Rows
def none {H : Type} : Left H := { results := [], args := [] }

/-- 'turnrowlaw11.RemsetActs': WHATEVER THE INPUT: true; the input reads as it did. -/
def remsetActsSpec : ChangeSpec := { name := "remsetActs", fn := fun _ => fun
  | [d1, d2, d3] => { results := [.lit (.bool true)], args := [d1, d2, d3] }
  | _ => none }
def remsetActsRow : OpenClaim := { program := "ytdpephigccnkdaa", sum := "c35df9c9094efe969c8c75c7fd239f1efcbda65e217936abeab64d78ca624f87", func := "turnrow/turnrowlaw11.RemsetActs", spec := "remsetActs", unfollowed := true, recurses := true, plainKeys := false, apart := false }
def RemsetActsSaid : Prop := remsetActsRow.holds Try.pinned (OpenSpec.ofChange remsetActsSpec)

/-- ITS FALSE NEIGHBOUR: 'it returns false'. Refute it at one input. -/
def remsetActsWrong : ChangeSpec := { name := "remsetActs", fn := fun _ => fun
  | [d1, d2, d3] => { results := [.lit (.bool false)], args := [d1, d2, d3] }
  | _ => none }
def RemsetActsWrongFalsely : Prop := remsetActsRow.holds Try.pinned (OpenSpec.ofChange remsetActsWrong)

/-- 'turnrowlaw11.RemsetTwice': WHATEVER THE INPUT: true; the input reads as it did. -/
def remsetTwiceSpec : ChangeSpec := { name := "remsetTwice", fn := fun _ => fun
  | [d] => { results := [.lit (.bool true)], args := [d] }
  | _ => none }
def remsetTwiceRow : OpenClaim := { program := "ytdpephigccnkdaa", sum := "c35df9c9094efe969c8c75c7fd239f1efcbda65e217936abeab64d78ca624f87", func := "turnrow/turnrowlaw11.RemsetTwice", spec := "remsetTwice", unfollowed := true, recurses := true, plainKeys := false, apart := false }
def RemsetTwiceSaid : Prop := remsetTwiceRow.holds Try.pinned (OpenSpec.ofChange remsetTwiceSpec)

/-- ITS FALSE NEIGHBOUR: 'it returns false'. Refute it at one input. -/
def remsetTwiceWrong : ChangeSpec := { name := "remsetTwice", fn := fun _ => fun
  | [d] => { results := [.lit (.bool false)], args := [d] }
  | _ => none }
def RemsetTwiceWrongFalsely : Prop := remsetTwiceRow.holds Try.pinned (OpenSpec.ofChange remsetTwiceWrong)

/-- 'turnrowlaw11.RemsetMoves': WHATEVER THE INPUT: true; the input reads as it did. -/
def remsetMovesSpec : ChangeSpec := { name := "remsetMoves", fn := fun _ => fun
  | [d1, d2, d3] => { results := [.lit (.bool true)], args := [d1, d2, d3] }
  | _ => none }
def remsetMovesRow : OpenClaim := { program := "ytdpephigccnkdaa", sum := "c35df9c9094efe969c8c75c7fd239f1efcbda65e217936abeab64d78ca624f87", func := "turnrow/turnrowlaw11.RemsetMoves", spec := "remsetMoves", unfollowed := true, recurses := true, plainKeys := false, apart := false }
def RemsetMovesSaid : Prop := remsetMovesRow.holds Try.pinned (OpenSpec.ofChange remsetMovesSpec)

/-- ITS FALSE NEIGHBOUR: 'it returns false'. Refute it at one input. -/
def remsetMovesWrong : ChangeSpec := { name := "remsetMoves", fn := fun _ => fun
  | [d1, d2, d3] => { results := [.lit (.bool false)], args := [d1, d2, d3] }
  | _ => none }
def RemsetMovesWrongFalsely : Prop := remsetMovesRow.holds Try.pinned (OpenSpec.ofChange remsetMovesWrong)

/-- 'turnrowlaw11.RemsetOrder': WHATEVER THE INPUT: true; the input reads as it did. -/
def remsetOrderSpec : ChangeSpec := { name := "remsetOrder", fn := fun _ => fun
  | [d] => { results := [.lit (.bool true)], args := [d] }
  | _ => none }
def remsetOrderRow : OpenClaim := { program := "ytdpephigccnkdaa", sum := "c35df9c9094efe969c8c75c7fd239f1efcbda65e217936abeab64d78ca624f87", func := "turnrow/turnrowlaw11.RemsetOrder", spec := "remsetOrder", unfollowed := true, recurses := true, plainKeys := false, apart := false }
def RemsetOrderSaid : Prop := remsetOrderRow.holds Try.pinned (OpenSpec.ofChange remsetOrderSpec)

/-- ITS FALSE NEIGHBOUR: 'it returns false'. Refute it at one input. -/
def remsetOrderWrong : ChangeSpec := { name := "remsetOrder", fn := fun _ => fun
  | [d] => { results := [.lit (.bool false)], args := [d] }
  | _ => none }
def RemsetOrderWrongFalsely : Prop := remsetOrderRow.holds Try.pinned (OpenSpec.ofChange remsetOrderWrong)

/-- 'turnrowlaw11.RemsetForgets': WHATEVER THE INPUT: true; the input reads as it did. -/
def remsetForgetsSpec : ChangeSpec := { name := "remsetForgets", fn := fun _ => fun
  | [d1, d2] => { results := [.lit (.bool true)], args := [d1, d2] }
  | _ => none }
def remsetForgetsRow : OpenClaim := { program := "ytdpephigccnkdaa", sum := "c35df9c9094efe969c8c75c7fd239f1efcbda65e217936abeab64d78ca624f87", func := "turnrow/turnrowlaw11.RemsetForgets", spec := "remsetForgets", unfollowed := true, recurses := true, plainKeys := false, apart := false }
def RemsetForgetsSaid : Prop := remsetForgetsRow.holds Try.pinned (OpenSpec.ofChange remsetForgetsSpec)

/-- ITS FALSE NEIGHBOUR: 'it returns false'. Refute it at one input. -/
def remsetForgetsWrong : ChangeSpec := { name := "remsetForgets", fn := fun _ => fun
  | [d1, d2] => { results := [.lit (.bool false)], args := [d1, d2] }
  | _ => none }
def RemsetForgetsWrongFalsely : Prop := remsetForgetsRow.holds Try.pinned (OpenSpec.ofChange remsetForgetsWrong)

/- THE SECOND FORM. 'bulk': how many values and letters a reading holds, each counted each time it is reached (what is shared counts as often as it is met; a slice's spare places count too). A statement '..UptoSaid' is the law's where the arguments, and the package variables that the reading takes, are together of bulk at most 1048576: NARROWER than '..Said'. Prove '..Said' where nothing that the law and all that it calls make is longer than what came in: it says more and counts as full. Else prove '..UptoSaid'. A law counts once. -/
mutual
def uptoBulk {H : Type} : DataW H → Nat
  | .lit (.string bytes) => bytes.length + 1
  | .lit _ => 1
  | .nil => 1
  | .ptr d => uptoBulk d + 1
  | .slice elems spare => uptoBulkAll elems + uptoBulkAll spare + 1
  | .agg parts => uptoBulkAll parts + 1
  | .iface _ d => uptoBulk d + 1
  | .map entries => uptoBulkEntries entries + 1
  | .held _ => 1
def uptoBulkAll {H : Type} : List (DataW H) → Nat
  | [] => 0
  | d :: r => uptoBulk d + uptoBulkAll r
def uptoBulkEntries {H : Type} : List (Lit × DataW H) → Nat
  | [] => 0
  | x :: r => uptoBulkEntry x + uptoBulkEntries r
def uptoBulkEntry {H : Type} : Lit × DataW H → Nat
  | (.string bytes, d) => bytes.length + uptoBulk d + 1
  | (_, d) => uptoBulk d + 1
 end
def uptoSmall : (H : Type) → List (DataW H) → Bool := fun _ ds => decide (uptoBulkAll ds ≤ 1048576)
def OpenSpec.upto (s : _root_.Go.ChangeSpec) : _root_.Go.OpenSpec := { _root_.Go.OpenSpec.ofChange s with cond := some uptoSmall }

/-- 'turnrowlaw11.RemsetActs', WHERE WHAT IT READS IS OF BULK AT MOST 1048576: true; the input reads as it did. -/
def remsetActsUptoRow : OpenClaim := { program := "ytdpephigccnkdaa", sum := "c35df9c9094efe969c8c75c7fd239f1efcbda65e217936abeab64d78ca624f87", func := "turnrow/turnrowlaw11.RemsetActs", spec := "remsetActs", unfollowed := true, recurses := true, plainKeys := false, apart := false, narrowed := true }
def RemsetActsUptoSaid : Prop := remsetActsUptoRow.holds Try.pinned (OpenSpec.upto remsetActsSpec)

/-- 'turnrowlaw11.RemsetTwice', WHERE WHAT IT READS IS OF BULK AT MOST 1048576: true; the input reads as it did. -/
def remsetTwiceUptoRow : OpenClaim := { program := "ytdpephigccnkdaa", sum := "c35df9c9094efe969c8c75c7fd239f1efcbda65e217936abeab64d78ca624f87", func := "turnrow/turnrowlaw11.RemsetTwice", spec := "remsetTwice", unfollowed := true, recurses := true, plainKeys := false, apart := false, narrowed := true }
def RemsetTwiceUptoSaid : Prop := remsetTwiceUptoRow.holds Try.pinned (OpenSpec.upto remsetTwiceSpec)

/-- 'turnrowlaw11.RemsetMoves', WHERE WHAT IT READS IS OF BULK AT MOST 1048576: true; the input reads as it did. -/
def remsetMovesUptoRow : OpenClaim := { program := "ytdpephigccnkdaa", sum := "c35df9c9094efe969c8c75c7fd239f1efcbda65e217936abeab64d78ca624f87", func := "turnrow/turnrowlaw11.RemsetMoves", spec := "remsetMoves", unfollowed := true, recurses := true, plainKeys := false, apart := false, narrowed := true }
def RemsetMovesUptoSaid : Prop := remsetMovesUptoRow.holds Try.pinned (OpenSpec.upto remsetMovesSpec)

/-- 'turnrowlaw11.RemsetOrder', WHERE WHAT IT READS IS OF BULK AT MOST 1048576: true; the input reads as it did. -/
def remsetOrderUptoRow : OpenClaim := { program := "ytdpephigccnkdaa", sum := "c35df9c9094efe969c8c75c7fd239f1efcbda65e217936abeab64d78ca624f87", func := "turnrow/turnrowlaw11.RemsetOrder", spec := "remsetOrder", unfollowed := true, recurses := true, plainKeys := false, apart := false, narrowed := true }
def RemsetOrderUptoSaid : Prop := remsetOrderUptoRow.holds Try.pinned (OpenSpec.upto remsetOrderSpec)

/-- 'turnrowlaw11.RemsetForgets', WHERE WHAT IT READS IS OF BULK AT MOST 1048576: true; the input reads as it did. -/
def remsetForgetsUptoRow : OpenClaim := { program := "ytdpephigccnkdaa", sum := "c35df9c9094efe969c8c75c7fd239f1efcbda65e217936abeab64d78ca624f87", func := "turnrow/turnrowlaw11.RemsetForgets", spec := "remsetForgets", unfollowed := true, recurses := true, plainKeys := false, apart := false, narrowed := true }
def RemsetForgetsUptoSaid : Prop := remsetForgetsUptoRow.holds Try.pinned (OpenSpec.upto remsetForgetsSpec)

end Rows
end Go.Proofs.Ytdpephigccnkdaa
