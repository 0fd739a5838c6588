/-
  No cell of these rows narrows 'for every input' (looked for: loops, veiled, ifaces, maps, wideKeys, modest, calm, conditions, laid).
  DERIVED. THE GIVEN ROWS OF THIS SEAT. 5 by the template 'for every input the law returns true; each argument reads behind the call as it read before'; 0 by the template 'total and deterministic' (their statements: YthfhhkjnmpiieaaTotals.lean).
  GIVEN WITH THE SEED: the statements are not yours to turn. If you find one false, say at which input.
  Laid BY PROGRAM, IN A SANDBOX (cutbox-rows.mjs): the forced cells as the released guide's own fill.sh prints them over the translation d64df4a531ac0a77… (all of the seat's roots in one cut). By AI agents, Wed Nov 11 2026. No macro, syntax, notation, axiom, sorry.
-/
import Derived.Test.YthfhhkjnmpiieaaChecked
import GoSem.Claim
import GoSem.ClaimJoined
import GoSem.ClaimMapViews
import Derived.JoinedTies
import Derived.KernelRfl
namespace Go.Proofs.Ythfhhkjnmpiieaa
/- THE CELL 'sum', in the pinned program and in every row, IS THE sha256 OF THE DUMP (.gsa) THAT YthfhhkjnmpiieaaProg.lean LOADS. Nothing in Lean hashes anything: it is a label: what it is worth is what the hold of that sum in a sandbox is worth. -/
noncomputable def Try.pinned : Pinned := { name := "ythfhhkjnmpiieaa", sum := "d64df4a531ac0a7791536daf161fc0a4d0db1038c2d7bd72b4e2dbce445116f0", checked := Try.checked }
namespace Rows
def none {H : Type} : Left H := { results := [], args := [] }

/-- 'wheelhouselaw10.FrameTexts': WHATEVER THE INPUT: true; the input reads as it did. -/
def frameTextsSpec : ChangeSpec := { name := "frameTexts", fn := fun _ => fun
  | [d1, d2] => { results := [.lit (.bool true)], args := [d1, d2] }
  | _ => none }
def frameTextsRow : OpenClaim := { program := "ythfhhkjnmpiieaa", sum := "d64df4a531ac0a7791536daf161fc0a4d0db1038c2d7bd72b4e2dbce445116f0", func := "wheelhouse/wheelhouselaw10.FrameTexts", spec := "frameTexts", apart := false }
def FrameTextsSaid : Prop := frameTextsRow.holds Try.pinned (OpenSpec.ofChange frameTextsSpec)

/-- ITS FALSE NEIGHBOUR: 'it returns false'. Refute it at one input. -/
def frameTextsWrong : ChangeSpec := { name := "frameTexts", fn := fun _ => fun
  | [d1, d2] => { results := [.lit (.bool false)], args := [d1, d2] }
  | _ => none }
def FrameTextsWrongFalsely : Prop := frameTextsRow.holds Try.pinned (OpenSpec.ofChange frameTextsWrong)

/-- 'wheelhouselaw10.FrameOrder': WHATEVER THE INPUT: true; the input reads as it did. -/
def frameOrderSpec : ChangeSpec := { name := "frameOrder", fn := fun _ => fun
  | [d1, d2, d3] => { results := [.lit (.bool true)], args := [d1, d2, d3] }
  | _ => none }
def frameOrderRow : OpenClaim := { program := "ythfhhkjnmpiieaa", sum := "d64df4a531ac0a7791536daf161fc0a4d0db1038c2d7bd72b4e2dbce445116f0", func := "wheelhouse/wheelhouselaw10.FrameOrder", spec := "frameOrder", apart := false }
def FrameOrderSaid : Prop := frameOrderRow.holds Try.pinned (OpenSpec.ofChange frameOrderSpec)

/-- ITS FALSE NEIGHBOUR: 'it returns false'. Refute it at one input. -/
def frameOrderWrong : ChangeSpec := { name := "frameOrder", fn := fun _ => fun
  | [d1, d2, d3] => { results := [.lit (.bool false)], args := [d1, d2, d3] }
  | _ => none }
def FrameOrderWrongFalsely : Prop := frameOrderRow.holds Try.pinned (OpenSpec.ofChange frameOrderWrong)

/-- 'wheelhouselaw10.FrameChecks': WHATEVER THE INPUT: true; the input reads as it did. -/
def frameChecksSpec : ChangeSpec := { name := "frameChecks", fn := fun _ => fun
  | [d1, d2] => { results := [.lit (.bool true)], args := [d1, d2] }
  | _ => none }
def frameChecksRow : OpenClaim := { program := "ythfhhkjnmpiieaa", sum := "d64df4a531ac0a7791536daf161fc0a4d0db1038c2d7bd72b4e2dbce445116f0", func := "wheelhouse/wheelhouselaw10.FrameChecks", spec := "frameChecks", apart := false }
def FrameChecksSaid : Prop := frameChecksRow.holds Try.pinned (OpenSpec.ofChange frameChecksSpec)

/-- ITS FALSE NEIGHBOUR: 'it returns false'. Refute it at one input. -/
def frameChecksWrong : ChangeSpec := { name := "frameChecks", fn := fun _ => fun
  | [d1, d2] => { results := [.lit (.bool false)], args := [d1, d2] }
  | _ => none }
def FrameChecksWrongFalsely : Prop := frameChecksRow.holds Try.pinned (OpenSpec.ofChange frameChecksWrong)

/-- 'wheelhouselaw10.FrameLines': WHATEVER THE INPUT: true; the input reads as it did. -/
def frameLinesSpec : ChangeSpec := { name := "frameLines", fn := fun _ => fun
  | [d1, d2] => { results := [.lit (.bool true)], args := [d1, d2] }
  | _ => none }
def frameLinesRow : OpenClaim := { program := "ythfhhkjnmpiieaa", sum := "d64df4a531ac0a7791536daf161fc0a4d0db1038c2d7bd72b4e2dbce445116f0", func := "wheelhouse/wheelhouselaw10.FrameLines", spec := "frameLines", apart := false }
def FrameLinesSaid : Prop := frameLinesRow.holds Try.pinned (OpenSpec.ofChange frameLinesSpec)

/-- ITS FALSE NEIGHBOUR: 'it returns false'. Refute it at one input. -/
def frameLinesWrong : ChangeSpec := { name := "frameLines", fn := fun _ => fun
  | [d1, d2] => { results := [.lit (.bool false)], args := [d1, d2] }
  | _ => none }
def FrameLinesWrongFalsely : Prop := frameLinesRow.holds Try.pinned (OpenSpec.ofChange frameLinesWrong)

/-- 'wheelhouselaw10.FrameBack': WHATEVER THE INPUT: true; the input reads as it did. -/
def frameBackSpec : ChangeSpec := { name := "frameBack", fn := fun _ => fun
  | [d1, d2] => { results := [.lit (.bool true)], args := [d1, d2] }
  | _ => none }
def frameBackRow : OpenClaim := { program := "ythfhhkjnmpiieaa", sum := "d64df4a531ac0a7791536daf161fc0a4d0db1038c2d7bd72b4e2dbce445116f0", func := "wheelhouse/wheelhouselaw10.FrameBack", spec := "frameBack", apart := false }
def FrameBackSaid : Prop := frameBackRow.holds Try.pinned (OpenSpec.ofChange frameBackSpec)

/-- ITS FALSE NEIGHBOUR: 'it returns false'. Refute it at one input. -/
def frameBackWrong : ChangeSpec := { name := "frameBack", fn := fun _ => fun
  | [d1, d2] => { results := [.lit (.bool false)], args := [d1, d2] }
  | _ => none }
def FrameBackWrongFalsely : Prop := frameBackRow.holds Try.pinned (OpenSpec.ofChange frameBackWrong)

/- THE SECOND FORM. 'bulk': how many values and letters a reading holds, each counted each time it is reached (what is shared counts as often as it is met; a slice's spare places count too). A statement '..UptoSaid' is the law's where the arguments, and the package variables that the reading takes, are together of bulk at most 1048576: NARROWER than '..Said'. Prove '..Said' where nothing that the law and all that it calls make is longer than what came in: it says more and counts as full. Else prove '..UptoSaid'. A law counts once. -/
mutual
def uptoBulk {H : Type} : DataW H → Nat
  | .lit (.string bytes) => bytes.length + 1
  | .lit _ => 1
  | .nil => 1
  | .ptr d => uptoBulk d + 1
  | .slice elems spare => uptoBulkAll elems + uptoBulkAll spare + 1
  | .agg parts => uptoBulkAll parts + 1
  | .iface _ d => uptoBulk d + 1
  | .map entries => uptoBulkEntries entries + 1
  | .held _ => 1
def uptoBulkAll {H : Type} : List (DataW H) → Nat
  | [] => 0
  | d :: r => uptoBulk d + uptoBulkAll r
def uptoBulkEntries {H : Type} : List (Lit × DataW H) → Nat
  | [] => 0
  | x :: r => uptoBulkEntry x + uptoBulkEntries r
def uptoBulkEntry {H : Type} : Lit × DataW H → Nat
  | (.string bytes, d) => bytes.length + uptoBulk d + 1
  | (_, d) => uptoBulk d + 1
 end
def uptoSmall : (H : Type) → List (DataW H) → Bool := fun _ ds => decide (uptoBulkAll ds ≤ 1048576)
def OpenSpec.upto (s : _root_.Go.ChangeSpec) : _root_.Go.OpenSpec := { _root_.Go.OpenSpec.ofChange s with cond := some uptoSmall }

/-- 'wheelhouselaw10.FrameTexts', WHERE WHAT IT READS IS OF BULK AT MOST 1048576: true; the input reads as it did. -/
def frameTextsUptoRow : OpenClaim := { program := "ythfhhkjnmpiieaa", sum := "d64df4a531ac0a7791536daf161fc0a4d0db1038c2d7bd72b4e2dbce445116f0", func := "wheelhouse/wheelhouselaw10.FrameTexts", spec := "frameTexts", apart := false, narrowed := true }
def FrameTextsUptoSaid : Prop := frameTextsUptoRow.holds Try.pinned (OpenSpec.upto frameTextsSpec)

/-- 'wheelhouselaw10.FrameOrder', WHERE WHAT IT READS IS OF BULK AT MOST 1048576: true; the input reads as it did. -/
def frameOrderUptoRow : OpenClaim := { program := "ythfhhkjnmpiieaa", sum := "d64df4a531ac0a7791536daf161fc0a4d0db1038c2d7bd72b4e2dbce445116f0", func := "wheelhouse/wheelhouselaw10.FrameOrder", spec := "frameOrder", apart := false, narrowed := true }
def FrameOrderUptoSaid : Prop := frameOrderUptoRow.holds Try.pinned (OpenSpec.upto frameOrderSpec)

/-- 'wheelhouselaw10.FrameChecks', WHERE WHAT IT READS IS OF BULK AT MOST 1048576: true; the input reads as it did. -/
def frameChecksUptoRow : OpenClaim := { program := "ythfhhkjnmpiieaa", sum := "d64df4a531ac0a7791536daf161fc0a4d0db1038c2d7bd72b4e2dbce445116f0", func := "wheelhouse/wheelhouselaw10.FrameChecks", spec := "frameChecks", apart := false, narrowed := true }
def FrameChecksUptoSaid : Prop := frameChecksUptoRow.holds Try.pinned (OpenSpec.upto frameChecksSpec)

/-- 'wheelhouselaw10.FrameLines', WHERE WHAT IT READS IS OF BULK AT MOST 1048576: true; the input reads as it did. -/
def frameLinesUptoRow : OpenClaim := { program := "ythfhhkjnmpiieaa", sum := "d64df4a531ac0a7791536daf161fc0a4d0db1038c2d7bd72b4e2dbce445116f0", func := "wheelhouse/wheelhouselaw10.FrameLines", spec := "frameLines", apart := false, narrowed := true }
def FrameLinesUptoSaid : Prop := frameLinesUptoRow.holds Try.pinned (OpenSpec.upto frameLinesSpec)

/-- 'wheelhouselaw10.FrameBack', WHERE WHAT IT READS IS OF BULK AT MOST 1048576: true; the input reads as it did. -/
def frameBackUptoRow : OpenClaim := { program := "ythfhhkjnmpiieaa", sum := "d64df4a531ac0a7791536daf161fc0a4d0db1038c2d7bd72b4e2dbce445116f0", func := "wheelhouse/wheelhouselaw10.FrameBack", spec := "frameBack", apart := false, narrowed := true }
def FrameBackUptoSaid : Prop := frameBackUptoRow.holds Try.pinned (OpenSpec.upto frameBackSpec)

end Rows
end Go.Proofs.Ythfhhkjnmpiieaa
