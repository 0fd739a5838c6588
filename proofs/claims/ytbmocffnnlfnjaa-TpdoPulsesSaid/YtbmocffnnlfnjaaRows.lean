/-
  No cell of these rows narrows 'for every input' (looked for: loops, veiled, ifaces, maps, wideKeys, modest, calm, conditions, laid).
  DERIVED. THE GIVEN ROWS OF THIS SEAT. 3 by the template 'for every input the law returns true; each argument reads behind the call as it read before'; 0 by the template 'total and deterministic' (their statements: YtbmocffnnlfnjaaTotals.lean).
  GIVEN WITH THE SEED: the statements are not yours to turn. If you find one false, say at which input.
  Laid BY PROGRAM, IN A SANDBOX (cutbox-rows.mjs): the forced cells as the released guide's own fill.sh prints them over the translation 9587cb1cc62eeb60… (all of the seat's roots in one cut). By AI agents, Wed Nov 11 2026. No macro, syntax, notation, axiom, sorry.
-/
import Derived.Test.YtbmocffnnlfnjaaChecked
import GoSem.Claim
import GoSem.ClaimJoined
import GoSem.ClaimMapViews
import Derived.JoinedTies
import Derived.KernelRfl
namespace Go.Proofs.Ytbmocffnnlfnjaa
/- THE CELL 'sum', in the pinned program and in every row, IS THE sha256 OF THE DUMP (.gsa) THAT YtbmocffnnlfnjaaProg.lean LOADS. Nothing in Lean hashes anything: it is a label: what it is worth is what the hold of that sum in a sandbox is worth. -/
noncomputable def Try.pinned : Pinned := { name := "ytbmocffnnlfnjaa", sum := "9587cb1cc62eeb6065687134a139755a4c5053d6da43535fe40b8be302b5a512", checked := Try.checked }
namespace Rows
def none {H : Type} : Left H := { results := [], args := [] }

/-- 'wheelhouselaw32.TpdoPulses': WHATEVER THE INPUT: true; the input reads as it did. -/
def tpdoPulsesSpec : ChangeSpec := { name := "tpdoPulses", fn := fun _ => fun
  | [d1, d2] => { results := [.lit (.bool true)], args := [d1, d2] }
  | _ => none }
def tpdoPulsesRow : OpenClaim := { program := "ytbmocffnnlfnjaa", sum := "9587cb1cc62eeb6065687134a139755a4c5053d6da43535fe40b8be302b5a512", func := "wheelhouse/wheelhouselaw32.TpdoPulses", spec := "tpdoPulses", unfollowed := true, recurses := true, apart := false }
def TpdoPulsesSaid : Prop := tpdoPulsesRow.holds Try.pinned (OpenSpec.ofChange tpdoPulsesSpec)

/-- ITS FALSE NEIGHBOUR: 'it returns false'. Refute it at one input. -/
def tpdoPulsesWrong : ChangeSpec := { name := "tpdoPulses", fn := fun _ => fun
  | [d1, d2] => { results := [.lit (.bool false)], args := [d1, d2] }
  | _ => none }
def TpdoPulsesWrongFalsely : Prop := tpdoPulsesRow.holds Try.pinned (OpenSpec.ofChange tpdoPulsesWrong)

/-- 'wheelhouselaw32.TpdoNil': WHATEVER THE INPUT: true; the input reads as it did. -/
def tpdoNilSpec : ChangeSpec := { name := "tpdoNil", fn := fun _ => fun
  | [d] => { results := [.lit (.bool true)], args := [d] }
  | _ => none }
def tpdoNilRow : OpenClaim := { program := "ytbmocffnnlfnjaa", sum := "9587cb1cc62eeb6065687134a139755a4c5053d6da43535fe40b8be302b5a512", func := "wheelhouse/wheelhouselaw32.TpdoNil", spec := "tpdoNil", unfollowed := true, recurses := true, apart := false }
def TpdoNilSaid : Prop := tpdoNilRow.holds Try.pinned (OpenSpec.ofChange tpdoNilSpec)

/-- ITS FALSE NEIGHBOUR: 'it returns false'. Refute it at one input. -/
def tpdoNilWrong : ChangeSpec := { name := "tpdoNil", fn := fun _ => fun
  | [d] => { results := [.lit (.bool false)], args := [d] }
  | _ => none }
def TpdoNilWrongFalsely : Prop := tpdoNilRow.holds Try.pinned (OpenSpec.ofChange tpdoNilWrong)

/-- 'wheelhouselaw32.TpdoHolds': WHATEVER THE INPUT: true; the input reads as it did. -/
def tpdoHoldsSpec : ChangeSpec := { name := "tpdoHolds", fn := fun _ => fun
  | [d] => { results := [.lit (.bool true)], args := [d] }
  | _ => none }
def tpdoHoldsRow : OpenClaim := { program := "ytbmocffnnlfnjaa", sum := "9587cb1cc62eeb6065687134a139755a4c5053d6da43535fe40b8be302b5a512", func := "wheelhouse/wheelhouselaw32.TpdoHolds", spec := "tpdoHolds", unfollowed := true, recurses := true, apart := false }
def TpdoHoldsSaid : Prop := tpdoHoldsRow.holds Try.pinned (OpenSpec.ofChange tpdoHoldsSpec)

/-- ITS FALSE NEIGHBOUR: 'it returns false'. Refute it at one input. -/
def tpdoHoldsWrong : ChangeSpec := { name := "tpdoHolds", fn := fun _ => fun
  | [d] => { results := [.lit (.bool false)], args := [d] }
  | _ => none }
def TpdoHoldsWrongFalsely : Prop := tpdoHoldsRow.holds Try.pinned (OpenSpec.ofChange tpdoHoldsWrong)

/- THE SECOND FORM. 'bulk': how many values and letters a reading holds, each counted each time it is reached (what is shared counts as often as it is met; a slice's spare places count too). A statement '..UptoSaid' is the law's where the arguments, and the package variables that the reading takes, are together of bulk at most 1048576: NARROWER than '..Said'. Prove '..Said' where nothing that the law and all that it calls make is longer than what came in: it says more and counts as full. Else prove '..UptoSaid'. A law counts once. -/
mutual
def uptoBulk {H : Type} : DataW H → Nat
  | .lit (.string bytes) => bytes.length + 1
  | .lit _ => 1
  | .nil => 1
  | .ptr d => uptoBulk d + 1
  | .slice elems spare => uptoBulkAll elems + uptoBulkAll spare + 1
  | .agg parts => uptoBulkAll parts + 1
  | .iface _ d => uptoBulk d + 1
  | .map entries => uptoBulkEntries entries + 1
  | .held _ => 1
def uptoBulkAll {H : Type} : List (DataW H) → Nat
  | [] => 0
  | d :: r => uptoBulk d + uptoBulkAll r
def uptoBulkEntries {H : Type} : List (Lit × DataW H) → Nat
  | [] => 0
  | x :: r => uptoBulkEntry x + uptoBulkEntries r
def uptoBulkEntry {H : Type} : Lit × DataW H → Nat
  | (.string bytes, d) => bytes.length + uptoBulk d + 1
  | (_, d) => uptoBulk d + 1
 end
def uptoSmall : (H : Type) → List (DataW H) → Bool := fun _ ds => decide (uptoBulkAll ds ≤ 1048576)
def OpenSpec.upto (s : _root_.Go.ChangeSpec) : _root_.Go.OpenSpec := { _root_.Go.OpenSpec.ofChange s with cond := some uptoSmall }

/-- 'wheelhouselaw32.TpdoPulses', WHERE WHAT IT READS IS OF BULK AT MOST 1048576: true; the input reads as it did. -/
def tpdoPulsesUptoRow : OpenClaim := { program := "ytbmocffnnlfnjaa", sum := "9587cb1cc62eeb6065687134a139755a4c5053d6da43535fe40b8be302b5a512", func := "wheelhouse/wheelhouselaw32.TpdoPulses", spec := "tpdoPulses", unfollowed := true, recurses := true, apart := false, narrowed := true }
def TpdoPulsesUptoSaid : Prop := tpdoPulsesUptoRow.holds Try.pinned (OpenSpec.upto tpdoPulsesSpec)

/-- 'wheelhouselaw32.TpdoNil', WHERE WHAT IT READS IS OF BULK AT MOST 1048576: true; the input reads as it did. -/
def tpdoNilUptoRow : OpenClaim := { program := "ytbmocffnnlfnjaa", sum := "9587cb1cc62eeb6065687134a139755a4c5053d6da43535fe40b8be302b5a512", func := "wheelhouse/wheelhouselaw32.TpdoNil", spec := "tpdoNil", unfollowed := true, recurses := true, apart := false, narrowed := true }
def TpdoNilUptoSaid : Prop := tpdoNilUptoRow.holds Try.pinned (OpenSpec.upto tpdoNilSpec)

/-- 'wheelhouselaw32.TpdoHolds', WHERE WHAT IT READS IS OF BULK AT MOST 1048576: true; the input reads as it did. -/
def tpdoHoldsUptoRow : OpenClaim := { program := "ytbmocffnnlfnjaa", sum := "9587cb1cc62eeb6065687134a139755a4c5053d6da43535fe40b8be302b5a512", func := "wheelhouse/wheelhouselaw32.TpdoHolds", spec := "tpdoHolds", unfollowed := true, recurses := true, apart := false, narrowed := true }
def TpdoHoldsUptoSaid : Prop := tpdoHoldsUptoRow.holds Try.pinned (OpenSpec.upto tpdoHoldsSpec)

end Rows
end Go.Proofs.Ytbmocffnnlfnjaa
