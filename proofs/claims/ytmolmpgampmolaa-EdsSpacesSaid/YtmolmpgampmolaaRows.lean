/-
  No cell of these rows narrows 'for every input' (looked for: loops, veiled, ifaces, maps, wideKeys, modest, calm, conditions, laid).
  DERIVED. THE GIVEN ROWS OF THIS SEAT. 4 by the template 'for every input the law returns true; each argument reads behind the call as it read before'; 0 by the template 'total and deterministic' (their statements: YtmolmpgampmolaaTotals.lean).
  GIVEN WITH THE SEED: the statements are not yours to turn. If you find one false, say at which input.
  Laid BY PROGRAM, IN A SANDBOX (cutbox-rows.mjs): the forced cells as the released guide's own fill.sh prints them over the translation e0b5a216f0437bc0… (all of the seat's roots in one cut). By AI agents, Wed Nov 11 2026. No macro, syntax, notation, axiom, sorry.
-/
import Derived.Test.YtmolmpgampmolaaChecked
import GoSem.Claim
import GoSem.ClaimJoined
import GoSem.ClaimMapViews
import Derived.JoinedTies
import Derived.KernelRfl
namespace Go.Proofs.Ytmolmpgampmolaa
/- THE CELL 'sum', in the pinned program and in every row, IS THE sha256 OF THE DUMP (.gsa) THAT YtmolmpgampmolaaProg.lean LOADS. Nothing in Lean hashes anything: it is a label: what it is worth is what the hold of that sum in a sandbox is worth. -/
noncomputable def Try.pinned : Pinned := { name := "ytmolmpgampmolaa", sum := "e0b5a216f0437bc00eee4aa0e58bc895c5d1dff9517a9db59b35fbb42e8accdb", checked := Try.checked }
namespace Rows
def none {H : Type} : Left H := { results := [], args := [] }

/-- 'wheelhouselaw17.EdsSpaces': WHATEVER THE INPUT: true; the input reads as it did. -/
def edsSpacesSpec : ChangeSpec := { name := "edsSpaces", fn := fun _ => fun
  | [d] => { results := [.lit (.bool true)], args := [d] }
  | _ => none }
def edsSpacesRow : OpenClaim := { program := "ytmolmpgampmolaa", sum := "e0b5a216f0437bc00eee4aa0e58bc895c5d1dff9517a9db59b35fbb42e8accdb", func := "wheelhouse/wheelhouselaw17.EdsSpaces", spec := "edsSpaces", unfollowed := true, recurses := true, apart := false }
def EdsSpacesSaid : Prop := edsSpacesRow.holds Try.pinned (OpenSpec.ofChange edsSpacesSpec)

/-- ITS FALSE NEIGHBOUR: 'it returns false'. Refute it at one input. -/
def edsSpacesWrong : ChangeSpec := { name := "edsSpaces", fn := fun _ => fun
  | [d] => { results := [.lit (.bool false)], args := [d] }
  | _ => none }
def EdsSpacesWrongFalsely : Prop := edsSpacesRow.holds Try.pinned (OpenSpec.ofChange edsSpacesWrong)

/-- 'wheelhouselaw17.EdsLines': WHATEVER THE INPUT: true; the input reads as it did. -/
def edsLinesSpec : ChangeSpec := { name := "edsLines", fn := fun _ => fun
  | [d] => { results := [.lit (.bool true)], args := [d] }
  | _ => none }
def edsLinesRow : OpenClaim := { program := "ytmolmpgampmolaa", sum := "e0b5a216f0437bc00eee4aa0e58bc895c5d1dff9517a9db59b35fbb42e8accdb", func := "wheelhouse/wheelhouselaw17.EdsLines", spec := "edsLines", unfollowed := true, recurses := true, apart := false }
def EdsLinesSaid : Prop := edsLinesRow.holds Try.pinned (OpenSpec.ofChange edsLinesSpec)

/-- ITS FALSE NEIGHBOUR: 'it returns false'. Refute it at one input. -/
def edsLinesWrong : ChangeSpec := { name := "edsLines", fn := fun _ => fun
  | [d] => { results := [.lit (.bool false)], args := [d] }
  | _ => none }
def EdsLinesWrongFalsely : Prop := edsLinesRow.holds Try.pinned (OpenSpec.ofChange edsLinesWrong)

/-- 'wheelhouselaw17.EdsBack': WHATEVER THE INPUT: true; the input reads as it did. -/
def edsBackSpec : ChangeSpec := { name := "edsBack", fn := fun _ => fun
  | [d] => { results := [.lit (.bool true)], args := [d] }
  | _ => none }
def edsBackRow : OpenClaim := { program := "ytmolmpgampmolaa", sum := "e0b5a216f0437bc00eee4aa0e58bc895c5d1dff9517a9db59b35fbb42e8accdb", func := "wheelhouse/wheelhouselaw17.EdsBack", spec := "edsBack", unfollowed := true, recurses := true, apart := false }
def EdsBackSaid : Prop := edsBackRow.holds Try.pinned (OpenSpec.ofChange edsBackSpec)

/-- ITS FALSE NEIGHBOUR: 'it returns false'. Refute it at one input. -/
def edsBackWrong : ChangeSpec := { name := "edsBack", fn := fun _ => fun
  | [d] => { results := [.lit (.bool false)], args := [d] }
  | _ => none }
def EdsBackWrongFalsely : Prop := edsBackRow.holds Try.pinned (OpenSpec.ofChange edsBackWrong)

/-- 'wheelhouselaw17.EdsTables': WHATEVER THE INPUT: true; the input reads as it did. -/
def edsTablesSpec : ChangeSpec := { name := "edsTables", fn := fun _ => fun
  | [d] => { results := [.lit (.bool true)], args := [d] }
  | _ => none }
def edsTablesRow : OpenClaim := { program := "ytmolmpgampmolaa", sum := "e0b5a216f0437bc00eee4aa0e58bc895c5d1dff9517a9db59b35fbb42e8accdb", func := "wheelhouse/wheelhouselaw17.EdsTables", spec := "edsTables", unfollowed := true, recurses := true, apart := false }
def EdsTablesSaid : Prop := edsTablesRow.holds Try.pinned (OpenSpec.ofChange edsTablesSpec)

/-- ITS FALSE NEIGHBOUR: 'it returns false'. Refute it at one input. -/
def edsTablesWrong : ChangeSpec := { name := "edsTables", fn := fun _ => fun
  | [d] => { results := [.lit (.bool false)], args := [d] }
  | _ => none }
def EdsTablesWrongFalsely : Prop := edsTablesRow.holds Try.pinned (OpenSpec.ofChange edsTablesWrong)

/- THE SECOND FORM. 'bulk': how many values and letters a reading holds, each counted each time it is reached (what is shared counts as often as it is met; a slice's spare places count too). A statement '..UptoSaid' is the law's where the arguments, and the package variables that the reading takes, are together of bulk at most 1048576: NARROWER than '..Said'. Prove '..Said' where nothing that the law and all that it calls make is longer than what came in: it says more and counts as full. Else prove '..UptoSaid'. A law counts once. -/
mutual
def uptoBulk {H : Type} : DataW H → Nat
  | .lit (.string bytes) => bytes.length + 1
  | .lit _ => 1
  | .nil => 1
  | .ptr d => uptoBulk d + 1
  | .slice elems spare => uptoBulkAll elems + uptoBulkAll spare + 1
  | .agg parts => uptoBulkAll parts + 1
  | .iface _ d => uptoBulk d + 1
  | .map entries => uptoBulkEntries entries + 1
  | .held _ => 1
def uptoBulkAll {H : Type} : List (DataW H) → Nat
  | [] => 0
  | d :: r => uptoBulk d + uptoBulkAll r
def uptoBulkEntries {H : Type} : List (Lit × DataW H) → Nat
  | [] => 0
  | x :: r => uptoBulkEntry x + uptoBulkEntries r
def uptoBulkEntry {H : Type} : Lit × DataW H → Nat
  | (.string bytes, d) => bytes.length + uptoBulk d + 1
  | (_, d) => uptoBulk d + 1
 end
def uptoSmall : (H : Type) → List (DataW H) → Bool := fun _ ds => decide (uptoBulkAll ds ≤ 1048576)
def OpenSpec.upto (s : _root_.Go.ChangeSpec) : _root_.Go.OpenSpec := { _root_.Go.OpenSpec.ofChange s with cond := some uptoSmall }

/-- 'wheelhouselaw17.EdsSpaces', WHERE WHAT IT READS IS OF BULK AT MOST 1048576: true; the input reads as it did. -/
def edsSpacesUptoRow : OpenClaim := { program := "ytmolmpgampmolaa", sum := "e0b5a216f0437bc00eee4aa0e58bc895c5d1dff9517a9db59b35fbb42e8accdb", func := "wheelhouse/wheelhouselaw17.EdsSpaces", spec := "edsSpaces", unfollowed := true, recurses := true, apart := false, narrowed := true }
def EdsSpacesUptoSaid : Prop := edsSpacesUptoRow.holds Try.pinned (OpenSpec.upto edsSpacesSpec)

/-- 'wheelhouselaw17.EdsLines', WHERE WHAT IT READS IS OF BULK AT MOST 1048576: true; the input reads as it did. -/
def edsLinesUptoRow : OpenClaim := { program := "ytmolmpgampmolaa", sum := "e0b5a216f0437bc00eee4aa0e58bc895c5d1dff9517a9db59b35fbb42e8accdb", func := "wheelhouse/wheelhouselaw17.EdsLines", spec := "edsLines", unfollowed := true, recurses := true, apart := false, narrowed := true }
def EdsLinesUptoSaid : Prop := edsLinesUptoRow.holds Try.pinned (OpenSpec.upto edsLinesSpec)

/-- 'wheelhouselaw17.EdsBack', WHERE WHAT IT READS IS OF BULK AT MOST 1048576: true; the input reads as it did. -/
def edsBackUptoRow : OpenClaim := { program := "ytmolmpgampmolaa", sum := "e0b5a216f0437bc00eee4aa0e58bc895c5d1dff9517a9db59b35fbb42e8accdb", func := "wheelhouse/wheelhouselaw17.EdsBack", spec := "edsBack", unfollowed := true, recurses := true, apart := false, narrowed := true }
def EdsBackUptoSaid : Prop := edsBackUptoRow.holds Try.pinned (OpenSpec.upto edsBackSpec)

/-- 'wheelhouselaw17.EdsTables', WHERE WHAT IT READS IS OF BULK AT MOST 1048576: true; the input reads as it did. -/
def edsTablesUptoRow : OpenClaim := { program := "ytmolmpgampmolaa", sum := "e0b5a216f0437bc00eee4aa0e58bc895c5d1dff9517a9db59b35fbb42e8accdb", func := "wheelhouse/wheelhouselaw17.EdsTables", spec := "edsTables", unfollowed := true, recurses := true, apart := false, narrowed := true }
def EdsTablesUptoSaid : Prop := edsTablesUptoRow.holds Try.pinned (OpenSpec.upto edsTablesSpec)

end Rows
end Go.Proofs.Ytmolmpgampmolaa
