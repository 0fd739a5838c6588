/-
  No cell of these rows narrows 'for every input' (looked for: loops, veiled, ifaces, maps, wideKeys, modest, calm, conditions, laid).
  DERIVED. THE GIVEN ROWS OF THIS SEAT. 3 by the template 'for every input the law returns true; each argument reads behind the call as it read before'; 0 by the template 'total and deterministic' (their statements: YtoplpmfdgaabfaaTotals.lean).
  GIVEN WITH THE SEED: the statements are not yours to turn. If you find one false, say at which input.
  Laid BY PROGRAM, IN A SANDBOX (cutbox-rows.mjs): the forced cells as the released guide's own fill.sh prints them over the translation b06ae436a8d9936e… (all of the seat's roots in one cut). By AI agents, Wed Nov 11 2026. No macro, syntax, notation, axiom, sorry.
-/
import Derived.Test.YtoplpmfdgaabfaaChecked
import GoSem.Claim
import GoSem.ClaimJoined
import GoSem.ClaimMapViews
import Derived.JoinedTies
import Derived.KernelRfl
namespace Go.Proofs.Ytoplpmfdgaabfaa
/- THE CELL 'sum', in the pinned program and in every row, IS THE sha256 OF THE DUMP (.gsa) THAT YtoplpmfdgaabfaaProg.lean LOADS. Nothing in Lean hashes anything: it is a label: what it is worth is what the hold of that sum in a sandbox is worth. -/
noncomputable def Try.pinned : Pinned := { name := "ytoplpmfdgaabfaa", sum := "b06ae436a8d9936e2ddb51677204c5b470ad061c3a9dffa9b4dc70fb20693ead", checked := Try.checked }
namespace Rows
def none {H : Type} : Left H := { results := [], args := [] }

/-- 'wheelhouselaw30.MappingWords': WHATEVER THE INPUT: true; the input reads as it did. -/
def mappingWordsSpec : ChangeSpec := { name := "mappingWords", fn := fun _ => fun
  | [d1, d2] => { results := [.lit (.bool true)], args := [d1, d2] }
  | _ => none }
def mappingWordsRow : OpenClaim := { program := "ytoplpmfdgaabfaa", sum := "b06ae436a8d9936e2ddb51677204c5b470ad061c3a9dffa9b4dc70fb20693ead", func := "wheelhouse/wheelhouselaw30.MappingWords", spec := "mappingWords", unfollowed := true, recurses := true, apart := false }
def MappingWordsSaid : Prop := mappingWordsRow.holds Try.pinned (OpenSpec.ofChange mappingWordsSpec)

/-- ITS FALSE NEIGHBOUR: 'it returns false'. Refute it at one input. -/
def mappingWordsWrong : ChangeSpec := { name := "mappingWords", fn := fun _ => fun
  | [d1, d2] => { results := [.lit (.bool false)], args := [d1, d2] }
  | _ => none }
def MappingWordsWrongFalsely : Prop := mappingWordsRow.holds Try.pinned (OpenSpec.ofChange mappingWordsWrong)

/-- 'wheelhouselaw30.MappingChecks': WHATEVER THE INPUT: true; the input reads as it did. -/
def mappingChecksSpec : ChangeSpec := { name := "mappingChecks", fn := fun _ => fun
  | [d] => { results := [.lit (.bool true)], args := [d] }
  | _ => none }
def mappingChecksRow : OpenClaim := { program := "ytoplpmfdgaabfaa", sum := "b06ae436a8d9936e2ddb51677204c5b470ad061c3a9dffa9b4dc70fb20693ead", func := "wheelhouse/wheelhouselaw30.MappingChecks", spec := "mappingChecks", unfollowed := true, recurses := true, apart := false }
def MappingChecksSaid : Prop := mappingChecksRow.holds Try.pinned (OpenSpec.ofChange mappingChecksSpec)

/-- ITS FALSE NEIGHBOUR: 'it returns false'. Refute it at one input. -/
def mappingChecksWrong : ChangeSpec := { name := "mappingChecks", fn := fun _ => fun
  | [d] => { results := [.lit (.bool false)], args := [d] }
  | _ => none }
def MappingChecksWrongFalsely : Prop := mappingChecksRow.holds Try.pinned (OpenSpec.ofChange mappingChecksWrong)

/-- 'wheelhouselaw30.MappingBack': WHATEVER THE INPUT: true; the input reads as it did. -/
def mappingBackSpec : ChangeSpec := { name := "mappingBack", fn := fun _ => fun
  | [d] => { results := [.lit (.bool true)], args := [d] }
  | _ => none }
def mappingBackRow : OpenClaim := { program := "ytoplpmfdgaabfaa", sum := "b06ae436a8d9936e2ddb51677204c5b470ad061c3a9dffa9b4dc70fb20693ead", func := "wheelhouse/wheelhouselaw30.MappingBack", spec := "mappingBack", unfollowed := true, recurses := true, apart := false }
def MappingBackSaid : Prop := mappingBackRow.holds Try.pinned (OpenSpec.ofChange mappingBackSpec)

/-- ITS FALSE NEIGHBOUR: 'it returns false'. Refute it at one input. -/
def mappingBackWrong : ChangeSpec := { name := "mappingBack", fn := fun _ => fun
  | [d] => { results := [.lit (.bool false)], args := [d] }
  | _ => none }
def MappingBackWrongFalsely : Prop := mappingBackRow.holds Try.pinned (OpenSpec.ofChange mappingBackWrong)

/- THE SECOND FORM. 'bulk': how many values and letters a reading holds, each counted each time it is reached (what is shared counts as often as it is met; a slice's spare places count too). A statement '..UptoSaid' is the law's where the arguments, and the package variables that the reading takes, are together of bulk at most 1048576: NARROWER than '..Said'. Prove '..Said' where nothing that the law and all that it calls make is longer than what came in: it says more and counts as full. Else prove '..UptoSaid'. A law counts once. -/
mutual
def uptoBulk {H : Type} : DataW H → Nat
  | .lit (.string bytes) => bytes.length + 1
  | .lit _ => 1
  | .nil => 1
  | .ptr d => uptoBulk d + 1
  | .slice elems spare => uptoBulkAll elems + uptoBulkAll spare + 1
  | .agg parts => uptoBulkAll parts + 1
  | .iface _ d => uptoBulk d + 1
  | .map entries => uptoBulkEntries entries + 1
  | .held _ => 1
def uptoBulkAll {H : Type} : List (DataW H) → Nat
  | [] => 0
  | d :: r => uptoBulk d + uptoBulkAll r
def uptoBulkEntries {H : Type} : List (Lit × DataW H) → Nat
  | [] => 0
  | x :: r => uptoBulkEntry x + uptoBulkEntries r
def uptoBulkEntry {H : Type} : Lit × DataW H → Nat
  | (.string bytes, d) => bytes.length + uptoBulk d + 1
  | (_, d) => uptoBulk d + 1
 end
def uptoSmall : (H : Type) → List (DataW H) → Bool := fun _ ds => decide (uptoBulkAll ds ≤ 1048576)
def OpenSpec.upto (s : _root_.Go.ChangeSpec) : _root_.Go.OpenSpec := { _root_.Go.OpenSpec.ofChange s with cond := some uptoSmall }

/-- 'wheelhouselaw30.MappingWords', WHERE WHAT IT READS IS OF BULK AT MOST 1048576: true; the input reads as it did. -/
def mappingWordsUptoRow : OpenClaim := { program := "ytoplpmfdgaabfaa", sum := "b06ae436a8d9936e2ddb51677204c5b470ad061c3a9dffa9b4dc70fb20693ead", func := "wheelhouse/wheelhouselaw30.MappingWords", spec := "mappingWords", unfollowed := true, recurses := true, apart := false, narrowed := true }
def MappingWordsUptoSaid : Prop := mappingWordsUptoRow.holds Try.pinned (OpenSpec.upto mappingWordsSpec)

/-- 'wheelhouselaw30.MappingChecks', WHERE WHAT IT READS IS OF BULK AT MOST 1048576: true; the input reads as it did. -/
def mappingChecksUptoRow : OpenClaim := { program := "ytoplpmfdgaabfaa", sum := "b06ae436a8d9936e2ddb51677204c5b470ad061c3a9dffa9b4dc70fb20693ead", func := "wheelhouse/wheelhouselaw30.MappingChecks", spec := "mappingChecks", unfollowed := true, recurses := true, apart := false, narrowed := true }
def MappingChecksUptoSaid : Prop := mappingChecksUptoRow.holds Try.pinned (OpenSpec.upto mappingChecksSpec)

/-- 'wheelhouselaw30.MappingBack', WHERE WHAT IT READS IS OF BULK AT MOST 1048576: true; the input reads as it did. -/
def mappingBackUptoRow : OpenClaim := { program := "ytoplpmfdgaabfaa", sum := "b06ae436a8d9936e2ddb51677204c5b470ad061c3a9dffa9b4dc70fb20693ead", func := "wheelhouse/wheelhouselaw30.MappingBack", spec := "mappingBack", unfollowed := true, recurses := true, apart := false, narrowed := true }
def MappingBackUptoSaid : Prop := mappingBackUptoRow.holds Try.pinned (OpenSpec.upto mappingBackSpec)

end Rows
end Go.Proofs.Ytoplpmfdgaabfaa
