/-
  No cell of these rows narrows 'for every input' (looked for: loops, veiled, ifaces, maps, wideKeys, modest, calm, conditions, laid).
  DERIVED. THE GIVEN ROWS OF THIS SEAT. 6 by the template 'for every input the law returns true; each argument reads behind the call as it read before'; 0 by the template 'total and deterministic' (their statements: YtfmfcgpofkccgaaTotals.lean).
  GIVEN WITH THE SEED: the statements are not yours to turn. If you find one false, say at which input.
  Laid BY PROGRAM, IN A SANDBOX (cutbox-rows.mjs): the forced cells as the released guide's own fill.sh prints them over the translation ade2095f61bfe67a… (all of the seat's roots in one cut). By AI agents, Wed Nov 11 2026. No macro, syntax, notation, axiom, sorry.
-/
import Derived.Test.YtfmfcgpofkccgaaChecked
import GoSem.Claim
import GoSem.ClaimJoined
import GoSem.ClaimMapViews
import Derived.JoinedTies
import Derived.KernelRfl
namespace Go.Proofs.Ytfmfcgpofkccgaa
/- THE CELL 'sum', in the pinned program and in every row, IS THE sha256 OF THE DUMP (.gsa) THAT YtfmfcgpofkccgaaProg.lean LOADS. Nothing in Lean hashes anything: it is a label: what it is worth is what the hold of that sum in a sandbox is worth. -/
noncomputable def Try.pinned : Pinned := { name := "ytfmfcgpofkccgaa", sum := "ade2095f61bfe67a75ba287d7cb9288196608c005231721d848d72b90d7dc27e", checked := Try.checked }
namespace Rows
def none {H : Type} : Left H := { results := [], args := [] }

/-- 'wheelhouselaw05.TypesCodes': WHATEVER THE INPUT: true; the input reads as it did. -/
def typesCodesSpec : ChangeSpec := { name := "typesCodes", fn := fun _ => fun
  | [d1, d2, d3] => { results := [.lit (.bool true)], args := [d1, d2, d3] }
  | _ => none }
def typesCodesRow : OpenClaim := { program := "ytfmfcgpofkccgaa", sum := "ade2095f61bfe67a75ba287d7cb9288196608c005231721d848d72b90d7dc27e", func := "wheelhouse/wheelhouselaw05.TypesCodes", spec := "typesCodes", apart := false }
def TypesCodesSaid : Prop := typesCodesRow.holds Try.pinned (OpenSpec.ofChange typesCodesSpec)

/-- ITS FALSE NEIGHBOUR: 'it returns false'. Refute it at one input. -/
def typesCodesWrong : ChangeSpec := { name := "typesCodes", fn := fun _ => fun
  | [d1, d2, d3] => { results := [.lit (.bool false)], args := [d1, d2, d3] }
  | _ => none }
def TypesCodesWrongFalsely : Prop := typesCodesRow.holds Try.pinned (OpenSpec.ofChange typesCodesWrong)

/-- 'wheelhouselaw05.TypesChecks': WHATEVER THE INPUT: true; the input reads as it did. -/
def typesChecksSpec : ChangeSpec := { name := "typesChecks", fn := fun _ => fun
  | [d1, d2, d3] => { results := [.lit (.bool true)], args := [d1, d2, d3] }
  | _ => none }
def typesChecksRow : OpenClaim := { program := "ytfmfcgpofkccgaa", sum := "ade2095f61bfe67a75ba287d7cb9288196608c005231721d848d72b90d7dc27e", func := "wheelhouse/wheelhouselaw05.TypesChecks", spec := "typesChecks", apart := false }
def TypesChecksSaid : Prop := typesChecksRow.holds Try.pinned (OpenSpec.ofChange typesChecksSpec)

/-- ITS FALSE NEIGHBOUR: 'it returns false'. Refute it at one input. -/
def typesChecksWrong : ChangeSpec := { name := "typesChecks", fn := fun _ => fun
  | [d1, d2, d3] => { results := [.lit (.bool false)], args := [d1, d2, d3] }
  | _ => none }
def TypesChecksWrongFalsely : Prop := typesChecksRow.holds Try.pinned (OpenSpec.ofChange typesChecksWrong)

/-- 'wheelhouselaw05.TypesTexts': WHATEVER THE INPUT: true; the input reads as it did. -/
def typesTextsSpec : ChangeSpec := { name := "typesTexts", fn := fun _ => fun
  | [d1, d2, d3] => { results := [.lit (.bool true)], args := [d1, d2, d3] }
  | _ => none }
def typesTextsRow : OpenClaim := { program := "ytfmfcgpofkccgaa", sum := "ade2095f61bfe67a75ba287d7cb9288196608c005231721d848d72b90d7dc27e", func := "wheelhouse/wheelhouselaw05.TypesTexts", spec := "typesTexts", apart := false }
def TypesTextsSaid : Prop := typesTextsRow.holds Try.pinned (OpenSpec.ofChange typesTextsSpec)

/-- ITS FALSE NEIGHBOUR: 'it returns false'. Refute it at one input. -/
def typesTextsWrong : ChangeSpec := { name := "typesTexts", fn := fun _ => fun
  | [d1, d2, d3] => { results := [.lit (.bool false)], args := [d1, d2, d3] }
  | _ => none }
def TypesTextsWrongFalsely : Prop := typesTextsRow.holds Try.pinned (OpenSpec.ofChange typesTextsWrong)

/-- 'wheelhouselaw05.TypesBack': WHATEVER THE INPUT: true; the input reads as it did. -/
def typesBackSpec : ChangeSpec := { name := "typesBack", fn := fun _ => fun
  | [d1, d2, d3] => { results := [.lit (.bool true)], args := [d1, d2, d3] }
  | _ => none }
def typesBackRow : OpenClaim := { program := "ytfmfcgpofkccgaa", sum := "ade2095f61bfe67a75ba287d7cb9288196608c005231721d848d72b90d7dc27e", func := "wheelhouse/wheelhouselaw05.TypesBack", spec := "typesBack", apart := false }
def TypesBackSaid : Prop := typesBackRow.holds Try.pinned (OpenSpec.ofChange typesBackSpec)

/-- ITS FALSE NEIGHBOUR: 'it returns false'. Refute it at one input. -/
def typesBackWrong : ChangeSpec := { name := "typesBack", fn := fun _ => fun
  | [d1, d2, d3] => { results := [.lit (.bool false)], args := [d1, d2, d3] }
  | _ => none }
def TypesBackWrongFalsely : Prop := typesBackRow.holds Try.pinned (OpenSpec.ofChange typesBackWrong)

/-- 'wheelhouselaw05.TypesAgain': WHATEVER THE INPUT: true; the input reads as it did. -/
def typesAgainSpec : ChangeSpec := { name := "typesAgain", fn := fun _ => fun
  | [d1, d2, d3] => { results := [.lit (.bool true)], args := [d1, d2, d3] }
  | _ => none }
def typesAgainRow : OpenClaim := { program := "ytfmfcgpofkccgaa", sum := "ade2095f61bfe67a75ba287d7cb9288196608c005231721d848d72b90d7dc27e", func := "wheelhouse/wheelhouselaw05.TypesAgain", spec := "typesAgain", apart := false }
def TypesAgainSaid : Prop := typesAgainRow.holds Try.pinned (OpenSpec.ofChange typesAgainSpec)

/-- ITS FALSE NEIGHBOUR: 'it returns false'. Refute it at one input. -/
def typesAgainWrong : ChangeSpec := { name := "typesAgain", fn := fun _ => fun
  | [d1, d2, d3] => { results := [.lit (.bool false)], args := [d1, d2, d3] }
  | _ => none }
def TypesAgainWrongFalsely : Prop := typesAgainRow.holds Try.pinned (OpenSpec.ofChange typesAgainWrong)

/-- 'wheelhouselaw05.TypesKnows': WHATEVER THE INPUT: true; the input reads as it did. -/
def typesKnowsSpec : ChangeSpec := { name := "typesKnows", fn := fun _ => fun
  | [d1, d2] => { results := [.lit (.bool true)], args := [d1, d2] }
  | _ => none }
def typesKnowsRow : OpenClaim := { program := "ytfmfcgpofkccgaa", sum := "ade2095f61bfe67a75ba287d7cb9288196608c005231721d848d72b90d7dc27e", func := "wheelhouse/wheelhouselaw05.TypesKnows", spec := "typesKnows", apart := false }
def TypesKnowsSaid : Prop := typesKnowsRow.holds Try.pinned (OpenSpec.ofChange typesKnowsSpec)

/-- ITS FALSE NEIGHBOUR: 'it returns false'. Refute it at one input. -/
def typesKnowsWrong : ChangeSpec := { name := "typesKnows", fn := fun _ => fun
  | [d1, d2] => { results := [.lit (.bool false)], args := [d1, d2] }
  | _ => none }
def TypesKnowsWrongFalsely : Prop := typesKnowsRow.holds Try.pinned (OpenSpec.ofChange typesKnowsWrong)

/- THE SECOND FORM. 'bulk': how many values and letters a reading holds, each counted each time it is reached (what is shared counts as often as it is met; a slice's spare places count too). A statement '..UptoSaid' is the law's where the arguments, and the package variables that the reading takes, are together of bulk at most 1048576: NARROWER than '..Said'. Prove '..Said' where nothing that the law and all that it calls make is longer than what came in: it says more and counts as full. Else prove '..UptoSaid'. A law counts once. -/
mutual
def uptoBulk {H : Type} : DataW H → Nat
  | .lit (.string bytes) => bytes.length + 1
  | .lit _ => 1
  | .nil => 1
  | .ptr d => uptoBulk d + 1
  | .slice elems spare => uptoBulkAll elems + uptoBulkAll spare + 1
  | .agg parts => uptoBulkAll parts + 1
  | .iface _ d => uptoBulk d + 1
  | .map entries => uptoBulkEntries entries + 1
  | .held _ => 1
def uptoBulkAll {H : Type} : List (DataW H) → Nat
  | [] => 0
  | d :: r => uptoBulk d + uptoBulkAll r
def uptoBulkEntries {H : Type} : List (Lit × DataW H) → Nat
  | [] => 0
  | x :: r => uptoBulkEntry x + uptoBulkEntries r
def uptoBulkEntry {H : Type} : Lit × DataW H → Nat
  | (.string bytes, d) => bytes.length + uptoBulk d + 1
  | (_, d) => uptoBulk d + 1
 end
def uptoSmall : (H : Type) → List (DataW H) → Bool := fun _ ds => decide (uptoBulkAll ds ≤ 1048576)
def OpenSpec.upto (s : _root_.Go.ChangeSpec) : _root_.Go.OpenSpec := { _root_.Go.OpenSpec.ofChange s with cond := some uptoSmall }

/-- 'wheelhouselaw05.TypesCodes', WHERE WHAT IT READS IS OF BULK AT MOST 1048576: true; the input reads as it did. -/
def typesCodesUptoRow : OpenClaim := { program := "ytfmfcgpofkccgaa", sum := "ade2095f61bfe67a75ba287d7cb9288196608c005231721d848d72b90d7dc27e", func := "wheelhouse/wheelhouselaw05.TypesCodes", spec := "typesCodes", apart := false, narrowed := true }
def TypesCodesUptoSaid : Prop := typesCodesUptoRow.holds Try.pinned (OpenSpec.upto typesCodesSpec)

/-- 'wheelhouselaw05.TypesChecks', WHERE WHAT IT READS IS OF BULK AT MOST 1048576: true; the input reads as it did. -/
def typesChecksUptoRow : OpenClaim := { program := "ytfmfcgpofkccgaa", sum := "ade2095f61bfe67a75ba287d7cb9288196608c005231721d848d72b90d7dc27e", func := "wheelhouse/wheelhouselaw05.TypesChecks", spec := "typesChecks", apart := false, narrowed := true }
def TypesChecksUptoSaid : Prop := typesChecksUptoRow.holds Try.pinned (OpenSpec.upto typesChecksSpec)

/-- 'wheelhouselaw05.TypesTexts', WHERE WHAT IT READS IS OF BULK AT MOST 1048576: true; the input reads as it did. -/
def typesTextsUptoRow : OpenClaim := { program := "ytfmfcgpofkccgaa", sum := "ade2095f61bfe67a75ba287d7cb9288196608c005231721d848d72b90d7dc27e", func := "wheelhouse/wheelhouselaw05.TypesTexts", spec := "typesTexts", apart := false, narrowed := true }
def TypesTextsUptoSaid : Prop := typesTextsUptoRow.holds Try.pinned (OpenSpec.upto typesTextsSpec)

/-- 'wheelhouselaw05.TypesBack', WHERE WHAT IT READS IS OF BULK AT MOST 1048576: true; the input reads as it did. -/
def typesBackUptoRow : OpenClaim := { program := "ytfmfcgpofkccgaa", sum := "ade2095f61bfe67a75ba287d7cb9288196608c005231721d848d72b90d7dc27e", func := "wheelhouse/wheelhouselaw05.TypesBack", spec := "typesBack", apart := false, narrowed := true }
def TypesBackUptoSaid : Prop := typesBackUptoRow.holds Try.pinned (OpenSpec.upto typesBackSpec)

/-- 'wheelhouselaw05.TypesAgain', WHERE WHAT IT READS IS OF BULK AT MOST 1048576: true; the input reads as it did. -/
def typesAgainUptoRow : OpenClaim := { program := "ytfmfcgpofkccgaa", sum := "ade2095f61bfe67a75ba287d7cb9288196608c005231721d848d72b90d7dc27e", func := "wheelhouse/wheelhouselaw05.TypesAgain", spec := "typesAgain", apart := false, narrowed := true }
def TypesAgainUptoSaid : Prop := typesAgainUptoRow.holds Try.pinned (OpenSpec.upto typesAgainSpec)

/-- 'wheelhouselaw05.TypesKnows', WHERE WHAT IT READS IS OF BULK AT MOST 1048576: true; the input reads as it did. -/
def typesKnowsUptoRow : OpenClaim := { program := "ytfmfcgpofkccgaa", sum := "ade2095f61bfe67a75ba287d7cb9288196608c005231721d848d72b90d7dc27e", func := "wheelhouse/wheelhouselaw05.TypesKnows", spec := "typesKnows", apart := false, narrowed := true }
def TypesKnowsUptoSaid : Prop := typesKnowsUptoRow.holds Try.pinned (OpenSpec.upto typesKnowsSpec)

end Rows
end Go.Proofs.Ytfmfcgpofkccgaa
