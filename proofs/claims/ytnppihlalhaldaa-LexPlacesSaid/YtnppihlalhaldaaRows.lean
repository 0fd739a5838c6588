/-
  No cell of these rows narrows 'for every input' (looked for: loops, veiled, ifaces, maps, wideKeys, modest, calm, conditions, laid).
  DERIVED. THE GIVEN ROWS OF THIS SEAT. 5 by the template 'for every input the law returns true; each argument reads behind the call as it read before'; 0 by the template 'total and deterministic' (their statements: YtnppihlalhaldaaTotals.lean).
  GIVEN WITH THE SEED: the statements are not yours to turn. If you find one false, say at which input.
  Laid BY PROGRAM, IN A SANDBOX (cutbox-rows.mjs): the forced cells as the released guide's own fill.sh prints them over the translation f2d723c703867b52… (all of the seat's roots in one cut). By AI agents, Wed Nov 11 2026. No macro, syntax, notation, axiom, sorry.
-/
import Derived.Test.YtnppihlalhaldaaChecked
import GoSem.Claim
import GoSem.ClaimJoined
import GoSem.ClaimMapViews
import Derived.JoinedTies
import Derived.KernelRfl
namespace Go.Proofs.Ytnppihlalhaldaa
/- THE CELL 'sum', in the pinned program and in every row, IS THE sha256 OF THE DUMP (.gsa) THAT YtnppihlalhaldaaProg.lean LOADS. Nothing in Lean hashes anything: it is a label: what it is worth is what the hold of that sum in a sandbox is worth. -/
noncomputable def Try.pinned : Pinned := { name := "ytnppihlalhaldaa", sum := "f2d723c703867b527f906f415420308ba86dcd50c0ec4207439139c15bed1f30", checked := Try.checked }
namespace Rows
def none {H : Type} : Left H := { results := [], args := [] }

/-- 'wheelhouselaw16.LexScans': WHATEVER THE INPUT: true; the input reads as it did. -/
def lexScansSpec : ChangeSpec := { name := "lexScans", fn := fun _ => fun
  | [d] => { results := [.lit (.bool true)], args := [d] }
  | _ => none }
def lexScansRow : OpenClaim := { program := "ytnppihlalhaldaa", sum := "f2d723c703867b527f906f415420308ba86dcd50c0ec4207439139c15bed1f30", func := "wheelhouse/wheelhouselaw16.LexScans", spec := "lexScans", unfollowed := true, recurses := true, apart := false }
def LexScansSaid : Prop := lexScansRow.holds Try.pinned (OpenSpec.ofChange lexScansSpec)

/-- ITS FALSE NEIGHBOUR: 'it returns false'. Refute it at one input. -/
def lexScansWrong : ChangeSpec := { name := "lexScans", fn := fun _ => fun
  | [d] => { results := [.lit (.bool false)], args := [d] }
  | _ => none }
def LexScansWrongFalsely : Prop := lexScansRow.holds Try.pinned (OpenSpec.ofChange lexScansWrong)

/-- 'wheelhouselaw16.LexPlaces': WHATEVER THE INPUT: true; the input reads as it did. -/
def lexPlacesSpec : ChangeSpec := { name := "lexPlaces", fn := fun _ => fun
  | [d] => { results := [.lit (.bool true)], args := [d] }
  | _ => none }
def lexPlacesRow : OpenClaim := { program := "ytnppihlalhaldaa", sum := "f2d723c703867b527f906f415420308ba86dcd50c0ec4207439139c15bed1f30", func := "wheelhouse/wheelhouselaw16.LexPlaces", spec := "lexPlaces", unfollowed := true, recurses := true, apart := false }
def LexPlacesSaid : Prop := lexPlacesRow.holds Try.pinned (OpenSpec.ofChange lexPlacesSpec)

/-- ITS FALSE NEIGHBOUR: 'it returns false'. Refute it at one input. -/
def lexPlacesWrong : ChangeSpec := { name := "lexPlaces", fn := fun _ => fun
  | [d] => { results := [.lit (.bool false)], args := [d] }
  | _ => none }
def LexPlacesWrongFalsely : Prop := lexPlacesRow.holds Try.pinned (OpenSpec.ofChange lexPlacesWrong)

/-- 'wheelhouselaw16.LexJoins': WHATEVER THE INPUT: true; the input reads as it did. -/
def lexJoinsSpec : ChangeSpec := { name := "lexJoins", fn := fun _ => fun
  | [d1, d2] => { results := [.lit (.bool true)], args := [d1, d2] }
  | _ => none }
def lexJoinsRow : OpenClaim := { program := "ytnppihlalhaldaa", sum := "f2d723c703867b527f906f415420308ba86dcd50c0ec4207439139c15bed1f30", func := "wheelhouse/wheelhouselaw16.LexJoins", spec := "lexJoins", unfollowed := true, recurses := true, apart := false }
def LexJoinsSaid : Prop := lexJoinsRow.holds Try.pinned (OpenSpec.ofChange lexJoinsSpec)

/-- ITS FALSE NEIGHBOUR: 'it returns false'. Refute it at one input. -/
def lexJoinsWrong : ChangeSpec := { name := "lexJoins", fn := fun _ => fun
  | [d1, d2] => { results := [.lit (.bool false)], args := [d1, d2] }
  | _ => none }
def LexJoinsWrongFalsely : Prop := lexJoinsRow.holds Try.pinned (OpenSpec.ofChange lexJoinsWrong)

/-- 'wheelhouselaw16.LexTexts': WHATEVER THE INPUT: true; the input reads as it did. -/
def lexTextsSpec : ChangeSpec := { name := "lexTexts", fn := fun _ => fun
  | [d] => { results := [.lit (.bool true)], args := [d] }
  | _ => none }
def lexTextsRow : OpenClaim := { program := "ytnppihlalhaldaa", sum := "f2d723c703867b527f906f415420308ba86dcd50c0ec4207439139c15bed1f30", func := "wheelhouse/wheelhouselaw16.LexTexts", spec := "lexTexts", unfollowed := true, recurses := true, apart := false }
def LexTextsSaid : Prop := lexTextsRow.holds Try.pinned (OpenSpec.ofChange lexTextsSpec)

/-- ITS FALSE NEIGHBOUR: 'it returns false'. Refute it at one input. -/
def lexTextsWrong : ChangeSpec := { name := "lexTexts", fn := fun _ => fun
  | [d] => { results := [.lit (.bool false)], args := [d] }
  | _ => none }
def LexTextsWrongFalsely : Prop := lexTextsRow.holds Try.pinned (OpenSpec.ofChange lexTextsWrong)

/-- 'wheelhouselaw16.LexBack': WHATEVER THE INPUT: true; the input reads as it did. -/
def lexBackSpec : ChangeSpec := { name := "lexBack", fn := fun _ => fun
  | [d] => { results := [.lit (.bool true)], args := [d] }
  | _ => none }
def lexBackRow : OpenClaim := { program := "ytnppihlalhaldaa", sum := "f2d723c703867b527f906f415420308ba86dcd50c0ec4207439139c15bed1f30", func := "wheelhouse/wheelhouselaw16.LexBack", spec := "lexBack", unfollowed := true, recurses := true, apart := false }
def LexBackSaid : Prop := lexBackRow.holds Try.pinned (OpenSpec.ofChange lexBackSpec)

/-- ITS FALSE NEIGHBOUR: 'it returns false'. Refute it at one input. -/
def lexBackWrong : ChangeSpec := { name := "lexBack", fn := fun _ => fun
  | [d] => { results := [.lit (.bool false)], args := [d] }
  | _ => none }
def LexBackWrongFalsely : Prop := lexBackRow.holds Try.pinned (OpenSpec.ofChange lexBackWrong)

/- THE SECOND FORM. 'bulk': how many values and letters a reading holds, each counted each time it is reached (what is shared counts as often as it is met; a slice's spare places count too). A statement '..UptoSaid' is the law's where the arguments, and the package variables that the reading takes, are together of bulk at most 1048576: NARROWER than '..Said'. Prove '..Said' where nothing that the law and all that it calls make is longer than what came in: it says more and counts as full. Else prove '..UptoSaid'. A law counts once. -/
mutual
def uptoBulk {H : Type} : DataW H → Nat
  | .lit (.string bytes) => bytes.length + 1
  | .lit _ => 1
  | .nil => 1
  | .ptr d => uptoBulk d + 1
  | .slice elems spare => uptoBulkAll elems + uptoBulkAll spare + 1
  | .agg parts => uptoBulkAll parts + 1
  | .iface _ d => uptoBulk d + 1
  | .map entries => uptoBulkEntries entries + 1
  | .held _ => 1
def uptoBulkAll {H : Type} : List (DataW H) → Nat
  | [] => 0
  | d :: r => uptoBulk d + uptoBulkAll r
def uptoBulkEntries {H : Type} : List (Lit × DataW H) → Nat
  | [] => 0
  | x :: r => uptoBulkEntry x + uptoBulkEntries r
def uptoBulkEntry {H : Type} : Lit × DataW H → Nat
  | (.string bytes, d) => bytes.length + uptoBulk d + 1
  | (_, d) => uptoBulk d + 1
 end
def uptoSmall : (H : Type) → List (DataW H) → Bool := fun _ ds => decide (uptoBulkAll ds ≤ 1048576)
def OpenSpec.upto (s : _root_.Go.ChangeSpec) : _root_.Go.OpenSpec := { _root_.Go.OpenSpec.ofChange s with cond := some uptoSmall }

/-- 'wheelhouselaw16.LexScans', WHERE WHAT IT READS IS OF BULK AT MOST 1048576: true; the input reads as it did. -/
def lexScansUptoRow : OpenClaim := { program := "ytnppihlalhaldaa", sum := "f2d723c703867b527f906f415420308ba86dcd50c0ec4207439139c15bed1f30", func := "wheelhouse/wheelhouselaw16.LexScans", spec := "lexScans", unfollowed := true, recurses := true, apart := false, narrowed := true }
def LexScansUptoSaid : Prop := lexScansUptoRow.holds Try.pinned (OpenSpec.upto lexScansSpec)

/-- 'wheelhouselaw16.LexPlaces', WHERE WHAT IT READS IS OF BULK AT MOST 1048576: true; the input reads as it did. -/
def lexPlacesUptoRow : OpenClaim := { program := "ytnppihlalhaldaa", sum := "f2d723c703867b527f906f415420308ba86dcd50c0ec4207439139c15bed1f30", func := "wheelhouse/wheelhouselaw16.LexPlaces", spec := "lexPlaces", unfollowed := true, recurses := true, apart := false, narrowed := true }
def LexPlacesUptoSaid : Prop := lexPlacesUptoRow.holds Try.pinned (OpenSpec.upto lexPlacesSpec)

/-- 'wheelhouselaw16.LexJoins', WHERE WHAT IT READS IS OF BULK AT MOST 1048576: true; the input reads as it did. -/
def lexJoinsUptoRow : OpenClaim := { program := "ytnppihlalhaldaa", sum := "f2d723c703867b527f906f415420308ba86dcd50c0ec4207439139c15bed1f30", func := "wheelhouse/wheelhouselaw16.LexJoins", spec := "lexJoins", unfollowed := true, recurses := true, apart := false, narrowed := true }
def LexJoinsUptoSaid : Prop := lexJoinsUptoRow.holds Try.pinned (OpenSpec.upto lexJoinsSpec)

/-- 'wheelhouselaw16.LexTexts', WHERE WHAT IT READS IS OF BULK AT MOST 1048576: true; the input reads as it did. -/
def lexTextsUptoRow : OpenClaim := { program := "ytnppihlalhaldaa", sum := "f2d723c703867b527f906f415420308ba86dcd50c0ec4207439139c15bed1f30", func := "wheelhouse/wheelhouselaw16.LexTexts", spec := "lexTexts", unfollowed := true, recurses := true, apart := false, narrowed := true }
def LexTextsUptoSaid : Prop := lexTextsUptoRow.holds Try.pinned (OpenSpec.upto lexTextsSpec)

/-- 'wheelhouselaw16.LexBack', WHERE WHAT IT READS IS OF BULK AT MOST 1048576: true; the input reads as it did. -/
def lexBackUptoRow : OpenClaim := { program := "ytnppihlalhaldaa", sum := "f2d723c703867b527f906f415420308ba86dcd50c0ec4207439139c15bed1f30", func := "wheelhouse/wheelhouselaw16.LexBack", spec := "lexBack", unfollowed := true, recurses := true, apart := false, narrowed := true }
def LexBackUptoSaid : Prop := lexBackUptoRow.holds Try.pinned (OpenSpec.upto lexBackSpec)

end Rows
end Go.Proofs.Ytnppihlalhaldaa
