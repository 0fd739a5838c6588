/-
  No cell of these rows narrows 'for every input' (looked for: loops, veiled, ifaces, maps, wideKeys, modest, calm, conditions, laid).
  DERIVED. THE GIVEN ROWS OF THIS SEAT. 4 by the template 'for every input the law returns true; each argument reads behind the call as it read before'; 0 by the template 'total and deterministic' (their statements: YtecgahhdbhdplaaTotals.lean).
  GIVEN WITH THE SEED: the statements are not yours to turn. If you find one false, say at which input.
  Laid BY PROGRAM, IN A SANDBOX (cutbox-rows.mjs): the forced cells as the released guide's own fill.sh prints them over the translation d3980f8be75d5988… (all of the seat's roots in one cut). By AI agents, Wed Nov 11 2026. No macro, syntax, notation, axiom, sorry.
-/
import Derived.Test.YtecgahhdbhdplaaChecked
import GoSem.Claim
import GoSem.ClaimJoined
import GoSem.ClaimMapViews
import Derived.JoinedTies
import Derived.KernelRfl
namespace Go.Proofs.Ytecgahhdbhdplaa
/- THE CELL 'sum', in the pinned program and in every row, IS THE sha256 OF THE DUMP (.gsa) THAT YtecgahhdbhdplaaProg.lean LOADS. Nothing in Lean hashes anything: it is a label: what it is worth is what the hold of that sum in a sandbox is worth. -/
noncomputable def Try.pinned : Pinned := { name := "ytecgahhdbhdplaa", sum := "d3980f8be75d598807e6056c32e033843a76aa4ebdd39f6d75e525eeb4ead400", checked := Try.checked }
namespace Rows
def none {H : Type} : Left H := { results := [], args := [] }

/-- 'wheelhouselaw29.BitsPuts': WHATEVER THE INPUT: true; the input reads as it did. -/
def bitsPutsSpec : ChangeSpec := { name := "bitsPuts", fn := fun _ => fun
  | [d] => { results := [.lit (.bool true)], args := [d] }
  | _ => none }
def bitsPutsRow : OpenClaim := { program := "ytecgahhdbhdplaa", sum := "d3980f8be75d598807e6056c32e033843a76aa4ebdd39f6d75e525eeb4ead400", func := "wheelhouse/wheelhouselaw29.BitsPuts", spec := "bitsPuts", unfollowed := true, recurses := true, apart := false }
def BitsPutsSaid : Prop := bitsPutsRow.holds Try.pinned (OpenSpec.ofChange bitsPutsSpec)

/-- ITS FALSE NEIGHBOUR: 'it returns false'. Refute it at one input. -/
def bitsPutsWrong : ChangeSpec := { name := "bitsPuts", fn := fun _ => fun
  | [d] => { results := [.lit (.bool false)], args := [d] }
  | _ => none }
def BitsPutsWrongFalsely : Prop := bitsPutsRow.holds Try.pinned (OpenSpec.ofChange bitsPutsWrong)

/-- 'wheelhouselaw29.BitsPacks': WHATEVER THE INPUT: true; the input reads as it did. -/
def bitsPacksSpec : ChangeSpec := { name := "bitsPacks", fn := fun _ => fun
  | [d1, d2, d3] => { results := [.lit (.bool true)], args := [d1, d2, d3] }
  | _ => none }
def bitsPacksRow : OpenClaim := { program := "ytecgahhdbhdplaa", sum := "d3980f8be75d598807e6056c32e033843a76aa4ebdd39f6d75e525eeb4ead400", func := "wheelhouse/wheelhouselaw29.BitsPacks", spec := "bitsPacks", unfollowed := true, recurses := true, apart := false }
def BitsPacksSaid : Prop := bitsPacksRow.holds Try.pinned (OpenSpec.ofChange bitsPacksSpec)

/-- ITS FALSE NEIGHBOUR: 'it returns false'. Refute it at one input. -/
def bitsPacksWrong : ChangeSpec := { name := "bitsPacks", fn := fun _ => fun
  | [d1, d2, d3] => { results := [.lit (.bool false)], args := [d1, d2, d3] }
  | _ => none }
def BitsPacksWrongFalsely : Prop := bitsPacksRow.holds Try.pinned (OpenSpec.ofChange bitsPacksWrong)

/-- 'wheelhouselaw29.BitsBack': WHATEVER THE INPUT: true; the input reads as it did. -/
def bitsBackSpec : ChangeSpec := { name := "bitsBack", fn := fun _ => fun
  | [d1, d2] => { results := [.lit (.bool true)], args := [d1, d2] }
  | _ => none }
def bitsBackRow : OpenClaim := { program := "ytecgahhdbhdplaa", sum := "d3980f8be75d598807e6056c32e033843a76aa4ebdd39f6d75e525eeb4ead400", func := "wheelhouse/wheelhouselaw29.BitsBack", spec := "bitsBack", unfollowed := true, recurses := true, apart := false }
def BitsBackSaid : Prop := bitsBackRow.holds Try.pinned (OpenSpec.ofChange bitsBackSpec)

/-- ITS FALSE NEIGHBOUR: 'it returns false'. Refute it at one input. -/
def bitsBackWrong : ChangeSpec := { name := "bitsBack", fn := fun _ => fun
  | [d1, d2] => { results := [.lit (.bool false)], args := [d1, d2] }
  | _ => none }
def BitsBackWrongFalsely : Prop := bitsBackRow.holds Try.pinned (OpenSpec.ofChange bitsBackWrong)

/-- 'wheelhouselaw29.BitsBeside': WHATEVER THE INPUT: true; the input reads as it did. -/
def bitsBesideSpec : ChangeSpec := { name := "bitsBeside", fn := fun _ => fun
  | [d1, d2] => { results := [.lit (.bool true)], args := [d1, d2] }
  | _ => none }
def bitsBesideRow : OpenClaim := { program := "ytecgahhdbhdplaa", sum := "d3980f8be75d598807e6056c32e033843a76aa4ebdd39f6d75e525eeb4ead400", func := "wheelhouse/wheelhouselaw29.BitsBeside", spec := "bitsBeside", unfollowed := true, recurses := true, apart := false }
def BitsBesideSaid : Prop := bitsBesideRow.holds Try.pinned (OpenSpec.ofChange bitsBesideSpec)

/-- ITS FALSE NEIGHBOUR: 'it returns false'. Refute it at one input. -/
def bitsBesideWrong : ChangeSpec := { name := "bitsBeside", fn := fun _ => fun
  | [d1, d2] => { results := [.lit (.bool false)], args := [d1, d2] }
  | _ => none }
def BitsBesideWrongFalsely : Prop := bitsBesideRow.holds Try.pinned (OpenSpec.ofChange bitsBesideWrong)

/- THE SECOND FORM. 'bulk': how many values and letters a reading holds, each counted each time it is reached (what is shared counts as often as it is met; a slice's spare places count too). A statement '..UptoSaid' is the law's where the arguments, and the package variables that the reading takes, are together of bulk at most 1048576: NARROWER than '..Said'. Prove '..Said' where nothing that the law and all that it calls make is longer than what came in: it says more and counts as full. Else prove '..UptoSaid'. A law counts once. -/
mutual
def uptoBulk {H : Type} : DataW H → Nat
  | .lit (.string bytes) => bytes.length + 1
  | .lit _ => 1
  | .nil => 1
  | .ptr d => uptoBulk d + 1
  | .slice elems spare => uptoBulkAll elems + uptoBulkAll spare + 1
  | .agg parts => uptoBulkAll parts + 1
  | .iface _ d => uptoBulk d + 1
  | .map entries => uptoBulkEntries entries + 1
  | .held _ => 1
def uptoBulkAll {H : Type} : List (DataW H) → Nat
  | [] => 0
  | d :: r => uptoBulk d + uptoBulkAll r
def uptoBulkEntries {H : Type} : List (Lit × DataW H) → Nat
  | [] => 0
  | x :: r => uptoBulkEntry x + uptoBulkEntries r
def uptoBulkEntry {H : Type} : Lit × DataW H → Nat
  | (.string bytes, d) => bytes.length + uptoBulk d + 1
  | (_, d) => uptoBulk d + 1
 end
def uptoSmall : (H : Type) → List (DataW H) → Bool := fun _ ds => decide (uptoBulkAll ds ≤ 1048576)
def OpenSpec.upto (s : _root_.Go.ChangeSpec) : _root_.Go.OpenSpec := { _root_.Go.OpenSpec.ofChange s with cond := some uptoSmall }

/-- 'wheelhouselaw29.BitsPuts', WHERE WHAT IT READS IS OF BULK AT MOST 1048576: true; the input reads as it did. -/
def bitsPutsUptoRow : OpenClaim := { program := "ytecgahhdbhdplaa", sum := "d3980f8be75d598807e6056c32e033843a76aa4ebdd39f6d75e525eeb4ead400", func := "wheelhouse/wheelhouselaw29.BitsPuts", spec := "bitsPuts", unfollowed := true, recurses := true, apart := false, narrowed := true }
def BitsPutsUptoSaid : Prop := bitsPutsUptoRow.holds Try.pinned (OpenSpec.upto bitsPutsSpec)

/-- 'wheelhouselaw29.BitsPacks', WHERE WHAT IT READS IS OF BULK AT MOST 1048576: true; the input reads as it did. -/
def bitsPacksUptoRow : OpenClaim := { program := "ytecgahhdbhdplaa", sum := "d3980f8be75d598807e6056c32e033843a76aa4ebdd39f6d75e525eeb4ead400", func := "wheelhouse/wheelhouselaw29.BitsPacks", spec := "bitsPacks", unfollowed := true, recurses := true, apart := false, narrowed := true }
def BitsPacksUptoSaid : Prop := bitsPacksUptoRow.holds Try.pinned (OpenSpec.upto bitsPacksSpec)

/-- 'wheelhouselaw29.BitsBack', WHERE WHAT IT READS IS OF BULK AT MOST 1048576: true; the input reads as it did. -/
def bitsBackUptoRow : OpenClaim := { program := "ytecgahhdbhdplaa", sum := "d3980f8be75d598807e6056c32e033843a76aa4ebdd39f6d75e525eeb4ead400", func := "wheelhouse/wheelhouselaw29.BitsBack", spec := "bitsBack", unfollowed := true, recurses := true, apart := false, narrowed := true }
def BitsBackUptoSaid : Prop := bitsBackUptoRow.holds Try.pinned (OpenSpec.upto bitsBackSpec)

/-- 'wheelhouselaw29.BitsBeside', WHERE WHAT IT READS IS OF BULK AT MOST 1048576: true; the input reads as it did. -/
def bitsBesideUptoRow : OpenClaim := { program := "ytecgahhdbhdplaa", sum := "d3980f8be75d598807e6056c32e033843a76aa4ebdd39f6d75e525eeb4ead400", func := "wheelhouse/wheelhouselaw29.BitsBeside", spec := "bitsBeside", unfollowed := true, recurses := true, apart := false, narrowed := true }
def BitsBesideUptoSaid : Prop := bitsBesideUptoRow.holds Try.pinned (OpenSpec.upto bitsBesideSpec)

end Rows
end Go.Proofs.Ytecgahhdbhdplaa
