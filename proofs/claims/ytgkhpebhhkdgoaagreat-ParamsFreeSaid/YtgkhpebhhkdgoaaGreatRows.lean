/-
  No cell of these rows narrows 'for every input' (looked for: loops, veiled, ifaces, maps, wideKeys, modest, calm, conditions, laid).
  DERIVED. THE GIVEN ROWS OF THIS SEAT. 3 by the template 'for every input the law returns true; each argument reads behind the call as it read before'; 0 by the template 'total and deterministic' (their statements: YtgkhpebhhkdgoaaGreatTotals.lean).
  GIVEN WITH THE SEED: the statements are not yours to turn. If you find one false, say at which input.
  Laid BY PROGRAM, IN A SANDBOX (cutbox-rows.mjs): the forced cells as the released guide's own fill.sh prints them over the translation 7033a36f92fd6ab2… (all of the seat's roots in one cut). By AI agents, Wed Nov 11 2026. No macro, syntax, notation, axiom, sorry.
-/
import Derived.Test.YtgkhpebhhkdgoaaGreatChecked
import GoSem.Claim
import GoSem.ClaimJoined
import GoSem.ClaimMapViews
import Derived.JoinedTies
import Derived.KernelRfl
namespace Go.Proofs.YtgkhpebhhkdgoaaGreat
/- THE CELL 'sum', in the pinned program and in every row, IS THE sha256 OF THE DUMP (.gsa) THAT YtgkhpebhhkdgoaaGreatProg.lean LOADS. Nothing in Lean hashes anything: it is a label: what it is worth is what the hold of that sum in a sandbox is worth. -/
noncomputable def Tryz.pinned : Pinned := { name := "ytgkhpebhhkdgoaagreat", sum := "7033a36f92fd6ab2a2ae3e0202c38315e7d51bda1210e4800f082f6b1a17ef98", checked := Tryz.checked }
namespace Rows
def none {H : Type} : Left H := { results := [], args := [] }

/-- 'wheelhouselaw33.ParamsFree': WHATEVER THE INPUT: true; the input reads as it did. -/
def paramsFreeSpec : ChangeSpec := { name := "paramsFree", fn := fun _ => fun
  | [d] => { results := [.lit (.bool true)], args := [d] }
  | _ => none }
def paramsFreeRow : OpenClaim := { program := "ytgkhpebhhkdgoaagreat", sum := "7033a36f92fd6ab2a2ae3e0202c38315e7d51bda1210e4800f082f6b1a17ef98", func := "wheelhouse/wheelhouselaw33.ParamsFree", spec := "paramsFree", unfollowed := true, recurses := true, apart := false }
def ParamsFreeSaid : Prop := paramsFreeRow.holds Tryz.pinned (OpenSpec.ofChange paramsFreeSpec)

/-- ITS FALSE NEIGHBOUR: 'it returns false'. Refute it at one input. -/
def paramsFreeWrong : ChangeSpec := { name := "paramsFree", fn := fun _ => fun
  | [d] => { results := [.lit (.bool false)], args := [d] }
  | _ => none }
def ParamsFreeWrongFalsely : Prop := paramsFreeRow.holds Tryz.pinned (OpenSpec.ofChange paramsFreeWrong)

/-- 'wheelhouselaw33.ParamsRight': WHATEVER THE INPUT: true; the input reads as it did. -/
def paramsRightSpec : ChangeSpec := { name := "paramsRight", fn := fun _ => fun
  | [d] => { results := [.lit (.bool true)], args := [d] }
  | _ => none }
def paramsRightRow : OpenClaim := { program := "ytgkhpebhhkdgoaagreat", sum := "7033a36f92fd6ab2a2ae3e0202c38315e7d51bda1210e4800f082f6b1a17ef98", func := "wheelhouse/wheelhouselaw33.ParamsRight", spec := "paramsRight", unfollowed := true, recurses := true, apart := false }
def ParamsRightSaid : Prop := paramsRightRow.holds Tryz.pinned (OpenSpec.ofChange paramsRightSpec)

/-- ITS FALSE NEIGHBOUR: 'it returns false'. Refute it at one input. -/
def paramsRightWrong : ChangeSpec := { name := "paramsRight", fn := fun _ => fun
  | [d] => { results := [.lit (.bool false)], args := [d] }
  | _ => none }
def ParamsRightWrongFalsely : Prop := paramsRightRow.holds Tryz.pinned (OpenSpec.ofChange paramsRightWrong)

/-- 'wheelhouselaw33.ParamsReads': WHATEVER THE INPUT: true; the input reads as it did. -/
def paramsReadsSpec : ChangeSpec := { name := "paramsReads", fn := fun _ => fun
  | [d1, d2] => { results := [.lit (.bool true)], args := [d1, d2] }
  | _ => none }
def paramsReadsRow : OpenClaim := { program := "ytgkhpebhhkdgoaagreat", sum := "7033a36f92fd6ab2a2ae3e0202c38315e7d51bda1210e4800f082f6b1a17ef98", func := "wheelhouse/wheelhouselaw33.ParamsReads", spec := "paramsReads", unfollowed := true, recurses := true, apart := false }
def ParamsReadsSaid : Prop := paramsReadsRow.holds Tryz.pinned (OpenSpec.ofChange paramsReadsSpec)

/-- ITS FALSE NEIGHBOUR: 'it returns false'. Refute it at one input. -/
def paramsReadsWrong : ChangeSpec := { name := "paramsReads", fn := fun _ => fun
  | [d1, d2] => { results := [.lit (.bool false)], args := [d1, d2] }
  | _ => none }
def ParamsReadsWrongFalsely : Prop := paramsReadsRow.holds Tryz.pinned (OpenSpec.ofChange paramsReadsWrong)

/- THE SECOND FORM. 'bulk': how many values and letters a reading holds, each counted each time it is reached (what is shared counts as often as it is met; a slice's spare places count too). A statement '..UptoSaid' is the law's where the arguments, and the package variables that the reading takes, are together of bulk at most 1048576: NARROWER than '..Said'. Prove '..Said' where nothing that the law and all that it calls make is longer than what came in: it says more and counts as full. Else prove '..UptoSaid'. A law counts once. -/
mutual
def uptoBulk {H : Type} : DataW H → Nat
  | .lit (.string bytes) => bytes.length + 1
  | .lit _ => 1
  | .nil => 1
  | .ptr d => uptoBulk d + 1
  | .slice elems spare => uptoBulkAll elems + uptoBulkAll spare + 1
  | .agg parts => uptoBulkAll parts + 1
  | .iface _ d => uptoBulk d + 1
  | .map entries => uptoBulkEntries entries + 1
  | .held _ => 1
def uptoBulkAll {H : Type} : List (DataW H) → Nat
  | [] => 0
  | d :: r => uptoBulk d + uptoBulkAll r
def uptoBulkEntries {H : Type} : List (Lit × DataW H) → Nat
  | [] => 0
  | x :: r => uptoBulkEntry x + uptoBulkEntries r
def uptoBulkEntry {H : Type} : Lit × DataW H → Nat
  | (.string bytes, d) => bytes.length + uptoBulk d + 1
  | (_, d) => uptoBulk d + 1
 end
def uptoSmall : (H : Type) → List (DataW H) → Bool := fun _ ds => decide (uptoBulkAll ds ≤ 1048576)
def OpenSpec.upto (s : _root_.Go.ChangeSpec) : _root_.Go.OpenSpec := { _root_.Go.OpenSpec.ofChange s with cond := some uptoSmall }

/-- 'wheelhouselaw33.ParamsFree', WHERE WHAT IT READS IS OF BULK AT MOST 1048576: true; the input reads as it did. -/
def paramsFreeUptoRow : OpenClaim := { program := "ytgkhpebhhkdgoaagreat", sum := "7033a36f92fd6ab2a2ae3e0202c38315e7d51bda1210e4800f082f6b1a17ef98", func := "wheelhouse/wheelhouselaw33.ParamsFree", spec := "paramsFree", unfollowed := true, recurses := true, apart := false, narrowed := true }
def ParamsFreeUptoSaid : Prop := paramsFreeUptoRow.holds Tryz.pinned (OpenSpec.upto paramsFreeSpec)

/-- 'wheelhouselaw33.ParamsRight', WHERE WHAT IT READS IS OF BULK AT MOST 1048576: true; the input reads as it did. -/
def paramsRightUptoRow : OpenClaim := { program := "ytgkhpebhhkdgoaagreat", sum := "7033a36f92fd6ab2a2ae3e0202c38315e7d51bda1210e4800f082f6b1a17ef98", func := "wheelhouse/wheelhouselaw33.ParamsRight", spec := "paramsRight", unfollowed := true, recurses := true, apart := false, narrowed := true }
def ParamsRightUptoSaid : Prop := paramsRightUptoRow.holds Tryz.pinned (OpenSpec.upto paramsRightSpec)

/-- 'wheelhouselaw33.ParamsReads', WHERE WHAT IT READS IS OF BULK AT MOST 1048576: true; the input reads as it did. -/
def paramsReadsUptoRow : OpenClaim := { program := "ytgkhpebhhkdgoaagreat", sum := "7033a36f92fd6ab2a2ae3e0202c38315e7d51bda1210e4800f082f6b1a17ef98", func := "wheelhouse/wheelhouselaw33.ParamsReads", spec := "paramsReads", unfollowed := true, recurses := true, apart := false, narrowed := true }
def ParamsReadsUptoSaid : Prop := paramsReadsUptoRow.holds Tryz.pinned (OpenSpec.upto paramsReadsSpec)

end Rows
end Go.Proofs.YtgkhpebhhkdgoaaGreat
