/-
  NARROWER THAN 'FOR EVERY INPUT', by the rows' own cells (each row's printed sentence says how): TopWears: laid · TopTakes: laid.
  DERIVED. THE GIVEN ROWS OF THIS SEAT. 2 by the template 'for every input the law returns true; each argument reads behind the call as it read before'; 0 by the template 'total and deterministic' (their statements: YtijegngfclkdaaaGreatDoorTotals.lean).
  GIVEN WITH THE SEED: the statements are not yours to turn. If you find one false, say at which input.
  Laid BY PROGRAM, IN A SANDBOX (cutbox-rows.mjs): the forced cells as the released guide's own fill.sh prints them over the translation 286c05436c3f718d… (all of the seat's roots in one cut). By AI agents, Wed Nov 11 2026. No macro, syntax, notation, axiom, sorry.
-/
import Derived.Test.YtijegngfclkdaaaGreatDoorChecked
import GoSem.Claim
import GoSem.ClaimJoined
import GoSem.ClaimMapViews
import Derived.JoinedTies
import Derived.KernelRfl
namespace Go.Proofs.YtijegngfclkdaaaGreatDoor
/- THE CELL 'sum', in the pinned program and in every row, IS THE sha256 OF THE DUMP (.gsa) THAT YtijegngfclkdaaaGreatDoorProg.lean LOADS. Nothing in Lean hashes anything: it is a label: what it is worth is what the hold of that sum in a sandbox is worth. -/
noncomputable def Tryz.pinned : Pinned := { name := "ytijegngfclkdaaagreatdoor", sum := "286c05436c3f718d5cfb9ef97b5248c0baad9c05c75722a93613b4726f01e214", checked := Tryz.checked }
namespace Rows
def none {H : Type} : Left H := { results := [], args := [] }

/- WHAT THE LISTED PACKAGE-LEVEL VARIABLES READ AS WHEN THE CALL BEGINS. Each datum BY PROGRAM (the guide's laid-datum.mjs) off the statement by which the dump's own 'gosem.cut.vars' lays the variable. In a bare row this is a premise. The card (YtijegngfclkdaaaGreatDoorCards.lean) ties it to the program's text. -/
def laid_errors_errorType {H : Type} : DataW H := .iface "internal/reflectlite.rtype" (.agg [.ptr (.lit (.string [101, 114, 114, 111, 114]))])
def laid_wheelhouse_fault_errProtocol {H : Type} : DataW H := .iface "*errors.errorString" (.ptr (.agg [.lit (.string [112, 114, 111, 116, 111, 99, 111, 108])]))
def laid_wheelhouse_fault_errAccess {H : Type} : DataW H := .iface "*errors.errorString" (.ptr (.agg [.lit (.string [97, 99, 99, 101, 115, 115])]))
def laid_wheelhouse_fault_errSize {H : Type} : DataW H := .iface "*errors.errorString" (.ptr (.agg [.lit (.string [115, 105, 122, 101])]))
def laid_wheelhouse_fault_errValue {H : Type} : DataW H := .iface "*errors.errorString" (.ptr (.agg [.lit (.string [118, 97, 108, 117, 101])]))
def laid_wheelhouse_fault_errDevice {H : Type} : DataW H := .iface "*errors.errorString" (.ptr (.agg [.lit (.string [100, 101, 118, 105, 99, 101])]))

/-- 'wheelhousetop.TopWears': WHATEVER THE INPUT: true; the input reads as it did. -/
def topWearsSpec : ChangeSpec := { name := "topWears", fn := fun _ => fun
  | [d1, d2] => { results := [.lit (.bool true)], args := [d1, d2] }
  | _ => none }
def topWearsRow : OpenClaim := { program := "ytijegngfclkdaaagreatdoor", sum := "286c05436c3f718d5cfb9ef97b5248c0baad9c05c75722a93613b4726f01e214", func := "wheelhouse/wheelhousetop.TopWears", spec := "topWears", inPlace := ["internal/reflectlite.ValueOf", "(internal/reflectlite.Value).Type", "(internal/reflectlite.Value).IsNil", "internal/reflectlite.TypeOf", "(internal/reflectlite.Value).Elem", "(internal/reflectlite.Value).Set"], unfollowed := true, recurses := true, named := ["errors.errorType", "wheelhouse/fault.errProtocol", "wheelhouse/fault.errAccess", "wheelhouse/fault.errSize", "wheelhouse/fault.errValue", "wheelhouse/fault.errDevice"], apart := false, laid := [("errors.errorType", laid_errors_errorType), ("wheelhouse/fault.errProtocol", laid_wheelhouse_fault_errProtocol), ("wheelhouse/fault.errAccess", laid_wheelhouse_fault_errAccess), ("wheelhouse/fault.errSize", laid_wheelhouse_fault_errSize), ("wheelhouse/fault.errValue", laid_wheelhouse_fault_errValue), ("wheelhouse/fault.errDevice", laid_wheelhouse_fault_errDevice)] }
def TopWearsSaid : Prop := topWearsRow.holds Tryz.pinned (OpenSpec.ofChange topWearsSpec)

/-- ITS FALSE NEIGHBOUR: 'it returns false'. Refute it at one input. -/
def topWearsWrong : ChangeSpec := { name := "topWears", fn := fun _ => fun
  | [d1, d2] => { results := [.lit (.bool false)], args := [d1, d2] }
  | _ => none }
def TopWearsWrongFalsely : Prop := topWearsRow.holds Tryz.pinned (OpenSpec.ofChange topWearsWrong)

/-- 'wheelhousetop.TopTakes': WHATEVER THE INPUT: true; the input reads as it did. -/
def topTakesSpec : ChangeSpec := { name := "topTakes", fn := fun _ => fun
  | [d1, d2] => { results := [.lit (.bool true)], args := [d1, d2] }
  | _ => none }
def topTakesRow : OpenClaim := { program := "ytijegngfclkdaaagreatdoor", sum := "286c05436c3f718d5cfb9ef97b5248c0baad9c05c75722a93613b4726f01e214", func := "wheelhouse/wheelhousetop.TopTakes", spec := "topTakes", inPlace := ["internal/reflectlite.ValueOf", "(internal/reflectlite.Value).Type", "(internal/reflectlite.Value).IsNil", "internal/reflectlite.TypeOf", "(internal/reflectlite.Value).Elem", "(internal/reflectlite.Value).Set"], unfollowed := true, recurses := true, named := ["errors.errorType", "wheelhouse/fault.errProtocol", "wheelhouse/fault.errAccess", "wheelhouse/fault.errSize", "wheelhouse/fault.errValue", "wheelhouse/fault.errDevice"], apart := false, laid := [("errors.errorType", laid_errors_errorType), ("wheelhouse/fault.errProtocol", laid_wheelhouse_fault_errProtocol), ("wheelhouse/fault.errAccess", laid_wheelhouse_fault_errAccess), ("wheelhouse/fault.errSize", laid_wheelhouse_fault_errSize), ("wheelhouse/fault.errValue", laid_wheelhouse_fault_errValue), ("wheelhouse/fault.errDevice", laid_wheelhouse_fault_errDevice)] }
def TopTakesSaid : Prop := topTakesRow.holds Tryz.pinned (OpenSpec.ofChange topTakesSpec)

/-- ITS FALSE NEIGHBOUR: 'it returns false'. Refute it at one input. -/
def topTakesWrong : ChangeSpec := { name := "topTakes", fn := fun _ => fun
  | [d1, d2] => { results := [.lit (.bool false)], args := [d1, d2] }
  | _ => none }
def TopTakesWrongFalsely : Prop := topTakesRow.holds Tryz.pinned (OpenSpec.ofChange topTakesWrong)

/- THE SECOND FORM. 'bulk': how many values and letters a reading holds, each counted each time it is reached (what is shared counts as often as it is met; a slice's spare places count too). A statement '..UptoSaid' is the law's where the arguments, and the package variables that the reading takes, are together of bulk at most 1048576: NARROWER than '..Said'. Prove '..Said' where nothing that the law and all that it calls make is longer than what came in: it says more and counts as full. Else prove '..UptoSaid'. A law counts once. -/
mutual
def uptoBulk {H : Type} : DataW H → Nat
  | .lit (.string bytes) => bytes.length + 1
  | .lit _ => 1
  | .nil => 1
  | .ptr d => uptoBulk d + 1
  | .slice elems spare => uptoBulkAll elems + uptoBulkAll spare + 1
  | .agg parts => uptoBulkAll parts + 1
  | .iface _ d => uptoBulk d + 1
  | .map entries => uptoBulkEntries entries + 1
  | .held _ => 1
def uptoBulkAll {H : Type} : List (DataW H) → Nat
  | [] => 0
  | d :: r => uptoBulk d + uptoBulkAll r
def uptoBulkEntries {H : Type} : List (Lit × DataW H) → Nat
  | [] => 0
  | x :: r => uptoBulkEntry x + uptoBulkEntries r
def uptoBulkEntry {H : Type} : Lit × DataW H → Nat
  | (.string bytes, d) => bytes.length + uptoBulk d + 1
  | (_, d) => uptoBulk d + 1
 end
def uptoSmall : (H : Type) → List (DataW H) → Bool := fun _ ds => decide (uptoBulkAll ds ≤ 1048576)
def OpenSpec.upto (s : _root_.Go.ChangeSpec) : _root_.Go.OpenSpec := { _root_.Go.OpenSpec.ofChange s with cond := some uptoSmall }

/-- 'wheelhousetop.TopWears', WHERE WHAT IT READS IS OF BULK AT MOST 1048576: true; the input reads as it did. -/
def topWearsUptoRow : OpenClaim := { program := "ytijegngfclkdaaagreatdoor", sum := "286c05436c3f718d5cfb9ef97b5248c0baad9c05c75722a93613b4726f01e214", func := "wheelhouse/wheelhousetop.TopWears", spec := "topWears", inPlace := ["internal/reflectlite.ValueOf", "(internal/reflectlite.Value).Type", "(internal/reflectlite.Value).IsNil", "internal/reflectlite.TypeOf", "(internal/reflectlite.Value).Elem", "(internal/reflectlite.Value).Set"], unfollowed := true, recurses := true, named := ["errors.errorType", "wheelhouse/fault.errProtocol", "wheelhouse/fault.errAccess", "wheelhouse/fault.errSize", "wheelhouse/fault.errValue", "wheelhouse/fault.errDevice"], apart := false, laid := [("errors.errorType", laid_errors_errorType), ("wheelhouse/fault.errProtocol", laid_wheelhouse_fault_errProtocol), ("wheelhouse/fault.errAccess", laid_wheelhouse_fault_errAccess), ("wheelhouse/fault.errSize", laid_wheelhouse_fault_errSize), ("wheelhouse/fault.errValue", laid_wheelhouse_fault_errValue), ("wheelhouse/fault.errDevice", laid_wheelhouse_fault_errDevice)], narrowed := true }
def TopWearsUptoSaid : Prop := topWearsUptoRow.holds Tryz.pinned (OpenSpec.upto topWearsSpec)

/-- 'wheelhousetop.TopTakes', WHERE WHAT IT READS IS OF BULK AT MOST 1048576: true; the input reads as it did. -/
def topTakesUptoRow : OpenClaim := { program := "ytijegngfclkdaaagreatdoor", sum := "286c05436c3f718d5cfb9ef97b5248c0baad9c05c75722a93613b4726f01e214", func := "wheelhouse/wheelhousetop.TopTakes", spec := "topTakes", inPlace := ["internal/reflectlite.ValueOf", "(internal/reflectlite.Value).Type", "(internal/reflectlite.Value).IsNil", "internal/reflectlite.TypeOf", "(internal/reflectlite.Value).Elem", "(internal/reflectlite.Value).Set"], unfollowed := true, recurses := true, named := ["errors.errorType", "wheelhouse/fault.errProtocol", "wheelhouse/fault.errAccess", "wheelhouse/fault.errSize", "wheelhouse/fault.errValue", "wheelhouse/fault.errDevice"], apart := false, laid := [("errors.errorType", laid_errors_errorType), ("wheelhouse/fault.errProtocol", laid_wheelhouse_fault_errProtocol), ("wheelhouse/fault.errAccess", laid_wheelhouse_fault_errAccess), ("wheelhouse/fault.errSize", laid_wheelhouse_fault_errSize), ("wheelhouse/fault.errValue", laid_wheelhouse_fault_errValue), ("wheelhouse/fault.errDevice", laid_wheelhouse_fault_errDevice)], narrowed := true }
def TopTakesUptoSaid : Prop := topTakesUptoRow.holds Tryz.pinned (OpenSpec.upto topTakesSpec)

end Rows
end Go.Proofs.YtijegngfclkdaaaGreatDoor
