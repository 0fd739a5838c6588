/-
  No cell of these rows narrows 'for every input' (looked for: loops, veiled, ifaces, maps, wideKeys, modest, calm, conditions, laid).
  DERIVED. THE GIVEN ROWS OF THIS SEAT. 5 by the template 'for every input the law returns true; each argument reads behind the call as it read before'; 0 by the template 'total and deterministic' (their statements: YtmilljfgnphilaaTotals.lean).
  GIVEN WITH THE SEED: the statements are not yours to turn. If you find one false, say at which input.
  Laid BY PROGRAM, IN A SANDBOX (cutbox-rows.mjs): the forced cells as the released guide's own fill.sh prints them over the translation d218e4efef2904c4… (all of the seat's roots in one cut). By AI agents, Wed Nov 11 2026. No macro, syntax, notation, axiom, sorry.
-/
import Derived.Test.YtmilljfgnphilaaChecked
import GoSem.Claim
import GoSem.ClaimJoined
import GoSem.ClaimMapViews
import Derived.JoinedTies
import Derived.KernelRfl
namespace Go.Proofs.Ytmilljfgnphilaa
/- THE CELL 'sum', in the pinned program and in every row, IS THE sha256 OF THE DUMP (.gsa) THAT YtmilljfgnphilaaProg.lean LOADS. Nothing in Lean hashes anything: it is a label: what it is worth is what the hold of that sum in a sandbox is worth. -/
noncomputable def Try.pinned : Pinned := { name := "ytmilljfgnphilaa", sum := "d218e4efef2904c464ba9125c1ae0427d25e3c49e6d9207e6cbae8b9c631b4eb", checked := Try.checked }
namespace Rows
def none {H : Type} : Left H := { results := [], args := [] }

/-- 'wheelhouselaw02.Sum32Sums': WHATEVER THE INPUT: true; the input reads as it did. -/
def sum32SumsSpec : ChangeSpec := { name := "sum32Sums", fn := fun _ => fun
  | [d1, d2] => { results := [.lit (.bool true)], args := [d1, d2] }
  | _ => none }
def sum32SumsRow : OpenClaim := { program := "ytmilljfgnphilaa", sum := "d218e4efef2904c464ba9125c1ae0427d25e3c49e6d9207e6cbae8b9c631b4eb", func := "wheelhouse/wheelhouselaw02.Sum32Sums", spec := "sum32Sums", unfollowed := true, recurses := true, apart := false }
def Sum32SumsSaid : Prop := sum32SumsRow.holds Try.pinned (OpenSpec.ofChange sum32SumsSpec)

/-- ITS FALSE NEIGHBOUR: 'it returns false'. Refute it at one input. -/
def sum32SumsWrong : ChangeSpec := { name := "sum32Sums", fn := fun _ => fun
  | [d1, d2] => { results := [.lit (.bool false)], args := [d1, d2] }
  | _ => none }
def Sum32SumsWrongFalsely : Prop := sum32SumsRow.holds Try.pinned (OpenSpec.ofChange sum32SumsWrong)

/-- 'wheelhouselaw02.Sum32Seals': WHATEVER THE INPUT: true; the input reads as it did. -/
def sum32SealsSpec : ChangeSpec := { name := "sum32Seals", fn := fun _ => fun
  | [d] => { results := [.lit (.bool true)], args := [d] }
  | _ => none }
def sum32SealsRow : OpenClaim := { program := "ytmilljfgnphilaa", sum := "d218e4efef2904c464ba9125c1ae0427d25e3c49e6d9207e6cbae8b9c631b4eb", func := "wheelhouse/wheelhouselaw02.Sum32Seals", spec := "sum32Seals", unfollowed := true, recurses := true, apart := false }
def Sum32SealsSaid : Prop := sum32SealsRow.holds Try.pinned (OpenSpec.ofChange sum32SealsSpec)

/-- ITS FALSE NEIGHBOUR: 'it returns false'. Refute it at one input. -/
def sum32SealsWrong : ChangeSpec := { name := "sum32Seals", fn := fun _ => fun
  | [d] => { results := [.lit (.bool false)], args := [d] }
  | _ => none }
def Sum32SealsWrongFalsely : Prop := sum32SealsRow.holds Try.pinned (OpenSpec.ofChange sum32SealsWrong)

/-- 'wheelhouselaw02.Sum32Back': WHATEVER THE INPUT: true; the input reads as it did. -/
def sum32BackSpec : ChangeSpec := { name := "sum32Back", fn := fun _ => fun
  | [d1, d2, d3] => { results := [.lit (.bool true)], args := [d1, d2, d3] }
  | _ => none }
def sum32BackRow : OpenClaim := { program := "ytmilljfgnphilaa", sum := "d218e4efef2904c464ba9125c1ae0427d25e3c49e6d9207e6cbae8b9c631b4eb", func := "wheelhouse/wheelhouselaw02.Sum32Back", spec := "sum32Back", unfollowed := true, recurses := true, apart := false }
def Sum32BackSaid : Prop := sum32BackRow.holds Try.pinned (OpenSpec.ofChange sum32BackSpec)

/-- ITS FALSE NEIGHBOUR: 'it returns false'. Refute it at one input. -/
def sum32BackWrong : ChangeSpec := { name := "sum32Back", fn := fun _ => fun
  | [d1, d2, d3] => { results := [.lit (.bool false)], args := [d1, d2, d3] }
  | _ => none }
def Sum32BackWrongFalsely : Prop := sum32BackRow.holds Try.pinned (OpenSpec.ofChange sum32BackWrong)

/-- 'wheelhouselaw02.Sum32Turned': WHATEVER THE INPUT: true; the input reads as it did. -/
def sum32TurnedSpec : ChangeSpec := { name := "sum32Turned", fn := fun _ => fun
  | [d1, d2, d3] => { results := [.lit (.bool true)], args := [d1, d2, d3] }
  | _ => none }
def sum32TurnedRow : OpenClaim := { program := "ytmilljfgnphilaa", sum := "d218e4efef2904c464ba9125c1ae0427d25e3c49e6d9207e6cbae8b9c631b4eb", func := "wheelhouse/wheelhouselaw02.Sum32Turned", spec := "sum32Turned", unfollowed := true, recurses := true, apart := false }
def Sum32TurnedSaid : Prop := sum32TurnedRow.holds Try.pinned (OpenSpec.ofChange sum32TurnedSpec)

/-- ITS FALSE NEIGHBOUR: 'it returns false'. Refute it at one input. -/
def sum32TurnedWrong : ChangeSpec := { name := "sum32Turned", fn := fun _ => fun
  | [d1, d2, d3] => { results := [.lit (.bool false)], args := [d1, d2, d3] }
  | _ => none }
def Sum32TurnedWrongFalsely : Prop := sum32TurnedRow.holds Try.pinned (OpenSpec.ofChange sum32TurnedWrong)

/-- 'wheelhouselaw02.Sum32Linear': WHATEVER THE INPUT: true; the input reads as it did. -/
def sum32LinearSpec : ChangeSpec := { name := "sum32Linear", fn := fun _ => fun
  | [d1, d2, d3] => { results := [.lit (.bool true)], args := [d1, d2, d3] }
  | _ => none }
def sum32LinearRow : OpenClaim := { program := "ytmilljfgnphilaa", sum := "d218e4efef2904c464ba9125c1ae0427d25e3c49e6d9207e6cbae8b9c631b4eb", func := "wheelhouse/wheelhouselaw02.Sum32Linear", spec := "sum32Linear", unfollowed := true, recurses := true, apart := false }
def Sum32LinearSaid : Prop := sum32LinearRow.holds Try.pinned (OpenSpec.ofChange sum32LinearSpec)

/-- ITS FALSE NEIGHBOUR: 'it returns false'. Refute it at one input. -/
def sum32LinearWrong : ChangeSpec := { name := "sum32Linear", fn := fun _ => fun
  | [d1, d2, d3] => { results := [.lit (.bool false)], args := [d1, d2, d3] }
  | _ => none }
def Sum32LinearWrongFalsely : Prop := sum32LinearRow.holds Try.pinned (OpenSpec.ofChange sum32LinearWrong)

/- THE SECOND FORM. 'bulk': how many values and letters a reading holds, each counted each time it is reached (what is shared counts as often as it is met; a slice's spare places count too). A statement '..UptoSaid' is the law's where the arguments, and the package variables that the reading takes, are together of bulk at most 1048576: NARROWER than '..Said'. Prove '..Said' where nothing that the law and all that it calls make is longer than what came in: it says more and counts as full. Else prove '..UptoSaid'. A law counts once. -/
mutual
def uptoBulk {H : Type} : DataW H → Nat
  | .lit (.string bytes) => bytes.length + 1
  | .lit _ => 1
  | .nil => 1
  | .ptr d => uptoBulk d + 1
  | .slice elems spare => uptoBulkAll elems + uptoBulkAll spare + 1
  | .agg parts => uptoBulkAll parts + 1
  | .iface _ d => uptoBulk d + 1
  | .map entries => uptoBulkEntries entries + 1
  | .held _ => 1
def uptoBulkAll {H : Type} : List (DataW H) → Nat
  | [] => 0
  | d :: r => uptoBulk d + uptoBulkAll r
def uptoBulkEntries {H : Type} : List (Lit × DataW H) → Nat
  | [] => 0
  | x :: r => uptoBulkEntry x + uptoBulkEntries r
def uptoBulkEntry {H : Type} : Lit × DataW H → Nat
  | (.string bytes, d) => bytes.length + uptoBulk d + 1
  | (_, d) => uptoBulk d + 1
 end
def uptoSmall : (H : Type) → List (DataW H) → Bool := fun _ ds => decide (uptoBulkAll ds ≤ 1048576)
def OpenSpec.upto (s : _root_.Go.ChangeSpec) : _root_.Go.OpenSpec := { _root_.Go.OpenSpec.ofChange s with cond := some uptoSmall }

/-- 'wheelhouselaw02.Sum32Sums', WHERE WHAT IT READS IS OF BULK AT MOST 1048576: true; the input reads as it did. -/
def sum32SumsUptoRow : OpenClaim := { program := "ytmilljfgnphilaa", sum := "d218e4efef2904c464ba9125c1ae0427d25e3c49e6d9207e6cbae8b9c631b4eb", func := "wheelhouse/wheelhouselaw02.Sum32Sums", spec := "sum32Sums", unfollowed := true, recurses := true, apart := false, narrowed := true }
def Sum32SumsUptoSaid : Prop := sum32SumsUptoRow.holds Try.pinned (OpenSpec.upto sum32SumsSpec)

/-- 'wheelhouselaw02.Sum32Seals', WHERE WHAT IT READS IS OF BULK AT MOST 1048576: true; the input reads as it did. -/
def sum32SealsUptoRow : OpenClaim := { program := "ytmilljfgnphilaa", sum := "d218e4efef2904c464ba9125c1ae0427d25e3c49e6d9207e6cbae8b9c631b4eb", func := "wheelhouse/wheelhouselaw02.Sum32Seals", spec := "sum32Seals", unfollowed := true, recurses := true, apart := false, narrowed := true }
def Sum32SealsUptoSaid : Prop := sum32SealsUptoRow.holds Try.pinned (OpenSpec.upto sum32SealsSpec)

/-- 'wheelhouselaw02.Sum32Back', WHERE WHAT IT READS IS OF BULK AT MOST 1048576: true; the input reads as it did. -/
def sum32BackUptoRow : OpenClaim := { program := "ytmilljfgnphilaa", sum := "d218e4efef2904c464ba9125c1ae0427d25e3c49e6d9207e6cbae8b9c631b4eb", func := "wheelhouse/wheelhouselaw02.Sum32Back", spec := "sum32Back", unfollowed := true, recurses := true, apart := false, narrowed := true }
def Sum32BackUptoSaid : Prop := sum32BackUptoRow.holds Try.pinned (OpenSpec.upto sum32BackSpec)

/-- 'wheelhouselaw02.Sum32Turned', WHERE WHAT IT READS IS OF BULK AT MOST 1048576: true; the input reads as it did. -/
def sum32TurnedUptoRow : OpenClaim := { program := "ytmilljfgnphilaa", sum := "d218e4efef2904c464ba9125c1ae0427d25e3c49e6d9207e6cbae8b9c631b4eb", func := "wheelhouse/wheelhouselaw02.Sum32Turned", spec := "sum32Turned", unfollowed := true, recurses := true, apart := false, narrowed := true }
def Sum32TurnedUptoSaid : Prop := sum32TurnedUptoRow.holds Try.pinned (OpenSpec.upto sum32TurnedSpec)

/-- 'wheelhouselaw02.Sum32Linear', WHERE WHAT IT READS IS OF BULK AT MOST 1048576: true; the input reads as it did. -/
def sum32LinearUptoRow : OpenClaim := { program := "ytmilljfgnphilaa", sum := "d218e4efef2904c464ba9125c1ae0427d25e3c49e6d9207e6cbae8b9c631b4eb", func := "wheelhouse/wheelhouselaw02.Sum32Linear", spec := "sum32Linear", unfollowed := true, recurses := true, apart := false, narrowed := true }
def Sum32LinearUptoSaid : Prop := sum32LinearUptoRow.holds Try.pinned (OpenSpec.upto sum32LinearSpec)

end Rows
end Go.Proofs.Ytmilljfgnphilaa
