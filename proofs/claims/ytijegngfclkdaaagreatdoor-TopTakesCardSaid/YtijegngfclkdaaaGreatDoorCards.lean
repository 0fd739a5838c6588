/-
  DERIVED. GIVEN WITH THE SEED: THE CARDS: each row of YtijegngfclkdaaaGreatDoorRows.lean that lists a variable, with what it lists TIED to the program's text (the seventh form; the later family's looks); each row that meets fmt, with fmt's text TOLD by the authors' own Lean function (tested against real Go, not proved from fmt's source: count such statements apart). THE CARD IS WHAT COUNTS. Prove the row's statement (the work); the ties are given (YtijegngfclkdaaaGreatDoorTie.lean); close each card by the builder's one call (the guide's Derived/Test/ToyasCard.lean, 'card_holds'). Laid BY PROGRAM, IN A SANDBOX (cutbox-door.mjs). By AI agents, Wed Nov 11 2026. No macro, syntax, notation, axiom, sorry.
-/
import Derived.Test.YtijegngfclkdaaaGreatDoorRows
import GoSem.ClaimSeven
namespace Go.Proofs.YtijegngfclkdaaaGreatDoor
namespace Rows

/-- THE TIED CARD OF 'wheelhousetop.TopWears'. -/
def topWearsCard : Claim7 := { stood := { row := topWearsRow, standIns := [], harness := (true, "83085b0298ed7774a964b80ec3228fd87be6d917ffc6020e1cebf76f8de04c4b"), looks := true }, kinds := [], alts := [], laidByText := true, laidKinds := [.handle, .sentinel, .sentinel, .sentinel, .sentinel, .sentinel], laidTests := true, laidLooks := .later }
def TopWearsCardSaid : Prop := Claim7.holds Tryz.pinned (.plain (OpenSpec.ofChange topWearsSpec)) topWearsCard

/-- THE TIED CARD OF 'wheelhousetop.TopTakes'. -/
def topTakesCard : Claim7 := { stood := { row := topTakesRow, standIns := [], harness := (true, "83085b0298ed7774a964b80ec3228fd87be6d917ffc6020e1cebf76f8de04c4b"), looks := true }, kinds := [], alts := [], laidByText := true, laidKinds := [.handle, .sentinel, .sentinel, .sentinel, .sentinel, .sentinel], laidTests := true, laidLooks := .later }
def TopTakesCardSaid : Prop := Claim7.holds Tryz.pinned (.plain (OpenSpec.ofChange topTakesSpec)) topTakesCard

/-- THE SECOND FORM's CARD OF 'wheelhousetop.TopWears'. -/
def topWearsUptoCard : Claim7 := { stood := { row := topWearsUptoRow, standIns := [], harness := (true, "83085b0298ed7774a964b80ec3228fd87be6d917ffc6020e1cebf76f8de04c4b"), looks := true }, kinds := [], alts := [], laidByText := true, laidKinds := [.handle, .sentinel, .sentinel, .sentinel, .sentinel, .sentinel], laidTests := true, laidLooks := .later }
def TopWearsUptoCardSaid : Prop := Claim7.holds Tryz.pinned (.plain (OpenSpec.upto topWearsSpec)) topWearsUptoCard

/-- THE SECOND FORM's CARD OF 'wheelhousetop.TopTakes'. -/
def topTakesUptoCard : Claim7 := { stood := { row := topTakesUptoRow, standIns := [], harness := (true, "83085b0298ed7774a964b80ec3228fd87be6d917ffc6020e1cebf76f8de04c4b"), looks := true }, kinds := [], alts := [], laidByText := true, laidKinds := [.handle, .sentinel, .sentinel, .sentinel, .sentinel, .sentinel], laidTests := true, laidLooks := .later }
def TopTakesUptoCardSaid : Prop := Claim7.holds Tryz.pinned (.plain (OpenSpec.upto topTakesSpec)) topTakesUptoCard
end Rows
end Go.Proofs.YtijegngfclkdaaaGreatDoor
