/-
  Pieces of the proof: part 53 of 54.
  Conditions: none.
-/
import Derived.Test.YtijegngfclkdaaaGreatDoorTie
import Derived.Test.YtijegngfclkdaaaGreatDoorCards
import Derived.SevenTiedAt
import Derived.ProofKit
import Derived.Test.YtijegngfclkdaaaGreatDoorW50
set_option linter.unusedVariables false
set_option linter.unusedSimpArgs false
set_option maxHeartbeats 100000000
set_option maxRecDepth 100000
namespace Go.Proofs.YtijegngfclkdaaaGreatDoor.topWears
open Go.ChangeShapes Go.WideShapes Go.ChangeAt Go.RowKit
set_option maxRecDepth 100000
theorem over (hl:Lifted):Rows.TopWearsSaid :=
 OpenClaim.holds_of_wide 3 Tryz.f3 rfl rfl rfl rfl rfl rfl rfl ⟨rfl,rfl,rfl,rfl,rfl⟩ rfl rfl rfl rfl rfl nameF Tryz.func3 closedF instF wrapF (fun os started H enc _=>hl os started H enc)
theorem card (hl:Lifted):Rows.TopWearsCardSaid :=
 Claim7.holds_tied_plain_at .later [] [.handle, .sentinel, .sentinel, .sentinel, .sentinel, .sentinel] true (true, "83085b0298ed7774a964b80ec3228fd87be6d917ffc6020e1cebf76f8de04c4b") true
  (over hl) (fun _ h=>by cases h) textF (fun _ h=>by cases h) topWears_row_tie rfl ⟨rfl,rfl⟩ mainF rfl
  (fun f fn hf hfn=>by
   obtain rfl:f=3:=(Option.some.inj (nameF.symm.trans hf)).symm;obtain rfl:fn=Tryz.f3:=(Option.some.inj (Tryz.func3.symm.trans hfn)).symm;exact ⟨looksF,fun j t ht=>by
    rw [Tryz.params3] at ht;have hm:t∈[5,22]:=by simpa using Array.mem_of_getElem? ht
    exact (show Tryz.prog.wantsStandIn t=false by simpa using List.all_eq_true.1 standF t hm)⟩)
  goesF
end Go.Proofs.YtijegngfclkdaaaGreatDoor.topWears
