/-
  Pieces of the proof: part 51 of 54.
  Conditions: none.
-/
import Derived.Test.YtijegngfclkdaaaGreatDoorRows
import Derived.ProofKit
import Derived.OpenShut
import Derived.ShutString
import Derived.ChangeOld
import Derived.LaidLaws
import Derived.LaidHandle
import Derived.LaidMore
import Derived.LaidSub
import Derived.Stop.Joined
import Derived.Test.YtijegngfclkdaaaGreatDoorW12
import Derived.Test.YtijegngfclkdaaaGreatDoorW29
set_option linter.unusedVariables false
set_option linter.unusedSimpArgs false
set_option maxHeartbeats 100000000
set_option maxRecDepth 100000
namespace Go.Proofs.YtijegngfclkdaaaGreatDoor.Ev
open Go Go.ChangeShapes Go.WideShapes Go.ChangeAt Go.RowKit
def laid6:List (String×DataW Unit):=Rows.topWearsRow.laid
theorem et6 : Tryz.prog.globalNamed "errors.errorType" = some 0 := by kernel_rfl
theorem rt6 {s:String} {u:TypeId} (h:(Tryz.prog.cutTypes.find? (·.1 == s)).map (·.2)=some u) (e:(Tryz.prog.cutTypes.find? (·.1 == s)).map (·.2)=some 474):u=474:=Option.some.inj (h.symm.trans e)
theorem oneRow6:((List.range Tryz.prog.types.size).filter fun t=>Tryz.prog.rowNamed t [101,114,114,111,114])=[415]:=by kernel_rfl
theorem han6:typeHandle Tryz.prog 415=.pointer (some ⟨6,415,none⟩):=by kernel_rfl
theorem handle_of_laid {W:World} (h:laidMetH Tryz.prog laid6 W):ErrG W:=by
 have h':=(laidMetH_iff.1 h).2;have hm : ("errors.errorType", (Rows.laid_errors_errorType : DataW Unit)) ∈ laid6.filter fun x => x.2.handleName?.isSome := List.mem_filter.2 ⟨List.mem_cons_self, by kernel_rfl⟩
 have h2:=h' _ hm;have hf:(Rows.laid_errors_errorType:DataW Unit).funcsIn?=none:=by kernel_rfl
 dsimp only at h2;rw [hf] at h2;obtain ⟨name,u,ty,e1,e2,e3,e4,e5⟩:=h2;have en:name=[101,114,114,111,114]:=(Option.some.inj ((show (Rows.laid_errors_errorType:DataW Unit).handleName?=some [101,114,114,111,114] by kernel_rfl).symm.trans e1)).symm;subst en;obtain rfl:=rt6 e2 (by kernel_rfl);have hq:ty∈(List.range Tryz.prog.types.size).filter fun t=>Tryz.prog.rowNamed t [101,114,114,111,114]:=List.mem_filter.2 ⟨List.mem_range.2 e3,e4⟩
 rw [oneRow6] at hq;obtain rfl:=List.mem_singleton.1 hq;rw [han6] at e5;have:=World.var?_cell et6 e5 0;unfold ErrG;simpa using this
theorem door_met (os:Os) (args:Array Value):laidMetH Tryz.prog laid6 ((World.doorLaid Tryz.prog 111 os).forCall (fun _ _=>0) ⟨#[],args,[]⟩).memory :=
 laidMetH_of_parts3 (fuel:=8) (laidMet_of_run' 8 (by kernel_rfl) (by kernel_rfl)) (by kernel_rfl) (by kernel_rfl)
end Go.Proofs.YtijegngfclkdaaaGreatDoor.Ev
