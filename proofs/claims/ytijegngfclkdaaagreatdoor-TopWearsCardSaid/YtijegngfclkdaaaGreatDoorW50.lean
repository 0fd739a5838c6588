/-
  Pieces of the proof: part 52 of 54.
  Conditions: none.
-/
import Derived.Test.YtijegngfclkdaaaGreatDoorRows
import Derived.Test.YtijegngfclkdaaaGreatDoorTie
import Derived.Test.YtijegngfclkdaaaGreatDoorCards
import Derived.SevenTiedAt
import Derived.ProofKit
set_option linter.unusedVariables false
set_option linter.unusedSimpArgs false
set_option maxHeartbeats 100000000
set_option maxRecDepth 100000
namespace Go.Proofs.YtijegngfclkdaaaGreatDoor.topWears
open Go.ChangeShapes Go.WideShapes Go.ChangeAt Go.RowKit
set_option maxRecDepth 100000
def Lifted:Prop:=(∀ (os:Os) (started:os.Started) (H:Type) (enc:TypeId×Value→H),ReturnsInHanded {} Tryz.checked os 3 .any (fun w args=>(Rows.topWearsSpec.pre enc Tryz.prog Tryz.f3 [] false w args∧laidMetH Tryz.prog Rows.topWearsRow.laid w)∧sizedMet enc Tryz.prog Tryz.f3 (OpenSpec.ofChange Rows.topWearsSpec) false w args) (Rows.topWearsSpec.post enc Tryz.prog Tryz.f3 false true false false))
theorem nameF:Tryz.prog.funcNamed Rows.topWearsRow.func=some 3:=by kernel_rfl
theorem closedF:joinedFacts Tryz.prog 3 Tryz.f3 Rows.topWearsSpec Rows.topWearsRow=true:=by
 unfold joinedFacts;simp only [Bool.and_eq_true]
 repeat' apply And.intro
 all_goals (as_aux_lemma=>kernel_rfl)
theorem wrapF:Tryz.f3.isWrapper Tryz.prog Rows.topWearsRow.wrapper Rows.topWearsRow.mainSum:=by
 unfold Func.isWrapper
 first | (rw [if_pos (by decide +kernel)]; as_aux_lemma=>kernel_rfl) | (rw [if_neg (by decide +kernel)]; exact ⟨rfl,rfl⟩)
theorem instF:Tryz.f3.isInstance Tryz.prog Rows.topWearsRow.origin Rows.topWearsRow.targs:=of_decide_eq_true (by kernel_rfl)
theorem laidF:(Rows.topWearsRow.laid.filter fun x=>Rows.topWearsRow.namedList.contains x.1)=Rows.topWearsRow.laid:=by kernel_rfl
theorem onceF:((Rows.topWearsRow.laid.map (·.1)).eraseDups.length == Rows.topWearsRow.laid.length)=true:=by kernel_rfl
theorem wfF:Rows.topWearsRow.wf (OpenSpec.ofChange Rows.topWearsSpec)=true:=by kernel_rfl
theorem textF:Rows.topWearsRow.wfByText (OpenSpec.ofChange Rows.topWearsSpec)=true:=by
 unfold OpenClaim.wfByText;rw [if_pos (show Rows.topWearsRow.unfollowed=true from rfl),laidF,onceF];show (Rows.topWearsRow.wf (OpenSpec.ofChange Rows.topWearsSpec) && true && _)=true;rw [wfF];rfl
theorem mainF : Tryz.prog.mainIs = some (true, "83085b0298ed7774a964b80ec3228fd87be6d917ffc6020e1cebf76f8de04c4b".toList) := by kernel_rfl
theorem looksF:true=Tryz.prog.looks []:=by kernel_rfl
theorem noGo:(Tryz.prog.funcs.any Func.goes)=false:=by kernel_rfl
theorem no_at (g:Nat):(Tryz.prog.funcs[g]?).any Func.goes=false:=by
 cases h:Tryz.prog.funcs[g]? with
 | none=>rfl
 | some fn =>
  have h2:=Array.any_eq_false.1 noGo;obtain ⟨hg,e⟩:=Array.getElem?_eq_some_iff.1 h;have h3:=h2 g hg;rw [e] at h3;show Func.goes fn=false;simpa using h3
theorem goes_no (f:Nat):Tryz.prog.goes f=false:=by
 have e1:((Tryz.prog.closure f).any fun g=>(Tryz.prog.funcs[g]?).any Func.goes)=false:=by
  rw [show (fun g=>(Tryz.prog.funcs[g]?).any Func.goes)=fun _=>false from funext no_at];simp
 unfold Program.goes;rw [e1,noGo,Bool.and_false,Bool.or_false]
theorem goesF:false=Rows.topWearsRow.goesBy Tryz.prog:=by
 unfold OpenClaim.goesBy Program.goesAt Program.goesFrom;rw [nameF,Option.any_some,goes_no,Bool.false_or];rfl
theorem standF:([5,22].all fun u=>!Tryz.prog.wantsStandIn u)=true:=by kernel_rfl
end Go.Proofs.YtijegngfclkdaaaGreatDoor.topWears
