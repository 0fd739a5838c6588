/-
  Piece 46 of the proof.
  Conditions: none.
-/
import Derived.Test.YtijegngfclkdaaaGreatDoorRows
import Derived.Test.YtijegngfclkdaaaGreatDoorTie
import Derived.Test.YtijegngfclkdaaaGreatDoorCards
import Derived.SevenTiedAt
import Derived.ProofKit
import Derived.Test.YtijegngfclkdaaaGreatDoorQ00
set_option linter.unusedVariables false
set_option linter.unusedSimpArgs false
set_option maxHeartbeats 100000000
set_option maxRecDepth 100000
namespace Go.Proofs.YtijegngfclkdaaaGreatDoor
namespace topTakes
open Go.ChangeShapes Go.WideShapes Go.ChangeAt Go.RowKit
set_option maxRecDepth 100000
def FX:Prop:=(∀ (os:Os) (started:os.Started) (H:Type) (enc:TypeId×Value->H),ReturnsInHanded {} Tryz.checked os 4 .any (fun w args=>(Rows.topTakesSpec.pre enc Tryz.prog Tryz.f4 [] false w args/\laidMetH Tryz.prog Rows.topTakesRow.laid w)/\sizedMet enc Tryz.prog Tryz.f4 (OpenSpec.ofChange Rows.topTakesSpec) false w args) (Rows.topTakesSpec.post enc Tryz.prog Tryz.f4 false true false false))
theorem GV:Tryz.prog.funcNamed Rows.topTakesRow.func=some 4:=by kernel_rfl
theorem Js:joinedFacts Tryz.prog 4 Tryz.f4 Rows.topTakesSpec Rows.topTakesRow=true:=by
 unfold joinedFacts;simp only [Bool.and_eq_true]
 repeat' apply And.intro
 all_goals (as_aux_lemma=>kernel_rfl)
theorem qU:Tryz.f4.isWrapper Tryz.prog Rows.topTakesRow.wrapper Rows.topTakesRow.mainSum:=by
 unfold Func.isWrapper
 first | (rw [if_pos (by decide +kernel)]; as_aux_lemma=>kernel_rfl) | (rw [if_neg (by decide +kernel)]; exact ⟨rfl,rfl⟩)
theorem Rl:Tryz.f4.isInstance Tryz.prog Rows.topTakesRow.origin Rows.topTakesRow.targs:=of_decide_eq_true (by kernel_rfl)
theorem Q8:(Rows.topTakesRow.laid.filter fun x=>Rows.topTakesRow.namedList.contains x.1)=Rows.topTakesRow.laid:=by kernel_rfl
theorem Rj:((Rows.topTakesRow.laid.map (·.1)).eraseDups.length == Rows.topTakesRow.laid.length)=true:=by kernel_rfl
theorem Y2:Rows.topTakesRow.wf (OpenSpec.ofChange Rows.topTakesSpec)=true:=by kernel_rfl
theorem H9:Rows.topTakesRow.wfByText (OpenSpec.ofChange Rows.topTakesSpec)=true:=by
 unfold OpenClaim.wfByText;rw [if_pos (show Rows.topTakesRow.unfollowed=true from rfl),Q8,Rj];show (Rows.topTakesRow.wf (OpenSpec.ofChange Rows.topTakesSpec) && true && _)=true;rw [Y2];rfl
theorem Qt : Tryz.prog.mainIs = some (true, "83085b0298ed7774a964b80ec3228fd87be6d917ffc6020e1cebf76f8de04c4b".toList) := by kernel_rfl
theorem MK:true=Tryz.prog.looks []:=by kernel_rfl
theorem P5:(Tryz.prog.funcs.any Func.goes)=false:=by kernel_rfl
theorem Rw (g:Nat):(Tryz.prog.funcs[g]?).any Func.goes=false:=by
 cases h:Tryz.prog.funcs[g]? with
 | none=>rfl
 | some fn =>
  have h2:=Array.any_eq_false.1 P5;obtain ⟨hg,e⟩:=Array.getElem?_eq_some_iff.1 h;have h3:=h2 g hg;rw [e] at h3;show Func.goes fn=false;simpa using h3
theorem JB (f:Nat):Tryz.prog.goes f=false:=by
 have e1:((Tryz.prog.closure f).any fun g=>(Tryz.prog.funcs[g]?).any Func.goes)=false:=by
  rw [show (fun g=>(Tryz.prog.funcs[g]?).any Func.goes)=fun _=>false from funext Rw];simp
 unfold Program.goes;rw [e1,P5,Bool.and_false,Bool.or_false]
theorem Rn:false=Rows.topTakesRow.goesBy Tryz.prog:=by
 unfold OpenClaim.goesBy Program.goesAt Program.goesFrom;rw [GV,Option.any_some,JB,Bool.false_or];rfl
theorem Nr:([57,25].all fun u=>!Tryz.prog.wantsStandIn u)=true:=by kernel_rfl
end topTakes
end Go.Proofs.YtijegngfclkdaaaGreatDoor
