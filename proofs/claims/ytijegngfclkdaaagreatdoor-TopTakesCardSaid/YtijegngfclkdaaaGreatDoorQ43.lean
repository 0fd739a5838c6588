/-
  Piece 43 of the proof.
  Conditions: none.
-/
import Derived.Test.YtijegngfclkdaaaGreatDoorQ39
set_option linter.unusedVariables false
set_option linter.unusedSimpArgs false
set_option maxHeartbeats 100000000
set_option maxRecDepth 100000
namespace Go.Proofs.YtijegngfclkdaaaGreatDoor
namespace Ev
open Go
def sQ:cW where
 f:=283
 args:=[(.w (.one (.a (.sl 2007 23 1001 none 1))))]
 c:=2023
 pre:=[(2007,.row (u8 [87,1,1,0,0,0,10,0,0,32,0,5,0,104,101,108,108,111,125,167,25,241,0] ++ rp 1001 ((.a (.v (.int .u8 255))))) 5)]
 v:=(.w (.one (.a (.v (.bool true)))))
 d:=2023
 post:=[]
theorem EL:cA (XP (aX aR [])) 1000000 sQ=true:=by kernel_rfl
theorem BQ:bj (XP aR) O0 sQ:=cL (l:=[]) (by simp) (by kernel_rfl) EL
def rT:cW where
 f:=283
 args:=[(.w (.one (.a (.sl 2027 0 1024 none 1))))]
 c:=2032
 pre:=[(2027,.row (rp 1024 ((.a (.v (.int .u8 255))))) 5)]
 v:=(.w (.one (.a (.v (.bool true)))))
 d:=2032
 post:=[]
theorem EX:cA (XP (aX aR [])) 1000000 rT=true:=by kernel_rfl
theorem AW:bj (XP aR) O0 rT:=cL (l:=[]) (by simp) (by kernel_rfl) EX
end Ev
end Go.Proofs.YtijegngfclkdaaaGreatDoor
