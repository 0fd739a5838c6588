/-
  Piece 40 of the proof.
  Conditions: none.
-/
import Derived.Test.YtijegngfclkdaaaGreatDoorQ39
set_option linter.unusedVariables false
set_option linter.unusedSimpArgs false
set_option maxHeartbeats 100000000
set_option maxRecDepth 100000
namespace Go.Proofs.YtijegngfclkdaaaGreatDoor
namespace Ev
open Go
def KA:cW where
 f:=283
 args:=[(.w (.one (.a (.sl 158 0 1024 none 1))))]
 c:=163
 pre:=[(158,.row (rp 1024 ((.a (.v (.int .u8 255))))) 5)]
 v:=(.w (.one (.a (.v (.bool true)))))
 d:=163
 post:=[]
theorem NP:cA (XP (aX aR [])) 1000000 KA=true:=by kernel_rfl
theorem Jq:bj (XP aR) O0 KA:=cL (l:=[]) (by simp) (by kernel_rfl) NP
def JP:cW where
 f:=283
 args:=[(.w (.one (.a (.sl 167 0 1024 none 1))))]
 c:=172
 pre:=[(167,.row (rp 1024 ((.a (.v (.int .u8 255))))) 5)]
 v:=(.w (.one (.a (.v (.bool true)))))
 d:=172
 post:=[]
theorem Oy:cA (XP (aX aR [])) 1000000 JP=true:=by kernel_rfl
theorem Kw:bj (XP aR) O0 JP:=cL (l:=[]) (by simp) (by kernel_rfl) Oy
end Ev
end Go.Proofs.YtijegngfclkdaaaGreatDoor
