/-
  Pieces of the proof: part 41 of 54.
  Conditions: none.
-/
import Derived.Test.YtijegngfclkdaaaGreatDoorX40
set_option linter.unusedVariables false
set_option linter.unusedSimpArgs false
set_option maxHeartbeats 100000000
set_option maxRecDepth 100000
namespace Go.Proofs.YtijegngfclkdaaaGreatDoor.Ev
open Go
def al80:Memo where
 f:=283
 args:=[(.w (.one (.a (.sl 158 0 1024 none 1))))]
 c:=163
 pre:=[(158,.row (rp 1024 ((.a (.v (.int .u8 255))))) 5)]
 v:=(.w (.one (.a (.v (.bool true)))))
 d:=163
 post:=[]
theorem al80_b:memoB (XP (memoOrc noOrc [])) 1000000 al80=true:=by kernel_rfl
theorem al80_ok:MemoOK (XP noOrc) O0 al80:=al_ok (l:=[]) (by simp) (by kernel_rfl) al80_b
end Go.Proofs.YtijegngfclkdaaaGreatDoor.Ev
namespace Go.Proofs.YtijegngfclkdaaaGreatDoor.Ev
open Go
def al86:Memo where
 f:=283
 args:=[(.w (.one (.a (.sl 167 0 1024 none 1))))]
 c:=172
 pre:=[(167,.row (rp 1024 ((.a (.v (.int .u8 255))))) 5)]
 v:=(.w (.one (.a (.v (.bool true)))))
 d:=172
 post:=[]
theorem al86_b:memoB (XP (memoOrc noOrc [])) 1000000 al86=true:=by kernel_rfl
theorem al86_ok:MemoOK (XP noOrc) O0 al86:=al_ok (l:=[]) (by simp) (by kernel_rfl) al86_b
end Go.Proofs.YtijegngfclkdaaaGreatDoor.Ev
