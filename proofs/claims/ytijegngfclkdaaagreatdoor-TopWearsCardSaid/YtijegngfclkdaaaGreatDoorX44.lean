/-
  Pieces of the proof: part 44 of 54.
  Conditions: none.
-/
import Derived.Test.YtijegngfclkdaaaGreatDoorX40
set_option linter.unusedVariables false
set_option linter.unusedSimpArgs false
set_option maxHeartbeats 100000000
set_option maxRecDepth 100000
namespace Go.Proofs.YtijegngfclkdaaaGreatDoor.Ev
open Go
def al2964:Memo where
 f:=283
 args:=[(.w (.one (.a (.sl 2007 23 1001 none 1))))]
 c:=2023
 pre:=[(2007,.row (u8 [87,1,1,0,0,0,10,0,0,32,0,5,0,104,101,108,108,111,125,167,25,241,0] ++ rp 1001 ((.a (.v (.int .u8 255))))) 5)]
 v:=(.w (.one (.a (.v (.bool true)))))
 d:=2023
 post:=[]
theorem al2964_b:memoB (XP (memoOrc noOrc [])) 1000000 al2964=true:=by kernel_rfl
theorem al2964_ok:MemoOK (XP noOrc) O0 al2964:=al_ok (l:=[]) (by simp) (by kernel_rfl) al2964_b
end Go.Proofs.YtijegngfclkdaaaGreatDoor.Ev
namespace Go.Proofs.YtijegngfclkdaaaGreatDoor.Ev
open Go
def al2970:Memo where
 f:=283
 args:=[(.w (.one (.a (.sl 2027 0 1024 none 1))))]
 c:=2032
 pre:=[(2027,.row (rp 1024 ((.a (.v (.int .u8 255))))) 5)]
 v:=(.w (.one (.a (.v (.bool true)))))
 d:=2032
 post:=[]
theorem al2970_b:memoB (XP (memoOrc noOrc [])) 1000000 al2970=true:=by kernel_rfl
theorem al2970_ok:MemoOK (XP noOrc) O0 al2970:=al_ok (l:=[]) (by simp) (by kernel_rfl) al2970_b
end Go.Proofs.YtijegngfclkdaaaGreatDoor.Ev
