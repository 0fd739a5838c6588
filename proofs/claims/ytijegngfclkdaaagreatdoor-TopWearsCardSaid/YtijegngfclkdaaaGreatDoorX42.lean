/-
  Pieces of the proof: part 42 of 54.
  Conditions: none.
-/
import Derived.Test.YtijegngfclkdaaaGreatDoorX40
set_option linter.unusedVariables false
set_option linter.unusedSimpArgs false
set_option maxHeartbeats 100000000
set_option maxRecDepth 100000
namespace Go.Proofs.YtijegngfclkdaaaGreatDoor.Ev
open Go
def al92:Memo where
 f:=283
 args:=[(.w (.one (.a (.sl 176 0 1024 none 1))))]
 c:=181
 pre:=[(176,.row (rp 1024 ((.a (.v (.int .u8 255))))) 5)]
 v:=(.w (.one (.a (.v (.bool true)))))
 d:=181
 post:=[]
theorem al92_b:memoB (XP (memoOrc noOrc [])) 1000000 al92=true:=by kernel_rfl
theorem al92_ok:MemoOK (XP noOrc) O0 al92:=al_ok (l:=[]) (by simp) (by kernel_rfl) al92_b
end Go.Proofs.YtijegngfclkdaaaGreatDoor.Ev
namespace Go.Proofs.YtijegngfclkdaaaGreatDoor.Ev
open Go
def al95:Memo where
 f:=63
 args:=[(.w (.one (.a (.ptr 155 0))))]
 c:=190
 pre:=[(107,.row ([so 152 0 2 11,so 154 0 2 1]) 131),
  (126,.row (u8 [1,0,0,0]) 5),
  (152,.row ([i6 4112,i6 1,(.a (.v (.string ⟨#[115,97,118,101]⟩))),i6 7,i6 4,bl false,bl false,i6 0,i6 0,i6 4294967295,so 126 0 4 1,i6 8192,i6 0,(.a (.v (.string ⟨#[116,101,120,116]⟩))),i6 9,i6 4,bl false,bl true,i6 20,i6 0,i6 0,ns]) 27),
  (154,.row ([so 129 0 4 1,ns]) 25),
  (155,.row (rp 13 (np) ++ [i6 5,pt 105 0,pt 107 0,pt 187 0,i6 0,bl false]) 110),
  (187,.row ([pt 156 0,ns,bl false,bl false]) 215)]
 v:=(.tup [])
 d:=345
 post:=[(107,.row ([so 152 0 2 11,so 154 0 2 1]) 131),
  (126,.row (u8 [1,0,0,0]) 5),
  (152,.row ([i6 4112,i6 1,(.a (.v (.string ⟨#[115,97,118,101]⟩))),i6 7,i6 4,bl false,bl false,i6 0,i6 0,i6 4294967295,so 126 0 4 1,i6 8192,i6 0,(.a (.v (.string ⟨#[116,101,120,116]⟩))),i6 9,i6 4,bl false,bl true,i6 20,i6 0,i6 0,ns]) 27),
  (154,.row ([so 190 0 4 1,ns]) 25),
  (155,.row ([pt 271 0,pt 270 0,pt 193 0,pt 192 0] ++ rp 9 (np) ++ [i6 5,pt 105 0,pt 107 0,pt 187 0,i6 127,bl true]) 110),
  (187,.row ([pt 156 0,ns,bl false,bl false]) 215),
  (190,.row (u8 [1,0,0,0]) 5),
  (268,.row ([pt 107 0,i6 0,i6 0,i6 0,i6 0,i6 0,ns,bl false,i6 0,i6 0,i6 0,bl false,bl false,bl false,bl false,(.a (.v (.int .u32 0))),(.a (.v (.int .u32 0))),ns,i6 0,i6 0,i6 0,(.a (.v (.int .u16 0)))]) 368),
  (269,.row (rp 6 (i6 0) ++ [pt 107 0,i6 0,i6 0,i6 0,ns,bl false]) 375),
  (270,.row ([pt 268 0,pt 269 0,i6 1541,i6 1413,i6 0]) 303),
  (271,.row ([i6 64,so 284 0 1 3,i6 0,bl false]) 232),
  (282,.row (u8 [0]) 5),
  (284,.row ([i6 1797,bl false,so 282 0 1 1]) 37)]
theorem al95_b:memoB (XP (memoOrc noOrc [])) 1000000 al95=true:=by kernel_rfl
theorem al95_ok:MemoOK (XP noOrc) O0 al95:=al_ok (l:=[]) (by simp) (by kernel_rfl) al95_b
def al423:Memo where
 f:=39
 args:=[(.w (.one (.a (.ptr 155 0)))),(.w (.agg [(.a (.v (.int .i64 0))),(.a (.v (.int .i64 1541))),(.a (.v (.bool false))),(.a (.sl 382 0 8 none 1)),(.a (.v (.int .i64 0))),(.a (.v (.int .i64 0))),(.a (.v (.slice none 0 0))),(.a (.v (.int .i64 0))),(.a (.v (.int .u32 0)))]))]
 c:=388
 pre:=[(107,.row ([so 152 0 2 11,so 154 0 2 1]) 131),
  (152,.row ([i6 4112,i6 1,(.a (.v (.string ⟨#[115,97,118,101]⟩))),i6 7,i6 4,bl false,bl false,i6 0,i6 0,i6 4294967295,so 126 0 4 1,i6 8192,i6 0,(.a (.v (.string ⟨#[116,101,120,116]⟩))),i6 9,i6 4,bl false,bl true,i6 20,i6 0,i6 0,ns]) 27),
  (155,.row ([pt 271 0,pt 270 0,pt 193 0,pt 192 0] ++ rp 9 (np) ++ [i6 5,pt 105 0,pt 107 0,pt 187 0,i6 127,bl true]) 110),
  (187,.row ([pt 156 0,ns,bl false,bl false]) 215),
  (268,.row ([pt 107 0,i6 0,i6 0,i6 0,i6 0,i6 0,ns,bl false,i6 0,i6 0,i6 0,bl false,bl false,bl false,bl false,(.a (.v (.int .u32 0))),(.a (.v (.int .u32 0))),ns,i6 0,i6 0,i6 0,(.a (.v (.int .u16 0)))]) 368),
  (269,.row (rp 6 (i6 0) ++ [pt 107 0,i6 0,i6 0,i6 0,ns,bl false]) 375),
  (270,.row ([pt 268 0,pt 269 0,i6 1541,i6 1413,i6 0]) 303),
  (271,.row ([i6 64,so 284 3 0 3,i6 0,bl false]) 232),
  (284,.row ([i6 1797,bl false,so 282 0 1 1]) 37),
  (382,.row (u8 [198,0,32,0,5,0,0,0]) 5)]
 v:=(.w (.one (.a (.v (.int .i64 0)))))
 d:=568
 post:=[(107,.row ([so 152 0 2 11,so 154 0 2 1]) 131),
  (152,.row ([i6 4112,i6 1,(.a (.v (.string ⟨#[115,97,118,101]⟩))),i6 7,i6 4,bl false,bl false,i6 0,i6 0,i6 4294967295,so 126 0 4 1,i6 8192,i6 0,(.a (.v (.string ⟨#[116,101,120,116]⟩))),i6 9,i6 4,bl false,bl true,i6 20,i6 0,i6 0,ns]) 27),
  (155,.row ([pt 271 0,pt 270 0,pt 193 0,pt 192 0] ++ rp 9 (np) ++ [i6 5,pt 105 0,pt 107 0,pt 187 0,i6 127,bl true]) 110),
  (187,.row ([pt 156 0,ns,bl false,bl false]) 215),
  (268,.row ([pt 107 0,i6 0,i6 0,i6 0,i6 0,i6 0,ns,bl false,i6 0,i6 0,i6 0,bl false,bl false,bl false,bl false,(.a (.v (.int .u32 0))),(.a (.v (.int .u32 0))),ns,i6 0,i6 0,i6 0,(.a (.v (.int .u16 0)))]) 368),
  (269,.row ([i6 20,i6 5,i6 1,i6 0,i6 0,i6 0,pt 107 0,i6 1,i6 8192,i6 0,ns,bl true]) 375),
  (270,.row ([pt 268 0,pt 269 0,i6 1541,i6 1413,i6 50]) 303),
  (271,.row ([i6 64,so 563 0 1 3,i6 0,bl false]) 232),
  (561,.row (u8 [164,0,32,0,16,0,0,0]) 5),
  (563,.row ([i6 1413,bl false,so 561 0 8 1]) 37)]
theorem al423_b:memoB (XP (memoOrc noOrc [])) 1000000 al423=true:=by kernel_rfl
theorem al423_ok:MemoOK (XP noOrc) O0 al423:=al_ok (l:=[]) (by simp) (by kernel_rfl) al423_b
end Go.Proofs.YtijegngfclkdaaaGreatDoor.Ev
