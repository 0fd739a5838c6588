/-
  Piece 41 of the proof.
  Conditions: none.
-/
import Derived.Test.YtijegngfclkdaaaGreatDoorQ39
set_option linter.unusedVariables false
set_option linter.unusedSimpArgs false
set_option maxHeartbeats 100000000
set_option maxRecDepth 100000
namespace Go.Proofs.YtijegngfclkdaaaGreatDoor
namespace Ev
open Go
def Kt:cW where
 f:=283
 args:=[(.w (.one (.a (.sl 176 0 1024 none 1))))]
 c:=181
 pre:=[(176,.row (rp 1024 ((.a (.v (.int .u8 255))))) 5)]
 v:=(.w (.one (.a (.v (.bool true)))))
 d:=181
 post:=[]
theorem Ou:cA (XP (aX aR [])) 1000000 Kt=true:=by kernel_rfl
theorem Ku:bj (XP aR) O0 Kt:=cL (l:=[]) (by simp) (by kernel_rfl) Ou
def JJ:cW where
 f:=63
 args:=[(.w (.one (.a (.ptr 155 0))))]
 c:=190
 pre:=[(107,.row ([so 152 0 2 11,so 154 0 2 1]) 131),
  (126,.row (u8 [1,0,0,0]) 5),
  (152,.row ([i6 4112,i6 1,(.a (.v (.string ⟨#[115,97,118,101]⟩))),i6 7,i6 4,bl false,bl false,i6 0,i6 0,i6 4294967295,so 126 0 4 1,i6 8192,i6 0,(.a (.v (.string ⟨#[116,101,120,116]⟩))),i6 9,i6 4,bl false,bl true,i6 20,i6 0,i6 0,ns]) 27),
  (154,.row ([so 129 0 4 1,ns]) 25),
  (155,.row (rp 13 (np) ++ [i6 5,pt 105 0,pt 107 0,pt 187 0,i6 0,bl false]) 110),
  (187,.row ([pt 156 0,ns,bl false,bl false]) 215)]
 v:=(.nN [])
 d:=345
 post:=[(107,.row ([so 152 0 2 11,so 154 0 2 1]) 131),
  (126,.row (u8 [1,0,0,0]) 5),
  (152,.row ([i6 4112,i6 1,(.a (.v (.string ⟨#[115,97,118,101]⟩))),i6 7,i6 4,bl false,bl false,i6 0,i6 0,i6 4294967295,so 126 0 4 1,i6 8192,i6 0,(.a (.v (.string ⟨#[116,101,120,116]⟩))),i6 9,i6 4,bl false,bl true,i6 20,i6 0,i6 0,ns]) 27),
  (154,.row ([so 190 0 4 1,ns]) 25),
  (155,.row ([pt 271 0,pt 270 0,pt 193 0,pt 192 0] ++ rp 9 (np) ++ [i6 5,pt 105 0,pt 107 0,pt 187 0,i6 127,bl true]) 110),
  (187,.row ([pt 156 0,ns,bl false,bl false]) 215),
  (190,.row (u8 [1,0,0,0]) 5),
  (268,.row ([pt 107 0,i6 0,i6 0,i6 0,i6 0,i6 0,ns,bl false,i6 0,i6 0,i6 0,bl false,bl false,bl false,bl false,(.a (.v (.int .u32 0))),(.a (.v (.int .u32 0))),ns,i6 0,i6 0,i6 0,(.a (.v (.int .u16 0)))]) 368),
  (269,.row (rp 6 (i6 0) ++ [pt 107 0,i6 0,i6 0,i6 0,ns,bl false]) 375),
  (270,.row ([pt 268 0,pt 269 0,i6 1541,i6 1413,i6 0]) 303),
  (271,.row ([i6 64,so 284 0 1 3,i6 0,bl false]) 232),
  (282,.row (u8 [0]) 5),
  (284,.row ([i6 1797,bl false,so 282 0 1 1]) 37)]
theorem Nk:cA (XP (aX aR [])) 1000000 JJ=true:=by kernel_rfl
theorem I8:bj (XP aR) O0 JJ:=cL (l:=[]) (by simp) (by kernel_rfl) Nk
def yE:cW where
 f:=39
 args:=[(.w (.one (.a (.ptr 155 0)))),(.w (.agg [(.a (.v (.int .i64 0))),(.a (.v (.int .i64 1541))),(.a (.v (.bool false))),(.a (.sl 382 0 8 none 1)),(.a (.v (.int .i64 0))),(.a (.v (.int .i64 0))),(.a (.v (.slice none 0 0))),(.a (.v (.int .i64 0))),(.a (.v (.int .u32 0)))]))]
 c:=388
 pre:=[(107,.row ([so 152 0 2 11,so 154 0 2 1]) 131),
  (152,.row ([i6 4112,i6 1,(.a (.v (.string ⟨#[115,97,118,101]⟩))),i6 7,i6 4,bl false,bl false,i6 0,i6 0,i6 4294967295,so 126 0 4 1,i6 8192,i6 0,(.a (.v (.string ⟨#[116,101,120,116]⟩))),i6 9,i6 4,bl false,bl true,i6 20,i6 0,i6 0,ns]) 27),
  (155,.row ([pt 271 0,pt 270 0,pt 193 0,pt 192 0] ++ rp 9 (np) ++ [i6 5,pt 105 0,pt 107 0,pt 187 0,i6 127,bl true]) 110),
  (187,.row ([pt 156 0,ns,bl false,bl false]) 215),
  (268,.row ([pt 107 0,i6 0,i6 0,i6 0,i6 0,i6 0,ns,bl false,i6 0,i6 0,i6 0,bl false,bl false,bl false,bl false,(.a (.v (.int .u32 0))),(.a (.v (.int .u32 0))),ns,i6 0,i6 0,i6 0,(.a (.v (.int .u16 0)))]) 368),
  (269,.row (rp 6 (i6 0) ++ [pt 107 0,i6 0,i6 0,i6 0,ns,bl false]) 375),
  (270,.row ([pt 268 0,pt 269 0,i6 1541,i6 1413,i6 0]) 303),
  (271,.row ([i6 64,so 284 3 0 3,i6 0,bl false]) 232),
  (284,.row ([i6 1797,bl false,so 282 0 1 1]) 37),
  (382,.row (u8 [198,0,32,0,5,0,0,0]) 5)]
 v:=(.w (.one (.a (.v (.int .i64 0)))))
 d:=568
 post:=[(107,.row ([so 152 0 2 11,so 154 0 2 1]) 131),
  (152,.row ([i6 4112,i6 1,(.a (.v (.string ⟨#[115,97,118,101]⟩))),i6 7,i6 4,bl false,bl false,i6 0,i6 0,i6 4294967295,so 126 0 4 1,i6 8192,i6 0,(.a (.v (.string ⟨#[116,101,120,116]⟩))),i6 9,i6 4,bl false,bl true,i6 20,i6 0,i6 0,ns]) 27),
  (155,.row ([pt 271 0,pt 270 0,pt 193 0,pt 192 0] ++ rp 9 (np) ++ [i6 5,pt 105 0,pt 107 0,pt 187 0,i6 127,bl true]) 110),
  (187,.row ([pt 156 0,ns,bl false,bl false]) 215),
  (268,.row ([pt 107 0,i6 0,i6 0,i6 0,i6 0,i6 0,ns,bl false,i6 0,i6 0,i6 0,bl false,bl false,bl false,bl false,(.a (.v (.int .u32 0))),(.a (.v (.int .u32 0))),ns,i6 0,i6 0,i6 0,(.a (.v (.int .u16 0)))]) 368),
  (269,.row ([i6 20,i6 5,i6 1,i6 0,i6 0,i6 0,pt 107 0,i6 1,i6 8192,i6 0,ns,bl true]) 375),
  (270,.row ([pt 268 0,pt 269 0,i6 1541,i6 1413,i6 50]) 303),
  (271,.row ([i6 64,so 563 0 1 3,i6 0,bl false]) 232),
  (561,.row (u8 [164,0,32,0,16,0,0,0]) 5),
  (563,.row ([i6 1413,bl false,so 561 0 8 1]) 37)]
theorem JE:cA (XP (aX aR [])) 1000000 yE=true:=by kernel_rfl
theorem DU:bj (XP aR) O0 yE:=cL (l:=[]) (by simp) (by kernel_rfl) JE
end Ev
end Go.Proofs.YtijegngfclkdaaaGreatDoor
