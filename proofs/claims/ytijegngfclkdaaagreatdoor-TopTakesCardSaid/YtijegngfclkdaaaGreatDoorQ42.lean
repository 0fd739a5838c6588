/-
  Piece 42 of the proof.
  Conditions: none.
-/
import Derived.Test.YtijegngfclkdaaaGreatDoorQ41
set_option linter.unusedVariables false
set_option linter.unusedSimpArgs false
set_option maxHeartbeats 100000000
set_option maxRecDepth 100000
namespace Go.Proofs.YtijegngfclkdaaaGreatDoor
namespace Ev
open Go
def zv:cW where
 f:=66
 args:=[(.w (.one (.a (.ptr 348 0)))),(.w (.agg [(.a (.v (.int .i64 1413))),(.a (.v (.bool false))),(.a (.sl 561 0 8 none 1))]))]
 c:=578
 pre:=[(347,.map [⟨(.int .i64 16),(.int .i64 1),0⟩] 1),
  (348,.row ([i6 1413,i6 1541,(.a (.mp 347)),i6 0,i6 8192,i6 0,bl false,bl false,bl false,bl false,(.a (.v (.int .u32 0))),(.a (.v (.int .u32 0))),ns,i6 0,i6 0,i6 0,(.a (.v (.int .u16 0))),so 365 0 5 1,i6 0,i6 0,bl false,i6 0,i6 0,i6 0,bl false,bl false,bl false,bl false,(.a (.v (.int .u32 0))),(.a (.v (.int .u32 0))),ns,i6 0,i6 0,i6 0,(.a (.v (.int .u16 0))),(.a (.v (.int .u32 0))),ns]) 142),
  (365,.row (u8 [104,101,108,108,111]) 5),
  (561,.row (u8 [164,0,32,0,16,0,0,0]) 5)]
 v:=(.w (.one (.a (.sl 703 0 1 none 3))))
 d:=704
 post:=[(347,.map [⟨(.int .i64 17),(.int .i64 1),1⟩] 2),
  (348,.row ([i6 1413,i6 1541,(.a (.mp 347)),i6 0,i6 8192,i6 0,bl false,bl false,bl false,bl false,(.a (.v (.int .u32 0))),(.a (.v (.int .u32 0))),ns,i6 0,i6 0,i6 0,(.a (.v (.int .u16 0))),so 365 0 5 1,i6 0,i6 1,bl false,i6 0,i6 0,i6 0,bl false,bl false,bl false,bl false,(.a (.v (.int .u32 0))),(.a (.v (.int .u32 0))),ns,i6 0,i6 0,i6 0,(.a (.v (.int .u16 0))),(.a (.v (.int .u32 0))),ns]) 142),
  (365,.row (u8 [104,101,108,108,111]) 5),
  (701,.row (u8 [129,104,101,108,108,111,0,0]) 5),
  (703,.row ([i6 1541,bl false,so 701 0 8 1]) 37)]
theorem Jo:cA (XP (aX aR [])) 1000000 zv=true:=by kernel_rfl
theorem Gv:bj (XP aR) O0 zv:=cL (l:=[]) (by simp) (by kernel_rfl) Jo
def zy:cW where
 f:=102
 args:=[(.w (.one (.a (.sl 783 0 8 none 1))))]
 c:=801
 pre:=[(783,.row (u8 [162,1,16,0,0,0,0,0]) 5)]
 v:=(.nN [(.agg [(.a (.v (.int .i64 17))),(.a (.v (.int .i64 0))),(.a (.v (.int .i64 0))),(.a (.v (.bool false))),(.a (.v (.bool false))),(.a (.v (.bool false))),(.a (.v (.bool false))),(.a (.v (.int .u32 0))),(.a (.v (.int .u32 0))),(.a (.v (.slice none 0 0))),(.a (.v (.int .i64 1))),(.a (.v (.int .i64 16))),(.a (.v (.int .i64 0))),(.a (.v (.int .u16 0)))]),(.one (.a (.v (.int .i64 0))))])
 d:=925
 post:=[]
theorem Kg:cA (XP (aX aR [])) 1000000 zy=true:=by kernel_rfl
theorem DX:bj (XP aR) O0 zy:=cL (l:=[]) (by simp) (by kernel_rfl) Kg
def sL:cW where
 f:=263
 args:=[(.w (.one (.a (.ptr 270 0)))),(.w (.one (.a (.sl 940 0 8 none 1))))]
 c:=968
 pre:=[(269,.row ([i6 20,i6 5,i6 1,i6 0,i6 0,i6 0,pt 107 0,i6 2,i6 8192,i6 0,so 759 0 7 1,bl true]) 375),
  (270,.row ([pt 268 0,pt 269 0,i6 1541,i6 1413,i6 50]) 303),
  (940,.row (u8 [201,98,195,0,0,0,0,0]) 5)]
 v:=(.nN [(.agg [(.a (.v (.int .i64 7))),(.a (.v (.int .i64 0))),(.a (.v (.int .i64 0))),(.a (.v (.bool false))),(.a (.v (.bool false))),(.a (.v (.bool false))),(.a (.v (.bool false))),(.a (.v (.int .u32 0))),(.a (.v (.int .u32 0))),(.a (.v (.slice none 0 0))),(.a (.v (.int .i64 0))),(.a (.v (.int .i64 0))),(.a (.v (.int .i64 2))),(.a (.v (.int .u16 50018)))]),(.one (.a (.v (.int .u32 0))))])
 d:=1093
 post:=[(269,.row ([i6 20,i6 5,i6 1,i6 0,i6 0,i6 0,pt 107 0,i6 2,i6 8192,i6 0,so 759 0 7 1,bl true]) 375),
  (270,.row ([pt 268 0,pt 269 0,i6 1541,i6 1413,i6 50]) 303)]
theorem G5:cA (XP (aX aR [])) 1000000 sL=true:=by kernel_rfl
theorem Cc:bj (XP aR) O0 sL:=cL (l:=[]) (by simp) (by kernel_rfl) G5
def si:cW where
 f:=39
 args:=[(.w (.one (.a (.ptr 155 0)))),(.w (.agg [(.a (.v (.int .i64 0))),(.a (.v (.int .i64 1541))),(.a (.v (.bool false))),(.a (.sl 940 0 8 none 1)),(.a (.v (.int .i64 0))),(.a (.v (.int .i64 0))),(.a (.v (.slice none 0 0))),(.a (.v (.int .i64 0))),(.a (.v (.int .u32 0)))]))]
 c:=947
 pre:=[(107,.row ([so 152 0 2 11,so 154 0 2 1]) 131),
  (126,.row (u8 [1,0,0,0]) 5),
  (152,.row ([i6 4112,i6 1,(.a (.v (.string ⟨#[115,97,118,101]⟩))),i6 7,i6 4,bl false,bl false,i6 0,i6 0,i6 4294967295,so 126 0 4 1,i6 8192,i6 0,(.a (.v (.string ⟨#[116,101,120,116]⟩))),i6 9,i6 4,bl false,bl true,i6 20,i6 0,i6 0,ns]) 27),
  (154,.row ([so 190 0 4 1,ns]) 25),
  (155,.row ([pt 271 0,pt 270 0,pt 193 0,pt 192 0] ++ rp 9 (np) ++ [i6 5,pt 105 0,pt 107 0,pt 187 0,i6 127,bl true]) 110),
  (187,.row ([pt 156 0,ns,bl false,bl false]) 215),
  (190,.row (u8 [1,0,0,0]) 5),
  (268,.row ([pt 107 0,i6 0,i6 0,i6 0,i6 0,i6 0,ns,bl false,i6 0,i6 0,i6 0,bl false,bl false,bl false,bl false,(.a (.v (.int .u32 0))),(.a (.v (.int .u32 0))),ns,i6 0,i6 0,i6 0,(.a (.v (.int .u16 0)))]) 368),
  (269,.row ([i6 20,i6 5,i6 1,i6 0,i6 0,i6 0,pt 107 0,i6 2,i6 8192,i6 0,so 759 0 7 1,bl true]) 375),
  (270,.row ([pt 268 0,pt 269 0,i6 1541,i6 1413,i6 50]) 303),
  (271,.row ([i6 64,so 785 3 0 3,i6 0,bl false]) 232),
  (759,.row (u8 [104,101,108,108,111,0,0]) 5),
  (785,.row ([i6 1413,bl false,so 783 0 8 1]) 37),
  (940,.row (u8 [201,98,195,0,0,0,0,0]) 5)]
 v:=(.w (.one (.a (.v (.int .i64 0)))))
 d:=1207
 post:=[(107,.row ([so 152 0 2 11,so 154 0 2 1]) 131),
  (126,.row (u8 [1,0,0,0]) 5),
  (152,.row ([i6 4112,i6 1,(.a (.v (.string ⟨#[115,97,118,101]⟩))),i6 7,i6 4,bl false,bl false,i6 0,i6 0,i6 4294967295,so 126 0 4 1,i6 8192,i6 0,(.a (.v (.string ⟨#[116,101,120,116]⟩))),i6 9,i6 4,bl false,bl true,i6 20,i6 0,i6 0,ns]) 27),
  (154,.row ([so 190 0 4 1,so 1179 0 5 1]) 25),
  (155,.row ([pt 271 0,pt 270 0,pt 193 0,pt 192 0] ++ rp 9 (np) ++ [i6 5,pt 105 0,pt 107 0,pt 187 0,i6 127,bl true]) 110),
  (187,.row ([pt 156 0,ns,bl false,bl false]) 215),
  (190,.row (u8 [1,0,0,0]) 5),
  (268,.row ([pt 107 0,i6 0,i6 0,i6 0,i6 0,i6 0,ns,bl false,i6 0,i6 0,i6 0,bl false,bl false,bl false,bl false,(.a (.v (.int .u32 0))),(.a (.v (.int .u32 0))),ns,i6 0,i6 0,i6 0,(.a (.v (.int .u16 0)))]) 368),
  (269,.row ([i6 20,i6 5,i6 1,i6 0,i6 0,i6 0,pt 107 0,i6 0,i6 8192,i6 0,so 759 0 7 1,bl true]) 375),
  (270,.row ([pt 268 0,pt 269 0,i6 1541,i6 1413,i6 50]) 303),
  (271,.row ([i6 64,so 1202 0 1 3,i6 0,bl false]) 232),
  (1179,.row (u8 [104,101,108,108,111]) 5),
  (1200,.row (u8 [161] ++ rp 7 ((.a (.v (.int .u8 0))))) 5),
  (1202,.row ([i6 1413,bl false,so 1200 0 8 1]) 37)]
theorem G7:cA (XP (aX aR [sL])) 1000000 si=true:=by kernel_rfl
theorem Ad:bj (XP aR) O0 si:=cL (l:=[sL]) (by simp only [List.mem_singleton,forall_eq]; exact Cc) (by kernel_rfl) G7
def sw:cW where
 f:=203
 args:=[(.w (.one (.a (.v (.int .i64 17))))),(.w (.one (.a (.sl 1200 0 8 none 1))))]
 c:=1324
 pre:=[(1200,.row (u8 [161] ++ rp 7 ((.a (.v (.int .u8 0))))) 5)]
 v:=(.w (.agg [(.a (.v (.int .i64 17))),(.a (.v (.int .i64 0))),(.a (.v (.int .i64 0))),(.a (.v (.bool false))),(.a (.v (.bool false))),(.a (.v (.bool false))),(.a (.v (.bool false))),(.a (.v (.int .u32 0))),(.a (.v (.int .u32 0))),(.a (.v (.slice none 0 0))),(.a (.v (.int .i64 0))),(.a (.v (.int .i64 0))),(.a (.v (.int .i64 0))),(.a (.v (.int .u16 0)))]))
 d:=1330
 post:=[(1200,.row (u8 [161] ++ rp 7 ((.a (.v (.int .u8 0))))) 5)]
theorem Ej:cA (XP (aX aR [])) 1000000 sw=true:=by kernel_rfl
theorem Ao:bj (XP aR) O0 sw:=cL (l:=[]) (by simp) (by kernel_rfl) Ej
def sA:cW where
 f:=102
 args:=[(.w (.one (.a (.sl 1200 0 8 none 1))))]
 c:=1218
 pre:=[(1200,.row (u8 [161] ++ rp 7 ((.a (.v (.int .u8 0))))) 5)]
 v:=(.nN [(.agg [(.a (.v (.int .i64 18))),(.a (.v (.int .i64 0))),(.a (.v (.int .i64 0))),(.a (.v (.bool false))),(.a (.v (.bool false))),(.a (.v (.bool false))),(.a (.v (.bool false))),(.a (.v (.int .u32 0))),(.a (.v (.int .u32 0))),(.a (.v (.slice none 0 0))),(.a (.v (.int .i64 0))),(.a (.v (.int .i64 0))),(.a (.v (.int .i64 0))),(.a (.v (.int .u16 0)))]),(.one (.a (.v (.int .i64 0))))])
 d:=1358
 post:=[]
theorem Fh:cA (XP (aX aR [sw])) 1000000 sA=true:=by kernel_rfl
theorem Ac:bj (XP aR) O0 sA:=cL (l:=[sw]) (by simp only [List.mem_singleton,forall_eq]; exact Ao) (by kernel_rfl) Fh
def ze:cW where
 f:=12
 args:=[(.w (.one (.a (.ptr 349 0)))),(.w (.one (.a (.v (.int .i64 8192))))),(.w (.one (.a (.v (.int .i64 0))))),(.w (.one (.a (.sl 364 0 5 (some 5) 1)))),(.w (.one (.a (.v (.int .i64 2)))))]
 c:=365
 pre:=[(107,.row ([so 152 0 2 11,so 154 0 2 1]) 131),
  (126,.row (u8 [1,0,0,0]) 5),
  (152,.row ([i6 4112,i6 1,(.a (.v (.string ⟨#[115,97,118,101]⟩))),i6 7,i6 4,bl false,bl false,i6 0,i6 0,i6 4294967295,so 126 0 4 1,i6 8192,i6 0,(.a (.v (.string ⟨#[116,101,120,116]⟩))),i6 9,i6 4,bl false,bl true,i6 20,i6 0,i6 0,ns]) 27),
  (154,.row ([so 190 0 4 1,ns]) 25),
  (155,.row ([pt 271 0,pt 270 0,pt 193 0,pt 192 0] ++ rp 9 (np) ++ [i6 5,pt 105 0,pt 107 0,pt 187 0,i6 127,bl true]) 110),
  (187,.row ([pt 156 0,ns,bl false,bl false]) 215),
  (190,.row (u8 [1,0,0,0]) 5),
  (268,.row ([pt 107 0,i6 0,i6 0,i6 0,i6 0,i6 0,ns,bl false,i6 0,i6 0,i6 0,bl false,bl false,bl false,bl false,(.a (.v (.int .u32 0))),(.a (.v (.int .u32 0))),ns,i6 0,i6 0,i6 0,(.a (.v (.int .u16 0)))]) 368),
  (269,.row (rp 6 (i6 0) ++ [pt 107 0,i6 0,i6 0,i6 0,ns,bl false]) 375),
  (270,.row ([pt 268 0,pt 269 0,i6 1541,i6 1413,i6 0]) 303),
  (271,.row ([i6 64,so 284 3 0 3,i6 0,bl false]) 232),
  (284,.row ([i6 1797,bl false,so 282 0 1 1]) 37),
  (347,.map [] 0),
  (348,.row ([i6 1413,i6 1541,(.a (.mp 347)),i6 0,i6 0,i6 0,bl false,bl false,bl false,bl false,(.a (.v (.int .u32 0))),(.a (.v (.int .u32 0))),ns,i6 0,i6 0,i6 0,(.a (.v (.int .u16 0))),ns,i6 0,i6 0,bl false,i6 0,i6 0,i6 0,bl false,bl false,bl false,bl false,(.a (.v (.int .u32 0))),(.a (.v (.int .u32 0))),ns,i6 0,i6 0,i6 0,(.a (.v (.int .u16 0))),(.a (.v (.int .u32 0))),ns]) 142),
  (349,.row ([pt 155 0,pt 348 0,so 359 0 1 3]) 89),
  (359,.row ([i6 1797,bl false,so 357 0 1 1]) 37),
  (364,.row (u8 [104,101,108,108,111]) 5)]
 v:=(.nN [(.one (.a (.v (.int .u32 0)))),(.one (.a (.v (.bool true))))])
 d:=1364
 post:=[(107,.row ([so 152 0 2 11,so 154 0 2 1]) 131),
  (126,.row (u8 [1,0,0,0]) 5),
  (152,.row ([i6 4112,i6 1,(.a (.v (.string ⟨#[115,97,118,101]⟩))),i6 7,i6 4,bl false,bl false,i6 0,i6 0,i6 4294967295,so 126 0 4 1,i6 8192,i6 0,(.a (.v (.string ⟨#[116,101,120,116]⟩))),i6 9,i6 4,bl false,bl true,i6 20,i6 0,i6 0,ns]) 27),
  (154,.row ([so 190 0 4 1,so 1179 0 5 1]) 25),
  (155,.row ([pt 271 0,pt 270 0,pt 193 0,pt 192 0] ++ rp 9 (np) ++ [i6 5,pt 105 0,pt 107 0,pt 187 0,i6 127,bl true]) 110),
  (187,.row ([pt 156 0,ns,bl false,bl false]) 215),
  (190,.row (u8 [1,0,0,0]) 5),
  (268,.row ([pt 107 0,i6 0,i6 0,i6 0,i6 0,i6 0,ns,bl false,i6 0,i6 0,i6 0,bl false,bl false,bl false,bl false,(.a (.v (.int .u32 0))),(.a (.v (.int .u32 0))),ns,i6 0,i6 0,i6 0,(.a (.v (.int .u16 0)))]) 368),
  (269,.row ([i6 20,i6 5,i6 1,i6 0,i6 0,i6 0,pt 107 0,i6 0,i6 8192,i6 0,so 759 0 7 1,bl true]) 375),
  (270,.row ([pt 268 0,pt 269 0,i6 1541,i6 1413,i6 50]) 303),
  (271,.row ([i6 64,so 1202 3 0 3,i6 0,bl false]) 232),
  (347,.map [] 3),
  (348,.row ([i6 1413,i6 1541,(.a (.mp 347)),i6 0,i6 8192,i6 0,bl false,bl false,bl false,bl false,(.a (.v (.int .u32 0))),(.a (.v (.int .u32 0))),ns,i6 0,i6 0,i6 0,(.a (.v (.int .u16 0))),so 365 0 5 1,i6 1,i6 1,bl false,i6 0,i6 0,i6 0,bl false,bl false,bl false,bl false,(.a (.v (.int .u32 0))),(.a (.v (.int .u32 0))),ns,i6 0,i6 0,i6 0,(.a (.v (.int .u16 0))),(.a (.v (.int .u32 0))),ns]) 142),
  (349,.row ([pt 155 0,pt 348 0,so 1216 0 4 3]) 89),
  (1179,.row (u8 [104,101,108,108,111]) 5),
  (1202,.row ([i6 1413,bl false,so 1200 0 8 1]) 37),
  (1216,.row ([i6 1797,bl false,so 357 0 1 1,i6 1413,bl false,so 575 0 8 1,i6 1413,bl false,so 797 0 8 1,i6 1413,bl false,so 1214 0 8 1]) 37)]
theorem JY:cA (XP (aX aR [yE,zv,zy,si,sA])) 1000000 ze=true:=by kernel_rfl
theorem EY:bj (XP aR) O0 ze:=cL (l:=[yE,zv,zy,si,sA]) (by simp only [List.forall_mem_cons,List.not_mem_nil,false_implies,implies_true,and_true]; exact ⟨DU,Gv,DX,Ad,Ac⟩) (by kernel_rfl) JY
def sG:cW where
 f:=39
 args:=[(.w (.one (.a (.ptr 155 0)))),(.w (.agg [(.a (.v (.int .i64 0))),(.a (.v (.int .i64 1541))),(.a (.v (.bool false))),(.a (.sl 1380 0 8 none 1)),(.a (.v (.int .i64 0))),(.a (.v (.int .i64 0))),(.a (.v (.slice none 0 0))),(.a (.v (.int .i64 0))),(.a (.v (.int .u32 0)))]))]
 c:=1386
 pre:=[(107,.row ([so 152 0 2 11,so 154 0 2 1]) 131),
  (126,.row (u8 [1,0,0,0]) 5),
  (152,.row ([i6 4112,i6 1,(.a (.v (.string ⟨#[115,97,118,101]⟩))),i6 7,i6 4,bl false,bl false,i6 0,i6 0,i6 4294967295,so 126 0 4 1,i6 8192,i6 0,(.a (.v (.string ⟨#[116,101,120,116]⟩))),i6 9,i6 4,bl false,bl true,i6 20,i6 0,i6 0,ns]) 27),
  (155,.row ([pt 271 0,pt 270 0,pt 193 0,pt 192 0] ++ rp 9 (np) ++ [i6 5,pt 105 0,pt 107 0,pt 187 0,i6 127,bl true]) 110),
  (187,.row ([pt 156 0,ns,bl false,bl false]) 215),
  (268,.row ([pt 107 0,i6 0,i6 0,i6 0,i6 0,i6 0,ns,bl false,i6 0,i6 0,i6 0,bl false,bl false,bl false,bl false,(.a (.v (.int .u32 0))),(.a (.v (.int .u32 0))),ns,i6 0,i6 0,i6 0,(.a (.v (.int .u16 0)))]) 368),
  (269,.row ([i6 20,i6 5,i6 1,i6 0,i6 0,i6 0,pt 107 0,i6 0,i6 8192,i6 0,so 759 0 7 1,bl true]) 375),
  (270,.row ([pt 268 0,pt 269 0,i6 1541,i6 1413,i6 50]) 303),
  (271,.row ([i6 64,so 1202 3 0 3,i6 0,bl false]) 232),
  (1202,.row ([i6 1413,bl false,so 1200 0 8 1]) 37),
  (1380,.row (u8 [33,16,16,1,4,0,0,0]) 5)]
 v:=(.w (.one (.a (.v (.int .i64 0)))))
 d:=1510
 post:=[(107,.row ([so 152 0 2 11,so 154 0 2 1]) 131),
  (126,.row (u8 [1,0,0,0]) 5),
  (152,.row ([i6 4112,i6 1,(.a (.v (.string ⟨#[115,97,118,101]⟩))),i6 7,i6 4,bl false,bl false,i6 0,i6 0,i6 4294967295,so 126 0 4 1,i6 8192,i6 0,(.a (.v (.string ⟨#[116,101,120,116]⟩))),i6 9,i6 4,bl false,bl true,i6 20,i6 0,i6 0,ns]) 27),
  (155,.row ([pt 271 0,pt 270 0,pt 193 0,pt 192 0] ++ rp 9 (np) ++ [i6 5,pt 105 0,pt 107 0,pt 187 0,i6 127,bl true]) 110),
  (187,.row ([pt 156 0,ns,bl false,bl false]) 215),
  (268,.row ([pt 107 0,i6 1,i6 4112,i6 1,i6 4,i6 4,ns,bl false,i6 0,i6 0,i6 0,bl false,bl false,bl false,bl false,(.a (.v (.int .u32 0))),(.a (.v (.int .u32 0))),ns,i6 0,i6 0,i6 0,(.a (.v (.int .u16 0)))]) 368),
  (269,.row ([i6 20,i6 5,i6 1,i6 0,i6 0,i6 0,pt 107 0,i6 0,i6 8192,i6 0,so 759 0 7 1,bl true]) 375),
  (270,.row ([pt 268 0,pt 269 0,i6 1541,i6 1413,i6 50]) 303),
  (271,.row ([i6 64,so 1505 0 1 3,i6 0,bl false]) 232),
  (1503,.row (u8 [96,16,16,1,0,0,0,0]) 5),
  (1505,.row ([i6 1413,bl false,so 1503 0 8 1]) 37)]
theorem Gy:cA (XP (aX aR [])) 1000000 sG=true:=by kernel_rfl
theorem AL:bj (XP aR) O0 sG:=cL (l:=[]) (by simp) (by kernel_rfl) Gy
def sV:cW where
 f:=374
 args:=[(.w (.one (.a (.ptr 156 0)))),(.w (.one (.a (.v (.int .i64 1))))),(.w (.one (.a (.sl 1796 0 10 none 1))))]
 c:=1803
 pre:=[(103,.row (rp 3072 ((.a (.v (.int .u8 255))))) 5),
  (104,.row ([i6 0,i6 0,i6 0]) 3),
  (105,.row ([so 103 0 3072 1,sl 104 0 3 3 1,i6 9,bl false,i6 (-1),(.a (.v (.int .u32 0))),i6 0]) 93),
  (156,.row ([so 183 0 3 6,i6 0,bl false,pt 105 0,bl false]) 263),
  (183,.row ([i6 0,(.a (.v (.int .u32 0))),ns,i6 0,i6 0,bl true,i6 0,(.a (.v (.int .u32 0))),ns,i6 0,i6 0,bl true,i6 0,(.a (.v (.int .u32 0))),ns,i6 0,i6 0,bl true]) 265),
  (1796,.row (u8 [0,32,0,5,0,104,101,108,108,111]) 5)]
 v:=(.w (.one (.a (.v (.int .i64 0)))))
 d:=1896
 post:=[(103,.row (u8 [87,1,1,0,0,0,10,0,0,32,0,5,0,104,101,108,108,111,125,167,25,241,0] ++ rp 3049 ((.a (.v (.int .u8 255))))) 5),
  (105,.row ([so 103 0 3072 1,sl 104 0 3 3 1,i6 9,bl false,i6 (-1),(.a (.v (.int .u32 0))),i6 23]) 93)]
theorem Gl:cA (XP (aX aR [])) 1000000 sV=true:=by kernel_rfl
theorem zU:bj (XP aR) O0 sV:=cL (l:=[]) (by simp) (by kernel_rfl) Gl
def rN:cW where
 f:=160
 args:=[(.w (.one (.a (.ptr 155 0)))),(.w (.agg [(.a (.v (.int .i64 1541))),(.a (.v (.bool false))),(.a (.sl 1573 0 8 none 1))]))]
 c:=1598
 pre:=[(103,.row (rp 3072 ((.a (.v (.int .u8 255))))) 5),
  (104,.row ([i6 0,i6 0,i6 0]) 3),
  (105,.row ([so 103 0 3072 1,sl 104 0 3 3 1,i6 9,bl false,i6 (-1),(.a (.v (.int .u32 0))),i6 0]) 93),
  (107,.row ([so 152 0 2 11,so 154 0 2 1]) 131),
  (126,.row (u8 [1,0,0,0]) 5),
  (152,.row ([i6 4112,i6 1,(.a (.v (.string ⟨#[115,97,118,101]⟩))),i6 7,i6 4,bl false,bl false,i6 0,i6 0,i6 4294967295,so 126 0 4 1,i6 8192,i6 0,(.a (.v (.string ⟨#[116,101,120,116]⟩))),i6 9,i6 4,bl false,bl true,i6 20,i6 0,i6 0,ns]) 27),
  (154,.row ([so 190 0 4 1,so 1179 0 5 1]) 25),
  (155,.row ([pt 271 0,pt 270 0,pt 193 0,pt 192 0] ++ rp 9 (np) ++ [i6 5,pt 105 0,pt 107 0,pt 187 0,i6 127,bl true]) 110),
  (156,.row ([so 183 0 3 6,i6 0,bl false,pt 105 0,bl false]) 263),
  (183,.row ([i6 0,(.a (.v (.int .u32 0))),ns,i6 0,i6 0,bl true,i6 0,(.a (.v (.int .u32 0))),ns,i6 0,i6 0,bl true,i6 0,(.a (.v (.int .u32 0))),ns,i6 0,i6 0,bl true]) 265),
  (187,.row ([pt 156 0,ns,bl false,bl false]) 215),
  (190,.row (u8 [1,0,0,0]) 5),
  (268,.row ([pt 107 0,i6 1,i6 4112,i6 1,i6 4,i6 4,ns,bl false,i6 0,i6 0,i6 0,bl false,bl false,bl false,bl false,(.a (.v (.int .u32 0))),(.a (.v (.int .u32 0))),ns,i6 0,i6 0,i6 0,(.a (.v (.int .u16 0)))]) 368),
  (269,.row ([i6 20,i6 5,i6 1,i6 0,i6 0,i6 0,pt 107 0,i6 0,i6 8192,i6 0,so 759 0 7 1,bl true]) 375),
  (270,.row ([pt 268 0,pt 269 0,i6 1541,i6 1413,i6 50]) 303),
  (271,.row ([i6 64,so 1505 3 0 3,i6 0,bl false]) 232),
  (1179,.row (u8 [104,101,108,108,111]) 5),
  (1505,.row ([i6 1413,bl false,so 1503 0 8 1]) 37),
  (1573,.row (u8 [7,115,97,118,101,0,0,0]) 5)]
 v:=(.nN [])
 d:=1927
 post:=[(103,.row (u8 [87,1,1,0,0,0,10,0,0,32,0,5,0,104,101,108,108,111,125,167,25,241,0] ++ rp 3049 ((.a (.v (.int .u8 255))))) 5),
  (105,.row ([so 103 0 3072 1,sl 104 0 3 3 1,i6 9,bl false,i6 (-1),(.a (.v (.int .u32 0))),i6 23]) 93),
  (107,.row ([so 152 0 2 11,so 154 0 2 1]) 131),
  (126,.row (u8 [1,0,0,0]) 5),
  (152,.row ([i6 4112,i6 1,(.a (.v (.string ⟨#[115,97,118,101]⟩))),i6 7,i6 4,bl false,bl false,i6 0,i6 0,i6 4294967295,so 126 0 4 1,i6 8192,i6 0,(.a (.v (.string ⟨#[116,101,120,116]⟩))),i6 9,i6 4,bl false,bl true,i6 20,i6 0,i6 0,ns]) 27),
  (154,.row ([so 190 0 4 1,so 1179 0 5 1]) 25),
  (155,.row ([pt 271 0,pt 270 0,pt 193 0,pt 192 0] ++ rp 9 (np) ++ [i6 5,pt 105 0,pt 107 0,pt 187 0,i6 127,bl true]) 110),
  (187,.row ([pt 156 0,so 1778 0 1 3,bl false,bl false]) 215),
  (271,.row ([i6 64,so 1926 0 1 3,i6 0,bl false]) 232),
  (1924,.row (u8 [32] ++ rp 7 ((.a (.v (.int .u8 0))))) 5),
  (1926,.row ([i6 1413,bl false,so 1924 0 8 1]) 37)]
theorem Fj:cA (XP (aX aR [sV])) 1000000 rN=true:=by kernel_rfl
theorem zZ:bj (XP aR) O0 rN:=cL (l:=[sV]) (by simp only [List.mem_singleton,forall_eq]; exact zU) (by kernel_rfl) Fj
def sW:cW where
 f:=40
 args:=[(.w (.one (.a (.ptr 349 0)))),(.w (.one (.a (.sl 1382 0 1 none 3))))]
 c:=1383
 pre:=[(103,.row (rp 3072 ((.a (.v (.int .u8 255))))) 5),
  (104,.row ([i6 0,i6 0,i6 0]) 3),
  (105,.row ([so 103 0 3072 1,sl 104 0 3 3 1,i6 9,bl false,i6 (-1),(.a (.v (.int .u32 0))),i6 0]) 93),
  (107,.row ([so 152 0 2 11,so 154 0 2 1]) 131),
  (126,.row (u8 [1,0,0,0]) 5),
  (152,.row ([i6 4112,i6 1,(.a (.v (.string ⟨#[115,97,118,101]⟩))),i6 7,i6 4,bl false,bl false,i6 0,i6 0,i6 4294967295,so 126 0 4 1,i6 8192,i6 0,(.a (.v (.string ⟨#[116,101,120,116]⟩))),i6 9,i6 4,bl false,bl true,i6 20,i6 0,i6 0,ns]) 27),
  (154,.row ([so 190 0 4 1,so 1179 0 5 1]) 25),
  (155,.row ([pt 271 0,pt 270 0,pt 193 0,pt 192 0] ++ rp 9 (np) ++ [i6 5,pt 105 0,pt 107 0,pt 187 0,i6 127,bl true]) 110),
  (156,.row ([so 183 0 3 6,i6 0,bl false,pt 105 0,bl false]) 263),
  (183,.row ([i6 0,(.a (.v (.int .u32 0))),ns,i6 0,i6 0,bl true,i6 0,(.a (.v (.int .u32 0))),ns,i6 0,i6 0,bl true,i6 0,(.a (.v (.int .u32 0))),ns,i6 0,i6 0,bl true]) 265),
  (187,.row ([pt 156 0,ns,bl false,bl false]) 215),
  (190,.row (u8 [1,0,0,0]) 5),
  (268,.row ([pt 107 0,i6 0,i6 0,i6 0,i6 0,i6 0,ns,bl false,i6 0,i6 0,i6 0,bl false,bl false,bl false,bl false,(.a (.v (.int .u32 0))),(.a (.v (.int .u32 0))),ns,i6 0,i6 0,i6 0,(.a (.v (.int .u16 0)))]) 368),
  (269,.row ([i6 20,i6 5,i6 1,i6 0,i6 0,i6 0,pt 107 0,i6 0,i6 8192,i6 0,so 759 0 7 1,bl true]) 375),
  (270,.row ([pt 268 0,pt 269 0,i6 1541,i6 1413,i6 50]) 303),
  (271,.row ([i6 64,so 1202 3 0 3,i6 0,bl false]) 232),
  (347,.map [⟨(.int .i64 12),(.int .i64 1),3⟩] 4),
  (348,.row ([i6 1413,i6 1541,(.a (.mp 347)),i6 0,i6 4112,i6 1,bl false,bl false,bl false,bl false,(.a (.v (.int .u32 0))),(.a (.v (.int .u32 0))),ns,i6 0,i6 0,i6 0,(.a (.v (.int .u16 0))),so 1365 0 4 1,i6 0,i6 0,bl false,i6 0,i6 0,i6 0,bl false,bl false,bl false,bl false,(.a (.v (.int .u32 0))),(.a (.v (.int .u32 0))),ns,i6 0,i6 0,i6 0,(.a (.v (.int .u16 0))),(.a (.v (.int .u32 0))),ns]) 142),
  (349,.row ([pt 155 0,pt 348 0,so 1216 0 4 3]) 89),
  (1179,.row (u8 [104,101,108,108,111]) 5),
  (1202,.row ([i6 1413,bl false,so 1200 0 8 1]) 37),
  (1216,.row ([i6 1797,bl false,so 357 0 1 1,i6 1413,bl false,so 575 0 8 1,i6 1413,bl false,so 797 0 8 1,i6 1413,bl false,so 1214 0 8 1]) 37),
  (1365,.row (u8 [115,97,118,101]) 5),
  (1380,.row (u8 [33,16,16,1,4,0,0,0]) 5),
  (1382,.row ([i6 1541,bl false,so 1380 0 8 1]) 37)]
 v:=(.w (.one (.a (.v (.bool true)))))
 d:=2002
 post:=[(103,.row (u8 [87,1,1,0,0,0,10,0,0,32,0,5,0,104,101,108,108,111,125,167,25,241,0] ++ rp 3049 ((.a (.v (.int .u8 255))))) 5),
  (105,.row ([so 103 0 3072 1,sl 104 0 3 3 1,i6 9,bl false,i6 (-1),(.a (.v (.int .u32 0))),i6 23]) 93),
  (107,.row ([so 152 0 2 11,so 154 0 2 1]) 131),
  (126,.row (u8 [1,0,0,0]) 5),
  (152,.row ([i6 4112,i6 1,(.a (.v (.string ⟨#[115,97,118,101]⟩))),i6 7,i6 4,bl false,bl false,i6 0,i6 0,i6 4294967295,so 126 0 4 1,i6 8192,i6 0,(.a (.v (.string ⟨#[116,101,120,116]⟩))),i6 9,i6 4,bl false,bl true,i6 20,i6 0,i6 0,ns]) 27),
  (154,.row ([so 190 0 4 1,so 1179 0 5 1]) 25),
  (155,.row ([pt 271 0,pt 270 0,pt 193 0,pt 192 0] ++ rp 9 (np) ++ [i6 5,pt 105 0,pt 107 0,pt 187 0,i6 127,bl true]) 110),
  (347,.map [] 5),
  (348,.row ([i6 1413,i6 1541,(.a (.mp 347)),i6 0,i6 4112,i6 1,bl false,bl false,bl false,bl false,(.a (.v (.int .u32 0))),(.a (.v (.int .u32 0))),ns,i6 0,i6 0,i6 0,(.a (.v (.int .u16 0))),so 1365 0 4 1,i6 5,i6 0,bl true,i6 0,i6 0,i6 0,bl false,bl false,bl false,bl false,(.a (.v (.int .u32 0))),(.a (.v (.int .u32 0))),ns,i6 0,i6 0,i6 0,(.a (.v (.int .u16 0))),(.a (.v (.int .u32 0))),ns]) 142),
  (349,.row ([pt 155 0,pt 348 0,so 1940 0 6 3]) 89),
  (1940,.row ([i6 1797,bl false,so 357 0 1 1,i6 1413,bl false,so 575 0 8 1,i6 1413,bl false,so 797 0 8 1,i6 1413,bl false,so 1214 0 8 1,i6 1413,bl false,so 1517 0 8 1,i6 1413,bl false,so 1938 0 8 1]) 37)]
theorem ER:cA (XP (aX aR [sG,rN])) 1000000 sW=true:=by kernel_rfl
theorem CT:bj (XP aR) O0 sW:=cL (l:=[sG,rN]) (by simp only [List.forall_mem_cons,List.not_mem_nil,false_implies,implies_true,and_true]; exact ⟨AL,zZ⟩) (by kernel_rfl) ER
def Vb:cW:=uG 102
theorem Oh:bj (XP aR) O0 Vb:=oY rfl 102 (Nat.le_of_ble_eq_true (by kernel_rfl))
end Ev
end Go.Proofs.YtijegngfclkdaaaGreatDoor
