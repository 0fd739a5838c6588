/-
  Piece 44 of the proof.
  Conditions: none.
-/
import Derived.Test.YtijegngfclkdaaaGreatDoorQ43
set_option linter.unusedVariables false
set_option linter.unusedSimpArgs false
set_option maxHeartbeats 100000000
set_option maxRecDepth 100000
namespace Go.Proofs.YtijegngfclkdaaaGreatDoor
namespace Ev
open Go
def sd:cW where
 f:=283
 args:=[(.w (.one (.a (.sl 2036 0 1024 none 1))))]
 c:=2041
 pre:=[(2036,.row (rp 1024 ((.a (.v (.int .u8 255))))) 5)]
 v:=(.w (.one (.a (.v (.bool true)))))
 d:=2041
 post:=[]
theorem Ew:cA (XP (aX aR [])) 1000000 sd=true:=by kernel_rfl
theorem Cr:bj (XP aR) O0 sd:=cL (l:=[]) (by simp) (by kernel_rfl) Ew
def sK:cW where
 f:=62
 args:=[(.w (.one (.a (.ptr 155 0))))]
 c:=2005
 pre:=[(103,.row (u8 [87,1,1,0,0,0,10,0,0,32,0,5,0,104,101,108,108,111,125,167,25,241,0] ++ rp 3049 ((.a (.v (.int .u8 255))))) 5),
  (105,.row ([so 103 0 3072 1,sl 104 0 3 3 1,i6 9,bl false,i6 (-1),(.a (.v (.int .u32 0))),i6 23]) 93),
  (107,.row ([so 152 0 2 11,so 154 0 2 1]) 131),
  (152,.row ([i6 4112,i6 1,(.a (.v (.string ⟨#[115,97,118,101]⟩))),i6 7,i6 4,bl false,bl false,i6 0,i6 0,i6 4294967295,so 126 0 4 1,i6 8192,i6 0,(.a (.v (.string ⟨#[116,101,120,116]⟩))),i6 9,i6 4,bl false,bl true,i6 20,i6 0,i6 0,ns]) 27),
  (155,.row ([pt 271 0,pt 270 0,pt 193 0,pt 192 0] ++ rp 9 (np) ++ [i6 5,pt 105 0,pt 107 0,pt 187 0,i6 127,bl false]) 110)]
 v:=(.w (.one (.a (.v (.int .i64 0)))))
 d:=2077
 post:=[(107,.row ([so 152 0 2 11,so 154 0 2 1]) 131),
  (152,.row ([i6 4112,i6 1,(.a (.v (.string ⟨#[115,97,118,101]⟩))),i6 7,i6 4,bl false,bl false,i6 0,i6 0,i6 4294967295,so 126 0 4 1,i6 8192,i6 0,(.a (.v (.string ⟨#[116,101,120,116]⟩))),i6 9,i6 4,bl false,bl true,i6 20,i6 0,i6 0,ns]) 27),
  (155,.row ([pt 271 0,pt 270 0,pt 193 0,pt 192 0] ++ rp 9 (np) ++ [i6 5,pt 105 0,pt 107 0,pt 2047 0,i6 127,bl false]) 110),
  (2047,.row ([pt 2005 0,so 2060 0 1 3,bl false,bl false]) 215),
  (2057,.row (u8 [104,101,108,108,111]) 5),
  (2060,.row ([i6 8192,i6 0,sl 2057 0 5 5 1]) 34)]
theorem Ei:cA (XP (aX aR [sQ,rT,sd])) 1000000 sK=true:=by kernel_rfl
theorem CF:bj (XP aR) O0 sK:=cL (l:=[sQ,rT,sd]) (by simp only [List.forall_mem_cons,List.not_mem_nil,false_implies,implies_true,and_true]; exact ⟨BQ,AW,Cr⟩) (by kernel_rfl) Ei
def sR:cW where
 f:=8
 args:=[(.w (.one (.a (.ptr 349 0)))),(.w (.agg [(.a (.v (.int .i64 3))),(.a (.v (.int .i64 0))),(.a (.v (.bool false))),(.a (.v (.slice none 0 0))),(.a (.v (.int .i64 0))),(.a (.v (.int .i64 0))),(.a (.v (.slice none 0 0))),(.a (.v (.int .i64 0))),(.a (.v (.int .u32 0)))]))]
 c:=2002
 pre:=[(103,.row (u8 [87,1,1,0,0,0,10,0,0,32,0,5,0,104,101,108,108,111,125,167,25,241,0] ++ rp 3049 ((.a (.v (.int .u8 255))))) 5),
  (105,.row ([so 103 0 3072 1,sl 104 0 3 3 1,i6 9,bl false,i6 (-1),(.a (.v (.int .u32 0))),i6 23]) 93),
  (107,.row ([so 152 0 2 11,so 154 0 2 1]) 131),
  (126,.row (u8 [1,0,0,0]) 5),
  (152,.row ([i6 4112,i6 1,(.a (.v (.string ⟨#[115,97,118,101]⟩))),i6 7,i6 4,bl false,bl false,i6 0,i6 0,i6 4294967295,so 126 0 4 1,i6 8192,i6 0,(.a (.v (.string ⟨#[116,101,120,116]⟩))),i6 9,i6 4,bl false,bl true,i6 20,i6 0,i6 0,ns]) 27),
  (154,.row ([so 190 0 4 1,so 1179 0 5 1]) 25),
  (155,.row ([pt 271 0,pt 270 0,pt 193 0,pt 192 0] ++ rp 9 (np) ++ [i6 5,pt 105 0,pt 107 0,pt 187 0,i6 127,bl true]) 110),
  (347,.map [] 5),
  (348,.row ([i6 1413,i6 1541,(.a (.mp 347)),i6 0,i6 4112,i6 1,bl false,bl false,bl false,bl false,(.a (.v (.int .u32 0))),(.a (.v (.int .u32 0))),ns,i6 0,i6 0,i6 0,(.a (.v (.int .u16 0))),so 1365 0 4 1,i6 5,i6 0,bl true,i6 0,i6 0,i6 0,bl false,bl false,bl false,bl false,(.a (.v (.int .u32 0))),(.a (.v (.int .u32 0))),ns,i6 0,i6 0,i6 0,(.a (.v (.int .u16 0))),(.a (.v (.int .u32 0))),ns]) 142),
  (349,.row ([pt 155 0,pt 348 0,so 1940 0 6 3]) 89),
  (1940,.row ([i6 1797,bl false,so 357 0 1 1,i6 1413,bl false,so 575 0 8 1,i6 1413,bl false,so 797 0 8 1,i6 1413,bl false,so 1214 0 8 1,i6 1413,bl false,so 1517 0 8 1,i6 1413,bl false,so 1938 0 8 1]) 37)]
 v:=(.w (.one (.a (.v (.int .i64 0)))))
 d:=2275
 post:=[(107,.row ([so 152 0 2 11,so 154 0 2 1]) 131),
  (152,.row ([i6 4112,i6 1,(.a (.v (.string ⟨#[115,97,118,101]⟩))),i6 7,i6 4,bl false,bl false,i6 0,i6 0,i6 4294967295,so 126 0 4 1,i6 8192,i6 0,(.a (.v (.string ⟨#[116,101,120,116]⟩))),i6 9,i6 4,bl false,bl true,i6 20,i6 0,i6 0,ns]) 27),
  (154,.row ([so 2077 0 4 1,so 2106 0 5 1]) 25),
  (155,.row ([pt 2187 0,pt 2186 0,pt 2109 0,pt 2108 0] ++ rp 9 (np) ++ [i6 5,pt 105 0,pt 107 0,pt 2047 0,i6 127,bl true]) 110),
  (347,.map [] 5),
  (348,.row ([i6 1413,i6 1541,(.a (.mp 347)),i6 0,i6 4112,i6 1,bl false,bl false,bl false,bl false,(.a (.v (.int .u32 0))),(.a (.v (.int .u32 0))),ns,i6 0,i6 0,i6 0,(.a (.v (.int .u16 0))),so 1365 0 4 1,i6 5,i6 0,bl true,i6 0,i6 0,i6 0,bl false,bl false,bl false,bl false,(.a (.v (.int .u32 0))),(.a (.v (.int .u32 0))),ns,i6 0,i6 0,i6 0,(.a (.v (.int .u16 0))),(.a (.v (.int .u32 0))),ns]) 142),
  (349,.row ([pt 155 0,pt 348 0,so 2270 0 7 3]) 89),
  (2047,.row ([pt 2005 0,so 2060 0 1 3,bl false,bl false]) 215),
  (2106,.row (u8 [104,101,108,108,111]) 5),
  (2184,.row ([pt 107 0,i6 0,i6 0,i6 0,i6 0,i6 0,ns,bl false,i6 0,i6 0,i6 0,bl false,bl false,bl false,bl false,(.a (.v (.int .u32 0))),(.a (.v (.int .u32 0))),ns,i6 0,i6 0,i6 0,(.a (.v (.int .u16 0)))]) 368),
  (2185,.row (rp 6 (i6 0) ++ [pt 107 0,i6 0,i6 0,i6 0,ns,bl false]) 375),
  (2186,.row ([pt 2184 0,pt 2185 0,i6 1541,i6 1413,i6 0]) 303),
  (2187,.row ([i6 64,so 2200 3 0 3,i6 0,bl false]) 232),
  (2200,.row ([i6 1797,bl false,so 2198 0 1 1]) 37),
  (2270,.row ([i6 1797,bl false,so 357 0 1 1,i6 1413,bl false,so 575 0 8 1,i6 1413,bl false,so 797 0 8 1,i6 1413,bl false,so 1214 0 8 1,i6 1413,bl false,so 1517 0 8 1,i6 1413,bl false,so 1938 0 8 1,i6 1797,bl false,so 2268 0 1 1]) 37)]
theorem Ft:cA (XP (aX aR [sK])) 1000000 sR=true:=by kernel_rfl
theorem Ax:bj (XP aR) O0 sR:=cL (l:=[sK]) (by simp only [List.mem_singleton,forall_eq]; exact CF) (by kernel_rfl) Ft
def sf:cW where
 f:=39
 args:=[(.w (.one (.a (.ptr 155 0)))),(.w (.agg [(.a (.v (.int .i64 0))),(.a (.v (.int .i64 1541))),(.a (.v (.bool false))),(.a (.sl 2288 0 8 none 1)),(.a (.v (.int .i64 0))),(.a (.v (.int .i64 0))),(.a (.v (.slice none 0 0))),(.a (.v (.int .i64 0))),(.a (.v (.int .u32 0)))]))]
 c:=2294
 pre:=[(107,.row ([so 152 0 2 11,so 154 0 2 1]) 131),
  (152,.row ([i6 4112,i6 1,(.a (.v (.string ⟨#[115,97,118,101]⟩))),i6 7,i6 4,bl false,bl false,i6 0,i6 0,i6 4294967295,so 126 0 4 1,i6 8192,i6 0,(.a (.v (.string ⟨#[116,101,120,116]⟩))),i6 9,i6 4,bl false,bl true,i6 20,i6 0,i6 0,ns]) 27),
  (154,.row ([so 2077 0 4 1,so 2106 0 5 1]) 25),
  (155,.row ([pt 2187 0,pt 2186 0,pt 2109 0,pt 2108 0] ++ rp 9 (np) ++ [i6 5,pt 105 0,pt 107 0,pt 2047 0,i6 127,bl true]) 110),
  (2047,.row ([pt 2005 0,so 2060 0 1 3,bl false,bl false]) 215),
  (2106,.row (u8 [104,101,108,108,111]) 5),
  (2184,.row ([pt 107 0,i6 0,i6 0,i6 0,i6 0,i6 0,ns,bl false,i6 0,i6 0,i6 0,bl false,bl false,bl false,bl false,(.a (.v (.int .u32 0))),(.a (.v (.int .u32 0))),ns,i6 0,i6 0,i6 0,(.a (.v (.int .u16 0)))]) 368),
  (2185,.row (rp 6 (i6 0) ++ [pt 107 0,i6 0,i6 0,i6 0,ns,bl false]) 375),
  (2186,.row ([pt 2184 0,pt 2185 0,i6 1541,i6 1413,i6 0]) 303),
  (2187,.row ([i6 64,so 2200 3 0 3,i6 0,bl false]) 232),
  (2200,.row ([i6 1797,bl false,so 2198 0 1 1]) 37),
  (2288,.row (u8 [64,0,32,0,0,0,0,0]) 5)]
 v:=(.w (.one (.a (.v (.int .i64 0)))))
 d:=2434
 post:=[(155,.row ([pt 2187 0,pt 2186 0,pt 2109 0,pt 2108 0] ++ rp 9 (np) ++ [i6 5,pt 105 0,pt 107 0,pt 2047 0,i6 127,bl true]) 110),
  (2047,.row ([pt 2005 0,so 2060 0 1 3,bl false,bl false]) 215),
  (2184,.row ([pt 107 0,i6 2,i6 8192,i6 0,i6 0,i6 0,so 2402 0 5 1,bl false,i6 0,i6 0,i6 0,bl false,bl false,bl false,bl false,(.a (.v (.int .u32 0))),(.a (.v (.int .u32 0))),ns,i6 0,i6 0,i6 0,(.a (.v (.int .u16 0)))]) 368),
  (2185,.row (rp 6 (i6 0) ++ [pt 107 0,i6 0,i6 0,i6 0,ns,bl false]) 375),
  (2186,.row ([pt 2184 0,pt 2185 0,i6 1541,i6 1413,i6 50]) 303),
  (2187,.row ([i6 64,so 2429 0 1 3,i6 0,bl false]) 232),
  (2402,.row (u8 [104,101,108,108,111]) 5),
  (2427,.row (u8 [65,0,32,0,5,0,0,0]) 5),
  (2429,.row ([i6 1413,bl false,so 2427 0 8 1]) 37)]
theorem Gd:cA (XP (aX aR [])) 1000000 sf=true:=by kernel_rfl
theorem AO:bj (XP aR) O0 sf:=cL (l:=[]) (by simp) (by kernel_rfl) Gd
def ss:cW where
 f:=39
 args:=[(.w (.one (.a (.ptr 155 0)))),(.w (.agg [(.a (.v (.int .i64 0))),(.a (.v (.int .i64 1541))),(.a (.v (.bool false))),(.a (.sl 2530 0 8 none 1)),(.a (.v (.int .i64 0))),(.a (.v (.int .i64 0))),(.a (.v (.slice none 0 0))),(.a (.v (.int .i64 0))),(.a (.v (.int .u32 0)))]))]
 c:=2537
 pre:=[(155,.row ([pt 2187 0,pt 2186 0,pt 2109 0,pt 2108 0] ++ rp 9 (np) ++ [i6 5,pt 105 0,pt 107 0,pt 2047 0,i6 127,bl true]) 110),
  (2047,.row ([pt 2005 0,so 2060 0 1 3,bl false,bl false]) 215),
  (2184,.row ([pt 107 0,i6 2,i6 8192,i6 0,i6 0,i6 0,so 2402 0 5 1,bl false,i6 0,i6 0,i6 0,bl false,bl false,bl false,bl false,(.a (.v (.int .u32 0))),(.a (.v (.int .u32 0))),ns,i6 0,i6 0,i6 0,(.a (.v (.int .u16 0)))]) 368),
  (2185,.row (rp 6 (i6 0) ++ [pt 107 0,i6 0,i6 0,i6 0,ns,bl false]) 375),
  (2186,.row ([pt 2184 0,pt 2185 0,i6 1541,i6 1413,i6 50]) 303),
  (2187,.row ([i6 64,so 2429 3 0 3,i6 0,bl false]) 232),
  (2402,.row (u8 [104,101,108,108,111]) 5),
  (2429,.row ([i6 1413,bl false,so 2427 0 8 1]) 37),
  (2530,.row (u8 [96] ++ rp 7 ((.a (.v (.int .u8 0))))) 5)]
 v:=(.w (.one (.a (.v (.int .i64 0)))))
 d:=2688
 post:=[(155,.row ([pt 2187 0,pt 2186 0,pt 2109 0,pt 2108 0] ++ rp 9 (np) ++ [i6 5,pt 105 0,pt 107 0,pt 2047 0,i6 127,bl true]) 110),
  (2187,.row ([i6 64,so 2683 0 1 3,i6 0,bl false]) 232),
  (2681,.row (u8 [5,104,101,108,108,111,0,0]) 5),
  (2683,.row ([i6 1413,bl false,so 2681 0 8 1]) 37)]
theorem DR:cA (XP (aX aR [])) 1000000 ss=true:=by kernel_rfl
theorem z_:bj (XP aR) O0 ss:=cL (l:=[]) (by simp) (by kernel_rfl) DR
def rI:cW where
 f:=66
 args:=[(.w (.one (.a (.ptr 348 0)))),(.w (.agg [(.a (.v (.int .i64 1413))),(.a (.v (.bool false))),(.a (.sl 2681 0 8 none 1))]))]
 c:=2698
 pre:=[(347,.map [⟨(.int .i64 15),(.int .i64 1),6⟩] 7),
  (348,.row ([i6 1413,i6 1541,(.a (.mp 347)),i6 0,i6 8192,i6 0,bl false,bl false,bl false,bl false,(.a (.v (.int .u32 0))),(.a (.v (.int .u32 0))),ns,i6 0,i6 0,i6 0,(.a (.v (.int .u16 0))),ns,i6 0,i6 0,bl false,i6 14,i6 8192,i6 0,bl false,bl false,bl false,bl true,(.a (.v (.int .u32 5))),(.a (.v (.int .u32 0))),ns,i6 0,i6 0,i6 0,(.a (.v (.int .u16 0))),(.a (.v (.int .u32 0))),ns]) 142),
  (2681,.row (u8 [5,104,101,108,108,111,0,0]) 5)]
 v:=(.w (.one (.a (.v (.slice none 0 0)))))
 d:=2794
 post:=[(347,.map [] 7),
  (348,.row ([i6 1413,i6 1541,(.a (.mp 347)),i6 0,i6 8192,i6 0,bl false,bl false,bl false,bl false,(.a (.v (.int .u32 0))),(.a (.v (.int .u32 0))),ns,i6 0,i6 0,i6 0,(.a (.v (.int .u16 0))),so 2792 0 5 1,i6 0,i6 0,bl true,i6 14,i6 8192,i6 0,bl false,bl false,bl false,bl true,(.a (.v (.int .u32 5))),(.a (.v (.int .u32 0))),ns,i6 0,i6 0,i6 0,(.a (.v (.int .u16 0))),(.a (.v (.int .u32 0))),so 2793 0 5 1]) 142),
  (2793,.row (u8 [104,101,108,108,111]) 5)]
theorem Iq:cA (XP (aX aR [])) 1000000 rI=true:=by kernel_rfl
theorem By:bj (XP aR) O0 rI:=cL (l:=[]) (by simp) (by kernel_rfl) Iq
end Ev
end Go.Proofs.YtijegngfclkdaaaGreatDoor
