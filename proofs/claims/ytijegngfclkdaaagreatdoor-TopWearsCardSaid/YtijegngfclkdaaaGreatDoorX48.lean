/-
  Pieces of the proof: part 48 of 54.
  Conditions: none.
-/
import Derived.Test.YtijegngfclkdaaaGreatDoorX47
set_option linter.unusedVariables false
set_option linter.unusedSimpArgs false
set_option maxHeartbeats 100000000
set_option maxRecDepth 100000
namespace Go.Proofs.YtijegngfclkdaaaGreatDoor.Ev
open Go
def b_store_ok1:Memo where
 f:=12
 args:=[(.w (.one (.a (.ptr 110 0)))),(.w (.one (.a (.v (.int .i64 4112))))),(.w (.one (.a (.v (.int .i64 1))))),(.w (.one (.a (.sl 106 0 4 none 1)))),(.w (.one (.a (.v (.int .i64 0)))))]
 c:=200
 pre:=idleR map1 ++ [wordR [115,97,118,101]]
 v:=(.tup [(.one (.a (.v (.int .u32 0)))),(.one (.a (.v (.bool true))))])
 d:=376
 post:=[(110,.row ([pt 111 0,pt 112 0,(.a (.sym 331))]) 89),
  (111,.row ([pt 113 0,pt 114 0,pt 115 0,pt 116 0] ++ rp 9 (np) ++ [i6 5,(.a (.op 101)),(.a (.op 102)),(.a (.op 103)),i6 127,bl true]) 110),
  (112,.row ([i6 1413,i6 1541,(.a (.mp 117)),i6 0,i6 4112,i6 1,bl false,bl false,bl false,bl false,(.a (.v (.int .u32 0))),(.a (.v (.int .u32 0))),ns,i6 0,i6 0,i6 0,(.a (.v (.int .u16 0))),so 200 0 4 1,i6 5,i6 0,bl false,i6 0,i6 0,i6 0,bl false,bl false,bl false,bl false,(.a (.v (.int .u32 0))),(.a (.v (.int .u32 0))),ns,i6 0,i6 0,i6 0,(.a (.v (.int .u16 0))),(.a (.v (.int .u32 0))),ns]) 142),
  (113,.row ([i6 64,so 322 3 0 3,i6 0,bl false]) 232),
  (114,.row ([pt 119 0,pt 120 0,i6 1541,i6 1413,i6 50]) 303),
  (115,.row ([i6 5,i6 0,i6 0,ns]) 320),
  (116,.row ([i6 133,(.a .top),(.a .top)]) 168),
  (117,.map [] 2),
  (119,.row ([(.a (.op 102)),i6 0,i6 4112,i6 1,i6 0,i6 0,ns,bl false,i6 12,i6 4112,i6 1,bl false,bl false,bl false,bl false,(.a (.v (.int .u32 0))),(.a (.v (.int .u32 0))),ns,i6 0,i6 0,i6 0,(.a (.v (.int .u16 0)))]) 368),
  (120,.row (rp 6 (i6 0) ++ [(.a (.op 102)),i6 0,i6 0,i6 0,ns,bl false]) 375),
  (200,.row (u8 [115,97,118,101]) 5),
  (320,.row (u8 [96,16,16,1,0,0,0,0]) 5),
  (322,.row ([i6 1413,bl false,so 320 0 8 1]) 37)]
 g:=tg 4 103 104 102
 g':=tg 7 103 331 102
theorem b_store_ok1_b:memoB (XP orcT) 1000000 b_store_ok1=true:=by kernel_rfl
def b_store_ok1_r:List (Nat×Nat×Nat):=[(101,101,0),(102,102,0),(103,103,0),(104,331,0),(110,110,0),(111,111,0),(112,112,0),(113,113,0),(114,114,0),(115,115,0),(116,116,0),(117,117,0),(118,322,3),(119,119,0),(120,120,0)]
theorem b_store_ok1_w:wkAll (renL (XP orcT).ng b_store_ok1_r) b_store_ok1.post (idleR map0)=true:=by kernel_rfl
theorem b_store_ok1_k:renOK (XP orcT).ng 200 b_store_ok1_r=true:=by kernel_rfl
end Go.Proofs.YtijegngfclkdaaaGreatDoor.Ev
namespace Go.Proofs.YtijegngfclkdaaaGreatDoor.Ev
open Go
def b_store_worn1:Memo where
 f:=12
 args:=[(.w (.one (.a (.ptr 110 0)))),(.w (.one (.a (.v (.int .i64 4112))))),(.w (.one (.a (.v (.int .i64 1))))),(.w (.one (.a (.sl 106 0 4 none 1)))),(.w (.one (.a (.v (.int .i64 0)))))]
 c:=200
 pre:=idleR map1 ++ [wordR [115,97,118,101]]
 v:=(.tup [(.one (.a (.v (.int .u32 101056512)))),(.one (.a (.v (.bool true))))])
 d:=357
 post:=[(110,.row ([pt 111 0,pt 112 0,(.a (.sym 331))]) 89),
  (111,.row ([pt 113 0,pt 114 0,pt 115 0,pt 116 0] ++ rp 9 (np) ++ [i6 5,(.a (.op 101)),(.a (.op 102)),(.a (.op 103)),i6 127,bl true]) 110),
  (112,.row ([i6 1413,i6 1541,(.a (.mp 117)),i6 0,i6 4112,i6 1,bl false,bl false,bl false,bl false,(.a (.v (.int .u32 0))),(.a (.v (.int .u32 0))),ns,i6 0,i6 0,i6 0,(.a (.v (.int .u16 0))),so 200 0 4 1,i6 5,i6 0,bl false,i6 0,i6 0,i6 0,bl false,bl false,bl false,bl false,(.a (.v (.int .u32 0))),(.a (.v (.int .u32 0))),ns,i6 0,i6 0,i6 0,(.a (.v (.int .u16 0))),(.a (.v (.int .u32 101056512))),ns]) 142),
  (113,.row ([i6 64,so 322 3 0 3,i6 0,bl false]) 232),
  (114,.row ([pt 119 0,pt 120 0,i6 1541,i6 1413,i6 50]) 303),
  (115,.row ([i6 5,i6 0,i6 0,ns]) 320),
  (116,.row ([i6 133,(.a .top),(.a .top)]) 168),
  (117,.map [] 2),
  (119,.row ([(.a (.op 102)),i6 0,i6 4112,i6 1,i6 0,i6 0,ns,bl false,i6 12,i6 4112,i6 1,bl false,bl false,bl false,bl false,(.a (.v (.int .u32 0))),(.a (.v (.int .u32 0))),ns,i6 0,i6 0,i6 0,(.a (.v (.int .u16 0)))]) 368),
  (120,.row (rp 6 (i6 0) ++ [(.a (.op 102)),i6 0,i6 0,i6 0,ns,bl false]) 375),
  (200,.row (u8 [115,97,118,101]) 5),
  (320,.row (u8 [128,16,16,1,0,0,6,6]) 5),
  (322,.row ([i6 1413,bl false,so 320 0 8 1]) 37)]
 g:=tg 5 103 104 102
 g':=tg 8 103 331 102
theorem b_store_worn1_b:memoB (XP orcT) 1000000 b_store_worn1=true:=by kernel_rfl
def b_store_worn1_r:List (Nat×Nat×Nat):=[(101,101,0),(102,102,0),(103,103,0),(104,331,0),(110,110,0),(111,111,0),(112,112,0),(113,113,0),(114,114,0),(115,115,0),(116,116,0),(117,117,0),(118,322,3),(119,119,0),(120,120,0)]
theorem b_store_worn1_w:wkAll (renL (XP orcT).ng b_store_worn1_r) b_store_worn1.post (idleR map0)=true:=by kernel_rfl
theorem b_store_worn1_k:renOK (XP orcT).ng 200 b_store_worn1_r=true:=by kernel_rfl
end Go.Proofs.YtijegngfclkdaaaGreatDoor.Ev
namespace Go.Proofs.YtijegngfclkdaaaGreatDoor.Ev
open Go
def b_store_off1:Memo where
 f:=12
 args:=[(.w (.one (.a (.ptr 110 0)))),(.w (.one (.a (.v (.int .i64 4112))))),(.w (.one (.a (.v (.int .i64 1))))),(.w (.one (.a (.sl 106 0 4 none 1)))),(.w (.one (.a (.v (.int .i64 0)))))]
 c:=200
 pre:=idleR map1 ++ [wordR [115,97,118,101]]
 v:=(.tup [(.one (.a (.v (.int .u32 0)))),(.one (.a (.v (.bool false))))])
 d:=329
 post:=[(110,.row ([pt 111 0,pt 112 0,(.a (.sym 104))]) 89),
  (111,.row ([pt 113 0,pt 114 0,pt 115 0,pt 116 0] ++ rp 9 (np) ++ [i6 5,(.a (.op 101)),(.a (.op 102)),(.a (.op 103)),i6 127,bl false]) 110),
  (112,.row ([i6 1413,i6 1541,(.a (.mp 117)),i6 0,i6 4112,i6 1,bl false,bl false,bl false,bl false,(.a (.v (.int .u32 0))),(.a (.v (.int .u32 0))),ns,i6 0,i6 0,i6 0,(.a (.v (.int .u16 0))),so 200 0 4 1,i6 5,i6 0,bl false,i6 0,i6 0,i6 0,bl false,bl false,bl false,bl false,(.a (.v (.int .u32 0))),(.a (.v (.int .u32 0))),ns,i6 0,i6 0,i6 0,(.a (.v (.int .u16 0))),(.a (.v (.int .u32 0))),ns]) 142),
  (113,.row ([i6 64,ns,i6 0,bl false]) 232),
  (114,.row ([pt 119 0,pt 120 0,i6 1541,i6 1413,i6 50]) 303),
  (115,.row ([i6 5,i6 0,i6 0,ns]) 320),
  (116,.row ([i6 133,(.a .top),(.a .top)]) 168),
  (117,.map [⟨(.int .i64 12),(.int .i64 1),1⟩] 2),
  (119,.row ([(.a (.op 102)),i6 0,i6 4112,i6 1,i6 0,i6 0,ns,bl false,i6 12,i6 4112,i6 1,bl false,bl false,bl false,bl false,(.a (.v (.int .u32 0))),(.a (.v (.int .u32 0))),ns,i6 0,i6 0,i6 0,(.a (.v (.int .u16 0)))]) 368),
  (120,.row (rp 6 (i6 0) ++ [(.a (.op 102)),i6 0,i6 0,i6 0,ns,bl false]) 375),
  (200,.row (u8 [115,97,118,101]) 5)]
 g:=tg 6 103 104 102
 g':=tg 9 103 104 102
theorem b_store_off1_b:memoB (XP orcT) 1000000 b_store_off1=true:=by kernel_rfl
def b_store_off1_r:List (Nat×Nat×Nat):=[(101,101,0),(102,102,0),(103,103,0),(104,104,0),(110,110,0),(111,111,0),(112,112,0),(113,113,0),(114,114,0),(115,115,0),(116,116,0),(117,117,0),(118,200,0),(119,119,0),(120,120,0)]
theorem b_store_off1_w:wkAll (renL (XP orcT).ng b_store_off1_r) b_store_off1.post offR=true:=by kernel_rfl
theorem b_store_off1_k:renOK (XP orcT).ng 200 b_store_off1_r=true:=by kernel_rfl
end Go.Proofs.YtijegngfclkdaaaGreatDoor.Ev
namespace Go.Proofs.YtijegngfclkdaaaGreatDoor.Ev
open Go
def b_rest_ok1:Memo where
 f:=12
 args:=[(.w (.one (.a (.ptr 110 0)))),(.w (.one (.a (.v (.int .i64 4113))))),(.w (.one (.a (.v (.int .i64 1))))),(.w (.one (.a (.sl 106 0 4 none 1)))),(.w (.one (.a (.v (.int .i64 0)))))]
 c:=200
 pre:=idleR map1 ++ [wordR [108,111,97,100]]
 v:=(.tup [(.one (.a (.v (.int .u32 0)))),(.one (.a (.v (.bool true))))])
 d:=376
 post:=[(110,.row ([pt 111 0,pt 112 0,(.a (.sym 331))]) 89),
  (111,.row ([pt 113 0,pt 114 0,pt 115 0,pt 116 0] ++ rp 9 (np) ++ [i6 5,(.a (.op 101)),(.a (.op 102)),(.a (.op 103)),i6 127,bl true]) 110),
  (112,.row ([i6 1413,i6 1541,(.a (.mp 117)),i6 0,i6 4113,i6 1,bl false,bl false,bl false,bl false,(.a (.v (.int .u32 0))),(.a (.v (.int .u32 0))),ns,i6 0,i6 0,i6 0,(.a (.v (.int .u16 0))),so 200 0 4 1,i6 5,i6 0,bl false,i6 0,i6 0,i6 0,bl false,bl false,bl false,bl false,(.a (.v (.int .u32 0))),(.a (.v (.int .u32 0))),ns,i6 0,i6 0,i6 0,(.a (.v (.int .u16 0))),(.a (.v (.int .u32 0))),ns]) 142),
  (113,.row ([i6 64,so 322 3 0 3,i6 0,bl false]) 232),
  (114,.row ([pt 119 0,pt 120 0,i6 1541,i6 1413,i6 50]) 303),
  (115,.row ([i6 5,i6 0,i6 0,ns]) 320),
  (116,.row ([i6 133,(.a .top),(.a .top)]) 168),
  (117,.map [] 2),
  (119,.row ([(.a (.op 102)),i6 0,i6 4113,i6 1,i6 0,i6 0,ns,bl false,i6 12,i6 4113,i6 1,bl false,bl false,bl false,bl false,(.a (.v (.int .u32 0))),(.a (.v (.int .u32 0))),ns,i6 0,i6 0,i6 0,(.a (.v (.int .u16 0)))]) 368),
  (120,.row (rp 6 (i6 0) ++ [(.a (.op 102)),i6 0,i6 0,i6 0,ns,bl false]) 375),
  (200,.row (u8 [108,111,97,100]) 5),
  (320,.row (u8 [96,17,16,1,0,0,0,0]) 5),
  (322,.row ([i6 1413,bl false,so 320 0 8 1]) 37)]
 g:=tg 10 103 104 102
 g':=tg 7 103 331 102
theorem b_rest_ok1_b:memoB (XP orcT) 1000000 b_rest_ok1=true:=by kernel_rfl
def b_rest_ok1_r:List (Nat×Nat×Nat):=[(101,101,0),(102,102,0),(103,103,0),(104,331,0),(110,110,0),(111,111,0),(112,112,0),(113,113,0),(114,114,0),(115,115,0),(116,116,0),(117,117,0),(118,322,3),(119,119,0),(120,120,0)]
theorem b_rest_ok1_w:wkAll (renL (XP orcT).ng b_rest_ok1_r) b_rest_ok1.post (idleR map0)=true:=by kernel_rfl
theorem b_rest_ok1_k:renOK (XP orcT).ng 200 b_rest_ok1_r=true:=by kernel_rfl
end Go.Proofs.YtijegngfclkdaaaGreatDoor.Ev
namespace Go.Proofs.YtijegngfclkdaaaGreatDoor.Ev
open Go
def b_rest_worn1:Memo where
 f:=12
 args:=[(.w (.one (.a (.ptr 110 0)))),(.w (.one (.a (.v (.int .i64 4113))))),(.w (.one (.a (.v (.int .i64 1))))),(.w (.one (.a (.sl 106 0 4 none 1)))),(.w (.one (.a (.v (.int .i64 0)))))]
 c:=200
 pre:=idleR map1 ++ [wordR [108,111,97,100]]
 v:=(.tup [(.one (.a (.v (.int .u32 101056512)))),(.one (.a (.v (.bool true))))])
 d:=357
 post:=[(110,.row ([pt 111 0,pt 112 0,(.a (.sym 331))]) 89),
  (111,.row ([pt 113 0,pt 114 0,pt 115 0,pt 116 0] ++ rp 9 (np) ++ [i6 5,(.a (.op 101)),(.a (.op 102)),(.a (.op 103)),i6 127,bl true]) 110),
  (112,.row ([i6 1413,i6 1541,(.a (.mp 117)),i6 0,i6 4113,i6 1,bl false,bl false,bl false,bl false,(.a (.v (.int .u32 0))),(.a (.v (.int .u32 0))),ns,i6 0,i6 0,i6 0,(.a (.v (.int .u16 0))),so 200 0 4 1,i6 5,i6 0,bl false,i6 0,i6 0,i6 0,bl false,bl false,bl false,bl false,(.a (.v (.int .u32 0))),(.a (.v (.int .u32 0))),ns,i6 0,i6 0,i6 0,(.a (.v (.int .u16 0))),(.a (.v (.int .u32 101056512))),ns]) 142),
  (113,.row ([i6 64,so 322 3 0 3,i6 0,bl false]) 232),
  (114,.row ([pt 119 0,pt 120 0,i6 1541,i6 1413,i6 50]) 303),
  (115,.row ([i6 5,i6 0,i6 0,ns]) 320),
  (116,.row ([i6 133,(.a .top),(.a .top)]) 168),
  (117,.map [] 2),
  (119,.row ([(.a (.op 102)),i6 0,i6 4113,i6 1,i6 0,i6 0,ns,bl false,i6 12,i6 4113,i6 1,bl false,bl false,bl false,bl false,(.a (.v (.int .u32 0))),(.a (.v (.int .u32 0))),ns,i6 0,i6 0,i6 0,(.a (.v (.int .u16 0)))]) 368),
  (120,.row (rp 6 (i6 0) ++ [(.a (.op 102)),i6 0,i6 0,i6 0,ns,bl false]) 375),
  (200,.row (u8 [108,111,97,100]) 5),
  (320,.row (u8 [128,17,16,1,0,0,6,6]) 5),
  (322,.row ([i6 1413,bl false,so 320 0 8 1]) 37)]
 g:=tg 11 103 104 102
 g':=tg 8 103 331 102
theorem b_rest_worn1_b:memoB (XP orcT) 1000000 b_rest_worn1=true:=by kernel_rfl
def b_rest_worn1_r:List (Nat×Nat×Nat):=[(101,101,0),(102,102,0),(103,103,0),(104,331,0),(110,110,0),(111,111,0),(112,112,0),(113,113,0),(114,114,0),(115,115,0),(116,116,0),(117,117,0),(118,322,3),(119,119,0),(120,120,0)]
theorem b_rest_worn1_w:wkAll (renL (XP orcT).ng b_rest_worn1_r) b_rest_worn1.post (idleR map0)=true:=by kernel_rfl
theorem b_rest_worn1_k:renOK (XP orcT).ng 200 b_rest_worn1_r=true:=by kernel_rfl
end Go.Proofs.YtijegngfclkdaaaGreatDoor.Ev
namespace Go.Proofs.YtijegngfclkdaaaGreatDoor.Ev
open Go
def b_rest_off1:Memo where
 f:=12
 args:=[(.w (.one (.a (.ptr 110 0)))),(.w (.one (.a (.v (.int .i64 4113))))),(.w (.one (.a (.v (.int .i64 1))))),(.w (.one (.a (.sl 106 0 4 none 1)))),(.w (.one (.a (.v (.int .i64 0)))))]
 c:=200
 pre:=idleR map1 ++ [wordR [108,111,97,100]]
 v:=(.tup [(.one (.a (.v (.int .u32 0)))),(.one (.a (.v (.bool false))))])
 d:=329
 post:=[(110,.row ([pt 111 0,pt 112 0,(.a (.sym 104))]) 89),
  (111,.row ([pt 113 0,pt 114 0,pt 115 0,pt 116 0] ++ rp 9 (np) ++ [i6 5,(.a (.op 101)),(.a (.op 102)),(.a (.op 103)),i6 127,bl false]) 110),
  (112,.row ([i6 1413,i6 1541,(.a (.mp 117)),i6 0,i6 4113,i6 1,bl false,bl false,bl false,bl false,(.a (.v (.int .u32 0))),(.a (.v (.int .u32 0))),ns,i6 0,i6 0,i6 0,(.a (.v (.int .u16 0))),so 200 0 4 1,i6 5,i6 0,bl false,i6 0,i6 0,i6 0,bl false,bl false,bl false,bl false,(.a (.v (.int .u32 0))),(.a (.v (.int .u32 0))),ns,i6 0,i6 0,i6 0,(.a (.v (.int .u16 0))),(.a (.v (.int .u32 0))),ns]) 142),
  (113,.row ([i6 64,ns,i6 0,bl false]) 232),
  (114,.row ([pt 119 0,pt 120 0,i6 1541,i6 1413,i6 50]) 303),
  (115,.row ([i6 5,i6 0,i6 0,ns]) 320),
  (116,.row ([i6 133,(.a .top),(.a .top)]) 168),
  (117,.map [⟨(.int .i64 12),(.int .i64 1),1⟩] 2),
  (119,.row ([(.a (.op 102)),i6 0,i6 4113,i6 1,i6 0,i6 0,ns,bl false,i6 12,i6 4113,i6 1,bl false,bl false,bl false,bl false,(.a (.v (.int .u32 0))),(.a (.v (.int .u32 0))),ns,i6 0,i6 0,i6 0,(.a (.v (.int .u16 0)))]) 368),
  (120,.row (rp 6 (i6 0) ++ [(.a (.op 102)),i6 0,i6 0,i6 0,ns,bl false]) 375),
  (200,.row (u8 [108,111,97,100]) 5)]
 g:=tg 12 103 104 102
 g':=tg 9 103 104 102
theorem b_rest_off1_b:memoB (XP orcT) 1000000 b_rest_off1=true:=by kernel_rfl
def b_rest_off1_r:List (Nat×Nat×Nat):=[(101,101,0),(102,102,0),(103,103,0),(104,104,0),(110,110,0),(111,111,0),(112,112,0),(113,113,0),(114,114,0),(115,115,0),(116,116,0),(117,117,0),(118,200,0),(119,119,0),(120,120,0)]
theorem b_rest_off1_w:wkAll (renL (XP orcT).ng b_rest_off1_r) b_rest_off1.post offR=true:=by kernel_rfl
theorem b_rest_off1_k:renOK (XP orcT).ng 200 b_rest_off1_r=true:=by kernel_rfl
def b_reset:Memo where
 f:=8
 args:=[(.w (.one (.a (.ptr 110 0)))),(.w (.agg [(.a (.v (.int .i64 3))),(.a (.v (.int .i64 0))),(.a (.v (.bool false))),(.a (.v (.slice none 0 0))),(.a (.v (.int .i64 0))),(.a (.v (.int .i64 0))),(.a (.v (.slice none 0 0))),(.a (.v (.int .i64 0))),(.a (.v (.int .u32 0)))]))]
 c:=200
 pre:=offR
 v:=(.w (.one (.a (.v (.int .i64 0)))))
 d:=258
 post:=[(110,.row ([pt 111 0,pt 112 0,(.a (.sym 253))]) 89),
  (111,.row ([pt 229 0,pt 228 0,pt 206 0,pt 205 0] ++ rp 9 (np) ++ [i6 5,(.a (.op 101)),(.a (.op 102)),(.a (.op 203)),i6 127,bl true]) 110),
  (112,.row ([i6 1413,i6 1541,(.a (.mp 117)),i6 0,(.a .top),i6 1,bl false,bl false,bl false,bl false,(.a (.v (.int .u32 0))),(.a (.v (.int .u32 0))),ns,i6 0,i6 0,i6 0,(.a (.v (.int .u16 0))),so 118 0 4 1,i6 5,i6 0,bl false,i6 0,i6 0,i6 0,bl false,bl false,bl false,bl false,(.a (.v (.int .u32 0))),(.a (.v (.int .u32 0))),ns,i6 0,i6 0,i6 0,(.a (.v (.int .u16 0))),(.a (.v (.int .u32 0))),ns]) 142),
  (117,.map [⟨(.int .i64 12),(.int .i64 1),0⟩] 0),
  (118,.row ([(.a .top),(.a .top),(.a .top),(.a .top)]) 5),
  (205,.row ([i6 133,ns,ns]) 168),
  (206,.row ([i6 5,i6 0,i6 0,ns]) 320),
  (226,.row ([(.a (.op 102)),i6 0,i6 0,i6 0,i6 0,i6 0,ns,bl false,i6 0,i6 0,i6 0,bl false,bl false,bl false,bl false,(.a (.v (.int .u32 0))),(.a (.v (.int .u32 0))),ns,i6 0,i6 0,i6 0,(.a (.v (.int .u16 0)))]) 368),
  (227,.row (rp 6 (i6 0) ++ [(.a (.op 102)),i6 0,i6 0,i6 0,ns,bl false]) 375),
  (228,.row ([pt 226 0,pt 227 0,i6 1541,i6 1413,i6 0]) 303),
  (229,.row ([i6 64,so 242 3 0 3,i6 0,bl false]) 232),
  (240,.row (u8 [0]) 5),
  (242,.row ([i6 1797,bl false,so 240 0 1 1]) 37)]
 g:=tg 13 103 104 102
 g':=tg 19 203 253 102
theorem b_reset_b:memoB (XP orcT) 1000000 b_reset=true:=by kernel_rfl
def b_reset_r:List (Nat×Nat×Nat):=[(101,101,0),(102,102,0),(103,203,0),(104,253,0),(110,110,0),(111,111,0),(112,112,0),(113,229,0),(114,228,0),(115,206,0),(116,205,0),(117,117,0),(118,242,3),(119,226,0),(120,227,0)]
theorem b_reset_w:wkAll (renL (XP orcT).ng b_reset_r) b_reset.post (idleR map1)=true:=by kernel_rfl
theorem b_reset_k:renOK (XP orcT).ng 200 b_reset_r=true:=by kernel_rfl
end Go.Proofs.YtijegngfclkdaaaGreatDoor.Ev
namespace Go.Proofs.YtijegngfclkdaaaGreatDoor.Ev
open Go
def b_resetodd:Memo where
 f:=8
 args:=[(.w (.one (.a (.ptr 110 0)))),(.w (.agg [(.a (.v (.int .i64 3))),(.a (.v (.int .i64 0))),(.a (.v (.bool false))),(.a (.v (.slice none 0 0))),(.a (.v (.int .i64 0))),(.a (.v (.int .i64 0))),(.a (.v (.slice none 0 0))),(.a (.v (.int .i64 0))),(.a (.v (.int .u32 0)))]))]
 c:=200
 pre:=offR
 v:=(.w (.one (.a (.v (.int .i64 0)))))
 d:=298
 post:=[(110,.row ([pt 111 0,pt 112 0,(.a (.sym 293))]) 89),
  (111,.row ([pt 229 0,pt 228 0,pt 206 0,pt 205 0] ++ rp 9 (np) ++ [i6 5,(.a (.op 101)),(.a (.op 102)),(.a (.op 203)),i6 127,bl true]) 110),
  (112,.row ([i6 1413,i6 1541,(.a (.mp 117)),i6 0,(.a .top),i6 1,bl false,bl false,bl false,bl false,(.a (.v (.int .u32 0))),(.a (.v (.int .u32 0))),ns,i6 0,i6 0,i6 0,(.a (.v (.int .u16 0))),so 118 0 4 1,i6 5,i6 0,bl false,i6 0,i6 0,i6 0,bl false,bl false,bl false,bl false,(.a (.v (.int .u32 0))),(.a (.v (.int .u32 0))),ns,i6 0,i6 0,i6 0,(.a (.v (.int .u16 0))),(.a (.v (.int .u32 0))),ns]) 142),
  (117,.map [⟨(.int .i64 12),(.int .i64 1),0⟩] 0),
  (118,.row ([(.a .top),(.a .top),(.a .top),(.a .top)]) 5),
  (205,.row ([i6 133,so 252 0 1 2,sl 253 0 1 1 1]) 168),
  (206,.row ([i6 5,i6 0,i6 0,ns]) 320),
  (226,.row ([(.a (.op 102)),i6 0,i6 0,i6 0,i6 0,i6 0,ns,bl false,i6 0,i6 0,i6 0,bl false,bl false,bl false,bl false,(.a (.v (.int .u32 0))),(.a (.v (.int .u32 0))),ns,i6 0,i6 0,i6 0,(.a (.v (.int .u16 0)))]) 368),
  (227,.row (rp 6 (i6 0) ++ [(.a (.op 102)),i6 0,i6 0,i6 0,ns,bl false]) 375),
  (228,.row ([pt 226 0,pt 227 0,i6 1541,i6 1413,i6 0]) 303),
  (229,.row ([i6 64,so 274 6 0 3,i6 0,bl false]) 232),
  (240,.row (u8 [0]) 5),
  (252,.row ([i6 21808,i6 1]) 170),
  (253,.row ([(.a (.v (.int .u32 87344)))]) 35),
  (271,.row (u8 [48,85,1,1,0,0,0,0]) 5),
  (274,.row ([i6 133,bl false,so 271 0 8 1,i6 1797,bl false,so 240 0 1 1]) 37)]
 g:=tg 14 103 104 102
 g':=tg 20 203 293 102
theorem b_resetodd_b:memoB (XP orcT) 1000000 b_resetodd=true:=by kernel_rfl
def b_resetodd_r:List (Nat×Nat×Nat):=[(101,101,0),(102,102,0),(103,203,0),(104,293,0),(110,110,0),(111,111,0),(112,112,0),(113,229,0),(114,228,0),(115,206,0),(116,205,0),(117,117,0),(118,274,6),(119,226,0),(120,227,0)]
theorem b_resetodd_w:wkAll (renL (XP orcT).ng b_resetodd_r) b_resetodd.post (idleR map1)=true:=by kernel_rfl
theorem b_resetodd_k:renOK (XP orcT).ng 200 b_resetodd_r=true:=by kernel_rfl
end Go.Proofs.YtijegngfclkdaaaGreatDoor.Ev
