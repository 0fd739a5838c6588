/-
  Pieces of the proof: part 47 of 54.
  Conditions: none.
-/
import Derived.Test.YtijegngfclkdaaaGreatDoorW11
set_option linter.unusedVariables false
set_option linter.unusedSimpArgs false
set_option maxHeartbeats 100000000
set_option maxRecDepth 100000
namespace Go.Proofs.YtijegngfclkdaaaGreatDoor.Ev
open Go
noncomputable section
def idleR (m:Ob):List (Nat×Ob):=[(110,.row ([pt 111 0,pt 112 0,(.a (.sym 104))]) 89),
  (111,.row ([pt 113 0,pt 114 0,pt 115 0,pt 116 0] ++ rp 9 (np) ++ [i6 5,(.a (.op 101)),(.a (.op 102)),(.a (.op 103)),i6 127,bl true]) 110),
  (112,.row ([i6 1413,i6 1541,(.a (.mp 117)),i6 0,(.a .top),(.a .top),bl false,bl false,bl false,bl false,(.a (.v (.int .u32 0))),(.a (.v (.int .u32 0))),ns,i6 0,i6 0,i6 0,(.a (.v (.int .u16 0))),(.a .top),(.a .top),i6 0,bl false,i6 0,i6 0,i6 0,bl false,bl false,bl false,bl false,(.a (.v (.int .u32 0))),(.a (.v (.int .u32 0))),ns,i6 0,i6 0,i6 0,(.a (.v (.int .u16 0))),(.a .top),ns]) 142),
  (113,.row ([i6 64,so 118 0 0 3,i6 0,bl false]) 232),
  (114,.row ([pt 119 0,pt 120 0,i6 1541,i6 1413,(.a .top)]) 303),
  (115,.row ([i6 5,i6 0,i6 0,ns]) 320),
  (116,.row ([i6 133,(.a .top),(.a .top)]) 168),
  (118,.row ([]) 37),
  (119,.row ([(.a (.op 102)),i6 0,(.a .top),(.a .top),i6 0,i6 0,ns,bl false,(.a .top),(.a .top),(.a .top),bl false,bl false,bl false,bl false,(.a (.v (.int .u32 0))),(.a (.v (.int .u32 0))),ns,i6 0,i6 0,i6 0,(.a (.v (.int .u16 0)))]) 368),
  (120,.row (rp 6 (i6 0) ++ [(.a (.op 102)),i6 0,i6 0,i6 0,ns,bl false]) 375),
  (117,m)]
def map0:Ob:=.map [] 0
def map1:Ob:=.map [⟨(.int .i64 12),(.int .i64 1),0⟩] 1
def offR:List (Nat×Ob):=[(110,.row ([pt 111 0,pt 112 0,(.a (.sym 104))]) 89),
  (111,.row ([pt 113 0,pt 114 0,pt 115 0,pt 116 0] ++ rp 9 (np) ++ [i6 5,(.a (.op 101)),(.a (.op 102)),(.a (.op 103)),i6 127,bl false]) 110),
  (112,.row ([i6 1413,i6 1541,(.a (.mp 117)),i6 0,(.a .top),i6 1,bl false,bl false,bl false,bl false,(.a (.v (.int .u32 0))),(.a (.v (.int .u32 0))),ns,i6 0,i6 0,i6 0,(.a (.v (.int .u16 0))),so 118 0 4 1,i6 5,i6 0,bl false,i6 0,i6 0,i6 0,bl false,bl false,bl false,bl false,(.a (.v (.int .u32 0))),(.a (.v (.int .u32 0))),ns,i6 0,i6 0,i6 0,(.a (.v (.int .u16 0))),(.a (.v (.int .u32 0))),ns]) 142),
  (113,.row ([i6 64,ns,i6 0,bl false]) 232),
  (114,.row ([pt 119 0,pt 120 0,i6 1541,i6 1413,i6 50]) 303),
  (115,.row ([i6 5,i6 0,i6 0,ns]) 320),
  (116,.row ([i6 133,(.a .top),(.a .top)]) 168),
  (117,.map [⟨(.int .i64 12),(.int .i64 1),0⟩] 0),
  (118,.row ([(.a .top),(.a .top),(.a .top),(.a .top)]) 5),
  (119,.row ([(.a (.op 102)),i6 0,(.a .top),i6 1,i6 0,i6 0,ns,bl false,i6 12,(.a .top),i6 1,bl false,bl false,bl false,bl false,(.a (.v (.int .u32 0))),(.a (.v (.int .u32 0))),ns,i6 0,i6 0,i6 0,(.a (.v (.int .u16 0)))]) 368),
  (120,.row (rp 6 (i6 0) ++ [(.a (.op 102)),i6 0,i6 0,i6 0,ns,bl false]) 375)]
def wordR (l:List Nat):Nat×Ob:=(106,.row (u8 l) 5)
end
end Go.Proofs.YtijegngfclkdaaaGreatDoor.Ev
namespace Go.Proofs.YtijegngfclkdaaaGreatDoor.Ev
open Go
def bNew:Memo where
 f:=6
 args:=[(.w (.one (.a (.sym 110)))),(.w (.one (.a (.v (.int .i64 5))))),(.w (.one (.a (.op 101))))]
 c:=200
 pre:=[]
 v:=(.tup [(.one (.a (.ptr 252 0))),(.one (.a (.v (.int .i64 0))))])
 d:=262
 post:=[(201,.row ([pt 228 0,pt 227 0,pt 205 0,pt 204 0] ++ rp 9 (np) ++ [i6 5,(.a (.op 101)),(.a (.op 200)),(.a (.op 202)),i6 127,bl true]) 110),
  (204,.row ([i6 133,ns,ns]) 168),
  (205,.row ([i6 5,i6 0,i6 0,ns]) 320),
  (225,.row ([(.a (.op 200)),i6 0,i6 0,i6 0,i6 0,i6 0,ns,bl false,i6 0,i6 0,i6 0,bl false,bl false,bl false,bl false,(.a (.v (.int .u32 0))),(.a (.v (.int .u32 0))),ns,i6 0,i6 0,i6 0,(.a (.v (.int .u16 0)))]) 368),
  (226,.row (rp 6 (i6 0) ++ [(.a (.op 200)),i6 0,i6 0,i6 0,ns,bl false]) 375),
  (227,.row ([pt 225 0,pt 226 0,i6 1541,i6 1413,i6 0]) 303),
  (228,.row ([i6 64,so 241 3 0 3,i6 0,bl false]) 232),
  (239,.row (u8 [0]) 5),
  (241,.row ([i6 1797,bl false,so 239 0 1 1]) 37),
  (250,.map [] 0),
  (251,.row ([i6 1413,i6 1541,(.a (.mp 250)),i6 0,i6 0,i6 0,bl false,bl false,bl false,bl false,(.a (.v (.int .u32 0))),(.a (.v (.int .u32 0))),ns,i6 0,i6 0,i6 0,(.a (.v (.int .u16 0))),ns,i6 0,i6 0,bl false,i6 0,i6 0,i6 0,bl false,bl false,bl false,bl false,(.a (.v (.int .u32 0))),(.a (.v (.int .u32 0))),ns,i6 0,i6 0,i6 0,(.a (.v (.int .u16 0))),(.a (.v (.int .u32 0))),ns]) 142),
  (252,.row ([pt 201 0,pt 251 0,(.a (.sym 257))]) 89)]
 g:=tg 21 0 0 0
 g':=tg 19 202 257 200
theorem bNew_b:memoB (XP orcT) 1000000 bNew=true:=by kernel_rfl
def bNew_r:List (Nat×Nat×Nat):=[(101,101,0),(102,200,0),(103,202,0),(104,257,0),(110,252,0),(111,201,0),(112,251,0),(113,228,0),(114,227,0),(115,205,0),(116,204,0),(117,250,0),(118,241,3),(119,225,0),(120,226,0)]
theorem bNew_w:wkAll (renL (XP orcT).ng bNew_r) bNew.post (idleR map0)=true:=by kernel_rfl
theorem bNew_k:renOK (XP orcT).ng 200 bNew_r=true:=by kernel_rfl
def b_write00:Memo where
 f:=8
 args:=[(.w (.one (.a (.ptr 110 0)))),(.w (.agg [(.a (.v (.int .i64 2))),(.a (.v (.int .i64 0))),(.a (.v (.bool false))),(.a (.v (.slice none 0 0))),(.a (.v (.int .i64 8192))),(.a (.v (.int .i64 0))),(.a (.sym 105)),(.a (.v (.int .i64 0))),(.a (.v (.int .u32 0)))]))]
 c:=200
 pre:=idleR map0
 v:=(.w (.one (.a (.v (.int .i64 0)))))
 d:=207
 post:=[(110,.row ([pt 111 0,pt 112 0,(.a (.sym 104))]) 89),
  (111,.row ([pt 113 0,pt 114 0,pt 115 0,pt 116 0] ++ rp 9 (np) ++ [i6 5,(.a (.op 101)),(.a (.op 102)),(.a (.op 103)),i6 127,bl true]) 110),
  (112,.row ([i6 1413,i6 1541,(.a (.mp 117)),i6 0,(.a .top),(.a .top),bl false,bl false,bl false,bl false,(.a (.v (.int .u32 0))),(.a (.v (.int .u32 0))),ns,i6 0,i6 0,i6 0,(.a (.v (.int .u16 0))),(.a .top),(.a .top),i6 0,bl false,i6 0,i6 0,i6 0,bl false,bl false,bl false,bl false,(.a (.v (.int .u32 0))),(.a (.v (.int .u32 0))),ns,i6 0,i6 0,i6 0,(.a (.v (.int .u16 0))),(.a .top),ns]) 142),
  (113,.row ([i6 64,so 118 0 0 3,i6 0,bl false]) 232),
  (114,.row ([pt 119 0,pt 120 0,i6 1541,i6 1413,(.a .top)]) 303),
  (115,.row ([i6 5,i6 0,i6 0,ns]) 320),
  (116,.row ([i6 133,(.a .top),(.a .top)]) 168),
  (117,.map [] 0),
  (118,.row ([]) 37),
  (119,.row ([(.a (.op 102)),i6 0,(.a .top),(.a .top),i6 0,i6 0,ns,bl false,(.a .top),(.a .top),(.a .top),bl false,bl false,bl false,bl false,(.a (.v (.int .u32 0))),(.a (.v (.int .u32 0))),ns,i6 0,i6 0,i6 0,(.a (.v (.int .u16 0)))]) 368),
  (120,.row (rp 6 (i6 0) ++ [(.a (.op 102)),i6 0,i6 0,i6 0,ns,bl false]) 375)]
 g:=tg 1 103 104 102
 g':=tg 3 103 104 102
theorem b_write00_b:memoB (XP orcT) 1000000 b_write00=true:=by kernel_rfl
def b_write00_r:List (Nat×Nat×Nat):=[(101,101,0),(102,102,0),(103,103,0),(104,104,0),(110,110,0),(111,111,0),(112,112,0),(113,113,0),(114,114,0),(115,115,0),(116,116,0),(117,117,0),(118,118,0),(119,119,0),(120,120,0)]
theorem b_write00_w:wkAll (renL (XP orcT).ng b_write00_r) b_write00.post (idleR map0)=true:=by kernel_rfl
theorem b_write00_k:renOK (XP orcT).ng 200 b_write00_r=true:=by kernel_rfl
def b_write10:Memo where
 f:=8
 args:=[(.w (.one (.a (.ptr 110 0)))),(.w (.agg [(.a (.v (.int .i64 2))),(.a (.v (.int .i64 0))),(.a (.v (.bool false))),(.a (.v (.slice none 0 0))),(.a (.v (.int .i64 8193))),(.a (.v (.int .i64 0))),(.a (.sym 105)),(.a (.v (.int .i64 0))),(.a (.v (.int .u32 0)))]))]
 c:=200
 pre:=idleR map0
 v:=(.w (.one (.a (.v (.int .i64 0)))))
 d:=207
 post:=[(110,.row ([pt 111 0,pt 112 0,(.a (.sym 104))]) 89),
  (111,.row ([pt 113 0,pt 114 0,pt 115 0,pt 116 0] ++ rp 9 (np) ++ [i6 5,(.a (.op 101)),(.a (.op 102)),(.a (.op 103)),i6 127,bl true]) 110),
  (112,.row ([i6 1413,i6 1541,(.a (.mp 117)),i6 0,(.a .top),(.a .top),bl false,bl false,bl false,bl false,(.a (.v (.int .u32 0))),(.a (.v (.int .u32 0))),ns,i6 0,i6 0,i6 0,(.a (.v (.int .u16 0))),(.a .top),(.a .top),i6 0,bl false,i6 0,i6 0,i6 0,bl false,bl false,bl false,bl false,(.a (.v (.int .u32 0))),(.a (.v (.int .u32 0))),ns,i6 0,i6 0,i6 0,(.a (.v (.int .u16 0))),(.a .top),ns]) 142),
  (113,.row ([i6 64,so 118 0 0 3,i6 0,bl false]) 232),
  (114,.row ([pt 119 0,pt 120 0,i6 1541,i6 1413,(.a .top)]) 303),
  (115,.row ([i6 5,i6 0,i6 0,ns]) 320),
  (116,.row ([i6 133,(.a .top),(.a .top)]) 168),
  (117,.map [] 0),
  (118,.row ([]) 37),
  (119,.row ([(.a (.op 102)),i6 0,(.a .top),(.a .top),i6 0,i6 0,ns,bl false,(.a .top),(.a .top),(.a .top),bl false,bl false,bl false,bl false,(.a (.v (.int .u32 0))),(.a (.v (.int .u32 0))),ns,i6 0,i6 0,i6 0,(.a (.v (.int .u16 0)))]) 368),
  (120,.row (rp 6 (i6 0) ++ [(.a (.op 102)),i6 0,i6 0,i6 0,ns,bl false]) 375)]
 g:=tg 2 103 104 102
 g':=tg 3 103 104 102
theorem b_write10_b:memoB (XP orcT) 1000000 b_write10=true:=by kernel_rfl
def b_write10_r:List (Nat×Nat×Nat):=[(101,101,0),(102,102,0),(103,103,0),(104,104,0),(110,110,0),(111,111,0),(112,112,0),(113,113,0),(114,114,0),(115,115,0),(116,116,0),(117,117,0),(118,118,0),(119,119,0),(120,120,0)]
theorem b_write10_w:wkAll (renL (XP orcT).ng b_write10_r) b_write10.post (idleR map0)=true:=by kernel_rfl
theorem b_write10_k:renOK (XP orcT).ng 200 b_write10_r=true:=by kernel_rfl
end Go.Proofs.YtijegngfclkdaaaGreatDoor.Ev
namespace Go.Proofs.YtijegngfclkdaaaGreatDoor.Ev
open Go
def b_store_ok0:Memo where
 f:=12
 args:=[(.w (.one (.a (.ptr 110 0)))),(.w (.one (.a (.v (.int .i64 4112))))),(.w (.one (.a (.v (.int .i64 1))))),(.w (.one (.a (.sl 106 0 4 none 1)))),(.w (.one (.a (.v (.int .i64 0)))))]
 c:=200
 pre:=idleR map0 ++ [wordR [115,97,118,101]]
 v:=(.tup [(.one (.a (.v (.int .u32 0)))),(.one (.a (.v (.bool true))))])
 d:=376
 post:=[(110,.row ([pt 111 0,pt 112 0,(.a (.sym 331))]) 89),
  (111,.row ([pt 113 0,pt 114 0,pt 115 0,pt 116 0] ++ rp 9 (np) ++ [i6 5,(.a (.op 101)),(.a (.op 102)),(.a (.op 103)),i6 127,bl true]) 110),
  (112,.row ([i6 1413,i6 1541,(.a (.mp 117)),i6 0,i6 4112,i6 1,bl false,bl false,bl false,bl false,(.a (.v (.int .u32 0))),(.a (.v (.int .u32 0))),ns,i6 0,i6 0,i6 0,(.a (.v (.int .u16 0))),so 200 0 4 1,i6 5,i6 0,bl false,i6 0,i6 0,i6 0,bl false,bl false,bl false,bl false,(.a (.v (.int .u32 0))),(.a (.v (.int .u32 0))),ns,i6 0,i6 0,i6 0,(.a (.v (.int .u16 0))),(.a (.v (.int .u32 0))),ns]) 142),
  (113,.row ([i6 64,so 322 3 0 3,i6 0,bl false]) 232),
  (114,.row ([pt 119 0,pt 120 0,i6 1541,i6 1413,i6 50]) 303),
  (115,.row ([i6 5,i6 0,i6 0,ns]) 320),
  (116,.row ([i6 133,(.a .top),(.a .top)]) 168),
  (117,.map [] 1),
  (119,.row ([(.a (.op 102)),i6 0,i6 4112,i6 1,i6 0,i6 0,ns,bl false,i6 12,i6 4112,i6 1,bl false,bl false,bl false,bl false,(.a (.v (.int .u32 0))),(.a (.v (.int .u32 0))),ns,i6 0,i6 0,i6 0,(.a (.v (.int .u16 0)))]) 368),
  (120,.row (rp 6 (i6 0) ++ [(.a (.op 102)),i6 0,i6 0,i6 0,ns,bl false]) 375),
  (200,.row (u8 [115,97,118,101]) 5),
  (320,.row (u8 [96,16,16,1,0,0,0,0]) 5),
  (322,.row ([i6 1413,bl false,so 320 0 8 1]) 37)]
 g:=tg 4 103 104 102
 g':=tg 7 103 331 102
theorem b_store_ok0_b:memoB (XP orcT) 1000000 b_store_ok0=true:=by kernel_rfl
def b_store_ok0_r:List (Nat×Nat×Nat):=[(101,101,0),(102,102,0),(103,103,0),(104,331,0),(110,110,0),(111,111,0),(112,112,0),(113,113,0),(114,114,0),(115,115,0),(116,116,0),(117,117,0),(118,322,3),(119,119,0),(120,120,0)]
theorem b_store_ok0_w:wkAll (renL (XP orcT).ng b_store_ok0_r) b_store_ok0.post (idleR map0)=true:=by kernel_rfl
theorem b_store_ok0_k:renOK (XP orcT).ng 200 b_store_ok0_r=true:=by kernel_rfl
end Go.Proofs.YtijegngfclkdaaaGreatDoor.Ev
namespace Go.Proofs.YtijegngfclkdaaaGreatDoor.Ev
open Go
def b_store_worn0:Memo where
 f:=12
 args:=[(.w (.one (.a (.ptr 110 0)))),(.w (.one (.a (.v (.int .i64 4112))))),(.w (.one (.a (.v (.int .i64 1))))),(.w (.one (.a (.sl 106 0 4 none 1)))),(.w (.one (.a (.v (.int .i64 0)))))]
 c:=200
 pre:=idleR map0 ++ [wordR [115,97,118,101]]
 v:=(.tup [(.one (.a (.v (.int .u32 101056512)))),(.one (.a (.v (.bool true))))])
 d:=357
 post:=[(110,.row ([pt 111 0,pt 112 0,(.a (.sym 331))]) 89),
  (111,.row ([pt 113 0,pt 114 0,pt 115 0,pt 116 0] ++ rp 9 (np) ++ [i6 5,(.a (.op 101)),(.a (.op 102)),(.a (.op 103)),i6 127,bl true]) 110),
  (112,.row ([i6 1413,i6 1541,(.a (.mp 117)),i6 0,i6 4112,i6 1,bl false,bl false,bl false,bl false,(.a (.v (.int .u32 0))),(.a (.v (.int .u32 0))),ns,i6 0,i6 0,i6 0,(.a (.v (.int .u16 0))),so 200 0 4 1,i6 5,i6 0,bl false,i6 0,i6 0,i6 0,bl false,bl false,bl false,bl false,(.a (.v (.int .u32 0))),(.a (.v (.int .u32 0))),ns,i6 0,i6 0,i6 0,(.a (.v (.int .u16 0))),(.a (.v (.int .u32 101056512))),ns]) 142),
  (113,.row ([i6 64,so 322 3 0 3,i6 0,bl false]) 232),
  (114,.row ([pt 119 0,pt 120 0,i6 1541,i6 1413,i6 50]) 303),
  (115,.row ([i6 5,i6 0,i6 0,ns]) 320),
  (116,.row ([i6 133,(.a .top),(.a .top)]) 168),
  (117,.map [] 1),
  (119,.row ([(.a (.op 102)),i6 0,i6 4112,i6 1,i6 0,i6 0,ns,bl false,i6 12,i6 4112,i6 1,bl false,bl false,bl false,bl false,(.a (.v (.int .u32 0))),(.a (.v (.int .u32 0))),ns,i6 0,i6 0,i6 0,(.a (.v (.int .u16 0)))]) 368),
  (120,.row (rp 6 (i6 0) ++ [(.a (.op 102)),i6 0,i6 0,i6 0,ns,bl false]) 375),
  (200,.row (u8 [115,97,118,101]) 5),
  (320,.row (u8 [128,16,16,1,0,0,6,6]) 5),
  (322,.row ([i6 1413,bl false,so 320 0 8 1]) 37)]
 g:=tg 5 103 104 102
 g':=tg 8 103 331 102
theorem b_store_worn0_b:memoB (XP orcT) 1000000 b_store_worn0=true:=by kernel_rfl
def b_store_worn0_r:List (Nat×Nat×Nat):=[(101,101,0),(102,102,0),(103,103,0),(104,331,0),(110,110,0),(111,111,0),(112,112,0),(113,113,0),(114,114,0),(115,115,0),(116,116,0),(117,117,0),(118,322,3),(119,119,0),(120,120,0)]
theorem b_store_worn0_w:wkAll (renL (XP orcT).ng b_store_worn0_r) b_store_worn0.post (idleR map0)=true:=by kernel_rfl
theorem b_store_worn0_k:renOK (XP orcT).ng 200 b_store_worn0_r=true:=by kernel_rfl
end Go.Proofs.YtijegngfclkdaaaGreatDoor.Ev
namespace Go.Proofs.YtijegngfclkdaaaGreatDoor.Ev
open Go
def b_store_off0:Memo where
 f:=12
 args:=[(.w (.one (.a (.ptr 110 0)))),(.w (.one (.a (.v (.int .i64 4112))))),(.w (.one (.a (.v (.int .i64 1))))),(.w (.one (.a (.sl 106 0 4 none 1)))),(.w (.one (.a (.v (.int .i64 0)))))]
 c:=200
 pre:=idleR map0 ++ [wordR [115,97,118,101]]
 v:=(.tup [(.one (.a (.v (.int .u32 0)))),(.one (.a (.v (.bool false))))])
 d:=329
 post:=[(110,.row ([pt 111 0,pt 112 0,(.a (.sym 104))]) 89),
  (111,.row ([pt 113 0,pt 114 0,pt 115 0,pt 116 0] ++ rp 9 (np) ++ [i6 5,(.a (.op 101)),(.a (.op 102)),(.a (.op 103)),i6 127,bl false]) 110),
  (112,.row ([i6 1413,i6 1541,(.a (.mp 117)),i6 0,i6 4112,i6 1,bl false,bl false,bl false,bl false,(.a (.v (.int .u32 0))),(.a (.v (.int .u32 0))),ns,i6 0,i6 0,i6 0,(.a (.v (.int .u16 0))),so 200 0 4 1,i6 5,i6 0,bl false,i6 0,i6 0,i6 0,bl false,bl false,bl false,bl false,(.a (.v (.int .u32 0))),(.a (.v (.int .u32 0))),ns,i6 0,i6 0,i6 0,(.a (.v (.int .u16 0))),(.a (.v (.int .u32 0))),ns]) 142),
  (113,.row ([i6 64,ns,i6 0,bl false]) 232),
  (114,.row ([pt 119 0,pt 120 0,i6 1541,i6 1413,i6 50]) 303),
  (115,.row ([i6 5,i6 0,i6 0,ns]) 320),
  (116,.row ([i6 133,(.a .top),(.a .top)]) 168),
  (117,.map [⟨(.int .i64 12),(.int .i64 1),0⟩] 1),
  (119,.row ([(.a (.op 102)),i6 0,i6 4112,i6 1,i6 0,i6 0,ns,bl false,i6 12,i6 4112,i6 1,bl false,bl false,bl false,bl false,(.a (.v (.int .u32 0))),(.a (.v (.int .u32 0))),ns,i6 0,i6 0,i6 0,(.a (.v (.int .u16 0)))]) 368),
  (120,.row (rp 6 (i6 0) ++ [(.a (.op 102)),i6 0,i6 0,i6 0,ns,bl false]) 375),
  (200,.row (u8 [115,97,118,101]) 5)]
 g:=tg 6 103 104 102
 g':=tg 9 103 104 102
theorem b_store_off0_b:memoB (XP orcT) 1000000 b_store_off0=true:=by kernel_rfl
def b_store_off0_r:List (Nat×Nat×Nat):=[(101,101,0),(102,102,0),(103,103,0),(104,104,0),(110,110,0),(111,111,0),(112,112,0),(113,113,0),(114,114,0),(115,115,0),(116,116,0),(117,117,0),(118,200,0),(119,119,0),(120,120,0)]
theorem b_store_off0_w:wkAll (renL (XP orcT).ng b_store_off0_r) b_store_off0.post offR=true:=by kernel_rfl
theorem b_store_off0_k:renOK (XP orcT).ng 200 b_store_off0_r=true:=by kernel_rfl
end Go.Proofs.YtijegngfclkdaaaGreatDoor.Ev
namespace Go.Proofs.YtijegngfclkdaaaGreatDoor.Ev
open Go
def b_rest_ok0:Memo where
 f:=12
 args:=[(.w (.one (.a (.ptr 110 0)))),(.w (.one (.a (.v (.int .i64 4113))))),(.w (.one (.a (.v (.int .i64 1))))),(.w (.one (.a (.sl 106 0 4 none 1)))),(.w (.one (.a (.v (.int .i64 0)))))]
 c:=200
 pre:=idleR map0 ++ [wordR [108,111,97,100]]
 v:=(.tup [(.one (.a (.v (.int .u32 0)))),(.one (.a (.v (.bool true))))])
 d:=376
 post:=[(110,.row ([pt 111 0,pt 112 0,(.a (.sym 331))]) 89),
  (111,.row ([pt 113 0,pt 114 0,pt 115 0,pt 116 0] ++ rp 9 (np) ++ [i6 5,(.a (.op 101)),(.a (.op 102)),(.a (.op 103)),i6 127,bl true]) 110),
  (112,.row ([i6 1413,i6 1541,(.a (.mp 117)),i6 0,i6 4113,i6 1,bl false,bl false,bl false,bl false,(.a (.v (.int .u32 0))),(.a (.v (.int .u32 0))),ns,i6 0,i6 0,i6 0,(.a (.v (.int .u16 0))),so 200 0 4 1,i6 5,i6 0,bl false,i6 0,i6 0,i6 0,bl false,bl false,bl false,bl false,(.a (.v (.int .u32 0))),(.a (.v (.int .u32 0))),ns,i6 0,i6 0,i6 0,(.a (.v (.int .u16 0))),(.a (.v (.int .u32 0))),ns]) 142),
  (113,.row ([i6 64,so 322 3 0 3,i6 0,bl false]) 232),
  (114,.row ([pt 119 0,pt 120 0,i6 1541,i6 1413,i6 50]) 303),
  (115,.row ([i6 5,i6 0,i6 0,ns]) 320),
  (116,.row ([i6 133,(.a .top),(.a .top)]) 168),
  (117,.map [] 1),
  (119,.row ([(.a (.op 102)),i6 0,i6 4113,i6 1,i6 0,i6 0,ns,bl false,i6 12,i6 4113,i6 1,bl false,bl false,bl false,bl false,(.a (.v (.int .u32 0))),(.a (.v (.int .u32 0))),ns,i6 0,i6 0,i6 0,(.a (.v (.int .u16 0)))]) 368),
  (120,.row (rp 6 (i6 0) ++ [(.a (.op 102)),i6 0,i6 0,i6 0,ns,bl false]) 375),
  (200,.row (u8 [108,111,97,100]) 5),
  (320,.row (u8 [96,17,16,1,0,0,0,0]) 5),
  (322,.row ([i6 1413,bl false,so 320 0 8 1]) 37)]
 g:=tg 10 103 104 102
 g':=tg 7 103 331 102
theorem b_rest_ok0_b:memoB (XP orcT) 1000000 b_rest_ok0=true:=by kernel_rfl
def b_rest_ok0_r:List (Nat×Nat×Nat):=[(101,101,0),(102,102,0),(103,103,0),(104,331,0),(110,110,0),(111,111,0),(112,112,0),(113,113,0),(114,114,0),(115,115,0),(116,116,0),(117,117,0),(118,322,3),(119,119,0),(120,120,0)]
theorem b_rest_ok0_w:wkAll (renL (XP orcT).ng b_rest_ok0_r) b_rest_ok0.post (idleR map0)=true:=by kernel_rfl
theorem b_rest_ok0_k:renOK (XP orcT).ng 200 b_rest_ok0_r=true:=by kernel_rfl
end Go.Proofs.YtijegngfclkdaaaGreatDoor.Ev
namespace Go.Proofs.YtijegngfclkdaaaGreatDoor.Ev
open Go
def b_rest_worn0:Memo where
 f:=12
 args:=[(.w (.one (.a (.ptr 110 0)))),(.w (.one (.a (.v (.int .i64 4113))))),(.w (.one (.a (.v (.int .i64 1))))),(.w (.one (.a (.sl 106 0 4 none 1)))),(.w (.one (.a (.v (.int .i64 0)))))]
 c:=200
 pre:=idleR map0 ++ [wordR [108,111,97,100]]
 v:=(.tup [(.one (.a (.v (.int .u32 101056512)))),(.one (.a (.v (.bool true))))])
 d:=357
 post:=[(110,.row ([pt 111 0,pt 112 0,(.a (.sym 331))]) 89),
  (111,.row ([pt 113 0,pt 114 0,pt 115 0,pt 116 0] ++ rp 9 (np) ++ [i6 5,(.a (.op 101)),(.a (.op 102)),(.a (.op 103)),i6 127,bl true]) 110),
  (112,.row ([i6 1413,i6 1541,(.a (.mp 117)),i6 0,i6 4113,i6 1,bl false,bl false,bl false,bl false,(.a (.v (.int .u32 0))),(.a (.v (.int .u32 0))),ns,i6 0,i6 0,i6 0,(.a (.v (.int .u16 0))),so 200 0 4 1,i6 5,i6 0,bl false,i6 0,i6 0,i6 0,bl false,bl false,bl false,bl false,(.a (.v (.int .u32 0))),(.a (.v (.int .u32 0))),ns,i6 0,i6 0,i6 0,(.a (.v (.int .u16 0))),(.a (.v (.int .u32 101056512))),ns]) 142),
  (113,.row ([i6 64,so 322 3 0 3,i6 0,bl false]) 232),
  (114,.row ([pt 119 0,pt 120 0,i6 1541,i6 1413,i6 50]) 303),
  (115,.row ([i6 5,i6 0,i6 0,ns]) 320),
  (116,.row ([i6 133,(.a .top),(.a .top)]) 168),
  (117,.map [] 1),
  (119,.row ([(.a (.op 102)),i6 0,i6 4113,i6 1,i6 0,i6 0,ns,bl false,i6 12,i6 4113,i6 1,bl false,bl false,bl false,bl false,(.a (.v (.int .u32 0))),(.a (.v (.int .u32 0))),ns,i6 0,i6 0,i6 0,(.a (.v (.int .u16 0)))]) 368),
  (120,.row (rp 6 (i6 0) ++ [(.a (.op 102)),i6 0,i6 0,i6 0,ns,bl false]) 375),
  (200,.row (u8 [108,111,97,100]) 5),
  (320,.row (u8 [128,17,16,1,0,0,6,6]) 5),
  (322,.row ([i6 1413,bl false,so 320 0 8 1]) 37)]
 g:=tg 11 103 104 102
 g':=tg 8 103 331 102
theorem b_rest_worn0_b:memoB (XP orcT) 1000000 b_rest_worn0=true:=by kernel_rfl
def b_rest_worn0_r:List (Nat×Nat×Nat):=[(101,101,0),(102,102,0),(103,103,0),(104,331,0),(110,110,0),(111,111,0),(112,112,0),(113,113,0),(114,114,0),(115,115,0),(116,116,0),(117,117,0),(118,322,3),(119,119,0),(120,120,0)]
theorem b_rest_worn0_w:wkAll (renL (XP orcT).ng b_rest_worn0_r) b_rest_worn0.post (idleR map0)=true:=by kernel_rfl
theorem b_rest_worn0_k:renOK (XP orcT).ng 200 b_rest_worn0_r=true:=by kernel_rfl
end Go.Proofs.YtijegngfclkdaaaGreatDoor.Ev
namespace Go.Proofs.YtijegngfclkdaaaGreatDoor.Ev
open Go
def b_rest_off0:Memo where
 f:=12
 args:=[(.w (.one (.a (.ptr 110 0)))),(.w (.one (.a (.v (.int .i64 4113))))),(.w (.one (.a (.v (.int .i64 1))))),(.w (.one (.a (.sl 106 0 4 none 1)))),(.w (.one (.a (.v (.int .i64 0)))))]
 c:=200
 pre:=idleR map0 ++ [wordR [108,111,97,100]]
 v:=(.tup [(.one (.a (.v (.int .u32 0)))),(.one (.a (.v (.bool false))))])
 d:=329
 post:=[(110,.row ([pt 111 0,pt 112 0,(.a (.sym 104))]) 89),
  (111,.row ([pt 113 0,pt 114 0,pt 115 0,pt 116 0] ++ rp 9 (np) ++ [i6 5,(.a (.op 101)),(.a (.op 102)),(.a (.op 103)),i6 127,bl false]) 110),
  (112,.row ([i6 1413,i6 1541,(.a (.mp 117)),i6 0,i6 4113,i6 1,bl false,bl false,bl false,bl false,(.a (.v (.int .u32 0))),(.a (.v (.int .u32 0))),ns,i6 0,i6 0,i6 0,(.a (.v (.int .u16 0))),so 200 0 4 1,i6 5,i6 0,bl false,i6 0,i6 0,i6 0,bl false,bl false,bl false,bl false,(.a (.v (.int .u32 0))),(.a (.v (.int .u32 0))),ns,i6 0,i6 0,i6 0,(.a (.v (.int .u16 0))),(.a (.v (.int .u32 0))),ns]) 142),
  (113,.row ([i6 64,ns,i6 0,bl false]) 232),
  (114,.row ([pt 119 0,pt 120 0,i6 1541,i6 1413,i6 50]) 303),
  (115,.row ([i6 5,i6 0,i6 0,ns]) 320),
  (116,.row ([i6 133,(.a .top),(.a .top)]) 168),
  (117,.map [⟨(.int .i64 12),(.int .i64 1),0⟩] 1),
  (119,.row ([(.a (.op 102)),i6 0,i6 4113,i6 1,i6 0,i6 0,ns,bl false,i6 12,i6 4113,i6 1,bl false,bl false,bl false,bl false,(.a (.v (.int .u32 0))),(.a (.v (.int .u32 0))),ns,i6 0,i6 0,i6 0,(.a (.v (.int .u16 0)))]) 368),
  (120,.row (rp 6 (i6 0) ++ [(.a (.op 102)),i6 0,i6 0,i6 0,ns,bl false]) 375),
  (200,.row (u8 [108,111,97,100]) 5)]
 g:=tg 12 103 104 102
 g':=tg 9 103 104 102
theorem b_rest_off0_b:memoB (XP orcT) 1000000 b_rest_off0=true:=by kernel_rfl
def b_rest_off0_r:List (Nat×Nat×Nat):=[(101,101,0),(102,102,0),(103,103,0),(104,104,0),(110,110,0),(111,111,0),(112,112,0),(113,113,0),(114,114,0),(115,115,0),(116,116,0),(117,117,0),(118,200,0),(119,119,0),(120,120,0)]
theorem b_rest_off0_w:wkAll (renL (XP orcT).ng b_rest_off0_r) b_rest_off0.post offR=true:=by kernel_rfl
theorem b_rest_off0_k:renOK (XP orcT).ng 200 b_rest_off0_r=true:=by kernel_rfl
def b_write01:Memo where
 f:=8
 args:=[(.w (.one (.a (.ptr 110 0)))),(.w (.agg [(.a (.v (.int .i64 2))),(.a (.v (.int .i64 0))),(.a (.v (.bool false))),(.a (.v (.slice none 0 0))),(.a (.v (.int .i64 8192))),(.a (.v (.int .i64 0))),(.a (.sym 105)),(.a (.v (.int .i64 0))),(.a (.v (.int .u32 0)))]))]
 c:=200
 pre:=idleR map1
 v:=(.w (.one (.a (.v (.int .i64 0)))))
 d:=207
 post:=[(110,.row ([pt 111 0,pt 112 0,(.a (.sym 104))]) 89),
  (111,.row ([pt 113 0,pt 114 0,pt 115 0,pt 116 0] ++ rp 9 (np) ++ [i6 5,(.a (.op 101)),(.a (.op 102)),(.a (.op 103)),i6 127,bl true]) 110),
  (112,.row ([i6 1413,i6 1541,(.a (.mp 117)),i6 0,(.a .top),(.a .top),bl false,bl false,bl false,bl false,(.a (.v (.int .u32 0))),(.a (.v (.int .u32 0))),ns,i6 0,i6 0,i6 0,(.a (.v (.int .u16 0))),(.a .top),(.a .top),i6 0,bl false,i6 0,i6 0,i6 0,bl false,bl false,bl false,bl false,(.a (.v (.int .u32 0))),(.a (.v (.int .u32 0))),ns,i6 0,i6 0,i6 0,(.a (.v (.int .u16 0))),(.a .top),ns]) 142),
  (113,.row ([i6 64,so 118 0 0 3,i6 0,bl false]) 232),
  (114,.row ([pt 119 0,pt 120 0,i6 1541,i6 1413,(.a .top)]) 303),
  (115,.row ([i6 5,i6 0,i6 0,ns]) 320),
  (116,.row ([i6 133,(.a .top),(.a .top)]) 168),
  (117,.map [⟨(.int .i64 12),(.int .i64 1),0⟩] 1),
  (118,.row ([]) 37),
  (119,.row ([(.a (.op 102)),i6 0,(.a .top),(.a .top),i6 0,i6 0,ns,bl false,(.a .top),(.a .top),(.a .top),bl false,bl false,bl false,bl false,(.a (.v (.int .u32 0))),(.a (.v (.int .u32 0))),ns,i6 0,i6 0,i6 0,(.a (.v (.int .u16 0)))]) 368),
  (120,.row (rp 6 (i6 0) ++ [(.a (.op 102)),i6 0,i6 0,i6 0,ns,bl false]) 375)]
 g:=tg 1 103 104 102
 g':=tg 3 103 104 102
theorem b_write01_b:memoB (XP orcT) 1000000 b_write01=true:=by kernel_rfl
def b_write01_r:List (Nat×Nat×Nat):=[(101,101,0),(102,102,0),(103,103,0),(104,104,0),(110,110,0),(111,111,0),(112,112,0),(113,113,0),(114,114,0),(115,115,0),(116,116,0),(117,117,0),(118,118,0),(119,119,0),(120,120,0)]
theorem b_write01_w:wkAll (renL (XP orcT).ng b_write01_r) b_write01.post (idleR map1)=true:=by kernel_rfl
theorem b_write01_k:renOK (XP orcT).ng 200 b_write01_r=true:=by kernel_rfl
def b_write11:Memo where
 f:=8
 args:=[(.w (.one (.a (.ptr 110 0)))),(.w (.agg [(.a (.v (.int .i64 2))),(.a (.v (.int .i64 0))),(.a (.v (.bool false))),(.a (.v (.slice none 0 0))),(.a (.v (.int .i64 8193))),(.a (.v (.int .i64 0))),(.a (.sym 105)),(.a (.v (.int .i64 0))),(.a (.v (.int .u32 0)))]))]
 c:=200
 pre:=idleR map1
 v:=(.w (.one (.a (.v (.int .i64 0)))))
 d:=207
 post:=[(110,.row ([pt 111 0,pt 112 0,(.a (.sym 104))]) 89),
  (111,.row ([pt 113 0,pt 114 0,pt 115 0,pt 116 0] ++ rp 9 (np) ++ [i6 5,(.a (.op 101)),(.a (.op 102)),(.a (.op 103)),i6 127,bl true]) 110),
  (112,.row ([i6 1413,i6 1541,(.a (.mp 117)),i6 0,(.a .top),(.a .top),bl false,bl false,bl false,bl false,(.a (.v (.int .u32 0))),(.a (.v (.int .u32 0))),ns,i6 0,i6 0,i6 0,(.a (.v (.int .u16 0))),(.a .top),(.a .top),i6 0,bl false,i6 0,i6 0,i6 0,bl false,bl false,bl false,bl false,(.a (.v (.int .u32 0))),(.a (.v (.int .u32 0))),ns,i6 0,i6 0,i6 0,(.a (.v (.int .u16 0))),(.a .top),ns]) 142),
  (113,.row ([i6 64,so 118 0 0 3,i6 0,bl false]) 232),
  (114,.row ([pt 119 0,pt 120 0,i6 1541,i6 1413,(.a .top)]) 303),
  (115,.row ([i6 5,i6 0,i6 0,ns]) 320),
  (116,.row ([i6 133,(.a .top),(.a .top)]) 168),
  (117,.map [⟨(.int .i64 12),(.int .i64 1),0⟩] 1),
  (118,.row ([]) 37),
  (119,.row ([(.a (.op 102)),i6 0,(.a .top),(.a .top),i6 0,i6 0,ns,bl false,(.a .top),(.a .top),(.a .top),bl false,bl false,bl false,bl false,(.a (.v (.int .u32 0))),(.a (.v (.int .u32 0))),ns,i6 0,i6 0,i6 0,(.a (.v (.int .u16 0)))]) 368),
  (120,.row (rp 6 (i6 0) ++ [(.a (.op 102)),i6 0,i6 0,i6 0,ns,bl false]) 375)]
 g:=tg 2 103 104 102
 g':=tg 3 103 104 102
theorem b_write11_b:memoB (XP orcT) 1000000 b_write11=true:=by kernel_rfl
def b_write11_r:List (Nat×Nat×Nat):=[(101,101,0),(102,102,0),(103,103,0),(104,104,0),(110,110,0),(111,111,0),(112,112,0),(113,113,0),(114,114,0),(115,115,0),(116,116,0),(117,117,0),(118,118,0),(119,119,0),(120,120,0)]
theorem b_write11_w:wkAll (renL (XP orcT).ng b_write11_r) b_write11.post (idleR map1)=true:=by kernel_rfl
theorem b_write11_k:renOK (XP orcT).ng 200 b_write11_r=true:=by kernel_rfl
end Go.Proofs.YtijegngfclkdaaaGreatDoor.Ev
