/-
  Pieces of the proof: part 46 of 54.
  Conditions: none.
-/
import Derived.Test.YtijegngfclkdaaaGreatDoorW14
import Derived.Test.YtijegngfclkdaaaGreatDoorX40
import Derived.Test.YtijegngfclkdaaaGreatDoorX41
import Derived.Test.YtijegngfclkdaaaGreatDoorX42
import Derived.Test.YtijegngfclkdaaaGreatDoorX43
import Derived.Test.YtijegngfclkdaaaGreatDoorX45
set_option linter.unusedVariables false
set_option linter.unusedSimpArgs false
set_option maxHeartbeats 100000000
set_option maxRecDepth 100000
namespace Go.Proofs.YtijegngfclkdaaaGreatDoor.Ev
open Go
def al3345:Memo where
 f:=45
 args:=[(.w (.one (.a (.ptr 349 0)))),(.w (.one (.a (.v (.int .i64 8192))))),(.w (.one (.a (.v (.int .i64 0))))),(.w (.one (.a (.v (.int .i64 1)))))]
 c:=2275
 pre:=[(107,.row ([so 152 0 2 11,so 154 0 2 1]) 131),
  (152,.row ([i6 4112,i6 1,(.a (.v (.string ⟨#[115,97,118,101]⟩))),i6 7,i6 4,bl false,bl false,i6 0,i6 0,i6 4294967295,so 126 0 4 1,i6 8192,i6 0,(.a (.v (.string ⟨#[116,101,120,116]⟩))),i6 9,i6 4,bl false,bl true,i6 20,i6 0,i6 0,ns]) 27),
  (154,.row ([so 2077 0 4 1,so 2106 0 5 1]) 25),
  (155,.row ([pt 2187 0,pt 2186 0,pt 2109 0,pt 2108 0] ++ rp 9 (np) ++ [i6 5,pt 105 0,pt 107 0,pt 2047 0,i6 127,bl true]) 110),
  (347,.map [] 5),
  (348,.row ([i6 1413,i6 1541,(.a (.mp 347)),i6 0,i6 4112,i6 1,bl false,bl false,bl false,bl false,(.a (.v (.int .u32 0))),(.a (.v (.int .u32 0))),ns,i6 0,i6 0,i6 0,(.a (.v (.int .u16 0))),so 1365 0 4 1,i6 5,i6 0,bl true,i6 0,i6 0,i6 0,bl false,bl false,bl false,bl false,(.a (.v (.int .u32 0))),(.a (.v (.int .u32 0))),ns,i6 0,i6 0,i6 0,(.a (.v (.int .u16 0))),(.a (.v (.int .u32 0))),ns]) 142),
  (349,.row ([pt 155 0,pt 348 0,so 2270 0 7 3]) 89),
  (2047,.row ([pt 2005 0,so 2060 0 1 3,bl false,bl false]) 215),
  (2106,.row (u8 [104,101,108,108,111]) 5),
  (2184,.row ([pt 107 0,i6 0,i6 0,i6 0,i6 0,i6 0,ns,bl false,i6 0,i6 0,i6 0,bl false,bl false,bl false,bl false,(.a (.v (.int .u32 0))),(.a (.v (.int .u32 0))),ns,i6 0,i6 0,i6 0,(.a (.v (.int .u16 0)))]) 368),
  (2185,.row (rp 6 (i6 0) ++ [pt 107 0,i6 0,i6 0,i6 0,ns,bl false]) 375),
  (2186,.row ([pt 2184 0,pt 2185 0,i6 1541,i6 1413,i6 0]) 303),
  (2187,.row ([i6 64,so 2200 3 0 3,i6 0,bl false]) 232),
  (2200,.row ([i6 1797,bl false,so 2198 0 1 1]) 37),
  (2270,.row ([i6 1797,bl false,so 357 0 1 1,i6 1413,bl false,so 575 0 8 1,i6 1413,bl false,so 797 0 8 1,i6 1413,bl false,so 1214 0 8 1,i6 1413,bl false,so 1517 0 8 1,i6 1413,bl false,so 1938 0 8 1,i6 1797,bl false,so 2268 0 1 1]) 37)]
 v:=(.tup [(.one (.a (.sl 2797 0 5 none 1))),(.one (.a (.v (.int .u32 0)))),(.one (.a (.v (.bool true))))])
 d:=2798
 post:=[(2797,.row (u8 [104,101,108,108,111]) 5)]
theorem al3345_b:memoB (XP (memoOrc noOrc [al3375,al3710,al3917])) 1000000 al3345=true:=by kernel_rfl
theorem al3345_ok:MemoOK (XP noOrc) O0 al3345:=al_ok (l:=[al3375,al3710,al3917]) (by simp only [List.forall_mem_cons,List.not_mem_nil,false_implies,implies_true,and_true]; exact ⟨al3375_ok,al3710_ok,al3917_ok⟩) (by kernel_rfl) al3345_b
def al0:Memo where
 f:=16
 args:=[]
 c:=100
 pre:=[]
 v:=(.w (.one (.a (.v (.bool true)))))
 d:=2798
 post:=[]
theorem al0_b:memoB (XP (memoOrc noOrc [al1,al80,al86,al92,al95,al389,al1903,al2786,al3345])) 1000000 al0=true:=by kernel_rfl
theorem al0_ok:MemoOK (XP noOrc) O0 al0:=al_ok (l:=[al1,al80,al86,al92,al95,al389,al1903,al2786,al3345]) (by simp only [List.forall_mem_cons,List.not_mem_nil,false_implies,implies_true,and_true]; exact ⟨al1_ok,al80_ok,al86_ok,al92_ok,al95_ok,al389_ok,al1903_ok,al2786_ok,al3345_ok⟩) (by kernel_rfl) al0_b
end Go.Proofs.YtijegngfclkdaaaGreatDoor.Ev
namespace Go.Proofs.YtijegngfclkdaaaGreatDoor
open Go Go.RowKit Go.Sort Ev
theorem alive_any (w:World):Calls Tryz.prog 16 #[] w fun e w'=>e=.returned (.bool true)∧Below w.heap.size w w':=by
 have hng:(XP noOrc).ng≤100:=Nat.le_of_ble_eq_true (by kernel_rfl);have h:=al0_ok.2 ⟨fun i=>i,fun _=>0,fun _=>0,fun i=>i < 100,fun _=>.bool false,fun _=>False⟩ w []
  (show Rel (XP noOrc) O0 _ (hOf []) 0 w from { ob:=fun id o h=>(nomatch h),inj:=fun i j h=>absurd rfl h,apart:=fun i h=>absurd rfl h,glob:=fun b hb=>⟨Nat.lt_of_lt_of_le hb hng,rfl,rfl⟩,lt:=fun _ h=>False.elim h,out:=trivial })
  (fun id (h1:100≤id) _ (h3:id < 100)=>Nat.lt_irrefl _ (Nat.lt_of_lt_of_le h3 h1)) trivial
 refine h.mono ?_;rintro e w' ⟨y,E',rfl,h1,_,m⟩;exact ⟨by rw [h1.1],m.kp.1,m.kp.2.1,m.kp.2.2,m.size,fun b hb=>m.frame b hb (fun h=>h) fun id hi=>absurd rfl hi⟩
end Go.Proofs.YtijegngfclkdaaaGreatDoor
