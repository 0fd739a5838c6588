/-
  Piece 45 of the proof.
  Conditions: none.
-/
import Derived.Test.YtijegngfclkdaaaGreatDoorQ40
import Derived.Test.YtijegngfclkdaaaGreatDoorQ42
import Derived.Test.YtijegngfclkdaaaGreatDoorQ44
set_option linter.unusedVariables false
set_option linter.unusedSimpArgs false
set_option maxHeartbeats 100000000
set_option maxRecDepth 100000
namespace Go.Proofs.YtijegngfclkdaaaGreatDoor
namespace Ev
open Go
def sB:cW where
 f:=45
 args:=[(.w (.one (.a (.ptr 349 0)))),(.w (.one (.a (.v (.int .i64 8192))))),(.w (.one (.a (.v (.int .i64 0))))),(.w (.one (.a (.v (.int .i64 1)))))]
 c:=2275
 pre:=[(107,.row ([so 152 0 2 11,so 154 0 2 1]) 131),
  (152,.row ([i6 4112,i6 1,(.a (.v (.string ⟨#[115,97,118,101]⟩))),i6 7,i6 4,bl false,bl false,i6 0,i6 0,i6 4294967295,so 126 0 4 1,i6 8192,i6 0,(.a (.v (.string ⟨#[116,101,120,116]⟩))),i6 9,i6 4,bl false,bl true,i6 20,i6 0,i6 0,ns]) 27),
  (154,.row ([so 2077 0 4 1,so 2106 0 5 1]) 25),
  (155,.row ([pt 2187 0,pt 2186 0,pt 2109 0,pt 2108 0] ++ rp 9 (np) ++ [i6 5,pt 105 0,pt 107 0,pt 2047 0,i6 127,bl true]) 110),
  (347,.map [] 5),
  (348,.row ([i6 1413,i6 1541,(.a (.mp 347)),i6 0,i6 4112,i6 1,bl false,bl false,bl false,bl false,(.a (.v (.int .u32 0))),(.a (.v (.int .u32 0))),ns,i6 0,i6 0,i6 0,(.a (.v (.int .u16 0))),so 1365 0 4 1,i6 5,i6 0,bl true,i6 0,i6 0,i6 0,bl false,bl false,bl false,bl false,(.a (.v (.int .u32 0))),(.a (.v (.int .u32 0))),ns,i6 0,i6 0,i6 0,(.a (.v (.int .u16 0))),(.a (.v (.int .u32 0))),ns]) 142),
  (349,.row ([pt 155 0,pt 348 0,so 2270 0 7 3]) 89),
  (2047,.row ([pt 2005 0,so 2060 0 1 3,bl false,bl false]) 215),
  (2106,.row (u8 [104,101,108,108,111]) 5),
  (2184,.row ([pt 107 0,i6 0,i6 0,i6 0,i6 0,i6 0,ns,bl false,i6 0,i6 0,i6 0,bl false,bl false,bl false,bl false,(.a (.v (.int .u32 0))),(.a (.v (.int .u32 0))),ns,i6 0,i6 0,i6 0,(.a (.v (.int .u16 0)))]) 368),
  (2185,.row (rp 6 (i6 0) ++ [pt 107 0,i6 0,i6 0,i6 0,ns,bl false]) 375),
  (2186,.row ([pt 2184 0,pt 2185 0,i6 1541,i6 1413,i6 0]) 303),
  (2187,.row ([i6 64,so 2200 3 0 3,i6 0,bl false]) 232),
  (2200,.row ([i6 1797,bl false,so 2198 0 1 1]) 37),
  (2270,.row ([i6 1797,bl false,so 357 0 1 1,i6 1413,bl false,so 575 0 8 1,i6 1413,bl false,so 797 0 8 1,i6 1413,bl false,so 1214 0 8 1,i6 1413,bl false,so 1517 0 8 1,i6 1413,bl false,so 1938 0 8 1,i6 1797,bl false,so 2268 0 1 1]) 37)]
 v:=(.nN [(.one (.a (.sl 2797 0 5 none 1))),(.one (.a (.v (.int .u32 0)))),(.one (.a (.v (.bool true))))])
 d:=2798
 post:=[(2797,.row (u8 [104,101,108,108,111]) 5)]
theorem Fi:cA (XP (aX aR [sf,ss,rI])) 1000000 sB=true:=by kernel_rfl
theorem Ak:bj (XP aR) O0 sB:=cL (l:=[sf,ss,rI]) (by simp only [List.forall_mem_cons,List.not_mem_nil,false_implies,implies_true,and_true]; exact ⟨AO,z_,By⟩) (by kernel_rfl) Fi
def Xi:cW where
 f:=16
 args:=[]
 c:=100
 pre:=[]
 v:=(.w (.one (.a (.v (.bool true)))))
 d:=2798
 post:=[]
theorem Rk:cA (XP (aX aR [Vb,KA,JP,Kt,JJ,ze,sW,sR,sB])) 1000000 Xi=true:=by kernel_rfl
theorem Oo:bj (XP aR) O0 Xi:=cL (l:=[Vb,KA,JP,Kt,JJ,ze,sW,sR,sB]) (by simp only [List.forall_mem_cons,List.not_mem_nil,false_implies,implies_true,and_true]; exact ⟨Oh,Jq,Kw,Ku,I8,EY,CT,Ax,Ak⟩) (by kernel_rfl) Rk
end Ev
section
open Go Go.RowKit Go.Sort Ev
theorem cQ (w:World):Calls Tryz.prog 16 #[] w fun e w'=>e=.returned (.bool true)/\Below w.heap.size w w':=by
 have OC:(XP aR).ng<=100:=Nat.le_of_ble_eq_true (by kernel_rfl);have h:=Oo.2 ⟨fun i=>i,fun _=>0,fun _=>0,fun i=>i < 100,fun _=>.bool false,fun _=>False⟩ w []
  (show Rel (XP aR) O0 _ (mJ []) 0 w from { ob:=fun id o h=>(nomatch h),inj:=fun i j h=>absurd rfl h,apart:=fun i h=>absurd rfl h,kJ:=fun b hb=>⟨Nat.lt_of_lt_of_le hb OC,rfl,rfl⟩,lt:=fun _ h=>False.elim h,out:=trivial })
  (fun id (h1:100<=id) _ (h3:id < 100)=>Nat.lt_irrefl _ (Nat.lt_of_lt_of_le h3 h1)) trivial
 refine h.mono ?_;rintro e w' ⟨y,E',rfl,h1,_,m⟩;exact ⟨by rw [h1.1],m.kp.1,m.kp.2.1,m.kp.2.2,m.size,fun b hb=>m.frame b hb (fun h=>h) fun id hi=>absurd rfl hi⟩
end
end Go.Proofs.YtijegngfclkdaaaGreatDoor
