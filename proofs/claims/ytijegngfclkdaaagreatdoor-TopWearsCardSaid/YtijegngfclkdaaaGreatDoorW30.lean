/-
  Pieces of the proof: part 30 of 54.
  Conditions: none.
-/
import Derived.Deep.DeepCutAuto
import Derived.Deep.CutBlock
import Derived.Test.YtijegngfclkdaaaGreatDoorW28
import Derived.Test.YtijegngfclkdaaaGreatDoorW29
set_option linter.unusedVariables false
set_option linter.unusedSimpArgs false
set_option maxHeartbeats 100000000
set_option maxRecDepth 100000
namespace Go.Proofs.YtijegngfclkdaaaGreatDoor
open Go.RowKit
section
variable {w w':World} {F:Nat→Prop} {gv gj gl c gf cs:Nat} {A As:Option Addr} {xs:List Value} {x:Vau}
set_option maxRecDepth 100000
set_option maxHeartbeats 2000000
theorem vthere_any (h:VaM w F gv gj gl A c xs gf As cs x):Calls Tryz.prog 137 #[.pointer (some ⟨gv,0,none⟩)] w fun e w'=>e=.returned (.bool true)∧w=w':=by
 have F:=h.four;clear h;go_enter Tryz.func137,Tryz.ntmps137
 go_wp2_with fail
 go_ret
 exact ⟨rfl,rfl⟩
theorem vOdd_any (h:VaM w F gv gj gl A c xs gf As cs x):Calls Tryz.prog 97 #[.pointer (some ⟨gv,0,none⟩)] w fun e w'=>e=.returned (.bool x.odd)∧w=w':=by
 have F:=h.four;have TH:=Lib.hid (vthere_any h);clear h;go_enter Tryz.func97,Tryz.ntmps97
 go_wp2_with fail
 refine (TH.out).mono ?_;rintro e _ ⟨rfl,rfl⟩;go_wp2_with fail
 go_ret
 exact ⟨rfl,rfl⟩
theorem vOff_any (h:VaM w F gv gj gl A c xs gf As cs x):Calls Tryz.prog 110 #[.pointer (some ⟨gv,0,none⟩)] w fun e w'=>e=.returned (.bool x.off)∧w=w':=by
 have F:=h.four;have TH:=Lib.hid (vthere_any h);clear h;go_enter Tryz.func110,Tryz.ntmps110
 go_wp2_with fail
 refine (TH.out).mono ?_;rintro e _ ⟨rfl,rfl⟩;go_wp2_with fail
 go_ret
 exact ⟨rfl,rfl⟩
theorem vcheck_one (h:VaM w F gv gj gl A c xs gf As cs x):Calls Tryz.prog 304 #[.pointer (some ⟨gv,0,none⟩),.int .i64 1] w fun e w'=>e=.returned (.int .u32 0)∧w=w':=by
 have TH:=Lib.hid (vthere_any h);clear h;go_enter Tryz.func304,Tryz.ntmps304
 go_wp2_with fail
 refine (TH.out).mono ?_;rintro e _ ⟨rfl,rfl⟩;go_wp2_with fail
 go_ret
 exact ⟨rfl,rfl⟩
end
def offT:ByteArray:=⟨#[116,104,101,32,112,111,119,101,114,32,105,115,32,111,102,102]⟩
def wornT:ByteArray:=⟨#[110,111,32,115,101,99,116,111,114,32,98,101,97,114,115,32,105,116]⟩
def sayT (z:Int):ByteArray:=if z=7 then offT else wornT
def FV (w:World) (base:Nat) (z:Int) (v:Value):Prop:=(z=0∧v=flt0)∨(z≠0∧∃ p q,v=fltV p∧FlB w base p q (sayT z))
theorem FV.below {w w':World} {base:Nat} {z:Int} {v:Value} (h:FV w base z v) (hb:Below w.heap.size w w'):FV w' base z v:=by
 rcases h with h | ⟨h1,p,q,h2,h3⟩
 ·exact .inl h
 ·exact .inr ⟨h1,p,q,h2,h3.below hb⟩
section
set_option maxRecDepth 100000
set_option maxHeartbeats 2000000
theorem vcause_any (z:Int) (hz:z=0∨z=6∨z=7∨z=10) (w:World):Calls Tryz.prog 373 #[.int .i64 z] w fun e w'=>∃ v,e=.returned v∧FV w' w.heap.size z v∧Below w.heap.size w w':=by
 have b1:=alloc_one w (.cells #[.nilIface] 417);have K1:=Blk.new w 417 #[.nilIface];have OF:=Lib.hid (fun w=>fof_any offT w);have OW:=Lib.hid (fun w=>fof_any wornT w);unfold offT at OF;unfold wornT at OW;have key:∀ (z:Int) (x:ByteArray) (w3:World) (p q:Nat),z≠0→sayT z=x→FlB w3 (w.alloc (.cells #[.nilIface] 417)).heap.size p q x→Below (w.alloc (.cells #[.nilIface] 417)).heap.size (w.alloc (.cells #[.nilIface] 417)) w3 →
   FV (w3.setCell ⟨w.heap.size,0,none⟩ (.iface 444 (.pointer (some ⟨p,0,none⟩)))) w.heap.size z (fltV p)∧Below w.heap.size w (w3.setCell ⟨w.heap.size,0,none⟩ (.iface 444 (.pointer (some ⟨p,0,none⟩))))∧(w3.setCell ⟨w.heap.size,0,none⟩ (.iface 444 (.pointer (some ⟨p,0,none⟩)))).cell? ⟨w.heap.size,0,none⟩=some (.iface 444 (.pointer (some ⟨p,0,none⟩)))∧w3.cell? ⟨w.heap.size,0,none⟩=some .nilIface∧w3.frozen? ⟨w.heap.size,0,none⟩=false:=fun z x w3 p q hz hx hf hb=>by
  have K3:=K1.later hb;have KS:=K3.set_ 0 (.iface 444 (.pointer (some ⟨p,0,none⟩)));have hp:=hf.bp;have hq:=hf.bq;rw [World.size_alloc] at hp hq;have d3:=(below_step b1 hb (Nat.le_refl _)).setCell (p:=⟨w.heap.size,0,none⟩) (Nat.le_refl _) (.iface 444 (.pointer (some ⟨p,0,none⟩)));refine ⟨.inr ⟨hz,p,q,rfl,by omega,by omega,?_,?_⟩,d3,KS.cell 0,K3.cell 0,K3.frozen 0⟩
  ·exact hf.link.far (p:=⟨w.heap.size,0,none⟩) (by dsimp only; omega) _
  ·rw [hx]; exact hf.words.far (p:=⟨w.heap.size,0,none⟩) (by dsimp only; omega) _
 have HKEY:=Lib.hid key;clear key;have HK1:=Lib.hid K1;have HB1:=Lib.hid b1;have c1:(w.alloc (.cells #[.nilIface] 417)).cell? ⟨w.heap.size,0,none⟩=some .nilIface:=K1.cell 0;have f1:=K1.frozen 0;clear K1 b1;rcases hz with rfl | rfl | rfl | rfl
 ·go_enter Tryz.func373,Tryz.ntmps373
  go_wp2_with fail
  exact bodyPost_ret (v:=flt0) (by simp [results,Tryz.results373,go_sem,c1,flt0]) rfl ⟨_,rfl,.inl ⟨rfl,rfl⟩,HB1.out⟩
 ·go_enter Tryz.func373,Tryz.ntmps373
  go_wp2_with fail
  generalize w.alloc (.cells #[.nilIface] 417)=w1 at *;refine (OW.out _).mono ?_;rintro e w3 ⟨p,q,rfl,f3,b3⟩;obtain ⟨k1,k2,k3,k4,k5⟩:=HKEY.out 6 wornT w3 p q (by decide) rfl f3 b3;unfold fltV;go_wp2_with fail
  exact bodyPost_ret (v:=fltV p) (by simp [results,Tryz.results373,go_sem,k3,fltV]) rfl ⟨_,rfl,k1,k2⟩
 ·go_enter Tryz.func373,Tryz.ntmps373
  go_wp2_with fail
  generalize w.alloc (.cells #[.nilIface] 417)=w1 at *;refine (OF.out _).mono ?_;rintro e w3 ⟨p,q,rfl,f3,b3⟩;obtain ⟨k1,k2,k3,k4,k5⟩:=HKEY.out 7 offT w3 p q (by decide) rfl f3 b3;unfold fltV;go_wp2_with fail
  exact bodyPost_ret (v:=fltV p) (by simp [results,Tryz.results373,go_sem,k3,fltV]) rfl ⟨_,rfl,k1,k2⟩
 ·go_enter Tryz.func373,Tryz.ntmps373
  go_wp2_with fail
  generalize w.alloc (.cells #[.nilIface] 417)=w1 at *;refine (OW.out _).mono ?_;rintro e w3 ⟨p,q,rfl,f3,b3⟩;obtain ⟨k1,k2,k3,k4,k5⟩:=HKEY.out 10 wornT w3 p q (by decide) rfl f3 b3;unfold fltV;go_wp2_with fail
  exact bodyPost_ret (v:=fltV p) (by simp [results,Tryz.results373,go_sem,k3,fltV]) rfl ⟨_,rfl,k1,k2⟩
theorem fvdepth_any {z:Int} {v:Value} {base:Nat} (w:World) (hg:ErrG w) (h:FV w base z v):Calls Tryz.prog 342 #[v] w fun e w'=>e=.returned (.int .i64 (if z=0 then 0 else 1))∧Below w.heap.size w w':=by
 rcases h with ⟨h1,rfl⟩ | ⟨h1,p,q,rfl,h2⟩
 ·rw [if_pos h1]; exact fdepth_nil w
 ·rw [if_neg h1]; exact fdepth_link w hg h2
theorem fvcode_any {z:Int} {v:Value} {base:Nat} (w:World) (hg:ErrG w) (h:FV w base z v):Calls Tryz.prog 344 #[v] w fun e w'=>e=.returned (.int .u32 (if z=0 then 0 else 101056512))∧Below w.heap.size w w':=by
 rcases h with ⟨h1,rfl⟩ | ⟨h1,p,q,rfl,h2⟩
 ·rw [if_pos h1]; exact fcode_nil w
 ·rw [if_neg h1]; exact fcode_link w hg h2
theorem fvsays_any {z:Int} {v:Value} {base:Nat} (w:World) (h:FV w base z v):Calls Tryz.prog 343 #[v,.string offT] w fun e w'=>e=.returned (.bool (decide (z=7)))∧Below w.heap.size w w':=by
 rcases h with ⟨h1,rfl⟩ | ⟨h1,p,q,rfl,h2⟩
 ·have:=fsays_nil offT w
  rw [decide_eq_false (by omega)];exact this
 ·have:=fsays_link offT w h2
  unfold sayT at this
  by_cases h7:z=7
  ·rw [if_pos h7] at this
   rw [decide_eq_true h7];rw [show (offT.toList == offT.toList)=true by simp] at this;exact this
  ·rw [if_neg h7] at this
   rw [decide_eq_false h7];rw [show (offT.toList == wornT.toList)=false by kernel_rfl] at this;exact this
end
end Go.Proofs.YtijegngfclkdaaaGreatDoor
namespace Go.Proofs.YtijegngfclkdaaaGreatDoor
open Go.RowKit
structure AppR (w wx:World) (base gf:Nat) (Ab:Option Addr) (n cb:Nat) (A':Option Addr) (m c' gj gl:Nat) (A:Option Addr) (c:Nat) (F:Nat→Prop) (gr:Nat) (A5:Option Addr) (c5:Nat) (A7:Option Addr) (c7:Nat) (o:ApO) (now:Nat) (has:Bool) (at_:Nat) (r:Jr.Rec) (f1:Fla) (L1:List Jr.Look) (xs1:List Value):Prop where
 fm:FlM wx base gf Ab n cb A' m c' f1
 jo:JoM wx (fun q=>F q∨(w.heap.size≤q∧q < wx.heap.size)) gj gl A c xs1 L1 now has gf false
 mv:Mv (fun q=>q=gj∨q=gl∨FF gf Ab n cb A' m c' q) w wx
 kr:Blk wx gr 217 #[.int .i64 (r.kind:Int),.int .u32 (r.num:Int),.slice A5 r.data.length c5]
 row:OB wx w.heap.size A7 (r.data.length + 13) c7 (Jr.buildS r)
 cpy:OB wx w.heap.size A5 r.data.length c5 r.data
 size:w.heap.size≤wx.heap.size
 hp:Hid (o=progA f1 L1 now has at_ r)
 hi:Hid (f1.off=false∧InR f1 (r.data.length + 13)∧L1.length=m∧(L1.getD at_ lk0).fin + (r.data.length + 13)≤1024∧(L1.getD at_ lk0).count≤1024)
theorem era_get {L:List Jr.Look} {i:Nat} (h:i < L.length):(L.set i lkE).getD i lk0=lkE:=by
 rw [List.getD_eq_getElem?_getD,List.getElem?_set,if_pos rfl,if_pos h,Option.getD_some]
theorem era_inR {f:Fla} {k s:Nat} (h:InR f (k + 14)):InR (eraF f s) (k + 13):=by
 unfold InR at *;obtain ⟨h1,h2,h3⟩:=h;have e1:(eraF f s).mask=f.mask:=by simp only [eraF]
 have e2:(eraF f s).ops=f.ops + 1:=by simp only [eraF]
 have e3:(eraF f s).ahead=if 0 < f.ahead then f.ahead - 1 else f.ahead:=by simp only [eraF]
 rw [e1,e2,e3];refine ⟨h1,?_,by omega,by omega⟩;split <;> omega
theorem app_erased {w w8 w9:World} {base gf n cb c' gj gq c gr c5 c7 now at_ kind num1:Nat} {Ab A' A A5 A7:Option Addr} {F:Nat→Prop} {f:Fla} {L:List Jr.Look} {xs xs':List Value} {has:Bool} {data:List UInt8} (HF:FlM w base gf Ab n cb A' L.length c' f) (HJ:JoM w F gj gq A c xs L now has gf false) (hapF:∀ q,FF gf Ab n cb A' L.length c' q→¬ F q)
  (D8:Below w.heap.size w w8) (m9:Mv (FF gf Ab n cb A' L.length c') w8 w9) (f9:FlM w9 base gf Ab n cb A' L.length c' (eraF f at_))
  (HJN:JoM (st6 w9 gq (at_ * 6) (.int .i64 (lkE.last.kind:Int)) (.int .u32 (lkE.last.num:Int)) (.slice none lkE.last.data.length 0) (.int .i64 (lkE.count:Int)) (.int .i64 (lkE.fin:Int)) (.bool lkE.clean)) F gj gq A c xs' (L.set at_ lkE) now has gf false)
  (KR8:Blk w8 gr 217 #[.int .i64 (kind:Int),.int .u32 (num1:Int),.slice A5 data.length c5]) (O8:OB w8 w.heap.size A7 (data.length + 13) c7 (Jr.buildS ⟨kind,num1,data⟩)) (OR8:OB w8 w.heap.size A5 data.length c5 data)
  (H:Hid (appA f L now has kind data=progA (eraF f at_) (L.set at_ lkE) now has at_ ⟨kind,num1,data⟩)) (hoff:f.off=false) (hR:InR f (data.length + 14)) (hat:at_ < L.length) (hgr:w.heap.size≤gr) (hd:data.length≤960) :
  AppR w (st6 w9 gq (at_ * 6) (.int .i64 (lkE.last.kind:Int)) (.int .u32 (lkE.last.num:Int)) (.slice none lkE.last.data.length 0) (.int .i64 (lkE.count:Int)) (.int .i64 (lkE.fin:Int)) (.bool lkE.clean)) base gf Ab n cb A' L.length c' gj gq A c F gr A5 c5 A7 c7 (appA f L now has kind data) now has at_ ⟨kind,num1,data⟩ (eraF f at_) (L.set at_ lkE) xs':=by
 have m6:=st6_mv w9 gq (at_ * 6) (.int .i64 (lkE.last.kind:Int)) (.int .u32 (lkE.last.num:Int)) (.slice none lkE.last.data.length 0) (.int .i64 (lkE.count:Int)) (.int .i64 (lkE.fin:Int)) (.bool lkE.clean);have hq:gq < w.heap.size∧F gq:=by
  obtain ⟨q,e,_,h⟩:=HJ.own.head (by omega);have:=HJ.at_ q (by rw [e]; rfl);obtain ⟨e2,e3⟩:=this;subst e2;exact ⟨h,e3⟩
 have hgq:=hq.1;have hs8:=D8.size;have hfl:∀ q,FF gf Ab n cb A' L.length c' q→q < w.heap.size:=fun q hq=>HF.lt hq
 have hs9:=m9.size;generalize st6 w9 gq (at_ * 6) (.int .i64 (lkE.last.kind:Int)) (.int .u32 (lkE.last.num:Int)) (.slice none lkE.last.data.length 0) (.int .i64 (lkE.count:Int)) (.int .i64 (lkE.fin:Int)) (.bool lkE.clean)=wz at *;refine { fm:=f9.mv m6 fun q hq' e=>hapF q hq' (by have e2:q=gq:=e; rw [e2]; exact hq.2),jo:=HJN.mono fun _ _ hq=>.inl hq,mv:=((Mv.of_new D8 _).trans m9 fun _ _ h=>.inr (.inr h)).trans m6 fun _ _ e=>.inr (.inl e),kr:=(KR8.mv m9 fun hq=>by have:=hfl _ hq; omega).mv m6 (fun e=>by have e2:gr=gq:=e; omega),row:=OV.mvj (OV.mvj O8 m9 fun k hk hq=>by have:=hfl _ hq; have:=(O8.lt k hk).1; omega) m6 (fun k hk e=>by have:=(O8.lt k hk).1; have e2:k=gq:=e; omega),cpy:=OV.mvj (OV.mvj OR8 m9 fun k hk hq=>by have:=hfl _ hq; have:=(OR8.lt k hk).1; omega) m6 (fun k hk e=>by have:=(OR8.lt k hk).1; have e2:k=gq:=e; omega),size:=Nat.le_trans hs8 (Nat.le_trans hs9 m6.size),hp:=H,hi:=Lib.hid ⟨by simp only [eraF]; exact hoff,era_inR hR,by simp,?_,?_⟩ }
 ·rw [era_get hat]; show 0 + (data.length + 13)≤1024; omega
 ·rw [era_get hat]; decide
theorem app_five {w wp:World} {base gf n cb m c' gj gl c x kind num1 d cnt c5 now:Nat} {Ab A' A A5:Option Addr} {F:Nat→Prop} {f pf:Fla} {L L1:List Jr.Look} {xs xs1:List Value} {has cl:Bool} {data:List UInt8} {u0 u1 u2 u4:Value}
  (HF:FlM w base gf Ab n cb A' m c' f) (HJ:JoM w F gj gl A c xs L now has gf false) (hapF:∀ q,FF gf Ab n cb A' m c' q→¬ F q) (hFl:∀ q,F q→q < w.heap.size)
  (JP:JoM wp (fun q=>F q∨(w.heap.size≤q∧q < x)) gj gl A c xs1 L1 now has gf false) (fp:FlM wp base gf Ab n cb A' m c' pf) (op:OB wp w.heap.size A5 data.length c5 data) (mp:Mv (fun q=>q=gj∨q=gl∨FF gf Ab n cb A' m c' q) w wp)
  (kp:Blk wp x 265 #[u0,u1,u2,.int .i64 (cnt:Int),u4,.bool cl]) (hx:w.heap.size≤x) :
  Blk (((((wp.setCell ⟨x,0,none⟩ (.int .i64 (kind:Int))).setCell ⟨x,1,none⟩ (.int .u32 (num1:Int))).setCell ⟨x,2,none⟩ (.slice A5 data.length c5)).setCell ⟨x,3,none⟩ (.int .i64 ((cnt + 1:Nat):Int))).setCell ⟨x,4,none⟩ (.int .i64 (d:Int))) x 265 #[.int .i64 (kind:Int),.int .u32 (num1:Int),.slice A5 data.length c5,.int .i64 ((cnt + 1:Nat):Int),.int .i64 (d:Int),.bool cl] ∧
  JoM (((((wp.setCell ⟨x,0,none⟩ (.int .i64 (kind:Int))).setCell ⟨x,1,none⟩ (.int .u32 (num1:Int))).setCell ⟨x,2,none⟩ (.slice A5 data.length c5)).setCell ⟨x,3,none⟩ (.int .i64 ((cnt + 1:Nat):Int))).setCell ⟨x,4,none⟩ (.int .i64 (d:Int))) (fun q=>F q∨(w.heap.size≤q∧q < (((((wp.setCell ⟨x,0,none⟩ (.int .i64 (kind:Int))).setCell ⟨x,1,none⟩ (.int .u32 (num1:Int))).setCell ⟨x,2,none⟩ (.slice A5 data.length c5)).setCell ⟨x,3,none⟩ (.int .i64 ((cnt + 1:Nat):Int))).setCell ⟨x,4,none⟩ (.int .i64 (d:Int))).heap.size)) gj gl A c xs1 L1 now has gf false ∧
  FlM (((((wp.setCell ⟨x,0,none⟩ (.int .i64 (kind:Int))).setCell ⟨x,1,none⟩ (.int .u32 (num1:Int))).setCell ⟨x,2,none⟩ (.slice A5 data.length c5)).setCell ⟨x,3,none⟩ (.int .i64 ((cnt + 1:Nat):Int))).setCell ⟨x,4,none⟩ (.int .i64 (d:Int))) base gf Ab n cb A' m c' pf ∧
  OB (((((wp.setCell ⟨x,0,none⟩ (.int .i64 (kind:Int))).setCell ⟨x,1,none⟩ (.int .u32 (num1:Int))).setCell ⟨x,2,none⟩ (.slice A5 data.length c5)).setCell ⟨x,3,none⟩ (.int .i64 ((cnt + 1:Nat):Int))).setCell ⟨x,4,none⟩ (.int .i64 (d:Int))) w.heap.size A5 data.length c5 data ∧
  Mv (fun q=>q=gj∨q=gl∨FF gf Ab n cb A' m c' q) w (((((wp.setCell ⟨x,0,none⟩ (.int .i64 (kind:Int))).setCell ⟨x,1,none⟩ (.int .u32 (num1:Int))).setCell ⟨x,2,none⟩ (.slice A5 data.length c5)).setCell ⟨x,3,none⟩ (.int .i64 ((cnt + 1:Nat):Int))).setCell ⟨x,4,none⟩ (.int .i64 (d:Int))) ∧
  w.heap.size≤(((((wp.setCell ⟨x,0,none⟩ (.int .i64 (kind:Int))).setCell ⟨x,1,none⟩ (.int .u32 (num1:Int))).setCell ⟨x,2,none⟩ (.slice A5 data.length c5)).setCell ⟨x,3,none⟩ (.int .i64 ((cnt + 1:Nat):Int))).setCell ⟨x,4,none⟩ (.int .i64 (d:Int))).heap.size:=by
 have K1:=kp.set_ 0 (.int .i64 (kind:Int));have K2:=K1.set_ 1 (.int .u32 (num1:Int));have K3:=K2.set_ 2 (.slice A5 data.length c5);have K4:=K3.set_ 3 (.int .i64 ((cnt + 1:Nat):Int));have K5:=K4.set_ 4 (.int .i64 (d:Int));have hm:Mv (fun q=>q=x) wp (((((wp.setCell ⟨x,0,none⟩ (.int .i64 (kind:Int))).setCell ⟨x,1,none⟩ (.int .u32 (num1:Int))).setCell ⟨x,2,none⟩ (.slice A5 data.length c5)).setCell ⟨x,3,none⟩ (.int .i64 ((cnt + 1:Nat):Int))).setCell ⟨x,4,none⟩ (.int .i64 (d:Int))) :=
  ((((Mv.setCell wp ⟨x,0,none⟩ _).trans (Mv.setCell _ ⟨x,1,none⟩ _) fun _ _ e=>e).trans (Mv.setCell _ ⟨x,2,none⟩ _) fun _ _ e=>e).trans (Mv.setCell _ ⟨x,3,none⟩ _) fun _ _ e=>e).trans (Mv.setCell _ ⟨x,4,none⟩ _) fun _ _ e=>e
 have hxp:=kp.lt;clear K1 K2 K3 K4;generalize ((((wp.setCell ⟨x,0,none⟩ (.int .i64 (kind:Int))).setCell ⟨x,1,none⟩ (.int .u32 (num1:Int))).setCell ⟨x,2,none⟩ (.slice A5 data.length c5)).setCell ⟨x,3,none⟩ (.int .i64 ((cnt + 1:Nat):Int))).setCell ⟨x,4,none⟩ (.int .i64 (d:Int))=wq at *;have hs:=hm.size;have hs0:=mp.size;refine ⟨K5,(JP.mv hm fun b _ hf e=>?_).mono fun b hb hf=>?_,fp.mv hm fun q hq e=>?_,OV.mvj op hm fun k hk e=>?_,⟨hm.os.trans mp.os,hm.tape.trans mp.tape,hm.output.trans mp.output,Nat.le_trans mp.size hs,fun b hb hF=>(hm.block b (Nat.lt_of_lt_of_le hb mp.size) fun e=>?_).trans (mp.block b hb hF)⟩,Nat.le_trans hs0 hs⟩
 ·have e2:b=x:=e
  rcases hf with hf | hf
  ·have:=hFl b hf; omega
  ·omega
 ·rcases hf with hf | hf
  ·exact .inl hf
  ·exact .inr ⟨hf.1,hb⟩
 ·have e2:q=x:=e
  have:=HF.lt hq; omega
 ·have e2:k=x:=e
  exact own_blk_ne op kp (by decide) (by rw [hk,e2])
 ·have e2:b=x:=e
  omega
theorem app_last {w wq w1 w2 w3:World} {base gf n cb m c' gj gl c xb c5 now at_:Nat} {Ab A' A A5:Option Addr} {F:Nat→Prop} {f pf:Fla} {L L1:List Jr.Look} {xs xs1:List Value} {has:Bool} {r:Jr.Rec} {x:Jr.Look} {cs:Array Value}
  (HF:FlM w base gf Ab n cb A' m c' f) (HJ:JoM w F gj gl A c xs L now has gf false) (hapF:∀ q,FF gf Ab n cb A' m c' q→¬ F q) (hFl:∀ q,F q→q < w.heap.size)
  (JQ:JoM wq (fun q=>F q∨(w.heap.size≤q∧q < wq.heap.size)) gj gl A c xs1 L1 now has gf false) (FQ:FlM wq base gf Ab n cb A' m c' pf) (OQ:OB wq w.heap.size A5 r.data.length c5 r.data) (MQ:Mv (fun q=>q=gj∨q=gl∨FF gf Ab n cb A' m c' q) w wq)
  (KQ:Blk wq xb 265 cs) (hat:at_ < L1.length) (hll:L1.length=L.length) (hsz:w.heap.size≤wq.heap.size) (hx:w.heap.size≤xb)
  (e1:w1=st6 wq gl (at_ * 6) (.int .i64 (r.kind:Int)) (.int .u32 (r.num:Int)) (.slice A5 r.data.length c5) (.int .i64 ((x.count + 1:Nat):Int)) (.int .i64 ((x.fin + (r.data.length + 13):Nat):Int)) (.bool x.clean))
  (e2:w2=w1.setCell ⟨gj,1,none⟩ (.int .i64 (at_:Int))) (e3:w3=w2.setCell ⟨gj,2,none⟩ (.bool true)) :
  (Blk w1 xb 265 cs∧w1.cell? ⟨gj,0,none⟩=some (.slice A L1.length c)∧w1.cell? ⟨gj,1,none⟩=some (.int .i64 (now:Int))∧w1.frozen? ⟨gj,1,none⟩=false) ∧
  (Blk w2 xb 265 cs∧w2.cell? ⟨gj,0,none⟩=some (.slice A L1.length c)∧w2.cell? ⟨gj,2,none⟩=some (.bool has)∧w2.frozen? ⟨gj,2,none⟩=false) ∧
  (Blk w3 xb 265 cs∧w3.cell? ⟨gj,0,none⟩=some (.slice A L1.length c)) ∧
  AppP base gf Ab n cb A' m c' gj gl A c F ⟨0,pf,L1.set at_ (lkN r x),at_,true,false⟩ w (.returned (.int .i64 0)) w3:=by
 have hgj:=HJ.blk.lt;have hq:gl < w.heap.size∧(F gl):=by
  obtain ⟨q,e,_,h⟩:=HJ.own.head (by omega);have:=HJ.at_ q (by rw [e]; rfl);obtain ⟨e4,e5⟩:=this;subst e4;exact ⟨h,e5⟩
 have hr:RBp wq (Fx (fun q=>F q∨(w.heap.size≤q∧q < wq.heap.size)) gj gl) A5 (lkN r x).last.data.length c5 (lkN r x).last.data:=OB.rbp OQ fun k hk=>by
  have:=OQ.lt k hk;exact ⟨.inr this,by omega,by have:=hq.1; omega⟩
 obtain ⟨xs',J1⟩:=JQ.put hat (lkN r x) hr;have m1:=st6_mv wq gl (at_ * 6) (.int .i64 (r.kind:Int)) (.int .u32 (r.num:Int)) (.slice A5 r.data.length c5) (.int .i64 ((x.count + 1:Nat):Int)) (.int .i64 ((x.fin + (r.data.length + 13):Nat):Int)) (.bool x.clean);replace J1:JoM w1 (fun q=>F q∨(w.heap.size≤q∧q < wq.heap.size)) gj gl A c xs' (L1.set at_ (lkN r x)) now has gf false:=by rw [e1]; exact J1
 rw [← e1] at m1;have K1:=KQ.mv m1 (fun e=>by have e4:xb=gl:=e; have:=hq.1; omega);have F1:=FQ.mv m1 fun q hf e=>hapF q hf (by have e4:q=gl:=e; rw [e4]; exact hq.2)
 have f1:=J1.five;have J2:=J1.set_ (i:=1) (u:=.int .i64 (at_:Int)) (now':=at_) (has':=has) (dead':=false) rfl;have m2:=Mv.setCell w1 ⟨gj,1,none⟩ (.int .i64 (at_:Int));rw [← e2] at J2 m2;have K2:=K1.mv m2 (fun e=>by have e4:xb=gj:=e; omega);have F2:=F1.mv m2 fun q hf e=>hapF q hf (by have e4:q=gj:=e; rw [e4]; exact HJ.fg)
 have f2:=J2.five;have J3:=J2.set_ (i:=2) (u:=.bool true) (now':=at_) (has':=true) (dead':=false) rfl;have m3:=Mv.setCell w2 ⟨gj,2,none⟩ (.bool true);rw [← e3] at J3 m3;have K3:=K2.mv m3 (fun e=>by have e4:xb=gj:=e; omega);have F3:=F2.mv m3 fun q hf e=>hapF q hf (by have e4:q=gj:=e; rw [e4]; exact HJ.fg)
 have f3:=J3.five;rw [List.length_set] at f1 f2 f3;refine ⟨⟨K1,f1.1.1,f1.1.2.1,f1.2.2.1⟩,⟨K2,f2.1.1,f2.1.2.2.1,f2.2.2.2.1⟩,⟨K3,f3.1.1⟩,rfl,((MQ.trans m1 fun _ _ e=>.inr (.inl e)).trans m2 fun _ _ e=>.inl e).trans m3 fun _ _ e=>.inl e,F3,xs',J3.mono fun q hq' hf=>?_⟩;rcases hf with hf | hf
 ·exact .inl hf
 ·exact .inr ⟨hf.1,hq'⟩
theorem jappend_any {w:World} {F F3:Nat→Prop} {gj gl c now gf:Nat} {A:Option Addr} {xs:List Value} {L:List Jr.Look} {has:Bool} (hJ:JoM w F gj gl A c xs L now has gf false) {base n cb m c':Nat} {Ab A':Option Addr} {f:Fla} (hf:FlM w base gf Ab n cb A' m c' f)
  (hap:∀ q,FF gf Ab n cb A' m c' q→¬ F q) (hFl:∀ q,F q→q < w.heap.size) {A3:Option Addr} {c3:Nat} {data:List UInt8} (hd:RBp w F3 A3 data.length c3 data) (kind:Nat) (hk:(kind=1∧data.length≤960)∨(kind=2∧data=[]))
  (hoff:f.off=false) (hn:n=m * 1024) (hm:m≤8) (hL:L.length=m) (hmost:0≤f.most∧f.most≤2000000000) (hw:∀ i,f.wear.getD i 0≤1000000∧(f.wear.getD i 0:Int) < f.most) (hnow:has=true→now < m) (hfin:∀ i,(L.getD i lk0).fin≤1024∧(L.getD i lk0).count≤1024) (h00:∀ i,(L.getD i lk0).count=0→(L.getD i lk0).fin=0) (hnum:numS L now has < 4294967296) (hR:InR f (data.length + 14)) :
  Calls Tryz.prog 374 #[.pointer (some ⟨gj,0,none⟩),.int .i64 (kind:Int),.slice A3 data.length c3] w (AppP base gf Ab n cb A' m c' gj gl A c F (appA f L now has kind data) w):=by
 subst hL;have hdl:data.length≤960:=hk.elim (fun h=>h.2) (fun h=>by rw [h.2]; decide);have F5:=hJ.five;have ON:=Lib.hid (fOn_any hf);rw [hoff] at ON;have hlk:=hJ.looks;have NU:=Lib.hid (jnumber_any now has w hlk (Nat.le_refl _) hnow);have NU2:=Lib.hid (fun (w1:World) (b:Below w.heap.size w w1)=>jnumber_any now has w1 (hJ.below b).looks (Nat.le_refl _) hnow);have HJ:=Lib.hid hJ;have HF:=Lib.hid hf;have HD:=Lib.hid hd;have HAP:=Lib.hid hap;have HFL:=Lib.hid hFl;have hS:appA f L now has kind data=appA f L now has kind data:=rfl
 conv at hS=>rhs; unfold appA
 have HS:=Lib.hid hS;have HJ5:=Lib.hid (fun (w1:World) (b:Below w.heap.size w w1)=>(hJ.below b).five);have PL:=Lib.hid (fun (w1:World) (b:Below w.heap.size w w1)=>jplace_any data.length (hJ.below b) (hf.below b) hm rfl hmost hw hnow (fun i=>Nat.le_trans (hfin i).1 (by decide)) (by omega));have HOK:=Lib.hid (fun (hh:numS L now has≠4294967295)=>show Jr.Ok ⟨kind,numS L now has + 1,data⟩ from ⟨by simp,by show numS L now has + 1 < _; omega,hk⟩);have HC:=Lib.hid (And.intro hoff (And.intro hn (And.intro hm (And.intro hmost (And.intro hw (And.intro hnow (And.intro h00 (And.intro hR hfin))))))));have hl:=hlk.lt;clear hJ hf hd hap hFl hS hk hfin hoff hn hm hmost hw hnow h00 hR hlk
 by_cases hfull:numS L now has=4294967295
 ·have H:Hid (appA f L now has kind data=⟨6,f,L,now,has,false⟩):=Lib.hid (HS.out.trans (if_pos hfull))
  rw [hfull] at NU;have H2:=Lib.hid hfull;clear hfull HS;go_enter Tryz.func374,Tryz.ntmps374
  go_wp2_with fail
  refine (ON.out).mono ?_;rintro e _ ⟨rfl,rfl⟩;go_wp2_with fail
  refine (NU.out).mono ?_;rintro e w1 ⟨rfl,b1⟩;go_wp2_with fail
  go_ret
  exact app_same HJ.out HF.out b1 H.out
 have e1:((numS L now has:Int) == 4294967295)=false:=by simp; omega
 have e1':decide ((numS L now has:Int)=4294967295)=false:=decide_eq_false (by omega);obtain ⟨num1,hnum1⟩:∃ x,x=numS L now has + 1:=⟨_,rfl⟩;have hu:IntKind.u32.wrap ((numS L now has:Int) + 1)=(num1:Int):=by
  rw [IntKind.wrap_u32,hnum1]; omega
 have HU:=Lib.hid hu;have HOK2:=Lib.hid (HOK.out hfull);have hS2:=HS.out;rw [if_neg hfull] at hS2;rw [← hnum1] at hS2 HOK2;have HS2:=Lib.hid hS2;clear HS hS2 hu HOK hfull hnum hnum1;generalize numS L now has=num at *;go_enter Tryz.func374,Tryz.ntmps374
 go_wp2_with fail
 refine (ON.out).mono ?_;rintro e _ ⟨rfl,rfl⟩;go_wp2_with fail
 refine (NU.out).mono ?_;rintro e w1 ⟨rfl,b1⟩;have J1:=HJ5.out w1 b1;clear ON NU F5;go_wp2_with fail
 refine (NU2.out w1 b1).mono ?_;rintro e w2 ⟨rfl,b2⟩;have d2:=below_step b1 b2 (Nat.le_refl _);have hr2:=(HD.out.below d2).rb;have u1:=HU.out;clear NU2;go_wp2_with (at_builtin; refine wpList_appb_nil etb rfl (.const (.slice none 0 0)) (.tmp 55) rfl rfl rfl w2.heap.size hr2 (by omega) (Nat.le_refl _) ?_; intro A5 c5 w5 o5 b5; have K5:=Blk.new w5 217 #[.int .i64 (kind:Int),.int .u32 (num1:Int),.slice A5 data.length c5]; have C5:=K5.three)
 have b6:=alloc_one w5 (.cells #[.int .i64 (kind:Int),.int .u32 (num1:Int),.slice A5 data.length c5] 217);have d5:=below_step d2 b5 (Nat.le_refl _);have d6:=below_step d5 b6 (Nat.le_refl _);have o6:=o5.below b6;have RB0:=recBuild_any ⟨kind,num1,data⟩ _ o6.rb (Nat.le_refl _) HOK2.out;unfold recV at RB0;dsimp only at RB0;have RBH:=Lib.hid RB0;clear RB0;have OR:=Lib.hid (show OB _ w.heap.size A5 data.length c5 data from o6.more d2.size);have KR:=Lib.hid K5;have D6:=Lib.hid d6;have hw5:w.heap.size≤w5.heap.size:=d5.size;clear d5 d6 o5 o6 b5 b6 b1 b2 d2 K5 J1 hr2 u1;generalize w5.alloc (.cells #[.int .i64 (kind:Int),.int .u32 (num1:Int),.slice A5 data.length c5] 217)=w6 at *;refine (RBH.out).mono ?_;rintro e w7 ⟨A7,c7,rfl,o7,b7⟩;have D7:=Lib.hid (below_step D6.out b7 (Nat.le_refl _));have KR7:=Lib.hid (KR.out.later b7);have OR7:=Lib.hid (OR.out.below b7);have PL7:=Lib.hid (PL.out w7 D7.out);have O7:=Lib.hid (show OB w7 w.heap.size A7 (data.length + 13) c7 (Jr.buildS ⟨kind,num1,data⟩) from o7.more D6.out.size);clear o7 b7 RBH OR KR D6 C5;go_wp2_with fail
 refine (PL7.out).mono ?_;unfold plP;rintro e w8 ⟨rfl,b8⟩;have D8:=Lib.hid (below_step D7.out b8 (Nat.le_refl _));have KR8:=Lib.hid (KR7.out.later b8);have OR8:=Lib.hid (OR7.out.below b8);have O8:=Lib.hid (O7.out.below b8);clear PL PL7 b8 D7 KR7 OR7 O7;have hlt:(placeS f L now has data.length).2.2=true→(placeS f L now has data.length).1 < L.length:=place_lt HC.out.2.2.2.2.2.1;have HLT:=Lib.hid hlt;have hrm:=place_room (f:=f) (L:=L) (now:=now) (has:=has) hdl HC.out.2.2.2.2.2.2.1;have HRM:=Lib.hid hrm;clear hlt hrm;obtain ⟨pl,hpl⟩:∃ pl,pl=placeS f L now has data.length:=⟨_,rfl⟩;rw [← hpl] at HS2 HLT HRM ⊢;clear hpl;obtain ⟨at_,er,ok⟩:=pl;dsimp only at HS2 HLT HRM ⊢;cases ok with
 | false =>
  have H:Hid (appA f L now has kind data=⟨10,f,L,now,has,false⟩):=Lib.hid (HS2.out.trans (if_pos rfl));go_wp2_with fail
  go_ret
  exact app_same HJ.out HF.out D8.out H.out
 | true =>
  have hat:=HLT.out rfl;go_upto_if 76 with fail
  go_cut [6] (fun _ wx=>∃ f1 L1 xs1,AppR w wx base gf Ab n cb A' L.length c' gj gl A c F w5.heap.size A5 c5 A7 c7 (appA f L now has kind data) now has at_ ⟨kind,num1,data⟩ f1 L1 xs1)
  case first =>
   cases er with
   | true =>
    have S2:Hid (appA f L now has kind data=if f.ahead=0 then ⟨7,tornF f at_,L,now,has,true⟩ else progA (eraF f at_) (L.set at_ lkE) now has at_ ⟨kind,num1,data⟩):=Lib.hid (HS2.out.trans (by simp));have FM8:=Lib.hid (HF.out.below D8.out);have JB8:=Lib.hid (HJ.out.below D8.out);have hapF:=Lib.hid (fun q (hq:FF gf Ab n cb A' L.length c' q)=>HAP.out q hq);have F8:=JB8.out.five;clear HS2 HRM HLT;go_wp2_with fail
    by_cases ha:f.ahead=0
    ·have ER:=Lib.hid (fErase_torn FM8.out at_ hat HC.out.1 HC.out.2.1 HC.out.2.2.1 (HC.out.2.2.2.2.1 at_).2 (by have:=HC.out.2.2.2.1.2; omega) ha HC.out.2.2.2.2.2.2.2.1.1)
     have H:Hid (appA f L now has kind data=⟨7,tornF f at_,L,now,has,true⟩):=Lib.hid (S2.out.trans (if_pos ha));clear S2 ha;refine (ER.out).mono ?_;rintro e w9 ⟨rfl,m9,f9⟩;have J9:=JB8.out.mv m9 fun q _ hq hf=>hapF.out q hf hq
     have JO:=Lib.hid (joff_yes J9);have HP:=Lib.hid (And.intro m9 (And.intro f9 J9));clear ER m9 f9 J9 F8;go_wp2_with fail
     refine (JO.out).mono ?_;rintro e _ ⟨rfl,rfl⟩;go_wp2_with fail
     go_ret
     rw [H.out];obtain ⟨m9,f9,J9⟩:=HP.out;have hs9:=Nat.le_trans D8.out.size m9.size;refine ⟨rfl,?_,?_,_,(J9.set_ (i:=4) (u:=.bool true) (now':=now) (has':=has) (dead':=true) rfl).mono fun q _ hq=>.inl hq⟩
     ·exact ((Mv.of_new D8.out _).trans m9 fun _ _ h=>.inr (.inr h)).trans (Mv.setCell w9 ⟨gj,4,none⟩ _) fun _ _ e=>.inl e
     ·exact f9.mv (Mv.setCell w9 ⟨gj,4,none⟩ _) fun q hq e=>hapF.out q hq (by have e2:q=gj:=e; rw [e2]; exact HJ.out.fg)
    ·have hR:=HC.out.2.2.2.2.2.2.2.1
     have ER:=Lib.hid (fErase_whole FM8.out at_ hat HC.out.1 HC.out.2.1 HC.out.2.2.1 (HC.out.2.2.2.2.1 at_).2 (by have:=HC.out.2.2.2.1.2; omega) ha (by unfold InR at hR; omega) (by unfold InR at hR; omega));have H:Hid (appA f L now has kind data=progA (eraF f at_) (L.set at_ lkE) now has at_ ⟨kind,num1,data⟩):=Lib.hid (S2.out.trans (if_neg ha));have HA:=Lib.hid ha;clear S2 ha hR;refine (ER.out).mono ?_;rintro e w9 ⟨rfl,m9,f9⟩;have J9:=JB8.out.mv m9 fun q _ hq hf=>hapF.out q hf hq
     have JO:=Lib.hid (joff_no gj 0 w9 (by decide));have F9:=J9.five;have HP:=Lib.hid (And.intro m9 (And.intro f9 J9));obtain ⟨gq,A4,c4,hAe,hq1,hq2,hqc,hqf,_⟩:=J9.look hat;subst hAe;have hgl:=(J9.at_ gq rfl).1;subst hgl;obtain ⟨xs',JN⟩:=J9.put hat lkE (RBp.none_ _ _);have q0:=hqc 0 _ rfl;have q1:=hqc 1 _ rfl;have q2:=hqc 2 _ rfl;have q3:=hqc 3 _ rfl;have q4:=hqc 4 _ rfl;have q5:=hqc 5 _ rfl;simp only [Nat.add_zero] at q0;have hqf:=hqf;have i0:(0:Int)≤(at_:Int):=by omega
     have i1:(at_:Int) < (L.length:Int):=by omega
     have HJN:=Lib.hid JN;clear ER m9 f9 J9 F8 JN hqc;go_wp2_with fail
     refine (JO.out).mono ?_;rintro e _ ⟨rfl,rfl⟩;go_wp2_with fail
     go_meet
     exact ⟨eraF f at_,L.set at_ lkE,xs',app_erased HF.out HJ.out HAP.out D8.out HP.out.1 HP.out.2.1 HJN.out KR8.out O8.out OR8.out H HC.out.1 HC.out.2.2.2.2.2.2.2.1 hat hw5 hdl⟩
   | false =>
    have HP:Hid (appA f L now has kind data=progA f L now has at_ ⟨kind,num1,data⟩):=Lib.hid (HS2.out.trans (by simp));go_wp2_with fail
    go_meet
    have hrm0:=HRM.out (by trivial) (by trivial);obtain ⟨hoff,hn,hm,hmost,hw,hnow,h00,hR,hfin⟩:=HC.out;exact ⟨f,L,xs,{ fm:=HF.out.below D8.out,jo:=(HJ.out.below D8.out).mono fun _ _ hq=>.inl hq,mv:=Mv.of_new D8.out _,kr:=KR8.out,row:=O8.out,cpy:=OR8.out,size:=D8.out.size,hp:=HP,hi:=Lib.hid ⟨hoff,inR_less hR,rfl,hrm0,(hfin at_).2⟩ }⟩
  case rest =>
   obtain ⟨f1,L1,xs1,R⟩:=hcut;obtain ⟨w9,hw9⟩:∃ x,x=wc:=⟨wc,rfl⟩;subst hw9;have FM9:=Lib.hid R.fm;have J9:=Lib.hid R.jo;have M9:=Lib.hid R.mv;have KR9:=Lib.hid R.kr;have O9:=Lib.hid R.row;have OR9:=Lib.hid R.cpy;have HS9:=Lib.hid R.size;have HP:=R.hp;have HI:=R.hi;clear R D8 HS2 HRM HLT KR8 OR8 O8 HJ5 hl;obtain ⟨hoff1,hR1,hL1,hrm,hct⟩:=HI.out;dsimp only at hR1 hrm;have FJ9:=J9.out.five;have hlk9:=J9.out.looks;rw [hL1] at FJ9;have hat1:at_ < L1.length:=by rw [hL1]; exact hat
   obtain ⟨b,o,cs,hAe,hbB,⟨A4,n4,c4,rfl⟩,hc⟩:=RS.at_ hlk9 (by decide) (show L1[at_]?=some (L1.getD at_ lk0) by simp [List.getD,List.getElem?_eq_getElem hat1]);have HGX:=Lib.hid (show L1.getD at_ lk0=L1.getD at_ lk0 from rfl);have q0:=hc 0 _ (by decide) rfl;have q1:=hc 1 _ (by decide) rfl;have q2:=hc 2 _ (by decide) rfl;have q3:=hc 3 _ (by decide) rfl;have q4:=hc 4 _ (by decide) rfl;have q5:=hc 5 _ (by decide) rfl;simp only [Nat.add_zero] at q0;subst hAe;have i0:(0:Int)≤(at_:Int):=by omega
   have i1:(at_:Int) < (L.length:Int):=by omega
   obtain ⟨lx,hlx⟩:∃ lx,lx=L1.getD at_ lk0:=⟨_,rfl⟩;rw [← hlx] at q0 q1 q3 q4 q5 hrm hct;have HP2:=HP.out;unfold progA at HP2;rw [← hlx] at HP2;obtain ⟨pos,hpos⟩:∃ pos,pos=at_ * 1024 + lx.fin:=⟨_,rfl⟩;rw [← hpos] at HP2;have HPP:=Lib.hid HP2;have hn1:=HC.out.2.1;have hm8:=HC.out.2.2.1;have hpn:pos + (data.length + 13)≤n:=by
    rw [hn1,hpos];have:(at_ + 1) * 1024≤L.length * 1024:=Nat.mul_le_mul_right _ hat;omega
   obtain ⟨z1,z2,z3,z4⟩:=app_nums (show at_≤8 by omega) (show lx.fin≤1024 by omega) (show lx.count≤1024 from hct) (show data.length + 13≤1024 by omega) hpos;have HZ:=Lib.hid (And.intro z1 (And.intro z2 (And.intro z3 z4)));have HLX:=Lib.hid hlx;have HPN:=Lib.hid (And.intro hpn (show n≤100000 by omega));have bx:=alloc_one w9 (.cells #[.int .i64 (lx.last.kind:Int),.int .u32 (lx.last.num:Int),.slice A4 n4 c4,.int .i64 (lx.count:Int),.int .i64 (lx.fin:Int),.bool lx.clean] 265);have KX:=Blk.new w9 265 #[.int .i64 (lx.last.kind:Int),.int .u32 (lx.last.num:Int),.slice A4 n4 c4,.int .i64 (lx.count:Int),.int .i64 (lx.fin:Int),.bool lx.clean];have JX:=Lib.hid (J9.out.below bx);have FMX:=Lib.hid (FM9.out.below bx);have KRX:=Lib.hid (KR9.out.later bx);have OX:=Lib.hid (O9.out.below bx);have ORX:=Lib.hid (OR9.out.below bx);have hs9:=bx.size;have MX:=Lib.hid (M9.out.trans (Mv.of_new bx (fun q=>q=gj∨q=gl∨FF gf Ab n cb A' L.length c' q)) fun _ _ e=>e);have HI2:=Lib.hid (And.intro hoff1 (And.intro hR1 hL1));have HBX:=Lib.hid bx;clear hlx hpos hn1 hpn HP HP2 hrm hct hoff1 hR1 hL1 hc J9 FM9 KR9 O9 OR9 M9 HI z1 z2 z3 z4 HGX hlk9 hat1 bx;obtain ⟨lr,lcnt,lfin,lcl⟩:=lx;dsimp only at q0 q1 q3 q4 q5 KX HPP HZ HLX;go_wp2_with fail
   generalize w9.alloc (.cells #[.int .i64 (lr.kind:Int),.int .u32 (lr.num:Int),.slice A4 n4 c4,.int .i64 (lcnt:Int),.int .i64 (lfin:Int),.bool lcl] 265)=wx at *;obtain ⟨C,hC⟩:∃ C:World→Prop,∀ x,C x↔(x.cell? ⟨gj,3,none⟩=some (.pointer (some ⟨gf,0,none⟩))∧x.cell? ⟨w9.heap.size,4,none⟩=some (.int .i64 (lfin:Int))):=⟨_,fun x=>Iff.rfl⟩;have cl3:∀ v:Cl C,v.val.cell? ⟨gj,3,none⟩=some (.pointer (some ⟨gf,0,none⟩)):=fun v=>((hC _).1 v.ok).1
   have cl4:∀ v:Cl C,v.val.cell? ⟨w9.heap.size,4,none⟩=some (.int .i64 (lfin:Int)):=fun v=>((hC _).1 v.ok).2
   have HCC:=Lib.hid hC;have hC0:C wx.drew:=(hC _).2 ⟨JX.out.five.1.2.2.2.1,KX.cell 4⟩;haveI instC:Nonempty (Cl C):=⟨⟨wx.drew,hC0⟩⟩;have HKX:=Lib.hid KX;obtain ⟨z1,z2,z3,z4⟩:=HZ.out;have APX:Hid (∀ q,FF gf Ab n cb A' L.length c' q→¬ (F q∨(w.heap.size≤q∧q < w9.heap.size))):=Lib.hid fun q hq hh=>by
    rcases hh with hh | hh
    ·exact HAP.out q hq hh
    ·have:=HF.out.lt hq; omega
   have PR:=Lib.hid (fProgram_any (F3:=fun q=>w.heap.size≤q) (FMX.out.below (below_drew wx)) ((OX.out.below (below_drew wx)).rbp fun k hk=>(OX.out.lt k hk).1) (fun q hq hf=>by have:=HF.out.lt hf; omega) pos HI2.out.1 HPN.out.1 HPN.out.2 HI2.out.2.1);clear hC KX;refine region_cl 99 C (by kernel_rfl) ?_;refine phase_cl (by kernel_rfl) 3 hC0 [0,1,2,3,4,5,6,7,8,9,10] rfl (by kernel_rfl) ?_;simp only [picks,nth]
   repeat (go_big_quiet_step (fail))
   refine wpQuiet_nil ?_;refine phase_opL 11 2 rfl (by kernel_rfl) (by decide) ?_;simp only [nth];clear z1 z2 z3 z4 cl3 cl4 q0 q1 q2 q3 q4 q5 FJ9 i0 i1;go_wp2_with fail
   rw [HZ.out.2.1];refine (PR.out).mono ?_;rintro e wp ⟨rfl,mp,fp⟩;have mpx:Mv (FF gf Ab n cb A' L.length c') wx wp:=(Mv.refl _ wx).drew.trans mp fun _ _ e=>e
   have JP:=JX.out.mv mpx fun q _ hq hf=>APX.out q hf hq
   have KP:=HKX.out.mv mpx fun hf=>by have:=HF.out.lt hf; have:=HS9.out; omega
   have KRP:=KRX.out.mv mpx fun hf=>by have:=HF.out.lt hf; omega
   have ORP:=OV.mvj ORX.out mpx fun k hk hf=>by have:=HF.out.lt hf; have:=(ORX.out.lt k hk).1; omega
   have MP:=MX.out.trans mpx fun _ _ h=>.inr (.inr h)
   have c3p:=JP.five.1.2.2.2.1;have c4p:=KP.cell 4;have hgjx:gj≠w9.heap.size:=fun e=>by
    have h1:=HJ.out.blk.lt;have:=HS9.out;omega
   have HPO:=Lib.hid (And.intro mpx (And.intro fp (And.intro JP (And.intro KP (And.intro KRP (And.intro ORP MP))))));have HC3:=Lib.hid (And.intro c3p c4p);obtain ⟨pr,hpr⟩:∃ pr,pr=progF f1 pos (Jr.buildS ⟨kind,num1,data⟩):=⟨_,rfl⟩;have hpc:=prog_code f1 pos (Jr.buildS ⟨kind,num1,data⟩);rw [← hpr] at HPP HPO hpc ⊢;clear hpr mpx JP KP KRP ORP MP c3p c4p mp fp PR JX KRX ORX MX OX FMX HKX;obtain ⟨pf,pc⟩:=pr;dsimp only at HPP HPO hpc ⊢;rcases hpc with rfl | rfl
   ·have JO:=Lib.hid (fun w=>joff_no gj 0 w (by decide))
    have H:Hid (appA f L now has kind data=⟨0,pf,L1.set at_ (lkN ⟨kind,num1,data⟩ ⟨lr,lcnt,lfin,lcl⟩),at_,true,false⟩):=Lib.hid (HPP.out.trans (if_pos rfl));have hcw:=(HCC.out wp).2 HC3.out;clear HPP;go_wp2_with fail
    refine behind_cl hcw ?_;refine phase_opL 12 1 rfl (by kernel_rfl) (by decide) ?_;simp only [nth];go_wp2_with fail
    refine (JO.out _).mono ?_;rintro e _ ⟨rfl,rfl⟩;go_wp2_with fail
    refine behind_cl hcw ?_;refine phase_cl (by kernel_rfl) 0 hcw [13] rfl (by kernel_rfl) ?_;simp only [picks,nth]
    repeat (go_big_quiet_step (fail))
    refine wpQuiet_nil ?_;refine phase_endL (by kernel_rfl) ?_;obtain ⟨mpx,fp,JP,KP,KRP,ORP,MP⟩:=HPO.out;have K3:=KRP.three;have KP0:=KP.cell 0;have KP1:=KP.cell 1;have KP2:=KP.cell 2;have KP3:=KP.cell 3;have KP4:=KP.cell 4;have KPf:=KP.frozen;have HJP:=Lib.hid JP;have HFP:=Lib.hid fp;have HKP:=Lib.hid KP;have HORP:=Lib.hid ORP;have HMP:=Lib.hid MP;have HSZ:=Lib.hid mpx.size;have z3:=HZ.out.2.2.1;have z4:=HZ.out.2.2.2;clear mpx fp JP KP KRP ORP MP HPO hcw JO;have H5:=Lib.hid (app_five HF.out HJ.out HAP.out HFL.out HJP.out HFP.out HORP.out HMP.out HKP.out HS9.out (kind:=kind) (num1:=num1) (d:=lfin + (data.length + 13)));have hle:=Lib.hid HI2.out.2.2;clear HJP HFP HORP HMP HKP HSZ HC3 HCC hC0 instC;go_upto_region 26 with fail
    rw [show wrap64 ((lfin:Int) + ((data.length:Int) + 13))=((lfin + (data.length + 13):Nat):Int) from HZ.out.2.2.2];clear K3 KP0 KP1 KP2 KP3 KP4 KPf z3 z4;rw [show ((lcnt:Int) + 1)=((lcnt + 1:Nat):Int) from rfl];generalize ((((wp.setCell ⟨w9.heap.size,0,none⟩ (.int .i64 (kind:Int))).setCell ⟨w9.heap.size,1,none⟩ (.int .u32 (num1:Int))).setCell ⟨w9.heap.size,2,none⟩ (.slice A5 data.length c5)).setCell ⟨w9.heap.size,3,none⟩ (.int .i64 ((lcnt + 1:Nat):Int))).setCell ⟨w9.heap.size,4,none⟩ (.int .i64 ((lfin + (data.length + 13):Nat):Int))=wq at *;obtain ⟨KQ0,JQ0,FQ0,OQ0,MQ0,hbg0⟩:=H5.out;have bq:=below_drew wq;have KQ:=KQ0.later bq;have JQ:JoM wq.drew (fun q=>F q∨(w.heap.size≤q∧q < wq.drew.heap.size)) gj gl (some ⟨b,o,none⟩) c xs1 L1 now has gf false:=JQ0.below bq;have FQ:=FQ0.below bq;have OQ:OB wq.drew w.heap.size A5 data.length c5 data:=OV.below OQ0 bq;have MQ:=MQ0.drew;have hbg:w.heap.size≤wq.drew.heap.size:=hbg0;clear KQ0 JQ0 FQ0 OQ0 MQ0 hbg0 bq H5;obtain ⟨wd,hwd⟩:∃ x,x=wq.drew:=⟨_,rfl⟩;rw [← hwd] at KQ JQ FQ OQ MQ hbg;obtain ⟨C,hC⟩:∃ C:World→Prop,∀ x,C x↔(Blk x w9.heap.size 265 #[.int .i64 (kind:Int),.int .u32 (num1:Int),.slice A5 data.length c5,.int .i64 ((lcnt + 1:Nat):Int),.int .i64 ((lfin + (data.length + 13):Nat):Int),.bool lcl]∧x.cell? ⟨gj,0,none⟩=some (.slice (some ⟨b,o,none⟩) L.length c)):=⟨_,fun x=>Iff.rfl⟩;have cl0:∀ v:Cl C,v.val.cell? ⟨w9.heap.size,0,none⟩=some (.int .i64 (kind:Int)):=fun v=>((hC _).1 v.ok).1.cell 0
    have cl1:∀ v:Cl C,v.val.cell? ⟨w9.heap.size,1,none⟩=some (.int .u32 (num1:Int)):=fun v=>((hC _).1 v.ok).1.cell 1
    have cl2:∀ v:Cl C,v.val.cell? ⟨w9.heap.size,2,none⟩=some (.slice A5 data.length c5):=fun v=>((hC _).1 v.ok).1.cell 2
    have cl3:∀ v:Cl C,v.val.cell? ⟨w9.heap.size,3,none⟩=some (.int .i64 ((lcnt + 1:Nat):Int)):=fun v=>((hC _).1 v.ok).1.cell 3
    have cl4:∀ v:Cl C,v.val.cell? ⟨w9.heap.size,4,none⟩=some (.int .i64 ((lfin + (data.length + 13):Nat):Int)):=fun v=>((hC _).1 v.ok).1.cell 4
    have cl5:∀ v:Cl C,v.val.cell? ⟨w9.heap.size,5,none⟩=some (.bool lcl):=fun v=>((hC _).1 v.ok).1.cell 5
    have clj:∀ v:Cl C,v.val.cell? ⟨gj,0,none⟩=some (.slice (some ⟨b,o,none⟩) L.length c):=fun v=>((hC _).1 v.ok).2
    have HCC:=Lib.hid hC;have hj0:=JQ.five.1.1;rw [hle.out] at hj0;have hC0:C wd:=(hC _).2 ⟨KQ,hj0⟩;haveI instC:Nonempty (Cl C):=⟨⟨wd,hC0⟩⟩;obtain ⟨gq,A6,c6,hAe,hq1,hq2,hqc,hqf,_⟩:=JQ.look (show at_ < L1.length by rw [hle.out]; exact hat);injection hAe with hAe
    injection hAe with hAe hAo
    subst hAe hAo;have hgl:=(JQ.at_ b rfl).1;subst hgl;have r0:=hqc 0 _ rfl;have r1:=hqc 1 _ rfl;have r2:=hqc 2 _ rfl;have r3:=hqc 3 _ rfl;have r4:=hqc 4 _ rfl;have r5:=hqc 5 _ rfl;simp only [Nat.add_zero] at r0;have HL0:=app_last HF.out HJ.out HAP.out HFL.out JQ FQ OQ MQ KQ (show at_ < L1.length by rw [hle.out]; exact hat) hle.out hbg HS9.out (r:=⟨kind,num1,data⟩) (x:=⟨lr,lcnt,lfin,lcl⟩) rfl rfl rfl;rw [hle.out] at HL0;dsimp only at HL0;unfold st6 at HL0;have HL:=Lib.hid HL0;have D1:=HL0.1.2.2;have D2:=HL0.2.1.2.2;clear HL0;have i0:(0:Int)≤(at_:Int):=by omega
    have i1:(at_:Int) < (L.length:Int):=by omega
    clear KQ JQ FQ OQ MQ hqc hC hq1 hq2 hj0 hbg;refine region_cl 99 C (by kernel_rfl) ?_;rw [← hwd];clear hwd;refine phase_cl (by kernel_rfl) 9 hC0 [0,5,6,7,8,9,1,2,3,4,10] rfl (by kernel_rfl) ?_;simp only [picks,nth]
    repeat (go_big_quiet_step (fail))
    refine wpQuiet_nil ?_;refine phase_opL 11 8 rfl (by kernel_rfl) (by decide) ?_;simp only [nth];clear cl0 cl1 cl2 cl3 cl4 cl5;go_wp2_with fail
    rw [show ((lcnt:Int) + 1)=((lcnt + 1:Nat):Int) from rfl,show ((lfin:Int) + ((data.length:Int) + 13))=((lfin + (data.length + 13):Nat):Int) from rfl];generalize (((((wd.setCell ⟨b,at_ * 6,none⟩ (.int .i64 (kind:Int))).setCell ⟨b,at_ * 6 + 1,none⟩ (.int .u32 (num1:Int))).setCell ⟨b,at_ * 6 + 2,none⟩ (.slice A5 data.length c5)).setCell ⟨b,at_ * 6 + 3,none⟩ (.int .i64 ((lcnt + 1:Nat):Int))).setCell ⟨b,at_ * 6 + 4,none⟩ (.int .i64 ((lfin + (data.length + 13):Nat):Int))).setCell ⟨b,at_ * 6 + 5,none⟩ (.bool lcl)=ws at *;clear r0 r1 r2 r3 r4 r5 hqf;refine behind_cl ((HCC.out _).2 ⟨HL.out.1.1,HL.out.1.2.1⟩) ?_;refine phase_cl (by kernel_rfl) 5 ((HCC.out _).2 ⟨HL.out.1.1,HL.out.1.2.1⟩) [12,13,14] rfl (by kernel_rfl) ?_;simp only [picks,nth]
    repeat (go_big_quiet_step (fail))
    refine wpQuiet_nil ?_;refine phase_opL 15 4 rfl (by kernel_rfl) (by decide) ?_;simp only [nth];go_wp2_with fail
    refine behind_cl ((HCC.out _).2 ⟨HL.out.2.1.1,HL.out.2.1.2.1⟩) ?_;refine phase_cl (by kernel_rfl) 1 ((HCC.out _).2 ⟨HL.out.2.1.1,HL.out.2.1.2.1⟩) [16,17,18] rfl (by kernel_rfl) ?_;simp only [picks,nth]
    repeat (go_big_quiet_step (fail))
    refine wpQuiet_nil ?_;refine phase_opL 19 0 rfl (by kernel_rfl) (by decide) ?_;simp only [nth];go_wp2_with fail
    refine behind_cl ((HCC.out _).2 ⟨HL.out.2.2.1.1,HL.out.2.2.1.2⟩) ?_;refine phase_endL (by kernel_rfl) ?_;go_wp2_with fail
    go_ret
    rw [H.out];exact HL.out.2.2.2
   ·have JO:=Lib.hid (joff_yes HPO.out.2.2.1)
    have H:Hid (appA f L now has kind data=⟨7,pf,L1,now,has,true⟩):=Lib.hid (HPP.out.trans (if_neg (by decide)));go_wp2_with fail
    refine behind_cl ((HCC.out _).2 HC3.out) ?_;refine phase_opL 12 1 rfl (by kernel_rfl) (by decide) ?_;simp only [nth];go_wp2_with fail
    refine (JO.out).mono ?_;rintro e _ ⟨rfl,rfl⟩;obtain ⟨mpx,fp,JP,KP,KRP,ORP,MP⟩:=HPO.out;have JQ:=JP.set_ (i:=4) (u:=.bool true) (now':=now) (has':=has) (dead':=true) rfl;have mq:=Mv.setCell wp ⟨gj,4,none⟩ (.bool true);have FQ:=fp.mv mq fun q hq e=>APX.out q hq (by have e2:q=gj:=e; rw [e2]; exact .inl HJ.out.fg)
    have KQ:=KP.far (p:=⟨gj,4,none⟩) (fun e=>hgjx e.symm) (.bool true);have MQ:=MP.trans mq fun _ _ e=>.inl e
    have hsz:w9.heap.size≤wp.heap.size:=Nat.le_trans hs9 mpx.size;have HQ:=Lib.hid (And.intro JQ (And.intro FQ MQ));have hcq:=(HCC.out (wp.setCell ⟨gj,4,none⟩ (.bool true))).2 ⟨JQ.five.1.2.2.2.1,KQ.cell 4⟩;have hsq:(wp.setCell ⟨gj,4,none⟩ (.bool true)).heap.size=wp.heap.size:=by simp [World.setCell]
    have HSQ:=Lib.hid (show w9.heap.size≤(wp.setCell ⟨gj,4,none⟩ (.bool true)).heap.size by rw [hsq]; exact hsz);have HCQ:=Lib.hid hcq;clear mpx fp JP KP KRP ORP MP JQ FQ KQ MQ mq hsz hsq hcq;generalize wp.setCell ⟨gj,4,none⟩ (.bool true)=wq at *;go_wp2_with fail
    refine behind_cl HCQ.out ?_;refine phase_cl (by kernel_rfl) 0 HCQ.out [13] rfl (by kernel_rfl) ?_;simp only [picks,nth]
    repeat (go_big_quiet_step (fail))
    refine wpQuiet_nil ?_;refine phase_endL (by kernel_rfl) ?_;go_wp2_with fail
    go_ret
    rw [H.out];exact ⟨rfl,HQ.out.2.2,HQ.out.2.1,_,HQ.out.1.mono fun q _ hq=>by
     rcases hq with hq | hq
     ·exact .inl hq
     ·exact .inr ⟨hq.1,Nat.lt_of_lt_of_le hq.2 HSQ.out⟩⟩
end Go.Proofs.YtijegngfclkdaaaGreatDoor
