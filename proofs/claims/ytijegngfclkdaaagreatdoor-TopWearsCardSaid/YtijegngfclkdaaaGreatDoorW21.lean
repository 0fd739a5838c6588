/-
  Pieces of the proof: part 21 of 54.
  Conditions: none.
-/
import Derived.Test.YtijegngfclkdaaaGreatDoorW14
import Derived.Test.YtijegngfclkdaaaGreatDoorW17
import Derived.Test.YtijegngfclkdaaaGreatDoorW20
set_option linter.unusedVariables false
set_option linter.unusedSimpArgs false
set_option maxHeartbeats 100000000
set_option maxRecDepth 100000
namespace Go.Proofs.YtijegngfclkdaaaGreatDoor
open Go.RowKit
def lk0:Jr.Look:=⟨Jr.noRec,0,0,false⟩
def placeS (f:Fla) (L:List Jr.Look) (now:Nat) (has:Bool) (d:Nat):Nat×Bool×Bool :=
 if has=true∧Jr.roomJ (L.getD now lk0) d=true then (now,false,true)
 else if (Jr.nxN L (wornK f L.length)).2=false then (0,false,false)
 else ((Jr.nxN L (wornK f L.length)).1,decide (0 < (L.getD (Jr.nxN L (wornK f L.length)).1 lk0).count) || !(L.getD (Jr.nxN L (wornK f L.length)).1 lk0).clean,true)
theorem nxGo_lt {nw:Nat×Bool} {W:List Int} {n:Nat}:∀ {l:List Jr.Look} {i:Nat} {x:Nat×Bool},(x.2=true→x.1 < n)→i + l.length≤n→(Jr.nxGo nw W l i x).2=true→(Jr.nxGo nw W l i x).1 < n
 | [],_,_,h,_,h2=>h h2
 | a :: r,i,x,h,hi,h2=>by
  rw [Jr.nxGo] at h2 ⊢;have hi':i + 1 + r.length≤n:=by simp at hi; omega
  split at h2
  ·rename_i e
   rw [if_pos e];exact nxGo_lt h hi' h2
  ·rename_i e
   rw [if_neg e];split at h2
   ·rename_i e2
    rw [if_pos e2];exact nxGo_lt (x:=(i,true)) (fun _=>by simp at hi; show i < n; omega) hi' h2
   ·rename_i e2
    rw [if_neg e2];exact nxGo_lt h hi' h2
theorem nxN_lt {l:List Jr.Look} {W:List Int} (h:(Jr.nxN l W).2=true):(Jr.nxN l W).1 < l.length:=by
 unfold Jr.nxN at *;exact nxGo_lt (fun h=>by cases h) (by omega) h
def plP (x:Nat×Bool×Bool) (w:World) (e:Ending) (w':World):Prop:=e=.returned (.tuple #[.int .i64 (x.1:Int),.bool x.2.1,.bool x.2.2])∧Below w.heap.size w w'
theorem jplace_any {w:World} {F:Nat→Prop} {gj gl c now gf:Nat} {A:Option Addr} {xs:List Value} {L:List Jr.Look} {has dead:Bool} (d:Nat) (h:JoM w F gj gl A c xs L now has gf dead) {base n cb m c':Nat} {Ab A':Option Addr} {f:Fla} (hf:FlM w base gf Ab n cb A' m c' f) (hm:m≤8) (hL:L.length=m) (hmost:0≤f.most∧f.most≤2000000000) (hw:∀ i,f.wear.getD i 0≤1000000∧(f.wear.getD i 0:Int) < f.most) (hnow:has=true→now < m) (hfin:∀ i,(L.getD i lk0).fin≤100000) (hd:d≤100000) :
  Calls Tryz.prog 390 #[.pointer (some ⟨gj,0,none⟩),.int .i64 (d:Int)] w (plP (placeS f L now has d) w):=by
 have F5:=h.five;have HJ:=Lib.hid (fun (w1:World) (b:Below w.heap.size w w1)=>(h.below b).five);have WE:=Lib.hid (fun (w1:World) (b:Below w.heap.size w w1)=>jwears_any (h.below b) (hf.below b) hm hL hmost fun i=>(hw i).1);have HLK:=Lib.hid (fun (w1:World) (b:Below w.heap.size w w1)=>(h.below b).looks);have hfl:=hf.len;have HPOS:=Lib.hid (fun i (hi:i < m)=>show 0 < (leftK f m).getD i 0 from by
  unfold leftK;rw [List.getD_eq_getElem?_getD,List.getElem?_map,List.getElem?_range hi];show 0 < leftS f (i:Int);unfold leftS;rw [if_pos (by omega)];have:=(hw i).2;simp only [Int.toNat_natCast];omega)
 have HFIN:=Lib.hid hfin;have hS:placeS f L now has d=placeS f L now has d:=rfl
 conv at hS=>rhs; unfold placeS
 rw [hL] at hS F5;have HS:=Lib.hid hS;have HGET:=Lib.hid (fun (w1:World) (b:Below w.heap.size w w1) (i:Nat) (hi:i < m)=>RS.at_ ((h.below b).looks) (by decide) (show L[i]?=some (L.getD i lk0) by simp [List.getD,List.getElem?_eq_getElem (show i < L.length by omega)]));have HLT:=Lib.hid (fun (hx:(Jr.nxN L (wornK f m)).2=true)=>show (Jr.nxN L (wornK f m)).1 < m from by have:=nxN_lt hx; omega);have HL:=Lib.hid hL;have hmv:=(h.below (Below.refl _ _)).fg;clear h hf hw hfin hS hmv hL;have T0:=cell_mv (G:=fun _=>False) F5.1.1 (fun h=>h);have T1:=cell_mv (G:=fun _=>False) F5.1.2.1 (fun h=>h);have T2:=cell_mv (G:=fun _=>False) F5.1.2.2.1 (fun h=>h);cases has with
 | false =>
  have HNO:Hid (¬ (false=true∧Jr.roomJ (L.getD now lk0) d=true)):=Lib.hid (by simp);clear F5;go_enter Tryz.func390,Tryz.ntmps390
  go_wp2_with fail
  refine region_mv 99 (fun _=>False) (by kernel_rfl) ?_;refine phase_mv (by kernel_rfl) 2 (Mv.refl _ _).drew [0,1,2,3,4,5,6,7,8,9,10,11,12,13,14,15,16,17,18] rfl (by kernel_rfl) ?_;simp only [picks,nth]
  repeat (go_big_quiet_step (fail))
  refine wpQuiet_nil ?_;refine phase_opL 19 1 rfl (by kernel_rfl) (by decide) ?_;simp only [nth];go_wp2_with fail
  refine behind_mv (Mv.refl _ _).drew ?_;refine phase_mv (by kernel_rfl) 0 (Mv.refl _ _).drew [20] rfl (by kernel_rfl) ?_;simp only [picks,nth]
  repeat (go_big_quiet_step (fail))
  refine wpQuiet_nil ?_;refine phase_endL (by kernel_rfl) ?_;have bw:=below_drew w;generalize w.drew=w1 at *;rw [if_neg (by simp)] at HS;have WE1:=Lib.hid (WE.out w1 bw);have BW:=Lib.hid bw;clear bw WE;go_wp2_with fail
  refine (WE1.out).mono ?_;rintro e w2 ⟨A1,c1,A2,c2,rfl,o1,o2,b2⟩;have bw2:=below_step BW.out b2 (Nat.le_refl _);have FJ2:=HJ.out w2 bw2;rw [HL.out] at FJ2;have hlk2:=HLK.out w2 bw2;rw [HL.out] at hlk2;have NX:=Lib.hid (secNext_any w2 hlk2 (Nat.le_refl _) o1 o2 HPOS.out);have BW2:=Lib.hid bw2;clear WE1 BW b2 hlk2 o1 o2 bw2;obtain ⟨nx,hnx⟩:∃ nx,nx=Jr.nxN L (wornK f m):=⟨_,rfl⟩;rw [← hnx] at NX HS HLT;clear hnx;obtain ⟨at_,ok⟩:=nx;dsimp only at NX HS HLT;go_wp2_with fail
  refine (NX.out).mono ?_;rintro e w3 ⟨rfl,b3⟩;have bw3:=below_step BW2.out b3 (Nat.le_refl _);clear NX FJ2;cases ok with
  | false =>
   have H:Hid (placeS f L now false d=(0,false,false)):=Lib.hid (HS.out.trans (if_pos rfl));go_wp2_with fail
   go_ret3
   rw [H.out];exact ⟨rfl,bw3⟩
  | true =>
   have hlt:=HLT.out rfl;have FJ3:=HJ.out w3 bw3;rw [HL.out] at FJ3;obtain ⟨b,o,cs,hAe,hbB,⟨A4,n4,c4,rfl⟩,hc⟩:=HGET.out w3 bw3 at_ hlt;cases hAe;have H:Hid (placeS f L now false d=(at_,decide (0 < (L.getD at_ lk0).count) || !(L.getD at_ lk0).clean,true)):=Lib.hid (HS.out.trans (if_neg (by simp)));generalize L.getD at_ lk0=x at *;have q0:=hc 0 _ (by decide) rfl;have q1:=hc 1 _ (by decide) rfl;have q2:=hc 2 _ (by decide) rfl;have q3:=hc 3 _ (by decide) rfl;have q4:=hc 4 _ (by decide) rfl;have q5:=hc 5 _ (by decide) rfl;simp only [Nat.add_zero] at q0;have i0:(0:Int)≤(at_:Int):=by omega
   have i1:(at_:Int) < (m:Int):=by omega
   have b4:=alloc_one w3 (.cells #[.int .i64 (x.last.kind:Int),.int .u32 (x.last.num:Int),.slice A4 n4 c4,.int .i64 (x.count:Int),.int .i64 (x.fin:Int),.bool x.clean] 265);have K4:=Blk.new w3 265 #[.int .i64 (x.last.kind:Int),.int .u32 (x.last.num:Int),.slice A4 n4 c4,.int .i64 (x.count:Int),.int .i64 (x.fin:Int),.bool x.clean];have bw4:=below_step bw3 b4 (Nat.le_refl _);have v3:=cell_mv (G:=fun _=>False) (K4.cell 3) (fun h=>h);have v5:=cell_mv (G:=fun _=>False) (K4.cell 5) (fun h=>h);obtain ⟨last,cnt,fin,cl⟩:=x;dsimp only at H v3 v5 bw4 q0 q1 q3 q4 q5;have BW4:=Lib.hid bw4;clear bw4 bw3 b4 K4 hc HS HLT BW2
   by_cases hcz:0 < cnt
   ·have e1:decide ((cnt:Int) > 0)=true:=decide_eq_true (by omega)
    have e1':decide (0 < cnt)=true:=decide_eq_true hcz;have e1'':decide ((0:Int) < (cnt:Int))=true:=decide_eq_true (by omega);rw [e1'] at H;go_wp2_with fail
    go_big_quiet (fail)
    go_wp2_with fail
    go_ret3
    rw [H.out];exact ⟨rfl,below_drewN BW4.out nq⟩
   ·have e1:decide ((cnt:Int) > 0)=false:=decide_eq_false (by omega)
    have e1':decide (0 < cnt)=false:=decide_eq_false hcz;have e1'':decide ((0:Int) < (cnt:Int))=false:=decide_eq_false (by omega);rw [e1'] at H;go_wp2_with fail
    go_big_quiet (fail)
    go_wp2_with fail
    go_ret3
    rw [H.out];exact ⟨rfl,below_drewN BW4.out nq⟩
 | true =>
  have hnw:=hnow rfl;obtain ⟨b,o,cs,hAe,hbB,⟨A4,n4,c4,rfl⟩,hc⟩:=HGET.out w (Below.refl _ _) now hnw;subst hAe;have RO:=Lib.hid (fun w1=>secRoom_any (L.getD now lk0) A4 n4 c4 d w1 (HFIN.out now) hd);have q0:=cell_mv (G:=fun _=>False) (hc 0 _ (by decide) rfl) (fun h=>h);have q1:=cell_mv (G:=fun _=>False) (hc 1 _ (by decide) rfl) (fun h=>h);have q2:=cell_mv (G:=fun _=>False) (hc 2 _ (by decide) rfl) (fun h=>h);have q3:=cell_mv (G:=fun _=>False) (hc 3 _ (by decide) rfl) (fun h=>h);have q4:=cell_mv (G:=fun _=>False) (hc 4 _ (by decide) rfl) (fun h=>h);have q5:=cell_mv (G:=fun _=>False) (hc 5 _ (by decide) rfl) (fun h=>h);simp only [Nat.add_zero] at q0;unfold lkV at RO;have i0:(0:Int)≤(now:Int):=by omega
  have i1:(now:Int) < (m:Int):=by omega
  generalize hrj:Jr.roomJ (L.getD now lk0) d=rj at *;have HRJ:=Lib.hid hrj;clear hrj hc;generalize L.getD now lk0=lx at q0 q1 q2 q3 q4 q5 RO;obtain ⟨last,cnt,fin,cl⟩:=lx;dsimp only at q0 q1 q2 q3 q4 q5 RO;go_enter Tryz.func390,Tryz.ntmps390
  go_wp2_with fail
  refine region_mv 99 (fun _=>False) (by kernel_rfl) ?_;refine phase_mv (by kernel_rfl) 2 (Mv.refl _ _).drew [0,1,2,3,4,5,6,7,8,9,10,11,12,13,14,15,16,17,18] rfl (by kernel_rfl) ?_;simp only [picks,nth]
  repeat (go_big_quiet_step (fail))
  refine wpQuiet_nil ?_;refine phase_opL 19 1 rfl (by kernel_rfl) (by decide) ?_;simp only [nth];go_wp2_with fail
  refine (RO.out _).mono ?_;rintro e w1 ⟨rfl,b1⟩;have bw:Below w.heap.size w w1:=(below_drew w).trans b1;go_wp2_with fail
  refine behind_mv (Mv.of_new bw _) ?_;refine phase_mv (by kernel_rfl) 0 (Mv.of_new bw _) [20] rfl (by kernel_rfl) ?_;simp only [picks,nth]
  repeat (go_big_quiet_step (fail))
  refine wpQuiet_nil ?_;refine phase_endL (by kernel_rfl) ?_;clear q0 q1 q2 q3 q4 q5 RO T0 T1 T2 b1 F5;cases rj with
  | true =>
   have H:Hid (placeS f L now true d=(now,false,true)):=Lib.hid (HS.out.trans (if_pos (by simp)));have FJ:=HJ.out w1 bw;go_wp2_with fail
   go_ret3
   rw [H.out];exact ⟨rfl,bw⟩
  | false =>
   have HNO:Hid (¬ (true=true∧false=true)):=Lib.hid (by simp);rw [if_neg (by simp)] at HS;have WE1:=Lib.hid (WE.out w1 bw);have BW:=Lib.hid bw;clear bw WE;go_wp2_with fail
   refine (WE1.out).mono ?_;rintro e w2 ⟨A1,c1,A2,c2,rfl,o1,o2,b2⟩;have bw2:=below_step BW.out b2 (Nat.le_refl _);have FJ2:=HJ.out w2 bw2;rw [HL.out] at FJ2;have hlk2:=HLK.out w2 bw2;rw [HL.out] at hlk2;have NX:=Lib.hid (secNext_any w2 hlk2 (Nat.le_refl _) o1 o2 HPOS.out);have BW2:=Lib.hid bw2;clear WE1 BW b2 hlk2 o1 o2 bw2;obtain ⟨nx,hnx⟩:∃ nx,nx=Jr.nxN L (wornK f m):=⟨_,rfl⟩;rw [← hnx] at NX HS HLT;clear hnx;obtain ⟨at_,ok⟩:=nx;dsimp only at NX HS HLT;go_wp2_with fail
   refine (NX.out).mono ?_;rintro e w3 ⟨rfl,b3⟩;have bw3:=below_step BW2.out b3 (Nat.le_refl _);clear NX FJ2;cases ok with
   | false =>
    have H:Hid (placeS f L now true d=(0,false,false)):=Lib.hid (HS.out.trans (if_pos rfl));go_wp2_with fail
    go_ret3
    rw [H.out];exact ⟨rfl,bw3⟩
   | true =>
    have hlt:=HLT.out rfl;have FJ3:=HJ.out w3 bw3;rw [HL.out] at FJ3;obtain ⟨b,o,cs,hAe,hbB,⟨A4,n4,c4,rfl⟩,hc⟩:=HGET.out w3 bw3 at_ hlt;cases hAe;have H:Hid (placeS f L now true d=(at_,decide (0 < (L.getD at_ lk0).count) || !(L.getD at_ lk0).clean,true)):=Lib.hid (HS.out.trans (if_neg (by simp)));generalize L.getD at_ lk0=x at *;have q0:=hc 0 _ (by decide) rfl;have q1:=hc 1 _ (by decide) rfl;have q2:=hc 2 _ (by decide) rfl;have q3:=hc 3 _ (by decide) rfl;have q4:=hc 4 _ (by decide) rfl;have q5:=hc 5 _ (by decide) rfl;simp only [Nat.add_zero] at q0;have i0:(0:Int)≤(at_:Int):=by omega
    have i1:(at_:Int) < (m:Int):=by omega
    have b4:=alloc_one w3 (.cells #[.int .i64 (x.last.kind:Int),.int .u32 (x.last.num:Int),.slice A4 n4 c4,.int .i64 (x.count:Int),.int .i64 (x.fin:Int),.bool x.clean] 265);have K4:=Blk.new w3 265 #[.int .i64 (x.last.kind:Int),.int .u32 (x.last.num:Int),.slice A4 n4 c4,.int .i64 (x.count:Int),.int .i64 (x.fin:Int),.bool x.clean];have bw4:=below_step bw3 b4 (Nat.le_refl _);have v3:=cell_mv (G:=fun _=>False) (K4.cell 3) (fun h=>h);have v5:=cell_mv (G:=fun _=>False) (K4.cell 5) (fun h=>h);obtain ⟨last,cnt,fin,cl⟩:=x;dsimp only at H v3 v5 bw4 q0 q1 q3 q4 q5;have BW4:=Lib.hid bw4;clear bw4 bw3 b4 K4 hc HS HLT BW2
    by_cases hcz:0 < cnt
    ·have e1:decide ((cnt:Int) > 0)=true:=decide_eq_true (by omega)
     have e1':decide (0 < cnt)=true:=decide_eq_true hcz;have e1'':decide ((0:Int) < (cnt:Int))=true:=decide_eq_true (by omega);rw [e1'] at H;go_wp2_with fail
     go_big_quiet (fail)
     go_wp2_with fail
     go_ret3
     rw [H.out];exact ⟨rfl,below_drewN BW4.out nq⟩
    ·have e1:decide ((cnt:Int) > 0)=false:=decide_eq_false (by omega)
     have e1':decide (0 < cnt)=false:=decide_eq_false hcz;have e1'':decide ((0:Int) < (cnt:Int))=false:=decide_eq_false (by omega);rw [e1'] at H;go_wp2_with fail
     go_big_quiet (fail)
     go_wp2_with fail
     go_ret3
     rw [H.out];exact ⟨rfl,below_drewN BW4.out nq⟩
end Go.Proofs.YtijegngfclkdaaaGreatDoor
namespace Go.Proofs.YtijegngfclkdaaaGreatDoor
open Go.RowKit
theorem Before_any (e e':Ent.En) (A A':Option Addr) (n c n' c':Nat) (w:World):Calls Tryz.prog 78 #[enV e A n c,enV e' A' n' c'] w fun x w'=>x=.returned (.bool (Ent.befB e e'))∧Below w.heap.size w w':=by
 obtain ⟨ix,sb,nm,ty,ac,mp,st,mx,lo,hi,df⟩:=e;unfold enV;dsimp only;obtain ⟨ix',sb',nm',ty',ac',mp',st',mx',lo',hi',df'⟩:=e';dsimp only
 by_cases h1:ix=ix'
 ·subst h1
  have hv:Ent.befB ⟨ix,sb,nm,ty,ac,mp,st,mx,lo,hi,df⟩ ⟨ix,sb',nm',ty',ac',mp',st',mx',lo',hi',df'⟩=decide (sb < sb'):=if_pos rfl;rw [hv];have e1:(ix != ix)=false:=by simp
  have e2:(ix == ix)=true:=by simp
  have e3:decide (ix < ix)=false:=decide_eq_false (by omega);clear hv
  by_cases h2:sb < sb'
  all_goals
   go_enter Tryz.func78,Tryz.ntmps78
   go_wp2_with fail
   go_ret
   exact ⟨ret_bool (by simp [h2] <;> omega),alloc_two _ _ _⟩
 ·have hv:Ent.befB ⟨ix,sb,nm,ty,ac,mp,st,mx,lo,hi,df⟩ ⟨ix',sb',nm',ty',ac',mp',st',mx',lo',hi',df'⟩=decide (ix < ix'):=if_neg h1
  rw [hv];have e1:(ix != ix')=true:=by simpa using h1
  have e2:(ix == ix')=false:=beq_false_of_ne h1;clear hv
  by_cases h2:ix < ix'
  ·have e3:decide (ix < ix')=true:=decide_eq_true h2
   clear h1;go_enter Tryz.func78,Tryz.ntmps78
   go_wp2_with fail
   go_ret
   exact ⟨ret_bool (by simp [h2]),alloc_two _ _ _⟩
  ·have e3:decide (ix < ix')=false:=decide_eq_false h2
   clear h1;go_enter Tryz.func78,Tryz.ntmps78
   go_wp2_with fail
   go_ret
   exact ⟨ret_bool (by simp [h2]),alloc_two _ _ _⟩
end Go.Proofs.YtijegngfclkdaaaGreatDoor
namespace Go.Proofs.YtijegngfclkdaaaGreatDoor
open Go.ChangeShapes Go.WideShapes Go.ChangeAt Go.RowKit
def VlC (w:World) (B:Nat) (f:Dc.Vl) (cs:List Value):Prop:=∃ A n c,cs=[.int .i64 f.index,.int .i64 f.sub,.slice A n c]∧RB w B A n c f.data
theorem VlC.below {w w':World} {B:Nat} {f:Dc.Vl} {cs:List Value} (hb:Below B w w') (h:VlC w B f cs):VlC w' B f cs:=by
 obtain ⟨A,n,c,h1,h2⟩:=h;exact ⟨A,n,c,h1,h2.below hb⟩
def vl0:Dc.Vl:=⟨0,0,[]⟩
def RVl (w:World) (B B':Nat) (A:Option Addr) (n c:Nat) (fs:List Dc.Vl):Prop:=RS (VlC w B') w B 3 A n c fs
section
variable {w w':World} {B B' n c:Nat} {A:Option Addr} {fs:List Dc.Vl}
theorem RVl.len (h:RVl w B B' A n c fs):fs.length=n:=RS.len h (by decide)
theorem RVl.lt (h:RVl w B B' A n c fs):n≤9223372036854775807:=RS.lt h
theorem RVl.below (h:RVl w B B' A n c fs) (hb:Below B w w') (hB:B'≤B):RVl w' B B' A n c fs:=RS.below h hb fun _ _ h=>h.below (hb.mono hB)
theorem RVl.at_ (h:RVl w B B' A n c fs) {i:Nat} (hi:i < n):∃ b o A' n' c',A=some ⟨b,o,none⟩∧b < B∧w.cell? ⟨b,o + i * 3,none⟩=some (.int .i64 (fs.getD i vl0).index) ∧
  w.cell? ⟨b,o + i * 3 + 1,none⟩=some (.int .i64 (fs.getD i vl0).sub)∧w.cell? ⟨b,o + i * 3 + 2,none⟩=some (.slice A' n' c')∧RB w B' A' n' c' (fs.getD i vl0).data:=by
 have hl:=h.len;have hf:fs[i]?=some (fs.getD i vl0):=by simp [List.getD,List.getElem?_eq_getElem (show i < fs.length by omega)]
 obtain ⟨b,o,cs,rfl,hb,⟨A',n',c',rfl,hr⟩,hc⟩:=RS.at_ h (by decide) hf;exact ⟨b,o,A',n',c',rfl,hb,hc 0 _ (by decide) rfl,hc 1 _ (by decide) rfl,hc 2 _ (by decide) rfl,hr⟩
end
end Go.Proofs.YtijegngfclkdaaaGreatDoor
namespace Go.Proofs.YtijegngfclkdaaaGreatDoor
open Go.RowKit
theorem etvl:ET Tryz.prog 213 34 3 40 (.agg #[.int .i64 0,.int .i64 0,.slice none 0 0]):=⟨Tryz.underlying213,info_parts (by kernel_rfl),rfl,by decide⟩
def VlW (w:World) (base:Nat) (f:Dc.Vl) (cs:List Value):Prop:=∃ A n c,cs=[.int .i64 f.index,.int .i64 f.sub,.slice A n c]∧OW w base A n c f.data
theorem VlW.below {w w':World} {base:Nat} {f:Dc.Vl} {cs:List Value} (hb:Below w.heap.size w w') (h:VlW w base f cs):VlW w' base f cs:=by
 obtain ⟨A,n,c,h1,h2⟩:=h;exact ⟨A,n,c,h1,h2.below hb⟩
theorem VlW.more {w:World} {base base':Nat} {f:Dc.Vl} {cs:List Value} (hb:base'≤base) (h:VlW w base f cs):VlW w base' f cs:=by
 obtain ⟨A,n,c,h1,h2⟩:=h;exact ⟨A,n,c,h1,h2.more hb⟩
theorem VlW.beside {w w':World} {base base' e size m c':Nat} {A':Option Addr} {xs:List Value} (h':OV w base' e size A' m c' xs) (hne:e≠5) (hg:w.grownBy w' (Value.slice A' m c').ownBlock) {f:Dc.Vl} {cs:List Value} (h:VlW w base f cs):VlW w' base f cs:=by
 obtain ⟨A,n,c,h1,h2⟩:=h;exact ⟨A,n,c,h1,h2.beside h' hne hg⟩
theorem value_oneCell (x y:Int) (A:Option Addr) (m c:Nat):∀ u∈([.int .i64 x,.int .i64 y,.slice A m c]:List Value),u.oneCell'=true:=by
 intro u hu;simp only [List.mem_cons,List.not_mem_nil,or_false] at hu;rcases hu with rfl | rfl | rfl <;> rfl
end Go.Proofs.YtijegngfclkdaaaGreatDoor
namespace Go.Proofs.YtijegngfclkdaaaGreatDoor
open Go.RowKit
def plE (i j:Int):Ent.En:=⟨i,j,[],0,0,false,false,0,0,0,[]⟩
def vlV (i j:Int) (A:Option Addr) (n c:Nat):Value:=.agg #[.int .i64 i,.int .i64 j,.slice A n c]
theorem splace_any (i j:Int) (A:Option Addr) (n c:Nat) (w:World):Calls Tryz.prog 241 #[vlV i j A n c] w fun e w'=>e=.returned (enV (plE i j) none 0 0)∧Below w.heap.size w w':=by
 have b1:=alloc_two w (.cells #[.int .i64 i,.int .i64 j,.slice A n c] 34) (.cells #[.int .i64 i,.int .i64 j,.string ⟨#[]⟩,.int .i64 0,.int .i64 0,.bool false,.bool false,.int .i64 0,.int .i64 0,.int .i64 0,.slice none 0 0] 27);have K1:=Blk.new (w.alloc (.cells #[.int .i64 i,.int .i64 j,.slice A n c] 34)) 27 #[.int .i64 i,.int .i64 j,.string ⟨#[]⟩,.int .i64 0,.int .i64 0,.bool false,.bool false,.int .i64 0,.int .i64 0,.int .i64 0,.slice none 0 0];rw [World.size_alloc] at K1;have C:=K1.eleven;unfold vlV;go_enter Tryz.func241,Tryz.ntmps241
 go_wp2_with fail
 obtain ⟨⟨s0,s1,s2,s3,s4,s5,s6,s7,s8,s9,s10⟩,_⟩:=C;exact bodyPost_ret (v:=enV (plE i j) none 0 0) (by simp [results,Tryz.results241,go_sem,s0,s1,s2,s3,s4,s5,s6,s7,s8,s9,s10,enV,plE,show T []=(⟨#[]⟩:ByteArray) from rfl]) rfl ⟨rfl,b1⟩
theorem sahead_any (i j i' j':Int) (A A':Option Addr) (n c n' c':Nat) (w:World):Calls Tryz.prog 189 #[vlV i j A n c,vlV i' j' A' n' c'] w fun e w'=>e=.returned (.bool (Ent.befB (plE i j) (plE i' j')))∧Below w.heap.size w w':=by
 have b1:=alloc_two w (.cells #[.int .i64 i,.int .i64 j,.slice A n c] 34) (.cells #[.int .i64 i',.int .i64 j',.slice A' n' c'] 34);have K1:=(Blk.new w 34 #[.int .i64 i,.int .i64 j,.slice A n c]).alloc (.cells #[.int .i64 i',.int .i64 j',.slice A' n' c'] 34);have K2:=Blk.new (w.alloc (.cells #[.int .i64 i,.int .i64 j,.slice A n c] 34)) 34 #[.int .i64 i',.int .i64 j',.slice A' n' c'];rw [World.size_alloc] at K2;unfold vlV;have P1:=Lib.hid (fun w1=>splace_any i j A n c w1);have P2:=Lib.hid (fun w1=>splace_any i' j' A' n' c' w1);have P3:=Lib.hid (fun w1=>Before_any (plE i j) (plE i' j') none none 0 0 0 0 w1);unfold vlV at P1 P2;go_enter Tryz.func189,Tryz.ntmps189
 go_wp2_with fail
 generalize hw1:(w.alloc (.cells #[.int .i64 i,.int .i64 j,.slice A n c] 34)).alloc (.cells #[.int .i64 i',.int .i64 j',.slice A' n' c'] 34)=w1 at *;have x0:=cell_mv (G:=fun _=>False) (K1.cell 0) (fun h=>h);have x1:=cell_mv (G:=fun _=>False) (K1.cell 1) (fun h=>h);have x2:=cell_mv (G:=fun _=>False) (K1.cell 2) (fun h=>h);have y0:=cell_mv (G:=fun _=>False) (K2.cell 0) (fun h=>h);have y1:=cell_mv (G:=fun _=>False) (K2.cell 1) (fun h=>h);have y2:=cell_mv (G:=fun _=>False) (K2.cell 2) (fun h=>h);clear hw1 K1 K2;refine region_mv 99 (fun _=>False) (by kernel_rfl) ?_;refine phase_mv (by kernel_rfl) 4 (Mv.refl _ _).drew [0,2] rfl (by kernel_rfl) ?_;simp only [picks,nth]
 repeat (go_big_quiet_step (fail))
 refine wpQuiet_nil ?_;refine phase_opL 1 3 rfl (by kernel_rfl) (by decide) ?_;simp only [nth];go_wp2_with fail
 refine (P1.out _).mono ?_;rintro e w2 ⟨rfl,b2⟩;have d2:Below w1.heap.size w1 w2:=(below_drew w1).trans b2;go_wp2_with fail
 refine behind_mv (Mv.of_new d2 _) ?_;refine phase_opL 3 2 rfl (by kernel_rfl) (by decide) ?_;simp only [nth];go_wp2_with fail
 refine (P2.out _).mono ?_;rintro e w3 ⟨rfl,b3⟩;have d3:=below_step d2 b3 (Nat.le_refl _);go_wp2_with fail
 refine behind_mv (Mv.of_new d3 _) ?_;refine phase_opL 4 1 rfl (by kernel_rfl) (by decide) ?_;simp only [nth];go_wp2_with fail
 refine (P3.out _).mono ?_;rintro e w4 ⟨rfl,b4⟩;have d4:=below_step d3 b4 (Nat.le_refl _);go_wp2_with fail
 refine behind_mv (Mv.of_new d4 _) ?_;refine phase_mv (by kernel_rfl) 0 (Mv.of_new d4 _) [5] rfl (by kernel_rfl) ?_;simp only [picks,nth]
 repeat (go_big_quiet_step (fail))
 refine wpQuiet_nil ?_;refine phase_endL (by kernel_rfl) ?_;go_wp2_with fail
 go_ret
 exact ⟨rfl,below_step b1 d4 (Nat.le_refl _)⟩
def thereB (i j:Int):Bool:=decide (1≤i∧i≤65535∧0≤j∧j≤255)
theorem sthere_any (i j:Int) (A:Option Addr) (n c:Nat) (w:World):Calls Tryz.prog 239 #[vlV i j A n c] w fun e w'=>e=.returned (.bool (thereB i j))∧Below w.heap.size w w':=by
 have b1:=alloc_one w (.cells #[.int .i64 i,.int .i64 j,.slice A n c] 34);have K1:=(Blk.new w 34 #[.int .i64 i,.int .i64 j,.slice A n c]).three;unfold vlV thereB
 by_cases h1:1≤i
 ·have e1:decide (i ≥ 1)=true:=decide_eq_true h1
  by_cases h2:i≤65535
  ·have e2:decide (i≤65535)=true:=decide_eq_true h2
   by_cases h3:0≤j
   ·have e3:decide (j ≥ 0)=true:=decide_eq_true h3
    have e4:decide (1≤i∧i≤65535∧0≤j∧j≤255)=decide (j≤255):=by rw [Bool.eq_iff_iff]; simp only [decide_eq_true_eq]; omega
    rw [e4];clear e4;go_enter Tryz.func239,Tryz.ntmps239
    go_wp2_with fail
    go_ret
    exact ⟨rfl,b1⟩
   ·have e3:decide (j ≥ 0)=false:=decide_eq_false h3
    rw [show decide (1≤i∧i≤65535∧0≤j∧j≤255)=false from decide_eq_false (by omega)];go_enter Tryz.func239,Tryz.ntmps239
    go_wp2_with fail
    go_ret
    exact ⟨rfl,b1⟩
  ·have e2:decide (i≤65535)=false:=decide_eq_false h2
   rw [show decide (1≤i∧i≤65535∧0≤j∧j≤255)=false from decide_eq_false (by omega)];go_enter Tryz.func239,Tryz.ntmps239
   go_wp2_with fail
   go_ret
   exact ⟨rfl,b1⟩
 ·have e1:decide (i ≥ 1)=false:=decide_eq_false h1
  rw [show decide (1≤i∧i≤65535∧0≤j∧j≤255)=false from decide_eq_false (by omega)];go_enter Tryz.func239,Tryz.ntmps239
  go_wp2_with fail
  go_ret
  exact ⟨rfl,b1⟩
theorem sheld_any {A:Option Addr} {n c B:Nat} {l:List UInt8} (i j:Int) (w:World) (h:RB w B A n c l) (hB:B≤w.heap.size) (hn:n≤1000000):Calls Tryz.prog 240 #[vlV i j A n c] w fun e w'=>∃ A1,e=.returned (vlV i j A1 n n)∧OB w' w.heap.size A1 n n l∧Below w.heap.size w w':=by
 have b1:=alloc_two w (.cells #[.int .i64 i,.int .i64 j,.slice A n c] 34) (.cells #[.int .i64 0,.int .i64 0,.slice none 0 0] 34);have K1:=(Blk.new w 34 #[.int .i64 i,.int .i64 j,.slice A n c]).alloc (.cells #[.int .i64 0,.int .i64 0,.slice none 0 0] 34);have K2:=Blk.new (w.alloc (.cells #[.int .i64 i,.int .i64 j,.slice A n c] 34)) 34 #[.int .i64 0,.int .i64 0,.slice none 0 0];rw [World.size_alloc] at K2;have C1:=K1.three;have C2:=K2.three;have hl:=h.len;have HR:=Lib.hid (fun (w1:World) (b:Below w.heap.size w w1)=>h.below (b.mono hB));have hlz:(List.replicate n (0:UInt8)).drop n=[]:=by simp
 have HLZ:=Lib.hid hlz;unfold vlV;clear h hlz;go_enter Tryz.func240,Tryz.ntmps240
 go_wp2_with (first
  | (at_make; refine wpList_mkb etb rfl (.tmp 6) (.tmp 6) rfl .i64 .i64 n n rfl rfl (Nat.le_refl _) (by omega) (w.heap.size + 1 + 1) (by simp only [World.size_alloc]; exact Nat.le_refl _) ?_; intro w2 o2 b2 s2; have K12:=K1.later b2; have C12:=K12.three; have K22:=K2.later b2; have C22:=K22.three; clear C1 C2 s2; simp only [World.size_alloc] at o2; have b12:=below_step b1 b2 (Nat.le_refl _))
  | (refine wpList_cpb etb rfl (.tmp 8) (.tmp 10) rfl rfl rfl (w.heap.size + 1 + 1) o2 (HR.out w2 b12) (Nat.le_refl _) ?_; intro w3 o3 g3 s3; have b3:Below w.heap.size w w3:=b12.trans ((grown_below g3 o2.lt (by have:=K22.lt; omega)).mono (Nat.le_trans (Nat.le_succ _) (Nat.le_succ _))); have K13:=Blk.grown K12 g3 (fun e=>own_blk_ne o2 K12 (by decide) e.symm); have K23:=Blk.grown K22 g3 (fun e=>own_blk_ne o2 K22 (by decide) e.symm); have C13:=K13.three; have C23:=K23.three; clear C12 C22)
  | fail)
 rw [HLZ.out,List.append_nil] at o3;have o4:=OB.far o3 (g:=w.heap.size) (Nat.lt_succ_of_lt (Nat.lt_succ_self _)) 2 (.slice (some ⟨w.heap.size + 1 + 1,0,none⟩) n n);have K24:=K23.far (p:=⟨w.heap.size,2,none⟩) (by show w.heap.size + 1≠w.heap.size; exact Nat.succ_ne_self _) (.slice (some ⟨w.heap.size + 1 + 1,0,none⟩) n n);have b4:=b3.setCell (p:=⟨w.heap.size,2,none⟩) (Nat.le_refl _) (.slice (some ⟨w.heap.size + 1 + 1,0,none⟩) n n);have o5:=OB.far3 o4 (g:=w.heap.size + 1) (Nat.lt_succ_self _) 0 1 2 (.int .i64 i) (.int .i64 j) (.slice (some ⟨w.heap.size + 1 + 1,0,none⟩) n n);have K5:=K24.store3 (.int .i64 i) (.int .i64 j) (.slice (some ⟨w.heap.size + 1 + 1,0,none⟩) n n);have b5:=below_set3 b4 (g:=w.heap.size + 1) (Nat.le_succ _) 0 1 2 (.int .i64 i) (.int .i64 j) (.slice (some ⟨w.heap.size + 1 + 1,0,none⟩) n n);obtain ⟨s0,s1,s2,_⟩:=K5.three;exact bodyPost_ret (v:=vlV i j (some ⟨w.heap.size + 1 + 1,0,none⟩) n n) (by simp [results,Tryz.results240,go_sem,s0,s1,s2,vlV]) rfl ⟨_,rfl,o5.more (Nat.le_trans (Nat.le_succ _) (Nat.le_succ _)),b5⟩
end Go.Proofs.YtijegngfclkdaaaGreatDoor
