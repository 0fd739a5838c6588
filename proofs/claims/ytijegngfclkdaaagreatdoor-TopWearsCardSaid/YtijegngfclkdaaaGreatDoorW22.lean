/-
  Pieces of the proof: part 22 of 54.
  Conditions: none.
-/
import Derived.Laws.Tables
import Derived.KernelRfl
import Derived.Deep.QuietTactic
import Derived.BigQuiet
import Derived.Test.YtijegngfclkdaaaGreatDoorW13
import Derived.Test.YtijegngfclkdaaaGreatDoorW14
import Derived.Test.YtijegngfclkdaaaGreatDoorW16
import Derived.Test.YtijegngfclkdaaaGreatDoorW17
import Derived.Test.YtijegngfclkdaaaGreatDoorW18
import Derived.Test.YtijegngfclkdaaaGreatDoorW21
set_option linter.unusedVariables false
set_option linter.unusedSimpArgs false
set_option maxHeartbeats 100000000
set_option maxRecDepth 100000
namespace Go.Proofs.YtijegngfclkdaaaGreatDoor.Sn
open Dc
def oneS (b:List UInt8):Option (Vl×List UInt8) :=
 if b.length < 5 then none
 else if (b.drop 5).length < Oct.le (Oct.cut b 3 2) then none
 else if thereB (Oct.le (Oct.cut b 0 2):Int) ((b.getD 2 0).toNat:Int)=false then none
 else some (⟨(Oct.le (Oct.cut b 0 2):Int),((b.getD 2 0).toNat:Int),(b.drop 5).take (Oct.le (Oct.cut b 3 2))⟩,(b.drop 5).drop (Oct.le (Oct.cut b 3 2)))
theorem one_less {b:List UInt8} {v:Vl} {r:List UInt8} (h:oneS b=some (v,r)):r.length + 5≤b.length∧v.data.length≤b.length:=by
 unfold oneS at h;split at h; · cases h
 split at h; · cases h
 split at h; · cases h
 injection h with h
 injection h with h1 h2
 subst h1 h2;simp only [List.length_drop,List.length_take];omega
end Go.Proofs.YtijegngfclkdaaaGreatDoor.Sn
namespace Go.Proofs.YtijegngfclkdaaaGreatDoor
open Go.RowKit
def vlZ:Value:=vlV 0 0 none 0 0
def OneP (b:List UInt8) (w:World) (B:Nat) (e:Ending) (w':World):Prop :=
 Below w.heap.size w w'∧match Sn.oneS b with
 | none=>∃ z:Int,e=.returned (.tuple #[vlZ,.slice none 0 0,.int .i64 z])∧z≠0
 | some x=>∃ A1 A2 c2,e=.returned (.tuple #[vlV x.1.index x.1.sub A1 x.1.data.length x.1.data.length,.slice A2 x.2.length c2,.int .i64 0])∧OB w' w.heap.size A1 x.1.data.length x.1.data.length x.1.data∧RB w' B A2 x.2.length c2 x.2
theorem one_no {b:List UInt8} {w w':World} {B:Nat} {z:Int} (h:Sn.oneS b=none) (hz:z≠0) (hb:Below w.heap.size w w'):OneP b w B (.returned (.tuple #[vlZ,.slice none 0 0,.int .i64 z])) w':=⟨hb,by rw [h]; exact ⟨z,rfl,hz⟩⟩
theorem sn_nums {z1 z2:Nat} {xb:UInt8} (y1:z1 < 256 ^ 2) (y2:z2 < 256 ^ 2):IntKind.i64.wrap (z1:Int)=(z1:Int)∧wrap64 (z1:Int)=(z1:Int)∧IntKind.i64.wrap (z2:Int)=(z2:Int)∧wrap64 (z2:Int)=(z2:Int)∧IntKind.i64.wrap (xb.toNat:Int)=(xb.toNat:Int)∧wrap64 (xb.toNat:Int)=(xb.toNat:Int):=by
 have hxb:=xb.toNat_lt;have h1:z1 < 65536:=y1;have h2:z2 < 65536:=y2;clear y1 y2;exact ⟨IntWalk.i64_in _ (by omega),IntWalk.wrap64_in _ (by omega),IntWalk.i64_in _ (by omega),IntWalk.wrap64_in _ (by omega),IntWalk.i64_in _ (by omega),IntWalk.wrap64_in _ (by omega)⟩
theorem sone_any {A:Option Addr} {n c B:Nat} {l:List UInt8} (w:World) (hb:RB w B A n c l) (hB:B≤w.heap.size) (hn:n≤100000):Calls Tryz.prog 188 #[.slice A n c] w (OneP l w B):=by
 have hl:=hb.len;have b1:=alloc_one w (.cells #[.int .i64 0,.int .i64 0,.slice none 0 0] 34);have K1:=Blk.new w 34 #[.int .i64 0,.int .i64 0,.slice none 0 0];have C1:=K1.three;have s0:=C1.1;have s1:=C1.2.1;have s2:=C1.2.2.1;have hS:Sn.oneS l=Sn.oneS l:=rfl
 conv at hS=>rhs; unfold Sn.oneS
 rw [hl] at hS
 by_cases h5:n < 5
 ·rw [if_pos h5] at hS
  have e1:decide ((n:Int) < 5)=true:=decide_eq_true (by omega);have e1':decide (n < 5)=true:=decide_eq_true h5;have H:=Lib.hid hS;clear hb hl hS;go_enter Tryz.func188,Tryz.ntmps188
  go_wp2_with fail
  exact bodyPost_ret (v:=.tuple #[vlZ,.slice none 0 0,.int .i64 2]) (by simp [results,Tryz.results188,go_sem,s0,s1,s2,vlZ,vlV]) rfl (one_no H.out (by decide) b1)
 rw [if_neg h5] at hS;have e1:decide ((n:Int) < 5)=false:=decide_eq_false (by omega);have e1':decide (n < 5)=false:=decide_eq_false h5;have hb1:=hb.below (b1.mono hB);have G1:=Lib.hid (Get_ok 2 0 _ hb1 (by decide) (by decide) (by omega));have G2:=Lib.hid (Get_ok 2 3 _ hb1 (by decide) (by decide) (by omega));have y1:=Oct.le_lt (Oct.cut l 0 2);have y2:=Oct.le_lt (Oct.cut l 3 2);rw [Oct.cut_length _ _ _ (by omega)] at y1 y2;have hdl:(l.drop 5).length=n - 5:=by simp [hl]
 rw [hdl] at hS;obtain ⟨bx,ox,rfl,hbx,hc0⟩:=hb.at_ (show 0 < n by omega);have hbw:bx < w.heap.size:=by omega
 have x2c:=(b1.cell (p:=⟨bx,ox + 2,none⟩) hbw).trans (hc0 2 (by omega));have hr5:=hb.drop (k:=5) (by omega);have hcut:∀ w1,(Instr.slice 25 (.slice (some ⟨bx,ox,none⟩) n c) (some (.int .i64 5)) none none).run Tryz.prog w1=.ok (.slice (if c=5 then some ⟨bx,ox,none⟩ else (some ⟨bx,ox,none⟩:Option Addr).map (·.add 5)) (n - 5) (c - 5)) w1:=fun w1=>run_cut_rest etb (some ⟨bx,ox,none⟩) n c 5 (by omega) .i64 w1
 have hle3:=hr5.le;have hcap3:=hr5.cap;generalize hA3:(if c=5 then some ⟨bx,ox,none⟩ else (some ⟨bx,ox,none⟩:Option Addr).map (·.add 5))=A3 at *;generalize hn3:n - 5=n3 at *;generalize hc3:c - 5=c3 at *;generalize l.drop 5=x3 at *;generalize hz1:Oct.le (Oct.cut l 0 2)=z1 at *;generalize hz2:Oct.le (Oct.cut l 3 2)=z2 at *;generalize l.getD 2 0=xb at *;have HQ:=Lib.hid (sn_nums (xb:=xb) y1 y2);have i1:(2:Int) < (n:Int):=by omega
 have TH:=Lib.hid (fun (A:Option Addr) (m c:Nat) w1=>sthere_any (z1:Int) (xb.toNat:Int) A m c w1);unfold vlV at TH;have HBB:=Lib.hid hB;have HR5:=Lib.hid hr5
 by_cases hbig:n3 < z2
 ·rw [if_pos hbig] at hS
  have e2:decide ((z2:Int) > (n3:Int))=true:=decide_eq_true (by omega);have e2':decide (n3 < z2)=true:=decide_eq_true hbig;have H:=Lib.hid hS;obtain ⟨q1,q2,q3,q4,q5,q6⟩:=HQ.out;clear hb hl hS hb1 y1 y2 hbig hr5 hA3 hn3 hc3 hz1 hz2 hc0 TH HR5 h5;go_enter Tryz.func188,Tryz.ntmps188
  go_wp2_with fail
  refine (G1.out).mono ?_;rintro e _ ⟨rfl,rfl⟩;go_wp2_with fail
  refine (G2.out).mono ?_;rintro e _ ⟨rfl,rfl⟩;have bv:=alloc_one (w.alloc (.cells #[.int .i64 0,.int .i64 0,.slice none 0 0] 34)) (.cells #[.int .i64 (z1:Int),.int .i64 (xb.toNat:Int),.slice none 0 0] 34);have K1':=K1.later bv;have C1':=K1'.three;have b2:=below_step b1 bv (Nat.le_refl _);obtain ⟨t0,t1,t2,_⟩:=C1';go_wp2_with fail
  exact bodyPost_ret (v:=.tuple #[vlZ,.slice none 0 0,.int .i64 2]) (by simp [results,Tryz.results188,go_sem,t0,t1,t2,vlZ,vlV]) rfl (one_no H.out (by decide) b2)
 rw [if_neg hbig] at hS;have e2:decide ((z2:Int) > (n3:Int))=false:=decide_eq_false (by omega);have e2':decide (n3 < z2)=false:=decide_eq_false hbig;have h2:z2≤n3:=Nat.not_lt.1 hbig;have hx3:=hr5.len;have hh:=fun w1=>run_cut_head etb A3 n3 c3 z2 (Nat.le_trans h2 hle3) .u64 w1
 have ht:=fun w1=>run_cut_rest etb A3 n3 c3 z2 h2 .u64 w1
 simp only [Nat.mul_one] at ht;have RT:=Lib.hid (fun (w1:World) (b:Below w.heap.size w w1)=>(hr5.drop h2).below (b.mono hB));have RH:=Lib.hid (fun (w1:World) (b:Below w.heap.size w w1)=>(hr5.take (k:=z2) h2).below (b.mono hB));have hdr:(x3.drop z2).length=n3 - z2:=by rw [List.length_drop,hx3]
 have htk:(x3.take z2).length=z2:=by rw [List.length_take,hx3]; exact Nat.min_eq_left h2
 generalize (if c3=z2 then A3 else A3.map (·.add z2))=A7 at *;generalize n3 - z2=n7 at *;generalize c3 - z2=c7 at *;have HTK:=Lib.hid htk;have HDR:=Lib.hid hdr
 by_cases hth:thereB (z1:Int) (xb.toNat:Int)=false
 ·rw [if_pos hth] at hS
  rw [hth] at TH;have H:=Lib.hid hS;obtain ⟨q1,q2,q3,q4,q5,q6⟩:=HQ.out;clear hb hl hS hb1 y1 y2 hbig hr5 hA3 hn3 hc3 hz1 hz2 hc0 HR5 h5 hh ht RT RH hdr htk hth;go_enter Tryz.func188,Tryz.ntmps188
  go_wp2_with fail
  refine (G1.out).mono ?_;rintro e _ ⟨rfl,rfl⟩;go_wp2_with fail
  refine (G2.out).mono ?_;rintro e _ ⟨rfl,rfl⟩;have bv:=alloc_one (w.alloc (.cells #[.int .i64 0,.int .i64 0,.slice none 0 0] 34)) (.cells #[.int .i64 (z1:Int),.int .i64 (xb.toNat:Int),.slice none 0 0] 34);have KV:=(Blk.new (w.alloc (.cells #[.int .i64 0,.int .i64 0,.slice none 0 0] 34)) 34 #[.int .i64 (z1:Int),.int .i64 (xb.toNat:Int),.slice none 0 0]).three;have K1':=K1.later bv;have b2:=below_step b1 bv (Nat.le_refl _);go_wp2_with fail
  refine (TH.out _ _ _ _).mono ?_;rintro e w3 ⟨rfl,b3⟩;have K3:=K1'.later b3;have C3:=K3.three;have K3s:=K3.store3 (.int .i64 0) (.int .i64 0) (.slice none 0 0);have b13:=below_set3 (below_step b2 b3 (Nat.le_refl _)) (g:=w.heap.size) (Nat.le_refl _) 0 1 2 (.int .i64 0) (.int .i64 0) (.slice none 0 0);obtain ⟨t0,t1,t2,_⟩:=K3s.three;go_wp2_with fail
  exact bodyPost_ret (v:=.tuple #[vlZ,.slice none 0 0,.int .i64 9]) (by simp [results,Tryz.results188,go_sem,t0,t1,t2,vlZ,vlV]) rfl (one_no H.out (by decide) b13)
 rw [if_neg hth] at hS;have hth2:thereB (z1:Int) (xb.toNat:Int)=true:=by simpa using hth
 rw [hth2] at TH;have HE:=Lib.hid (fun (w1:World) (b:Below w.heap.size w w1)=>sheld_any (z1:Int) (xb.toNat:Int) w1 (RH.out w1 b) (Nat.le_trans hB b.size) (by have:z2 < 65536:=y2; omega));unfold vlV at HE;have H:=Lib.hid hS;obtain ⟨q1,q2,q3,q4,q5,q6⟩:=HQ.out;clear hb hl hS hb1 y1 y2 hbig hr5 hA3 hn3 hc3 hz1 hz2 hc0 HR5 h5 RH hdr htk hth hth2;go_enter Tryz.func188,Tryz.ntmps188
 go_wp2_with fail
 refine (G1.out).mono ?_;rintro e _ ⟨rfl,rfl⟩;go_wp2_with fail
 refine (G2.out).mono ?_;rintro e _ ⟨rfl,rfl⟩;have bv:=alloc_one (w.alloc (.cells #[.int .i64 0,.int .i64 0,.slice none 0 0] 34)) (.cells #[.int .i64 (z1:Int),.int .i64 (xb.toNat:Int),.slice none 0 0] 34);have KV:=Blk.new (w.alloc (.cells #[.int .i64 0,.int .i64 0,.slice none 0 0] 34)) 34 #[.int .i64 (z1:Int),.int .i64 (xb.toNat:Int),.slice none 0 0];rw [World.size_alloc] at KV;have CV:=KV.three;have K1':=K1.later bv;have b2:=below_step b1 bv (Nat.le_refl _);go_wp2_with fail
 refine (TH.out _ _ _ _).mono ?_;rintro e w3 ⟨rfl,b3⟩;have K3:=K1'.later b3;have b13:=below_step b2 b3 (Nat.le_refl _);have KV3:=KV.later b3;have CV3:=KV3.three;clear CV C1;go_wp2_with fail
 have KV4:=KV3.set_ 2 (.slice A3 z2 c3);have K4:=K3.far (p:=⟨w.heap.size + 1,2,none⟩) (by show w.heap.size≠w.heap.size + 1; exact (Nat.succ_ne_self _).symm) (.slice A3 z2 c3);have b14:=b13.setCell (p:=⟨w.heap.size + 1,2,none⟩) (Nat.le_succ _) (.slice A3 z2 c3);generalize hw4:w3.setCell ⟨w.heap.size + 1,2,none⟩ (.slice A3 z2 c3)=w4 at *;have hKV:Blk w4 (w.heap.size + 1) 34 #[.int .i64 (z1:Int),.int .i64 (xb.toNat:Int),.slice A3 z2 c3]:=KV4;clear hw4 KV4 KV3 K3 CV3 b13 K1' K1 KV b2 bv;have HEL:=Lib.hid (HE.out w4.drew (b14.drew));have RT4:=Lib.hid (RT.out);clear HE RT TH G1 G2;refine region_mv 99 (fun q=>q=w.heap.size) (by kernel_rfl) ?_;have v0:=cell_mv (G:=fun q=>q=w.heap.size) (hKV.cell 0) (fun h=>Nat.succ_ne_self _ h);have v1:=cell_mv (G:=fun q=>q=w.heap.size) (hKV.cell 1) (fun h=>Nat.succ_ne_self _ h);have v2:=cell_mv (G:=fun q=>q=w.heap.size) (hKV.cell 2) (fun h=>Nat.succ_ne_self _ h);refine phase_mv (by kernel_rfl) 4 (Mv.refl _ _).drew [0,2,3,4] rfl (by kernel_rfl) ?_;simp only [picks,nth]
 repeat (go_big_quiet_step (fail))
 refine wpQuiet_nil ?_;refine phase_opL 1 3 rfl (by kernel_rfl) (by decide) ?_;simp only [nth];go_wp2_with fail
 refine (HEL.out).mono ?_;rintro e w5 ⟨A5,rfl,o5,b5⟩;have d5:Below w4.heap.size w4 w5:=(below_drew w4).trans b5;have o5':OB w5 w4.heap.size A5 z2 z2 (x3.take z2):=o5;go_wp2_with fail
 refine behind_mv (Mv.of_new d5 _) ?_;refine phase_opL 5 2 rfl (by kernel_rfl) (by decide) ?_;simp only [nth];have K5:=K4.later d5;have C5:=K5.three;have K6:=K5.store3 (.int .i64 (z1:Int)) (.int .i64 (xb.toNat:Int)) (.slice A5 z2 z2);have M6:=Mv.set3 w5 w.heap.size 0 1 2 (.int .i64 (z1:Int)) (.int .i64 (xb.toNat:Int)) (.slice A5 z2 z2);have b6:=below_set3 (below_step b14 d5 (Nat.le_refl _)) (g:=w.heap.size) (Nat.le_refl _) 0 1 2 (.int .i64 (z1:Int)) (.int .i64 (xb.toNat:Int)) (.slice A5 z2 z2);have o6:=OB.far3 o5' (g:=w.heap.size) K4.lt 0 1 2 (.int .i64 (z1:Int)) (.int .i64 (xb.toNat:Int)) (.slice A5 z2 z2);go_wp2_with fail
 generalize hw6:(((w5.setCell ⟨w.heap.size,0,none⟩ (.int .i64 (z1:Int))).setCell ⟨w.heap.size,1,none⟩ (.int .i64 (xb.toNat:Int))).setCell ⟨w.heap.size,2,none⟩ (.slice A5 z2 z2))=w6 at *;have M46:Mv (fun q=>q=w.heap.size) w4 w6:=(Mv.of_new d5 _).trans M6 fun _ _ e=>e
 refine behind_mv M46 ?_;refine phase_mv (by kernel_rfl) 0 M46 [6,7] rfl (by kernel_rfl) ?_;simp only [picks,nth]
 repeat (go_big_quiet_step (fail))
 refine wpQuiet_nil ?_;refine phase_endL (by kernel_rfl) ?_;obtain ⟨s0,s1,s2,_⟩:=K6.three;have RTT:=RT4.out w6 b6;clear hw6;go_wp2_with fail
 refine bodyPost_ret (v:=.tuple #[vlV (z1:Int) (xb.toNat:Int) A5 z2 z2,.slice A7 n7 c7,.int .i64 0]) (by simp [results,Tryz.results188,go_sem,s0,s1,s2,vlV]) rfl ⟨b6,?_⟩;rw [H.out];dsimp only;rw [HTK.out,HDR.out];exact ⟨A5,_,_,rfl,o6.more (Nat.le_of_lt K4.lt),RTT⟩
end Go.Proofs.YtijegngfclkdaaaGreatDoor
namespace Go.Proofs.YtijegngfclkdaaaGreatDoor
open Go.RowKit
theorem flags_any (e:Ent.En) (A:Option Addr) (n c:Nat) (w:World):Calls Tryz.prog 121 #[enV e A n c] w fun x w'=>x=.returned (.bool (Ent.flagsB e))∧Below w.heap.size w w':=by
 obtain ⟨ix,sb,nm,ty,ac,mp,st,mx,lo,hi,df⟩:=e;unfold enV;dsimp only
 by_cases h1:ac=1
 ·subst h1
  cases mp <;> cases st
  all_goals
   go_enter Tryz.func121,Tryz.ntmps121
   go_wp2_with fail
   go_ret
   exact ⟨rfl,alloc_one _ _⟩
 by_cases h2:ac=2
 ·subst h2
  cases st
  all_goals
   go_enter Tryz.func121,Tryz.ntmps121
   go_wp2_with fail
   go_ret
   exact ⟨rfl,alloc_one _ _⟩
 by_cases h3:ac=3
 ·subst h3
  go_enter Tryz.func121,Tryz.ntmps121
  go_wp2_with fail
  go_ret
  exact ⟨rfl,alloc_one _ _⟩
 by_cases h4:ac=4
 ·subst h4
  go_enter Tryz.func121,Tryz.ntmps121
  go_wp2_with fail
  go_ret
  exact ⟨rfl,alloc_one _ _⟩
 have e1:(ac == 1)=false:=beq_false_of_ne h1;have e2:(ac == 2)=false:=beq_false_of_ne h2;have e3:(ac == 3)=false:=beq_false_of_ne h3;have e4:(ac == 4)=false:=beq_false_of_ne h4;have hv:Ent.flagsB ⟨ix,sb,nm,ty,ac,mp,st,mx,lo,hi,df⟩=false:=by unfold Ent.flagsB; rw [if_neg h1,if_neg h2]; simp [h3,h4]
 rw [hv];clear hv h1 h2 h3 h4;go_enter Tryz.func121,Tryz.ntmps121
 go_wp2_with fail
 go_ret
 exact ⟨rfl,alloc_one _ _⟩
theorem numbered_any (e:Ent.En) (A:Option Addr) (n c:Nat) (l h:Int) (w:World):Calls Tryz.prog 122 #[enV e A n c,.int .i64 l,.int .i64 h] w fun x w'=>x=.returned (.bool (Ent.numberedB e l h))∧Below w.heap.size w w':=by
 obtain ⟨ix,sb,nm,ty,ac,mp,st,mx,lo,hi,df⟩:=e;unfold enV;dsimp only
 by_cases h1:mx=0
 ·by_cases h2:l≤lo
  ·by_cases h3:lo≤hi
   ·by_cases h4:hi≤h
    all_goals
     go_enter Tryz.func122,Tryz.ntmps122
     go_wp2_with fail
     go_ret
     exact ⟨ret_bool (by rw [Bool.eq_iff_iff]; simp [Ent.numberedB] <;> omega),alloc_one _ _⟩
   ·go_enter Tryz.func122,Tryz.ntmps122
    go_wp2_with fail
    go_ret
    exact ⟨ret_bool (by rw [Bool.eq_iff_iff]; simp [Ent.numberedB] <;> omega),alloc_one _ _⟩
  ·go_enter Tryz.func122,Tryz.ntmps122
   go_wp2_with fail
   go_ret
   exact ⟨ret_bool (by rw [Bool.eq_iff_iff]; simp [Ent.numberedB] <;> omega),alloc_one _ _⟩
 ·have e1:(mx == 0)=false:=beq_false_of_ne h1
  go_enter Tryz.func122,Tryz.ntmps122
  go_wp2_with fail
  go_ret
  exact ⟨ret_bool (by rw [Bool.eq_iff_iff]; simp [Ent.numberedB] <;> omega),alloc_one _ _⟩
theorem sized_any (e:Ent.En) (A:Option Addr) (n c:Nat) (w:World):Calls Tryz.prog 123 #[enV e A n c] w fun x w'=>x=.returned (.bool (Ent.sizedB e))∧Below w.heap.size w w':=by
 obtain ⟨ix,sb,nm,ty,ac,mp,st,mx,lo,hi,df⟩:=e;unfold enV;dsimp only
 by_cases h1:lo=0
 ·by_cases h2:hi=0
  ·subst h1 h2
   by_cases h3:1≤mx
   ·by_cases h4:mx≤256
    ·cases mp
     all_goals
      go_enter Tryz.func123,Tryz.ntmps123
      go_wp2_with fail
      go_ret
      exact ⟨ret_bool (by rw [Bool.eq_iff_iff]; simp [Ent.sizedB] <;> omega),alloc_one _ _⟩
    ·go_enter Tryz.func123,Tryz.ntmps123
     go_wp2_with fail
     go_ret
     exact ⟨ret_bool (by rw [Bool.eq_iff_iff]; simp [Ent.sizedB] <;> omega),alloc_one _ _⟩
   ·go_enter Tryz.func123,Tryz.ntmps123
    go_wp2_with fail
    go_ret
    exact ⟨ret_bool (by rw [Bool.eq_iff_iff]; simp [Ent.sizedB] <;> omega),alloc_one _ _⟩
  ·have e1:(hi == 0)=false:=beq_false_of_ne h2
   subst h1;go_enter Tryz.func123,Tryz.ntmps123
   go_wp2_with fail
   go_ret
   exact ⟨ret_bool (by rw [Bool.eq_iff_iff]; simp [Ent.sizedB] <;> omega),alloc_one _ _⟩
 ·have e1:(lo == 0)=false:=beq_false_of_ne h1
  go_enter Tryz.func123,Tryz.ntmps123
  go_wp2_with fail
  go_ret
  exact ⟨ret_bool (by rw [Bool.eq_iff_iff]; simp [Ent.sizedB] <;> omega),alloc_one _ _⟩
theorem Writable_any (e:Ent.En) (A:Option Addr) (n c:Nat) (w:World):Calls Tryz.prog 178 #[enV e A n c] w fun x w'=>x=.returned (.int .u32 (Ent.writS e))∧Below w.heap.size w w':=by
 obtain ⟨ix,sb,nm,ty,ac,mp,st,mx,lo,hi,df⟩:=e;unfold enV;dsimp only
 by_cases h1:ac=1
 ·subst h1
  go_enter Tryz.func178,Tryz.ntmps178
  go_wp2_with fail
  go_ret
  exact ⟨rfl,alloc_one _ _⟩
 by_cases h2:ac=2
 ·subst h2
  go_enter Tryz.func178,Tryz.ntmps178
  go_wp2_with fail
  go_ret
  exact ⟨rfl,alloc_one _ _⟩
 have e1:(ac == 1)=false:=beq_false_of_ne h1;have e2:(ac == 2)=false:=beq_false_of_ne h2;have hv:Ent.writS ⟨ix,sb,nm,ty,ac,mp,st,mx,lo,hi,df⟩=0:=if_neg (fun h=>h.elim h1 h2);rw [hv];clear hv h1 h2;go_enter Tryz.func178,Tryz.ntmps178
 go_wp2_with fail
 go_ret
 exact ⟨rfl,alloc_one _ _⟩
end Go.Proofs.YtijegngfclkdaaaGreatDoor
namespace Go.Proofs.YtijegngfclkdaaaGreatDoor
open Go.RowKit
def kc (t:Int):Array Value:=#[.string (T (Ty.kd t).name),.int .i64 ((Ty.kd t).size:Int),.int .i64 ((Ty.kd t).bits:Int),.bool (Ty.kd t).sgn]
def kcells:Array Value:=((List.range 32).flatMap fun (t:Nat)=>(kc (t:Int)).toList).toArray
theorem run_kind:∀ (k:Nat) (_:k < 32) (w:World),(Instr.index 256 (.agg kcells) (.int .i64 (k:Int))).run Tryz.prog w=.ok (.agg (kc (k:Int))) w
 | 0,_=>fun _=>by kernel_rfl
 | 1,_=>fun _=>by kernel_rfl
 | 2,_=>fun _=>by kernel_rfl
 | 3,_=>fun _=>by kernel_rfl
 | 4,_=>fun _=>by kernel_rfl
 | 5,_=>fun _=>by kernel_rfl
 | 6,_=>fun _=>by kernel_rfl
 | 7,_=>fun _=>by kernel_rfl
 | 8,_=>fun _=>by kernel_rfl
 | 9,_=>fun _=>by kernel_rfl
 | 10,_=>fun _=>by kernel_rfl
 | 11,_=>fun _=>by kernel_rfl
 | 12,_=>fun _=>by kernel_rfl
 | 13,_=>fun _=>by kernel_rfl
 | 14,_=>fun _=>by kernel_rfl
 | 15,_=>fun _=>by kernel_rfl
 | 16,_=>fun _=>by kernel_rfl
 | 17,_=>fun _=>by kernel_rfl
 | 18,_=>fun _=>by kernel_rfl
 | 19,_=>fun _=>by kernel_rfl
 | 20,_=>fun _=>by kernel_rfl
 | 21,_=>fun _=>by kernel_rfl
 | 22,_=>fun _=>by kernel_rfl
 | 23,_=>fun _=>by kernel_rfl
 | 24,_=>fun _=>by kernel_rfl
 | 25,_=>fun _=>by kernel_rfl
 | 26,_=>fun _=>by kernel_rfl
 | 27,_=>fun _=>by kernel_rfl
 | 28,_=>fun _=>by kernel_rfl
 | 29,_=>fun _=>by kernel_rfl
 | 30,_=>fun _=>by kernel_rfl
 | 31,_=>fun _=>by kernel_rfl
 | k + 32,h=>absurd h (by omega)
theorem below_setRow {B:Nat} {a w:World} (h:Below B a w) {g:Nat} (hg:B≤g) (cs:Array Value):Below B a (w.setRow g cs) :=
 ⟨h.os,h.tape,h.output,by rw [size_setRow]; exact h.size,fun b hb=>(setRow_other w g b cs (by omega)).trans (h.block b hb)⟩
theorem kinds_any (w:World):Calls Tryz.prog 179 #[] w fun e w'=>e=.returned (.agg kcells)∧Below w.heap.size w w':=by
 go_enter Tryz.func179,Tryz.ntmps179
 go_wp2_with (refine wpList_store_row rfl 256 (.tmp 0) (.tmp 12) rfl w.heap.size kcells (by kernel_rfl) (by kernel_rfl) 256 _ (heap_alloc_new w _) (by kernel_rfl) (by kernel_rfl) (by kernel_rfl) ?_)
 exact bodyPost_ret (v:=.agg kcells) (results_cell_row Tryz.results179 _ _ w.heap.size 256 kcells (0,0) _ (by kernel_rfl) (setRow_heap _ _ _ _ _ _ (heap_alloc_new w _)) Tryz.underlying256 rfl (by kernel_rfl)) rfl ⟨rfl,below_setRow (alloc_one w _) (Nat.le_refl _) _⟩
end Go.Proofs.YtijegngfclkdaaaGreatDoor
namespace Go.Proofs.YtijegngfclkdaaaGreatDoor
open Go.RowKit
theorem of_any (t:Int) (w:World):Calls Tryz.prog 125 #[.int .i64 t] w fun e w'=>e=.returned (.agg #[.string (T (Ty.kd t).name),.int .i64 ((Ty.kd t).size:Int),.int .i64 ((Ty.kd t).bits:Int),.bool (Ty.kd t).sgn])∧Below w.heap.size w w':=by
 by_cases h:0≤t∧t < 32
 ·obtain ⟨h1,h2⟩:=h
  obtain ⟨k,rfl⟩:∃ k:Nat,t=(k:Int):=⟨t.toNat,by omega⟩;have hr:=run_kind k (by omega);unfold kc at hr;generalize (Ty.kd (k:Int)).name=nm at *;generalize (Ty.kd (k:Int)).size=sz at *;generalize (Ty.kd (k:Int)).bits=bt at *;generalize (Ty.kd (k:Int)).sgn=sg at *;generalize hkc:kcells=K at *;have C:=Lib.hid (fun w=>kinds_any w);rw [hkc] at C;clear hkc;go_enter Tryz.func125,Tryz.ntmps125
  go_wp2_with fail
  refine (C.out _).mono ?_;rintro e w1 ⟨rfl,b1⟩;have KB:=Blk.made b1;have F:=KB.four;have hlt:=KB.lt;go_wp2_with fail
  have K4:=KB.store4 (.string (T nm)) (.int .i64 (sz:Int)) (.int .i64 (bt:Int)) (.bool sg);have F4:=K4.four.1;exact bodyPost_ret (v:=.agg #[.string (T nm),.int .i64 (sz:Int),.int .i64 (bt:Int),.bool sg]) (by simp [results,Tryz.results125,go_sem,F4]) rfl ⟨rfl,((((below_step (alloc_one _ _) b1 (Nat.le_refl _)).setCell (p:=⟨w.heap.size,0,none⟩) (Nat.le_refl _) _).setCell (p:=⟨w.heap.size,1,none⟩) (Nat.le_refl _) _).setCell (p:=⟨w.heap.size,2,none⟩) (Nat.le_refl _) _).setCell (p:=⟨w.heap.size,3,none⟩) (Nat.le_refl _) _⟩
 ·have e:Ty.kd t=Ty.kd0:=Ty.kd_none (by
   intro hm;unfold Ty.nums at hm;simp only [List.mem_cons,List.not_mem_nil,or_false] at hm;omega)
  rw [e];rcases (show t < 0∨(0≤t∧32≤t) by omega) with h | ⟨h1,h2⟩
  all_goals
   clear e;go_enter Tryz.func125,Tryz.ntmps125
   go_wp2_with fail
   exact bodyPost_ret (v:=.agg #[.string (T []),.int .i64 0,.int .i64 0,.bool false]) (by simp [results,Tryz.results125,go_sem]; rfl) rfl ⟨rfl,alloc_one _ _⟩
theorem TBits_any (t:Int) (w:World):Calls Tryz.prog 88 #[.int .i64 t] w fun e w'=>e=.returned (.int .i64 ((Ty.kd t).bits:Int))∧Below w.heap.size w w':=by
 have C:=Lib.hid (of_any t w);generalize (Ty.kd t).name=nm at *;generalize (Ty.kd t).size=sz at *;generalize (Ty.kd t).bits=bt at *;generalize (Ty.kd t).sgn=sg at *;have hfd:∀ w:World,(Instr.field 199 (.agg #[.string (T nm),.int .i64 (sz:Int),.int .i64 (bt:Int),.bool sg]) 2).run Tryz.prog w=.ok (.int .i64 (bt:Int)) w:=fun _=>by kernel_rfl
 go_enter Tryz.func88,Tryz.ntmps88
 go_wp2_with fail
 refine (C.out).mono ?_;rintro e w1 ⟨rfl,b1⟩;go_wp2_with fail
 go_ret
 exact ⟨rfl,b1⟩
theorem kd_named (t:Int):(Ty.kd t).name≠[]∨Ty.kd t=Ty.kd0:=by
 rcases Ty.kd_cases t with h | ⟨_,h⟩
 ·left
  rcases h with rfl | rfl | rfl | rfl | rfl | rfl | rfl | rfl | rfl | rfl | rfl <;> decide
 ·exact .inr h
def knownB (t:Int):Bool:=!(Ty.kd t).name.isEmpty
theorem TKnown_any (t:Int) (w:World):Calls Tryz.prog 120 #[.int .i64 t] w fun e w'=>e=.returned (.bool (knownB t))∧Below w.heap.size w w':=by
 have C:=Lib.hid (of_any t w);unfold knownB;rcases kd_named t with h | h
 ·generalize (Ty.kd t).name=nm at *
  generalize (Ty.kd t).size=sz at *;generalize (Ty.kd t).bits=bt at *;generalize (Ty.kd t).sgn=sg at *;have h1:nm.isEmpty=false:=by simpa using h
  rw [h1];have h2:=T_toList nm;have h3:T nm≠T []:=T_ne h;clear h;go_enter Tryz.func120,Tryz.ntmps120
  go_wp2_with fail
  refine (C.out).mono ?_;rintro e w1 ⟨rfl,b1⟩;go_wp2_with fail
  go_ret
  exact ⟨rfl,b1⟩
 ·rw [h] at C ⊢
  unfold Ty.kd0 at C ⊢;dsimp only at C ⊢;rw [show T []=(⟨#[]⟩:ByteArray) from rfl] at C;go_enter Tryz.func120,Tryz.ntmps120
  go_wp2_with fail
  refine (C.out).mono ?_;rintro e w1 ⟨rfl,b1⟩;go_wp2_with fail
  go_ret
  exact ⟨rfl,b1⟩
end Go.Proofs.YtijegngfclkdaaaGreatDoor
namespace Go.Proofs.YtijegngfclkdaaaGreatDoor
open Go.RowKit
def LimPost (p:Int×Int×Bool) (w:World) (e:Ending) (w':World):Prop:=e=.returned (.tuple #[.int .i64 p.1,.int .i64 p.2.1,.bool p.2.2])∧Below w.heap.size w w'
theorem lim_mk {p:Int×Int×Bool} {w w':World} {a b:Int} {x:Bool} (h:p=(a,b,x)) (hb:Below w.heap.size w w'):LimPost p w (.returned (.tuple #[.int .i64 a,.int .i64 b,.bool x])) w':=by
 subst h; exact ⟨rfl,hb⟩
theorem Limits_any (t:Int) (w:World):Calls Tryz.prog 118 #[.int .i64 t] w (LimPost (Ty.limS t) w):=by
 have C:=of_any t w;have hl:Ty.limS t=if (Ty.kd t).bits=0 then (0,0,false) else if (Ty.kd t).sgn=true then (-((2 ^ ((Ty.kd t).bits - 1):Nat):Int),((2 ^ ((Ty.kd t).bits - 1):Nat):Int) - 1,true) else (0,((2 ^ (Ty.kd t).bits:Nat):Int) - 1,true):=rfl
 have hc:(Ty.kd t).bits=0∨((Ty.kd t).sgn=true∧((Ty.kd t).bits=8∨(Ty.kd t).bits=16∨(Ty.kd t).bits=32∨(Ty.kd t).bits=64))∨((Ty.kd t).sgn=false∧((Ty.kd t).bits=1∨(Ty.kd t).bits=8∨(Ty.kd t).bits=16∨(Ty.kd t).bits=32)):=by
  rcases Ty.kd_cases t with h | ⟨_,h⟩
  ·rcases h with rfl | rfl | rfl | rfl | rfl | rfl | rfl | rfl | rfl | rfl | rfl <;> decide
  ·rw [h]; exact .inl rfl
 generalize (Ty.kd t).name=nm at *;generalize (Ty.kd t).size=sz at *;generalize (Ty.kd t).bits=bt at *;generalize (Ty.kd t).sgn=sg at *;rcases hc with rfl | ⟨rfl,rfl | rfl | rfl | rfl⟩ | ⟨rfl,rfl | rfl | rfl | rfl⟩
 all_goals
  have HL:=Lib.hid hl;clear hl;replace C:=Lib.hid C;go_enter Tryz.func118,Tryz.ntmps118
  go_wp2_with fail
  refine (C.out).mono ?_;rintro e w1 ⟨rfl,b1⟩;go_wp2_with fail
 all_goals first
  | (go_ret3; exact lim_mk (by rw [HL.out]; rfl) (b1.alloc b1.size _))
  | (go_quiet (fail); go_wp2_with fail; go_ret3; exact lim_mk (by rw [HL.out]; rfl) (below_drewN (b1.alloc b1.size _) _))
end Go.Proofs.YtijegngfclkdaaaGreatDoor
namespace Go.Proofs.YtijegngfclkdaaaGreatDoor
open Go.RowKit
theorem extend_any (n b:Nat) {x:Int} (hx:x=(b:Int)) (w:World) (hn:n < 18446744073709551616) (h1:1≤b) (h2:b≤64) :
  Calls Tryz.prog 180 #[.int .u64 (n:Int),.int .i64 x] w fun e w'=>e=.returned (.int .i64 (Oct.sgn n b))∧w=w':=by
 subst hx;go_enter Tryz.func180,Tryz.ntmps180
 go_wp2
 go_ret
 exact ⟨ret_int (by unfold wrap64; rw [IntKind.wrap_u64]; exact Oct.extend_val n b h1 h2),rfl⟩
theorem Get_any {A:Option Addr} {n c B:Nat} {l:List UInt8} (p x:Int) (w:World) (hb:RB w B A n c l) :
  Calls Tryz.prog 127 #[.slice A n c,.int .i64 p,.int .i64 x] w fun e w'=>e=.returned (.tuple #[.int .u64 ((Oct.getS l p x).1:Int),.int .i64 (Oct.getS l p x).2])∧w=w':=by
 have hl:=hb.len;have hn:=hb.lt;unfold Oct.getS
 by_cases h:1≤x∧x≤8∧0≤p∧p≤(l.length:Int)
 ·rw [if_pos h]
  obtain ⟨h1,h2,h3,h4⟩:=h
  by_cases hs:(l.length:Int) - p < x
  ·rw [if_pos hs]
   exact Get_short x p w h1 h2 h3 (by omega) hn (by omega)
  ·rw [if_neg hs]
   obtain ⟨k,rfl⟩:=Int.eq_ofNat_of_zero_le (show 0≤x by omega);obtain ⟨q,rfl⟩:=Int.eq_ofNat_of_zero_le h3;exact Get_ok k q w hb (by omega) (by omega) (by omega)
 ·rw [if_neg h]
  exact Get_arg x p w (by rw [← hl]; omega)
theorem getS_lt (l:List UInt8) (p x:Int):(Oct.getS l p x).1 < 18446744073709551616:=by
 unfold Oct.getS;split
 ·rename_i h
  split
  ·decide
  ·have h1:=Oct.le_lt (Oct.cut l p.toNat x.toNat)
   rw [Oct.cut_length _ _ _ (by omega)] at h1;exact Nat.lt_of_lt_of_le h1 (Nat.le_trans (Nat.pow_le_pow_right (by decide) (show x.toNat≤8 by omega)) (by decide))
 ·decide
theorem getS_ok {l:List UInt8} {p x:Int} (h:(Oct.getS l p x).2=0):1≤x∧x≤8:=by
 unfold Oct.getS at h;split at h
 ·rename_i h1; exact ⟨h1.1,h1.2.1⟩
 ·simp at h
theorem GetInt_any {A:Option Addr} {n c B:Nat} {l:List UInt8} (p x:Int) (w:World) (hb:RB w B A n c l) :
  Calls Tryz.prog 126 #[.slice A n c,.int .i64 p,.int .i64 x] w fun e w'=>e=.returned (.tuple #[.int .i64 (Oct.getIntS l p x).1,.int .i64 (Oct.getIntS l p x).2])∧w=w':=by
 have hlt:=getS_lt l p x;have hok:=getS_ok (l:=l) (p:=p) (x:=x);have hg:=Get_any p x w hb;unfold Oct.getIntS;generalize Oct.getS l p x=y at *;obtain ⟨y,ye⟩:=y;dsimp only at *;have HG:=Lib.hid hg; clear hg
 by_cases he:ye=0
 ·rw [if_pos he]
  obtain ⟨h1,h2⟩:=hok he;clear hok;subst he;go_enter Tryz.func126,Tryz.ntmps126
  go_wp2_with fail
  refine HG.out.mono ?_;rintro e w1 ⟨rfl,rfl⟩;go_wp2_with fail
  refine (extend_any y (8 * x.toNat) (by omega) _ hlt (by omega) (by omega)).mono ?_;rintro e w1 ⟨rfl,rfl⟩;go_wp2_with fail
  go_ret2
  exact ⟨rfl,rfl⟩
 ·rw [if_neg he]
  clear hok;have ht:(ye != 0)=true:=by rw [bne_iff_ne]; exact he
  clear he;go_enter Tryz.func126,Tryz.ntmps126
  go_wp2_with fail
  refine HG.out.mono ?_;rintro e w1 ⟨rfl,rfl⟩;go_wp2_with fail
  go_ret2
  exact ⟨rfl,rfl⟩
end Go.Proofs.YtijegngfclkdaaaGreatDoor
namespace Go.Proofs.YtijegngfclkdaaaGreatDoor
open Go.RowKit
theorem kd_num (t:Int):((Ty.kd t).bits=0∧(Ty.kd t).size=0∧(Ty.kd t).sgn=false)∨((Ty.kd t).sgn=true∧(Ty.kd t).bits=8 * (Ty.kd t).size∧1≤(Ty.kd t).size∧(Ty.kd t).size≤8)∨((Ty.kd t).sgn=false∧1≤(Ty.kd t).bits∧(Ty.kd t).bits≤8 * (Ty.kd t).size∧1≤(Ty.kd t).size∧(Ty.kd t).size≤4∧((Ty.kd t).bits=8 * (Ty.kd t).size∨((Ty.kd t).bits=1∧t=1))):=by
 rcases Ty.kd_cases t with h | ⟨_,h⟩
 ·rcases h with rfl | rfl | rfl | rfl | rfl | rfl | rfl | rfl | rfl | rfl | rfl <;> decide
 ·rw [h]; exact .inl ⟨rfl,rfl,rfl⟩
theorem pow_256 (k:Nat):256 ^ k=2 ^ (8 * k):=by rw [Nat.pow_mul]
end Go.Proofs.YtijegngfclkdaaaGreatDoor
