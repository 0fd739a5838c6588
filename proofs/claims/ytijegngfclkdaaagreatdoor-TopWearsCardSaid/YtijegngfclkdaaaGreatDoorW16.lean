/-
  Pieces of the proof: part 16 of 54.
  Conditions: none.
-/
import Derived.Test.YtijegngfclkdaaaGreatDoorW13
import Derived.Test.YtijegngfclkdaaaGreatDoorW15
set_option linter.unusedVariables false
set_option linter.unusedSimpArgs false
set_option maxHeartbeats 100000000
set_option maxRecDepth 100000
namespace Go.Proofs.YtijegngfclkdaaaGreatDoor
open Go.RowKit
theorem recFits_any (k m n:Nat) (v:Value) (w:World):Calls Tryz.prog 316 #[.agg #[.int .i64 (k:Int),.int .u32 (m:Int),v],.int .i64 (n:Int)] w fun e w'=>e=.returned (.bool (Jr.fitsS k m n))∧Below w.heap.size w w':=by
 have K0:=Blk.new w 217 #[.int .i64 (k:Int),.int .u32 (m:Int),v];have b0:=alloc_one w (.cells #[.int .i64 (k:Int),.int .u32 (m:Int),v] 217);have KK:=K0.three;unfold Jr.fitsS;have e3:decide ((m:Int) > 0)=decide (0 < m):=by simp
 have e4:((n:Int) == 0)=decide (n=0):=by rw [Bool.eq_iff_iff]; simp
 have e5:decide ((n:Int)≤960)=decide (n≤960):=by rw [Bool.eq_iff_iff]; simp; omega
 by_cases h2:k=2
 ·have e1:((k:Int) == 2)=true:=by simp [h2]
  rw [if_pos h2];clear h2 K0
  by_cases hm:0 < m
  ·have e6:decide (0 < (m:Int))=true:=decide_eq_true (by omega)
   by_cases hn:n=0
   ·have e7:((n:Int) == 0)=true:=by simp [hn]
    go_enter Tryz.func316,Tryz.ntmps316
    go_wp2_with fail
    go_ret
    exact ⟨ret_bool (by simp [hm,hn]),b0⟩
   ·have e7:((n:Int) == 0)=false:=by simp [hn]
    go_enter Tryz.func316,Tryz.ntmps316
    go_wp2_with fail
    go_ret
    exact ⟨ret_bool (by simp [hn]),b0⟩
  ·have e6:decide (0 < (m:Int))=false:=decide_eq_false (by omega)
   go_enter Tryz.func316,Tryz.ntmps316
   go_wp2_with fail
   go_ret
   exact ⟨ret_bool (by simp [hm]),b0⟩
 have e1:((k:Int) == 2)=false:=by simp; omega
 rw [if_neg h2]
 by_cases h1:k=1
 ·have e2:((k:Int) == 1)=true:=by simp [h1]
  rw [if_pos h1];clear h2 h1 K0
  by_cases hm:0 < m
  ·have e6:decide (0 < (m:Int))=true:=decide_eq_true (by omega)
   by_cases hn:n≤960
   ·have e7:decide ((n:Int)≤960)=true:=decide_eq_true (by omega)
    go_enter Tryz.func316,Tryz.ntmps316
    go_wp2_with fail
    go_ret
    exact ⟨ret_bool (by simp [hm,hn]),b0⟩
   ·have e7:decide ((n:Int)≤960)=false:=decide_eq_false (by omega)
    go_enter Tryz.func316,Tryz.ntmps316
    go_wp2_with fail
    go_ret
    exact ⟨ret_bool (by simp [hn]),b0⟩
  ·have e6:decide (0 < (m:Int))=false:=decide_eq_false (by omega)
   go_enter Tryz.func316,Tryz.ntmps316
   go_wp2_with fail
   go_ret
   exact ⟨ret_bool (by simp [hm]),b0⟩
 ·have e2:((k:Int) == 1)=false:=by simp; omega
  rw [if_neg h1];clear h2 h1 K0;go_enter Tryz.func316,Tryz.ntmps316
  go_wp2_with fail
  go_ret
  exact ⟨rfl,b0⟩
def recV (r:Jr.Rec) (A:Option Addr) (c:Nat):Value:=.agg #[.int .i64 (r.kind:Int),.int .u32 (r.num:Int),.slice A r.data.length c]
theorem recRight_any (r:Jr.Rec) (A:Option Addr) (c:Nat) (w:World):Calls Tryz.prog 399 #[recV r A c] w fun e w'=>e=.returned (.int .i64 (Jr.rightS r))∧Below w.heap.size w w':=by
 have K0:=Blk.new w 217 #[.int .i64 (r.kind:Int),.int .u32 (r.num:Int),.slice A r.data.length c];have b0:=alloc_one w (.cells #[.int .i64 (r.kind:Int),.int .u32 (r.num:Int),.slice A r.data.length c] 217);have KK:=K0.three;unfold recV Jr.rightS;generalize r.kind=k at *;generalize r.num=m at *;generalize r.data.length=n at *;clear K0
 by_cases hm:m=0
 ·have e1:((m:Int) == 0)=true:=by simp [hm]
  rw [if_pos hm];clear hm;go_enter Tryz.func399,Tryz.ntmps399
  go_wp2_with fail
  go_ret
  exact ⟨rfl,b0⟩
 have e1:((m:Int) == 0)=false:=by simp [hm]
 rw [if_neg hm];clear hm
 by_cases h2:k=2
 ·have e2:((k:Int) == 2)=true:=by simp [h2]
  have e3:((k:Int) != 1)=true:=by simp [h2]
  by_cases hn:n=0
  ·have e4:((n:Int) == 0)=true:=by simp [hn]
   rw [if_pos ⟨h2,hn⟩];clear hn h2;go_enter Tryz.func399,Tryz.ntmps399
   go_wp2_with fail
   go_ret
   exact ⟨rfl,b0⟩
  ·have e4:((n:Int) == 0)=false:=by simp [hn]
   rw [if_neg (fun h=>hn h.2),if_pos (by omega)];clear hn h2;go_enter Tryz.func399,Tryz.ntmps399
   go_wp2_with fail
   go_ret
   exact ⟨rfl,b0⟩
 have e2:((k:Int) == 2)=false:=by simp; omega
 rw [if_neg (fun h=>h2 h.1)];clear h2
 by_cases h1:k=1
 ·have e3:((k:Int) != 1)=false:=by simp [h1]
  rw [if_neg (by simp [h1])];clear h1
  by_cases hn:960 < n
  ·have e4:decide ((n:Int) > 960)=true:=decide_eq_true (by omega)
   have e5:decide (960 < n)=true:=decide_eq_true (by omega);rw [if_pos hn];clear hn;go_enter Tryz.func399,Tryz.ntmps399
   go_wp2_with fail
   go_ret
   exact ⟨rfl,b0⟩
  ·have e4:decide ((n:Int) > 960)=false:=decide_eq_false (by omega)
   have e5:decide (960 < n)=false:=decide_eq_false (by omega);rw [if_neg hn];clear hn;go_enter Tryz.func399,Tryz.ntmps399
   go_wp2_with fail
   go_ret
   exact ⟨rfl,b0⟩
 ·have e3:((k:Int) != 1)=true:=by simp; omega
  rw [if_pos h1];clear h1;go_enter Tryz.func399,Tryz.ntmps399
  go_wp2_with fail
  go_ret
  exact ⟨rfl,b0⟩
theorem recGet_any {A:Option Addr} {n c B:Nat} {l:List UInt8} {g1 g2:Nat} (k p:Nat) (w:World) (hb:RB w B A n c l) (h1:Blk w g1 25 #[.slice A n c]) (h2:Blk w g2 3 #[.int .i64 (p:Int)]) (hk1:1≤k) (hk8:k≤8) (hpk:p + k≤n) (hp:p≤100) :
  Calls Tryz.prog 356 #[.int .i64 (k:Int),.pointer (some ⟨g1,0,none⟩),.pointer (some ⟨g2,0,none⟩)] w fun e w'=>e=.returned (.int .u64 (Oct.le (Oct.cut l p k):Int))∧Mv (fun q=>q=g2) w w'∧Blk w' g2 3 #[.int .i64 ((p + k:Nat):Int)]:=by
 have c1:w.cell? ⟨g1,0,none⟩=some (.slice A n c):=h1.cell 0;have c2:w.cell? ⟨g2,0,none⟩=some (.int .i64 (p:Int)):=h2.cell 0;have f2:=h2.frozen 0;have G:=Lib.hid (Get_ok k p w hb hk1 hk8 hpk);have q1:IntKind.i64.wrap ((p:Int) + (k:Int))=(p:Int) + (k:Int):=IntWalk.i64_in _ (by omega);have q2:wrap64 ((p:Int) + (k:Int))=(p:Int) + (k:Int):=IntWalk.wrap64_in _ (by omega);have HH:=Lib.hid h2;clear hb h1 h2 hpk hp hk1 hk8;generalize Oct.le (Oct.cut l p k)=y at *;go_enter Tryz.func356,Tryz.ntmps356
 go_wp2_with fail
 refine (G.out).mono ?_;rintro e _ ⟨rfl,rfl⟩;go_wp2_with fail
 go_ret
 exact ⟨rfl,Mv.setCell _ ⟨g2,0,none⟩ _,by rw [show ((p + k:Nat):Int)=(p:Int) + (k:Int) by omega]; exact HH.out.set_ 0 _⟩
end Go.Proofs.YtijegngfclkdaaaGreatDoor
namespace Go.Proofs.YtijegngfclkdaaaGreatDoor
open Go.RowKit
theorem Mv.set3 (w:World) (g i j k:Nat) (a b c:Value):Mv (fun q=>q=g) w (((w.setCell ⟨g,i,none⟩ a).setCell ⟨g,j,none⟩ b).setCell ⟨g,k,none⟩ c) :=
 ((Mv.setCell w ⟨g,i,none⟩ a).trans (Mv.setCell _ ⟨g,j,none⟩ b) fun _ _ e=>e).trans (Mv.setCell _ ⟨g,k,none⟩ c) fun _ _ e=>e
theorem some_fp (F:Nat→Prop):∃ G:Nat→Prop,∀ q,G q↔F q:=⟨F,fun _=>Iff.rfl⟩
theorem recFront_any {A:Option Addr} {n c B:Nat} {l:List UInt8} (w:World) (hb:RB w B A n c l) (hB:B≤w.heap.size) (hn:13≤n) :
  Calls Tryz.prog 315 #[.slice A n c] w fun e w'=>e=.returned (.tuple #[.agg #[.int .i64 (Oct.le (Oct.cut l 1 1):Int),.int .u32 (Oct.le (Oct.cut l 2 4):Int),.slice none 0 0],.int .i64 (Oct.le (Oct.cut l 6 2):Int)])∧Below w.heap.size w w':=by
 have hl:=hb.len;have y1:=Oct.le_lt (Oct.cut l 1 1);have y2:=Oct.le_lt (Oct.cut l 2 4);have y3:=Oct.le_lt (Oct.cut l 6 2);rw [Oct.cut_length _ _ _ (by omega)] at y1 y2 y3;have W3:∃ w3,(((w.alloc (.cells #[.slice A n c] 25)).alloc (.cells #[.int .i64 0,.int .u32 0,.slice none 0 0] 217)).alloc (.cells #[.int .i64 1] 3))=w3:=⟨_,rfl⟩;obtain ⟨w3,hw3⟩:=W3;have K1:Blk w3 w.heap.size 25 #[.slice A n c]:=by rw [← hw3]; exact ((Blk.new _ _ _).alloc _).alloc _
 have KR:Blk w3 (w.heap.size + 1) 217 #[.int .i64 0,.int .u32 0,.slice none 0 0]:=by
  rw [← hw3]; have:=(Blk.new (w.alloc (.cells #[.slice A n c] 25)) 217 #[.int .i64 0,.int .u32 0,.slice none 0 0]).alloc (.cells #[.int .i64 1] 3); rwa [World.size_alloc] at this
 have K2:Blk w3 (w.heap.size + 1 + 1) 3 #[.int .i64 ((1:Nat):Int)]:=by
  rw [← hw3]; have:=Blk.new ((w.alloc (.cells #[.slice A n c] 25)).alloc (.cells #[.int .i64 0,.int .u32 0,.slice none 0 0] 217)) 3 #[.int .i64 1]; rwa [World.size_alloc,World.size_alloc] at this
 have b3:Below w.heap.size w w3:=by rw [← hw3]; exact (alloc_two _ _ _).alloc (by rw [World.size_alloc,World.size_alloc]; omega) _
 have hs3:w3.heap.size=w.heap.size + 1 + 1 + 1:=by rw [← hw3]; simp [World.size_alloc]
 have HW:=Lib.hid hw3;clear hw3;have hb3:=hb.below (b3.mono hB);have G1:=Lib.hid (recGet_any (g1:=w.heap.size) (g2:=w.heap.size + 1 + 1) 1 1 w3 hb3 K1 K2 (by decide) (by decide) (by omega) (by decide));have G2:=Lib.hid (fun (w4:World) (m4:Mv (fun q=>q=w.heap.size + 1 + 1) w3 w4) (k4:Blk w4 (w.heap.size + 1 + 1) 3 #[.int .i64 ((1 + 1:Nat):Int)])=>recGet_any (g1:=w.heap.size) 4 2 w4 (hb3.mv m4 (by omega) (by intro b h1 h2; omega)) (K1.mv m4 (by omega)) k4 (by decide) (by decide) (by omega) (by decide));have G3:=Lib.hid (fun (w4:World) (m4:Mv (fun q=>q=w.heap.size + 1 + 1) w3 w4) (k4:Blk w4 (w.heap.size + 1 + 1) 3 #[.int .i64 ((2 + 4:Nat):Int)])=>recGet_any (g1:=w.heap.size) 2 6 w4 (hb3.mv m4 (by omega) (by intro b h1 h2; omega)) (K1.mv m4 (by omega)) k4 (by decide) (by decide) (by omega) (by decide));generalize Oct.le (Oct.cut l 1 1)=z1 at *;generalize Oct.le (Oct.cut l 2 4)=z2 at *;generalize Oct.le (Oct.cut l 6 2)=z3 at *;have q1:IntKind.i64.wrap (z1:Int)=(z1:Int):=IntWalk.i64_in _ (by omega);have q2:IntKind.u32.wrap (z2:Int)=(z2:Int):=by rw [IntKind.wrap_u32]; omega
 have q3:IntKind.i64.wrap (z3:Int)=(z3:Int):=IntWalk.i64_in _ (by omega);have q4:wrap64 (z1:Int)=(z1:Int):=IntWalk.wrap64_in _ (by omega);have q5:wrap64 (z3:Int)=(z3:Int):=IntWalk.wrap64_in _ (by omega);have q6:(z2:Int) % 4294967296=(z2:Int):=by omega
 clear y1 y2 y3 hb hb3 hn hl K1;have B3:=Lib.hid b3;have S3:=Lib.hid hs3;clear b3 hs3;go_enter Tryz.func315,Tryz.ntmps315
 go_wp2_with fail
 rw [HW.out];refine (G1.out).mono ?_;rintro e w4 ⟨rfl,m4,k4⟩;go_wp2_with fail
 refine (G2.out w4 m4 k4).mono ?_;rintro e w5 ⟨rfl,m5,k5⟩;have m35:=m4.trans m5 fun _ _ e=>e
 have K6:=Blk.new w5 217 #[.int .i64 (z1:Int),.int .u32 (z2:Int),.slice none 0 0];go_wp2_with fail
 have b6:=alloc_one w5 (.cells #[.int .i64 (z1:Int),.int .u32 (z2:Int),.slice none 0 0] 217);generalize w5.alloc (.cells #[.int .i64 (z1:Int),.int .u32 (z2:Int),.slice none 0 0] 217)=w6 at *;have m36:=m35.trans (Mv.of_new b6 _) fun _ _ e=>e
 have KR6:=KR.mv m36 (by omega);have k6:=k5.later b6;have h56:=m35.size;rw [S3.out] at h56;obtain ⟨Gq,hG⟩:=some_fp (fun q=>q=w.heap.size + 1 + 1∨q=w.heap.size + 1);have hg6:¬ Gq w5.heap.size:=fun h=>by rcases (hG _).1 h with h | h <;> omega
 have hgA:Gq (w.heap.size + 1):=(hG _).2 (.inr rfl);have C6:=K6.three_mv hg6;have HGQ:=Lib.hid (fun q=>(hG q).2);have HGP:=Lib.hid (fun q=>(hG q).1);have GG:=Lib.hid (fun (w7:World) (m67:Mv Gq w6 w7) (k7:Blk w7 (w.heap.size + 1 + 1) 3 #[.int .i64 ((2 + 4:Nat):Int)]) (m37:Mv (fun q=>q=w.heap.size + 1 + 1) w3 w7)=>G3.out w7 m37 k7);clear hG h56 K6 KR k4 K2 G1 G2;refine region_mv 99 Gq (by kernel_rfl) ?_;refine phase_mv (by kernel_rfl) 4 (Mv.refl _ _).drew [0,1] rfl (by kernel_rfl) ?_;simp only [picks,nth]
 repeat (go_big_quiet_step (fail))
 refine wpQuiet_nil ?_;refine phase_opL 2 3 rfl (by kernel_rfl) (by decide) ?_;simp only [nth];go_wp2_with fail
 refine (G3.out w6.drew m36.drew k6.drew).mono ?_;rintro e w7 ⟨rfl,m7,k7⟩;have m67:Mv Gq w6 w7:=(Mv.refl Gq w6).drew.trans m7 fun q _ e=>HGQ.out q (.inl e)
 go_wp2_with fail
 refine behind_mv m67 ?_;refine phase_mv (by kernel_rfl) 2 m67 [3] rfl (by kernel_rfl) ?_;simp only [picks,nth]
 repeat (go_big_quiet_step (fail))
 refine wpQuiet_nil ?_;refine phase_opL 4 1 rfl (by kernel_rfl) (by decide) ?_;simp only [nth];have KR7:Blk w7 (w.heap.size + 1) 217 #[.int .i64 0,.int .u32 0,.slice none 0 0]:=KR6.drew.mv m7 (by omega);have c7:=KR7.three;have KR8:=KR7.store3 (.int .i64 (z1:Int)) (.int .u32 (z2:Int)) (.slice none 0 0);have M78:=Mv.set3 w7 (w.heap.size + 1) 0 1 2 (.int .i64 (z1:Int)) (.int .u32 (z2:Int)) (.slice none 0 0);generalize hw8:((w7.setCell ⟨w.heap.size + 1,0,none⟩ (.int .i64 (z1:Int))).setCell ⟨w.heap.size + 1,1,none⟩ (.int .u32 (z2:Int))).setCell ⟨w.heap.size + 1,2,none⟩ (.slice none 0 0)=w8 at *;have HW8:=Lib.hid hw8;clear hw8;have m68:Mv Gq w6 w8:=m67.trans M78 fun q _ e=>by rw [show q=w.heap.size + 1 from e]; exact hgA
 have c8:w8.cell? ⟨w.heap.size + 1,0,none⟩=some (.int .i64 (z1:Int))∧w8.cell? ⟨w.heap.size + 1,1,none⟩=some (.int .u32 (z2:Int))∧w8.cell? ⟨w.heap.size + 1,2,none⟩=some (.slice none 0 0):=⟨KR8.cell 0,KR8.cell 1,KR8.cell 2⟩;have r0:=c8.1;have r1:=c8.2.1;have r2:=c8.2.2;have bb:Below w.heap.size w w8:=B3.out.trans ((((m36.mono (G:=fun q=>q=w.heap.size + 1 + 1∨Gq q) fun q _ e=>.inl e).trans m68 fun q _ e=>.inr e)).below (by have:=S3.out; omega) (by rintro q (e | e); omega; rcases HGP.out q e with h | h <;> omega));clear KR8 KR7;go_wp2_with fail
 rw [HW8.out];refine behind_mv m68 ?_;refine phase_mv (by kernel_rfl) 0 m68 [5] rfl (by kernel_rfl) ?_;simp only [picks,nth]
 repeat (go_big_quiet_step (fail))
 refine wpQuiet_nil ?_;refine phase_endL (by kernel_rfl) ?_;go_wp2_with fail
 exact bodyPost_ret (v:=.tuple #[.agg #[.int .i64 (z1:Int),.int .u32 (z2:Int),.slice none 0 0],.int .i64 (z3:Int)]) (by simp [results,Tryz.results315,go_sem,r0,r1,r2]) rfl ⟨rfl,bb⟩
end Go.Proofs.YtijegngfclkdaaaGreatDoor
namespace Go.Proofs.YtijegngfclkdaaaGreatDoor.Oct
def sgn (n b:Nat):Int:=if n % 2 ^ b < 2 ^ (b - 1) then ((n % 2 ^ b:Nat):Int) else ((n % 2 ^ b:Nat):Int) - 2 ^ b
theorem two_half (b:Nat) (h:1≤b):2 ^ b=2 * 2 ^ (b - 1):=by
 obtain ⟨k,rfl⟩:∃ k,b=k + 1:=⟨b - 1,by omega⟩;rw [Nat.add_sub_cancel,Nat.pow_succ,Nat.mul_comm]
theorem pow_int (b:Nat):(2:Int) ^ b=((2 ^ b:Nat):Int):=by simp
theorem extend_val (n b:Nat) (h1:1≤b) (h2:b≤64) :
  (((((n:Int) * 2 ^ (64 - b)) % 18446744073709551616 + 9223372036854775808) % 18446744073709551616) - 9223372036854775808) / (2 ^ (64 - b))=sgn n b:=by
 have hp:0 < 2 ^ (64 - b):=Nat.pow_pos (by decide);have e64:2 ^ b * 2 ^ (64 - b)=18446744073709551616:=by rw [← Nat.pow_add,show b + (64 - b)=64 by omega]
 have e63:2 ^ (b - 1) * 2 ^ (64 - b)=9223372036854775808:=by rw [← Nat.pow_add,show b - 1 + (64 - b)=63 by omega]
 have e1:((n:Int) * 2 ^ (64 - b)) % 18446744073709551616=(((n % 2 ^ b) * 2 ^ (64 - b):Nat):Int):=by
  rw [pow_int,← Int.natCast_mul,show (18446744073709551616:Int)=((18446744073709551616:Nat):Int) from rfl,← Int.natCast_emod,← e64,Nat.mul_mod_mul_right]
 rw [e1];have hm:n % 2 ^ b < 2 ^ b:=Nat.mod_lt _ (Nat.pow_pos (by decide));unfold sgn;generalize n % 2 ^ b=m at *;have hb:=two_half b h1;have hlt:m * 2 ^ (64 - b) < 18446744073709551616:=by rw [← e64]; exact Nat.mul_lt_mul_of_pos_right hm hp
 split
 ·rename_i hlow
  have h3:m * 2 ^ (64 - b) < 9223372036854775808:=by rw [← e63]; exact Nat.mul_lt_mul_of_pos_right hlow hp
  rw [Int.emod_eq_of_lt (by omega) (by omega),show ((m * 2 ^ (64 - b):Nat):Int) + 9223372036854775808 - 9223372036854775808=((m * 2 ^ (64 - b):Nat):Int) by omega,pow_int,← Int.natCast_ediv,Nat.mul_div_cancel _ hp]
 ·rename_i hhigh
  have h3:9223372036854775808≤m * 2 ^ (64 - b):=by rw [← e63]; exact Nat.mul_le_mul_right _ (by omega)
  have e2:(((m * 2 ^ (64 - b):Nat):Int) + 9223372036854775808) % 18446744073709551616=((m * 2 ^ (64 - b):Nat):Int) - 9223372036854775808:=by omega
  have e3:((m * 2 ^ (64 - b):Nat):Int) - 9223372036854775808 - 9223372036854775808=((m:Int) - ((2 ^ b:Nat):Int)) * ((2 ^ (64 - b):Nat):Int):=by
   rw [Int.sub_mul,← Int.natCast_mul,← Int.natCast_mul,e64]; omega
  rw [e2,e3,pow_int,pow_int,Int.mul_ediv_cancel _ (by omega)]
def getS (l:List UInt8) (p x:Int):Nat×Int :=
 if 1≤x∧x≤8∧0≤p∧p≤(l.length:Int) then (if (l.length:Int) - p < x then (0,2) else (le (cut l p.toNat x.toNat),0)) else (0,1)
def getIntS (l:List UInt8) (p x:Int):Int×Int:=if (getS l p x).2=0 then (sgn (getS l p x).1 (8 * x.toNat),0) else (0,(getS l p x).2)

def dig (i:Nat):UInt8:=if i < 10 then UInt8.ofNat (48 + i) else UInt8.ofNat (87 + i)
def hexS (l:List UInt8):List UInt8:=l.flatMap fun c=>[dig (c.toNat / 16),dig (c.toNat % 16)]
def nib (c:UInt8):Option Nat:=if 48≤c.toNat∧c.toNat≤57 then some (c.toNat - 48) else if 97≤c.toNat∧c.toNat≤102 then some (c.toNat - 87) else none
def pairs:List UInt8→Option (List UInt8)
 | []=>some []
 | [_]=>none
 | a :: b :: r=>match nib a,nib b,pairs r with
  | some h,some l,some t=>some (UInt8.ofNat (16 * h + l) :: t)
  | _,_,_=>none
def unhexS (s:List UInt8):List UInt8×Int:=match pairs s with | some l=>(l,0) | none=>([],4)
end Go.Proofs.YtijegngfclkdaaaGreatDoor.Oct
namespace Go.Proofs.YtijegngfclkdaaaGreatDoor.Ty
structure Kd where
 name:List UInt8
 size:Nat
 bits:Nat
 sgn:Bool
def kd0:Kd:=⟨[],0,0,false⟩
def kd (t:Int):Kd :=
 if t=1 then ⟨[98,111,111,108],1,1,false⟩ else if t=2 then ⟨[105,56],1,8,true⟩ else if t=3 then ⟨[105,49,54],2,16,true⟩ else if t=4 then ⟨[105,51,50],4,32,true⟩
 else if t=5 then ⟨[117,56],1,8,false⟩ else if t=6 then ⟨[117,49,54],2,16,false⟩ else if t=7 then ⟨[117,51,50],4,32,false⟩
 else if t=9 then ⟨[116,101,120,116],0,0,false⟩ else if t=10 then ⟨[98,121,116,101,115],0,0,false⟩ else if t=15 then ⟨[100,111,109,97,105,110],0,0,false⟩
 else if t=21 then ⟨[105,54,52],8,64,true⟩ else kd0
def nums:List Int:=[1,2,3,4,5,6,7,9,10,15,21]
theorem kd_none {t:Int} (h:t ∉ nums):kd t=kd0:=by
 unfold nums at h;simp only [List.mem_cons,List.not_mem_nil,or_false,not_or] at h;obtain ⟨h1,h2,h3,h4,h5,h6,h7,h8,h9,h10,h11⟩:=h;unfold kd;simp only [h1,h2,h3,h4,h5,h6,h7,h8,h9,h10,h11,if_false]
theorem kd_cases (t:Int):(t=1∨t=2∨t=3∨t=4∨t=5∨t=6∨t=7∨t=9∨t=10∨t=15∨t=21)∨(t ∉ nums∧kd t=kd0):=by
 by_cases h:t∈nums
 ·left
  unfold nums at h;simpa only [List.mem_cons,List.not_mem_nil,or_false] using h
 ·exact .inr ⟨h,kd_none h⟩
def limS (t:Int):Int×Int×Bool :=
 if (kd t).bits=0 then (0,0,false) else if (kd t).sgn=true then (-((2 ^ ((kd t).bits - 1):Nat):Int),((2 ^ ((kd t).bits - 1):Nat):Int) - 1,true) else (0,((2 ^ (kd t).bits:Nat):Int) - 1,true)
def encS (t n:Int):List UInt8×Int :=
 if (limS t).2.2=false then ([],15) else if n < (limS t).1∨(limS t).2.1 < n then ([],9) else (Oct.lb (kd t).size (n % 18446744073709551616).toNat,0)
def decS (t:Int) (b:List UInt8):Int×Int :=
 if (kd t).bits=0 then (0,15) else if b.length < (kd t).size then (0,2) else if (kd t).size < b.length then (0,3)
 else if (kd t).sgn=true then (Oct.sgn (Oct.le b) (8 * (kd t).size),0) else if 2 ^ (kd t).bits≤Oct.le b then (0,9) else ((Oct.le b:Int),0)
def seen (c:UInt8):Bool:=decide (32≤c.toNat∧c.toNat≤126)
def checkS (t most:Int) (b:List UInt8):Int :=
 if (kd t).name=[] then 15 else if 0 < (kd t).bits then (decS t b).2 else if most < (b.length:Int)∨256 < (b.length:Int) then 3 else if t=9∧b.all seen=false then 4 else 0

def dgt (m:Nat):UInt8:=UInt8.ofNat (48 + m)
def decF:Nat→Nat→List UInt8
 | 0,_=>[]
 | k + 1,m=>(if m / 10=0 then [] else decF k (m / 10)) ++ [dgt (m % 10)]
def numT (n:Int):List UInt8:=if n < 0 then 45 :: decF 20 n.natAbs else decF 20 n.natAbs
def isD (c:UInt8):Bool:=decide (48≤c.toNat∧c.toNat≤57)
def valD (s:List UInt8):Nat:=s.foldl (fun v c=>10 * v + (c.toNat - 48)) 0
def minus (s:List UInt8):Bool:=s.head? == some 45
def rest (s:List UInt8):List UInt8:=if minus s=true then s.tail else s
def formN (s:List UInt8):Bool:=!(rest s).isEmpty && !((rest s).head? == some 48 && s != [48]) && (rest s).all isD
def parN (s:List UInt8):Int×Int :=
 if formN s=false then (0,4) else if 9223372036854775808 < valD (rest s)∨(valD (rest s)=9223372036854775808∧minus s=false) then (0,9)
 else (if minus s=true then -(valD (rest s):Int) else (valD (rest s):Int),0)

def mark (c:UInt8):Bool:=c == 34 || c == 92
def esc (b:List UInt8):List UInt8:=b.flatMap fun c=>if mark c=true then [92,c] else [c]
def quo (b:List UInt8):List UInt8:=34 :: (esc b ++ [34])
def unF:List UInt8→Option (List UInt8)
 | []=>some []
 | [c]=>if mark c=true then none else some [c]
 | c :: d :: r=>if c=34 then none else if c=92 then (if mark d=true then (unF r).map (d :: ·) else none) else (unF (d :: r)).map (c :: ·)
def unq (s:List UInt8):Option (List UInt8):=if 2≤s.length∧s.head?=some 34∧s.getLast?=some 34 then unF s.tail.dropLast else none
def showS (t:Int) (b:List UInt8):List UInt8×Int :=
 if checkS t 256 b≠0 then ([],checkS t 256 b) else if 0 < (kd t).bits then (numT (decS t b).1,0) else if t=9 then (quo b,0) else (35 :: Oct.hexS b,0)
def rawS (t:Int) (s:List UInt8):List UInt8×Int :=
 if t=9 then (match unq s with | some b=>(b,0) | none=>([],4)) else if s.head?=some 35 then Oct.unhexS s.tail else ([],4)
def parseS (t:Int) (s:List UInt8):List UInt8×Int :=
 if (kd t).name=[] then ([],15) else if 0 < (kd t).bits then (if (parN s).2≠0 then ([],(parN s).2) else encS t (parN s).1)
 else if (rawS t s).2≠0 then ([],(rawS t s).2) else if checkS t 256 (rawS t s).1≠0 then ([],checkS t 256 (rawS t s).1) else ((rawS t s).1,0)


end Go.Proofs.YtijegngfclkdaaaGreatDoor.Ty
namespace Go.Proofs.YtijegngfclkdaaaGreatDoor.Ent
structure En where
 index:Int
 sub:Int
 name:List UInt8
 type:Int
 access:Int
 map:Bool
 store:Bool
 max:Int
 low:Int
 high:Int
 dflt:List UInt8
def low (c:UInt8):Bool:=decide (97≤c.toNat∧c.toNat≤122)
def inner (c:UInt8):Bool:=low c || Ty.isD c || c == 95
def nameB (s:List UInt8):Bool:=decide (1≤s.length∧s.length≤16) && (match s with | []=>false | c :: _=>low c) && s.all inner
def numS (e:En) (b:List UInt8):Int :=
 if (Ty.decS e.type b).2=2 then 101122067 else if (Ty.decS e.type b).2=3 then 101122066 else if (Ty.decS e.type b).2≠0 then 101253168
 else if (Ty.decS e.type b).1 < e.low then 101253170 else if e.high < (Ty.decS e.type b).1 then 101253169 else 0
def valS (e:En) (b:List UInt8):Int :=
 if 0 < (Ty.kd e.type).bits then numS e b
 else if Ty.checkS e.type e.max b=0 then 0 else if Ty.checkS e.type e.max b=3 then 101122066 else if Ty.checkS e.type e.max b=4 then 101253168 else 100925511
def flagsB (e:En):Bool:=if e.access=1 then !e.store && !e.map else if e.access=2 then !e.store else decide (e.access=3∨e.access=4)
def numberedB (e:En) (lo hi:Int):Bool:=decide (e.max=0∧lo≤e.low∧e.low≤e.high∧e.high≤hi)
def sizedB (e:En):Bool:=decide (e.low=0∧e.high=0∧1≤e.max∧e.max≤256) && !e.map
def limB (e:En):Bool:=if (Ty.limS e.type).2.2=true then numberedB e (Ty.limS e.type).1 (Ty.limS e.type).2.1 else sizedB e
def rightS (e:En):Int :=
 if e.index < 1∨65535 < e.index∨e.sub < 0∨255 < e.sub then 9
 else if nameB e.name=false then 14
 else if (Ty.kd e.type).name=[] then 15
 else if flagsB e=false then 1
 else if limB e=false then 1
 else if valS e e.dflt≠0 then 4 else 0
def readS (e:En):Int:=if e.access=3 then 100728833 else 0
def writS (e:En):Int:=if e.access=1∨e.access=2 then 100728834 else 0
def befB (a b:En):Bool:=if a.index=b.index then decide (a.sub < b.sub) else decide (a.index < b.index)
theorem right_iff {e:En} (h:rightS e=0):1≤e.index∧e.index≤65535∧0≤e.sub∧e.sub≤255∧nameB e.name=true∧(Ty.kd e.type).name≠[]∧flagsB e=true∧limB e=true∧valS e e.dflt=0:=by
 unfold rightS at h;split at h
 ·omega
 ·split at h
  ·omega
  ·split at h
   ·omega
   ·split at h
    ·omega
    ·split at h
     ·omega
     ·split at h
      ·omega
      ·rename_i h1 h2 h3 h4 h5 h6
       exact ⟨by omega,by omega,by omega,by omega,by simpa using h2,h3,by simpa using h4,by simpa using h5,by simpa using h6⟩
end Go.Proofs.YtijegngfclkdaaaGreatDoor.Ent
namespace Go.Proofs.YtijegngfclkdaaaGreatDoor.Dc
open Ent
structure Dic where
 l:List En
 v:List (List UInt8)
def en0:En:=⟨0,0,[],0,0,false,false,0,0,0,[]⟩
def ahead (x y:Int) (e:En):Bool:=if e.index=x then decide (e.sub < y) else decide (e.index < x)
def seekS (l:List En) (x y:Int):Nat:=(l.takeWhile (ahead x y)).length
def hit (x y:Int) (e:En):Bool:=decide (e.index=x∧e.sub=y)
def atB (l:List En) (k:Nat) (x y:Int):Bool:=decide (k < l.length) && hit x y (l.getD k en0)
def inB (l:List En) (x:Int):Bool:=l.any fun e=>e.index == x
def findS (l:List En) (x y:Int):Option Nat:=if atB l (seekS l x y) x y=true then some (seekS l x y) else none
def Ord (l:List En):Prop:=∀ i,i + 1 < l.length→befB (l.getD i en0) (l.getD (i + 1) en0)=true
def Lt (x y x' y':Int):Prop:=x < x'∨(x=x'∧y < y')
theorem bef_iff {a b:En}:befB a b=true↔Lt a.index a.sub b.index b.sub:=by
 unfold befB Lt;split <;> simp <;> omega
theorem ahead_iff {x y:Int} {e:En}:ahead x y e=true↔Lt e.index e.sub x y:=by
 unfold ahead Lt;split <;> simp <;> omega
theorem Lt.trans {a b c d e f:Int} (h:Lt a b c d) (h':Lt c d e f):Lt a b e f:=by unfold Lt at *; omega
theorem ord_lt {l:List En} (h:Ord l):∀ (k i:Nat),i + (k + 1) < l.length→Lt (l.getD i en0).index (l.getD i en0).sub (l.getD (i + (k + 1)) en0).index (l.getD (i + (k + 1)) en0).sub
 | 0,i,hi=>bef_iff.1 (h i hi)
 | k + 1,i,hi=>(ord_lt h k i (by omega)).trans (bef_iff.1 (h (i + (k + 1)) (by omega)))
theorem ord_lt2 {l:List En} (h:Ord l) {i j:Nat} (hij:i < j) (hj:j < l.length):Lt (l.getD i en0).index (l.getD i en0).sub (l.getD j en0).index (l.getD j en0).sub:=by
 have:=ord_lt h (j - i - 1) i (by omega)
 rwa [show i + (j - i - 1 + 1)=j by omega] at this
theorem seek_le (l:List En) (x y:Int):seekS l x y≤l.length:=(List.takeWhile_prefix _).length_le
theorem seek_lt {l:List En} {x y:Int} {j:Nat} (h:j < seekS l x y):ahead x y (l.getD j en0)=true:=by
 unfold seekS at h;have hp:=List.takeWhile_prefix (ahead x y) (l:=l);have hl:=hp.length_le;have e : (l.takeWhile (ahead x y))[j] = l[j]'(by omega) := by
  obtain ⟨t,ht⟩:=hp;have : l[j]'(by omega) = (l.takeWhile (ahead x y) ++ t)[j]'(by rw [List.length_append]; omega) := by congr 1; exact ht.symm
  rw [this,List.getElem_append_left h]
 have hm:=List.getElem_mem h;have:=List.all_eq_true.1 (List.all_takeWhile (p:=ahead x y) (l:=l)) _ hm;rw [e] at this;rw [List.getD_eq_getElem?_getD,List.getElem?_eq_getElem (by omega)];exact this
theorem seek_at {l:List En} {x y:Int} (h:seekS l x y < l.length):ahead x y (l.getD (seekS l x y) en0)=false:=by
 induction l with
 | nil=>simp at h
 | cons e l ih =>
  unfold seekS at *;rw [List.takeWhile_cons] at *;split at h
  ·rename_i hp
   rw [if_pos hp];simp only [List.length_cons,List.getD_cons_succ] at *;exact ih (by omega)
  ·rename_i hp
   rw [if_neg hp];simpa using hp
theorem seek_of {l:List En} (ho:Ord l) {x y:Int} {k:Nat} (hk:k≤l.length) (h1:∀ j,j < k→ahead x y (l.getD j en0)=true) (h2:∀ j,k≤j→j < l.length→ahead x y (l.getD j en0)=false):k=seekS l x y:=by
 rcases Nat.lt_trichotomy k (seekS l x y) with h | h | h
 ·have:=seek_lt h
  rw [h2 k (Nat.le_refl _) (by have:=seek_le l x y; omega)] at this;cases this
 ·exact h
 ·have:=seek_at (l:=l) (x:=x) (y:=y) (by omega)
  rw [h1 _ h] at this;cases this
theorem hit_iff {x y:Int} {e:En}:hit x y e=true↔e.index=x∧e.sub=y:=by unfold hit; simp
theorem find_some {l:List En} {x y:Int} {k:Nat} (h:findS l x y=some k):k=seekS l x y∧k < l.length∧(l.getD k en0).index=x∧(l.getD k en0).sub=y:=by
 unfold findS at h;split at h
 ·rename_i ha
  injection h with h
  subst h;unfold atB at ha;simp only [Bool.and_eq_true,decide_eq_true_eq] at ha;exact ⟨rfl,ha.1,hit_iff.1 ha.2⟩
 ·cases h
theorem in_near {l:List En} (ho:Ord l) (x y:Int):inB l x=(decide (seekS l x y < l.length) && ((l.getD (seekS l x y) en0).index == x) || (decide (1≤seekS l x y) && ((l.getD (seekS l x y - 1) en0).index == x))):=by
 have hle:=seek_le l x y;rw [Bool.eq_iff_iff];unfold inB;simp only [List.any_eq_true,Bool.or_eq_true,Bool.and_eq_true,decide_eq_true_eq,beq_iff_eq];constructor
 ·rintro ⟨e,he,hx⟩
  obtain ⟨j,hj,rfl⟩:=List.getElem_of_mem he;have hg:l.getD j en0=l[j]:=by rw [List.getD_eq_getElem?_getD,List.getElem?_eq_getElem hj]; rfl
  rw [← hg] at hx;rcases Nat.lt_or_ge j (seekS l x y) with h | h
  ·right
   refine ⟨by omega,?_⟩;have h1:=ahead_iff.1 (seek_lt (l:=l) (x:=x) (y:=y) (j:=seekS l x y - 1) (by omega));rcases Nat.eq_or_lt_of_le (show j≤seekS l x y - 1 by omega) with h2 | h2
   ·rw [← h2]; exact hx
   ·have h3:=ord_lt2 ho h2 (by omega)
    unfold Lt at h1 h3;omega
  ·left
   refine ⟨by omega,?_⟩;have h1:=seek_at (l:=l) (x:=x) (y:=y) (by omega);have h2:¬ Lt (l.getD (seekS l x y) en0).index (l.getD (seekS l x y) en0).sub x y:=by
    intro h; rw [ahead_iff.2 h] at h1; cases h1
   rcases Nat.eq_or_lt_of_le h with h3 | h3
   ·rw [h3]; exact hx
   ·have h4:=ord_lt2 ho h3 hj
    unfold Lt at h2 h4;omega
 ·rintro (⟨h,hx⟩ | ⟨h,hx⟩)
  ·exact ⟨_,by rw [List.getD_eq_getElem?_getD,List.getElem?_eq_getElem h]; exact List.getElem_mem h,hx⟩
  ·have h':seekS l x y - 1 < l.length:=by omega
   exact ⟨_,by rw [List.getD_eq_getElem?_getD,List.getElem?_eq_getElem h']; exact List.getElem_mem h',hx⟩
def newF (l:List En):Nat→Nat→Int×Nat
 | 0,_=>(0,0)
 | k + 1,i=>if rightS (l.getD i en0)≠0 then (rightS (l.getD i en0),i) else if 0 < i∧befB (l.getD (i - 1) en0) (l.getD i en0)=false then (16,i) else newF l k (i + 1)
def newS (l:List En):Int×Nat:=if 96 < l.length then (3,96) else newF l l.length 0
theorem newF_ok {l:List En}:∀ (k i:Nat),k + i=l.length→newF l k i=(0,0)→∀ j,i≤j→j < l.length→rightS (l.getD j en0)=0∧(0 < j→befB (l.getD (j - 1) en0) (l.getD j en0)=true)
 | 0,i,hk,_,j,h1,h2=>by omega
 | k + 1,i,hk,h,j,h1,h2=>by
  rw [newF] at h;split at h
  ·rename_i hr; injection h with h _; exact absurd h hr
  ·rename_i hr
   split at h
   ·simp at h
   ·rename_i hb
    rcases Nat.eq_or_lt_of_le h1 with h3 | h3
    ·subst h3
     refine ⟨by simpa using hr,fun h0=>?_⟩;cases hbb:befB (l.getD (i - 1) en0) (l.getD i en0) with
     | true=>rfl
     | false=>exact absurd ⟨h0,hbb⟩ hb
    ·exact newF_ok k (i + 1) (by omega) h j (by omega) h2
theorem newF_place {l:List En}:∀ (k i:Nat),(newF l k i).1=0→(newF l k i).2=0
 | 0,_,_=>rfl
 | k + 1,i,h=>by
  rw [newF] at h ⊢;split at h
  ·rename_i hr; exact absurd h hr
  ·rename_i hr
   rw [if_neg hr];split at h
   ·simp at h
   ·rename_i hb
    rw [if_neg hb];exact newF_place k (i + 1) h
theorem new_ok {l:List En} (h:(newS l).1=0):l.length≤96∧Ord l∧∀ e∈l,rightS e=0:=by
 unfold newS at h;split at h
 ·simp at h
 ·rename_i h96
  have hz:newF l l.length 0=(0,0):=by
   have:=newF_place l.length 0 h;generalize newF l l.length 0=x at *;obtain ⟨a,b⟩:=x;dsimp only at *;subst h this;rfl
  have ha:=newF_ok l.length 0 (by omega) hz;refine ⟨by omega,fun i hi=>?_,fun e he=>?_⟩
  ·have:=(ha (i + 1) (by omega) hi).2 (by omega)
   rwa [Nat.add_sub_cancel] at this
  ·obtain ⟨j,hj,rfl⟩:=List.getElem_of_mem he
   have:=(ha j (by omega) hj).1
   rwa [List.getD_eq_getElem?_getD,List.getElem?_eq_getElem hj] at this
def mayS (l:List En) (any:Bool) (x y:Int) (b:List UInt8):Int:=match findS l x y with
 | none=>if inB l x=true then 101253137 else 100794368
 | some k=>if any=false∧writS (l.getD k en0)≠0 then writS (l.getD k en0) else valS (l.getD k en0) b
def pokeS (d:Dic) (x y:Int) (b:List UInt8):Dic:=match findS d.l x y with
 | none=>d
 | some k=>if valS (d.l.getD k en0) b=0 then ⟨d.l,d.v.set k b⟩ else d
def peekS (d:Dic) (x y:Int):Option (List UInt8):=(findS d.l x y).map fun k=>d.v.getD k []
structure Vl where
 index:Int
 sub:Int
 data:List UInt8
def valuesS (d:Dic):List Vl:=(List.range d.l.length).map fun k=>⟨(d.l.getD k en0).index,(d.l.getD k en0).sub,d.v.getD k []⟩
def sameV:List Vl→List Vl→Bool
 | [],[]=>true
 | a :: l,b :: m=>a.index == b.index && a.sub == b.sub && a.data == b.data && sameV l m
 | _,_=>false
end Go.Proofs.YtijegngfclkdaaaGreatDoor.Dc
