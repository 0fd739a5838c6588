/-
  Pieces of the proof: part 18 of 54.
  Conditions: none.
-/
import Derived.IntWalk
import Derived.Test.YtijegngfclkdaaaGreatDoorW13
import Derived.Test.YtijegngfclkdaaaGreatDoorW14
import Derived.Test.YtijegngfclkdaaaGreatDoorW15
import Derived.Test.YtijegngfclkdaaaGreatDoorW16
import Derived.Test.YtijegngfclkdaaaGreatDoorW17
set_option linter.unusedVariables false
set_option linter.unusedSimpArgs false
set_option maxHeartbeats 100000000
set_option maxRecDepth 100000
namespace Go.Proofs.YtijegngfclkdaaaGreatDoor
open Go.RowKit
def wornS (f:Fla) (s:Int):Int:=if 0≤s∧s < (f.wear.length:Int) then (f.wear.getD s.toNat 0:Int) else 0
def leftS (f:Fla) (s:Int):Int:=if 0≤s∧s < (f.wear.length:Int) then f.most - (f.wear.getD s.toNat 0:Int) else 0
def roomS (f:Fla) (at_ n:Int):Int:=if f.off=true then 7 else if at_ < 0∨n < 0∨(f.b.length:Int) < at_∨(f.b.length:Int) - at_ < n then 9 else 0
section
variable {w w':World} {base g n c m c':Nat} {A A':Option Addr} {f:Fla}
theorem FlM.wear_at (h:FlM w base g A n c A' m c' f) {s:Int} (h0:0≤s) (h1:s < (m:Int)):∃ b o,A'=some ⟨b,o,none⟩∧w.cell? ⟨b,o + s.toNat,none⟩=some (.int .i64 (f.wear.getD s.toNat 0:Int)):=by
 have hl:=h.len;obtain ⟨b,o,e,_,hc⟩:=h.worn.rv.at_ (by omega);have h2:s.toNat < f.wear.length:=by omega
 refine ⟨b,o,e,hc s.toNat _ ?_⟩;simp only [List.getElem?_map,List.getElem?_eq_getElem h2,Option.map_some,nv,List.getD,Option.getD_some]
set_option maxHeartbeats 1000000
theorem fWorn_any (h:FlM w base g A n c A' m c' f) (s:Int):Calls Tryz.prog 15 #[.pointer (some ⟨g,0,none⟩),.int .i64 s] w fun e w'=>e=.returned (.int .i64 (wornS f s))∧w=w':=by
 have F:=h.seven;have TH:=fthere_any h s;have hl:=h.len;unfold wornS;rw [hl]
 by_cases hs:0≤s∧s < (m:Int)
 ·rw [decide_eq_true hs] at TH
  rw [if_pos hs];obtain ⟨b,o,rfl,hc⟩:=h.wear_at hs.1 hs.2;have h1:=hs.1;have h2:=hs.2;generalize f.wear.getD s.toNat 0=v at *;replace TH:=Lib.hid TH;clear h hl hs;go_enter Tryz.func15,Tryz.ntmps15
  go_wp2_with fail
  refine (TH.out).mono ?_;rintro e _ ⟨rfl,rfl⟩;go_wp2_with fail
  go_ret
  exact ⟨rfl,rfl⟩
 ·rw [decide_eq_false hs] at TH
  rw [if_neg hs];replace TH:=Lib.hid TH;clear h hl hs;go_enter Tryz.func15,Tryz.ntmps15
  go_wp2_with fail
  refine (TH.out).mono ?_;rintro e _ ⟨rfl,rfl⟩;go_wp2_with fail
  go_ret
  exact ⟨rfl,rfl⟩
theorem fLeft_any (h:FlM w base g A n c A' m c' f) (s:Int) (hr:-9223372036854775808≤leftS f s∧leftS f s≤9223372036854775807):Calls Tryz.prog 410 #[.pointer (some ⟨g,0,none⟩),.int .i64 s] w fun e w'=>e=.returned (.int .i64 (leftS f s))∧Below w.heap.size w w':=by
 have F:=h.seven;have TH:=fthere_any h s;have hl:=h.len;unfold leftS at hr ⊢;rw [hl] at hr ⊢
 by_cases hs:0≤s∧s < (m:Int)
 ·rw [decide_eq_true hs] at TH
  rw [if_pos hs] at hr ⊢;obtain ⟨b,o,rfl,hc⟩:=h.wear_at hs.1 hs.2;have h1:=hs.1;have h2:=hs.2;generalize f.wear.getD s.toNat 0=v at *;have q1:IntKind.i64.wrap (f.most - (v:Int))=f.most - (v:Int):=IntWalk.i64_in _ hr;have q2:wrap64 (f.most - (v:Int))=f.most - (v:Int):=IntWalk.wrap64_in _ hr;replace TH:=Lib.hid TH;clear h hl hs hr;go_enter Tryz.func410,Tryz.ntmps410
  go_wp2_with fail
  refine (TH.out).mono ?_;rintro e _ ⟨rfl,rfl⟩;go_wp2_with fail
  first
   | (go_ret; exact ⟨rfl,Below.refl _ _⟩)
   | (go_quiet (fail); go_wp2_with fail; go_ret; exact ⟨rfl,below_drewN (Below.refl _ _) _⟩)
 ·rw [decide_eq_false hs] at TH
  rw [if_neg hs];replace TH:=Lib.hid TH;clear h hl hs hr;go_enter Tryz.func410,Tryz.ntmps410
  go_wp2_with fail
  refine (TH.out).mono ?_;rintro e _ ⟨rfl,rfl⟩;go_wp2_with fail
  go_ret
  exact ⟨rfl,Below.refl _ _⟩
theorem froom_any (h:FlM w base g A n c A' m c' f) (p k:Int) (hp:p≤9223372036854775807):Calls Tryz.prog 281 #[.pointer (some ⟨g,0,none⟩),.int .i64 p,.int .i64 k] w fun e w'=>e=.returned (.int .i64 (roomS f p k))∧w=w':=by
 have F:=h.seven;have hl:=h.row.rb.len;have hn:=h.row.rb.lt;unfold roomS;rw [hl];cases hoff:f.off
 case true =>
  rw [hoff] at F;rw [if_pos rfl];clear h hl;go_enter Tryz.func281,Tryz.ntmps281
  go_wp2_with fail
  go_ret
  exact ⟨rfl,rfl⟩
 rw [hoff] at F;rw [if_neg (by simp)];clear h hl hoff
 by_cases h1:p < 0
 ·rw [if_pos (.inl h1)]
  have e1:decide (p < 0)=true:=decide_eq_true h1;go_enter Tryz.func281,Tryz.ntmps281
  go_wp2_with fail
  go_ret
  exact ⟨rfl,rfl⟩
 have e1:decide (p < 0)=false:=decide_eq_false h1
 by_cases h2:k < 0
 ·rw [if_pos (.inr (.inl h2))]
  have e2:decide (k < 0)=true:=decide_eq_true h2;go_enter Tryz.func281,Tryz.ntmps281
  go_wp2_with fail
  go_ret
  exact ⟨rfl,rfl⟩
 have e2:decide (k < 0)=false:=decide_eq_false h2
 by_cases h3:(n:Int) < p
 ·rw [if_pos (.inr (.inr (.inl h3)))]
  have e3:decide ((n:Int) < p)=true:=decide_eq_true h3;go_enter Tryz.func281,Tryz.ntmps281
  go_wp2_with fail
  go_ret
  exact ⟨rfl,rfl⟩
 have e3:decide ((n:Int) < p)=false:=decide_eq_false h3;have q1:IntKind.i64.wrap ((n:Int) - p)=(n:Int) - p:=IntWalk.i64_in _ (by omega);have q2:wrap64 ((n:Int) - p)=(n:Int) - p:=IntWalk.wrap64_in _ (by omega)
 by_cases h4:(n:Int) - p < k
 ·rw [if_pos (.inr (.inr (.inr h4)))]
  have e4:decide ((n:Int) - p < k)=true:=decide_eq_true h4;go_enter Tryz.func281,Tryz.ntmps281
  go_wp2_with fail
  go_ret
  exact ⟨rfl,rfl⟩
 ·rw [if_neg (by rintro (h | h | h | h); exact h1 h; exact h2 h; exact h3 h; exact h4 h)]
  have e4:decide ((n:Int) - p < k)=false:=decide_eq_false h4;go_enter Tryz.func281,Tryz.ntmps281
  go_wp2_with fail
  go_ret
  exact ⟨rfl,rfl⟩
end
end Go.Proofs.YtijegngfclkdaaaGreatDoor
namespace Go.Proofs.YtijegngfclkdaaaGreatDoor
open Go.RowKit
section
variable {w w':World} {base g n c m c':Nat} {A A':Option Addr} {f:Fla}
theorem run_cut {A:Option Addr} {n c:Nat} (p k:Nat) (hpk:p + k≤n) (hn:n≤c) (hc:c≤9223372036854775807) (w:World) :
  (Instr.slice 25 (.slice A n c) (some (.int .i64 (p:Int))) (some (.int .i64 ((p:Int) + (k:Int)))) none).run Tryz.prog w=.ok (.slice (if c=p then A else A.map (·.add p)) k (c - p)) w:=by
 have hT:Tryz.prog.underlying 25=some (.slice (Tryz.prog.elem 25)):=by rw [et_elem etb]; exact etb.sl
 rw [run_slice_lh w 25 A n c hT .i64 .i64 (p:Int) ((p:Int) + (k:Int)) (by omega) (by omega) (by omega),et_elem etb,run_sizeOf etb];simp only [Result.andThen,sliced,Int.toNat_natCast,show ((p:Int) + (k:Int)).toNat=p + k by omega,Nat.mul_one,Nat.add_sub_cancel_left]
theorem room_ok {f:Fla} {p k:Nat} (hoff:f.off=false) (h:p + k≤f.b.length):roomS f (p:Int) (k:Int)=0:=by
 unfold roomS;rw [hoff,if_neg (by simp),if_neg (by omega)]
theorem fRead_ok (h:FlM w base g A n c A' m c' f) (p k:Nat) (hoff:f.off=false) (hpk:p + k≤n) (hn:n≤100000):Calls Tryz.prog 237 #[.pointer (some ⟨g,0,none⟩),.int .i64 (p:Int),.int .i64 (k:Int)] w fun e w'=>∃ A1 c1,e=.returned (.tuple #[.slice A1 k c1,.int .i64 0])∧OB w' w.heap.size A1 k c1 ((f.b.drop p).take k)∧Below w.heap.size w w':=by
 have F:=h.seven;have hrb:=h.row.rb;have hl:=hrb.len;have C:=froom_any h (p:Int) (k:Int) (by omega);rw [room_ok hoff (by omega)] at C;have hcut:=(hrb.drop (k:=p) (by omega)).take (k:=k) (by omega);have hsl:=run_cut (A:=A) (n:=n) (c:=c) p k hpk hrb.le hrb.cap;have q1:IntKind.i64.wrap ((p:Int) + (k:Int))=(p:Int) + (k:Int):=IntWalk.i64_in _ (by omega);have q2:wrap64 ((p:Int) + (k:Int))=(p:Int) + (k:Int):=IntWalk.wrap64_in _ (by omega);have hk:k≤140737488355328:=by omega
 have HC:=Lib.hid hcut;replace C:=Lib.hid C;generalize (if c=p then A else A.map (·.add p))=A2 at *;clear h hrb hl hpk hn hoff hcut;go_enter Tryz.func237,Tryz.ntmps237
 go_wp2_with fail
 refine (C.out).mono ?_;rintro e _ ⟨rfl,rfl⟩;go_wp2_with (at_builtin; refine wpList_appb_nil etb rfl (.const (.slice none 0 0)) (.tmp 24) rfl rfl rfl w.heap.size HC.out hk (Nat.le_refl _) ?_; intro A1 c1 w1 o1 b1)
 go_ret2
 exact ⟨A1,c1,rfl,o1,b1⟩
end
end Go.Proofs.YtijegngfclkdaaaGreatDoor
namespace Go.Proofs.YtijegngfclkdaaaGreatDoor
open Go.RowKit
def recZ:Array Value:=#[.int .i64 0,.int .u32 0,.slice none 0 0]
def ParP (l:List UInt8) (p:Nat) (w:World) (e:Ending) (w':World):Prop :=
 Below w.heap.size w w'∧match Jr.parseS l p with
 | none=>∃ z:Int,e=.returned (.tuple #[.agg recZ,.int .i64 0,.int .i64 z])∧z≠0
 | some x=>∃ A c,e=.returned (.tuple #[recV x.1 A c,.int .i64 (x.2:Int),.int .i64 0])∧OB w' w.heap.size A x.1.data.length c x.1.data
theorem par_no {l:List UInt8} {p:Nat} {w w':World} {z:Int} (h:Jr.parseS l p=none) (hz:z≠0) (hb:Below w.heap.size w w'):ParP l p w (.returned (.tuple #[.agg recZ,.int .i64 0,.int .i64 z])) w':=⟨hb,by rw [h]; exact ⟨z,rfl,hz⟩⟩
theorem par_yes {l:List UInt8} {p q:Nat} {r:Jr.Rec} {w w':World} {A:Option Addr} {c:Nat} (h:Jr.parseS l p=some (r,q)) (ho:OB w' w.heap.size A r.data.length c r.data) (hb:Below w.heap.size w w'):ParP l p w (.returned (.tuple #[recV r A c,.int .i64 (q:Int),.int .i64 0])) w':=⟨hb,by rw [h]; exact ⟨A,c,rfl,ho⟩⟩
theorem rec_done {w w4:World} {a b c:Value} (K:Blk w4 w.heap.size 217 #[a,b,c]) (h:Below w.heap.size w w4) (x y z:Value):∃ w',((w4.setCell ⟨w.heap.size,0,none⟩ x).setCell ⟨w.heap.size,1,none⟩ y).setCell ⟨w.heap.size,2,none⟩ z=w'∧(w'.cell? ⟨w.heap.size,0,none⟩=some x∧w'.cell? ⟨w.heap.size,1,none⟩=some y∧w'.cell? ⟨w.heap.size,2,none⟩=some z)∧Below w.heap.size w w'∧Mv (fun q=>q=w.heap.size) w4 w':=by
 have KZ:=K.store3 x y z;have m:=Mv.set3 w4 w.heap.size 0 1 2 x y z;exact ⟨_,rfl,⟨KZ.cell 0,KZ.cell 1,KZ.cell 2⟩,h.trans (m.below h.size (by intro q e; omega)),m⟩
theorem rec_nums {z3:Nat} (h:z3 < 65536):IntKind.i64.wrap ((z3:Int) + 13)=(z3:Int) + 13∧wrap64 ((z3:Int) + 13)=(z3:Int) + 13∧IntKind.i64.wrap (8 + (z3:Int))=8 + (z3:Int)∧wrap64 (8 + (z3:Int))=8 + (z3:Int)∧IntKind.i64.wrap (8 + (z3:Int) + 4)=8 + (z3:Int) + 4∧wrap64 (8 + (z3:Int) + 4)=8 + (z3:Int) + 4 :=
 ⟨IntWalk.i64_in _ (by omega),IntWalk.wrap64_in _ (by omega),IntWalk.i64_in _ (by omega),IntWalk.wrap64_in _ (by omega),IntWalk.i64_in _ (by omega),IntWalk.wrap64_in _ (by omega)⟩
theorem recParse_any {A:Option Addr} {n c B:Nat} {l:List UInt8} (p:Nat) (w:World) (hb:RB w B A n c l) (hB:B≤w.heap.size) (hp:p≤n) (hn:n≤100000) :
  Calls Tryz.prog 282 #[.slice A n c,.int .i64 (p:Int)] w (ParP l p w):=by
 have hl:=hb.len;have hle:=hb.le;have hcap:=hb.cap;have hx:=hb.drop hp;have hcut:=fun w1=>run_cut_rest etb A n c p hp .i64 w1
 simp only [Nat.mul_one] at hcut;have e1:decide ((p:Int) < 0)=false:=decide_eq_false (by omega);have e2:decide ((p:Int) > (n:Int))=false:=decide_eq_false (by omega);have e2':decide (n < p)=false:=decide_eq_false (by omega);have b1:=alloc_one w (.cells #[.int .i64 0,.int .u32 0,.slice none 0 0] 217);have K1:=Blk.new w 217 #[.int .i64 0,.int .u32 0,.slice none 0 0];obtain ⟨w1,hw1⟩:∃ w1,w.alloc (.cells #[.int .i64 0,.int .u32 0,.slice none 0 0] 217)=w1:=⟨_,rfl⟩;rw [hw1] at b1 K1;have hs1:w1.heap.size=w.heap.size + 1:=by rw [← hw1,World.size_alloc]
 have HW:=Lib.hid hw1;have hx1:=hx.below (b1.mono hB);have C1:=K1.three;have r0:=C1.1;have r1:=C1.2.1;have r2:=C1.2.2.1;have hPS:Jr.parseS l p=Jr.parseS l p:=rfl
 conv at hPS=>rhs; unfold Jr.parseS
 generalize hA2:(if c=p then A else A.map (·.add p))=A2 at *;generalize hnx:n - p=nx at *;generalize hcx:c - p=cx at *;generalize l.drop p=x at *;have hxl:=hx.len;rw [hxl] at hPS
 by_cases h13:nx < 13
 ·rw [if_pos h13] at hPS
  have e3:decide ((nx:Int) < 13)=true:=decide_eq_true (by omega);have e4:decide (nx < 13)=true:=decide_eq_true h13;have HP:=Lib.hid hPS;clear hb hl hle hcap hx hp hn h13 hx1 hw1 hnx hcx hA2 hPS hxl;go_enter Tryz.func282,Tryz.ntmps282
  go_wp2_with fail
  rw [HW.out];exact bodyPost_ret (v:=.tuple #[.agg recZ,.int .i64 0,.int .i64 2]) (by simp [results,Tryz.results282,go_sem,r0,r1,r2,recZ]) rfl (par_no HP.out (by decide) b1)
 rw [if_neg h13] at hPS;have e3:decide ((nx:Int) < 13)=false:=decide_eq_false (by omega);have e4:decide (nx < 13)=false:=decide_eq_false h13;obtain ⟨bx,ox,hAx,hbx,hcx0⟩:=hx1.at_ (by omega);subst hAx;have hc0:=hcx0 0 (by omega);rw [Nat.add_zero,← hw1] at hc0;have i0:(0:Int) < (nx:Int):=by omega
 have hF:=recFront_any w1 hx1 (by omega) (by omega);have y1:=Oct.le_lt (Oct.cut x 1 1);have y2:=Oct.le_lt (Oct.cut x 2 4);have y3:=Oct.le_lt (Oct.cut x 6 2);rw [Oct.cut_length _ _ _ (by omega)] at y1 y2 y3;have hbe:=byte_beq (x.getD 0 0) 87
 by_cases h87:x.getD 0 0≠87
 ·rw [if_pos h87] at hPS
  have e5:(((x.getD 0 0).toNat:Int) != 87)=true:=by
   rw [bne,show (87:Int)=((87:UInt8).toNat:Int) from rfl,hbe];simpa using h87
  have HP:=Lib.hid hPS;generalize x.getD 0 0=x0 at *;clear hb hl hle hcap hx hp hn h13 hx1 hw1 hnx hcx hA2 hPS hxl hF y1 y2 y3 hbe h87 hcx0;go_enter Tryz.func282,Tryz.ntmps282
  go_wp2_with fail
  rw [HW.out];exact bodyPost_ret (v:=.tuple #[.agg recZ,.int .i64 0,.int .i64 4]) (by simp [results,Tryz.results282,go_sem,r0,r1,r2,recZ]) rfl (par_no HP.out (by decide) b1)
 rw [if_neg h87] at hPS;have e5:(((x.getD 0 0).toNat:Int) != 87)=false:=by
  rw [bne,show (87:Int)=((87:UInt8).toNat:Int) from rfl,hbe];simpa using h87
 generalize x.getD 0 0=x0 at *;generalize hz1:Oct.le (Oct.cut x 1 1)=z1 at *;generalize hz2:Oct.le (Oct.cut x 2 4)=z2 at *;generalize hz3:Oct.le (Oct.cut x 6 2)=z3 at *;have FI:=Lib.hid (fun w3=>recFits_any z1 z2 z3 (.slice none 0 0) w3);have hx1':=hx1;replace hF:=Lib.hid hF
 by_cases hfit:Jr.fitsS z1 z2 z3=false
 ·rw [if_pos hfit] at hPS
  have HP:=Lib.hid hPS;rw [hfit] at FI;clear hb hl hle hcap hx hp hn h13 hx1 hw1 hnx hcx hA2 hPS hxl y1 y2 y3 hbe h87 hcx0 hfit;go_enter Tryz.func282,Tryz.ntmps282
  go_wp2_with fail
  rw [HW.out];refine (hF.out).mono ?_;rintro e w2 ⟨rfl,b2⟩;have b12:=below_step b1 b2 (Nat.le_refl _);have K2:=K1.later b2;have b3:=alloc_one w2 (.cells #[.int .i64 (z1:Int),.int .u32 (z2:Int),.slice none 0 0] 217);have L3:=Blk.new w2 217 #[.int .i64 (z1:Int),.int .u32 (z2:Int),.slice none 0 0];have M3:=L3.three;go_wp2_with fail
  refine (FI.out _).mono ?_;rintro e w4 ⟨rfl,b4⟩;have b34:=b3.trans (b4.mono (by simp [World.size_alloc]));have b14:=below_step b12 b34 (Nat.le_refl _);have K4:=K2.later b34;have C4:=K4.three;obtain ⟨wz,hwz,⟨s0,s1,s2⟩,bz,_⟩:=rec_done K4 b14 (.int .i64 0) (.int .u32 0) (.slice none 0 0);have HZ:=Lib.hid hwz;clear hwz;go_wp2_with fail
  rw [HZ.out];exact bodyPost_ret (v:=.tuple #[.agg recZ,.int .i64 0,.int .i64 4]) (by simp [results,Tryz.results282,go_sem,s0,s1,s2,recZ]) rfl (par_no HP.out (by decide) bz)
 rw [if_neg hfit] at hPS;have hfit:Jr.fitsS z1 z2 z3=true:=by simpa using hfit
 rw [hfit] at FI;have HQ:=Lib.hid (rec_nums (z3:=z3) (by omega))
 by_cases hsh:nx < z3 + 13
 ·rw [if_pos hsh] at hPS
  have HP:=Lib.hid hPS;have e6:decide ((nx:Int) < (z3:Int) + 13)=true:=decide_eq_true (by omega);clear hb hl hle hcap hx hp hn h13 hx1 hw1 hnx hcx hA2 hPS hxl y1 y2 y3 hbe h87 hcx0 hfit hsh;obtain ⟨q1,q2,q3,q4,q5,q6⟩:=HQ.out;go_enter Tryz.func282,Tryz.ntmps282
  go_wp2_with fail
  rw [HW.out];refine (hF.out).mono ?_;rintro e w2 ⟨rfl,b2⟩;have b12:=below_step b1 b2 (Nat.le_refl _);have K2:=K1.later b2;have b3:=alloc_one w2 (.cells #[.int .i64 (z1:Int),.int .u32 (z2:Int),.slice none 0 0] 217);have L3:=Blk.new w2 217 #[.int .i64 (z1:Int),.int .u32 (z2:Int),.slice none 0 0];have M3:=L3.three;go_wp2_with fail
  refine (FI.out _).mono ?_;rintro e w4 ⟨rfl,b4⟩;have b34:=b3.trans (b4.mono (by simp [World.size_alloc]));have b14:=below_step b12 b34 (Nat.le_refl _);have K4:=K2.later b34;have C4:=K4.three;have L4:=(L3.later b4).three;obtain ⟨wz,hwz,⟨s0,s1,s2⟩,bz,_⟩:=rec_done K4 b14 (.int .i64 0) (.int .u32 0) (.slice none 0 0);have HZ:=Lib.hid hwz;clear hwz;go_wp2_with fail
  rw [HZ.out];exact bodyPost_ret (v:=.tuple #[.agg recZ,.int .i64 0,.int .i64 2]) (by simp [results,Tryz.results282,go_sem,s0,s1,s2,recZ]) rfl (par_no HP.out (by decide) bz)
 rw [if_neg hsh] at hPS;have e6:decide ((nx:Int) < (z3:Int) + 13)=false:=decide_eq_false (by omega);have hcut2:∀ w',(Instr.slice 25 (.slice (some ⟨bx,ox,none⟩) nx cx) none (some (.int .i64 (8 + (z3:Int) + 4))) none).run Tryz.prog w'=.ok (.slice (some ⟨bx,ox,none⟩) (12 + z3) cx) w':=fun w'=>by
  have:=run_cut_head etb (some ⟨bx,ox,none⟩) nx cx (12 + z3) (by have:=hx1.le; omega) .i64 w';rw [show ((12 + z3:Nat):Int)=8 + (z3:Int) + 4 by omega] at this;exact this
 have OP:=Lib.hid (fun (w4:World) (h:Below w1.heap.size w1 w4)=>Open_any w4 ((hx1.take (k:=12 + z3) (by omega)).below (h.mono (by omega))) (by have:=h.size; omega) (by omega))
 by_cases hsum:(openS (x.take (12 + z3))).2≠0
 ·rw [if_pos hsum] at hPS
  have HP:=Lib.hid hPS;generalize openS (x.take (12 + z3))=os at *;have HNZ:=Lib.hid hsum;have e7:(os.2 != 0)=true:=by simpa using hsum
  clear hb hl hle hcap hx hp hn h13 hx1 hw1 hnx hcx hA2 hPS hxl y1 y2 y3 hbe h87 hcx0 hfit hsh hsum;obtain ⟨q1,q2,q3,q4,q5,q6⟩:=HQ.out;go_enter Tryz.func282,Tryz.ntmps282
  go_wp2_with fail
  rw [HW.out];refine (hF.out).mono ?_;rintro e w2 ⟨rfl,b2⟩;have b12:=below_step b1 b2 (Nat.le_refl _);have K2:=K1.later b2;have b3:=alloc_one w2 (.cells #[.int .i64 (z1:Int),.int .u32 (z2:Int),.slice none 0 0] 217);have L3:=Blk.new w2 217 #[.int .i64 (z1:Int),.int .u32 (z2:Int),.slice none 0 0];have M3:=L3.three;go_wp2_with fail
  refine (FI.out _).mono ?_;rintro e w4 ⟨rfl,b4⟩;have b34:=b3.trans (b4.mono (by simp [World.size_alloc]));have b14:=below_step b12 b34 (Nat.le_refl _);have K4:=K2.later b34;have C4:=K4.three;have L4:=(L3.later b4).three;go_wp2_with fail
  refine (OP.out w4 (b2.trans (b34.mono b2.size))).mono ?_;rintro e w5 ⟨A5,c5,rfl,o5,b5⟩;have b15:=below_step b14 b5 (Nat.le_refl _);have K5:=K4.later b5;have C5:=K5.three;obtain ⟨wz,hwz,⟨s0,s1,s2⟩,bz,_⟩:=rec_done K5 b15 (.int .i64 0) (.int .u32 0) (.slice none 0 0);have HZ:=Lib.hid hwz;clear hwz;go_wp2_with fail
  rw [HZ.out];exact bodyPost_ret (v:=.tuple #[.agg recZ,.int .i64 0,.int .i64 os.2]) (by simp [results,Tryz.results282,go_sem,s0,s1,s2,recZ]) rfl (par_no HP.out (by exact HNZ.out) bz)
 rw [if_neg hsum] at hPS;have hsum:(openS (x.take (12 + z3))).2=0:=by simpa using hsum
 rw [hsum] at OP;have HD:=Lib.hid (fun (w5:World) (h:Below w1.heap.size w1 w5)=>show w5.cell? ⟨bx,ox + (8 + z3 + 4),none⟩=some (.int .u8 ((x.getD (12 + z3) 0).toNat:Int)) from by
  rw [show 8 + z3 + 4=12 + z3 by omega,← hcx0 (12 + z3) (by omega)]; exact h.cell (p:=⟨bx,ox + (12 + z3),none⟩) (by show bx < _; omega))
 have i1:(0:Int)≤8 + (z3:Int) + 4:=by omega
 have i2:8 + (z3:Int) + 4 < (nx:Int):=by omega
 have hd0:=byte_beq (x.getD (12 + z3) 0) 0
 by_cases hdn:x.getD (12 + z3) 0≠0
 ·rw [if_pos hdn] at hPS
  have HP:=Lib.hid hPS;have e8:(((x.getD (12 + z3) 0).toNat:Int) != 0)=true:=by
   rw [bne,show (0:Int)=((0:UInt8).toNat:Int) from rfl,hd0];simpa using hdn
  generalize x.getD (12 + z3) 0=xd at *;clear hb hl hle hcap hx hp hn h13 hx1 hw1 hnx hcx hA2 hPS hxl y1 y2 y3 hbe h87 hcx0 hfit hsh hsum hdn hd0;obtain ⟨q1,q2,q3,q4,q5,q6⟩:=HQ.out;go_enter Tryz.func282,Tryz.ntmps282
  go_wp2_with fail
  rw [HW.out];refine (hF.out).mono ?_;rintro e w2 ⟨rfl,b2⟩;have b12:=below_step b1 b2 (Nat.le_refl _);have K2:=K1.later b2;have b3:=alloc_one w2 (.cells #[.int .i64 (z1:Int),.int .u32 (z2:Int),.slice none 0 0] 217);have L3:=Blk.new w2 217 #[.int .i64 (z1:Int),.int .u32 (z2:Int),.slice none 0 0];have M3:=L3.three;go_wp2_with fail
  refine (FI.out _).mono ?_;rintro e w4 ⟨rfl,b4⟩;have b34:=b3.trans (b4.mono (by simp [World.size_alloc]));have b14:=below_step b12 b34 (Nat.le_refl _);have K4:=K2.later b34;have C4:=K4.three;have L4:=L3.later b4;have M4:=L4.three;go_wp2_with fail
  refine (OP.out w4 (b2.trans (b34.mono b2.size))).mono ?_;rintro e w5 ⟨A5,c5,rfl,o5,b5⟩;have b15:=below_step b14 b5 (Nat.le_refl _);have K5:=K4.later b5;have C5:=K5.three;have D5:=HD.out w5 (b2.trans ((b34.trans (b5.mono (Nat.le_trans b34.size (Nat.le_refl _)))).mono b2.size));obtain ⟨wz,hwz,⟨s0,s1,s2⟩,bz,_⟩:=rec_done K5 b15 (.int .i64 0) (.int .u32 0) (.slice none 0 0);have HZ:=Lib.hid hwz;clear hwz;go_wp2_with fail
  rw [HZ.out];exact bodyPost_ret (v:=.tuple #[.agg recZ,.int .i64 0,.int .i64 8]) (by simp [results,Tryz.results282,go_sem,s0,s1,s2,recZ]) rfl (par_no HP.out (by decide) bz)
 rw [if_neg hdn] at hPS;have hdn:x.getD (12 + z3) 0=0:=by simpa using hdn
 have e8:(((x.getD (12 + z3) 0).toNat:Int) != 0)=false:=by rw [hdn]; rfl
 have hcutd:∀ w',(Instr.slice 25 (.slice (some ⟨bx,ox,none⟩) nx cx) (some (.int .i64 8)) (some (.int .i64 (8 + (z3:Int)))) none).run Tryz.prog w'=.ok (.slice (if cx=8 then some ⟨bx,ox,none⟩ else (some ⟨bx,ox,none⟩:Option Addr).map (·.add 8)) z3 (cx - 8)) w':=fun w' =>
  run_cut 8 z3 (by omega) hx1.le hx1.cap w'
 have hxd:=(hx1.drop (k:=8) (by omega)).take (k:=z3) (by omega);have RX:=Lib.hid (fun (w5:World) (h:Below w1.heap.size w1 w5)=>hxd.below (h.mono (show B≤w1.heap.size by omega)));have hxe:(x.drop 8).take z3=Oct.cut x 8 z3:=rfl;have HZ3:=Lib.hid (show z3≤140737488355328 by omega);have hlen:(Oct.cut x 8 z3).length=z3:=Oct.cut_length _ _ _ (by omega);have HL:=Lib.hid hlen;have HP:=Lib.hid hPS;rw [hxe] at RX;generalize Oct.cut x 8 z3=dd at *;generalize hgA:(if cx=8 then some ⟨bx,ox,none⟩ else (some ⟨bx,ox,none⟩:Option Addr).map (·.add 8))=A3 at *;generalize x.getD (12 + z3) 0=xd at *;have HB2:=Lib.hid hB;have HQW:=Lib.hid (show wrap64 (wrap64 ((p:Int) + (z3:Int)) + 13)=((p + z3 + 13:Nat):Int) from by rw [IntWalk.wrap64_in ((p:Int) + (z3:Int)) (by omega),IntWalk.wrap64_in _ (by omega)]; omega);clear hb hl hle hcap hx hp hn h13 hx1 hw1 hnx hcx hA2 hPS hxl y1 y2 y3 hbe h87 hcx0 hfit hsh hsum hdn hd0 hxd hxe hgA hlen;obtain ⟨q1,q2,q3,q4,q5,q6⟩:=HQ.out;go_enter Tryz.func282,Tryz.ntmps282
 go_wp2_with fail
 rw [HW.out];refine (hF.out).mono ?_;rintro e w2 ⟨rfl,b2⟩;have b12:=below_step b1 b2 (Nat.le_refl _);have K2:=K1.later b2;have b3:=alloc_one w2 (.cells #[.int .i64 (z1:Int),.int .u32 (z2:Int),.slice none 0 0] 217);have L3:=Blk.new w2 217 #[.int .i64 (z1:Int),.int .u32 (z2:Int),.slice none 0 0];have M3:=L3.three;go_wp2_with fail
 refine (FI.out _).mono ?_;rintro e w4 ⟨rfl,b4⟩;have b34:=b3.trans (b4.mono (by simp [World.size_alloc]));have b14:=below_step b12 b34 (Nat.le_refl _);have K4:=K2.later b34;have C4:=K4.three;have L4:=L3.later b4;have M4:=L4.three;go_wp2_with fail
 refine (OP.out w4 (b2.trans (b34.mono b2.size))).mono ?_;rintro e w5 ⟨A5,c5,rfl,o5,b5⟩;have b15:=below_step b14 b5 (Nat.le_refl _);have K5:=K4.later b5;have C5:=K5.three;have D5:=HD.out w5 (b2.trans ((b34.trans (b5.mono (Nat.le_trans b34.size (Nat.le_refl _)))).mono b2.size));have L5:=L4.later b5;have hB5:B≤w5.heap.size:=Nat.le_trans HB2.out b15.size;have RX5:=Lib.hid (RX.out w5 (b2.trans (b34.mono b2.size |>.trans (b5.mono (Nat.le_trans b2.size b34.size)))));have h25:w2.heap.size < w5.heap.size:=L5.lt;have h05:w.heap.size < w2.heap.size:=K2.lt;clear RX HD C4 M3 M4 K2 K4 L3 L4 C5 OP FI hF;go_wp2_with (at_builtin; refine wpList_appb_nil etb rfl (.const (.slice none 0 0)) (.tmp 77) rfl rfl rfl B RX5.out HZ3.out hB5 ?_; intro A6 c6 w6 o6 b6; have L6:=L5.later b6; obtain ⟨m0,m1,m2,m3,m4,m5⟩:=L6.three; have K6:=K5.later b6; have C6:=K6.three)
 have b16:=below_step b15 b6 (Nat.le_refl _);have b17:Below w.heap.size w (w6.setCell ⟨w2.heap.size,2,none⟩ (.slice A6 z3 c6)):=b16.setCell (by show w.heap.size≤w2.heap.size; omega) _;have K7:=K6.far (p:=⟨w2.heap.size,2,none⟩) (by show w.heap.size≠w2.heap.size; omega) (.slice A6 z3 c6);have o7:=OB.far o6 h25 2 (.slice A6 z3 c6);obtain ⟨wz,hwz,⟨s0,s1,s2⟩,bz,mz⟩:=rec_done K7 b17 (.int .i64 (z1:Int)) (.int .u32 (z2:Int)) (.slice A6 z3 c6);have o8:=OB.far3 o7 (g:=w.heap.size) (by omega) 0 1 2 (.int .i64 (z1:Int)) (.int .u32 (z2:Int)) (.slice A6 z3 c6);rw [hwz] at o8;rw [hwz,HQW.out];have o9:OB wz w.heap.size A6 (Jr.Rec.mk z1 z2 dd).data.length c6 (Jr.Rec.mk z1 z2 dd).data:=by
  show OB wz w.heap.size A6 dd.length c6 dd;rw [HL.out];exact o8.more (by omega)
 have hpy:=HP.out;refine bodyPost_ret (v:=.tuple #[recV ⟨z1,z2,dd⟩ A6 c6,.int .i64 ((p + z3 + 13:Nat):Int),.int .i64 0]) (by simp [results,Tryz.results282,go_sem,s0,s1,s2,recV,HL.out]) rfl (par_yes hpy o9 bz)
end Go.Proofs.YtijegngfclkdaaaGreatDoor
namespace Go.Proofs.YtijegngfclkdaaaGreatDoor.Jr
open Go.RowKit Go.Proofs.YtijegngfclkdaaaGreatDoor
def Ok (r:Rec):Prop:=0 < r.num∧r.num < 4294967296∧((r.kind=1∧r.data.length≤960)∨(r.kind=2∧r.data=[]))
end Go.Proofs.YtijegngfclkdaaaGreatDoor.Jr
