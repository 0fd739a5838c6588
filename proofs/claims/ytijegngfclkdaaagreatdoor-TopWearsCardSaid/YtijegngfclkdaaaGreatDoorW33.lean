/-
  Pieces of the proof: part 33 of 54.
  Conditions: none.
-/
import Derived.Test.YtijegngfclkdaaaGreatDoorW17
import Derived.Test.YtijegngfclkdaaaGreatDoorW22
import Derived.Test.YtijegngfclkdaaaGreatDoorW23
set_option linter.unusedVariables false
set_option linter.unusedSimpArgs false
set_option maxHeartbeats 100000000
set_option maxRecDepth 100000
namespace Go.Proofs.YtijegngfclkdaaaGreatDoor
open Go.RowKit
theorem getD_T (s:List UInt8) (k:Nat) (h:k < s.length):s.drop k=s.getD k 0 :: s.drop (k + 1):=by
 rw [List.drop_eq_getElem_cons h,List.getD_eq_getElem?_getD,List.getElem?_eq_getElem h];rfl
theorem ent_byte_ne {c d:UInt8} {k:Int} (h:c≠d) (hk:(d.toNat:Int)=k):((c.toNat:Int) == k)=false:=by
 rw [beq_eq_false_iff_ne];intro e;exact h (UInt8.toNat_inj.1 (by omega))
theorem all_step {p:UInt8→Bool} {s:List UInt8} {k:Nat} (h:k < s.length):(s.drop k).all p=(p (s.getD k 0) && (s.drop (k + 1)).all p):=by rw [getD_T s k h,List.all_cons]
theorem eletter_any (c:UInt8) (w:World):Calls Tryz.prog 175 #[.int .u8 (c.toNat:Int)] w fun e w'=>e=.returned (.bool (Ent.low c))∧w=w':=by
 have hc:=byte_lt c
 by_cases h1:97≤c.toNat
 all_goals
  go_enter Tryz.func175,Tryz.ntmps175
  go_wp2_with fail
  go_ret
  exact ⟨ret_bool (by rw [Bool.eq_iff_iff]; simp [Ent.low] <;> omega),rfl⟩
theorem einner_any (c:UInt8) (w:World):Calls Tryz.prog 176 #[.int .u8 (c.toNat:Int)] w fun e w'=>e=.returned (.bool (Ent.inner c))∧w=w':=by
 have hc:=byte_lt c;have L:=eletter_any c w;generalize hl:Ent.low c=l at *;replace L:=Lib.hid L;have HL:=Lib.hid hl; clear hl;cases l with
 | true =>
  go_enter Tryz.func176,Tryz.ntmps176
  go_wp2_with fail
  refine (L.out).mono ?_;rintro e _ ⟨rfl,rfl⟩;go_wp2_with fail
  go_ret
  exact ⟨ret_bool (by unfold Ent.inner; rw [HL.out]; rfl),rfl⟩
 | false =>
  by_cases h1:48≤c.toNat
  ·by_cases h2:c.toNat≤57
   ·go_enter Tryz.func176,Tryz.ntmps176
    go_wp2_with fail
    refine (L.out).mono ?_;rintro e _ ⟨rfl,rfl⟩;go_wp2_with fail
    go_ret
    exact ⟨ret_bool (by unfold Ent.inner Ty.isD; rw [decide_eq_true ⟨h1,h2⟩]; simp),rfl⟩
   ·by_cases h3:c=95
    ·subst h3
     go_enter Tryz.func176,Tryz.ntmps176
     go_wp2_with fail
     refine (L.out).mono ?_;rintro e _ ⟨rfl,rfl⟩;go_wp2_with fail
     go_ret
     exact ⟨rfl,rfl⟩
    ·have e3:=ent_byte_ne (k:=95) h3 rfl
     go_enter Tryz.func176,Tryz.ntmps176
     go_wp2_with fail
     refine (L.out).mono ?_;rintro e _ ⟨rfl,rfl⟩;go_wp2_with fail
     go_ret
     exact ⟨ret_bool (by unfold Ent.inner; rw [HL.out]; unfold Ty.isD; rw [decide_eq_false (by omega:¬(48≤c.toNat∧c.toNat≤57)),beq_false_of_ne h3]; simp <;> omega),rfl⟩
  ·have h3:c≠95:=by rintro rfl; exact h1 (by decide)
   have e3:=ent_byte_ne (k:=95) h3 rfl;go_enter Tryz.func176,Tryz.ntmps176
   go_wp2_with fail
   refine (L.out).mono ?_;rintro e _ ⟨rfl,rfl⟩;go_wp2_with fail
   go_ret
   exact ⟨ret_bool (by unfold Ent.inner; rw [HL.out]; unfold Ty.isD; rw [decide_eq_false (by omega:¬(48≤c.toNat∧c.toNat≤57)),beq_false_of_ne h3]; simp <;> omega),rfl⟩
theorem name_long {s:List UInt8} (h:16 < s.length):Ent.nameB s=false:=by unfold Ent.nameB; rw [decide_eq_false (by omega)]; rfl
theorem name_first {c:UInt8} {r:List UInt8} (h:Ent.low c=false):Ent.nameB (c :: r)=false:=by unfold Ent.nameB; simp [h]
theorem name_rest {c:UInt8} {r:List UInt8} (h:Ent.low c=true) (hl:(c :: r).length≤16):Ent.nameB (c :: r)=(c :: r).all Ent.inner:=by unfold Ent.nameB; rw [decide_eq_true ⟨by simp,hl⟩]; simp [h]
theorem Name_any (s:List UInt8) (w:World) (hs:s.length≤9223372036854775807):Calls Tryz.prog 119 #[.string (T s)] w fun e w'=>e=.returned (.bool (Ent.nameB s))∧w=w':=by
 have hT:=T_size s;cases s with
 | nil =>
  go_enter Tryz.func119,Tryz.ntmps119
  have h0:T []=(⟨#[]⟩:ByteArray):=rfl;go_wp2_with fail
  go_ret
  exact ⟨rfl,rfl⟩
 | cons c r =>
  have htl:=T_toList (c :: r);have hne:((c :: r:List UInt8) == [])=false:=rfl
  by_cases hl:16 < (c :: r).length
  ·have HV:=Lib.hid (name_long hl)
   generalize (c :: r:List UInt8)=s at *;go_enter Tryz.func119,Tryz.ntmps119
   go_wp2_with fail
   go_ret
   exact ⟨by rw [HV.out]; rfl,rfl⟩
  have hat0:=fun w=>run_T_at (c :: r) .i64 0 0 rfl (by simp) w
  rw [show (c :: r).getD 0 0=c from rfl] at hat0;have L:=fun w=>eletter_any c w
  cases hlo:Ent.low c with
  | false =>
   rw [hlo] at L;have HV:=Lib.hid (name_first (r:=r) hlo);replace L:=Lib.hid L;clear hlo;generalize (c :: r:List UInt8)=s at *;go_enter Tryz.func119,Tryz.ntmps119
   go_wp2_with fail
   refine (L.out _).mono ?_;rintro e _ ⟨rfl,rfl⟩;go_wp2_with fail
   go_ret
   exact ⟨by rw [HV.out]; rfl,rfl⟩
  | true =>
   rw [hlo] at L;have HV:Hid (Ent.nameB (c :: r)=((c :: r).drop 0).all Ent.inner):=Lib.hid (by rw [List.drop_zero]; exact name_rest hlo (by omega));replace L:=Lib.hid L;clear hlo;have hpos:0 < (c :: r).length:=by simp
   generalize (c :: r:List UInt8)=s at *;generalize Ent.nameB s=res at *;go_enter Tryz.func119,Tryz.ntmps119
   go_wp2_with fail
   refine (L.out _).mono ?_;rintro e w ⟨rfl,rfl⟩;go_wp2_with fail
   go_loop [2,19] (fun x v=>x=.bool false∧∃ k:Nat,k≤s.length∧v=.int .i64 k∧Hid (res=(s.drop k).all Ent.inner)) (fun _ v=>s.length - (intOf v).toNat)
   case atStart=>exact ⟨rfl,0,by omega,rfl,HV⟩
   case round =>
    obtain ⟨rfl,k,hk,rfl,hq⟩:=hrel
    by_cases hlt:k < s.length
    ·have hat:=fun w=>run_T_at s .i64 k k rfl hlt w
     have hst:=hq.out;rw [all_step hlt] at hst;have I:=fun w=>einner_any (s.getD k 0) w
     clear hq;generalize s.getD k 0=d at *;cases hi:Ent.inner d with
     | true =>
      rw [hi] at I hst;rw [Bool.true_and] at hst;have HQ:=Lib.hid hst;replace I:=Lib.hid I;clear hst hi;go_wp2_with fail
      refine (I.out _).mono ?_;rintro e w ⟨rfl,rfl⟩;go_wp2_with fail
      go_round
      case rel=>exact ⟨rfl,k + 1,by omega,by go_num,HQ⟩
      case measure=>simp [intOf] <;> omega
     | false =>
      rw [hi] at I hst;rw [Bool.false_and] at hst;have HQ:=Lib.hid hst;replace I:=Lib.hid I;clear hst hi;go_wp2_with fail
      refine (I.out _).mono ?_;rintro e w ⟨rfl,rfl⟩;go_wp2_with fail
      go_ret
      exact ⟨by rw [HQ.out]; rfl,rfl⟩
    ·have HQ:Hid (res=true):=Lib.hid (by rw [hq.out,List.drop_of_length_le (by omega)]; rfl)
     clear hq;obtain rfl:k=s.length:=by omega
     go_wp2_with fail
     go_ret
     exact ⟨by rw [HQ.out]; rfl,rfl⟩
end Go.Proofs.YtijegngfclkdaaaGreatDoor
namespace Go.Proofs.YtijegngfclkdaaaGreatDoor
open Go.RowKit
theorem Right_any (e:Ent.En) {A:Option Addr} {n c B:Nat} (w:World) (hb:RB w B A n c e.dflt) (hB:B≤w.heap.size) (hn:e.name.length≤9223372036854775807):Calls Tryz.prog 77 #[enV e A n c] w fun x w'=>x=.returned (.int .i64 (Ent.rightS e))∧Below w.heap.size w w':=by
 obtain ⟨ix,sb,nm,ty,ac,mp,st,mx,lo,hi,df⟩:=e;dsimp only at hb hn;have L:=fun w=>Limits_any ty w
 have NM:=fun w=>Name_any nm w hn
 have KN:=fun w=>TKnown_any ty w
 have FL:=fun w=>flags_any ⟨ix,sb,nm,ty,ac,mp,st,mx,lo,hi,df⟩ A n c w
 have NB:=fun w=>numbered_any ⟨ix,sb,nm,ty,ac,mp,st,mx,lo,hi,df⟩ A n c (Ty.limS ty).1 (Ty.limS ty).2.1 w
 have SZ:=fun w=>sized_any ⟨ix,sb,nm,ty,ac,mp,st,mx,lo,hi,df⟩ A n c w
 have VL:=fun (w1:World) (h:Below w.heap.size w w1)=>EValue_any ⟨ix,sb,nm,ty,ac,mp,st,mx,lo,hi,df⟩ A n c w1 (hb.below (h.mono hB)) (Nat.le_trans hB h.size)
 unfold knownB at KN;unfold LimPost at L;unfold enV at FL NB SZ VL;dsimp only at FL NB SZ VL;unfold enV;dsimp only;have hR:Ent.rightS ⟨ix,sb,nm,ty,ac,mp,st,mx,lo,hi,df⟩=if ix < 1∨65535 < ix∨sb < 0∨255 < sb then 9 else if Ent.nameB nm=false then 14 else if (Ty.kd ty).name=[] then 15 else if Ent.flagsB ⟨ix,sb,nm,ty,ac,mp,st,mx,lo,hi,df⟩=false then 1 else if Ent.limB ⟨ix,sb,nm,ty,ac,mp,st,mx,lo,hi,df⟩=false then 1 else if Ent.valS ⟨ix,sb,nm,ty,ac,mp,st,mx,lo,hi,df⟩ df≠0 then 4 else 0:=rfl
 have hLB:Ent.limB ⟨ix,sb,nm,ty,ac,mp,st,mx,lo,hi,df⟩=if (Ty.limS ty).2.2=true then Ent.numberedB ⟨ix,sb,nm,ty,ac,mp,st,mx,lo,hi,df⟩ (Ty.limS ty).1 (Ty.limS ty).2.1 else Ent.sizedB ⟨ix,sb,nm,ty,ac,mp,st,mx,lo,hi,df⟩:=rfl
 rw [hLB] at hR;generalize Ent.rightS ⟨ix,sb,nm,ty,ac,mp,st,mx,lo,hi,df⟩=res at *;generalize Ent.flagsB ⟨ix,sb,nm,ty,ac,mp,st,mx,lo,hi,df⟩=fb at *;generalize Ent.numberedB ⟨ix,sb,nm,ty,ac,mp,st,mx,lo,hi,df⟩ (Ty.limS ty).1 (Ty.limS ty).2.1=nb at *;generalize Ent.sizedB ⟨ix,sb,nm,ty,ac,mp,st,mx,lo,hi,df⟩=sz at *;generalize Ent.valS ⟨ix,sb,nm,ty,ac,mp,st,mx,lo,hi,df⟩ df=vl at *;generalize Ent.nameB nm=nmb at *;generalize (Ty.limS ty).1=llo at *;generalize (Ty.limS ty).2.1=lhi at *;generalize (Ty.limS ty).2.2=num at *;clear hLB hb hn
 by_cases r1:ix < 1
 ·rw [if_pos (by omega)] at hR
  have HV:=Lib.hid hR;replace L:=Lib.hid L; replace NM:=Lib.hid NM; replace KN:=Lib.hid KN; replace FL:=Lib.hid FL; replace NB:=Lib.hid NB; replace SZ:=Lib.hid SZ; replace VL:=Lib.hid VL;clear hR;go_enter Tryz.func77,Tryz.ntmps77
  go_wp2_with fail
  refine (L.out _).mono ?_;rintro x w1 ⟨rfl,b1⟩;have K1:=Blk.made b1;have d1:=below_step (alloc_one _ _) b1 (Nat.le_refl _);have F1:=K1.eleven;go_wp2_with fail
  go_ret
  exact ⟨by rw [HV.out]; rfl,d1⟩
 by_cases r2:65535 < ix
 ·rw [if_pos (by omega)] at hR
  have HV:=Lib.hid hR;replace L:=Lib.hid L; replace NM:=Lib.hid NM; replace KN:=Lib.hid KN; replace FL:=Lib.hid FL; replace NB:=Lib.hid NB; replace SZ:=Lib.hid SZ; replace VL:=Lib.hid VL;clear hR;go_enter Tryz.func77,Tryz.ntmps77
  go_wp2_with fail
  refine (L.out _).mono ?_;rintro x w1 ⟨rfl,b1⟩;have K1:=Blk.made b1;have d1:=below_step (alloc_one _ _) b1 (Nat.le_refl _);have F1:=K1.eleven;go_wp2_with fail
  go_ret
  exact ⟨by rw [HV.out]; rfl,d1⟩
 by_cases r3:sb < 0
 ·rw [if_pos (by omega)] at hR
  have HV:=Lib.hid hR;replace L:=Lib.hid L; replace NM:=Lib.hid NM; replace KN:=Lib.hid KN; replace FL:=Lib.hid FL; replace NB:=Lib.hid NB; replace SZ:=Lib.hid SZ; replace VL:=Lib.hid VL;clear hR;go_enter Tryz.func77,Tryz.ntmps77
  go_wp2_with fail
  refine (L.out _).mono ?_;rintro x w1 ⟨rfl,b1⟩;have K1:=Blk.made b1;have d1:=below_step (alloc_one _ _) b1 (Nat.le_refl _);have F1:=K1.eleven;go_wp2_with fail
  go_ret
  exact ⟨by rw [HV.out]; rfl,d1⟩
 by_cases r4:255 < sb
 ·rw [if_pos (by omega)] at hR
  have HV:=Lib.hid hR;replace L:=Lib.hid L; replace NM:=Lib.hid NM; replace KN:=Lib.hid KN; replace FL:=Lib.hid FL; replace NB:=Lib.hid NB; replace SZ:=Lib.hid SZ; replace VL:=Lib.hid VL;clear hR;go_enter Tryz.func77,Tryz.ntmps77
  go_wp2_with fail
  refine (L.out _).mono ?_;rintro x w1 ⟨rfl,b1⟩;have K1:=Blk.made b1;have d1:=below_step (alloc_one _ _) b1 (Nat.le_refl _);have F1:=K1.eleven;go_wp2_with fail
  go_ret
  exact ⟨by rw [HV.out]; rfl,d1⟩
 rw [if_neg (by omega)] at hR;cases nmb with
 | false =>
  rw [if_pos rfl] at hR;have HV:=Lib.hid hR;replace L:=Lib.hid L; replace NM:=Lib.hid NM; replace KN:=Lib.hid KN; replace FL:=Lib.hid FL; replace NB:=Lib.hid NB; replace SZ:=Lib.hid SZ; replace VL:=Lib.hid VL;clear hR;go_enter Tryz.func77,Tryz.ntmps77
  go_wp2_with fail
  refine (L.out _).mono ?_;rintro x w1 ⟨rfl,b1⟩;have K1:=Blk.made b1;have d1:=below_step (alloc_one _ _) b1 (Nat.le_refl _);have F1:=K1.eleven;go_wp2_with fail
  refine (NM.out _).mono ?_;rintro x _ ⟨rfl,rfl⟩;go_wp2_with fail
  go_ret
  exact ⟨by rw [HV.out]; rfl,d1⟩
 | true =>
 rw [if_neg (by decide)] at hR
 by_cases hk:(Ty.kd ty).name=[]
 ·rw [if_pos hk] at hR
  rw [hk] at KN;have HV:=Lib.hid hR;replace L:=Lib.hid L; replace NM:=Lib.hid NM; replace KN:=Lib.hid KN; replace FL:=Lib.hid FL; replace NB:=Lib.hid NB; replace SZ:=Lib.hid SZ; replace VL:=Lib.hid VL;clear hR hk;go_enter Tryz.func77,Tryz.ntmps77
  go_wp2_with fail
  refine (L.out _).mono ?_;rintro x w1 ⟨rfl,b1⟩;have K1:=Blk.made b1;have d1:=below_step (alloc_one _ _) b1 (Nat.le_refl _);have F1:=K1.eleven;go_wp2_with fail
  refine (NM.out _).mono ?_;rintro x _ ⟨rfl,rfl⟩;go_wp2_with fail
  refine (KN.out _).mono ?_;rintro x w2 ⟨rfl,b2⟩;replace K1:=K1.later b2;replace d1:=below_step d1 b2 (Nat.le_refl _);replace F1:=K1.eleven;go_wp2_with fail
  go_ret
  exact ⟨by rw [HV.out]; rfl,d1⟩
 rw [if_neg hk] at hR;have hk2:(!(Ty.kd ty).name.isEmpty)=true:=by
  cases h:(Ty.kd ty).name with
  | nil=>exact absurd h hk
  | cons a b=>rfl
 rw [hk2] at KN;clear hk hk2;cases fb with
 | false =>
  rw [if_pos rfl] at hR;have HV:=Lib.hid hR;replace L:=Lib.hid L; replace NM:=Lib.hid NM; replace KN:=Lib.hid KN; replace FL:=Lib.hid FL; replace NB:=Lib.hid NB; replace SZ:=Lib.hid SZ; replace VL:=Lib.hid VL;clear hR;go_enter Tryz.func77,Tryz.ntmps77
  go_wp2_with fail
  refine (L.out _).mono ?_;rintro x w1 ⟨rfl,b1⟩;have K1:=Blk.made b1;have d1:=below_step (alloc_one _ _) b1 (Nat.le_refl _);have F1:=K1.eleven;go_wp2_with fail
  refine (NM.out _).mono ?_;rintro x _ ⟨rfl,rfl⟩;go_wp2_with fail
  refine (KN.out _).mono ?_;rintro x w2 ⟨rfl,b2⟩;replace K1:=K1.later b2;replace d1:=below_step d1 b2 (Nat.le_refl _);replace F1:=K1.eleven;go_wp2_with fail
  refine (FL.out _).mono ?_;rintro x w3 ⟨rfl,b3⟩;replace K1:=K1.later b3;replace d1:=below_step d1 b3 (Nat.le_refl _);replace F1:=K1.eleven;go_wp2_with fail
  go_ret
  exact ⟨by rw [HV.out]; rfl,d1⟩
 | true =>
 rw [if_neg (by decide)] at hR;cases num with
 | true =>
  rw [show (if true=true then nb else sz)=nb from rfl] at hR;cases nb with
  | false =>
   rw [if_pos rfl] at hR;have HV:=Lib.hid hR;replace L:=Lib.hid L; replace NM:=Lib.hid NM; replace KN:=Lib.hid KN; replace FL:=Lib.hid FL; replace NB:=Lib.hid NB; replace SZ:=Lib.hid SZ; replace VL:=Lib.hid VL;clear hR;go_enter Tryz.func77,Tryz.ntmps77
   go_wp2_with fail
   refine (L.out _).mono ?_;rintro x w1 ⟨rfl,b1⟩;have K1:=Blk.made b1;have d1:=below_step (alloc_one _ _) b1 (Nat.le_refl _);have F1:=K1.eleven;go_wp2_with fail
   refine (NM.out _).mono ?_;rintro x _ ⟨rfl,rfl⟩;go_wp2_with fail
   refine (KN.out _).mono ?_;rintro x w2 ⟨rfl,b2⟩;replace K1:=K1.later b2;replace d1:=below_step d1 b2 (Nat.le_refl _);replace F1:=K1.eleven;go_wp2_with fail
   refine (FL.out _).mono ?_;rintro x w3 ⟨rfl,b3⟩;replace K1:=K1.later b3;replace d1:=below_step d1 b3 (Nat.le_refl _);replace F1:=K1.eleven;go_wp2_with fail
   refine (NB.out _).mono ?_;rintro x w4 ⟨rfl,b4⟩;replace K1:=K1.later b4;replace d1:=below_step d1 b4 (Nat.le_refl _);replace F1:=K1.eleven;go_wp2_with fail
   go_ret
   exact ⟨by rw [HV.out]; rfl,d1⟩
  | true =>
   rw [if_neg (by decide)] at hR
   by_cases hv:vl=0
   ·subst hv
    rw [if_neg (by decide)] at hR;have HV:=Lib.hid hR;replace L:=Lib.hid L; replace NM:=Lib.hid NM; replace KN:=Lib.hid KN; replace FL:=Lib.hid FL; replace NB:=Lib.hid NB; replace SZ:=Lib.hid SZ; replace VL:=Lib.hid VL;clear hR;go_enter Tryz.func77,Tryz.ntmps77
    go_wp2_with fail
    refine (L.out _).mono ?_;rintro x w1 ⟨rfl,b1⟩;have K1:=Blk.made b1;have d1:=below_step (alloc_one _ _) b1 (Nat.le_refl _);have F1:=K1.eleven;go_wp2_with fail
    refine (NM.out _).mono ?_;rintro x _ ⟨rfl,rfl⟩;go_wp2_with fail
    refine (KN.out _).mono ?_;rintro x w2 ⟨rfl,b2⟩;replace K1:=K1.later b2;replace d1:=below_step d1 b2 (Nat.le_refl _);replace F1:=K1.eleven;go_wp2_with fail
    refine (FL.out _).mono ?_;rintro x w3 ⟨rfl,b3⟩;replace K1:=K1.later b3;replace d1:=below_step d1 b3 (Nat.le_refl _);replace F1:=K1.eleven;go_wp2_with fail
    refine (NB.out _).mono ?_;rintro x w4 ⟨rfl,b4⟩;replace K1:=K1.later b4;replace d1:=below_step d1 b4 (Nat.le_refl _);replace F1:=K1.eleven;go_wp2_with fail
    refine (VL.out _ d1).mono ?_;rintro x w5 ⟨rfl,b5⟩;replace K1:=K1.later b5;replace d1:=below_step d1 b5 (Nat.le_refl _);replace F1:=K1.eleven;go_wp2_with fail
    go_ret
    exact ⟨by rw [HV.out]; rfl,d1⟩
   ·rw [if_pos hv] at hR
    have ev:(vl != 0)=true:=by simpa using hv
    have HV:=Lib.hid hR;replace L:=Lib.hid L; replace NM:=Lib.hid NM; replace KN:=Lib.hid KN; replace FL:=Lib.hid FL; replace NB:=Lib.hid NB; replace SZ:=Lib.hid SZ; replace VL:=Lib.hid VL;clear hR hv;go_enter Tryz.func77,Tryz.ntmps77
    go_wp2_with fail
    refine (L.out _).mono ?_;rintro x w1 ⟨rfl,b1⟩;have K1:=Blk.made b1;have d1:=below_step (alloc_one _ _) b1 (Nat.le_refl _);have F1:=K1.eleven;go_wp2_with fail
    refine (NM.out _).mono ?_;rintro x _ ⟨rfl,rfl⟩;go_wp2_with fail
    refine (KN.out _).mono ?_;rintro x w2 ⟨rfl,b2⟩;replace K1:=K1.later b2;replace d1:=below_step d1 b2 (Nat.le_refl _);replace F1:=K1.eleven;go_wp2_with fail
    refine (FL.out _).mono ?_;rintro x w3 ⟨rfl,b3⟩;replace K1:=K1.later b3;replace d1:=below_step d1 b3 (Nat.le_refl _);replace F1:=K1.eleven;go_wp2_with fail
    refine (NB.out _).mono ?_;rintro x w4 ⟨rfl,b4⟩;replace K1:=K1.later b4;replace d1:=below_step d1 b4 (Nat.le_refl _);replace F1:=K1.eleven;go_wp2_with fail
    refine (VL.out _ d1).mono ?_;rintro x w5 ⟨rfl,b5⟩;replace K1:=K1.later b5;replace d1:=below_step d1 b5 (Nat.le_refl _);replace F1:=K1.eleven;go_wp2_with fail
    go_ret
    exact ⟨by rw [HV.out]; rfl,d1⟩
 | false =>
  rw [show (if false=true then nb else sz)=sz from rfl] at hR;cases sz with
  | false =>
   rw [if_pos rfl] at hR;have HV:=Lib.hid hR;replace L:=Lib.hid L; replace NM:=Lib.hid NM; replace KN:=Lib.hid KN; replace FL:=Lib.hid FL; replace NB:=Lib.hid NB; replace SZ:=Lib.hid SZ; replace VL:=Lib.hid VL;clear hR;go_enter Tryz.func77,Tryz.ntmps77
   go_wp2_with fail
   refine (L.out _).mono ?_;rintro x w1 ⟨rfl,b1⟩;have K1:=Blk.made b1;have d1:=below_step (alloc_one _ _) b1 (Nat.le_refl _);have F1:=K1.eleven;go_wp2_with fail
   refine (NM.out _).mono ?_;rintro x _ ⟨rfl,rfl⟩;go_wp2_with fail
   refine (KN.out _).mono ?_;rintro x w2 ⟨rfl,b2⟩;replace K1:=K1.later b2;replace d1:=below_step d1 b2 (Nat.le_refl _);replace F1:=K1.eleven;go_wp2_with fail
   refine (FL.out _).mono ?_;rintro x w3 ⟨rfl,b3⟩;replace K1:=K1.later b3;replace d1:=below_step d1 b3 (Nat.le_refl _);replace F1:=K1.eleven;go_wp2_with fail
   refine (SZ.out _).mono ?_;rintro x w4 ⟨rfl,b4⟩;replace K1:=K1.later b4;replace d1:=below_step d1 b4 (Nat.le_refl _);replace F1:=K1.eleven;go_wp2_with fail
   go_ret
   exact ⟨by rw [HV.out]; rfl,d1⟩
  | true =>
   rw [if_neg (by decide)] at hR
   by_cases hv:vl=0
   ·subst hv
    rw [if_neg (by decide)] at hR;have HV:=Lib.hid hR;replace L:=Lib.hid L; replace NM:=Lib.hid NM; replace KN:=Lib.hid KN; replace FL:=Lib.hid FL; replace NB:=Lib.hid NB; replace SZ:=Lib.hid SZ; replace VL:=Lib.hid VL;clear hR;go_enter Tryz.func77,Tryz.ntmps77
    go_wp2_with fail
    refine (L.out _).mono ?_;rintro x w1 ⟨rfl,b1⟩;have K1:=Blk.made b1;have d1:=below_step (alloc_one _ _) b1 (Nat.le_refl _);have F1:=K1.eleven;go_wp2_with fail
    refine (NM.out _).mono ?_;rintro x _ ⟨rfl,rfl⟩;go_wp2_with fail
    refine (KN.out _).mono ?_;rintro x w2 ⟨rfl,b2⟩;replace K1:=K1.later b2;replace d1:=below_step d1 b2 (Nat.le_refl _);replace F1:=K1.eleven;go_wp2_with fail
    refine (FL.out _).mono ?_;rintro x w3 ⟨rfl,b3⟩;replace K1:=K1.later b3;replace d1:=below_step d1 b3 (Nat.le_refl _);replace F1:=K1.eleven;go_wp2_with fail
    refine (SZ.out _).mono ?_;rintro x w4 ⟨rfl,b4⟩;replace K1:=K1.later b4;replace d1:=below_step d1 b4 (Nat.le_refl _);replace F1:=K1.eleven;go_wp2_with fail
    refine (VL.out _ d1).mono ?_;rintro x w5 ⟨rfl,b5⟩;replace K1:=K1.later b5;replace d1:=below_step d1 b5 (Nat.le_refl _);replace F1:=K1.eleven;go_wp2_with fail
    go_ret
    exact ⟨by rw [HV.out]; rfl,d1⟩
   ·rw [if_pos hv] at hR
    have ev:(vl != 0)=true:=by simpa using hv
    have HV:=Lib.hid hR;replace L:=Lib.hid L; replace NM:=Lib.hid NM; replace KN:=Lib.hid KN; replace FL:=Lib.hid FL; replace NB:=Lib.hid NB; replace SZ:=Lib.hid SZ; replace VL:=Lib.hid VL;clear hR hv;go_enter Tryz.func77,Tryz.ntmps77
    go_wp2_with fail
    refine (L.out _).mono ?_;rintro x w1 ⟨rfl,b1⟩;have K1:=Blk.made b1;have d1:=below_step (alloc_one _ _) b1 (Nat.le_refl _);have F1:=K1.eleven;go_wp2_with fail
    refine (NM.out _).mono ?_;rintro x _ ⟨rfl,rfl⟩;go_wp2_with fail
    refine (KN.out _).mono ?_;rintro x w2 ⟨rfl,b2⟩;replace K1:=K1.later b2;replace d1:=below_step d1 b2 (Nat.le_refl _);replace F1:=K1.eleven;go_wp2_with fail
    refine (FL.out _).mono ?_;rintro x w3 ⟨rfl,b3⟩;replace K1:=K1.later b3;replace d1:=below_step d1 b3 (Nat.le_refl _);replace F1:=K1.eleven;go_wp2_with fail
    refine (SZ.out _).mono ?_;rintro x w4 ⟨rfl,b4⟩;replace K1:=K1.later b4;replace d1:=below_step d1 b4 (Nat.le_refl _);replace F1:=K1.eleven;go_wp2_with fail
    refine (VL.out _ d1).mono ?_;rintro x w5 ⟨rfl,b5⟩;replace K1:=K1.later b5;replace d1:=below_step d1 b5 (Nat.le_refl _);replace F1:=K1.eleven;go_wp2_with fail
    go_ret
    exact ⟨by rw [HV.out]; rfl,d1⟩
end Go.Proofs.YtijegngfclkdaaaGreatDoor
