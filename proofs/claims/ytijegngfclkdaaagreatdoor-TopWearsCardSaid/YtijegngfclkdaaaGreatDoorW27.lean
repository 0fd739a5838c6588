/-
  Pieces of the proof: part 27 of 54.
  Conditions: none.
-/
import Derived.Test.YtijegngfclkdaaaGreatDoorW13
import Derived.Test.YtijegngfclkdaaaGreatDoorW16
import Derived.Test.YtijegngfclkdaaaGreatDoorW18
import Derived.Test.YtijegngfclkdaaaGreatDoorW26
set_option linter.unusedVariables false
set_option linter.unusedSimpArgs false
set_option maxHeartbeats 100000000
set_option maxRecDepth 100000
namespace Go.Proofs.YtijegngfclkdaaaGreatDoor
open Go.RowKit
section
variable {w w':World} {base g n c m c':Nat} {A A':Option Addr} {f:Fla}
theorem torn_wrap (z:Int) (h:0≤z):IntKind.u8.wrap z=((UInt8.ofNat (z.toNat % 256)).toNat:Int):=by
 rw [UInt8.toNat_ofNat'];show z % 256=_;omega
theorem fsome_any (h:FlM w base g A n c A' m c' f) (x:UInt8) (p:Nat) (hp:p < n) (h0:0≤f.mask):Calls Tryz.prog 409 #[.agg #[.pointer (some ⟨g,0,none⟩),.int .u8 (x.toNat:Int)],.int .i64 (p:Int)] w fun e w'=>e=.returned (.tuple #[])∧Mv (FF g A n c A' m c') w w'∧FlM w' base g A n c A' m c' { f with b:=f.b.set p (f.b.getD p 0 &&& (x ||| (255 ^^^ UInt8.ofNat (f.mask.toNat % 256)))) }:=by
 have b0:=alloc_one w (.cells #[.pointer (some ⟨g,0,none⟩),.int .u8 (x.toNat:Int)] 499);have K0:=(Blk.new w 499 #[.pointer (some ⟨g,0,none⟩),.int .u8 (x.toNat:Int)]);have k0:(w.alloc (.cells #[.pointer (some ⟨g,0,none⟩),.int .u8 (x.toNat:Int)] 499)).cell? ⟨w.heap.size,0,none⟩=some (.pointer (some ⟨g,0,none⟩)):=K0.cell 0;have k1:(w.alloc (.cells #[.pointer (some ⟨g,0,none⟩),.int .u8 (x.toNat:Int)] 499)).cell? ⟨w.heap.size,1,none⟩=some (.int .u8 (x.toNat:Int)):=K0.cell 1;have H0:=h.below b0;obtain ⟨gb,rfl,hgb1,hgb2⟩:=H0.row.head (by omega);have F:=H0.seven;have hfr:=H0.row.free p;have hce:=H0.row.cell hp;obtain ⟨i0,i1⟩:=byte_i p hp;have hw:=torn_wrap f.mask h0;generalize UInt8.ofNat (f.mask.toNat % 256)=mb at *;generalize f.b.getD p 0=y at *;have e0:IntKind.u8.signed=false:=rfl;have e1:bits .xor .u8 IntKind.u8.max (mb.toNat:Int)=((255 ^^^ mb:UInt8).toNat:Int):=u8_xor_bytes 255 mb;have e2:=u8_or_bytes x (255 ^^^ mb);have e3:=u8_and_bytes y (x ||| (255 ^^^ mb));have HB:=Lib.hid ((H0.byte p (y &&& (x ||| (255 ^^^ mb))) (v:=((y &&& (x ||| (255 ^^^ mb))).toNat:Int)) rfl).below (below_drew _));have hmm:=Lib.hid (((Mv.of_new b0 (FF g (some ⟨gb,0,none⟩) n c A' m c')).trans (Mv.setCell _ ⟨gb,p,none⟩ (.int .u8 ((y &&& (x ||| (255 ^^^ mb))).toNat:Int))) fun q _ e=>.inr (.inl (by rw [show q=gb from e]; rfl))).drew);generalize (y &&& (x ||| (255 ^^^ mb)))=v3 at *;generalize (x ||| (255 ^^^ mb))=v2 at *;generalize (255 ^^^ mb:UInt8)=v1 at *;clear h b0 K0 H0 hp h0;go_enter Tryz.func409,Tryz.ntmps409
 go_wp2_with fail
 generalize w.alloc (.cells #[.pointer (some ⟨g,0,none⟩),.int .u8 (x.toNat:Int)] 499)=w1 at *;go_still_tail 20,(by kernel_rfl)
 change wpList _ _ _ _ _ w1.drew;go_wp2_with fail
 go_end0
 exact ⟨rfl,hmm.out,HB.out⟩
end
end Go.Proofs.YtijegngfclkdaaaGreatDoor
namespace Go.Proofs.YtijegngfclkdaaaGreatDoor
open Go.RowKit
section
variable {w w':World} {base g n c m c':Nat} {A A':Option Addr} {f:Fla}
theorem fdo_whole {k1 k2:Nat} {rv1 rv2:Value} (a:Int) (b':List UInt8) (h:FlM w base g A n c A' m c' f) (ha:f.ahead≠0) (hr:-9223372036854775808≤f.ahead∧f.ahead≤9223372036854775807) (ho:-9223372036854775808≤f.ops + 1∧f.ops + 1≤9223372036854775807)
  (eg:∀ args w,(callFunc k1 args).run Tryz.prog w=.ok (.enter k1 args) w)
  (W1:∀ (w1:World) (f1:Fla),f1.b=f.b→f1.mask=f.mask→FlM w1 base g A n c A' m c' f1→Calls Tryz.prog k1 #[rv1,.int .i64 a] w1 fun e w'=>e=.returned (.tuple #[])∧Mv (FF g A n c A' m c') w1 w'∧FlM w' base g A n c A' m c' { f1 with b:=b' }) :
  Calls Tryz.prog 405 #[.pointer (some ⟨g,0,none⟩),.int .i64 a,.func (.func k1) #[rv1] #[],.func (.func k2) #[rv2] #[]] w fun e w'=>e=.returned (.int .i64 0)∧Mv (FF g A n c A' m c') w w'∧FlM w' base g A n c A' m c' { f with b:=b',ahead:=if 0 < f.ahead then f.ahead - 1 else f.ahead,ops:=f.ops + 1 }:=by
 have F:=h.seven;have e0:(f.ahead == 0)=false:=beq_eq_false_iff_ne.2 ha
 by_cases hp:0 < f.ahead
 ·rw [if_pos hp]
  have e1:decide (0 < f.ahead)=true:=decide_eq_true hp;have H1:=h.set_ (i:=4) (u:=.int .i64 (f.ahead - 1)) (f':={ f with ahead:=f.ahead - 1 }) (h.blk.set_ 4 (.int .i64 (f.ahead - 1))) rfl rfl;have F1:=H1.seven;have H2:=H1.set_ (i:=6) (u:=.int .i64 (f.ops + 1)) (f':={ f with ahead:=f.ahead - 1,ops:=f.ops + 1 }) (H1.blk.set_ 6 (.int .i64 (f.ops + 1))) rfl rfl;have C:=Lib.hid (W1 _ { f with ahead:=f.ahead - 1,ops:=f.ops + 1 } rfl rfl H2);have M2:=Lib.hid ((((Mv.setCell w ⟨g,4,none⟩ (.int .i64 (f.ahead - 1))).trans (Mv.setCell _ ⟨g,6,none⟩ (.int .i64 (f.ops + 1))) fun _ _ e=>e).mono fun q _ (e:q=g)=>(show FF g A n c A' m c' q from .inl e)));have q1:IntKind.i64.wrap (f.ahead - 1)=f.ahead - 1:=IntWalk.i64_in _ (by omega);have q2:wrap64 (f.ahead - 1)=f.ahead - 1:=IntWalk.wrap64_in _ (by omega);have q3:IntKind.i64.wrap (f.ops + 1)=f.ops + 1:=IntWalk.i64_in _ ho;have q4:wrap64 (f.ops + 1)=f.ops + 1:=IntWalk.wrap64_in _ ho;clear h H1 H2 W1 ha hr ho;go_enter Tryz.func405,Tryz.ntmps405
  go_wp2_with fail
  refine (C.out).mono ?_;rintro e w3 ⟨rfl,m3,h3⟩;go_wp2_with fail
  go_ret
  exact ⟨rfl,M2.out.trans m3 fun _ _ e=>e,h3⟩
 ·rw [if_neg hp]
  have e1:decide (0 < f.ahead)=false:=decide_eq_false hp;have H2:=h.set_ (i:=6) (u:=.int .i64 (f.ops + 1)) (f':={ f with ops:=f.ops + 1 }) (h.blk.set_ 6 (.int .i64 (f.ops + 1))) rfl rfl;have C:=Lib.hid (W1 _ { f with ops:=f.ops + 1 } rfl rfl H2);have M2:=Lib.hid ((Mv.setCell w ⟨g,6,none⟩ (.int .i64 (f.ops + 1))).mono fun q _ (e:q=g)=>(show FF g A n c A' m c' q from .inl e));have q3:IntKind.i64.wrap (f.ops + 1)=f.ops + 1:=IntWalk.i64_in _ ho;have q4:wrap64 (f.ops + 1)=f.ops + 1:=IntWalk.wrap64_in _ ho;clear h H2 W1 ha hr ho;go_enter Tryz.func405,Tryz.ntmps405
  go_wp2_with fail
  refine (C.out).mono ?_;rintro e w3 ⟨rfl,m3,h3⟩;go_wp2_with fail
  go_ret
  exact ⟨rfl,M2.out.trans m3 fun _ _ e=>e,h3⟩
theorem fdo_torn {k1 k2:Nat} {rv1 rv2:Value} (a:Int) (b':List UInt8) (h:FlM w base g A n c A' m c' f) (ha:f.ahead=0)
  (eg:∀ args w,(callFunc k2 args).run Tryz.prog w=.ok (.enter k2 args) w)
  (W1:Calls Tryz.prog k2 #[rv2,.int .i64 a] w fun e w'=>e=.returned (.tuple #[])∧Mv (FF g A n c A' m c') w w'∧FlM w' base g A n c A' m c' { f with b:=b' }) :
  Calls Tryz.prog 405 #[.pointer (some ⟨g,0,none⟩),.int .i64 a,.func (.func k1) #[rv1] #[],.func (.func k2) #[rv2] #[]] w fun e w'=>e=.returned (.int .i64 7)∧Mv (FF g A n c A' m c') w w'∧FlM w' base g A n c A' m c' { f with b:=b',ahead:=-1,off:=true }:=by
 have F:=h.seven;rw [ha] at F;have C:=Lib.hid W1;clear h W1 ha;go_enter Tryz.func405,Tryz.ntmps405
 go_wp2_with fail
 refine (C.out).mono ?_;rintro e w1 ⟨rfl,m1,h1⟩;have F1:=h1.seven;have H2:=h1.set_ (i:=4) (u:=.int .i64 (-1)) (f':={ f with b:=b',ahead:=-1 }) (h1.blk.set_ 4 (.int .i64 (-1))) rfl rfl;have F2:=H2.seven;have H3:=Lib.hid (H2.set_ (i:=3) (u:=.bool true) (f':={ f with b:=b',ahead:=-1,off:=true }) (H2.blk.set_ 3 (.bool true)) rfl rfl);have M3:=Lib.hid ((m1.trans (Mv.setCell w1 ⟨g,4,none⟩ (.int .i64 (-1))) fun q _ (e:q=g)=>(show FF g A n c A' m c' q from .inl e)).trans (Mv.setCell _ ⟨g,3,none⟩ (.bool true)) fun q _ (e:q=g)=>(show FF g A n c A' m c' q from .inl e));clear F C m1 h1 H2;go_wp2_with fail
 go_ret
 exact ⟨rfl,M3.out,H3.out⟩
end
end Go.Proofs.YtijegngfclkdaaaGreatDoor
namespace Go.Proofs.YtijegngfclkdaaaGreatDoor
open Go.RowKit
def clearS (f:Fla) (p:Nat) (x:UInt8):Fla×Int :=
 if f.ahead=0 then ({ f with b:=f.b.set p (f.b.getD p 0 &&& (x ||| (255 ^^^ UInt8.ofNat (f.mask.toNat % 256)))),ahead:=-1,off:=true },7)
 else ({ f with b:=f.b.set p (f.b.getD p 0 &&& x),ahead:=if 0 < f.ahead then f.ahead - 1 else f.ahead,ops:=f.ops + 1 },0)
def progF:Fla→Nat→List UInt8→Fla×Int
 | f,_,[]=>(f,0)
 | f,p,x :: r=>if (clearS f p x).2≠0 then clearS f p x else progF (clearS f p x).1 (p + 1) r
section
variable {w w':World} {base g n c m c':Nat} {A A':Option Addr} {f:Fla}
theorem fdo_byte (h:FlM w base g A n c A' m c' f) (x:UInt8) (p:Nat) (hp:p < n) (h0:0≤f.mask) (hr:-9223372036854775808≤f.ahead∧f.ahead≤9223372036854775807) (ho:-9223372036854775808≤f.ops + 1∧f.ops + 1≤9223372036854775807) :
  Calls Tryz.prog 405 #[.pointer (some ⟨g,0,none⟩),.int .i64 (p:Int),.func (.func 408) #[.agg #[.pointer (some ⟨g,0,none⟩),.int .u8 (x.toNat:Int)]] #[],.func (.func 409) #[.agg #[.pointer (some ⟨g,0,none⟩),.int .u8 (x.toNat:Int)]] #[]] w
   fun e w'=>e=.returned (.int .i64 (clearS f p x).2)∧Mv (FF g A n c A' m c') w w'∧FlM w' base g A n c A' m c' (clearS f p x).1:=by
 unfold clearS
 by_cases ha:f.ahead=0
 ·rw [if_pos ha]
  exact fdo_torn (p:Int) _ h ha (fun args w=>by kernel_rfl) (fsome_any h x p hp h0)
 ·rw [if_neg ha]
  exact fdo_whole (p:Int) _ h ha hr ho (fun args w=>by kernel_rfl) fun w1 f1 hf1 _ h1=>by
   have:=fall_any h1 x p hp;rw [hf1] at this;exact this
def InR (f:Fla) (k:Nat):Prop:=0≤f.mask∧(-1000000≤f.ahead∧f.ahead≤4611686018427387904)∧(0≤f.ops∧f.ops + (k:Int)≤4611686018427387904)
theorem InR.step {f:Fla} {k p:Nat} {x:UInt8} (h:InR f (k + 1)):InR (clearS f p x).1 k:=by
 unfold InR clearS at *;split
 ·dsimp only; omega
 ·dsimp only
  split <;> omega
theorem InR.use {f:Fla} {k:Nat} (h:InR f (k + 1)):0≤f.mask∧(-9223372036854775808≤f.ahead∧f.ahead≤9223372036854775807)∧(-9223372036854775808≤f.ops + 1∧f.ops + 1≤9223372036854775807):=by
 unfold InR at h;omega
theorem prog_step {f:Fla} {p:Nat} {b:List UInt8} {j:Nat} (h:j < b.length):progF f p (b.drop j)=if (clearS f p (b.getD j 0)).2≠0 then clearS f p (b.getD j 0) else progF (clearS f p (b.getD j 0)).1 (p + 1) (b.drop (j + 1)):=by
 have:b.getD j 0=b[j]:=by simp [List.getD,List.getElem?_eq_getElem h]
 rw [this,List.drop_eq_getElem_cons h,progF]
theorem prog_less {k j:Nat} (h:j < k):k - ((j:Int) + 1).toNat < k - ((j:Int)).toNat:=by omega
theorem fProgram_any {F3:Nat→Prop} {A3:Option Addr} {n3 c3:Nat} {b:List UInt8} (h:FlM w base g A n c A' m c' f) (hb:RBp w F3 A3 n3 c3 b) (hd:∀ q,F3 q→¬ FF g A n c A' m c' q) (p:Nat) (hoff:f.off=false) (hp:p + n3≤n) (hn:n≤100000) (hR:InR f n3) :
  Calls Tryz.prog 392 #[.pointer (some ⟨g,0,none⟩),.int .i64 (p:Int),.slice A3 n3 c3] w fun e w'=>e=.returned (.int .i64 (progF f p b).2)∧Mv (FF g A n c A' m c') w w'∧FlM w' base g A n c A' m c' (progF f p b).1:=by
 have hl:=h.row.rb.len;have RM:=froom_any h (p:Int) (n3:Int) (by omega);have hro:roomS f (p:Int) (n3:Int)=0:=by
  unfold roomS;rw [hoff,if_neg (by simp),if_neg (by omega)]
 rw [hro] at RM;have HH:=Lib.hid h;have HBb:=Lib.hid hb;have HL:=Lib.hid hb.len;have HD:=Lib.hid hd;have HR:=Lib.hid hR;have HP:=Lib.hid hp;have HN:=Lib.hid hn;replace RM:=Lib.hid RM;clear h hb hd hR hl hro hoff hp hn;go_enter Tryz.func392,Tryz.ntmps392
 go_wp2_with fail
 refine (RM.out).mono ?_;rintro e _ ⟨rfl,rfl⟩;go_wp2_with fail
 go_loopw [22] (fun i wr=>∃ (j:Nat) (f1:Fla),j≤n3∧i=.int .i64 (j:Int)∧Hid (progF f p b=progF f1 (p + j) (b.drop j))∧FlM wr base g A n c A' m c' f1∧Mv (FF g A n c A' m c') w wr∧Hid (InR f1 (n3 - j))) (fun i _=>n3 - (intOf i).toNat)
 case atStart=>exact ⟨0,f,Nat.zero_le _,rfl,Lib.hid rfl,HH.out,Mv.refl _ _,HR⟩
 case round =>
  obtain ⟨j,f1,hj,rfl,HE,hF,hm,HI⟩:=hrel
  by_cases hlt:j < n3
  ·have hb2:=(HBb.out.mv hm fun q _=>HD.out q).rb
   obtain ⟨bb,o,rfl,hbB,hc⟩:=hb2.at_ (by omega);have hck:=hc j hlt;have hst:=prog_step (f:=f1) (p:=p + j) (b:=b) (j:=j) (by rw [HL.out]; exact hlt);generalize b.getD j 0=x at *;obtain ⟨i0,i1⟩:=byte_i j hlt;have hir:InR f1 ((n3 - (j + 1)) + 1):=by have:=HI.out; rwa [show n3 - j=(n3 - (j + 1)) + 1 by omega] at this
   obtain ⟨u1,u2,u3⟩:=hir.use;have b0:=alloc_one wr (.cells #[.pointer (some ⟨g,0,none⟩),.int .u8 (x.toNat:Int)] 499);have K0:=Blk.new wr 499 #[.pointer (some ⟨g,0,none⟩),.int .u8 (x.toNat:Int)];have k0:(wr.alloc (.cells #[.pointer (some ⟨g,0,none⟩),.int .u8 (x.toNat:Int)] 499)).cell? ⟨wr.heap.size,0,none⟩=some (.pointer (some ⟨g,0,none⟩)):=K0.cell 0;have k1:(wr.alloc (.cells #[.pointer (some ⟨g,0,none⟩),.int .u8 (x.toNat:Int)] 499)).cell? ⟨wr.heap.size,1,none⟩=some (.int .u8 (x.toNat:Int)):=K0.cell 1;have DO:=fdo_byte (hF.below b0) x (p + j) (by have:=HP.out; omega) u1 u2 u3;have hpj:((p + j:Nat):Int)=(p:Int) + (j:Int):=by omega
   rw [hpj] at DO;have hI2:=hir.step (p:=p + j) (x:=x);generalize clearS f1 (p + j) x=r1 at *;obtain ⟨f2,z⟩:=r1;dsimp only at DO hst hI2;have q1:IntKind.i64.wrap ((p:Int) + (j:Int))=(p:Int) + (j:Int):=IntWalk.i64_in _ (by have:=HP.out; have:=HN.out; omega);have q2:wrap64 ((p:Int) + (j:Int))=(p:Int) + (j:Int):=IntWalk.wrap64_in _ (by have:=HP.out; have:=HN.out; omega);have q3:IntKind.i64.wrap ((j:Int) + 1)=(j:Int) + 1:=IntWalk.i64_in _ (by have:=HP.out; have:=HN.out; omega);have q4:wrap64 ((j:Int) + 1)=(j:Int) + 1:=IntWalk.wrap64_in _ (by have:=HP.out; have:=HN.out; omega);have MM:=Lib.hid (hm.trans (Mv.of_new b0 (FF g A n c A' m c')) fun _ _ e=>e);have HLS:=Lib.hid (prog_less hlt);replace DO:=Lib.hid DO
   by_cases hz:z=0
   ·rw [if_neg (by rw [hz]; simp)] at hst
    have HE2:=Lib.hid (HE.out.trans hst);have HI2:=Lib.hid hI2;have hz2:(z != 0)=false:=by rw [hz]; rfl
    subst hz;clear hF hm hb2 hc hst HE K0 hir u1 u2 u3 hI2 b0 HI hpj;go_wp2_with fail
    refine (DO.out).mono ?_;rintro e w3 ⟨rfl,m3,h3⟩;go_wp2_with fail
    go_roundw
    case rel=>exact ⟨j + 1,f2,hlt,by go_num,by rw [Nat.add_assoc] at HE2; exact HE2,h3,MM.out.trans m3 fun _ _ e=>e,HI2⟩
    case measure=>exact HLS.out
   ·rw [if_pos hz] at hst
    have HE2:=Lib.hid (HE.out.trans hst);have hz2:(z != 0)=true:=by simpa using hz
    clear hF hm hb2 hc hst HE K0 hir u1 u2 u3 hI2 b0 HI hpj hz;go_wp2_with fail
    refine (DO.out).mono ?_;rintro e w3 ⟨rfl,m3,h3⟩;go_wp2_with fail
    go_ret
    rw [HE2.out];exact ⟨rfl,MM.out.trans m3 fun _ _ e=>e,h3⟩
  ·obtain rfl:j=n3:=by omega
   have hd0:b.drop j=[]:=by rw [← HL.out]; exact List.drop_length
   have HE2:=HE.out;rw [hd0,progF] at HE2;have HE3:=Lib.hid HE2;clear HE2 hd0;go_wp2_with fail
   go_ret
   rw [HE3.out];exact ⟨rfl,hm,hF⟩
end
end Go.Proofs.YtijegngfclkdaaaGreatDoor
namespace Go.Proofs.YtijegngfclkdaaaGreatDoor
open Go.RowKit
section
variable {w w':World} {base g n c m c' gw:Nat} {A A':Option Addr} {f:Fla}
theorem FlM.wearset (h:FlM w base g A n c (some ⟨gw,0,none⟩) m c' f) (s v:Nat):FlM (w.setCell ⟨gw,s,none⟩ (.int .i64 (v:Int))) base g A n c (some ⟨gw,0,none⟩) m c' { f with wear:=f.wear.set s v }:=by
 refine ⟨h.gb,?_,?_,?_⟩
 ·refine h.blk.far (p:=⟨gw,s,none⟩) ?_ _
  intro e;have e':g=gw:=e;exact own_blk_ne h.worn h.blk (by decide) (by rw [e']; rfl)
 ·exact OB.kept h.row (row:=some gw) (grown_setCell (p:=⟨gw,s,none⟩) (World.grownBy.refl _ _) (.inl rfl) _) (own_own_ne h.worn (show OV w base 5 1 A n c _ from h.row) (by decide))
 ·have:=(OV.set h.worn s (nv v)).1
  rw [← List.map_set] at this;exact this
theorem FlM.drewN (h:FlM w base g A n c A' m c' f) (k:Nat):FlM (w.drewN k) base g A n c A' m c' f:=h.below (below_drewN (Below.refl _ _) k)
theorem fErase_whole (h:FlM w base g A n c A' m c' f) (s:Nat) (hs:s < m) (hoff:f.off=false) (hn:n=m * 1024) (hm8:m≤8) (hw:(f.wear.getD s 0:Int) < f.most) (hmo:f.most≤9223372036854775807) (ha:f.ahead≠0) (hr:-9223372036854775808≤f.ahead∧f.ahead≤9223372036854775807) (ho:-9223372036854775808≤f.ops + 1∧f.ops + 1≤9223372036854775807) :
  Calls Tryz.prog 391 #[.pointer (some ⟨g,0,none⟩),.int .i64 (s:Int)] w fun e w'=>e=.returned (.int .i64 0)∧Mv (FF g A n c A' m c') w w'∧FlM w' base g A n c A' m c' { f with wear:=f.wear.set s (f.wear.getD s 0 + 1),b:=fillF f.b (s * 1024) 1024,ahead:=if 0 < f.ahead then f.ahead - 1 else f.ahead,ops:=f.ops + 1 }:=by
 have hns:s * 1024 + 1024≤n:=by omega
 have hn1:n≤100000:=by omega
 obtain ⟨i0,i1⟩:=byte_i s hs;obtain ⟨b,o,hA',hce⟩:=h.wear_at (s:=(s:Int)) i0 i1;obtain ⟨gw,hA2,hgw1,hgw2⟩:=h.worn.head (by omega);subst hA2;injection hA' with hA'
 injection hA' with hb1 hb2
 subst hb1 hb2;rw [Nat.zero_add,Int.toNat_natCast] at hce;have F:=h.seven;rw [hoff] at F;have hfr:=h.worn.free s;generalize f.wear.getD s 0=v at *;have e1:decide (f.most≤(v:Int))=false:=decide_eq_false (by omega);have hv:((v + 1:Nat):Int)=(v:Int) + 1:=by omega
 have q1:IntKind.i64.wrap ((v:Int) + 1)=(v:Int) + 1:=IntWalk.i64_in _ (by omega);have q2:wrap64 ((v:Int) + 1)=(v:Int) + 1:=IntWalk.wrap64_in _ (by omega);have DO:=(fun (k:Nat)=>fdo_whole (k1:=406) (k2:=407) (rv1:=.pointer (some ⟨g,0,none⟩)) (rv2:=.pointer (some ⟨g,0,none⟩)) (s:Int) (fillF f.b (s * 1024) 1024) ((h.drewN k).wearset s (v + 1)) ha hr ho (fun args w=>by kernel_rfl)
  (fun w1 f1 hf1 _ h1=>by have:=ferase_any h1 s hns hn1; rw [hf1] at this; exact this))
 have MM:=(fun (k:Nat)=>((Mv.of_new (below_drewN (Below.refl w.heap.size w) k) (FF g A n c (some ⟨gw,0,none⟩) m c')).trans (Mv.setCell (w.drewN k) ⟨gw,s,none⟩ (.int .i64 ((v + 1:Nat):Int))) fun q _ e=>.inr (.inr (by rw [show q=gw from e]; rfl))));simp only [hv] at DO MM;generalize (if 0 < f.ahead then f.ahead - 1 else f.ahead)=ah at DO ⊢;replace DO:=Lib.hid DO;replace MM:=Lib.hid MM;clear hv;clear h hn hns hn1 hm8 ha hr ho hmo hw hs hoff;go_enter Tryz.func391,Tryz.ntmps391
 go_wp2_with fail
 go_quiet (fail)
 go_wp2_with fail
 refine (DO.out nq).mono ?_;rintro e w3 ⟨rfl,m3,h3⟩;go_wp2_with fail
 go_ret
 exact ⟨rfl,(MM.out nq).trans m3 fun _ _ e=>e,h3⟩
theorem fErase_torn (h:FlM w base g A n c A' m c' f) (s:Nat) (hs:s < m) (hoff:f.off=false) (hn:n=m * 1024) (hm8:m≤8) (hw:(f.wear.getD s 0:Int) < f.most) (hmo:f.most≤9223372036854775807) (ha:f.ahead=0) (h0:0≤f.mask) :
  Calls Tryz.prog 391 #[.pointer (some ⟨g,0,none⟩),.int .i64 (s:Int)] w fun e w'=>e=.returned (.int .i64 7)∧Mv (FF g A n c A' m c') w w'∧FlM w' base g A n c A' m c' { f with wear:=f.wear.set s (f.wear.getD s 0 + 1),b:=fillF f.b (s * 1024) (f.mask.toNat % 1025),ahead:=-1,off:=true }:=by
 have hns:s * 1024 + 1024≤n:=by omega
 have hn1:n≤100000:=by omega
 obtain ⟨i0,i1⟩:=byte_i s hs;obtain ⟨b,o,hA',hce⟩:=h.wear_at (s:=(s:Int)) i0 i1;obtain ⟨gw,hA2,hgw1,hgw2⟩:=h.worn.head (by omega);subst hA2;injection hA' with hA'
 injection hA' with hb1 hb2
 subst hb1 hb2;rw [Nat.zero_add,Int.toNat_natCast] at hce;have F:=h.seven;rw [hoff] at F;have hfr:=h.worn.free s;generalize f.wear.getD s 0=v at *;have e1:decide (f.most≤(v:Int))=false:=decide_eq_false (by omega);have hv:((v + 1:Nat):Int)=(v:Int) + 1:=by omega
 have q1:IntKind.i64.wrap ((v:Int) + 1)=(v:Int) + 1:=IntWalk.i64_in _ (by omega);have q2:wrap64 ((v:Int) + 1)=(v:Int) + 1:=IntWalk.wrap64_in _ (by omega);have DO:=(fun (k:Nat)=>fdo_torn (k1:=406) (k2:=407) (rv1:=.pointer (some ⟨g,0,none⟩)) (rv2:=.pointer (some ⟨g,0,none⟩)) (s:Int) (fillF f.b (s * 1024) (f.mask.toNat % 1025)) ((h.drewN k).wearset s (v + 1)) ha (fun args w=>by kernel_rfl)
  (fbegin_any ((h.drewN k).wearset s (v + 1)) s hns hn1 h0))
 have MM:=(fun (k:Nat)=>((Mv.of_new (below_drewN (Below.refl w.heap.size w) k) (FF g A n c (some ⟨gw,0,none⟩) m c')).trans (Mv.setCell (w.drewN k) ⟨gw,s,none⟩ (.int .i64 ((v + 1:Nat):Int))) fun q _ e=>.inr (.inr (by rw [show q=gw from e]; rfl))));simp only [hv] at DO MM;replace DO:=Lib.hid DO;replace MM:=Lib.hid MM;clear hv;clear h hn hns hn1 hm8 ha h0 hmo hw hs hoff;go_enter Tryz.func391,Tryz.ntmps391
 go_wp2_with fail
 go_quiet (fail)
 go_wp2_with fail
 refine (DO.out nq).mono ?_;rintro e w3 ⟨rfl,m3,h3⟩;go_wp2_with fail
 go_ret
 exact ⟨rfl,(MM.out nq).trans m3 fun _ _ e=>e,h3⟩
end
end Go.Proofs.YtijegngfclkdaaaGreatDoor
namespace Go.Proofs.YtijegngfclkdaaaGreatDoor
open Go.RowKit
theorem recPut_any {A:Option Addr} {n c B:Nat} {l:List UInt8} {g:Nat} (k m:Nat) (w:World) (hb:RB w B A n c l) (hB:B≤w.heap.size) (h1:Blk w g 25 #[.slice A n c]) (hk1:1≤k) (hk8:k≤8) (hn:n < 1000000) (hm:m < 18446744073709551616) (hmk:m < 256 ^ k) :
  Calls Tryz.prog 400 #[.int .i64 (k:Int),.int .u64 (m:Int),.pointer (some ⟨g,0,none⟩)] w fun e w'=>∃ A1 c1,e=.returned (.tuple #[])∧Mv (fun q=>q=g) w w'∧Blk w' g 25 #[.slice A1 (n + k) c1]∧OB w' w.heap.size A1 (n + k) c1 (l ++ Oct.lb k m):=by
 have c1:w.cell? ⟨g,0,none⟩=some (.slice A n c):=h1.cell 0;have P:=Lib.hid (Put_ok k m w hb (by omega) hB hk1 hk8 hm hmk);have HH:=Lib.hid h1;clear hb h1 hk1 hk8 hn hm hmk;go_enter Tryz.func400,Tryz.ntmps400
 go_wp2_with fail
 refine (P.out).mono ?_;rintro e w1 ⟨A1,d1,rfl,o1,b1⟩;have k1:=HH.out.later b1;have c2:w1.cell? ⟨g,0,none⟩=some (.slice A n c):=k1.cell 0;have f2:=k1.frozen 0;have hlt:=HH.out.lt;have o2:=OB.far o1 hlt 0 (.slice A1 (n + k) d1);have k2:Blk (w1.setCell ⟨g,0,none⟩ (.slice A1 (n + k) d1)) g 25 #[.slice A1 (n + k) d1]:=k1.set_ 0 _;clear hlt;go_wp2_with fail
 go_end0
 exact ⟨A1,d1,rfl,(Mv.of_new b1 _).trans (Mv.setCell _ ⟨g,0,none⟩ _) fun _ _ e=>e,k2,o2⟩
theorem Jr.right_ok {r:Jr.Rec} (h:Jr.Ok r):Jr.rightS r=0:=by
 obtain ⟨h1,h2,h3 | h3⟩:=h
 ·unfold Jr.rightS; rw [if_neg (by omega),if_neg (by omega),if_neg (by omega),if_neg (by omega)]
 ·unfold Jr.rightS; rw [if_neg (by omega),if_pos ⟨h3.1,by rw [h3.2]; rfl⟩]
theorem Jr.ok_bounds {r:Jr.Rec} (h:Jr.Ok r):r.kind < 256∧r.num < 4294967296∧r.data.length≤960:=by
 obtain ⟨h1,h2,h3 | h3⟩:=h
 ·omega
 ·rw [h3.2]; simp; omega
theorem Jr.build_steps (r:Jr.Rec):sealS (((([87] ++ Oct.lb 1 r.kind) ++ Oct.lb 4 r.num) ++ Oct.lb 2 r.data.length) ++ r.data) ++ [0]=Jr.buildS r:=by
 unfold Jr.buildS Jr.headS;simp only [List.append_assoc,List.cons_append,List.nil_append]
theorem recBuild_any {A:Option Addr} {c B:Nat} (r:Jr.Rec) (w:World) (hb:RB w B A r.data.length c r.data) (hB:B≤w.heap.size) (hr:Jr.Ok r) :
  Calls Tryz.prog 389 #[recV r A c] w fun e w'=>∃ A1 c1,e=.returned (.tuple #[.slice A1 (r.data.length + 13) c1,.int .i64 0])∧OB w' w.heap.size A1 (r.data.length + 13) c1 (Jr.buildS r)∧Below w.heap.size w w':=by
 have b1:=alloc_one w (.cells #[.int .i64 (r.kind:Int),.int .u32 (r.num:Int),.slice A r.data.length c] 217);have K1:=Blk.new w 217 #[.int .i64 (r.kind:Int),.int .u32 (r.num:Int),.slice A r.data.length c];have R:=Lib.hid (fun w1=>recRight_any r A c w1);rw [Jr.right_ok hr] at R;obtain ⟨hk,hm,hn⟩:=Jr.ok_bounds hr;have HE:=Lib.hid (Jr.build_steps r);have P1:(256:Nat) ^ 1=256:=by decide
 have P4:(256:Nat) ^ 4=4294967296:=by decide
 have P2:(256:Nat) ^ 2=65536:=by decide
 unfold recV at *;generalize Jr.buildS r=out at *;generalize r.kind=k at *;generalize r.num=m at *;generalize r.data=d at *;generalize hdl:d.length=n at *;have b1':=b1;have c1:=K1.three;generalize hw1:w.alloc (.cells #[.int .i64 (k:Int),.int .u32 (m:Int),.slice A n c] 217)=w1 at b1 K1 c1;have hs1:w1.heap.size=w.heap.size + 1:=by rw [← hw1]; simp [World.size_alloc]
 have HW:=Lib.hid hw1;have q1:(k:Int) % 18446744073709551616=(k:Int):=by omega
 have q2:(m:Int) % 18446744073709551616=(m:Int):=by omega
 have q3:(n:Int) % 18446744073709551616=(n:Int):=by omega
 have u1:IntKind.u64.wrap (k:Int)=(k:Int):=by rw [IntKind.wrap_u64]; exact q1
 have u2:IntKind.u64.wrap (m:Int)=(m:Int):=by rw [IntKind.wrap_u64]; exact q2
 have u3:IntKind.u64.wrap (n:Int)=(n:Int):=by rw [IntKind.wrap_u64]; exact q3
 have HK:=Lib.hid hk;have HM:=Lib.hid hm;have HN:=Lib.hid hn;have HB:=Lib.hid hb;clear hw1 hr hk hm hn hb b1' hdl;go_enter Tryz.func389,Tryz.ntmps389
 go_wp2_with fail
 rw [HW.out];refine (R.out _).mono ?_;rintro e w2 ⟨rfl,b2⟩;have K2:=K1.later b2;have b23:=alloc_two w2 (.cells #[.int .u8 87] 5) (.cells #[.slice (some ⟨w2.heap.size,0,none⟩) 1 1] 25);have K3:=K2.later b23;have C3:=K3.three;have R3:RB ((w2.alloc (.cells #[.int .u8 87] 5)).alloc (.cells #[.slice (some ⟨w2.heap.size,0,none⟩) 1 1] 25)) (w2.heap.size + 1) (some ⟨w2.heap.size,0,none⟩) 1 1 [87]:=(RB.one w2 87).alloc (by simp [World.size_alloc]) _;have G3:Blk ((w2.alloc (.cells #[.int .u8 87] 5)).alloc (.cells #[.slice (some ⟨w2.heap.size,0,none⟩) 1 1] 25)) (w2.heap.size + 1) 25 #[.slice (some ⟨w2.heap.size,0,none⟩) 1 1]:=by
  have:=Blk.new (w2.alloc (.cells #[.int .u8 87] 5)) 25 #[.slice (some ⟨w2.heap.size,0,none⟩) 1 1]
  rwa [World.size_alloc] at this
 have hs3:((w2.alloc (.cells #[.int .u8 87] 5)).alloc (.cells #[.slice (some ⟨w2.heap.size,0,none⟩) 1 1] 25)).heap.size=w2.heap.size + 1 + 1:=by rw [World.size_alloc,World.size_alloc]
 obtain ⟨w3,hw3⟩:∃ w3,(w2.alloc (.cells #[.int .u8 87] 5)).alloc (.cells #[.slice (some ⟨w2.heap.size,0,none⟩) 1 1] 25)=w3:=⟨_,rfl⟩;rw [hw3] at b23 K3 R3 G3 hs3;have HW3:=Lib.hid hw3;clear hw3;have hs2:w.heap.size + 1≤w2.heap.size:=by rw [← hs1]; exact b2.size
 have RD:RB w3 B A n c d:=((HB.out.alloc hB (.cells #[.int .i64 (k:Int),.int .u32 (m:Int),.slice A n c] 217)).below (B:=B) (by rw [HW.out]; exact b2.mono (by omega))).below (b23.mono (by omega));have D1:=Lib.hid (recPut_any 1 k w3 R3 (by omega) G3 (by decide) (by decide) (by decide) (by have:=HK.out; omega) (by have:=HK.out; omega));clear R3;go_wp2_with fail
 rw [HW3.out];refine (D1.out).mono ?_;rintro e w4 ⟨A4,c4,rfl,m4,G4,o4⟩;have K4:=K3.mv m4 (by omega);have C4:=K4.three;have D2:=Lib.hid (recPut_any 4 m w4 o4.rb (Nat.le_refl _) G4 (by decide) (by decide) (by decide) (by have:=HM.out; omega) (by have:=HM.out; omega));go_wp2_with fail
 refine (D2.out).mono ?_;rintro e w5 ⟨A5,c5,rfl,m5,G5,o5⟩;have K5:=K4.mv m5 (by omega);have C5:=K5.three;have D3:=Lib.hid (recPut_any 2 n w5 o5.rb (Nat.le_refl _) G5 (by decide) (by decide) (by decide) (by have:=HN.out; omega) (by have:=HN.out; omega));go_wp2_with fail
 refine (D3.out).mono ?_;rintro e w6 ⟨A6,c6,rfl,m6,G6,o6⟩;have K6:=K5.mv m6 (by omega);have C6:=K6.three;have G6c:w6.cell? ⟨w2.heap.size + 1,0,none⟩=some (.slice A6 (1 + 1 + 4 + 2) c6):=G6.cell 0;have m36:=(m4.trans m5 fun _ _ e=>e).trans m6 fun _ _ e=>e
 have RD6:RB w6 B A n c d:=RD.mv m36 (by omega) (by intro b h1 h2; omega);have b36:Below w.heap.size w3 w6:=m36.below (by omega) (by intro b e; omega);have BB:=Lib.hid (((show Below w.heap.size w w1 from by rw [← HW.out]; exact alloc_one _ _).trans ((b2.mono (by omega)).trans (b23.mono (by omega)))).trans b36);have hz5:w.heap.size≤w5.heap.size:=by have:=m4.size; have:=m5.size; omega
 clear R C3 C4 C5 K1 K2 K3 K4 K5 K6 G3 G4 G5 D1 D2 D3 o4 o5 c1 m4 m5 m6 RD b23 b36;have hN:=HN.out;have o6':=o6.more (base':=w.heap.size) hz5;have hz6:w.heap.size≤w6.heap.size:=BB.out.size;clear o6 HK HM HN m36 q1 q2 q3 u1 u2 u3 G6 hs1 hs2 hs3;go_wp2_with (at_builtin; refine wpList_appb etb rfl (.tmp 30) (.tmp 32) rfl rfl rfl w.heap.size o6' RD6 (by omega) hz6 ?_; intro A7 c7 w7 o7 b7 _ _)
 have S7:=Lib.hid (Seal_any w7 o7.rb (Nat.le_refl _) (by omega));refine (S7.out).mono ?_;rintro e w8 ⟨A8,c8,rfl,o8,b8⟩;have hz7:w.heap.size≤w7.heap.size:=Nat.le_trans hz6 b7.size;have o8':=o8.more (base':=w.heap.size) hz7;have hz8:w.heap.size≤w8.heap.size:=Nat.le_trans hz7 b8.size;clear S7 o8;go_wp2_with (at_builtin; refine wpList_appb_one etb rfl (.tmp 34) (.tmp 35) rfl rfl rfl w.heap.size o8' 0 rfl (by omega) hz8 ?_; intro A9 c9 w9 o9 b9 _ _)
 go_ret2
 rw [HE.out] at o9;refine ⟨A9,c9,?_,?_,((BB.out.trans b7).trans (b8.mono hz7)).trans b9⟩
 ·rw [show 1 + 1 + 4 + 2 + n + 4 + 1=n + 13 by omega]; rfl
 ·rw [show 1 + 1 + 4 + 2 + n + 4 + 1=n + 13 by omega] at o9; exact o9
end Go.Proofs.YtijegngfclkdaaaGreatDoor
