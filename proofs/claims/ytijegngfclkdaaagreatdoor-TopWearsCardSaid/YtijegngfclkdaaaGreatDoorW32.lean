/-
  Pieces of the proof: part 32 of 54.
  Conditions: none.
-/
import Derived.Test.YtijegngfclkdaaaGreatDoorW14
import Derived.Test.YtijegngfclkdaaaGreatDoorW23
import Derived.Test.YtijegngfclkdaaaGreatDoorW24
import Derived.Test.YtijegngfclkdaaaGreatDoorW25
import Derived.Test.YtijegngfclkdaaaGreatDoorW30
import Derived.Test.YtijegngfclkdaaaGreatDoorW31
set_option linter.unusedVariables false
set_option linter.unusedSimpArgs false
set_option maxHeartbeats 100000000
set_option maxRecDepth 100000
namespace Go.Proofs.YtijegngfclkdaaaGreatDoor
open Go.RowKit
def codeZ (z:Int):Int:=if z=0 then 0 else 101056512
def endV (x:Vau) (l:List Dc.Vl) (z:Int):Vau:=if z=0 then { x with s:=l,odd:=false } else { x with off:=decide (z=7) }
theorem FV.agg {w:World} {base:Nat} {z:Int} {v:Value} (h:FV w base z v):∃ u,v=.agg #[u]:=by
 rcases h with ⟨_,h⟩ | ⟨_,p,q,h,_⟩
 ·exact ⟨_,h⟩
 ·exact ⟨_,h⟩
theorem vend_fv {w w':World} {base gv:Nat} {z:Int} {v:Value} {cs:Array Value} (h:FV w base z v) (hm:Mv (fun q=>q=gv) w w') (hb:Blk w gv 215 cs):FV w' base z v:=by
 rcases h with h | ⟨h1,p,q,h2,h3⟩
 ·exact .inl h
 ·exact .inr ⟨h1,p,q,h2,h3.bp,h3.bq,h3.link.mv hm (h3.link.ne_ hb (by decide)),h3.words.mv hm (h3.words.ne_ hb (by decide))⟩
theorem vend_zero {w:World} {gv:Nat} {v:Value} (hg:ErrG w) (h:w.cell? ⟨gv,0,none⟩=some v) (hv:∀ t x,v≠.iface t x:=by intros; simp) (e:0=gv):False:=by
 subst e;unfold ErrG at hg;rw [hg] at h;injection h with h
 exact hv _ _ h.symm
theorem vend_any {w:World} {F:Nat→Prop} {gv gj gl c gf cs:Nat} {A As:Option Addr} {xs:List Value} {x:Vau} (h:VaM w F gv gj gl A c xs gf As cs x) (hoff:x.off=false) {bl bv:Nat} {Al:Option Addr} {cl:Nat} {l:List Dc.Vl} (KL:Blk w bl 213 #[.slice Al l.length cl]) (KV:Blk w bv 108 #[.pointer (some ⟨gv,0,none⟩)])
  (hl:RVq w (fun q=>F q∧q≠gv∧q≠gj∧q≠gl) Al l.length cl l) {z:Int} {base:Nat} {v:Value} (fv:FV w base z v) (hg:ErrG w) :
  Calls Tryz.prog 341 #[v,.pointer (some ⟨bl,0,none⟩),.pointer (some ⟨bv,0,none⟩)] w fun e w'=>e=.returned (.int .u32 (codeZ z))∧Mv (fun q=>q=gv) w w'∧∃ As' cs',VaM w' F gv gj gl A c xs gf As' cs' (endV x l z):=by
 obtain ⟨u,rfl⟩:=fv.agg;have b1:=alloc_one w (.cells #[u] 417);have K1:=Blk.new w 417 #[u];have DE:=Lib.hid (fvdepth_any _ (hg.below b1) (fv.below b1));have HV:=Lib.hid (h.below b1);have HFV:=Lib.hid (fv.below b1);have HG:=Lib.hid (hg.below b1);have HL:=Lib.hid (hl.below b1);have HK:=Lib.hid (And.intro K1 (And.intro (KL.later b1) (KV.later b1)));have HB1:=Lib.hid b1;have HGV:=Lib.hid (show gv < w.heap.size from h.blk.lt);have HO:=Lib.hid hoff;have C1:=K1.one;have c2:=KV.one;have c3:=KL.one;have HNE:Hid (gv≠bl∧gv≠bv):=Lib.hid ⟨h.blk.ne_ KL (by decide),h.blk.ne_ KV (by decide)⟩;have HLT:=Lib.hid (And.intro KL.lt KV.lt);clear h fv hg hl K1 KL KV b1 hoff c2 c3;go_enter Tryz.func341,Tryz.ntmps341
 go_wp2_with fail
 generalize w.alloc (.cells #[u] 417)=w1 at *;refine (DE.out).mono ?_;rintro e w2 ⟨rfl,b2⟩;have V2:=Lib.hid (HV.out.below b2);have FV2:=Lib.hid (HFV.out.below b2);have G2:=Lib.hid (HG.out.below b2);have L2:=Lib.hid (HL.out.below b2);have KK:=Lib.hid (And.intro (HK.out.1.later b2) (And.intro (HK.out.2.1.later b2) (HK.out.2.2.later b2)));have D2:=Lib.hid (below_step HB1.out b2 (Nat.le_refl _));have SZ2:=Lib.hid b2.size;clear DE HV HFV HG HL HK HB1 b2 C1;have V24:=V2.out.four;go_upto_if 7 with fail
 go_cut [4] (fun _ wx=>∃ As' cs' x1,VaM wx F gv gj gl A c xs gf As' cs' x1∧Hid (x1.off=false∧endV x l z={ x1 with off:=decide (z=7) })∧FV wx base z (.agg #[u])∧ErrG wx∧Blk wx w.heap.size 417 #[u]∧Blk wx bv 108 #[.pointer (some ⟨gv,0,none⟩)]∧Mv (fun q=>q=gv) w wx)
 case first =>
  by_cases hz:z=0
  ·have e1:decide (z=0)=true:=decide_eq_true hz
   have HE:Hid (endV x l z={ x with s:=l,odd:=false }):=Lib.hid (if_pos hz);have HZ:=Lib.hid hz;rw [if_pos hz];clear hz e1;obtain ⟨C,hC⟩:∃ C:World→Prop,∀ y,C y↔(Blk y bl 213 #[.slice Al l.length cl]∧Blk y bv 108 #[.pointer (some ⟨gv,0,none⟩)]):=⟨_,fun y=>Iff.rfl⟩;have cl0:∀ y:Cl C,y.val.cell? ⟨bl,0,none⟩=some (.slice Al l.length cl):=fun y=>((hC _).1 y.ok).1.cell 0
   have cl1:∀ y:Cl C,y.val.cell? ⟨bv,0,none⟩=some (.pointer (some ⟨gv,0,none⟩)):=fun y=>((hC _).1 y.ok).2.cell 0
   have bd:=below_drew w2;have KKd:=Lib.hid (And.intro (KK.out.1.later bd) (And.intro (KK.out.2.1.later bd) (KK.out.2.2.later bd)));have hC0:C w2.drew:=(hC _).2 ⟨KKd.out.2.1,KKd.out.2.2⟩;haveI instC:Nonempty (Cl C):=⟨⟨w2.drew,hC0⟩⟩;have Vd:=V2.out.below bd;have J1:=Vd.put (L2.out.below bd);have J2:=J1.set_ (i:=2) (u:=.bool false) (x':={ x with s:=l,odd:=false }) rfl ⟨rfl,rfl,rfl,rfl⟩ rfl;have J04:=Vd.four;have VB:=Vd.blk;have J14:=J1.four;have m1:=Mv.setCell w2.drew ⟨gv,1,none⟩ (.slice Al l.length cl);have m2:=Mv.setCell (w2.drew.setCell ⟨gv,1,none⟩ (.slice Al l.length cl)) ⟨gv,2,none⟩ (.bool false);have hC1:C (w2.drew.setCell ⟨gv,1,none⟩ (.slice Al l.length cl)):=(hC _).2 ⟨KKd.out.2.1.mv m1 (fun e=>HNE.out.1 e.symm),KKd.out.2.2.mv m1 (fun e=>HNE.out.2 e.symm)⟩;have HJ:=Lib.hid (And.intro J2 (And.intro m1 m2));have FVd:=Lib.hid (FV2.out.below bd);have Gd:=Lib.hid (G2.out.below bd);have Dd:=Lib.hid (below_step D2.out bd (Nat.le_refl _));have HC1:=Lib.hid hC1;have HCC:=Lib.hid hC;have SZd:=Lib.hid (Nat.le_trans SZ2.out bd.size);clear V24 J1 J2 m1 m2 Vd hC hC1 bd KK FV2 G2 D2 L2 V2;go_wp2_with fail
   refine region_cl 99 C (by kernel_rfl) ?_;generalize w2.drew=wd at *;refine phase_cl (by kernel_rfl) 4 hC0 [0,1,2,3,4] rfl (by kernel_rfl) ?_;simp only [picks,nth]
   repeat (go_big_quiet_step (fail))
   refine wpQuiet_nil ?_;refine phase_opL 5 3 rfl (by kernel_rfl) (by decide) ?_;simp only [nth];go_wp2_with fail
   refine behind_cl HC1.out ?_;refine phase_cl (by kernel_rfl) 1 HC1.out [6,7] rfl (by kernel_rfl) ?_;simp only [picks,nth]
   repeat (go_big_quiet_step (fail))
   refine wpQuiet_nil ?_;refine phase_opL 8 0 rfl (by kernel_rfl) (by decide) ?_;simp only [nth];go_wp2_with fail
   obtain ⟨J2,m1,m2⟩:=HJ.out;have m12:Mv (fun q=>q=gv) wd ((wd.setCell ⟨gv,1,none⟩ (.slice Al l.length cl)).setCell ⟨gv,2,none⟩ (.bool false)):=m1.trans m2 fun _ _ e=>e
   refine behind_cl ((HCC.out _).2 ⟨KKd.out.2.1.mv m12 (fun e=>HNE.out.1 e.symm),KKd.out.2.2.mv m12 (fun e=>HNE.out.2 e.symm)⟩) ?_;refine phase_endL (by kernel_rfl) ?_;go_wp2_with fail
   go_meet
   have hgv:=HGV.out;have hsd:=Dd.out.size;exact ⟨_,_,_,J2,Lib.hid ⟨HO.out,by rw [HE.out]; simp only [Vau.mk.injEq,true_and]; rw [HZ.out,HO.out]; decide⟩,vend_fv FVd.out m12 VB,Gd.out.mv m12 (fun e=>vend_zero Gd.out J04.1.1 (by intros; simp) e),KKd.out.1.mv m12 (fun e=>by have e2:w.heap.size=gv:=e; omega),KKd.out.2.2.mv m12 (fun e=>HNE.out.2 e.symm),(Mv.of_new Dd.out _).trans m12 fun _ _ e=>e⟩
  ·have e1:decide (z=0)=false:=decide_eq_false hz
   rw [if_neg hz];go_wp2_with fail
   go_meet
   have HE:endV x l z={ x with off:=decide (z=7) }:=if_neg hz;exact ⟨_,_,_,V2.out,Lib.hid ⟨HO.out,HE⟩,FV2.out,G2.out,KK.out.1,KK.out.2.2,Mv.of_new D2.out _⟩
 case rest =>
  obtain ⟨As',cs',x1,V3,HX,FV3,G3,Kf,Kv,M3⟩:=hcut;obtain ⟨w3,hw3⟩:∃ y,y=wc:=⟨wc,rfl⟩;subst hw3;clear V24 V2 FV2 G2 L2 KK D2 SZ2;have bd:=below_drew w3;have Vd:=V3.below bd;have Gd:=Lib.hid (G3.below bd);have FVd:=Lib.hid (FV3.below bd);have Kfd:=Kf.later bd;have Kvd:=Kv.later bd;have V4:=Vd.four;rw [HX.out.1] at V4;obtain ⟨C,hC⟩:∃ C:World→Prop,∀ y,C y↔(Blk y w.heap.size 417 #[u]∧Blk y bv 108 #[.pointer (some ⟨gv,0,none⟩)]∧y.cell? ⟨gv,3,none⟩=some (.bool false)):=⟨_,fun y=>Iff.rfl⟩;have cl0:∀ y:Cl C,y.val.cell? ⟨w.heap.size,0,none⟩=some u:=fun y=>((hC _).1 y.ok).1.cell 0
  have cl1:∀ y:Cl C,y.val.cell? ⟨bv,0,none⟩=some (.pointer (some ⟨gv,0,none⟩)):=fun y=>((hC _).1 y.ok).2.1.cell 0
  have cl2:∀ y:Cl C,y.val.cell? ⟨gv,3,none⟩=some (.bool false):=fun y=>((hC _).1 y.ok).2.2
  have hC0:C w3.drew:=(hC _).2 ⟨Kfd,Kvd,V4.1.2.2.2⟩;haveI instC:Nonempty (Cl C):=⟨⟨w3.drew,hC0⟩⟩;have SA:=Lib.hid (fvsays_any w3.drew FVd.out);have HVd:=Lib.hid (And.intro Vd (And.intro Kfd (And.intro Kvd (M3.trans (Mv.of_new bd _) fun _ _ e=>e))));have HCC:=Lib.hid hC;have CO:=Lib.hid (fun (w5:World) (g5:ErrG w5) (f5:FV w5 base z (.agg #[u]))=>fvcode_any w5 g5 f5);unfold offT at SA;clear V3 FV3 G3 Kf Kv M3 bd Vd Kfd Kvd V4 hC;go_wp2_with fail
  refine region_cl 11 C (by kernel_rfl) ?_;generalize w3.drew=wd at *;refine phase_cl (by kernel_rfl) 5 hC0 [0,1,2,3,4,5,6] rfl (by kernel_rfl) ?_;simp only [picks,nth]
  repeat (go_big_quiet_step (fail))
  refine wpQuiet_nil ?_;refine phase_opL 7 4 rfl (by kernel_rfl) (by decide) ?_;simp only [nth];clear cl0 cl1 cl2;go_wp2_with fail
  refine (SA.out).mono ?_;rintro e w4 ⟨rfl,b4⟩;obtain ⟨Vd,Kfd,Kvd,Md⟩:=HVd.out;have V4:=Vd.below b4;have F4:=V4.four;have hC4:C w4:=(HCC.out _).2 ⟨Kfd.later b4,Kvd.later b4,by rw [← HX.out.1]; exact F4.1.2.2.2⟩;have V5:=V4.set_ (i:=3) (u:=.bool (decide (z=7))) (x':={ x1 with off:=decide (z=7) }) rfl ⟨rfl,rfl,rfl,rfl⟩ rfl;have m5:=Mv.setCell w4 ⟨gv,3,none⟩ (.bool (decide (z=7)));have G4:=Gd.out.below b4;have G5:ErrG (w4.setCell ⟨gv,3,none⟩ (.bool (decide (z=7)))):=G4.mv m5 (fun e=>vend_zero G4 F4.1.1 (by intros; simp) e);have FV5:=vend_fv (FVd.out.below b4) m5 V4.blk;have K5:=(Kfd.later b4).mv m5 (fun e=>by have e2:w.heap.size=gv:=e; have:=HGV.out; omega);have hC5:C (w4.setCell ⟨gv,3,none⟩ (.bool (decide (z=7))))∨True:=.inr trivial;have M5:=(Md.trans (Mv.of_new b4 _) fun _ _ e=>e).trans m5 fun _ _ e=>e
  have HV5:=Lib.hid (And.intro V5 (And.intro M5 K5));have CO5:=Lib.hid (CO.out _ G5 FV5);have kv4:=(Kvd.later b4).cell 0;have HZ7:∃ b,b=decide (z=7):=⟨_,rfl⟩;obtain ⟨b7,hb7⟩:=HZ7;rw [← hb7] at CO5 HV5 HX ⊢;rw [show (if z=0 then (0:Int) else 101056512)=codeZ z from rfl] at CO5;have k5:=HV5.out.2.2.cell 0;clear hb7 SA HVd Gd FVd CO V4 V5 m5 G4 G5 FV5 K5 hC5 M5 Vd Kfd Kvd Md b4 hC0;go_wp2_with fail
  refine behind_cl hC4 ?_;refine phase_cl (by kernel_rfl) 3 hC4 [8] rfl (by kernel_rfl) ?_;simp only [picks,nth]
  repeat (go_big_quiet_step (fail))
  refine wpQuiet_nil ?_;refine phase_opL 9 2 rfl (by kernel_rfl) (by decide) ?_;simp only [nth];go_wp2_with fail
  refine behind_cl hC4 ?_;refine phase_cl (by kernel_rfl) 1 hC4 [10] rfl (by kernel_rfl) ?_;simp only [picks,nth]
  repeat (go_big_quiet_step (fail))
  refine wpQuiet_nil ?_;refine phase_last 0 rfl (by kernel_rfl) (by decide) (by kernel_rfl) ?_;simp only [nth];go_wp2_with fail
  refine behind_last ?_;go_wp2_with fail
  refine (CO5.out).mono ?_;rintro e w6 ⟨rfl,b6⟩;go_wp2_with fail
  go_ret
  obtain ⟨V5,M5,_⟩:=HV5.out;refine ⟨rfl,M5.trans (Mv.of_new b6 _) fun _ _ e=>e,As',cs',?_⟩;rw [HX.out.2];exact V5.below b6
end Go.Proofs.YtijegngfclkdaaaGreatDoor
namespace Go.Proofs.YtijegngfclkdaaaGreatDoor
open Go.RowKit
def KeepP (w:World) (B:Nat) (base gf:Nat) (Ab:Option Addr) (n cb:Nat) (A':Option Addr) (m c':Nat) (F:Nat→Prop) (gv gj gl:Nat) (A:Option Addr) (c:Nat) (f:Fla) (x:Vau) (kind:Nat) (l:List Dc.Vl) (e:Ending) (w':World):Prop :=
 ∃ (bs:List UInt8) (xs':List Value) (As':Option Addr) (cs':Nat),bs.length=Sn.sizeV l∧e=.returned (.int .u32 (codeZ (appA f x.L x.now x.has kind bs).code))∧Mv (fun q=>q=gv∨q=gj∨q=gl∨FF gf Ab n cb A' m c' q) w w'∧FlM w' base gf Ab n cb A' m c' (appA f x.L x.now x.has kind bs).f ∧
  VaM w' (fun q=>F q∨(B≤q∧q < w'.heap.size)) gv gj gl A c xs' gf As' cs' (endV (apV x (appA f x.L x.now x.has kind bs)) l (appA f x.L x.now x.has kind bs).code)
theorem vkeep_any {w:World} {F:Nat→Prop} {gv gj gl c gf cs:Nat} {A As:Option Addr} {xs:List Value} {x:Vau} (h:VaM w F gv gj gl A c xs gf As cs x) {base n cb m c':Nat} {Ab A':Option Addr} {f:Fla} (hf:FlM w base gf Ab n cb A' m c' f)
  (hap:∀ q,FF gf Ab n cb A' m c' q→¬ F q) (hFl:∀ q,F q→q < w.heap.size) (hg:ErrG w) (h0:¬ F 0∧¬ FF gf Ab n cb A' m c' 0) {Al:Option Addr} {cl B:Nat} {l:List Dc.Vl} (hl:RVq w (fun q=>B≤q) Al l.length cl l) (hFB:∀ q,F q→q < B) (hFFB:∀ q,FF gf Ab n cb A' m c' q→q < B) (hB:B≤w.heap.size) (ho:OrdV l) (ht:∀ f∈l,thereB f.index f.sub=true) (hs:Sn.sizeV l≤960) (hk:l.length≤1000)
  (kind:Nat) (hkd:kind=1∨(kind=2∧Sn.sizeV l=0)) (hr:Rdy f x.L x.now x.has n m (Sn.sizeV l)) (hdead:x.dead=false) (hoff:x.off=false) :
  Calls Tryz.prog 305 #[.pointer (some ⟨gv,0,none⟩),.int .i64 (kind:Int),.slice Al l.length cl] w (KeepP w B base gf Ab n cb A' m c' F gv gj gl A c f x kind l):=by
 have b1:=alloc_one w (.cells #[.pointer (some ⟨gv,0,none⟩)] 108);have K1:=Blk.new w 108 #[.pointer (some ⟨gv,0,none⟩)];have b2:=alloc_one (w.alloc (.cells #[.pointer (some ⟨gv,0,none⟩)] 108)) (.cells #[.slice Al l.length cl] 213);have K2:=Blk.new (w.alloc (.cells #[.pointer (some ⟨gv,0,none⟩)] 108)) 213 #[.slice Al l.length cl];rw [World.size_alloc] at K2;have K12:=K1.later b2;have d2:=below_step b1 b2 (Nat.le_refl _);have hs2:((w.alloc (.cells #[.pointer (some ⟨gv,0,none⟩)] 108)).alloc (.cells #[.slice Al l.length cl] 213)).heap.size=w.heap.size + 2:=by rw [World.size_alloc,World.size_alloc]
 have l2:=hl.below d2;have WR:=Lib.hid (vwrite_any (h.below d2) (hf.below d2) hap (fun q hq=>Nat.lt_of_lt_of_le (hFl q hq) d2.size) (hg.below d2) h0 l2.rvl (Nat.le_refl _) (Nat.le_refl _) ho ht hs hk kind hkd hr hdead);have HK:=Lib.hid (And.intro K12 (And.intro K2 (And.intro d2 hs2)));have HL:=Lib.hid l2;have HH:=Lib.hid (And.intro hap (And.intro hFl (And.intro hg (And.intro h0 (And.intro hFB (And.intro hFFB (And.intro hB hoff)))))));have HV:=Lib.hid h;have HF:=Lib.hid hf;have k1:=K12.one;have k2:=K2.one;have hgj:gj < w.heap.size:=h.jo.blk.lt;have hgl:gl < w.heap.size:=by
  obtain ⟨q,e,_,hq⟩:=h.jo.own.head (by have:=hr.hL; have:=hr.hm1; omega);have:=(h.jo.at_ q (by rw [e]; rfl)).1;omega
 have hFj:F gj∧F gl:=⟨h.jo.fg.1,by
  obtain ⟨q,e,_,hq⟩:=h.jo.own.head (by have:=hr.hL; have:=hr.hm1; omega);have:=(h.jo.at_ q (by rw [e]; rfl)).2;exact this.1⟩
 have HG:=Lib.hid (And.intro hgj (And.intro hgl hFj));clear h hf hap hFl hg h0 hl hFB hFFB hB ho ht hs hk hkd hr hdead hoff b1 K1 b2 K2 K12 d2 hs2 l2 hgj hgl hFj;go_enter Tryz.func305,Tryz.ntmps305
 go_wp2_with fail
 generalize (w.alloc (.cells #[.pointer (some ⟨gv,0,none⟩)] 108)).alloc (.cells #[.slice Al l.length cl] 213)=w2 at *;refine (WR.out).mono ?_;rintro e w3 ⟨bs,v,xs',hbs,rfl,fv3,m3,f3,V3⟩;have hlt3:∀ q,(q=gj∨q=gl∨FF gf Ab n cb A' m c' q)→q < w.heap.size:=fun q hq=>by
  rcases hq with hq | hq | hq
  ·rw [hq]; exact HG.out.1
  ·rw [hq]; exact HG.out.2.1
  ·exact HF.out.lt hq
 have K31:=HK.out.1.mv m3 (fun e=>by have:=hlt3 _ e; omega);have K32:=HK.out.2.1.mv m3 (fun e=>by have:=hlt3 _ e; omega);have L3:=HL.out.mv m3 fun q _ hq hf=>by
  have hq':B≤q:=hq;rcases hf with hf | hf | hf
  ·have:=HH.out.2.2.2.2.1 gj HG.out.2.2.1; omega
  ·have:=HH.out.2.2.2.2.1 gl HG.out.2.2.2; omega
  ·have:=HH.out.2.2.2.2.2.1 q hf; omega
 have G3:=(HH.out.2.2.1.below HK.out.2.2.1).mv m3 (fun e=>by
  rcases e with e | e | e
  ·exact HH.out.2.2.2.1.1 (by rw [e]; exact HG.out.2.2.1)
  ·exact HH.out.2.2.2.1.1 (by rw [e]; exact HG.out.2.2.2)
  ·exact HH.out.2.2.2.1.2 e)
 have V3':=V3.mono (G:=fun q=>F q∨B≤q) fun q _ hq=>by
  rcases hq with hq | hq
  ·exact .inl hq
  ·have:=HH.out.2.2.2.2.2.2.1; have:=HK.out.2.2.2; exact .inr (by omega)
 have hgvB:gv < B:=HH.out.2.2.2.2.1 gv HV.out.fg;have EN:=Lib.hid (vend_any V3' HH.out.2.2.2.2.2.2.2 K32 K31 (L3.mono fun q _ hq=>by
  have hq':B≤q:=hq;have:=HH.out.2.2.2.2.1 gj HG.out.2.2.1;have:=HH.out.2.2.2.2.1 gl HG.out.2.2.2;exact ⟨.inr hq',by omega,by omega,by omega⟩) fv3 G3)
 have HP:=Lib.hid (And.intro hbs (And.intro m3 f3));clear WR V3 V3' L3 G3 K31 K32 hbs m3 f3 fv3 k1 k2 hlt3;go_wp2_with fail
 refine (EN.out).mono ?_;rintro e w4 ⟨rfl,m4,As',cs',V4⟩;have HE:=Lib.hid (And.intro m4 V4);clear EN m4 V4;go_wp2_with fail
 go_ret
 obtain ⟨m4,V4⟩:=HE.out;obtain ⟨hbs,m3,f3⟩:=HP.out;refine ⟨bs,xs',As',cs',hbs,rfl,((Mv.of_new HK.out.2.2.1 _).trans m3 fun _ _ h=>.inr h).trans m4 fun _ _ h=>.inl h,f3.mv m4 fun q hq e=>HH.out.1 q hq (by have e2:q=gv:=e; rw [e2]; exact HV.out.fg),V4.mono fun q hq hf=>?_⟩;rcases hf with hf | hf
 ·exact .inl hf
 ·exact .inr ⟨hf,hq⟩
theorem vStore_any {w:World} {F:Nat→Prop} {gv gj gl c gf cs:Nat} {A As:Option Addr} {xs:List Value} {x:Vau} (h:VaM w F gv gj gl A c xs gf As cs x) {base n cb m c':Nat} {Ab A':Option Addr} {f:Fla} (hf:FlM w base gf Ab n cb A' m c' f)
  (hap:∀ q,FF gf Ab n cb A' m c' q→¬ F q) (hFl:∀ q,F q→q < w.heap.size) (hg:ErrG w) (h0:¬ F 0∧¬ FF gf Ab n cb A' m c' 0) {FD:Nat→Prop} {g gd lc vc:Nat} {la:Addr} {vA:Option Addr} {ys vs:List Value} {D:Dc.Dic} (hd:DRt 131 w FD g gd (some la) lc vA vc ys vs D)
  (hdf:∀ e∈D.l,e.dflt.length≤1000000) (hvl:∀ v∈D.v,v.length≤1000000) (ho:OrdV (Sn.ofS D)) (ht:∀ f∈Sn.ofS D,thereB f.index f.sub=true) (hs:Sn.sizeV (Sn.ofS D)≤960) (hk:(Sn.ofS D).length≤1000) (hdl:∀ f∈Sn.ofS D,f.data.length≤1000000)
  (hr:Rdy f x.L x.now x.has n m (Sn.sizeV (Sn.ofS D))) (hdead:x.dead=false) (hoff:x.off=false) :
  Calls Tryz.prog 269 #[.pointer (some ⟨gv,0,none⟩),.pointer (some ⟨g,0,none⟩),.int .i64 1] w (KeepP w w.heap.size base gf Ab n cb A' m c' F gv gj gl A c f x 1 (Sn.ofS D)):=by
 have CK:=Lib.hid (vcheck_one h);have DR:=Lib.hid (sdrop_one w h.vals.rvl (Nat.le_refl _) (Nat.le_refl _));have OF:=Lib.hid (fun (w1:World) (b:Below w.heap.size w w1)=>sof_one (hd.below b) hdf hvl);have JN:=Lib.hid (fun (w2:World) (A2:Option Addr) (n2 c2 B B':Nat) (h2:RVl w2 B B' A2 n2 c2 (Sn.ofS D)) (hB:B≤w2.heap.size) (hB':B'≤B) (hn:n2≤1000)=>sjoin_none w2 h2 hB hB' hn ho hdl);have KP:=Lib.hid (fun (w3:World) (b:Below w.heap.size w w3) (A3:Option Addr) (c3:Nat) (h3:RVq w3 (fun q=>w.heap.size≤q) A3 (Sn.ofS D).length c3 (Sn.ofS D))=>vkeep_any (h.below b) (hf.below b) hap (fun q hq=>Nat.lt_of_lt_of_le (hFl q hq) b.size) (hg.below b) h0 h3 hFl (fun q hq=>hf.lt hq) b.size ho ht hs hk 1 (.inl rfl) hr hdead hoff);have F4:=h.four;have HK:=Lib.hid hk;clear h hf hap hFl hg h0 hd hdf hvl ho ht hs hk hdl hr hdead hoff;generalize Sn.ofS D=l at *;go_enter Tryz.func269,Tryz.ntmps269
 go_wp2_with fail
 refine (CK.out).mono ?_;rintro e _ ⟨rfl,rfl⟩;go_wp2_with fail
 refine (DR.out).mono ?_;rintro e w1 ⟨rfl,b1⟩;have OF1:=Lib.hid (OF.out w1 b1);have HB1:=Lib.hid b1;clear CK DR OF b1 F4;go_wp2_with fail
 refine (OF1.out).mono ?_;rintro e w2 ⟨A2,c2,rfl,o2,b2⟩;have hvl2:=(os_rvq o2).rvl;have JN2:=Lib.hid (JN.out w2 A2 l.length c2 _ _ hvl2 (Nat.le_refl _) (Nat.le_refl _) HK.out);have HB2:=Lib.hid (below_step HB1.out b2 (Nat.le_refl _));clear OF1 JN o2 b2 hvl2;go_wp2_with fail
 refine (JN2.out).mono ?_;rintro e w3 ⟨A3,c3,rfl,o3,b3⟩;have d3:=below_step HB2.out b3 (Nat.le_refl _);have hs3:=HB2.out.size;have KP3:=Lib.hid (KP.out w3 d3 A3 c3 ((os_rvq o3).mono fun q _ hq=>Nat.le_trans hs3 hq));have HB3:=Lib.hid d3;clear JN2 KP o3 b3 d3 hs3;go_wp2_with fail
 refine (KP3.out).mono ?_;rintro e w4 ⟨bs,xs',As',cs',hbs,rfl,m4,f4,V4⟩;have HP:=Lib.hid (And.intro hbs (And.intro m4 (And.intro f4 V4)));clear KP3 hbs m4 f4 V4;go_wp2_with fail
 go_ret
 obtain ⟨hbs,m4,f4,V4⟩:=HP.out;exact ⟨bs,xs',As',cs',hbs,rfl,(Mv.of_new HB3.out _).trans m4 fun _ _ h=>h,f4,V4⟩
theorem vRestore_any {w:World} {F:Nat→Prop} {gv gj gl c gf cs:Nat} {A As:Option Addr} {xs:List Value} {x:Vau} (h:VaM w F gv gj gl A c xs gf As cs x) {base n cb m c':Nat} {Ab A':Option Addr} {f:Fla} (hf:FlM w base gf Ab n cb A' m c' f)
  (hap:∀ q,FF gf Ab n cb A' m c' q→¬ F q) (hFl:∀ q,F q→q < w.heap.size) (hg:ErrG w) (h0:¬ F 0∧¬ FF gf Ab n cb A' m c' 0) (hr:Rdy f x.L x.now x.has n m 0) (hdead:x.dead=false) (hoff:x.off=false) :
  Calls Tryz.prog 270 #[.pointer (some ⟨gv,0,none⟩),.int .i64 1] w (KeepP w w.heap.size base gf Ab n cb A' m c' F gv gj gl A c f x 2 []):=by
 have CK:=Lib.hid (vcheck_one h);have DR:=Lib.hid (sdrop_one w h.vals.rvl (Nat.le_refl _) (Nat.le_refl _));have KP:=Lib.hid (fun (w3:World) (b:Below w.heap.size w w3)=>vkeep_any (l:=[]) (h.below b) (hf.below b) hap (fun q hq=>Nat.lt_of_lt_of_le (hFl q hq) b.size) (hg.below b) h0 (RVq.nil w3 (fun q=>w.heap.size≤q)) hFl (fun q hq=>hf.lt hq) b.size (fun i j _ h2=>absurd h2 (Nat.not_lt_zero j)) (fun f hf=>by cases hf) (Nat.zero_le _) (Nat.zero_le _) 2 (.inr ⟨rfl,rfl⟩) hr hdead hoff);have F4:=h.four;clear h hf hap hFl hg h0 hr hdead hoff;go_enter Tryz.func270,Tryz.ntmps270
 go_wp2_with fail
 refine (CK.out).mono ?_;rintro e _ ⟨rfl,rfl⟩;go_wp2_with fail
 refine (DR.out).mono ?_;rintro e w1 ⟨rfl,b1⟩;have KP3:=Lib.hid (KP.out w1 b1);have HB3:=Lib.hid b1;clear CK DR KP b1 F4;go_wp2_with fail
 refine (KP3.out).mono ?_;rintro e w4 ⟨bs,xs',As',cs',hbs,rfl,m4,f4,V4⟩;have HP:=Lib.hid (And.intro hbs (And.intro m4 (And.intro f4 V4)));clear KP3 hbs m4 f4 V4;go_wp2_with fail
 go_ret
 obtain ⟨hbs,m4,f4,V4⟩:=HP.out;exact ⟨bs,xs',As',cs',hbs,rfl,(Mv.of_new HB3.out _).trans m4 fun _ _ h=>h,f4,V4⟩
end Go.Proofs.YtijegngfclkdaaaGreatDoor
namespace Go.Proofs.YtijegngfclkdaaaGreatDoor
open Go.RowKit
def resetS (D:Dc.Dic):Dc.Dic:=⟨D.l,D.l.map fun e=>e.dflt⟩
def ResK (D:Dc.Dic) (k:Nat) (D1:Dc.Dic):Prop:=D1.l=D.l∧D1.v.length=D.l.length∧∀ i,i < k→D1.v.getD i []=(D.l.getD i Dc.en0).dflt
theorem ResK.step {D D1:Dc.Dic} {k:Nat} (h:ResK D k D1) (hk:k < D.l.length):ResK D (k + 1) ⟨D1.l,D1.v.set k (D.l.getD k Dc.en0).dflt⟩:=by
 obtain ⟨h1,h2,h3⟩:=h;refine ⟨h1,by rw [List.length_set]; exact h2,fun i hi=>?_⟩;dsimp only;rw [List.getD_eq_getElem?_getD,List.getElem?_set];split
 ·rename_i e
  subst e;rw [if_pos (by omega)];rfl
 ·rw [← List.getD_eq_getElem?_getD]
  exact h3 i (by omega)
theorem ResK.done {D D1:Dc.Dic} (h:ResK D D.l.length D1):D1=resetS D:=by
 obtain ⟨h1,h2,h3⟩:=h;obtain ⟨l,v⟩:=D1;dsimp only at h1 h2 h3;subst h1;unfold resetS
 congr 1
 apply List.ext_getElem
 ·simpa using h2
 ·intro i hi hi'
  have:=h3 i (by omega);rw [List.getD_eq_getElem?_getD,List.getElem?_eq_getElem hi,List.getD_eq_getElem?_getD,List.getElem?_eq_getElem (by omega)] at this;simpa using this
theorem behind_last2 {f:Act→World→Prop} {K:Exit→Act→World→Prop} {a:Act} {w:World} (h:f a w):Qn (fun a' w'=>f a' w') K .normal a w:=h
def ResetP {t:TypeId} (D:Dc.Dic) (w:World) (F:Nat→Prop) (g gv:Nat) (lA:Option Addr) (lc:Nat) (vA:Option Addr) (vc:Nat) (xs:List Value) (e:Ending) (w':World):Prop :=
 e=.returned (.tuple #[])∧Mv (fun q=>q=gv) w w'∧∃ vs',DRt t w' (fun q=>F q∨(w.heap.size≤q∧q < w'.heap.size)) g gv lA lc vA vc xs vs' (resetS D)
theorem dreset_any {F:Nat→Prop} {w:World} {g gv lc vc:Nat} {la:Addr} {vA:Option Addr} {xs vs:List Value} {D:Dc.Dic} (h:DRt 131 w F g gv (some la) lc vA vc xs vs D) (hd:∀ e∈D.l,e.dflt.length≤1000000):Calls Tryz.prog 138 #[.pointer (some ⟨g,0,none⟩)] w (ResetP (t:=131) D w F g gv (some la) lc vA vc xs):=by
 have LN:=Lib.hid (dLen_any h);have hlc:=h.lcap;have h96:=h.few;have HD:=Lib.hid (fun k (hk:k < D.l.length)=>show (D.l.getD k Dc.en0).dflt.length≤1000000 from hd _ (by rw [List.getD_eq_getElem?_getD,List.getElem?_eq_getElem hk]; exact List.getElem_mem hk));have R0:Hid (Mv (fun q=>q=gv) w w∧∃ vs',DRt 131 w (fun q=>F q∨(w.heap.size≤q∧q < w.heap.size)) g gv (some la) lc vA vc xs vs' D):=Lib.hid ⟨Mv.refl _ _,vs,h.mono fun _ _ hf=>.inl hf⟩;have RK:Hid (ResK D 0 D):=Lib.hid ⟨rfl,h.len,fun i hi=>absurd hi (by omega)⟩;clear h hd;go_enter Tryz.func138,Tryz.ntmps138
 go_wp2_with fail
 refine (LN.out).mono ?_;rintro e _ ⟨rfl,rfl⟩;go_wp2_with fail
 go_loopw [5] (fun v wr=>∃ (k:Nat) (D1:Dc.Dic),k≤D.l.length∧v=.int .i64 k∧Hid (ResK D k D1)∧Hid (Mv (fun q=>q=gv) w wr∧∃ vs',DRt 131 wr (fun q=>F q∨(w.heap.size≤q∧q < wr.heap.size)) g gv (some la) lc vA vc xs vs' D1)) (fun v _=>D.l.length - (intOf v).toNat)
 case atStart=>exact ⟨0,D,by omega,rfl,RK,R0⟩
 case round =>
  obtain ⟨k,D1,hk,rfl,HK,HR⟩:=hrel;clear RK R0 LN
  by_cases hlt:k < D.l.length
  ·obtain ⟨hm,vs1,h1⟩:=HR.out
   have hl1:=HK.out.1;have hst:=HK.out.step hlt;obtain ⟨t0,t1⟩:=h1.two;have hcap:D1.l.length≤vc∧vc≤9223372036854775807:=⟨h1.own.rv.le,h1.own.rv.cap⟩;obtain ⟨b,oo,A1,n1,c1,hA1,hbB,hr,hc⟩:=h1.entry (show k < D1.l.length by rw [hl1]; exact hlt);obtain ⟨A2,n2,c2,hA2,hFv,hgv,_,hcell,hfr⟩:=h1.value (show k < D1.l.length by rw [hl1]; exact hlt);rw [hl1] at t0 t1 hr hc hcap;have hdl:=HD.out k hlt;have q10:=hc 10 _ rfl;have hrl:=hr.len;injection hA1 with hA1
   subst hA1 hA2;have OWN:=Lib.hid (fun (w2:World) (hb:Below wr.heap.size wr w2)=>down_any w2 (hr.below hb) (by omega) hb.size);have hgl:=h1.blk.lt;have hne:=h1.ne;have hfg:=h1.fg;have hcap2:=hcap.1;have hcap3:=hcap.2;have hlc1:=hlc.1;have hlc2:=hlc.2;have i0:(0:Int)≤(k:Int):=by omega
   have i1:(k:Int) < (D.l.length:Int):=by omega
   have T0:=cell_mv (G:=fun q=>q=gv) t0 hne;have T1:=cell_mv (G:=fun q=>q=gv) t1 hne;have HB:b≠gv:=fun e=>by
    have:=h1.row;obtain ⟨b',o',e',hF',_⟩:=this.at_ (show 0 < D1.l.length by rw [hl1]; omega);injection e' with e'
    injection e' with e1 e2
    subst e1;exact hF'.2.2 e
   have Q10:=cell_mv (G:=fun q=>q=gv) q10 HB;have H1:=Lib.hid h1;have HST:=Lib.hid hst;have HM:=Lib.hid hm;clear h1 hm hst HR HK hr hc q10 t0 t1 hcap;generalize (D.l.getD k Dc.en0).dflt=dat at *;subst hrl;go_wp2_with fail
   refine region_mv 15 (fun q=>q=gv) (by kernel_rfl) ?_;refine phase_mv (by kernel_rfl) 3 (Mv.refl _ _).drew [0,1,2,3,4,5,6,7,8,9,10,11,12] rfl (by kernel_rfl) ?_;simp only [picks,nth]
   repeat (go_big_quiet_step (fail))
   refine wpQuiet_nil ?_;refine phase_opL 13 2 rfl (by kernel_rfl) (by decide) ?_;simp only [nth];go_wp2_with fail
   refine (OWN.out _ (below_drew wr)).mono ?_;rintro e w3 ⟨A3,c3,rfl,o3,b3⟩;have bd:Below wr.heap.size wr w3:=(below_drew wr).trans b3;go_wp2_with fail
   refine behind_mv (Mv.of_new bd _) ?_;have V3:=cell_mv (G:=fun q=>q=gv) hcell;refine phase_mv (by kernel_rfl) 1 (Mv.of_new bd _) [14] rfl (by kernel_rfl) ?_;simp only [picks,nth]
   repeat (go_big_quiet_step (fail))
   refine wpQuiet_nil ?_;refine phase_last 0 rfl (by kernel_rfl) (by decide) (by kernel_rfl) ?_;simp only [nth];have hv3:w3.cell? ⟨gv,k,none⟩=some (.slice A2 n2 c2):=(bd.cell (p:=⟨gv,k,none⟩) hgv).trans hcell;have hf3:w3.frozen? ⟨gv,k,none⟩=false:=(H1.out.below bd).own.free k;go_wp2_with fail
   refine behind_last2 ?_;have hm4:Mv (fun q=>q=gv) w (w3.setCell ⟨gv,k,none⟩ (.slice A3 dat.length c3)):=(HM.out.trans (Mv.of_new bd (fun q=>q=gv)) fun _ _ e=>e).trans (Mv.setCell w3 ⟨gv,k,none⟩ _) fun _ _ e=>e
   have hs4:(w3.setCell ⟨gv,k,none⟩ (.slice A3 dat.length c3)).heap.size=w3.heap.size:=by simp [World.setCell]
   have hs3:=bd.size;have hs0:=HM.out.size;have h4:=(H1.out.put (by rw [hl1]; exact hlt) bd o3).mono (G:=fun q=>F q∨(w.heap.size≤q∧q < (w3.setCell ⟨gv,k,none⟩ (.slice A3 dat.length c3)).heap.size)) fun b hb hf=>by
    rw [hs4];rcases hf with (hf | hf) | hf
    ·exact .inl hf
    ·exact .inr (by omega)
    ·exact .inr (by omega)
   have HN:Hid (Mv (fun q=>q=gv) w (w3.setCell ⟨gv,k,none⟩ (.slice A3 dat.length c3))∧∃ vs',DRt 131 (w3.setCell ⟨gv,k,none⟩ (.slice A3 dat.length c3)) (fun q=>F q∨(w.heap.size≤q∧q < (w3.setCell ⟨gv,k,none⟩ (.slice A3 dat.length c3)).heap.size)) g gv (some ⟨b,oo,none⟩) lc (some ⟨gv,0,none⟩) vc xs vs' ⟨D1.l,D1.v.set k dat⟩):=Lib.hid ⟨hm4,_,h4⟩;clear hm4 h4 hv3 hf3 o3 b3 bd;go_wp2_with fail
   go_roundw
   case rel=>exact ⟨k + 1,_,by omega,by go_num,HST,HN⟩
   case measure=>simp [intOf] <;> omega
  ·obtain rfl:k=D.l.length:=by omega
   have hD:=HK.out.done;subst hD;go_wp2_with fail
   go_end0
   exact ⟨rfl,HR.out.1,HR.out.2⟩
end Go.Proofs.YtijegngfclkdaaaGreatDoor
namespace Go.Proofs.YtijegngfclkdaaaGreatDoor
open Go.RowKit
def loadD (D:Dc.Dic) (s:List Dc.Vl):Dc.Dic:=if Sn.checkS (resetS D) s=0 then Sn.applyS (resetS D) s else resetS D
theorem vLoad_any {w:World} {F FD:Nat→Prop} {gv gj gl c gf cs:Nat} {A As:Option Addr} {xs:List Value} {x:Vau} (h:VaM w F gv gj gl A c xs gf As cs x)
  {g gd lc vc:Nat} {la:Addr} {vA:Option Addr} {ys vs:List Value} {D:Dc.Dic} (hd:DRt 131 w FD g gd (some la) lc vA vc ys vs D) (hdf:∀ e∈D.l,e.dflt.length≤1000000) (h0:0 < D.l.length) (hs:∀ f∈x.s,f.data.length≤1000000) (hap:¬ F gd) :
  Calls Tryz.prog 93 #[.pointer (some ⟨gv,0,none⟩),.pointer (some ⟨g,0,none⟩)] w fun e w'=>(∃ z,e=.returned (.int .i64 z))∧Mv (fun q=>q=gd) w w'∧∃ vs',DRt 131 w' (fun q=>FD q∨(w.heap.size≤q∧q < w'.heap.size)) g gd (some la) lc vA vc ys vs' (loadD D x.s):=by
 have TH:=Lib.hid (vthere_any h);have RE:=Lib.hid (dreset_any hd hdf);have HV:=Lib.hid h;have HD:=Lib.hid (And.intro hdf (And.intro h0 (And.intro hs hap)));clear h hd hdf h0 hs hap;go_enter Tryz.func93,Tryz.ntmps93
 go_wp2_with fail
 refine (TH.out).mono ?_;rintro e _ ⟨rfl,rfl⟩;go_wp2_with fail
 refine (RE.out).mono ?_;rintro e w1 ⟨rfl,m1,vs1,hd1⟩;have hv1:=HV.out.mv m1 fun b _ hf e=>HD.out.2.2.2 (by have e2:b=gd:=e; rw [← e2]; exact hf)
 have F1:=hv1.four;have hl:(resetS D).l=D.l:=rfl;have AP:=Lib.hid (sapply_any hd1 (by rw [hl]; exact HD.out.1) (by rw [hl]; exact HD.out.2.1) hv1.vals (fun hq=>HD.out.2.2.2 hq.1) HD.out.2.2.1);have M1:=Lib.hid m1;clear m1 hd1 hv1 hl TH RE;go_wp2_with fail
 refine (AP.out).mono ?_;rintro e w2 ⟨rfl,m2,vs2,hd2⟩;have HP:=Lib.hid (And.intro m2 hd2);clear m2 hd2 AP;go_wp2_with fail
 go_ret
 obtain ⟨m2,hd2⟩:=HP.out;refine ⟨⟨_,rfl⟩,M1.out.trans m2 fun _ _ e=>e,vs2,hd2.mono fun q hq hf=>?_⟩;have:=M1.out.size;rcases hf with (hf | hf) | hf
 ·exact .inl hf
 ·exact .inr ⟨hf.1,hq⟩
 ·exact .inr ⟨by omega,hq⟩
end Go.Proofs.YtijegngfclkdaaaGreatDoor
