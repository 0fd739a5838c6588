/-
  Pieces of the proof: part 34 of 54.
  Conditions: none.
-/
import Derived.Deep.QuietTactic
import Derived.BigQuiet
import Derived.IntWalk
import Derived.Test.YtijegngfclkdaaaGreatDoorW13
import Derived.Test.YtijegngfclkdaaaGreatDoorW14
import Derived.Test.YtijegngfclkdaaaGreatDoorW17
import Derived.Test.YtijegngfclkdaaaGreatDoorW21
import Derived.Test.YtijegngfclkdaaaGreatDoorW22
import Derived.Test.YtijegngfclkdaaaGreatDoorW23
import Derived.Test.YtijegngfclkdaaaGreatDoorW24
import Derived.Test.YtijegngfclkdaaaGreatDoorW33
set_option linter.unusedVariables false
set_option linter.unusedSimpArgs false
set_option maxHeartbeats 100000000
set_option maxRecDepth 100000
namespace Go.Proofs.YtijegngfclkdaaaGreatDoor
open Go.RowKit
theorem dNew_any {A:Option Addr} {n c B B':Nat} {es:List Ent.En} (w:World) (h:REn w B B' A n c es) (hB:B≤w.heap.size) (hB':B'≤B) (hd:∀ e∈es,e.name.length≤1000000∧e.dflt.length≤1000000):Calls Tryz.prog 48 #[.slice A n c] w (NewPost 131 es w):=by
 have hl:=h.len;have hn:=h.lt
 by_cases h96:96 < n
 ·have hv:Dc.newS es=(3,96):=if_pos (by omega)
  have HV:=Lib.hid hv;clear hv hl;go_enter Tryz.func48,Tryz.ntmps48
  go_wp2_with fail
  go_ret3
  exact new_no HV.out (by decide) rfl (Below.refl _ _)
 have HN:Hid (Dc.newS es=Dc.newF es (n - 0) 0):=Lib.hid (by unfold Dc.newS; rw [if_neg (by omega),hl]; rfl);have HL:=Lib.hid hl;clear hl;have b00:=alloc_two w (.cells #[] 27) (.cells #[.slice (some ⟨w.heap.size,0,none⟩) 0 0,.slice none 0 0] 131);have N0:NwM 131 ((w.alloc (.cells #[] 27)).alloc (.cells #[.slice (some ⟨w.heap.size,0,none⟩) 0 0,.slice none 0 0] 131)) w.heap.size (w.heap.size + 1) (some ⟨w.heap.size,0,none⟩) 0 0 none 0 0 [] [] :=
  ⟨by omega,by have:=Blk.new (w.alloc (.cells #[] 27)) 131 #[.slice (some ⟨w.heap.size,0,none⟩) 0 0,.slice none 0 0]; simpa using this,⟨[],(OV.new (base:=w.heap.size) (e:=27) (size:=11) w [] 0 rfl (by omega) (Nat.le_refl _)).alloc _,Rows.nil⟩,OS.none_ _ _ _ _⟩
 go_enter Tryz.func48,Tryz.ntmps48
 go_wp2_with fail
 go_loopw [17] (fun v wr=>∃ (k:Nat) (la:Addr) (lc:Nat) (vA:Option Addr) (vc:Nat),k≤n∧v=.int .i64 k∧NwM 131 wr w.heap.size (w.heap.size + 1) (some la) k lc vA k vc (es.take k) ((es.take k).map (·.dflt))∧Below w.heap.size w wr∧Hid (Dc.newS es=Dc.newF es (n - k) k)) (fun v _=>n - (intOf v).toNat)
 case atStart=>exact ⟨0,_,_,_,_,by omega,rfl,N0,b00,HN⟩
 case round =>
  obtain ⟨k,la,lc,vA,vc,hk,rfl,N,bb,HQ⟩:=hrel;clear N0 HN
  by_cases hlt:k < n
  ·obtain ⟨b,o,A1,n1,c1,hA,hbB,hr0,hc⟩:=h.at_ hlt
   have hst:=HQ.out.trans (newF_step hlt);have hmem:es.getD k Dc.en0∈es:=by
    have:k < es.length:=by rw [HL.out]; exact hlt
    rw [List.getD_eq_getElem?_getD,List.getElem?_eq_getElem this];exact List.getElem_mem this
   obtain ⟨hnm,hdf0⟩:=hd _ hmem;have htk:es.take (k + 1)=es.take k ++ [es.getD k Dc.en0]:=by
    have:k < es.length:=by rw [HL.out]; exact hlt
    rw [List.take_succ_eq_append_getElem this];simp [List.getD,this]
   have HTK:Hid (es.take (k + 1)=es.take k ++ [es.getD k Dc.en0]∧(es.take (k + 1)).map (·.dflt)=(es.take k).map (·.dflt) ++ [(es.getD k Dc.en0).dflt]):=Lib.hid ⟨htk,by rw [htk,List.map_append]; rfl⟩;have hdl:=hr0.len;subst hA;generalize he:es.getD k Dc.en0=e0 at *;clear he htk hmem;obtain ⟨ix,sb,nm,ty,ac,mp,st,mx,lo,hi,df⟩:=e0;dsimp only at hr0 hnm hdf0 hdl hst HTK;have hdf:n1 < 140737488355328:=by omega
   have hbw:b < w.heap.size:=by omega
   have hR:=fun (w1:World) (q:Below w.heap.size w w1)=>Right_any ⟨ix,sb,nm,ty,ac,mp,st,mx,lo,hi,df⟩ (A:=A1) (n:=n1) (c:=c1) w1 (hr0.below (q.mono (Nat.le_trans hB' hB))) (Nat.le_trans (Nat.le_trans hB' hB) q.size) (by dsimp only; omega)
   unfold enV at hR;dsimp only at hR;have hg7:w.heap.size + 1 < wr.heap.size:=N.blk.lt;obtain ⟨Gq,hGq⟩:∃ Gq:Nat→Prop,∀ q,Gq q↔(w.heap.size≤q∧q≠w.heap.size + 1∧q≠wr.heap.size):=⟨_,fun q=>Iff.rfl⟩;have hGg:¬ Gq (w.heap.size + 1):=fun h=>((hGq _).1 h).2.1 rfl
   have hG7:¬ Gq wr.heap.size:=fun h=>((hGq _).1 h).2.2 rfl
   have hOwn:∀ b,some b=(Value.slice (some la) k lc).ownBlock→Gq b:=fun b hb=>by
    obtain ⟨zs,z1,_⟩:=N.row;have:=z1.lt b hb.symm;exact (hGq b).2 ⟨this.1,fun e=>own_blk_ne z1 N.blk (by decide) (by rw [← hb,e]),by omega⟩
   have hOwnV:∀ b,some b=(Value.slice vA k vc).ownBlock→Gq b:=fun b hb=>by
    obtain ⟨zs,z1,_⟩:=N.vrow;have:=z1.lt b hb.symm;exact (hGq b).2 ⟨this.1,fun e=>own_blk_ne z1 N.blk (by decide) (by rw [← hb,e]),by omega⟩
   clear hGq;have a0:=(bb.cell (p:=⟨b,o + k * 11 + 0,none⟩) hbw).trans (hc 0 _ rfl);have a1:=(bb.cell (p:=⟨b,o + k * 11 + 1,none⟩) hbw).trans (hc 1 _ rfl);have a2:=(bb.cell (p:=⟨b,o + k * 11 + 2,none⟩) hbw).trans (hc 2 _ rfl);have a3:=(bb.cell (p:=⟨b,o + k * 11 + 3,none⟩) hbw).trans (hc 3 _ rfl);have a4:=(bb.cell (p:=⟨b,o + k * 11 + 4,none⟩) hbw).trans (hc 4 _ rfl);have a5:=(bb.cell (p:=⟨b,o + k * 11 + 5,none⟩) hbw).trans (hc 5 _ rfl);have a6:=(bb.cell (p:=⟨b,o + k * 11 + 6,none⟩) hbw).trans (hc 6 _ rfl);have a7:=(bb.cell (p:=⟨b,o + k * 11 + 7,none⟩) hbw).trans (hc 7 _ rfl);have a8:=(bb.cell (p:=⟨b,o + k * 11 + 8,none⟩) hbw).trans (hc 8 _ rfl);have a9:=(bb.cell (p:=⟨b,o + k * 11 + 9,none⟩) hbw).trans (hc 9 _ rfl);have a10:=(bb.cell (p:=⟨b,o + k * 11 + 10,none⟩) hbw).trans (hc 10 _ rfl);simp only [Nat.add_zero] at a0;have b7:=bb.alloc bb.size (.cells #[.int .i64 ix,.int .i64 sb,.string (T nm),.int .i64 ty,.int .i64 ac,.bool mp,.bool st,.int .i64 mx,.int .i64 lo,.int .i64 hi,.slice A1 n1 c1] 27);have RG:=Lib.hid (hR _ b7);clear hc hR;have i0:(0:Int)≤(k:Int):=by omega
   have i1:(k:Int) < (n:Int):=by omega
   by_cases hrz:Ent.rightS ⟨ix,sb,nm,ty,ac,mp,st,mx,lo,hi,df⟩=0
   ·rw [hrz] at RG hst
    rw [if_neg (by decide)] at hst
    by_cases hk0:k=0
    ·rw [if_neg (by omega)] at hst
     have HNX:=Lib.hid hst;have i4:decide (0 < k)=false:=decide_eq_false (by omega);clear hst hrz hk0;go_wp2_with fail
     refine (RG.out).mono ?_;rintro e w1 ⟨rfl,b1⟩;have K7:=Blk.made b1;have K7e:=K7.eleven;have d1:=below_step b7 b1 (Nat.le_refl _);replace N:=(N.below (alloc_one wr (.cells #[.int .i64 ix,.int .i64 sb,.string (T nm),.int .i64 ty,.int .i64 ac,.bool mp,.bool st,.int .i64 mx,.int .i64 lo,.int .i64 hi,.slice A1 n1 c1] 27))).below b1;clear RG;go_wp2_with fail
     go_quiet (fail)
     have dc:=below_drewN d1 nq;replace N:=N.below (below_drewN (Below.refl _ w1) nq);replace K7:=K7.drewN nq;clear K7e d1;generalize w1.drewN nq=wc at *;have HELD:=held_any ⟨ix,sb,nm,ty,ac,mp,st,mx,lo,hi,df⟩ wc.drew (hr0.below (dc.drew.mono (Nat.le_trans hB' hB))) hdf (Nat.le_trans (Nat.le_trans hB' hB) dc.drew.size);unfold enV at HELD;dsimp only at HELD;replace HELD:=Lib.hid HELD;have t0:=cell_mv (G:=Gq) (N.blk.cell 0) hGg;have k0:=cell_mv (G:=Gq) (K7.cell 0) hG7;have k1:=cell_mv (G:=Gq) (K7.cell 1) hG7;have k2:=cell_mv (G:=Gq) (K7.cell 2) hG7;have k3:=cell_mv (G:=Gq) (K7.cell 3) hG7;have k4:=cell_mv (G:=Gq) (K7.cell 4) hG7;have k5:=cell_mv (G:=Gq) (K7.cell 5) hG7;have k6:=cell_mv (G:=Gq) (K7.cell 6) hG7;have k7:=cell_mv (G:=Gq) (K7.cell 7) hG7;have k8:=cell_mv (G:=Gq) (K7.cell 8) hG7;have k9:=cell_mv (G:=Gq) (K7.cell 9) hG7;have k10:=cell_mv (G:=Gq) (K7.cell 10) hG7;go_wp2_with fail
     refine region_mv 11 Gq (by kernel_rfl) ?_;refine phase_mv (by kernel_rfl) 6 (Mv.refl _ _).drew [0,1,5,2,3,4] rfl (by kernel_rfl) ?_;simp only [picks,nth]
     repeat (go_big_quiet_step (fail))
     refine wpQuiet_nil ?_;refine phase_opL 6 5 rfl (by kernel_rfl) (by decide) ?_;simp only [nth];go_wp2_with fail
     refine (HELD.out).mono ?_;rintro e w3 ⟨A3,c3,rfl,o3,b3⟩;have b3':Below wc.heap.size wc w3:=(below_drew wc).trans b3;go_wp2_with fail
     refine behind_mv (Mv.of_new b3' _) ?_;refine phase_opL 7 4 rfl (by kernel_rfl) (by decide) ?_;simp only [nth];go_wp2_with fail
     have b4:=alloc_one w3 (.cells #[.int .i64 ix,.int .i64 sb,.string (T nm),.int .i64 ty,.int .i64 ac,.bool mp,.bool st,.int .i64 mx,.int .i64 lo,.int .i64 hi,.slice A3 n1 c3] 27);have D4:=below_step b3' b4 (Nat.le_refl _);refine behind_mv (Mv.of_new D4 _) ?_;have N4:=N.below D4;have hnew:=RV.new w3 27 (size:=11) (cs:=enL ⟨ix,sb,nm,ty,ac,mp,st,mx,lo,hi,df⟩ A3 n1 c3) rfl;have hf4:EnB (w3.alloc (.cells #[.int .i64 ix,.int .i64 sb,.string (T nm),.int .i64 ty,.int .i64 ac,.bool mp,.bool st,.int .i64 mx,.int .i64 lo,.int .i64 hi,.slice A3 n1 c3] 27)) w.heap.size ⟨ix,sb,nm,ty,ac,mp,st,mx,lo,hi,df⟩ (enL ⟨ix,sb,nm,ty,ac,mp,st,mx,lo,hi,df⟩ A3 n1 c3):=⟨A3,n1,c3,rfl,(o3.more dc.drew.size).below b4⟩;have D40:=below_step dc D4 (Nat.le_refl _);refine phase_opL 8 3 rfl (by kernel_rfl) (by decide) ?_;simp only [nth];go_wp2_with (at_builtin; refine wpList_apps2 eten (fun w1=>EnB w1 w.heap.size) rfl (.tmp 45) (.tmp 48) rfl rfl rfl w.heap.size N4.row ⟨ix,sb,nm,ty,ac,mp,st,mx,lo,hi,df⟩ hnew hf4 (en_oneCell _ _ _ _) (by omega) (by omega) D40.size (fun w1 A1 n1 c1 xs hv hg f cs hf=>hf.beside hv (by decide) hg) ?_; intro A5 c5 w5 o5 b5 g5 _)
     have M5:Mv Gq wc w5:=(Mv.of_new D4 _).trans (Mv.of_grown g5) fun b hb e=>hOwn b e
     refine behind_mv M5 ?_;refine phase_opL 9 2 rfl (by kernel_rfl) (by decide) ?_;simp only [nth];go_wp2_with fail
     refine behind_mv M5 ?_;refine phase_opL 10 1 rfl (by kernel_rfl) (by decide) ?_;simp only [nth];go_wp2_with fail
     refine behind_mv M5 ?_;have F5:=(N.blk.mv M5 hGg).two;have K75:=(K7.mv M5 hG7).far (p:=⟨w.heap.size + 1,0,none⟩) (by dsimp only; omega) (.slice A5 (k + 1) c5);refine phase_last 0 rfl (by kernel_rfl) (by decide) (by kernel_rfl) ?_;simp only [nth];go_wp2_with fail
     refine behind_last ?_;have N6:=N4.addl (by decide) (by decide) (by decide) o5 g5;have d6:Below w.heap.size w (w5.setCell ⟨w.heap.size + 1,0,none⟩ (.slice A5 (k + 1) c5)):=(D40.trans b5).setCell (p:=⟨w.heap.size + 1,0,none⟩) (by dsimp only; omega) _;have hA5:∃ la5:Addr,A5=some la5:=by
      obtain ⟨zs,z1,_⟩:=o5;obtain ⟨q,e,_,_⟩:=z1.head (by omega);exact ⟨_,e⟩
     have hOwn5:∀ b,some b=(Value.slice vA k vc).ownBlock→Gq b:=hOwnV;obtain ⟨la5,rfl⟩:=hA5;generalize hwd:w5.setCell ⟨w.heap.size + 1,0,none⟩ (.slice (some la5) (k + 1) c5)=wd at *;clear hwd N4 N HELD t0 k0 k1 k2 k3 k4 k5 k6 k7 k8 k9 k10 F5 o5 g5 M5 D4 D40 hf4 hnew b4 b3 b3' o3 K7 hOwn;have K7:=K75;clear K75;have OWN:=Lib.hid (down_any wd.drew (hr0.below (d6.drew.mono (Nat.le_trans hB' hB))) hdf (Nat.le_trans (Nat.le_trans hB' hB) d6.drew.size));have t1:=cell_mv (G:=Gq) (N6.blk.cell 1) hGg;have k10:=cell_mv (G:=Gq) (K7.cell 10) hG7;go_wp2_with fail
     refine region_mv 12 Gq (by kernel_rfl) ?_;refine phase_mv (by kernel_rfl) 6 (Mv.refl _ _).drew [0,1,5,2,6,3,4] rfl (by kernel_rfl) ?_;simp only [picks,nth]
     repeat (go_big_quiet_step (fail))
     refine wpQuiet_nil ?_;refine phase_opL 7 5 rfl (by kernel_rfl) (by decide) ?_;simp only [nth];go_wp2_with fail
     refine (OWN.out).mono ?_;rintro e w3 ⟨A3,c3,rfl,o3,b3⟩;have b3':Below wd.heap.size wd w3:=(below_drew wd).trans b3;go_wp2_with fail
     refine behind_mv (Mv.of_new b3' _) ?_;refine phase_opL 8 4 rfl (by kernel_rfl) (by decide) ?_;simp only [nth];go_wp2_with fail
     have b4:=alloc_one w3 (.cells #[.slice A3 n1 c3] 25);have D4:=below_step b3' b4 (Nat.le_refl _);refine behind_mv (Mv.of_new D4 _) ?_;have N4:=N6.below D4;have hnew:=RV.new w3 25 (size:=1) (cs:=[.slice A3 n1 c3]) rfl;have hf4:ByB (w3.alloc (.cells #[.slice A3 n1 c3] 25)) w.heap.size df [.slice A3 n1 c3]:=⟨A3,n1,c3,rfl,(o3.more d6.drew.size).below b4⟩;have D40:=below_step d6 D4 (Nat.le_refl _);refine phase_opL 9 3 rfl (by kernel_rfl) (by decide) ?_;simp only [nth];go_wp2_with (at_builtin; refine wpList_apps2 etbs (fun w1=>ByB w1 w.heap.size) rfl (.tmp 56) (.tmp 60) rfl rfl rfl w.heap.size N4.vrow df hnew hf4 (fun u hu=>by simp only [List.mem_cons,List.not_mem_nil,or_false] at hu; rw [hu]; rfl) (by omega) (by omega) D40.size (fun w1 A1 n1 c1 xs hv hg f cs hf=>hf.beside hv (by decide) hg) ?_; intro A6 c6 w6 o6 b6 g6 _)
     have M5:Mv Gq wd w6:=(Mv.of_new D4 _).trans (Mv.of_grown g6) fun b hb e=>hOwn5 b e
     refine behind_mv M5 ?_;refine phase_opL 10 2 rfl (by kernel_rfl) (by decide) ?_;simp only [nth];go_wp2_with fail
     refine behind_mv M5 ?_;refine phase_opL 11 1 rfl (by kernel_rfl) (by decide) ?_;simp only [nth];go_wp2_with fail
     refine behind_mv M5 ?_;have F5:=(N6.blk.mv M5 hGg).two;refine phase_last 0 rfl (by kernel_rfl) (by decide) (by kernel_rfl) ?_;simp only [nth];go_wp2_with fail
     refine behind_last ?_;have N7:=N4.addv (by decide) (by decide) (by decide) o6 g6;have d7:Below w.heap.size w (w6.setCell ⟨w.heap.size + 1,1,none⟩ (.slice A6 (k + 1) c6)):=(D40.trans b6).setCell (p:=⟨w.heap.size + 1,1,none⟩) (by dsimp only; omega) _;clear t1 k10 F5 N4 N6 OWN K7;go_wp2_with fail
     go_roundw
     case rel=>exact ⟨k + 1,la5,c5,A6,c6,by omega,by go_num,by rw [HTK.out.2,HTK.out.1]; exact N7,d7,HNX⟩
     case measure=>simp [intOf] <;> omega
    ·obtain ⟨b2,o2,A2,n2,c2,hA2,hbB2,hr2,hc2⟩:=h.at_ (i:=k - 1) (by omega)
     injection hA2 with hA2
     injection hA2 with hA2 hA3
     subst hA2 hA3;have i4:decide (0 < k)=true:=decide_eq_true (by omega);have i5:IntKind.i64.wrap ((k:Int) - 1)=(k:Int) - 1:=IntWalk.i64_in _ (by omega);have i6:((k:Int) - 1).toNat=k - 1:=by omega
     have i7:(0:Int)≤(k:Int) - 1:=by omega
     have i8:(k:Int) - 1 < (n:Int):=by omega
     have hkp:0 < k:=by omega
     generalize es.getD (k - 1) Dc.en0=e1 at *;obtain ⟨ix',sb',nm',ty',ac',mp',st',mx',lo',hi',df'⟩:=e1;have BF:=fun w=>Before_any ⟨ix',sb',nm',ty',ac',mp',st',mx',lo',hi',df'⟩ ⟨ix,sb,nm,ty,ac,mp,st,mx,lo,hi,df⟩ A2 A1 n2 c2 n1 c1 w
     unfold enV at BF;dsimp only at BF;have q0:=hc2 0 _ rfl;have q1:=hc2 1 _ rfl;have q2:=hc2 2 _ rfl;have q3:=hc2 3 _ rfl;have q4:=hc2 4 _ rfl;have q5:=hc2 5 _ rfl;have q6:=hc2 6 _ rfl;have q7:=hc2 7 _ rfl;have q8:=hc2 8 _ rfl;have q9:=hc2 9 _ rfl;have q10:=hc2 10 _ rfl;simp only [Nat.add_zero] at q0;dsimp only at q0 q1 q2 q3 q4 q5 q6 q7 q8 q9 q10;generalize hbf:Ent.befB ⟨ix',sb',nm',ty',ac',mp',st',mx',lo',hi',df'⟩ ⟨ix,sb,nm,ty,ac,mp,st,mx,lo,hi,df⟩=bf at *;replace BF:=Lib.hid BF;clear hc2 hr2 hrz hk0 hbf;cases bf with
     | false =>
      rw [if_pos ⟨hkp,rfl⟩] at hst;have HE:=Lib.hid hst;clear hst N HTK;go_wp2_with fail
      refine (RG.out).mono ?_;rintro e w1 ⟨rfl,b1⟩;have K7:=Blk.made b1;have K7e:=K7.eleven;have d1:=below_step b7 b1 (Nat.le_refl _);clear RG;have g0:=cell_regrown (K7.cell 0);have g1:=cell_regrown (K7.cell 1);have g2:=cell_regrown (K7.cell 2);have g3:=cell_regrown (K7.cell 3);have g4:=cell_regrown (K7.cell 4);have g5:=cell_regrown (K7.cell 5);have g6:=cell_regrown (K7.cell 6);have g7:=cell_regrown (K7.cell 7);have g8:=cell_regrown (K7.cell 8);have g9:=cell_regrown (K7.cell 9);have g10:=cell_regrown (K7.cell 10);have p0:=cell_regrown ((d1.cell (p:=⟨b,o + (k - 1) * 11,none⟩) hbw).trans q0);have p1:=cell_regrown ((d1.cell (p:=⟨b,o + (k - 1) * 11 + 1,none⟩) hbw).trans q1);have p2:=cell_regrown ((d1.cell (p:=⟨b,o + (k - 1) * 11 + 2,none⟩) hbw).trans q2);have p3:=cell_regrown ((d1.cell (p:=⟨b,o + (k - 1) * 11 + 3,none⟩) hbw).trans q3);have p4:=cell_regrown ((d1.cell (p:=⟨b,o + (k - 1) * 11 + 4,none⟩) hbw).trans q4);have p5:=cell_regrown ((d1.cell (p:=⟨b,o + (k - 1) * 11 + 5,none⟩) hbw).trans q5);have p6:=cell_regrown ((d1.cell (p:=⟨b,o + (k - 1) * 11 + 6,none⟩) hbw).trans q6);have p7:=cell_regrown ((d1.cell (p:=⟨b,o + (k - 1) * 11 + 7,none⟩) hbw).trans q7);have p8:=cell_regrown ((d1.cell (p:=⟨b,o + (k - 1) * 11 + 8,none⟩) hbw).trans q8);have p9:=cell_regrown ((d1.cell (p:=⟨b,o + (k - 1) * 11 + 9,none⟩) hbw).trans q9);have p10:=cell_regrown ((d1.cell (p:=⟨b,o + (k - 1) * 11 + 10,none⟩) hbw).trans q10);go_wp2_with fail
      refine region_later (by kernel_rfl) ?_;refine phase_later (by kernel_rfl) 3 (below_drew _) [0,1,2,3,4,8,5,6,7] rfl (by kernel_rfl) ?_;simp only [picks,nth]
      repeat (go_big_quiet_step (fail))
      refine wpQuiet_nil ?_;refine phase_op 9 2 rfl (by kernel_rfl) (by decide) ?_;simp only [nth];go_wp2_with (go_at_call 78; refine (BF.out _).mono ?_; rintro e w5 ⟨rfl,b5⟩)
      have b6:Below w1.heap.size w1 w5:=(below_drew w1).trans b5;refine behind_later b6 ?_;refine phase_later (by kernel_rfl) 0 (Below.refl _ _) [10,11] rfl (by kernel_rfl) ?_;simp only [picks,nth]
      repeat (go_big_quiet_step (fail))
      refine wpQuiet_nil ?_;refine phase_end (by kernel_rfl) ?_;go_wp2_with fail
      go_ret3
      exact new_no HE.out (by decide) rfl (below_step d1 b6 (Nat.le_refl _))
     | true =>
      rw [if_neg (by simp)] at hst;have HNX:=Lib.hid hst;clear hst;go_wp2_with fail
      refine (RG.out).mono ?_;rintro e w1 ⟨rfl,b1⟩;have K7:=Blk.made b1;have K7e:=K7.eleven;have d1:=below_step b7 b1 (Nat.le_refl _);clear RG;have g0:=cell_regrown (K7.cell 0);have g1:=cell_regrown (K7.cell 1);have g2:=cell_regrown (K7.cell 2);have g3:=cell_regrown (K7.cell 3);have g4:=cell_regrown (K7.cell 4);have g5:=cell_regrown (K7.cell 5);have g6:=cell_regrown (K7.cell 6);have g7:=cell_regrown (K7.cell 7);have g8:=cell_regrown (K7.cell 8);have g9:=cell_regrown (K7.cell 9);have g10:=cell_regrown (K7.cell 10);have p0:=cell_regrown ((d1.cell (p:=⟨b,o + (k - 1) * 11,none⟩) hbw).trans q0);have p1:=cell_regrown ((d1.cell (p:=⟨b,o + (k - 1) * 11 + 1,none⟩) hbw).trans q1);have p2:=cell_regrown ((d1.cell (p:=⟨b,o + (k - 1) * 11 + 2,none⟩) hbw).trans q2);have p3:=cell_regrown ((d1.cell (p:=⟨b,o + (k - 1) * 11 + 3,none⟩) hbw).trans q3);have p4:=cell_regrown ((d1.cell (p:=⟨b,o + (k - 1) * 11 + 4,none⟩) hbw).trans q4);have p5:=cell_regrown ((d1.cell (p:=⟨b,o + (k - 1) * 11 + 5,none⟩) hbw).trans q5);have p6:=cell_regrown ((d1.cell (p:=⟨b,o + (k - 1) * 11 + 6,none⟩) hbw).trans q6);have p7:=cell_regrown ((d1.cell (p:=⟨b,o + (k - 1) * 11 + 7,none⟩) hbw).trans q7);have p8:=cell_regrown ((d1.cell (p:=⟨b,o + (k - 1) * 11 + 8,none⟩) hbw).trans q8);have p9:=cell_regrown ((d1.cell (p:=⟨b,o + (k - 1) * 11 + 9,none⟩) hbw).trans q9);have p10:=cell_regrown ((d1.cell (p:=⟨b,o + (k - 1) * 11 + 10,none⟩) hbw).trans q10);go_wp2_with fail
      refine region_later (by kernel_rfl) ?_;refine phase_later (by kernel_rfl) 3 (below_drew _) [0,1,2,3,4,8,5,6,7] rfl (by kernel_rfl) ?_;simp only [picks,nth]
      repeat (go_big_quiet_step (fail))
      refine wpQuiet_nil ?_;refine phase_op 9 2 rfl (by kernel_rfl) (by decide) ?_;simp only [nth];go_wp2_with (go_at_call 78; refine (BF.out _).mono ?_; rintro e w5 ⟨rfl,b5⟩)
      have b6:Below w1.heap.size w1 w5:=(below_drew w1).trans b5;refine behind_later b6 ?_;refine phase_later (by kernel_rfl) 0 (Below.refl _ _) [10,11] rfl (by kernel_rfl) ?_;simp only [picks,nth]
      repeat (go_big_quiet_step (fail))
      refine wpQuiet_nil ?_;refine phase_end (by kernel_rfl) ?_;have dc:=below_step d1 b6 (Nat.le_refl _);replace N:=((N.below (alloc_one wr (.cells #[.int .i64 ix,.int .i64 sb,.string (T nm),.int .i64 ty,.int .i64 ac,.bool mp,.bool st,.int .i64 mx,.int .i64 lo,.int .i64 hi,.slice A1 n1 c1] 27))).below b1).below b6;replace K7:=K7.later b6;clear K7e d1 BF g0 g1 g2 g3 g4 g5 g6 g7 g8 g9 g10 p0 p1 p2 p3 p4 p5 p6 p7 p8 p9 p10 b6 b5 b1 i4 i5 i6 i7 i8 q0 q1 q2 q3 q4 q5 q6 q7 q8 q9 q10;generalize w5=wc at *;have HELD:=held_any ⟨ix,sb,nm,ty,ac,mp,st,mx,lo,hi,df⟩ wc.drew (hr0.below (dc.drew.mono (Nat.le_trans hB' hB))) hdf (Nat.le_trans (Nat.le_trans hB' hB) dc.drew.size);unfold enV at HELD;dsimp only at HELD;replace HELD:=Lib.hid HELD;have t0:=cell_mv (G:=Gq) (N.blk.cell 0) hGg;have k0:=cell_mv (G:=Gq) (K7.cell 0) hG7;have k1:=cell_mv (G:=Gq) (K7.cell 1) hG7;have k2:=cell_mv (G:=Gq) (K7.cell 2) hG7;have k3:=cell_mv (G:=Gq) (K7.cell 3) hG7;have k4:=cell_mv (G:=Gq) (K7.cell 4) hG7;have k5:=cell_mv (G:=Gq) (K7.cell 5) hG7;have k6:=cell_mv (G:=Gq) (K7.cell 6) hG7;have k7:=cell_mv (G:=Gq) (K7.cell 7) hG7;have k8:=cell_mv (G:=Gq) (K7.cell 8) hG7;have k9:=cell_mv (G:=Gq) (K7.cell 9) hG7;have k10:=cell_mv (G:=Gq) (K7.cell 10) hG7;go_wp2_with fail
      refine region_mv 11 Gq (by kernel_rfl) ?_;refine phase_mv (by kernel_rfl) 6 (Mv.refl _ _).drew [0,1,5,2,3,4] rfl (by kernel_rfl) ?_;simp only [picks,nth]
      repeat (go_big_quiet_step (fail))
      refine wpQuiet_nil ?_;refine phase_opL 6 5 rfl (by kernel_rfl) (by decide) ?_;simp only [nth];go_wp2_with fail
      refine (HELD.out).mono ?_;rintro e w3 ⟨A3,c3,rfl,o3,b3⟩;have b3':Below wc.heap.size wc w3:=(below_drew wc).trans b3;go_wp2_with fail
      refine behind_mv (Mv.of_new b3' _) ?_;refine phase_opL 7 4 rfl (by kernel_rfl) (by decide) ?_;simp only [nth];go_wp2_with fail
      have b4:=alloc_one w3 (.cells #[.int .i64 ix,.int .i64 sb,.string (T nm),.int .i64 ty,.int .i64 ac,.bool mp,.bool st,.int .i64 mx,.int .i64 lo,.int .i64 hi,.slice A3 n1 c3] 27);have D4:=below_step b3' b4 (Nat.le_refl _);refine behind_mv (Mv.of_new D4 _) ?_;have N4:=N.below D4;have hnew:=RV.new w3 27 (size:=11) (cs:=enL ⟨ix,sb,nm,ty,ac,mp,st,mx,lo,hi,df⟩ A3 n1 c3) rfl;have hf4:EnB (w3.alloc (.cells #[.int .i64 ix,.int .i64 sb,.string (T nm),.int .i64 ty,.int .i64 ac,.bool mp,.bool st,.int .i64 mx,.int .i64 lo,.int .i64 hi,.slice A3 n1 c3] 27)) w.heap.size ⟨ix,sb,nm,ty,ac,mp,st,mx,lo,hi,df⟩ (enL ⟨ix,sb,nm,ty,ac,mp,st,mx,lo,hi,df⟩ A3 n1 c3):=⟨A3,n1,c3,rfl,(o3.more dc.drew.size).below b4⟩;have D40:=below_step dc D4 (Nat.le_refl _);refine phase_opL 8 3 rfl (by kernel_rfl) (by decide) ?_;simp only [nth];go_wp2_with (at_builtin; refine wpList_apps2 eten (fun w1=>EnB w1 w.heap.size) rfl (.tmp 45) (.tmp 48) rfl rfl rfl w.heap.size N4.row ⟨ix,sb,nm,ty,ac,mp,st,mx,lo,hi,df⟩ hnew hf4 (en_oneCell _ _ _ _) (by omega) (by omega) D40.size (fun w1 A1 n1 c1 xs hv hg f cs hf=>hf.beside hv (by decide) hg) ?_; intro A5 c5 w5 o5 b5 g5 _)
      have M5:Mv Gq wc w5:=(Mv.of_new D4 _).trans (Mv.of_grown g5) fun b hb e=>hOwn b e
      refine behind_mv M5 ?_;refine phase_opL 9 2 rfl (by kernel_rfl) (by decide) ?_;simp only [nth];go_wp2_with fail
      refine behind_mv M5 ?_;refine phase_opL 10 1 rfl (by kernel_rfl) (by decide) ?_;simp only [nth];go_wp2_with fail
      refine behind_mv M5 ?_;have F5:=(N.blk.mv M5 hGg).two;have K75:=(K7.mv M5 hG7).far (p:=⟨w.heap.size + 1,0,none⟩) (by dsimp only; omega) (.slice A5 (k + 1) c5);refine phase_last 0 rfl (by kernel_rfl) (by decide) (by kernel_rfl) ?_;simp only [nth];go_wp2_with fail
      refine behind_last ?_;have N6:=N4.addl (by decide) (by decide) (by decide) o5 g5;have d6:Below w.heap.size w (w5.setCell ⟨w.heap.size + 1,0,none⟩ (.slice A5 (k + 1) c5)):=(D40.trans b5).setCell (p:=⟨w.heap.size + 1,0,none⟩) (by dsimp only; omega) _;have hA5:∃ la5:Addr,A5=some la5:=by
       obtain ⟨zs,z1,_⟩:=o5;obtain ⟨q,e,_,_⟩:=z1.head (by omega);exact ⟨_,e⟩
      have hOwn5:∀ b,some b=(Value.slice vA k vc).ownBlock→Gq b:=hOwnV;obtain ⟨la5,rfl⟩:=hA5;generalize hwd:w5.setCell ⟨w.heap.size + 1,0,none⟩ (.slice (some la5) (k + 1) c5)=wd at *;clear hwd N4 N HELD t0 k0 k1 k2 k3 k4 k5 k6 k7 k8 k9 k10 F5 o5 g5 M5 D4 D40 hf4 hnew b4 b3 b3' o3 K7 hOwn;have K7:=K75;clear K75;have OWN:=Lib.hid (down_any wd.drew (hr0.below (d6.drew.mono (Nat.le_trans hB' hB))) hdf (Nat.le_trans (Nat.le_trans hB' hB) d6.drew.size));have t1:=cell_mv (G:=Gq) (N6.blk.cell 1) hGg;have k10:=cell_mv (G:=Gq) (K7.cell 10) hG7;go_wp2_with fail
      refine region_mv 12 Gq (by kernel_rfl) ?_;refine phase_mv (by kernel_rfl) 6 (Mv.refl _ _).drew [0,1,5,2,6,3,4] rfl (by kernel_rfl) ?_;simp only [picks,nth]
      repeat (go_big_quiet_step (fail))
      refine wpQuiet_nil ?_;refine phase_opL 7 5 rfl (by kernel_rfl) (by decide) ?_;simp only [nth];go_wp2_with fail
      refine (OWN.out).mono ?_;rintro e w3 ⟨A3,c3,rfl,o3,b3⟩;have b3':Below wd.heap.size wd w3:=(below_drew wd).trans b3;go_wp2_with fail
      refine behind_mv (Mv.of_new b3' _) ?_;refine phase_opL 8 4 rfl (by kernel_rfl) (by decide) ?_;simp only [nth];go_wp2_with fail
      have b4:=alloc_one w3 (.cells #[.slice A3 n1 c3] 25);have D4:=below_step b3' b4 (Nat.le_refl _);refine behind_mv (Mv.of_new D4 _) ?_;have N4:=N6.below D4;have hnew:=RV.new w3 25 (size:=1) (cs:=[.slice A3 n1 c3]) rfl;have hf4:ByB (w3.alloc (.cells #[.slice A3 n1 c3] 25)) w.heap.size df [.slice A3 n1 c3]:=⟨A3,n1,c3,rfl,(o3.more d6.drew.size).below b4⟩;have D40:=below_step d6 D4 (Nat.le_refl _);refine phase_opL 9 3 rfl (by kernel_rfl) (by decide) ?_;simp only [nth];go_wp2_with (at_builtin; refine wpList_apps2 etbs (fun w1=>ByB w1 w.heap.size) rfl (.tmp 56) (.tmp 60) rfl rfl rfl w.heap.size N4.vrow df hnew hf4 (fun u hu=>by simp only [List.mem_cons,List.not_mem_nil,or_false] at hu; rw [hu]; rfl) (by omega) (by omega) D40.size (fun w1 A1 n1 c1 xs hv hg f cs hf=>hf.beside hv (by decide) hg) ?_; intro A6 c6 w6 o6 b6 g6 _)
      have M5:Mv Gq wd w6:=(Mv.of_new D4 _).trans (Mv.of_grown g6) fun b hb e=>hOwn5 b e
      refine behind_mv M5 ?_;refine phase_opL 10 2 rfl (by kernel_rfl) (by decide) ?_;simp only [nth];go_wp2_with fail
      refine behind_mv M5 ?_;refine phase_opL 11 1 rfl (by kernel_rfl) (by decide) ?_;simp only [nth];go_wp2_with fail
      refine behind_mv M5 ?_;have F5:=(N6.blk.mv M5 hGg).two;refine phase_last 0 rfl (by kernel_rfl) (by decide) (by kernel_rfl) ?_;simp only [nth];go_wp2_with fail
      refine behind_last ?_;have N7:=N4.addv (by decide) (by decide) (by decide) o6 g6;have d7:Below w.heap.size w (w6.setCell ⟨w.heap.size + 1,1,none⟩ (.slice A6 (k + 1) c6)):=(D40.trans b6).setCell (p:=⟨w.heap.size + 1,1,none⟩) (by dsimp only; omega) _;clear t1 k10 F5 N4 N6 OWN K7;go_wp2_with fail
      go_roundw
      case rel=>exact ⟨k + 1,la5,c5,A6,c6,by omega,by go_num,by rw [HTK.out.2,HTK.out.1]; exact N7,d7,HNX⟩
      case measure=>simp [intOf] <;> omega
   ·rw [if_pos hrz] at hst
    have HE:=Lib.hid hst;generalize Ent.rightS ⟨ix,sb,nm,ty,ac,mp,st,mx,lo,hi,df⟩=z at *;have ez:(z != 0)=true:=by simpa using hrz
    have HZ:=Lib.hid hrz;clear hst hrz;go_wp2_with fail
    refine (RG.out).mono ?_;rintro e w1 ⟨rfl,b1⟩;go_wp2_with fail
    go_ret3
    exact new_no HE.out HZ.out rfl (below_step b7 b1 (Nat.le_refl _))
  ·obtain rfl:k=n:=by omega
   have hz:Dc.newS es=(0,0):=by rw [HQ.out,Nat.sub_self]; rfl
   have hok:=Dc.new_ok (l:=es) (by rw [hz]);have htk:es.take k=es:=List.take_of_length_le (by rw [HL.out]; omega);rw [htk] at N;have HZ:=Lib.hid hz; have HOK:=Lib.hid hok;clear hz hok htk;obtain ⟨gv,zs,ys,hD⟩:=N.made (by decide) (by decide) (by decide) HL.out (by rw [List.length_map]; exact HL.out) HOK.out.2.1 (by omega) HOK.out.2.2;clear N;go_wp2_with fail
   go_ret3
   exact .inl ⟨by rw [HZ.out],bb,_,gv,lc,vc,la,vA,zs,ys,rfl,hD⟩
end Go.Proofs.YtijegngfclkdaaaGreatDoor
namespace Go.Proofs.YtijegngfclkdaaaGreatDoor.Dc
theorem poke_l (D:Dic) (x y:Int) (b:List UInt8):(pokeS D x y b).l=D.l:=by
 unfold pokeS;split
 ·rfl
 ·split <;> rfl
structure Fine (D:Dic):Prop where
 len:D.v.length=D.l.length
 sm:∀ v∈D.v,v.length≤2000
 ok:∀ k,k < D.l.length→Ent.valS (D.l.getD k en0) (D.v.getD k [])=0
theorem getD_set {α:Type} (L:List α) (i k:Nat) (b d:α):(L.set i b).getD k d=if i=k∧k < L.length then b else L.getD k d:=by
 rw [List.getD_eq_getElem?_getD,List.getElem?_set,List.getD_eq_getElem?_getD]
 by_cases h:i=k
 ·subst h
  by_cases h2:i < L.length
  ·simp [h2]
  ·rw [if_pos rfl,if_neg h2,if_neg (by omega),List.getElem?_eq_none (by omega)]
 ·simp [h]
theorem Fine.poke {D:Dic} (h:Fine D) (x y:Int) {b:List UInt8} (hb:b.length≤2000):Fine (pokeS D x y b):=by
 unfold pokeS;cases hf:findS D.l x y with
 | none=>exact h
 | some k =>
  dsimp only;split
  ·rename_i hv
   refine ⟨by rw [List.length_set]; exact h.len,fun v hv'=>?_,fun i hi=>?_⟩
   ·rcases List.mem_or_eq_of_mem_set hv' with h1 | h1
    ·exact h.sm v h1
    ·subst h1; exact hb
   ·dsimp only at hi ⊢
    rw [getD_set];split
    ·rename_i h2
     rw [← h2.1];exact hv
    ·exact h.ok i hi
  ·exact h
theorem Fine.new {es:List Ent.En} (h:(newS es).1=0) (hs:∀ e∈es,e.dflt.length≤2000):Fine ⟨es,es.map (·.dflt)⟩:=by
 obtain ⟨_,_,h3⟩:=new_ok h;refine ⟨by simp,fun v hv=>?_,fun k hk=>?_⟩
 ·obtain ⟨e,he,rfl⟩:=List.mem_map.1 hv
  exact hs e he
 ·dsimp only at hk ⊢
  have e1:(es.map (·.dflt)).getD k []=(es.getD k en0).dflt:=by
   simp [List.getD,List.getElem?_map,List.getElem?_eq_getElem hk]
  rw [e1];have hm:es.getD k en0∈es:=by
   rw [List.getD_eq_getElem?_getD,List.getElem?_eq_getElem hk];exact List.getElem_mem hk
  exact (Ent.right_iff (h3 _ hm)).2.2.2.2.2.2.2.2
end Go.Proofs.YtijegngfclkdaaaGreatDoor.Dc
namespace Go.Proofs.YtijegngfclkdaaaGreatDoor
open Go.RowKit
section
variable {t:TypeId} {F:Nat→Prop} {w w':World} {g gv lc vc:Nat} {lA vA:Option Addr} {xs vs:List Value} {D:Dc.Dic}
theorem DRt.fix (h:DRt t w F g gv lA lc vA vc xs vs D):∃ gv2,DRt t w F g gv2 lA lc vA vc xs vs D∧(F gv2∨gv2=w.heap.size):=by
 cases hk:(Value.slice vA D.l.length vc).ownBlock with
 | some k =>
  have:=h.at_ k hk;exact ⟨gv,h,.inl this.2⟩
 | none =>
  have h0:D.l.length=0:=by
   rcases Nat.eq_zero_or_pos D.l.length with h0 | h0
   ·exact h0
   ·obtain ⟨q,e,_,_⟩:=h.own.head h0
    subst e;simp [Value.ownBlock] at hk
  have hl:D.l=[]:=List.eq_nil_of_length_eq_zero h0;have hv:D.v=[]:=List.eq_nil_of_length_eq_zero (by rw [h.len,h0]);refine ⟨w.heap.size,{ fg:=h.fg,ne:=(by have:=h.blk.lt; omega),blk:=h.blk,row:=⟨h.row.len,h.row.le,h.row.cap,h.row.nil,fun h1=>absurd h1 (by omega)⟩,rows:=⟨h.rows.1,fun i f hf=>by rw [hl] at hf; simp at hf⟩,own:=h.own,at_:=(fun k hk2=>by rw [hk] at hk2; cases hk2),vals:=⟨h.vals.1,fun i f hf=>by rw [hv] at hf; simp at hf⟩,len:=h.len,ord:=h.ord,few:=h.few,right:=h.right },.inr rfl⟩
theorem DRt.cut (h:DRt t w F g gv lA lc vA vc xs vs D):DRt t w (fun q=>F q∧q < w.heap.size) g gv lA lc vA vc xs vs D:=h.mono fun _ hb hf=>⟨hf,hb⟩
end
def One (t:TypeId) (w:World) (base g:Nat) (F:Nat→Prop) (D:Dc.Dic):Prop:=∃ (gv lc vc:Nat) (la:Addr) (vA:Option Addr) (xs vs:List Value),DRt t w F g gv (some la) lc vA vc xs vs D∧∀ q,F q→base≤q∧q < w.heap.size
section
variable {F F':Nat→Prop} {w:World} {base g n c B:Nat} {A:Option Addr} {b:List UInt8} {D:Dc.Dic}
theorem One.poke (h:One 131 w base g F D) (hbase:base≤w.heap.size) (x y:Int) (hb:RB w B A n c b) (hB:B≤w.heap.size) (hn:n < 140737488355328) :
  Calls Tryz.prog 49 #[.pointer (some ⟨g,0,none⟩),.int .i64 x,.int .i64 y,.slice A n c] w fun e w'=>e=.returned (.int .u32 (Dc.mayS D.l true x y b))∧Mv F w w'∧Below base w w'∧One 131 w' base g (fun q=>F q∨(w.heap.size≤q∧q < w'.heap.size)) (Dc.pokeS D x y b):=by
 obtain ⟨gv,lc,vc,la,vA,xs,vs,h1,h2⟩:=h;obtain ⟨gv2,h3,h4⟩:=h1.fix;refine (dPoke_any x y h3 hb hB hn).mono ?_;rintro e w' ⟨he,hm,vs',hd⟩;have hm':Mv F w w':=hm.mono fun q hq e=>by
  rcases h4 with h4 | h4
  ·rw [e]; exact h4
  ·omega
 have hlow:base≤gv2:=by
  rcases h4 with h4 | h4
  ·exact (h2 _ h4).1
  ·omega
 refine ⟨he,hm',hm.below hbase fun q e=>by subst e; exact hlow,gv2,lc,vc,la,vA,xs,vs',hd,fun q hq=>?_⟩;have hz:=hm.size;rcases hq with hq | hq
 ·have:=h2 q hq; omega
 ·omega
end
end Go.Proofs.YtijegngfclkdaaaGreatDoor
