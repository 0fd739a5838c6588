/-
  Piece 22 of the proof.
  Conditions: none.
-/
import Derived.Test.YtijegngfclkdaaaGreatDoorQ21
set_option linter.unusedVariables false
set_option linter.unusedSimpArgs false
set_option maxHeartbeats 100000000
set_option maxRecDepth 100000
namespace Go.Proofs.YtijegngfclkdaaaGreatDoor
section
open Go.RowKit
theorem vi {A:Option Addr} {n c B B':Nat} {es:List aD.En} (w:World) (h:qX w B B' A n c es) (hB:B<=w.heap.size) (hB':B'<=B) (hd:∀ e∈es,e.name.length<=1000000/\e.dflt.length<=1000000):Calls Tryz.prog 48 #[.slice A n c] w (nJ 131 es w):=by
 have hl:=h.len;have hn:=h.lt
 by_cases Sh:96 < n
 ·have hv:Dc.bp es=(3,96):=if_pos (by omega)
  have HV:=zq hv;clear hv hl;go_enter Tryz.func48,Tryz.ntmps48
  go_wp2_with fail
  go_ret3
  exact yf HV.out (by decide) rfl (Below.refl _ _)
 have HN:Hid (Dc.bp es=Dc.lp es (n - 0) 0):=zq (by unfold Dc.bp; rw [if_neg (by omega),hl]; rfl);have HL:=zq hl;clear hl;have b00:=bZ w (.cells #[] 27) (.cells #[.slice (some ⟨w.heap.size,0,none⟩) 0 0,.slice none 0 0] 131);have N0:k_ 131 ((w.alloc (.cells #[] 27)).alloc (.cells #[.slice (some ⟨w.heap.size,0,none⟩) 0 0,.slice none 0 0] 131)) w.heap.size (w.heap.size + 1) (some ⟨w.heap.size,0,none⟩) 0 0 none 0 0 [] [] :=
  ⟨by omega,by have:=ao.new (w.alloc (.cells #[] 27)) 131 #[.slice (some ⟨w.heap.size,0,none⟩) 0 0,.slice none 0 0]; simpa using this,⟨[],(OV.new (base:=w.heap.size) (e:=27) (size:=11) w [] 0 rfl (by omega) lq).alloc _,Rows.nil⟩,OS.none_ _ _ _ _⟩
 go_enter Tryz.func48,Tryz.ntmps48
 go_wp2_with fail
 go_loopw [17] (fun v wr=>∃ (k:Nat) (la:Addr) (lc:Nat) (vA:Option Addr) (vc:Nat),k<=n/\v=.int .i64 k/\k_ 131 wr w.heap.size (w.heap.size + 1) (some la) k lc vA k vc (es.take k) ((es.take k).map (·.dflt))/\Below w.heap.size w wr/\Hid (Dc.bp es=Dc.lp es (n - k) k)) (fun v _=>n - (intOf v).toNat)
 case atStart=>exact ⟨0,_,_,_,_,by omega,rfl,N0,b00,HN⟩
 case round =>
  obtain ⟨k,la,lc,vA,vc,hk,rfl,N,bb,HQ⟩:=hrel;clear N0 HN
  by_cases hlt:k < n
  ·obtain ⟨b,o,A1,n1,c1,hA,eT,hr0,hc⟩:=h.at_ hlt
   have hst:=HQ.out.trans (Ch hlt);have hmem:es.getD k Dc.aI∈es:=by
    have:k < es.length:=by rw [HL.out]; exact hlt
    rw [List.getD_eq_getElem?_getD,List.getElem?_eq_getElem this];exact List.getElem_mem this
   obtain ⟨hnm,VB⟩:=hd _ hmem;have htk:es.take (k + 1)=es.take k ++ [es.getD k Dc.aI]:=by
    have:k < es.length:=by rw [HL.out]; exact hlt
    rw [List.take_succ_eq_append_getElem this];simp [List.getD,this]
   have IF:Hid (es.take (k + 1)=es.take k ++ [es.getD k Dc.aI]/\(es.take (k + 1)).map (·.dflt)=(es.take k).map (·.dflt) ++ [(es.getD k Dc.aI).dflt]):=zq ⟨htk,by rw [htk,List.map_append]; rfl⟩;have hdl:=hr0.len;subst hA;generalize he:es.getD k Dc.aI=e0 at *;clear he htk hmem;obtain ⟨ix,sb,nm,ty,ac,mp,st,mx,lo,hi,df⟩:=e0;dsimp only at hr0 hnm VB hdl hst IF;have hdf:n1 < 140737488355328:=by omega
   have hbw:b < w.heap.size:=by omega
   have hR:=fun (w1:World) (q:Below w.heap.size w w1)=>Bm ⟨ix,sb,nm,ty,ac,mp,st,mx,lo,hi,df⟩ (A:=A1) (n:=n1) (c:=c1) w1 (hr0.below (q.mono (Nat.le_trans hB' hB))) (Nat.le_trans (Nat.le_trans hB' hB) q.size) (by dsimp only; omega)
   unfold gO at hR;dsimp only at hR;have hg7:w.heap.size + 1 < wr.heap.size:=N.aP.lt;obtain ⟨Gq,yr⟩:∃ Gq:Nat->Prop,∀ q,Gq q↔(w.heap.size<=q/\q≠w.heap.size + 1/\q≠wr.heap.size):=⟨_,fun q=>Iff.rfl⟩;have yw:¬ Gq (w.heap.size + 1):=fun h=>((yr _).1 h).2.1 rfl
   have mQ:¬ Gq wr.heap.size:=fun h=>((yr _).1 h).2.2 rfl
   have Dq:∀ b,some b=(Value.slice (some la) k lc).ownBlock->Gq b:=fun b hb=>by
    obtain ⟨zs,z1,_⟩:=N.row;have:=z1.lt b hb.symm;exact (yr b).2 ⟨this.1,fun e=>bE z1 N.aP (by decide) (by rw [<- hb,e]),by omega⟩
   have Mr:∀ b,some b=(Value.slice vA k vc).ownBlock->Gq b:=fun b hb=>by
    obtain ⟨zs,z1,_⟩:=N.yq;have:=z1.lt b hb.symm;exact (yr b).2 ⟨this.1,fun e=>bE z1 N.aP (by decide) (by rw [<- hb,e]),by omega⟩
   clear yr;have a0:=(bb.cell (p:=⟨b,o + k * 11 + 0,none⟩) hbw).trans (hc 0 _ rfl);have a1:=(bb.cell (p:=⟨b,o + k * 11 + 1,none⟩) hbw).trans (hc 1 _ rfl);have a2:=(bb.cell (p:=⟨b,o + k * 11 + 2,none⟩) hbw).trans (hc 2 _ rfl);have a3:=(bb.cell (p:=⟨b,o + k * 11 + 3,none⟩) hbw).trans (hc 3 _ rfl);have a4:=(bb.cell (p:=⟨b,o + k * 11 + 4,none⟩) hbw).trans (hc 4 _ rfl);have a5:=(bb.cell (p:=⟨b,o + k * 11 + 5,none⟩) hbw).trans (hc 5 _ rfl);have a6:=(bb.cell (p:=⟨b,o + k * 11 + 6,none⟩) hbw).trans (hc 6 _ rfl);have a7:=(bb.cell (p:=⟨b,o + k * 11 + 7,none⟩) hbw).trans (hc 7 _ rfl);have a8:=(bb.cell (p:=⟨b,o + k * 11 + 8,none⟩) hbw).trans (hc 8 _ rfl);have a9:=(bb.cell (p:=⟨b,o + k * 11 + 9,none⟩) hbw).trans (hc 9 _ rfl);have Mo:=(bb.cell (p:=⟨b,o + k * 11 + 10,none⟩) hbw).trans (hc 10 _ rfl);simp only [Nat.add_zero] at a0;have b7:=bb.alloc bb.size (.cells #[.int .i64 ix,.int .i64 sb,.string (T nm),.int .i64 ty,.int .i64 ac,.bool mp,.bool st,.int .i64 mx,.int .i64 lo,.int .i64 hi,.slice A1 n1 c1] 27);have RG:=zq (hR _ b7);clear hc hR;have i0:(0:Int)<=(k:Int):=by omega
   have i1:(k:Int) < (n:Int):=by omega
   by_cases hrz:aD.cD ⟨ix,sb,nm,ty,ac,mp,st,mx,lo,hi,df⟩=0
   ·rw [hrz] at RG hst
    rw [if_neg (by decide)] at hst
    by_cases hk0:k=0
    ·rw [if_neg (by omega)] at hst
     have VC:=zq hst;have i4:decide (0 < k)=false:=decide_eq_false (by omega);clear hst hrz hk0;go_wp2_with fail
     refine (RG.out).mono ?_;rintro e w1 ⟨rfl,b1⟩;have K7:=ao.made b1;have T9:=K7.aA;have d1:=aa b7 b1 lq;replace N:=(N.below (ae wr (.cells #[.int .i64 ix,.int .i64 sb,.string (T nm),.int .i64 ty,.int .i64 ac,.bool mp,.bool st,.int .i64 mx,.int .i64 lo,.int .i64 hi,.slice A1 n1 c1] 27))).below b1;clear RG;go_wp2_with fail
     go_quiet (fail)
     have dc:=below_drewN d1 nq;replace N:=N.below (below_drewN (Below.refl _ w1) nq);replace K7:=K7.drewN nq;clear T9 d1;generalize w1.drewN nq=wc at *;have HELD:=oe ⟨ix,sb,nm,ty,ac,mp,st,mx,lo,hi,df⟩ wc.drew (hr0.below (dc.drew.mono (Nat.le_trans hB' hB))) hdf (Nat.le_trans (Nat.le_trans hB' hB) dc.drew.size);unfold gO at HELD;dsimp only at HELD;replace HELD:=zq HELD;have t0:=aC (G:=Gq) (N.aP.cell 0) yw;have k0:=aC (G:=Gq) (K7.cell 0) mQ;have k1:=aC (G:=Gq) (K7.cell 1) mQ;have k2:=aC (G:=Gq) (K7.cell 2) mQ;have k3:=aC (G:=Gq) (K7.cell 3) mQ;have k4:=aC (G:=Gq) (K7.cell 4) mQ;have k5:=aC (G:=Gq) (K7.cell 5) mQ;have k6:=aC (G:=Gq) (K7.cell 6) mQ;have k7:=aC (G:=Gq) (K7.cell 7) mQ;have k8:=aC (G:=Gq) (K7.cell 8) mQ;have k9:=aC (G:=Gq) (K7.cell 9) mQ;have k10:=aC (G:=Gq) (K7.cell 10) mQ;go_wp2_with fail
     refine cF 11 Gq (by kernel_rfl) ?_;refine cy (by kernel_rfl) 6 (Mv.refl _ _).drew [0,1,5,2,3,4] rfl (by kernel_rfl) ?_;simp only [aj,nth]
     repeat (go_big_quiet_step (fail))
     refine wpQuiet_nil ?_;refine ag 6 5 rfl (by kernel_rfl) (by decide) ?_;simp only [nth];go_wp2_with fail
     refine (HELD.out).mono ?_;rintro e w3 ⟨A3,c3,rfl,o3,b3⟩;have b3':Below wc.heap.size wc w3:=(af wc).trans b3;go_wp2_with fail
     refine aB (Mv.aq b3' _) ?_;refine ag 7 4 rfl (by kernel_rfl) (by decide) ?_;simp only [nth];go_wp2_with fail
     have b4:=ae w3 (.cells #[.int .i64 ix,.int .i64 sb,.string (T nm),.int .i64 ty,.int .i64 ac,.bool mp,.bool st,.int .i64 mx,.int .i64 lo,.int .i64 hi,.slice A3 n1 c3] 27);have D4:=aa b3' b4 lq;refine aB (Mv.aq D4 _) ?_;have N4:=N.below D4;have hnew:=RV.new w3 27 (size:=11) (cs:=Da ⟨ix,sb,nm,ty,ac,mp,st,mx,lo,hi,df⟩ A3 n1 c3) rfl;have th:wg (w3.alloc (.cells #[.int .i64 ix,.int .i64 sb,.string (T nm),.int .i64 ty,.int .i64 ac,.bool mp,.bool st,.int .i64 mx,.int .i64 lo,.int .i64 hi,.slice A3 n1 c3] 27)) w.heap.size ⟨ix,sb,nm,ty,ac,mp,st,mx,lo,hi,df⟩ (Da ⟨ix,sb,nm,ty,ac,mp,st,mx,lo,hi,df⟩ A3 n1 c3):=⟨A3,n1,c3,rfl,(o3.more dc.drew.size).below b4⟩;have vS:=aa dc D4 lq;refine ag 8 3 rfl (by kernel_rfl) (by decide) ?_;simp only [nth];go_wp2_with (at_builtin; refine cO P_ (fun w1=>wg w1 w.heap.size) rfl (.tmp 45) (.tmp 48) rfl rfl rfl w.heap.size N4.row ⟨ix,sb,nm,ty,ac,mp,st,mx,lo,hi,df⟩ hnew th (pe _ _ _ _) (by omega) (by omega) vS.size (fun w1 A1 n1 c1 xs hv hg f cs hf=>hf.beside hv (by decide) hg) ?_; intro A5 c5 w5 o5 b5 g5 _)
     have M5:Mv Gq wc w5:=(Mv.aq D4 _).trans (Mv.fk g5) fun b hb e=>Dq b e
     refine aB M5 ?_;refine ag 9 2 rfl (by kernel_rfl) (by decide) ?_;simp only [nth];go_wp2_with fail
     refine aB M5 ?_;refine ag 10 1 rfl (by kernel_rfl) (by decide) ?_;simp only [nth];go_wp2_with fail
     refine aB M5 ?_;have F5:=(N.aP.mv M5 yw).two;have Sx:=(K7.mv M5 mQ).cR (p:=⟨w.heap.size + 1,0,none⟩) (by dsimp only; omega) (.slice A5 (k + 1) c5);refine bL 0 rfl (by kernel_rfl) (by decide) (by kernel_rfl) ?_;simp only [nth];go_wp2_with fail
     refine bY ?_;have N6:=N4.QX (by decide) (by decide) (by decide) o5 g5;have d6:Below w.heap.size w (w5.setCell ⟨w.heap.size + 1,0,none⟩ (.slice A5 (k + 1) c5)):=(vS.trans b5).setCell (p:=⟨w.heap.size + 1,0,none⟩) (by dsimp only; omega) _;have VD:∃ Lb:Addr,A5=some Lb:=by
      obtain ⟨zs,z1,_⟩:=o5;obtain ⟨q,e,_,_⟩:=z1.head (by omega);exact ⟨_,e⟩
     have IJ:∀ b,some b=(Value.slice vA k vc).ownBlock->Gq b:=Mr;obtain ⟨Lb,rfl⟩:=VD;generalize hwd:w5.setCell ⟨w.heap.size + 1,0,none⟩ (.slice (some Lb) (k + 1) c5)=wd at *;clear hwd N4 N HELD t0 k0 k1 k2 k3 k4 k5 k6 k7 k8 k9 k10 F5 o5 g5 M5 D4 vS th hnew b4 b3 b3' o3 K7 Dq;have K7:=Sx;clear Sx;have OWN:=zq (fM wd.drew (hr0.below (d6.drew.mono (Nat.le_trans hB' hB))) hdf (Nat.le_trans (Nat.le_trans hB' hB) d6.drew.size));have t1:=aC (G:=Gq) (N6.aP.cell 1) yw;have k10:=aC (G:=Gq) (K7.cell 10) mQ;go_wp2_with fail
     refine cF 12 Gq (by kernel_rfl) ?_;refine cy (by kernel_rfl) 6 (Mv.refl _ _).drew [0,1,5,2,6,3,4] rfl (by kernel_rfl) ?_;simp only [aj,nth]
     repeat (go_big_quiet_step (fail))
     refine wpQuiet_nil ?_;refine ag 7 5 rfl (by kernel_rfl) (by decide) ?_;simp only [nth];go_wp2_with fail
     refine (OWN.out).mono ?_;rintro e w3 ⟨A3,c3,rfl,o3,b3⟩;have b3':Below wd.heap.size wd w3:=(af wd).trans b3;go_wp2_with fail
     refine aB (Mv.aq b3' _) ?_;refine ag 8 4 rfl (by kernel_rfl) (by decide) ?_;simp only [nth];go_wp2_with fail
     have b4:=ae w3 (.cells #[.slice A3 n1 c3] 25);have D4:=aa b3' b4 lq;refine aB (Mv.aq D4 _) ?_;have N4:=N6.below D4;have hnew:=RV.new w3 25 (size:=1) (cs:=[.slice A3 n1 c3]) rfl;have th:vX (w3.alloc (.cells #[.slice A3 n1 c3] 25)) w.heap.size df [.slice A3 n1 c3]:=⟨A3,n1,c3,rfl,(o3.more d6.drew.size).below b4⟩;have vS:=aa d6 D4 lq;refine ag 9 3 rfl (by kernel_rfl) (by decide) ?_;simp only [nth];go_wp2_with (at_builtin; refine cO P6 (fun w1=>vX w1 w.heap.size) rfl (.tmp 56) (.tmp 60) rfl rfl rfl w.heap.size N4.yq df hnew th (fun u hu=>by simp only [List.mem_cons,List.not_mem_nil,or_false] at hu; rw [hu]; rfl) (by omega) (by omega) vS.size (fun w1 A1 n1 c1 xs hv hg f cs hf=>hf.beside hv (by decide) hg) ?_; intro A6 c6 w6 o6 b6 g6 _)
     have M5:Mv Gq wd w6:=(Mv.aq D4 _).trans (Mv.fk g6) fun b hb e=>IJ b e
     refine aB M5 ?_;refine ag 10 2 rfl (by kernel_rfl) (by decide) ?_;simp only [nth];go_wp2_with fail
     refine aB M5 ?_;refine ag 11 1 rfl (by kernel_rfl) (by decide) ?_;simp only [nth];go_wp2_with fail
     refine aB M5 ?_;have F5:=(N6.aP.mv M5 yw).two;refine bL 0 rfl (by kernel_rfl) (by decide) (by kernel_rfl) ?_;simp only [nth];go_wp2_with fail
     refine bY ?_;have N7:=N4.RN (by decide) (by decide) (by decide) o6 g6;have d7:Below w.heap.size w (w6.setCell ⟨w.heap.size + 1,1,none⟩ (.slice A6 (k + 1) c6)):=(vS.trans b6).setCell (p:=⟨w.heap.size + 1,1,none⟩) (by dsimp only; omega) _;clear t1 k10 F5 N4 N6 OWN K7;go_wp2_with fail
     go_roundw
     case rel=>exact ⟨k + 1,Lb,c5,A6,c6,by omega,by go_num,by rw [IF.out.2,IF.out.1]; exact N7,d7,VC⟩
     case measure=>simp [intOf] <;> omega
    ·obtain ⟨b2,o2,A2,n2,c2,hA2,ZS,hr2,hc2⟩:=h.at_ (i:=k - 1) (by omega)
     injection hA2 with hA2
     injection hA2 with hA2 hA3
     subst hA2 hA3;have i4:decide (0 < k)=true:=decide_eq_true (by omega);have i5:IntKind.i64.wrap ((k:Int) - 1)=(k:Int) - 1:=IntWalk.i64_in _ (by omega);have i6:((k:Int) - 1).toNat=k - 1:=by omega
     have i7:(0:Int)<=(k:Int) - 1:=by omega
     have i8:(k:Int) - 1 < (n:Int):=by omega
     have hkp:0 < k:=by omega
     generalize es.getD (k - 1) Dc.aI=e1 at *;obtain ⟨ix',sb',Si,ty',Sj,mp',st',mx',lo',hi',Sk⟩:=e1;have BF:=fun w=>py ⟨ix',sb',Si,ty',Sj,mp',st',mx',lo',hi',Sk⟩ ⟨ix,sb,nm,ty,ac,mp,st,mx,lo,hi,df⟩ A2 A1 n2 c2 n1 c1 w
     unfold gO at BF;dsimp only at BF;have q0:=hc2 0 _ rfl;have q1:=hc2 1 _ rfl;have q2:=hc2 2 _ rfl;have q3:=hc2 3 _ rfl;have q4:=hc2 4 _ rfl;have q5:=hc2 5 _ rfl;have q6:=hc2 6 _ rfl;have q7:=hc2 7 _ rfl;have q8:=hc2 8 _ rfl;have q9:=hc2 9 _ rfl;have Dn:=hc2 10 _ rfl;simp only [Nat.add_zero] at q0;dsimp only at q0 q1 q2 q3 q4 q5 q6 q7 q8 q9 Dn;generalize hbf:aD.mb ⟨ix',sb',Si,ty',Sj,mp',st',mx',lo',hi',Sk⟩ ⟨ix,sb,nm,ty,ac,mp,st,mx,lo,hi,df⟩=bf at *;replace BF:=zq BF;clear hc2 hr2 hrz hk0 hbf;cases bf with
     | false =>
      rw [if_pos ⟨hkp,rfl⟩] at hst;have HE:=zq hst;clear hst N IF;go_wp2_with fail
      refine (RG.out).mono ?_;rintro e w1 ⟨rfl,b1⟩;have K7:=ao.made b1;have T9:=K7.aA;have d1:=aa b7 b1 lq;clear RG;have g0:=cell_regrown (K7.cell 0);have g1:=cell_regrown (K7.cell 1);have g2:=cell_regrown (K7.cell 2);have g3:=cell_regrown (K7.cell 3);have g4:=cell_regrown (K7.cell 4);have g5:=cell_regrown (K7.cell 5);have g6:=cell_regrown (K7.cell 6);have g7:=cell_regrown (K7.cell 7);have g8:=cell_regrown (K7.cell 8);have g9:=cell_regrown (K7.cell 9);have g10:=cell_regrown (K7.cell 10);have p0:=cell_regrown ((d1.cell (p:=⟨b,o + (k - 1) * 11,none⟩) hbw).trans q0);have p1:=cell_regrown ((d1.cell (p:=⟨b,o + (k - 1) * 11 + 1,none⟩) hbw).trans q1);have p2:=cell_regrown ((d1.cell (p:=⟨b,o + (k - 1) * 11 + 2,none⟩) hbw).trans q2);have p3:=cell_regrown ((d1.cell (p:=⟨b,o + (k - 1) * 11 + 3,none⟩) hbw).trans q3);have p4:=cell_regrown ((d1.cell (p:=⟨b,o + (k - 1) * 11 + 4,none⟩) hbw).trans q4);have p5:=cell_regrown ((d1.cell (p:=⟨b,o + (k - 1) * 11 + 5,none⟩) hbw).trans q5);have p6:=cell_regrown ((d1.cell (p:=⟨b,o + (k - 1) * 11 + 6,none⟩) hbw).trans q6);have p7:=cell_regrown ((d1.cell (p:=⟨b,o + (k - 1) * 11 + 7,none⟩) hbw).trans q7);have p8:=cell_regrown ((d1.cell (p:=⟨b,o + (k - 1) * 11 + 8,none⟩) hbw).trans q8);have p9:=cell_regrown ((d1.cell (p:=⟨b,o + (k - 1) * 11 + 9,none⟩) hbw).trans q9);have XE:=cell_regrown ((d1.cell (p:=⟨b,o + (k - 1) * 11 + 10,none⟩) hbw).trans Dn);go_wp2_with fail
      refine aN (by kernel_rfl) ?_;refine ai (by kernel_rfl) 3 (af _) [0,1,2,3,4,8,5,6,7] rfl (by kernel_rfl) ?_;simp only [aj,nth]
      repeat (go_big_quiet_step (fail))
      refine wpQuiet_nil ?_;refine aH 9 2 rfl (by kernel_rfl) (by decide) ?_;simp only [nth];go_wp2_with (go_at_call 78; refine (BF.out _).mono ?_; rintro e w5 ⟨rfl,b5⟩)
      have b6:Below w1.heap.size w1 w5:=(af w1).trans b5;refine ax b6 ?_;refine ai (by kernel_rfl) 0 (Below.refl _ _) [10,11] rfl (by kernel_rfl) ?_;simp only [aj,nth]
      repeat (go_big_quiet_step (fail))
      refine wpQuiet_nil ?_;refine aK (by kernel_rfl) ?_;go_wp2_with fail
      go_ret3
      exact yf HE.out (by decide) rfl (aa d1 b6 lq)
     | true =>
      rw [if_neg (by simp)] at hst;have VC:=zq hst;clear hst;go_wp2_with fail
      refine (RG.out).mono ?_;rintro e w1 ⟨rfl,b1⟩;have K7:=ao.made b1;have T9:=K7.aA;have d1:=aa b7 b1 lq;clear RG;have g0:=cell_regrown (K7.cell 0);have g1:=cell_regrown (K7.cell 1);have g2:=cell_regrown (K7.cell 2);have g3:=cell_regrown (K7.cell 3);have g4:=cell_regrown (K7.cell 4);have g5:=cell_regrown (K7.cell 5);have g6:=cell_regrown (K7.cell 6);have g7:=cell_regrown (K7.cell 7);have g8:=cell_regrown (K7.cell 8);have g9:=cell_regrown (K7.cell 9);have g10:=cell_regrown (K7.cell 10);have p0:=cell_regrown ((d1.cell (p:=⟨b,o + (k - 1) * 11,none⟩) hbw).trans q0);have p1:=cell_regrown ((d1.cell (p:=⟨b,o + (k - 1) * 11 + 1,none⟩) hbw).trans q1);have p2:=cell_regrown ((d1.cell (p:=⟨b,o + (k - 1) * 11 + 2,none⟩) hbw).trans q2);have p3:=cell_regrown ((d1.cell (p:=⟨b,o + (k - 1) * 11 + 3,none⟩) hbw).trans q3);have p4:=cell_regrown ((d1.cell (p:=⟨b,o + (k - 1) * 11 + 4,none⟩) hbw).trans q4);have p5:=cell_regrown ((d1.cell (p:=⟨b,o + (k - 1) * 11 + 5,none⟩) hbw).trans q5);have p6:=cell_regrown ((d1.cell (p:=⟨b,o + (k - 1) * 11 + 6,none⟩) hbw).trans q6);have p7:=cell_regrown ((d1.cell (p:=⟨b,o + (k - 1) * 11 + 7,none⟩) hbw).trans q7);have p8:=cell_regrown ((d1.cell (p:=⟨b,o + (k - 1) * 11 + 8,none⟩) hbw).trans q8);have p9:=cell_regrown ((d1.cell (p:=⟨b,o + (k - 1) * 11 + 9,none⟩) hbw).trans q9);have XE:=cell_regrown ((d1.cell (p:=⟨b,o + (k - 1) * 11 + 10,none⟩) hbw).trans Dn);go_wp2_with fail
      refine aN (by kernel_rfl) ?_;refine ai (by kernel_rfl) 3 (af _) [0,1,2,3,4,8,5,6,7] rfl (by kernel_rfl) ?_;simp only [aj,nth]
      repeat (go_big_quiet_step (fail))
      refine wpQuiet_nil ?_;refine aH 9 2 rfl (by kernel_rfl) (by decide) ?_;simp only [nth];go_wp2_with (go_at_call 78; refine (BF.out _).mono ?_; rintro e w5 ⟨rfl,b5⟩)
      have b6:Below w1.heap.size w1 w5:=(af w1).trans b5;refine ax b6 ?_;refine ai (by kernel_rfl) 0 (Below.refl _ _) [10,11] rfl (by kernel_rfl) ?_;simp only [aj,nth]
      repeat (go_big_quiet_step (fail))
      refine wpQuiet_nil ?_;refine aK (by kernel_rfl) ?_;have dc:=aa d1 b6 lq;replace N:=((N.below (ae wr (.cells #[.int .i64 ix,.int .i64 sb,.string (T nm),.int .i64 ty,.int .i64 ac,.bool mp,.bool st,.int .i64 mx,.int .i64 lo,.int .i64 hi,.slice A1 n1 c1] 27))).below b1).below b6;replace K7:=K7.later b6;clear T9 d1 BF g0 g1 g2 g3 g4 g5 g6 g7 g8 g9 g10 p0 p1 p2 p3 p4 p5 p6 p7 p8 p9 XE b6 b5 b1 i4 i5 i6 i7 i8 q0 q1 q2 q3 q4 q5 q6 q7 q8 q9 Dn;generalize w5=wc at *;have HELD:=oe ⟨ix,sb,nm,ty,ac,mp,st,mx,lo,hi,df⟩ wc.drew (hr0.below (dc.drew.mono (Nat.le_trans hB' hB))) hdf (Nat.le_trans (Nat.le_trans hB' hB) dc.drew.size);unfold gO at HELD;dsimp only at HELD;replace HELD:=zq HELD;have t0:=aC (G:=Gq) (N.aP.cell 0) yw;have k0:=aC (G:=Gq) (K7.cell 0) mQ;have k1:=aC (G:=Gq) (K7.cell 1) mQ;have k2:=aC (G:=Gq) (K7.cell 2) mQ;have k3:=aC (G:=Gq) (K7.cell 3) mQ;have k4:=aC (G:=Gq) (K7.cell 4) mQ;have k5:=aC (G:=Gq) (K7.cell 5) mQ;have k6:=aC (G:=Gq) (K7.cell 6) mQ;have k7:=aC (G:=Gq) (K7.cell 7) mQ;have k8:=aC (G:=Gq) (K7.cell 8) mQ;have k9:=aC (G:=Gq) (K7.cell 9) mQ;have k10:=aC (G:=Gq) (K7.cell 10) mQ;go_wp2_with fail
      refine cF 11 Gq (by kernel_rfl) ?_;refine cy (by kernel_rfl) 6 (Mv.refl _ _).drew [0,1,5,2,3,4] rfl (by kernel_rfl) ?_;simp only [aj,nth]
      repeat (go_big_quiet_step (fail))
      refine wpQuiet_nil ?_;refine ag 6 5 rfl (by kernel_rfl) (by decide) ?_;simp only [nth];go_wp2_with fail
      refine (HELD.out).mono ?_;rintro e w3 ⟨A3,c3,rfl,o3,b3⟩;have b3':Below wc.heap.size wc w3:=(af wc).trans b3;go_wp2_with fail
      refine aB (Mv.aq b3' _) ?_;refine ag 7 4 rfl (by kernel_rfl) (by decide) ?_;simp only [nth];go_wp2_with fail
      have b4:=ae w3 (.cells #[.int .i64 ix,.int .i64 sb,.string (T nm),.int .i64 ty,.int .i64 ac,.bool mp,.bool st,.int .i64 mx,.int .i64 lo,.int .i64 hi,.slice A3 n1 c3] 27);have D4:=aa b3' b4 lq;refine aB (Mv.aq D4 _) ?_;have N4:=N.below D4;have hnew:=RV.new w3 27 (size:=11) (cs:=Da ⟨ix,sb,nm,ty,ac,mp,st,mx,lo,hi,df⟩ A3 n1 c3) rfl;have th:wg (w3.alloc (.cells #[.int .i64 ix,.int .i64 sb,.string (T nm),.int .i64 ty,.int .i64 ac,.bool mp,.bool st,.int .i64 mx,.int .i64 lo,.int .i64 hi,.slice A3 n1 c3] 27)) w.heap.size ⟨ix,sb,nm,ty,ac,mp,st,mx,lo,hi,df⟩ (Da ⟨ix,sb,nm,ty,ac,mp,st,mx,lo,hi,df⟩ A3 n1 c3):=⟨A3,n1,c3,rfl,(o3.more dc.drew.size).below b4⟩;have vS:=aa dc D4 lq;refine ag 8 3 rfl (by kernel_rfl) (by decide) ?_;simp only [nth];go_wp2_with (at_builtin; refine cO P_ (fun w1=>wg w1 w.heap.size) rfl (.tmp 45) (.tmp 48) rfl rfl rfl w.heap.size N4.row ⟨ix,sb,nm,ty,ac,mp,st,mx,lo,hi,df⟩ hnew th (pe _ _ _ _) (by omega) (by omega) vS.size (fun w1 A1 n1 c1 xs hv hg f cs hf=>hf.beside hv (by decide) hg) ?_; intro A5 c5 w5 o5 b5 g5 _)
      have M5:Mv Gq wc w5:=(Mv.aq D4 _).trans (Mv.fk g5) fun b hb e=>Dq b e
      refine aB M5 ?_;refine ag 9 2 rfl (by kernel_rfl) (by decide) ?_;simp only [nth];go_wp2_with fail
      refine aB M5 ?_;refine ag 10 1 rfl (by kernel_rfl) (by decide) ?_;simp only [nth];go_wp2_with fail
      refine aB M5 ?_;have F5:=(N.aP.mv M5 yw).two;have Sx:=(K7.mv M5 mQ).cR (p:=⟨w.heap.size + 1,0,none⟩) (by dsimp only; omega) (.slice A5 (k + 1) c5);refine bL 0 rfl (by kernel_rfl) (by decide) (by kernel_rfl) ?_;simp only [nth];go_wp2_with fail
      refine bY ?_;have N6:=N4.QX (by decide) (by decide) (by decide) o5 g5;have d6:Below w.heap.size w (w5.setCell ⟨w.heap.size + 1,0,none⟩ (.slice A5 (k + 1) c5)):=(vS.trans b5).setCell (p:=⟨w.heap.size + 1,0,none⟩) (by dsimp only; omega) _;have VD:∃ Lb:Addr,A5=some Lb:=by
       obtain ⟨zs,z1,_⟩:=o5;obtain ⟨q,e,_,_⟩:=z1.head (by omega);exact ⟨_,e⟩
      have IJ:∀ b,some b=(Value.slice vA k vc).ownBlock->Gq b:=Mr;obtain ⟨Lb,rfl⟩:=VD;generalize hwd:w5.setCell ⟨w.heap.size + 1,0,none⟩ (.slice (some Lb) (k + 1) c5)=wd at *;clear hwd N4 N HELD t0 k0 k1 k2 k3 k4 k5 k6 k7 k8 k9 k10 F5 o5 g5 M5 D4 vS th hnew b4 b3 b3' o3 K7 Dq;have K7:=Sx;clear Sx;have OWN:=zq (fM wd.drew (hr0.below (d6.drew.mono (Nat.le_trans hB' hB))) hdf (Nat.le_trans (Nat.le_trans hB' hB) d6.drew.size));have t1:=aC (G:=Gq) (N6.aP.cell 1) yw;have k10:=aC (G:=Gq) (K7.cell 10) mQ;go_wp2_with fail
      refine cF 12 Gq (by kernel_rfl) ?_;refine cy (by kernel_rfl) 6 (Mv.refl _ _).drew [0,1,5,2,6,3,4] rfl (by kernel_rfl) ?_;simp only [aj,nth]
      repeat (go_big_quiet_step (fail))
      refine wpQuiet_nil ?_;refine ag 7 5 rfl (by kernel_rfl) (by decide) ?_;simp only [nth];go_wp2_with fail
      refine (OWN.out).mono ?_;rintro e w3 ⟨A3,c3,rfl,o3,b3⟩;have b3':Below wd.heap.size wd w3:=(af wd).trans b3;go_wp2_with fail
      refine aB (Mv.aq b3' _) ?_;refine ag 8 4 rfl (by kernel_rfl) (by decide) ?_;simp only [nth];go_wp2_with fail
      have b4:=ae w3 (.cells #[.slice A3 n1 c3] 25);have D4:=aa b3' b4 lq;refine aB (Mv.aq D4 _) ?_;have N4:=N6.below D4;have hnew:=RV.new w3 25 (size:=1) (cs:=[.slice A3 n1 c3]) rfl;have th:vX (w3.alloc (.cells #[.slice A3 n1 c3] 25)) w.heap.size df [.slice A3 n1 c3]:=⟨A3,n1,c3,rfl,(o3.more d6.drew.size).below b4⟩;have vS:=aa d6 D4 lq;refine ag 9 3 rfl (by kernel_rfl) (by decide) ?_;simp only [nth];go_wp2_with (at_builtin; refine cO P6 (fun w1=>vX w1 w.heap.size) rfl (.tmp 56) (.tmp 60) rfl rfl rfl w.heap.size N4.yq df hnew th (fun u hu=>by simp only [List.mem_cons,List.not_mem_nil,or_false] at hu; rw [hu]; rfl) (by omega) (by omega) vS.size (fun w1 A1 n1 c1 xs hv hg f cs hf=>hf.beside hv (by decide) hg) ?_; intro A6 c6 w6 o6 b6 g6 _)
      have M5:Mv Gq wd w6:=(Mv.aq D4 _).trans (Mv.fk g6) fun b hb e=>IJ b e
      refine aB M5 ?_;refine ag 10 2 rfl (by kernel_rfl) (by decide) ?_;simp only [nth];go_wp2_with fail
      refine aB M5 ?_;refine ag 11 1 rfl (by kernel_rfl) (by decide) ?_;simp only [nth];go_wp2_with fail
      refine aB M5 ?_;have F5:=(N6.aP.mv M5 yw).two;refine bL 0 rfl (by kernel_rfl) (by decide) (by kernel_rfl) ?_;simp only [nth];go_wp2_with fail
      refine bY ?_;have N7:=N4.RN (by decide) (by decide) (by decide) o6 g6;have d7:Below w.heap.size w (w6.setCell ⟨w.heap.size + 1,1,none⟩ (.slice A6 (k + 1) c6)):=(vS.trans b6).setCell (p:=⟨w.heap.size + 1,1,none⟩) (by dsimp only; omega) _;clear t1 k10 F5 N4 N6 OWN K7;go_wp2_with fail
      go_roundw
      case rel=>exact ⟨k + 1,Lb,c5,A6,c6,by omega,by go_num,by rw [IF.out.2,IF.out.1]; exact N7,d7,VC⟩
      case measure=>simp [intOf] <;> omega
   ·rw [if_pos hrz] at hst
    have HE:=zq hst;generalize aD.cD ⟨ix,sb,nm,ty,ac,mp,st,mx,lo,hi,df⟩=z at *;have ez:(z != 0)=true:=by simpa using hrz
    have HZ:=zq hrz;clear hst hrz;go_wp2_with fail
    refine (RG.out).mono ?_;rintro e w1 ⟨rfl,b1⟩;go_wp2_with fail
    go_ret3
    exact yf HE.out HZ.out rfl (aa b7 b1 lq)
  ·obtain rfl:k=n:=by omega
   have hz:Dc.bp es=(0,0):=by rw [HQ.out,Nat.sub_self]; rfl
   have hok:=Dc.oY (l:=es) (by rw [hz]);have htk:es.take k=es:=List.take_of_length_le (by rw [HL.out]; omega);rw [htk] at N;have HZ:=zq hz; have Mm:=zq hok;clear hz hok htk;obtain ⟨gv,zs,ys,hD⟩:=N.made (by decide) (by decide) (by decide) HL.out (by rw [List.length_map]; exact HL.out) Mm.out.2.1 (by omega) Mm.out.2.2;clear N;go_wp2_with fail
   go_ret3
   exact .inl ⟨by rw [HZ.out],bb,_,gv,lc,vc,la,vA,zs,ys,rfl,hD⟩
end
namespace Dc
def bJ (D:aZ) (l:List Vl):aZ:=l.foldl (fun D v=>bK D v.index v.sub v.data) D
theorem xb (D:aZ) (l:List Vl) {k:Nat} (hk:k < l.length):bJ D (l.take (k + 1))=bK (bJ D (l.take k)) (l.getD k ⟨0,0,[]⟩).index (l.getD k ⟨0,0,[]⟩).sub (l.getD k ⟨0,0,[]⟩).data:=by
 unfold bJ;rw [List.take_succ_eq_append_getElem hk,List.foldl_append,List.getD_eq_getElem?_getD,List.getElem?_eq_getElem hk];rfl
theorem l9 (D:aZ) (x y:Int) (b:List UInt8):(bK D x y b).l=D.l:=by
 unfold bK;split
 ·rfl
 ·split <;> rfl
theorem js:∀ (l:List Vl) (D:aZ),(bJ D l).l=D.l
 | [],_=>rfl
 | v :: l,D=>by
  show (bJ (bK D v.index v.sub v.data) l).l=D.l;rw [js l,l9]
structure m8 (D:aZ):Prop where
 len:D.v.length=D.l.length
 sm:∀ v∈D.v,v.length<=2000
 ok:∀ k,k < D.l.length->aD.cJ (D.l.getD k aI) (D.v.getD k [])=0
theorem pw {α:Type} (L:List α) (i k:Nat) (b d:α):(L.set i b).getD k d=if i=k/\k < L.length then b else L.getD k d:=by
 rw [List.getD_eq_getElem?_getD,List.getElem?_set,List.getD_eq_getElem?_getD]
 by_cases h:i=k
 ·subst h
  by_cases h2:i < L.length
  ·simp [h2]
  ·rw [if_pos rfl,if_neg h2,if_neg (by omega),List.getElem?_eq_none (by omega)]
 ·simp [h]
theorem m8.oD {D:aZ} (h:m8 D) (x y:Int) {b:List UInt8} (hb:b.length<=2000):m8 (bK D x y b):=by
 unfold bK;cases hf:bh D.l x y with
 | none=>exact h
 | some k =>
  dsimp only;split
  ·rename_i hv
   refine ⟨by rw [List.length_set]; exact h.len,fun v hv'=>?_,fun i hi=>?_⟩
   ·rcases List.mem_or_eq_of_mem_set hv' with h1 | h1
    ·exact h.sm v h1
    ·subst h1; exact hb
   ·dsimp only at hi ⊢
    rw [pw];split
    ·rename_i h2
     rw [<- h2.1];exact hv
    ·exact h.ok i hi
  ·exact h
theorem m8.new {es:List aD.En} (h:(bp es).1=0) (hs:∀ e∈es,e.dflt.length<=2000):m8 ⟨es,es.map (·.dflt)⟩:=by
 obtain ⟨_,_,h3⟩:=oY h;refine ⟨by simp,fun v hv=>?_,fun k hk=>?_⟩
 ·obtain ⟨e,he,rfl⟩:=List.mem_map.1 hv
  exact hs e he
 ·dsimp only at hk ⊢
  have e1:(es.map (·.dflt)).getD k []=(es.getD k aI).dflt:=by
   simp [List.getD,List.getElem?_map,List.getElem?_eq_getElem hk]
  rw [e1];have hm:es.getD k aI∈es:=by
   rw [List.getD_eq_getElem?_getD,List.getElem?_eq_getElem hk];exact List.getElem_mem hk
  exact (aD.jE (h3 _ hm)).2.2.2.2.2.2.2.2
end Dc
section
open Go.RowKit
section
variable {t:TypeId} {F:Nat->Prop} {w w':World} {g gv lc vc:Nat} {lA vA:Option Addr} {xs vs:List Value} {D:Dc.aZ}
theorem cM.fix (h:cM t w F g gv lA lc vA vc xs vs D):∃ Pw,cM t w F g Pw lA lc vA vc xs vs D/\(F Pw\/Pw=w.heap.size):=by
 cases hk:(Value.slice vA D.l.length vc).ownBlock with
 | some k =>
  have:=h.at_ k hk;exact ⟨gv,h,.inl this.2⟩
 | none =>
  have h0:D.l.length=0:=by
   rcases Nat.eq_zero_or_pos D.l.length with h0 | h0
   ·exact h0
   ·obtain ⟨q,e,_,_⟩:=h.own.head h0
    subst e;simp [Value.ownBlock] at hk
  have hl:D.l=[]:=List.eq_nil_of_length_eq_zero h0;have hv:D.v=[]:=List.eq_nil_of_length_eq_zero (by rw [h.len,h0]);refine ⟨w.heap.size,{ fg:=h.fg,ne:=(by have:=h.aP.lt; omega),aP:=h.aP,row:=⟨h.row.len,h.row.le,h.row.cap,h.row.nil,fun h1=>absurd h1 (by omega)⟩,rows:=⟨h.rows.1,fun i f hf=>by rw [hl] at hf; simp at hf⟩,own:=h.own,at_:=(fun k hk2=>by rw [hk] at hk2; cases hk2),vals:=⟨h.vals.1,fun i f hf=>by rw [hv] at hf; simp at hf⟩,len:=h.len,ord:=h.ord,few:=h.few,right:=h.right },.inr rfl⟩
theorem cM.cut (h:cM t w F g gv lA lc vA vc xs vs D):cM t w (fun q=>F q/\q < w.heap.size) g gv lA lc vA vc xs vs D:=h.mono fun _ hb hf=>⟨hf,hb⟩
end
def One (t:TypeId) (w:World) (base g:Nat) (F:Nat->Prop) (D:Dc.aZ):Prop:=∃ (gv lc vc:Nat) (la:Addr) (vA:Option Addr) (xs vs:List Value),cM t w F g gv (some la) lc vA vc xs vs D/\∀ q,F q->base<=q/\q < w.heap.size
section
variable {t:TypeId} {F G:Nat->Prop} {w w':World} {base g:Nat} {D:Dc.aZ}
theorem One.mv (h:One t w base g F D) (hm:Mv G w w') (hd:∀ b,b < w.heap.size->F b->¬ G b):One t w' base g F D:=by
 obtain ⟨gv,lc,vc,la,vA,xs,vs,h1,h2⟩:=h;exact ⟨gv,lc,vc,la,vA,xs,vs,h1.mv hm hd,fun q hq=>by have:=h2 q hq; have:=hm.size; omega⟩
theorem One.below (h:One t w base g F D) (hb:Below w.heap.size w w'):One t w' base g F D:=h.mv (Mv.aq hb fun _=>False) fun _ _ _ h=>h
theorem One.lt (h:One t w base g F D):∀ q,F q->base<=q/\q < w.heap.size:=by
 obtain ⟨gv,lc,vc,la,vA,xs,vs,h1,h2⟩:=h; exact h2
end
section
variable {F F':Nat->Prop} {w:World} {base g n c B:Nat} {A:Option Addr} {b:List UInt8} {D:Dc.aZ}
theorem One.oD (h:One 131 w base g F D) (hbase:base<=w.heap.size) (x y:Int) (hb:RB w B A n c b) (hB:B<=w.heap.size) (hn:n < 140737488355328) :
  Calls Tryz.prog 49 #[.pointer (some ⟨g,0,none⟩),.int .i64 x,.int .i64 y,.slice A n c] w fun e w'=>e=.returned (.int .u32 (Dc.pK D.l true x y b))/\Mv F w w'/\Below base w w'/\One 131 w' base g (fun q=>F q\/(w.heap.size<=q/\q < w'.heap.size)) (Dc.bK D x y b):=by
 obtain ⟨gv,lc,vc,la,vA,xs,vs,h1,h2⟩:=h;obtain ⟨Pw,h3,h4⟩:=h1.fix;refine (BM x y h3 hb hB hn).mono ?_;rintro e w' ⟨he,hm,vs',hd⟩;have hm':Mv F w w':=hm.mono fun q hq e=>by
  rcases h4 with h4 | h4
  ·rw [e]; exact h4
  ·omega
 have hlow:base<=Pw:=by
  rcases h4 with h4 | h4
  ·exact (h2 _ h4).1
  ·omega
 refine ⟨he,hm',hm.below hbase fun q e=>by subst e; exact hlow,Pw,lc,vc,la,vA,xs,vs',hd,fun q hq=>?_⟩;have hz:=hm.size;rcases hq with hq | hq
 ·have:=h2 q hq; omega
 ·omega
end
end
namespace Tp
structure Ok (t aV ev:Int) (s:St):Prop where
 kind:fj t aV ev=true
 hold:0<=s.hold/\s.hold<=65535
 left:0<=s.left/\s.left<=65535
 count:0<=s.count/\s.count<=1000
section
variable {t aV ev:Int} {s:St}
theorem Ok.rest (h:fj t aV ev=true):Ok t aV ev (pH ev):=⟨h,by unfold pH; constructor <;> dsimp only <;> omega,(iQ h).2.2,by unfold pH; constructor <;> dsimp only <;> omega⟩
theorem Ok.UT (h:Ok t aV ev s):Ok t aV ev (zp aV ev s):=⟨h.kind,(iQ h.kind).2.1,(iQ h.kind).2.2,h.count⟩
theorem Ok.Va (h:Ok t aV ev s):Ok t aV ev (iR t s).2:=by
 unfold iR
 repeat' split
 all_goals exact ⟨h.kind,h.hold,h.left,h.count⟩
theorem Ok.tick (h:Ok t aV ev s):Ok t aV ev (cr t s).2:=by
 have h1:=h.hold;have h2:=h.left;unfold cr fx;split
 ·refine ⟨h.kind,?_,?_,h.count⟩
  ·dsimp only
   split <;> omega
  ·dsimp only
   split <;> omega
 ·exact h
theorem Ok.Qx (h:Ok t aV ev s):Ok t aV ev (fq t s).2:=by
 have h1:=h.count;have h2:=(iQ h.kind).1;unfold fq;split
 ·exact h
 ·split
  ·exact h
  ·split
   ·exact ⟨h.kind,h.hold,h.left,by dsimp only; omega⟩
   ·exact ⟨h.kind,h.hold,h.left,by dsimp only; omega⟩
end
end Tp
section
open Go.RowKit Go.Sort
theorem OV.uj {w w':World} {G:Nat->Prop} {base e size n c:Nat} {A:Option Addr} {xs:List Value} (h:OV w base e size A n c xs) (hm:Mv G w w') (hG:∀ k,(Value.slice A n c).ownBlock=some k->¬ G k):OV w' base e size A n c xs:=by
 refine ⟨h.1,?_⟩;rcases h.2 with h2 | ⟨k,cap,cur,hv,hg,hh,r⟩
 ·exact .inl h2
 ·exact .inr ⟨k,cap,cur,hv,hg,(hm.block k (Array.getElem?_eq_some_iff.1 hh).1 (hG k (by rw [hv]; rfl))).trans hh,r⟩
section
variable {w w':World} {Fp G:Nat->Prop} {p gd v:Nat} {t aV ev:Int} {ws:List Nat} {s:Tp.St} {D:Dc.aZ}
theorem iO.uj {base g gd v:Nat} {Aw:Option Addr} {cw:Nat} (h:iO w base g gd v t aV ev ws Aw cw s) (hm:Mv G w w') (hg:¬ G g) (hk:∀ k,(Value.slice Aw ws.length cw).ownBlock=some k->¬ G k):iO w' base g gd v t aV ev ws Aw cw s:=⟨h.gb,h.aP.mv hm hg,OV.uj h.words hm hk⟩
theorem iO.zero {base g gd v:Nat} {Aw:Option Addr} {cw:Nat} (h:iO w base g gd v t aV ev ws Aw cw s):iO w 0 g gd v t aV ev ws Aw cw s:=⟨Nat.zero_le _,h.aP,OV.more h.words (Nat.zero_le _)⟩
theorem xf {x:Bool×Tp.St} (h:Tp.Ok t aV ev x.2):Tp.Ok t aV ev (Rm aV ev x):=by
 unfold Rm;split
 ·exact h.UT
 ·exact h
end
end
end Go.Proofs.YtijegngfclkdaaaGreatDoor
