/-
  Piece 47 of the proof.
  Conditions: none.
-/
import Derived.Test.YtijegngfclkdaaaGreatDoorQ38
import Derived.Test.YtijegngfclkdaaaGreatDoorQ45
set_option linter.unusedVariables false
set_option linter.unusedSimpArgs false
set_option maxHeartbeats 100000000
set_option maxRecDepth 100000
namespace Go.Proofs.YtijegngfclkdaaaGreatDoor
namespace Nn
open Go.RowKit Go.Sort Go Ev
theorem Kp.all {w w':World} {an:Nat->Cp} (h:Kp w (fun _=>.ext) w' an):Below w.heap.size w w':=h.mv.below lq fun q e=>absurd rfl e
theorem NI {w v:World} {gf c c':Nat} {A A':Option Addr} (hf:m7 v w.heap.size gf A (3 * 1024) c A' 3 c' Bj):Al (S1 gf) v (aL (fun _=>.ext) w.heap.size v.heap.size .fla):=by
 intro i;cases i
 case fla =>
  refine ⟨A,c,A',c',hf.more (Nat.zero_le _),fun q hq=>ay ⟨?_,hf.lt hq⟩⟩;rcases hq with rfl | hq | hq
  ·exact hf.gb
  ·exact (hf.row.lt q hq.symm).1
  ·exact (hf.yu.lt q hq.symm).1
 all_goals trivial
def Lu (g:Nat) (x y:Value) (v:World):Prop:=v.cell? ⟨g,0,none⟩=some x/\v.cell? ⟨g,1,none⟩=some y
theorem wY {w:World} {B n c:Nat} {A:Option Addr} {bs:List UInt8} {F:Nat->Prop} (h:RB w B A n c bs) (hB:B<=w.heap.size) (hF:∀ q,q < B->F q):iX w F A n c bs:=⟨h.len,h.le,h.cap,h.nil,fun hn=>by
 obtain ⟨b,o,e,hb,hc⟩:=h.at_ hn;exact ⟨b,o,e,hF b hb,by omega,hc⟩⟩
def Qk (l:List aD.En) (b gn:Nat) (w2 wr:World):Prop:=∃ s ah,Nd s wr ah/\Kp w2 (fun _=>.ext) wr ah/\mZ l s/\s.gb=some b/\s.gn=gn
def Az (g:Nat) (z:Value) (b o:Nat) (x y:Int) (v:World):Prop:=v.cell? ⟨g,0,none⟩=some z/\IW b o x y v
theorem Az.below {g b o B:Nat} {z:Value} {x y:Int} {v v':World} (h:Az g z b o x y v) (hb:Below B v v') (h1:g < B) (h2:b < B):Az g z b o x y v':=⟨(hb.cell (p:=⟨g,0,none⟩) h1).trans h.1,(hb.cell (p:=⟨b,o,none⟩) h2).trans h.2.1,(hb.cell (p:=⟨b,o + 1,none⟩) h2).trans h.2.2⟩
def kW (ws:List Nat) (x y:Int) (k:Nat):Bool:=(List.range k).any fun j=>decide ((Mp.ix (ws.getD j 0):Int)=x) && decide ((Mp.sb (ws.getD j 0):Int)=y)
theorem CW (ws:List Nat) (x y:Int) (k:Nat):kW ws x y (k + 1)=(kW ws x y k || (decide ((Mp.ix (ws.getD k 0):Int)=x) && decide ((Mp.sb (ws.getD k 0):Int)=y))):=by
 unfold kW;rw [List.range_succ,List.any_append];simp
theorem Hg {ws:List Nat} {x y:Int} (h:∃ j,j < ws.length/\(Mp.ix (ws.getD j 0):Int)=x/\(Mp.sb (ws.getD j 0):Int)=y):kW ws x y ws.length=true:=by
 obtain ⟨j,hj,h1,h2⟩:=h;unfold kW;rw [List.any_eq_true];exact ⟨j,List.mem_range.2 hj,by rw [decide_eq_true h1,decide_eq_true h2]; rfl⟩
def eU (ws:List Nat) (j k:Nat):Bool:=((List.range j).all fun a=>(List.range a).all fun b=>decide (ws.getD b 0≠ws.getD a 0)) && (List.range k).all fun b=>decide (ws.getD b 0≠ws.getD j 0)
theorem xB (ws:List Nat) (j:Nat):eU ws (j + 1) 0=eU ws j j:=by
 unfold eU;rw [List.range_succ,List.all_append];simp
theorem xo (ws:List Nat) (j k:Nat):eU ws j (k + 1)=(eU ws j k && decide (ws.getD k 0≠ws.getD j 0)):=by
 unfold eU;rw [List.range_succ (n:=k),List.all_append];simp [Bool.and_assoc]
theorem Bc {ws:List Nat} {n:Nat} (h:eU ws n 0=true):∀ i j,i < j->j < n->ws.getD i 0≠ws.getD j 0:=by
 unfold eU at h;simp only [Bool.and_eq_true,List.all_eq_true,List.mem_range,decide_eq_true_eq] at h;exact fun i j hi hj=>h.1 j hj i hi
def LV (g:Nat) (z:Value) (b p q:Nat) (x y:Int) (v:World):Prop:=v.cell? ⟨g,2,none⟩=some z/\v.cell? ⟨b,p,none⟩=some (.int .u32 x)/\v.cell? ⟨b,q,none⟩=some (.int .u32 y)
def JN (g:Nat) (z:Value) (v:World):Prop:=v.cell? ⟨g,2,none⟩=some z
structure W_ (l:List aD.En) (v:Nat) (t:Int) (ws:List Nat) (ok0 ok1:Bool) (v1 vs:Nat):Prop where
 Wj:ok0=true
 ok:Rp.ar l v t ws=0
 near:v < 2147483648
 soon:254<=t
 some_:ws.length≠0
 other:ok1=true->v1 % 2048≠v % 2048
 sync:vs % 2048≠v % 2048
 low:v % 2048 < 1792
def vP (g:Nat) (x y:Value) (b o:Nat) (v8 v9 v10 v11 v12 v13 v14:Value) (v:World):Prop:=Lu g x y v/\v.cell? ⟨b,o + 8,none⟩=some v8/\v.cell? ⟨b,o + 9,none⟩=some v9/\v.cell? ⟨b,o + 10,none⟩=some v10/\v.cell? ⟨b,o + 11,none⟩=some v11/\v.cell? ⟨b,o + 12,none⟩=some v12/\v.cell? ⟨b,o + 13,none⟩=some v13/\v.cell? ⟨b,o + 14,none⟩=some v14
theorem vP.below {g:Nat} {x y:Value} {b o:Nat} {v8 v9 v10 v11 v12 v13 v14:Value} {v v':World} {B:Nat} (h:vP g x y b o v8 v9 v10 v11 v12 v13 v14 v) (hb:Below B v v') (h1:g < B) (h2:b < B):vP g x y b o v8 v9 v10 v11 v12 v13 v14 v':=by
 obtain ⟨⟨k0,k1⟩,k8,k9,k10,k11,k12,k13,k14⟩:=h;exact ⟨⟨(hb.cell (p:=⟨g,0,none⟩) h1).trans k0,(hb.cell (p:=⟨g,1,none⟩) h1).trans k1⟩,(hb.cell (p:=⟨b,o + 8,none⟩) h2).trans k8,(hb.cell (p:=⟨b,o + 9,none⟩) h2).trans k9,(hb.cell (p:=⟨b,o + 10,none⟩) h2).trans k10,(hb.cell (p:=⟨b,o + 11,none⟩) h2).trans k11,(hb.cell (p:=⟨b,o + 12,none⟩) h2).trans k12,(hb.cell (p:=⟨b,o + 13,none⟩) h2).trans k13,(hb.cell (p:=⟨b,o + 14,none⟩) h2).trans k14⟩
theorem Dl (w:World) {A A2 Ap:Option Addr} {n c m c2 np cp:Nat} {l:List aD.En} {os:List Kn} {bs:List UInt8} (hre:qX w w.heap.size w.heap.size A n c l) (hnm:∀ e∈l,e.name.length<=9223372036854775807) (ho:Ay w w.heap.size w.heap.size A2 m c2 os) (hb:RB w w.heap.size Ap np cp bs) :
  Calls Tryz.prog 4 #[.agg #[.slice A n c,.slice A2 m c2],.slice Ap np cp] w fun e w'=>e=.returned (.bool true)/\Below w.heap.size w w':=by
 have hn:=hre.lt;have hm:=RS.lt ho;have b0:=ae w (.cells #[.slice A n c,.slice A2 m c2] 57);have B0:=ao.new w 57 #[.slice A n c,.slice A2 m c2];have g0:=B0.cell 0;have g1:=B0.cell 1;change _=some (Value.slice A n c) at g0;change _=some (Value.slice A2 m c2) at g1;have HI:=zq4 hre ho hb hnm;clear hre ho hb hnm;go_enter Tryz.func4,Tryz.ntmps4
 go_upto_region 1 with fail
 have z1:w.heap.size < (w.alloc (.cells #[.slice A n c,.slice A2 m c2] 57)).heap.size:=B0.lt;obtain ⟨w1,hw1⟩:∃ x,w.alloc (.cells #[.slice A n c,.slice A2 m c2] 57)=x:=⟨_,rfl⟩;rw [hw1] at b0 B0 g0 g1 z1 ⊢;have SM:=zq (xL w1 (HI.out.1.below b0 lq) HI.out.2.2.2 b0.size lq (HI.out.2.1.below b0 lq) b0.size lq);have H0:=zq3 b0 B0 z1;clear b0 B0 hw1 z1;go_wp2_with fail
 refine (SM.out).mono ?_;rintro e w2 ⟨⟨t1,rfl,ht1⟩,b2⟩;have d2:=aa H0.out.1 b2 lq;have B2:=H0.out.2.1.later b2;have z2:w.heap.size < w2.heap.size:=Nat.lt_of_lt_of_le H0.out.2.2 b2.size;have Wl:=B2.cell 0;have g12:=B2.cell 1;change _=some (Value.slice A n c) at Wl;change _=some (Value.slice A2 m c2) at g12;have HT1:=zq ht1;have D2:=zq d2;have PL:=zq (vT w2 (HI.out.1.below d2 lq));have G2:=zq2 B2 z2;clear SM ht1 b2 H0 g0 g1 B2 z2 d2;cases t1
 ·go_wp2_with fail
  refine (cQ _).mono ?_;rintro e wz ⟨rfl,bz⟩;go_wp2_with fail
  go_ret
  exact ⟨rfl,aa D2.out bz lq⟩
 go_wp2_with fail
 refine (PL.out).mono ?_;rintro e _ ⟨⟨t2,rfl,ht2⟩,rfl⟩;have HT2:=zq ht2;clear PL ht2;cases t2
 ·go_wp2_with fail
  refine (cQ _).mono ?_;rintro e wz ⟨rfl,bz⟩;go_wp2_with fail
  go_ret
  exact ⟨rfl,aa D2.out bz lq⟩
 by_cases hp8:8 < np
 ·go_wp2_with fail
  refine (cQ _).mono ?_;rintro e wz ⟨rfl,bz⟩;go_wp2_with fail
  go_ret
  exact ⟨rfl,aa D2.out bz lq⟩
 have HS:=zq (HT1.out (by first | rfl | trivial));have HP:=zq (HT2.out (by first | rfl | trivial));clear HT1 HT2;have FN:=zq (oM w2.drew 3 1000 (by decide) (by decide) (by decide));have S2:=zq (show Lu w.heap.size (.slice A n c) (.slice A2 m c2) w2.drew from ⟨Wl,g12⟩);have y0:∀ x:Wc (Lu w.heap.size (.slice A n c) (.slice A2 m c2)),x.val.cell? ⟨w.heap.size,0,none⟩=some (.slice A n c):=fun x=>x.ok.1
 clear Wl g12;go_wp2_with fail
 haveI cg:Nonempty (Wc (Lu w.heap.size (.slice A n c) (.slice A2 m c2))):=⟨⟨_,S2.out⟩⟩;refine aW 99 (Lu w.heap.size (.slice A n c) (.slice A2 m c2)) (by kernel_rfl) ?_;refine aw (by kernel_rfl) 7 S2.out [0,1] rfl (by kernel_rfl) ?_;simp only [aj,nth]
 repeat (go_big_quiet_step (fail))
 refine wpQuiet_nil ?_;refine ag 2 6 rfl (by kernel_rfl) (by decide) ?_;simp only [nth];go_wp2_with fail
 refine (FN.out).mono ?_;rintro e w3 ⟨gf,A3,c3,A4,rfl,b3,fm⟩;have b3':=(Below.refl w2.heap.size w2).drew.trans b3;have B3:=G2.out.1.later b3';have S3:=zq (show Lu w.heap.size (.slice A n c) (.slice A2 m c2) w3 from ⟨B3.cell 0,B3.cell 1⟩);have d3:=aa D2.out b3' lq;have K3:=zq (Kp.below (ah:=fun _=>.ext) b3' .fla);have BN:=zq (Gg HP.out (HI.out.1.below d3 lq) d3.size lq (fun e he=>by have:=HS.out.1.2 e he; omega) (NI (w:=w2) fm));have D3:=zq d3;clear FN fm b3 b3' B3 d3 S2;go_wp2_with fail
 refine az S3.out ?_;refine ag 3 5 rfl (by kernel_rfl) (by decide) ?_;simp only [nth];go_wp2_with fail
 refine (BN.out).mono ?_;unfold LY;rintro e w4 (⟨hz,s,fF,b,rfl,N4,K4,r4,hgb⟩ | ⟨hz,⟨z,hz1,rfl⟩,b4⟩)
 rotate_left
 ·have d4:=aa D3.out b4 lq
  have B4:=G2.out.1.later (K3.out.all.trans (b4.mono K3.out.all.size));have S4:=zq (show Lu w.heap.size (.slice A n c) (.slice A2 m c2) w4 from ⟨B4.cell 0,B4.cell 1⟩);have D4:=zq d4;have e1:(z == 0)=false:=by simpa using hz1
  have e2:(z != 0)=true:=by simpa using hz1
  clear d4 B4 b4 BN K3 hz hz1;go_wp2_with fail
  refine az S4.out ?_;refine aw (by kernel_rfl) 0 S4.out [4,5,6,7,8] rfl (by kernel_rfl) ?_;simp only [aj,nth]
  repeat (go_big_quiet_step (fail))
  refine wpQuiet_nil ?_;refine au (by kernel_rfl) ?_;clear S4 y0 cg S3;go_wp2_with fail
  refine (cQ _).mono ?_;rintro e wz ⟨rfl,bz⟩;go_wp2_with fail
  go_ret
  exact ⟨rfl,aa D4.out bz lq⟩
 have KK:=K3.out.trans K4;have B4:=G2.out.1.later KK.all;have S4:=zq (show Lu w.heap.size (.slice A n c) (.slice A2 m c2) w4 from ⟨B4.cell 0,B4.cell 1⟩);have BO:=zq (Cn N4 hgb);obtain ⟨gn,hgn⟩:∃ g,s.gn=g:=⟨_,rfl⟩;rw [hgn] at BO;have I4:Hid (Qk l b gn w2 w4):=zq ⟨s,fF,N4,KK,r4,hgb,hgn⟩;have HL:=zq2 (Lk.of hz HP.out) hz;clear BN K3 hz KK B4 N4 K4 r4 hgb hgn D3;go_wp2_with fail
 refine az S4.out ?_;refine aw (by kernel_rfl) 0 S4.out [4,5,6,7,8] rfl (by kernel_rfl) ?_;simp only [aj,nth]
 repeat (go_big_quiet_step (fail))
 refine wpQuiet_nil ?_;refine au (by kernel_rfl) ?_;clear S4 y0 cg S3;go_wp2_with fail
 refine (BO.out).mono ?_;rintro e _ ⟨rfl,rfl⟩;clear BO;go_upto_block 0 with fail
 go_cut [8] from 70 to 111 (fun v8 wx=>Hid (Qk l b gn w2 wx))
 case first =>
  focus
   go_wp2_with fail
   go_loopw [8] (fun v wr=>∃ k:Nat,k<=m/\k<=40/\v=.int .i64 k/\Hid (Qk l b gn w2 wr)) (fun v _=>m - (intOf v).toNat)
   case atStart=>exact ⟨0,by omega,by omega,rfl,I4⟩
   case round =>
    obtain ⟨k,hk,aaW,rfl,HR⟩:=hrel;clear I4;obtain ⟨s,ah,N,K,Mx,hgb,hgn⟩:=HR.out;have B:=G2.out.1.later K.all;have g0:=B.cell 0;have g1:=B.cell 1;change _=some (Value.slice A n c) at g0;change _=some (Value.slice A2 m c2) at g1;have d:=aa D2.out K.all lq
    by_cases hlt:k < m
    ·by_cases hq:k < 40
     ·have tk:decide ((k:Int) < (m:Int))=true:=decide_eq_true (by omega)
      have tq:decide ((k:Int) < 40)=true:=decide_eq_true (by omega);have hsm:=HS.out.2 k hlt hq;obtain ⟨b',o,cs,rfl,eT,⟨ki,a1,a2,A3,c3,a4,g,nn,mm,Lh,a16,rfl,o1,o2⟩,hc⟩:=(HI.out.2.1.below d lq).cells hlt;have q8:=hc 8 _ (by decide) rfl;have q9:=hc 9 _ (by decide) rfl;have Dn:=hc 10 _ (by decide) rfl;have Th:=hc 11 _ (by decide) rfl;have Wm:=hc 12 _ (by decide) rfl;have OX:=hc 13 _ (by decide) rfl;have Tj:=hc 14 _ (by decide) rfl;have q15:=hc 15 _ (by decide) rfl;have q16:=hc 16 _ (by decide) rfl;clear hc;generalize os.getD k ig=ok at *;obtain ⟨n3,⟨kd,id,r,A4,n4,c4,ix,sb,A5,n5,c5⟩,SJ,Lg⟩:=ok;dsimp only at q8 q9 Dn Th Wm OX Tj o1 o2 hsm;have FR:=zq (Cb kd id r A4 n4 c4 ix sb A5 n5 c5 Lh a16 wr);have Yu:=zq (show vP w.heap.size (.slice A n c) (.slice (some ⟨b',o,none⟩) m c2) b' (o + k * 17) (.int .i64 kd) (.int .i64 id) (.bool r) (.slice A4 n4 c4) (.int .i64 ix) (.int .i64 sb) (.slice A5 n5 c5) wr from ⟨⟨g0,g1⟩,q8,q9,Dn,Th,Wm,OX,Tj⟩);have HE:=zq4 hsm o1 o2 eT;have HN:=zq6 N K Mx hgb hgn d;clear N K Mx hgb hgn d B hsm o1 o2 eT HR;go_wp2_with fail
      refine (FR.out).mono ?_;rintro e w5 ⟨⟨t,rfl,ht⟩,b5⟩;have z5:=G2.out.2;have Yv:w2.heap.size<=wr.heap.size:=HN.out.2.1.all.size;have N5:=HN.out.1.below b5 .ext;have K5:=HN.out.2.1.trans (Kp.below (ah:=ah) b5 .ext);clear q8 q9 Dn Th Wm OX Tj q15 q16 g0 g1 FR;cases t
      ·have R5:Hid (Qk l b gn w2 w5):=zq ⟨s,_,N5,K5,HN.out.2.2.1,HN.out.2.2.2.1,HN.out.2.2.2.2.1⟩
       clear N5 K5 b5 ht;go_wp2_with fail
       go_roundw
       case rel=>exact ⟨k + 1,by omega,by omega,by first | rfl | rw [hw] | go_num,R5⟩
       case measure=>(try rw [hw]); simp [intOf]; omega
      ·have ht2:=ht (by first | rfl | trivial)
       have N6:=N5.drew;have K6:=K5.drew;have KB:=(Kp.below (ah:=ah) b5 .ext).drew;generalize aL ah wr.heap.size w5.heap.size .ext=fv at *;have b6:=b5.trans (Below.refl _ w5).drew;have d6:=aa HN.out.2.2.2.2.2 b6 lq;have c6:Below w.heap.size wr w5.drew:=b6.mono (by omega);have hF:∀ q,q < w.heap.size->fv q=.ext:=fun q hq=>K6.ext q (by omega) rfl
       have EK:Of ⟨kd,id,r,A4,n4,c4,ix,sb,A5,n5,c5⟩ w5.drew (fun q=>fv q=.ext) SJ:=⟨ht2.1,ht2.2.1,ht2.2.2.1,ht2.2.2.2,wY (HE.out.2.1.below c6) d6.size hF,by have:=HE.out.1.1; dsimp only; omega,⟨Lg,wY (HE.out.2.2.1.below c6) d6.size hF⟩,by have:=HE.out.1.2; dsimp only; omega⟩;have BS:=zq (rz (X:=False) HL.out.1 N6 HN.out.2.2.2.1 HN.out.2.2.1 _ EK fun f=>f.elim);have hb':=HE.out.2.2.2;have S6:=zq (show vP w.heap.size (.slice A n c) (.slice (some ⟨b',o,none⟩) m c2) b' (o + k * 17) (.int .i64 kd) (.int .i64 id) (.bool r) (.slice A4 n4 c4) (.int .i64 ix) (.int .i64 sb) (.slice A5 n5 c5) w5.drew from (Yu.out.below (b6.mono Yv) z5 (by omega)));have y1:∀ x:Wc (vP w.heap.size (.slice A n c) (.slice (some ⟨b',o,none⟩) m c2) b' (o + k * 17) (.int .i64 kd) (.int .i64 id) (.bool r) (.slice A4 n4 c4) (.int .i64 ix) (.int .i64 sb) (.slice A5 n5 c5)),x.val.cell? ⟨w.heap.size,1,none⟩=some (.slice (some ⟨b',o,none⟩) m c2):=fun x=>x.ok.1.2
       have y8:∀ x:Wc (vP w.heap.size (.slice A n c) (.slice (some ⟨b',o,none⟩) m c2) b' (o + k * 17) (.int .i64 kd) (.int .i64 id) (.bool r) (.slice A4 n4 c4) (.int .i64 ix) (.int .i64 sb) (.slice A5 n5 c5)),x.val.cell? ⟨b',o + k * 17 + 8,none⟩=some (.int .i64 kd):=fun x=>x.ok.2.1
       have y9:∀ x:Wc (vP w.heap.size (.slice A n c) (.slice (some ⟨b',o,none⟩) m c2) b' (o + k * 17) (.int .i64 kd) (.int .i64 id) (.bool r) (.slice A4 n4 c4) (.int .i64 ix) (.int .i64 sb) (.slice A5 n5 c5)),x.val.cell? ⟨b',o + k * 17 + 9,none⟩=some (.int .i64 id):=fun x=>x.ok.2.2.1
       have nP:∀ x:Wc (vP w.heap.size (.slice A n c) (.slice (some ⟨b',o,none⟩) m c2) b' (o + k * 17) (.int .i64 kd) (.int .i64 id) (.bool r) (.slice A4 n4 c4) (.int .i64 ix) (.int .i64 sb) (.slice A5 n5 c5)),x.val.cell? ⟨b',o + k * 17 + 10,none⟩=some (.bool r):=fun x=>x.ok.2.2.2.1
       have DH:∀ x:Wc (vP w.heap.size (.slice A n c) (.slice (some ⟨b',o,none⟩) m c2) b' (o + k * 17) (.int .i64 kd) (.int .i64 id) (.bool r) (.slice A4 n4 c4) (.int .i64 ix) (.int .i64 sb) (.slice A5 n5 c5)),x.val.cell? ⟨b',o + k * 17 + 11,none⟩=some (.slice A4 n4 c4):=fun x=>x.ok.2.2.2.2.1
       have y12:∀ x:Wc (vP w.heap.size (.slice A n c) (.slice (some ⟨b',o,none⟩) m c2) b' (o + k * 17) (.int .i64 kd) (.int .i64 id) (.bool r) (.slice A4 n4 c4) (.int .i64 ix) (.int .i64 sb) (.slice A5 n5 c5)),x.val.cell? ⟨b',o + k * 17 + 12,none⟩=some (.int .i64 ix):=fun x=>x.ok.2.2.2.2.2.1
       have y13:∀ x:Wc (vP w.heap.size (.slice A n c) (.slice (some ⟨b',o,none⟩) m c2) b' (o + k * 17) (.int .i64 kd) (.int .i64 id) (.bool r) (.slice A4 n4 c4) (.int .i64 ix) (.int .i64 sb) (.slice A5 n5 c5)),x.val.cell? ⟨b',o + k * 17 + 13,none⟩=some (.int .i64 sb):=fun x=>x.ok.2.2.2.2.2.2.1
       have y14:∀ x:Wc (vP w.heap.size (.slice A n c) (.slice (some ⟨b',o,none⟩) m c2) b' (o + k * 17) (.int .i64 kd) (.int .i64 id) (.bool r) (.slice A4 n4 c4) (.int .i64 ix) (.int .i64 sb) (.slice A5 n5 c5)),x.val.cell? ⟨b',o + k * 17 + 14,none⟩=some (.slice A5 n5 c5):=fun x=>x.ok.2.2.2.2.2.2.2
       have HK:=zq2 K6 KB;clear N5 N6 K5 K6 KB EK b5 b6 d6 c6 hF hb' ht ht2;go_wp2_with fail
       haveI cg:Nonempty (Wc (vP w.heap.size (.slice A n c) (.slice (some ⟨b',o,none⟩) m c2) b' (o + k * 17) (.int .i64 kd) (.int .i64 id) (.bool r) (.slice A4 n4 c4) (.int .i64 ix) (.int .i64 sb) (.slice A5 n5 c5))):=⟨⟨_,S6.out⟩⟩;refine aW 99 (vP w.heap.size (.slice A n c) (.slice (some ⟨b',o,none⟩) m c2) b' (o + k * 17) (.int .i64 kd) (.int .i64 id) (.bool r) (.slice A4 n4 c4) (.int .i64 ix) (.int .i64 sb) (.slice A5 n5 c5)) (by kernel_rfl) ?_;refine aw (by kernel_rfl) 1 S6.out [0,1,3,8,10,15,17,2,9,16,4,11,18,5,12,19,6,13,20,7,14,21,22] rfl (by kernel_rfl) ?_;simp only [aj,nth]
       repeat (go_big_quiet_step (fail))
       refine wpQuiet_nil ?_;refine ag 23 0 rfl (by kernel_rfl) (by decide) ?_;simp only [nth];go_wp2_with fail
       refine (BS.out).mono ?_;unfold cC;rintro e w7 ⟨⟨z,rfl⟩,s7,kK,N7,K7,r7,p7,_⟩;have Yw:=HK.out.1.trans K7;have R7:Hid (Qk l b gn w2 w7):=zq ⟨s7,kK,N7,Yw,r7,p7.gb.trans HN.out.2.2.2.1,p7.gn.trans HN.out.2.2.2.2.1⟩;have c7:Below w2.heap.size wr w7:=(HK.out.2.trans K7).mv.below Yv fun q e=>by
        rcases Nat.lt_or_ge q w2.heap.size with h | h
        ·exact absurd (HN.out.2.1.ext q h rfl) e
        ·exact h
       have S7:=zq (show vP w.heap.size (.slice A n c) (.slice (some ⟨b',o,none⟩) m c2) b' (o + k * 17) (.int .i64 kd) (.int .i64 id) (.bool r) (.slice A4 n4 c4) (.int .i64 ix) (.int .i64 sb) (.slice A5 n5 c5) w7 from (Yu.out.below c7 z5 (by have:=HE.out.2.2.2; omega)));clear N7 K7 r7 p7 Yw c7 BS S6;go_wp2_with fail
       refine az S7.out ?_;refine au (by kernel_rfl) ?_;clear S7 y1 y8 y9 nP DH y12 y13 y14 cg;go_wp2_with fail
       go_roundw
       case rel=>exact ⟨k + 1,by omega,by omega,by first | rfl | rw [hw] | go_num,R7⟩
       case measure=>(try rw [hw]); simp [intOf]; omega
     ·have hq2:decide ((k:Int) < 40)=false:=decide_eq_false (by omega)
      have tk:decide ((k:Int) < (m:Int))=true:=decide_eq_true (by omega);go_wp2_with fail
      go_meet
      exact HR
    ·have tk:decide ((k:Int) < (m:Int))=false:=decide_eq_false (by omega)
     go_wp2_with fail
     go_meet
     exact HR
 obtain ⟨w5,V2⟩:∃ x,x=wc:=⟨_,rfl⟩;subst V2;obtain ⟨s,ah,N,K,Mx,hgb,hgn⟩:=hcut.out;have d:=aa D2.out K.all lq;have B:=G2.out.1.later K.all;have g0:=B.cell 0;have g1:=B.cell 1;change _=some (Value.slice A n c) at g0;change _=some (Value.slice A2 m c2) at g1;have hdd:∀ e∈l,e.name.length<=1000000/\e.dflt.length<=1000000:=fun e he=>by have:=HS.out.1.2 e he; omega
 have LK:=Cz N HL.out.1 Mx.dk HL.out.2 (HI.out.1.below d lq) d.size lq hdd;rw [hgn] at LK;replace LK:=zq LK;have hdl:∀ e∈s.D.l,e.dflt.length<=1000000:=by rw [Mx.dk.el]; exact HL.out.1.nR
 have hvl:=Mx.dk.small;have HD:=zq2 hdl hvl;have HN:=zq6 N K Mx hgb hgn d;clear N K Mx hgb hgn d B hcut hdd hdl hvl I4;go_wp2_with fail
 refine (LK.out).mono ?_;unfold LS;rintro e w6 ⟨gd,F,rfl,O6,b6⟩;have R0:=zq (o7 O6 HD.out.1 HD.out.2 0);have H6:=zq2 O6 b6;clear O6 b6 LK;go_wp2_with fail
 refine (R0.out).mono ?_;unfold TR;rintro e w7 ⟨v,t,ws,Aw,cw,ok0,rfl,p0,q0,ow,hv,hwl,b7⟩;have H7:=zq6 p0 q0 ow hv hwl b7;clear p0 q0 ow hwl b7 R0;go_upto_region 14 with fail
 obtain ⟨w8,hw8⟩:∃ x,w7.alloc (.cells #[.int .u32 (v:Int),.int .i64 t,.slice Aw ws.length cw] 65)=x:=⟨_,rfl⟩;have b8:=ae w7 (.cells #[.int .u32 (v:Int),.int .i64 t,.slice Aw ws.length cw] 65);have B8:=ao.new w7 65 #[.int .u32 (v:Int),.int .i64 t,.slice Aw ws.length cw];rw [hw8] at b8 B8 ⊢;have a68:Below w6.heap.size w6 w8:=aa H7.out.2.2.2.2.2 b8 lq;have O8:=H6.out.1.below a68;have c8:=aa H6.out.2 a68 lq;have Yx:=H7.out.2.2.1.below b8;have R1:=zq (o7 O8 HD.out.1 HD.out.2 1);have zc:w5.heap.size<=w6.heap.size:=H6.out.2.size;have gc:w5.heap.size<=w7.heap.size:=Nat.le_trans zc H7.out.2.2.2.2.2.size;have H8:=zq5 O8 c8 (Yx.more zc) B8 gc;clear b8 B8 a68 O8 c8 Yx hw8 zc gc H6;go_wp2_with fail
 refine (R1.out).mono ?_;unfold TR;rintro e w9 ⟨v1,t1,Wn,Wo,Wp,ok1,rfl,p1,q1,ow1,hv1,_,b9⟩;have P1:=zq2 p1 q1;have B9:=zq b9;clear p1 q1 ow1 b9 R1;go_upto_region 15 with fail
 obtain ⟨XU,Tl⟩:∃ x,w9.alloc (.cells #[.int .u32 (v1:Int),.int .i64 t1,.slice Wo Wn.length Wp] 65)=x:=⟨_,rfl⟩;have b10:=ae w9 (.cells #[.int .u32 (v1:Int),.int .i64 t1,.slice Wo Wn.length Wp] 65);have Wq:=ao.new w9 65 #[.int .u32 (v1:Int),.int .i64 t1,.slice Wo Wn.length Wp];rw [Tl] at b10 Wq ⊢;have Mo:=aa B9.out b10 lq;have Wr:=H8.out.1.below Mo;have SY:=zq (EB Wr HD.out.1 HD.out.2);have My:=zq6 Wr (aa H8.out.2.1 Mo lq) (H8.out.2.2.1.below Mo) (H8.out.2.2.2.1.later Mo) H8.out.2.2.2.2 Wq;clear b10 Wq Mo Wr Tl H8 B9;go_wp2_with fail
 refine (SY.out).mono ?_;unfold W7;rintro e Yy ⟨vs,ns,oks,rfl,ps,hvs,b11⟩;have Ws:=My.out.1.below b11;have Wt:=My.out.2.2.1.below b11;have Yz:=My.out.2.2.2.1.later b11;have YA:=My.out.2.2.2.2.2.later b11;have PS:=zq ps;have CK:=zq (AJ Ws HD.out.1 hv t Wt.rw H7.out.2.2.2.2.1 lq);have YB:=zq (aa HN.out.2.2.2.2.2 (aa My.out.2.1 b11 lq) lq);have Dv:=zq6 Ws (aa My.out.2.1 b11 lq) Wt Yz My.out.2.2.2.2.1 YA;clear Ws Wt Yz YA b11 My SY ps;go_upto_region 16 with fail
 go_cut [181] from 132 to 181 (fun vb wx=>∃ bad:Bool,vb=.bool bad/\Hid ((bad=false->W_ s.D.l v t ws ok0 ok1 v1 vs)/\Below Yy.heap.size Yy wx))
 case first =>
  as_aux_lemma =>
   cases ok0
   ·go_wp2_with fail
    go_meet
    exact ⟨true,rfl,zq ⟨fun h=>(by cases h),Below.refl _ _⟩⟩
   have u0:=Dv.out.2.2.2.1.cell 0;have u1:=Dv.out.2.2.2.1.cell 1;have u2:=Dv.out.2.2.2.1.cell 2;change _=some (Value.int .u32 (v:Int)) at u0;change _=some (Value.int .i64 t) at u1;change _=some (Value.slice Aw ws.length cw) at u2;go_wp2_with fail
   refine (CK.out).mono ?_;rintro e I6 ⟨rfl,b12⟩;have tx:=zq b12;have x0:=(Dv.out.2.2.2.1.later b12).cell 0;have x1:=(Dv.out.2.2.2.1.later b12).cell 1;have x2:=(Dv.out.2.2.2.1.later b12).cell 2;have x3:=(Dv.out.2.2.2.2.2.later b12).cell 0;change _=some (Value.int .u32 (v:Int)) at x0;change _=some (Value.int .i64 t) at x1;change _=some (Value.slice Aw ws.length cw) at x2;change _=some (Value.int .u32 (v1:Int)) at x3;obtain ⟨y,hy⟩:∃ y,Rp.ar s.D.l v t ws=y:=⟨_,rfl⟩;have HY:=zq hy;rw [hy];clear hy b12 CK u0 u1 u2
   by_cases hck:y=0
   rotate_left
   ·have e1:(y == 0)=false:=by simpa using hck
    have e2:(y != 0)=true:=by simpa using hck
    clear hck;go_wp2_with fail
    go_meet
    exact ⟨true,rfl,zq ⟨fun h=>(by cases h),tx.out⟩⟩
   have e1:(y == 0)=true:=by simpa using hck
   have e2:(y != 0)=false:=by simpa using hck
   rw [hck] at HY;clear hck
   by_cases Mz:2147483648<=v
   ·have e3:decide ((2147483648:Int)<=(v:Int))=true:=decide_eq_true (by omega)
    go_wp2_with fail
    go_meet
    exact ⟨true,rfl,zq ⟨fun h=>(by cases h),tx.out⟩⟩
   have e3:decide ((2147483648:Int)<=(v:Int))=false:=decide_eq_false (by omega)
   by_cases zT:t < 254
   ·have e4:decide (t < 254)=true:=decide_eq_true zT
    go_wp2_with fail
    go_meet
    exact ⟨true,rfl,zq ⟨fun h=>(by cases h),tx.out⟩⟩
   have e4:decide (t < 254)=false:=decide_eq_false zT;obtain ⟨nw,hnw⟩:∃ nw,ws.length=nw:=⟨_,rfl⟩;have Mt:=zq hnw;rw [hnw] at x2;clear hnw
   by_cases h0:nw=0
   ·have e5:((nw:Int) == 0)=true:=by simp [h0]
    go_wp2_with fail
    go_meet
    exact ⟨true,rfl,zq ⟨fun h=>(by cases h),tx.out⟩⟩
   have e5:((nw:Int) == 0)=false:=by
    have:(nw:Int)≠0:=by omega
    simpa using this
   have a1:=nC v hv;have a2:=nC v1 hv1;have a3:=nC vs hvs;obtain ⟨iv,PJ⟩:∃ z,v % 2048=z:=⟨_,rfl⟩;obtain ⟨MA,OY⟩:∃ z,v1 % 2048=z:=⟨_,rfl⟩;obtain ⟨Uq,O5⟩:∃ z,vs % 2048=z:=⟨_,rfl⟩;have Tm:=zq3 PJ OY O5;rw [PJ] at a1;rw [OY] at a2;rw [O5] at a3;have Wu:iv < 2048:=by omega
   clear PJ OY O5
   by_cases hoth:ok1=true/\MA=iv
   ·have e6:((MA:Int) == (iv:Int))=true:=by simp [hoth.2]
    have h1:=hoth.1;subst h1;clear hoth;go_wp2_with fail
    go_meet
    exact ⟨true,rfl,zq ⟨fun h=>(by cases h),tx.out⟩⟩
   by_cases Dw:Uq=iv
   ·have e7:((Uq:Int) == (iv:Int))=true:=by simp [Dw]
    clear Dw;cases ok1
    ·go_wp2_with fail
     go_meet
     exact ⟨true,rfl,zq ⟨fun h=>(by cases h),tx.out⟩⟩
    ·have e6:((MA:Int) == (iv:Int))=false:=by
      have:(MA:Int)≠(iv:Int):=fun h=>hoth ⟨by first | rfl | trivial,by omega⟩
      simpa using this
     clear hoth;go_wp2_with fail
     go_meet
     exact ⟨true,rfl,zq ⟨fun h=>(by cases h),tx.out⟩⟩
   have e7:((Uq:Int) == (iv:Int))=false:=by
    have:(Uq:Int)≠(iv:Int):=by omega
    simpa using this
   have HX:=zq5 Mz zT h0 hoth Dw
   by_cases hlow:1792<=iv
   ·have e8:decide ((1792:Int)<=(iv:Int))=true:=decide_eq_true (by omega)
    clear Dw;cases ok1
    ·go_wp2_with fail
     go_meet
     exact ⟨true,rfl,zq ⟨fun h=>(by cases h),tx.out⟩⟩
    ·have e6:((MA:Int) == (iv:Int))=false:=by
      have:(MA:Int)≠(iv:Int):=fun h=>hoth ⟨by first | rfl | trivial,by omega⟩
      simpa using this
     clear hoth;go_wp2_with fail
     go_meet
     exact ⟨true,rfl,zq ⟨fun h=>(by cases h),tx.out⟩⟩
   have e8:decide ((1792:Int)<=(iv:Int))=false:=decide_eq_false (by omega);have PK:=zq (show W_ s.D.l v t ws true ok1 v1 vs from ⟨rfl,HY.out,by omega,by omega,by rw [Mt.out]; exact h0,fun h=>by rw [Tm.out.2.1,Tm.out.1]; exact fun q=>hoth ⟨h,q⟩,by rw [Tm.out.2.2,Tm.out.1]; exact Dw,by rw [Tm.out.1]; omega⟩);clear HX Dw hlow h0 zT Mz;cases ok1
   ·go_wp2_with fail
    go_meet
    exact ⟨false,rfl,zq ⟨fun _=>PK.out,tx.out⟩⟩
   ·have e6:((MA:Int) == (iv:Int))=false:=by
     have:(MA:Int)≠(iv:Int):=fun h=>hoth ⟨by first | rfl | trivial,by omega⟩
     simpa using this
    clear hoth;go_wp2_with fail
    go_meet
    exact ⟨false,rfl,zq ⟨fun _=>PK.out,tx.out⟩⟩
 obtain ⟨bad,rfl,HC⟩:=hcut;cases bad
 rotate_left
 ·have D12:=zq (aa YB.out HC.out.2 lq)
  go_wp2_with fail
  refine (cQ _).mono ?_;rintro e wz ⟨rfl,bz⟩;go_wp2_with fail
  go_ret
  exact ⟨rfl,aa D12.out bz lq⟩
 obtain ⟨I6,Wv⟩:∃ x,x=wc:=⟨_,rfl⟩;subst Wv;have PA:=zq (HC.out.1 (by first | rfl | trivial));have tx:=HC.out.2;have YC:=Dv.out.1.below tx;have c12:=aa Dv.out.2.1 tx lq;have MC:=zq6 YC c12 (Dv.out.2.2.1.below tx) (Dv.out.2.2.2.1.later tx) Dv.out.2.2.2.2.1 tx;have Ww:Hid ((2 < 2->Pm.bO s.D 2=none)/\(3 < 2->Pm.bO s.D 3=none)/\Below I6.heap.size I6 I6):=zq ⟨fun h=>absurd h (by decide),fun h=>absurd h (by decide),Below.refl _ _⟩;clear tx YC c12 Dv HC;go_upto_block 2 with fail
 go_cut [17,18,19] from 183 to 194 (fun v17 v18 v19 wx=>Hid (Pm.bO s.D 2=none/\Pm.bO s.D 3=none/\Below I6.heap.size I6 wx))
 case first =>
  as_aux_lemma =>
   go_wp2_with fail
   go_loopw [17] (fun v17 wr=>∃ k:Nat,2<=k/\k<=4/\v17=.int .i64 k/\Hid ((2 < k->Pm.bO s.D 2=none)/\(3 < k->Pm.bO s.D 3=none)/\Below I6.heap.size I6 wr)) (fun v _=>4 - (intOf v).toNat)
   case atStart=>exact ⟨2,by omega,by omega,rfl,Ww⟩
   case round =>
    obtain ⟨k,hk2,hk4,rfl,HR⟩:=hrel;clear Ww
    by_cases hlt:k < 4
    ·have tk:decide ((k:Int) < 4)=true:=decide_eq_true (by omega)
     have RP:=zq (o7 (MC.out.1.below HR.out.2.2) HD.out.1 HD.out.2 (k:Int));go_wp2_with fail
     refine (RP.out).mono ?_;unfold TR;rintro e wq ⟨v9,t9,YD,A9,c9,ok9,rfl,p9,q9,_,_,_,b9⟩;have d9:=aa HR.out.2.2 b9 lq;have d10:=zq (aa d9 (ae wq (.cells #[.int .u32 (v9:Int),.int .i64 t9,.slice A9 YD.length c9] 65)) lq);have Q9:=zq2 p9 q9;clear p9 q9 b9 d9 RP;cases ok9
     ·have hno:Pm.bO s.D (k:Int)=none:=Q9.out.2 (by first | rfl | trivial)
      have R13:=zq (show (2 < k + 1->Pm.bO s.D 2=none)/\(3 < k + 1->Pm.bO s.D 3=none)/\Below I6.heap.size I6 (wq.alloc (.cells #[.int .u32 (v9:Int),.int .i64 t9,.slice A9 YD.length c9] 65)) from ⟨fun h=>by
       rcases Nat.lt_or_ge 2 k with q | q
       ·exact HR.out.1 q
       ·obtain rfl:k=2:=by omega
        exact hno,fun h=>by
       obtain rfl:k=3:=by omega
       exact hno,d10.out⟩)
      clear hno;go_wp2_with fail
      go_roundw
      case rel=>exact ⟨k + 1,by omega,by omega,by first | rfl | rw [hw] | go_num,R13⟩
      case measure=>(try rw [hw]); simp [intOf]; omega
     ·have D9:=zq (aa YB.out (aa MC.out.2.2.2.2.2 d10.out lq) lq)
      go_wp2_with fail
      refine (cQ _).mono ?_;rintro e wz ⟨rfl,bz⟩;go_wp2_with fail
      go_ret
      exact ⟨rfl,aa D9.out bz lq⟩
    ·have tk:decide ((k:Int) < 4)=false:=decide_eq_false (by omega)
     have RE:=zq3 (HR.out.1 (by omega)) (HR.out.2.1 (by omega)) HR.out.2.2;go_wp2_with fail
     go_meet
     exact RE
 obtain ⟨Wx,Wy⟩:∃ x,x=wc:=⟨_,rfl⟩;subst Wy;have HE:=zq hcut.out;have PK:po s.D v t ws:=⟨H7.out.1 PA.out.Wj,PA.out.ok,PA.out.near,PA.out.soon,PA.out.some_,fun o ho=>by
   cases hk1:ok1 with
   | false=>rw [P1.out.2 hk1] at ho; cases ho
   | true =>
    rw [P1.out.1 hk1] at ho;injection ho with ho
    rw [<- ho];exact PA.out.other hk1,fun o ho=>by rw [PS.out o ho]; exact PA.out.sync,PA.out.low,HE.out.1,HE.out.2.1⟩
 have rG:=zq PK;have b13:=HE.out.2.2;have c13:=aa MC.out.2.1 b13 lq;have YE:=HN.out.1.below c13 .ext;have K13:=Kp.below (ah:=ah) c13 .ext;have Wz:=MC.out.1.below b13;have WC:=MC.out.2.2.1.below b13;have Ur:=MC.out.2.2.2.1.later b13;have x0:=Ur.cell 0;have x2:=Ur.cell 2;change _=some (Value.int .u32 (v:Int)) at x0;change _=some (Value.slice Aw ws.length cw) at x2;have hck:=PK.maps (l:=s.D.l) rfl;have ST:=we YE HN.out.2.2.1.on;rw [HN.out.2.2.2.2.1] at ST;replace ST:=zq ST;have d13:=aa HN.out.2.2.2.2.2 c13 lq;have np1:np<=1000000:=by omega
 have SE:Hid (Calls Tryz.prog 25 #[.pointer (some ⟨gd,0,none⟩),.slice Aw ws.length cw,.slice Ap np cp] Wx fun e w'=>e=.returned (.bool (dY s.D.l bs ws ws.length))/\Below Wx.heap.size Wx w'):=zq (by
  obtain ⟨gv,lc,vc,la,vA,xs,vs,h1,_⟩:=Wz;exact Dj h1 HD.out.1 WC.rw H7.out.2.2.2.2.1 lq hck (HI.out.2.2.1.below d13) d13.size np1)
 have O7:=zq7 c13 Wz WC Ur d13 hck MC.out.2.2.2.2.1;clear PK b13 c13 YE K13 Wz WC Ur hck d13 MC hcut CK Ww;go_wp2_with fail
 refine (ST.out).mono ?_;rintro e _ ⟨rfl,rfl⟩;obtain ⟨works,IN⟩:∃ z:Bool,((s.st:Int) == 5)=z:=⟨_,rfl⟩;have HW:=zq IN;go_wp2_with fail
 refine (SE.out).mono ?_;rintro e PM ⟨rfl,b14⟩;obtain ⟨right,hright⟩:∃ z,dY s.D.l bs ws ws.length=z:=⟨_,rfl⟩;have WG:=zq hright;have c14:=aa O7.out.1 b14 lq;have YF:=HN.out.1.below c14 .ext;have d14:=aa HN.out.2.2.2.2.2 c14 lq;have z2:=HN.out.2.1.all.size;have z0:=G2.out.2;have hnew:∀ q,w5.heap.size<=q->q < PM.heap.size->aL ah w5.heap.size PM.heap.size .ext q=.ext:=fun q h1 h2=>ay ⟨h1,h2⟩
 have hold:∀ q,q < w2.heap.size->aL ah w5.heap.size PM.heap.size .ext q=.ext:=fun q h1=>by
  rw [bT (by omega)];exact HN.out.2.1.ext q h1 rfl
 have YG:=HN.out.2.1.trans (Kp.below (ah:=ah) c14 .ext);have YH:=(O7.out.2.1.below b14);have YI:=iY.Zc (O7.out.2.2.1.below b14);have WH:=O7.out.2.2.2.1.later b14;have YJ:=WH.cell 0;change _=some (Value.int .u32 (v:Int)) at YJ;have hpl:=rG.out.place;have EK:Of ⟨0,((v % 2048:Nat):Int),false,Ap,np,cp,0,0,none,0,0⟩ PM (fun q=>aL ah w5.heap.size PM.heap.size .ext q=.ext) bs:=⟨(by decide:(0:Int)≠3),(by decide:(0:Int)≠4),fun _=>hpl.2.1,fun h=>absurd h (by decide:¬ (0:Int)=2),wY (HI.out.2.2.1.below d14) d14.size (fun q hq=>hold q (by omega)),by dsimp only; omega,⟨[],iX.none_ _ _⟩,by dsimp only; omega⟩;generalize aL ah w5.heap.size PM.heap.size .ext=YK at *;have BS:=zq (rz (X:=True) HL.out.1 YF HN.out.2.2.2.1 HN.out.2.2.1 _ EK fun _=>⟨rfl,rG.out.apart HN.out.2.2.1,by dsimp only; omega,rG.out.check (n:=np) (by omega)⟩);have a1:=nC v hv;obtain ⟨iv,PJ⟩:∃ z,v % 2048=z:=⟨_,rfl⟩;rw [PJ] at a1 BS;have Wu:iv < 2048:=by omega
 have I7:=zq8 YG YH YI WH hnew hold d14 c14;have HPL:=zq hpl;clear YG YH YI WH hnew hold EK YF d14 c14 b14 hpl PJ x0 x2 z2 z0 SE ST;go_wp2_with fail
 refine (BS.out).mono ?_;unfold cC;rintro e Dx ⟨⟨z,rfl⟩,s15,YL,YM,WI,To,YN,hX⟩;have m15:=WI.mv;have YO:=I7.out.2.1.mv m15 (fun q hq hF e=>e (I7.out.2.2.2.2.1 q (I7.out.2.1.lt q hF).1 hq));have YP:M8 Dx (fun q=>w5.heap.size<=q) Aw ws.length cw ws:=ij.mv I7.out.2.2.1 m15 (fun q hq hF e=>e (I7.out.2.2.2.2.1 q hF hq));have Un:=I7.out.2.2.2.1.mv m15 (fun e=>e (I7.out.2.2.2.2.1 _ O7.out.2.2.2.2.2.2 I7.out.2.2.2.1.lt));have k15:=(I7.out.1.trans WI).all;have d15:=aa D2.out k15 lq;have YQ:=G2.out.1.later k15;obtain ⟨act,D',Ts,hSt⟩:=hX trivial;have hel:=Rt hSt;have pS:=zq7 YM YO YP Un d15 YQ To;have tt:=zq3 Ts hSt YN;have WJ:Hid (Below Dx.heap.size Dx Dx):=zq (Below.refl _ _);clear m15 YO YP Un k15 d15 YQ Ts hSt hel YM WI To YN hX BS I7 IN hright YJ g0 g1;go_upto_block 4 with fail
 go_cut [22,23,24,25,26,27,28,29,30,31] from 212 to 315 (fun v22 v23 v24 v25 v26 v27 v28 v29 v30 v31 wx=>Hid (Below Dx.heap.size Dx wx))
 case first =>
  as_aux_lemma =>
   go_wp2_with fail
   go_loopw [22] (fun v22 wr=>∃ k:Nat,k<=n/\v22=.int .i64 k/\Hid (Below Dx.heap.size Dx wr)) (fun v _=>n - (intOf v).toNat)
   case atStart=>exact ⟨0,by omega,rfl,WJ⟩
   case round =>
    obtain ⟨k,hk,rfl,HR⟩:=hrel;clear WJ;obtain ⟨w16,hw16⟩:∃ x,x=wr:=⟨_,rfl⟩;subst hw16;have YR:=pS.out.2.2.2.2.2.1.later HR.out;have g0:=YR.cell 0;change _=some (Value.slice A n c) at g0
    by_cases hlt:k < n
    ·have tk:decide ((k:Int) < (n:Int))=true:=decide_eq_true (by omega)
     have d16:=aa pS.out.2.2.2.2.1 HR.out lq;obtain ⟨b',o,A1,n1,c1,rfl,eT,hr,hc⟩:=(HI.out.1.below d16 lq).at_ hlt;have hkl:k < l.length:=by rw [qX.len HI.out.1]; exact hlt
     have q0:=hc 0 _ rfl;have q1:=hc 1 _ rfl;rw [Nat.add_zero] at q0;clear hc hr;have vN:=HN.out.2.2.1;have IQ:=pS.out.2.2.2.2.2.2;have fs:=lU HL.out.1.ord hkl;have YS:Dc.c_ s.D (l.getD k Dc.aI).index (l.getD k Dc.aI).sub=some (s.D.v.getD k []):=by
      unfold Dc.c_;rw [vN.dk.el,fs];rfl
     have YT:Dc.c_ s15.D (l.getD k Dc.aI).index (l.getD k Dc.aI).sub=some (s15.D.v.getD k []):=by
      unfold Dc.c_;rw [IQ.dk.el,fs];rfl
     have kp:(works && right && kW ws (l.getD k Dc.aI).index (l.getD k Dc.aI).sub ws.length)=false->xg (l.getD k Dc.aI).index=false->s15.D.v.getD k []=s.D.v.getD k []:=fun h1 h2=>by
      have e15:s15.D=D':=by rw [tt.out.1]
      rw [e15];refine GD HL.out.1 vN.dk.el (rG.out.set vN).2 (rG.out.maps vN.dk.el) rG.out.soon rG.out.some_ tt.out.2.1 (JK h2) ?_;rintro ⟨h5,hs,hj⟩;have t1:works=true:=by rw [<- HW.out,h5]; rfl
      have t2:right=true:=by rw [<- WG.out,vN.dk.el]; exact hs
      rw [t1,t2,Hg hj] at h1;cases h1
     have ha1:(s.D.v.getD k []).length<=1000000:=Go.Proofs.YtijegngfclkdaaaGreatDoor.gC HD.out.2 (by rw [vN.dk.kR.len,vN.dk.el]; exact hkl);have ha2:(s15.D.v.getD k []).length<=1000000:=Go.Proofs.YtijegngfclkdaaaGreatDoor.gC IQ.dk.small (by rw [IQ.dk.kR.len,IQ.dk.el]; exact hkl);have KE:=zq5 kp ha1 ha2 YS YT;clear kp fs ha1 ha2 YS YT;generalize s.D.v.getD k []=va at *;generalize s15.D.v.getD k []=vb at *;generalize (l.getD k Dc.aI).index=x at *;generalize (l.getD k Dc.aI).sub=y at *;have zb:b' < Dx.heap.size:=Nat.lt_of_lt_of_le eT pS.out.2.2.2.2.1.size;have zs:w.heap.size < Dx.heap.size:=pS.out.2.2.2.2.2.1.lt;have b17:=HR.out.drew;have Us:Hid (Calls Tryz.prog 26 #[.pointer (some ⟨gd,0,none⟩),.int .i64 x,.int .i64 y] w16.drew (iW (some va) w16.drew)):=zq (by
      obtain ⟨gv,lc,vc,la,vA,xs,vs,h1,_⟩:=pS.out.2.1.below b17;rw [<- KE.out.2.2.2.1];exact jB x y h1 HD.out.2)
     have Ut:=zq (show Az w.heap.size (.slice (some ⟨b',o,none⟩) n c) b' (o + k * 11) x y w16.drew from ⟨g0,q0,q1⟩);have y0:∀ u:Wc (Az w.heap.size (.slice (some ⟨b',o,none⟩) n c) b' (o + k * 11) x y),u.val.cell? ⟨w.heap.size,0,none⟩=some (.slice (some ⟨b',o,none⟩) n c):=fun u=>u.ok.1
     have y1:∀ u:Wc (Az w.heap.size (.slice (some ⟨b',o,none⟩) n c) b' (o + k * 11) x y),u.val.cell? ⟨b',o + k * 11,none⟩=some (.int .i64 x):=fun u=>u.ok.2.1
     have y2:∀ u:Wc (Az w.heap.size (.slice (some ⟨b',o,none⟩) n c) b' (o + k * 11) x y),u.val.cell? ⟨b',o + k * 11 + 1,none⟩=some (.int .i64 y):=fun u=>u.ok.2.2
     unfold iW at Us;dsimp only at Us;have Tt:=zq b17;clear q0 q1 YR d16 b17 vN IQ;go_wp2_with fail
     haveI cg:Nonempty (Wc (Az w.heap.size (.slice (some ⟨b',o,none⟩) n c) b' (o + k * 11) x y)):=⟨⟨_,Ut.out⟩⟩;refine aW 99 (Az w.heap.size (.slice (some ⟨b',o,none⟩) n c) b' (o + k * 11) x y) (by kernel_rfl) ?_;refine aw (by kernel_rfl) 6 Ut.out [0,1,3,7,9,2,8,4,10,5,11,6,12] rfl (by kernel_rfl) ?_;simp only [aj,nth]
     repeat (go_big_quiet_step (fail))
     refine wpQuiet_nil ?_;refine ag 13 5 rfl (by kernel_rfl) (by decide) ?_;simp only [nth];go_wp2_with fail
     refine (Us.out).mono ?_;rintro e DI ⟨A5,c5,rfl,o5,b18⟩;have d18:=aa Tt.out b18 lq;have yz:=zq (show Az w.heap.size (.slice (some ⟨b',o,none⟩) n c) b' (o + k * 11) x y DI from Ut.out.below (b18.mono Tt.out.size) zs zb);have YU:=zq2 o5 d18;clear o5 b18 d18 Us;go_wp2_with fail
     refine az yz.out ?_;refine aw (by kernel_rfl) 0 yz.out [14,15,16,17,18] rfl (by kernel_rfl) ?_;simp only [aj,nth]
     repeat (go_big_quiet_step (fail))
     refine wpQuiet_nil ?_;refine au (by kernel_rfl) ?_;have d19:=YU.out.2.drew;have NV:Hid (Calls Tryz.prog 27 #[.pointer (some ⟨gn,0,none⟩),.int .i64 x,.int .i64 y] DI.drew (iW (some vb) DI.drew)):=zq (by
      have h:=ko (pS.out.1.below d19 .ext) pS.out.2.2.2.2.2.2.dk.small x y;rw [KE.out.2.2.2.2,tt.out.2.2.gn,HN.out.2.2.2.2.1] at h;exact h)
     unfold iW at NV;dsimp only at NV;have ME:=zq (show Az w.heap.size (.slice (some ⟨b',o,none⟩) n c) b' (o + k * 11) x y DI.drew from yz.out.below (Below.refl Dx.heap.size DI).drew zs zb);have Tu:=zq d19;clear d19;go_wp2_with fail
     refine aW 99 (Az w.heap.size (.slice (some ⟨b',o,none⟩) n c) b' (o + k * 11) x y) (by kernel_rfl) ?_;refine aw (by kernel_rfl) 6 ME.out [0,1,3,7,9,2,8,4,10,5,11,6,12] rfl (by kernel_rfl) ?_;simp only [aj,nth]
     repeat (go_big_quiet_step (fail))
     refine wpQuiet_nil ?_;refine ag 13 5 rfl (by kernel_rfl) (by decide) ?_;simp only [nth];go_wp2_with fail
     refine (NV.out).mono ?_;rintro e O9 ⟨A6,c6,rfl,o6,b20⟩;have d20:=aa Tu.out b20 lq;have Li:=zq (show Az w.heap.size (.slice (some ⟨b',o,none⟩) n c) b' (o + k * 11) x y O9 from ME.out.below (b20.mono Tu.out.size) zs zb);have r5:=(YU.out.1.rb.below (Below.refl _ DI).drew).below b20;have Tv:=zq3 r5 o6.rb d20;clear o6 b20 d20 NV r5;go_wp2_with fail
     refine az Li.out ?_;refine aw (by kernel_rfl) 0 Li.out [14,15,16,17,18] rfl (by kernel_rfl) ?_;simp only [aj,nth]
     repeat (go_big_quiet_step (fail))
     refine wpQuiet_nil ?_;refine au (by kernel_rfl) ?_;have g0:=Li.out.1;have q0:=Li.out.2.1;have q1:=Li.out.2.2;clear y0 y1 y2 cg Ut yz ME Li;have x2:=(pS.out.2.2.2.1.later Tv.out.2.2).cell 2;change _=some (Value.slice Aw ws.length cw) at x2;have Tw:=zq (M8.rw (ij.below pS.out.2.2.1 Tv.out.2.2));have M0:kW ws x y 0=false:=rfl;obtain ⟨nw,hnw⟩:∃ nw,ws.length=nw:=⟨_,rfl⟩;have Mt:=zq hnw;rw [hnw] at x2 Tw;have WL:nw<=8:=by rw [<- hnw]; exact (Mp.bD O7.out.2.2.2.2.2.1).1
     clear hnw;go_wp2_with fail
     go_loopw [27,28] (fun v27 v28 wr=>∃ j:Nat,j<=nw/\v28=.int .i64 j/\v27=.bool (kW ws x y j)/\O9=wr) (fun _ v _=>nw - (intOf v).toNat)
     case atStart=>exact ⟨0,by omega,rfl,by rw [M0],rfl⟩
     case round =>
      obtain ⟨j,hj,rfl,rfl,rfl⟩:=hrel;clear M0
      by_cases hjt:j < nw
      ·have tj:decide ((j:Int) < (nw:Int))=true:=decide_eq_true (by omega)
       obtain ⟨bw,ow,rfl,_,qw⟩:=Tw.out.at_ hjt;have hst:=zq (CW ws x y j);have hxl:=word_lt H7.out.2.2.2.2.1 j;generalize ws.getD j 0=xw at *;have SP:=zq (eM xw hxl O9);generalize (Mp.ix xw:Int)=vR at *;generalize (Mp.sb xw:Int)=Dp at *;cases Uu:kW ws x y j with
       | true =>
        have O_:=zq (show kW ws x y (j + 1)=true from by rw [hst.out,Uu]; rfl);clear Uu hst;go_wp2_with fail
        refine (SP.out).mono ?_;rintro e _ ⟨rfl,rfl⟩;go_wp2_with fail
        go_roundw
        case rel=>exact ⟨j + 1,by omega,by first | rfl | rw [hw] | go_num,by rw [O_.out],by first | trivial | rfl⟩
        case measure=>(try rw [hw]); simp [intOf]; omega
       | false =>
        have WM:=zq Uu;clear Uu
        by_cases h1:vR=x
        ·by_cases h2:Dp=y
         ·have O_:=zq (show kW ws x y (j + 1)=true from by rw [hst.out,WM.out,decide_eq_true h1,decide_eq_true h2]; rfl)
          have e1:(vR == x)=true:=by simpa using h1
          have e2:(Dp == y)=true:=by simpa using h2
          clear h1 h2 hst;go_wp2_with fail
          refine (SP.out).mono ?_;rintro e _ ⟨rfl,rfl⟩;go_wp2_with fail
          go_roundw
          case rel=>exact ⟨j + 1,by omega,by first | rfl | rw [hw] | go_num,by rw [O_.out],by first | trivial | rfl⟩
          case measure=>(try rw [hw]); simp [intOf]; omega
         ·have O_:=zq (show kW ws x y (j + 1)=false from by rw [hst.out,WM.out,decide_eq_true h1,decide_eq_false h2]; rfl)
          have e1:(vR == x)=true:=by simpa using h1
          have e2:(Dp == y)=false:=by simpa using h2
          clear h1 h2 hst;go_wp2_with fail
          refine (SP.out).mono ?_;rintro e _ ⟨rfl,rfl⟩;go_wp2_with fail
          go_roundw
          case rel=>exact ⟨j + 1,by omega,by first | rfl | rw [hw] | go_num,by rw [O_.out],by first | trivial | rfl⟩
          case measure=>(try rw [hw]); simp [intOf]; omega
        ·have O_:=zq (show kW ws x y (j + 1)=false from by rw [hst.out,WM.out,decide_eq_false h1]; rfl)
         have e1:(vR == x)=false:=by simpa using h1
         clear h1 hst;go_wp2_with fail
         refine (SP.out).mono ?_;rintro e _ ⟨rfl,rfl⟩;go_wp2_with fail
         go_roundw
         case rel=>exact ⟨j + 1,by omega,by first | rfl | rw [hw] | go_num,by rw [O_.out],by first | trivial | rfl⟩
         case measure=>(try rw [hw]); simp [intOf]; omega
      ·have tj:decide ((j:Int) < (nw:Int))=false:=decide_eq_false (by omega)
       have ej:j=ws.length:=by rw [Mt.out]; omega
       have Pa:=zq Tv.out.2.2;have LM:=xC x O9;have Uv:=Mg Tv.out.1;have Uw:=Mg Tv.out.2.1;obtain ⟨mp,hmp⟩:∃ z,kW ws x y j=z:=⟨_,rfl⟩;have KP:=zq (show (works && right && mp)=false->xg x=false->vb=va from by rw [<- hmp,ej]; exact KE.out.1);rw [hmp];clear hmp ej;obtain ⟨mv,hmv⟩:∃ z,xg x=z:=⟨_,rfl⟩;rw [hmv] at LM;have WN:=zq hmv;replace LM:=zq LM;clear hmv
       by_cases hc:(works && right && mp)=true
       ·have h3:works=true/\right=true/\mp=true:=by simpa [Bool.and_eq_true,and_assoc] using hc
        obtain ⟨rfl,rfl,rfl⟩:=h3;clear hc Uv Uw;go_wp2_with fail
        go_roundw
        case rel=>exact ⟨k + 1,by omega,by first | rfl | rw [hw] | go_num,Pa⟩
        case measure=>(try rw [hw]); simp [intOf]; omega
       ·have hc2:(works && right && mp)=false:=by simpa using hc
        have KQ:=zq (fun h=>KP.out hc2 h);clear hc;cases works with
        | false =>
         clear hc2;cases mv with
         | true =>
          clear Uv Uw;go_wp2_with fail
          refine (LM.out).mono ?_;rintro e _ ⟨rfl,rfl⟩;go_wp2_with fail
          go_roundw
          case rel=>exact ⟨k + 1,by omega,by first | rfl | rw [hw] | go_num,Pa⟩
          case measure=>(try rw [hw]); simp [intOf]; omega
         | false =>
          obtain rfl:=KQ.out WN.out;go_wp2_with fail
          refine (LM.out).mono ?_;rintro e _ ⟨rfl,rfl⟩;go_wp2_with fail
          go_roundw
          case rel=>exact ⟨k + 1,by omega,by first | rfl | rw [hw] | go_num,Pa⟩
          case measure=>(try rw [hw]); simp [intOf]; omega
        | true =>
         cases right with
         | false =>
          clear hc2;cases mv with
          | true =>
           clear Uv Uw;go_wp2_with fail
           refine (LM.out).mono ?_;rintro e _ ⟨rfl,rfl⟩;go_wp2_with fail
           go_roundw
           case rel=>exact ⟨k + 1,by omega,by first | rfl | rw [hw] | go_num,Pa⟩
           case measure=>(try rw [hw]); simp [intOf]; omega
          | false =>
           obtain rfl:=KQ.out WN.out;go_wp2_with fail
           refine (LM.out).mono ?_;rintro e _ ⟨rfl,rfl⟩;go_wp2_with fail
           go_roundw
           case rel=>exact ⟨k + 1,by omega,by first | rfl | rw [hw] | go_num,Pa⟩
           case measure=>(try rw [hw]); simp [intOf]; omega
         | true =>
          obtain rfl:mp=false:=by simpa using hc2
          clear hc2;cases mv with
          | true =>
           clear Uv Uw;go_wp2_with fail
           refine (LM.out).mono ?_;rintro e _ ⟨rfl,rfl⟩;go_wp2_with fail
           go_roundw
           case rel=>exact ⟨k + 1,by omega,by first | rfl | rw [hw] | go_num,Pa⟩
           case measure=>(try rw [hw]); simp [intOf]; omega
          | false =>
           obtain rfl:=KQ.out WN.out;go_wp2_with fail
           refine (LM.out).mono ?_;rintro e _ ⟨rfl,rfl⟩;go_wp2_with fail
           go_roundw
           case rel=>exact ⟨k + 1,by omega,by first | rfl | rw [hw] | go_num,Pa⟩
           case measure=>(try rw [hw]); simp [intOf]; omega
    ·have tk:decide ((k:Int) < (n:Int))=false:=decide_eq_false (by omega)
     go_wp2_with fail
     go_meet
     exact HR
 obtain ⟨MF,WO⟩:∃ x,x=wc:=⟨_,rfl⟩;subst WO;have Pb:=zq hcut.out;clear hcut WJ;cases works
 ·have WQ:=zq (aa pS.out.2.2.2.2.1 Pb.out lq)
  go_wp2_with fail
  refine (cQ _).mono ?_;rintro e wz ⟨rfl,bz⟩;go_wp2_with fail
  go_ret
  exact ⟨rfl,aa WQ.out bz lq⟩
 cases right
 ·as_aux_lemma =>
   obtain ⟨ge,hge⟩:=pS.out.2.2.2.2.2.2.gD;have RG:=Fu (pS.out.1.below Pb.out .ext) hge;rw [tt.out.2.2.gn,HN.out.2.2.2.2.1] at RG;have hact:s15.act≠[]:=by
    rw [tt.out.1];exact KH HL.out.1 (rG.out.set HN.out.2.2.1).2 (rG.out.maps HN.out.2.2.1.dk.el) rG.out.some_ tt.out.2.1 (by have:=HW.out; simpa using this) (by rw [<- HN.out.2.2.1.dk.el]; exact WG.out)
   replace RG:=zq RG;have HA:=zq hact;have WQ:=zq (aa pS.out.2.2.2.2.1 Pb.out lq);clear hact hge;go_wp2_with fail
   refine (RG.out).mono ?_;rintro e DI ⟨⟨z,rfl,hz⟩,b18⟩;have hz1:=hz HA.out;have e1:((z:Int) == 0)=false:=by
    have:(z:Int)≠0:=by omega
    simpa using this
   have e2:((z:Int) != 0)=true:=by
    have:(z:Int)≠0:=by omega
    simpa using this
   have PV:=zq (aa WQ.out b18 lq);clear hz hz1 b18 RG;go_wp2_with fail
   refine (cQ _).mono ?_;rintro e wz ⟨rfl,bz⟩;go_wp2_with fail
   go_ret
   exact ⟨rfl,aa PV.out bz lq⟩
 as_aux_lemma =>
  have x2:=(pS.out.2.2.2.1.later Pb.out).cell 2;change _=some (Value.slice Aw ws.length cw) at x2;have Pc:=zq (M8.rw (ij.below pS.out.2.2.1 Pb.out));have B0:eU ws 0 0=true:=rfl;obtain ⟨nw,hnw⟩:∃ nw,ws.length=nw:=⟨_,rfl⟩;have Mt:=zq hnw;rw [hnw] at x2 Pc;have WL:nw<=8:=by rw [<- hnw]; exact (Mp.bD O7.out.2.2.2.2.2.1).1
  have zc:w7.heap.size < MF.heap.size:=(pS.out.2.2.2.1.later Pb.out).lt;have RR:Hid (Below MF.heap.size MF MF):=zq (Below.refl _ _);have X2:=zq x2;clear hnw x2;go_wp2_with fail
  go_loopw [32,33] (fun v32 v33 wr=>∃ j:Nat,j<=nw/\v33=.int .i64 j/\v32=.bool (eU ws j 0)/\Hid (Below MF.heap.size MF wr)) (fun _ v _=>nw - (intOf v).toNat)
  case atStart=>exact ⟨0,by omega,rfl,by rw [B0],RR⟩
  case round =>
   obtain ⟨j,hj,rfl,rfl,HR⟩:=hrel;clear RR B0;obtain ⟨DI,WS⟩:∃ x,x=wr:=⟨_,rfl⟩;subst WS;have x2:=(HR.out.cell (p:=⟨w7.heap.size,2,none⟩) zc).trans X2.out
   by_cases hjt:j < nw
   ·have tj:decide ((j:Int) < (nw:Int))=true:=decide_eq_true (by omega)
    have WT:=zq (Pc.out.below HR.out);have HBN:=zq (xB ws j);have La:=zq (xo ws j);go_wp2_with fail
    go_loopw [32,34] (fun v32 v34 wq=>∃ k:Nat,k<=j/\v34=.int .i64 k/\v32=.bool (eU ws j k)/\Hid (Below MF.heap.size MF wq)) (fun _ v _=>j - (intOf v).toNat)
    case atStart=>exact ⟨0,by omega,rfl,rfl,HR⟩
    case round =>
     obtain ⟨k,hk,rfl,rfl,HQ⟩:=hrel;obtain ⟨w19,WU⟩:∃ x,x=wr:=⟨_,rfl⟩;subst WU
     by_cases hkt:k < j
     ·have tk:decide ((k:Int) < (j:Int))=true:=decide_eq_true (by omega)
      have tn:decide ((k:Int) < (nw:Int))=true:=decide_eq_true (by omega);have x2:=(HQ.out.cell (p:=⟨w7.heap.size,2,none⟩) zc).trans X2.out;have Pd:=Pc.out.below HQ.out;obtain ⟨bw,ow,rfl,_,qk⟩:=Pd.at_ (show k < nw by omega);obtain ⟨bw2,Vn,e2,_,qj⟩:=Pd.at_ hjt;cases e2;have KX:=zq (La.out k);clear Pd WT;generalize ws.getD k 0=xk at *;generalize ws.getD j 0=xj at *;have ME:=zq (show LV w7.heap.size (.slice (some ⟨bw,ow,none⟩) nw cw) bw (ow + k) (ow + j) xk xj w19.drew from ⟨x2,qk,qj⟩);have y0:∀ u:Wc (LV w7.heap.size (.slice (some ⟨bw,ow,none⟩) nw cw) bw (ow + k) (ow + j) xk xj),u.val.cell? ⟨w7.heap.size,2,none⟩=some (.slice (some ⟨bw,ow,none⟩) nw cw):=fun u=>u.ok.1
      have y1:∀ u:Wc (LV w7.heap.size (.slice (some ⟨bw,ow,none⟩) nw cw) bw (ow + k) (ow + j) xk xj),u.val.cell? ⟨bw,ow + k,none⟩=some (.int .u32 (xk:Int)):=fun u=>u.ok.2.1
      have y2:∀ u:Wc (LV w7.heap.size (.slice (some ⟨bw,ow,none⟩) nw cw) bw (ow + k) (ow + j) xk xj),u.val.cell? ⟨bw,ow + j,none⟩=some (.int .u32 (xj:Int)):=fun u=>u.ok.2.2
      clear x2 qk qj;have WV:=zq HQ.out.drew;haveI YV:Nonempty (Wc (LV w7.heap.size (.slice (some ⟨bw,ow,none⟩) nw cw) bw (ow + k) (ow + j) xk xj)):=⟨⟨_,ME.out⟩⟩;cases hlb:eU ws j k with
      | false =>
       have HN:=zq (show eU ws j (k + 1)=false from by rw [KX.out,hlb]; rfl);clear hlb KX;go_wp2_with fail
       refine aW 99 (LV w7.heap.size (.slice (some ⟨bw,ow,none⟩) nw cw) bw (ow + k) (ow + j) xk xj) (by kernel_rfl) ?_;refine aw (by kernel_rfl) 0 ME.out [0,1,2,4,7,9,3,8,5,10,6,11,12,13,14] rfl (by kernel_rfl) ?_;simp only [aj,nth]
       repeat (go_big_quiet_step (fail))
       refine wpQuiet_nil ?_;refine au (by kernel_rfl) ?_;go_wp2_with fail
       go_roundw
       case rel=>exact ⟨k + 1,by omega,by first | rfl | rw [hw] | go_num,by rw [HN.out],WV⟩
       case measure=>(try rw [hw]); simp [intOf]; omega
      | true =>
       by_cases hx:xk=xj
       ·have e1:((xk:Int) == (xj:Int))=true:=by simp [hx]
        have e2:((xk:Int) != (xj:Int))=false:=by simp [hx]
        have HN:=zq (show eU ws j (k + 1)=false from by rw [KX.out,hlb,decide_eq_false (fun h=>h hx)]; rfl);clear hlb KX hx;go_wp2_with fail
        refine aW 99 (LV w7.heap.size (.slice (some ⟨bw,ow,none⟩) nw cw) bw (ow + k) (ow + j) xk xj) (by kernel_rfl) ?_;refine aw (by kernel_rfl) 0 ME.out [0,1,2,4,7,9,3,8,5,10,6,11,12,13,14] rfl (by kernel_rfl) ?_;simp only [aj,nth]
        repeat (go_big_quiet_step (fail))
        refine wpQuiet_nil ?_;refine au (by kernel_rfl) ?_;go_wp2_with fail
        go_roundw
        case rel=>exact ⟨k + 1,by omega,by first | rfl | rw [hw] | go_num,by rw [HN.out],WV⟩
        case measure=>(try rw [hw]); simp [intOf]; omega
       ·have e1:((xk:Int) == (xj:Int))=false:=by
         have:(xk:Int)≠(xj:Int):=by omega
         simpa using this
        have e2:((xk:Int) != (xj:Int))=true:=by
         have:(xk:Int)≠(xj:Int):=by omega
         simpa using this
        have HN:=zq (show eU ws j (k + 1)=true from by rw [KX.out,hlb,decide_eq_true hx]; rfl);clear hlb KX hx;go_wp2_with fail
        refine aW 99 (LV w7.heap.size (.slice (some ⟨bw,ow,none⟩) nw cw) bw (ow + k) (ow + j) xk xj) (by kernel_rfl) ?_;refine aw (by kernel_rfl) 0 ME.out [0,1,2,4,7,9,3,8,5,10,6,11,12,13,14] rfl (by kernel_rfl) ?_;simp only [aj,nth]
        repeat (go_big_quiet_step (fail))
        refine wpQuiet_nil ?_;refine au (by kernel_rfl) ?_;go_wp2_with fail
        go_roundw
        case rel=>exact ⟨k + 1,by omega,by first | rfl | rw [hw] | go_num,by rw [HN.out],WV⟩
        case measure=>(try rw [hw]); simp [intOf]; omega
     ·obtain rfl:k=j:=by omega
      have tk:decide ((k:Int) < (k:Int))=false:=decide_eq_false (by omega);go_wp2_with fail
      go_roundw
      case rel=>exact ⟨k + 1,by omega,by first | rfl | rw [hw] | go_num,by rw [HBN.out],HQ⟩
      case measure=>(try rw [hw]); simp [intOf]; omega
   ·have tj:decide ((j:Int) < (nw:Int))=false:=decide_eq_false (by omega)
    have ej:j=ws.length:=by rw [Mt.out]; omega
    obtain ⟨YW,Pe⟩:∃ z,eU ws j 0=z:=⟨_,rfl⟩;rw [Pe];have HLS:=zq (show eU ws ws.length 0=YW from by rw [<- ej]; exact Pe);clear Pe ej;have WW:=zq (aa Pb.out HR.out lq).drew;have PV:=zq (aa pS.out.2.2.2.2.1 WW.out lq);have yz:=zq (show JN w7.heap.size (.slice Aw nw cw) DI.drew from x2);have y0:∀ u:Wc (JN w7.heap.size (.slice Aw nw cw)),u.val.cell? ⟨w7.heap.size,2,none⟩=some (.slice Aw nw cw):=fun u=>u.ok
    have WX:w7.heap.size < DI.heap.size:=Nat.lt_of_lt_of_le zc HR.out.size;haveI YX:Nonempty (Wc (JN w7.heap.size (.slice Aw nw cw))):=⟨⟨_,yz.out⟩⟩;cases YW with
    | false =>
     go_wp2_with fail
     refine aW 99 (JN w7.heap.size (.slice Aw nw cw)) (by kernel_rfl) ?_;refine aw (by kernel_rfl) 8 yz.out [0,1,2,3,4,6,7,5,8] rfl (by kernel_rfl) ?_;simp only [aj,nth]
     repeat (go_big_quiet_step (fail))
     refine wpQuiet_nil ?_;refine ag 9 7 rfl (by kernel_rfl) (by decide) ?_;simp only [nth];go_wp2_with fail
     refine az yz.out ?_;refine ag 10 6 rfl (by kernel_rfl) (by decide) ?_;simp only [nth];go_wp2_with fail
     refine az yz.out ?_;refine ag 11 5 rfl (by kernel_rfl) (by decide) ?_;simp only [nth];go_wp2_with fail
     refine az yz.out ?_;refine aw (by kernel_rfl) 3 yz.out [12,13] rfl (by kernel_rfl) ?_;simp only [aj,nth]
     repeat (go_big_quiet_step (fail))
     refine wpQuiet_nil ?_;refine ag 14 2 rfl (by kernel_rfl) (by decide) ?_;simp only [nth];go_wp2_with fail
     refine (cQ _).mono ?_;rintro e wz ⟨rfl,bz⟩;have Sz:=zq (show JN w7.heap.size (.slice Aw nw cw) wz from (bz.cell (p:=⟨w7.heap.size,2,none⟩) WX).trans yz.out);have Dz:=zq (aa PV.out bz lq);clear bz;go_wp2_with fail
     refine az Sz.out ?_;refine aw (by kernel_rfl) 0 Sz.out [15,16] rfl (by kernel_rfl) ?_;simp only [aj,nth]
     repeat (go_big_quiet_step (fail))
     refine wpQuiet_nil ?_;refine au (by kernel_rfl) ?_;go_wp2_with fail
     go_ret
     exact ⟨rfl,Dz.out⟩
    | true =>
     have hck:=rG.out.maps HN.out.2.2.1.dk.el;have To:=pS.out.2.2.2.2.2.2;have e15:s15.D=D':=by rw [tt.out.1]
     have h64:=Mp.j7 hck;have Tx:Mp.ar s15.D.l true ws=0:=by rw [To.dk.el]; exact hck
     have LW:=fun (L:List UInt8) (hL:ey ((Mp.aU ws + 7) / 8) L (Mp.aU ws) 0 bs)=>D0 HL.out.1 HN.out.2.2.1.dk.el (by rw [HN.out.2.2.1.dk.kR.len,HN.out.2.2.1.dk.el]) (rG.out.set HN.out.2.2.1).2 hck rG.out.soon rG.out.some_ tt.out.2.1 (by have:=HW.out; simpa using this) (by rw [<- HN.out.2.2.1.dk.el]; exact WG.out) (Bc HLS.out) hL
     rw [<- e15] at LW;have WY:=fun (v:World) (hb:Below Dx.heap.size Dx v)=>show RW v v.heap.size Aw nw cw ws from by
      have:=M8.rw (ij.below pS.out.2.2.1 hb)
      rwa [Mt.out] at this
     have SZ:=qz DI.drew (WY _ WW.out) (by omega) H7.out.2.2.2.2.1;obtain ⟨m,hm⟩:∃ m,Mp.aU ws=m:=⟨_,rfl⟩;rw [hm] at SZ h64 LW;have LL:=zq3 LW WY Tx;replace SZ:=zq SZ;have CU:=zq (GY DI.drew (HI.out.2.2.1.below PV.out) PV.out.size (by omega) m (by omega));clear hck To e15 LW WY Tx hm;go_wp2_with fail
     refine aW 99 (JN w7.heap.size (.slice Aw nw cw)) (by kernel_rfl) ?_;refine aw (by kernel_rfl) 8 yz.out [0,1,2,3,4,6,7,5,8] rfl (by kernel_rfl) ?_;simp only [aj,nth]
     repeat (go_big_quiet_step (fail))
     refine wpQuiet_nil ?_;refine ag 9 7 rfl (by kernel_rfl) (by decide) ?_;simp only [nth];go_wp2_with fail
     refine (SZ.out).mono ?_;rintro e _ ⟨rfl,rfl⟩;go_wp2_with fail
     refine az yz.out ?_;refine ag 10 6 rfl (by kernel_rfl) (by decide) ?_;simp only [nth];go_wp2_with fail
     refine (CU.out).mono ?_;unfold NT;rintro e O9 ⟨A8,c8,L8,rfl,o8,r8,b8⟩;have WZ:=aa WW.out b8 lq;have Li:=zq (show JN w7.heap.size (.slice Aw nw cw) O9 from (b8.cell (p:=⟨w7.heap.size,2,none⟩) WX).trans yz.out);have z20:w7.heap.size < O9.heap.size:=Nat.lt_of_lt_of_le WX b8.size;have LD:=Bz (pS.out.1.below WZ .ext) pS.out.2.2.2.2.2.2.dk.small pS.out.2.2.2.2.2.2.dk.kR.len (LL.out.2.1 _ WZ) H7.out.2.2.2.2.1 lq LL.out.2.2 o8.rb lq (LL.out.1 L8 r8);rw [tt.out.2.2.gn,HN.out.2.2.2.2.1] at LD;replace LD:=zq LD;have D20:=zq (aa PV.out b8 lq);clear WZ b8 o8 r8 CU SZ;go_wp2_with fail
     refine az Li.out ?_;refine ag 11 5 rfl (by kernel_rfl) (by decide) ?_;simp only [nth];go_wp2_with fail
     refine (LD.out).mono ?_;rintro e YY ⟨rfl,Ux⟩;have W0:=zq (show JN w7.heap.size (.slice Aw nw cw) YY from (Ux.cell (p:=⟨w7.heap.size,2,none⟩) z20).trans Li.out);have z21:w7.heap.size < YY.heap.size:=Nat.lt_of_lt_of_le z20 Ux.size;have D21:=zq (aa D20.out Ux lq);clear Ux LD;go_wp2_with fail
     refine az W0.out ?_;refine aw (by kernel_rfl) 3 W0.out [12,13] rfl (by kernel_rfl) ?_;simp only [aj,nth]
     repeat (go_big_quiet_step (fail))
     refine wpQuiet_nil ?_;refine ag 14 2 rfl (by kernel_rfl) (by decide) ?_;simp only [nth];go_wp2_with fail
     refine (cQ _).mono ?_;rintro e wz ⟨rfl,bz⟩;have Sz:=zq (show JN w7.heap.size (.slice Aw nw cw) wz from (bz.cell (p:=⟨w7.heap.size,2,none⟩) z21).trans W0.out);have Dz:=zq (aa D21.out bz lq);clear bz;go_wp2_with fail
     refine az Sz.out ?_;refine aw (by kernel_rfl) 0 Sz.out [15,16] rfl (by kernel_rfl) ?_;simp only [aj,nth]
     repeat (go_big_quiet_step (fail))
     refine wpQuiet_nil ?_;refine au (by kernel_rfl) ?_;go_wp2_with fail
     go_ret
     exact ⟨rfl,Dz.out⟩
end Nn
end Go.Proofs.YtijegngfclkdaaaGreatDoor
