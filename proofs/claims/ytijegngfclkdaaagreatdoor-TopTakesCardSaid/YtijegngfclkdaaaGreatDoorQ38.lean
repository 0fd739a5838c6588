/-
  Piece 38 of the proof.
  Conditions: none.
-/
import Derived.Test.YtijegngfclkdaaaGreatDoorQ37
set_option linter.unusedVariables false
set_option linter.unusedSimpArgs false
set_option maxHeartbeats 100000000
set_option maxRecDepth 100000
namespace Go.Proofs.YtijegngfclkdaaaGreatDoor
namespace Nn
open Go.RowKit Go.Sort Go
open Dc aD in
theorem lU {l:List En} (ho:Ord l) {k:Nat} (hk:k < l.length):bh l (l.getD k aI).index (l.getD k aI).sub=some k:=by
 cases hf:bh l (l.getD k aI).index (l.getD k aI).sub with
 | none=>exact absurd ⟨rfl,rfl⟩ (Bq ho hf hk)
 | some j =>
  obtain ⟨_,hj,h1,h2⟩:=bS hf;rcases Nat.lt_trichotomy j k with h | h | h
  ·have:=iz ho h hk
   unfold Lt at this;omega
  ·rw [h]
  ·have:=iz ho h hj
   unfold Lt at this;omega
def oE (D:Dc.aZ) (es:List aD.En) (k:Nat):Dc.aZ:=⟨es,D.v.take k ++ (es.map (·.dflt)).drop k⟩
open Dc aD in
theorem DM {D:aZ} {es:List En} (hD:D.l=es) (hf:m8 D) (ho:Ord es) {k:Nat} (hk:k < es.length):bK (oE D es k) (es.getD k aI).index (es.getD k aI).sub (D.v.getD k [])=oE D es (k + 1):=by
 have h1:=lU ho hk;have h2:=hf.ok k (by rw [hD]; exact hk);have h3:=hf.len;rw [hD] at h2 h3;unfold bK;show (match bh es _ _ with | none=>oE D es k | some j=>_)=_;rw [h1];show (if cJ (es.getD k aI) (D.v.getD k [])=0 then _ else _)=_;rw [if_pos h2];unfold oE
 congr 1
 rw [List.set_append_right _ _ (by rw [List.length_take]; omega),List.length_take,Nat.min_eq_left (by omega),Nat.sub_self,List.take_succ_eq_append_getElem (by omega:k < D.v.length),List.drop_eq_getElem_cons (by rw [List.length_map]; exact hk),List.set_cons_zero,List.append_assoc,List.getD_eq_getElem?_getD,List.getElem?_eq_getElem (by omega)];rfl
theorem Gh (D:Dc.aZ) (es:List aD.En):oE D es 0=jA es:=by simp [oE,jA]
theorem JR {D:Dc.aZ} {es:List aD.En} (hD:D.l=es) (hf:Dc.m8 D):oE D es es.length=D:=by
 subst hD;have h3:=hf.len;unfold oE;rw [List.take_of_length_le (by omega),List.drop_of_length_le (by simp),List.append_nil]
def IW (b o:Nat) (x y:Int) (v:World):Prop:=v.cell? ⟨b,o,none⟩=some (.int .i64 x)/\v.cell? ⟨b,o + 1,none⟩=some (.int .i64 y)
def LS (D:Dc.aZ) (w:World) (e:Ending) (w':World):Prop:=∃ g F,e=.returned (.pointer (some ⟨g,0,none⟩))/\One 131 w' w.heap.size g F D/\Below w.heap.size w w'
section
variable {s:cu} {w:World} {ah:Nat->Cp} {l:List aD.En}
theorem Cz (h:Nd s w ah) (hl:Lk l) (hk:Dk l s.D) (hz:(Dc.bp l).1=0) {A:Option Addr} {n c B B':Nat} (hre:qX w B B' A n c l) (hB:B<=w.heap.size) (hB':B'<=B) (hd:∀ e∈l,e.name.length<=1000000/\e.dflt.length<=1000000):Calls Tryz.prog 20 #[.pointer (some ⟨s.gn,0,none⟩),.slice A n c] w (LS s.D w):=by
 have hn:=hre.lt;have hln:=hre.len;have DN:=zq (vi w hre hB hB' hd);have HH:=zq8 h hl hk hz hre hB hB' hln;clear h hl hk hz hre hB hB' hd hln;go_enter Tryz.func20,Tryz.ntmps20
 go_wp2_with fail
 refine (DN.out).mono ?_;unfold nJ;rintro e w1 (⟨hz,b1,gd,gv,lc,vc,la,vA,xs,vs,rfl,hdr⟩ | ⟨hz,b1,rfl⟩)
 rotate_left
 ·exact absurd HH.out.2.2.2.1 hz
 ·have O1:Hid (∃ F,One 131 w1 w.heap.size gd F (oE s.D l 0)/\Below w.heap.size w w1):=zq ⟨_,⟨gv,lc,vc,la,vA,xs,vs,by rw [Gh]; exact hdr.cut,fun q hq=>hq⟩,b1⟩
  clear hdr b1 DN;go_wp2_with fail
  go_loopw [8] (fun v wr=>∃ k:Nat,k<=n/\v=.int .i64 k/\Hid (∃ F,One 131 wr w.heap.size gd F (oE s.D l k)/\Below w.heap.size w wr)) (fun v _=>n - (intOf v).toNat)
  case atStart=>exact ⟨0,by omega,rfl,O1⟩
  case round =>
   obtain ⟨k,hk,rfl,HR⟩:=hrel;clear O1
   by_cases hlt:k < n
   ·have tk:decide ((k:Int) < (n:Int))=true:=decide_eq_true (by omega)
    obtain ⟨F,o1,b1⟩:=HR.out;have bd:=b1.drew;obtain ⟨b,o,A1,n1,c1,rfl,eT,hr,hc⟩:=(HH.out.2.2.2.2.1.below (b1.drew.mono HH.out.2.2.2.2.2.1) HH.out.2.2.2.2.2.2.1).at_ hlt;have hkl:k < l.length:=by rw [HH.out.2.2.2.2.2.2.2]; exact hlt
    have fs:=lU HH.out.2.1.ord hkl;have ms:=zq (DM HH.out.2.2.1.el HH.out.2.2.1.kR HH.out.2.1.ord hkl);have q0:=hc 0 _ rfl;have q1:=hc 1 _ rfl;rw [Nat.add_zero] at q0;have NV:=ko (HH.out.1.below bd .ext) HH.out.2.2.1.small (l.getD k Dc.aI).index (l.getD k Dc.aI).sub;have pk:Dc.c_ s.D (l.getD k Dc.aI).index (l.getD k Dc.aI).sub=some (s.D.v.getD k []):=by
     unfold Dc.c_;rw [HH.out.2.2.1.el,fs];rfl
    rw [pk] at NV;have hvl:(s.D.v.getD k []).length<=1000000:=Go.Proofs.YtijegngfclkdaaaGreatDoor.gC HH.out.2.2.1.small (by rw [HH.out.2.2.1.kR.len,HH.out.2.2.1.el]; exact hkl);have HX:=zq3 (o1.below (Below.refl _ wr).drew) bd hvl;clear hr hc o1 b1 bd fs hvl hkl pk;generalize s.D.v.getD k []=bs at *;generalize (l.getD k Dc.aI).index=x at *;generalize (l.getD k Dc.aI).sub=y at *;unfold iW at NV;dsimp only at NV;replace NV:=zq NV;have S0:=zq (show IW b (o + k * 11) x y wr.drew from ⟨q0,q1⟩);have y0:∀ v:Wc (IW b (o + k * 11) x y),v.val.cell? ⟨b,o + k * 11,none⟩=some (.int .i64 x):=fun v=>v.ok.1
    have y1:∀ v:Wc (IW b (o + k * 11) x y),v.val.cell? ⟨b,o + k * 11 + 1,none⟩=some (.int .i64 y):=fun v=>v.ok.2
    have HQ:=zq2 q0 q1;clear q0 q1;go_wp2_with fail
    haveI cg:Nonempty (Wc (IW b (o + k * 11) x y)):=⟨⟨_,S0.out⟩⟩;refine aW 99 (IW b (o + k * 11) x y) (by kernel_rfl) ?_;refine aw (by kernel_rfl) 6 S0.out [0,1,2,6,7,3,8,4,9,5,10] rfl (by kernel_rfl) ?_;simp only [aj,nth]
    repeat (go_big_quiet_step (fail))
    refine wpQuiet_nil ?_;refine ag 11 5 rfl (by kernel_rfl) (by decide) ?_;simp only [nth];go_wp2_with fail
    refine (NV.out).mono ?_;rintro e w3 ⟨A3,c3,rfl,o3,b3⟩;have hb2:b < wr.drew.heap.size:=Nat.lt_of_lt_of_le eT (Nat.le_trans HH.out.2.2.2.2.2.1 HX.out.2.1.size);have Wf:=(b3.cell (p:=⟨b,o + k * 11,none⟩) hb2).trans HQ.out.1;have OX:=(b3.cell (p:=⟨b,o + k * 11 + 1,none⟩) hb2).trans HQ.out.2;have S3:=zq (show IW b (o + k * 11) x y w3 from ⟨Wf,OX⟩);have S4:=zq (show IW b (o + k * 11) x y w3.drew from ⟨Wf,OX⟩);have o4:=(HX.out.1.below b3).below (Below.refl _ w3).drew;have b4:=(aa HX.out.2.1 b3 lq).drew;have r4:=o3.rb.below (Below.refl _ w3).drew;have PO:=zq (o4.oD (b4.size) x y r4 lq (by have:=HX.out.2.2; omega));have B4:=zq b4;clear o3 b3 Wf OX o4 b4 r4 NV HX S0 HQ;go_wp2_with fail
    refine az S3.out ?_;refine aw (by kernel_rfl) 0 S3.out [12,13,14,15,16] rfl (by kernel_rfl) ?_;simp only [aj,nth]
    repeat (go_big_quiet_step (fail))
    refine wpQuiet_nil ?_;refine au (by kernel_rfl) ?_;go_wp2_with fail
    refine aW 99 (IW b (o + k * 11) x y) (by kernel_rfl) ?_;refine aw (by kernel_rfl) 1 S4.out [0,1,2,6,7,11,3,8,4,9,5,10] rfl (by kernel_rfl) ?_;simp only [aj,nth]
    repeat (go_big_quiet_step (fail))
    refine wpQuiet_nil ?_;refine ag 12 0 rfl (by kernel_rfl) (by decide) ?_;simp only [nth];go_wp2_with fail
    refine (PO.out).mono ?_;rintro e w5 ⟨rfl,m5,b5,o5⟩;have R5:Hid (∃ F,One 131 w5 w.heap.size gd F (oE s.D l (k + 1))/\Below w.heap.size w w5):=zq ⟨_,by rw [<- ms.out]; exact o5,B4.out.trans b5⟩;have S5:=zq (show IW b (o + k * 11) x y w5 from ⟨(b5.cell (p:=⟨b,o + k * 11,none⟩) (Nat.lt_of_lt_of_le eT HH.out.2.2.2.2.2.1)).trans S4.out.1,(b5.cell (p:=⟨b,o + k * 11 + 1,none⟩) (Nat.lt_of_lt_of_le eT HH.out.2.2.2.2.2.1)).trans S4.out.2⟩);clear m5 b5 o5 PO S4 S3;go_wp2_with fail
    refine az S5.out ?_;refine au (by kernel_rfl) ?_;clear S5 y0 y1 cg;go_wp2_with fail
    go_roundw
    case rel=>exact ⟨k + 1,by omega,by first | rfl | rw [hw] | go_num,R5⟩
    case measure=>(try rw [hw]); simp [intOf]; omega
   ·obtain rfl:k=n:=by omega
    obtain ⟨F,o1,b1⟩:=HR.out;have ek:k=l.length:=HH.out.2.2.2.2.2.2.2.symm;have HF:=zq (show One 131 wr w.heap.size gd F s.D from by
     rw [ek,JR HH.out.2.2.1.el HH.out.2.2.1.kR] at o1;exact o1)
    have HB:=zq b1;clear o1 b1 ek;go_wp2_with fail
    go_ret
    exact ⟨gd,F,rfl,HF.out,HB.out⟩
end
end Nn
namespace Nn
open Go.RowKit Go.Sort Go
def Pq (D:Dc.aZ) (x:Nat):List UInt8:=(Dc.c_ D (Mp.ix x) (Mp.sb x)).getD []
structure Lz (D:Dc.aZ) (ws:List Nat) (bs:List UInt8):Prop where
 bit:∀ i,i < ws.length->∀ j,j < Mp.bt (ws.getD i 0)->Bt.bt bs (Mp.aU (ws.take i) + j)=Bt.bt (Pq D (ws.getD i 0)) j
 rest:∀ j,Mp.aU ws<=j->j < 8 * bs.length->Bt.bt bs j=0
 short:8 * bs.length < Mp.aU ws + 8
 few:bs.length<=8
section
variable {s:cu} {w:World} {ah:Nat->Cp}
theorem Bz (h:Nd s w ah) (sm:∀ v∈s.D.v,v.length<=1000000) (hvl:s.D.v.length=s.D.l.length) {A:Option Addr} {n c B:Nat} {ws:List Nat} (hw:RW w B A n c ws) (hwl:∀ x∈ws,x < 4294967296) (hB:B<=w.heap.size) (hck:Mp.ar s.D.l true ws=0) {A2:Option Addr} {n2 c2 B2:Nat} {bs:List UInt8} (hb:RB w B2 A2 n2 c2 bs) (hB2:B2<=w.heap.size) (hK:Lz s.D ws bs):Calls Tryz.prog 31 #[.pointer (some ⟨s.gn,0,none⟩),.slice A n c,.slice A2 n2 c2] w fun e w'=>e=.returned (.bool true)/\Below w.heap.size w w':=by
 have hl:=hw.len;have hbl:=hb.len;have hn8:n<=8:=by rw [<- hl]; exact (Mp.bD hck).1
 have aaO:n2<=8:=by rw [<- hbl]; exact hK.few
 have HH:=zq7 h hw hwl hB hb hB2 hK;have HL:=zq2 hl hbl;have aaP:Mp.aU ws<=64:=by
  rcases Nat.eq_zero_or_pos ws.length with h0 | h0
  ·rw [List.length_eq_zero_iff.1 h0]
   decide
  ·have:=((Mp.bD hck).2 (ws.length - 1) (by omega)).2
   rwa [show ws.length - 1 + 1=ws.length by omega,List.take_of_length_le lq] at this
 have HV:=zq2 sm hvl;have WK:=zq (fun i (hi:i < ws.length)=>L3 hck hi);have R0:Hid (Below w.heap.size w w):=zq (Below.refl _ _);clear h hw hwl hB hb hB2 hl hbl hck sm hvl hK;go_enter Tryz.func31,Tryz.ntmps31
 go_wp2_with fail
 go_loopw [7,8] (fun a v wr=>∃ k:Nat,k<=n/\a=.int .i64 (Mp.aU (ws.take k):Int)/\v=.int .i64 k/\Hid (Below w.heap.size w wr)) (fun _ v _=>n - (intOf v).toNat)
 case atStart=>exact ⟨0,by omega,rfl,rfl,R0⟩
 case round =>
  obtain ⟨k,hk,rfl,rfl,HR⟩:=hrel;clear R0
  by_cases hlt:k < n
  ·have tk:decide ((k:Int) < (n:Int))=true:=decide_eq_true (by omega)
   have hkl:k < ws.length:=by rw [HL.out.1]; exact hlt
   obtain ⟨kk,wk⟩:=WK.out k hkl;obtain ⟨b,o,rfl,eT,q0⟩:=(HH.out.2.1.below (HR.out.mono HH.out.2.2.2.1)).at_ hlt;have hnx:=zq (size_take ws (k:=k) hkl);have HB:=zq (HH.out.2.2.2.2.2.2.bit k hkl);have hxl:=word_lt HH.out.2.2.1 k;generalize ws.getD k 0=x at *;generalize Mp.aU (ws.take k)=at_ at *;obtain ⟨m,hm⟩:∃ m,Mp.bt x=m:=⟨_,rfl⟩;have SP:=eM x hxl wr;rw [hm] at SP wk hnx HB;replace SP:=zq SP;have NV:=ko (HH.out.1.below HR.out .ext) HV.out.1 (Mp.ix x) (Mp.sb x);have pk:Dc.c_ s.D (Mp.ix x) (Mp.sb x)=some (s.D.v.getD kk []):=by
    unfold Dc.c_;rw [wk.find];rfl
   have hv:Pq s.D x=s.D.v.getD kk []:=by
    unfold Pq;rw [pk];rfl
   rw [pk] at NV;have hll:(s.D.v.getD kk []).length<=1000000:=Go.Proofs.YtijegngfclkdaaaGreatDoor.gC HV.out.1 (by rw [HV.out.2]; exact wk.lt);have hsm:=wk.small;rw [hv] at HB;clear pk hv wk hm hkl;generalize s.D.v.getD kk []=vb at *;unfold iW at NV;dsimp only at NV;replace NV:=zq NV;generalize (Mp.ix x:Int)=vR at *;generalize (Mp.sb x:Int)=Dp at *;go_wp2_with fail
   refine (SP.out).mono ?_;rintro e _ ⟨rfl,rfl⟩;go_wp2_with fail
   refine (NV.out).mono ?_;rintro e w2 ⟨A3,c3,rfl,o3,b3⟩;have H2:=zq2 (o3.rb) (aa HR.out b3 lq);clear o3 b3 NV SP q0 HR;go_wp2_with fail
   go_loopw [14] (fun v wq=>∃ j:Nat,j<=m/\v=.int .i64 j/\w2=wq) (fun v _=>m - (intOf v).toNat)
   case atStart=>exact ⟨0,by omega,rfl,rfl⟩
   case round =>
    obtain ⟨j,hj,rfl,rfl⟩:=hrel
    by_cases hjt:j < m
    ·have tj:decide ((j:Int) < (m:Int))=true:=decide_eq_true (by omega)
     have L1:=zq (ja w2 (HH.out.2.2.2.2.1.below (H2.out.2.mono HH.out.2.2.2.2.2.1)) (by omega) (at_ + j) (by omega));have L2:=ja w2 H2.out.1 hll j (by omega);rw [<- HB.out j hjt] at L2;replace L2:=zq L2;generalize Bt.bt bs (at_ + j)=z at *;go_wp2_with fail
     refine (L1.out).mono ?_;rintro e _ ⟨rfl,rfl⟩;go_wp2_with fail
     refine (L2.out).mono ?_;rintro e _ ⟨rfl,rfl⟩;go_wp2_with fail
     go_roundw
     case rel=>exact ⟨j + 1,by omega,by first | rfl | rw [hw] | go_num,by first | trivial | rfl⟩
     case measure=>(try rw [hw]); simp [intOf]; omega
    ·obtain rfl:j=m:=by omega
     go_wp2_with fail
     go_roundw
     case rel=>exact ⟨k + 1,by omega,by rw [hnx.out]; first | rfl | rw [hw] | go_num,by first | rfl | rw [hw] | go_num,zq H2.out.2⟩
     case measure=>(try rw [hw]); simp [intOf]; omega
  ·obtain rfl:k=n:=by omega
   have et:ws.take k=ws:=List.take_of_length_le (by rw [HL.out.1]; exact Nat.le_refl _);rw [et] at *;have HK:=zq HH.out.2.2.2.2.2.2;have RBx:=zq (HH.out.2.2.2.2.1.below (HR.out.mono HH.out.2.2.2.2.2.1));have hsh:=HK.out.short;rw [HL.out.2] at hsh;have HZ:=zq (fun j (h1:Mp.aU ws<=j) (h2:j < 8 * n2)=>HK.out.rest j h1 (by rw [HL.out.2]; exact h2));generalize Mp.aU ws=m at *;have t1:decide (8 * (n2:Int) < (m:Int) + 8)=true:=decide_eq_true (by omega);have t2:decide ((n2:Int)<=8)=true:=decide_eq_true (by omega);obtain ⟨w9,hw9⟩:∃ x,x=wr:=⟨_,rfl⟩;subst hw9;clear et HK;go_wp2_with fail
   go_loopw [15] (fun v wq=>∃ j:Nat,j<=m + 8/\m<=j/\v=.int .i64 j/\w9=wq) (fun v _=>m + 8 - (intOf v).toNat)
   case atStart=>exact ⟨m,by omega,by omega,rfl,rfl⟩
   case round =>
    obtain ⟨j,hj,hj2,rfl,rfl⟩:=hrel
    by_cases hjt:j < 8 * n2
    ·have tj:decide ((j:Int) < 8 * (n2:Int))=true:=decide_eq_true (by omega)
     have L1:=ja w9 RBx.out (by omega) j (by omega);rw [HZ.out j hj2 hjt] at L1;replace L1:=zq L1;go_wp2_with fail
     refine (L1.out).mono ?_;rintro e _ ⟨rfl,rfl⟩;go_wp2_with fail
     go_roundw
     case rel=>exact ⟨j + 1,by omega,by omega,by first | rfl | rw [hw] | go_num,by first | trivial | rfl⟩
     case measure=>(try rw [hw]); simp [intOf]; omega
    ·have tj:decide ((j:Int) < 8 * (n2:Int))=false:=decide_eq_false (by omega)
     go_wp2_with fail
     go_ret
     exact ⟨rfl,HR.out⟩
end
end Nn
namespace Mp
open aD Dc
theorem NC {t:Int} (h:0 < (Ty.kd t).bits):(Ty.kd t).bits<=64/\Bt.ba ((Ty.kd t).bits:Int)=((Ty.kd t).size:Int)/\((Ty.kd t).lM=true->(Ty.kd t).bits=8 * (Ty.kd t).size):=by
 rcases Ty.lF t with h1 | ⟨_,h1⟩
 ·rcases h1 with rfl | rfl | rfl | rfl | rfl | rfl | rfl | rfl | rfl | rfl | rfl
  all_goals first | exact absurd h (by decide) | exact ⟨by decide,by decide,by decide⟩
 ·rw [h1] at h
  exact absurd h (by decide)
theorem Kz {e:En} (hr:cD e=0) (hm:e.map=true) {b:List UInt8} (hv:cJ e b=0):1<=(Ty.kd e.type).bits/\(Ty.kd e.type).bits<=64/\(b.length:Int)=Bt.ba ((Ty.kd e.type).bits:Int)/\Bt.jQ (Oct.le b) ((Ty.kd e.type).bits:Int)=false:=by
 obtain ⟨_,_,_,_,_,_,_,hl,_⟩:=jE hr;have hpos:0 < (Ty.kd e.type).bits:=by
  rcases Nat.eq_zero_or_pos (Ty.kd e.type).bits with h0 | h0
  ·exfalso
   have h1:Ty.gV e.type=(0,0,false):=by unfold Ty.gV; rw [if_pos h0]
   unfold Hw at hl;rw [h1] at hl;simp only [Bool.false_eq_true,if_false] at hl;unfold sizedB at hl;rw [hm] at hl;simp at hl
  ·exact h0
 obtain ⟨k1,k2,k3⟩:=NC hpos;unfold cJ at hv;rw [if_pos hpos] at hv;unfold aD.cE at hv;have hd:(Ty.cV e.type b).2=0:=by
  rcases Decidable.em ((Ty.cV e.type b).2=0) with h | h
  ·exact h
  ·exfalso
   simp only [h,ne_eq,not_false_eq_true,if_true] at hv;split at hv
   ·simp at hv
   ·split at hv <;> simp at hv
 unfold Ty.cV at hd;rw [if_neg (by omega)] at hd;split at hd
 ·simp at hd
 ·split at hd
  ·simp at hd
  ·rename_i h1 h2
   have hlen:b.length=(Ty.kd e.type).size:=by omega
   refine ⟨by omega,k1,by rw [k2,hlen],?_⟩;have hlt:Oct.le b < 2 ^ (Ty.kd e.type).bits:=by
    split at hd
    ·rename_i hs
     have h8:=Oct.qJ b;rw [k3 hs,<- hlen,Nat.pow_mul];exact h8
    ·split at hd
     ·simp at hd
     ·omega
   unfold Bt.jQ;rw [Int.toNat_natCast,Nat.div_eq_of_lt hlt];simp
theorem oK (ws:List Nat):∀ k,k<=ws.length->Bt.cH (aF ws) k=(aU (ws.take k):Int)
 | 0,_=>by simp [Bt.cH,aU]
 | k + 1,hk=>by
  rw [Bt.cH,oK ws k (by omega),qK (by omega)];have:(aF ws).getD k 0=(bt (ws.getD k 0):Int):=by
   unfold aF;simp [List.getD,List.getElem?_map,List.getElem?_eq_getElem (show k < ws.length by omega)]
  rw [this];omega
end Mp
namespace Nn
open Dc aD
theorem size_le (ws:List Nat) (i:Nat):Mp.aU (ws.take i)<=Mp.aU ws:=by
 have:Mp.aU ws=Mp.aU (ws.take i) + Mp.aU (ws.drop i):=by
  unfold Mp.aU;rw [<- List.sum_append,<- List.map_append,List.take_append_drop]
 omega
theorem Ql {l:List En} {ws:List Nat} (hr:∀ e∈l,cD e=0) (h1:Mp.ar l true ws=0) (b:List UInt8):Mp.aT l ws b=if 8 * b.length < Mp.aU ws then ([],2) else if Mp.cU l ws (Bt.fS b (Mp.aF ws) ws.length) ws.length=true then (Mp.j6 ws (Bt.fS b (Mp.aF ws) ws.length) ws.length,0) else ([],9):=by
 have h64:=Mp.j7 h1;obtain ⟨_,hone⟩:=Mp.bD h1;have Wg:∀ i,i < (Mp.aF ws).length->Bt.okW ((Mp.aF ws).getD i 0)=true:=by
  intro i hi;rw [Mp.iy] at hi;obtain ⟨k,e1,e2,e3,e4,_⟩:=Mp.eC (hone i hi).1;have hk:=(bS e1).2.1;have hm:l.getD k aI∈l:=by
   rw [List.getD_eq_getElem?_getD,List.getElem?_eq_getElem hk];exact List.getElem_mem hk
  have Yq:=hr _ hm;obtain ⟨f1,f2,_,_⟩:=Mp.Kz Yq e3 (jE Yq).2.2.2.2.2.2.2.2;have e5:(Mp.aF ws).getD i 0=(Mp.bt (ws.getD i 0):Int):=by
   unfold Mp.aF;simp [List.getD,List.getElem?_map,List.getElem?_eq_getElem hi]
  rw [e5];exact Bt.iE.2 (by omega)
 have hsum:Bt.cH (Mp.aF ws) (Mp.aF ws).length=(Mp.aU ws:Int):=by
  rw [Mp.iy,Mp.oK ws ws.length lq,List.take_length]
 have htot:Bt.dL (Mp.aF ws) ((Mp.aF ws).map Bt.okW)=((Mp.aU ws:Int),0):=by
  unfold Bt.dL;rw [if_pos (Bt.vU fun i hi=>by rw [Bt.pG]; exact Wg i (by simpa using hi)),hsum,if_neg (by omega)]
 have hun:Bt.bg b (Mp.aF ws)=if 8 * b.length < Mp.aU ws then ([],2) else (Bt.fS b (Mp.aF ws) ws.length,0):=by
  unfold Bt.bg;rw [htot,if_pos rfl,Mp.iy];dsimp only
  by_cases hq:8 * b.length < Mp.aU ws
  ·rw [if_pos hq,if_pos (by omega)]
  ·rw [if_neg hq,if_neg (by omega)]
 unfold Mp.aT;rw [h1,if_neg (by omega),hun]
 by_cases hq:8 * b.length < Mp.aU ws
 ·rw [if_pos hq,if_pos hq]
  rfl
 ·rw [if_neg hq,if_neg hq]
  dsimp only;rw [if_neg (by omega)]
theorem yK (b:List UInt8) (ws:List Int):∀ (k i:Nat),i < k->(Bt.fS b ws k).getD i Bt.cS.zero=Bt.eu b (Bt.cH ws i).toNat (ws.getD i 0)
 | 0,_,h=>absurd h (by omega)
 | k + 1,i,h=>by
  have hl:=Bt.gM b ws k;rw [Bt.fS,List.getD_eq_getElem?_getD];rcases Nat.lt_or_ge i k with h1 | h1
  ·rw [List.getElem?_append_left (by omega),<- List.getD_eq_getElem?_getD,yK b ws k i h1]
  ·obtain rfl:i=k:=by omega
   rw [List.getElem?_append_right (by omega),hl];simp
theorem te (bs:List UInt8) (ws:List Nat) {i:Nat} (hi:i < ws.length):(Bt.fS bs (Mp.aF ws) ws.length).getD i Bt.cS.zero=Bt.eu bs (Mp.aU (ws.take i)) (Mp.bt (ws.getD i 0):Int):=by
 rw [yK bs (Mp.aF ws) ws.length i hi,Mp.oK ws i (by omega),Int.toNat_natCast]
 congr 1
 unfold Mp.aF;simp [List.getD,List.getElem?_map,List.getElem?_eq_getElem hi]
theorem oC {l:List En} {ws:List Nat} {bs:List UInt8}:dY l bs ws ws.length=true↔(¬ 8 * bs.length < Mp.aU ws/\Mp.cU l ws (Bt.fS bs (Mp.aF ws) ws.length) ws.length=true):=by
 unfold dY;rw [List.all_eq_true];constructor
 ·intro h
  have h2:∀ i,i < ws.length->okW l bs (Mp.aU (ws.take i)) (ws.getD i 0)=true:=fun i hi=>h i (List.mem_range.2 hi)
  refine ⟨?_,Mp.oA fun i hi=>?_⟩
  ·rcases Nat.eq_zero_or_pos ws.length with h0 | h0
   ·rw [List.eq_nil_of_length_eq_zero h0]
    simp [Mp.aU]
   ·have h3:=h2 (ws.length - 1) (by omega)
    have h4:=size_take ws (k:=ws.length - 1) (by omega);rw [show ws.length - 1 + 1=ws.length by omega,List.take_length] at h4;unfold okW at h3;simp only [Bool.and_eq_true,decide_eq_true_eq] at h3;omega
  ·have h3:=h2 i hi
   unfold okW at h3;simp only [Bool.and_eq_true,decide_eq_true_eq] at h3;unfold Mp.jL;rw [te bs ws hi];exact decide_eq_true h3.2
 ·rintro ⟨h1,h2⟩ i hi
  have hi2:=List.mem_range.1 hi;have h3:=Mp.iu h2 i hi2;have h4:=size_take ws hi2;have h5:=size_le ws (i + 1);unfold Mp.jL at h3;rw [te bs ws hi2] at h3;unfold okW;rw [decide_eq_true (by omega),h3];rfl
section
variable {l:List En} {ws:List Nat} {bs:List UInt8} {v:Nat} {t:Int}
theorem yJ (hr:∀ e∈l,cD e=0) (h1:Mp.ar l true ws=0) (ht:254<=t) (h0:ws.length≠0) (hs:dY l bs ws ws.length=true):eH l (v,t,ws) bs=(Mp.j6 ws (Bt.fS bs (Mp.aF ws) ws.length) ws.length,0):=by
 obtain ⟨h2,h3⟩:=oC.1 hs;unfold eH;dsimp only;rw [if_neg h0,Ql hr h1,if_neg h2,if_pos h3];dsimp only;rw [if_pos rfl,if_neg (by omega)]
theorem Hm (hr:∀ e∈l,cD e=0) (h1:Mp.ar l true ws=0) (h0:ws.length≠0) (hs:dY l bs ws ws.length=false):(eH l (v,t,ws) bs).2≠0:=by
 have e:Mp.aT l ws bs=([],2)\/Mp.aT l ws bs=([],9):=by
  rw [Ql hr h1]
  by_cases h2:8 * bs.length < Mp.aU ws
  ·exact .inl (if_pos h2)
  ·rw [if_neg h2]
   exact .inr (if_neg fun h3=>by rw [oC.2 ⟨h2,h3⟩] at hs; cases hs)
 unfold eH;dsimp only;rw [if_neg h0];rcases e with e | e
 ·rw [e]
  show (33296:Int)≠0;decide
 ·rw [e]
  show (25344:Int)≠0;decide
end
theorem nD {l:List En} {k:Nat}:∀ (vs:List Vl) {D:aZ},D.l=l->(∀ v∈vs,¬ ((l.getD k aI).index=v.index/\(l.getD k aI).sub=v.sub))->(bJ D vs).v.getD k []=D.v.getD k []
 | [],_,_,_=>rfl
 | v :: vs,D,hl,h=>by
  show (bJ (bK D v.index v.sub v.data) vs).v.getD k []=_;rw [nD vs (by rw [l9,hl]) fun x hx=>h x (List.mem_cons_of_mem _ hx)];exact Hv (by rw [hl]; exact h v List.mem_cons_self)
theorem qQ (vs:List Vl):∀ {D:aZ},(bJ D vs).v.length=D.v.length:=by
 induction vs with
 | nil=>intro D; rfl
 | cons v vs ih =>
  intro D;show (bJ (bK D v.index v.sub v.data) vs).v.length=_;rw [ih];unfold bK;split
  ·rfl
  ·split
   ·simp
   ·rfl
theorem R0.v {l:List En} {D D':aZ} (h:R0 D D') (hl:D.l=l) {k:Nat} (hm:¬ sq (l.getD k aI).index):D'.v.getD k []=D.v.getD k []:=by
 obtain ⟨ps,h1,rfl⟩:=h;refine nD ps hl fun v hv e=>hm ?_
 unfold sq;have:=h1 v hv;omega
theorem Cy {l:List En} {D:aZ} (hl:D.l=l) (hlen:D.v.length=l.length) {us bs:List Vl} {v:Vl} {k:Nat} (hf:bh l v.index v.sub=some k) (hv:cJ (l.getD k aI) v.data=0) (hb:∀ x∈bs,¬ ((l.getD k aI).index=x.index/\(l.getD k aI).sub=x.sub)):(bJ D (us ++ v :: bs)).v.getD k []=v.data:=by
 have hk:=(bS hf).2.1;have e:bJ D (us ++ v :: bs)=bJ (bK (bJ D us) v.index v.sub v.data) bs:=by
  unfold bJ;rw [List.foldl_append];rfl
 have l1:(bJ D us).l=l:=by rw [js,hl]
 rw [e,nD bs (by rw [l9,l1]) hb];unfold bK;rw [l1,hf];dsimp only;rw [if_pos hv];dsimp only;rw [pw,if_pos ⟨rfl,by rw [qQ,hlen]; exact hk⟩]
theorem AA (bs:List UInt8) (p m j:Nat) (hj:j < m):Bt.bt (Bt.eu bs p (m:Int)).data j=Bt.bt bs (p + j):=by
 unfold Bt.eu;dsimp only;have hm:(Bt.ba (m:Int)).toNat=(m + 7) / 8:=by
  unfold Bt.ba;split
  ·omega
  ·omega
 rw [hm,Int.toNat_natCast,EE,nY,if_pos hj,if_pos (by omega)]
theorem Ii {l:List En} {ws:List Nat} (h1:Mp.ar l true ws=0) {i j:Nat} (hi:i < ws.length) (hj:j < ws.length) (e1:Mp.ix (ws.getD i 0)=Mp.ix (ws.getD j 0)) (e2:Mp.sb (ws.getD i 0)=Mp.sb (ws.getD j 0)):ws.getD i 0=ws.getD j 0:=by
 obtain ⟨_,hone⟩:=Mp.bD h1;obtain ⟨k,f1,_,_,f4,_⟩:=Mp.eC (hone i hi).1;obtain ⟨k2,g1,_,_,g4,_⟩:=Mp.eC (hone j hj).1;rw [e1,e2,g1] at f1;injection f1 with f1
 subst f1;have e3:Mp.bt (ws.getD i 0)=Mp.bt (ws.getD j 0):=by omega
 unfold Mp.ix at e1;unfold Mp.sb at e2;unfold Mp.bt at e3;omega
section
variable {l:List En} {ws:List Nat} {bs:List UInt8} {v:Nat} {t:Int} {s:cu} {act:List (Int×Int)} {D':aZ}
theorem KI {fs:List Bt.cS} {x:Vl} (h:x∈Mp.j6 ws fs ws.length):∃ i,i < ws.length/\x.index=(Mp.ix (ws.getD i 0):Int)/\x.sub=(Mp.sb (ws.getD i 0):Int):=by
 obtain ⟨i,hi,rfl⟩:=List.getElem_of_mem h;have hi2:i < ws.length:=by rwa [Mp.cz] at hi
 have h1:=Mp.jw ws fs ws.length i hi2;rw [List.getElem?_eq_getElem hi] at h1;injection h1 with h1
 rw [h1];exact ⟨i,hi2,rfl,rfl⟩
theorem Rt (h:qO l s bs act D'):D'.l=s.D.l:=by
 by_cases h5:s.st=5
 ·by_cases h0:(eH l (s.ic 0) bs).2=0
  ·obtain ⟨D1,r1,r2⟩:=(h.1 h5).1 h0
   rw [r2.l,js,r1.l]
  ·exact ((h.1 h5).2 h0).2.l
 ·exact (h.2 h5).l
theorem GD (hl:Lk l) (hD:s.D.l=l) (hic:s.ic 0=(v,t,ws)) (h1:Mp.ar l true ws=0) (ht:254<=t) (h0:ws.length≠0) (h:qO l s bs act D') {k:Nat} (hm:¬ sq (l.getD k aI).index)
  (hn:¬ (s.st=5/\dY l bs ws ws.length=true/\∃ j,j < ws.length/\(Mp.ix (ws.getD j 0):Int)=(l.getD k aI).index/\(Mp.sb (ws.getD j 0):Int)=(l.getD k aI).sub)):D'.v.getD k []=s.D.v.getD k []:=by
 by_cases h5:s.st=5
 ·cases hs:dY l bs ws ws.length with
  | false=>exact ((h.1 h5).2 (by rw [hic]; exact Hm hl.right h1 h0 hs)).2.v hD hm
  | true =>
   have hy:=yJ (v:=v) hl.right h1 ht h0 hs;obtain ⟨D1,r1,r2⟩:=(h.1 h5).1 (by rw [hic,hy]);rw [hic,hy] at r2;have e1:D1.l=l:=by rw [r1.l,hD]
   rw [r2.v (l:=l) (by rw [js,e1]) hm,nD (l:=l) _ e1 (fun x hx e=>?_),r1.v hD hm];obtain ⟨i,hi,e2,e3⟩:=KI hx;exact hn ⟨h5,hs,i,hi,by rw [<- e2]; exact e.1.symm,by rw [<- e3]; exact e.2.symm⟩
 ·exact (h.2 h5).v hD hm
theorem D0 (hl:Lk l) (hD:s.D.l=l) (hlen:s.D.v.length=l.length) (hic:s.ic 0=(v,t,ws)) (h1:Mp.ar l true ws=0) (ht:254<=t) (h0:ws.length≠0) (h:qO l s bs act D') (h5:s.st=5) (hs:dY l bs ws ws.length=true)
  (hd:∀ i j,i < j->j < ws.length->ws.getD i 0≠ws.getD j 0) {L:List UInt8} (hL:ey ((Mp.aU ws + 7) / 8) L (Mp.aU ws) 0 bs):Lz D' ws L:=by
 have hy:=yJ (v:=v) hl.right h1 ht h0 hs;obtain ⟨D1,r1,r2⟩:=(h.1 h5).1 (by rw [hic,hy]);rw [hic,hy] at r2;have e1:D1.l=l:=by rw [r1.l,hD]
 have Wh:D1.v.length=l.length:=by
  obtain ⟨ps,_,rfl⟩:=r1;rw [qQ,hlen]
 have eD:D'.l=l:=by rw [r2.l,js,e1]
 have h64:=Mp.j7 h1;obtain ⟨_,hone⟩:=Mp.bD h1;refine ⟨fun i hi j hj=>?_,fun j h2 h3=>?_,by rw [hL.len]; omega,by rw [hL.len]; omega⟩
 ·have z1:=size_take ws hi
  have z2:=size_le ws (i + 1);rw [hL.bit,if_pos (by omega),Nat.zero_add];obtain ⟨k,f1,f2,f3,_⟩:=Mp.eC (hone i hi).1;obtain ⟨_,hk,g1,g2⟩:=bS f1;have hm:¬ sq (l.getD k aI).index:=fun q=>by
   have q2:kM (l.getD k aI).index:=by
    unfold sq at q;unfold kM;omega
   rw [hl.plain k hk q2] at f3;cases f3
  have hv:Pq D' (ws.getD i 0)=(Bt.eu bs (Mp.aU (ws.take i)) (Mp.bt (ws.getD i 0):Int)).data:=by
   have e:Pq D' (ws.getD i 0)=D'.v.getD k []:=by
    unfold Pq c_;rw [eD,f1];rfl
   rw [e,r2.v (l:=l) (by rw [js,e1]) hm];have hvl:=Mp.cz ws (Bt.fS bs (Mp.aF ws) ws.length) ws.length;have hat:=Mp.jw ws (Bt.fS bs (Mp.aF ws) ws.length) ws.length i hi;rw [te bs ws hi] at hat;have Wi:=Mp.iu (oC.1 hs).2 i hi;unfold Mp.jL at Wi;rw [te bs ws hi,f2] at Wi;have hmm:∀ j,i < j->j < ws.length->∀ x,(Mp.j6 ws (Bt.fS bs (Mp.aF ws) ws.length) ws.length)[j]?=some x->¬ ((l.getD k aI).index=x.index/\(l.getD k aI).sub=x.sub):=by
    intro j hj1 hj2 x hx e;rw [Mp.jw ws _ ws.length j hj2] at hx;injection hx with hx
    rw [<- hx,g1,g2] at e;dsimp only at e;exact hd i j hj1 hj2 (Ii h1 hi hj2 (by omega) (by omega))
   generalize Mp.j6 ws (Bt.fS bs (Mp.aF ws) ws.length) ws.length=Tk at *;have hil:i < Tk.length:=by omega
   rw [List.getElem?_eq_getElem hil] at hat;injection hat with hat
   have es:Tk=Tk.take i ++ Tk[i] :: Tk.drop (i + 1):=by
    rw [<- List.drop_eq_getElem_cons hil,List.take_append_drop]
   rw [es,Cy (l:=l) (k:=k) e1 Wh (by rw [hat]; exact f1) (by rw [hat]; exact of_decide_eq_true Wi) (fun x hx=>?_),hat];obtain ⟨m,hm2,rfl⟩:=List.getElem_of_mem hx;rw [List.length_drop] at hm2;exact hmm (i + 1 + m) (by omega) (by omega) _ (by rw [List.getElem_drop,List.getElem?_eq_getElem (by omega)])
  rw [hv,AA _ _ _ _ hj]
 ·rw [hL.bit,if_neg (by omega)]
theorem KH (hl:Lk l) (hic:s.ic 0=(v,t,ws)) (h1:Mp.ar l true ws=0) (h0:ws.length≠0) (h:qO l s bs act D') (h5:s.st=5) (hs:dY l bs ws ws.length=false):act≠[] :=
 ((h.1 h5).2 (by rw [hic]; exact Hm hl.right h1 h0 hs)).1
end
structure po (D:aZ) (v:Nat) (t:Int) (ws:List Nat):Prop where
 Wj:Pm.bO D 0=some (v,t,ws)
 ok:Rp.ar D.l v t ws=0
 near:v < 2147483648
 soon:254<=t
 some_:ws.length≠0
 other:∀ o,Pm.bO D 1=some o->o.1 % 2048≠v % 2048
 sync:∀ o,Pm.fY D=some o->o.1 % 2048≠v % 2048
 low:v % 2048 < 1792
 two:Pm.bO D 2=none
 three:Pm.bO D 3=none
theorem Hn {D:aZ} {k:Nat} {x:Nat×Int×List Nat} (h:nz D k=some x):Pm.bO D k=some x:=by
 unfold nz at h;split at h
 ·cases h
 ·rename_i v t ws hr
  split at h
  ·injection h with h
   rw [hr,h]
  ·cases h
section
variable {l:List En} {ws:List Nat} {v:Nat} {t:Int} {s:cu}
theorem po.place (h:po s.D v t ws):128<=v % 2048/\((v % 2048:Nat):Int)≠1541/\aY.fl v=v % 2048:=by
 have hp:=(Rp.dW h.ok).1;have ho:aY.off v=false:=decide_eq_false (by have:=h.near; omega);have hb:=aY.l7 hp;unfold aY.place at hp;rw [hb,ho] at hp;have hr:aY.jO (aY.id v:Int)=false:=by
  cases hq:aY.jO (aY.id v:Int) with
  | false=>rfl
  | true =>
   rw [hq] at hp;simp at hp
 unfold aY.jO aY.id at hr;have hr2:=of_decide_eq_false hr;refine ⟨by omega,by omega,?_⟩;unfold aY.fl aY.id;rw [ho];simp
theorem po.maps (h:po s.D v t ws) (hD:s.D.l=l):Mp.ar l true ws=0:=by
 rw [<- hD];exact (Rp.dW h.ok).2.2
theorem po.set (h:po s.D v t ws) (hr:mZ l s):(∃ g,s.gi 0=some g)/\s.ic 0=(v,t,ws):=by
 have e:nz (jA l) 0=some (v,t,ws):=by
  rw [<- hr.dk.nz 0];unfold nz;show (match Pm.bO s.D 0 with | none=>none | some (v,t,ws)=>_)=_;rw [h.Wj];dsimp only;rw [if_pos h.ok]
 obtain ⟨h1,h2⟩:=hr.cm 0 (by decide);rw [e] at h1;refine ⟨?_,h2 _ e⟩;cases hg:s.gi 0 with
 | none=>rw [hg] at h1; cases h1
 | some g=>exact ⟨g,rfl⟩
theorem Bi (hr:mZ l s) {k:Nat} (hk:k < 4) {z:Nat} (hz:z≠0) (h:∀ o,Pm.bO s.D k=some o->o.1 % 2048≠z):rh s k≠(z:Int):=by
 unfold rh;cases hg:s.gi k with
 | none =>
  dsimp only;omega
 | some g =>
  dsimp only;obtain ⟨e1,_⟩:=u_ hr.cm hk hg;rw [<- hr.dk.nz k] at e1;have:=h _ (Hn e1);unfold aY.fl aY.id;split
  ·omega
  ·omega
theorem po.apart (h:po s.D v t ws) (hr:mZ l s):rD s ((v % 2048:Nat):Int) false:=by
 obtain ⟨h1,h2,h3⟩:=h.place;obtain ⟨⟨g,hg⟩,hic⟩:=h.set hr;have hlow:=h.low;refine ⟨by omega,?_,?_,by omega,rfl,fun k hk1 hk2=>?_⟩
 ·rw [hr.pid,<- hr.dk.pid]
  unfold jF;cases hs:Pm.fY s.D with
  | none =>
   dsimp only;omega
  | some o =>
   have:=h.sync o hs;dsimp only;unfold aY.id;omega
 ·unfold rh
  rw [hg,hic];dsimp only;rw [h3]
 ·refine Bi hr hk2 (by omega) fun o ho=>?_
  have hk3:k=1\/k=2\/k=3:=by omega
  rcases hk3 with rfl | rfl | rfl
  ·exact h.other o ho
  ·rw [show ((2:Nat):Int)=2 from rfl,h.two] at ho
   cases ho
  ·rw [show ((3:Nat):Int)=3 from rfl,h.three] at ho
   cases ho
theorem po.check (h:po s.D v t ws) {n:Nat} (hn:n<=8):Can.cb ((v % 2048:Nat):Int) false n=0:=by
 have hlow:=h.low;unfold Can.cb;rw [if_neg (by omega),if_neg (by omega),if_neg (by simp)]
end
end Nn
namespace Nn
open Go.RowKit Go.Sort Go
def TR (o:Option (Nat×Int×List Nat)) (w:World) (e:Ending) (w':World):Prop:=∃ (v:Nat) (t:Int) (ws:List Nat) (A:Option Addr) (c:Nat) (ok:Bool),e=.returned (.tuple #[.agg #[.int .u32 (v:Int),.int .i64 t,.slice A ws.length c],.bool ok])/\(ok=true->o=some (v,t,ws))/\(ok=false->o=none)/\iY w' w.heap.size A ws.length c ws/\v < 4294967296/\(∀ x∈ws,x < 4294967296)/\Below w.heap.size w w'
def W7 (o:Option (Nat×Int)) (w:World) (e:Ending) (w':World):Prop:=∃ (v:Nat) (n:Int) (ok:Bool),e=.returned (.tuple #[.int .u32 (v:Int),.int .i64 n,.bool ok])/\(∀ p,o=some p->p.1=v)/\v < 4294967296/\Below w.heap.size w w'
section
variable {F:Nat->Prop} {w:World} {base g:Nat} {D:Dc.aZ}
theorem JL {k:Int} {v:Nat} {t:Int} {ws:List Nat} (h:Pm.bO D k=some (v,t,ws)):v < 4294967296/\∀ x∈ws,x < 4294967296:=by
 unfold Pm.bO at h;split at h
 ·cases h
 ·split at h
  ·cases h
  ·obtain ⟨z,h1,h2⟩:=lK D (5120 + k) 1
   injection h with h
   injection h with h3 h4
   injection h4 with h5 h6
   subst h6;refine ⟨by omega,Pm.hU _ _ _⟩
theorem o7 (h:One 131 w base g F D) (hd:∀ e∈D.l,e.dflt.length<=1000000) (hv:∀ v∈D.v,v.length<=1000000) (k:Int):Calls Tryz.prog 21 #[.pointer (some ⟨g,0,none⟩),.int .i64 k] w (TR (Pm.bO D k) w):=by
 obtain ⟨gv,lc,vc,la,vA,xs,vs,h1,_⟩:=h;refine (px k h1 hd hv).mono ?_;intro e w' hp;unfold Qm at hp;cases ho:Pm.bO D k with
 | none =>
  rw [ho] at hp;obtain ⟨rfl,hb⟩:=hp;exact ⟨0,0,[],none,0,false,rfl,fun q=>(by cases q),fun _=>rfl,iY.none_ _ _,by decide,fun x hx=>(by cases hx),hb⟩
 | some y =>
  obtain ⟨v,t,ws⟩:=y;rw [ho] at hp;obtain ⟨A,c,rfl,o,hb⟩:=hp;have hl:=JL ho;exact ⟨v,t,ws,A,c,true,rfl,fun _=>rfl,fun q=>(by cases q),o,hl.1,hl.2,hb⟩
theorem EB (h:One 131 w base g F D) (hd:∀ e∈D.l,e.dflt.length<=1000000) (hv:∀ v∈D.v,v.length<=1000000):Calls Tryz.prog 22 #[.pointer (some ⟨g,0,none⟩)] w (W7 (Pm.fY D) w):=by
 obtain ⟨gv,lc,vc,la,vA,xs,vs,h1,_⟩:=h;refine (uB h1 hd hv).mono ?_;intro e w' hp;unfold zw at hp;have hlt:∀ p,Pm.fY D=some p->p.1 < 4294967296:=by
  intro p hp;unfold Pm.fY at hp;split at hp
  ·cases hp
  ·obtain ⟨z,h1,h2⟩:=lK D 4101 0
   injection hp with hp
   subst hp;dsimp only;omega
 cases ho:Pm.fY D with
 | none =>
  rw [ho] at hp;obtain ⟨rfl,hb⟩:=hp;exact ⟨0,0,false,rfl,fun _ q=>(by cases q),by decide,hb⟩
 | some y =>
  obtain ⟨v,n⟩:=y;rw [ho] at hp;obtain ⟨rfl,hb⟩:=hp;exact ⟨v,n,true,rfl,fun p q=>(by injection q with q; rw [<- q]),hlt _ ho,hb⟩
theorem AJ (h:One 131 w base g F D) (hd:∀ e∈D.l,e.dflt.length<=1000000) {v:Nat} (hv:v < 4294967296) (t:Int) {A:Option Addr} {n c B:Nat} {ws:List Nat} (hw:RW w B A n c ws) (hwl:∀ x∈ws,x < 4294967296) (hB:B<=w.heap.size) :
  Calls Tryz.prog 23 #[.pointer (some ⟨g,0,none⟩),.agg #[.int .u32 (v:Int),.int .i64 t,.slice A n c]] w fun e w'=>e=.returned (.int .u32 (Rp.ar D.l v t ws))/\Below w.heap.size w w':=by
 obtain ⟨gv,lc,vc,la,vA,xs,vs,h1,_⟩:=h;exact pn v hv t h1 hd hw hwl hB
end
theorem nC (x:Nat) (hx:x < 4294967296):bits .and .u32 (x:Int) 2047=((x % 2048:Nat):Int):=by
 have:=u32_and_nat x 2047 hx (by decide);rw [show ((2047:Nat):Int)=2047 from rfl] at this;rw [this,show (2047:Nat)=2 ^ 11 - 1 from rfl,Nat.and_two_pow_sub_one_eq_mod]
def M8 (w:World) (F:Nat->Prop) (A:Option Addr) (n c:Nat) (ws:List Nat):Prop:=ij w F 1 A n c (ws.map fun (x:Nat)=>Value.int .u32 (x:Int))
theorem iY.Zc {w:World} {base n c:Nat} {A:Option Addr} {ws:List Nat} (h:iY w base A n c ws):M8 w (fun q=>base<=q) A n c ws:=by
 obtain ⟨xs,h1,h2⟩:=h;rw [oV h2] at h1;exact h1.zC fun k hk=>(h1.lt k hk).1
theorem M8.rw {w:World} {F:Nat->Prop} {n c:Nat} {A:Option Addr} {ws:List Nat} (h:M8 w F A n c ws):RW w w.heap.size A n c ws:=ij.rv h
end Nn
end Go.Proofs.YtijegngfclkdaaaGreatDoor
