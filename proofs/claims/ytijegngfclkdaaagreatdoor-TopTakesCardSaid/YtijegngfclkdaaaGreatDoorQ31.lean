/-
  Piece 31 of the proof.
  Conditions: none.
-/
import Derived.Test.YtijegngfclkdaaaGreatDoorQ30
set_option linter.unusedVariables false
set_option linter.unusedSimpArgs false
set_option maxHeartbeats 100000000
set_option maxRecDepth 100000
namespace Go.Proofs.YtijegngfclkdaaaGreatDoor
namespace Nn
open Go.RowKit Go.Sort Go
def wA (gn gd b:Nat) (c0 c1 c2 c3 c4:Value) (v:World):Prop:=v.cell? ⟨gn,15,none⟩=some (.pointer (some ⟨gd,0,none⟩))/\v.cell? ⟨b,0,none⟩=some c0/\v.cell? ⟨b,1,none⟩=some c1/\v.cell? ⟨b,2,none⟩=some c2/\v.cell? ⟨b,3,none⟩=some c3/\v.cell? ⟨b,4,none⟩=some c4
def MJ (s:cu) (w:World) (ah:Nat->Cp) (k:Nat) (e:Ending) (w':World):Prop:=e=.returned (.tuple #[])/\∃ o an,Nd { s with go:=fZ s.go k o } w' an/\Kp w ah w' an
section
variable {s:cu} {w w':World} {ah:Nat->Cp} {g k b:Nat} {c0 c1 c2 c3 c4:Value} {t:TypeId}
theorem wA.of (h:Nd s w ah) (hb:ao w b t #[c0,c1,c2,c3,c4]):wA s.gn s.gd b c0 c1 c2 c3 c4 w:=⟨h.cells.dy,hb.IS.1.1,hb.IS.1.2.1,hb.IS.1.2.2.1,hb.IS.1.2.2.2.1,hb.IS.1.2.2.2.2⟩
theorem Ca (h:Nd s w ah) (hk:k < 4) (hd:∀ e∈s.D.l,e.dflt.length<=1000000) (hv:∀ v∈s.D.v,v.length<=1000000) (hs:Pm.lB s.D k=none):Calls Tryz.prog 195 #[.pointer (some ⟨s.gn,0,none⟩),.int .i64 (k:Int)] w (MJ s w ah k):=by
 have N1:=h.sr hk (o:=none) trivial;have K1:=Kp.node h (9 + k) (pt none);change Nd _ (w.setCell ⟨s.gn,9 + k,none⟩ (.pointer none)) ah at N1;change Kp w ah (w.setCell ⟨s.gn,9 + k,none⟩ (.pointer none)) ah at K1;have C4:=h.out hk;have fz:=h.cells.free;obtain ⟨w1,hw1⟩:∃ w1,w.setCell ⟨s.gn,9 + k,none⟩ (.pointer none)=w1:=⟨_,rfl⟩;rw [hw1] at N1 K1;have C1:=N1.cells.dy;dsimp only at C1;obtain ⟨gv,lc,vc,la,vA,xs,vs,hr⟩:=N1.dy;have SY:=vm (k:Int) hr hd hv;dsimp only at SY;rw [hs] at SY;replace N1:=zq N1;replace K1:=zq K1;replace SY:=zq SY;have hk1:decide ((k:Int) < 4)=true:=decide_eq_true (by omega);clear hr hd hv h hs;go_enter Tryz.func195,Tryz.ntmps195
 go_wp2_with fail
 refine (SY.out).mono ?_;rintro e w2 ⟨rfl,b2⟩;have b3:=ae w2 (.cells #[.int .u32 0,.int .i64 0,.int .i64 0,.int .i64 0,.slice none 0 0] 307);have d3:=aa b2 b3 lq;go_wp2_with fail
 go_end0
 exact ⟨rfl,none,_,N1.out.below d3 .ext,K1.out.trans (Kp.below d3 .ext)⟩
theorem De {v:Nat} {t aV ev:Int} {ws:List Nat} (h:Nd s w ah) (hk:k < 4) (hd:∀ e∈s.D.l,e.dflt.length<=1000000) (hv:∀ v∈s.D.v,v.length<=1000000) (hs:Pm.lB s.D k=some (v,t,aV,ev,ws)) (hv1:v < 4294967296) (hw1:∀ x∈ws,x < 4294967296):Calls Tryz.prog 195 #[.pointer (some ⟨s.gn,0,none⟩),.int .i64 (k:Int)] w (MJ s w ah k):=by
 have N1:=h.sr hk (o:=none) trivial;have K1:=Kp.node h (9 + k) (pt none);change Nd _ (w.setCell ⟨s.gn,9 + k,none⟩ (.pointer none)) ah at N1;change Kp w ah (w.setCell ⟨s.gn,9 + k,none⟩ (.pointer none)) ah at K1;have C4:=h.out hk;have fz:=h.cells.free;obtain ⟨w1,hw0⟩:∃ w1,w.setCell ⟨s.gn,9 + k,none⟩ (.pointer none)=w1:=⟨_,rfl⟩;rw [hw0] at N1 K1;have C1:=N1.cells.dy;dsimp only at C1;obtain ⟨gv,lc,vc,la,vA,xs,vs,hr⟩:=N1.dy;have SY:=vm (k:Int) hr hd hv;dsimp only at SY;rw [hs] at SY;have HD:=zq hd;have HW:=zq2 hv1 hw1;replace N1:=zq N1;replace K1:=zq K1;replace SY:=zq SY;have HK:=zq hk;have hk1:decide ((k:Int) < 4)=true:=decide_eq_true (by omega);have hk2:decide (0<=(k:Int))=true:=decide_eq_true (by omega);clear hr hd hv h hs hw1 hv1;go_enter Tryz.func195,Tryz.ntmps195
 go_wp2_with fail
 refine (SY.out).mono ?_;rintro e w2 ⟨A,c,rfl,o2,b2⟩;have b3:=ae w2 (.cells #[.int .u32 (v:Int),.int .i64 t,.int .i64 aV,.int .i64 ev,.slice A ws.length c] 307);have K3:=ao.new w2 307 #[.int .u32 (v:Int),.int .i64 t,.int .i64 aV,.int .i64 ev,.slice A ws.length c];have d3:=aa b2 b3 lq;have N3:=N1.out.below d3 .ext;have M3:=K1.out.trans (Kp.below d3 .ext);have r3:=(iY.rw o2).below b3;have S3:=wA.of N3 K3;dsimp only at S3;obtain ⟨w3,hw3⟩:∃ w3,w2.alloc (.cells #[.int .u32 (v:Int),.int .i64 t,.int .i64 aV,.int .i64 ev,.slice A ws.length c] 307)=w3:=⟨_,rfl⟩;rw [hw3] at b3 K3 d3 N3 M3 r3 S3;have N4:=N3.drew;obtain ⟨gv4,lc4,vc4,la4,vA4,xs4,vs4,hr4⟩:=N4.dy;have PN:=zq (Bp v HW.out.1 t aV ev hr4 HD.out (r3.below (Below.refl _ w3).drew) HW.out.2 b3.size);have K4:=K3.later (Below.refl _ w3).drew;have gl:s.gn < w2.heap.size:=Nat.lt_of_lt_of_le (show s.gn < w1.heap.size from N1.out.node.lt) b2.size;have HN:=zq4 N4 M3.drew K4 gl;have z0:∀ x:Wc (wA s.gn s.gd w2.heap.size (.int .u32 (v:Int)) (.int .i64 t) (.int .i64 aV) (.int .i64 ev) (.slice A ws.length c)),x.val.cell? ⟨s.gn,15,none⟩=some (.pointer (some ⟨s.gd,0,none⟩)):=fun x=>x.ok.1
 have z1:∀ x:Wc (wA s.gn s.gd w2.heap.size (.int .u32 (v:Int)) (.int .i64 t) (.int .i64 aV) (.int .i64 ev) (.slice A ws.length c)),x.val.cell? ⟨w2.heap.size,0,none⟩=some (.int .u32 (v:Int)):=fun x=>x.ok.2.1
 have z2:∀ x:Wc (wA s.gn s.gd w2.heap.size (.int .u32 (v:Int)) (.int .i64 t) (.int .i64 aV) (.int .i64 ev) (.slice A ws.length c)),x.val.cell? ⟨w2.heap.size,1,none⟩=some (.int .i64 t):=fun x=>x.ok.2.2.1
 have z3:∀ x:Wc (wA s.gn s.gd w2.heap.size (.int .u32 (v:Int)) (.int .i64 t) (.int .i64 aV) (.int .i64 ev) (.slice A ws.length c)),x.val.cell? ⟨w2.heap.size,2,none⟩=some (.int .i64 aV):=fun x=>x.ok.2.2.2.1
 have z4:∀ x:Wc (wA s.gn s.gd w2.heap.size (.int .u32 (v:Int)) (.int .i64 t) (.int .i64 aV) (.int .i64 ev) (.slice A ws.length c)),x.val.cell? ⟨w2.heap.size,3,none⟩=some (.int .i64 ev):=fun x=>x.ok.2.2.2.2.1
 have z5:∀ x:Wc (wA s.gn s.gd w2.heap.size (.int .u32 (v:Int)) (.int .i64 t) (.int .i64 aV) (.int .i64 ev) (.slice A ws.length c)),x.val.cell? ⟨w2.heap.size,4,none⟩=some (.slice A ws.length c):=fun x=>x.ok.2.2.2.2.2
 have S4:=zq (show wA s.gn s.gd w2.heap.size (.int .u32 (v:Int)) (.int .i64 t) (.int .i64 aV) (.int .i64 ev) (.slice A ws.length c) w3.drew from S3);clear gl N1 K1 C4 fz C1 SY b2 b3 K3 d3 N3 M3 r3 S3 N4 hr4 K4 o2 HD;go_wp2_with fail
 haveI cg:Nonempty (Wc (wA s.gn s.gd w2.heap.size (.int .u32 (v:Int)) (.int .i64 t) (.int .i64 aV) (.int .i64 ev) (.slice A ws.length c))):=⟨⟨_,S4.out⟩⟩;refine aW 99 (wA s.gn s.gd w2.heap.size (.int .u32 (v:Int)) (.int .i64 t) (.int .i64 aV) (.int .i64 ev) (.slice A ws.length c)) (by kernel_rfl) ?_;refine aw (by kernel_rfl) 6 S4.out [0,1,2,6,3,11,4,12,5,13] rfl (by kernel_rfl) ?_;simp only [aj,nth]
 repeat (go_big_quiet_step (fail))
 refine wpQuiet_nil ?_;refine ag 7 5 rfl (by kernel_rfl) (by decide) ?_;simp only [nth];go_wp2_with fail
 refine (PN.out).mono ?_;intro e w5 HP;have b5:Below w3.drew.heap.size w3.drew w5:=by
  unfold zj at HP;rcases HP with q | q
  ·exact q.2.1
  ·exact q.2.1
 have N5:=HN.out.1.below b5 (.out k);have K5:=HN.out.2.1.trans (Kp.below b5 (.out k));have B5:=HN.out.2.2.1.later b5;have S5:=wA.of N5 B5;have C5:=N5.out HK.out;have VY:=N5.cells.free;dsimp only at C5 VY S5;rw [eE] at C5;unfold zj at HP;rcases HP with (⟨hz,_,g1,Aw,cw,rfl,hp⟩ | ⟨hz,_,rfl⟩)
 ·have hk5:=Tp.dW hz
  have S_:(opt (some g1) (n_ s.gd)).P w5 (fun q=>aL (aL ah w1.heap.size w3.heap.size .ext) w3.drew.heap.size w5.heap.size (.out k) q=.out k):=⟨v,t,aV,ev,ws,Aw,cw,Tp.pH ev,hp.zero,HW.out.2,Tp.Ok.rest hk5.2.1,ay ⟨hp.gb,hp.aP.lt⟩,fun k hk=>ay ⟨(OV.lt hp.words k hk).1,(OV.lt hp.words k hk).2⟩⟩;have N6:=N5.sr HK.out S_;have K6:=K5.trans (Kp.node N5 (9 + k) (pt (some g1)));have S6:=wA.of N6 (B5.cR (p:=⟨s.gn,9 + k,none⟩) (by have:=HN.out.2.2.2; dsimp only; omega) (pt (some g1)));dsimp only at N6 S6;rw [eF] at N6;replace N6:=zq N6;replace K6:=zq K6;replace S6:=zq S6;have IL:=zq S5;clear N5 K5 B5 S5 S_ hp b5;replace hz:=zq hz;go_wp2_with fail
  refine az IL.out ?_;refine aw (by kernel_rfl) 1 IL.out [8,9,10,14] rfl (by kernel_rfl) ?_;simp only [aj,nth]
  repeat (go_big_quiet_step (fail))
  refine wpQuiet_nil ?_;refine ag 15 0 rfl (by kernel_rfl) (by decide) ?_;simp only [nth];go_wp2_with fail
  refine az S6.out ?_;refine au (by kernel_rfl) ?_;go_wp2_with fail
  go_end0
  exact ⟨rfl,some g1,_,N6.out,K6.out⟩
 ·have N6:=N5.sr HK.out (o:=none) trivial
  have K6:=K5.trans (Kp.node N5 (9 + k) (pt none));have S6:=wA.of N6 (B5.cR (p:=⟨s.gn,9 + k,none⟩) (by have:=HN.out.2.2.2; dsimp only; omega) (pt none));dsimp only at N6 S6;rw [eF] at N6;replace N6:=zq N6;replace K6:=zq K6;replace S6:=zq S6;have IL:=zq S5;clear N5 K5 B5 S5 b5;replace hz:=zq hz;go_wp2_with fail
  refine az IL.out ?_;refine aw (by kernel_rfl) 1 IL.out [8,9,10,14] rfl (by kernel_rfl) ?_;simp only [aj,nth]
  repeat (go_big_quiet_step (fail))
  refine wpQuiet_nil ?_;refine ag 15 0 rfl (by kernel_rfl) (by decide) ?_;simp only [nth];go_wp2_with fail
  refine az S6.out ?_;refine au (by kernel_rfl) ?_;go_wp2_with fail
  go_end0
  exact ⟨rfl,none,_,N6.out,K6.out⟩
theorem Io (h:Nd s w ah) (hk:k < 4) (hd:∀ e∈s.D.l,e.dflt.length<=1000000) (hv:∀ v∈s.D.v,v.length<=1000000):Calls Tryz.prog 195 #[.pointer (some ⟨s.gn,0,none⟩),.int .i64 (k:Int)] w (MJ s w ah k):=by
 cases hs:Pm.lB s.D k with
 | none=>exact Ca h hk hd hv hs
 | some x =>
  obtain ⟨v,t,aV,ev,ws⟩:=x;have e:=hs;unfold Pm.lB at e;split at e
  ·cases e
  ·split at e
   ·cases e
   ·injection e with e
    injection e with e1 e2
    injection e2 with e2 e3
    injection e3 with e3 e4
    injection e4 with e4 e5
    exact De h hk hd hv hs (by rw [<- e1]; have:=Pm.gY s.D (6144 + k) 1; omega) (by rw [<- e5]; exact Pm.hU _ _ _)
end
end Nn
namespace Nn
open Dc aD
def sq (x:Int):Prop:=x=4097\/x=4099
def jA (l:List En):aZ:=⟨l,l.map (·.dflt)⟩
structure Lk (l:List En):Prop where
 kR:m8 (jA l)
 nR:∀ e∈l,e.dflt.length<=1000000
 right:∀ e∈l,cD e=0
 ord:Ord l
 plain:∀ k,k < l.length->kM (l.getD k aI).index->(l.getD k aI).map=false
structure Dk (l:List En) (D:aZ):Prop where
 el:D.l=l
 kR:m8 D
 Ta:∀ k,k < l.length->kM (l.getD k aI).index->¬ sq (l.getD k aI).index->D.v.getD k []=(l.getD k aI).dflt
theorem Kl (t:Int):(Ty.kd t).size<=8:=by
 unfold Ty.kd
 repeat' split
 all_goals decide
theorem Ji {t:Int} {b:List UInt8} (h:(Ty.cV t b).2=0):b.length<=8:=by
 unfold Ty.cV at h;split at h
 ·simp at h
 ·split at h
  ·simp at h
  ·split at h
   ·simp at h
   ·have:=Kl t
    omega
theorem gC {e:En} {b:List UInt8} (h:cJ e b=0):b.length<=256:=by
 unfold cJ at h;split at h
 ·unfold aD.cE at h
  split at h
  ·omega
  ·split at h
   ·omega
   ·split at h
    ·omega
    ·rename_i hd
     have:=Ji (Classical.not_not.1 hd);omega
 ·split at h
  ·rename_i hc
   unfold Ty.ar at hc;split at hc
   ·omega
   ·split at hc
    ·omega
    ·rename_i hm
     omega
  ·split at h
   ·omega
   ·split at h
    all_goals omega
theorem Hy (l:List En) {k:Nat} (hk:k < l.length):(jA l).v.getD k []=(l.getD k aI).dflt:=by
 unfold jA;simp [List.getD,List.getElem?_map,List.getElem?_eq_getElem hk]
theorem Hv {D:aZ} {x y:Int} {b:List UInt8} {k:Nat} (hne:¬ ((D.l.getD k aI).index=x/\(D.l.getD k aI).sub=y)):(bK D x y b).v.getD k []=D.v.getD k []:=by
 unfold bK;cases hf:bh D.l x y with
 | none=>rfl
 | some i =>
  dsimp only;split
  ·dsimp only
   rw [pw,if_neg];rintro ⟨rfl,_⟩;exact hne (bS hf).2.2
  ·rfl
theorem Ep {D:aZ} (h:m8 D) (x y:Int) (b:List UInt8):m8 (bK D x y b):=by
 by_cases hb:b.length<=2000
 ·exact h.oD x y hb
 ·have e:bK D x y b=D:=by
   unfold bK;split
   ·rfl
   ·split
    ·rename_i hv
     exact absurd (gC hv) (by omega)
    ·rfl
  rw [e];exact h
theorem Lk.new {l:List En} (h:Lk l):Dk l (jA l):=⟨rfl,h.kR,fun _ hk _ _=>Hy l hk⟩
section
variable {l:List En} {D D':aZ}
theorem Dk.oD (h:Dk l D) {x:Int} (hx:¬ kM x\/sq x) (y:Int) (b:List UInt8):Dk l (bK D x y b):=by
 refine ⟨by rw [Dc.l9,h.el],Ep h.kR x y b,fun k hk h1 h2=>?_⟩;rw [Hv (by rw [h.el]; rintro ⟨e,_⟩; rw [e] at h1 h2; exact hx.elim (fun q=>q h1) (fun q=>h2 q))];exact h.Ta k hk h1 h2
theorem Dk.yH:∀ (vs:List Vl) {D:aZ},Dk l D->(∀ v∈vs,¬ kM v.index\/sq v.index)->Dk l (bJ D vs)
 | [],_,h,_=>h
 | v :: vs,_,h,hv=>Dk.yH vs (h.oD (hv v List.mem_cons_self) v.sub v.data) fun x hx=>hv x (List.mem_cons_of_mem _ hx)
theorem Dk.r0 (h:Dk l D) (hr:R0 D D'):Dk l D':=by
 obtain ⟨ps,hp,rfl⟩:=hr;exact Dk.yH ps h fun p hm=>.inr (hp p hm)
theorem Dk.nR (h:Dk l D) (hl:Lk l):∀ e∈D.l,e.dflt.length<=1000000:=by rw [h.el]; exact hl.nR
theorem Dk.small (h:Dk l D):∀ v∈D.v,v.length<=1000000:=fun v hv=>by have:=h.kR.sm v hv; omega
theorem Dk.num (h:Dk l D) {i:Int} (h1:kM i) (h2:¬ sq i) (j:Int):Pm.cE D i j=Pm.cE (jA l) i j:=by
 unfold Pm.cE;rw [h.el];show _=(match bh l i j with | none=>_ | some k=>_);cases hf:bh l i j with
 | none=>rfl
 | some k =>
  dsimp only;obtain ⟨_,hk,hi,_⟩:=bS hf;rw [h.Ta k hk (by rw [hi]; exact h1) (by rw [hi]; exact h2),Hy l hk];rfl
theorem Dk.dC (h:Dk l D) {i:Int} (h1:kM i) (h2:¬ sq i) (j o:Int):Pm.dC D i j o=Pm.dC (jA l) i j o:=by
 unfold Pm.dC;rw [h.num h1 h2]
theorem Dk.words (h:Dk l D) {i:Int} (h1:kM i) (h2:¬ sq i):Pm.dJ D i=Pm.dJ (jA l) i:=by
 unfold Pm.dJ Pm.xR Pm.fp;rw [h.dC h1 h2];simp only [h.dC h1 h2]
theorem Dk.UR (h:Dk l D) (k:Int):Pm.bO D k=Pm.bO (jA l) k:=by
 unfold Pm.bO
 by_cases hk:k < 0\/4<=k
 ·rw [if_pos hk,if_pos hk]
 ·have a1:kM (5120 + k):=by unfold kM; omega
  have a2:¬ sq (5120 + k):=by unfold sq; omega
  have b1:kM (5632 + k):=by unfold kM; omega
  have b2:¬ sq (5632 + k):=by unfold sq; omega
  rw [if_neg hk,if_neg hk,h.num a1 a2,h.dC a1 a2,h.words b1 b2]
theorem Dk.sync (h:Dk l D):Pm.fY D=Pm.fY (jA l):=by
 unfold Pm.fY;rw [h.num (by unfold kM; omega) (by unfold sq; omega),h.dC (by unfold kM; omega) (by unfold sq; omega)]
theorem Dk.nz (h:Dk l D) (k:Nat):nz D k=nz (jA l) k:=by
 unfold Nn.nz;rw [h.UR,h.el];rfl
theorem Dk.pid (h:Dk l D):jF D=jF (jA l):=by
 unfold jF;rw [h.sync]
theorem jN (hl:Lk l) {ws:List Nat} {b:List UInt8}:∀ v∈(Mp.aT l ws b).1,¬ kM v.index:=by
 intro v hv;unfold Mp.aT at hv;split at hv
 ·simp at hv
 ·rename_i hc
  split at hv
  ·simp at hv
  ·split at hv
   ·dsimp only at hv
    obtain ⟨i,hi,rfl⟩:=List.getElem_of_mem hv;have hi2:i < ws.length:=by rwa [Mp.cz] at hi
    have h1:=Mp.jw ws (Bt.bg b (Mp.aF ws)).1 ws.length i hi2;rw [List.getElem?_eq_getElem hi] at h1;injection h1 with h1
    rw [h1];intro ht;obtain ⟨k,hf,_,hm,_⟩:=Mp.eC ((Mp.bD (Classical.not_not.1 hc)).2 i hi2).1;obtain ⟨_,hk,hx,_⟩:=bS hf;rw [hl.plain k hk (by rw [hx]; exact ht)] at hm;cases hm
   ·simp at hv
end
end Nn
namespace Nn
open Go.RowKit Go.Sort Go
def jI (D:Dc.aZ) (f:Nat->Option Nat) (g:Nat->Nat×Int×List Nat) (n:Nat):Prop:=∀ k,k < n->(f k).isSome=(nz D k).isSome/\∀ y,nz D k=some y->g k=y
theorem jI.step {D:Dc.aZ} {f:Nat->Option Nat} {g:Nat->Nat×Int×List Nat} {n:Nat} (h:jI D f g n) {o:Option Nat} {x:Nat×Int×List Nat} (h1:o.isSome=(nz D n).isSome) (h2:∀ y,nz D n=some y->x=y):jI D (fZ f n o) (fZ g n x) (n + 1):=by
 intro k hk
 by_cases e:k=n
 ·subst e
  rw [eE,eE];exact ⟨h1,h2⟩
 ·rw [fT _ _ e,fT _ _ e]
  exact h k (by omega)
def IU (gn gd:Nat) (v:World):Prop:=v.cell? ⟨gn,15,none⟩=some (.pointer (some ⟨gd,0,none⟩))/\v.cell? ⟨gn,13,none⟩=some (.int .i64 5)
section
variable {s s':cu} {w w':World} {ah:Nat->Cp} {g k b:Nat}
theorem Nd.put (h:Nd s w ah) (s':cu) (c:Cp) (hc:c≠.node) (i:Nat) (u:Value) (hg:s'.gn=s.gn) (hC:(aG s).setIfInBounds i u=aG s') (hr:∀ j,j≠.node->j≠c->s'.rs j=s.rs j) (hp:(s'.rs c).P w (fun q=>ah q=c)):Nd s' (w.setCell ⟨s.gn,i,none⟩ u) ah:=by
 have M:=Mv.setCell w ⟨s.gn,i,none⟩ u;intro j
 by_cases hj:j=.node
 ·subst hj
  show (ua s'.gn 110 fun cs=>cs=aG s').P _ _;rw [hg];exact ⟨h.fB,_,h.node.aJ i u,hC⟩
 ·by_cases hk:j=c
  ·subst hk
   exact (s'.rs j).mv _ _ _ _ hp M (h.cR _ hj)
  ·rw [hr j hj hk]
   exact (s.rs j).mv _ _ _ _ (h j) M (h.cR _ hj)
def Uz (s:cu) (w:World) (ah:Nat->Cp) (e:Ending) (w':World):Prop:=e=.returned (.tuple #[])/\∃ gs gh gp f ic o an,Nd { s with gs:=some gs,gh:=some gh,gp:=gp,pid:=jF s.D,gi:=f,ic:=ic,go:=o } w' an/\Kp w ah w' an/\jI s.D f ic 4
theorem IU.of (h:Nd s w ah):IU s.gn s.gd w:=⟨h.cells.dy,h.cells.id⟩
theorem wG (h:Nd s w ah) (hd:∀ e∈s.D.l,e.dflt.length<=1000000) (hv:∀ v∈s.D.v,v.length<=1000000):Calls Tryz.prog 140 #[.pointer (some ⟨s.gn,0,none⟩)] w (Uz s w ah):=by
 have C0:=h.cells.dx;have C1:=h.cells.id;have fz:=h.cells.free;have HH:=zq h;have HB:=zq2 hd hv;clear h hd hv;obtain ⟨o0,ho0⟩:∃ o,pt s.gh=.pointer o:=⟨_,rfl⟩;rw [ho0] at C0;clear ho0;go_enter Tryz.func140,Tryz.ntmps140
 go_wp2_with fail
 refine (AE _).mono ?_;rintro e w1 ⟨gh,rfl,b1,hm⟩;have N1:=HH.out.below b1 .dx;have K1:=Kp.below (ah:=ah) b1 .dx;have N2:=N1.put { s with gh:=some gh } .dx (by intro e; cases e) 2 (pt (some gh)) rfl rfl (fun j hj hk=>by cases j <;> first | rfl | exact absurd rfl hj | exact absurd rfl hk) (hm.mono fun b hb e=>ay ⟨e,hb⟩);have K2:=K1.trans (Kp.node N1 2 (pt (some gh)));have C2:=N1.cells.dx;have PG:=N1.cells.free;obtain ⟨o1,ho1⟩:∃ o,pt s.gh=.pointer o:=⟨_,rfl⟩;rw [ho1] at C2;clear ho1;have SB:=zq (xE N2 (g:=gh) rfl HB.out.1 HB.out.2);have PH:=zq K2;clear N1 K1 N2 K2 hm;go_wp2_with fail
 refine (SB.out).mono ?_;rintro e w3 ⟨rfl,dm,N3,K3⟩;have SP:=zq (vV N3 (g:=gh) rfl HB.out.1 HB.out.2 fun x hx=>Pm.hU _ _ _ x (List.mem_of_mem_take hx));have HK3:=zq (PH.out.trans K3);clear N3 K3 SB C2 PG C0 C1 fz;go_wp2_with fail
 refine (SP.out).mono ?_;rintro e w4 ⟨rfl,fF,N4,K4⟩;have SU:=zq (wM N4 HB.out.1 HB.out.2);have HK4:=zq (HK3.out.trans K4);clear N4 K4 SP;go_wp2_with fail
 refine (SU.out).mono ?_;rintro e w5 ⟨rfl,gp,fv,N5,K5⟩;dsimp only at N5;have R5:Hid (∃ f ic o an,Nd { s with gh:=some gh,gp:=gp,pid:=jF s.D,gi:=f,ic:=ic,go:=o } w5 an/\Kp w ah w5 an/\jI s.D f ic 0):=zq ⟨s.gi,s.ic,s.go,fv,N5,HK4.out.trans K5,fun k hk=>absurd hk (by omega)⟩;clear N5 K5 SU;go_wp2_with fail
 go_loopw [21] (fun v wr=>∃ k:Nat,k<=4/\v=.int .i64 k/\Hid (∃ f ic o an,Nd { s with gh:=some gh,gp:=gp,pid:=jF s.D,gi:=f,ic:=ic,go:=o } wr an/\Kp w ah wr an/\jI s.D f ic k)) (fun v _=>4 - (intOf v).toNat)
 case atStart=>exact ⟨0,by omega,rfl,R5⟩
 case round =>
  obtain ⟨k,hk,rfl,HR⟩:=hrel;clear R5
  by_cases hlt:k < 4
  ·have tk:decide ((k:Int) < 4)=true:=decide_eq_true (by omega)
   obtain ⟨f,ic,o,pR,NR,KR,IR⟩:=HR.out;have SI:=zq (JG NR hlt HB.out.1 HB.out.2);replace HR:=zq2 KR IR;clear NR KR IR;go_wp2_with fail
   refine (SI.out).mono ?_;rintro e w6 ⟨rfl,oi,x,gA,N6,K6,e1,e2⟩;dsimp only at N6;have SO:=zq (Io N6 hlt HB.out.1 HB.out.2);have H6:=zq2 (HR.out.1.trans K6) (HR.out.2.step e1 e2);clear N6 K6 SI HR e1 e2;go_wp2_with fail
   refine (SO.out).mono ?_;rintro e w7 ⟨rfl,oo,kK,N7,K7⟩;dsimp only at N7;have R7:=zq (⟨_,_,_,kK,N7,H6.out.1.trans K7,H6.out.2⟩:∃ f ic o an,Nd { s with gh:=some gh,gp:=gp,pid:=jF s.D,gi:=f,ic:=ic,go:=o } w7 an/\Kp w ah w7 an/\jI s.D f ic (k + 1));clear N7 K7 SO H6;go_wp2_with fail
   go_roundw
   case rel=>exact ⟨k + 1,by omega,by first | rfl | rw [hw] | go_num,R7⟩
   case measure=>(try rw [hw]); simp [intOf]; omega
  ·obtain rfl:k=4:=by omega
   obtain ⟨f,ic,o,pR,NR,KR,IR⟩:=HR.out;have C3:=NR.cells.qi;have fz3:=NR.cells.free;have z0:∀ x:Wc (IU s.gn s.gd),x.val.cell? ⟨s.gn,15,none⟩=some (.pointer (some ⟨s.gd,0,none⟩)):=fun x=>x.ok.1
   have z1:∀ x:Wc (IU s.gn s.gd),x.val.cell? ⟨s.gn,13,none⟩=some (.int .i64 5):=fun x=>x.ok.2
   have S0:=zq (show IU s.gn s.gd wr.drew from (by have q:=IU.of NR.drew; exact q));have HN:=zq3 NR.drew KR.drew IR;clear NR KR IR HR;go_wp2_with fail
   haveI cg:Nonempty (Wc (IU s.gn s.gd)):=⟨⟨_,S0.out⟩⟩;refine aW 99 (IU s.gn s.gd) (by kernel_rfl) ?_;refine aw (by kernel_rfl) 8 S0.out [0,1,5,2,6,3,7,4,8] rfl (by kernel_rfl) ?_;simp only [aj,nth]
   repeat (go_big_quiet_step (fail))
   refine wpQuiet_nil ?_;refine ag 9 7 rfl (by kernel_rfl) (by decide) ?_;simp only [nth];go_wp2_with fail
   refine (Gx s.gd _).mono ?_;rintro e w6 ⟨gs,rfl,b6,XX⟩;have N6:=HN.out.1.below b6 .qi;have K6:=HN.out.2.1.trans (Kp.below b6 .qi);have S6:=zq (IU.of N6);have N7:=N6.put { s with gs:=some gs,gh:=some gh,gp:=gp,pid:=jF s.D,gi:=f,ic:=ic,go:=o } .qi (by intro e; cases e) 1 (pt (some gs)) rfl rfl (fun j hj hk=>by cases j <;> first | rfl | exact absurd rfl hj | exact absurd rfl hk) ((uE gs).mono _ _ _ XX fun b hb e=>ay ⟨e,hb⟩);have K7:=K6.trans (Kp.node N6 1 (pt (some gs)));have S7:=zq (IU.of N7);have C6:=N6.cells.qi;have fz6:=N6.cells.free;obtain ⟨o1,ho1⟩:∃ o,pt s.gs=.pointer o:=⟨_,rfl⟩;dsimp only at C6 fz6 C3 fz3 S6 S7;rw [ho1] at C6 C3;clear ho1;replace N7:=zq N7;replace K7:=zq K7;clear N6 K6 XX b6;go_wp2_with fail
   refine az S6.out ?_;refine aw (by kernel_rfl) 1 S6.out [10,11,12,13,14,15] rfl (by kernel_rfl) ?_;simp only [aj,nth]
   repeat (go_big_quiet_step (fail))
   refine wpQuiet_nil ?_;refine ag 16 0 rfl (by kernel_rfl) (by decide) ?_;simp only [nth];go_wp2_with fail
   refine az S7.out ?_;refine au (by kernel_rfl) ?_;go_wp2_with fail
   go_end0
   exact ⟨rfl,gs,gh,gp,f,ic,o,_,N7.out,K7.out,HN.out.2.2⟩
end
end Nn
namespace Nn
open Go.RowKit
def U0 (w:World) (e:Ending) (w':World):Prop:=∃ z:Int,e=.returned (.tuple #[.agg mq,.int .i64 0,.int .i64 z])/\z≠0/\Below w.heap.size w w'
theorem nU {A:Option Addr} {n c B:Nat} {l:List UInt8} (p:Nat) (w:World) (hb:RB w B A n c l) (hB:B<=w.heap.size) (hp:p<=n) (hn:n<=100000) (VZ:¬ n - p < 13) (h87:(l.drop p).getD 0 0≠87) :
  Calls Tryz.prog 282 #[.slice A n c,.int .i64 (p:Int)] w (U0 w):=by
 have hl:=hb.len;have hle:=hb.le;have hcap:=hb.cap;have hx:=hb.drop hp;have hcut:=fun w1=>fE od A n c p hp .i64 w1
 simp only [Nat.mul_one] at hcut;have e1:decide ((p:Int) < 0)=false:=decide_eq_false (by omega);have e2:decide ((p:Int) > (n:Int))=false:=decide_eq_false (by omega);have e2':decide (n < p)=false:=decide_eq_false (by omega);have b1:=ae w (.cells #[.int .i64 0,.int .u32 0,.slice none 0 0] 217);have K1:=ao.new w 217 #[.int .i64 0,.int .u32 0,.slice none 0 0];obtain ⟨w1,hw1⟩:∃ w1,w.alloc (.cells #[.int .i64 0,.int .u32 0,.slice none 0 0] 217)=w1:=⟨_,rfl⟩;rw [hw1] at b1 K1;have hs1:w1.heap.size=w.heap.size + 1:=by rw [<- hw1,World.size_alloc]
 have HW:=zq hw1;have hx1:=hx.below (b1.mono hB);have C1:=K1.three;have r0:=C1.1;have r1:=C1.2.1;have r2:=C1.2.2.1;generalize hA2:(if c=p then A else A.map (·.add p))=A2 at *;generalize hnx:n - p=nx at *;generalize hcx:c - p=cx at *;generalize l.drop p=x at *;have hxl:=hx.len;have e3:decide ((nx:Int) < 13)=false:=decide_eq_false (by omega);have e4:decide (nx < 13)=false:=decide_eq_false VZ;obtain ⟨bx,ox,hAx,hbx,Tb⟩:=hx1.at_ (by omega);subst hAx;have hc0:=Tb 0 (by omega);rw [Nat.add_zero,<- hw1] at hc0;have i0:(0:Int) < (nx:Int):=by omega
 have hbe:=ub (x.getD 0 0) 87;have e5:(((x.getD 0 0).toNat:Int) != 87)=true:=by
  rw [bne,show (87:Int)=((87:UInt8).toNat:Int) from rfl,hbe];simpa using h87
 generalize x.getD 0 0=x0 at *;clear hb hl hle hcap hx hp hn VZ hx1 hw1 hnx hcx hA2 hxl hbe h87 Tb;go_enter Tryz.func282,Tryz.ntmps282
 go_wp2_with fail
 rw [HW.out];exact bodyPost_ret (v:=.tuple #[.agg mq,.int .i64 0,.int .i64 4]) (by simp [results,Tryz.results282,go_sem,r0,r1,r2,mq]) rfl ⟨4,rfl,by decide,b1⟩
theorem EO {b:List UInt8} (h:b.getD 0 0≠87):Jr.gP b 0=none:=by
 unfold Jr.gP;split
 ·rfl
 ·rw [if_pos]
  rw [List.drop_zero];exact h
theorem uO {A:Option Addr} {n c B:Nat} {b:List UInt8} (w:World) (hb:RB w B A n c b) (hB:B<=w.heap.size) (hn:n<=100000) (VZ:13<=n) (h87:b.getD 0 0≠87) :
  Calls Tryz.prog 238 #[.slice A n c] w (Go.Proofs.YtijegngfclkdaaaGreatDoor.TG (Jr.vI b) w):=by
 have hl:=hb.len;have hle:=hb.le;have hcap:=hb.cap;have bz:=bZ w (.cells #[.int .i64 0,.int .u32 0,.slice none 0 0,.int .i64 0,.int .i64 0,.bool false] 265) (.cells #[.int .i64 0,.int .u32 0,.slice none 0 0,.int .i64 0,.int .i64 0,.bool false] 265);have K0:=(ao.new w 265 #[.int .i64 0,.int .u32 0,.slice none 0 0,.int .i64 0,.int .i64 0,.bool false]).alloc (.cells #[.int .i64 0,.int .u32 0,.slice none 0 0,.int .i64 0,.int .i64 0,.bool false] 265);have K1:=ao.new (w.alloc (.cells #[.int .i64 0,.int .u32 0,.slice none 0 0,.int .i64 0,.int .i64 0,.bool false] 265)) 265 #[.int .i64 0,.int .u32 0,.slice none 0 0,.int .i64 0,.int .i64 0,.bool false];rw [World.size_alloc] at K1;have R0:TJ b n w _ 0 0 Jr.ia none 0 b.length:=⟨rfl,by omega,Nat.zero_le _,Nat.le_refl _,by decide,K0,K1,OB.none_ _ _,bz⟩;have HB:=zq hb;have Uk:=zq hB;clear bz K0 K1 hb hB;go_enter Tryz.func238,Tryz.ntmps238
 go_wp2_with fail
 go_step3
 go_wp2_with fail
 go_step3
 go_wp2_with fail
 go_loopw [] (fun wr=>∃ (k e:Nat) (r:Jr.Rec) (A1:Option Addr) (d f:Nat),TJ b n w wr k e r A1 d f/\Hid (e=0)) (fun wr=>n - (intOf ((wr.cell? ⟨w.heap.size + 1,4,none⟩).getD undef)).toNat)
 case atStart=>exact ⟨0,0,_,_,_,_,R0,zq rfl⟩
 case round =>
  obtain ⟨k,e,r,A1,d,f,hr,he0⟩:=hrel;have hen:=hr.en;have hke:=hr.ke;have aav:=hr.num;have K2:=hr.two;have K:=hr.aP;have O:=hr.own;have hbel:=hr.SA;have C:=K.Md;have hms:(intOf ((wr.cell? ⟨w.heap.size + 1,4,none⟩).getD undef)).toNat=e:=by rw [C.1.2.2.2.2.1]; simp [intOf]
  have HMS:=zq hms;clear hms;have hbr:=HB.out.below (hbel.mono Uk.out);have P:=zq (nU e wr hbr (Nat.le_trans Uk.out hbel.size) hen hn (by rw [he0.out]; omega) (by rw [he0.out]; exact h87));have hps:Jr.gP b e=none:=by rw [he0.out]; exact EO h87
  have HD:=zq (hr.done hps);clear hps hr;unfold Vc at C;go_wp2_with fail
  refine (P.out).mono ?_;rintro ee w1 ⟨z,rfl,hz,b1⟩;have e1:(z != 0)=true:=by simpa using hz
  have K3:=(K.later b1).alloc (.cells mq 217);have O3:=(O.below b1).alloc (.cells mq 217);have VG:=(K2.later b1).alloc (.cells mq 217);have b3:=aa hbel (aa b1 (ae w1 (.cells mq 217)) lq) lq;have hRz:Value.agg mq=.agg #[.int .i64 0,.int .u32 0,.slice none 0 0]:=rfl;clear hz P C;unfold mq at *;have C3:=K3.Md;have hcut:=fun w2=>fE od A n c e hen .i64 w2
  simp only [Nat.mul_one] at hcut;have X3:=zq ((HB.out.below (b3.mono Uk.out)).drop hen);have hsz:=b3.size;have BL:=zq (fun (w2:World) (h:Below w.heap.size w w2)=>sF w2 ((HB.out.below (h.mono Uk.out)).drop hen));generalize hA2:(if c=e then A else A.map (·.add e))=A2 at *;generalize hnx:n - e=nx at *;generalize hcx:c - e=cx at *;have hle2:decide (e<=n)=true:=decide_eq_true hen;have i0:(0:Int)<=(e:Int):=by omega
  have i1:(e:Int)<=(n:Int):=by omega
  clear hA2 hnx hcx;unfold Vc at C3 K3;go_wp2_with fail
  refine (BL.out _ b3).mono ?_;rintro ee w4 ⟨rfl,rfl⟩;have K4:ao ((w1.alloc (.cells #[.int .i64 0,.int .u32 0,.slice none 0 0] 217)).setCell ⟨w.heap.size + 1,5,none⟩ (.bool (bV (b.drop e)))) (w.heap.size + 1) 265 #[.int .i64 (r.kind:Int),.int .u32 (r.num:Int),.slice A1 r.data.length d,.int .i64 (k:Int),.int .i64 (e:Int),.bool (bV (b.drop e))]:=K3.aJ 5 _;have XY:=VG.cR (p:=⟨w.heap.size + 1,5,none⟩) (by show w.heap.size≠w.heap.size + 1; omega) (.bool (bV (b.drop e)));have O4:=O3.cR (g:=w.heap.size + 1) (by omega) 5 (.bool (bV (b.drop e)));have b4:=b3.setCell (p:=⟨w.heap.size + 1,5,none⟩) (by show w.heap.size<=w.heap.size + 1; omega) (.bool (bV (b.drop e)));have C4:=K4.Md;have C24:=XY.Md;obtain ⟨wz,hwz,⟨s0,s1,s2,s3,s4,s5⟩,hof⟩:=Oi HD.out XY O4 b4;have HZ:=zq hwz;have HO:=zq hof;clear hwz hof;go_wp2_with fail
  rw [HZ.out,Exit.noGoto_ret];exact bodyPost_ret (v:=.agg #[.int .i64 (r.kind:Int),.int .u32 (r.num:Int),.slice A1 r.data.length d,.int .i64 (k:Int),.int .i64 (e:Int),.bool (bV (b.drop e))]) (by simp [results,Tryz.results238,go_sem,s0,s1,s2,s3,s4,s5]) rfl HO.out
theorem vL {w:World} {base g n c m c':Nat} {A A':Option Addr} {f:vO} (h:m7 w base g A n c A' m c' f) (i:Nat) (hoff:f.off=false) (hi:i < m) (hn:n=m * 1024) (hm:m<=8) (hz:(gR f i).getD 0 0≠87) :
  Calls Tryz.prog 186 #[.pointer (some ⟨g,0,none⟩),.int .i64 (i:Int)] w fun e w'=>∃ A1 c1,e=.returned (.tuple #[Pf (Jr.vI (gR f i)) A1 (Jr.vI (gR f i)).last.data.length c1,.int .i64 0])/\OB w' w.heap.size A1 (Jr.vI (gR f i)).last.data.length c1 (Jr.vI (gR f i)).last.data/\Below w.heap.size w w':=by
 have b1:=ae w (.cells #[.int .i64 0,.int .u32 0,.slice none 0 0,.int .i64 0,.int .i64 0,.bool false] 265);have K1:=ao.new w 265 #[.int .i64 0,.int .u32 0,.slice none 0 0,.int .i64 0,.int .i64 0,.bool false];have RD:=GP (h.below b1) (i * 1024) 1024 hoff (by omega) (by omega);rw [show (f.b.drop (i * 1024)).take 1024=gR f i from rfl] at RD;have q1:IntKind.i64.wrap ((i:Int) * 1024)=((i * 1024:Nat):Int):=by rw [IntWalk.i64_in _ (by omega)]; omega
 have q2:wrap64 ((i:Int) * 1024)=((i * 1024:Nat):Int):=by rw [IntWalk.wrap64_in _ (by omega)]; omega
 have RD':=zq RD;have OF:=zq (fun (w2:World) (A1:Option Addr) (c1:Nat) (o:OB w2 (w.heap.size + 1) A1 1024 c1 (gR f i))=>uO w2 o.rb lq (by decide) (by decide) hz);generalize hL:Jr.vI (gR f i)=L at *;have hs1:(w.alloc (.cells #[.int .i64 0,.int .u32 0,.slice none 0 0,.int .i64 0,.int .i64 0,.bool false] 265)).heap.size=w.heap.size + 1:=by simp
 clear RD h hn hm hi hoff hz;go_enter Tryz.func186,Tryz.ntmps186
 go_wp2_with fail
 refine (RD'.out).mono ?_;rintro e w2 ⟨A1,c1,rfl,o2,b2⟩;have K2:=K1.later b2;have b12:=aa b1 b2 lq;rw [hs1] at o2;go_wp2_with fail
 refine (OF.out _ _ _ o2).mono ?_;rintro e w3 ⟨A2,c2,rfl,o3,b3⟩;have K3:=K2.later b3;have C3:=K3.Md;have b13:=aa b12 b3 lq;have KZ:=K3.GX (.int .i64 (L.last.kind:Int)) (.int .u32 (L.last.num:Int)) (.slice A2 L.last.data.length c2) (.int .i64 (L.count:Int)) (.int .i64 (L.fin:Int)) (.bool L.clean);have mz:=Mv.RZ w3 w.heap.size (.int .i64 (L.last.kind:Int)) (.int .u32 (L.last.num:Int)) (.slice A2 L.last.data.length c2) (.int .i64 (L.count:Int)) (.int .i64 (L.fin:Int)) (.bool L.clean);have hlt:w.heap.size < w2.heap.size:=K2.lt;have oz:=o3.Xe hlt (.int .i64 (L.last.kind:Int)) (.int .u32 (L.last.num:Int)) (.slice A2 L.last.data.length c2) (.int .i64 (L.count:Int)) (.int .i64 (L.fin:Int)) (.bool L.clean);have bz:=b13.trans (mz.below b13.size (fun q e=>by rw [show q=w.heap.size from e]; exact Nat.le_refl _));obtain ⟨wz,hwz⟩:∃ wz,((((((w3.setCell ⟨w.heap.size,0,none⟩ (.int .i64 (L.last.kind:Int))).setCell ⟨w.heap.size,1,none⟩ (.int .u32 (L.last.num:Int))).setCell ⟨w.heap.size,2,none⟩ (.slice A2 L.last.data.length c2)).setCell ⟨w.heap.size,3,none⟩ (.int .i64 (L.count:Int))).setCell ⟨w.heap.size,4,none⟩ (.int .i64 (L.fin:Int))).setCell ⟨w.heap.size,5,none⟩ (.bool L.clean))=wz:=⟨_,rfl⟩;rw [hwz] at KZ oz bz;have HZ:=zq hwz;obtain ⟨⟨s0,s1,s2,s3,s4,s5⟩,_⟩:=KZ.Md;have OZ:=zq (oz.more (Nat.le_of_lt hlt));have BZ:=zq bz;clear hwz mz oz bz KZ hlt;have Ul:Pf L A2 L.last.data.length c2=.agg #[.int .i64 (L.last.kind:Int),.int .u32 (L.last.num:Int),.slice A2 L.last.data.length c2,.int .i64 (L.count:Int),.int .i64 (L.fin:Int),.bool L.clean]:=rfl;rw [Ul];go_wp2_with fail
 rw [HZ.out];exact bodyPost_ret (v:=.tuple #[Pf L A2 L.last.data.length c2,.int .i64 0]) (by simp [results,Tryz.results186,go_sem,s0,s1,s2,s3,s4,s5,Pf]) rfl ⟨A2,c2,rfl,OZ.out,BZ.out⟩
theorem vp {w:World} {base g n c m c':Nat} {A A':Option Addr} {f:vO} (h:m7 w base g A n c A' m c' f) (hoff:f.off=false) (hn:n=m * 1024) (hm3:3<=m) (hm:m<=8) (hz:∀ i,i < m->(gR f i).getD 0 0≠87) :
  Calls Tryz.prog 133 #[.pointer (some ⟨g,0,none⟩)] w fun e w'=>∃ gj gl A1 c1 xs,e=.returned (.tuple #[.pointer (some ⟨gj,0,none⟩),.int .i64 0])/\Below w.heap.size w w'/\vQ w' (fun q=>w.heap.size<=q) gj gl A1 c1 xs (eI f m) (Jr.sX (eI f m)).1 (Jr.sX (eI f m)).2 g false:=by
 have ON:=zq (KM h);have SE:=zq (lz h);have LK:=zq (fun (w1:World) (b:Below w.heap.size w w1) (i:Nat) (hi:i < m)=>vL (h.below b) i hoff hi hn hm (hz i hi));have e1:decide ((m:Int) < 3)=false:=decide_eq_false (by omega);have Sy:decide (m < 3)=false:=decide_eq_false (by omega);have b1:=ae w (.cells #[.slice none 0 0,.int .i64 0,.bool false,.pointer (some ⟨g,0,none⟩),.bool false] 263);have N0:tO (w.alloc (.cells #[.slice none 0 0,.int .i64 0,.bool false,.pointer (some ⟨g,0,none⟩),.bool false] 263)) w.heap.size w.heap.size none 0 0 (eI f 0) 0 false g false:=⟨Nat.le_refl _,ao.new _ _ _,OS.none_ _ _ _ _⟩;have SE2:=zq (lz (h.below b1));clear h hn hz;rw [hoff] at ON;obtain ⟨nw,hnw⟩:∃ nw,nw=Jr.sX (eI f m):=⟨_,rfl⟩;rw [<- hnw];have Mt:=zq hnw;clear hnw;obtain ⟨np,nh⟩:=nw;go_enter Tryz.func133,Tryz.ntmps133
 go_wp2_with fail
 refine (ON.out).mono ?_;rintro e _ ⟨rfl,rfl⟩;go_wp2_with fail
 refine (SE.out).mono ?_;rintro e _ ⟨rfl,rfl⟩;go_wp2_with fail
 refine (SE2.out).mono ?_;rintro e _ ⟨rfl,rfl⟩;go_wp2_with fail
 go_loopw [24] (fun v wr=>∃ (k:Nat) (A1:Option Addr) (c1:Nat),k<=m/\v=.int .i64 k/\tO wr w.heap.size w.heap.size A1 k c1 (eI f k) 0 false g false/\Below w.heap.size w wr) (fun v _=>m - (intOf v).toNat)
 case atStart=>exact ⟨0,_,_,by omega,rfl,N0,b1⟩
 case round =>
  obtain ⟨k,A1,c1,hk,rfl,N,bb⟩:=hrel;clear N0 b1 ON SE SE2
  by_cases hlt:k < m
  ·have LKk:=zq (LK.out wr bb k hlt)
   have hst:=uT f k;have HST:=zq hst;clear hst;generalize Jr.vI (gR f k)=L at *;go_wp2_with fail
   refine (LKk.out).mono ?_;rintro e w2 ⟨A2,c2,rfl,o2,b2⟩;have N2:=N.below b2;have b3:=ae w2 (.cells #[.int .i64 (L.last.kind:Int),.int .u32 (L.last.num:Int),.slice A2 L.last.data.length c2,.int .i64 (L.count:Int),.int .i64 (L.fin:Int),.bool L.clean] 265);have Ul:Pf L A2 L.last.data.length c2=.agg #[.int .i64 (L.last.kind:Int),.int .u32 (L.last.num:Int),.slice A2 L.last.data.length c2,.int .i64 (L.count:Int),.int .i64 (L.fin:Int),.bool L.clean]:=rfl;rw [Ul];go_wp2_with fail
   have K3:=ao.new w2 265 #[.int .i64 (L.last.kind:Int),.int .u32 (L.last.num:Int),.slice A2 L.last.data.length c2,.int .i64 (L.count:Int),.int .i64 (L.fin:Int),.bool L.clean];have XZ:∀ b,some b=(Value.slice A1 k c1).ownBlock->b < w2.heap.size:=fun b hb=>by
    obtain ⟨zs,z1,_⟩:=N2.row;exact (z1.lt b hb.symm).2
   have N3:=N2.below b3;have o3:=(o2.below b3).more bb.size;have d3:=aa bb (aa b2 b3 lq) lq;have h23:w.heap.size < w2.heap.size:=Nat.lt_of_lt_of_le N.aP.lt b2.size;generalize hw3:w2.alloc (.cells #[.int .i64 (L.last.kind:Int),.int .u32 (L.last.num:Int),.slice A2 L.last.data.length c2,.int .i64 (L.count:Int),.int .i64 (L.fin:Int),.bool L.clean] 265)=wc at *;clear hw3 N N2 b2 b3 o2 bb Ul;obtain ⟨Gq,yr⟩:∃ Gq:Nat->Prop,∀ q,Gq q↔(q≠w.heap.size/\q≠w2.heap.size):=⟨_,fun q=>Iff.rfl⟩;have yw:¬ Gq w.heap.size:=fun h=>((yr _).1 h).1 rfl
   have IZ:¬ Gq w2.heap.size:=fun h=>((yr _).1 h).2 rfl
   have Dq:∀ b,some b=(Value.slice A1 k c1).ownBlock->Gq b:=fun b hb=>by
    obtain ⟨zs,z1,_⟩:=N3.row;refine (yr b).2 ⟨fun e=>bE z1 N3.aP (by decide) (by rw [<- hb,e]),fun e=>absurd (XZ b hb) (by omega)⟩
   clear yr XZ;have t0:=aC (G:=Gq) (show wc.cell? ⟨w.heap.size,0,none⟩=some (.slice A1 k c1) from N3.aP.cell 0) yw;have k0:=aC (G:=Gq) (K3.cell 0) IZ;have k1:=aC (G:=Gq) (K3.cell 1) IZ;have k2:=aC (G:=Gq) (K3.cell 2) IZ;have k3:=aC (G:=Gq) (K3.cell 3) IZ;have k4:=aC (G:=Gq) (K3.cell 4) IZ;have k5:=aC (G:=Gq) (K3.cell 5) IZ;refine cF 12 Gq (by kernel_rfl) ?_;refine cy (by kernel_rfl) 6 (Mv.refl _ _).drew [0,1,6,2,3,4,5] rfl (by kernel_rfl) ?_;simp only [aj,nth]
   repeat (go_big_quiet_step (fail))
   refine wpQuiet_nil ?_;refine ag 7 5 rfl (by kernel_rfl) (by decide) ?_;simp only [nth];go_wp2_with fail
   have b4:=ae wc.drew (.cells #[.int .i64 (L.last.kind:Int),.int .u32 (L.last.num:Int),.slice A2 L.last.data.length c2,.int .i64 (L.count:Int),.int .i64 (L.fin:Int),.bool L.clean] 265);have D4:Below wc.heap.size wc _:=(af wc).trans b4;refine aB (Mv.aq D4 _) ?_;have N4:=N3.below D4;have hnew:=RV.new wc.drew 265 (size:=6) (cs:=Pp L A2 c2) rfl;have th:xn (wc.drew.alloc (.cells #[.int .i64 (L.last.kind:Int),.int .u32 (L.last.num:Int),.slice A2 L.last.data.length c2,.int .i64 (L.count:Int),.int .i64 (L.fin:Int),.bool L.clean] 265)) w.heap.size L (Pp L A2 c2):=⟨A2,c2,rfl,o3.below D4⟩;have vS:=aa d3 D4 lq;refine ag 8 4 rfl (by kernel_rfl) (by decide) ?_;simp only [nth];go_wp2_with (at_builtin; refine cO U5 (fun w1=>xn w1 w.heap.size) rfl (.tmp 41) (.tmp 43) rfl rfl rfl w.heap.size N4.row L hnew th (xS _ _ _) (by omega) (by omega) vS.size (fun w1 A1 n1 c1 xs hv hg f cs hf=>hf.beside hv (by decide) hg) ?_; intro A5 c5 w5 o5 b5 g5 _)
   have M5:Mv Gq wc w5:=(Mv.aq D4 _).trans (Mv.fk g5) fun b hb e=>Dq b e
   refine aB M5 ?_;refine ag 9 3 rfl (by kernel_rfl) (by decide) ?_;simp only [nth];go_wp2_with fail
   refine aB M5 ?_;refine ag 10 2 rfl (by kernel_rfl) (by decide) ?_;simp only [nth];go_wp2_with fail
   refine aB M5 ?_;refine ag 11 1 rfl (by kernel_rfl) (by decide) ?_;simp only [nth];go_wp2_with fail
   refine aB M5 ?_;have F5:=(N3.aP.mv M5 yw);have f5c:w5.cell? ⟨w.heap.size,0,none⟩=some (.slice A1 k c1):=F5.cell 0;have f5f:=F5.frozen 0;refine bL 0 rfl (by kernel_rfl) (by decide) (by kernel_rfl) ?_;simp only [nth];go_wp2_with fail
   refine bY ?_;have N6:=N4.add o5 g5;have d6:Below w.heap.size w (w5.setCell ⟨w.heap.size,0,none⟩ (.slice A5 (k + 1) c5)):=(vS.trans b5).setCell (p:=⟨w.heap.size,0,none⟩) (by dsimp only; omega) _;rw [<- HST.out] at N6;go_wp2_with fail
   go_roundw
   case rel=>exact ⟨k + 1,A5,c5,by omega,by go_num,N6,d6⟩
   case measure=>simp [intOf] <;> omega
  ·obtain rfl:k=m:=by omega
   have hlk:=pO f k;have NW:=pX wr N.looks lq;have F1:=N.jJ.1;rw [<- Mt.out] at NW;dsimp only at NW;have NWh:=zq NW;clear NW;go_wp2_with fail
   refine (NWh.out).mono ?_;rintro e w2 ⟨rfl,b2⟩;have N2:=N.below b2;have F2:=N2.jJ;have N3:=N2.aJ (i:=1) (u:=.int .i64 (np:Int)) (now':=np) (has':=false) (zQ:=false) rfl;have N4:=N3.aJ (i:=2) (u:=.bool nh) (now':=np) (has':=nh) (zQ:=false) rfl;have b4:Below w.heap.size w ((w2.setCell ⟨w.heap.size,1,none⟩ (.int .i64 (np:Int))).setCell ⟨w.heap.size,2,none⟩ (.bool nh)):=((bb.trans (b2.mono bb.size)).setCell (p:=⟨w.heap.size,1,none⟩) lq _).setCell (p:=⟨w.heap.size,2,none⟩) lq _;obtain ⟨gl,xs,J⟩:=N4.made hlk (by omega);have HJ:=zq J;have HB:=zq b4;clear N2 N3 N4 J b4 N;go_wp2_with fail
   go_ret2
   exact ⟨w.heap.size,gl,A1,c1,xs,rfl,HB.out,HJ.out⟩
end Nn
end Go.Proofs.YtijegngfclkdaaaGreatDoor
