/-
  Piece 34 of the proof.
  Conditions: none.
-/
import Derived.Test.YtijegngfclkdaaaGreatDoorQ33
set_option linter.unusedVariables false
set_option linter.unusedSimpArgs false
set_option maxHeartbeats 100000000
set_option maxRecDepth 100000
namespace Go.Proofs.YtijegngfclkdaaaGreatDoor
namespace Nn
open Go.RowKit Go.Sort Go
section
variable {s s':cu} {w w':World} {ah:Nat->Cp} {g ge k b:Nat} {l:List aD.En}
def nX (x:Int):Bool:=decide (4096<=x) && decide (x<=8191)
theorem yA {x:Int} (h:nX x=false):¬ kM x:=by
 unfold nX at h;unfold kM;intro hx;simp [hx.1,hx.2] at h
theorem oQ (x:Int) (w:World):Calls Tryz.prog 260 #[.int .i64 x] w fun e w'=>e=.returned (.bool (nX x))/\w=w':=by
 unfold nX
 by_cases h1:4096<=x
 ·rw [decide_eq_true h1]
  by_cases h2:x<=8191
  ·rw [decide_eq_true h2]
   have a1:decide (x ≥ 4096)=true:=decide_eq_true h1;have a2:decide (x<=8191)=true:=decide_eq_true h2;clear h1 h2;go_enter Tryz.func260,Tryz.ntmps260
   go_wp2_with fail
   go_ret
   exact ⟨rfl,rfl⟩
  ·rw [decide_eq_false h2]
   have a1:decide (x ≥ 4096)=true:=decide_eq_true h1;have a2:decide (x<=8191)=false:=decide_eq_false h2;clear h1 h2;go_enter Tryz.func260,Tryz.ntmps260
   go_wp2_with fail
   go_ret
   exact ⟨rfl,rfl⟩
 ·rw [decide_eq_false h1]
  have a1:decide (x ≥ 4096)=false:=decide_eq_false h1;clear h1;go_enter Tryz.func260,Tryz.ntmps260
  go_wp2_with fail
  go_ret
  exact ⟨rfl,rfl⟩
def TN (l:List aD.En) (s:cu) (w:World) (ah:Nat->Cp) (wr:World):Prop:=∃ D an,Nd { s with D:=D } wr an/\Dk l D/\Kp w ah wr an
theorem Kp.dX {an:Nat->Cp} (h:Kp w ah w' an) {A:Option Addr} {n c:Nat} {vs:List Dc.Vl} (hf:jU w (fun q=>ah q=.ext) A n c vs):jU w' (fun q=>an q=.ext) A n c vs:=by
 refine ((hf.mono (G:=fun q=>ah q=.ext/\q < w.heap.size) fun b hb e=>⟨e,hb⟩).mv h.mv fun b _ e hn=>hn e.1).mono fun b _ e=>h.ext b e.2 e.1
theorem uh (hl:Lk l) (h:Nd s w ah) (hg:s.gv=some g) (he:s.ge=some ge) (ho:s.on=true) (hk:Dk l s.D):Calls Tryz.prog 211 #[.pointer (some ⟨s.gn,0,none⟩)] w (U_ l s w ah):=by
 obtain ⟨gv,lc,vc,la,vA,xs,vs,hr⟩:=h.dy;have VA:=zq (Bb hr hk.small);have Un:=h.cells.dy;have HN:=zq6 h hg he ho hk hl;clear hr h hg he ho hk hl;go_enter Tryz.func211,Tryz.ntmps211
 go_wp2_with fail
 refine (VA.out).mono ?_;rintro e w1 ⟨A,c,rfl,ov,b1⟩;have N1:=HN.out.1.below b1 .ext;have K1:=Kp.below (ah:=ah) b1 .ext;have rv:=(FA ov).mono (G:=fun q=>aL ah w.heap.size w1.heap.size .ext q=.ext) fun q hq e=>ay ⟨e,hq⟩
 generalize aL ah w.heap.size w1.heap.size .ext=bN at *;have N2:=N1.drew;have LO:=qG N2 HN.out.2.1 (HN.out.2.2.2.2.1.nR HN.out.2.2.2.2.2);rw [HN.out.2.2.2.2.1.el] at LO;replace LO:=zq LO;have S0:=zq (iV.of N2);have Ld:∀ x:Wc (iV s.gn (aG s)),x.val.cell? ⟨s.gn,15,none⟩=some (.pointer (some ⟨s.gd,0,none⟩)):=fun x=>x.ok 15 _ rfl
 have Um:∀ x:Wc (iV s.gn (aG s)),x.val.cell? ⟨s.gn,16,none⟩=some (.pointer (some ⟨g,0,none⟩)):=fun x=>x.ok 16 _ (by show some (pt s.gv)=_; rw [HN.out.2.1]; rfl)
 have hlen:(Dc.jC s.D).length=s.D.l.length:=Dc.uo s.D;have hsm:∀ v∈Dc.jC s.D,v.data.length<=1000000:=by
  intro v hv;unfold Dc.jC at hv;obtain ⟨i,hi,rfl⟩:=List.mem_map.1 hv;exact zn HN.out.2.2.2.2.1.small i
 have H1:=zq4 K1.drew (rv.below (Below.refl _ w1).drew) hlen hsm;have hn:=ov.rs.lt;clear VA N1 N2 K1 rv ov b1 hlen hsm Un;generalize Dc.jC s.D=VS at *;generalize s.D.l.length=n at *;go_wp2_with fail
 haveI cg:Nonempty (Wc (iV s.gn (aG s))):=⟨⟨_,S0.out⟩⟩;refine aW 99 (iV s.gn (aG s)) (by kernel_rfl) ?_;refine aw (by kernel_rfl) 1 S0.out [0,4,1,5,2,6,3,7] rfl (by kernel_rfl) ?_;simp only [aj,nth]
 repeat (go_big_quiet_step (fail))
 refine wpQuiet_nil ?_;refine ag 8 0 rfl (by kernel_rfl) (by decide) ?_;simp only [nth];go_wp2_with fail
 refine (LO.out).mono ?_;rintro e w2 ⟨⟨z,rfl⟩,bA,N2,K2⟩;have S2:=zq (show iV s.gn (aG s) w2 from (by have q:=iV.of N2; exact q));have OO:=K2.dX H1.out.2.1;have R0:Hid (TN l s w2 bA w2):=zq ⟨jA l,bA,N2,HN.out.2.2.2.2.2.new,Kp.refl _ _⟩;have H2:=zq3 (H1.out.1.trans K2) OO H1.out.2.2;clear N2 K2 OO LO H1;go_wp2_with fail
 refine az S2.out ?_;refine au (by kernel_rfl) ?_;go_wp2_with fail
 clear Ld Um S0 S2;go_loopw [21] (fun v wr=>∃ k:Nat,k<=n/\v=.int .i64 k/\Hid (TN l s w2 bA wr)) (fun v _=>n - (intOf v).toNat)
 case atStart=>exact ⟨0,by omega,rfl,R0⟩
 case round =>
  obtain ⟨k,hk,rfl,HR⟩:=hrel;clear R0
  by_cases hlt:k < n
  ·have tk:decide ((k:Int) < (n:Int))=true:=decide_eq_true (by omega)
   obtain ⟨D1,dm,N3,Lf,K3⟩:=HR.out;obtain ⟨b,o,A1,n1,c1,rfl,eT,q0,q1,q2,hr⟩:=(K3.dX H2.out.2.1).UZ.at_ hlt;have hdl:(VS.getD k H_).data.length<=1000000:=H2.out.2.2.2 _ (by rw [List.getD_eq_getElem?_getD,List.getElem?_eq_getElem (by rw [H2.out.2.2.1]; exact hlt)]; exact List.getElem_mem _);have hrl:=hr.len;clear HR;generalize VS.getD k H_=v at *;obtain ⟨ix,sb,dat⟩:=v;dsimp only at q0 q1 hr hdl hrl;have b4:=ae wr (.cells #[.int .i64 ix,.int .i64 sb,.slice A1 n1 c1] 34);have B4:=ao.new wr 34 #[.int .i64 ix,.int .i64 sb,.slice A1 n1 c1];have N4:=N3.below b4 .ext;have K4:=K3.trans (Kp.below b4 .ext);have hr4:=(hr.below b4).below (Below.refl _ _).drew;have bx:=ay (ah:=dm) (i:=.ext) (show wr.heap.size<=wr.heap.size/\wr.heap.size < (wr.alloc (.cells #[.int .i64 ix,.int .i64 sb,.slice A1 n1 c1] 34)).heap.size from ⟨Nat.le_refl _,B4.lt⟩);have y3:=B4.three;cases htk:nX ix with
   | true =>
    have TA:=oQ ix (wr.alloc (.cells #[.int .i64 ix,.int .i64 sb,.slice A1 n1 c1] 34));rw [htk] at TA;replace TA:=zq TA;have R4:Hid (TN l s w2 bA (wr.alloc (.cells #[.int .i64 ix,.int .i64 sb,.slice A1 n1 c1] 34))):=zq ⟨D1,_,N4,Lf,K4⟩;clear N3 K3 Lf N4 K4 hr hr4 bx hdl hrl B4 b4 htk;go_wp2_with fail
    refine (TA.out).mono ?_;rintro e _ ⟨rfl,rfl⟩;go_wp2_with fail
    go_roundw
    case rel=>exact ⟨k + 1,by omega,by first | rfl | rw [hw] | go_num,R4⟩
    case measure=>(try rw [hw]); simp [intOf]; omega
   | false =>
    have TA:=oQ ix (wr.alloc (.cells #[.int .i64 ix,.int .i64 sb,.slice A1 n1 c1] 34));rw [htk] at TA;obtain ⟨w4,hw4⟩:∃ x,wr.alloc (.cells #[.int .i64 ix,.int .i64 sb,.slice A1 n1 c1] 34)=x:=⟨_,rfl⟩;rw [hw4] at b4 B4 N4 K4 hr4 bx TA y3;generalize aL dm wr.heap.size w4.heap.size .ext=fF at *;replace TA:=zq TA;have N5:=N4.drew;have S5:=zq (show dV s.gn (aG s) wr.heap.size (c3 (.int .i64 ix) (.int .i64 sb) (.slice A1 n1 c1)) w4.drew from (by have q:=dV.of N5 (B4.later (Below.refl _ w4).drew); exact q));have Ld:∀ x:Wc (dV s.gn (aG s) wr.heap.size (c3 (.int .i64 ix) (.int .i64 sb) (.slice A1 n1 c1))),x.val.cell? ⟨s.gn,15,none⟩=some (.pointer (some ⟨s.gd,0,none⟩)):=fun x=>x.ok.1 15 _ rfl
    have y0:∀ x:Wc (dV s.gn (aG s) wr.heap.size (c3 (.int .i64 ix) (.int .i64 sb) (.slice A1 n1 c1))),x.val.cell? ⟨wr.heap.size,0,none⟩=some (.int .i64 ix):=fun x=>x.ok.2 0 _ rfl
    have y1:∀ x:Wc (dV s.gn (aG s) wr.heap.size (c3 (.int .i64 ix) (.int .i64 sb) (.slice A1 n1 c1))),x.val.cell? ⟨wr.heap.size,1,none⟩=some (.int .i64 sb):=fun x=>x.ok.2 1 _ rfl
    have y2:∀ x:Wc (dV s.gn (aG s) wr.heap.size (c3 (.int .i64 ix) (.int .i64 sb) (.slice A1 n1 c1))),x.val.cell? ⟨wr.heap.size,2,none⟩=some (.slice A1 n1 c1):=fun x=>x.ok.2 2 _ rfl
    have PK:=N5.EZ ix sb hr4 (show wr.heap.size<=w4.drew.heap.size from b4.size) (by omega);dsimp only at PK;replace PK:=zq PK;have H5:=zq4 K4.drew (Lf.oD (.inl (yA htk)) sb dat) (B4.later (Below.refl _ w4).drew) bx;clear N3 K3 Lf N4 K4 N5 hr hr4 bx hdl hrl B4 b4 htk;go_wp2_with fail
    refine (TA.out).mono ?_;rintro e _ ⟨rfl,rfl⟩;clear y3;go_wp2_with fail
    haveI cg:Nonempty (Wc (dV s.gn (aG s) wr.heap.size (c3 (.int .i64 ix) (.int .i64 sb) (.slice A1 n1 c1)))):=⟨⟨_,S5.out⟩⟩;refine aW 99 (dV s.gn (aG s) wr.heap.size (c3 (.int .i64 ix) (.int .i64 sb) (.slice A1 n1 c1))) (by kernel_rfl) ?_;refine aw (by kernel_rfl) 1 S5.out [0,4,6,8,1,5,7,9,2,3] rfl (by kernel_rfl) ?_;simp only [aj,nth]
    repeat (go_big_quiet_step (fail))
    refine wpQuiet_nil ?_;refine ag 10 0 rfl (by kernel_rfl) (by decide) ?_;simp only [nth];go_wp2_with fail
    refine (PK.out).mono ?_;rintro e w6 ⟨rfl,gA,N6,K6,Q6⟩;have B6:=H5.out.2.2.1.mv Q6.mv (fun e=>by have q:=H5.out.2.2.2; rw [show fF wr.heap.size=.dy from e] at q; cases q);have S6:=zq (show dV s.gn (aG s) wr.heap.size (c3 (.int .i64 ix) (.int .i64 sb) (.slice A1 n1 c1)) w6 from (by have q:=dV.of N6 B6; exact q));have R6:Hid (TN l s w2 bA w6):=zq ⟨_,gA,N6,H5.out.2.1,H5.out.1.trans K6⟩;clear N6 K6 Q6 B6 PK H5;go_wp2_with fail
    refine az S6.out ?_;refine au (by kernel_rfl) ?_;go_wp2_with fail
    go_roundw
    case rel=>exact ⟨k + 1,by omega,by first | rfl | rw [hw] | go_num,R6⟩
    case measure=>(try rw [hw]); simp [intOf]; omega
  ·obtain rfl:k=n:=by omega
   obtain ⟨D1,dm,N3,Lf,K3⟩:=HR.out;have BG:=oF N3 (Lf.nR HN.out.2.2.2.2.2) Lf.small;dsimp only at BG;replace BG:=zq BG;have H3:=zq2 Lf (H2.out.1.trans K3);clear N3 Lf K3 HR H2;go_wp2_with fail
   refine (BG.out).mono ?_;rintro e w5 ⟨rfl,gq,gs,gh,gp,f,ic,o,fv,N5,K5,I5⟩;dsimp only at N5 I5;have RF:=zq (pI N5 (g:=ge) HN.out.2.2.1 (H3.out.1.nR HN.out.2.2.2.2.2));dsimp only at RF;have H5:=zq2 (H3.out.2.trans K5) I5;clear N5 K5 I5 BG;go_wp2_with fail
   refine (RF.out).mono ?_;rintro e w6 ⟨rfl,D6,gA,N6,K6,R6⟩;dsimp only at N6 R6;have H6:=zq3 N6 (H5.out.1.trans K6) (H3.out.1.r0 R6);clear N6 K6 R6 RF;go_wp2_with fail
   go_end0
   exact ⟨rfl,_,gA,H6.out.1,H6.out.2.1,⟨⟨gq,rfl⟩,⟨gs,rfl⟩,⟨gh,rfl⟩,⟨ge,HN.out.2.2.1⟩,⟨g,HN.out.2.1⟩,.inr (.inr rfl),HN.out.2.2.2.1,H6.out.2.2,jI.dk H3.out.1 H5.out.2,H3.out.1.pid⟩,⟨rfl,rfl,rfl,rfl⟩⟩
theorem sO (hl:Lk l) (h:Nd s w ah) (hr:mZ l s) (c:Int) (hc:Bs c):Calls Tryz.prog 158 #[.pointer (some ⟨s.gn,0,none⟩),.int .i64 c] w (U_ l s w ah):=by
 have V7:=h.cells.st;have NX:=zq (Fe s.st c hr.st hc w);have HN:=zq3 h hr hl;have cs:c=129\/c=130\/(qA c=(vj c,0)/\tu (vj c)):=by
  unfold qA;rcases hc with rfl | rfl | rfl | rfl | rfl
  ·exact .inr (.inr ⟨by decide,by unfold tu; decide⟩)
  ·exact .inr (.inr ⟨by decide,by unfold tu; decide⟩)
  ·exact .inr (.inr ⟨by decide,by unfold tu; decide⟩)
  ·exact .inl rfl
  ·exact .inr (.inl rfl)
 rcases cs with rfl | rfl | ⟨cs,ct⟩
 ·have zS:=NX.out
  rw [show qA 129=(0,129) by decide] at zS;replace zS:=zq zS;have OP:=zq (lV h);clear h hr hl hc NX;go_enter Tryz.func158,Tryz.ntmps158
  go_wp2_with fail
  refine (zS.out).mono ?_;rintro e _ ⟨rfl,rfl⟩;go_wp2_with fail
  refine (OP.out).mono ?_;rintro e w1 ⟨rfl,g,bN,N1,K1⟩;have BO:=zq (qu HN.out.2.2 N1 (g:=g) rfl HN.out.2.1.dk.el);have H1:=zq K1;dsimp only at BO;clear N1 K1 OP V7;go_wp2_with fail
  refine (BO.out).mono ?_;rintro e w2 ⟨rfl,s2,bA,N2,K2,r2,p2⟩;have H2:=zq4 N2 (H1.out.trans K2) r2 p2;clear N2 K2 r2 p2 BO;go_wp2_with fail
  go_end0
  exact ⟨rfl,s2,bA,H2.out.1,H2.out.2.1,H2.out.2.2.1,⟨H2.out.2.2.2.gn,H2.out.2.2.2.gf,H2.out.2.2.2.gd,H2.out.2.2.2.gb⟩⟩
 ·have zS:=NX.out
  rw [show qA 130=(0,130) by decide] at zS;replace zS:=zq zS;have OP:=zq (lV h);clear h hr hl hc NX;go_enter Tryz.func158,Tryz.ntmps158
  go_wp2_with fail
  refine (zS.out).mono ?_;rintro e _ ⟨rfl,rfl⟩;go_wp2_with fail
  refine (OP.out).mono ?_;rintro e w1 ⟨rfl,g,bN,N1,K1⟩;obtain ⟨ge,hge⟩:=HN.out.2.1.gD;have BO:=zq (uh HN.out.2.2 N1 (g:=g) rfl hge HN.out.2.1.on HN.out.2.1.dk);have H1:=zq K1;dsimp only at BO;clear N1 K1 OP V7 hge;go_wp2_with fail
  refine (BO.out).mono ?_;rintro e w2 ⟨rfl,s2,bA,N2,K2,r2,p2⟩;have H2:=zq4 N2 (H1.out.trans K2) r2 p2;clear N2 K2 r2 p2 BO;go_wp2_with fail
  go_end0
  exact ⟨rfl,s2,bA,H2.out.1,H2.out.2.1,H2.out.2.2.1,⟨H2.out.2.2.2.gn,H2.out.2.2.2.gf,H2.out.2.2.2.gd,H2.out.2.2.2.gb⟩⟩
 ·have zS:=NX.out
  rw [cs] at zS;replace zS:=zq zS;have OP:=zq (wZ h (vj c));replace ct:=zq ct;clear h hr hl hc NX cs;go_enter Tryz.func158,Tryz.ntmps158
  go_wp2_with fail
  refine (zS.out).mono ?_;rintro e _ ⟨rfl,rfl⟩;go_wp2_with fail
  refine (OP.out).mono ?_;rintro e w1 ⟨rfl,bN,N1,K1⟩;have H1:=zq2 N1 K1;clear N1 K1 OP V7;go_wp2_with fail
  go_end0
  have r:=HN.out.2.1;exact ⟨rfl,_,bN,H1.out.1,H1.out.2,⟨r.dn,r.qi,r.dx,r.gD,r.pU,ct.out,r.on,r.dk,r.cm,r.pid⟩,⟨rfl,rfl,rfl,rfl⟩⟩
end
section
variable {s s':cu} {w w':World} {ah:Nat->Cp} {g k b:Nat} {l:List aD.En}
theorem Kp.jV {an:Nat->Cp} (h:Kp w ah w' an) {A:Option Addr} {n c:Nat} {bs:List UInt8} (hf:iX w (fun q=>ah q=.ext) A n c bs):iX w' (fun q=>an q=.ext) A n c bs :=
 ((hf.mono (G:=fun q=>ah q=.ext/\q < w.heap.size) fun b hb e=>⟨e,hb⟩).mv h.mv fun b _ e hn=>hn e.1).mono fun b _ e=>h.ext b e.2 e.1
def kO (s:cu) (id:Int) (r:Bool):Prop:=rh s 0=id/\id≠0/\r=false/\∀ k,1<=k->k < 4->rh s k≠id
def Fin (l:List aD.En) (s:cu) (bs:List UInt8) (act:List (Int×Int)) (D:Dc.aZ):Prop :=
 ((eH l (s.ic 0) bs).2=0->∃ D1,R0 s.D D1/\D=Dc.bJ D1 (eH l (s.ic 0) bs).1)/\((eH l (s.ic 0) bs).2≠0->act≠[]/\R0 s.D D)
def Oj (l:List aD.En) (s:cu) (bs:List UInt8) (E:Prop) (k:Nat) (act:List (Int×Int)) (D:Dc.aZ):Prop:=E->(k=0->act=s.act/\D=s.D)/\(0 < k->Fin l s bs act D)
def Lj (l:List aD.En) (s:cu) (bs:List UInt8) (E:Prop) (w:World) (ah:Nat->Cp) (k:Nat) (wr:World):Prop:=∃ act D an,Nd { s with act:=act,D:=D } wr an/\Kp w ah wr an/\Dk l D/\Oj l s bs E k act D
theorem Oj.skip {bs:List UInt8} {id:Int} {r:Bool} {act:List (Int×Int)} {D:Dc.aZ} (h:Oj l s bs (kO s id r) k act D) (hn:¬ (rh s k≠0/\rh s k=id/\r=false)):Oj l s bs (kO s id r) (k + 1) act D:=fun e=>by
 refine ⟨fun q=>absurd q (by omega),fun _=>?_⟩;rcases Nat.eq_zero_or_pos k with h0 | h0
 ·subst h0
  exact absurd ⟨by rw [e.1]; exact e.2.1,e.1,e.2.2.1⟩ hn
 ·exact (h e).2 h0
theorem Oj.Pg {bs:List UInt8} {id:Int} {r:Bool} {act act':List (Int×Int)} {D D':Dc.aZ} (h:Oj l s bs (kO s id r) k act D) (hk:k < 4) (he:rh s k=id)
  (h0:(eH l (s.ic k) bs).2=0->∃ D1,R0 D D1/\D'=Dc.bJ D1 (eH l (s.ic k) bs).1) (h1:(eH l (s.ic k) bs).2≠0->act'≠[]/\R0 D D'):Oj l s bs (kO s id r) (k + 1) act' D':=fun e=>by
 refine ⟨fun q=>absurd q (by omega),fun _=>?_⟩;rcases Nat.eq_zero_or_pos k with hz | hz
 ·subst hz
  obtain ⟨_,rfl⟩:=(h e).1 rfl;exact ⟨h0,h1⟩
 ·exact absurd he (e.2.2.2 k hz hk)
theorem Bl (hl:Lk l) (h:Nd s w ah) (hr:mZ l s) (id:Int) (r:Bool) {A:Option Addr} {n c:Nat} {bs:List UInt8} (hb:iX w (fun q=>ah q=.ext) A n c bs) (hn:n<=1000000):Calls Tryz.prog 162 #[.pointer (some ⟨s.gn,0,none⟩),.agg #[.int .i64 id,.bool r,.slice A n c]] w fun e w'=>e=.returned (.tuple #[])/\∃ act D an,Nd { s with act:=act,D:=D } w' an/\Kp w ah w' an/\Dk l D/\(kO s id r->Fin l s bs act D):=by
 obtain ⟨gq,hq⟩:=hr.dn;obtain ⟨ge,he⟩:=hr.gD;have b0:=ae w (.cells #[.int .i64 id,.bool r,.slice A n c] 37);have B0:=ao.new w 37 #[.int .i64 id,.bool r,.slice A n c];have N0:=h.below b0 .ext;have K0:=Kp.below (ah:=ah) b0 .ext;have hb0:=K0.jV hb;have bx:=ay (ah:=ah) (i:=.ext) (show w.heap.size<=w.heap.size/\w.heap.size < (w.alloc (.cells #[.int .i64 id,.bool r,.slice A n c] 37)).heap.size from ⟨Nat.le_refl _,B0.lt⟩);obtain ⟨w0,hw0⟩:∃ x,w.alloc (.cells #[.int .i64 id,.bool r,.slice A n c] 37)=x:=⟨_,rfl⟩;rw [hw0] at b0 B0 N0 K0 bx hb0;generalize aL ah w.heap.size w0.heap.size .ext=eO at *;have HB:=zq4 B0 bx hb0 K0;have HQ:=zq4 hq he hr hl;have c0:w0.cell? ⟨s.gn,5,none⟩=some (.pointer (pa (s.gi 0))):=N0.cm (k:=0) (by decide);have c1:w0.cell? ⟨s.gn,6,none⟩=some (.pointer (pa (s.gi 1))):=N0.cm (k:=1) (by decide);have c2:w0.cell? ⟨s.gn,7,none⟩=some (.pointer (pa (s.gi 2))):=N0.cm (k:=2) (by decide);have c3':w0.cell? ⟨s.gn,8,none⟩=some (.pointer (pa (s.gi 3))):=N0.cm (k:=3) (by decide);have X9:Hid (Lj l s bs (kO s id r) w0 eO 0 w0):=zq ⟨s.act,s.D,eO,N0,Kp.refl _ _,hr.dk,fun _=>⟨fun _=>⟨rfl,rfl⟩,fun h=>absurd h (by omega)⟩⟩;have HM:=zq hn;clear h hq he hr hl hb b0 B0 N0 K0 bx hb0 hn;go_enter Tryz.func162,Tryz.ntmps162
 go_wp2_with fail
 clear c0 c1 c2 c3';go_loopw [12] (fun v wr=>∃ k:Nat,k<=4/\v=.int .i64 k/\Hid (Lj l s bs (kO s id r) w0 eO k wr)) (fun v _=>4 - (intOf v).toNat)
 case atStart=>exact ⟨0,by omega,rfl,X9⟩
 case round =>
  obtain ⟨k,hk,rfl,HR⟩:=hrel;clear X9
  by_cases hlt:k < 4
  ·have tk:decide ((k:Int) < 4)=true:=decide_eq_true (by omega)
   have ix:∀ w:World,(Instr.index 103 (.agg #[.pointer (pa (s.gi 0)),.pointer (pa (s.gi 1)),.pointer (pa (s.gi 2)),.pointer (pa (s.gi 3))]) (.int .i64 (k:Int))).run Tryz.prog w=.ok (.pointer (pa (s.gi k))) w:=PX (fun i=>pa (s.gi i)) hlt;obtain ⟨act,D,pR,NR,KR,dk,dc⟩:=HR.out;have Br:=HB.out.1.mv KR.mv fun e=>e HB.out.2.1
   have f0:=cell_regrown Br.three.1;have f1:=cell_regrown Br.three.2.1;have II:=zq (fun (w1:World) (hb:Below wr.heap.size wr w1)=>(show Calls Tryz.prog 221 #[.pointer (pa (s.gi k))] w1 fun e w'=>e=.returned (.int .i64 (rh s k))/\w1=w' from Ky (NR.below hb .ext) k));have HN:=zq5 NR KR dk dc Br;have HI:=zq (fun (w1:World) (hb:Below wr.heap.size wr w1) (hid:rh s k≠0)=>Bf HQ.out.2.2.2 (NR.below hb .ext) dk.el HQ.out.2.2.1.cm hlt hid (((KR.trans (Kp.below hb .ext)).jV HB.out.2.2.1).rb) lq HM.out);have HL:=zq hlt;obtain ⟨i,hi⟩:∃ i,rh s k=i:=⟨_,rfl⟩;have HE:=zq hi;have Mw:Hid (∀ (w1:World),Below wr.heap.size wr w1->Calls Tryz.prog 221 #[.pointer (pa (s.gi k))] w1 fun e w'=>e=.returned (.int .i64 i)/\w1=w'):=zq (by rw [<- hi]; exact II.out);clear NR KR dk dc Br HR II hi
   by_cases i0:i=0
   ·have HS:Hid (¬ (i≠0/\i=id/\r=false)):=zq fun q=>q.1 i0
    subst i0
    as_aux_lemma =>
     go_wp2_with fail
     refine aN (by kernel_rfl) ?_;refine ai (by kernel_rfl) 13 (af _) [0] rfl (by kernel_rfl) ?_;simp only [aj,nth]
     repeat (go_big_quiet_step (fail))
     refine wpQuiet_nil ?_;refine aH 1 12 rfl (by kernel_rfl) (by decide) ?_;simp only [nth];go_wp2_with fail
     refine (Mw.out _ (af wr)).mono ?_;rintro e _ ⟨rfl,rfl⟩;go_wp2_with fail
     refine aM (af wr) ?_;refine ai (by kernel_rfl) 7 (af wr) [2,3,4,6,7] rfl (by kernel_rfl) ?_;simp only [aj,nth]
     repeat (go_big_quiet_step (fail))
     refine wpQuiet_nil ?_;refine aH 5 6 rfl (by kernel_rfl) (by decide) ?_;simp only [nth];go_wp2_with fail
     refine aM (af wr) ?_;refine ai (by kernel_rfl) 0 (af wr) [8,9,10,11,12,13] rfl (by kernel_rfl) ?_;simp only [aj,nth]
     repeat (go_big_quiet_step (fail))
     refine wpQuiet_nil ?_;refine aK (by kernel_rfl) ?_;have R4:=zq (show Lj l s bs (kO s id _) w0 eO (k + 1) wr.drew from ⟨act,D,pR,HN.out.1.drew,HN.out.2.1.drew,HN.out.2.2.1,HN.out.2.2.2.1.skip (by rw [HE.out]; exact HS.out)⟩);go_wp2_with fail
     go_roundw
     case rel=>exact ⟨k + 1,by omega,by first | rfl | rw [hw] | go_num,R4⟩
     case measure=>(try rw [hw]); simp [intOf]; omega
   ·have t0:(i == 0)=false:=by simpa using i0
    have t0':decide (i=0)=false:=decide_eq_false i0
    by_cases i1:i=id
    ·cases r
     ·have t1:(i != id)=false:=by simp [i1]
      have t1':decide (i=id)=true:=decide_eq_true i1;have i0':=zq i0;have i1':=zq i1;clear i0 i1
      as_aux_lemma =>
       go_wp2_with fail
       refine aN (by kernel_rfl) ?_;refine ai (by kernel_rfl) 13 (af _) [0] rfl (by kernel_rfl) ?_;simp only [aj,nth]
       repeat (go_big_quiet_step (fail))
       refine wpQuiet_nil ?_;refine aH 1 12 rfl (by kernel_rfl) (by decide) ?_;simp only [nth];go_wp2_with fail
       refine (Mw.out _ (af wr)).mono ?_;rintro e _ ⟨rfl,rfl⟩;go_wp2_with fail
       refine aM (af wr) ?_;refine ai (by kernel_rfl) 7 (af wr) [2,3,4,6,7] rfl (by kernel_rfl) ?_;simp only [aj,nth]
       repeat (go_big_quiet_step (fail))
       refine wpQuiet_nil ?_;refine aH 5 6 rfl (by kernel_rfl) (by decide) ?_;simp only [nth];go_wp2_with fail
       refine (Mw.out _ (af wr)).mono ?_;rintro e _ ⟨rfl,rfl⟩;go_wp2_with fail
       refine aM (af wr) ?_;refine ai (by kernel_rfl) 0 (af wr) [8,9,10,11,12,13] rfl (by kernel_rfl) ?_;simp only [aj,nth]
       repeat (go_big_quiet_step (fail))
       refine wpQuiet_nil ?_;refine aK (by kernel_rfl) ?_;have X_:rh s k=id:=HE.out.trans i1'.out;have IR:Calls Tryz.prog 222 #[.pointer (pa (s.gi k)),.agg #[.int .i64 id,.bool false,.slice A n c]] wr.drew (Ot { s with act:=act,D:=D } (eH l (s.ic k) bs) wr.drew (aL pR wr.heap.size wr.drew.heap.size .ext)):=by
        have q:=HI.out wr.drew (af wr) (by rw [HE.out]; exact i0'.out);rw [show rh { s with act:=act,D:=D } k=id from X_] at q;exact q
       have G3:=(HN.out.2.2.2.2.later (af wr)).three;have HV:=zq (fun v (hv:v∈(eH l (s.ic k) bs).1)=>JV l (s.ic k) bs v hv);have HH:=zq (fun (act':List (Int×Int)) (D':Dc.aZ) h0 h1=>HN.out.2.2.2.1.Pg (act':=act') (D':=D') hlt X_ h0 h1);have rc:=Il l (s.ic k) bs;generalize eH l (s.ic k) bs=x at *;obtain ⟨vals,code⟩:=x;dsimp only at rc;have KD:=zq (HN.out.2.1.trans (Kp.below (af wr) .ext));have DK:=zq HN.out.2.2.1;replace IR:=zq IR;clear HN HI f0 f1 Mw;go_wp2_with fail
       refine (IR.out).mono ?_;rintro e w5 ⟨A5,c5,fv,rfl,V8,N5,K5⟩;dsimp only at V8;have b6:=ae w5 (.cells #[.slice A5 vals.length c5,.int .i64 code] 293);have B6:=ao.new w5 293 #[.slice A5 vals.length c5,.int .i64 code];have N6:=N5.below b6 .ext;have K6:=(KD.out.trans K5).trans (Kp.below b6 .ext);have Ya:=(Kp.below (ah:=fv) b6 .ext).dX V8;have Yb:=ay (ah:=fv) (i:=.ext) (show w5.heap.size<=w5.heap.size/\w5.heap.size < (w5.alloc (.cells #[.slice A5 vals.length c5,.int .i64 code] 293)).heap.size from ⟨Nat.le_refl _,B6.lt⟩);generalize aL fv w5.heap.size (w5.alloc (.cells #[.slice A5 vals.length c5,.int .i64 code] 293)).heap.size .ext=gA at *;have G6:=B6.two;have H6:=zq5 N6 K6 Ya B6 Yb;clear N5 K5 V8 b6 N6 K6 Ya B6 Yb IR G3;go_upto_region 6 with fail
       generalize w5.alloc (.cells #[.slice A5 vals.length c5,.int .i64 code] 293)=w6 at *;rcases rc with rfl | rfl | rfl
       ·have CA:=f_ H6.out.1 (gq:=gq) (g:=ge) HQ.out.1 HQ.out.2.1 HQ.out.2.2.1.st (DK.out.nR HQ.out.2.2.2) 33296 (k:Int)
        dsimp only at CA;replace CA:=zq CA;go_wp2_with fail
        refine (CA.out).mono ?_;rintro e w7 ⟨rfl,Du,D7,kK,_,N7,K7,r7⟩;dsimp only at N7 r7;have CB:=f_ N7 (gq:=gq) (g:=ge) HQ.out.1 HQ.out.2.1 HQ.out.2.2.1.st (by dsimp only; rw [r7.l]; exact DK.out.nR HQ.out.2.2.2) 25344 (k:Int);dsimp only at CB;replace CB:=zq CB;have H7:=zq2 K7 r7;clear N7 K7 r7 CA;go_wp2_with fail
        refine (CB.out).mono ?_;rintro e w8 ⟨rfl,V9,D8,vM,_,N8,K8,r8⟩;dsimp only at N8 r8;have Uo:=H7.out.1.trans K8;have G8:=(H6.out.2.2.2.1.mv Uo.mv fun e=>e H6.out.2.2.2.2).two;have Yc:=Uo.dX H6.out.2.2.1;have SE:=ry N8 (Yc.mono fun q _ e=>by rw [e]; intro e; cases e) (fun v hv=>by have:=Mp.jY _ _ _ v (HV.out v hv); omega);dsimp only at SE;replace SE:=zq SE;have H8:=zq2 (H6.out.2.1.trans Uo) (H7.out.2.trans r8);clear N8 K8 r8 Uo Yc CB H7 G6 H6;go_wp2_with fail
        refine (SE.out).mono ?_;rintro e w9 ⟨rfl,IM,N9,K9,_⟩;have R9:=zq (show Lj l s bs (kO s id _) w0 eO (k + 1) w9 from ⟨V9,_,IM,N9,H8.out.1.trans K9,(DK.out.r0 H8.out.2).yH vals fun v hv=>.inl (jN HQ.out.2.2.2 v (HV.out v hv)),HH.out _ _ (fun _=>⟨D8,H8.out.2,rfl⟩) (fun q=>absurd rfl q)⟩);clear N9 K9 SE H8 G8;go_wp2_with fail
        go_roundw
        case rel=>exact ⟨k + 1,by omega,by first | rfl | rw [hw] | go_num,R9⟩
        case measure=>(try rw [hw]); simp [intOf]; omega
       ·have RA:=zq (iJ H6.out.1 (gq:=gq) (g:=ge) HQ.out.1 HQ.out.2.1 HQ.out.2.2.1.st (DK.out.nR HQ.out.2.2.2) 33296 k (by decide) (by decide) (by omega))
        go_wp2_with fail
        refine (RA.out).mono ?_;rintro e w7 ⟨rfl,Du,D7,kK,hne,N7,K7,r7⟩;dsimp only at N7 r7;have R7:=zq (show Lj l s bs (kO s id _) w0 eO (k + 1) w7 from ⟨Du,D7,kK,N7,H6.out.2.1.trans K7,DK.out.r0 r7,HH.out _ _ (fun q=>absurd q (by decide)) (fun _=>⟨hne,r7⟩)⟩);clear N7 K7 r7 RA H6 G6;go_wp2_with fail
        go_roundw
        case rel=>exact ⟨k + 1,by omega,by first | rfl | rw [hw] | go_num,R7⟩
        case measure=>(try rw [hw]); simp [intOf]; omega
       ·have RA:=zq (iJ H6.out.1 (gq:=gq) (g:=ge) HQ.out.1 HQ.out.2.1 HQ.out.2.2.1.st (DK.out.nR HQ.out.2.2.2) 25344 k (by decide) (by decide) (by omega))
        go_wp2_with fail
        refine (RA.out).mono ?_;rintro e w7 ⟨rfl,Du,D7,kK,hne,N7,K7,r7⟩;dsimp only at N7 r7;have R7:=zq (show Lj l s bs (kO s id _) w0 eO (k + 1) w7 from ⟨Du,D7,kK,N7,H6.out.2.1.trans K7,DK.out.r0 r7,HH.out _ _ (fun q=>absurd q (by decide)) (fun _=>⟨hne,r7⟩)⟩);clear N7 K7 r7 RA H6 G6;go_wp2_with fail
        go_roundw
        case rel=>exact ⟨k + 1,by omega,by first | rfl | rw [hw] | go_num,R7⟩
        case measure=>(try rw [hw]); simp [intOf]; omega
     ·have HS:Hid (¬ (i≠0/\i=id/\true=false)):=zq fun q=>by cases q.2.2
      have t1:(i != id)=false:=by simp [i1]
      have t1':decide (i=id)=true:=decide_eq_true i1;clear i0 i1
      as_aux_lemma =>
       go_wp2_with fail
       refine aN (by kernel_rfl) ?_;refine ai (by kernel_rfl) 13 (af _) [0] rfl (by kernel_rfl) ?_;simp only [aj,nth]
       repeat (go_big_quiet_step (fail))
       refine wpQuiet_nil ?_;refine aH 1 12 rfl (by kernel_rfl) (by decide) ?_;simp only [nth];go_wp2_with fail
       refine (Mw.out _ (af wr)).mono ?_;rintro e _ ⟨rfl,rfl⟩;go_wp2_with fail
       refine aM (af wr) ?_;refine ai (by kernel_rfl) 7 (af wr) [2,3,4,6,7] rfl (by kernel_rfl) ?_;simp only [aj,nth]
       repeat (go_big_quiet_step (fail))
       refine wpQuiet_nil ?_;refine aH 5 6 rfl (by kernel_rfl) (by decide) ?_;simp only [nth];go_wp2_with fail
       refine (Mw.out _ (af wr)).mono ?_;rintro e _ ⟨rfl,rfl⟩;go_wp2_with fail
       refine aM (af wr) ?_;refine ai (by kernel_rfl) 0 (af wr) [8,9,10,11,12,13] rfl (by kernel_rfl) ?_;simp only [aj,nth]
       repeat (go_big_quiet_step (fail))
       refine wpQuiet_nil ?_;refine aK (by kernel_rfl) ?_;have R4:=zq (show Lj l s bs (kO s id _) w0 eO (k + 1) wr.drew from ⟨act,D,pR,HN.out.1.drew,HN.out.2.1.drew,HN.out.2.2.1,HN.out.2.2.2.1.skip (by rw [HE.out]; exact HS.out)⟩);go_wp2_with fail
       go_roundw
       case rel=>exact ⟨k + 1,by omega,by first | rfl | rw [hw] | go_num,R4⟩
       case measure=>(try rw [hw]); simp [intOf]; omega
    ·have HS:Hid (¬ (i≠0/\i=id/\r=false)):=zq fun q=>i1 q.2.1
     have t1:(i != id)=true:=by simpa using i1
     have t1':decide (i=id)=false:=decide_eq_false i1;clear i0 i1
     as_aux_lemma =>
      go_wp2_with fail
      refine aN (by kernel_rfl) ?_;refine ai (by kernel_rfl) 13 (af _) [0] rfl (by kernel_rfl) ?_;simp only [aj,nth]
      repeat (go_big_quiet_step (fail))
      refine wpQuiet_nil ?_;refine aH 1 12 rfl (by kernel_rfl) (by decide) ?_;simp only [nth];go_wp2_with fail
      refine (Mw.out _ (af wr)).mono ?_;rintro e _ ⟨rfl,rfl⟩;go_wp2_with fail
      refine aM (af wr) ?_;refine ai (by kernel_rfl) 7 (af wr) [2,3,4,6,7] rfl (by kernel_rfl) ?_;simp only [aj,nth]
      repeat (go_big_quiet_step (fail))
      refine wpQuiet_nil ?_;refine aH 5 6 rfl (by kernel_rfl) (by decide) ?_;simp only [nth];go_wp2_with fail
      refine (Mw.out _ (af wr)).mono ?_;rintro e _ ⟨rfl,rfl⟩;go_wp2_with fail
      refine aM (af wr) ?_;refine ai (by kernel_rfl) 0 (af wr) [8,9,10,11,12,13] rfl (by kernel_rfl) ?_;simp only [aj,nth]
      repeat (go_big_quiet_step (fail))
      refine wpQuiet_nil ?_;refine aK (by kernel_rfl) ?_;have R4:=zq (show Lj l s bs (kO s id _) w0 eO (k + 1) wr.drew from ⟨act,D,pR,HN.out.1.drew,HN.out.2.1.drew,HN.out.2.2.1,HN.out.2.2.2.1.skip (by rw [HE.out]; exact HS.out)⟩);go_wp2_with fail
      go_roundw
      case rel=>exact ⟨k + 1,by omega,by first | rfl | rw [hw] | go_num,R4⟩
      case measure=>(try rw [hw]); simp [intOf]; omega
  ·go_wp2_with fail
   go_end0
   obtain rfl:k=4:=by omega
   obtain ⟨act,D,pR,NR,KR,dk,dc⟩:=HR.out;exact ⟨rfl,act,D,pR,NR,HB.out.2.2.2.trans KR,dk,fun e=>(dc e).2 (by decide)⟩
end
section
variable {s s':cu} {w w':World} {ah:Nat->Cp} {g k b:Nat} {l:List aD.En}
def rD (s:cu) (id:Int) (r:Bool):Prop:=id < 1792/\id≠s.pid/\kO s id r
def J9 (l:List aD.En) (s:cu) (bs:List UInt8) (act:List (Int×Int)) (D:Dc.aZ):Prop:=(s.st=5->Fin l s bs act D)/\(s.st≠5->act=s.act/\D=s.D)
def wH (l:List aD.En) (s:cu) (bs:List UInt8) (X:Prop) (w:World) (ah:Nat->Cp) (k:Nat) (wr:World):Prop:=∃ act D an,Nd { s with act:=act,D:=D } wr an/\Kp w ah wr an/\Dk l D/\(X->(k<=3->act=s.act/\D=s.D)/\(k=4->J9 l s bs act D))
def Q_ (l:List aD.En) (s:cu) (bs:List UInt8) (X:Prop) (w:World) (ah:Nat->Cp) (e:Ending) (w':World):Prop:=(∃ z,e=.returned (.int .i64 z))/\∃ s' an,Nd s' w' an/\Kp w ah w' an/\mZ l s'/\Pl s s'/\(X->∃ act D,s'={ s with act:=act,D:=D }/\J9 l s bs act D)
def lO (k:Nat):Int:=if k=0 then 5 else if k=1 then 2 else if k=2 then 3 else 1
def ML (k:Nat):FuncId:=if k=0 then 159 else if k=1 then 160 else if k=2 then 161 else 162
def Qq (gn k:Nat):Value:=.func (.func (ML k)) #[.pointer (some ⟨gn,0,none⟩)] #[]
def uZ (gn:Nat):Array Value:=#[.int .i64 5,Qq gn 0,.int .i64 2,Qq gn 1,.int .i64 3,Qq gn 2,.int .i64 1,Qq gn 3]
theorem F_ (gn:Nat) {k:Nat} (hk:k < 4):(uZ gn)[0 + k * 2]?=some (.int .i64 (lO k))/\(uZ gn)[0 + k * 2 + 1]?=some (Qq gn k):=by
 rcases k with _ | _ | _ | _ | k
 ·exact ⟨rfl,rfl⟩
 ·exact ⟨rfl,rfl⟩
 ·exact ⟨rfl,rfl⟩
 ·exact ⟨rfl,rfl⟩
 ·omega
theorem Na {k:Nat} (hk:k < 4):∀ (args:Array Value) (w:World),(callFunc (ML k) args).run Tryz.prog w=.ok (.enter (ML k) args) w:=fun args w=>by
 rcases k with _ | _ | _ | _ | k
 ·kernel_rfl
 ·kernel_rfl
 ·kernel_rfl
 ·kernel_rfl
 ·omega
theorem MH {k:Nat} (hk:k < 4):qe (lO k):=by
 rcases k with _ | _ | _ | _ | k
 all_goals first | (unfold qe lO; decide) | omega
theorem mZ.q_ (h:mZ l s) {act:List (Int×Int)} {D:Dc.aZ} (hd:Dk l D):mZ l { s with act:=act,D:=D }:=⟨h.dn,h.qi,h.dx,h.gD,h.pU,h.st,h.on,hd,h.cm,h.pid⟩
theorem Fb {st:Int} (h:gJ st 1=true):st=5:=by
 unfold gJ at h;simpa using h
theorem J8 (hl:Lk l) (hr:mZ l s) {id:Int} {r:Bool} (hid:id≠1541) {A:Option Addr} {n c:Nat} {bs:List UInt8} (hn:n<=1000000) {X:Prop} (hX:X->rD s id r) {w1:World} (hk:k < 4) (hb:iX w (fun q=>ah q=.ext) A n c bs) (hI:wH l s bs X w ah k w1) (hv:gJ s.st (lO k)=true):Calls Tryz.prog (ML k) #[.pointer (some ⟨s.gn,0,none⟩),.agg #[.int .i64 id,.bool r,.slice A n c]] w1 fun e w'=>e=.returned (.tuple #[])/\wH l s bs X w ah (k + 1) w':=by
 obtain ⟨gq,hq⟩:=hr.dn;obtain ⟨ge,he⟩:=hr.gD;obtain ⟨gh,hh⟩:=hr.dx;obtain ⟨gs,hs⟩:=hr.qi;obtain ⟨act,D,bN,N1,K1,dk,hx⟩:=hI;have hb1:=K1.jV hb;rcases k with _ | _ | _ | _ | k
 ·refine (AX N1 (gq:=gq) (ge:=ge) (g:=gh) hq he hh hr.st (dk.nR hl) id r hb1.rb lq).mono ?_
  rintro e w2 ⟨rfl,⟨tp,D2,bA,N2,K2,r2⟩,h0⟩;refine ⟨rfl,?_⟩
  by_cases x:X
  ·obtain ⟨rfl,rfl⟩:=(hx x).1 (by decide)
   obtain ⟨dm,N3,K3⟩:=h0 (hX x).1;exact ⟨s.act,s.D,dm,N3,K1.trans K3,dk,fun _=>⟨fun _=>⟨rfl,rfl⟩,fun h=>absurd h (by decide)⟩⟩
  ·exact ⟨tp,D2,bA,N2,K1.trans K2,dk.r0 r2,fun h=>absurd h x⟩
 ·refine (JA N1 (gq:=gq) (gs:=gs) hq hs id r A n c hid).mono ?_
  rintro e w2 ⟨rfl,bA,N2,K2⟩;exact ⟨rfl,act,D,bA,N2,K1.trans K2,dk,fun x=>⟨fun _=>(hx x).1 (by decide),fun h=>absurd h (by decide)⟩⟩
 ·refine (Am hl N1 (hr.q_ dk) id r hb1.rb lq).mono ?_
  rintro e w2 ⟨rfl,tp,D2,bA,N2,K2,dk2,h2⟩;refine ⟨rfl,tp,D2,bA,N2,K1.trans K2,dk2,fun x=>⟨fun _=>?_,fun h=>absurd h (by decide)⟩⟩;obtain ⟨e1,e2⟩:=h2 (hX x).2.1;obtain ⟨e3,e4⟩:=(hx x).1 (by decide);exact ⟨e1.trans e3,e2.trans e4⟩
 ·refine (Bl hl N1 (hr.q_ dk) id r hb1 hn).mono ?_
  rintro e w2 ⟨rfl,tp,D2,bA,N2,K2,dk2,h2⟩;refine ⟨rfl,tp,D2,bA,N2,K1.trans K2,dk2,fun x=>⟨fun h=>absurd h (by decide),fun _=>?_⟩⟩;obtain ⟨rfl,rfl⟩:=(hx x).1 (by decide);exact ⟨fun _=>h2 (hX x).2.2,fun h=>absurd (Fb hv) h⟩
 ·omega
theorem wH.skip {bs:List UInt8} {X:Prop} {w1:World} (hk:k < 4) (hI:wH l s bs X w ah k w1) (hv:gJ s.st (lO k)=false):wH l s bs X w ah (k + 1) w1:=by
 obtain ⟨act,D,bN,N1,K1,dk,hx⟩:=hI;refine ⟨act,D,bN,N1,K1,dk,fun x=>⟨fun h=>(hx x).1 (by omega),fun h=>?_⟩⟩;obtain rfl:k=3:=by omega
 refine ⟨fun h5=>?_,fun _=>(hx x).1 (by decide)⟩;rw [h5] at hv;cases hv
theorem wH.below {bs:List UInt8} {X:Prop} {w1 w2:World} (hI:wH l s bs X w ah k w1) (hb:Below w1.heap.size w1 w2):wH l s bs X w ah k w2:=by
 obtain ⟨act,D,bN,N1,K1,dk,hx⟩:=hI;exact ⟨act,D,_,N1.below hb .ext,K1.trans (Kp.below hb .ext),dk,hx⟩
theorem wH.frame {bs:List UInt8} {X:Prop} {w1:World} (hI:wH l s bs X w ah k w1) {t:TypeId} {cs:Array Value} (hB:ao w b t cs) (hc:ah b=.ext):ao w1 b t cs:=by
 obtain ⟨act,D,bN,N1,K1,dk,hx⟩:=hI;exact hB.mv K1.mv fun e=>e hc
theorem wH.Ng {bs:List UInt8} {X:Prop} {w1:World} (hI:wH l s bs X w ah k w1) (hs:tu s.st) (hk:k < 4):Calls Tryz.prog 163 #[.pointer (some ⟨s.gn,0,none⟩),.int .i64 (lO k)] w1 fun e w'=>e=.returned (.bool (gJ s.st (lO k)))/\w1=w':=by
 obtain ⟨act,D,bN,N1,K1,dk,hx⟩:=hI;exact dO N1 hs (lO k) (MH hk)
theorem Dd (hl:Lk l) (h:Nd s w ah) (hr:mZ l s) (id:Int) (r:Bool) (hid:id≠1541) {A:Option Addr} {n c:Nat} {bs:List UInt8} (hb:iX w (fun q=>ah q=.ext) A n c bs) (hn:n<=1000000) {X:Prop} (hX:X->rD s id r/\id≠0/\Can.cb id r n=0):Calls Tryz.prog 114 #[.pointer (some ⟨s.gn,0,none⟩),.agg #[.int .i64 id,.bool r,.slice A n c]] w (Q_ l s bs X w ah):=by
 obtain ⟨gq,hq⟩:=hr.dn;obtain ⟨ge,he⟩:=hr.gD;obtain ⟨gh,hh⟩:=hr.dx;obtain ⟨gs,hs⟩:=hr.qi;have b0:=ae w (.cells #[.int .i64 id,.bool r,.slice A n c] 37);have B0:=ao.new w 37 #[.int .i64 id,.bool r,.slice A n c];have N0:=h.below b0 .ext;have K0:=Kp.below (ah:=ah) b0 .ext;have hb0:=K0.jV hb;have bx:=ay (ah:=ah) (i:=.ext) (show w.heap.size<=w.heap.size/\w.heap.size < (w.alloc (.cells #[.int .i64 id,.bool r,.slice A n c] 37)).heap.size from ⟨Nat.le_refl _,B0.lt⟩);obtain ⟨w0,hw0⟩:∃ x,w.alloc (.cells #[.int .i64 id,.bool r,.slice A n c] 37)=x:=⟨_,rfl⟩;rw [hw0] at b0 B0 N0 K0 bx hb0;generalize aL ah w.heap.size w0.heap.size .ext=eO at *;have G0:=B0.three;have FC:=zq (gH (A:=A) (n:=n) (c:=c) id r w0 (by omega));have HB:=zq4 B0 bx hb0 K0;have HQ:=zq6 hq he hr hl hh hs;have HN:=zq3 N0 hn hid;clear h hq he hr hl hb b0 B0 N0 K0 bx hb0 hn hh hs hid;obtain ⟨z,hz⟩:∃ z,Can.cb id r n=z:=⟨_,rfl⟩;rw [hz] at FC hX;have HX:=zq hX;clear hX hz
 by_cases hz0:z=0
 ·subst hz0
  go_enter Tryz.func114,Tryz.ntmps114
  go_wp2_with fail
  refine (FC.out).mono ?_;rintro e w1 ⟨rfl,b1⟩;have N1:=HN.out.1.below b1 .ext;have K1:=HB.out.2.2.2.trans (Kp.below b1 .ext);have hb1:=(Kp.below (ah:=eO) b1 .ext).jV HB.out.2.2.1;have B1:=HB.out.1.later b1;have bx1:aL eO w0.heap.size w1.heap.size .ext w.heap.size=.ext:=(Kp.below (ah:=eO) b1 .ext).ext _ HB.out.1.lt HB.out.2.1;generalize aL eO w0.heap.size w1.heap.size .ext=bN at *;have N2:=N1.drew;have B2:=B1.later (Below.refl _ w1).drew;have S2:=zq (show dV s.gn (aG s) w.heap.size (c3 (.int .i64 id) (.bool r) (.slice A n c)) w1.drew from (by have q:=dV.of N2 B2; exact q));have V_:∀ x:Wc (dV s.gn (aG s) w.heap.size (c3 (.int .i64 id) (.bool r) (.slice A n c))),x.val.cell? ⟨s.gn,13,none⟩=some (.int .i64 5):=fun x=>x.ok.1 13 _ rfl
  have y0:∀ x:Wc (dV s.gn (aG s) w.heap.size (c3 (.int .i64 id) (.bool r) (.slice A n c))),x.val.cell? ⟨w.heap.size,0,none⟩=some (.int .i64 id):=fun x=>x.ok.2 0 _ rfl
  have y1:∀ x:Wc (dV s.gn (aG s) w.heap.size (c3 (.int .i64 id) (.bool r) (.slice A n c))),x.val.cell? ⟨w.heap.size,1,none⟩=some (.bool r):=fun x=>x.ok.2 1 _ rfl
  have y2:∀ x:Wc (dV s.gn (aG s) w.heap.size (c3 (.int .i64 id) (.bool r) (.slice A n c))),x.val.cell? ⟨w.heap.size,2,none⟩=some (.slice A n c):=fun x=>x.ok.2 2 _ rfl
  have CM:=zq (uI id r w1.drew (hb1.rb.below (Below.refl _ w1).drew) lq);have H1:=zq5 N2 K1.drew ((Kp.refl w1 bN).drew.jV hb1) B2 bx1;clear N1 N2 K1 hb1 B1 B2 bx1 b1 HB G0;go_wp2_with fail
  haveI cg:Nonempty (Wc (dV s.gn (aG s) w.heap.size (c3 (.int .i64 id) (.bool r) (.slice A n c)))):=⟨⟨_,S2.out⟩⟩;refine aW 99 (dV s.gn (aG s) w.heap.size (c3 (.int .i64 id) (.bool r) (.slice A n c))) (by kernel_rfl) ?_;refine aw (by kernel_rfl) 6 S2.out [0,1,2,3,4] rfl (by kernel_rfl) ?_;simp only [aj,nth]
  repeat (go_big_quiet_step (fail))
  refine wpQuiet_nil ?_;refine ag 5 5 rfl (by kernel_rfl) (by decide) ?_;simp only [nth];go_wp2_with fail
  refine (CM.out).mono ?_;rintro e w3 ⟨cc,ok,rfl,hok,b3⟩;have N3:=H1.out.1.below b3 .ext;have K3:=H1.out.2.1.trans (Kp.below b3 .ext);have hb3:=(Kp.below (ah:=bN) b3 .ext).jV H1.out.2.2.1;have B3:=H1.out.2.2.2.1.later b3;have Td:aL bN w1.drew.heap.size w3.heap.size .ext w.heap.size=.ext:=(Kp.below (ah:=bN) b3 .ext).ext _ H1.out.2.2.2.1.lt H1.out.2.2.2.2;generalize aL bN w1.drew.heap.size w3.heap.size .ext=dm at *;have S3:=zq (show dV s.gn (aG s) w.heap.size (c3 (.int .i64 id) (.bool r) (.slice A n c)) w3 from (by have q:=dV.of N3 B3; exact q));have H3:=zq5 N3 K3 hb3 B3 Td;replace hok:=zq hok;clear N3 K3 hb3 B3 Td b3 CM H1;go_wp2_with fail
  refine az S3.out ?_;refine aw (by kernel_rfl) 0 S3.out [6,7,8,9,10] rfl (by kernel_rfl) ?_;simp only [aj,nth]
  repeat (go_big_quiet_step (fail))
  refine wpQuiet_nil ?_;refine au (by kernel_rfl) ?_;clear V_ y0 y1 y2 S2 S3 cg;cases ok
  ·go_wp2_with fail
   have b4:=ae w3 (.cells (uZ s.gn) 237);have B4:=ao.new w3 237 (uZ s.gn);have N4:=H3.out.1.below b4 .ext;have K4:=Kp.below (ah:=dm) b4 .ext;have hb4:=K4.jV H3.out.2.2.1;have F4:=H3.out.2.2.2.1.later b4;have Yd:=K4.ext _ H3.out.2.2.2.1.lt H3.out.2.2.2.2;have Ye:=ay (ah:=dm) (i:=.ext) (show w3.heap.size<=w3.heap.size/\w3.heap.size < (w3.alloc (.cells (uZ s.gn) 237)).heap.size from ⟨Nat.le_refl _,B4.lt⟩);change Code.wp _ _ _ _ (w3.alloc (.cells (uZ s.gn) 237));generalize aL dm w3.heap.size (w3.alloc (.cells (uZ s.gn) 237)).heap.size .ext=fF at *;have KK:=H3.out.2.1.trans K4;generalize w3.alloc (.cells (uZ s.gn) 237)=w4 at *;have R4:Hid (wH l s bs X w4 fF 0 w4):=zq ⟨s.act,s.D,fF,N4,Kp.refl _ _,HQ.out.2.2.1.dk,fun _=>⟨fun _=>⟨rfl,rfl⟩,fun h=>absurd h (by decide)⟩⟩;have H4:=zq6 KK hb4 F4 Yd B4 Ye;clear KK N4 K4 hb4 F4 Yd Ye B4 b4 H3;go_loopw [42] (fun v wr=>∃ k:Nat,k<=4/\v=.int .i64 k/\Hid (wH l s bs X w4 fF k wr)) (fun v _=>4 - (intOf v).toNat)
   case atStart=>exact ⟨0,by omega,rfl,R4⟩
   case round =>
    obtain ⟨k,hk,rfl,HR⟩:=hrel;clear R4
    by_cases hlt:k < 4
    ·have tk:decide ((k:Int) < 4)=true:=decide_eq_true (by omega)
     have B5:=HR.out.frame H4.out.2.2.2.2.1 H4.out.2.2.2.2.2;have q0:wr.cell? ⟨w3.heap.size,0 + k * 2,none⟩=some (.int .i64 (lO k)):=(B5.cell _).trans (F_ s.gn hlt).1;have q1:wr.cell? ⟨w3.heap.size,0 + k * 2 + 1,none⟩=some (.func (.func (ML k)) #[.pointer (some ⟨s.gn,0,none⟩)] #[]):=(B5.cell _).trans (F_ s.gn hlt).2;rw [Nat.zero_add] at q0 q1;have b6:=ae wr (.cells #[.int .i64 (lO k),.func (.func (ML k)) #[.pointer (some ⟨s.gn,0,none⟩)] #[]] 237);have B6:=(ao.new wr 237 #[.int .i64 (lO k),.func (.func (ML k)) #[.pointer (some ⟨s.gn,0,none⟩)] #[]]).two;have T6:=HR.out.below b6;have F6:=(T6.frame H4.out.2.2.1 H4.out.2.2.2.1).three;have fr:=Na hlt;have SV:=T6.Ng HQ.out.2.2.1.st hlt;have DO:=zq (fun hv=>J8 HQ.out.2.2.2.1 HQ.out.2.2.1 HN.out.2.2 HN.out.2.1 (fun x=>(HX.out x).1) hlt H4.out.2.1 T6 hv);have SK:=zq (fun hv=>wH.skip hlt T6 hv);generalize gJ s.st (lO k)=sv at *;replace SV:=zq SV;clear T6 b6 HR B5;generalize lO k=sk at *;go_wp2_with fail
     refine (SV.out).mono ?_;rintro e _ ⟨rfl,rfl⟩;cases sv
     ·have R7:=zq (SK.out rfl)
      go_wp2_with fail
      go_roundw
      case rel=>exact ⟨k + 1,by omega,by first | rfl | rw [hw] | go_num,R7⟩
      case measure=>(try rw [hw]); simp [intOf]; omega
     ·have DD:=zq (DO.out rfl)
      go_wp2_with fail
      refine (DD.out).mono ?_;rintro e w7 ⟨rfl,T7⟩;have R7:=zq T7;clear T7 DD DO SK;go_wp2_with fail
      go_roundw
      case rel=>exact ⟨k + 1,by omega,by first | rfl | rw [hw] | go_num,R7⟩
      case measure=>(try rw [hw]); simp [intOf]; omega
    ·obtain rfl:k=4:=by omega
     go_wp2_with fail
     go_ret
     obtain ⟨act,D,fv,N5,K5,Te,hx5⟩:=HR.out;exact ⟨⟨_,rfl⟩,_,fv,N5,H4.out.1.trans K5,HQ.out.2.2.1.q_ Te,⟨rfl,rfl,rfl,rfl⟩,fun x=>⟨act,D,rfl,(hx5 x).2 rfl⟩⟩
  ·have CO:=zq (sO HQ.out.2.2.2.1 H3.out.1 HQ.out.2.2.1 cc (by first | exact (hok.out rfl).2 | exact (hok.out trivial).2))
   go_wp2_with fail
   refine (CO.out).mono ?_;rintro e w4 ⟨rfl,s4,fF,N4,K4,r4,p4⟩;have H4:=zq4 N4 (H3.out.2.1.trans K4) r4 p4;clear N4 K4 r4 p4 CO;go_wp2_with fail
   go_ret
   exact ⟨⟨_,rfl⟩,s4,fF,H4.out.1,H4.out.2.1,H4.out.2.2.1,H4.out.2.2.2,fun x=>absurd (by first | exact (hok.out rfl).1 | exact (hok.out trivial).1) (HX.out x).2.1⟩
 ·have FCB:=FC
  go_enter Tryz.func114,Tryz.ntmps114
  have e1:(z == 0)=false:=by simpa using hz0
  have e2:(z != 0)=true:=by simpa using hz0
  have e3:decide (z=0)=false:=decide_eq_false hz0;replace hz0:=zq hz0;go_wp2_with fail
  refine (FC.out).mono ?_;rintro e w1 ⟨rfl,b1⟩;have N1:=HN.out.1.below b1 .ext;have K1:=HB.out.2.2.2.trans (Kp.below b1 .ext);replace N1:=zq N1;replace K1:=zq K1;go_wp2_with fail
  go_ret
  exact ⟨⟨_,rfl⟩,s,_,N1.out,K1.out,HQ.out.2.2.1,Pl.refl _,fun x=>absurd (HX.out x).2.2 hz0.out⟩
end
end Nn
end Go.Proofs.YtijegngfclkdaaaGreatDoor
