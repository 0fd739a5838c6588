/-
  Piece 32 of the proof.
  Conditions: none.
-/
import Derived.LaidEql
import Derived.Stop.Asserts
import Derived.RowKitTokens
import Derived.Test.YtijegngfclkdaaaGreatDoorQ31
set_option linter.unusedVariables false
set_option linter.unusedSimpArgs false
set_option maxHeartbeats 100000000
set_option maxRecDepth 100000
namespace Go.Proofs.YtijegngfclkdaaaGreatDoor
section
open Go.RowKit
section
variable {w w':World} {F:Nat->Prop} {gv gj gl c gf cs:Nat} {A As:Option Addr} {xs:List Value} {x:UF}
set_option maxRecDepth 100000
set_option maxHeartbeats 2000000
theorem kI (h:AQ w F gv gj gl A c xs gf As cs x):Calls Tryz.prog 137 #[.pointer (some ⟨gv,0,none⟩)] w fun e w'=>e=.returned (.bool true)/\w=w':=by
 have F:=h.four;clear h;go_enter Tryz.func137,Tryz.ntmps137
 go_wp2_with fail
 go_ret
 exact ⟨rfl,rfl⟩
theorem FT (h:AQ w F gv gj gl A c xs gf As cs x):Calls Tryz.prog 97 #[.pointer (some ⟨gv,0,none⟩)] w fun e w'=>e=.returned (.bool x.odd)/\w=w':=by
 have F:=h.four;have TH:=zq (kI h);clear h;go_enter Tryz.func97,Tryz.ntmps97
 go_wp2_with fail
 refine (TH.out).mono ?_;rintro e _ ⟨rfl,rfl⟩;go_wp2_with fail
 go_ret
 exact ⟨rfl,rfl⟩
theorem GH (h:AQ w F gv gj gl A c xs gf As cs x):Calls Tryz.prog 110 #[.pointer (some ⟨gv,0,none⟩)] w fun e w'=>e=.returned (.bool x.off)/\w=w':=by
 have F:=h.four;have TH:=zq (kI h);clear h;go_enter Tryz.func110,Tryz.ntmps110
 go_wp2_with fail
 refine (TH.out).mono ?_;rintro e _ ⟨rfl,rfl⟩;go_wp2_with fail
 go_ret
 exact ⟨rfl,rfl⟩
end
section
set_option maxRecDepth 100000
set_option maxHeartbeats 2000000
end
theorem An {w w1 w2:World} {gj gl c gf:Nat} {A:Option Addr} {xs:List Value} {L:List Jr.eW} {now:Nat} {has odd:Bool} {As:Option Addr} {cs:Nat} {vs:List Dc.Vl}
  (b1:Below w.heap.size w w1) (J:vQ w1 (fun q=>w.heap.size<=q) gj gl A c xs L now has gf false) (hm:Mv (fun q=>q=w1.heap.size) w1 w2) (hb:ao w2 w1.heap.size 215 (Xd gj As vs.length cs odd false)) (hv:jU w2 (fun q=>w1.heap.size < q) As vs.length cs vs) (hL:0 < L.length) :
  Below w.heap.size w w2/\AQ w2 (fun q=>w.heap.size<=q) w1.heap.size gj gl A c xs gf As cs ⟨L,now,has,false,vs,odd,false⟩:=by
 have hgj:=J.aP.lt;have hgl:gl < w1.heap.size:=by
  obtain ⟨q,e,_,h⟩:=J.own.head hL;have:=(J.at_ q (by rw [e]; rfl)).1;omega
 have hs:=b1.size;refine ⟨(Mv.trans (Mv.kZ b1) hm fun q _ e=>?_).below lq fun _ h=>h,hs,by omega,hb,?_,hv.mono fun q _ hq=>?_⟩
 ·have e2:q=w1.heap.size:=e; omega
 ·exact (J.mono fun q hq hf=>(⟨hf,by omega⟩:w.heap.size<=q/\q≠w1.heap.size)).mv hm fun q _ hf e=>hf.2 e
 ·have hq':w1.heap.size < q:=hq
  exact ⟨by omega,by omega,by omega,by omega⟩
def wQ (D:Dc.aZ):Dc.aZ:=⟨D.l,D.l.map fun e=>e.dflt⟩
def yh (D:Dc.aZ) (k:Nat) (D1:Dc.aZ):Prop:=D1.l=D.l/\D1.v.length=D.l.length/\∀ i,i < k->D1.v.getD i []=(D.l.getD i Dc.aI).dflt
theorem yh.step {D D1:Dc.aZ} {k:Nat} (h:yh D k D1) (hk:k < D.l.length):yh D (k + 1) ⟨D1.l,D1.v.set k (D.l.getD k Dc.aI).dflt⟩:=by
 obtain ⟨h1,h2,h3⟩:=h;refine ⟨h1,by rw [List.length_set]; exact h2,fun i hi=>?_⟩;dsimp only;rw [List.getD_eq_getElem?_getD,List.getElem?_set];split
 ·rename_i e
  subst e;rw [if_pos (by omega)];rfl
 ·rw [<- List.getD_eq_getElem?_getD]
  exact h3 i (by omega)
theorem yh.done {D D1:Dc.aZ} (h:yh D D.l.length D1):D1=wQ D:=by
 obtain ⟨h1,h2,h3⟩:=h;obtain ⟨l,v⟩:=D1;dsimp only at h1 h2 h3;subst h1;unfold wQ
 congr 1
 apply List.ext_getElem
 ·simpa using h2
 ·intro i hi hi'
  have:=h3 i (by omega);rw [List.getD_eq_getElem?_getD,List.getElem?_eq_getElem hi,List.getD_eq_getElem?_getD,List.getElem?_eq_getElem (by omega)] at this;simpa using this
theorem il {f:Act->World->Prop} {K:Exit->Act->World->Prop} {a:Act} {w:World} (h:f a w):Qn (fun a' w'=>f a' w') K .normal a w:=h
def Nb {t:TypeId} (D:Dc.aZ) (w:World) (F:Nat->Prop) (g gv:Nat) (lA:Option Addr) (lc:Nat) (vA:Option Addr) (vc:Nat) (xs:List Value) (e:Ending) (w':World):Prop :=
 e=.returned (.tuple #[])/\Mv (fun q=>q=gv) w w'/\∃ vs',cM t w' (fun q=>F q\/(w.heap.size<=q/\q < w'.heap.size)) g gv lA lc vA vc xs vs' (wQ D)
theorem xr {F:Nat->Prop} {w:World} {g gv lc vc:Nat} {la:Addr} {vA:Option Addr} {xs vs:List Value} {D:Dc.aZ} (h:cM 131 w F g gv (some la) lc vA vc xs vs D) (hd:∀ e∈D.l,e.dflt.length<=1000000):Calls Tryz.prog 138 #[.pointer (some ⟨g,0,none⟩)] w (Nb (t:=131) D w F g gv (some la) lc vA vc xs):=by
 have LN:=zq (eY h);have hlc:=h.vt;have Sh:=h.few;have HD:=zq (fun k (hk:k < D.l.length)=>show (D.l.getD k Dc.aI).dflt.length<=1000000 from hd _ (by rw [List.getD_eq_getElem?_getD,List.getElem?_eq_getElem hk]; exact List.getElem_mem hk));have R0:Hid (Mv (fun q=>q=gv) w w/\∃ vs',cM 131 w (fun q=>F q\/(w.heap.size<=q/\q < w.heap.size)) g gv (some la) lc vA vc xs vs' D):=zq ⟨Mv.refl _ _,vs,h.mono fun _ _ hf=>.inl hf⟩;have RK:Hid (yh D 0 D):=zq ⟨rfl,h.len,fun i hi=>absurd hi (by omega)⟩;clear h hd;go_enter Tryz.func138,Tryz.ntmps138
 go_wp2_with fail
 refine (LN.out).mono ?_;rintro e _ ⟨rfl,rfl⟩;go_wp2_with fail
 go_loopw [5] (fun v wr=>∃ (k:Nat) (D1:Dc.aZ),k<=D.l.length/\v=.int .i64 k/\Hid (yh D k D1)/\Hid (Mv (fun q=>q=gv) w wr/\∃ vs',cM 131 wr (fun q=>F q\/(w.heap.size<=q/\q < wr.heap.size)) g gv (some la) lc vA vc xs vs' D1)) (fun v _=>D.l.length - (intOf v).toNat)
 case atStart=>exact ⟨0,D,by omega,rfl,RK,R0⟩
 case round =>
  obtain ⟨k,D1,hk,rfl,HK,HR⟩:=hrel;clear RK R0 LN
  by_cases hlt:k < D.l.length
  ·obtain ⟨hm,vs1,h1⟩:=HR.out
   have hl1:=HK.out.1;have hst:=HK.out.step hlt;obtain ⟨t0,t1⟩:=h1.two;have hcap:D1.l.length<=vc/\vc<=9223372036854775807:=⟨h1.own.rv.le,h1.own.rv.cap⟩;obtain ⟨b,oo,A1,n1,c1,hA1,eT,hr,hc⟩:=h1.entry (show k < D1.l.length by rw [hl1]; exact hlt);obtain ⟨A2,n2,c2,hA2,hFv,hgv,_,hcell,hfr⟩:=h1.value (show k < D1.l.length by rw [hl1]; exact hlt);rw [hl1] at t0 t1 hr hc hcap;have hdl:=HD.out k hlt;have Dn:=hc 10 _ rfl;have hrl:=hr.len;injection hA1 with hA1
   subst hA1 hA2;have OWN:=zq (fun (w2:World) (hb:Below wr.heap.size wr w2)=>fM w2 (hr.below hb) (by omega) hb.size);have hgl:=h1.aP.lt;have hne:=h1.ne;have hfg:=h1.fg;have hcap2:=hcap.1;have X0:=hcap.2;have Vr:=hlc.1;have Vs:=hlc.2;have i0:(0:Int)<=(k:Int):=by omega
   have i1:(k:Int) < (D.l.length:Int):=by omega
   have T0:=aC (G:=fun q=>q=gv) t0 hne;have T1:=aC (G:=fun q=>q=gv) t1 hne;have HB:b≠gv:=fun e=>by
    have:=h1.row;obtain ⟨b',o',e',hF',_⟩:=this.at_ (show 0 < D1.l.length by rw [hl1]; omega);injection e' with e'
    injection e' with e1 e2
    subst e1;exact hF'.2.2 e
   have Q10:=aC (G:=fun q=>q=gv) Dn HB;have H1:=zq h1;have HST:=zq hst;have HM:=zq hm;clear h1 hm hst HR HK hr hc Dn t0 t1 hcap;generalize (D.l.getD k Dc.aI).dflt=dat at *;subst hrl;go_wp2_with fail
   refine cF 15 (fun q=>q=gv) (by kernel_rfl) ?_;refine cy (by kernel_rfl) 3 (Mv.refl _ _).drew [0,1,2,3,4,5,6,7,8,9,10,11,12] rfl (by kernel_rfl) ?_;simp only [aj,nth]
   repeat (go_big_quiet_step (fail))
   refine wpQuiet_nil ?_;refine ag 13 2 rfl (by kernel_rfl) (by decide) ?_;simp only [nth];go_wp2_with fail
   refine (OWN.out _ (af wr)).mono ?_;rintro e w3 ⟨A3,c3,rfl,o3,b3⟩;have bd:Below wr.heap.size wr w3:=(af wr).trans b3;go_wp2_with fail
   refine aB (Mv.aq bd _) ?_;have V3:=aC (G:=fun q=>q=gv) hcell;refine cy (by kernel_rfl) 1 (Mv.aq bd _) [14] rfl (by kernel_rfl) ?_;simp only [aj,nth]
   repeat (go_big_quiet_step (fail))
   refine wpQuiet_nil ?_;refine bL 0 rfl (by kernel_rfl) (by decide) (by kernel_rfl) ?_;simp only [nth];have hv3:w3.cell? ⟨gv,k,none⟩=some (.slice A2 n2 c2):=(bd.cell (p:=⟨gv,k,none⟩) hgv).trans hcell;have hf3:w3.frozen? ⟨gv,k,none⟩=false:=(H1.out.below bd).own.free k;go_wp2_with fail
   refine il ?_;have Ui:Mv (fun q=>q=gv) w (w3.setCell ⟨gv,k,none⟩ (.slice A3 dat.length c3)):=(HM.out.trans (Mv.aq bd (fun q=>q=gv)) fun _ _ e=>e).trans (Mv.setCell w3 ⟨gv,k,none⟩ _) fun _ _ e=>e
   have hs4:(w3.setCell ⟨gv,k,none⟩ (.slice A3 dat.length c3)).heap.size=w3.heap.size:=by simp [World.setCell]
   have hs3:=bd.size;have hs0:=HM.out.size;have h4:=(H1.out.put (by rw [hl1]; exact hlt) bd o3).mono (G:=fun q=>F q\/(w.heap.size<=q/\q < (w3.setCell ⟨gv,k,none⟩ (.slice A3 dat.length c3)).heap.size)) fun b hb hf=>by
    rw [hs4];rcases hf with (hf | hf) | hf
    ·exact .inl hf
    ·exact .inr (by omega)
    ·exact .inr (by omega)
   have HN:Hid (Mv (fun q=>q=gv) w (w3.setCell ⟨gv,k,none⟩ (.slice A3 dat.length c3))/\∃ vs',cM 131 (w3.setCell ⟨gv,k,none⟩ (.slice A3 dat.length c3)) (fun q=>F q\/(w.heap.size<=q/\q < (w3.setCell ⟨gv,k,none⟩ (.slice A3 dat.length c3)).heap.size)) g gv (some ⟨b,oo,none⟩) lc (some ⟨gv,0,none⟩) vc xs vs' ⟨D1.l,D1.v.set k dat⟩):=zq ⟨Ui,_,h4⟩;clear Ui h4 hv3 hf3 o3 b3 bd;go_wp2_with fail
   go_roundw
   case rel=>exact ⟨k + 1,_,by omega,by go_num,HST,HN⟩
   case measure=>simp [intOf] <;> omega
  ·obtain rfl:k=D.l.length:=by omega
   have hD:=HK.out.done;subst hD;go_wp2_with fail
   go_end0
   exact ⟨rfl,HR.out.1,HR.out.2⟩
end
namespace Nn
open Go.RowKit Go.Sort Go
theorem Cu (k:Nat):(Jr.vI (List.replicate k 255)).count=0:=by
 show (Jr.Cf _ (List.replicate k 255).length Jr.ia 0 0).2.1=0;rw [List.length_replicate];cases k with
 | zero=>rfl
 | succ k =>
  have:Jr.gP (List.replicate (k + 1) 255) 0=none:=by
   unfold Jr.gP;split
   ·rfl
   ·rw [if_pos]
    rw [List.drop_zero,List.replicate_succ];show (255:UInt8)≠87;decide
  rw [Jr.Cf,this]
theorem ph (p:Nat):(Jr.vI (gR Bj p)).count=0:=by
 have e3:gR Bj p=List.replicate (min 1024 (3 * 1024 - p * 1024)) 255:=by
  unfold gR;show ((List.replicate (3 * 1024) 255).drop _).take _=_;rw [List.drop_replicate,List.take_replicate]
 rw [e3];exact Cu _
theorem Ju (p:Nat) (hp:p < 3):(gR Bj p).getD 0 0≠87:=by
 have e3:gR Bj p=List.replicate (min 1024 (3 * 1024 - p * 1024)) 255:=by
  unfold gR;show ((List.replicate (3 * 1024) 255).drop _).take _=_;rw [List.drop_replicate,List.take_replicate]
 rw [e3,List.getD_eq_getElem?_getD,List.getElem?_replicate,if_pos (by omega)];decide
theorem uk:(Jr.sX (eI Bj 3)).2=false:=by
 show (Jr.bp [Jr.vI (gR Bj 0),Jr.vI (gR Bj 1),Jr.vI (gR Bj 2)] 0 (0,false) _).2=false;simp [Jr.bp,ph]
section
variable {s s':cu} {w w':World} {ah:Nat->Cp} {g k b:Nat}
theorem Bo {base gf c c':Nat} {A A':Option Addr} (hf:m7 w base gf A (3 * 1024) c A' 3 c' Bj) (gd:Nat):Calls Tryz.prog 92 #[.pointer (some ⟨gf,0,none⟩),.pointer (some ⟨gd,0,none⟩)] w fun e w'=>∃ g,e=.returned (.tuple #[.pointer (some ⟨g,0,none⟩),.int .i64 0])/\Below w.heap.size w w'/\(Ek gf g).P w' fun q=>w.heap.size<=q:=by
 have JO:=vp hf rfl rfl (by decide) (by decide) Ju;have HLK:=zq (pO Bj 3);have hno:=uk;generalize eI Bj 3=L at *;generalize Jr.sX L=nw at *;obtain ⟨now,has⟩:=nw;dsimp only at hno JO;subst hno;replace JO:=zq JO;clear hf;go_enter Tryz.func92,Tryz.ntmps92
 go_wp2_with fail
 refine (JO.out).mono ?_;rintro e w1 ⟨gj,gl,A1,c1,xs,rfl,b1,J1⟩;have b2:=ae w1 (.cells #[.pointer (some ⟨gj,0,none⟩),.slice none 0 0,.bool false,.bool false] 215);have K2:=ao.new w1 215 #[.pointer (some ⟨gj,0,none⟩),.slice none 0 0,.bool false,.bool false];have HJ1:=zq2 b1 J1;have LA:=zq (GZ (J1.below b2));have HB2:=zq b2;have PH:=zq K2;clear JO b1 J1 b2 K2;go_wp2_with fail
 generalize w1.alloc (.cells #[.pointer (some ⟨gj,0,none⟩),.slice none 0 0,.bool false,.bool false] 215)=w2 at *;refine (LA.out).mono ?_;unfold mq;rintro e w3 ⟨rfl,b3⟩;have D3:=zq (aa HB2.out b3 lq);have K3:=PH.out.later b3;have b4:=ae w3 (.cells #[.int .i64 0,.int .u32 0,.slice none 0 0] 217);have HF:=zq2 (aa D3.out b4 lq) (K3.later b4);clear LA b3 K3 b4;go_wp2_with fail
 go_ret2
 obtain ⟨d4,k4⟩:=HF.out;obtain ⟨b1,J1⟩:=HJ1.out;obtain ⟨r1,r2⟩:=An (As:=none) (cs:=0) (vs:=[]) (odd:=false) b1 J1 (Mv.aq d4 _) k4 (jU.nil _ _) (by rw [HLK.out]; decide);exact ⟨_,rfl,r1,gj,gl,A1,c1,xs,none,0,_,r2,rfl,rfl,rfl⟩
theorem xI (gd:Nat) (A:Option Addr) (c:Nat) (w:World):Calls Tryz.prog 136 #[.pointer (some ⟨gd,0,none⟩),.slice A 0 c] w fun e w'=>e=.returned (.int .i64 0)/\w=w':=by
 go_enter Tryz.func136,Tryz.ntmps136
 go_wp2_with fail
 go_loopw [15] (fun v wr=>v=.int .i64 0/\wr=w) (fun _ _=>0)
 case atStart=>exact ⟨rfl,rfl⟩
 case round =>
  obtain ⟨rfl,rfl⟩:=hrel;go_wp2_with fail
  go_ret
  exact ⟨rfl,rfl⟩
theorem wB (gd:Nat) (A:Option Addr) (c:Nat) (w:World):Calls Tryz.prog 139 #[.pointer (some ⟨gd,0,none⟩),.slice A 0 c] w fun e w'=>e=.returned (.int .i64 0)/\w=w':=by
 go_enter Tryz.func139,Tryz.ntmps139
 go_wp2_with fail
 refine (xI gd A c w).mono ?_;rintro e _ ⟨rfl,rfl⟩;go_wp2_with fail
 go_loopw [16] (fun v wr=>v=.int .i64 0/\wr=w) (fun _ _=>0)
 case atStart=>exact ⟨rfl,rfl⟩
 case round =>
  obtain ⟨rfl,rfl⟩:=hrel;go_wp2_with fail
  go_ret
  exact ⟨rfl,rfl⟩
theorem tQ {F:Nat->Prop} {g gv lc vc:Nat} {la:Addr} {vA:Option Addr} {xs vs:List Value} {D:Dc.aZ} (h:cM 131 w F g gv (some la) lc vA vc xs vs D) (h0:D.l.length=0):Calls Tryz.prog 138 #[.pointer (some ⟨g,0,none⟩)] w fun e w'=>e=.returned (.tuple #[])/\w=w':=by
 have LN:=eY h;rw [h0] at LN;replace LN:=zq LN;clear h h0;go_enter Tryz.func138,Tryz.ntmps138
 go_wp2_with fail
 refine (LN.out).mono ?_;rintro e _ ⟨rfl,rfl⟩;go_wp2_with fail
 go_loopw [5] (fun v wr=>v=.int .i64 0/\wr=w) (fun _ _=>0)
 case atStart=>exact ⟨rfl,rfl⟩
 case round =>
  obtain ⟨rfl,rfl⟩:=hrel;go_wp2_with fail
  go_end0
  exact ⟨rfl,rfl⟩
theorem Nd.pU (h:Nd s w ah) (hg:s.gv=some g):(Ek s.gf g).P w (fun q=>ah q=.pU):=by
 have k:(opt s.gv (Ek s.gf)).P w (fun q=>ah q=.pU):=h .pU;rw [hg] at k;exact k
theorem Nd.fla (h:Nd s w ah):(Kx s.gf).P w (fun q=>ah q=.fla):=h .fla
theorem xc (h:Nd s w ah) (hd:∀ e∈s.D.l,e.dflt.length<=1000000):Calls Tryz.prog 138 #[.pointer (some ⟨s.gd,0,none⟩)] w fun e w'=>e=.returned (.tuple #[])/\∃ an,Nd { s with D:=jA s.D.l } w' an/\Kp w ah w' an:=by
 obtain ⟨gv,lc,vc,la,vA,xs,vs,hr⟩:=h.dy
 by_cases h0:s.D.l.length=0
 ·have e:s.D=jA s.D.l:=by
   have h1:=hr.len;unfold jA;generalize s.D=D at *;obtain ⟨l,v⟩:=D;dsimp only at h0 h1;have e1:l=[]:=List.eq_nil_of_length_eq_zero h0;have e2:v=[]:=List.eq_nil_of_length_eq_zero (h1.trans h0);subst e1 e2;rfl
  have e2:({ s with D:=jA s.D.l }:cu)=s:=by rw [<- e]
  rw [e2];refine (tQ hr h0).mono ?_;rintro e w' ⟨rfl,rfl⟩;exact ⟨rfl,ah,h,Kp.refl _ _⟩
 ·obtain ⟨_,_,_,hvA,PB,_⟩:=hr.value (show 0 < s.D.l.length by omega)
  refine (xr hr hd).mono ?_;rintro e w' ⟨rfl,hm,vs',hd'⟩;have hm':Mv (fun q=>ah q=.dy) w w':=hm.mono fun b _ e=>by rw [show b=gv from e]; exact PB
  exact ⟨rfl,_,h.FM hm' ⟨gv,lc,vc,la,vA,xs,vs',hd'.mono fun q _ e=>e.elim .inl fun e=>.inr e.1⟩,Kp.step hm' (by intro e; cases e) .dy⟩
theorem qG (h:Nd s w ah) (hg:s.gv=some g) (hd:∀ e∈s.D.l,e.dflt.length<=1000000):Calls Tryz.prog 93 #[.pointer (some ⟨g,0,none⟩),.pointer (some ⟨s.gd,0,none⟩)] w fun e w'=>(∃ z,e=.returned (.int .i64 z))/\∃ an,Nd { s with D:=jA s.D.l } w' an/\Kp w ah w' an:=by
 obtain ⟨gj,gl,A,c,xs,As,cs,x,hv,_⟩:=h.pU hg;have TH:=zq (kI hv);have RE:=zq (xc h hd);have HG:=zq hg;clear hv h hd hg;go_enter Tryz.func93,Tryz.ntmps93
 go_wp2_with fail
 refine (TH.out).mono ?_;rintro e _ ⟨rfl,rfl⟩;go_wp2_with fail
 refine (RE.out).mono ?_;rintro e w1 ⟨rfl,bN,N1,K1⟩;obtain ⟨gj1,gl1,A1,c1,xs1,As1,cs1,x1,hv1,hs1,_⟩:=N1.pU HG.out;have F1:=hv1.four;rw [hs1] at F1;have HN:=zq2 N1 K1;clear N1 K1 hv1 hs1 TH RE;go_wp2_with fail
 refine (wB s.gd As1 cs1 w1).mono ?_;rintro e _ ⟨rfl,rfl⟩;go_wp2_with fail
 go_ret
 exact ⟨⟨_,rfl⟩,bN,HN.out.1,HN.out.2⟩
theorem Gs (h:Nd s w ah) (hg:s.gv=some g):Calls Tryz.prog 97 #[.pointer (some ⟨g,0,none⟩)] w fun e w'=>e=.returned (.bool false)/\w=w':=by
 obtain ⟨gj,gl,A,c,xs,As,cs,x,hv,_,ho,_⟩:=h.pU hg;have:=FT hv
 rwa [ho] at this
theorem DS (h:Nd s w ah) (hg:s.gv=some g):Calls Tryz.prog 110 #[.pointer (some ⟨g,0,none⟩)] w fun e w'=>e=.returned (.bool false)/\w=w':=by
 obtain ⟨gj,gl,A,c,xs,As,cs,x,hv,_,_,ho⟩:=h.pU hg;have:=GH hv
 rwa [ho] at this
end
def iV (gn:Nat) (cs:Array Value) (v:World):Prop:=∀ i u,cs[i]?=some u->v.cell? ⟨gn,i,none⟩=some u
section
variable {s s':cu} {w w':World} {ah:Nat->Cp} {g k b:Nat}
theorem iV.of (h:Nd s w ah):iV s.gn (aG s) w:=fun i _ hu=>(h.node.cell i).trans hu
theorem pN (o:Option Nat):∃ p,pt o=.pointer p:=⟨_,rfl⟩
theorem Nd.Mf (h:Nd s w ah) (z:Int):Nd { s with st:=z } (w.setCell ⟨s.gn,17,none⟩ (.int .i64 z)) ah :=
 h.put { s with st:=z } .ext (by intro e; cases e) 17 (.int .i64 z) rfl rfl (fun j hj hk=>by cases j <;> first | rfl | exact absurd rfl hj | exact absurd rfl hk) trivial
theorem Nd.Re (h:Nd s w ah) (z:Bool):Nd { s with on:=z } (w.setCell ⟨s.gn,18,none⟩ (.bool z)) ah :=
 h.put { s with on:=z } .ext (by intro e; cases e) 18 (.bool z) rfl rfl (fun j hj hk=>by cases j <;> first | rfl | exact absurd rfl hj | exact absurd rfl hk) trivial
def UO (s:cu) (w:World) (ah:Nat->Cp) (e:Ending) (w':World):Prop:=e=.returned (.tuple #[])/\∃ gq gs gh gp f ic o an,Nd { s with gq:=some gq,gs:=some gs,gh:=some gh,gp:=gp,pid:=jF s.D,gi:=f,ic:=ic,go:=o,st:=127 } w' an/\Kp w ah w' an/\jI s.D f ic 4
theorem oF (h:Nd s w ah) (hd:∀ e∈s.D.l,e.dflt.length<=1000000) (hv:∀ v∈s.D.v,v.length<=1000000):Calls Tryz.prog 95 #[.pointer (some ⟨s.gn,0,none⟩)] w (UO s w ah):=by
 have SU:=zq (wG h hd hv);clear h hd hv;go_enter Tryz.func95,Tryz.ntmps95
 go_wp2_with fail
 refine (SU.out).mono ?_;rintro e w1 ⟨rfl,gs,gh,gp,f,ic,o,bN,N1,K1,I1⟩;have C1:=N1.cells.dn;have V0:=N1.cells.free;obtain ⟨o1,ho1⟩:=pN s.gq;dsimp only at C1 V0;rw [ho1] at C1;have HN:=zq3 N1 K1 I1;clear N1 K1 I1 SU ho1;go_wp2_with fail
 refine (MN 64 _ (by decide) (by decide)).mono ?_;rintro e w2 ⟨rfl,hw2⟩;have b2:=ae w1 (.cells #[.int .i64 64,.slice none 0 0,.int .i64 0,.bool false] 232);have B2:=ao.new w1 232 #[.int .i64 64,.slice none 0 0,.int .i64 0,.bool false];rw [<- hw2] at b2 B2;clear hw2;have N2:=HN.out.1.below b2 .dn;have K2:=HN.out.2.1.trans (Kp.below b2 .dn);have hq:(sa w1.heap.size).P w2 (fun q=>aL bN w1.heap.size w2.heap.size .dn q=.dn):=⟨[],0,false,⟨ay ⟨Nat.le_refl _,B2.lt⟩,none,0,B2,iZ.none_ _ _⟩,(fun _ hf=>by cases hf),by decide⟩;have N3:=N2.put { s with gq:=some w1.heap.size,gs:=some gs,gh:=some gh,gp:=gp,pid:=jF s.D,gi:=f,ic:=ic,go:=o } .dn (by intro e; cases e) 0 (pt (some w1.heap.size)) rfl rfl (fun j hj hk=>by cases j <;> first | rfl | exact absurd rfl hj | exact absurd rfl hk) hq;have K3:=K2.trans (Kp.node N2 0 (pt (some w1.heap.size)));have C2:=N2.cells.dn;have PG:=N2.cells.free;obtain ⟨o2,ho2⟩:=pN s.gq;dsimp only at C2 PG;rw [ho2] at C2;have C3:=N3.cells.id;dsimp only at N3 K3 C3;change Nd _ (w2.setCell ⟨s.gn,0,none⟩ (.pointer (some ⟨w1.heap.size,0,none⟩))) _ at N3;change Kp _ _ (w2.setCell ⟨s.gn,0,none⟩ (.pointer (some ⟨w1.heap.size,0,none⟩))) _ at K3;change (w2.setCell ⟨s.gn,0,none⟩ (.pointer (some ⟨w1.heap.size,0,none⟩))).cell? _=_ at C3;have H3:=zq3 N3 K3 HN.out.2.2;clear N2 K2 N3 K3 hq B2 b2 ho2 HN C1 V0;go_wp2_with fail
 generalize w2.setCell ⟨s.gn,0,none⟩ (.pointer (some ⟨w1.heap.size,0,none⟩))=w3 at *;refine (ud 0 0 (.inl ⟨rfl,rfl⟩) _).mono ?_;rintro e w4 ⟨A4,c4,rfl,o4,b4⟩;have b5:=ae w4 (.cells #[.int .i64 1797,.bool false,.slice A4 1 c4] 37);have B5:=(ao.new w4 37 #[.int .i64 1797,.bool false,.slice A4 1 c4]).three;have d5:=aa b4 b5 lq;have o5:=o4.below b5;obtain ⟨w5,V2⟩:∃ x,w4.alloc (.cells #[.int .i64 1797,.bool false,.slice A4 1 c4] 37)=x:=⟨_,rfl⟩;rw [V2] at b5 B5 d5 o5;have b6:=ae w5 (.cells #[.int .i64 1797,.bool false,.slice A4 1 c4] 37);have d6:=aa d5 b6 lq;have rf:=wX (i:=1797) (r:=false) o5 d5.size;have N6:=H3.out.1.below d6 .ext;have K6:=H3.out.2.1.trans (Kp.below d6 .ext);have SE:=zq (dR N6 (g:=w1.heap.size) rfl (rf.mono fun q hq e=>by rw [ay ⟨e,hq⟩]; intro e; cases e));dsimp only at SE;have H6:=zq2 K6 H3.out.2.2;clear N6 K6 rf b4 o4 d5 b5 o5 b6 d6 H3;go_wp2_with fail
 refine (SE.out).mono ?_;rintro e w7 ⟨rfl,kK,N7,K7⟩;have C7:=N7.cells.st;have fz7:=N7.cells.free;have N8:=N7.Mf 127;have K8:=(H6.out.1.trans K7).trans (Kp.node N7 17 (.int .i64 127));dsimp only at N8 K8 C7 fz7;have H8:=zq3 N8 K8 H6.out.2;clear N7 K7 N8 K8 SE H6;go_wp2_with fail
 go_end0
 exact ⟨rfl,w1.heap.size,gs,gh,gp,f,ic,o,_,H8.out.1,H8.out.2.1,H8.out.2.2⟩
end
structure mZ (l:List aD.En) (s:cu):Prop where
 dn:∃ g,s.gq=some g
 qi:∃ g,s.gs=some g
 dx:∃ g,s.gh=some g
 gD:∃ g,s.ge=some g
 pU:∃ g,s.gv=some g
 st:tu s.st
 on:s.on=true
 dk:Dk l s.D
 cm:jI (jA l) s.gi s.ic 4
 pid:s.pid=jF (jA l)
structure Pl (s s':cu):Prop where
 gn:s'.gn=s.gn
 gf:s'.gf=s.gf
 gd:s'.gd=s.gd
 gb:s'.gb=s.gb
theorem Pl.refl (s:cu):Pl s s:=⟨rfl,rfl,rfl,rfl⟩
def Y7 (l:List aD.En) (s:cu) (w:World) (ah:Nat->Cp) (w':World):Prop:=∃ s' an,Nd s' w' an/\Kp w ah w' an/\mZ l s'/\Pl s s'
def U_ (l:List aD.En) (s:cu) (w:World) (ah:Nat->Cp) (e:Ending) (w':World):Prop:=e=.returned (.tuple #[])/\Y7 l s w ah w'
section
variable {s s':cu} {w w':World} {ah:Nat->Cp} {g k b:Nat} {l:List aD.En}
theorem jI.dk {D:Dc.aZ} (h:Dk l D) {f:Nat->Option Nat} {ic:Nat->Nat×Int×List Nat} (hi:jI D f ic 4):jI (jA l) f ic 4:=fun k hk=>by
 rw [<- h.nz k];exact hi k hk
theorem lV (h:Nd s w ah):Calls Tryz.prog 62 #[.pointer (some ⟨s.gn,0,none⟩)] w fun e w'=>e=.returned (.int .i64 0)/\∃ g an,Nd { s with gv:=some g } w' an/\Kp w ah w' an:=by
 have N1:=h.drew;obtain ⟨A,c,A',c',hf,_⟩:=N1.fla;have VO:=zq (Bo hf s.gd);have S0:=zq (iV.of N1);have z14:∀ x:Wc (iV s.gn (aG s)),x.val.cell? ⟨s.gn,14,none⟩=some (.pointer (some ⟨s.gf,0,none⟩)):=fun x=>x.ok 14 _ rfl
 have Ld:∀ x:Wc (iV s.gn (aG s)),x.val.cell? ⟨s.gn,15,none⟩=some (.pointer (some ⟨s.gd,0,none⟩)):=fun x=>x.ok 15 _ rfl
 have HN:=zq2 N1 ((Kp.refl w ah).drew);clear hf N1 h;go_enter Tryz.func62,Tryz.ntmps62
 go_wp2_with fail
 haveI cg:Nonempty (Wc (iV s.gn (aG s))):=⟨⟨_,S0.out⟩⟩;refine aW 99 (iV s.gn (aG s)) (by kernel_rfl) ?_;refine aw (by kernel_rfl) 6 S0.out [0,4,1,5,2,6,3,7] rfl (by kernel_rfl) ?_;simp only [aj,nth]
 repeat (go_big_quiet_step (fail))
 refine wpQuiet_nil ?_;refine ag 8 5 rfl (by kernel_rfl) (by decide) ?_;simp only [nth];go_wp2_with fail
 refine (VO.out).mono ?_;rintro e w1 ⟨g,rfl,b1,hp⟩;have N1:=HN.out.1.below b1 .pU;have K1:=HN.out.2.trans (Kp.below b1 .pU);have S1:=zq (iV.of N1);have C1:=N1.cells.pU;have V0:=N1.cells.free;obtain ⟨o1,ho1⟩:=pN s.gv;rw [ho1] at C1;have N2:=N1.put { s with gv:=some g } .pU (by intro e; cases e) 16 (pt (some g)) rfl rfl (fun j hj hk=>by cases j <;> first | rfl | exact absurd rfl hj | exact absurd rfl hk) ((Ek s.gf g).mono _ _ _ hp fun q hq e=>ay ⟨e,hq⟩);have K2:=K1.trans (Kp.node N1 16 (pt (some g)));have H2:=zq2 N2 K2;clear N1 K1 N2 K2 ho1 hp b1;go_wp2_with fail
 refine az S1.out ?_;refine aw (by kernel_rfl) 0 S1.out [9,10,11,12,13] rfl (by kernel_rfl) ?_;simp only [aj,nth]
 repeat (go_big_quiet_step (fail))
 refine wpQuiet_nil ?_;refine au (by kernel_rfl) ?_;go_wp2_with fail
 go_ret
 exact ⟨rfl,g,_,H2.out.1,H2.out.2⟩
theorem qu (hl:Lk l) (h:Nd s w ah) (hg:s.gv=some g) (hD:s.D.l=l):Calls Tryz.prog 63 #[.pointer (some ⟨s.gn,0,none⟩)] w (U_ l s w ah):=by
 have N1:=h.Re true;have K1:=Kp.node h 18 (.bool true);have C0:=h.cells.on;have fz0:=h.cells.free;obtain ⟨w1,hw1⟩:∃ x,w.setCell ⟨s.gn,18,none⟩ (.bool true)=x:=⟨_,rfl⟩;rw [hw1] at N1 K1;have N2:=N1.drew;have LO:=qG N2 (g:=g) hg (by rw [hD]; exact hl.nR);rw [hD] at LO;dsimp only at LO;replace LO:=zq LO;have S0:=zq (iV.of N2);have Ld:∀ x:Wc (iV s.gn (aG { s with on:=true })),x.val.cell? ⟨s.gn,15,none⟩=some (.pointer (some ⟨s.gd,0,none⟩)):=fun x=>x.ok 15 _ rfl
 have Um:∀ x:Wc (iV s.gn (aG { s with on:=true })),x.val.cell? ⟨s.gn,16,none⟩=some (.pointer (some ⟨g,0,none⟩)):=fun x=>x.ok 16 _ (by show some (pt s.gv)=_; rw [hg]; rfl)
 have HN:=zq3 K1.drew hg hl;clear N1 N2 K1 h hg hD hl;go_enter Tryz.func63,Tryz.ntmps63
 go_wp2_with fail
 haveI cg:Nonempty (Wc (iV s.gn (aG { s with on:=true }))):=⟨⟨_,S0.out⟩⟩;refine aW 99 (iV s.gn (aG { s with on:=true })) (by kernel_rfl) ?_;refine aw (by kernel_rfl) 1 S0.out [0,4,1,5,2,6,3,7] rfl (by kernel_rfl) ?_;simp only [aj,nth]
 repeat (go_big_quiet_step (fail))
 refine wpQuiet_nil ?_;refine ag 8 0 rfl (by kernel_rfl) (by decide) ?_;simp only [nth];go_wp2_with fail
 refine (LO.out).mono ?_;rintro e w2 ⟨⟨z,rfl⟩,bA,N2,K2⟩;have S2:=zq (show iV s.gn (aG { s with on:=true }) w2 from (by have q:=iV.of N2; exact q));have C2:=N2.cells.id;have C3:=N2.cells.gD;have PG:=N2.cells.free;obtain ⟨o2,ho2⟩:=pN s.ge;dsimp only at C2 C3 PG;rw [ho2] at C3;have H2:=zq2 N2 (HN.out.1.trans K2);clear N2 K2 LO ho2;go_wp2_with fail
 refine az S2.out ?_;refine au (by kernel_rfl) ?_;go_wp2_with fail
 refine (FZ _).mono ?_;rintro e w3 ⟨ge,rfl,b3,he⟩;have N3:=H2.out.1.below b3 .gD;have K3:=H2.out.2.trans (Kp.below b3 .gD);have C4:=N3.cells.gD;have VN:=N3.cells.free;obtain ⟨o4,X1⟩:=pN s.ge;dsimp only at C4 VN;rw [X1] at C4;have N4:=N3.put { s with on:=true,D:=jA l,ge:=some ge,act:=[] } .gD (by intro e; cases e) 3 (pt (some ge)) rfl rfl (fun j hj hk=>by cases j <;> first | rfl | exact absurd rfl hj | exact absurd rfl hk) (lD.mono he fun b hb e=>ay ⟨e,hb⟩);have K4:=K3.trans (Kp.node N3 3 (pt (some ge)));have BG:=zq (oF N4 HN.out.2.2.nR HN.out.2.2.new.small);have H4:=zq K4;dsimp only at BG;clear N3 K3 N4 K4 he b3 C2 C3 PG X1 H2;go_wp2_with fail
 refine (BG.out).mono ?_;rintro e w5 ⟨rfl,gq,gs,gh,gp,f,ic,o,fv,N5,K5,I5⟩;dsimp only at N5 I5;have RF:=zq (pI N5 (g:=ge) rfl HN.out.2.2.nR);dsimp only at RF;have H5:=zq2 (H4.out.trans K5) I5;clear N5 K5 I5 BG C4 VN;go_wp2_with fail
 refine (RF.out).mono ?_;rintro e w6 ⟨rfl,D6,gA,N6,K6,R6⟩;dsimp only at N6 R6;have C6:=N6.cells.pU;dsimp only at C6;rw [HN.out.2.1] at C6;change w6.cell? ⟨s.gn,16,none⟩=some (.pointer (some ⟨g,0,none⟩)) at C6;have OD:=zq (Gs N6 (g:=g) HN.out.2.1);have d6:=HN.out.2.2.new.r0 R6;have H6:=zq4 N6 (H5.out.1.trans K6) d6 (jI.dk HN.out.2.2.new H5.out.2);clear N6 K6 R6 RF d6;go_wp2_with fail
 refine (OD.out).mono ?_;rintro e _ ⟨rfl,rfl⟩;go_wp2_with fail
 go_end0
 exact ⟨rfl,_,gA,H6.out.1,H6.out.2.1,⟨⟨gq,rfl⟩,⟨gs,rfl⟩,⟨gh,rfl⟩,⟨ge,rfl⟩,⟨g,HN.out.2.1⟩,.inr (.inr rfl),rfl,H6.out.2.2.1,H6.out.2.2.2,rfl⟩,⟨rfl,rfl,rfl,rfl⟩⟩
end
end Nn
section
open Go.RowKit
theorem s6 (w:World):Calls Tryz.prog 169 #[.pointer none] w fun e w'=>e=.returned (.slice none 0 0)/\w=w':=by
 go_enter Tryz.func169,Tryz.ntmps169
 go_wp2_with fail
 go_ret
 exact ⟨rfl,rfl⟩
theorem Dg (w:World):Calls Tryz.prog 166 #[.pointer none] w fun e w'=>e=.returned (.slice none 0 0)/\w=w':=by
 go_enter Tryz.func166,Tryz.ntmps166
 go_wp2_with fail
 go_ret
 exact ⟨rfl,rfl⟩
theorem yl (w:World):Calls Tryz.prog 218 #[.pointer none] w fun e w'=>e=.returned (.slice none 0 0)/\w=w':=by
 go_enter Tryz.func218,Tryz.ntmps218
 go_wp2_with fail
 go_ret
 exact ⟨rfl,rfl⟩
theorem Ab (w:World):Calls Tryz.prog 261 #[.pointer none] w fun e w'=>e=.returned (.tuple #[])/\w=w':=by
 go_enter Tryz.func261,Tryz.ntmps261
 go_wp2_with fail
 (try simp only [Exit.inBlock,Exit.then])
 refine bodyPost_ret (results_none rfl _ _ _) rfl ?_;exact ⟨rfl,rfl⟩
theorem F9 (i j:Value) (w:World):Calls Tryz.prog 168 #[.pointer none,i,j] w fun e w'=>e=.returned (.bool false)/\w=w':=by
 go_enter Tryz.func168,Tryz.ntmps168
 go_wp2_with fail
 go_ret
 exact ⟨rfl,rfl⟩
end
namespace Nn
open Go.RowKit Go.Sort Go
structure Kc (i:Cp) (w:World) (ah:Nat->Cp) (w':World) (an:Nat->Cp):Prop where
 mv:Mv (fun q=>ah q=i) w w'
 old:∀ q,q < w.heap.size->an q=i->ah q=i
theorem Kc.refl (i:Cp) (w:World) (ah:Nat->Cp):Kc i w ah w ah:=⟨Mv.refl _ _,fun _ _ h=>h⟩
theorem Kc.trans {i:Cp} {w w1 w2:World} {ah bN bA:Nat->Cp} (h:Kc i w ah w1 bN) (k:Kc i w1 bN w2 bA):Kc i w ah w2 bA :=
 ⟨h.mv.trans k.mv fun b hb e=>h.old b hb e,fun q hq e=>h.old q hq (k.old q (Nat.lt_of_lt_of_le hq h.mv.size) e)⟩
theorem Kc.step {i j:Cp} {w w':World} {ah:Nat->Cp} (hm:Mv (fun q=>ah q=i) w w'):Kc i w ah w' (aL ah w.heap.size w'.heap.size j):=⟨hm,fun _ hq e=>(bT hq).symm.trans e⟩
theorem Kc.below {i j:Cp} {w w':World} {ah:Nat->Cp} (hb:Below w.heap.size w w'):Kc i w ah w' (aL ah w.heap.size w'.heap.size j):=Kc.step (Mv.aq hb _)
theorem Kc.drew {i:Cp} {w w':World} {ah an:Nat->Cp} (h:Kc i w ah w' an):Kc i w ah w'.drew an:=⟨h.mv.drew,h.old⟩
section
variable {s s':cu} {w w':World} {ah:Nat->Cp} {g k b:Nat} {l:List aD.En}
theorem Nd.part (h:Nd s w ah) (i:Cp) (hm:Mv (fun q=>ah q=i) w w') (hp:(s.rs i).P w' (fun q=>ah q=i\/w.heap.size<=q)):Nd s w' (aL ah w.heap.size w'.heap.size i):=Al.step h hm (fun _ _=>rfl) ((s.rs i).mono _ _ _ hp fun b hb e=>fV e hb)
theorem Nd.HU (h:Nd s w ah) (hg:s.go k=some g):(n_ s.gd g).P w (fun q=>ah q=.out k):=by
 have q:(opt (s.go k) (n_ s.gd)).P w (fun q=>ah q=.out k):=h (.out k);rw [hg] at q;exact q
theorem Nd.M_ (h:Nd s w ah) (hg:s.gi k=some g):(mV s.gd (s.ic k) g).P w (fun q=>ah q=.cm k):=by
 have q:(opt (s.gi k) (mV s.gd (s.ic k))).P w (fun q=>ah q=.cm k):=h (.cm k);rw [hg] at q;exact q
theorem Nd.L0 (h:Nd s w ah) (hg:s.go k=some g) (hm:Mv (fun q=>ah q=.out k) w w') (hp:(n_ s.gd g).P w' (fun q=>ah q=.out k\/w.heap.size<=q)):Nd s w' (aL ah w.heap.size w'.heap.size (.out k)):=h.part (.out k) hm (by
 show (opt (s.go k) (n_ s.gd)).P _ _;rw [hg];exact hp)
theorem Nd.Lv (h:Nd s w ah) (hg:s.gi k=some g) (hm:Mv (fun q=>ah q=.cm k) w w') (hp:(mV s.gd (s.ic k) g).P w' (fun q=>ah q=.cm k\/w.heap.size<=q)):Nd s w' (aL ah w.heap.size w'.heap.size (.cm k)):=h.part (.cm k) hm (by
 show (opt (s.gi k) (mV s.gd (s.ic k))).P _ _;rw [hg];exact hp)
theorem Nd.EZ (h:Nd s w ah) (x y:Int) {A:Option Addr} {n c B:Nat} {b:List UInt8} (hb:RB w B A n c b) (hB:B<=w.heap.size) (hn:n < 140737488355328):Calls Tryz.prog 49 #[.pointer (some ⟨s.gd,0,none⟩),.int .i64 x,.int .i64 y,.slice A n c] w fun e w'=>e=.returned (.int .u32 (Dc.pK s.D.l true x y b))/\∃ an,Nd { s with D:=Dc.bK s.D x y b } w' an/\Kp w ah w' an/\Kc .dy w ah w' an:=by
 obtain ⟨gv,lc,vc,la,vA,xs,vs,hr⟩:=h.dy;refine (One.oD (base:=0) (F:=fun q=>ah q=.dy/\q < w.heap.size) ⟨gv,lc,vc,la,vA,xs,vs,hr.cut,fun q hq=>⟨Nat.zero_le _,hq.2⟩⟩ (Nat.zero_le _) x y hb hB hn).mono ?_;rintro e w' ⟨he,hm,_,Ue,Uf,Ug,la',Uh,xs',vs',hd,_⟩;have hm':Mv (fun q=>ah q=.dy) w w':=hm.mono fun b _ e=>e.1
 exact ⟨he,_,h.FM hm' ⟨Ue,Uf,Ug,la',Uh,xs',vs',hd.mono fun q _ e=>e.elim (fun e=>.inl e.1) fun e=>.inr e.1⟩,Kp.step hm' (by intro e; cases e) .dy,Kc.step hm'⟩
theorem xX (w:World):Calls Tryz.prog 220 #[.pointer none] w fun e w'=>e=.returned (.slice none 0 0)/\w=w':=by
 go_enter Tryz.func220,Tryz.ntmps220
 go_wp2_with fail
 go_ret
 exact ⟨rfl,rfl⟩
theorem Dh (h:Nd s w ah) (k:Nat):Calls Tryz.prog 261 #[pt (s.go k)] w (QB s w ah):=by
 cases hg:s.go k with
 | none =>
  refine (Ab w).mono ?_;rintro e w' ⟨rfl,rfl⟩;exact ⟨rfl,ah,h,Kp.refl _ _⟩
 | some g =>
  obtain ⟨v,t,aV,ev,ws,Aw,cw,st,h1,h2,h3,h4,h5⟩:=h.HU hg;refine (oy h1).mono ?_;rintro e w' ⟨rfl,hm,h6⟩;have hm':Mv (fun q=>ah q=.out k) w w':=hm.mono fun b _ e=>by rw [show b=g from e]; exact h4
  exact ⟨rfl,_,h.L0 hg hm' ⟨v,t,aV,ev,ws,Aw,cw,_,h6,h2,Tp.Ok.rest h3.kind,.inl h4,fun j hj=>.inl (h5 j hj)⟩,Kp.step hm' (by intro e; cases e) _⟩
def UK (s:cu) (w:World) (ah:Nat->Cp) (k:Nat) (e:Ending) (w':World):Prop:=∃ A n c vs an,e=.returned (.slice A n c)/\jU w' (fun q=>an q≠.dy) A n c vs/\(∀ v∈vs,v.data.length<=32/\¬ kM v.index)/\Nd s w' an/\Kp w ah w' an
theorem pB (h:Nd s w ah) (k:Nat):Calls Tryz.prog 220 #[pt (s.gi k)] w (UK s w ah k):=by
 cases hg:s.gi k with
 | none =>
  refine (xX w).mono ?_;rintro e w' ⟨rfl,rfl⟩;exact ⟨none,0,0,[],ah,rfl,jU.nil _ _,(fun _ hv=>by cases hv),h,Kp.refl _ _⟩
 | some g =>
  obtain ⟨gp,waits,Aw,cw,Av,cv,h1,h2⟩:=h.M_ hg;refine (wI h1).mono ?_;rintro e w' ⟨A1,c1,rfl,h3,hm,h4⟩;have gc:ah g=.cm k:=h1.fg;have hm':Mv (fun q=>ah q=.cm k) w w':=hm.mono fun b _ e=>by rw [show b=g from e]; exact gc
  refine ⟨A1,_,c1,waits,_,rfl,h3.mono fun q hq hf=>?_,h2,h.Lv hg hm' ⟨gp,[],Aw,cw,none,0,h4.mono fun _ _ e=>.inl e,fun _ hv=>by cases hv⟩,Kp.step hm' (by intro e; cases e) _⟩;rw [fV (.inl hf.1) hq];intro e;cases e
theorem wZ (h:Nd s w ah) (z:Int):Calls Tryz.prog 212 #[.pointer (some ⟨s.gn,0,none⟩),.int .i64 z] w fun e w'=>e=.returned (.tuple #[])/\∃ an,Nd { s with st:=z } w' an/\Kp w ah w' an:=by
 have N1:=h.Mf z;have K1:=Kp.node h 17 (.int .i64 z);have C0:=h.cells.st;have fz:=h.cells.free
 by_cases h5:z=5/\s.st≠5
 ·obtain ⟨rfl,hs⟩:=h5
  have e1:decide (s.st=5)=false:=decide_eq_false hs;have e2:(s.st == 5)=false:=by simpa using hs
  have e3:(s.st != 5)=true:=by simpa using hs
  have R0:Hid (∃ an,Nd { s with st:=5 } (w.setCell ⟨s.gn,17,none⟩ (.int .i64 5)) an/\Kp w ah (w.setCell ⟨s.gn,17,none⟩ (.int .i64 5)) an):=zq ⟨ah,N1,K1⟩;clear N1 K1 h hs;go_enter Tryz.func212,Tryz.ntmps212
  go_wp2_with fail
  clear C0 fz;go_loopw [21] (fun v wr=>∃ k:Nat,k<=4/\v=.int .i64 k/\Hid (∃ an,Nd { s with st:=5 } wr an/\Kp w ah wr an)) (fun v _=>4 - (intOf v).toNat)
  case atStart=>exact ⟨0,by omega,rfl,R0⟩
  case round =>
   obtain ⟨k,hk,rfl,HR⟩:=hrel;clear R0
   by_cases hlt:k < 4
   ·have tk:decide ((k:Int) < 4)=true:=decide_eq_true (by omega)
    obtain ⟨pR,NR,KR⟩:=HR.out;have CO:=NR.out hlt;have OR:=Dh NR k;obtain ⟨o1,ho1⟩:=pN (({ s with st:=5 }:cu).go k);rw [ho1] at CO OR;replace OR:=zq OR;dsimp only at CO;have HK:=zq KR;have HL:=zq hlt;clear NR KR HR ho1;go_wp2_with fail
    refine (OR.out).mono ?_;rintro e w2 ⟨rfl,bA,N2,K2⟩;have CI:=N2.cm HL.out;have IP:=pB N2 k;obtain ⟨o2,ho2⟩:=pN (({ s with st:=5 }:cu).gi k);rw [ho2] at CI IP;replace IP:=zq IP;dsimp only at CI;have PH:=zq (HK.out.trans K2);clear N2 K2 ho2 CO OR HK;go_wp2_with fail
    refine (IP.out).mono ?_;rintro e w3 ⟨A,n,c,vs,dm,rfl,_,_,N3,K3⟩;have R3:Hid (∃ an,Nd { s with st:=5 } w3 an/\Kp w ah w3 an):=zq ⟨dm,N3,PH.out.trans K3⟩;clear N3 K3 PH IP CI;go_wp2_with fail
    go_roundw
    case rel=>exact ⟨k + 1,by omega,by first | rfl | rw [hw] | go_num,R3⟩
    case measure=>(try rw [hw]); simp [intOf]; omega
   ·obtain rfl:k=4:=by omega
    go_wp2_with fail
    go_end0
    obtain ⟨pR,NR,KR⟩:=HR.out;exact ⟨rfl,pR,NR,KR⟩
 ·have H1:=zq2 N1 K1
  have HZ:=zq h5;clear N1 K1 h
  by_cases hz:z=5
  ·subst hz
   have e0:s.st=5:=Classical.not_not.1 fun hs=>h5 ⟨rfl,hs⟩
   rw [e0] at C0;clear h5;go_enter Tryz.func212,Tryz.ntmps212
   go_wp2_with fail
   (try simp only [Exit.inBlock,Exit.then])
   refine bodyPost_ret (results_none rfl _ _ _) rfl ?_;exact ⟨rfl,ah,H1.out.1,H1.out.2⟩
  ·have e1:decide (z=5)=false:=decide_eq_false hz
   have e2:(z == 5)=false:=by simpa using hz
   clear h5 hz;go_enter Tryz.func212,Tryz.ntmps212
   go_wp2_with fail
   (try simp only [Exit.inBlock,Exit.then])
   refine bodyPost_ret (results_none rfl _ _ _) rfl ?_;exact ⟨rfl,ah,H1.out.1,H1.out.2⟩
end
end Nn
end Go.Proofs.YtijegngfclkdaaaGreatDoor
