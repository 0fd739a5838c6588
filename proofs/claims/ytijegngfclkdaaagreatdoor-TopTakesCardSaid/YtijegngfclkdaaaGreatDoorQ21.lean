/-
  Piece 21 of the proof.
  Conditions: none.
-/
import Derived.Test.YtijegngfclkdaaaGreatDoorQ20
set_option linter.unusedVariables false
set_option linter.unusedSimpArgs false
set_option maxHeartbeats 100000000
set_option maxRecDepth 100000
namespace Go.Proofs.YtijegngfclkdaaaGreatDoor
section
open Go.RowKit
def nL (v:Nat) (o:Option (List UInt8)):List Can.Fr:=match o with | none=>[] | some b=>[⟨(aY.fl v:Int),false,b⟩]
def W5 (w:World) (base:Nat) (f:Can.Fr) (cs:List Value):Prop:=∃ A n c,cs=[.int .i64 f.id,.bool f.rem,.slice A n c]/\OB w base A n c f.data
def rA (l:List Can.Fr) (base g gd v:Nat) (t aV ev:Int) (ws:List Nat) (Aw:Option Addr) (cw:Nat) (s:Tp.St) (w:World) (e:Ending) (w':World):Prop :=
 ∃ A c,e=.returned (.slice A l.length c)/\OS (W5 w' w.heap.size) w' w.heap.size 37 3 A l.length c l/\Mv (fun q=>q=g) w w'/\iO w' base g gd v t aV ev ws Aw cw s
theorem cG {l:List Can.Fr} {base g gd v:Nat} {t aV ev:Int} {ws:List Nat} {Aw:Option Addr} {cw:Nat} {s:Tp.St} {w w':World} (hl:l=[]) (hm:Mv (fun q=>q=g) w w') (h:iO w' base g gd v t aV ev ws Aw cw s):rA l base g gd v t aV ev ws Aw cw s w (.returned (.slice none 0 0)) w':=by
 subst hl;exact ⟨none,0,rfl,OS.none_ _ _ _ _,hm,h⟩
theorem fX {F:Nat->Prop} {w:World} {base g gd v:Nat} {t aV ev:Int} {ws:List Nat} {Aw:Option Addr} {cw:Nat} {s:Tp.St} {gv lc vc:Nat} {la:Addr} {vA:Option Addr} {xs vs:List Value} {D:Dc.aZ} (h:iO w base g gd v t aV ev ws Aw cw s) (hD:cM 131 w F gd gv (some la) lc vA vc xs vs D) (hF:∀ q,F q->q≠g) (hd:∀ e∈D.l,e.dflt.length<=1000000) (hv:∀ v∈D.v,v.length<=1000000) (hwl:∀ x∈ws,x < 4294967296) :
  Calls Tryz.prog 231 #[.pointer (some ⟨g,0,none⟩)] w (rA (nL v (Tp.ba D v ws)) base g gd v t aV ev ws Aw cw (Tp.zp aV ev s) w):=by
 have F0:=h.aP.aA;have B0:ao w.drew g 309 #[.pointer (some ⟨gd,0,none⟩),.int .u32 (v:Int),.int .i64 t,.int .i64 aV,.int .i64 ev,.slice Aw ws.length cw,.int .i64 (aY.fl v:Int),.bool s.due,.int .i64 s.hold,.int .i64 s.left,.int .i64 s.count]:=h.aP;have f0:=B0.aA;have B1:=B0.aJ 7 (.bool false);have f1:(w.drew.setCell ⟨g,7,none⟩ (.bool false)).frozen? ⟨g,8,none⟩=false:=B1.frozen 8;have c1:(w.drew.setCell ⟨g,7,none⟩ (.bool false)).cell? ⟨g,8,none⟩=some (.int .i64 s.hold):=B1.cell 8;have B2:=B1.aJ 8 (.int .i64 aV);have f2:((w.drew.setCell ⟨g,7,none⟩ (.bool false)).setCell ⟨g,8,none⟩ (.int .i64 aV)).frozen? ⟨g,9,none⟩=false:=B2.frozen 9;have c2:((w.drew.setCell ⟨g,7,none⟩ (.bool false)).setCell ⟨g,8,none⟩ (.int .i64 aV)).cell? ⟨g,9,none⟩=some (.int .i64 s.left):=B2.cell 9;have B3:=B2.aJ 9 (.int .i64 ev);obtain ⟨K,hK⟩:∃ K:World->Prop,K=fun x=>x.cell? ⟨g,3,none⟩=some (.int .i64 aV)/\x.cell? ⟨g,4,none⟩=some (.int .i64 ev):=⟨_,rfl⟩
 have Vy:∀ x,K x->x.cell? ⟨g,3,none⟩=some (.int .i64 aV)/\x.cell? ⟨g,4,none⟩=some (.int .i64 ev):=by
  intro x hx;rw [hK] at hx;exact hx
 have hk0:K w.drew:=by rw [hK]; exact ⟨B0.cell 3,B0.cell 4⟩
 have hk1:K (w.drew.setCell ⟨g,7,none⟩ (.bool false)):=by rw [hK]; exact ⟨B1.cell 3,B1.cell 4⟩
 have hk2:K ((w.drew.setCell ⟨g,7,none⟩ (.bool false)).setCell ⟨g,8,none⟩ (.int .i64 aV)):=by rw [hK]; exact ⟨B2.cell 3,B2.cell 4⟩
 have hk3:K (((w.drew.setCell ⟨g,7,none⟩ (.bool false)).setCell ⟨g,8,none⟩ (.int .i64 aV)).setCell ⟨g,9,none⟩ (.int .i64 ev)):=by rw [hK]; exact ⟨B3.cell 3,B3.cell 4⟩
 have k3:∀ v:Wk K ⟨w.drew,hk0⟩,v.val.cell? ⟨g,3,none⟩=some (.int .i64 aV):=fun v=>(Vy _ v.ok).1
 have k4:∀ v:Wk K ⟨w.drew,hk0⟩,v.val.cell? ⟨g,4,none⟩=some (.int .i64 ev):=fun v=>(Vy _ v.ok).2
 have W1:MZ (((w.drew.setCell ⟨g,7,none⟩ (.bool false)).setCell ⟨g,8,none⟩ (.int .i64 aV)).setCell ⟨g,9,none⟩ (.int .i64 ev)) base Aw ws.length cw ws:=OV.off (OV.off (OV.off (show OV w.drew base 35 1 Aw ws.length cw _ from h.words) B0 (by decide)) B1 (by decide)) B2 (by decide);have M1:Mv (fun q=>q=g) w (((w.drew.setCell ⟨g,7,none⟩ (.bool false)).setCell ⟨g,8,none⟩ (.int .i64 aV)).setCell ⟨g,9,none⟩ (.int .i64 ev)):=(((Mv.refl _ _).drew.trans (Mv.setCell w.drew ⟨g,7,none⟩ _) (fun _ _ e=>e)).trans (Mv.setCell _ ⟨g,8,none⟩ _) (fun _ _ e=>e)).trans (Mv.setCell _ ⟨g,9,none⟩ _) (fun _ _ e=>e);have T1:iO (((w.drew.setCell ⟨g,7,none⟩ (.bool false)).setCell ⟨g,8,none⟩ (.int .i64 aV)).setCell ⟨g,9,none⟩ (.int .i64 ev)) base g gd v t aV ev ws Aw cw (Tp.zp aV ev s):=⟨h.gb,B3,W1⟩;have hD1:=hD.mv M1 fun q _ hf=>hF q hf
 clear B0 B1 B2 B3 W1 hD hK Vy h;go_enter Tryz.func231,Tryz.ntmps231
 go_wp2_with fail
 refine AF 99 ⟨w.drew,hk0⟩ (by kernel_rfl) ?_;refine pd (by kernel_rfl) 7 hk0 [0,1,2,3,8,4,9,5,10,6,11,7,12,13,14] rfl (by kernel_rfl) ?_;simp only [aj,nth]
 repeat (go_big_quiet_step (fail))
 refine wpQuiet_nil ?_;refine ag 15 6 rfl (by kernel_rfl) (by decide) ?_;simp only [nth];go_wp2_with fail
 refine mu hk1 ?_;refine pd (by kernel_rfl) 4 hk1 [16,17] rfl (by kernel_rfl) ?_;simp only [aj,nth]
 repeat (go_big_quiet_step (fail))
 refine wpQuiet_nil ?_;refine ag 18 3 rfl (by kernel_rfl) (by decide) ?_;simp only [nth];go_wp2_with fail
 refine mu hk2 ?_;refine pd (by kernel_rfl) 1 hk2 [19,20] rfl (by kernel_rfl) ?_;simp only [aj,nth]
 repeat (go_big_quiet_step (fail))
 refine wpQuiet_nil ?_;refine ag 21 0 rfl (by kernel_rfl) (by decide) ?_;simp only [nth];go_wp2_with fail
 refine mu hk3 ?_;refine au (by kernel_rfl) ?_;clear F0 f0 f1 c1 f2 c2 k3 k4 hk0 hk1 hk2 hk3;have hw1:((w.drew.setCell ⟨g,7,none⟩ (.bool false)).setCell ⟨g,8,none⟩ (.int .i64 aV)).setCell ⟨g,9,none⟩ (.int .i64 ev)=(((w.setCell ⟨g,7,none⟩ (.bool false)).setCell ⟨g,8,none⟩ (.int .i64 aV)).setCell ⟨g,9,none⟩ (.int .i64 ev)).drew:=rfl;rw [hw1] at T1 hD1 M1;clear hw1;generalize (((w.setCell ⟨g,7,none⟩ (.bool false)).setCell ⟨g,8,none⟩ (.int .i64 aV)).setCell ⟨g,9,none⟩ (.int .i64 ev)).drew=w1 at *;have G1:=T1.aP.aA;have hlw:=T1.words.rv.le;have hcw:=T1.words.rv.cap
 by_cases Sw:aY.fl v=0
 ·have e0:(aY.fl v:Int)=0:=by omega
  have HB:=zq (show nL v (Tp.ba D v ws)=[] by unfold Tp.ba; rw [if_pos (.inl Sw)]; rfl);rw [e0] at G1;clear e0 Sw hD1;go_wp2_with fail
  go_ret
  exact cG HB.out M1 T1
 ·have e1:((aY.fl v:Int) == 0)=false:=by rw [beq_eq_false_iff_ne]; omega
  by_cases hws:ws.length=0
  ·have e2:((ws.length:Int) == 0)=true:=by rw [hws]; rfl
   have HB:=zq (show nL v (Tp.ba D v ws)=[] by unfold Tp.ba; rw [if_pos (.inr hws)]; rfl);clear Sw hws hD1;go_wp2_with fail
   go_ret
   exact cG HB.out M1 T1
  ·have e2:((ws.length:Int) == 0)=false:=by rw [beq_eq_false_iff_ne]; omega
   have GA:=wU (hD1.below (af w1)) hd hv ((MZ.rw T1.words).below (af w1)) hwl lq;have hbs:Tp.ba D v ws=if (Mp.iF D ws).2=0 then some (Mp.iF D ws).1 else none:=by unfold Tp.ba; rw [if_neg (by simp [Sw,hws])]
   unfold hZ at GA;generalize Mp.iF D ws=gs at *;obtain ⟨gl,ge⟩:=gs;dsimp only at GA hbs;replace GA:=zq GA;have La:=zq hbs;have g0:=cell_regrown G1.1.1;have g5:=cell_regrown (T1.aP.cell 5);clear Sw hws hD1 hbs;go_wp2_with fail
   refine aN (by kernel_rfl) ?_;refine ai (by kernel_rfl) 6 (af _) [0,4,1,5,2,6,3,7,8] rfl (by kernel_rfl) ?_;simp only [aj,nth]
   repeat (go_big_quiet_step (fail))
   refine wpQuiet_nil ?_;refine aH 9 5 rfl (by kernel_rfl) (by decide) ?_;simp only [nth];go_wp2_with fail
   refine (GA.out).mono ?_;rintro e w2 ⟨A2,c2,rfl,o2,b2⟩;have b12:Below w1.heap.size w1 w2:=(af w1).trans b2;go_wp2_with fail
   refine ax b12 ?_;refine ai (by kernel_rfl) 0 (Below.refl _ _) [10,11,12,13,14] rfl (by kernel_rfl) ?_;simp only [aj,nth]
   repeat (go_big_quiet_step (fail))
   refine wpQuiet_nil ?_;refine aK (by kernel_rfl) ?_;have T2:=T1.below b12;have G2:=T2.aP.cell 6;have M2:Mv (fun q=>q=g) w w2:=M1.trans (Mv.aq b12 (fun q=>q=g)) fun _ _ e=>e
   clear G1 g0 g5 GA
   by_cases hge:ge=0
   ·subst hge
    have b3:=ae w2 (.cells #[.int .i64 (aY.fl v:Int),.bool false,.slice A2 gl.length c2] 37);go_wp2_with fail
    go_ret
    have hb2:Tp.ba D v ws=some gl:=La.out;rw [hb2];refine ⟨some ⟨w2.heap.size,0,none⟩,1,rfl,?_,M2.trans (Mv.aq b3 (fun q=>q=g)) fun _ _ e=>e,T2.below b3⟩;have hz:=M2.size;refine ⟨[.int .i64 (aY.fl v:Int),.bool false,.slice A2 gl.length c2],OV.new w2 _ 1 rfl (by omega) hz,?_⟩;exact Rows.one ⟨A2,gl.length,c2,rfl,((o2.below b3).more (Nat.le_trans M1.size (by simp)))⟩ rfl
   ·have ZM:(ge == 0)=false:=by simpa using hge
    have ZN:(ge != 0)=true:=by simpa using hge
    have HG:=zq hge;clear hge;go_wp2_with fail
    go_ret
    exact cG (by rw [La.out,if_neg HG.out]; rfl) M2 T2
def Nq (v:Nat) (o:Option (List UInt8)) (x:Bool×Tp.St):List Can.Fr:=if x.1=true then nL v o else []
def Rm (aV ev:Int) (x:Bool×Tp.St):Tp.St:=if x.1=true then Tp.zp aV ev x.2 else x.2
section
variable {F:Nat->Prop} {w:World} {base g gd v:Nat} {t aV ev:Int} {ws:List Nat} {Aw:Option Addr} {cw:Nat} {s:Tp.St} {gv lc vc:Nat} {la:Addr} {vA:Option Addr} {xs vs:List Value} {D:Dc.aZ}
theorem iO.due (h:iO w base g gd v t aV ev ws Aw cw s) (b:Bool):iO (w.setCell ⟨g,7,none⟩ (.bool b)) base g gd v t aV ev ws Aw cw { s with due:=b }:=⟨h.gb,h.aP.aJ 7 (.bool b),OV.off h.words h.aP (by decide)⟩
theorem iO.Xa (h:iO w base g gd v t aV ev ws Aw cw s) (b:Int):iO (w.setCell ⟨g,10,none⟩ (.int .i64 b)) base g gd v t aV ev ws Aw cw { s with count:=b }:=⟨h.gb,h.aP.aJ 10 (.int .i64 b),OV.off h.words h.aP (by decide)⟩
theorem uX (h:iO w base g gd v t aV ev ws Aw cw s) (hD:cM 131 w F gd gv (some la) lc vA vc xs vs D) (hF:∀ q,F q->q≠g) (hd:∀ e∈D.l,e.dflt.length<=1000000) (hv:∀ v∈D.v,v.length<=1000000) (hwl:∀ x∈ws,x < 4294967296) :
  Calls Tryz.prog 169 #[.pointer (some ⟨g,0,none⟩)] w (rA (Nq v (Tp.ba D v ws) (Tp.iR t s)) base g gd v t aV ev ws Aw cw (Rm aV ev (Tp.iR t s)) w):=by
 have F0:=h.aP.aA;have DV:=j9 h;have SD:=zq (fX h hD hF hd hv hwl);have TD:=h.due true;have MD:Mv (fun q=>q=g) w (w.setCell ⟨g,7,none⟩ (.bool true)):=Mv.setCell w ⟨g,7,none⟩ _
 by_cases ht:254<=t
 ·rw [decide_eq_true ht] at DV
  have t0:(t == 0)=false:=by rw [beq_eq_false_iff_ne]; omega
  have DV:=zq DV
  by_cases hh:s.hold=0
  ·have HT:=zq (show Tp.iR t s=(true,s) by unfold Tp.iR; rw [if_pos ht,if_pos hh])
   rw [hh] at F0;clear hh hD TD MD h;go_enter Tryz.func169,Tryz.ntmps169
   go_wp2_with fail
   refine (DV.out).mono ?_;rintro e _ ⟨rfl,rfl⟩;go_wp2_with fail
   refine (SD.out).mono ?_;rintro e w2 ⟨A,c,rfl,o,M,T2⟩;go_wp2_with fail
   go_ret
   rw [HT.out];exact ⟨A,c,rfl,o,M,T2⟩
  ·have HT:=zq (show Tp.iR t s=(false,{ s with due:=true }) by unfold Tp.iR; rw [if_pos ht,if_neg hh])
   have ZO:(s.hold == 0)=false:=by simpa using hh
   clear hh hD h SD;go_enter Tryz.func169,Tryz.ntmps169
   go_wp2_with fail
   refine (DV.out).mono ?_;rintro e _ ⟨rfl,rfl⟩;go_wp2_with fail
   go_ret
   rw [HT.out];exact cG rfl MD TD
 ·rw [decide_eq_false ht] at DV
  have DV:=zq DV
  by_cases h0:t=0
  ·subst h0
   have HT:=zq (show Tp.iR 0 s=(false,{ s with due:=true }) by unfold Tp.iR; rw [if_neg ht,if_pos rfl]);clear hD h SD;go_enter Tryz.func169,Tryz.ntmps169
   go_wp2_with fail
   refine (DV.out).mono ?_;rintro e _ ⟨rfl,rfl⟩;go_wp2_with fail
   go_ret
   rw [HT.out];exact cG rfl MD TD
  ·have HT:=zq (show Tp.iR t s=(false,s) by unfold Tp.iR; rw [if_neg ht,if_neg h0])
   have t0:(t == 0)=false:=by simpa using h0
   clear h0 hD SD MD TD;have H:=zq h;clear h;go_enter Tryz.func169,Tryz.ntmps169
   go_wp2_with fail
   refine (DV.out).mono ?_;rintro e _ ⟨rfl,rfl⟩;go_wp2_with fail
   go_ret
   rw [HT.out];exact cG rfl (Mv.refl _ _) H.out
end
open Go.Sort
section
variable {F:Nat->Prop} {w:World} {base g gd v:Nat} {t aV ev:Int} {ws:List Nat} {Aw:Option Addr} {cw:Nat} {s:Tp.St} {gv lc vc:Nat} {la:Addr} {vA:Option Addr} {xs vs:List Value} {D:Dc.aZ}
theorem wT (h:iO w base g gd v t aV ev ws Aw cw s) (hcnt:0<=s.count/\s.count<=1000) (hD:cM 131 w F gd gv (some la) lc vA vc xs vs D) (hF:∀ q,F q->q≠g) (hd:∀ e∈D.l,e.dflt.length<=1000000) (hv:∀ v∈D.v,v.length<=1000000) (hwl:∀ x∈ws,x < 4294967296) :
  Calls Tryz.prog 218 #[.pointer (some ⟨g,0,none⟩)] w (rA (Nq v (Tp.ba D v ws) (Tp.fq t s)) base g gd v t aV ev ws Aw cw (Rm aV ev (Tp.fq t s)) w):=by
 have F0:=h.aP.aA;have DV:=j9 h
 by_cases ht:254<=t
 ·rw [decide_eq_true ht] at DV
  have DV:=zq DV;have HT:=zq (show Tp.fq t s=(false,s) by unfold Tp.fq; rw [if_pos ht]);have H:=zq h;clear h hD;go_enter Tryz.func218,Tryz.ntmps218
  go_wp2_with fail
  refine (DV.out).mono ?_;rintro e _ ⟨rfl,rfl⟩;go_wp2_with fail
  go_ret
  rw [HT.out];exact cG rfl (Mv.refl _ _) H.out
 ·rw [decide_eq_false ht] at DV
  have DV:=zq DV
  by_cases h0:t=0
  ·subst h0
   have HT:=zq (show Tp.fq 0 s=(s.due,s) by unfold Tp.fq; rw [if_neg ht,if_pos rfl]);have SD:=zq (fX h hD hF hd hv hwl);have H:=zq h;clear hD h;cases qh:s.due
   ·rw [qh] at F0 HT
    clear qh;go_enter Tryz.func218,Tryz.ntmps218
    go_wp2_with fail
    refine (DV.out).mono ?_;rintro e _ ⟨rfl,rfl⟩;go_wp2_with fail
    go_ret
    rw [HT.out];exact cG rfl (Mv.refl _ _) H.out
   ·rw [qh] at F0 HT
    clear qh;go_enter Tryz.func218,Tryz.ntmps218
    go_wp2_with fail
    refine (DV.out).mono ?_;rintro e _ ⟨rfl,rfl⟩;go_wp2_with fail
    refine (SD.out).mono ?_;rintro e w2 ⟨A,c,rfl,o,M,T2⟩;go_wp2_with fail
    go_ret
    rw [HT.out];exact ⟨A,c,rfl,o,M,T2⟩
  ·have t0:(t == 0)=false:=by simpa using h0
   have T1:=h.Xa (s.count + 1);have M1:Mv (fun q=>q=g) w (w.setCell ⟨g,10,none⟩ (.int .i64 (s.count + 1))):=Mv.setCell w ⟨g,10,none⟩ _;have F1:=T1.aP.aA;have XA:=cell_regrown (T1.aP.cell 2);have XB:=cell_regrown (T1.aP.cell 10)
   by_cases hlt:s.count + 1 < t
   ·have HT:=zq (show Tp.fq t s=(false,{ s with count:=s.count + 1 }) by unfold Tp.fq; rw [if_neg ht,if_neg h0,if_pos hlt])
    clear hD h h0;go_enter Tryz.func218,Tryz.ntmps218
    go_wp2_with fail
    refine (DV.out).mono ?_;rintro e _ ⟨rfl,rfl⟩;go_wp2_with fail
    refine wp_region_quiet_below (by kernel_rfl) (by kernel_rfl) ?_
    repeat (go_big_quiet_step (fail))
    refine wpQuiet_nil ?_;intro _ hw';obtain ⟨⟨dq,osq⟩,hw''⟩:=hw';subst hw'';dsimp only;have bq:=below_regrown (w.setCell ⟨g,10,none⟩ (.int .i64 (s.count + 1))) dq osq;have Tq:=T1.below bq;have Mq:Mv (fun q=>q=g) w (grow (redrawn (w.setCell ⟨g,10,none⟩ (.int .i64 (s.count + 1))) dq) osq):=M1.trans (Mv.aq bq (fun q=>q=g)) (fun _ _ e=>e);clear F1 XA XB bq T1 M1;generalize grow (redrawn (w.setCell ⟨g,10,none⟩ (.int .i64 (s.count + 1))) dq) osq=wq at *;go_wp2_with fail
    go_ret
    rw [HT.out];exact cG rfl Mq Tq
   ·have HT:=zq (show Tp.fq t s=(true,{ s with count:=0 }) by unfold Tp.fq; rw [if_neg ht,if_neg h0,if_neg hlt])
    clear h h0;go_enter Tryz.func218,Tryz.ntmps218
    go_wp2_with fail
    refine (DV.out).mono ?_;rintro e _ ⟨rfl,rfl⟩;go_wp2_with fail
    refine wp_region_quiet_below (by kernel_rfl) (by kernel_rfl) ?_
    repeat (go_big_quiet_step (fail))
    refine wpQuiet_nil ?_;intro _ hw';obtain ⟨⟨dq,osq⟩,hw''⟩:=hw';subst hw'';dsimp only;have bq:=below_regrown (w.setCell ⟨g,10,none⟩ (.int .i64 (s.count + 1))) dq osq;have Tq:=T1.below bq;have Mq:Mv (fun q=>q=g) w (grow (redrawn (w.setCell ⟨g,10,none⟩ (.int .i64 (s.count + 1))) dq) osq):=M1.trans (Mv.aq bq (fun q=>q=g)) (fun _ _ e=>e);clear F1 XA XB bq T1 M1;generalize grow (redrawn (w.setCell ⟨g,10,none⟩ (.int .i64 (s.count + 1))) dq) osq=wq at *;have T2:=Tq.Xa 0;have M2:Mv (fun q=>q=g) w (wq.setCell ⟨g,10,none⟩ (.int .i64 0)):=Mq.trans (Mv.setCell _ ⟨g,10,none⟩ _) (fun _ _ e=>e);have SD:=zq (fX T2 (hD.mv M2 fun q _ hf=>hF q hf) hF hd hv hwl);have Fq:=Tq.aP.aA;clear hD Tq T2;go_wp2_with fail
    refine (SD.out).mono ?_;rintro e w2 ⟨A,c,rfl,o,M,T3⟩;go_wp2_with fail
    go_ret
    rw [HT.out];exact ⟨A,c,rfl,OS.more o M2.size fun f cs ⟨A,n,c,h1,h2⟩=>⟨A,n,c,h1,h2.more M2.size⟩,M2.trans M fun _ _ e=>e,T3⟩
end
section
variable {F:Nat->Prop} {w:World} {base g gd v:Nat} {t aV ev:Int} {ws:List Nat} {Aw:Option Addr} {cw:Nat} {s:Tp.St} {gv lc vc:Nat} {la:Addr} {vA:Option Addr} {xs vs:List Value} {D:Dc.aZ}
theorem iO.zF (h:iO w base g gd v t aV ev ws Aw cw s) (b:Int):iO (w.setCell ⟨g,8,none⟩ (.int .i64 b)) base g gd v t aV ev ws Aw cw { s with hold:=b }:=⟨h.gb,h.aP.aJ 8 (.int .i64 b),OV.off h.words h.aP (by decide)⟩
theorem iO.LJ (h:iO w base g gd v t aV ev ws Aw cw s) (b:Int):iO (w.setCell ⟨g,9,none⟩ (.int .i64 b)) base g gd v t aV ev ws Aw cw { s with left:=b }:=⟨h.gb,h.aP.aJ 9 (.int .i64 b),OV.off h.words h.aP (by decide)⟩
theorem gG (w:World) (g:Nat) (a b c:Value):Mv (fun q=>q=g) w (((w.setCell ⟨g,8,none⟩ a).setCell ⟨g,9,none⟩ b).setCell ⟨g,7,none⟩ c):=((Mv.setCell w ⟨g,8,none⟩ a).trans (Mv.setCell _ ⟨g,9,none⟩ b) fun _ _ e=>e).trans (Mv.setCell _ ⟨g,7,none⟩ c) fun _ _ e=>e
theorem CH (h:iO w base g gd v t aV ev ws Aw cw s) (hh:0<=s.hold/\s.hold<=65535) (hl:0<=s.left/\s.left<=65535) (hD:cM 131 w F gd gv (some la) lc vA vc xs vs D) (hF:∀ q,F q->q≠g) (hd:∀ e∈D.l,e.dflt.length<=1000000) (hv:∀ v∈D.v,v.length<=1000000) (hwl:∀ x∈ws,x < 4294967296) :
  Calls Tryz.prog 166 #[.pointer (some ⟨g,0,none⟩)] w (rA (Nq v (Tp.ba D v ws) (Tp.cr t s)) base g gd v t aV ev ws Aw cw (Rm aV ev (Tp.cr t s)) w):=by
 have F0:=h.aP.aA;have DV:=j9 h
 by_cases ht:254<=t
 ·rw [decide_eq_true ht] at DV
  have DV:=zq DV;obtain ⟨due,hold,left,count⟩:=s;dsimp only at hh hl F0;obtain ⟨hh1,ZO⟩:=hh;obtain ⟨ZP,ZQ⟩:=hl
  by_cases hA:hold<=1
  rcases (show left=0\/left=1\/1 < left by omega) with rfl | rfl | hl1;cases due;have T1:=h.zF (0);have F1:=T1.aP.aA;have T3:=T1;have M3:=Mv.setCell w ⟨g,8,none⟩ (.int .i64 (0));have HT:=zq (show Tp.cr t ⟨false,hold,0,count⟩=(false,(⟨false,0,0,count⟩:Tp.St)) by unfold Tp.cr Tp.fx; simp only [if_pos ht,if_pos hA]; simp)
  rotate_left
  have T1:=h.zF (0);have F1:=T1.aP.aA;have T3:=T1;have M3:=Mv.setCell w ⟨g,8,none⟩ (.int .i64 (0));have HT:=zq (show Tp.cr t ⟨true,hold,0,count⟩=(true,(⟨true,0,0,count⟩:Tp.St)) by unfold Tp.cr Tp.fx; simp only [if_pos ht,if_pos hA]; simp);have SD:=zq (fX T3 (hD.mv M3 fun q _ hf=>hF q hf) hF hd hv hwl)
  rotate_left
  cases due;have T1:=h.zF (0);have F1:=T1.aP.aA;have T2:=T1.LJ (0);have F2:=T2.aP.aA;have T3:=T2.due true;have F3:=T3.aP.aA;have M3:=gG w g (.int .i64 (0)) (.int .i64 (0)) (.bool true);have HT:=zq (show Tp.cr t ⟨false,hold,1,count⟩=(true,(⟨true,0,0,count⟩:Tp.St)) by unfold Tp.cr Tp.fx; simp only [if_pos ht,if_pos hA]; simp);have SD:=zq (fX T3 (hD.mv M3 fun q _ hf=>hF q hf) hF hd hv hwl)
  rotate_left
  have T1:=h.zF (0);have F1:=T1.aP.aA;have T2:=T1.LJ (0);have F2:=T2.aP.aA;have T3:=T2.due true;have F3:=T3.aP.aA;have M3:=gG w g (.int .i64 (0)) (.int .i64 (0)) (.bool true);have HT:=zq (show Tp.cr t ⟨true,hold,1,count⟩=(true,(⟨true,0,0,count⟩:Tp.St)) by unfold Tp.cr Tp.fx; simp only [if_pos ht,if_pos hA]; simp);have SD:=zq (fX T3 (hD.mv M3 fun q _ hf=>hF q hf) hF hd hv hwl)
  rotate_left
  have hl2:¬ left=1:=by omega
  have hl0:(left - 1 == 0)=false:=by rw [beq_eq_false_iff_ne]; omega
  have hlp:0 < left:=by omega
  cases due;have T1:=h.zF (0);have F1:=T1.aP.aA;have T2:=T1.LJ (left - 1);have F2:=T2.aP.aA;have T3:=T2.due false;have F3:=T3.aP.aA;have M3:=gG w g (.int .i64 (0)) (.int .i64 (left - 1)) (.bool false);have HT:=zq (show Tp.cr t ⟨false,hold,left,count⟩=(false,(⟨false,0,left - 1,count⟩:Tp.St)) by unfold Tp.cr Tp.fx; simp only [if_pos ht,if_pos hA]; simp [hlp,hl2])
  rotate_left
  have T1:=h.zF (0);have F1:=T1.aP.aA;have T2:=T1.LJ (left - 1);have F2:=T2.aP.aA;have T3:=T2.due true;have F3:=T3.aP.aA;have M3:=gG w g (.int .i64 (0)) (.int .i64 (left - 1)) (.bool true);have HT:=zq (show Tp.cr t ⟨true,hold,left,count⟩=(true,(⟨true,0,left - 1,count⟩:Tp.St)) by unfold Tp.cr Tp.fx; simp only [if_pos ht,if_pos hA]; simp [hlp,hl2]);have SD:=zq (fX T3 (hD.mv M3 fun q _ hf=>hF q hf) hF hd hv hwl)
  rotate_left
  have hB:=hA;have hB1:1 < hold:=by omega
  have hB2:(hold - 1 == 0)=false:=by rw [beq_eq_false_iff_ne]; omega
  clear hA;rcases (show left=0\/left=1\/1 < left by omega) with rfl | rfl | hl1;cases due;have T1:=h.zF (hold - 1);have F1:=T1.aP.aA;have T3:=T1;have M3:=Mv.setCell w ⟨g,8,none⟩ (.int .i64 (hold - 1));have HT:=zq (show Tp.cr t ⟨false,hold,0,count⟩=(false,(⟨false,hold - 1,0,count⟩:Tp.St)) by unfold Tp.cr Tp.fx; simp only [if_pos ht,if_neg hB]; simp <;> omega)
  rotate_left
  have T1:=h.zF (hold - 1);have F1:=T1.aP.aA;have T3:=T1;have M3:=Mv.setCell w ⟨g,8,none⟩ (.int .i64 (hold - 1));have HT:=zq (show Tp.cr t ⟨true,hold,0,count⟩=(false,(⟨true,hold - 1,0,count⟩:Tp.St)) by unfold Tp.cr Tp.fx; simp only [if_pos ht,if_neg hB]; simp <;> omega)
  rotate_left
  cases due;have T1:=h.zF (hold - 1);have F1:=T1.aP.aA;have T2:=T1.LJ (0);have F2:=T2.aP.aA;have T3:=T2.due true;have F3:=T3.aP.aA;have M3:=gG w g (.int .i64 (hold - 1)) (.int .i64 (0)) (.bool true);have HT:=zq (show Tp.cr t ⟨false,hold,1,count⟩=(false,(⟨true,hold - 1,0,count⟩:Tp.St)) by unfold Tp.cr Tp.fx; simp only [if_pos ht,if_neg hB]; simp <;> omega)
  rotate_left
  have T1:=h.zF (hold - 1);have F1:=T1.aP.aA;have T2:=T1.LJ (0);have F2:=T2.aP.aA;have T3:=T2.due true;have F3:=T3.aP.aA;have M3:=gG w g (.int .i64 (hold - 1)) (.int .i64 (0)) (.bool true);have HT:=zq (show Tp.cr t ⟨true,hold,1,count⟩=(false,(⟨true,hold - 1,0,count⟩:Tp.St)) by unfold Tp.cr Tp.fx; simp only [if_pos ht,if_neg hB]; simp <;> omega)
  rotate_left
  have hl2:¬ left=1:=by omega
  have hl0:(left - 1 == 0)=false:=by rw [beq_eq_false_iff_ne]; omega
  have hlp:0 < left:=by omega
  cases due;have T1:=h.zF (hold - 1);have F1:=T1.aP.aA;have T2:=T1.LJ (left - 1);have F2:=T2.aP.aA;have T3:=T2.due false;have F3:=T3.aP.aA;have M3:=gG w g (.int .i64 (hold - 1)) (.int .i64 (left - 1)) (.bool false);have HT:=zq (show Tp.cr t ⟨false,hold,left,count⟩=(false,(⟨false,hold - 1,left - 1,count⟩:Tp.St)) by unfold Tp.cr Tp.fx; simp only [if_pos ht,if_neg hB]; simp [hlp,hl2] <;> omega)
  rotate_left
  have T1:=h.zF (hold - 1);have F1:=T1.aP.aA;have T2:=T1.LJ (left - 1);have F2:=T2.aP.aA;have T3:=T2.due true;have F3:=T3.aP.aA;have M3:=gG w g (.int .i64 (hold - 1)) (.int .i64 (left - 1)) (.bool true);have HT:=zq (show Tp.cr t ⟨true,hold,left,count⟩=(false,(⟨true,hold - 1,left - 1,count⟩:Tp.St)) by unfold Tp.cr Tp.fx; simp only [if_pos ht,if_neg hB]; simp [hlp,hl2] <;> omega)
  rotate_left
  all_goals
   clear hD h;go_enter Tryz.func166,Tryz.ntmps166
   go_wp2_with fail
   refine (DV.out).mono ?_;rintro e _ ⟨rfl,rfl⟩;go_wp2_with fail
   try (refine (SD.out).mono ?_; rintro e w2 ⟨A,c,rfl,o,M,T4⟩; go_wp2_with fail; go_ret; rw [HT.out]; exact ⟨A,c,rfl,OS.more o M3.size fun f cs ⟨A,n,c,h1,h2⟩=>⟨A,n,c,h1,h2.more M3.size⟩,M3.trans M fun _ _ e=>e,T4⟩)
   try (go_ret; rw [HT.out]; exact cG rfl M3 T3)
 ·rw [decide_eq_false ht] at DV
  have DV:=zq DV;have HT:=zq (show Tp.cr t s=(false,s) by unfold Tp.cr; rw [if_neg ht]);have H:=zq h;clear h hD;go_enter Tryz.func166,Tryz.ntmps166
  go_wp2_with fail
  refine (DV.out).mono ?_;rintro e _ ⟨rfl,rfl⟩;go_wp2_with fail
  go_ret
  rw [HT.out];exact cG rfl (Mv.refl _ _) H.out
end
def Tp.ve (x:Nat) (i j:Int):Bool:=decide ((Mp.ix x:Int)=i) && decide ((Mp.sb x:Int)=j)
def Tp.Nj (ws:List Nat) (i j:Int):Bool:=ws.any fun x=>Tp.ve x i j
theorem Tp.J5 {ws:List Nat} {i j:Int} {k:Nat} (hk:k < ws.length) (h1:(Mp.ix (ws.getD k 0):Int)=i) (h2:(Mp.sb (ws.getD k 0):Int)=j):Tp.Nj ws i j=true:=by
 refine List.any_eq_true.2 ⟨ws.getD k 0,?_,?_⟩
 ·rw [List.getD_eq_getElem?_getD,List.getElem?_eq_getElem hk]; exact List.getElem_mem hk
 ·unfold Tp.ve; rw [decide_eq_true h1,decide_eq_true h2]; rfl
theorem Tp.NY {ws:List Nat} {i j:Int} (h:∀ m,m < ws.length->Tp.ve (ws.getD m 0) i j=false):Tp.Nj ws i j=false:=by
 refine List.any_eq_false.2 fun x hx=>?_
 obtain ⟨m,hm,e⟩:=List.mem_iff_getElem.1 hx;have:=h m hm;rw [List.getD_eq_getElem?_getD,List.getElem?_eq_getElem hm] at this;simp only [Option.getD_some,e] at this;rw [this]; simp
theorem FE {w:World} {base g gd v:Nat} {t aV ev:Int} {ws:List Nat} {Aw:Option Addr} {cw:Nat} {s:Tp.St} (h:iO w base g gd v t aV ev ws Aw cw s) (hwl:∀ x∈ws,x < 4294967296) (i j:Int) :
  Calls Tryz.prog 168 #[.pointer (some ⟨g,0,none⟩),.int .i64 i,.int .i64 j] w fun e w'=>e=.returned (.bool (Tp.Nj ws i j))/\w=w':=by
 have F0:w.cell? ⟨g,5,none⟩=some (.slice Aw ws.length cw):=h.aP.cell 5;have hle:=h.words.rv.le;have hcap:=h.words.rv.cap;have hR:=MZ.rw h.words;clear h;go_enter Tryz.func168,Tryz.ntmps168
 go_wp2_with fail
 go_loopw [20] (fun q wr=>∃ k:Nat,k<=ws.length/\q=.int .i64 k/\w=wr/\∀ m,m < k->Tp.ve (ws.getD m 0) i j=false) (fun q _=>ws.length - (intOf q).toNat)
 case atStart=>exact ⟨0,by omega,rfl,rfl,fun m hm=>absurd hm (by omega)⟩
 case round =>
  obtain ⟨k,hk,rfl,rfl,hno⟩:=hrel
  by_cases hlt:k < ws.length
  ·obtain ⟨b,o,rfl,hb,hc⟩:=hR.at_ hlt
   have hx:ws.getD k 0 < 4294967296:=hwl _ (by rw [List.getD_eq_getElem?_getD,List.getElem?_eq_getElem hlt]; exact List.getElem_mem hlt);have HY:=Tp.J5 (i:=i) (j:=j) hlt;obtain ⟨x,hkx⟩:∃ x,ws.getD k 0=x:=⟨_,rfl⟩;rw [hkx] at hc hx HY;have XC:=zq hkx;have MS:=zq (eM x hx w);replace HY:=zq HY;have OK:=zq hno;clear hkx hno hR
   by_cases h1:(Mp.ix x:Int)=i
   ·by_cases h2:(Mp.sb x:Int)=j
    ·have HH:=zq (HY.out h1 h2)
     have e1:((Mp.ix x:Int) == i)=true:=by simpa using h1
     have e2:((Mp.sb x:Int) == j)=true:=by simpa using h2
     clear h1 h2 HY OK;go_wp2_with fail
     refine (MS.out).mono ?_;rintro e _ ⟨rfl,rfl⟩;go_wp2_with fail
     go_ret
     refine ⟨?_,rfl⟩;rw [HH.out]
     try rfl
    ·have HH:=zq (show Tp.ve x i j=false by unfold Tp.ve; rw [decide_eq_false h2]; simp)
     have e1:((Mp.ix x:Int) == i)=true:=by simpa using h1
     have e2:((Mp.sb x:Int) == j)=false:=by simpa using h2
     clear h1 h2 HY;go_wp2_with fail
     refine (MS.out).mono ?_;rintro e _ ⟨rfl,rfl⟩;go_wp2_with fail
     go_roundw
     case rel=>exact ⟨k + 1,by omega,by go_num,by first | rfl | trivial,fun m hm=>by
      by_cases hmk:m < k
      ·exact OK.out m hmk
      ·obtain rfl:m=k:=by omega
       rw [XC.out]; exact HH.out⟩
     case measure=>simp [intOf] <;> omega
   ·have HH:=zq (show Tp.ve x i j=false by unfold Tp.ve; rw [decide_eq_false h1]; simp)
    have e1:((Mp.ix x:Int) == i)=false:=by simpa using h1
    clear h1 HY;go_wp2_with fail
    refine (MS.out).mono ?_;rintro e _ ⟨rfl,rfl⟩;go_wp2_with fail
    go_roundw
    case rel=>exact ⟨k + 1,by omega,by go_num,by first | rfl | trivial,fun m hm=>by
     by_cases hmk:m < k
     ·exact OK.out m hmk
     ·obtain rfl:m=k:=by omega
      rw [XC.out]; exact HH.out⟩
    case measure=>simp [intOf] <;> omega
  ·obtain rfl:k=ws.length:=by omega
   have HH:=zq (Tp.NY hno);clear hno;go_wp2_with fail
   go_ret
   refine ⟨?_,rfl⟩;rw [HH.out]
   try rfl
end
section
open Go.RowKit
theorem Oa (s:List UInt8) (k:Nat) (h:k < s.length):s.drop k=s.getD k 0 :: s.drop (k + 1):=by
 rw [List.drop_eq_getElem_cons h,List.getD_eq_getElem?_getD,List.getElem?_eq_getElem h];rfl
theorem mC {c d:UInt8} {k:Int} (h:c≠d) (hk:(d.toNat:Int)=k):((c.toNat:Int) == k)=false:=by
 rw [beq_eq_false_iff_ne];intro e;exact h (UInt8.toNat_inj.1 (by omega))
theorem Ie {p:UInt8->Bool} {s:List UInt8} {k:Nat} (h:k < s.length):(s.drop k).all p=(p (s.getD k 0) && (s.drop (k + 1)).all p):=by rw [Oa s k h,List.all_cons]
theorem mB (c:UInt8) (w:World):Calls Tryz.prog 175 #[.int .u8 (c.toNat:Int)] w fun e w'=>e=.returned (.bool (aD.low c))/\w=w':=by
 have hc:=nG c
 by_cases h1:97<=c.toNat
 all_goals
  go_enter Tryz.func175,Tryz.ntmps175
  go_wp2_with fail
  go_ret
  exact ⟨bI (by rw [Bool.eq_iff_iff]; simp [aD.low] <;> omega),rfl⟩
theorem vY (c:UInt8) (w:World):Calls Tryz.prog 176 #[.int .u8 (c.toNat:Int)] w fun e w'=>e=.returned (.bool (aD.inner c))/\w=w':=by
 have hc:=nG c;have L:=mB c w;generalize hl:aD.low c=l at *;replace L:=zq L;have HL:=zq hl; clear hl;cases l with
 | true =>
  go_enter Tryz.func176,Tryz.ntmps176
  go_wp2_with fail
  refine (L.out).mono ?_;rintro e _ ⟨rfl,rfl⟩;go_wp2_with fail
  go_ret
  exact ⟨bI (by unfold aD.inner; rw [HL.out]; rfl),rfl⟩
 | false =>
  by_cases h1:48<=c.toNat
  ·by_cases h2:c.toNat<=57
   ·go_enter Tryz.func176,Tryz.ntmps176
    go_wp2_with fail
    refine (L.out).mono ?_;rintro e _ ⟨rfl,rfl⟩;go_wp2_with fail
    go_ret
    exact ⟨bI (by unfold aD.inner Ty.P0; rw [decide_eq_true ⟨h1,h2⟩]; simp),rfl⟩
   ·by_cases h3:c=95
    ·subst h3
     go_enter Tryz.func176,Tryz.ntmps176
     go_wp2_with fail
     refine (L.out).mono ?_;rintro e _ ⟨rfl,rfl⟩;go_wp2_with fail
     go_ret
     exact ⟨rfl,rfl⟩
    ·have e3:=mC (k:=95) h3 rfl
     go_enter Tryz.func176,Tryz.ntmps176
     go_wp2_with fail
     refine (L.out).mono ?_;rintro e _ ⟨rfl,rfl⟩;go_wp2_with fail
     go_ret
     exact ⟨bI (by unfold aD.inner; rw [HL.out]; unfold Ty.P0; rw [decide_eq_false (by omega:¬(48<=c.toNat/\c.toNat<=57)),beq_false_of_ne h3]; simp <;> omega),rfl⟩
  ·have h3:c≠95:=by rintro rfl; exact h1 (by decide)
   have e3:=mC (k:=95) h3 rfl;go_enter Tryz.func176,Tryz.ntmps176
   go_wp2_with fail
   refine (L.out).mono ?_;rintro e _ ⟨rfl,rfl⟩;go_wp2_with fail
   go_ret
   exact ⟨bI (by unfold aD.inner; rw [HL.out]; unfold Ty.P0; rw [decide_eq_false (by omega:¬(48<=c.toNat/\c.toNat<=57)),beq_false_of_ne h3]; simp <;> omega),rfl⟩
theorem zW {s:List UInt8} (h:16 < s.length):aD.hH s=false:=by unfold aD.hH; rw [decide_eq_false (by omega)]; rfl
theorem xQ {c:UInt8} {r:List UInt8} (h:aD.low c=false):aD.hH (c :: r)=false:=by unfold aD.hH; simp [h]
theorem C_ {c:UInt8} {r:List UInt8} (h:aD.low c=true) (hl:(c :: r).length<=16):aD.hH (c :: r)=(c :: r).all aD.inner:=by unfold aD.hH; rw [decide_eq_true ⟨by simp,hl⟩]; simp [h]
theorem FY (s:List UInt8) (w:World) (hs:s.length<=9223372036854775807):Calls Tryz.prog 119 #[.string (T s)] w fun e w'=>e=.returned (.bool (aD.hH s))/\w=w':=by
 have hT:=pF s;cases s with
 | nil =>
  go_enter Tryz.func119,Tryz.ntmps119
  have h0:T []=(⟨#[]⟩:ByteArray):=rfl;go_wp2_with fail
  go_ret
  exact ⟨rfl,rfl⟩
 | cons c r =>
  have htl:=pA (c :: r);have hne:((c :: r:List UInt8) == [])=false:=rfl
  by_cases hl:16 < (c :: r).length
  ·have HV:=zq (zW hl)
   generalize (c :: r:List UInt8)=s at *;go_enter Tryz.func119,Tryz.ntmps119
   go_wp2_with fail
   go_ret
   exact ⟨by rw [HV.out]; rfl,rfl⟩
  have Vz:=fun w=>vy (c :: r) .i64 0 0 rfl (by simp) w
  rw [show (c :: r).getD 0 0=c from rfl] at Vz;have L:=fun w=>mB c w
  cases hlo:aD.low c with
  | false =>
   rw [hlo] at L;have HV:=zq (xQ (r:=r) hlo);replace L:=zq L;clear hlo;generalize (c :: r:List UInt8)=s at *;go_enter Tryz.func119,Tryz.ntmps119
   go_wp2_with fail
   refine (L.out _).mono ?_;rintro e _ ⟨rfl,rfl⟩;go_wp2_with fail
   go_ret
   exact ⟨by rw [HV.out]; rfl,rfl⟩
  | true =>
   rw [hlo] at L;have HV:Hid (aD.hH (c :: r)=((c :: r).drop 0).all aD.inner):=zq (by rw [List.drop_zero]; exact C_ hlo (by omega));replace L:=zq L;clear hlo;have hpos:0 < (c :: r).length:=by simp
   generalize (c :: r:List UInt8)=s at *;generalize aD.hH s=res at *;go_enter Tryz.func119,Tryz.ntmps119
   go_wp2_with fail
   refine (L.out _).mono ?_;rintro e w ⟨rfl,rfl⟩;go_wp2_with fail
   go_loop [2,19] (fun x v=>x=.bool false/\∃ k:Nat,k<=s.length/\v=.int .i64 k/\Hid (res=(s.drop k).all aD.inner)) (fun _ v=>s.length - (intOf v).toNat)
   case atStart=>exact ⟨rfl,0,by omega,rfl,HV⟩
   case round =>
    obtain ⟨rfl,k,hk,rfl,hq⟩:=hrel
    by_cases hlt:k < s.length
    ·have hat:=fun w=>vy s .i64 k k rfl hlt w
     have hst:=hq.out;rw [Ie hlt] at hst;have I:=fun w=>vY (s.getD k 0) w
     clear hq;generalize s.getD k 0=d at *;cases hi:aD.inner d with
     | true =>
      rw [hi] at I hst;rw [Bool.true_and] at hst;have HQ:=zq hst;replace I:=zq I;clear hst hi;go_wp2_with fail
      refine (I.out _).mono ?_;rintro e w ⟨rfl,rfl⟩;go_wp2_with fail
      go_round
      case rel=>exact ⟨rfl,k + 1,by omega,by go_num,HQ⟩
      case measure=>simp [intOf] <;> omega
     | false =>
      rw [hi] at I hst;rw [Bool.false_and] at hst;have HQ:=zq hst;replace I:=zq I;clear hst hi;go_wp2_with fail
      refine (I.out _).mono ?_;rintro e w ⟨rfl,rfl⟩;go_wp2_with fail
      go_ret
      exact ⟨by rw [HQ.out]; rfl,rfl⟩
    ·have HQ:Hid (res=true):=zq (by rw [hq.out,List.drop_of_length_le (by omega)]; rfl)
     clear hq;obtain rfl:k=s.length:=by omega
     go_wp2_with fail
     go_ret
     exact ⟨by rw [HQ.out]; rfl,rfl⟩
theorem Eg {α:Type} {l:List α} (h:(!l.isEmpty)=false):l=[]:=by
 cases l with
 | nil=>rfl
 | cons a b=>cases h
theorem CG {α:Type} {l:List α} (h:(!l.isEmpty)=true):¬ l=[]:=by
 rintro rfl;cases h
theorem Bm (e:aD.En) {A:Option Addr} {n c B:Nat} (w:World) (hb:RB w B A n c e.dflt) (hB:B<=w.heap.size) (hn:e.name.length<=9223372036854775807):Calls Tryz.prog 77 #[gO e A n c] w fun x w'=>x=.returned (.int .i64 (aD.cD e))/\Below w.heap.size w w':=by
 obtain ⟨ix,sb,nm,ty,ac,mp,st,mx,lo,hi,df⟩:=e;dsimp only at hb hn;have L:=fun w=>wi ty w
 have NM:=fun w=>FY nm w hn
 have KN:=fun w=>xN ty w
 have FL:=fun w=>Bk ⟨ix,sb,nm,ty,ac,mp,st,mx,lo,hi,df⟩ A n c w
 have NB:=fun w=>sn ⟨ix,sb,nm,ty,ac,mp,st,mx,lo,hi,df⟩ A n c (Ty.gV ty).1 (Ty.gV ty).2.1 w
 have SZ:=fun w=>Bx ⟨ix,sb,nm,ty,ac,mp,st,mx,lo,hi,df⟩ A n c w
 have VL:=fun (w1:World) (h:Below w.heap.size w w1)=>ga ⟨ix,sb,nm,ty,ac,mp,st,mx,lo,hi,df⟩ A n c w1 (hb.below (h.mono hB)) (Nat.le_trans hB h.size)
 unfold wL at KN;unfold r9 at L;unfold gO at FL NB SZ VL;dsimp only at FL NB SZ VL;unfold gO;dsimp only;have hR:aD.cD ⟨ix,sb,nm,ty,ac,mp,st,mx,lo,hi,df⟩=if ix < 1\/65535 < ix\/sb < 0\/255 < sb then 9 else if aD.hH nm=false then 14 else if (Ty.kd ty).name=[] then 15 else if aD.j8 ⟨ix,sb,nm,ty,ac,mp,st,mx,lo,hi,df⟩=false then 1 else if aD.Hw ⟨ix,sb,nm,ty,ac,mp,st,mx,lo,hi,df⟩=false then 1 else if aD.cJ ⟨ix,sb,nm,ty,ac,mp,st,mx,lo,hi,df⟩ df≠0 then 4 else 0:=rfl
 have XD:aD.Hw ⟨ix,sb,nm,ty,ac,mp,st,mx,lo,hi,df⟩=if (Ty.gV ty).2.2=true then aD.dT ⟨ix,sb,nm,ty,ac,mp,st,mx,lo,hi,df⟩ (Ty.gV ty).1 (Ty.gV ty).2.1 else aD.sizedB ⟨ix,sb,nm,ty,ac,mp,st,mx,lo,hi,df⟩:=rfl
 rw [XD] at hR;generalize aD.cD ⟨ix,sb,nm,ty,ac,mp,st,mx,lo,hi,df⟩=res at *;generalize aD.j8 ⟨ix,sb,nm,ty,ac,mp,st,mx,lo,hi,df⟩=fb at *;generalize aD.dT ⟨ix,sb,nm,ty,ac,mp,st,mx,lo,hi,df⟩ (Ty.gV ty).1 (Ty.gV ty).2.1=nb at *;generalize aD.sizedB ⟨ix,sb,nm,ty,ac,mp,st,mx,lo,hi,df⟩=sz at *;generalize aD.cJ ⟨ix,sb,nm,ty,ac,mp,st,mx,lo,hi,df⟩ df=vl at *;generalize aD.hH nm=ZR at *;generalize (Ty.gV ty).1=llo at *;generalize (Ty.gV ty).2.1=lhi at *;generalize (Ty.gV ty).2.2=num at *;clear XD hb hn;obtain ⟨kn,hkn⟩:∃ kn,(!(Ty.kd ty).name.isEmpty)=kn:=⟨_,rfl⟩;rw [hkn] at KN;have HK:=zq hkn;have HR:=zq hR;replace L:=zq L; replace NM:=zq NM; replace KN:=zq KN; replace FL:=zq FL; replace NB:=zq NB; replace SZ:=zq SZ; replace VL:=zq VL;clear hR hkn;go_enter Tryz.func77,Tryz.ntmps77
 go_wp2_with fail
 refine (L.out _).mono ?_;rintro x w1 ⟨rfl,b1⟩;have K1:=ao.made b1;have d1:=aa (ae _ _) b1 lq;have F1:=K1.aA
 by_cases r1:ix < 1
 ·go_wp2_with fail
  go_ret
  exact ⟨by rw [HR.out,if_pos (by omega)]; rfl,d1⟩
 by_cases r2:65535 < ix
 ·go_wp2_with fail
  go_ret
  exact ⟨by rw [HR.out,if_pos (by omega)]; rfl,d1⟩
 by_cases r3:sb < 0
 ·go_wp2_with fail
  go_ret
  exact ⟨by rw [HR.out,if_pos (by omega)]; rfl,d1⟩
 by_cases r4:255 < sb
 ·go_wp2_with fail
  go_ret
  exact ⟨by rw [HR.out,if_pos (by omega)]; rfl,d1⟩
 replace HR:=zq (HR.out.trans (if_neg (by omega)));go_wp2_with fail
 refine (NM.out _).mono ?_;rintro x _ ⟨rfl,rfl⟩;cases ZR with
 | false =>
  go_wp2_with fail
  go_ret
  exact ⟨by rw [HR.out]; rfl,d1⟩
 | true =>
 replace HR:=zq (HR.out.trans (if_neg (by decide)));go_wp2_with fail
 refine (KN.out _).mono ?_;rintro x w2 ⟨rfl,b2⟩;replace K1:=K1.later b2;replace d1:=aa d1 b2 lq;replace F1:=K1.aA;cases kn with
 | false =>
  go_wp2_with fail
  go_ret
  exact ⟨by rw [HR.out,if_pos (Eg HK.out)]; rfl,d1⟩
 | true =>
 replace HR:=zq (HR.out.trans (if_neg (CG HK.out)));go_wp2_with fail
 refine (FL.out _).mono ?_;rintro x w3 ⟨rfl,b3⟩;replace K1:=K1.later b3;replace d1:=aa d1 b3 lq;replace F1:=K1.aA;cases fb with
 | false =>
  go_wp2_with fail
  go_ret
  exact ⟨by rw [HR.out]; rfl,d1⟩
 | true =>
 replace HR:=zq (HR.out.trans (if_neg (by decide)));cases num with
 | true =>
  go_wp2_with fail
  refine (NB.out _).mono ?_;rintro x w4 ⟨rfl,b4⟩;replace K1:=K1.later b4;replace d1:=aa d1 b4 lq;replace F1:=K1.aA;cases nb with
  | false =>
   go_wp2_with fail
   go_ret
   exact ⟨by rw [HR.out]; rfl,d1⟩
  | true =>
  replace HR:=zq (HR.out.trans (if_neg (by simp)));go_wp2_with fail
  refine (VL.out _ d1).mono ?_;rintro x w5 ⟨rfl,b5⟩;replace K1:=K1.later b5;replace d1:=aa d1 b5 lq;replace F1:=K1.aA
  by_cases hv:vl=0
  ·subst hv
   go_wp2_with fail
   go_ret
   exact ⟨by rw [HR.out,if_neg (by simp)]; rfl,d1⟩
  ·have ev:(vl != 0)=true:=by simpa using hv
   have HV:=zq hv;clear hv;go_wp2_with fail
   go_ret
   exact ⟨by rw [HR.out,if_pos HV.out]; rfl,d1⟩
 | false =>
  go_wp2_with fail
  refine (SZ.out _).mono ?_;rintro x w4 ⟨rfl,b4⟩;replace K1:=K1.later b4;replace d1:=aa d1 b4 lq;replace F1:=K1.aA;cases sz with
  | false =>
   go_wp2_with fail
   go_ret
   exact ⟨by rw [HR.out]; rfl,d1⟩
  | true =>
  replace HR:=zq (HR.out.trans (if_neg (by simp)));go_wp2_with fail
  refine (VL.out _ d1).mono ?_;rintro x w5 ⟨rfl,b5⟩;replace K1:=K1.later b5;replace d1:=aa d1 b5 lq;replace F1:=K1.aA
  by_cases hv:vl=0
  ·subst hv
   go_wp2_with fail
   go_ret
   exact ⟨by rw [HR.out,if_neg (by simp)]; rfl,d1⟩
  ·have ev:(vl != 0)=true:=by simpa using hv
   have HV:=zq hv;clear hv;go_wp2_with fail
   go_ret
   exact ⟨by rw [HR.out,if_pos HV.out]; rfl,d1⟩
end
end Go.Proofs.YtijegngfclkdaaaGreatDoor
