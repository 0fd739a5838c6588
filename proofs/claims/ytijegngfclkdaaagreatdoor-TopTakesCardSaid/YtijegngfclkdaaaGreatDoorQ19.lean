/-
  Piece 19 of the proof.
  Conditions: none.
-/
import Derived.Lib.AppendZerosOnto
import Derived.Test.YtijegngfclkdaaaGreatDoorQ18
set_option linter.unusedVariables false
set_option linter.unusedSimpArgs false
set_option maxHeartbeats 100000000
set_option maxRecDepth 100000
namespace Go.Proofs.YtijegngfclkdaaaGreatDoor
namespace Nn
open Go.RowKit Go.Sort
structure mT (w:World) (F:Nat->Prop) (g gp gd v:Nat) (t:Int) (ws:List Nat) (waits:List Dc.Vl) (Aw:Option Addr) (cw:Nat) (Av:Option Addr) (cv:Nat):Prop where
 fg:F g
 TZ:t<=240->F gp
 ne:g≠gp
 aP:ao w g 356 #[.pointer (some ⟨gd,0,none⟩),.int .i64 (aY.fl v:Int),.slice Aw ws.length cw,.slice Av waits.length cv,mL t gp]
 box:t<=240->ao w gp 102 #[.pointer (some ⟨g,0,none⟩)]
 words:ij w (fun q=>F q/\q≠g) 1 Aw ws.length cw (ws.map fun (x:Nat)=>Value.int .u32 (x:Int))
 wait:jU w (fun q=>F q/\q≠g) Av waits.length cv waits
section
variable {w w':World} {F G:Nat->Prop} {g gp gd v:Nat} {t:Int} {ws:List Nat} {waits:List Dc.Vl} {Aw Av:Option Addr} {cw cv:Nat}
theorem mT.mv (h:mT w F g gp gd v t ws waits Aw cw Av cv) (hm:Mv G w w') (hd:∀ b,b < w.heap.size->F b->¬ G b):mT w' F g gp gd v t ws waits Aw cw Av cv :=
 ⟨h.fg,h.TZ,h.ne,h.aP.mv hm (hd g h.aP.lt h.fg),fun ht=>(h.box ht).mv hm (hd gp (h.box ht).lt (h.TZ ht)),h.words.mv hm fun b hb hf=>hd b hb hf.1,h.wait.mv hm fun b hb hf=>hd b hb hf.1⟩
theorem mT.mono (h:mT w F g gp gd v t ws waits Aw cw Av cv) (hi:∀ b,b < w.heap.size->F b->G b):mT w G g gp gd v t ws waits Aw cw Av cv :=
 ⟨hi g h.aP.lt h.fg,fun ht=>hi gp (h.box ht).lt (h.TZ ht),h.ne,h.aP,h.box,h.words.mono fun b hb hf=>⟨hi b hb hf.1,hf.2⟩,h.wait.mono fun b hb hf=>⟨hi b hb hf.1,hf.2⟩⟩
theorem mT.below (h:mT w F g gp gd v t ws waits Aw cw Av cv) (hb:Below w.heap.size w w'):mT w' F g gp gd v t ws waits Aw cw Av cv:=h.mv (Mv.aq hb fun _=>False) fun _ _ _ h=>h
theorem mT.rw (h:mT w F g gp gd v t ws waits Aw cw Av cv):RW w w.heap.size Aw ws.length cw ws:=h.words.rv
theorem mT.aq {base:Nat} (h:W8 w base g gp gd v t ws [] Aw cw none 0):mT w (fun q=>base<=q) g gp gd v t ws [] Aw cw none 0 :=
 ⟨h.gb,fun _=>h.ZE,h.ne,h.aP,h.box,OV.zC h.words fun k hk=>⟨(OV.lt h.words k hk).1,fun e=>by
  subst e;exact bE h.words h.aP (by decide) hk⟩,jU.nil _ _⟩
theorem mT.hold (h:mT w F g gp gd v t ws waits Aw cw Av cv) {new:List Dc.Vl} {A1:Option Addr} {c1:Nat} (ho:jU w (fun q=>F q/\q≠g) A1 new.length c1 new):mT (w.setCell ⟨g,3,none⟩ (.slice A1 new.length c1)) F g gp gd v t ws new Aw cw A1 c1:=by
 have hm:=Mv.setCell w ⟨g,3,none⟩ (.slice A1 new.length c1);exact ⟨h.fg,h.TZ,h.ne,h.aP.aJ 3 _,fun ht=>(h.box ht).mv hm (Ne.symm h.ne),h.words.mv hm fun b _ hf=>hf.2,ho.mv hm fun b _ hf=>hf.2⟩
end
section
variable {w:World} {F:Nat->Prop} {g gp gd v:Nat} {t:Int} {ws:List Nat} {waits:List Dc.Vl} {Aw Av:Option Addr} {cw cv:Nat}
def JW (r:List Dc.Vl×Int×List Dc.Vl) (F:Nat->Prop) (g gp gd v:Nat) (t:Int) (ws:List Nat) (w:World) (e:Ending) (w':World):Prop :=
 ∃ A1 c1,e=.returned (.agg #[.slice A1 r.1.length c1,.int .i64 r.2.1])/\jU w' (fun q=>w.heap.size<=q/\q < w'.heap.size) A1 r.1.length c1 r.1/\Mv (fun q=>q=g) w w'/\∃ Aw cw Av cv,mT w' (fun q=>F q\/(r.1=[]/\w.heap.size<=q/\q < w'.heap.size)) g gp gd v t ws r.2.2 Aw cw Av cv
theorem lu {r:List Dc.Vl×Int×List Dc.Vl} {w':World} {z:Int} (hr:r=([],z,waits)) (h:mT w F g gp gd v t ws waits Aw cw Av cv) (hb:Below w.heap.size w w') :
  JW r F g gp gd v t ws w (.returned (.agg #[.slice none 0 0,.int .i64 z])) w':=by
 subst hr;exact ⟨none,0,rfl,jU.nil _ _,Mv.aq hb _,Aw,cw,Av,cv,(h.below hb).mono fun _ _ h=>.inl h⟩
theorem DT (l:List aD.En) (h:mT w F g gp gd v t [] waits Aw cw Av cv) {A:Option Addr} {n c:Nat} (b:List UInt8) (h1:aY.fl v≠0) :
  Calls Tryz.prog 222 #[.pointer (some ⟨g,0,none⟩),.agg #[.int .i64 (aY.fl v:Int),.bool false,.slice A n c]] w (JW (Rp.fW l v t [] waits (aY.fl v:Int) false b) F g gp gd v t [] w):=by
 have HR:=zq (GJ (l:=l) (v:=v) (t:=t) (ws:=[]) (waits:=waits) (IC:=(aY.fl v:Int)) (rem:=false) (b:=b) (.inr (.inr (.inr rfl))));have b0:=bZ w (.cells #[.int .i64 (aY.fl v:Int),.bool false,.slice A n c] 37) (.cells #[.slice none 0 0,.int .i64 0] 293);have KF:=(ao.new w 37 #[.int .i64 (aY.fl v:Int),.bool false,.slice A n c]).alloc (.cells #[.slice none 0 0,.int .i64 0] 293);have KO:=ao.new (w.alloc (.cells #[.int .i64 (aY.fl v:Int),.bool false,.slice A n c] 37)) 293 #[.slice none 0 0,.int .i64 0];rw [World.size_alloc] at KO;have KG:=h.aP.later b0;have HH:=zq h;have f0:=cell_regrown KF.three.1;have f1:=cell_regrown KF.three.2.1;have g1:=cell_regrown KG.jJ.1.2.1;have g2:=cell_regrown KG.jJ.1.2.2.1;have ID:=zq (fun d os=>Calls.kE (pQ (KG.later (below_regrown _ d os))));clear h;generalize Rp.fW l v t [] waits (aY.fl v:Int) false b=r at *;have h1:(aY.fl v:Int)≠0:=by omega
 generalize (aY.fl v:Int)=IC at *;have e1:(IC == 0)=false:=by simpa using h1
 have e2:(IC != IC)=false:=by simp
 have e3:((([]:List Nat).length:Int) == 0)=true:=rfl;go_enter Tryz.func222,Tryz.ntmps222
 go_wp2_with fail
 refine wp_region_quiet_below (by kernel_rfl) (by kernel_rfl) ?_
 repeat (go_big_quiet_step (with_reducible exact ID.out _ _))
 refine wpQuiet_nil ?_;intro _ hw';obtain ⟨⟨dq,osq⟩,hw''⟩:=hw';subst hw'';dsimp only;have bq:=below_regrown ((w.alloc (.cells #[.int .i64 IC,.bool false,.slice A n c] 37)).alloc (.cells #[.slice none 0 0,.int .i64 0] 293)) dq osq;have KQ:=KO.later bq;have T5:=aa b0 bq lq;generalize grow (redrawn ((w.alloc (.cells #[.int .i64 IC,.bool false,.slice A n c] 37)).alloc (.cells #[.slice none 0 0,.int .i64 0] 293)) dq) osq=wq at *;clear f0 f1 g1 g2 ID bq KO KF KG;have FQ:=KQ.two;go_wp2_with fail
 have R:=(KQ.mf (.slice none 0 0) (.int .i64 0)).two;exact bodyPost_ret (v:=.agg #[.slice none 0 0,.int .i64 0]) (by simp [results,Tryz.results222,go_sem,R]) rfl (lu HR.out HH.out (fK T5 (by omega) _ _ _ _))
theorem NJ {FD:Nat->Prop} {gv lc vc:Nat} {la:Addr} {vA:Option Addr} {xs vs:List Value} {D:Dc.aZ} (h:mT w F g gp gd v t ws waits Aw cw Av cv) (hD:cM 131 w FD gd gv (some la) lc vA vc xs vs D) (hd:∀ e∈D.l,e.dflt.length<=1000000) (hwl:∀ x∈ws,x < 4294967296) {A:Option Addr} {n c B:Nat} {b:List UInt8} (hr:RB w B A n c b) (hB:B<=w.heap.size) (hn:n<=1000000) (h1:aY.fl v≠0) (h4:ws.length≠0) :
  Calls Tryz.prog 222 #[.pointer (some ⟨g,0,none⟩),.agg #[.int .i64 (aY.fl v:Int),.bool false,.slice A n c]] w (JW (Rp.fW D.l v t ws waits (aY.fl v:Int) false b) F g gp gd v t ws w):=by
 have hrs:Rp.fW D.l v t ws waits (aY.fl v:Int) false b=if (Mp.aT D.l ws b).2=0 then (if t<=240 then ([],0,(Mp.aT D.l ws b).1) else ((Mp.aT D.l ws b).1,0,waits))
   else if (Mp.aT D.l ws b).2=2 then ([],33296,waits) else if (Mp.aT D.l ws b).2=9 then ([],25344,waits) else ([],0,waits):=by
  unfold Rp.fW;rw [if_neg (by simp [h1,h4])]
 have b0:=bZ w (.cells #[.int .i64 (aY.fl v:Int),.bool false,.slice A n c] 37) (.cells #[.slice none 0 0,.int .i64 0] 293);have KF:=(ao.new w 37 #[.int .i64 (aY.fl v:Int),.bool false,.slice A n c]).alloc (.cells #[.slice none 0 0,.int .i64 0] 293);have KO:=ao.new (w.alloc (.cells #[.int .i64 (aY.fl v:Int),.bool false,.slice A n c] 37)) 293 #[.slice none 0 0,.int .i64 0];rw [World.size_alloc] at KO;have KG:=h.aP.later b0;have f0:=cell_regrown KF.three.1;have f1:=cell_regrown KF.three.2.1;have g1:=cell_regrown KG.jJ.1.2.1;have g2:=cell_regrown KG.jJ.1.2.2.1;have ID:=zq (fun d os=>Calls.kE (pQ (KG.later (below_regrown _ d os))));have hgl:=h.aP.lt;have Vt:t<=240->gp < w.heap.size:=fun ht=>(h.box ht).lt
 have SC:=fun w' (hb:Below w.heap.size w w')=>vC (hD.below hb) hd (h.rw.below hb) hwl hb.size (hr.below (hb.mono hB)) hn (Nat.le_trans hB hb.size)
 have e1:((aY.fl v:Int) == 0)=false:=by rw [beq_eq_false_iff_ne]; omega
 have e2:((aY.fl v:Int) != (aY.fl v:Int))=false:=by simp
 have e3:((ws.length:Int) == 0)=false:=by rw [beq_eq_false_iff_ne]; omega
 generalize Rp.fW D.l v t ws waits (aY.fl v:Int) false b=r at *;generalize Mp.aT D.l ws b=sc at *;obtain ⟨sl,se⟩:=sc;unfold lJ at SC;dsimp only at SC hrs;have Xv:=zq hrs;have HH:=zq h;replace SC:=zq SC;generalize (aY.fl v:Int)=P at *;clear hrs h hD hr h1 h4;go_enter Tryz.func222,Tryz.ntmps222
 go_wp2_with fail
 refine wp_region_quiet_below (by kernel_rfl) (by kernel_rfl) ?_
 repeat (go_big_quiet_step (with_reducible exact ID.out _ _))
 refine wpQuiet_nil ?_;intro _ hw';obtain ⟨⟨dq,osq⟩,hw''⟩:=hw';subst hw'';dsimp only;have bq:=below_regrown ((w.alloc (.cells #[.int .i64 P,.bool false,.slice A n c] 37)).alloc (.cells #[.slice none 0 0,.int .i64 0] 293)) dq osq;have ZG:=bq.size;rw [World.size_alloc,World.size_alloc] at ZG;have KQ:=KO.later bq;have Xw:=KF.later bq;have T8:=KG.later bq;have T5:=aa b0 bq lq;generalize grow (redrawn ((w.alloc (.cells #[.int .i64 P,.bool false,.slice A n c] 37)).alloc (.cells #[.slice none 0 0,.int .i64 0] 293)) dq) osq=wq at *;clear f0 f1 g1 g2 ID bq KO KF KG b0;have f2:=cell_regrown Xw.three.2.2.1;have g0:=cell_regrown T8.jJ.1.1;have g2:=cell_regrown T8.jJ.1.2.2.1;go_wp2_with fail
 refine aN (by kernel_rfl) ?_;refine ai (by kernel_rfl) 6 (af _) [0,4,8,1,5,9,2,6,3,7] rfl (by kernel_rfl) ?_;simp only [aj,nth]
 repeat (go_big_quiet_step (fail))
 refine wpQuiet_nil ?_;refine aH 10 5 rfl (by kernel_rfl) (by decide) ?_;simp only [nth];go_wp2_with fail
 refine (SC.out _ (aa T5 (af _) lq)).mono ?_;rintro e w1 ⟨A1,c1,rfl,o1,b1⟩;have b1':Below wq.heap.size wq w1:=(af wq).trans b1;have d1:=aa T5 b1' lq;go_wp2_with fail
 refine ax b1' ?_;refine ai (by kernel_rfl) 0 (Below.refl _ _) [11,12,13,14,15] rfl (by kernel_rfl) ?_;simp only [aj,nth]
 repeat (go_big_quiet_step (fail))
 refine wpQuiet_nil ?_;refine aK (by kernel_rfl) ?_;have Pv:=KQ.later b1';have Xx:=T8.later b1';have H1:=(HH.out.mono (G:=fun q=>F q/\q < w.heap.size) fun b hb hf=>⟨hf,hb⟩).below d1;have Mn:jU w1 (fun q=>wq.heap.size<=q) A1 sl.length c1 sl:=FA o1;clear f2 g0 g2 KQ Xw T8 o1;have hgo:w.heap.size + 1≠g:=by omega
 have FO:=Pv.two;have GO:=Xx.jJ
 by_cases hse:se=0
 ·subst hse
  have hrs:=Xv.out;simp only [if_true] at hrs
  by_cases ht:t<=240
  ·rw [if_pos ht] at hrs
   have HR:=zq hrs; clear hrs;have ZH:=Vt ht;have ZI:w.heap.size + 1≠gp:=by omega
   have BX:=H1.box ht;have T2:=zq (AR A1 sl.length c1 Xx BX);have hf:mL t gp=.func (.func 288) #[] #[.pointer (some ⟨gp,0,none⟩)]:=if_pos ht;rw [hf] at GO;have H2:=(H1.mono (G:=fun q=>(F q/\q < w.heap.size)\/wq.heap.size<=q) fun _ _ h=>.inl h).hold (new:=sl) (A1:=A1) (c1:=c1) (Mn.mono fun q _ hq=>⟨.inr hq,by have hq':wq.heap.size<=q:=hq; omega⟩);have Xy:=Pv.cR (p:=⟨g,3,none⟩) hgo (.slice A1 sl.length c1);have FO2:=Xy.two;have M2:Mv (fun q=>q=g) w (w1.setCell ⟨g,3,none⟩ (.slice A1 sl.length c1)):=(Mv.aq d1 _).trans (Mv.setCell w1 ⟨g,3,none⟩ _) fun b _ e=>e
   have H3:=(H2.mv (Mv.setCell _ ⟨w.heap.size + 1,0,none⟩ (.slice none 0 0)) (fun b _ hf e=>by have e':b=w.heap.size + 1:=e; rcases hf with hf | hf <;> omega)).mv (Mv.setCell _ ⟨w.heap.size + 1,1,none⟩ (.int .i64 0)) (fun b _ hf e=>by have e':b=w.heap.size + 1:=e; rcases hf with hf | hf <;> omega);have M3:=(M2.out (q:=w.heap.size + 1) (by omega) 0 (.slice none 0 0)).out (q:=w.heap.size + 1) (by omega) 1 (.int .i64 0);have R:=(Xy.mf (.slice none 0 0) (.int .i64 0)).two;go_wp2_with fail
   refine (T2.out).mono ?_;rintro e _ ⟨rfl,rfl⟩;go_wp2_with fail
   exact bodyPost_ret (v:=.agg #[.slice none 0 0,.int .i64 0]) (by simp [results,Tryz.results222,go_sem,R]) rfl (by rw [HR.out]; exact ⟨none,0,rfl,jU.nil _ _,M3,_,_,_,_,(H3.mono fun q hq hf=>by rcases hf with hf | hf; exact .inl hf.1; exact .inr ⟨rfl,by omega,hq⟩)⟩)
  ·rw [if_neg ht] at hrs
   have HR:=zq hrs; clear hrs;have T1:=zq (BV (.slice A1 sl.length c1) w1);have hf:mL t gp=.func (.func 287) #[] #[]:=if_neg ht;rw [hf] at GO;have ZH:w.heap.size + 1≠gp\/True:=.inr trivial;have M3:=((Mv.aq d1 (fun q=>q=g)).out (q:=w.heap.size + 1) (by omega) 0 (.slice A1 sl.length c1)).out (q:=w.heap.size + 1) (by omega) 1 (.int .i64 0);have R:=(Pv.mf (.slice A1 sl.length c1) (.int .i64 0)).two;have o3:=(Mn.mv (Mv.setCell _ ⟨w.heap.size + 1,0,none⟩ (.slice A1 sl.length c1)) (fun b _ hf e=>by have e':b=w.heap.size + 1:=e; have hf':wq.heap.size<=b:=hf; omega)).mv (Mv.setCell _ ⟨w.heap.size + 1,1,none⟩ (.int .i64 0)) (fun b _ hf e=>by have e':b=w.heap.size + 1:=e; have hf':wq.heap.size<=b:=hf; omega);have H3:=HH.out.below (fK d1 (show w.heap.size<=w.heap.size + 1 by omega) 0 1 (.slice A1 sl.length c1) (.int .i64 0));go_wp2_with fail
   refine (T1.out).mono ?_;rintro e _ ⟨rfl,rfl⟩;go_wp2_with fail
   exact bodyPost_ret (v:=.agg #[.slice A1 sl.length c1,.int .i64 0]) (by simp [results,Tryz.results222,go_sem,R]) rfl (by rw [HR.out]; exact ⟨A1,c1,rfl,o3.mono (fun q hq hf=>by have hf':wq.heap.size<=q:=hf; exact ⟨by omega,hq⟩),M3,_,_,_,_,H3.mono fun _ _ h=>.inl h⟩)
 ·have hrs:=Xv.out
  have z1:(se == 0)=false:=by simpa using hse
  simp only [hse,if_false] at hrs
  by_cases h2:se=2
  ·subst h2
   simp only [if_true] at hrs;have HR:=zq hrs; clear hrs;have R:=(Pv.mf (.slice none 0 0) (.int .i64 33296)).two;clear GO;go_wp2_with fail
   exact bodyPost_ret (v:=.agg #[.slice none 0 0,.int .i64 33296]) (by simp [results,Tryz.results222,go_sem,R]) rfl (lu HR.out HH.out (fK d1 (by omega) _ _ _ _))
  ·have z2:(se == 2)=false:=by simpa using h2
   simp only [h2,if_false] at hrs
   by_cases h9:se=9
   ·subst h9
    simp only [if_true] at hrs;have HR:=zq hrs; clear hrs;have R:=(Pv.mf (.slice none 0 0) (.int .i64 25344)).two;clear GO;go_wp2_with fail
    exact bodyPost_ret (v:=.agg #[.slice none 0 0,.int .i64 25344]) (by simp [results,Tryz.results222,go_sem,R]) rfl (lu HR.out HH.out (fK d1 (by omega) _ _ _ _))
   ·have z9:(se == 9)=false:=by simpa using h9
    simp only [h9,if_false] at hrs;replace hse:=zq hse; replace h2:=zq h2; replace h9:=zq h9;have HR:=zq hrs; clear hrs;have R:=(Pv.mf (.slice none 0 0) (.int .i64 0)).two;clear GO;go_wp2_with fail
    exact bodyPost_ret (v:=.agg #[.slice none 0 0,.int .i64 0]) (by simp [results,Tryz.results222,go_sem,R]) rfl (lu HR.out HH.out (fK d1 (by omega) _ _ _ _))
theorem wI (h:mT w F g gp gd v t ws waits Aw cw Av cv):Calls Tryz.prog 220 #[.pointer (some ⟨g,0,none⟩)] w fun e w' =>
  ∃ A1 c1,e=.returned (.slice A1 waits.length c1)/\jU w' (fun q=>F q/\q≠g) A1 waits.length c1 waits/\Mv (fun q=>q=g) w w'/\mT w' F g gp gd v t ws [] Aw cw none 0:=by
 have K:=h.aP.jJ;have H2:=zq (h.hold (new:=[]) (A1:=none) (c1:=0) (jU.nil w _));have W2:=zq (h.wait.mv (Mv.setCell w ⟨g,3,none⟩ (.slice none 0 0)) fun b _ hf=>hf.2);clear h;go_enter Tryz.func220,Tryz.ntmps220
 go_wp2_with fail
 go_ret
 exact ⟨Av,cv,rfl,W2.out,Mv.setCell w ⟨g,3,none⟩ _,H2.out⟩
end
end Nn
namespace Can
open Oct
structure Fr where
 id:Int
 rem:Bool
 data:List UInt8
def zero:Fr:=⟨0,false,[]⟩
def cb (id:Int) (r:Bool) (n:Nat):Int:=if id < 0\/2047 < id then 9 else if 8 < n then 3 else if r=true/\0 < n then 4 else 0
def check (f:Fr):Int:=cb f.id f.rem f.data.length
def gK (i:Int) (r:Bool) (i':Int) (r':Bool):Bool:=decide (i < i') || (decide (i=i') && !r && r')
def before (a b:Fr):Bool:=gK a.id a.rem b.id b.rem
theorem qY {i:Int} {r:Bool} {n:Nat} (h:cb i r n=0):0<=i/\i<=2047/\n<=8/\(r=true->n=0):=by
 unfold cb at h;split at h
 ·cases h
 ·split at h
  ·cases h
  ·split at h
   ·cases h
   ·rename_i h1 h2 h3
    refine ⟨by omega,by omega,by omega,fun hr=>?_⟩;rcases Nat.eq_zero_or_pos n with h0 | h0
    ·exact h0
    ·exact absurd ⟨hr,h0⟩ h3
def rh (i:Int):List UInt8:=[P7 ((i / 256).toNat % 16),P7 ((i % 256).toNat / 16),P7 ((i % 256).toNat % 16)]
def yM (f:Fr):List UInt8×Int:=if check f=0 then (rh f.id ++ [35] ++ (if f.rem=true then [82] else QS f.data),0) else ([],check f)
def Za (s:List UInt8):Option Nat :=
 match Pj (s.getD 0 0),Pj (s.getD 1 0),Pj (s.getD 2 0) with
 | some x,some y,some z=>some (256 * x + 16 * y + z)
 | _,_,_=>none
def nv (c:UInt8):Nat:=(Pj c).getD 0
def rJ (f:Fr):Fr×Int:=if check f=0 then (f,0) else (zero,check f)
def gP (s:List UInt8):Fr×Int :=
 if 4<=s.length/\s.getD 3 0=35 then
  match Za s with
  | none=>(zero,4)
  | some n=>if s.drop 4=[82] then rJ ⟨n,true,[]⟩ else
   match Ea (s.drop 4) with
   | none=>(zero,4)
   | some d=>rJ ⟨n,false,d⟩
 else (zero,4)
def H9:List Fr->List UInt8->List UInt8×Int
 | [],t=>(t,0)
 | f :: l,t=>if (yM f).2=0 then H9 l (t ++ ((yM f).1 ++ [10])) else ([],(yM f).2)
end Can
section
open Go.ChangeShapes Go.WideShapes Go.ChangeAt Go.RowKit
def Ly (w:World) (B:Nat) (f:Can.Fr) (cs:List Value):Prop:=∃ A n c,cs=[.int .i64 f.id,.bool f.rem,.slice A n c]/\RB w B A n c f.data
theorem Ly.dX {w w':World} {B:Nat} {f:Can.Fr} {cs:List Value} (h:Ly w B f cs) (hk:∀ p:Addr,p.block < B->w'.cell? p=w.cell? p):Ly w' B f cs:=by
 obtain ⟨A,n,c,h1,h2⟩:=h;exact ⟨A,n,c,h1,h2.dX hk⟩
theorem Ly.below {w w':World} {B:Nat} {f:Can.Fr} {cs:List Value} (h:Ly w B f cs) (hb:Below B w w'):Ly w' B f cs:=h.dX fun _ hp=>hb.cell hp
def RF (w:World) (B:Nat) (A:Option Addr) (n c:Nat) (fs:List Can.Fr):Prop:=∃ xs,RV w B 3 A n c xs/\Rows (Ly w B) 3 fs xs
section
variable {w w':World} {B B' n c:Nat} {A:Option Addr} {fs:List Can.Fr}
theorem RF.len (h:RF w B A n c fs):fs.length=n:=by
 obtain ⟨xs,h1,h2⟩:=h;have:=h1.len;have:=h2.len;omega
theorem RF.lt (h:RF w B A n c fs):n<=9223372036854775807:=by
 obtain ⟨xs,h1,h2⟩:=h;exact Nat.le_trans h1.le h1.cap
theorem RF.below (h:RF w B A n c fs) (hb:Below B w w'):RF w' B A n c fs:=by
 obtain ⟨xs,h1,h2⟩:=h;exact ⟨xs,h1.below hb,h2.imp fun _ _ hr=>hr.below hb⟩
theorem RF.at_ (h:RF w B A n c fs) {i:Nat} (hi:i < n):∃ b o A' n' c',A=some ⟨b,o,none⟩/\b < B/\w.cell? ⟨b,o + i * 3,none⟩=some (.int .i64 (fs.getD i Can.zero).id) /\
  w.cell? ⟨b,o + i * 3 + 1,none⟩=some (.bool (fs.getD i Can.zero).rem)/\w.cell? ⟨b,o + i * 3 + 2,none⟩=some (.slice A' n' c')/\RB w B A' n' c' (fs.getD i Can.zero).data:=by
 have hl:=h.len;obtain ⟨xs,h1,h2⟩:=h;obtain ⟨b,o,rfl,hb,hc⟩:=h1.at_ (by omega);have hf:fs[i]?=some (fs.getD i Can.zero):=by simp [List.getD,List.getElem?_eq_getElem (show i < fs.length by omega)]
 obtain ⟨A',n',c',e,hr⟩:=h2.2 i _ hf;have e0:∀ j,((xs.drop (i * 3)).take 3)[j]?=if j < 3 then xs[i * 3 + j]? else none:=fun j=>by rw [List.getElem?_take,List.getElem?_drop]
 rw [e] at e0;refine ⟨b,o,A',n',c',rfl,hb,?_,?_,?_,hr⟩
 ·have:=hc (i * 3) _ (by have:=e0 0; simpa using this.symm)
  exact this
 ·have:=hc (i * 3 + 1) _ (by have:=e0 1; simpa using this.symm)
  rw [<- Nat.add_assoc] at this;exact this
 ·have:=hc (i * 3 + 2) _ (by have:=e0 2; simpa using this.symm)
  rw [<- Nat.add_assoc] at this;exact this
end
theorem Q5:ET Tryz.prog 87 37 3 40 (.agg #[.int .i64 0,.bool false,.slice none 0 0]):=⟨Tryz.underlying87,info_parts (by kernel_rfl),rfl,by decide⟩
theorem pV (f:Can.Fr) (A:Option Addr) (m c:Nat):∀ u∈([.int .i64 f.id,.bool f.rem,.slice A m c]:List Value),u.oneCell'=true:=by
 intro u hu;simp only [List.mem_cons,List.not_mem_nil,or_false] at hu;rcases hu with rfl | rfl | rfl <;> rfl
end
section
open Go.RowKit
def yR (w:World) (F:Nat->Prop) (f:Can.Fr) (cs:List Value):Prop:=∃ A n c,cs=[.int .i64 f.id,.bool f.rem,.slice A n c]/\iX w F A n c f.data
def iZ (w:World) (F:Nat->Prop) (A:Option Addr) (n c:Nat) (fs:List Can.Fr):Prop:=∃ xs,ij w F 3 A n c xs/\Rows (yR w F) 3 fs xs
section
variable {F G:Nat->Prop} {w w':World} {A:Option Addr} {n c:Nat} {f:Can.Fr} {fs:List Can.Fr} {cs:List Value}
theorem yR.mono (h:yR w F f cs) (hi:∀ b,b < w.heap.size->F b->G b):yR w G f cs:=by
 obtain ⟨A,n,c,h1,h2⟩:=h;exact ⟨A,n,c,h1,h2.mono hi⟩
theorem yR.mv (h:yR w F f cs) (hm:Mv G w w') (hd:∀ b,b < w.heap.size->F b->¬ G b):yR w' F f cs:=by
 obtain ⟨A,n,c,h1,h2⟩:=h;exact ⟨A,n,c,h1,h2.mv hm hd⟩
theorem yR.below (h:yR w F f cs) (hb:Below w.heap.size w w'):yR w' F f cs:=by
 obtain ⟨A,n,c,h1,h2⟩:=h;exact ⟨A,n,c,h1,h2.below hb⟩
theorem yR.Y0 (h:yR w F f cs):Ly w w.heap.size f cs:=by
 obtain ⟨A,n,c,h1,h2⟩:=h;exact ⟨A,n,c,h1,h2.rb⟩
theorem iZ.none_ (w:World) (F:Nat->Prop):iZ w F none 0 0 []:=⟨[],ij.none_ _ _ _,Rows.nil⟩
theorem iZ.mono (h:iZ w F A n c fs) (hi:∀ b,b < w.heap.size->F b->G b):iZ w G A n c fs:=by
 obtain ⟨xs,h1,h2⟩:=h;exact ⟨xs,h1.mono hi,h2.imp fun _ _ hr=>hr.mono hi⟩
theorem iZ.mv (h:iZ w F A n c fs) (hm:Mv G w w') (hd:∀ b,b < w.heap.size->F b->¬ G b):iZ w' F A n c fs:=by
 obtain ⟨xs,h1,h2⟩:=h;exact ⟨xs,h1.mv hm hd,h2.imp fun _ _ hr=>hr.mv hm hd⟩
theorem iZ.below (h:iZ w F A n c fs) (hb:Below w.heap.size w w'):iZ w' F A n c fs:=by
 obtain ⟨xs,h1,h2⟩:=h;exact ⟨xs,h1.below hb,h2.imp fun _ _ hr=>hr.below hb⟩
theorem iZ.rf (h:iZ w F A n c fs):RF w w.heap.size A n c fs:=by
 obtain ⟨xs,h1,h2⟩:=h;exact ⟨xs,h1.rv,h2.imp fun _ _ hr=>hr.Y0⟩
theorem iZ.len (h:iZ w F A n c fs):fs.length=n:=h.rf.len
theorem iZ.drop (h:iZ w F A n c fs) {k:Nat} (hk:k<=n):iZ w F (if c=k then A else A.map (·.add (k * 3))) (n - k) (c - k) (fs.drop k):=by
 obtain ⟨xs,h1,h2⟩:=h;exact ⟨_,h1.drop hk,h2.drop k⟩
end
section
variable {F G:Nat->Prop} {w w':World} {A:Option Addr} {n c:Nat} {f:Can.Fr} {fs:List Can.Fr} {cs:List Value}
theorem OV.mv {base e size:Nat} {xs:List Value} (h:OV w base e size A n c xs) (hm:Mv G w w') (hd:∀ k,(Value.slice A n c).ownBlock=some k->¬ G k):OV w' base e size A n c xs:=by
 refine ⟨h.1,?_⟩;rcases h.2 with h2 | ⟨g,cap,cur,hv,hg,hh,r⟩
 ·exact .inl h2
 ·exact .inr ⟨g,cap,cur,hv,hg,(hm.block g (Array.getElem?_eq_some_iff.1 hh).1 (hd g (by rw [hv]; rfl))).trans hh,r⟩
end
theorem sC {w:World} {F:Nat->Prop}:∀ {fs:List Can.Fr} {xs:List Value},Rows (yR w F) 3 fs xs->∀ u∈xs,u.oneCell'=true:=by
 intro fs xs h u hu;obtain ⟨j,hj,rfl⟩:=List.getElem_of_mem hu;have hl:=h.len;have hi:j / 3 < fs.length:=by omega
 obtain ⟨A,n,c,e,_⟩:=h.2 (j / 3) _ (List.getElem?_eq_getElem hi);have e0:((xs.drop (j / 3 * 3)).take 3)[j % 3]?=some xs[j]:=by
  rw [List.getElem?_take,if_pos (by omega),List.getElem?_drop,show j / 3 * 3 + j % 3=j by omega,List.getElem?_eq_getElem hj]
 rw [e] at e0;rcases (show j % 3=0\/j % 3=1\/j % 3=2 by omega) with h3 | h3 | h3 <;> rw [h3] at e0 <;> simp at e0 <;> rw [<- e0] <;> rfl
theorem rQ {P:Program} {T E size bytes:Nat} {z:Value} (ht:ET P T E size bytes z) (ty:TypeId) (w:World) {B n:Nat} {A:Option Addr} {xs:List Value} (hx:RV w B size A n n xs)
  {B':Nat} {A':Option Addr} {m c':Nat} {news:List Value} (hr:RV w B' size A' m c' news) (hm:0 < m) (h1:∀ u∈news,u.oneCell'=true)
  (hbytes:(n + m) * bytes<=140737488355328) (h63:n + m<=9223372036854775807) :
  ∃ A1 c1 w1,(Builtin.append_ #[T,T] ty #[.slice A n n,.slice A' m c']).run P w=.ok (.slice A1 (n + m) c1) w1/\OV w1 w.heap.size E size A1 (n + m) c1 (xs ++ news)/\Below w.heap.size w w1:=by
 obtain ⟨i,hi,hz,hs,hb⟩:=ht.info;have h63':n + m<=maxLen:=by simpa [maxLen] using h63
 have form:∀ {v:Value} {w1:World} {k:Nat} {ys:List Value},w1.ownsRow w.heap.size E size v k ys->∃ A1 c1,v=.slice A1 k c1:=by
  intro v w1 k ys h;rcases h.2 with ⟨rfl,rfl⟩ | ⟨g,cap,cur,rfl,_⟩
  ·exact ⟨_,_,rfl⟩
  ·exact ⟨_,_,rfl⟩
 have fin:∀ {w1:World},w.grownBy w1 none->Below w.heap.size w w1:=fun hg=>(Below.refl _ w).grown hg lq fun k hk=>by cases hk
 obtain ⟨b',o',rfl,_,hc'⟩:=hr.at_ hm;have hnews:∀ j u,news[j]?=some u->w.cell? ((⟨b',o',none⟩:Addr).add j)=some u:=fun j u hu=>by rw [Addr.add_lit]; exact hc' j u hu
 rcases A with _ | ad
 ·obtain ⟨rfl,_⟩:=hx.nil rfl
  obtain rfl:xs=[]:=List.eq_nil_of_length_eq_zero (by simpa using hx.len);obtain ⟨v',w',hrun,r1,r2,_⟩:=run_append_own (P:=P) w w.heap.size T ty E i z size bytes ht.sl hi hz hs hb ht.zc ht.pos (.slice none 0 0) 0 [] (World.ownsRow_nil w _ E size) _ m c' news hr.len hnews h1 h63' hbytes lq;obtain ⟨A1,c1,rfl⟩:=form r1;exact ⟨A1,c1,w',hrun,r1,fin r2⟩
 ·have holds:∀ j u,xs[j]?=some u->w.cell? (ad.add j)=some u:=by
   intro j u hu;rcases Nat.eq_zero_or_pos n with h0 | h0
   ·subst h0
    obtain rfl:xs=[]:=List.eq_nil_of_length_eq_zero (by simpa using hx.len);simp at hu
   ·obtain ⟨b,o,e,_,hc⟩:=hx.at_ h0
    injection e with e
    subst e;rw [Addr.add_lit];exact hc j u hu
  obtain ⟨v',w',hrun,r1,r2⟩:=run_append_arg_grows (P:=P) w T ty E i z size bytes ht.sl hi hz hs hb ht.zc ht.pos ad n n xs hx.len holds _ m c' news hr.len hnews (by omega) h63' hbytes;obtain ⟨A1,c1,rfl⟩:=form r1;exact ⟨A1,c1,w',hrun,r1,fin r2⟩
theorem fo {P:Program} {T E size bytes:Nat} {z:Value} (ht:ET P T E size bytes z) {w:World} {ops:Array Oper} {rest:List Oper} {o:Oper} {a:Act} {Q:Exit->Act->World->Prop} (hgd:o.guard=none) (s x:Operand)
  (ho:o.op=.call { callee:=.builtin .append,args:=#[s,x],argTypes:=#[T,T] })
  {A:Option Addr} {n:Nat} (hs:a.eval s=.slice A n n) {A':Option Addr} {m c':Nat} (hx:a.eval x=.slice A' m c')
  {B:Nat} {xs:List Value} (hown:RV w B size A n n xs) {B':Nat} {news:List Value} (hr:RV w B' size A' m c' news) (hm:0 < m) (h1:∀ u∈news,u.oneCell'=true)
  (hbytes:(n + m) * bytes<=140737488355328) (h63:n + m<=9223372036854775807)
  (h:∀ A1 c1 w1,OV w1 w.heap.size E size A1 (n + m) c1 (xs ++ news)->Below w.heap.size w w1->wpList P ops Q rest (a.put o.dst (.slice A1 (n + m) c1)) w1) :
  wpList P ops Q (o :: rest) a w:=by
 refine wpList_plain hgd fun K hK=>?_
 obtain ⟨A1,c1,w1,hrun,h2,h3⟩:=rQ ht o.type w hown hr hm h1 hbytes h63;unfold Oper.wp execOp;simp only [ho,resolve,invoke,builtin,Sem.run_bind,Sem.run_pure,Result.andThen_ok,List.map_toArray,List.map_cons,List.map_nil,hs,hx,hrun];exact hK _ _ (h A1 c1 w1 h2 h3)
theorem iZ.at_ {fs:List Can.Fr} {w:World} {G:Nat->Prop} {A:Option Addr} {n c:Nat} (h:iZ w G A n c fs) {i:Nat} (hi:i < n):∃ b o A' n' c',A=some ⟨b,o,none⟩/\b < w.heap.size/\w.cell? ⟨b,o + i * 3,none⟩=some (.int .i64 (fs.getD i Can.zero).id) /\
  w.cell? ⟨b,o + i * 3 + 1,none⟩=some (.bool (fs.getD i Can.zero).rem)/\w.cell? ⟨b,o + i * 3 + 2,none⟩=some (.slice A' n' c')/\iX w G A' n' c' (fs.getD i Can.zero).data:=by
 have hl:=h.len;obtain ⟨xs,h1,h2⟩:=h;obtain ⟨b,o,rfl,hF,hb,hc⟩:=h1.at_ (by omega);have hf:fs[i]?=some (fs.getD i Can.zero):=by simp [List.getD,List.getElem?_eq_getElem (show i < fs.length by omega)]
 obtain ⟨A',n',c',e,hr⟩:=h2.2 i _ hf;have e0:∀ j,((xs.drop (i * 3)).take 3)[j]?=if j < 3 then xs[i * 3 + j]? else none:=fun j=>by rw [List.getElem?_take,List.getElem?_drop]
 rw [e] at e0;refine ⟨b,o,A',n',c',rfl,hb,?_,?_,?_,hr⟩
 ·exact hc (i * 3) _ (by have:=e0 0; simpa using this.symm)
 ·have:=hc (i * 3 + 1) _ (by have:=e0 1; simpa using this.symm)
  rw [<- Nat.add_assoc] at this;exact this
 ·have:=hc (i * 3 + 2) _ (by have:=e0 2; simpa using this.symm)
  rw [<- Nat.add_assoc] at this;exact this
end
namespace Nn
open Go.RowKit Go.Sort Go
section
variable {P:Program}
theorem ED {T Ti:Nat} (ht:ET P T 5 1 1 (.int .u8 0)) (hti:P.underlying Ti=some (.int .i64)) (ty:TypeId) (w:World) {base n c:Nat} {A:Option Addr} {l:List UInt8} (hown:OB w base A n c l) (hn0:0 < n) (k:Nat) (hk:0 < k) (hnk:n + k<=1000000) (hbase:base<=w.heap.size) :
  ∃ A1 c1 w1,(Builtin.append_ #[T,Ti] ty #[.slice A n c,.int .i64 (k:Int)]).run P w=.ok (.slice A1 (n + k) c1) w1/\OB w1 base A1 (n + k) c1 (l ++ List.replicate k 0)/\Below base w w1:=by
 obtain ⟨i,hi,hz,hs,hb⟩:=ht.info;have hl:l.length=n:=by simpa using hown.1
 rcases hown.2 with ⟨_,h0⟩ | ⟨g,cap,cur,hv,hbg,hg,hnc,hcm,hcs,htk⟩
 ·omega
 ·injection hv with hv1 _ hv3
  subst hv1 hv3;have hzc:∀ m,Builtin.zeroCells (Value.int .u8 0).cells m=((List.replicate m (0:UInt8)).map bv).toArray:=fun m=>by
   apply Array.ext
   ·simp [Builtin.zeroCells,Value.cells]
   ·intro q h1 h2
    simp [Builtin.zeroCells,Value.cells,bv,Nat.mod_one]
  have hlen:(l.map bv).length=n * 1:=by simp [hl]
  have hlk:((l ++ List.replicate k 0).map bv).length=(n + k) * 1:=by simp [hl]
  by_cases hroom:n + k<=c
  ·have hst:=run_storeCells_at P g (n * 1) 5 ((List.replicate k (0:UInt8)).map bv) 0 cur w hg (by simp; omega) (fun v hv=>by obtain ⟨_,_,rfl⟩:=List.mem_map.1 hv; rfl)
   simp only [Nat.add_zero,Nat.mul_one] at hst;have hw:IntKind.i64.wrap (k:Int)=k:=by rw [IntKind.wrap_i64]; omega
   have hneg:¬ ((k:Int) < 0):=by omega
   have h48:¬ (281474976710656 < (k:Int) * (i.bytes:Int)):=by rw [hb]; omega
   have hk0:k≠0:=by omega
   obtain ⟨row,hrow⟩:∃ row:List Value,cur.toList.take n ++ (List.replicate k (0:UInt8)).map bv ++ cur.toList.drop (n + ((List.replicate k (0:UInt8)).map bv).length)=row:=⟨_,rfl⟩;rw [hrow] at hst;have hrl:row.length=c:=by
    have:=congrArg List.length hrow;simp only [List.length_append,List.length_take,List.length_map,List.length_replicate,List.length_drop,Array.length_toList] at this;omega
   have dx:row.take (n + k)=(l ++ List.replicate k 0).map bv:=by
    rw [Nat.mul_one] at htk;rw [<- hrow,htk,List.map_append];exact List.take_left' (by simp [hl])
   refine ⟨some ⟨g,0,none⟩,c,w.setRow g row.toArray,?_,⟨hlk,.inr ⟨g,c,row.toArray,rfl,hbg,setRow_heap w g cur _ 5 _ hg,hroom,hcm,?_,?_⟩⟩,?_⟩
   ·rw [List.map_replicate] at hst
    simp [Builtin.append_,run_underlying ht.sl,run_underlying hti,sizeOf,typeInfo,zeroValue,hi,hz,hs,asInt,asIntOf,hw,hneg,h48,hk0,hroom,hzc,Addr.add_lit,hst]
   ·simp [hrl]
   ·rw [Nat.mul_one]; exact dx
   ·exact (Below.refl base w).grown (row:=some g) ⟨rfl,rfl,rfl,by simp,fun q _ hq=>setRow_other w g q _ (fun e=>hq (by rw [e]))⟩ hbase (fun q e=>by injection e with e; omega)
  ·have holds:∀ j u,(l.map bv)[j]?=some u->w.drew.cell? ((⟨g,0,none⟩:Addr).add j)=some u:=fun j u hu=>hown.cells (g:=g) rfl j u hu
   have hold:=run_firstCells_some (P:=P) w.drew 1 n ⟨g,0,none⟩ n c (l.map bv) (by simp [hl]) holds;have hr:=Lib.run_append_grow_zeros w T Ti ty 5 i (.int .u8 0) .i64 .i64 ht.sl hti hi hz (some ⟨g,0,none⟩) n c (l.map bv) (by rw [hs]; exact hold) k hk (by omega) (by omega) (by omega) (by rw [hb]; omega) (by rw [hb]; exact growslice_fits (by omega) (by omega));rw [hzc,hzc] at hr;have hge:=grownCap_ge w (n + k) c 5;have hcm2:grownCap w (n + k) c 5<=maxLen:=grownCap_le_maxLen w (n + k) c 5 (by simp only [maxLen]; omega);refine ⟨_,_,_,hr,⟨hlk,.inr ⟨w.heap.size,_,_,rfl,hbase,heap_alloc_new w.drew _,hge,hcm2,?_,?_⟩⟩,?_⟩
   ·simp [hl]; omega
   ·rw [Nat.mul_one]
    simp only [Array.toList_append,List.map_append];exact List.take_left' (by simp [hl])
   ·exact (af w).mono hbase |>.alloc (by exact hbase) _
theorem tI {T Ti:Nat} (ht:ET P T 5 1 1 (.int .u8 0)) (hti:P.underlying Ti=some (.int .i64)) {w:World} {ops:Array Oper} {rest:List Oper} {o:Oper} {a:Act} {Q:Exit->Act->World->Prop} (hgd:o.guard=none) (s x:Operand)
  (ho:o.op=.call { callee:=.builtin .append,args:=#[s,x],argTypes:=#[T,Ti] }) {base n c:Nat} {A:Option Addr} {l:List UInt8} (hs:a.eval s=.slice A n c) {k:Nat} (hx:a.eval x=.int .i64 (k:Int)) (hown:OB w base A n c l) (hn0:0 < n) (hk:0 < k) (hnk:n + k<=1000000) (hbase:base<=w.heap.size)
  (h:∀ A1 c1 w1,OB w1 base A1 (n + k) c1 (l ++ List.replicate k 0)->Below base w w1->wpList P ops Q rest (a.put o.dst (.slice A1 (n + k) c1)) w1):wpList P ops Q (o :: rest) a w:=by
 obtain ⟨A1,c1,w1,hr,h1,h2⟩:=ED ht hti o.type w hown hn0 k hk hnk hbase;exact Lib.wpList_append_run w hgd s x T Ti ho _ _ hs hx _ w1 hr (h A1 c1 w1 h1 h2)
end
theorem nM {z:Nat} (hz:z < 9223372036854775808):(BitVec.ofInt 64 (z:Int)).toNat=z:=by
 rw [BitVec.ofInt_natCast,BitVec.toNat_ofNat]; exact Nat.mod_eq_of_lt (by omega)
theorem On (a b:Nat) (ha:a < 256) (hb:b < 256):bits .or .i64 (a:Int) (b:Int)=((a ||| b:Nat):Int):=by
 show IntKind.i64.wrap ((BitVec.ofInt 64 (a:Int) ||| BitVec.ofInt 64 (b:Int)).toNat:Int)=_;have:=Nat.or_lt_two_pow (n:=8) (x:=a) (y:=b) (by omega) (by omega);rw [BitVec.toNat_or,nM (by omega),nM (by omega),IntKind.wrap_i64];omega
theorem Nt {a b:Nat} (hb:1<=b):1<=a ||| b:=by
 have:=Nat.right_le_or (n:=a) (m:=b);omega
def OF (w:World) (base:Nat) (E:TypeId) (size:Nat) (A:Option Addr) (n c:Nat) (xs:List Value):Prop :=
 OV w base E size A n c xs\/(n=c/\(∀ k,(Value.slice A n c).ownBlock=some k->k < w.heap.size)/\ij w (fun b=>some b=(Value.slice A n c).ownBlock) size A n c xs)
section
variable {w w':World} {G:Nat->Prop} {base E size n c:Nat} {A:Option Addr} {xs:List Value}
theorem OF.rv (h:OF w base E size A n c xs):RV w w.heap.size size A n c xs:=by
 rcases h with h | ⟨_,_,h⟩
 ·exact OV.rv h
 ·exact h.rv
theorem OF.lt (h:OF w base E size A n c xs):∀ k,(Value.slice A n c).ownBlock=some k->k < w.heap.size:=by
 rcases h with h | ⟨_,h,_⟩
 ·exact fun k hk=>(OV.lt h k hk).2
 ·exact h
theorem OF.uj (h:OF w base E size A n c xs) (hm:Mv G w w') (hG:∀ k,(Value.slice A n c).ownBlock=some k->¬ G k):OF w' base E size A n c xs:=by
 rcases h with h | ⟨h0,h1,h2⟩
 ·exact .inl (OV.mv h hm hG)
 ·exact .inr ⟨h0,fun k hk=>Nat.lt_of_lt_of_le (h1 k hk) hm.size,h2.mv hm fun b _ hb=>hG b hb.symm⟩
theorem OF.below (h:OF w base E size A n c xs) (hb:Below w.heap.size w w'):OF w' base E size A n c xs:=h.uj (Mv.aq hb fun _=>False) fun _ _ h=>h
theorem qa {P:Program} {T bytes:Nat} {z:Value} (ht:ET P T E size bytes z) {ops:Array Oper} {rest:List Oper} {o:Oper} {a:Act} {Q:Exit->Act->World->Prop} (hgd:o.guard=none) (s x:Operand)
  (ho:o.op=.call { callee:=.builtin .append,args:=#[s,x],argTypes:=#[T,T] })
  (hs:a.eval s=.slice A n c) {A':Option Addr} {m c':Nat} (hx:a.eval x=.slice A' m c')
  (hown:OF w base E size A n c xs) {B:Nat} {news:List Value} (hr:RV w B size A' m c' news) (hm:0 < m) (h1:∀ u∈news,u.oneCell'=true)
  (hbytes:(n + m) * bytes<=140737488355328) (h63:n + m<=9223372036854775807) (hbase:base<=w.heap.size)
  (h:∀ A1 c1 w1,OV w1 base E size A1 (n + m) c1 (xs ++ news)->w.grownBy w1 (Value.slice A n c).ownBlock ->
   ((Value.slice A1 (n + m) c1).ownBlock=(Value.slice A n c).ownBlock\/∃ k,(Value.slice A1 (n + m) c1).ownBlock=some k/\w.heap.size<=k)->wpList P ops Q rest (a.put o.dst (.slice A1 (n + m) c1)) w1) :
  wpList P ops Q (o :: rest) a w:=by
 rcases hown with hown | ⟨rfl,_,hown⟩
 ·exact b_ ht hgd s x ho hs hx base hown hr h1 hbytes h63 hbase fun A1 c1 w1 o1 g1 s1=>h A1 c1 w1 o1 g1 (s1.imp id fun e=>⟨_,e,Nat.le_refl _⟩)
 ·refine fo ht hgd s x ho hs hx hown.rv hr hm h1 hbytes h63 fun A1 c1 w1 o1 b1=>h A1 c1 w1 (OV.more o1 hbase) (pj b1 _) ?_
  obtain ⟨k,e,hk,_⟩:=OV.head o1 (by omega);exact .inr ⟨k,by rw [e]; rfl,hk⟩
theorem OF.zC (h:OF w base E size A n c xs):ij w (fun b=>some b=(Value.slice A n c).ownBlock) size A n c xs:=by
 rcases h with h | ⟨_,_,h⟩
 ·exact OV.zC h fun k hk=>hk.symm
 ·exact h
theorem mE (A:Option Addr) (n c n' c':Nat):(Value.slice A n c).ownBlock=(Value.slice A n' c').ownBlock:=by cases A <;> rfl
theorem sZ {P:Program} {T bytes:Nat} {z:Value} (ht:ET P T E size bytes z) (ty:TypeId) (w:World) (A:Option Addr) (n c:Nat) (hnc:n<=c) (A':Option Addr) (c':Nat):(Builtin.append_ #[T,T] ty #[.slice A n c,.slice A' 0 c']).run P w=.ok (.slice A n c) w:=by
 obtain ⟨i,hi,hz,hs,hb⟩:=ht.info;cases A <;> cases A' <;> simp [Builtin.append_,run_underlying ht.sl,sizeOf,typeInfo,hi,Builtin.lenOf,Builtin.firstCells,loadCells,loadCellsFrom,hnc,storeCells]
theorem om {P:Program} {T bytes:Nat} {z:Value} (ht:ET P T E size bytes z) {ops:Array Oper} {rest:List Oper} {o:Oper} {a:Act} {Q:Exit->Act->World->Prop} (hgd:o.guard=none) (s x:Operand)
  (ho:o.op=.call { callee:=.builtin .append,args:=#[s,x],argTypes:=#[T,T] })
  (hs:a.eval s=.slice A n n) {A':Option Addr} {m c':Nat} (hx:a.eval x=.slice A' m c')
  (hlt:∀ k,(Value.slice A n n).ownBlock=some k->k < w.heap.size) (hown:ij w (fun b=>some b=(Value.slice A n n).ownBlock) size A n n xs) {B:Nat} {news:List Value} (hr:RV w B size A' m c' news) (h1:∀ u∈news,u.oneCell'=true)
  (hbytes:(n + m) * bytes<=140737488355328) (h63:n + m<=9223372036854775807)
  (h:∀ A1 c1 w1,OF w1 0 E size A1 (n + m) c1 (xs ++ news)->Below w.heap.size w w1 ->
   ((Value.slice A1 (n + m) c1).ownBlock=(Value.slice A n n).ownBlock\/∃ k,(Value.slice A1 (n + m) c1).ownBlock=some k/\w.heap.size<=k)->wpList P ops Q rest (a.put o.dst (.slice A1 (n + m) c1)) w1) :
  wpList P ops Q (o :: rest) a w:=by
 rcases Nat.eq_zero_or_pos m with h0 | h0
 ·subst h0
  obtain rfl:news=[]:=List.eq_nil_of_length_eq_zero (by simpa using hr.len);refine Lib.wpList_append_run w hgd s x T T ho _ _ hs hx _ w (sZ ht o.type w A n n lq A' c') ?_;exact h A n w (.inr ⟨rfl,hlt,by rw [List.append_nil]; exact hown⟩) (Below.refl _ _) (.inl rfl)
 ·refine fo ht hgd s x ho hs hx hown.rv hr h0 h1 hbytes h63 fun A1 c1 w1 o1 b1=>h A1 c1 w1 (.inl (OV.more o1 (Nat.zero_le _))) b1 ?_
  obtain ⟨k,e,hk,_⟩:=OV.head o1 (by omega);exact .inr ⟨k,by rw [e]; rfl,hk⟩
end
end Nn
namespace Can
def DG (f:Fr):List Fr->Nat
 | []=>0
 | x :: l=>if before f x=true then 0 else DG f l + 1
def tY (f:Fr) (l:List Fr):List Fr:=l.take (DG f l) ++ f :: l.drop (DG f l)
theorem xx (f:Fr):∀ l,DG f l<=l.length
 | []=>Nat.le_refl _
 | x :: l=>by
  unfold DG;split
  ·exact Nat.zero_le _
  ·have:=xx f l; simp; omega
theorem EJ {f:Fr}:∀ {l:List Fr} {k:Nat},k < l.length->before f (l.getD k zero)=true->(∀ j,j < k->before f (l.getD j zero)=false)->DG f l=k
 | [],k,h,_,_=>by simp at h
 | x :: l,0,_,h,_=>by unfold DG; rw [if_pos (by simpa using h)]
 | x :: l,k + 1,hk,h,hn=>by
  have h0:before f x=false:=by have:=hn 0 (by omega); simpa using this
  unfold DG;rw [if_neg (by rw [h0]; exact Bool.false_ne_true),EJ (l:=l) (k:=k) (by simp at hk; omega) (by simpa using h) fun j hj=>by have:=hn (j + 1) (by omega); simpa using this]
theorem yT {f:Fr}:∀ {l:List Fr},(∀ j,j < l.length->before f (l.getD j zero)=false)->DG f l=l.length
 | [],_=>rfl
 | x :: l,hn=>by
  have h0:before f x=false:=by have:=hn 0 (by simp); simpa using this
  unfold DG;rw [if_neg (by rw [h0]; exact Bool.false_ne_true),yT (l:=l) fun j hj=>by have:=hn (j + 1) (by simp; omega); simpa using this];rfl
theorem mH (f:Fr) (l:List Fr):(tY f l).length=l.length + 1:=by
 have:=xx f l;unfold tY;simp only [List.length_append,List.length_cons,List.length_take,List.length_drop];omega
end Can
end Go.Proofs.YtijegngfclkdaaaGreatDoor
