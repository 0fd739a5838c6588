/-
  Piece 26 of the proof.
  Conditions: none.
-/
import Derived.Deep.WholeRow
import Derived.Test.YtijegngfclkdaaaGreatDoorQ25
set_option linter.unusedVariables false
set_option linter.unusedSimpArgs false
set_option maxHeartbeats 100000000
set_option maxRecDepth 100000
namespace Go.Proofs.YtijegngfclkdaaaGreatDoor
section
open Go.RowKit
def Qm (o:Option (Nat×Int×List Nat)) (w:World) (e:Ending) (w':World):Prop:=match o with
 | none=>e=.returned (.tuple #[.agg #[.int .u32 0,.int .i64 0,.slice none 0 0],.bool false])/\Below w.heap.size w w'
 | some (v,t,ws)=>∃ A c,e=.returned (.tuple #[.agg #[.int .u32 (v:Int),.int .i64 t,.slice A ws.length c],.bool true])/\iY w' w.heap.size A ws.length c ws/\Below w.heap.size w w'
def TF (o:Option (Nat×Int×Int×Int×List Nat)) (w:World) (e:Ending) (w':World):Prop:=match o with
 | none=>e=.returned (.tuple #[.agg #[.int .u32 0,.int .i64 0,.int .i64 0,.int .i64 0,.slice none 0 0],.bool false])/\Below w.heap.size w w'
 | some (v,t,aV,ev,ws)=>∃ A c,e=.returned (.tuple #[.agg #[.int .u32 (v:Int),.int .i64 t,.int .i64 aV,.int .i64 ev,.slice A ws.length c],.bool true])/\iY w' w.heap.size A ws.length c ws/\Below w.heap.size w w'
theorem lK (D:Dc.aZ) (i j:Int):∃ z:Nat,(Pm.cE D i j).1=(z:Int)/\z < 4294967296:=by
 obtain ⟨h1,h2⟩:=Pm.gY D i j;obtain ⟨z,hz⟩:=Int.eq_ofNat_of_zero_le h1;exact ⟨z,hz,by omega⟩
section
variable {F:Nat->Prop} {w:World} {g gv lc vc:Nat} {la:Addr} {vA:Option Addr} {xs vs:List Value} {D:Dc.aZ}
theorem px (k:Int) (h:cM 131 w F g gv (some la) lc vA vc xs vs D) (hd:∀ e∈D.l,e.dflt.length<=1000000) (hv:∀ v∈D.v,v.length<=1000000) :
  Calls Tryz.prog 21 #[.pointer (some ⟨g,0,none⟩),.int .i64 k] w (Qm (Pm.bO D k) w):=by
 have b0:=ae w (.cells #[.int .u32 0,.int .i64 0,.slice none 0 0] 65);have K0:=ao.new w 65 #[.int .u32 0,.int .i64 0,.slice none 0 0];have F0:=K0.three
 by_cases hk:k < 0\/4<=k
 ·have ho:Pm.bO D k=none:=by unfold Pm.bO; rw [if_pos hk]
  rw [ho];unfold Qm;dsimp only;clear h ho;rcases hk with hk | hk
  all_goals
   go_enter Tryz.func21,Tryz.ntmps21
   go_wp2_with fail
   exact bodyPost_ret (v:=.tuple #[.agg #[.int .u32 0,.int .i64 0,.slice none 0 0],.bool false]) (by simp [results,Tryz.results21,go_sem,F0]) rfl ⟨rfl,b0⟩
 ·have hk1:0<=k:=by omega
  have hk2:k < 4:=by omega
  have NU:=iP (5120 + k) 1 (h.below b0) hd hv;have ho:Pm.bO D k=if (Pm.cE D (5120 + k) 1).2=false then none else some ((Pm.cE D (5120 + k) 1).1.toNat,Pm.dC D (5120 + k) 2 255,Pm.dJ D (5632 + k)):=by unfold Pm.bO; rw [if_neg hk]
  have hnn:=lK D (5120 + k) 1;rw [ho];clear hk ho;generalize Pm.cE D (5120 + k) 1=q at *;obtain ⟨q1,q2⟩:=q;dsimp only at hnn NU ⊢;obtain ⟨z,rfl,hz⟩:=hnn;cases q2
  ·simp only [if_true]
   unfold Qm;dsimp only;replace NU:=zq NU;clear h;go_enter Tryz.func21,Tryz.ntmps21
   go_wp2_with fail
   refine (NU.out).mono ?_;rintro e w1 ⟨rfl,b1⟩;have K1:=K0.later b1;have F1:=K1.three;have VI:=(K1.eG (.int .u32 0) (.int .i64 0) (.slice none 0 0)).three;have SJ:=bM (aa b0 b1 lq) (Nat.le_refl w.heap.size) 0 1 2 (.int .u32 0) (.int .i64 0) (.slice none 0 0);clear F0;go_wp2_with fail
   exact bodyPost_ret (v:=.tuple #[.agg #[.int .u32 0,.int .i64 0,.slice none 0 0],.bool false]) (by simp [results,Tryz.results21,go_sem,VI]) rfl ⟨rfl,SJ⟩
  ·simp only [Bool.true_eq_false,if_false]
   unfold Qm;dsimp only;rw [show (z:Int).toNat=z by omega];have Ud:(z:Int) % 4294967296=(z:Int):=Int.emod_eq_of_lt (by omega) (by omega);have N2:=fun (w1:World) (hb:Below w.heap.size w w1)=>cY (5120 + k) 2 255 (h.below hb) hd hv
   have WD:=fun (w1:World) (hb:Below w.heap.size w w1)=>me (5632 + k) (h.below hb) hd hv
   generalize Pm.dC D (5120 + k) 2 255=t at *;generalize Pm.dJ D (5632 + k)=ws at *;unfold sM at WD;replace NU:=zq NU; replace N2:=zq N2; replace WD:=zq WD;clear h hz;go_enter Tryz.func21,Tryz.ntmps21
   go_wp2_with fail
   refine (NU.out).mono ?_;rintro e w1 ⟨rfl,b1⟩;have d1:=aa b0 b1 lq;clear F0;go_wp2_with fail
   refine (N2.out _ d1).mono ?_;rintro e w2 ⟨rfl,b2⟩;have d2:=aa d1 b2 lq;go_wp2_with fail
   refine (WD.out _ d2).mono ?_;rintro e w3 ⟨A3,c3,rfl,o3,b3⟩;have d3:=aa d2 b3 lq;have K3:=((K0.later b1).later b2).later b3;have F3:=K3.three;have Z4:=(K3.eG (.int .u32 (z:Int)) (.int .i64 t) (.slice A3 ws.length c3)).three;have Z5:=bM d3 (Nat.le_refl w.heap.size) 0 1 2 (.int .u32 (z:Int)) (.int .i64 t) (.slice A3 ws.length c3);have hl2:w.heap.size < w2.heap.size:=((K0.later b1).later b2).lt;go_wp2_with fail
   refine bodyPost_ret (v:=.tuple #[.agg #[.int .u32 (z:Int),.int .i64 t,.slice A3 ws.length c3],.bool true]) (by simp [results,Tryz.results21,go_sem,Z4]) rfl ⟨A3,c3,rfl,?_,Z5⟩;exact iY.more (base:=w2.heap.size) (iY.cR (iY.cR (iY.cR o3 hl2 0 _) hl2 1 _) hl2 2 _) d2.size
theorem ao.Ho {g:Nat} {ty:TypeId} {a b c d e:Value} (h:ao w g ty #[a,b,c,d,e]) (a' b' c' d' e':Value):ao (((((w.setCell ⟨g,0,none⟩ a').setCell ⟨g,1,none⟩ b').setCell ⟨g,2,none⟩ c').setCell ⟨g,3,none⟩ d').setCell ⟨g,4,none⟩ e') g ty #[a',b',c',d',e']:=((((h.aJ 0 a').aJ 1 b').aJ 2 c').aJ 3 d').aJ 4 e'
theorem ao.cin {g:Nat} {ty:TypeId} {a b c d e:Value} (h:ao w g ty #[a,b,c,d,e]):(w.cell? ⟨g,0,none⟩=some a/\w.cell? ⟨g,1,none⟩=some b/\w.cell? ⟨g,2,none⟩=some c/\w.cell? ⟨g,3,none⟩=some d/\w.cell? ⟨g,4,none⟩=some e)/\(w.frozen? ⟨g,0,none⟩=false/\w.frozen? ⟨g,1,none⟩=false/\w.frozen? ⟨g,2,none⟩=false/\w.frozen? ⟨g,3,none⟩=false/\w.frozen? ⟨g,4,none⟩=false):=⟨⟨h.cell 0,h.cell 1,h.cell 2,h.cell 3,h.cell 4⟩,h.frozen 0,h.frozen 1,h.frozen 2,h.frozen 3,h.frozen 4⟩
theorem oR {B:Nat} {w':World} {g:Nat} (h:Below B w w') (hg:B<=g) (a b c d e:Value):Below B w (((((w'.setCell ⟨g,0,none⟩ a).setCell ⟨g,1,none⟩ b).setCell ⟨g,2,none⟩ c).setCell ⟨g,3,none⟩ d).setCell ⟨g,4,none⟩ e):=((((h.setCell (p:=⟨g,0,none⟩) hg a).setCell (p:=⟨g,1,none⟩) hg b).setCell (p:=⟨g,2,none⟩) hg c).setCell (p:=⟨g,3,none⟩) hg d).setCell (p:=⟨g,4,none⟩) hg e
theorem vm (k:Int) (h:cM 131 w F g gv (some la) lc vA vc xs vs D) (hd:∀ e∈D.l,e.dflt.length<=1000000) (hv:∀ v∈D.v,v.length<=1000000) :
  Calls Tryz.prog 248 #[.pointer (some ⟨g,0,none⟩),.int .i64 k] w (TF (Pm.lB D k) w):=by
 have b0:=ae w (.cells #[.int .u32 0,.int .i64 0,.int .i64 0,.int .i64 0,.slice none 0 0] 307);have K0:=ao.new w 307 #[.int .u32 0,.int .i64 0,.int .i64 0,.int .i64 0,.slice none 0 0];have F0:=K0.cin
 by_cases hk:k < 0\/4<=k
 ·have ho:Pm.lB D k=none:=by unfold Pm.lB; rw [if_pos hk]
  rw [ho];unfold TF;dsimp only;clear h ho;rcases hk with hk | hk
  all_goals
   go_enter Tryz.func248,Tryz.ntmps248
   go_wp2_with fail
   exact bodyPost_ret (v:=.tuple #[.agg #[.int .u32 0,.int .i64 0,.int .i64 0,.int .i64 0,.slice none 0 0],.bool false]) (by simp [results,Tryz.results248,go_sem,F0]) rfl ⟨rfl,b0⟩
 ·have hk1:0<=k:=by omega
  have hk2:k < 4:=by omega
  have NU:=iP (6144 + k) 1 (h.below b0) hd hv;have ho:Pm.lB D k=if (Pm.cE D (6144 + k) 1).2=false then none else some ((Pm.cE D (6144 + k) 1).1.toNat,Pm.dC D (6144 + k) 2 255,Pm.dC D (6144 + k) 3 0,Pm.dC D (6144 + k) 5 0,Pm.dJ D (6656 + k)):=by unfold Pm.lB; rw [if_neg hk]
  have hnn:=lK D (6144 + k) 1;rw [ho];clear hk ho;generalize Pm.cE D (6144 + k) 1=q at *;obtain ⟨q1,q2⟩:=q;dsimp only at hnn NU ⊢;obtain ⟨z,rfl,hz⟩:=hnn;cases q2
  ·simp only [if_true]
   unfold TF;dsimp only;replace NU:=zq NU;clear h;go_enter Tryz.func248,Tryz.ntmps248
   go_wp2_with fail
   refine (NU.out).mono ?_;rintro e w1 ⟨rfl,b1⟩;have K1:=K0.later b1;have F1:=K1.cin;have VI:=(K1.Ho (.int .u32 0) (.int .i64 0) (.int .i64 0) (.int .i64 0) (.slice none 0 0)).cin;have SJ:=oR (aa b0 b1 lq) (Nat.le_refl w.heap.size) (.int .u32 0) (.int .i64 0) (.int .i64 0) (.int .i64 0) (.slice none 0 0);clear F0;go_wp2_with fail
   exact bodyPost_ret (v:=.tuple #[.agg #[.int .u32 0,.int .i64 0,.int .i64 0,.int .i64 0,.slice none 0 0],.bool false]) (by simp [results,Tryz.results248,go_sem,VI]) rfl ⟨rfl,SJ⟩
  ·simp only [Bool.true_eq_false,if_false]
   unfold TF;dsimp only;rw [show (z:Int).toNat=z by omega];have Ud:(z:Int) % 4294967296=(z:Int):=Int.emod_eq_of_lt (by omega) (by omega);have N2:=fun (w1:World) (hb:Below w.heap.size w w1)=>cY (6144 + k) 2 255 (h.below hb) hd hv
   have N3:=fun (w1:World) (hb:Below w.heap.size w w1)=>cY (6144 + k) 3 0 (h.below hb) hd hv
   have N5:=fun (w1:World) (hb:Below w.heap.size w w1)=>cY (6144 + k) 5 0 (h.below hb) hd hv
   have WD:=fun (w1:World) (hb:Below w.heap.size w w1)=>me (6656 + k) (h.below hb) hd hv
   generalize Pm.dC D (6144 + k) 2 255=t at *;generalize Pm.dC D (6144 + k) 3 0=aV at *;generalize Pm.dC D (6144 + k) 5 0=ev at *;generalize Pm.dJ D (6656 + k)=ws at *;unfold sM at WD;replace NU:=zq NU; replace N2:=zq N2; replace N3:=zq N3; replace N5:=zq N5; replace WD:=zq WD;clear h hz;go_enter Tryz.func248,Tryz.ntmps248
   go_wp2_with fail
   refine (NU.out).mono ?_;rintro e w1 ⟨rfl,b1⟩;have d1:=aa b0 b1 lq;clear F0;go_wp2_with fail
   refine (N2.out _ d1).mono ?_;rintro e w2 ⟨rfl,b2⟩;have d2:=aa d1 b2 lq;go_wp2_with fail
   refine (WD.out _ d2).mono ?_;rintro e w3 ⟨A3,c3,rfl,o3,b3⟩;have d3:=aa d2 b3 lq;have K3:=((K0.later b1).later b2).later b3;have hl2:w.heap.size < w2.heap.size:=((K0.later b1).later b2).lt;have hl3:w2.heap.size<=w3.heap.size:=b3.size;have b4:=ae w3 (.cells #[.int .u32 (z:Int),.int .i64 t,.int .i64 0,.int .i64 0,.slice A3 ws.length c3] 307);have KC:=ao.new w3 307 #[.int .u32 (z:Int),.int .i64 t,.int .i64 0,.int .i64 0,.slice A3 ws.length c3];have d4:=aa d3 b4 lq;go_wp2_with fail
   refine (N3.out _ d4).mono ?_;rintro e w5 ⟨rfl,b5⟩;have d5:=aa d4 b5 lq;go_wp2_with fail
   refine (N5.out _ d5).mono ?_;rintro e w6 ⟨rfl,b6⟩;have d6:=aa d5 b6 lq;have SL:=(KC.later b5).later b6;have FC6:=SL.cin;have XL:=aa b4 (aa b5 b6 lq) lq;have K6:=K3.later XL;have o6:=o3.below XL;have Z6:=(SL.aJ 2 (.int .i64 aV)).aJ 3 (.int .i64 ev);have FC8:=Z6.cin;have K8:=(K6.cR (p:=⟨w3.heap.size,2,none⟩) (by dsimp only; omega) (.int .i64 aV)).cR (p:=⟨w3.heap.size,3,none⟩) (by dsimp only; omega) (.int .i64 ev);have F8:=K8.cin;have d8:Below w.heap.size w ((w6.setCell ⟨w3.heap.size,2,none⟩ (.int .i64 aV)).setCell ⟨w3.heap.size,3,none⟩ (.int .i64 ev)):=(d6.setCell (p:=⟨w3.heap.size,2,none⟩) (by dsimp only; omega) _).setCell (p:=⟨w3.heap.size,3,none⟩) (by dsimp only; omega) _;have Z7:=(K8.Ho (.int .u32 (z:Int)) (.int .i64 t) (.int .i64 aV) (.int .i64 ev) (.slice A3 ws.length c3)).cin;have Z8:=oR d8 (Nat.le_refl w.heap.size) (.int .u32 (z:Int)) (.int .i64 t) (.int .i64 aV) (.int .i64 ev) (.slice A3 ws.length c3);have o8:iY ((w6.setCell ⟨w3.heap.size,2,none⟩ (.int .i64 aV)).setCell ⟨w3.heap.size,3,none⟩ (.int .i64 ev)) w2.heap.size A3 ws.length c3 ws:=by
    obtain ⟨zs,z1,z2⟩:=o6;exact ⟨zs,OV.off (OV.off z1 SL (by decide)) (SL.aJ 2 (.int .i64 aV)) (by decide),z2⟩
   clear K3 K6 KC SL N2 N3 N5 WD NU;go_wp2_with fail
   refine bodyPost_ret (v:=.tuple #[.agg #[.int .u32 (z:Int),.int .i64 t,.int .i64 aV,.int .i64 ev,.slice A3 ws.length c3],.bool true]) (by simp [results,Tryz.results248,go_sem,Z7]) rfl ⟨A3,c3,rfl,?_,Z8⟩;exact iY.more (base:=w2.heap.size) (iY.cR (iY.cR (iY.cR (iY.cR (iY.cR o8 hl2 0 _) hl2 1 _) hl2 2 _) hl2 3 _) hl2 4 _) d2.size
theorem iY.LU {w w':World} {G:Nat->Prop} {base n c:Nat} {A:Option Addr} {ws:List Nat} (h:iY w base A n c ws) (hm:Mv G w w') (hG:∀ q,G q->q < base):iY w' base A n c ws:=by
 obtain ⟨xs,h1,h2⟩:=h;refine ⟨xs,⟨h1.1,?_⟩,h2⟩;rcases h1.2 with h3 | ⟨k,cap,cur,hv,hg,hh,r⟩
 ·exact .inl h3
 ·exact .inr ⟨k,cap,cur,hv,hg,(hm.block k (Array.getElem?_eq_some_iff.1 hh).1 fun e=>by have:=hG k e; omega).trans hh,r⟩
theorem RV.Qh {w:World} {B n c:Nat} {A:Option Addr} {ws:List Nat} (h:RW w B A n c ws) {k:Nat} (hk:k<=n):RW w B A k c (ws.take k):=by
 have hl:=h.len;refine ⟨by simp; omega,Nat.le_trans hk h.le,h.cap,fun hn=>?_,fun hn=>?_⟩
 ·have:=h.nil hn
  omega
 ·have hn0:0 < n:=by omega
  obtain ⟨b,o,e,hb,hc⟩:=RV.at_ (show RV w B 1 A n c _ from h) hn0;refine ⟨b,o,e,hb,fun j u hu=>hc j u ?_⟩;rw [List.getElem?_map,List.getElem?_take] at hu;split at hu
  ·rwa [List.getElem?_map]
  ·simp at hu
theorem C9 (h:cM 131 w F g gv (some la) lc vA vc xs vs D) (hd:∀ e∈D.l,e.dflt.length<=1000000) (hv:∀ v∈D.v,v.length<=1000000) :
  Calls Tryz.prog 245 #[.pointer (some ⟨g,0,none⟩)] w fun e w'=>∃ A c,e=.returned (.slice A (Pm.j_ D).length c)/\(∀ (w2:World) (G:Nat->Prop),Mv G w' w2->(∀ q,G q->q < w.heap.size)->RW w2 w2.heap.size A (Pm.j_ D).length c (Pm.j_ D))/\Below w.heap.size w w':=by
 have WD:=me 4118 h hd hv;unfold Pm.j_;have hl8:(Pm.dJ D 4118).length<=8:=by unfold Pm.dJ; rw [Pm.pD]; exact (Pm.GB D 4118).1
 generalize Pm.dJ D 4118=ws at *;unfold sM at WD;replace WD:=zq WD;clear h
 by_cases h4:4 < ws.length
 ·have HL:=zq (show (ws.take 4).length=4 by rw [List.length_take]; omega)
  go_enter Tryz.func245,Tryz.ntmps245
  go_wp2_with fail
  refine (WD.out).mono ?_;rintro e w1 ⟨A1,c1,rfl,o1,b1⟩;have hc1:=o1.rw.cap;have hle:=o1.rw.le;obtain ⟨ys,y1,y2⟩:=id o1;obtain ⟨q,rfl,_,_⟩:=y1.head (by omega);have HR:=zq (fun (w2:World) (G:Nat->Prop) (hm:Mv G w1 w2) (hG:∀ q,G q->q < w.heap.size)=>RV.Qh (o1.LU hm hG).rw (show 4<=ws.length by omega));clear y1 y2 o1;go_wp2_with fail
  go_ret
  rw [HL.out];exact ⟨_,c1,rfl,HR.out,b1⟩
 ·have HT:=zq (show ws.take 4=ws from List.take_of_length_le (by omega))
  go_enter Tryz.func245,Tryz.ntmps245
  go_wp2_with fail
  refine (WD.out).mono ?_;rintro e w1 ⟨A1,c1,rfl,o1,b1⟩;have hc1:=o1.rw.cap;have hle:=o1.rw.le;have HO:=zq o1;clear o1;go_wp2_with fail
  go_ret
  rw [HT.out];exact ⟨A1,c1,rfl,fun w2 G hm hG=>((HO.out).LU hm hG).rw,b1⟩
theorem wE (h:cM 131 w F g gv (some la) lc vA vc xs vs D) (hd:∀ e∈D.l,e.dflt.length<=1000000) (hv:∀ v∈D.v,v.length<=1000000) :
  Calls Tryz.prog 243 #[.pointer (some ⟨g,0,none⟩)] w fun e w'=>e=.returned (.int .i64 (Pm.yO D))/\Below w.heap.size w w':=by
 have NU:=zq (cY 4119 0 0 h hd hv);clear h;go_enter Tryz.func243,Tryz.ntmps243
 go_wp2_with fail
 refine (NU.out).mono ?_;rintro e w1 ⟨rfl,b1⟩;go_wp2_with fail
 go_ret
 exact ⟨rfl,b1⟩
def zw (o:Option (Nat×Int)) (w:World) (e:Ending) (w':World):Prop:=match o with
 | none=>e=.returned (.tuple #[.int .u32 0,.int .i64 0,.bool false])/\Below w.heap.size w w'
 | some (v,n)=>e=.returned (.tuple #[.int .u32 (v:Int),.int .i64 n,.bool true])/\Below w.heap.size w w'
theorem uB (h:cM 131 w F g gv (some la) lc vA vc xs vs D) (hd:∀ e∈D.l,e.dflt.length<=1000000) (hv:∀ v∈D.v,v.length<=1000000) :
  Calls Tryz.prog 22 #[.pointer (some ⟨g,0,none⟩)] w (zw (Pm.fY D) w):=by
 have NU:=iP 4101 0 h hd hv;have N2:=zq (fun (w1:World) (hb:Below w.heap.size w w1)=>cY 4121 0 0 (h.below hb) hd hv);have hnn:=lK D 4101 0;unfold Pm.fY;clear h;generalize Pm.cE D 4101 0=q at *;obtain ⟨q1,q2⟩:=q;dsimp only at hnn NU ⊢;obtain ⟨z,rfl,hz⟩:=hnn;cases q2
 ·simp only [if_true]
  unfold zw;dsimp only;replace NU:=zq NU;go_enter Tryz.func22,Tryz.ntmps22
  go_wp2_with fail
  refine (NU.out).mono ?_;rintro e w1 ⟨rfl,b1⟩;go_wp2_with fail
  go_ret3
  exact ⟨rfl,b1⟩
 ·simp only [Bool.true_eq_false,if_false]
  unfold zw;dsimp only;rw [show (z:Int).toNat=z by omega];have Ud:(z:Int) % 4294967296=(z:Int):=Int.emod_eq_of_lt (by omega) (by omega);replace NU:=zq NU;clear hz;go_enter Tryz.func22,Tryz.ntmps22
  go_wp2_with fail
  refine (NU.out).mono ?_;rintro e w1 ⟨rfl,b1⟩;go_wp2_with fail
  refine (N2.out _ b1).mono ?_;rintro e w2 ⟨rfl,b2⟩;go_wp2_with fail
  go_ret3
  exact ⟨rfl,aa b1 b2 lq⟩
end
open Go.Sort
def LZ (kd:IntKind) (w:World) (e:Ending) (w':World):Prop:=(∃ c:Int,e=.returned (.int kd c))/\Below w.heap.size w w'
section
variable {F G:Nat->Prop} {w:World} {gd gv lc vc gx Ue Uf Ug:Nat} {la la':Addr} {vA Uh:Option Addr} {xs vs xs' vs':List Value} {D X:Dc.aZ} {A:Option Addr} {n c:Nat}
theorem p_ (v:Nat) (hv:v < 4294967296) (o:Int):Calls Tryz.prog 286 #[.int .u32 (v:Int),.int .i64 o] w (LZ .i64 w):=by
 cases hb:aY.bad v with
 | true =>
  have SP:=zq (iq v hv hb w);clear hb;go_enter Tryz.func286,Tryz.ntmps286
  go_wp2_with fail
  refine (SP.out).mono ?_;rintro e w1 ⟨rfl,b1⟩;have b2:=ae w1 (.cells #[.bool false,.bool false,.int .i64 0] 161);have F2:=(ao.new w1 161 #[.bool false,.bool false,.int .i64 0]).three;go_wp2_with fail
  go_ret
  exact ⟨⟨_,rfl⟩,aa b1 b2 lq⟩
 | false =>
  have SP:=zq (fG v hv hb w);have RS:=zq (fun w=>fQ (aY.id v:Int) w);clear hb hv;generalize aY.off v=rH at *;generalize aY.IT v=nr at *;generalize (aY.id v:Int)=zR at *;generalize aY.jO zR=rs at *;have ho:o=0\/(o≠0/\o < 2)\/(2<=o/\240 < o)\/(2<=o/\o<=240):=by omega
  cases nr
  ·cases rs
   ·rcases ho with rfl | ⟨h0,h1⟩ | ⟨h1,h2⟩ | ⟨h1,h2⟩
    ·go_enter Tryz.func286,Tryz.ntmps286
     go_wp2_with fail
     refine (SP.out).mono ?_;rintro e w1 ⟨rfl,b1⟩;have b2:=ae w1 (.cells #[.bool rH,.bool false,.int .i64 zR] 161);have F2:=(ao.new w1 161 #[.bool rH,.bool false,.int .i64 zR]).three;go_wp2_with fail
     refine (RS.out _).mono ?_;rintro e _ ⟨rfl,rfl⟩;go_wp2_with fail
     go_ret
     exact ⟨⟨_,rfl⟩,aa b1 b2 lq⟩
    all_goals
     have e0:(o == 0)=false:=by rw [beq_eq_false_iff_ne]; omega
     have e1:(o != 0)=true:=by rw [bne_iff_ne]; omega
     try clear h0
     go_enter Tryz.func286,Tryz.ntmps286
     go_wp2_with fail
     refine (SP.out).mono ?_;rintro e w1 ⟨rfl,b1⟩;have b2:=ae w1 (.cells #[.bool rH,.bool false,.int .i64 zR] 161);have F2:=(ao.new w1 161 #[.bool rH,.bool false,.int .i64 zR]).three;go_wp2_with fail
     refine (RS.out _).mono ?_;rintro e _ ⟨rfl,rfl⟩;go_wp2_with fail
     go_ret
     exact ⟨⟨_,rfl⟩,aa b1 b2 lq⟩
   ·clear ho
    go_enter Tryz.func286,Tryz.ntmps286
    go_wp2_with fail
    refine (SP.out).mono ?_;rintro e w1 ⟨rfl,b1⟩;have b2:=ae w1 (.cells #[.bool rH,.bool false,.int .i64 zR] 161);have F2:=(ao.new w1 161 #[.bool rH,.bool false,.int .i64 zR]).three;go_wp2_with fail
    refine (RS.out _).mono ?_;rintro e _ ⟨rfl,rfl⟩;go_wp2_with fail
    go_ret
    exact ⟨⟨_,rfl⟩,aa b1 b2 lq⟩
  ·clear ho RS
   go_enter Tryz.func286,Tryz.ntmps286
   go_wp2_with fail
   refine (SP.out).mono ?_;rintro e w1 ⟨rfl,b1⟩;have b2:=ae w1 (.cells #[.bool rH,.bool true,.int .i64 zR] 161);have F2:=(ao.new w1 161 #[.bool rH,.bool true,.int .i64 zR]).three;go_wp2_with fail
   go_ret
   exact ⟨⟨_,rfl⟩,aa b1 b2 lq⟩
end
theorem zB (x:Nat) (hx:x < 4294967296):bits .and .u32 (x:Int) 4286578688=((x / 8388608 * 8388608:Nat):Int):=by
 have:=u32_and_nat x 4286578688 hx (by decide);rw [show ((4286578688:Nat):Int)=4286578688 by decide] at this;rw [this]
 congr 1
 rw [show (4286578688:Nat)=511 * 2 ^ 23 by decide,show (8388608:Nat)=2 ^ 23 by decide];apply Nat.eq_of_testBit_eq
 intro k;rw [Nat.testBit_and,Nat.testBit_mul_two_pow,Nat.testBit_mul_two_pow,Nat.testBit_div_two_pow]
 by_cases hk:23<=k
 ·rw [decide_eq_true hk,Bool.true_and,Bool.true_and,show k - 23 + 23=k by omega]
  by_cases h32:k < 32
  ·have:(511:Nat).testBit (k - 23)=true:=by
    rcases (show k=23\/k=24\/k=25\/k=26\/k=27\/k=28\/k=29\/k=30\/k=31 by omega) with rfl | rfl | rfl | rfl | rfl | rfl | rfl | rfl | rfl <;> decide
   rw [this,Bool.and_true]
  ·have:x.testBit k=false:=Nat.testBit_lt_two_pow (Nat.lt_of_lt_of_le hx (show 2 ^ 32<=2 ^ k from Nat.pow_le_pow_right (by decide) (by omega)))
   rw [this];simp
 ·rw [decide_eq_false hk]
  simp
theorem CY (x:Nat) (hx:x < 4294967296):bits .and .u32 (x:Int) 65535=((x % 65536:Nat):Int):=by
 have:=u32_and_nat x 65535 hx (by decide);rw [show x &&& 65535=x % 65536 from Nat.and_two_pow_sub_one_eq_mod x 16] at this;exact this
def xd (x:Nat) (w:World) (e:Ending) (w':World):Prop:=∃ (a b:Int) (o:Bool),e=.returned (.tuple #[.int .i64 a,.int .i64 b,.bool o])/\w=w'/\(o=true->0<=a/\a < 128)
theorem qx (x:Nat) (hx:x < 4294967296) (w:World):Calls Tryz.prog 285 #[.int .u32 (x:Int)] w (xd x w):=by
 have e1:=zB x hx;have e2:=CY x hx;have hq:(x:Int) / 65536=((x / 65536:Nat):Int):=by omega
 have e3:wrap64 ((x / 65536:Nat):Int)=((x / 65536:Nat):Int):=by unfold wrap64; omega
 have e4:wrap64 ((x % 65536:Nat):Int)=((x % 65536:Nat):Int):=by unfold wrap64; omega
 by_cases ht:x < 8388608
 ·have z0:x / 8388608 * 8388608=0:=by omega
  rw [z0] at e1;have hlt:x / 65536 < 128:=by omega
  generalize x / 65536=a at *;generalize x % 65536=b at *;clear z0 ht hx
  by_cases ha:a=0
  ·have ea:((a:Int) == 0)=true:=by rw [ha]; rfl
   clear ha hlt;go_enter Tryz.func285,Tryz.ntmps285
   go_wp2_with fail
   go_ret3
   exact ⟨_,_,false,rfl,rfl,fun h=>by cases h⟩
  ·have ea:((a:Int) == 0)=false:=by rw [beq_eq_false_iff_ne]; omega
   by_cases hb:b=0
   ·have eb:((b:Int) == 0)=true:=by rw [hb]; rfl
    clear ha hb hlt;go_enter Tryz.func285,Tryz.ntmps285
    go_wp2_with fail
    go_ret3
    exact ⟨_,_,false,rfl,rfl,fun h=>by cases h⟩
   ·have eb:((b:Int) == 0)=false:=by rw [beq_eq_false_iff_ne]; omega
    have HL:=zq hlt;clear ha hb hlt;go_enter Tryz.func285,Tryz.ntmps285
    go_wp2_with fail
    go_ret3
    exact ⟨_,_,true,rfl,rfl,fun _=>by have:=HL.out; omega⟩
 ·have ez:(((x / 8388608 * 8388608:Nat):Int) != 0)=true:=by rw [bne_iff_ne]; omega
  generalize x / 8388608 * 8388608=u at *;generalize x / 65536=a at *;generalize x % 65536=b at *;clear ht hx;go_enter Tryz.func285,Tryz.ntmps285
  go_wp2_with fail
  go_ret3
  exact ⟨_,_,false,rfl,rfl,fun h=>by cases h⟩
section
variable {w:World} {g B n c:Nat} {A:Option Addr} {ws:List Nat}
def jR (bs:List Bool):Array Value:=(bs.map Value.bool).toArray
theorem EI {w:World} {g:Nat} {t:TypeId} {bs:List Bool} (h:ao w g t (jR bs)) {i:Nat} (hi:i < bs.length):w.cell? ⟨g,i,none⟩=some (.bool (bs.getD i false)):=by
 rw [h.cell i];unfold jR;simp [List.getD,List.getElem?_map,hi]
theorem BJ {w:World} {g:Nat} {t:TypeId} {bs:List Bool} (h:ao w g t (jR bs)) (i:Nat) (b:Bool):ao (w.setCell ⟨g,i,none⟩ (.bool b)) g t (jR (bs.set i b)):=by
 have:=h.aJ i (.bool b);have e:(jR bs).setIfInBounds i (.bool b)=jR (bs.set i b):=by
  unfold jR;simp [List.map_set]
 rw [<- e];exact this
theorem Bv (h:RW w B A n c ws) (hwl:∀ x∈ws,x < 4294967296) (hB:B<=w.heap.size):Calls Tryz.prog 284 #[.slice A n c] w (LZ .i64 w):=by
 by_cases h4:4 < n
 ·clear h hwl
  go_enter Tryz.func284,Tryz.ntmps284
  go_wp2_with fail
  go_ret
  exact ⟨⟨_,rfl⟩,Below.refl _ _⟩
 ·have hz:Tryz.zeroCells405=jR (List.replicate 128 false):=by kernel_rfl
  have hst:=run_storeCells_new (P:=Tryz.prog) w 405 Tryz.zeroCells405 Tryz.zeroCells405 (by kernel_rfl) rfl (by kernel_rfl);have b0:=ae w (.cells Tryz.zeroCells405 405);have XM:=ao.new w 405 Tryz.zeroCells405;have KB:ao (w.alloc (.cells Tryz.zeroCells405 405)) w.heap.size 405 (jR (List.replicate 128 false)):=by rw [<- hz]; exact XM
  have hl:=h.len;have hle:=RV.le h;have hcap:=RV.cap h;subst hl;clear hz XM;go_enter Tryz.func284,Tryz.ntmps284
  go_wp2_with fail
  generalize w.alloc (.cells Tryz.zeroCells405 405)=wz at *;clear hst;go_loopw [4,16] (fun v i wr=>∃ (k:Nat) (ee:Int) (bs:List Bool),k<=ws.length/\i=.int .i64 k/\v=.int .i64 ee/\bs.length=128/\ao wr w.heap.size 405 (jR bs)/\Below w.heap.size w wr) (fun _ i _=>ws.length - (intOf i).toNat)
  case atStart=>exact ⟨0,0,_,by omega,rfl,rfl,List.length_replicate,KB,b0⟩
  case round =>
   clear KB b0;obtain ⟨k,ee,bs,hk,rfl,rfl,hbs,KR,br⟩:=hrel;obtain ⟨wq,hwq⟩:∃ w,w=wr:=⟨wr,rfl⟩;subst hwq
   by_cases hlt:k < ws.length
   ·obtain ⟨b,o,rfl,hb,hc⟩:=(h.below (br.mono hB)).at_ hlt
    have hx:ws.getD k 0 < 4294967296:=hwl _ (by rw [List.getD_eq_getElem?_getD,List.getElem?_eq_getElem hlt]; exact List.getElem_mem hlt);generalize ws.getD k 0=x at *;have e1:=zB x hx;have WA:=zq (qx x hx wq);have La:=zq hbs;have hrow:=fun (i:Nat) (hi:i < bs.length)=>EI KR hi
    have hset:=fun (i:Nat) (b:Bool)=>BJ KR i b
    have hfr:=fun i=>KR.frozen i
    have HR:=zq hrow; have HS:=zq hset; have HF:=zq hfr;clear hrow hset hfr hbs
    by_cases hz:x / 8388608 * 8388608=0
    ·rw [hz] at e1
     clear hz hx;go_wp2_with fail
     refine (WA.out).mono ?_;unfold xd;rintro e w2 ⟨a,b2,ok,rfl,rfl,hok⟩;cases ok
     ·clear hok
      go_wp2_with fail
      go_roundw
      case rel=>exact ⟨k + 1,ee,bs,by omega,by go_num,rfl,La.out,KR,br⟩
      case measure=>simp [intOf] <;> omega
     ·obtain ⟨ha1,ha2⟩:=hok rfl
      obtain ⟨a,rfl⟩:=Int.eq_ofNat_of_zero_le ha1;have Z9:a < 128:=by omega
      have XN:=HR.out a (by rw [La.out]; exact Z9);have hfa:=HF.out a;have hsa:=HS.out a true;clear hok ha1;generalize bs.getD a false=bb at *;have dr:=br.setCell (p:=⟨w.heap.size,a,none⟩) lq (.bool true);cases bb
      ·go_wp2_with fail
       go_roundw
       case rel=>exact ⟨k + 1,ee,_,by omega,by go_num,rfl,by rw [List.length_set]; exact La.out,hsa,dr⟩
       case measure=>simp [intOf] <;> omega
      ·go_wp2_with fail
       go_roundw
       case rel=>exact ⟨k + 1,13,_,by omega,by go_num,rfl,by rw [List.length_set]; exact La.out,hsa,dr⟩
       case measure=>simp [intOf] <;> omega
    ·have ez:(((x / 8388608 * 8388608:Nat):Int) != 0)=true:=by rw [bne_iff_ne]; omega
     clear hz hx;generalize x / 8388608 * 8388608=u at *;go_wp2_with fail
     go_ret
     exact ⟨⟨_,rfl⟩,br⟩
   ·obtain rfl:k=ws.length:=by omega
    go_wp2_with fail
    go_ret
    exact ⟨⟨_,rfl⟩,br⟩
theorem U4:ET Tryz.prog 318 299 5 40 (.agg #[.int .i64 0,.int .i64 0,.bool false,.int .i64 0,.int .i64 0]):=⟨Tryz.underlying318,info_parts (by kernel_rfl),rfl,by decide⟩
def TP (_:Unit) (cs:List Value):Prop:=∃ a b:Int,cs=[.int .i64 a,.int .i64 b,.bool false,.int .i64 0,.int .i64 0]
end
end
namespace Nn
open Go.RowKit Go.Sort
theorem kx.mv {w w':World} {F G:Nat->Prop} {g:Nat} (h:kx w F g) (hm:Mv G w w') (hd:∀ b,b < w.heap.size->F b->¬ G b):kx w' F g:=(yi g).mv w w' F G h hm hd
theorem kx.mono {w:World} {F G:Nat->Prop} {g:Nat} (h:kx w F g) (hi:∀ b,b < w.heap.size->F b->G b):kx w G g:=(yi g).mono w F G h hi
theorem kx.below {w w':World} {F:Nat->Prop} {g:Nat} (h:kx w F g) (hb:Below w.heap.size w w'):kx w' F g:=h.mv (Mv.aq hb fun _=>False) fun _ _ _ h=>h
theorem AE (w:World):Calls Tryz.prog 190 #[.int .i64 5] w fun e w'=>∃ g,e=.returned (.tuple #[.pointer (some ⟨g,0,none⟩),.int .i64 0])/\Below w.heap.size w w'/\kx w' (fun q=>w.heap.size<=q) g:=by
 go_enter Tryz.func190,Tryz.ntmps190
 go_wp2_with fail
 go_ret2
 exact ⟨_,rfl,ae _ _,Nat.le_refl _,0,0,none,0,0,[],ao.new w _ _,OV.none_ _ _ _ _,Rows.nil,(fun k hk=>by cases hk),by decide⟩
section
variable {w:World} {F:Nat->Prop} {g B n c:Nat} {A:Option Addr} {ws:List Nat}
theorem jg (h:kx w F g):Calls Tryz.prog 274 #[.pointer (some ⟨g,0,none⟩)] w fun e w'=>e=.returned (.bool true)/\w=w':=by
 obtain ⟨_,ev,le,A,n,c,xs,k,_⟩:=h;have F:=k.cell 0;go_enter Tryz.func274,Tryz.ntmps274
 go_wp2_with fail
 go_ret
 exact ⟨rfl,rfl⟩
theorem sU (h:kx w F g) (z:Int):Calls Tryz.prog 242 #[.pointer (some ⟨g,0,none⟩),.int .i64 z] w fun e w'=>(∃ z:Int,e=.returned (.int .i64 z))/\Mv (fun q=>q=g) w w'/\kx w' F g:=by
 have TH:=zq (jg h);have HH:=zq h;obtain ⟨hF,ev,le,A,n,c,xs,k,k2,k3,k4,k5⟩:=h;have F0:=k.four
 by_cases h1:z < 0
 ·go_enter Tryz.func242,Tryz.ntmps242
  go_wp2_with fail
  refine (TH.out).mono ?_;rintro e w1 ⟨rfl,rfl⟩;go_wp2_with fail
  go_ret
  exact ⟨⟨_,rfl⟩,Mv.refl _ _,HH.out⟩
 ·have t1:decide (z < 0)=false:=decide_eq_false h1
  by_cases h2:65535 < z
  ·go_enter Tryz.func242,Tryz.ntmps242
   go_wp2_with fail
   refine (TH.out).mono ?_;rintro e w1 ⟨rfl,rfl⟩;go_wp2_with fail
   go_ret
   exact ⟨⟨_,rfl⟩,Mv.refl _ _,HH.out⟩
  ·have t2:decide (65535 < z)=false:=decide_eq_false h2
   have K2:=(k.aJ 1 (.int .i64 z)).aJ 2 (.int .i64 z);have M:=((Mv.setCell w ⟨g,1,none⟩ (.int .i64 z)).trans (Mv.setCell _ ⟨g,2,none⟩ (.int .i64 z)) fun b _ e=>e);have O2:=k2.uj M fun q hq e=>(k4 q hq).2 e
   have FIN:=zq2 M (show kx _ F g from ⟨hF,z,z,A,n,c,xs,K2,O2,k3,k4,k5⟩);clear K2 M O2 k2;go_enter Tryz.func242,Tryz.ntmps242
   go_wp2_with fail
   refine (TH.out).mono ?_;rintro e w1 ⟨rfl,rfl⟩;go_wp2_with fail
   go_ret
   exact ⟨⟨_,rfl⟩,FIN.out⟩
theorem Qu {w':World} {ev le:Int} {A1:Option Addr} {n1 c1:Nat} {l:List Unit} (hF:F g) (hK:ao w' g 320 #[.int .i64 5,.int .i64 ev,.int .i64 le,.slice A1 n1 c1]) (hos:OS TP w' w.heap.size 299 5 A1 n1 c1 l) (hs:w.heap.size<=w'.heap.size) (hn:n1<=8) (hg:g < w.heap.size):kx w' (fun q=>F q\/(w.heap.size<=q/\q < w'.heap.size)) g:=by
 have hl:=hos.len (by decide);obtain ⟨zs,z1,z2⟩:=hos;obtain rfl:l=List.replicate n1 ():=List.eq_replicate_iff.2 ⟨hl,fun _ _=>rfl⟩;exact ⟨.inl hF,ev,le,A1,n1,c1,zs,hK,OV.more z1 (Nat.zero_le _),z2.imp fun _ cs ⟨a,b,e⟩=>⟨a,b,false,0,0,e⟩,fun k hk=>by have:=z1.lt k hk; exact ⟨.inr this,by omega⟩,hn⟩
theorem tK (hh:kx w F g) (hk:∀ wr:World,Mv (fun q=>q=g) w wr->RW wr wr.heap.size A n c ws) (hwl:∀ x∈ws,x < 4294967296) (hn:n<=4) :
  Calls Tryz.prog 244 #[.pointer (some ⟨g,0,none⟩),.slice A n c] w fun e w'=>(∃ z:Int,e=.returned (.int .i64 z))/\Mv (fun q=>q=g) w w'/\kx w' (fun q=>F q\/(w.heap.size<=q/\q < w'.heap.size)) g:=by
 have HH:=zq hh;obtain ⟨hF,ev,le,Ap,np,cp,xp,hg,_,_,_,_⟩:=id hh;have TH:=zq (jg hh);clear hh;have h:=hk w (Mv.refl _ _);have HK:=zq hk;have WR:=zq (Bv h hwl lq);have hgl:=hg.lt;have hl:=h.len;have hle:=RV.le h;have hcap:=RV.cap h;subst hl;clear hk h;go_enter Tryz.func244,Tryz.ntmps244
 go_wp2_with fail
 refine (TH.out).mono ?_;rintro e _ ⟨rfl,rfl⟩;go_wp2_with fail
 refine (WR.out).mono ?_;rintro e w1 ⟨⟨z,rfl⟩,b1⟩;have m1:Mv (fun q=>q=g) w w1:=Mv.aq b1 _
 by_cases hz:z=0
 ·subst hz
  have K1:=hg.later b1;have XO:=K1.aJ 3 (.slice none 0 0);have F1:=K1.four;have m2:=m1.trans (Mv.setCell w1 ⟨g,3,none⟩ (.slice none 0 0)) fun _ _ e=>e
  clear TH WR hg;go_wp2_with fail
  clear F1;go_loopw [24] (fun i wr=>∃ (k:Nat) (A1:Option Addr) (n1 c1:Nat) (l:List Unit),k<=ws.length/\i=.int .i64 k/\n1<=k/\ao wr g 320 #[.int .i64 5,.int .i64 ev,.int .i64 le,.slice A1 n1 c1]/\OS TP wr w.heap.size 299 5 A1 n1 c1 l/\Mv (fun q=>q=g) w wr) (fun i _=>ws.length - (intOf i).toNat)
  case atStart=>exact ⟨0,none,0,0,[],by omega,rfl,by omega,XO,OS.none_ _ _ _ _,m2⟩
  case round =>
   clear m1 m2 K1 XO b1;obtain ⟨k,A1,n1,c1,l,hk,rfl,hn1,KR,os,mr⟩:=hrel;obtain ⟨wq,hwq⟩:∃ w,w=wr:=⟨wr,rfl⟩;subst hwq
   by_cases hlt:k < ws.length
   ·obtain ⟨b,o,rfl,hb,hc⟩:=RW.at_ (HK.out wq mr) hlt
    have hx:ws.getD k 0 < 4294967296:=hwl _ (by rw [List.getD_eq_getElem?_getD,List.getElem?_eq_getElem hlt]; exact List.getElem_mem hlt);generalize ws.getD k 0=x at *;have WA:=zq (qx x hx wq);clear hx;go_wp2_with fail
    refine (WA.out).mono ?_;unfold xd;rintro e w2 ⟨a,b2,ok,rfl,rfl,_⟩;cases ok
    ·go_wp2_with fail
     go_roundw
     case rel=>exact ⟨k + 1,A1,n1,c1,l,by omega,by go_num,by omega,KR,os,mr⟩
     case measure=>simp [intOf] <;> omega
    ·have FR:=KR.four
     have hsz:=mr.size;go_wp2_with (at_builtin; refine dU U4 (fun _=>TP) rfl (.tmp 39) (.tmp 43) rfl rfl rfl rfl w.heap.size os () ⟨a,b2,rfl⟩ rfl (fun u hu=>by simp only [List.mem_cons,List.not_mem_nil,or_false] at hu; rcases hu with rfl | rfl | rfl | rfl | rfl <;> rfl) (by omega) (by omega) hsz (fun w1 A1 n1 c1 xs h g f cs hf=>hf) ?_; intro A3 c3 w3 os3 b3 g3 _; have K3:=KR.below b3 hgl; have F3:=K3.four; clear FR)
     have K4:=K3.aJ 3 (.slice A3 (n1 + 1) c3);have m4:Mv (fun q=>q=g) w (w3.setCell ⟨g,3,none⟩ (.slice A3 (n1 + 1) c3)):=(mr.trans (Mv.kZ b3) fun q hq e=>by have e':w.heap.size<=q:=e; omega).trans (Mv.setCell w3 ⟨g,3,none⟩ _) fun _ _ e=>e
     have OJ:OS TP (w3.setCell ⟨g,3,none⟩ (.slice A3 (n1 + 1) c3)) w.heap.size 299 5 A3 (n1 + 1) c3 (l ++ [()]):=by
      obtain ⟨zs,z1,z2⟩:=os3;exact ⟨zs,z1.cR hgl 3 _,z2⟩
     go_wp2_with fail
     go_roundw
     case rel=>exact ⟨k + 1,A3,n1 + 1,c3,_,by omega,by go_num,by omega,K4,OJ,m4⟩
     case measure=>simp [intOf] <;> omega
   ·obtain rfl:k=ws.length:=by omega
    go_wp2_with fail
    go_ret
    exact ⟨⟨_,rfl⟩,mr,Qu hF KR os mr.size (by omega) hgl⟩
 ·have ez:(z == 0)=false:=by simpa using hz
  have ez2:(z != 0)=true:=by simpa using hz
  clear hz;go_wp2_with fail
  go_ret
  exact ⟨⟨_,rfl⟩,m1,(HH.out.below b1).mono fun _ _ h=>.inl h⟩
end
section
variable {w:World} {F:Nat->Prop} {g:Nat}
theorem xl (h:kx w F g) (st:Int) (b:UInt8) (hst:tu st) (hb:yC st b):Calls Tryz.prog 224 #[.pointer (some ⟨g,0,none⟩),.int .i64 st] w fun e w'=>LX w e w'/\Mv (fun q=>q=g) w w'/\kx w' F g:=by
 have TH:=zq (jg h);have HH:=zq h;have BE:=zq (ud st b hb);have SE:=oL st 5 hst (by unfold qe; decide);rw [show gJ st 5=true by rcases hst with rfl | rfl | rfl <;> rfl] at SE;replace SE:=zq SE;obtain ⟨hF,ev,le,A,n,c,xs,k,k2,k3,k4,k5⟩:=h;have F0:=k.four;clear hst hb
 by_cases h0:ev=0
 ·subst h0
  go_enter Tryz.func224,Tryz.ntmps224
  go_wp2_with fail
  refine (TH.out).mono ?_;rintro e w1 ⟨rfl,rfl⟩;go_wp2_with fail
  go_ret
  exact ⟨LX.none_ _ _,Mv.refl _ _,HH.out⟩
 ·have t0:(ev == 0)=false:=by simpa using h0
  obtain ⟨l2,hl3⟩:∃ l2,wrap64 (le - 1)=l2:=⟨_,rfl⟩;have K1:=k.aJ 2 (.int .i64 l2);have F1:=K1.four;have M1:=Mv.setCell w ⟨g,2,none⟩ (.int .i64 l2);have O1:=k2.uj M1 fun q hq e=>(k4 q hq).2 e
  have H1:=zq (show kx _ F g from ⟨hF,ev,l2,A,n,c,xs,K1,O1,k3,k4,k5⟩)
  by_cases h1:0 < l2
  ·have t1:decide (0 < l2)=true:=decide_eq_true h1
   go_enter Tryz.func224,Tryz.ntmps224
   go_wp2_with fail
   refine (TH.out).mono ?_;rintro e w1 ⟨rfl,rfl⟩;go_wp2_with fail
   go_ret
   exact ⟨LX.none_ _ _,M1,H1.out⟩
  ·have t1:decide (0 < l2)=false:=decide_eq_false h1
   have K2:=K1.aJ 2 (.int .i64 ev);have F2:=K2.four;have M2:=M1.trans (Mv.setCell _ ⟨g,2,none⟩ (.int .i64 ev)) fun b _ e=>e
   have O2:=O1.uj (Mv.setCell _ ⟨g,2,none⟩ (.int .i64 ev)) fun q hq e=>(k4 q hq).2 e
   have H2:=zq (show kx _ F g from ⟨hF,ev,ev,A,n,c,xs,K2,O2,k3,k4,k5⟩);have HM:=zq M2;clear h0 h1 O1 O2 K1 M1 M2 k k2 H1;go_enter Tryz.func224,Tryz.ntmps224
   go_wp2_with fail
   refine (TH.out).mono ?_;rintro e w1 ⟨rfl,rfl⟩;go_wp2_with fail
   refine (BE.out _).mono ?_;rintro e w1 ⟨A1,c1,rfl,o1,b1⟩;have b2:=ae w1 (.cells #[.int .i64 1797,.bool false,.slice A1 1 c1] 37);have K5:=ao.new w1 37 #[.int .i64 1797,.bool false,.slice A1 1 c1];have F5:=K5.three;have d2:=aa b1 b2 lq;go_wp2_with fail
   refine (SE.out _).mono ?_;rintro e w2 ⟨rfl,rfl⟩;go_wp2_with fail
   go_ret
   have s2:=d2.size;have rf:=wX (i:=1797) (r:=false) ((o1.alloc (.cells #[.int .i64 1797,.bool false,.slice A1 1 c1] 37)).more (base':=w.heap.size) (HM.out.size)) (Nat.le_trans HM.out.size s2);rw [World.size_alloc] at rf;have d3:=aa d2 (ae _ (.cells #[.int .i64 1797,.bool false,.slice A1 1 c1] 37)) lq;exact ⟨⟨_,_,_,_,rfl,rf,(fun f hf=>by rw [List.mem_singleton.1 hf]; exact (by simp:([b]:List UInt8).length<=8)),by decide⟩,HM.out.trans (Mv.aq d3 (fun _=>False)) fun _ _ h=>h.elim,H2.out.below d3⟩
end
end Nn
end Go.Proofs.YtijegngfclkdaaaGreatDoor
