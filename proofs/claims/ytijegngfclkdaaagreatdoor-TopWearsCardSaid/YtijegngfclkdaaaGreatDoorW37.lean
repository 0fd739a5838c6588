/-
  Pieces of the proof: part 37 of 54.
  Conditions: none.
-/
import Derived.Deep.QuietTactic
import Derived.BigQuiet
import Derived.IntWalk
import Derived.Deep.DeepCutAuto
import Derived.Deep.CutBlock
import Derived.Laws.EntriesVeiled
import Derived.Test.YtijegngfclkdaaaGreatDoorW13
import Derived.Test.YtijegngfclkdaaaGreatDoorW14
import Derived.Test.YtijegngfclkdaaaGreatDoorW15
import Derived.Test.YtijegngfclkdaaaGreatDoorW17
import Derived.Test.YtijegngfclkdaaaGreatDoorW20
import Derived.Test.YtijegngfclkdaaaGreatDoorW23
import Derived.Test.YtijegngfclkdaaaGreatDoorW24
import Derived.Test.YtijegngfclkdaaaGreatDoorW25
import Derived.Test.YtijegngfclkdaaaGreatDoorW34
import Derived.Test.YtijegngfclkdaaaGreatDoorW36
set_option linter.unusedVariables false
set_option linter.unusedSimpArgs false
set_option maxHeartbeats 100000000
set_option maxRecDepth 100000
namespace Go.Proofs.YtijegngfclkdaaaGreatDoor
open Go.RowKit
def CopyP (D:Dc.Dic) (w:World) (e:Ending) (w':World):Prop:=Below w.heap.size w w'∧∃ (g gv lc vc:Nat) (la:Addr) (vA:Option Addr) (xs vs:List Value),e=.returned (.pointer (some ⟨g,0,none⟩))∧DRt 131 w' (fun q=>w.heap.size≤q) g gv (some la) lc vA vc xs vs D
theorem take_one {α:Type} (l:List α) {k:Nat} (d:α) (h:k < l.length):l.take (k + 1)=l.take k ++ [l.getD k d]:=by
 rw [List.take_succ_eq_append_getElem h];simp [List.getD,h]
theorem getD_small {L:List (List UInt8)} (h:∀ v∈L,v.length≤1000000) (k:Nat):(L.getD k []).length≤1000000:=by
 rw [List.getD_eq_getElem?_getD];cases hi:L[k]? with
 | none=>simp
 | some x=>exact h _ (List.mem_of_getElem? hi)
theorem dCopy_any {F:Nat→Prop} {w:World} {g gv lc vc:Nat} {la:Addr} {vA:Option Addr} {xs vs:List Value} {D:Dc.Dic} (h:DRt 131 w F g gv (some la) lc vA vc xs vs D) (hd:∀ e∈D.l,e.dflt.length≤1000000) (hv:∀ v∈D.v,v.length≤1000000):Calls Tryz.prog 302 #[.pointer (some ⟨g,0,none⟩)] w (CopyP D w):=by
 obtain ⟨t0,t1⟩:=h.two;obtain ⟨hlc1,hlc2⟩:=h.lcap;have hcap:D.l.length≤vc∧vc≤9223372036854775807:=⟨h.own.rv.le,h.own.rv.cap⟩;obtain ⟨hcap1,hcap2⟩:=hcap;have hgl:=h.blk.lt;have h96:=h.few;have hord:=h.ord;have hright:=h.right;have hdl:=h.len;have TH:=Lib.hid (dthere_any h);have b00:=alloc_two w (.cells #[] 27) (.cells #[.slice (some ⟨w.heap.size,0,none⟩) 0 0,.slice none 0 0] 131);have N0:NwM 131 ((w.alloc (.cells #[] 27)).alloc (.cells #[.slice (some ⟨w.heap.size,0,none⟩) 0 0,.slice none 0 0] 131)) w.heap.size (w.heap.size + 1) (some ⟨w.heap.size,0,none⟩) 0 0 none 0 0 [] [] :=
  ⟨by omega,by have:=Blk.new (w.alloc (.cells #[] 27)) 131 #[.slice (some ⟨w.heap.size,0,none⟩) 0 0,.slice none 0 0]; simpa using this,⟨[],(OV.new (base:=w.heap.size) (e:=27) (size:=11) w [] 0 rfl (by omega) (Nat.le_refl _)).alloc _,Rows.nil⟩,OS.none_ _ _ _ _⟩
 have t0':=(b00.cell (p:=⟨g,0,none⟩) hgl).trans t0;have HDL:=Lib.hid hdl;clear hdl;go_enter Tryz.func302,Tryz.ntmps302
 go_wp2_with fail
 refine (TH.out).mono ?_;rintro e w2 ⟨rfl,rfl⟩;go_wp2_with fail
 clear t0';go_loopw [17] (fun v wr=>∃ (k:Nat) (la:Addr) (lc:Nat) (vA:Option Addr) (vc:Nat),k≤D.l.length∧v=.int .i64 k∧NwM 131 wr w.heap.size (w.heap.size + 1) (some la) k lc vA k vc (D.l.take k) (D.v.take k)∧Below w.heap.size w wr) (fun v _=>D.l.length - (intOf v).toNat)
 case atStart=>exact ⟨0,_,_,_,_,by omega,rfl,N0,b00⟩
 case round =>
  obtain ⟨k,la',lc',vA',vc',hk,rfl,N,bb⟩:=hrel;clear N0
  by_cases hlt:k < D.l.length
  ·obtain ⟨b,o,A1,n1,c1,hA,hbw,hr0,hc⟩:=h.entry hlt
   obtain ⟨A2,n2,c2,hA2,_,hgv,hr2,hcell,_⟩:=h.value hlt;injection hA with hA
   subst hA hA2;have hmem:D.l.getD k Dc.en0∈D.l:=by
    rw [List.getD_eq_getElem?_getD,List.getElem?_eq_getElem hlt];exact List.getElem_mem hlt
   have hdf0:=hd _ hmem;have hln:=getD_small hv k;have HTK:Hid (D.l.take (k + 1)=D.l.take k ++ [D.l.getD k Dc.en0]∧D.v.take (k + 1)=D.v.take k ++ [D.v.getD k []]):=Lib.hid ⟨take_one _ _ hlt,take_one _ _ (by rw [HDL.out]; exact hlt)⟩;have hdl1:=hr0.len;have hdl2:=hr2.len;generalize D.v.getD k []=dat at *;generalize D.l.getD k Dc.en0=e0 at *;clear hmem;obtain ⟨ix,sb,nm,ty,ac,mp,st,mx,lo,hi,df⟩:=e0;dsimp only at hr0 hdf0 hdl1 HTK;subst hdl2;have hdf:n1 < 140737488355328:=by omega
   have hg7:w.heap.size + 1 < wr.heap.size:=N.blk.lt;obtain ⟨Gq,hGq⟩:∃ Gq:Nat→Prop,∀ q,Gq q↔(w.heap.size≤q∧q≠w.heap.size + 1∧q≠wr.heap.size):=⟨_,fun q=>Iff.rfl⟩;have hGg:¬ Gq (w.heap.size + 1):=fun h=>((hGq _).1 h).2.1 rfl
   have hG7:¬ Gq wr.heap.size:=fun h=>((hGq _).1 h).2.2 rfl
   have hGl:∀ q,q < w.heap.size→¬ Gq q:=fun q hq h=>by have:=((hGq _).1 h).1; omega
   have hOwn:∀ b,some b=(Value.slice (some la') k lc').ownBlock→Gq b:=fun b hb=>by
    obtain ⟨zs,z1,_⟩:=N.row;have:=z1.lt b hb.symm;exact (hGq b).2 ⟨this.1,fun e=>own_blk_ne z1 N.blk (by decide) (by rw [← hb,e]),by omega⟩
   have hOwnV:∀ b,some b=(Value.slice vA' k vc').ownBlock→Gq b:=fun b hb=>by
    obtain ⟨zs,z1,_⟩:=N.vrow;have:=z1.lt b hb.symm;exact (hGq b).2 ⟨this.1,fun e=>own_blk_ne z1 N.blk (by decide) (by rw [← hb,e]),by omega⟩
   clear hGq;have a0:=(bb.cell (p:=⟨b,o + k * 11 + 0,none⟩) hbw).trans (hc 0 _ rfl);have a1:=(bb.cell (p:=⟨b,o + k * 11 + 1,none⟩) hbw).trans (hc 1 _ rfl);have a2:=(bb.cell (p:=⟨b,o + k * 11 + 2,none⟩) hbw).trans (hc 2 _ rfl);have a3:=(bb.cell (p:=⟨b,o + k * 11 + 3,none⟩) hbw).trans (hc 3 _ rfl);have a4:=(bb.cell (p:=⟨b,o + k * 11 + 4,none⟩) hbw).trans (hc 4 _ rfl);have a5:=(bb.cell (p:=⟨b,o + k * 11 + 5,none⟩) hbw).trans (hc 5 _ rfl);have a6:=(bb.cell (p:=⟨b,o + k * 11 + 6,none⟩) hbw).trans (hc 6 _ rfl);have a7:=(bb.cell (p:=⟨b,o + k * 11 + 7,none⟩) hbw).trans (hc 7 _ rfl);have a8:=(bb.cell (p:=⟨b,o + k * 11 + 8,none⟩) hbw).trans (hc 8 _ rfl);have a9:=(bb.cell (p:=⟨b,o + k * 11 + 9,none⟩) hbw).trans (hc 9 _ rfl);have a10:=(bb.cell (p:=⟨b,o + k * 11 + 10,none⟩) hbw).trans (hc 10 _ rfl);simp only [Nat.add_zero] at a0;have b7:=bb.alloc bb.size (.cells #[.int .i64 ix,.int .i64 sb,.string (T nm),.int .i64 ty,.int .i64 ac,.bool mp,.bool st,.int .i64 mx,.int .i64 lo,.int .i64 hi,.slice A1 n1 c1] 27);have K7:=Blk.new wr 27 #[.int .i64 ix,.int .i64 sb,.string (T nm),.int .i64 ty,.int .i64 ac,.bool mp,.bool st,.int .i64 mx,.int .i64 lo,.int .i64 hi,.slice A1 n1 c1];replace N:=N.below (alloc_one wr (.cells #[.int .i64 ix,.int .i64 sb,.string (T nm),.int .i64 ty,.int .i64 ac,.bool mp,.bool st,.int .i64 mx,.int .i64 lo,.int .i64 hi,.slice A1 n1 c1] 27));have hz7:wr.heap.size < (wr.alloc (.cells #[.int .i64 ix,.int .i64 sb,.string (T nm),.int .i64 ty,.int .i64 ac,.bool mp,.bool st,.int .i64 mx,.int .i64 lo,.int .i64 hi,.slice A1 n1 c1] 27)).heap.size:=by simp
   clear hc;have i0:(0:Int)≤(k:Int):=by omega
   have i1:(k:Int) < (D.l.length:Int):=by omega
   have t0':=(b7.cell (p:=⟨g,0,none⟩) hgl).trans t0;have t1':=(b7.cell (p:=⟨g,1,none⟩) hgl).trans t1;have v1':=(b7.cell (p:=⟨gv,k,none⟩) hgv).trans hcell;go_wp2_with fail
   generalize wr.alloc (.cells #[.int .i64 ix,.int .i64 sb,.string (T nm),.int .i64 ty,.int .i64 ac,.bool mp,.bool st,.int .i64 mx,.int .i64 lo,.int .i64 hi,.slice A1 n1 c1] 27)=wc at *;clear a0 a1 a2 a3 a4 a5 a6 a7 a8 a9 a10;have HELD:=held_any ⟨ix,sb,nm,ty,ac,mp,st,mx,lo,hi,df⟩ wc.drew (hr0.below (b7.drew)) hdf (b7.drew.size);unfold enV at HELD;dsimp only at HELD;replace HELD:=Lib.hid HELD;have z0:=cell_mv (G:=Gq) (N.blk.cell 0) hGg;have k0:=cell_mv (G:=Gq) (K7.cell 0) hG7;have k1:=cell_mv (G:=Gq) (K7.cell 1) hG7;have k2:=cell_mv (G:=Gq) (K7.cell 2) hG7;have k3:=cell_mv (G:=Gq) (K7.cell 3) hG7;have k4:=cell_mv (G:=Gq) (K7.cell 4) hG7;have k5:=cell_mv (G:=Gq) (K7.cell 5) hG7;have k6:=cell_mv (G:=Gq) (K7.cell 6) hG7;have k7:=cell_mv (G:=Gq) (K7.cell 7) hG7;have k8:=cell_mv (G:=Gq) (K7.cell 8) hG7;have k9:=cell_mv (G:=Gq) (K7.cell 9) hG7;have k10:=cell_mv (G:=Gq) (K7.cell 10) hG7;refine region_mv 11 Gq (by kernel_rfl) ?_;refine phase_mv (by kernel_rfl) 6 (Mv.refl _ _).drew [0,1,5,2,3,4] rfl (by kernel_rfl) ?_;simp only [picks,nth]
   repeat (go_big_quiet_step (fail))
   refine wpQuiet_nil ?_;refine phase_opL 6 5 rfl (by kernel_rfl) (by decide) ?_;simp only [nth];go_wp2_with fail
   refine (HELD.out).mono ?_;rintro e w3 ⟨A3,c3,rfl,o3,b3⟩;have b3':Below wc.heap.size wc w3:=(below_drew wc).trans b3;go_wp2_with fail
   refine behind_mv (Mv.of_new b3' _) ?_;refine phase_opL 7 4 rfl (by kernel_rfl) (by decide) ?_;simp only [nth];go_wp2_with fail
   have b4:=alloc_one w3 (.cells #[.int .i64 ix,.int .i64 sb,.string (T nm),.int .i64 ty,.int .i64 ac,.bool mp,.bool st,.int .i64 mx,.int .i64 lo,.int .i64 hi,.slice A3 n1 c3] 27);have D4:=below_step b3' b4 (Nat.le_refl _);refine behind_mv (Mv.of_new D4 _) ?_;have N4:=N.below D4;have hnew:=RV.new w3 27 (size:=11) (cs:=enL ⟨ix,sb,nm,ty,ac,mp,st,mx,lo,hi,df⟩ A3 n1 c3) rfl;have hf4:EnB (w3.alloc (.cells #[.int .i64 ix,.int .i64 sb,.string (T nm),.int .i64 ty,.int .i64 ac,.bool mp,.bool st,.int .i64 mx,.int .i64 lo,.int .i64 hi,.slice A3 n1 c3] 27)) w.heap.size ⟨ix,sb,nm,ty,ac,mp,st,mx,lo,hi,df⟩ (enL ⟨ix,sb,nm,ty,ac,mp,st,mx,lo,hi,df⟩ A3 n1 c3):=⟨A3,n1,c3,rfl,(o3.more b7.drew.size).below b4⟩;have D40:=below_step b7 D4 (Nat.le_refl _);refine phase_opL 8 3 rfl (by kernel_rfl) (by decide) ?_;simp only [nth];go_wp2_with (at_builtin; refine wpList_apps2 eten (fun w1=>EnB w1 w.heap.size) rfl (.tmp 26) (.tmp 29) rfl rfl rfl w.heap.size N4.row ⟨ix,sb,nm,ty,ac,mp,st,mx,lo,hi,df⟩ hnew hf4 (en_oneCell _ _ _ _) (by omega) (by omega) D40.size (fun w1 A1 n1 c1 xs hv hg f cs hf=>hf.beside hv (by decide) hg) ?_; intro A5 c5 w5 o5 b5 g5 _)
   have M5:Mv Gq wc w5:=(Mv.of_new D4 _).trans (Mv.of_grown g5) fun b hb e=>hOwn b e
   refine behind_mv M5 ?_;refine phase_opL 9 2 rfl (by kernel_rfl) (by decide) ?_;simp only [nth];go_wp2_with fail
   refine behind_mv M5 ?_;refine phase_opL 10 1 rfl (by kernel_rfl) (by decide) ?_;simp only [nth];go_wp2_with fail
   refine behind_mv M5 ?_;have F5:=(N.blk.mv M5 hGg).two;refine phase_last 0 rfl (by kernel_rfl) (by decide) (by kernel_rfl) ?_;simp only [nth];go_wp2_with fail
   refine behind_last ?_;have N6:=N4.addl (by decide) (by decide) (by decide) o5 g5;have d6:Below w.heap.size w (w5.setCell ⟨w.heap.size + 1,0,none⟩ (.slice A5 (k + 1) c5)):=(D40.trans b5).setCell (p:=⟨w.heap.size + 1,0,none⟩) (by dsimp only; omega) _;have hA5:∃ la5:Addr,A5=some la5:=by
    obtain ⟨zs,z1,_⟩:=o5;obtain ⟨q,e,_,_⟩:=z1.head (by omega);exact ⟨_,e⟩
   obtain ⟨la5,rfl⟩:=hA5;generalize hwd:w5.setCell ⟨w.heap.size + 1,0,none⟩ (.slice (some la5) (k + 1) c5)=wd at *;clear hwd N4 N HELD z0 k0 k1 k2 k3 k4 k5 k6 k7 k8 k9 k10 F5 o5 g5 M5 D4 D40 hf4 hnew b4 b3 b3' o3 K7 hOwn t0' t1' v1';have OWN:=Lib.hid (down_any wd.drew (hr2.below d6.drew) (by omega) d6.drew.size);have z1:=cell_mv (G:=Gq) (N6.blk.cell 1) hGg;have t1':=cell_mv (G:=Gq) ((d6.cell (p:=⟨g,1,none⟩) hgl).trans t1) (hGl g hgl);have v1':=cell_mv (G:=Gq) ((d6.cell (p:=⟨gv,k,none⟩) hgv).trans hcell) (hGl gv hgv);go_wp2_with fail
   refine region_mv 17 Gq (by kernel_rfl) ?_;refine phase_mv (by kernel_rfl) 6 (Mv.refl _ _).drew [0,1,5,9,2,6,3,7,4,8,10,11] rfl (by kernel_rfl) ?_;simp only [picks,nth]
   repeat (go_big_quiet_step (fail))
   refine wpQuiet_nil ?_;refine phase_opL 12 5 rfl (by kernel_rfl) (by decide) ?_;simp only [nth];go_wp2_with fail
   refine (OWN.out).mono ?_;rintro e w3 ⟨A3,c3,rfl,o3,b3⟩;have b3':Below wd.heap.size wd w3:=(below_drew wd).trans b3;go_wp2_with fail
   refine behind_mv (Mv.of_new b3' _) ?_;refine phase_opL 13 4 rfl (by kernel_rfl) (by decide) ?_;simp only [nth];go_wp2_with fail
   have b4:=alloc_one w3 (.cells #[.slice A3 dat.length c3] 25);have D4:=below_step b3' b4 (Nat.le_refl _);refine behind_mv (Mv.of_new D4 _) ?_;have N4:=N6.below D4;have hnew:=RV.new w3 25 (size:=1) (cs:=[.slice A3 dat.length c3]) rfl;have hf4:ByB (w3.alloc (.cells #[.slice A3 dat.length c3] 25)) w.heap.size dat [.slice A3 dat.length c3]:=⟨A3,dat.length,c3,rfl,(o3.more d6.drew.size).below b4⟩;have D40:=below_step d6 D4 (Nat.le_refl _);refine phase_opL 14 3 rfl (by kernel_rfl) (by decide) ?_;simp only [nth];go_wp2_with (at_builtin; refine wpList_apps2 etbs (fun w1=>ByB w1 w.heap.size) rfl (.tmp 37) (.tmp 46) rfl rfl rfl w.heap.size N4.vrow dat hnew hf4 (fun u hu=>by simp only [List.mem_cons,List.not_mem_nil,or_false] at hu; rw [hu]; rfl) (by omega) (by omega) D40.size (fun w1 A1 n1 c1 xs hv hg f cs hf=>hf.beside hv (by decide) hg) ?_; intro A6 c6 w6 o6 b6 g6 _)
   have M5:Mv Gq wd w6:=(Mv.of_new D4 _).trans (Mv.of_grown g6) fun b hb e=>hOwnV b e
   refine behind_mv M5 ?_;refine phase_opL 15 2 rfl (by kernel_rfl) (by decide) ?_;simp only [nth];go_wp2_with fail
   refine behind_mv M5 ?_;refine phase_opL 16 1 rfl (by kernel_rfl) (by decide) ?_;simp only [nth];go_wp2_with fail
   refine behind_mv M5 ?_;have F5:=(N6.blk.mv M5 hGg).two;refine phase_last 0 rfl (by kernel_rfl) (by decide) (by kernel_rfl) ?_;simp only [nth];go_wp2_with fail
   refine behind_last ?_;have N7:=N4.addv (by decide) (by decide) (by decide) o6 g6;have d7:Below w.heap.size w (w6.setCell ⟨w.heap.size + 1,1,none⟩ (.slice A6 (k + 1) c6)):=(D40.trans b6).setCell (p:=⟨w.heap.size + 1,1,none⟩) (by dsimp only; omega) _;clear z1 t1' v1' F5 N4 N6 OWN;go_wp2_with fail
   go_roundw
   case rel=>exact ⟨k + 1,la5,c5,A6,c6,by omega,by go_num,by rw [HTK.out.2,HTK.out.1]; exact N7,d7⟩
   case measure=>simp [intOf] <;> omega
  ·obtain rfl:k=D.l.length:=by omega
   rw [List.take_length,show D.v.take D.l.length=D.v by rw [← HDL.out,List.take_length]] at N;obtain ⟨gv',zs,ys,hD⟩:=N.made (by decide) (by decide) (by decide) rfl HDL.out hord h96 hright;clear N;go_wp2_with fail
   go_ret
   exact ⟨bb,_,gv',lc',vc',la',vA',zs,ys,rfl,hD⟩
end Go.Proofs.YtijegngfclkdaaaGreatDoor
namespace Go.Proofs.YtijegngfclkdaaaGreatDoor
open Go.RowKit Go.Sort
section
variable {w:World}
theorem Blk.store5 {g:Nat} {ty:TypeId} {a b c d e:Value} (h:Blk w g ty #[a,b,c,d,e]) (a' b' c' d' e':Value):Blk (((((w.setCell ⟨g,0,none⟩ a').setCell ⟨g,1,none⟩ b').setCell ⟨g,2,none⟩ c').setCell ⟨g,3,none⟩ d').setCell ⟨g,4,none⟩ e') g ty #[a',b',c',d',e']:=((((h.set_ 0 a').set_ 1 b').set_ 2 c').set_ 3 d').set_ 4 e'
theorem Blk.cin {g:Nat} {ty:TypeId} {a b c d e:Value} (h:Blk w g ty #[a,b,c,d,e]):(w.cell? ⟨g,0,none⟩=some a∧w.cell? ⟨g,1,none⟩=some b∧w.cell? ⟨g,2,none⟩=some c∧w.cell? ⟨g,3,none⟩=some d∧w.cell? ⟨g,4,none⟩=some e)∧(w.frozen? ⟨g,0,none⟩=false∧w.frozen? ⟨g,1,none⟩=false∧w.frozen? ⟨g,2,none⟩=false∧w.frozen? ⟨g,3,none⟩=false∧w.frozen? ⟨g,4,none⟩=false):=⟨⟨h.cell 0,h.cell 1,h.cell 2,h.cell 3,h.cell 4⟩,h.frozen 0,h.frozen 1,h.frozen 2,h.frozen 3,h.frozen 4⟩
theorem below_set5 {B:Nat} {w':World} {g:Nat} (h:Below B w w') (hg:B≤g) (a b c d e:Value):Below B w (((((w'.setCell ⟨g,0,none⟩ a).setCell ⟨g,1,none⟩ b).setCell ⟨g,2,none⟩ c).setCell ⟨g,3,none⟩ d).setCell ⟨g,4,none⟩ e):=((((h.setCell (p:=⟨g,0,none⟩) hg a).setCell (p:=⟨g,1,none⟩) hg b).setCell (p:=⟨g,2,none⟩) hg c).setCell (p:=⟨g,3,none⟩) hg d).setCell (p:=⟨g,4,none⟩) hg e
end
def WrV (gd gx:Nat) (i j:Int) (A:Option Addr) (n c:Nat):Array Value:=#[.pointer (some ⟨gd,0,none⟩),.pointer (some ⟨gx,0,none⟩),.int .i64 i,.int .i64 j,.slice A n c]
section
variable {F G:Nat→Prop} {w:World} {gd gv lc vc gx gv' lc' vc':Nat} {la la':Addr} {vA vA':Option Addr} {xs vs xs' vs':List Value} {D X:Dc.Dic} {A:Option Addr} {n c:Nat}
theorem own_any (i j:Int) (h:DRt 131 w G gx gv' (some la') lc' vA' vc' xs' vs' X) (hd:∀ e∈X.l,e.dflt.length≤1000000) (hv:∀ v∈X.v,v.length≤1000000) :
  Calls Tryz.prog 365 #[.agg (WrV gd gx i j A n c)] w fun e w'=>e=.returned (.int .i64 (Pm.numD X i j 0))∧Below w.heap.size w w':=by
 unfold WrV;have b0:=alloc_one w (.cells #[.pointer (some ⟨gd,0,none⟩),.pointer (some ⟨gx,0,none⟩),.int .i64 i,.int .i64 j,.slice A n c] 382);have K0:=Blk.new w 382 #[.pointer (some ⟨gd,0,none⟩),.pointer (some ⟨gx,0,none⟩),.int .i64 i,.int .i64 j,.slice A n c];have F0:=K0.cin;have NU:=Lib.hid (number_any i j 0 (h.below b0) hd hv);clear h;go_enter Tryz.func365,Tryz.ntmps365
 go_wp2_with fail
 refine (NU.out).mono ?_;rintro e w1 ⟨rfl,b1⟩;go_wp2_with fail
 go_ret
 exact ⟨rfl,below_step b0 b1 (Nat.le_refl _)⟩
theorem signed_no (i want:Int) {q:Nat} (hq:w.cell? ⟨q,0,none⟩=some (.int .i64 want)) (hql:q < w.heap.size) (h:DRt 131 w G gx gv' (some la') lc' vA' vc' xs' vs' X) (hd:∀ e∈X.l,e.dflt.length≤1000000) (hv:∀ v∈X.v,v.length≤1000000) (hz:Pm.numD X i 1 0=want) :
  Calls Tryz.prog 366 #[.agg (WrV gd gx i 1 A n c),.pointer (some ⟨q,0,none⟩)] w fun e w'=>e=.returned (.int .u32 0)∧Below w.heap.size w w':=by
 unfold WrV;have b0:=alloc_one w (.cells #[.pointer (some ⟨gd,0,none⟩),.pointer (some ⟨gx,0,none⟩),.int .i64 i,.int .i64 1,.slice A n c] 382);have K0:=Blk.new w 382 #[.pointer (some ⟨gd,0,none⟩),.pointer (some ⟨gx,0,none⟩),.int .i64 i,.int .i64 1,.slice A n c];have F0:=K0.cin;have q0:=cell_regrown ((b0.cell (p:=⟨q,0,none⟩) hql).trans hq);have f3:=cell_regrown F0.1.2.2.2.1;have f0:=cell_regrown F0.1.1;have f1:=cell_regrown F0.1.2.1;have f2:=cell_regrown F0.1.2.2.1;have f4:=cell_regrown F0.1.2.2.2.2;have OW:=own_any (A:=A) (n:=n) (c:=c) (gd:=gd) i 1 (h.below b0) hd hv;unfold WrV at OW;have OQ:=fun d os=>Calls.regrown_of (own_any (A:=A) (n:=n) (c:=c) (gd:=gd) i 1 ((h.below b0).below (below_regrown _ d os)) hd hv)
 unfold WrV at OQ;clear h F0 OW;simp only [hz] at OQ;have OQ:=Lib.hid OQ;have ez:(want != want)=false:=by simp
 have e1:decide ((1:Int)≤1)=true:=by decide
 have e4:decide ((1:Int)≤4)=true:=by decide
 go_enter Tryz.func366,Tryz.ntmps366
 go_wp2_with fail
 refine wp_region_quiet_below (by kernel_rfl) (by kernel_rfl) ?_
 repeat (go_big_quiet_step (with_reducible exact OQ.out _ _))
 refine wpQuiet_nil ?_;intro _ hw';obtain ⟨⟨dq,osq⟩,hw''⟩:=hw';subst hw'';dsimp only;go_wp2_with fail
 go_ret
 exact ⟨rfl,below_step b0 (below_regrown _ dq osq) (Nat.le_refl _)⟩
end
theorem signed_made (want:Int) (w:World):Calls Tryz.prog 336 #[.int .i64 want] w fun e w'=>e=.returned (.func (.func 366) #[] #[.pointer (some ⟨w.heap.size,0,none⟩)])∧w'=w.alloc (.cells #[.int .i64 want] 3):=by
 go_enter Tryz.func336,Tryz.ntmps336
 go_wp2_with fail
 go_ret
 exact ⟨rfl,rfl⟩
theorem mapped_made (ahead:Int) (k:Nat) (w:World):Calls Tryz.prog 340 #[.int .i64 ahead,.func (.func k) #[] #[]] w fun e w'=>e=.returned (.func (.func 367) #[] #[.pointer (some ⟨w.heap.size,0,none⟩),.pointer (some ⟨w.heap.size + 1,0,none⟩)])∧w'=(w.alloc (.cells #[.int .i64 ahead] 3)).alloc (.cells #[.func (.func k) #[] #[]] 385):=by
 go_enter Tryz.func340,Tryz.ntmps340
 go_wp2_with fail
 go_ret
 exact ⟨rfl,rfl⟩
def ruleCells (b:Nat):Array Value:=#[.int .i64 4099,.int .i64 4099,.func (.func 334) #[] #[],.int .i64 4101,.int .i64 4101,.func (.func 335) #[] #[],.int .i64 4121,.int .i64 4121,.func (.func 335) #[] #[],.int .i64 4112,.int .i64 4112,.func (.func 366) #[] #[.pointer (some ⟨b,0,none⟩)],.int .i64 4113,.int .i64 4113,.func (.func 366) #[] #[.pointer (some ⟨b + 1,0,none⟩)],.int .i64 4118,.int .i64 4118,.func (.func 337) #[] #[],.int .i64 5120,.int .i64 5123,.func (.func 338) #[] #[],.int .i64 6144,.int .i64 6147,.func (.func 339) #[] #[],.int .i64 5632,.int .i64 5635,.func (.func 367) #[] #[.pointer (some ⟨b + 1 + 1,0,none⟩),.pointer (some ⟨b + 1 + 1 + 1,0,none⟩)],.int .i64 6656,.int .i64 6659,.func (.func 367) #[] #[.pointer (some ⟨b + 1 + 1 + 1 + 1,0,none⟩),.pointer (some ⟨b + 1 + 1 + 1 + 1 + 1,0,none⟩)]]
structure RulesM (w:World) (b:Nat):Prop where
 lt:b + 1 + 1 + 1 + 1 + 1 + 1 < w.heap.size
 blk:Blk w (b + 1 + 1 + 1 + 1 + 1 + 1) 387 (ruleCells b)
 b0:Blk w b 3 #[.int .i64 1702257011]
 b1:Blk w (b + 1) 3 #[.int .i64 1684107116]
 b2:Blk w (b + 1 + 1) 3 #[.int .i64 512]
 b3:Blk w (b + 1 + 1 + 1) 385 #[.func (.func 338) #[] #[]]
 b4:Blk w (b + 1 + 1 + 1 + 1) 3 #[.int .i64 512]
 b5:Blk w (b + 1 + 1 + 1 + 1 + 1) 385 #[.func (.func 339) #[] #[]]
theorem RulesM.below {w w':World} {b:Nat} (h:RulesM w b) (hb:Below w.heap.size w w'):RulesM w' b:=⟨Nat.lt_of_lt_of_le h.lt hb.size,h.blk.later hb,h.b0.later hb,h.b1.later hb,h.b2.later hb,h.b3.later hb,h.b4.later hb,h.b5.later hb⟩
theorem rules_any (w:World):Calls Tryz.prog 303 #[] w fun e w'=>e=.returned (.slice (some ⟨w.heap.size + 1 + 1 + 1 + 1 + 1 + 1,0,none⟩) 10 10)∧Below w.heap.size w w'∧RulesM w' w.heap.size:=by
 have a0:=alloc_one w (.cells #[.int .i64 1702257011] 3);have k0:=Blk.new w 3 #[.int .i64 1702257011];have s0:(w.alloc (.cells #[.int .i64 1702257011] 3)).heap.size=w.heap.size + 1:=by simp
 generalize e0:w.alloc (.cells #[.int .i64 1702257011] 3)=u0 at a0 k0 s0;have a1:=alloc_one u0 (.cells #[.int .i64 1684107116] 3);have k1:=Blk.new u0 3 #[.int .i64 1684107116];have s1:(u0.alloc (.cells #[.int .i64 1684107116] 3)).heap.size=u0.heap.size + 1:=by simp
 generalize e1:u0.alloc (.cells #[.int .i64 1684107116] 3)=u1 at a1 k1 s1;have a2:=alloc_one u1 (.cells #[.int .i64 512] 3);have k2:=Blk.new u1 3 #[.int .i64 512];have s2:(u1.alloc (.cells #[.int .i64 512] 3)).heap.size=u1.heap.size + 1:=by simp
 generalize e2:u1.alloc (.cells #[.int .i64 512] 3)=u2 at a2 k2 s2;have a3:=alloc_one u2 (.cells #[.func (.func 338) #[] #[]] 385);have k3:=Blk.new u2 385 #[.func (.func 338) #[] #[]];have s3:(u2.alloc (.cells #[.func (.func 338) #[] #[]] 385)).heap.size=u2.heap.size + 1:=by simp
 generalize e3:u2.alloc (.cells #[.func (.func 338) #[] #[]] 385)=u3 at a3 k3 s3;have a4:=alloc_one u3 (.cells #[.int .i64 512] 3);have k4:=Blk.new u3 3 #[.int .i64 512];have s4:(u3.alloc (.cells #[.int .i64 512] 3)).heap.size=u3.heap.size + 1:=by simp
 generalize e4:u3.alloc (.cells #[.int .i64 512] 3)=u4 at a4 k4 s4;have a5:=alloc_one u4 (.cells #[.func (.func 339) #[] #[]] 385);have k5:=Blk.new u4 385 #[.func (.func 339) #[] #[]];have s5:(u4.alloc (.cells #[.func (.func 339) #[] #[]] 385)).heap.size=u4.heap.size + 1:=by simp
 generalize e5:u4.alloc (.cells #[.func (.func 339) #[] #[]] 385)=u5 at a5 k5 s5;have a6:=alloc_one u5 (.cells (ruleCells w.heap.size) 387);have k6:=Blk.new u5 387 (ruleCells w.heap.size);have s6:(u5.alloc (.cells (ruleCells w.heap.size) 387)).heap.size=u5.heap.size + 1:=by simp
 have z0:u0.heap.size=w.heap.size + 1:=s0;rw [s0] at k1 s1;rw [s1] at k2 s2;rw [s2] at k3 s3;rw [s3] at k4 s4;rw [s4] at k5 s5;rw [s5] at k6 s6;have d6:Below w.heap.size w (u5.alloc (.cells (ruleCells w.heap.size) 387)):=below_step (below_step (below_step (below_step (below_step (below_step a0 a1 (Nat.le_refl _)) a2 (Nat.le_refl _)) a3 (Nat.le_refl _)) a4 (Nat.le_refl _)) a5 (Nat.le_refl _)) a6 (Nat.le_refl _);have RM:RulesM (u5.alloc (.cells (ruleCells w.heap.size) 387)) w.heap.size:=⟨by omega,k6,(((((k0.later a1).later a2).later a3).later a4).later a5).later a6,((((k1.later a2).later a3).later a4).later a5).later a6,(((k2.later a3).later a4).later a5).later a6,((k3.later a4).later a5).later a6,(k4.later a5).later a6,k5.later a6⟩;subst e5 e4 e3 e2 e1 e0;have D6:=Lib.hid d6; have RMh:=Lib.hid RM;clear d6 RM a0 a1 a2 a3 a4 a5 a6 k0 k1 k2 k3 k4 k5 k6 s0 s1 s2 s3 s4 s5 s6 z0;go_enter Tryz.func303,Tryz.ntmps303
 go_wp2_with fail
 refine (signed_made _ _).mono ?_;rintro e w1 ⟨rfl,rfl⟩;go_wp2_with fail
 refine (signed_made _ _).mono ?_;rintro e w1 ⟨rfl,rfl⟩;go_wp2_with fail
 refine (mapped_made _ _ _).mono ?_;rintro e w1 ⟨rfl,rfl⟩;go_wp2_with fail
 refine (mapped_made _ _ _).mono ?_;rintro e w1 ⟨rfl,rfl⟩;go_wp2_with fail
 go_ret
 exact ⟨rfl,D6.out,RMh.out⟩
structure RuleAt (b k:Nat) (lo hi:Int) (fn:Nat) (cp:Array Value):Prop where
 at_:(k=0∧lo=4099∧hi=4099)∨(k=1∧lo=4101∧hi=4101)∨(k=2∧lo=4121∧hi=4121)∨(k=3∧lo=4112∧hi=4112∧fn=366∧cp=#[.pointer (some ⟨b,0,none⟩)])∨(k=4∧lo=4113∧hi=4113∧fn=366∧cp=#[.pointer (some ⟨b + 1,0,none⟩)])
theorem RulesM.row {w:World} {b k:Nat} (h:RulesM w b) (hk:k < 5):∃ (lo hi:Int) (fn:Nat) (cp:Array Value),w.cell? ⟨b + 1 + 1 + 1 + 1 + 1 + 1,k * 3,none⟩=some (.int .i64 lo)∧w.cell? ⟨b + 1 + 1 + 1 + 1 + 1 + 1,k * 3 + 1,none⟩=some (.int .i64 hi)∧w.cell? ⟨b + 1 + 1 + 1 + 1 + 1 + 1,k * 3 + 2,none⟩=some (.func (.func fn) #[] cp)∧RuleAt b k lo hi fn cp:=by
 rcases (show k=0∨k=1∨k=2∨k=3∨k=4 by omega) with rfl | rfl | rfl | rfl | rfl
 ·exact ⟨_,_,_,_,h.blk.cell 0,h.blk.cell 1,h.blk.cell 2,⟨.inl ⟨rfl,rfl,rfl⟩⟩⟩
 ·exact ⟨_,_,_,_,h.blk.cell 3,h.blk.cell 4,h.blk.cell 5,⟨.inr (.inl ⟨rfl,rfl,rfl⟩)⟩⟩
 ·exact ⟨_,_,_,_,h.blk.cell 6,h.blk.cell 7,h.blk.cell 8,⟨.inr (.inr (.inl ⟨rfl,rfl,rfl⟩))⟩⟩
 ·exact ⟨_,_,_,_,h.blk.cell 9,h.blk.cell 10,h.blk.cell 11,⟨.inr (.inr (.inr (.inl ⟨rfl,rfl,rfl,rfl,rfl⟩)))⟩⟩
 ·exact ⟨_,_,_,_,h.blk.cell 12,h.blk.cell 13,h.blk.cell 14,⟨.inr (.inr (.inr (.inr ⟨rfl,rfl,rfl,rfl,rfl⟩)))⟩⟩
theorem RuleAt.hit {w:World} {b k:Nat} {lo hi i want:Int} {fn:Nat} {cp:Array Value} (h:RuleAt b k lo hi fn cp) (hM:RulesM w b) (hi':(i=4112∧want=1702257011)∨(i=4113∧want=1684107116)) (hm:lo≤i∧i≤hi):∃ qq,fn=366∧cp=#[.pointer (some ⟨qq,0,none⟩)]∧qq < w.heap.size∧w.cell? ⟨qq,0,none⟩=some (.int .i64 want):=by
 have hl:=hM.lt;rcases hi' with ⟨rfl,rfl⟩ | ⟨rfl,rfl⟩
 ·rcases h.at_ with ⟨_,rfl,rfl⟩ | ⟨_,rfl,rfl⟩ | ⟨_,rfl,rfl⟩ | ⟨_,_,_,h1,h2⟩ | ⟨_,rfl,rfl,_⟩
  ·omega
  ·omega
  ·omega
  ·exact ⟨b,h1,h2,by omega,hM.b0.cell 0⟩
  ·omega
 ·rcases h.at_ with ⟨_,rfl,rfl⟩ | ⟨_,rfl,rfl⟩ | ⟨_,rfl,rfl⟩ | ⟨_,rfl,rfl,_⟩ | ⟨_,_,_,h1,h2⟩
  ·omega
  ·omega
  ·omega
  ·omega
  ·exact ⟨b + 1,h1,h2,by omega,hM.b1.cell 0⟩
theorem RuleAt.miss {b k:Nat} {lo hi i want:Int} {fn:Nat} {cp:Array Value} (h:RuleAt b k lo hi fn cp) (hi':(i=4112∧want=1702257011)∨(i=4113∧want=1684107116)) (hm:¬ (lo≤i∧i≤hi)) (hk:k≤4) (h3:i=4112→k≤3):k + 1≤4∧(i=4112→k + 1≤3):=by
 rcases h.at_ with ⟨rfl,rfl,rfl⟩ | ⟨rfl,rfl,rfl⟩ | ⟨rfl,rfl,rfl⟩ | ⟨rfl,rfl,rfl,_⟩ | ⟨rfl,rfl,rfl,_⟩
 ·exact ⟨by omega,fun _=>by omega⟩
 ·exact ⟨by omega,fun _=>by omega⟩
 ·exact ⟨by omega,fun _=>by omega⟩
 ·exact ⟨by omega,fun e=>absurd ⟨by omega,by omega⟩ hm⟩
 ·rcases hi' with ⟨e,_⟩ | ⟨e,_⟩
  ·have:=h3 e
   omega
  ·exact absurd ⟨by omega,by omega⟩ hm
def GrdRel (w:World) (m gd:Nat) (i j:Int) (A:Option Addr) (n c:Nat) (D:Dc.Dic) (v:Value) (wx:World):Prop :=
 ∃ (q gx:Nat) (F:Nat→Prop) (gv lc vc:Nat) (la:Addr) (vA:Option Addr) (xs vs:List Value),v=.pointer (some ⟨q,0,none⟩)∧Below m w wx∧m≤q∧Blk wx q 382 (WrV gd gx i j A n c)∧DRt 131 wx F gx gv (some la) lc vA vc xs vs D∧∀ b,F b→m≤b∧b < wx.heap.size∧b≠q
theorem Guard_cmd {F:Nat→Prop} {w:World} {g gv lc vc:Nat} {la:Addr} {vA:Option Addr} {xs vs:List Value} {D:Dc.Dic} {A:Option Addr} {n c B:Nat} {b:List UInt8} (i want:Int) (hi:(i=4112∧want=1702257011)∨(i=4113∧want=1684107116)) (h:DRt 131 w F g gv (some la) lc vA vc xs vs D) (hd:∀ e∈D.l,e.dflt.length≤1000000) (hf:Dc.Fine D) (hb:RB w B A n c b) (hB:B≤w.heap.size) (hn:n≤1000) (hm:Dc.mayS D.l false i 1 b=0) (hz:Pm.numD (Dc.pokeS D i 1 b) i 1 0=want) :
  Calls Tryz.prog 267 #[.pointer (some ⟨g,0,none⟩),.agg #[.int .i64 i,.int .i64 1,.slice A n c]] w fun e w'=>e=.returned (.int .u32 0)∧Below w.heap.size w w':=by
 have hv:∀ v∈D.v,v.length≤1000000:=fun v hv=>by have:=hf.sm v hv; omega
 have b0:=alloc_one w (.cells #[.int .i64 i,.int .i64 1,.slice A n c] 34);have K0:=Blk.new w 34 #[.int .i64 i,.int .i64 1,.slice A n c];have F0:=K0.three;have MA:=dMay_any i 1 (h.below b0) (hb.below (b0.mono hB)) (Nat.le_trans hB b0.size);rw [hm] at MA;replace MA:=Lib.hid MA;clear hm;go_enter Tryz.func267,Tryz.ntmps267
 go_wp2_with fail
 refine (MA.out).mono ?_;rintro e w1 ⟨rfl,b1⟩;have d1:=below_step b0 b1 (Nat.le_refl _);have K1:=K0.later b1;have F1:=K1.three;clear F0;have hD1:=h.below d1;have g0:=cell_regrown F1.1;have g1:=cell_regrown F1.2.1;have g2:=cell_regrown F1.2.2.1;have CP:=Lib.hid (fun (w2:World) (hb:Below w1.heap.size w1 w2)=>dCopy_any (hD1.below hb) hd hv);go_upto_region 4 with fail
 go_cut [6] from 20 to 24 (fun v wx=>GrdRel w1 w1.heap.size g i 1 A n c D v wx)
 case first =>
  refine region_later (by kernel_rfl) ?_;refine phase_later (by kernel_rfl) 4 (below_drew _) [0,1,3] rfl (by kernel_rfl) ?_;simp only [picks,nth]
  repeat (go_big_quiet_step (fail))
  refine wpQuiet_nil ?_;refine phase_two 2 5 3 rfl (by kernel_rfl) (by decide) (by decide) ?_ ?_
  ·simp only [nth]
   go_wp2_with fail
   refine (CP.out _ (below_drew w1)).mono ?_;rintro e w3 ⟨b3,gx,gv',lc',vc',la',vA',xs',vs',rfl,hx⟩;have b13:Below w1.heap.size w1 w3:=(below_drew w1).trans b3;go_wp2_with fail
   refine behind_since b13 ?_;refine phase_later (by kernel_rfl) 2 b13 [4] rfl (by kernel_rfl) ?_;simp only [picks,nth]
   repeat (go_big_quiet_step (fail))
   refine wpQuiet_nil ?_;refine phase_op 5 1 rfl (by kernel_rfl) (by decide) ?_;simp only [nth];go_wp2_with fail
   have b4:=alloc_one w3 (.cells #[.pointer none,.pointer none,.int .i64 0,.int .i64 0,.slice none 0 0] 382);have K4:=Blk.new w3 382 #[.pointer none,.pointer none,.int .i64 0,.int .i64 0,.slice none 0 0];have F4:=K4.cin;have b14:=below_step b13 b4 (Nat.le_refl _);refine behind_since b14 ?_;refine phase_op 6 0 rfl (by kernel_rfl) (by decide) ?_;simp only [nth];go_wp2_with fail
   have K5:=Blk.new w3 382 (WrV g gx i 1 A n c);have b5:=alloc_one w3 (.cells (WrV g gx i 1 A n c) 382);unfold WrV at b5;have b15:=below_step b13 b5 (Nat.le_refl _);refine behind_since b15 ?_;refine phase_end (by kernel_rfl) ?_;go_wp2_with fail
   go_meet
   exact ⟨w3.heap.size,gx,_,gv',lc',vc',la',vA',xs',vs',rfl,b15,b13.size,K5,hx.cut.below b5,fun q hq=>⟨by have:=hq.1; have e:w1.heap.size≤q:=this; exact e,by have:=hq.2; simp; omega,by have:=hq.2; omega⟩⟩
  ·simp only [nth]
   go_wp2_with fail
   have b4:=alloc_one w1.drew (.cells #[.pointer none,.pointer none,.int .i64 0,.int .i64 0,.slice none 0 0] 382);have K4:Blk (w1.drew.alloc (.cells #[.pointer none,.pointer none,.int .i64 0,.int .i64 0,.slice none 0 0] 382)) w1.heap.size 382 #[.pointer none,.pointer none,.int .i64 0,.int .i64 0,.slice none 0 0]:=Blk.new w1.drew 382 #[.pointer none,.pointer none,.int .i64 0,.int .i64 0,.slice none 0 0];have b14:Below w1.heap.size w1 (w1.drew.alloc (.cells #[.pointer none,.pointer none,.int .i64 0,.int .i64 0,.slice none 0 0] 382)):=(below_drew w1).trans b4;refine behind_since b14 ?_;refine phase_op 2 2 rfl (by kernel_rfl) (by decide) ?_;simp only [nth];go_wp2_with fail
   refine (CP.out _ b14).mono ?_;rintro e w3 ⟨b3,gx,gv',lc',vc',la',vA',xs',vs',rfl,hx⟩;have b13:=below_step b14 b3 (Nat.le_refl _);have K3:=K4.later b3;have F3:=K3.cin;go_wp2_with fail
   refine behind_since b13 ?_;refine phase_later (by kernel_rfl) 1 b13 [4] rfl (by kernel_rfl) ?_;simp only [picks,nth]
   repeat (go_big_quiet_step (fail))
   refine wpQuiet_nil ?_;refine phase_op 6 0 rfl (by kernel_rfl) (by decide) ?_;simp only [nth];go_wp2_with fail
   have K5:=K3.store5 (.pointer (some ⟨g,0,none⟩)) (.pointer (some ⟨gx,0,none⟩)) (.int .i64 i) (.int .i64 1) (.slice A n c);have b15:=below_set5 b13 (Nat.le_refl w1.heap.size) (.pointer (some ⟨g,0,none⟩)) (.pointer (some ⟨gx,0,none⟩)) (.int .i64 i) (.int .i64 1) (.slice A n c);have m5:Mv (fun q=>q=w1.heap.size) w3 (((((w3.setCell ⟨w1.heap.size,0,none⟩ (.pointer (some ⟨g,0,none⟩))).setCell ⟨w1.heap.size,1,none⟩ (.pointer (some ⟨gx,0,none⟩))).setCell ⟨w1.heap.size,2,none⟩ (.int .i64 i)).setCell ⟨w1.heap.size,3,none⟩ (.int .i64 1)).setCell ⟨w1.heap.size,4,none⟩ (.slice A n c)):=((((Mv.setCell w3 ⟨w1.heap.size,0,none⟩ _).trans (Mv.setCell _ ⟨w1.heap.size,1,none⟩ _) fun _ _ e=>e).trans (Mv.setCell _ ⟨w1.heap.size,2,none⟩ _) fun _ _ e=>e).trans (Mv.setCell _ ⟨w1.heap.size,3,none⟩ _) fun _ _ e=>e).trans (Mv.setCell _ ⟨w1.heap.size,4,none⟩ _) fun _ _ e=>e
   have hz4:(w1.drew.alloc (.cells #[.pointer none,.pointer none,.int .i64 0,.int .i64 0,.slice none 0 0] 382)).heap.size=w1.heap.size + 1:=by simp
   refine behind_since b15 ?_;refine phase_end (by kernel_rfl) ?_;go_wp2_with fail
   go_meet
   exact ⟨w1.heap.size,gx,_,gv',lc',vc',la',vA',xs',vs',rfl,b15,Nat.le_refl _,K5,hx.cut.mv m5 (fun q _ hq e=>by have:=hq.1; omega),fun q hq=>⟨by have:=hq.1; omega,Nat.lt_of_lt_of_le hq.2 m5.size,by have:=hq.1; omega⟩⟩
 case rest =>
  clear K0 g0 g1 g2 MA;obtain ⟨q,gx,F',gv',lc',vc',la',vA',xs',vs',rfl,b2,hq,KW,hX,hF'⟩:=hcut;obtain ⟨w2,hw2⟩:∃ w,w=wc:=⟨wc,rfl⟩;subst hw2;have d2:=below_step d1 b2 (Nat.le_refl _);have K2:=K1.later b2;have F2:=K2.three;have FW:=(show Blk w2 q 382 #[.pointer (some ⟨g,0,none⟩),.pointer (some ⟨gx,0,none⟩),.int .i64 i,.int .i64 1,.slice A n c] from KW).cin;have hk1:=K1.lt;have PO:=Lib.hid (One.poke (base:=w1.heap.size) (F:=F') ⟨gv',lc',vc',la',vA',xs',vs',hX,fun b hb=>⟨(hF' b hb).1,(hF' b hb).2.1⟩⟩ b2.size i 1 (hb.below (d2.mono hB)) (Nat.le_trans hB d2.size) (by omega));clear F1;go_wp2_with fail
  refine (PO.out).mono ?_;rintro e w3 ⟨rfl,m3,b3,gv3,lc3,vc3,la3,vA3,xs3,vs3,hX3,_⟩;have d3:Below w.heap.size w w3:=d2.trans (b3.mono d1.size);have K3:=K2.mv m3 fun e=>by have:=(hF' _ e).1; omega
  have KW3:=KW.mv m3 fun e=>(hF' _ e).2.2 rfl
  have hdX:∀ e∈(Dc.pokeS D i 1 b).l,e.dflt.length≤1000000:=by rw [Dc.poke_l]; exact hd
  have hfX:=hf.poke i 1 (b:=b) (by have:=hb.len; omega);have hvX:∀ v∈(Dc.pokeS D i 1 b).v,v.length≤1000000:=fun v hv=>by have:=hfX.sm v hv; omega
  have hD3:=h.below d3;generalize Dc.pokeS D i 1 b=X at *;clear PO F2 FW K2 KW hX h hfX;go_wp2_with fail
  refine (rules_any w3).mono ?_;rintro e w4 ⟨rfl,b4,RM⟩;have d4:=below_step d3 b4 (Nat.le_refl _);have K4:=K3.later b4;have KW4:Blk w4 q 382 #[.pointer (some ⟨g,0,none⟩),.pointer (some ⟨gx,0,none⟩),.int .i64 i,.int .i64 1,.slice A n c]:=KW3.later b4;have hX4:=hX3.below b4;have hRl:=RM.lt;have S0:=fun (w5:World) (hb5:Below w4.heap.size w4 w5) (qq:Nat) (hq:w5.cell? ⟨qq,0,none⟩=some (.int .i64 want)) (hl:qq < w5.heap.size)=>signed_no (A:=A) (n:=n) (c:=c) (gd:=g) i want (q:=qq) hq hl (hX4.below hb5) hdX hvX hz
  unfold WrV at S0;replace S0:=Lib.hid S0;have eg3:∀ args w,(callFunc 366 args).run Tryz.prog w=.ok (.enter 366 args) w:=fun args w=>by kernel_rfl
  have HI:=Lib.hid hi;clear hD3 hX3 K3 KW3 hX4 hd hv hdX hvX hb hf hF' m3 b3 b2 b4 hz hi;go_wp2_with fail
  go_loopw [36] (fun v wr=>∃ k:Nat,k≤4∧(i=4112→k≤3)∧v=.int .i64 k∧Below w4.heap.size w4 wr) (fun v _=>10 - (intOf v).toNat)
  case atStart=>exact ⟨0,by omega,fun _=>by omega,rfl,Below.refl _ _⟩
  case round =>
   obtain ⟨k,hk,hk3,rfl,br⟩:=hrel;obtain ⟨wq,hwq⟩:∃ w,w=wr:=⟨wr,rfl⟩;subst hwq;have dr:=below_step d4 br (Nat.le_refl _);have Kr:=(K4.later br).three;have RR:=RM.below br;have hql:q < wq.heap.size:=Nat.lt_of_lt_of_le KW4.lt br.size;obtain ⟨lo,hi2,fn,cp,r0,r1,r2,hrow⟩:=RR.row (k:=k) (by omega);have ba:=alloc_one wq (.cells #[.int .i64 lo,.int .i64 hi2,.func (.func fn) #[] cp] 387);have KB:=(Blk.new wq 387 #[.int .i64 lo,.int .i64 hi2,.func (.func fn) #[] cp]).three;have Ka:=((K4.later br).later ba).three;have FWa:=((KW4.later br).later ba).cin;have da:=below_step dr ba (Nat.le_refl _);have bra:=below_step br ba (Nat.le_refl _);have R2:=RR.below ba
   by_cases hmt:lo≤i∧i≤hi2
   ·obtain ⟨qq,rfl,rfl,hqq,hqv⟩:∃ qq,fn=366∧cp=#[.pointer (some ⟨qq,0,none⟩)]∧qq < w4.heap.size∧w4.cell? ⟨qq,0,none⟩=some (.int .i64 want):=hrow.hit RM HI.out hmt
    have CC:=Lib.hid (S0.out _ bra qq ((bra.cell (p:=⟨qq,0,none⟩) hqq).trans hqv) (Nat.lt_of_lt_of_le hqq bra.size));have DA:=Lib.hid da;obtain ⟨hm1,hm2⟩:=hmt;have t1:decide (lo≤i)=true:=decide_eq_true hm1;have t2:decide (i≤hi2)=true:=decide_eq_true hm2;clear Kr RR R2 S0 hrow hqq hqv hm1 hm2 br bra dr da HI;go_wp2_with fail
    refine (CC.out).mono ?_;rintro e w6 ⟨rfl,b6⟩;have DB:=Lib.hid (below_step DA.out b6 (Nat.le_refl _));clear b6 CC;go_wp2_with fail
    go_ret
    exact ⟨rfl,DB.out⟩
   ·obtain ⟨hk4,hk4'⟩:=hrow.miss HI.out hmt hk hk3
    have BR:=Lib.hid bra;have HK:=Lib.hid hk4';have hk5:k + 1≤4:=hk4;clear Kr RR R2 S0 hrow br bra dr da HI hk3 hk4' hk4
    by_cases hlo:lo≤i
    ·have t1:decide (lo≤i)=true:=decide_eq_true hlo
     have t2:decide (i≤hi2)=false:=decide_eq_false fun h=>hmt ⟨hlo,h⟩
     clear hmt hlo;go_wp2_with fail
     go_roundw
     case rel=>exact ⟨k + 1,hk5,HK.out,by go_num,BR.out⟩
     case measure=>simp [intOf]; omega
    ·have t1:decide (lo≤i)=false:=decide_eq_false hlo
     clear hmt hlo;go_wp2_with fail
     go_roundw
     case rel=>exact ⟨k + 1,hk5,HK.out,by go_num,BR.out⟩
     case measure=>simp [intOf]; omega
end Go.Proofs.YtijegngfclkdaaaGreatDoor
