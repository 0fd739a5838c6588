/-
  Pieces of the proof: part 25 of 54.
  Conditions: none.
-/
import Derived.Test.YtijegngfclkdaaaGreatDoorW13
import Derived.Test.YtijegngfclkdaaaGreatDoorW15
import Derived.Test.YtijegngfclkdaaaGreatDoorW16
import Derived.Test.YtijegngfclkdaaaGreatDoorW22
import Derived.Test.YtijegngfclkdaaaGreatDoorW23
import Derived.Test.YtijegngfclkdaaaGreatDoorW24
set_option linter.unusedVariables false
set_option linter.unusedSimpArgs false
set_option maxHeartbeats 100000000
set_option maxRecDepth 100000
namespace Go.Proofs.YtijegngfclkdaaaGreatDoor.Sn
open Dc
def parS:Nat→List UInt8→List Vl→Option (List Vl)
 | 0,_,out=>some out
 | f + 1,b,out=>if b=[] then some out else match oneS b with
  | none=>none
  | some (v,r)=>if out≠[]∧Ent.befB (plE (out.getLastD ⟨0,0,[]⟩).index (out.getLastD ⟨0,0,[]⟩).sub) (plE v.index v.sub)=false then none else parS f r (out ++ [v])
def parseS (b:List UInt8):Option (List Vl):=if 960 < b.length then none else parS (b.length + 1) b []
theorem parS_nil (f:Nat) (out:List Vl):parS f [] out=some out:=by cases f <;> simp [parS]
theorem parS_none {f:Nat} {b:List UInt8} {out:List Vl} (hb:b≠[]) (hf:b.length < f) (h:oneS b=none):parS f b out=none:=by
 cases f with
 | zero=>omega
 | succ f=>rw [parS,if_neg hb,h]
theorem parS_bad {f:Nat} {b r:List UInt8} {v:Vl} {out:List Vl} (hb:b≠[]) (hf:b.length < f) (h:oneS b=some (v,r)) (ho:out≠[]∧Ent.befB (plE (out.getLastD ⟨0,0,[]⟩).index (out.getLastD ⟨0,0,[]⟩).sub) (plE v.index v.sub)=false):parS f b out=none:=by
 cases f with
 | zero=>omega
 | succ f=>rw [parS,if_neg hb,h]; dsimp only; rw [if_pos ho]
theorem parS_go {f:Nat} {b r:List UInt8} {v:Vl} {out:List Vl} (hb:b≠[]) (hf:b.length < f) (h:oneS b=some (v,r)) (ho:¬ (out≠[]∧Ent.befB (plE (out.getLastD ⟨0,0,[]⟩).index (out.getLastD ⟨0,0,[]⟩).sub) (plE v.index v.sub)=false)):∃ f',parS f b out=parS f' r (out ++ [v])∧r.length < f':=by
 cases f with
 | zero=>omega
 | succ f =>
  have:=one_less h;refine ⟨f,?_,by omega⟩;rw [parS,if_neg hb,h]; dsimp only; rw [if_neg ho]
end Go.Proofs.YtijegngfclkdaaaGreatDoor.Sn
namespace Go.Proofs.YtijegngfclkdaaaGreatDoor
open Go.RowKit
def SParP (b:List UInt8) (w:World) (e:Ending) (w':World):Prop :=
 Below w.heap.size w w'∧match Sn.parseS b with
 | none=>∃ z:Int,e=.returned (.tuple #[.slice none 0 0,.int .i64 z])∧z≠0
 | some vs=>∃ A c,e=.returned (.tuple #[.slice A vs.length c,.int .i64 0])∧OS (VlW w' w.heap.size) w' w.heap.size 34 3 A vs.length c vs
theorem spar_no {b:List UInt8} {w w':World} {z:Int} (h:Sn.parseS b=none) (hz:z≠0) (hb:Below w.heap.size w w'):SParP b w (.returned (.tuple #[.slice none 0 0,.int .i64 z])) w':=⟨hb,by rw [h]; exact ⟨z,rfl,hz⟩⟩
theorem spar_yes {b:List UInt8} {w w':World} {vs:List Dc.Vl} {A:Option Addr} {k c:Nat} (h:Sn.parseS b=some vs) (ho:OS (VlW w' w.heap.size) w' w.heap.size 34 3 A k c vs) (hb:Below w.heap.size w w'):SParP b w (.returned (.tuple #[.slice A k c,.int .i64 0])) w':=by
 have:=ho.len (by decide);subst this;exact ⟨hb,by rw [h]; exact ⟨A,c,rfl,ho⟩⟩
theorem ob_vlw {w:World} {base base' n:Nat} {A:Option Addr} (v:Dc.Vl) (h:OB w base A n n v.data) (hb:base'≤base):VlW w base' v [.int .i64 v.index,.int .i64 v.sub,.slice A n n]:=⟨A,n,n,rfl,h.ow.more hb⟩
def lenV:Value→Nat
 | .slice _ n _=>n
 | _=>0
theorem sna_last {out:List Dc.Vl} {k:Nat} (h:out.length=k) (hk:0 < k):out[k - 1]?=some (out.getLastD ⟨0,0,[]⟩):=by
 subst h;rw [← List.getLast?_eq_getElem?];cases out with
 | nil=>simp at hk
 | cons a l=>rw [List.getLastD_eq_getLast?,List.getLast?_cons]; rfl
structure SParR (b0:List UInt8) (B:Nat) (w wr:World) (A:Option Addr) (n c:Nat) (b:List UInt8) (A1:Option Addr) (k c1:Nat) (out:List Dc.Vl):Prop where
 res:∃ f,Sn.parseS b0=Sn.parS f b out∧b.length < f
 rb:RB wr B A n c b
 few:n + 5 * k≤960
 own:OS (VlW wr w.heap.size) wr w.heap.size 34 3 A1 k c1 out
 bel:Below w.heap.size w wr
theorem sparse_any {A:Option Addr} {n c B:Nat} {l:List UInt8} (w:World) (hb:RB w B A n c l) (hB:B≤w.heap.size) (hn:n≤100000):Calls Tryz.prog 135 #[.slice A n c] w (SParP l w):=by
 have hl:=hb.len;have hS:Sn.parseS l=Sn.parseS l:=rfl
 conv at hS=>rhs; unfold Sn.parseS
 rw [hl] at hS
 by_cases hbig:960 < n
 ·rw [if_pos hbig] at hS
  have H:=Lib.hid hS;have e1:decide ((n:Int) > 960)=true:=decide_eq_true (by omega);have e1':decide (960 < n)=true:=decide_eq_true hbig;clear hb hl hS;go_enter Tryz.func135,Tryz.ntmps135
  go_wp2_with fail
  go_ret2
  exact spar_no H.out (by decide) (Below.refl _ _)
 rw [if_neg hbig] at hS;have e1:decide ((n:Int) > 960)=false:=decide_eq_false (by omega);have e1':decide (960 < n)=false:=decide_eq_false hbig;have R0:SParR l B w w A n c l none 0 0 []:=⟨⟨_,hS,by omega⟩,hb,by omega,OS.none_ _ _ _ _,Below.refl _ _⟩;clear hb hl hS;have HBB:=Lib.hid hB;go_enter Tryz.func135,Tryz.ntmps135
 go_wp2_with fail
 go_loopw [0,4] (fun u v wr=>∃ (A:Option Addr) (n c:Nat) (b:List UInt8) (A1:Option Addr) (k c1:Nat) (out:List Dc.Vl),u=.slice A n c∧v=.slice A1 k c1∧SParR l B w wr A n c b A1 k c1 out) (fun u _ _=>lenV u)
 case atStart=>exact ⟨A,n,c,l,none,0,0,[],rfl,rfl,R0⟩
 case round =>
  obtain ⟨A0,n0,c0,b0,A1,k,c1,out,rfl,rfl,R⟩:=hrel;clear R0;obtain ⟨f,hf,hlf⟩:=R.res;have rb:=R.rb;have few:=R.few;have own:=R.own;have bb:=R.bel;have hbl:=rb.len;clear R
  by_cases hz:n0=0
  ·subst hz
   have hb0:b0=[]:=List.eq_nil_of_length_eq_zero hbl;subst hb0;rw [Sn.parS_nil] at hf;have H:=Lib.hid hf;have OWN:=Lib.hid own;clear hf own rb hbl;go_wp2_with fail
   go_ret2
   exact spar_yes H.out OWN.out bb
  ·have e2:decide ((n0:Int) > 0)=true:=decide_eq_true (by omega)
   have e2':decide (0 < n0)=true:=decide_eq_true (by omega);have hb0:b0≠[]:=fun h=>by subst h; simp at hbl; omega
   have ONE:=Lib.hid (sone_any wr rb (Nat.le_trans HBB.out bb.size) (by omega));have OWN:=Lib.hid own;have HLF:=Lib.hid hlf;have HF:=Lib.hid hf;have HB0:=Lib.hid hb0;have hol:=own.len (by decide);clear hb0 hlf hf own rb;go_wp2_with fail
   refine (ONE.out).mono ?_;rintro e w2 ⟨b2,h2⟩;clear ONE;cases hone:Sn.oneS b0 with
   | none =>
    rw [hone] at h2;obtain ⟨z,rfl,hz0⟩:=h2;have H:=Lib.hid (HF.out.trans (Sn.parS_none HB0.out HLF.out hone));have e3:(z == 0)=false:=by simpa using hz0
    have d2:=below_step bb b2 (Nat.le_refl _);have d3:=below_step d2 (alloc_one w2 (.cells #[.int .i64 0,.int .i64 0,.slice none 0 0] 34)) (Nat.le_refl _);have HZ:=Lib.hid hz0;clear HF HB0 HLF OWN hone hz0;unfold vlZ vlV;go_wp2_with fail
    refine region_mv 99 (fun _=>False) (by kernel_rfl) ?_;refine phase_mv (by kernel_rfl) 3 (Mv.refl _ _).drew [0,1,2,3,4,5,6,7,8,9,10,11,12,13,14] rfl (by kernel_rfl) ?_;simp only [picks,nth]
    repeat (go_big_quiet_step (fail))
    refine wpQuiet_nil ?_;refine phase_opL 15 2 rfl (by kernel_rfl) (by decide) ?_;simp only [nth];go_wp2_with fail
    refine behind_mv (Mv.refl _ _).drew ?_;refine phase_mv (by kernel_rfl) 0 (Mv.refl _ _).drew [16,17] rfl (by kernel_rfl) ?_;simp only [picks,nth]
    repeat (go_big_quiet_step (fail))
    refine wpQuiet_nil ?_;refine phase_endL (by kernel_rfl) ?_;go_wp2_with fail
    go_ret2
    exact spar_no H.out HZ.out d3.drew
   | some x =>
    obtain ⟨v,r⟩:=x;rw [hone] at h2;obtain ⟨A5,A6,c6,rfl,o5,rb5⟩:=h2;have d2:=below_step bb b2 (Nat.le_refl _);have hless:=Sn.one_less hone;have own2:=OWN.out.below b2 (R':=VlW w2 w.heap.size) fun _ _ h=>h.below b2
    have b3:=alloc_one w2 (.cells #[.int .i64 v.index,.int .i64 v.sub,.slice A5 v.data.length v.data.length] 34);have K3:=Blk.new w2 34 #[.int .i64 v.index,.int .i64 v.sub,.slice A5 v.data.length v.data.length];have own3:=own2.below b3 (R':=VlW _ w.heap.size) fun _ _ h=>h.below b3
    have o5':=(o5.below b3).more bb.size;have rb3:=rb5.below (b3.mono (Nat.le_trans HBB.out d2.size));have d3:=below_step d2 b3 (Nat.le_refl _);have few3:r.length + 5 * (k + 1)≤960:=by omega
    have hvl:v.data.length≤960:=by omega
    have HVL:=Lib.hid hvl;have hlt2:r.length < n0:=by omega
    have hkk:k≤192:=by omega
    clear own2 b3 o5 rb5 d2 OWN few b2 hvl bb hless;unfold vlV;go_wp2_with fail
    generalize hw3:w2.alloc (.cells #[.int .i64 v.index,.int .i64 v.sub,.slice A5 v.data.length v.data.length] 34)=w3 at *;clear hw3;have BDS:=Lib.hid HBB.out;have hfoot:∀ {w1 w2:World} {A:Option Addr} {n c:Nat} {b:List UInt8},RB w1 B A n c b→Below w.heap.size w1 w2→RB w2 B A n c b:=fun h hb=>h.below (hb.mono BDS.out)
    by_cases hk0:k=0
    ·subst hk0
     have ho0:out=[]:=List.eq_nil_of_length_eq_zero hol;subst ho0;have hcond:¬ (([]:List Dc.Vl)≠[]∧Ent.befB (plE (([]:List Dc.Vl).getLastD ⟨0,0,[]⟩).index (([]:List Dc.Vl).getLastD ⟨0,0,[]⟩).sub) (plE v.index v.sub)=false):=fun h=>h.1 rfl
     have bd:=below_drew w3;have K4:=K3.later bd;have C4:=K4.three;have d4:=below_step d3 bd (Nat.le_refl _);have own4:=own3.below bd (R':=VlW _ w.heap.size) fun _ _ h=>h.below bd
     have o6:=o5'.below bd;have rb4:=hfoot rb3 (bd.mono d3.size);clear own3 o5' rb3 d3 bd K3 K4;refine region_mv 99 (fun _=>False) (by kernel_rfl) ?_;refine phase_mv (by kernel_rfl) 3 (Mv.refl _ _).drew [0,1,2,3,4,5,6,7,8,9,10,11,12,13,14] rfl (by kernel_rfl) ?_;simp only [picks,nth]
     repeat (go_big_quiet_step (fail))
     refine wpQuiet_nil ?_;refine phase_opL 15 2 rfl (by kernel_rfl) (by decide) ?_;simp only [nth];go_wp2_with fail
     refine behind_mv (Mv.refl _ _).drew ?_;refine phase_mv (by kernel_rfl) 0 (Mv.refl _ _).drew [16,17] rfl (by kernel_rfl) ?_;simp only [picks,nth]
     repeat (go_big_quiet_step (fail))
     refine wpQuiet_nil ?_;refine phase_endL (by kernel_rfl) ?_;generalize w3.drew=w4 at *;obtain ⟨f',hf1,hf2⟩:=Sn.parS_go HB0.out HLF.out hone hcond;have HRES:=Lib.hid (HF.out.trans hf1);have HF2:=Lib.hid hf2;clear hf1 hf2 hcond HF HLF HB0 hone;have b5:=alloc_one w4 (.cells #[.int .i64 v.index,.int .i64 v.sub,.slice A5 v.data.length v.data.length] 34);have own5:=own4.below b5 (R':=VlW _ w.heap.size) fun _ _ h=>h.below b5
     have hnew:=RV.new w4 34 (size:=3) (cs:=[.int .i64 v.index,.int .i64 v.sub,.slice A5 v.data.length v.data.length]) rfl;have hf5:VlW (w4.alloc (.cells #[.int .i64 v.index,.int .i64 v.sub,.slice A5 v.data.length v.data.length] 34)) w.heap.size v [.int .i64 v.index,.int .i64 v.sub,.slice A5 v.data.length v.data.length]:=ob_vlw v (o6.below b5) (Nat.le_refl _);have d5:=below_step d4 b5 (Nat.le_refl _);have RB5:=Lib.hid (rb4.below (b5.mono (Nat.le_trans HBB.out d4.size)));clear own4 o6 rb4 d4 b5;have e6:((0:Int) == 0)=true:=rfl;go_wp2_with (at_builtin; refine wpList_apps2 etvl (fun w1=>VlW w1 w.heap.size) rfl (.tmp 41) (.tmp 43) rfl rfl rfl w.heap.size own5 v hnew hf5 (value_oneCell _ _ _ _ _) (by omega) (by omega) d5.size (fun w1 A1 n1 c1 xs hv hg f cs hf=>hf.beside hv (by decide) hg) ?_; intro A7 c7 w7 o7 b7 g7 _)
     have d7:=d5.trans b7;have RB7:=Lib.hid (hfoot RB5.out b7);clear own5 hnew hf5 g7 RB5;go_roundw
     case rel=>exact ⟨A6,r.length,c6,r,A7,0 + 1,c7,([]:List Dc.Vl) ++ [v],rfl,rfl,⟨⟨f',HRES.out,HF2.out⟩,RB7.out,few3,o7,d7⟩⟩
     case measure=>exact hlt2
    ·have hkl:k - 1 < k:=by omega
     obtain ⟨bo,oo,cs,rfl,hbo,⟨A8,n8,c8,rfl,_⟩,hcells⟩:=own3.rs.at_ (by decide) (i:=k - 1) (f:=out.getLastD ⟨0,0,[]⟩) (sna_last hol (by omega));have q0:=cell_mv (G:=fun _=>False) (hcells 0 _ (by decide) rfl) (fun h=>h);have q1:=cell_mv (G:=fun _=>False) (hcells 1 _ (by decide) rfl) (fun h=>h);have q2:=cell_mv (G:=fun _=>False) (hcells 2 _ (by decide) rfl) (fun h=>h);simp only [Nat.add_zero] at q0;have v0:=cell_mv (G:=fun _=>False) (K3.cell 0) (fun h=>h);have v1:=cell_mv (G:=fun _=>False) (K3.cell 1) (fun h=>h);have v2:=cell_mv (G:=fun _=>False) (K3.cell 2) (fun h=>h);have e3:decide ((k:Int) > 0)=true:=decide_eq_true (by omega);have e3':decide (0 < k)=true:=decide_eq_true (by omega);have i0:(0:Int)≤(k:Int) - 1:=by omega
     have i1:(k:Int) - 1 < (k:Int):=by omega
     have i2:(k:Int) - 1=((k - 1:Nat):Int):=by omega
     have AH:=Lib.hid (fun w1=>sahead_any (out.getLastD ⟨0,0,[]⟩).index (out.getLastD ⟨0,0,[]⟩).sub v.index v.sub A8 A5 n8 c8 v.data.length v.data.length w1);have HOUT:=Lib.hid (show out≠[] from fun h=>by subst h; simp at hol; omega);unfold vlV at AH;clear hcells hol;generalize hbf:Ent.befB (plE (out.getLastD ⟨0,0,[]⟩).index (out.getLastD ⟨0,0,[]⟩).sub) (plE v.index v.sub)=bf at *;have HBF:=Lib.hid hbf;clear hbf;generalize (out.getLastD ⟨0,0,[]⟩).index=ix8 at q0 AH;generalize (out.getLastD ⟨0,0,[]⟩).sub=sb8 at q1 AH;refine region_mv 99 (fun _=>False) (by kernel_rfl) ?_;refine phase_mv (by kernel_rfl) 3 (Mv.refl _ _).drew [0,1,2,3,4,5,6,7,8,9,10,11,12,13,14] rfl (by kernel_rfl) ?_;simp only [picks,nth]
     repeat (go_big_quiet_step (fail))
     refine wpQuiet_nil ?_;refine phase_opL 15 2 rfl (by kernel_rfl) (by decide) ?_;simp only [nth];go_wp2_with fail
     refine (AH.out _).mono ?_;rintro e w4 ⟨rfl,b4⟩;have bd:Below w3.heap.size w3 w4:=(below_drew w3).trans b4;go_wp2_with fail
     refine behind_mv (Mv.of_new bd _) ?_;refine phase_mv (by kernel_rfl) 0 (Mv.of_new bd _) [16,17] rfl (by kernel_rfl) ?_;simp only [picks,nth]
     repeat (go_big_quiet_step (fail))
     refine wpQuiet_nil ?_;refine phase_endL (by kernel_rfl) ?_;cases bf with
     | false =>
      have H:=Lib.hid (HF.out.trans (Sn.parS_bad HB0.out HLF.out hone ⟨HOUT.out,HBF.out⟩));have d4:=below_step d3 bd (Nat.le_refl _);clear HF HB0 HLF hone own3 o5' rb3;go_wp2_with fail
      go_ret2
      exact spar_no H.out (by decide) d4
     | true =>
     have hcond:¬ (out≠[]∧Ent.befB (plE (out.getLastD ⟨0,0,[]⟩).index (out.getLastD ⟨0,0,[]⟩).sub) (plE v.index v.sub)=false):=fun h=>by rw [HBF.out] at h; exact absurd h.2 (by decide)
     have K4:=K3.later bd;have C4:=K4.three;have d4:=below_step d3 bd (Nat.le_refl _);have own4:=own3.below bd (R':=VlW _ w.heap.size) fun _ _ h=>h.below bd
     have o6:=o5'.below bd;have rb4:=hfoot rb3 (bd.mono d3.size);clear own3 o5' rb3 d3 bd K3 K4;obtain ⟨f',hf1,hf2⟩:=Sn.parS_go HB0.out HLF.out hone hcond;have HRES:=Lib.hid (HF.out.trans hf1);have HF2:=Lib.hid hf2;clear hf1 hf2 hcond HF HLF HB0 hone;have b5:=alloc_one w4 (.cells #[.int .i64 v.index,.int .i64 v.sub,.slice A5 v.data.length v.data.length] 34);have own5:=own4.below b5 (R':=VlW _ w.heap.size) fun _ _ h=>h.below b5
     have hnew:=RV.new w4 34 (size:=3) (cs:=[.int .i64 v.index,.int .i64 v.sub,.slice A5 v.data.length v.data.length]) rfl;have hf5:VlW (w4.alloc (.cells #[.int .i64 v.index,.int .i64 v.sub,.slice A5 v.data.length v.data.length] 34)) w.heap.size v [.int .i64 v.index,.int .i64 v.sub,.slice A5 v.data.length v.data.length]:=ob_vlw v (o6.below b5) (Nat.le_refl _);have d5:=below_step d4 b5 (Nat.le_refl _);have RB5:=Lib.hid (rb4.below (b5.mono (Nat.le_trans HBB.out d4.size)));clear own4 o6 rb4 d4 b5;have e6:((0:Int) == 0)=true:=rfl;go_wp2_with (at_builtin; refine wpList_apps2 etvl (fun w1=>VlW w1 w.heap.size) rfl (.tmp 41) (.tmp 43) rfl rfl rfl w.heap.size own5 v hnew hf5 (value_oneCell _ _ _ _ _) (by omega) (by omega) d5.size (fun w1 A1 n1 c1 xs hv hg f cs hf=>hf.beside hv (by decide) hg) ?_; intro A7 c7 w7 o7 b7 g7 _)
     have d7:=d5.trans b7;have RB7:=Lib.hid (hfoot RB5.out b7);clear own5 hnew hf5 g7 RB5;go_roundw
     case rel=>exact ⟨A6,r.length,c6,r,A7,k + 1,c7,out ++ [v],rfl,rfl,⟨⟨f',HRES.out,HF2.out⟩,RB7.out,few3,o7,d7⟩⟩
     case measure=>exact hlt2
end Go.Proofs.YtijegngfclkdaaaGreatDoor
namespace Go.Proofs.YtijegngfclkdaaaGreatDoor
open Go.RowKit
theorem sin_one (e:Ent.En) (A:Option Addr) (n c:Nat) (w:World):Calls Tryz.prog 347 #[enV e A n c,.int .i64 1] w fun x w'=>x=.returned (.bool true)∧Below w.heap.size w w':=by
 have b1:=alloc_one w (.cells #[.int .i64 e.index,.int .i64 e.sub,.string (T e.name),.int .i64 e.type,.int .i64 e.access,.bool e.map,.bool e.store,.int .i64 e.max,.int .i64 e.low,.int .i64 e.high,.slice A n c] 27);unfold enV;go_enter Tryz.func347,Tryz.ntmps347
 go_wp2_with fail
 go_ret
 exact ⟨rfl,b1⟩
theorem sdrop_one {A:Option Addr} {n c B B':Nat} {fs:List Dc.Vl} (w:World) (h:RVl w B B' A n c fs) (hB:B≤w.heap.size) (hB':B'≤B):Calls Tryz.prog 307 #[.slice A n c,.int .i64 1] w fun x w'=>x=.returned (.slice none 0 0)∧Below w.heap.size w w':=by
 have hn:=h.lt;have HBB:=Lib.hid (And.intro hB hB');go_enter Tryz.func307,Tryz.ntmps307
 go_wp2_with fail
 go_loopw [5,10] (fun u v wr=>∃ k:Nat,k≤n∧u=.slice none 0 0∧v=.int .i64 k∧Below w.heap.size w wr) (fun _ v _=>n - (intOf v).toNat)
 case atStart=>exact ⟨0,by omega,rfl,rfl,Below.refl _ _⟩
 case round =>
  obtain ⟨k,hk,rfl,rfl,bb⟩:=hrel
  by_cases hlt:k < n
  ·have h2:=h.below (bb.mono HBB.out.1) HBB.out.2
   obtain ⟨b,o,A1,n1,c1,rfl,hbB,q0,q1,q2,hr⟩:=h2.at_ hlt;have PL:=Lib.hid (fun w1=>splace_any (fs.getD k vl0).index (fs.getD k vl0).sub A1 n1 c1 w1);unfold vlV at PL;have IN:=Lib.hid (fun w1=>sin_one (plE (fs.getD k vl0).index (fs.getD k vl0).sub) none 0 0 w1);have i0:(0:Int)≤(k:Int):=by omega
   have i1:(k:Int) < (n:Int):=by omega
   clear h2 hr h;generalize (fs.getD k vl0).index=ix at *;generalize (fs.getD k vl0).sub=sb at *;have b1:=alloc_one wr (.cells #[.int .i64 ix,.int .i64 sb,.slice A1 n1 c1] 34);have K1:=Blk.new wr 34 #[.int .i64 ix,.int .i64 sb,.slice A1 n1 c1];have C1:=K1.three;go_wp2_with fail
   refine (PL.out _).mono ?_;rintro e w2 ⟨rfl,b2⟩;go_wp2_with fail
   refine (IN.out _).mono ?_;rintro e w3 ⟨rfl,b3⟩;have d3:=below_step (below_step (below_step bb b1 (Nat.le_refl _)) b2 (Nat.le_refl _)) b3 (Nat.le_refl _);go_wp2_with fail
   go_roundw
   case rel=>exact ⟨k + 1,by omega,rfl,by go_num,d3⟩
   case measure=>simp [intOf] <;> omega
  ·obtain rfl:k=n:=by omega
   go_wp2_with fail
   go_ret
   exact ⟨rfl,bb⟩
end Go.Proofs.YtijegngfclkdaaaGreatDoor
namespace Go.Proofs.YtijegngfclkdaaaGreatDoor.Mp
open Ent Dc
def ix (w:Nat):Nat:=w / 65536
def sb (w:Nat):Nat:=w / 256 % 256
def bt (w:Nat):Nat:=w % 256
def sizeS (l:List Nat):Nat:=(l.map bt).sum
def oneS (l:List En) (inn:Bool) (w:Nat):Int:=match findS l (ix w) (sb w) with
 | none=>if inB l (ix w)=true then 101253137 else 100794368
 | some k=>if (l.getD k en0).map=false∨((Ty.kd (l.getD k en0).type).bits:Int)≠(bt w:Int)∨(if inn=true then writS (l.getD k en0) else readS (l.getD k en0))≠0 then 100925505 else 0
def checkF (l:List En) (inn:Bool) (all:List Nat):Nat→Nat→Int
 | 0,_=>0
 | k + 1,i=>if oneS l inn (all.getD i 0)≠0 then oneS l inn (all.getD i 0) else if 64 < sizeS (all.take (i + 1)) then 100925506 else checkF l inn all k (i + 1)
def checkS (l:List En) (inn:Bool) (all:List Nat):Int:=if 8 < all.length then 100925506 else checkF l inn all all.length 0
end Go.Proofs.YtijegngfclkdaaaGreatDoor.Mp
namespace Go.Proofs.YtijegngfclkdaaaGreatDoor
open Go.RowKit
theorem dEntry_any {F:Nat→Prop} {w:World} {g gv lc vc:Nat} {la:Addr} {vA:Option Addr} {xs vs:List Value} {D:Dc.Dic} (k:Nat) (h:DRt 131 w F g gv (some la) lc vA vc xs vs D) (hk:k < D.l.length) (hd:∀ e∈D.l,e.dflt.length≤1000000):Calls Tryz.prog 57 #[.pointer (some ⟨g,0,none⟩),.int .i64 (k:Int)] w fun e w'=>∃ A1 n1 c1,e=.returned (.tuple #[enV (D.l.getD k Dc.en0) A1 n1 c1,.bool true])∧OB w' w.heap.size A1 n1 c1 (D.l.getD k Dc.en0).dflt∧Below w.heap.size w w':=by
 obtain ⟨b,oo,A,n,c,hA,hbB,hr,hc⟩:=h.entry hk;have hmem:D.l.getD k Dc.en0∈D.l:=by
  rw [List.getD_eq_getElem?_getD,List.getElem?_eq_getElem hk];exact List.getElem_mem hk
 have hdl:=hd _ hmem;clear hmem;have hn:=hr.len;generalize he:D.l.getD k Dc.en0=e0 at *;have HE:=Lib.hid he;clear he;obtain ⟨ix,sb,nm,ty,ac,mp,st,mx,lo,hi,df⟩:=e0;unfold enV;dsimp only at hr hdl hn ⊢;injection hA with hA
 subst hA;have b0:=alloc_one w (.cells #[.int .i64 0,.int .i64 0,.string ⟨#[]⟩,.int .i64 0,.int .i64 0,.bool false,.bool false,.int .i64 0,.int .i64 0,.int .i64 0,.slice none 0 0] 27);have LN:=Lib.hid (dLen_any (h.below b0));have h2:=h.below b0;obtain ⟨t0,t1⟩:=h2.two;have hlc:=h.lcap;have HLC:=Lib.hid hlc;have c0:=(b0.cell (p:=⟨b,oo + k * 11 + 0,none⟩) hbB).trans (hc 0 _ rfl);have c1:=(b0.cell (p:=⟨b,oo + k * 11 + 1,none⟩) hbB).trans (hc 1 _ rfl);have c2:=(b0.cell (p:=⟨b,oo + k * 11 + 2,none⟩) hbB).trans (hc 2 _ rfl);have c3:=(b0.cell (p:=⟨b,oo + k * 11 + 3,none⟩) hbB).trans (hc 3 _ rfl);have c4:=(b0.cell (p:=⟨b,oo + k * 11 + 4,none⟩) hbB).trans (hc 4 _ rfl);have c5:=(b0.cell (p:=⟨b,oo + k * 11 + 5,none⟩) hbB).trans (hc 5 _ rfl);have c6:=(b0.cell (p:=⟨b,oo + k * 11 + 6,none⟩) hbB).trans (hc 6 _ rfl);have c7:=(b0.cell (p:=⟨b,oo + k * 11 + 7,none⟩) hbB).trans (hc 7 _ rfl);have c8:=(b0.cell (p:=⟨b,oo + k * 11 + 8,none⟩) hbB).trans (hc 8 _ rfl);have c9:=(b0.cell (p:=⟨b,oo + k * 11 + 9,none⟩) hbB).trans (hc 9 _ rfl);have c10:=(b0.cell (p:=⟨b,oo + k * 11 + 10,none⟩) hbB).trans (hc 10 _ rfl);simp only [Nat.add_zero] at c0;dsimp only at c0 c1 c2 c3 c4 c5 c6 c7 c8 c9 c10;have HD:=held_any ⟨ix,sb,nm,ty,ac,mp,st,mx,lo,hi,df⟩ (w.alloc (.cells #[.int .i64 0,.int .i64 0,.string ⟨#[]⟩,.int .i64 0,.int .i64 0,.bool false,.bool false,.int .i64 0,.int .i64 0,.int .i64 0,.slice none 0 0] 27)) (hr.below b0) (by omega) b0.size;unfold enV at HD;dsimp only at HD;replace HD:=Lib.hid HD;have K2:=Blk.new w 27 #[.int .i64 0,.int .i64 0,.string ⟨#[]⟩,.int .i64 0,.int .i64 0,.bool false,.bool false,.int .i64 0,.int .i64 0,.int .i64 0,.slice none 0 0];clear hc hr h h2 hlc;generalize D.l.length=m at *;go_enter Tryz.func57,Tryz.ntmps57
 go_wp2_with fail
 refine (LN.out).mono ?_;rintro e w1 ⟨rfl,rfl⟩;go_wp2_with fail
 refine (HD.out).mono ?_;rintro e w1 ⟨A1,c1',rfl,o1,b1⟩;replace K2:=K2.later b1;have E2:=K2.eleven;have d1:=below_step b0 b1 (Nat.le_refl _);simp only [World.size_alloc] at o1;go_wp2_with fail
 have R:=(K2.store11 (.int .i64 ix) (.int .i64 sb) (.string (T nm)) (.int .i64 ty) (.int .i64 ac) (.bool mp) (.bool st) (.int .i64 mx) (.int .i64 lo) (.int .i64 hi) (.slice A1 n c1')).eleven.1;have d2:=below_set11 (g:=w.heap.size) d1 (Nat.le_refl _) (.int .i64 ix) (.int .i64 sb) (.string (T nm)) (.int .i64 ty) (.int .i64 ac) (.bool mp) (.bool st) (.int .i64 mx) (.int .i64 lo) (.int .i64 hi) (.slice A1 n c1');have o2:=(o1.far11 (g:=w.heap.size) (by omega) (.int .i64 ix) (.int .i64 sb) (.string (T nm)) (.int .i64 ty) (.int .i64 ac) (.bool mp) (.bool st) (.int .i64 mx) (.int .i64 lo) (.int .i64 hi) (.slice A1 n c1')).more (base':=w.heap.size) (by omega);exact bodyPost_ret (v:=.tuple #[.agg #[.int .i64 ix,.int .i64 sb,.string (T nm),.int .i64 ty,.int .i64 ac,.bool mp,.bool st,.int .i64 mx,.int .i64 lo,.int .i64 hi,.slice A1 n c1'],.bool true]) (by simp [results,Tryz.results57,go_sem,R]) rfl ⟨A1,n,c1',rfl,o2,d2⟩
end Go.Proofs.YtijegngfclkdaaaGreatDoor
namespace Go.Proofs.YtijegngfclkdaaaGreatDoor.Sn
open Dc
def whyS (D:Dic) (v:Vl):Int:=match findS D.l v.index v.sub with
 | none=>8
 | some k=>if (D.l.getD k en0).store=false then 8 else if Ent.valS (D.l.getD k en0) v.data=0 then 0 else 4
def checkS (D:Dic):List Vl→Int
 | []=>0
 | v :: r=>if whyS D v=0 then checkS D r else whyS D v
def applyS (D:Dic):List Vl→Dic
 | []=>D
 | v :: r=>applyS (pokeS D v.index v.sub v.data) r
theorem check_drop {D:Dic} {fs:List Vl} {k:Nat} (hk:k < fs.length):checkS D (fs.drop k)=if whyS D (fs.getD k ⟨0,0,[]⟩)=0 then checkS D (fs.drop (k + 1)) else whyS D (fs.getD k ⟨0,0,[]⟩):=by
 rw [List.drop_eq_getElem_cons hk,checkS,List.getD_eq_getElem?_getD,List.getElem?_eq_getElem hk];rfl
end Go.Proofs.YtijegngfclkdaaaGreatDoor.Sn
namespace Go.Proofs.YtijegngfclkdaaaGreatDoor
open Go.RowKit
theorem scheck_any {F:Nat→Prop} {w:World} {g gv lc vc:Nat} {la:Addr} {vA:Option Addr} {xs vs:List Value} {D:Dc.Dic} (h:DRt 131 w F g gv (some la) lc vA vc xs vs D) (hd:∀ e∈D.l,e.dflt.length≤1000000) (h0:0 < D.l.length) {A:Option Addr} {n c B B':Nat} {fs:List Dc.Vl} (hf:RVl w B B' A n c fs) (hB:B≤w.heap.size) (hB':B'≤B):Calls Tryz.prog 136 #[.pointer (some ⟨g,0,none⟩),.slice A n c] w fun e w'=>e=.returned (.int .i64 (Sn.checkS D fs))∧Below w.heap.size w w':=by
 have hn:=hf.lt;have hfl:=hf.len;have HH:=Lib.hid (fun (w1:World) (b:Below w.heap.size w w1)=>h.below b);have HFF:=Lib.hid (fun (w1:World) (b:Below w.heap.size w w1)=>hf.below (b.mono hB) hB');have HD:=Lib.hid hd;have HBB:=Lib.hid (And.intro hB hB');have R0:Hid (Sn.checkS D fs=Sn.checkS D (fs.drop 0)):=Lib.hid rfl;clear h hd hf;go_enter Tryz.func136,Tryz.ntmps136
 go_wp2_with fail
 go_loopw [15] (fun v wr=>∃ k:Nat,k≤n∧v=.int .i64 k∧Hid (Sn.checkS D fs=Sn.checkS D (fs.drop k))∧Below w.heap.size w wr) (fun v _=>n - (intOf v).toNat)
 case atStart=>exact ⟨0,by omega,rfl,R0,Below.refl _ _⟩
 case round =>
  obtain ⟨k,hk,rfl,HR,bb⟩:=hrel;clear R0
  by_cases hlt:k < n
  ·have hf2:=HFF.out wr bb
   obtain ⟨b,o,A1,n1,c1,rfl,hbB,q0,q1,q2,hr⟩:=hf2.at_ hlt;have hst:=Sn.check_drop (D:=D) (show k < fs.length by omega);have HST:=Lib.hid (HR.out.trans hst);have i0:(0:Int)≤(k:Int):=by omega
   have i1:(k:Int) < (n:Int):=by omega
   clear hf2 hst HR;have hv0:fs.getD k vl0=fs.getD k ⟨0,0,[]⟩:=rfl;rw [hv0] at q0 q1 hr;clear hv0;generalize fs.getD k ⟨0,0,[]⟩=v at *;obtain ⟨ix,sb,dat⟩:=v;dsimp only at q0 q1 hr;have HHR:=Lib.hid (fun (w2:World) (b2:Below wr.heap.size wr w2)=>hr.below (b2.mono (Nat.le_trans HBB.out.2 (Nat.le_trans HBB.out.1 bb.size))));have HB2:=Lib.hid (Nat.le_trans HBB.out.2 (Nat.le_trans HBB.out.1 bb.size));have b1:=alloc_one wr (.cells #[.int .i64 ix,.int .i64 sb,.slice A1 n1 c1] 34);have K1:=Blk.new wr 34 #[.int .i64 ix,.int .i64 sb,.slice A1 n1 c1];have C1:=K1.three;have d1:=below_step bb b1 (Nat.le_refl _);have FI:=Lib.hid (dFind_any ix sb (HH.out _ d1));clear hr;go_wp2_with fail
   refine (FI.out).mono ?_;rintro e w2 ⟨rfl,b2⟩;clear FI;have d2:=below_step d1 b2 (Nat.le_refl _);have K2:=K1.later b2;cases hfi:Dc.findS D.l ix sb with
   | none =>
    have hw:Sn.whyS D ⟨ix,sb,dat⟩=8:=by unfold Sn.whyS; dsimp only; rw [hfi]
    have hfp:findP D.l ix sb=(0,false):=by unfold findP; rw [hfi]
    have H:Hid (Sn.checkS D fs=8):=Lib.hid (HST.out.trans (by rw [hw]; rfl));rw [hfp];dsimp only;have EN:=Lib.hid (dEntry_any 0 (HH.out w2 d2) h0 HD.out);clear HST hw hfp hfi;generalize D.l.getD 0 Dc.en0=en at *;obtain ⟨ix',sb',nm,ty,ac,mp,st,mx,lo,hi,df⟩:=en;unfold enV at EN;dsimp only at EN;go_wp2_with fail
    refine (EN.out).mono ?_;rintro e w3 ⟨A3,n3,c3,rfl,_,b3⟩;have d3:=below_step d2 b3 (Nat.le_refl _);have b4:=alloc_one w3 (.cells #[.int .i64 ix',.int .i64 sb',.string (T nm),.int .i64 ty,.int .i64 ac,.bool mp,.bool st,.int .i64 mx,.int .i64 lo,.int .i64 hi,.slice A3 n3 c3] 27);have d4:=below_step d3 b4 (Nat.le_refl _);go_wp2_with fail
    go_ret
    rw [H.out];exact ⟨rfl,d4⟩
   | some j =>
    have hj:=(Dc.find_some hfi).2.1;have hfp:findP D.l ix sb=((j:Int),true):=by unfold findP; rw [hfi]
    have hw:Sn.whyS D ⟨ix,sb,dat⟩=if (D.l.getD j Dc.en0).store=false then 8 else if Ent.valS (D.l.getD j Dc.en0) dat=0 then 0 else 4:=by unfold Sn.whyS; dsimp only; rw [hfi]
    rw [hfp];dsimp only;have EN:=Lib.hid (dEntry_any j (HH.out w2 d2) hj HD.out);clear hfp hfi;generalize D.l.getD j Dc.en0=en at *;have EV:=Lib.hid (fun A n c (w3:World) (b3:Below wr.heap.size wr w3)=>EValue_any en A n c w3 (HHR.out w3 b3) (Nat.le_trans HB2.out b3.size));rw [hw] at HST;clear hw;obtain ⟨ix',sb',nm,ty,ac,mp,st,mx,lo,hi,df⟩:=en;unfold enV at EN EV;dsimp only at EN HST EV;generalize hev:Ent.valS ⟨ix',sb',nm,ty,ac,mp,st,mx,lo,hi,df⟩ dat=ev at *;clear hev;go_wp2_with fail
    refine (EN.out).mono ?_;rintro e w3 ⟨A3,n3,c3,rfl,_,b3⟩;have d3:=below_step d2 b3 (Nat.le_refl _);have K3:=K2.later b3;have b4:=alloc_one w3 (.cells #[.int .i64 ix',.int .i64 sb',.string (T nm),.int .i64 ty,.int .i64 ac,.bool mp,.bool st,.int .i64 mx,.int .i64 lo,.int .i64 hi,.slice A3 n3 c3] 27);have E4:=(Blk.new w3 27 #[.int .i64 ix',.int .i64 sb',.string (T nm),.int .i64 ty,.int .i64 ac,.bool mp,.bool st,.int .i64 mx,.int .i64 lo,.int .i64 hi,.slice A3 n3 c3]).eleven;have K4:=K3.later b4;have C4:=K4.three;have d4:=below_step d3 b4 (Nat.le_refl _);have e4:=((b1.trans (b2.mono b1.size)).trans (b3.mono (b1.trans (b2.mono b1.size)).size)).trans (b4.mono ((b1.trans (b2.mono b1.size)).trans (b3.mono (b1.trans (b2.mono b1.size)).size)).size);have EVL:=Lib.hid (EV.out A3 n3 c3 _ e4);clear EN EV C1 K1 K2 K3 K4 b1 b2 b3 b4 e4;cases st with
    | false =>
     have H:Hid (Sn.checkS D fs=8):=Lib.hid (HST.out.trans (by simp));go_wp2_with fail
     go_ret
     rw [H.out];exact ⟨rfl,d4⟩
    | true =>
     by_cases hz:ev=0
     ·subst hz
      have H:Hid (Sn.checkS D fs=Sn.checkS D (fs.drop (k + 1))):=Lib.hid (HST.out.trans (by simp));go_wp2_with fail
      refine (EVL.out).mono ?_;rintro e w5 ⟨rfl,b5⟩;have d5:=below_step d4 b5 (Nat.le_refl _);go_wp2_with fail
      go_roundw
      case rel=>exact ⟨k + 1,by omega,by go_num,H,d5⟩
      case measure=>simp [intOf] <;> omega
     ·have H:Hid (Sn.checkS D fs=4):=Lib.hid (HST.out.trans (by simp [hz]))
      have e5:(ev == 0)=false:=by simpa using hz
      have e6:(ev != 0)=true:=by simpa using hz
      have e7:decide (ev≠0)=true:=decide_eq_true hz;go_wp2_with fail
      refine (EVL.out).mono ?_;rintro e w5 ⟨rfl,b5⟩;have d5:=below_step d4 b5 (Nat.le_refl _);go_wp2_with fail
      go_ret
      rw [H.out];exact ⟨rfl,d5⟩
  ·obtain rfl:k=n:=by omega
   have H:Hid (Sn.checkS D fs=0):=Lib.hid (HR.out.trans (by rw [List.drop_of_length_le (by omega)]; rfl));go_wp2_with fail
   go_ret
   rw [H.out];exact ⟨rfl,bb⟩
end Go.Proofs.YtijegngfclkdaaaGreatDoor
