/-
  Pieces of the proof: part 20 of 54.
  Conditions: none.
-/
import Derived.Test.YtijegngfclkdaaaGreatDoorW12
import Derived.Test.YtijegngfclkdaaaGreatDoorW14
import Derived.Test.YtijegngfclkdaaaGreatDoorW15
import Derived.Test.YtijegngfclkdaaaGreatDoorW17
import Derived.Test.YtijegngfclkdaaaGreatDoorW18
import Derived.Test.YtijegngfclkdaaaGreatDoorW19
set_option linter.unusedVariables false
set_option linter.unusedSimpArgs false
set_option maxHeartbeats 100000000
set_option maxRecDepth 100000
namespace Go.Proofs.YtijegngfclkdaaaGreatDoor
open Go.RowKit
def secB (f:Fla) (i:Nat):List UInt8:=(f.b.drop (i * 1024)).take 1024
theorem jlook_any {w:World} {base g n c m c':Nat} {A A':Option Addr} {f:Fla} (h:FlM w base g A n c A' m c' f) (i:Nat) (hoff:f.off=false) (hi:i < m) (hn:n=m * 1024) (hm:m≤8) :
  Calls Tryz.prog 186 #[.pointer (some ⟨g,0,none⟩),.int .i64 (i:Int)] w fun e w'=>∃ A1 c1,e=.returned (.tuple #[lkV (Jr.ofS (secB f i)) A1 (Jr.ofS (secB f i)).last.data.length c1,.int .i64 0])∧OB w' w.heap.size A1 (Jr.ofS (secB f i)).last.data.length c1 (Jr.ofS (secB f i)).last.data∧Below w.heap.size w w':=by
 have b1:=alloc_one w (.cells #[.int .i64 0,.int .u32 0,.slice none 0 0,.int .i64 0,.int .i64 0,.bool false] 265);have K1:=Blk.new w 265 #[.int .i64 0,.int .u32 0,.slice none 0 0,.int .i64 0,.int .i64 0,.bool false];have RD:=fRead_ok (h.below b1) (i * 1024) 1024 hoff (by omega) (by omega);rw [show (f.b.drop (i * 1024)).take 1024=secB f i from rfl] at RD;have q1:IntKind.i64.wrap ((i:Int) * 1024)=((i * 1024:Nat):Int):=by rw [IntWalk.i64_in _ (by omega)]; omega
 have q2:wrap64 ((i:Int) * 1024)=((i * 1024:Nat):Int):=by rw [IntWalk.wrap64_in _ (by omega)]; omega
 have RD':=Lib.hid RD;have OF:=Lib.hid (fun (w2:World) (A1:Option Addr) (c1:Nat) (o:OB w2 (w.heap.size + 1) A1 1024 c1 (secB f i))=>secOf_any w2 o.rb (Nat.le_refl _) (by decide));generalize hL:Jr.ofS (secB f i)=L at *;have hs1:(w.alloc (.cells #[.int .i64 0,.int .u32 0,.slice none 0 0,.int .i64 0,.int .i64 0,.bool false] 265)).heap.size=w.heap.size + 1:=by simp
 clear RD h hn hm hi hoff;go_enter Tryz.func186,Tryz.ntmps186
 go_wp2_with fail
 refine (RD'.out).mono ?_;rintro e w2 ⟨A1,c1,rfl,o2,b2⟩;have K2:=K1.later b2;have b12:=below_step b1 b2 (Nat.le_refl _);rw [hs1] at o2;go_wp2_with fail
 refine (OF.out _ _ _ o2).mono ?_;rintro e w3 ⟨A2,c2,rfl,o3,b3⟩;have K3:=K2.later b3;have C3:=K3.six;have b13:=below_step b12 b3 (Nat.le_refl _);have KZ:=K3.store6 (.int .i64 (L.last.kind:Int)) (.int .u32 (L.last.num:Int)) (.slice A2 L.last.data.length c2) (.int .i64 (L.count:Int)) (.int .i64 (L.fin:Int)) (.bool L.clean);have mz:=Mv.set6 w3 w.heap.size (.int .i64 (L.last.kind:Int)) (.int .u32 (L.last.num:Int)) (.slice A2 L.last.data.length c2) (.int .i64 (L.count:Int)) (.int .i64 (L.fin:Int)) (.bool L.clean);have hlt:w.heap.size < w2.heap.size:=K2.lt;have oz:=o3.mv6 hlt (.int .i64 (L.last.kind:Int)) (.int .u32 (L.last.num:Int)) (.slice A2 L.last.data.length c2) (.int .i64 (L.count:Int)) (.int .i64 (L.fin:Int)) (.bool L.clean);have bz:=b13.trans (mz.below b13.size (fun q e=>by rw [show q=w.heap.size from e]; exact Nat.le_refl _));obtain ⟨wz,hwz⟩:∃ wz,((((((w3.setCell ⟨w.heap.size,0,none⟩ (.int .i64 (L.last.kind:Int))).setCell ⟨w.heap.size,1,none⟩ (.int .u32 (L.last.num:Int))).setCell ⟨w.heap.size,2,none⟩ (.slice A2 L.last.data.length c2)).setCell ⟨w.heap.size,3,none⟩ (.int .i64 (L.count:Int))).setCell ⟨w.heap.size,4,none⟩ (.int .i64 (L.fin:Int))).setCell ⟨w.heap.size,5,none⟩ (.bool L.clean))=wz:=⟨_,rfl⟩;rw [hwz] at KZ oz bz;have HZ:=Lib.hid hwz;obtain ⟨⟨s0,s1,s2,s3,s4,s5⟩,_⟩:=KZ.six;have OZ:=Lib.hid (oz.more (Nat.le_of_lt hlt));have BZ:=Lib.hid bz;clear hwz mz oz bz KZ hlt;have hLV:lkV L A2 L.last.data.length c2=.agg #[.int .i64 (L.last.kind:Int),.int .u32 (L.last.num:Int),.slice A2 L.last.data.length c2,.int .i64 (L.count:Int),.int .i64 (L.fin:Int),.bool L.clean]:=rfl;rw [hLV];go_wp2_with fail
 rw [HZ.out];exact bodyPost_ret (v:=.tuple #[lkV L A2 L.last.data.length c2,.int .i64 0]) (by simp [results,Tryz.results186,go_sem,s0,s1,s2,s3,s4,s5,lkV]) rfl ⟨A2,c2,rfl,OZ.out,BZ.out⟩
end Go.Proofs.YtijegngfclkdaaaGreatDoor
namespace Go.Proofs.YtijegngfclkdaaaGreatDoor
open Go.RowKit
def looksK (f:Fla) (k:Nat):List Jr.Look:=(List.range k).map fun i=>Jr.ofS (secB f i)
theorem looksK_len (f:Fla) (k:Nat):(looksK f k).length=k:=by simp [looksK]
theorem looksK_step (f:Fla) (k:Nat):looksK f (k + 1)=looksK f k ++ [Jr.ofS (secB f k)]:=by simp [looksK,List.range_succ]
theorem jOpen_any {w:World} {base g n c m c':Nat} {A A':Option Addr} {f:Fla} (h:FlM w base g A n c A' m c' f) (hoff:f.off=false) (hn:n=m * 1024) (hm3:3≤m) (hm:m≤8) :
  Calls Tryz.prog 133 #[.pointer (some ⟨g,0,none⟩)] w fun e w'=>∃ gj gl A1 c1 xs,e=.returned (.tuple #[.pointer (some ⟨gj,0,none⟩),.int .i64 0])∧Below w.heap.size w w'∧JoM w' (fun q=>w.heap.size≤q) gj gl A1 c1 xs (looksK f m) (Jr.newN (looksK f m)).1 (Jr.newN (looksK f m)).2 g false:=by
 have ON:=Lib.hid (fOn_any h);have SE:=Lib.hid (fSectors_any h);have LK:=Lib.hid (fun (w1:World) (b:Below w.heap.size w w1) (i:Nat) (hi:i < m)=>jlook_any (h.below b) i hoff hi hn hm);have e1:decide ((m:Int) < 3)=false:=decide_eq_false (by omega);have e1':decide (m < 3)=false:=decide_eq_false (by omega);have b1:=alloc_one w (.cells #[.slice none 0 0,.int .i64 0,.bool false,.pointer (some ⟨g,0,none⟩),.bool false] 263);have N0:JnM (w.alloc (.cells #[.slice none 0 0,.int .i64 0,.bool false,.pointer (some ⟨g,0,none⟩),.bool false] 263)) w.heap.size w.heap.size none 0 0 (looksK f 0) 0 false g false:=⟨Nat.le_refl _,Blk.new _ _ _,OS.none_ _ _ _ _⟩;have SE2:=Lib.hid (fSectors_any (h.below b1));clear h hn;rw [hoff] at ON;obtain ⟨nw,hnw⟩:∃ nw,nw=Jr.newN (looksK f m):=⟨_,rfl⟩;rw [← hnw];have HNW:=Lib.hid hnw;clear hnw;obtain ⟨np,nh⟩:=nw;go_enter Tryz.func133,Tryz.ntmps133
 go_wp2_with fail
 refine (ON.out).mono ?_;rintro e _ ⟨rfl,rfl⟩;go_wp2_with fail
 refine (SE.out).mono ?_;rintro e _ ⟨rfl,rfl⟩;go_wp2_with fail
 refine (SE2.out).mono ?_;rintro e _ ⟨rfl,rfl⟩;go_wp2_with fail
 go_loopw [24] (fun v wr=>∃ (k:Nat) (A1:Option Addr) (c1:Nat),k≤m∧v=.int .i64 k∧JnM wr w.heap.size w.heap.size A1 k c1 (looksK f k) 0 false g false∧Below w.heap.size w wr) (fun v _=>m - (intOf v).toNat)
 case atStart=>exact ⟨0,_,_,by omega,rfl,N0,b1⟩
 case round =>
  obtain ⟨k,A1,c1,hk,rfl,N,bb⟩:=hrel;clear N0 b1 ON SE SE2
  by_cases hlt:k < m
  ·have LKk:=Lib.hid (LK.out wr bb k hlt)
   have hst:=looksK_step f k;have HST:=Lib.hid hst;clear hst;generalize Jr.ofS (secB f k)=L at *;go_wp2_with fail
   refine (LKk.out).mono ?_;rintro e w2 ⟨A2,c2,rfl,o2,b2⟩;have N2:=N.below b2;have b3:=alloc_one w2 (.cells #[.int .i64 (L.last.kind:Int),.int .u32 (L.last.num:Int),.slice A2 L.last.data.length c2,.int .i64 (L.count:Int),.int .i64 (L.fin:Int),.bool L.clean] 265);have hLV:lkV L A2 L.last.data.length c2=.agg #[.int .i64 (L.last.kind:Int),.int .u32 (L.last.num:Int),.slice A2 L.last.data.length c2,.int .i64 (L.count:Int),.int .i64 (L.fin:Int),.bool L.clean]:=rfl;rw [hLV];go_wp2_with fail
   have K3:=Blk.new w2 265 #[.int .i64 (L.last.kind:Int),.int .u32 (L.last.num:Int),.slice A2 L.last.data.length c2,.int .i64 (L.count:Int),.int .i64 (L.fin:Int),.bool L.clean];have hOL:∀ b,some b=(Value.slice A1 k c1).ownBlock→b < w2.heap.size:=fun b hb=>by
    obtain ⟨zs,z1,_⟩:=N2.row;exact (z1.lt b hb.symm).2
   have N3:=N2.below b3;have o3:=(o2.below b3).more bb.size;have d3:=below_step bb (below_step b2 b3 (Nat.le_refl _)) (Nat.le_refl _);have h23:w.heap.size < w2.heap.size:=Nat.lt_of_lt_of_le N.blk.lt b2.size;generalize hw3:w2.alloc (.cells #[.int .i64 (L.last.kind:Int),.int .u32 (L.last.num:Int),.slice A2 L.last.data.length c2,.int .i64 (L.count:Int),.int .i64 (L.fin:Int),.bool L.clean] 265)=wc at *;clear hw3 N N2 b2 b3 o2 bb hLV;obtain ⟨Gq,hGq⟩:∃ Gq:Nat→Prop,∀ q,Gq q↔(q≠w.heap.size∧q≠w2.heap.size):=⟨_,fun q=>Iff.rfl⟩;have hGg:¬ Gq w.heap.size:=fun h=>((hGq _).1 h).1 rfl
   have hGx:¬ Gq w2.heap.size:=fun h=>((hGq _).1 h).2 rfl
   have hOwn:∀ b,some b=(Value.slice A1 k c1).ownBlock→Gq b:=fun b hb=>by
    obtain ⟨zs,z1,_⟩:=N3.row;refine (hGq b).2 ⟨fun e=>own_blk_ne z1 N3.blk (by decide) (by rw [← hb,e]),fun e=>absurd (hOL b hb) (by omega)⟩
   clear hGq hOL;have t0:=cell_mv (G:=Gq) (show wc.cell? ⟨w.heap.size,0,none⟩=some (.slice A1 k c1) from N3.blk.cell 0) hGg;have k0:=cell_mv (G:=Gq) (K3.cell 0) hGx;have k1:=cell_mv (G:=Gq) (K3.cell 1) hGx;have k2:=cell_mv (G:=Gq) (K3.cell 2) hGx;have k3:=cell_mv (G:=Gq) (K3.cell 3) hGx;have k4:=cell_mv (G:=Gq) (K3.cell 4) hGx;have k5:=cell_mv (G:=Gq) (K3.cell 5) hGx;refine region_mv 12 Gq (by kernel_rfl) ?_;refine phase_mv (by kernel_rfl) 6 (Mv.refl _ _).drew [0,1,6,2,3,4,5] rfl (by kernel_rfl) ?_;simp only [picks,nth]
   repeat (go_big_quiet_step (fail))
   refine wpQuiet_nil ?_;refine phase_opL 7 5 rfl (by kernel_rfl) (by decide) ?_;simp only [nth];go_wp2_with fail
   have b4:=alloc_one wc.drew (.cells #[.int .i64 (L.last.kind:Int),.int .u32 (L.last.num:Int),.slice A2 L.last.data.length c2,.int .i64 (L.count:Int),.int .i64 (L.fin:Int),.bool L.clean] 265);have D4:Below wc.heap.size wc _:=(below_drew wc).trans b4;refine behind_mv (Mv.of_new D4 _) ?_;have N4:=N3.below D4;have hnew:=RV.new wc.drew 265 (size:=6) (cs:=lkL L A2 c2) rfl;have hf4:LkB (wc.drew.alloc (.cells #[.int .i64 (L.last.kind:Int),.int .u32 (L.last.num:Int),.slice A2 L.last.data.length c2,.int .i64 (L.count:Int),.int .i64 (L.fin:Int),.bool L.clean] 265)) w.heap.size L (lkL L A2 c2):=⟨A2,c2,rfl,o3.below D4⟩;have D40:=below_step d3 D4 (Nat.le_refl _);refine phase_opL 8 4 rfl (by kernel_rfl) (by decide) ?_;simp only [nth];go_wp2_with (at_builtin; refine wpList_apps2 etlk (fun w1=>LkB w1 w.heap.size) rfl (.tmp 41) (.tmp 43) rfl rfl rfl w.heap.size N4.row L hnew hf4 (lk_oneCell _ _ _) (by omega) (by omega) D40.size (fun w1 A1 n1 c1 xs hv hg f cs hf=>hf.beside hv (by decide) hg) ?_; intro A5 c5 w5 o5 b5 g5 _)
   have M5:Mv Gq wc w5:=(Mv.of_new D4 _).trans (Mv.of_grown g5) fun b hb e=>hOwn b e
   refine behind_mv M5 ?_;refine phase_opL 9 3 rfl (by kernel_rfl) (by decide) ?_;simp only [nth];go_wp2_with fail
   refine behind_mv M5 ?_;refine phase_opL 10 2 rfl (by kernel_rfl) (by decide) ?_;simp only [nth];go_wp2_with fail
   refine behind_mv M5 ?_;refine phase_opL 11 1 rfl (by kernel_rfl) (by decide) ?_;simp only [nth];go_wp2_with fail
   refine behind_mv M5 ?_;have F5:=(N3.blk.mv M5 hGg);have f5c:w5.cell? ⟨w.heap.size,0,none⟩=some (.slice A1 k c1):=F5.cell 0;have f5f:=F5.frozen 0;refine phase_last 0 rfl (by kernel_rfl) (by decide) (by kernel_rfl) ?_;simp only [nth];go_wp2_with fail
   refine behind_last ?_;have N6:=N4.add o5 g5;have d6:Below w.heap.size w (w5.setCell ⟨w.heap.size,0,none⟩ (.slice A5 (k + 1) c5)):=(D40.trans b5).setCell (p:=⟨w.heap.size,0,none⟩) (by dsimp only; omega) _;rw [← HST.out] at N6;go_wp2_with fail
   go_roundw
   case rel=>exact ⟨k + 1,A5,c5,by omega,by go_num,N6,d6⟩
   case measure=>simp [intOf] <;> omega
  ·obtain rfl:k=m:=by omega
   have hlk:=looksK_len f k;have NW:=secNewest_any wr N.looks (Nat.le_refl _);have F1:=N.five.1;rw [← HNW.out] at NW;dsimp only at NW;have NWh:=Lib.hid NW;clear NW;go_wp2_with fail
   refine (NWh.out).mono ?_;rintro e w2 ⟨rfl,b2⟩;have N2:=N.below b2;have F2:=N2.five;have N3:=N2.set_ (i:=1) (u:=.int .i64 (np:Int)) (now':=np) (has':=false) (dead':=false) rfl;have N4:=N3.set_ (i:=2) (u:=.bool nh) (now':=np) (has':=nh) (dead':=false) rfl;have b4:Below w.heap.size w ((w2.setCell ⟨w.heap.size,1,none⟩ (.int .i64 (np:Int))).setCell ⟨w.heap.size,2,none⟩ (.bool nh)):=((bb.trans (b2.mono bb.size)).setCell (p:=⟨w.heap.size,1,none⟩) (Nat.le_refl _) _).setCell (p:=⟨w.heap.size,2,none⟩) (Nat.le_refl _) _;obtain ⟨gl,xs,J⟩:=N4.made hlk (by omega);have HJ:=Lib.hid J;have HB:=Lib.hid b4;clear N2 N3 N4 J b4 N;go_wp2_with fail
   go_ret2
   exact ⟨w.heap.size,gl,A1,c1,xs,rfl,HB.out,HJ.out⟩
end Go.Proofs.YtijegngfclkdaaaGreatDoor
namespace Go.Proofs.YtijegngfclkdaaaGreatDoor
open Go.RowKit Go.Sort
section
variable {P:Program} {Q:Exit→Act→World→Prop} {md:Region.Mode} {S:World→Prop}
theorem phase_one_of {l:List Oper} (i:Nat) (fuel:Nat) {listed:Array Bool} {a:Act} {w:World} (hi:i < l.length)
  (h:wpList P l.toArray (Qn (fun a' w'=>Behind P md l Q S fuel (listed.setIfInBounds i true) a' w') Q) [nth l i] a w):wpOp P l.toArray Q i (fun a' w'=>S w'∧wpAnyH P md l.toArray Q S fuel (listed.setIfInBounds i true) a' w') a w:=by
 have ho:l.toArray[i]?=some (nth l i):=by rw [List.getElem?_toArray]; exact nth_some l i hi
 have fin:∀ a' w',Behind P md l Q S fuel (listed.setIfInBounds i true) a' w'→S w'∧wpAnyH P md l.toArray Q S fuel (listed.setIfInBounds i true) a' w':=fun a' w' ⟨S',h1,h2,h3⟩=>⟨h2 _ h1,held_mono h2 _ _ _ _ h3⟩
 refine wpOp_mono fin ?_;unfold wpOp;simp only [ho];simp only [wpList] at h
 by_cases hw:Region.wanted (nth l i) (yielded l.toArray a.tmps)=true
 ·rw [if_pos hw] at h ⊢
  rcases h with h | ⟨h1,a0,w0,h2⟩
  ·exact .inl h
  ·exact .inr ⟨h1,a0,w0,h2⟩
 ·rw [if_neg hw] at h ⊢
  exact h
theorem phase_two {l:List Oper} (i j:Nat) {n:Nat} (fuel:Nat) {listed:Array Bool} {a:Act} {w:World} (hn:n=fuel + 1) (hr:Region.ready md l.toArray listed=[i,j]) (hi:i < l.length) (hj:j < l.length)
  (h1:wpList P l.toArray (Qn (fun a' w'=>Behind P md l Q S fuel (listed.setIfInBounds i true) a' w') Q) [nth l i] a w)
  (h2:wpList P l.toArray (Qn (fun a' w'=>Behind P md l Q S fuel (listed.setIfInBounds j true) a' w') Q) [nth l j] a w):wpAnyH P md l.toArray Q S n listed a w:=by
 subst hn;refine ⟨(fun h0=>by rw [hr] at h0; cases h0),fun k hk=>?_⟩;rw [hr] at hk;simp only [List.mem_cons,List.not_mem_nil,or_false] at hk;rcases hk with rfl | rfl
 ·exact phase_one_of _ _ hi h1
 ·exact phase_one_of _ _ hj h2
end
end Go.Proofs.YtijegngfclkdaaaGreatDoor
namespace Go.Proofs.YtijegngfclkdaaaGreatDoor
open Go.RowKit
theorem etin:ET Tryz.prog 91 3 1 8 (.int .i64 0):=⟨Tryz.underlying91,info_parts (by kernel_rfl),rfl,by decide⟩
theorem made_ints (n:Nat):((madeCells (Value.int .i64 0).cells (n * 1)).toList.take (n * 1))=(List.replicate n 0).map nv:=by
 have:(Value.int .i64 0).cells=#[.int .i64 0]:=rfl;rw [this,toList_madeCells_one];simp [nv]
theorem fla_of {w:World} {g:Nat} {A A':Option Addr} {n m c c':Nat} {b:List UInt8} {z:Int} {base:Nat}
  (hb:base≤g) (hg:Blk w g 93 #[.slice A n c,.slice A' m c',.int .i64 z,.bool false,.int .i64 (-1),.int .u32 0,.int .i64 0]) (h1:OB w base A n c b) (h2:OV w base 3 1 A' m c' ((List.replicate m 0).map nv)) :
  FlM w base g A n c A' m c' ⟨b,List.replicate m 0,z,false,-1,0,0⟩:=⟨hb,hg,h1,h2⟩
theorem flaOf_any {A:Option Addr} {n c B:Nat} {b:List UInt8} (w:World) (m:Nat) (z:Int) (hb:RB w B A n c b) (hB:B≤w.heap.size) (hm1:1≤m) (hm8:m≤8) (hn:n=m * 1024) (hz:1≤z) :
  Calls Tryz.prog 34 #[.slice A n c,.int .i64 z] w fun e w'=>∃ g A1 c1 A2,e=.returned (.pointer (some ⟨g,0,none⟩))∧Below w.heap.size w w'∧FlM w' w.heap.size g A1 n c1 A2 m m ⟨b,List.replicate m 0,z,false,-1,0,0⟩:=by
 have q0:((n:Int)).tdiv 1024=(m:Int):=by rw [Int.tdiv_eq_ediv_of_nonneg (by omega)]; omega
 have q1:(n:Int) / 1024=(m:Int):=by omega
 have q2:IntKind.i64.wrap (m:Int)=(m:Int):=IntWalk.i64_in _ (by omega);have q3:IntKind.i64.wrap ((m:Int) * 1024)=(n:Int):=by rw [IntWalk.i64_in _ (by omega)]; omega
 have q4:wrap64 (m:Int)=(m:Int):=IntWalk.wrap64_in _ (by omega);have q5:wrap64 ((m:Int) * 1024)=(n:Int):=by rw [IntWalk.wrap64_in _ (by omega)]; omega
 have e1:decide (m < 1)=false:=decide_eq_false (by omega);have e2:decide (8 < m)=false:=decide_eq_false (by omega);have e3:decide (z < 1)=false:=decide_eq_false (by omega);have e4:((n:Int) != (n:Int))=false:=by simp
 have hn1:n≤140737488355328:=by omega
 have hm9:8 * m≤281474976710656:=by omega
 have hm10:m≤9223372036854775807:=by omega
 have i1:¬ (m:Int) < 1:=by omega
 have i2:¬ (m:Int) > 8:=by omega
 have e5:decide ((m:Int) < 1)=false:=decide_eq_false i1;have e6:decide ((m:Int) > 8)=false:=decide_eq_false i2;have HB:=Lib.hid hb;clear hb hm1 hm8 hn hz i1 i2;go_enter Tryz.func34,Tryz.ntmps34
 go_wp2_with fail
 refine region_later (by kernel_rfl) ?_;refine phase_later (by kernel_rfl) 5 (below_drew _) [0,2,4] rfl (by kernel_rfl) ?_;simp only [picks,nth]
 repeat (go_big_quiet_step (fail))
 refine wpQuiet_nil ?_;have hbd:=below_drew w;refine phase_two 1 3 4 rfl (by kernel_rfl) (by decide) (by decide) ?_ ?_
 ·simp only [nth]
  go_wp2_with (at_builtin; refine wpList_appb_nil etb rfl (.const (.slice none 0 0)) (.tmp 26) rfl rfl rfl B (HB.out.drew) hn1 hB ?_; intro A1 c1 w1 o1 b1)
  refine behind_later (hbd.trans b1) ?_;refine phase_op 3 3 rfl (by kernel_rfl) (by decide) ?_;simp only [nth];have b1':Below w.heap.size w w1:=hbd.trans b1;have o1':OB w1 w.heap.size A1 n c1 b:=o1;go_wp2_with (at_make; refine wpList_mk etin rfl (.tmp 28) (.tmp 28) rfl .i64 .i64 m m rfl rfl (Nat.le_refl _) hm9 hm10 w.heap.size b1.size ?_; intro w2 o2 g2 s2; clear s2)
  have b2:Below w1.heap.size w1 w2:=(Below.refl _ w1).grown g2 (Nat.le_refl _) fun k hk=>by cases hk
  rw [made_ints] at o2;refine behind_later b2 ?_;refine phase_later (by kernel_rfl) 2 (Below.refl _ _) [5] rfl (by kernel_rfl) ?_;simp only [picks,nth]
  repeat (go_big_quiet_step (fail))
  refine wpQuiet_nil ?_;refine phase_op 6 1 rfl (by kernel_rfl) (by decide) ?_;simp only [nth];have b3:=alloc_one w2 (.cells #[.slice A1 n c1,.slice (some ⟨w1.heap.size,0,none⟩) m m,.int .i64 z,.bool false,.int .i64 (-1),.int .u32 0,.int .i64 0] 93);have K3:=Blk.new w2 93 #[.slice A1 n c1,.slice (some ⟨w1.heap.size,0,none⟩) m m,.int .i64 z,.bool false,.int .i64 (-1),.int .u32 0,.int .i64 0];have b13:=below_step b1' b2 (Nat.le_refl _);have F3:=fla_of (base:=w.heap.size) b13.size K3 ((o1'.below b2).below b3) (o2.below b3);go_wp2_with fail
  refine behind_later b3 ?_;refine phase_later (by kernel_rfl) 0 (Below.refl _ _) [7] rfl (by kernel_rfl) ?_;simp only [picks,nth]
  repeat (go_big_quiet_step (fail))
  refine wpQuiet_nil ?_;refine phase_end (by kernel_rfl) ?_;go_wp2_with fail
  go_ret
  exact ⟨_,_,_,_,rfl,below_step b13 b3 (Nat.le_refl _),F3⟩
 ·simp only [nth]
  go_wp2_with (at_make; refine wpList_mk etin rfl (.tmp 28) (.tmp 28) rfl .i64 .i64 m m rfl rfl (Nat.le_refl _) hm9 hm10 w.heap.size (Nat.le_refl _) ?_; intro w1 o2 g2 s2; clear s2)
  have b1:Below w.heap.size w.drew w1:=(Below.refl _ w.drew).grown g2 (Nat.le_refl _) fun k hk=>by cases hk
  have b1':Below w.heap.size w w1:=hbd.trans b1;rw [made_ints] at o2;refine behind_later b1' ?_;refine phase_op 1 3 rfl (by kernel_rfl) (by decide) ?_;simp only [nth];go_wp2_with (at_builtin; refine wpList_appb_nil etb rfl (.const (.slice none 0 0)) (.tmp 26) rfl rfl rfl B ((HB.out).below (b1'.mono hB)) hn1 (Nat.le_trans hB b1'.size) ?_; intro A1 c1 w2 o1 b2)
  refine behind_later b2 ?_;refine phase_later (by kernel_rfl) 2 (Below.refl _ _) [5] rfl (by kernel_rfl) ?_;simp only [picks,nth]
  repeat (go_big_quiet_step (fail))
  refine wpQuiet_nil ?_;refine phase_op 6 1 rfl (by kernel_rfl) (by decide) ?_;simp only [nth];have b3:=alloc_one w2 (.cells #[.slice A1 n c1,.slice (some ⟨w.drew.heap.size,0,none⟩) m m,.int .i64 z,.bool false,.int .i64 (-1),.int .u32 0,.int .i64 0] 93);have K3:=Blk.new w2 93 #[.slice A1 n c1,.slice (some ⟨w.drew.heap.size,0,none⟩) m m,.int .i64 z,.bool false,.int .i64 (-1),.int .u32 0,.int .i64 0];have b13:=below_step b1' b2 (Nat.le_refl _);have F3:=fla_of (base:=w.heap.size) b13.size K3 ((o1.more b1'.size).below b3) ((o2.below b2).below b3);go_wp2_with fail
  refine behind_later b3 ?_;refine phase_later (by kernel_rfl) 0 (Below.refl _ _) [7] rfl (by kernel_rfl) ?_;simp only [picks,nth]
  repeat (go_big_quiet_step (fail))
  refine wpQuiet_nil ?_;refine phase_end (by kernel_rfl) ?_;go_wp2_with fail
  go_ret
  exact ⟨_,_,_,_,rfl,below_step b13 b3 (Nat.le_refl _),F3⟩
theorem blank_set {n k:Nat} {l:List UInt8} (hl:l.length=n) (hk:k < n) (h:l.take k=List.replicate k 255):(l.set k 255).take (k + 1)=List.replicate (k + 1) 255:=by
 rw [List.take_succ_eq_append_getElem (by simp; omega),List.replicate_succ',List.take_set_of_le (Nat.le_refl _),h];simp
theorem FlM.more {w:World} {base base' g n c m c':Nat} {A A':Option Addr} {f:Fla} (h:FlM w base g A n c A' m c' f) (hb:base'≤base):FlM w base' g A n c A' m c' f:=⟨Nat.le_trans hb h.gb,h.blk,h.row.more hb,h.worn.more hb⟩
theorem flaNew_any (w:World) (m:Nat) (z:Int) (hm1:1≤m) (hm8:m≤8) (hz:1≤z) :
  Calls Tryz.prog 5 #[.int .i64 (m:Int),.int .i64 z] w fun e w'=>∃ g A1 c1 A2,e=.returned (.pointer (some ⟨g,0,none⟩))∧Below w.heap.size w w'∧FlM w' w.heap.size g A1 (m * 1024) c1 A2 m m ⟨List.replicate (m * 1024) 255,List.replicate m 0,z,false,-1,0,0⟩:=by
 have e5:decide ((m:Int) < 1)=false:=decide_eq_false (by omega);have e6:decide ((m:Int) > 8)=false:=decide_eq_false (by omega);have e1:decide (m < 1)=false:=decide_eq_false (by omega);have e2:decide (8 < m)=false:=decide_eq_false (by omega);obtain ⟨n,hn⟩:∃ n,n=m * 1024:=⟨_,rfl⟩;rw [← hn];have q3:IntKind.i64.wrap ((m:Int) * 1024)=(n:Int):=by rw [IntWalk.i64_in _ (by omega)]; omega
 have q5:wrap64 ((m:Int) * 1024)=(n:Int):=by rw [IntWalk.wrap64_in _ (by omega)]; omega
 have hn1:n≤10000:=by omega
 have OF:=Lib.hid (fun (w1:World) (A:Option Addr) (c:Nat) (b:List UInt8) (h:OB w1 w.heap.size A n c b)=>flaOf_any w1 m z h.rb (Nat.le_refl _) hm1 hm8 hn hz);clear hm1 hm8 hn hz;go_enter Tryz.func5,Tryz.ntmps5
 go_wp2_with (at_make; refine wpList_mkb etb rfl (.tmp 14) (.tmp 14) rfl .i64 .i64 n n rfl rfl (Nat.le_refl _) (by omega) w.heap.size (Nat.le_refl _) ?_; intro w1 o1 b1 s1)
 clear s1;go_loopw [18] (fun i wr=>∃ (k:Nat) (l:List UInt8),k≤n∧i=.int .i64 (k:Int)∧OB wr w.heap.size (some ⟨w.heap.size,0,none⟩) n n l∧Hid (l.length=n∧l.take k=List.replicate k 255)∧Below w.heap.size w wr) (fun i _=>n - (intOf i).toNat)
 case atStart=>exact ⟨0,_,Nat.zero_le _,rfl,o1,Lib.hid ⟨by simp,by simp⟩,b1⟩
 case round =>
  obtain ⟨k,l,hk,rfl,ho,HE,hb⟩:=hrel
  by_cases hlt:k < n
  ·have o3:=OB.setv ho k (v:=255) 255 rfl
   have hce:=ho.cell hlt;have hfr:=ho.free k;have HE2:Hid ((l.set k 255).length=n∧(l.set k 255).take (k + 1)=List.replicate (k + 1) 255):=Lib.hid ⟨by rw [List.length_set]; exact HE.out.1,blank_set HE.out.1 hlt HE.out.2⟩;have b3:=hb.grown o3.2 hb.size fun q hq=>by injection hq with hq; omega
   have h3:=o3.1;clear HE o3 hb;go_wp2_with fail
   go_roundw
   case rel=>exact ⟨k + 1,_,by omega,by go_num,h3,HE2,b3⟩
   case measure=>simp [intOf] <;> omega
  ·obtain rfl:k=n:=by omega
   have HL:Hid (l=List.replicate k 255):=Lib.hid (by rw [← HE.out.2,List.take_of_length_le (Nat.le_of_eq HE.out.1)]);clear HE;go_wp2_with fail
   rw [HL.out] at ho;refine (OF.out _ _ _ _ ho).mono ?_;rintro e w3 ⟨g,A1,c1,A2,rfl,b3,F3⟩;go_wp2_with fail
   go_ret
   exact ⟨g,A1,c1,A2,rfl,below_step hb b3 (Nat.le_refl _),F3.more hb.size⟩
end Go.Proofs.YtijegngfclkdaaaGreatDoor
namespace Go.Proofs.YtijegngfclkdaaaGreatDoor
open Go.RowKit
def numS (L:List Jr.Look) (now:Nat) (has:Bool):Nat:=if has=true then (L.getD now ⟨Jr.noRec,0,0,false⟩).last.num else 0
theorem jnumber_any {A:Option Addr} {n c B:Nat} {L:List Jr.Look} (now:Nat) (has:Bool) (w:World) (h:RS LkQ w B 6 A n c L) (hB:B≤w.heap.size) (hn:has=true→now < n):Calls Tryz.prog 388 #[.agg #[.slice A n c,.int .i64 (now:Int),.bool has]] w fun e w'=>e=.returned (.int .u32 (numS L now has:Int))∧Below w.heap.size w w':=by
 have b1:=alloc_one w (.cells #[.slice A n c,.int .i64 (now:Int),.bool has] 261);have hl:=h.len (by decide);have hnn:=h.lt;unfold numS;cases has with
 | false =>
  go_enter Tryz.func388,Tryz.ntmps388
  go_wp2_with fail
  go_ret
  exact ⟨by simp,b1⟩
 | true =>
  have hnow:=hn rfl;have hf:L[now]?=some (L.getD now ⟨Jr.noRec,0,0,false⟩):=by simp [List.getD,List.getElem?_eq_getElem (show now < L.length by omega)]
  obtain ⟨b,o,cs,rfl,hbB,⟨A1,n1,c1,rfl⟩,hc⟩:=RS.at_ h (by decide) hf;generalize L.getD now ⟨Jr.noRec,0,0,false⟩=f at *;have q1:=hc 1 _ (by decide) rfl;have q1':=(b1.cell (p:=⟨b,o + now * 6 + 1,none⟩) (by dsimp only; omega)).trans q1;have i0:(0:Int)≤(now:Int):=by omega
  have i1:(now:Int) < (n:Int):=by omega
  have K1:=(Blk.new w 261 #[.slice (some ⟨b,o,none⟩) n c,.int .i64 (now:Int),.bool true]).three;rw [if_pos rfl];clear hc h hf hn;go_enter Tryz.func388,Tryz.ntmps388
  go_wp2_with fail
  go_ret
  exact ⟨rfl,b1⟩
theorem joff_no (g:Nat) (z:Int) (w:World) (hz:z≠7):Calls Tryz.prog 387 #[.pointer (some ⟨g,0,none⟩),.int .i64 z] w fun e w'=>e=.returned (.int .i64 z)∧w=w':=by
 have e1:(z == 7)=false:=by simpa using hz
 go_enter Tryz.func387,Tryz.ntmps387
 go_wp2_with fail
 go_ret
 exact ⟨rfl,rfl⟩
theorem joff_yes {w:World} {F:Nat→Prop} {gj gl c now gf:Nat} {A:Option Addr} {xs:List Value} {L:List Jr.Look} {has dead:Bool} (h:JoM w F gj gl A c xs L now has gf dead):Calls Tryz.prog 387 #[.pointer (some ⟨gj,0,none⟩),.int .i64 7] w fun e w'=>e=.returned (.int .i64 7)∧w'=w.setCell ⟨gj,4,none⟩ (.bool true):=by
 obtain ⟨⟨_,_,_,_,c4⟩,_,_,_,_,f4⟩:=h.five;clear h;go_enter Tryz.func387,Tryz.ntmps387
 go_wp2_with fail
 go_ret
 exact ⟨rfl,rfl⟩
def wornK (f:Fla) (k:Nat):List Int:=(List.range k).map fun i:Nat=>wornS f (i:Int)
def leftK (f:Fla) (k:Nat):List Int:=(List.range k).map fun i:Nat=>leftS f (i:Int)
theorem wornK_step (f:Fla) (k:Nat):wornK f (k + 1)=wornK f k ++ [wornS f (k:Int)]:=by simp [wornK,List.range_succ]
theorem leftK_step (f:Fla) (k:Nat):leftK f (k + 1)=leftK f k ++ [leftS f (k:Int)]:=by simp [leftK,List.range_succ]
def WearsP (f:Fla) (m:Nat) (w:World) (e:Ending) (w':World):Prop:=∃ A1 c1 A2 c2,e=.returned (.tuple #[.slice A1 m c1,.slice A2 m c2])∧RV w' w'.heap.size 1 A1 m c1 ((wornK f m).map iv)∧RV w' w'.heap.size 1 A2 m c2 ((leftK f m).map iv)∧Below w.heap.size w w'
structure WearsR (f:Fla) (w wr:World) (k:Nat) (A1:Option Addr) (c1:Nat) (A2:Option Addr) (c2:Nat):Prop where
 one:OV wr w.heap.size 3 1 A1 k c1 ((wornK f k).map iv)
 two:OV wr w.heap.size 3 1 A2 k c2 ((leftK f k).map iv)
 sep:(Value.slice A2 k c2).ownBlock=none∨(Value.slice A2 k c2).ownBlock≠(Value.slice A1 k c1).ownBlock
 bel:Below w.heap.size w wr
theorem iv_oneCell (z:Int):∀ u∈([iv z]:List Value),u.oneCell'=true:=by
 intro u hu;simp only [List.mem_cons,List.not_mem_nil,or_false] at hu;subst hu;rfl
theorem jwears_any {w:World} {F:Nat→Prop} {gj gl c now gf:Nat} {A:Option Addr} {xs:List Value} {L:List Jr.Look} {has dead:Bool} (h:JoM w F gj gl A c xs L now has gf dead) {base n cb m c':Nat} {Ab A':Option Addr} {f:Fla} (hf:FlM w base gf Ab n cb A' m c' f) (hm:m≤8) (hL:L.length=m) (hmost:0≤f.most∧f.most≤2000000000) (hw:∀ i,f.wear.getD i 0≤1000000) :
  Calls Tryz.prog 403 #[.pointer (some ⟨gj,0,none⟩)] w (WearsP f m w):=by
 have F5:=h.five;have HJ:=Lib.hid (fun (w1:World) (b:Below w.heap.size w w1)=>(h.below b).five);have HW:=Lib.hid (fun (w1:World) (b:Below w.heap.size w w1) (i:Nat)=>fWorn_any (hf.below b) (i:Int));have HL:=Lib.hid (fun (w1:World) (b:Below w.heap.size w w1) (i:Nat)=>fLeft_any (hf.below b) (i:Int) (by unfold leftS; split <;> (have:=hw ((i:Int).toNat); omega)));have R0:WearsR f w w 0 none 0 none 0:=⟨OV.none_ _ _ _ _,OV.none_ _ _ _ _,.inl rfl,Below.refl _ _⟩;clear h hf hw hmost;rw [hL] at F5;go_enter Tryz.func403,Tryz.ntmps403
 go_wp2_with fail
 go_loopw [2,3,11] (fun u v x wr=>∃ (k:Nat) (A1:Option Addr) (c1:Nat) (A2:Option Addr) (c2:Nat),k≤m∧x=.int .i64 k∧u=.slice A1 k c1∧v=.slice A2 k c2∧Hid (WearsR f w wr k A1 c1 A2 c2)) (fun _ _ x _=>m - (intOf x).toNat)
 case atStart=>exact ⟨0,_,_,_,_,by omega,rfl,rfl,rfl,Lib.hid R0⟩
 case round =>
  obtain ⟨k,A1,c1,A2,c2,hk,rfl,rfl,rfl,HR⟩:=hrel;clear R0 F5
  by_cases hlt:k < m
  ·obtain ⟨o1,o2,sp,bb⟩:=HR.out
   have FF5:=HJ.out wr bb;have WO:=Lib.hid (HW.out wr bb k);have s1:=wornK_step f k;have s2:=leftK_step f k;have HS:=Lib.hid (And.intro s1 s2);have HLK:=Lib.hid (fun w1 (b:Below w.heap.size w w1)=>HL.out w1 b k);clear s1 s2 HR;generalize wornS f (k:Int)=z1 at *;generalize leftS f (k:Int)=z2 at *;have b1:=alloc_one wr (.cells #[.int .i64 z1] 3);have o1':=o1.below b1;have o2':=o2.below b1;have hnew:=RV.new wr 3 (size:=1) (cs:=[iv z1]) rfl;have d1:=below_step bb b1 (Nat.le_refl _);go_wp2_with fail
   refine (WO.out).mono ?_;rintro e _ ⟨rfl,rfl⟩;go_wp2_with (at_builtin; refine wpList_app etin rfl (.tmp 14) (.tmp 21) rfl rfl rfl w.heap.size o1' hnew (iv_oneCell z1) (by omega) (by omega) d1.size ?_; intro A3 c3 w3 o3 g3 j3; have d3:=d1.trans (grown_below g3 o1'.lt d1.size); have FF3:=HJ.out w3 d3)
   have o23:=OV.kept o2' g3 sp;have sp3:(Value.slice A2 k c2).ownBlock=none∨(Value.slice A2 k c2).ownBlock≠(Value.slice A3 (k + 1) c3).ownBlock:=by
    rcases sp with sp | sp
    ·exact .inl sp
    ·rcases j3 with j3 | j3
     ·right; rw [j3]; exact sp
     ·right
      rw [j3];intro e;have:=(o2'.lt _ e).2;omega
   have LF:=Lib.hid (HLK.out w3 d3);clear WO b1 o1' o2' hnew d1 g3 j3 FF5 o1 o2 sp bb;refine (LF.out).mono ?_;rintro e w4 ⟨rfl,b40⟩;have o3':=o3.below b40;have o23':=o23.below b40;have d4:=below_step d3 b40 (Nat.le_refl _);have b5:=alloc_one w4 (.cells #[.int .i64 z2] 3);have o35:=o3'.below b5;have o25:=o23'.below b5;have hnew5:=RV.new w4 3 (size:=1) (cs:=[iv z2]) rfl;have d5:=below_step d4 b5 (Nat.le_refl _);clear b40 o3 o23 d3 FF3 LF;go_wp2_with (at_builtin; refine wpList_app etin rfl (.tmp 23) (.tmp 30) rfl rfl rfl w.heap.size o25 hnew5 (iv_oneCell z2) (by omega) (by omega) d5.size ?_; intro A6 c6 w6 o6 g6 j6)
   have d6:=d5.trans (grown_below g6 o25.lt d5.size);have sp':(Value.slice A3 (k + 1) c3).ownBlock=none∨(Value.slice A3 (k + 1) c3).ownBlock≠(Value.slice A2 k c2).ownBlock:=by
    rcases sp3 with h | h
    ·cases hA:(Value.slice A3 (k + 1) c3).ownBlock with
     | none=>exact .inl rfl
     | some q=>right; rw [h]; simp
    ·exact .inr h.symm
   have o36:=OV.kept o35 g6 sp';have sp6:(Value.slice A6 (k + 1) c6).ownBlock=none∨(Value.slice A6 (k + 1) c6).ownBlock≠(Value.slice A3 (k + 1) c3).ownBlock:=by
    rcases j6 with j6 | j6
    ·rw [j6]; exact sp3
    ·right
     rw [j6];intro e;have:=(o35.lt _ e.symm).2;omega
   have HN:Hid (WearsR f w w6 (k + 1) A3 c3 A6 c6):=Lib.hid ⟨by rw [HS.out.1,List.map_append]; exact o36,by rw [HS.out.2,List.map_append]; exact o6,sp6,d6⟩;clear o35 o25 hnew5 d5 b5 g6 j6 sp3 sp' o36 sp6 o6 d6 o3' o23' d4;go_roundw
   case rel=>exact ⟨k + 1,A3,c3,A6,c6,by omega,by go_num,rfl,rfl,HN⟩
   case measure=>simp [intOf] <;> omega
  ·obtain rfl:k=m:=by omega
   go_wp2_with fail
   go_ret2
   obtain ⟨o1,o2,_,bb⟩:=HR.out;exact ⟨A1,c1,A2,c2,rfl,o1.rv,o2.rv,bb⟩
end Go.Proofs.YtijegngfclkdaaaGreatDoor
