/-
  Pieces of the proof: part 19 of 54.
  Conditions: none.
-/
import Derived.WalkMore
import Derived.ScopeJumps
import Derived.Test.YtijegngfclkdaaaGreatDoorW15
import Derived.Test.YtijegngfclkdaaaGreatDoorW17
import Derived.Test.YtijegngfclkdaaaGreatDoorW18
set_option linter.unusedVariables false
set_option linter.unusedSimpArgs false
set_option maxHeartbeats 100000000
set_option maxRecDepth 100000
namespace Go.Proofs.YtijegngfclkdaaaGreatDoor
open Go.RowKit
def OfP (f:Jr.Look) (w:World) (e:Ending) (w':World):Prop:=∃ A c,e=.returned (lkV f A f.last.data.length c)∧OB w' w.heap.size A f.last.data.length c f.last.data∧Below w.heap.size w w'
def lkA (r:Jr.Rec) (A:Option Addr) (d k e:Nat) (z:Bool):Array Value:=#[.int .i64 (r.kind:Int),.int .u32 (r.num:Int),.slice A r.data.length d,.int .i64 (k:Int),.int .i64 (e:Int),.bool z]
structure OfR (b:List UInt8) (n:Nat) (w wr:World) (k e:Nat) (r:Jr.Rec) (A:Option Addr) (d f:Nat):Prop where
 res:Jr.goS b b.length Jr.noRec 0 0=Jr.goS b f r k e
 fuel:n≤f + e
 en:e≤n
 ke:k≤e
 num:r.num < 4294967296
 two:Blk wr w.heap.size 265 #[.int .i64 0,.int .u32 0,.slice none 0 0,.int .i64 0,.int .i64 0,.bool false]
 blk:Blk wr (w.heap.size + 1) 265 (lkA r A d k e false)
 own:OB wr (w.heap.size + 2) A r.data.length d r.data
 bel:Below w.heap.size w wr
theorem OfR.done {b:List UInt8} {n:Nat} {w wr:World} {k e:Nat} {r:Jr.Rec} {A:Option Addr} {d f:Nat} (h:OfR b n w wr k e r A d f) (hz:Jr.parseS b e=none):Jr.goS b b.length Jr.noRec 0 0=(r,k,e):=by
 rw [h.res];cases f with
 | zero=>rfl
 | succ f=>rw [Jr.goS,hz]
theorem OfR.stop {b:List UInt8} {n:Nat} {w wr:World} {k e:Nat} {r:Jr.Rec} {A:Option Addr} {d f:Nat} (h:OfR b n w wr k e r A d f) {r':Jr.Rec} {e':Nat} (hz:Jr.parseS b e=some (r',e')) (hc:0 < k∧(r.num=4294967295∨r'.num≠r.num + 1)):Jr.goS b b.length Jr.noRec 0 0=(r,k,e):=by
 rw [h.res];cases f with
 | zero=>rfl
 | succ f=>rw [Jr.goS,hz]; dsimp only; rw [if_pos hc]
theorem OfR.go {b:List UInt8} {n:Nat} {w wr:World} {k e:Nat} {r:Jr.Rec} {A:Option Addr} {d f:Nat} (h:OfR b n w wr k e r A d f) (hl:b.length=n) {r':Jr.Rec} {e':Nat} (hz:Jr.parseS b e=some (r',e')) (hc:¬ (0 < k∧(r.num=4294967295∨r'.num≠r.num + 1))):∃ f',f=f' + 1∧Jr.goS b b.length Jr.noRec 0 0=Jr.goS b f' r' (k + 1) e'∧n≤f' + e':=by
 have hp:=Jr.parse_lt hz;have hf:=h.fuel;cases f with
 | zero=>omega
 | succ f =>
  refine ⟨f,rfl,?_,by omega⟩;rw [h.res,Jr.goS,hz];dsimp only;rw [if_neg hc]
theorem ofS_of {b:List UInt8} {r:Jr.Rec} {k e:Nat} (h:Jr.goS b b.length Jr.noRec 0 0=(r,k,e)):Jr.ofS b=⟨r,k,e,blankB (b.drop e)⟩:=by
 unfold Jr.ofS;rw [h]
section
variable {w w':World} {g:Nat} {t:TypeId} {a b c d e f:Value}
theorem Blk.store6 (h:Blk w g t #[a,b,c,d,e,f]) (a' b' c' d' e' f':Value):Blk ((((((w.setCell ⟨g,0,none⟩ a').setCell ⟨g,1,none⟩ b').setCell ⟨g,2,none⟩ c').setCell ⟨g,3,none⟩ d').setCell ⟨g,4,none⟩ e').setCell ⟨g,5,none⟩ f') g t #[a',b',c',d',e',f']:=(((((h.set_ 0 a').set_ 1 b').set_ 2 c').set_ 3 d').set_ 4 e').set_ 5 f'
theorem Mv.set6 (w:World) (g:Nat) (a b c d e f:Value):Mv (fun q=>q=g) w ((((((w.setCell ⟨g,0,none⟩ a).setCell ⟨g,1,none⟩ b).setCell ⟨g,2,none⟩ c).setCell ⟨g,3,none⟩ d).setCell ⟨g,4,none⟩ e).setCell ⟨g,5,none⟩ f) :=
 (Mv.set3 w g 0 1 2 a b c).trans (Mv.set3 _ g 3 4 5 d e f) fun _ _ e=>e
end
theorem OB.mv6 {w:World} {base n c g:Nat} {A:Option Addr} {l:List UInt8} (h:OB w base A n c l) (hg:g < base) (a b c' d e f:Value):OB ((((((w.setCell ⟨g,0,none⟩ a).setCell ⟨g,1,none⟩ b).setCell ⟨g,2,none⟩ c').setCell ⟨g,3,none⟩ d).setCell ⟨g,4,none⟩ e).setCell ⟨g,5,none⟩ f) base A n c l:=OB.far3 (OB.far3 h hg 0 1 2 a b c') hg 3 4 5 d e f
theorem OB.mvd {w w':World} {base n c:Nat} {A:Option Addr} {l:List UInt8} {G:Nat→Prop} (h:OB w base A n c l) (hm:Mv G w w') (hd:∀ q,base≤q→q < w.heap.size→¬ G q):OB w' base A n c l:=by
 refine ⟨h.1,?_⟩;rcases h.2 with h2 | ⟨k,cap,cur,hv,hg,hh,r⟩
 ·exact .inl h2
 ·have hlt:k < w.heap.size:=(Array.getElem?_eq_some_iff.1 hh).1
  exact .inr ⟨k,cap,cur,hv,hg,(hm.block k hlt (hd k hg hlt)).trans hh,r⟩
theorem of_step {w:World} {g:Nat} {t:TypeId} {z0 z1 z2 z3 z4 z5:Value} (K:Blk w g t #[z0,z1,z2,z3,z4,z5]) (a b c e k:Value):∃ w',((((w.setCell ⟨g,0,none⟩ a).setCell ⟨g,1,none⟩ b).setCell ⟨g,2,none⟩ c).setCell ⟨g,4,none⟩ e).setCell ⟨g,3,none⟩ k=w'∧Blk w' g t #[a,b,c,k,e,z5]∧Mv (fun q=>q=g) w w':=by
 have KZ:=(((((K.set_ 0 a).set_ 1 b).set_ 2 c).set_ 4 e).set_ 3 k);exact ⟨_,rfl,KZ,((Mv.set3 w g 0 1 2 a b c).trans (Mv.setCell _ ⟨g,4,none⟩ e) fun _ _ e=>e).trans (Mv.setCell _ ⟨g,3,none⟩ k) fun _ _ e=>e⟩
theorem of_end {b:List UInt8} {w w4:World} {r:Jr.Rec} {k e d:Nat} {A:Option Addr} {z0 z1 z2 z3 z4 z5:Value} (hd:Jr.goS b b.length Jr.noRec 0 0=(r,k,e)) (K:Blk w4 w.heap.size 265 #[z0,z1,z2,z3,z4,z5]) (O:OB w4 (w.heap.size + 2) A r.data.length d r.data) (hb:Below w.heap.size w w4) :
  ∃ w',(((((w4.setCell ⟨w.heap.size,0,none⟩ (.int .i64 (r.kind:Int))).setCell ⟨w.heap.size,1,none⟩ (.int .u32 (r.num:Int))).setCell ⟨w.heap.size,2,none⟩ (.slice A r.data.length d)).setCell ⟨w.heap.size,3,none⟩ (.int .i64 (k:Int))).setCell ⟨w.heap.size,4,none⟩ (.int .i64 (e:Int))).setCell ⟨w.heap.size,5,none⟩ (.bool (blankB (b.drop e)))=w' ∧
   (w'.cell? ⟨w.heap.size,0,none⟩=some (.int .i64 (r.kind:Int))∧w'.cell? ⟨w.heap.size,1,none⟩=some (.int .u32 (r.num:Int))∧w'.cell? ⟨w.heap.size,2,none⟩=some (.slice A r.data.length d)∧w'.cell? ⟨w.heap.size,3,none⟩=some (.int .i64 (k:Int))∧w'.cell? ⟨w.heap.size,4,none⟩=some (.int .i64 (e:Int))∧w'.cell? ⟨w.heap.size,5,none⟩=some (.bool (blankB (b.drop e)))) ∧
   OfP (Jr.ofS b) w (.returned (.agg #[.int .i64 (r.kind:Int),.int .u32 (r.num:Int),.slice A r.data.length d,.int .i64 (k:Int),.int .i64 (e:Int),.bool (blankB (b.drop e))])) w':=by
 have KZ:=K.store6 (.int .i64 (r.kind:Int)) (.int .u32 (r.num:Int)) (.slice A r.data.length d) (.int .i64 (k:Int)) (.int .i64 (e:Int)) (.bool (blankB (b.drop e)));have m:=Mv.set6 w4 w.heap.size (.int .i64 (r.kind:Int)) (.int .u32 (r.num:Int)) (.slice A r.data.length d) (.int .i64 (k:Int)) (.int .i64 (e:Int)) (.bool (blankB (b.drop e)));refine ⟨_,rfl,KZ.six.1,?_⟩;rw [ofS_of hd];exact ⟨A,d,rfl,(O.mv6 (by omega) _ _ _ _ _ _).more (by omega),hb.trans (m.below hb.size (by intro q e; omega))⟩
theorem secOf_any {A:Option Addr} {n c B:Nat} {b:List UInt8} (w:World) (hb:RB w B A n c b) (hB:B≤w.heap.size) (hn:n≤100000) :
  Calls Tryz.prog 238 #[.slice A n c] w (OfP (Jr.ofS b) w):=by
 have hl:=hb.len;have hle:=hb.le;have hcap:=hb.cap;have bz:=alloc_two w (.cells #[.int .i64 0,.int .u32 0,.slice none 0 0,.int .i64 0,.int .i64 0,.bool false] 265) (.cells #[.int .i64 0,.int .u32 0,.slice none 0 0,.int .i64 0,.int .i64 0,.bool false] 265);have K0:=(Blk.new w 265 #[.int .i64 0,.int .u32 0,.slice none 0 0,.int .i64 0,.int .i64 0,.bool false]).alloc (.cells #[.int .i64 0,.int .u32 0,.slice none 0 0,.int .i64 0,.int .i64 0,.bool false] 265);have K1:=Blk.new (w.alloc (.cells #[.int .i64 0,.int .u32 0,.slice none 0 0,.int .i64 0,.int .i64 0,.bool false] 265)) 265 #[.int .i64 0,.int .u32 0,.slice none 0 0,.int .i64 0,.int .i64 0,.bool false];rw [World.size_alloc] at K1;have R0:OfR b n w _ 0 0 Jr.noRec none 0 b.length:=⟨rfl,by omega,Nat.zero_le _,Nat.le_refl _,by decide,K0,K1,OB.none_ _ _,bz⟩;have HB:=Lib.hid hb;have HBB:=Lib.hid hB;clear bz K0 K1 hb hB;go_enter Tryz.func238,Tryz.ntmps238
 go_wp2_with fail
 go_step3
 go_wp2_with fail
 go_step3
 go_wp2_with fail
 go_loopw [] (fun wr=>∃ (k e:Nat) (r:Jr.Rec) (A1:Option Addr) (d f:Nat),OfR b n w wr k e r A1 d f) (fun wr=>n - (intOf ((wr.cell? ⟨w.heap.size + 1,4,none⟩).getD undef)).toNat)
 case atStart=>exact ⟨0,0,_,_,_,_,R0⟩
 case round =>
  obtain ⟨k,e,r,A1,d,f,hr⟩:=hrel;have hen:=hr.en;have hke:=hr.ke;have hnum:=hr.num;have K2:=hr.two;have K:=hr.blk;have O:=hr.own;have hbel:=hr.bel;have C:=K.six;have hms:(intOf ((wr.cell? ⟨w.heap.size + 1,4,none⟩).getD undef)).toNat=e:=by rw [C.1.2.2.2.2.1]; simp [intOf]
  have HMS:=Lib.hid hms;clear hms;have hbr:=HB.out.below (hbel.mono HBB.out);have P:=Lib.hid (recParse_any e wr hbr (Nat.le_trans HBB.out hbel.size) hen hn);have hpar:Jr.parseS b e=Jr.parseS b e:=rfl;cases hps:Jr.parseS b e with
  | none =>
   have HD:=Lib.hid (hr.done hps);have PP:=Lib.hid (fun (ee:Ending) (w1:World) (h:ParP b e wr ee w1)=>show ∃ z:Int,ee=.returned (.tuple #[.agg recZ,.int .i64 0,.int .i64 z])∧z≠0∧Below wr.heap.size wr w1 from by
    obtain ⟨h1,h2⟩:=h;rw [hps] at h2;obtain ⟨z,h3,h4⟩:=h2;exact ⟨z,h3,h4,h1⟩)
   clear hps hpar hr;unfold lkA at C;go_wp2_with fail
   refine (P.out).mono ?_;intro ee w1 hp;obtain ⟨z,rfl,hz,b1⟩:=PP.out _ _ hp;have e1:(z != 0)=true:=by simpa using hz
   have K3:=(K.later b1).alloc (.cells recZ 217);have O3:=(O.below b1).alloc (.cells recZ 217);have K23:=(K2.later b1).alloc (.cells recZ 217);have b3:=below_step hbel (below_step b1 (alloc_one w1 (.cells recZ 217)) (Nat.le_refl _)) (Nat.le_refl _);have hRz:Value.agg recZ=.agg #[.int .i64 0,.int .u32 0,.slice none 0 0]:=rfl;clear hz hp P PP C;unfold recZ at *;have C3:=K3.six;have hcut:=fun w2=>run_cut_rest etb A n c e hen .i64 w2
   simp only [Nat.mul_one] at hcut;have X3:=Lib.hid ((HB.out.below (b3.mono HBB.out)).drop hen);have hsz:=b3.size;have BL:=Lib.hid (fun (w2:World) (h:Below w.heap.size w w2)=>recBlank_any w2 ((HB.out.below (h.mono HBB.out)).drop hen));generalize hA2:(if c=e then A else A.map (·.add e))=A2 at *;generalize hnx:n - e=nx at *;generalize hcx:c - e=cx at *;have hle2:decide (e≤n)=true:=decide_eq_true hen;have i0:(0:Int)≤(e:Int):=by omega
   have i1:(e:Int)≤(n:Int):=by omega
   clear hA2 hnx hcx;unfold lkA at C3 K3;go_wp2_with fail
   refine (BL.out _ b3).mono ?_;rintro ee w4 ⟨rfl,rfl⟩;have K4:Blk ((w1.alloc (.cells #[.int .i64 0,.int .u32 0,.slice none 0 0] 217)).setCell ⟨w.heap.size + 1,5,none⟩ (.bool (blankB (b.drop e)))) (w.heap.size + 1) 265 #[.int .i64 (r.kind:Int),.int .u32 (r.num:Int),.slice A1 r.data.length d,.int .i64 (k:Int),.int .i64 (e:Int),.bool (blankB (b.drop e))]:=K3.set_ 5 _;have K24:=K23.far (p:=⟨w.heap.size + 1,5,none⟩) (by show w.heap.size≠w.heap.size + 1; omega) (.bool (blankB (b.drop e)));have O4:=O3.far (g:=w.heap.size + 1) (by omega) 5 (.bool (blankB (b.drop e)));have b4:=b3.setCell (p:=⟨w.heap.size + 1,5,none⟩) (by show w.heap.size≤w.heap.size + 1; omega) (.bool (blankB (b.drop e)));have C4:=K4.six;have C24:=K24.six;obtain ⟨wz,hwz,⟨s0,s1,s2,s3,s4,s5⟩,hof⟩:=of_end HD.out K24 O4 b4;have HZ:=Lib.hid hwz;have HO:=Lib.hid hof;clear hwz hof;go_wp2_with fail
   rw [HZ.out,Exit.noGoto_ret];exact bodyPost_ret (v:=.agg #[.int .i64 (r.kind:Int),.int .u32 (r.num:Int),.slice A1 r.data.length d,.int .i64 (k:Int),.int .i64 (e:Int),.bool (blankB (b.drop e))]) (by simp [results,Tryz.results238,go_sem,s0,s1,s2,s3,s4,s5]) rfl HO.out
  | some q =>
   obtain ⟨r',e'⟩:=q;have hpl:=Jr.parse_lt hps;have PP:=Lib.hid (fun (ee:Ending) (w1:World) (h:ParP b e wr ee w1)=>show ∃ A' c',ee=.returned (.tuple #[recV r' A' c',.int .i64 (e':Int),.int .i64 0])∧OB w1 wr.heap.size A' r'.data.length c' r'.data∧Below wr.heap.size wr w1 from by
    obtain ⟨h1,h2⟩:=h;rw [hps] at h2;obtain ⟨A',c',h3,h4⟩:=h2;exact ⟨A',c',h3,h4,h1⟩)
   have STOP:=Lib.hid (fun hc=>hr.stop hps hc);have GO:=Lib.hid (fun hc=>hr.go hl hps hc);have hr1:r'.num < 4294967296:=hpl.2.2.2.2.1;have he1:e + 13≤e':=hpl.1;have he2:e'≤n:=by rw [← hl]; exact hpl.2.1
   have hk13:k + 1≤e':=by omega
   have hwr2:w.heap.size + 2≤wr.heap.size:=by have:=K.lt; omega
   clear hps hpar hr hpl;have q1:IntKind.u32.wrap ((r.num:Int) + 1)=((r.num:Int) + 1) % 4294967296:=IntKind.wrap_u32 _
   by_cases hbrk:0 < k∧(r.num=4294967295∨r'.num≠r.num + 1)
   ·have HD:=Lib.hid (STOP.out hbrk)
    have ek:decide ((k:Int) > 0)=true:=decide_eq_true (by omega);have ek':decide (0 < k)=true:=decide_eq_true hbrk.1;have ENDS:∀ (A':Option Addr) (c':Nat) (w1:World),OB w1 wr.heap.size A' r'.data.length c' r'.data→Below wr.heap.size wr w1→True:=fun _ _ _ _ _=>trivial
    clear ENDS GO STOP
    by_cases hlast:r.num=4294967295
    ·have el:((r.num:Int) == 4294967295)=true:=by rw [hlast]; rfl
     clear hbrk hlast q1;unfold lkA at C;go_wp2_with fail
     refine (P.out).mono ?_;intro ee w1 hp;obtain ⟨A',c',rfl,o1,b1⟩:=PP.out _ _ hp;have hRz:recV r' A' c'=.agg #[.int .i64 (r'.kind:Int),.int .u32 (r'.num:Int),.slice A' r'.data.length c']:=rfl;have K3:=(K.later b1).alloc (.cells #[.int .i64 (r'.kind:Int),.int .u32 (r'.num:Int),.slice A' r'.data.length c'] 217);have O3:=(O.below b1).alloc (.cells #[.int .i64 (r'.kind:Int),.int .u32 (r'.num:Int),.slice A' r'.data.length c'] 217);have K23:=(K2.later b1).alloc (.cells #[.int .i64 (r'.kind:Int),.int .u32 (r'.num:Int),.slice A' r'.data.length c'] 217);have b3:=below_step hbel (below_step b1 (alloc_one w1 (.cells #[.int .i64 (r'.kind:Int),.int .u32 (r'.num:Int),.slice A' r'.data.length c'] 217)) (Nat.le_refl _)) (Nat.le_refl _);have M3:=(Blk.new w1 217 #[.int .i64 (r'.kind:Int),.int .u32 (r'.num:Int),.slice A' r'.data.length c']).three;rw [hRz];clear hp P PP C o1;have C3:=K3.six;have hcut:=fun w2=>run_cut_rest etb A n c e hen .i64 w2
     simp only [Nat.mul_one] at hcut;have X3:=Lib.hid ((HB.out.below (b3.mono HBB.out)).drop hen);have hsz:=b3.size;have BL:=Lib.hid (fun (w2:World) (h:Below w.heap.size w w2)=>recBlank_any w2 ((HB.out.below (h.mono HBB.out)).drop hen));generalize hA2:(if c=e then A else A.map (·.add e))=A2 at *;generalize hnx:n - e=nx at *;generalize hcx:c - e=cx at *;have hle2:decide (e≤n)=true:=decide_eq_true hen;have i0:(0:Int)≤(e:Int):=by omega
     have i1:(e:Int)≤(n:Int):=by omega
     clear hA2 hnx hcx;unfold lkA at C3 K3;go_wp2_with fail
     refine (BL.out _ b3).mono ?_;rintro ee w4 ⟨rfl,rfl⟩;have K4:Blk ((w1.alloc (.cells #[.int .i64 (r'.kind:Int),.int .u32 (r'.num:Int),.slice A' r'.data.length c'] 217)).setCell ⟨w.heap.size + 1,5,none⟩ (.bool (blankB (b.drop e)))) (w.heap.size + 1) 265 #[.int .i64 (r.kind:Int),.int .u32 (r.num:Int),.slice A1 r.data.length d,.int .i64 (k:Int),.int .i64 (e:Int),.bool (blankB (b.drop e))]:=K3.set_ 5 _;have K24:=K23.far (p:=⟨w.heap.size + 1,5,none⟩) (by show w.heap.size≠w.heap.size + 1; omega) (.bool (blankB (b.drop e)));have O4:=O3.far (g:=w.heap.size + 1) (by omega) 5 (.bool (blankB (b.drop e)));have b4:=b3.setCell (p:=⟨w.heap.size + 1,5,none⟩) (by show w.heap.size≤w.heap.size + 1; omega) (.bool (blankB (b.drop e)));have C4:=K4.six;have C24:=K24.six;obtain ⟨wz,hwz,⟨s0,s1,s2,s3,s4,s5⟩,hof⟩:=of_end HD.out K24 O4 b4;have HZ:=Lib.hid hwz;have HO:=Lib.hid hof;clear hwz hof;go_wp2_with fail
     rw [HZ.out,Exit.noGoto_ret];exact bodyPost_ret (v:=.agg #[.int .i64 (r.kind:Int),.int .u32 (r.num:Int),.slice A1 r.data.length d,.int .i64 (k:Int),.int .i64 (e:Int),.bool (blankB (b.drop e))]) (by simp [results,Tryz.results238,go_sem,s0,s1,s2,s3,s4,s5]) rfl HO.out
    ·have el:((r.num:Int) == 4294967295)=false:=by
      cases hx:((r.num:Int) == 4294967295) with
      | false=>rfl
      | true=>exact absurd (by simpa using hx) (by omega)
     have hne:r'.num≠r.num + 1:=by
      rcases hbrk.2 with h | h
      ·exact absurd h hlast
      ·exact h
     have q2:((r.num:Int) + 1) % 4294967296=(r.num:Int) + 1:=by omega
     have q3:((r'.num:Int) != (r.num:Int) + 1)=true:=by
      rw [bne_iff_ne]; omega
     clear hbrk hlast hne;unfold lkA at C;go_wp2_with fail
     refine (P.out).mono ?_;intro ee w1 hp;obtain ⟨A',c',rfl,o1,b1⟩:=PP.out _ _ hp;have hRz:recV r' A' c'=.agg #[.int .i64 (r'.kind:Int),.int .u32 (r'.num:Int),.slice A' r'.data.length c']:=rfl;have K3:=(K.later b1).alloc (.cells #[.int .i64 (r'.kind:Int),.int .u32 (r'.num:Int),.slice A' r'.data.length c'] 217);have O3:=(O.below b1).alloc (.cells #[.int .i64 (r'.kind:Int),.int .u32 (r'.num:Int),.slice A' r'.data.length c'] 217);have K23:=(K2.later b1).alloc (.cells #[.int .i64 (r'.kind:Int),.int .u32 (r'.num:Int),.slice A' r'.data.length c'] 217);have b3:=below_step hbel (below_step b1 (alloc_one w1 (.cells #[.int .i64 (r'.kind:Int),.int .u32 (r'.num:Int),.slice A' r'.data.length c'] 217)) (Nat.le_refl _)) (Nat.le_refl _);have M3:=(Blk.new w1 217 #[.int .i64 (r'.kind:Int),.int .u32 (r'.num:Int),.slice A' r'.data.length c']).three;rw [hRz];clear hp P PP C o1;have C3:=K3.six;have hcut:=fun w2=>run_cut_rest etb A n c e hen .i64 w2
     simp only [Nat.mul_one] at hcut;have X3:=Lib.hid ((HB.out.below (b3.mono HBB.out)).drop hen);have hsz:=b3.size;have BL:=Lib.hid (fun (w2:World) (h:Below w.heap.size w w2)=>recBlank_any w2 ((HB.out.below (h.mono HBB.out)).drop hen));generalize hA2:(if c=e then A else A.map (·.add e))=A2 at *;generalize hnx:n - e=nx at *;generalize hcx:c - e=cx at *;have hle2:decide (e≤n)=true:=decide_eq_true hen;have i0:(0:Int)≤(e:Int):=by omega
     have i1:(e:Int)≤(n:Int):=by omega
     clear hA2 hnx hcx;unfold lkA at C3 K3;go_wp2_with fail
     refine (BL.out _ b3).mono ?_;rintro ee w4 ⟨rfl,rfl⟩;have K4:Blk ((w1.alloc (.cells #[.int .i64 (r'.kind:Int),.int .u32 (r'.num:Int),.slice A' r'.data.length c'] 217)).setCell ⟨w.heap.size + 1,5,none⟩ (.bool (blankB (b.drop e)))) (w.heap.size + 1) 265 #[.int .i64 (r.kind:Int),.int .u32 (r.num:Int),.slice A1 r.data.length d,.int .i64 (k:Int),.int .i64 (e:Int),.bool (blankB (b.drop e))]:=K3.set_ 5 _;have K24:=K23.far (p:=⟨w.heap.size + 1,5,none⟩) (by show w.heap.size≠w.heap.size + 1; omega) (.bool (blankB (b.drop e)));have O4:=O3.far (g:=w.heap.size + 1) (by omega) 5 (.bool (blankB (b.drop e)));have b4:=b3.setCell (p:=⟨w.heap.size + 1,5,none⟩) (by show w.heap.size≤w.heap.size + 1; omega) (.bool (blankB (b.drop e)));have C4:=K4.six;have C24:=K24.six;obtain ⟨wz,hwz,⟨s0,s1,s2,s3,s4,s5⟩,hof⟩:=of_end HD.out K24 O4 b4;have HZ:=Lib.hid hwz;have HO:=Lib.hid hof;clear hwz hof;go_wp2_with fail
     rw [HZ.out,Exit.noGoto_ret];exact bodyPost_ret (v:=.agg #[.int .i64 (r.kind:Int),.int .u32 (r.num:Int),.slice A1 r.data.length d,.int .i64 (k:Int),.int .i64 (e:Int),.bool (blankB (b.drop e))]) (by simp [results,Tryz.results238,go_sem,s0,s1,s2,s3,s4,s5]) rfl HO.out
   ·obtain ⟨f',rfl,g1,g2⟩:=GO.out hbrk
    clear GO STOP
    by_cases hk0:0 < k
    ·have ek:decide ((k:Int) > 0)=true:=decide_eq_true (by omega)
     have ek':decide (0 < k)=true:=decide_eq_true hk0;have hlast:r.num≠4294967295:=fun h=>hbrk ⟨hk0,.inl h⟩
     have hne:r'.num=r.num + 1:=Classical.byContradiction fun h=>hbrk ⟨hk0,.inr h⟩
     have el:((r.num:Int) == 4294967295)=false:=by
      cases hx:((r.num:Int) == 4294967295) with
      | false=>rfl
      | true=>exact absurd (by simpa using hx) (by omega)
     have q2:((r.num:Int) + 1) % 4294967296=(r.num:Int) + 1:=by omega
     have q3:((r'.num:Int) != (r.num:Int) + 1)=false:=by
      rw [hne]; simp
     clear hbrk hlast hne;unfold lkA at C;have q4:IntKind.i64.wrap ((k:Int) + 1)=(k:Int) + 1:=IntWalk.i64_in _ (by omega);have q5:wrap64 ((k:Int) + 1)=(k:Int) + 1:=IntWalk.wrap64_in _ (by omega);go_wp2_with fail
     refine (P.out).mono ?_;intro ee w1 hp;obtain ⟨A',c',rfl,o1,b1⟩:=PP.out _ _ hp;have hRz:recV r' A' c'=.agg #[.int .i64 (r'.kind:Int),.int .u32 (r'.num:Int),.slice A' r'.data.length c']:=rfl;have K3:=(K.later b1).alloc (.cells #[.int .i64 (r'.kind:Int),.int .u32 (r'.num:Int),.slice A' r'.data.length c'] 217);have K23:=(K2.later b1).alloc (.cells #[.int .i64 (r'.kind:Int),.int .u32 (r'.num:Int),.slice A' r'.data.length c'] 217);have b3:=below_step hbel (below_step b1 (alloc_one w1 (.cells #[.int .i64 (r'.kind:Int),.int .u32 (r'.num:Int),.slice A' r'.data.length c'] 217)) (Nat.le_refl _)) (Nat.le_refl _);have M3:=(Blk.new w1 217 #[.int .i64 (r'.kind:Int),.int .u32 (r'.num:Int),.slice A' r'.data.length c']).three;have o3:=(o1.alloc (.cells #[.int .i64 (r'.kind:Int),.int .u32 (r'.num:Int),.slice A' r'.data.length c'] 217)).more hwr2;rw [hRz];unfold lkA at K3;have KN:=of_step K3 (.int .i64 (r'.kind:Int)) (.int .u32 (r'.num:Int)) (.slice A' r'.data.length c') (.int .i64 (e':Int)) (.int .i64 ((k:Int) + 1));obtain ⟨wn,hwn,KW,mn⟩:=KN;have HN:=Lib.hid hwn;have C3:=K3.six;clear hp P PP C o1 hwn;go_wp2_with fail
     rw [HN.out];rw [show ((k:Int) + 1)=((k + 1:Nat):Int) by omega] at KW;go_roundw
     case rel=>exact ⟨k + 1,e',r',A',c',f',⟨g1,g2,he2,hk13,hr1,K23.mv mn (Nat.ne_of_lt (Nat.lt_succ_self _)),KW,o3.mvd mn (fun q h1 _ h3=>absurd h1 (by rw [show q=w.heap.size + 1 from h3]; exact Nat.not_le_of_lt (Nat.lt_succ_self _))),b3.trans (mn.below b3.size (fun q h2=>by rw [show q=w.heap.size + 1 from h2]; exact Nat.le_succ _))⟩⟩
     case measure=>rw [KW.six.1.2.2.2.2.1,HMS.out]; simp only [Option.getD_some,intOf,Int.toNat_natCast]; omega
    ·have ek:decide ((k:Int) > 0)=false:=decide_eq_false (by omega)
     have ek':decide (0 < k)=false:=decide_eq_false hk0;clear hbrk q1;unfold lkA at C;have q4:IntKind.i64.wrap ((k:Int) + 1)=(k:Int) + 1:=IntWalk.i64_in _ (by omega);have q5:wrap64 ((k:Int) + 1)=(k:Int) + 1:=IntWalk.wrap64_in _ (by omega);go_wp2_with fail
     refine (P.out).mono ?_;intro ee w1 hp;obtain ⟨A',c',rfl,o1,b1⟩:=PP.out _ _ hp;have hRz:recV r' A' c'=.agg #[.int .i64 (r'.kind:Int),.int .u32 (r'.num:Int),.slice A' r'.data.length c']:=rfl;have K3:=(K.later b1).alloc (.cells #[.int .i64 (r'.kind:Int),.int .u32 (r'.num:Int),.slice A' r'.data.length c'] 217);have K23:=(K2.later b1).alloc (.cells #[.int .i64 (r'.kind:Int),.int .u32 (r'.num:Int),.slice A' r'.data.length c'] 217);have b3:=below_step hbel (below_step b1 (alloc_one w1 (.cells #[.int .i64 (r'.kind:Int),.int .u32 (r'.num:Int),.slice A' r'.data.length c'] 217)) (Nat.le_refl _)) (Nat.le_refl _);have M3:=(Blk.new w1 217 #[.int .i64 (r'.kind:Int),.int .u32 (r'.num:Int),.slice A' r'.data.length c']).three;have o3:=(o1.alloc (.cells #[.int .i64 (r'.kind:Int),.int .u32 (r'.num:Int),.slice A' r'.data.length c'] 217)).more hwr2;rw [hRz];unfold lkA at K3;have KN:=of_step K3 (.int .i64 (r'.kind:Int)) (.int .u32 (r'.num:Int)) (.slice A' r'.data.length c') (.int .i64 (e':Int)) (.int .i64 ((k:Int) + 1));obtain ⟨wn,hwn,KW,mn⟩:=KN;have HN:=Lib.hid hwn;have C3:=K3.six;clear hp P PP C o1 hwn;go_wp2_with fail
     rw [HN.out];rw [show ((k:Int) + 1)=((k + 1:Nat):Int) by omega] at KW;go_roundw
     case rel=>exact ⟨k + 1,e',r',A',c',f',⟨g1,g2,he2,hk13,hr1,K23.mv mn (Nat.ne_of_lt (Nat.lt_succ_self _)),KW,o3.mvd mn (fun q h1 _ h3=>absurd h1 (by rw [show q=w.heap.size + 1 from h3]; exact Nat.not_le_of_lt (Nat.lt_succ_self _))),b3.trans (mn.below b3.size (fun q h2=>by rw [show q=w.heap.size + 1 from h2]; exact Nat.le_succ _))⟩⟩
     case measure=>rw [KW.six.1.2.2.2.2.1,HMS.out]; simp only [Option.getD_some,intOf,Int.toNat_natCast]; omega
end Go.Proofs.YtijegngfclkdaaaGreatDoor
namespace Go.Proofs.YtijegngfclkdaaaGreatDoor
open Go.RowKit
theorem etlk:ET Tryz.prog 259 265 6 64 (.agg #[.int .i64 0,.int .u32 0,.slice none 0 0,.int .i64 0,.int .i64 0,.bool false]):=⟨Tryz.underlying259,info_parts (by kernel_rfl),rfl,by decide⟩
def lkL (f:Jr.Look) (A:Option Addr) (c:Nat):List Value:=[.int .i64 (f.last.kind:Int),.int .u32 (f.last.num:Int),.slice A f.last.data.length c,.int .i64 (f.count:Int),.int .i64 (f.fin:Int),.bool f.clean]
theorem lk_oneCell (f:Jr.Look) (A:Option Addr) (c:Nat):∀ u∈lkL f A c,u.oneCell'=true:=by
 intro u hu;simp only [lkL,List.mem_cons,List.not_mem_nil,or_false] at hu;rcases hu with rfl | rfl | rfl | rfl | rfl | rfl <;> rfl
def LkB (w:World) (base:Nat) (f:Jr.Look) (cs:List Value):Prop:=∃ A c,cs=lkL f A c∧OB w base A f.last.data.length c f.last.data
def LkP (w:World) (F:Nat→Prop) (f:Jr.Look) (cs:List Value):Prop:=∃ A c,cs=lkL f A c∧RBp w F A f.last.data.length c f.last.data
section
variable {w w':World} {base base' g i size n c:Nat} {t e':TypeId} {f:Jr.Look} {cs xs:List Value} {A:Option Addr} {ds:Array Value} {u:Value} {F G:Nat→Prop}
theorem LkB.below (h:LkB w base f cs) (hb:Below w.heap.size w w'):LkB w' base f cs:=by obtain ⟨A,c,h1,h2⟩:=h; exact ⟨A,c,h1,h2.below hb⟩
theorem LkB.beside (h:LkB w base f cs) (h':OV w base' e' size A n c xs) (hne:e'≠5) (hg:w.grownBy w' (Value.slice A n c).ownBlock):LkB w' base f cs:=by obtain ⟨A1,c1,h1,h2⟩:=h; exact ⟨A1,c1,h1,h2.beside h' hne hg⟩
theorem LkB.off (h:LkB w base f cs) (hb:Blk w g t ds) (ht:t≠5):LkB (w.setCell ⟨g,i,none⟩ u) base f cs:=by obtain ⟨A1,c1,h1,h2⟩:=h; exact ⟨A1,c1,h1,h2.off hb ht⟩
theorem LkB.q (h:LkB w base f cs):LkQ f cs:=by obtain ⟨A1,c1,h1,_⟩:=h; exact ⟨A1,_,c1,h1⟩
theorem LkP.q (h:LkP w F f cs):LkQ f cs:=by obtain ⟨A1,c1,h1,_⟩:=h; exact ⟨A1,_,c1,h1⟩
theorem LkP.mv (h:LkP w F f cs) (hm:Mv G w w') (hd:∀ b,b < w.heap.size→F b→¬ G b):LkP w' F f cs:=by obtain ⟨A,c,h1,h2⟩:=h; exact ⟨A,c,h1,h2.mv hm hd⟩
theorem LkP.mono (h:LkP w F f cs) (hi:∀ b,b < w.heap.size→F b→G b):LkP w G f cs:=by obtain ⟨A,c,h1,h2⟩:=h; exact ⟨A,c,h1,h2.mono hi⟩
end
def jrC (A:Option Addr) (k c now:Nat) (has:Bool) (gf:Nat) (dead:Bool):Array Value:=#[.slice A k c,.int .i64 (now:Int),.bool has,.pointer (some ⟨gf,0,none⟩),.bool dead]
structure JnM (w:World) (base gj:Nat) (A:Option Addr) (k c:Nat) (L:List Jr.Look) (now:Nat) (has:Bool) (gf:Nat) (dead:Bool):Prop where
 gb:base≤gj
 blk:Blk w gj 263 (jrC A k c now has gf dead)
 row:OS (LkB w base) w base 265 6 A k c L
structure JoM (w:World) (F:Nat→Prop) (gj gl:Nat) (A:Option Addr) (c:Nat) (xs:List Value) (L:List Jr.Look) (now:Nat) (has:Bool) (gf:Nat) (dead:Bool):Prop where
 fg:F gj
 ne:gj≠gl
 blk:Blk w gj 263 (jrC A L.length c now has gf dead)
 own:OV w 0 265 6 A L.length c xs
 at_:∀ k,(Value.slice A L.length c).ownBlock=some k→k=gl∧F gl
 rows:Rows (LkP w (Fx F gj gl)) 6 L xs
section
variable {w w':World} {base gj gl k c now gf:Nat} {A:Option Addr} {L:List Jr.Look} {has dead:Bool} {xs:List Value} {F G:Nat→Prop}
theorem JnM.below (h:JnM w base gj A k c L now has gf dead) (hb:Below w.heap.size w w'):JnM w' base gj A k c L now has gf dead:=⟨h.gb,h.blk.later hb,OS.below h.row hb fun _ _ k=>k.below hb⟩
theorem JnM.add (h:JnM w base gj A k c L now has gf dead) {A1:Option Addr} {k1 c1:Nat} {L':List Jr.Look} (hrow:OS (LkB w' base) w' base 265 6 A1 k1 c1 L') (hg:w.grownBy w' (Value.slice A k c).ownBlock) :
  JnM (w'.setCell ⟨gj,0,none⟩ (.slice A1 k1 c1)) base gj A1 k1 c1 L' now has gf dead:=by
 have hr:=h.row;obtain ⟨xs0,r0,_⟩:=hr;have hb:Blk w' gj 263 (jrC A k c now has gf dead):=h.blk.beside r0 (by decide) hg;refine ⟨h.gb,hb.set_ 0 _,?_⟩;obtain ⟨ys,o1,o2⟩:=hrow;exact ⟨ys,o1.off hb (by decide),o2.imp fun _ _ k=>k.off hb (by decide)⟩
theorem JnM.set_ (h:JnM w base gj A k c L now has gf dead) {i:Nat} {u:Value} {now':Nat} {has' dead':Bool} (hc:(jrC A k c now has gf dead).setIfInBounds i u=jrC A k c now' has' gf dead'):JnM (w.setCell ⟨gj,i,none⟩ u) base gj A k c L now' has' gf dead':=by
 refine ⟨h.gb,by rw [← hc]; exact h.blk.set_ i u,?_⟩;obtain ⟨ys,o1,o2⟩:=h.row;exact ⟨ys,o1.off h.blk (by decide),o2.imp fun _ _ k=>k.off h.blk (by decide)⟩
theorem JnM.five (h:JnM w base gj A k c L now has gf dead):(w.cell? ⟨gj,0,none⟩=some (.slice A k c)∧w.cell? ⟨gj,1,none⟩=some (.int .i64 (now:Int))∧w.cell? ⟨gj,2,none⟩=some (.bool has)∧w.cell? ⟨gj,3,none⟩=some (.pointer (some ⟨gf,0,none⟩))∧w.cell? ⟨gj,4,none⟩=some (.bool dead)) ∧
  (w.frozen? ⟨gj,0,none⟩=false∧w.frozen? ⟨gj,1,none⟩=false∧w.frozen? ⟨gj,2,none⟩=false∧w.frozen? ⟨gj,3,none⟩=false∧w.frozen? ⟨gj,4,none⟩=false) :=
 ⟨⟨h.blk.cell 0,h.blk.cell 1,h.blk.cell 2,h.blk.cell 3,h.blk.cell 4⟩,h.blk.frozen 0,h.blk.frozen 1,h.blk.frozen 2,h.blk.frozen 3,h.blk.frozen 4⟩
theorem JnM.looks (h:JnM w base gj A k c L now has gf dead):RS LkQ w w.heap.size 6 A k c L:=by
 obtain ⟨ys,o1,o2⟩:=h.row;exact ⟨ys,o1.rv,o2.imp fun _ _ k=>k.q⟩
theorem JnM.made (h:JnM w base gj A k c L now has gf dead) (hk:L.length=k) (h0:0 < k):∃ gl xs,JoM w (fun q=>base≤q) gj gl A c xs L now has gf dead:=by
 obtain ⟨xs,r1,r2⟩:=h.row;subst hk;obtain ⟨gl,e,hgl,hgl'⟩:=r1.head h0;subst e;have hne:gj≠gl:=fun e=>own_blk_ne r1 h.blk (by decide) (by rw [e]; rfl)
 refine ⟨gl,xs,{ fg:=h.gb,ne:=hne,blk:=h.blk,own:=r1.more (Nat.zero_le _),at_:=fun k hk=>?_,rows:=r2.imp fun f cs hf=>?_ }⟩
 ·have:k=gl:=by simpa [Value.ownBlock] using hk.symm
  exact ⟨this,hgl⟩
 ·obtain ⟨A1,c1,e1,e2⟩:=hf
  refine ⟨A1,c1,e1,e2.rbp fun k hk=>⟨(e2.lt k hk).1,fun e=>own_blk_ne e2 h.blk (by decide) (by rw [hk,e]),fun e=>?_⟩⟩;rcases own_own_ne r1 e2 (by decide) with h5 | h5
  ·rw [h5] at hk; cases hk
  ·exact h5 (by rw [hk,e]; rfl)
theorem JoM.mv (h:JoM w F gj gl A c xs L now has gf dead) (hm:Mv G w w') (hd:∀ b,b < w.heap.size→F b→¬ G b):JoM w' F gj gl A c xs L now has gf dead :=
 {fg:=h.fg,ne:=h.ne,blk:=h.blk.mv hm (hd gj h.blk.lt h.fg)
  own:=by
   refine ⟨h.own.1,?_⟩;rcases h.own.2 with h2 | ⟨k,cap,cur,hv,hg,hh,r⟩
   ·exact .inl h2
   ·have hk:=h.at_ k (by rw [hv]; rfl)
    have hlt:k < w.heap.size:=(Array.getElem?_eq_some_iff.1 hh).1;exact .inr ⟨k,cap,cur,hv,hg,(hm.block k hlt (hd k hlt (by rw [hk.1]; exact hk.2))).trans hh,r⟩
  at_:=h.at_,rows:=h.rows.imp fun _ _ k=>k.mv hm fun b hb hf=>hd b hb hf.1 }
theorem JoM.below (h:JoM w F gj gl A c xs L now has gf dead) (hb:Below w.heap.size w w'):JoM w' F gj gl A c xs L now has gf dead:=h.mv (Mv.of_new hb fun _=>False) fun _ _ _ h=>h
theorem JoM.mono (h:JoM w F gj gl A c xs L now has gf dead) (hi:∀ b,b < w.heap.size→F b→G b):JoM w G gj gl A c xs L now has gf dead :=
 {fg:=hi gj h.blk.lt h.fg,ne:=h.ne,blk:=h.blk,own:=h.own
  at_:=fun k hk=>⟨(h.at_ k hk).1,hi gl (by have:=(h.own.lt k hk).2; rw [(h.at_ k hk).1] at this; exact this) (h.at_ k hk).2⟩
  rows:=h.rows.imp fun _ _ k=>k.mono fun b hb hf=>⟨hi b hb hf.1,hf.2⟩ }
theorem JoM.five (h:JoM w F gj gl A c xs L now has gf dead):(w.cell? ⟨gj,0,none⟩=some (.slice A L.length c)∧w.cell? ⟨gj,1,none⟩=some (.int .i64 (now:Int))∧w.cell? ⟨gj,2,none⟩=some (.bool has)∧w.cell? ⟨gj,3,none⟩=some (.pointer (some ⟨gf,0,none⟩))∧w.cell? ⟨gj,4,none⟩=some (.bool dead)) ∧
  (w.frozen? ⟨gj,0,none⟩=false∧w.frozen? ⟨gj,1,none⟩=false∧w.frozen? ⟨gj,2,none⟩=false∧w.frozen? ⟨gj,3,none⟩=false∧w.frozen? ⟨gj,4,none⟩=false) :=
 ⟨⟨h.blk.cell 0,h.blk.cell 1,h.blk.cell 2,h.blk.cell 3,h.blk.cell 4⟩,h.blk.frozen 0,h.blk.frozen 1,h.blk.frozen 2,h.blk.frozen 3,h.blk.frozen 4⟩
theorem JoM.looks (h:JoM w F gj gl A c xs L now has gf dead):RS LkQ w w.heap.size 6 A L.length c L:=⟨xs,h.own.rv,h.rows.imp fun _ _ k=>k.q⟩
end
end Go.Proofs.YtijegngfclkdaaaGreatDoor
