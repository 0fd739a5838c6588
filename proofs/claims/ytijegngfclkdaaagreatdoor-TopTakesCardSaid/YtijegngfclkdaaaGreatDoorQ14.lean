/-
  Piece 14 of the proof.
  Conditions: none.
-/
import Derived.Test.YtijegngfclkdaaaGreatDoorQ13
set_option linter.unusedVariables false
set_option linter.unusedSimpArgs false
set_option maxHeartbeats 100000000
set_option maxRecDepth 100000
namespace Go.Proofs.YtijegngfclkdaaaGreatDoor
section
open Go.RowKit
theorem uQ (e:aD.En) (A:Option Addr) (n c:Nat) {A':Option Addr} {n' c' B:Nat} {l:List UInt8} (w:World) (hb:RB w B A' n' c' l) (hB:B<=w.heap.size):Calls Tryz.prog 89 #[gO e A n c,.slice A' n' c'] w fun x w'=>x=.returned (.int .u32 (aD.cE e l))/\Below w.heap.size w w':=by
 obtain ⟨ix,sb,nm,ty,ac,mp,st,mx,lo,hi,df⟩:=e;unfold gO;dsimp only;have D:=kf ty (w.alloc (.cells #[.int .i64 ix,.int .i64 sb,.string (T nm),.int .i64 ty,.int .i64 ac,.bool mp,.bool st,.int .i64 mx,.int .i64 lo,.int .i64 hi,.slice A n c] 27)) (hb.alloc hB _) (by simp; omega);have hv:aD.cE ⟨ix,sb,nm,ty,ac,mp,st,mx,lo,hi,df⟩ l=if (Ty.cV ty l).2=2 then 101122067 else if (Ty.cV ty l).2=3 then 101122066 else if (Ty.cV ty l).2≠0 then 101253168 else if (Ty.cV ty l).1 < lo then 101253170 else if hi < (Ty.cV ty l).1 then 101253169 else 0:=rfl
 rw [hv];generalize (Ty.cV ty l).1=z at *;generalize (Ty.cV ty l).2=f at *;replace D:=zq D;clear hv hb
 by_cases h2:f=2
 ·subst h2
  rw [if_pos rfl];go_enter Tryz.func89,Tryz.ntmps89
  go_wp2_with fail
  refine (D.out).mono ?_;rintro e w1 ⟨rfl,b1⟩;have K1:=(ao.made b1).aA;have d1:=aa (ae _ _) b1 lq;go_wp2_with fail
  go_ret
  exact ⟨rfl,d1⟩
 rw [if_neg h2];have e2:(f == 2)=false:=beq_false_of_ne h2
 by_cases h3:f=3
 ·subst h3
  rw [if_pos rfl];go_enter Tryz.func89,Tryz.ntmps89
  go_wp2_with fail
  refine (D.out).mono ?_;rintro e w1 ⟨rfl,b1⟩;have K1:=(ao.made b1).aA;have d1:=aa (ae _ _) b1 lq;go_wp2_with fail
  go_ret
  exact ⟨rfl,d1⟩
 rw [if_neg h3];have e3:(f == 3)=false:=beq_false_of_ne h3
 by_cases h0:f=0
 ·subst h0
  rw [if_neg (by decide)]
  by_cases h4:z < lo
  ·rw [if_pos h4]
   go_enter Tryz.func89,Tryz.ntmps89
   go_wp2_with fail
   refine (D.out).mono ?_;rintro e w1 ⟨rfl,b1⟩;have K1:=(ao.made b1).aA;have d1:=aa (ae _ _) b1 lq;go_wp2_with fail
   go_ret
   exact ⟨rfl,d1⟩
  rw [if_neg h4]
  by_cases h5:hi < z
  ·rw [if_pos h5]
   go_enter Tryz.func89,Tryz.ntmps89
   go_wp2_with fail
   refine (D.out).mono ?_;rintro e w1 ⟨rfl,b1⟩;have K1:=(ao.made b1).aA;have d1:=aa (ae _ _) b1 lq;go_wp2_with fail
   go_ret
   exact ⟨rfl,d1⟩
  rw [if_neg h5];go_enter Tryz.func89,Tryz.ntmps89
  go_wp2_with fail
  refine (D.out).mono ?_;rintro e w1 ⟨rfl,b1⟩;have K1:=(ao.made b1).aA;have d1:=aa (ae _ _) b1 lq;go_wp2_with fail
  go_ret
  exact ⟨rfl,d1⟩
 rw [if_pos h0];have e0:(f != 0)=true:=by simpa using h0
 have Sl:(f == 0)=false:=beq_false_of_ne h0;clear h2 h3 h0;go_enter Tryz.func89,Tryz.ntmps89
 go_wp2_with fail
 refine (D.out).mono ?_;rintro e w1 ⟨rfl,b1⟩;have K1:=(ao.made b1).aA;have d1:=aa (ae _ _) b1 lq;go_wp2_with fail
 go_ret
 exact ⟨rfl,d1⟩
theorem ga (e:aD.En) (A:Option Addr) (n c:Nat) {A':Option Addr} {n' c' B:Nat} {l:List UInt8} (w:World) (hb:RB w B A' n' c' l) (hB:B<=w.heap.size):Calls Tryz.prog 59 #[gO e A n c,.slice A' n' c'] w fun x w'=>x=.returned (.int .u32 (aD.cJ e l))/\Below w.heap.size w w':=by
 have hval:aD.cJ e l=if 0 < (Ty.kd e.type).bits then aD.cE e l else if Ty.ar e.type e.max l=0 then 0 else if Ty.ar e.type e.max l=3 then 101122066 else if Ty.ar e.type e.max l=4 then 101253168 else 100925511:=rfl
 rw [hval];have N:=fun (w1:World) (h:Below w.heap.size w w1)=>uQ e A n c w1 (hb.below (h.mono hB)) (Nat.le_trans hB h.size)
 have C:=fun (w1:World) (h:Below w.heap.size w w1)=>AS e.type e.max w1 (hb.below (h.mono hB)) (Nat.le_trans hB h.size)
 generalize aD.cE e l=num at *;generalize Ty.ar e.type e.max l=ck at *;obtain ⟨ix,sb,nm,ty,ac,mp,st,mx,lo,hi,df⟩:=e;unfold gO;unfold gO at N;dsimp only at *;have TB:=fun w=>qm ty w
 replace N:=zq N; replace C:=zq C; replace TB:=zq TB;clear hval hb;generalize (Ty.kd ty).bits=bt at *
 by_cases hbt:0 < bt
 ·rw [if_pos hbt]
  go_enter Tryz.func59,Tryz.ntmps59
  go_wp2_with fail
  refine (TB.out _).mono ?_;rintro e w1 ⟨rfl,b1⟩;have K1:=(ao.made b1).aA;have d1:=aa (ae _ _) b1 lq;go_wp2_with fail
  refine (N.out _ d1).mono ?_;rintro e w2 ⟨rfl,b2⟩;go_wp2_with fail
  go_ret
  exact ⟨rfl,aa d1 b2 lq⟩
 rw [if_neg hbt];have Zq:bt=0:=by omega
 subst Zq;clear hbt
 by_cases h0:ck=0
 ·subst h0
  simp only [Int.reduceEq,if_true,if_false];go_enter Tryz.func59,Tryz.ntmps59
  go_wp2_with fail
  refine (TB.out _).mono ?_;rintro e w1 ⟨rfl,b1⟩;have K1:=(ao.made b1).aA;have d1:=aa (ae _ _) b1 lq;go_wp2_with fail
  refine (C.out _ d1).mono ?_;rintro e w2 ⟨rfl,b2⟩;go_wp2_with fail
  go_ret
  exact ⟨rfl,aa d1 b2 lq⟩
 by_cases h3:ck=3
 ·subst h3
  simp only [Int.reduceEq,if_true,if_false];go_enter Tryz.func59,Tryz.ntmps59
  go_wp2_with fail
  refine (TB.out _).mono ?_;rintro e w1 ⟨rfl,b1⟩;have K1:=(ao.made b1).aA;have d1:=aa (ae _ _) b1 lq;go_wp2_with fail
  refine (C.out _ d1).mono ?_;rintro e w2 ⟨rfl,b2⟩;go_wp2_with fail
  go_ret
  exact ⟨rfl,aa d1 b2 lq⟩
 by_cases h4:ck=4
 ·subst h4
  simp only [Int.reduceEq,if_true,if_false];go_enter Tryz.func59,Tryz.ntmps59
  go_wp2_with fail
  refine (TB.out _).mono ?_;rintro e w1 ⟨rfl,b1⟩;have K1:=(ao.made b1).aA;have d1:=aa (ae _ _) b1 lq;go_wp2_with fail
  refine (C.out _ d1).mono ?_;rintro e w2 ⟨rfl,b2⟩;go_wp2_with fail
  go_ret
  exact ⟨rfl,aa d1 b2 lq⟩
 rw [if_neg h0,if_neg h3,if_neg h4];have e0:(ck == 0)=false:=beq_false_of_ne h0;have e3:(ck == 3)=false:=beq_false_of_ne h3;have e4:(ck == 4)=false:=beq_false_of_ne h4;clear h0 h3 h4;go_enter Tryz.func59,Tryz.ntmps59
 go_wp2_with fail
 refine (TB.out _).mono ?_;rintro e w1 ⟨rfl,b1⟩;have K1:=(ao.made b1).aA;have d1:=aa (ae _ _) b1 lq;go_wp2_with fail
 refine (C.out _ d1).mono ?_;rintro e w2 ⟨rfl,b2⟩;go_wp2_with fail
 go_ret
 exact ⟨rfl,aa d1 b2 lq⟩
theorem oS {F:Nat->Prop} {w:World} {g gv lc vc:Nat} {la:Addr} {vA:Option Addr} {xs vs:List Value} {D:Dc.aZ} (h:cM 131 w F g gv (some la) lc vA vc xs vs D):Calls Tryz.prog 131 #[.pointer (some ⟨g,0,none⟩)] w fun e w'=>e=.returned (.bool true)/\w=w':=by
 obtain ⟨t0,t1⟩:=h.two;go_enter Tryz.func131,Tryz.ntmps131
 go_wp2_with fail
 go_ret
 exact ⟨rfl,rfl⟩
theorem eY {F:Nat->Prop} {w:World} {g gv lc vc:Nat} {la:Addr} {vA:Option Addr} {xs vs:List Value} {D:Dc.aZ} (h:cM 131 w F g gv (some la) lc vA vc xs vs D):Calls Tryz.prog 87 #[.pointer (some ⟨g,0,none⟩)] w fun e w'=>e=.returned (.int .i64 (D.l.length:Int))/\w=w':=by
 obtain ⟨t0,t1⟩:=h.two;have T:=zq (oS h);go_enter Tryz.func87,Tryz.ntmps87
 go_wp2_with fail
 refine (T.out).mono ?_;rintro e w ⟨rfl,rfl⟩;go_wp2_with fail
 go_ret
 exact ⟨rfl,rfl⟩
theorem yW {F:Nat->Prop} {w:World} {g gv lc vc:Nat} {la:Addr} {vA:Option Addr} {xs vs:List Value} {D:Dc.aZ} (k:Nat) (x y:Int) (h:cM 131 w F g gv (some la) lc vA vc xs vs D):Calls Tryz.prog 86 #[.pointer (some ⟨g,0,none⟩),.int .i64 (k:Int),.int .i64 x,.int .i64 y] w fun e w'=>e=.returned (.bool (Dc.DB D.l k x y))/\w=w':=by
 have LN:=zq (eY h);obtain ⟨t0,t1⟩:=h.two;have hcap:=h.vt
 by_cases hk:k < D.l.length
 ·obtain ⟨b,o,A,n,c,hA,eT,hr,hc⟩:=h.entry hk
  have hv:Dc.DB D.l k x y=((D.l.getD k Dc.aI).index == x && (D.l.getD k Dc.aI).sub == y):=by
   unfold Dc.DB Dc.Pg;rw [decide_eq_true hk,Bool.true_and,Bool.eq_iff_iff];simp
  have c0:=hc 0 _ rfl;have c1:=hc 1 _ rfl;rw [hv];generalize (D.l.getD k Dc.aI).index=ix at *;generalize (D.l.getD k Dc.aI).sub=sb at *;injection hA with hA
  subst hA;simp only [Nat.add_zero] at c0;have HC:=zq hcap;clear hc hr hv h;generalize D.l.length=m at *;generalize hx1:(ix == x)=b1 at *;generalize hx2:(sb == y)=b2 at *;cases b1 <;> cases b2
  all_goals
   go_enter Tryz.func86,Tryz.ntmps86
   go_wp2_with fail
   refine (LN.out).mono ?_;rintro e w ⟨rfl,rfl⟩;go_wp2_with fail
   go_ret
   exact ⟨rfl,rfl⟩
 ·have hv:Dc.DB D.l k x y=false:=by unfold Dc.DB; rw [decide_eq_false hk]; rfl
  rw [hv];clear hv h;generalize D.l.length=m at *;go_enter Tryz.func86,Tryz.ntmps86
  go_wp2_with fail
  refine (LN.out).mono ?_;rintro e w ⟨rfl,rfl⟩;go_wp2_with fail
  go_ret
  exact ⟨rfl,rfl⟩
def fw (l:List aD.En) (z x:Int):Bool:=decide (0<=z/\z < (l.length:Int)) && ((l.getD z.toNat Dc.aI).index == x)
theorem zk {F:Nat->Prop} {w:World} {g gv lc vc:Nat} {la:Addr} {vA:Option Addr} {xs vs:List Value} {D:Dc.aZ} (z x y:Int) (h:cM 131 w F g gv (some la) lc vA vc xs vs D):Calls Tryz.prog 236 #[.pointer (some ⟨g,0,none⟩),.int .i64 z,.int .i64 x,.int .i64 y] w fun e w'=>e=.returned (.bool (fw D.l z x))/\w=w':=by
 have LN:=zq (eY h);obtain ⟨t0,t1⟩:=h.two;have hcap:=h.vt
 by_cases h0:z < 0
 ·have hv:fw D.l z x=false:=by unfold fw; rw [decide_eq_false (by omega)]; rfl
  rw [hv];clear hv h;generalize D.l.length=m at *;go_enter Tryz.func236,Tryz.ntmps236
  go_wp2_with fail
  go_ret
  exact ⟨rfl,rfl⟩
 obtain ⟨k,rfl⟩:∃ k:Nat,z=(k:Int):=⟨z.toNat,by omega⟩
 by_cases hk:k < D.l.length
 ·obtain ⟨b,o,A,n,c,hA,eT,hr,hc⟩:=h.entry hk
  have hv:fw D.l (k:Int) x=((D.l.getD k Dc.aI).index == x):=by
   unfold fw;rw [decide_eq_true (by omega),Int.toNat_natCast];rfl
  have c0:=hc 0 _ rfl;rw [hv];generalize (D.l.getD k Dc.aI).index=ix at *;injection hA with hA
  subst hA;simp only [Nat.add_zero] at c0;have HC:=zq hcap;clear hc hr hv h;generalize D.l.length=m at *;generalize hx1:(ix == x)=b1 at *;cases b1
  all_goals
   go_enter Tryz.func236,Tryz.ntmps236
   go_wp2_with fail
   refine (LN.out).mono ?_;rintro e w ⟨rfl,rfl⟩;go_wp2_with fail
   go_ret
   exact ⟨rfl,rfl⟩
 ·have hv:fw D.l (k:Int) x=false:=by unfold fw; rw [decide_eq_false (by omega)]; rfl
  rw [hv];clear hv h;generalize D.l.length=m at *;go_enter Tryz.func236,Tryz.ntmps236
  go_wp2_with fail
  refine (LN.out).mono ?_;rintro e w ⟨rfl,rfl⟩;go_wp2_with fail
  go_ret
  exact ⟨rfl,rfl⟩
theorem o9 {l:List aD.En} (ho:Dc.Ord l) {x y:Int} {i j:Nat} (hij:i<=j) (hj:j < l.length) (h:Dc.ahead x y (l.getD j Dc.aI)=true):Dc.ahead x y (l.getD i Dc.aI)=true:=by
 rcases Nat.eq_or_lt_of_le hij with h1 | h1
 ·subst h1; exact h
 ·exact Dc.dP.2 ((Dc.iz ho h1 hj).trans (Dc.dP.1 h))
theorem qf {l:List aD.En} (ho:Dc.Ord l) {x y:Int} {i j:Nat} (hij:i<=j) (hj:j < l.length) (h:Dc.ahead x y (l.getD i Dc.aI)=false):Dc.ahead x y (l.getD j Dc.aI)=false:=by
 cases ha:Dc.ahead x y (l.getD j Dc.aI) with
 | false=>rfl
 | true=>rw [o9 ho hij hj ha] at h; cases h
def U3 (x y:Int):aD.En:=⟨x,y,[],0,0,false,false,0,0,0,[]⟩
def ur (l:List aD.En) (x y:Int) (lo hi:Nat):Prop:=lo<=hi/\hi<=l.length/\(∀ j,j < lo->Dc.ahead x y (l.getD j Dc.aI)=true)/\∀ j,hi<=j->j < l.length->Dc.ahead x y (l.getD j Dc.aI)=false
theorem qF {F:Nat->Prop} {w:World} {g gv lc vc:Nat} {la:Addr} {vA:Option Addr} {xs vs:List Value} {D:Dc.aZ} (x y:Int) (h:cM 131 w F g gv (some la) lc vA vc xs vs D):Calls Tryz.prog 85 #[.pointer (some ⟨g,0,none⟩),.int .i64 x,.int .i64 y] w fun e w'=>e=.returned (.int .i64 (Dc.a_ D.l x y:Int))/\Below w.heap.size w w':=by
 have LN:=zq (eY (h.below (ae w (.cells #[.int .i64 x,.int .i64 y,.string ⟨#[]⟩,.int .i64 0,.int .i64 0,.bool false,.bool false,.int .i64 0,.int .i64 0,.int .i64 0,.slice none 0 0] 27))));have hcap:=h.vt;have Vh:=h.few;have Sm:=zq h.ord;have HS:Hid (ur D.l x y 0 D.l.length):=zq ⟨by omega,by omega,fun j hj=>absurd hj (by omega),fun j h1 h2=>absurd h2 (by omega)⟩;have Dm:∀ k,k<=D.l.length->ur D.l x y k k->k=Dc.a_ D.l x y:=fun k hk hs=>Dc.Jg h.ord hk hs.2.2.1 hs.2.2.2
 have HR2:=zq Dm;clear Dm;go_enter Tryz.func85,Tryz.ntmps85
 go_wp2_with fail
 refine (LN.out).mono ?_;rintro e w1 ⟨rfl,rfl⟩;have b0:=ae w (.cells #[.int .i64 x,.int .i64 y,.string ⟨#[]⟩,.int .i64 0,.int .i64 0,.bool false,.bool false,.int .i64 0,.int .i64 0,.int .i64 0,.slice none 0 0] 27);have K0:=ao.new w 27 #[.int .i64 x,.int .i64 y,.string ⟨#[]⟩,.int .i64 0,.int .i64 0,.bool false,.bool false,.int .i64 0,.int .i64 0,.int .i64 0,.slice none 0 0];clear LN;go_wp2_with fail
 go_loopw [8,9] (fun u v wr=>∃ lo hi:Nat,u=.int .i64 lo/\v=.int .i64 hi/\Hid (ur D.l x y lo hi)/\lo<=hi/\hi<=D.l.length/\ao wr w.heap.size 27 #[.int .i64 x,.int .i64 y,.string ⟨#[]⟩,.int .i64 0,.int .i64 0,.bool false,.bool false,.int .i64 0,.int .i64 0,.int .i64 0,.slice none 0 0]/\Below w.heap.size w wr) (fun u v _=>(intOf v).toNat - (intOf u).toNat)
 case atStart=>exact ⟨0,D.l.length,rfl,rfl,HS,by omega,by omega,K0,b0⟩
 case round =>
  obtain ⟨lo,hi,rfl,rfl,hs,hlh,Xn,K,bb⟩:=hrel
  by_cases hlt:lo < hi
  ·obtain ⟨m,hm⟩:∃ m:Nat,((lo:Int) + (hi:Int)) / 2=(m:Int):=⟨(lo + hi) / 2,by omega⟩
   have hm1:lo<=m:=by omega
   have hm2:m < hi:=by omega
   have h2:=h.below bb;obtain ⟨b,o,A,n,c,hA,eT,hr,hc⟩:=h2.entry (i:=m) (by omega);obtain ⟨t0,t1⟩:=h2.two;injection hA with hA
   subst hA;replace t0:=cell_regrown t0;have E:=K.aA;have B:=fun w=>py (D.l.getD m Dc.aI) (U3 x y) A none n c 0 0 w
   rw [show aD.mb (D.l.getD m Dc.aI) (U3 x y)=Dc.ahead x y (D.l.getD m Dc.aI) from rfl] at B;unfold gO U3 at B;dsimp only [show T []=(⟨#[]⟩:ByteArray) from rfl] at B;have c0:=cell_regrown (hc 0 _ rfl);have c1:=cell_regrown (hc 1 _ rfl);have c2:=cell_regrown (hc 2 _ rfl);have c3:=cell_regrown (hc 3 _ rfl);have c4:=cell_regrown (hc 4 _ rfl);have c5:=cell_regrown (hc 5 _ rfl);have c6:=cell_regrown (hc 6 _ rfl);have c7:=cell_regrown (hc 7 _ rfl);have c8:=cell_regrown (hc 8 _ rfl);have c9:=cell_regrown (hc 9 _ rfl);have c10:=cell_regrown (hc 10 _ rfl);simp only [Nat.add_zero] at c0;have hst:=hs.out;have H1:Dc.ahead x y (D.l.getD m Dc.aI)=true->ur D.l x y (m + 1) hi:=fun ha=>⟨by omega,Xn,fun j hj=>o9 Sm.out (show j<=m by omega) (by omega) ha,hst.2.2.2⟩
   have H2:Dc.ahead x y (D.l.getD m Dc.aI)=false->ur D.l x y lo m:=fun ha=>⟨hm1,by omega,hst.2.2.1,fun j h1 h2=>qf Sm.out h1 h2 ha⟩
   have d0:=cell_regrown E.1.1;have d1:=cell_regrown E.1.2.1;have d2:=cell_regrown E.1.2.2.1;have d3:=cell_regrown E.1.2.2.2.1;have d4:=cell_regrown E.1.2.2.2.2.1;have d5:=cell_regrown E.1.2.2.2.2.2.1;have d6:=cell_regrown E.1.2.2.2.2.2.2.1;have d7:=cell_regrown E.1.2.2.2.2.2.2.2.1;have d8:=cell_regrown E.1.2.2.2.2.2.2.2.2.1;have d9:=cell_regrown E.1.2.2.2.2.2.2.2.2.2.1;have d10:=cell_regrown E.1.2.2.2.2.2.2.2.2.2.2;have i0:(0:Int)<=(m:Int):=by omega
   have i1:(m:Int) < (D.l.length:Int):=by omega
   clear hs hst hc hr E;cases ha:Dc.ahead x y (D.l.getD m Dc.aI) with
   | true =>
    rw [ha] at B;have HQ:=zq (H1 ha);replace B:=zq B;clear H1 H2 ha;generalize D.l.getD m Dc.aI=e0 at *;go_wp2_with fail
    refine aN (by kernel_rfl) ?_;refine ai (by kernel_rfl) 1 (af _) [0,4,7,1,2,3,5,6] rfl (by kernel_rfl) ?_;simp only [aj,nth]
    repeat (go_big_quiet_step (fail))
    refine wpQuiet_nil ?_;refine aH 8 0 rfl (by kernel_rfl) (by decide) ?_;simp only [nth];go_wp2_with (go_at_call 78; refine (B.out _).mono ?_; rintro e w5 ⟨rfl,b5⟩)
    have b6:Below wr.heap.size wr w5:=(af wr).trans b5;refine ax b6 ?_;refine aK (by kernel_rfl) ?_;have K6:=K.later b6;have Vi:=aa bb b6 lq;go_wp2_with fail
    go_roundw
    case rel=>exact ⟨m + 1,hi,by go_num,by go_num,HQ,by omega,by omega,K6,Vi⟩
    case measure=>simp [intOf] <;> omega
   | false =>
    rw [ha] at B;have HQ:=zq (H2 ha);replace B:=zq B;clear H1 H2 ha;generalize D.l.getD m Dc.aI=e0 at *;go_wp2_with fail
    refine aN (by kernel_rfl) ?_;refine ai (by kernel_rfl) 1 (af _) [0,4,7,1,2,3,5,6] rfl (by kernel_rfl) ?_;simp only [aj,nth]
    repeat (go_big_quiet_step (fail))
    refine wpQuiet_nil ?_;refine aH 8 0 rfl (by kernel_rfl) (by decide) ?_;simp only [nth];go_wp2_with (go_at_call 78; refine (B.out _).mono ?_; rintro e w5 ⟨rfl,b5⟩)
    have b6:Below wr.heap.size wr w5:=(af wr).trans b5;refine ax b6 ?_;refine aK (by kernel_rfl) ?_;have K6:=K.later b6;have Vi:=aa bb b6 lq;go_wp2_with fail
    go_roundw
    case rel=>exact ⟨lo,m,by go_num,by go_num,HQ,by omega,by omega,K6,Vi⟩
    case measure=>simp [intOf] <;> omega
  ·obtain rfl:lo=hi:=by omega
   have HQ:Hid (lo=Dc.a_ D.l x y):=zq (HR2.out lo Xn hs.out);clear hs;go_wp2_with fail
   go_ret
   exact ⟨eS (by rw [<- HQ.out]),bb⟩
def gX (l:List aD.En) (x y:Int):Int×Bool:=match Dc.bh l x y with | some k=>((k:Int),true) | none=>(0,false)
theorem Jy {l:List aD.En} (ho:Dc.Ord l) (x y:Int):Dc.jb l x=(fw l (Dc.a_ l x y:Int) x || fw l ((Dc.a_ l x y:Int) - 1) x):=by
 have hle:=Dc.nj l x y;rw [Dc.J4 ho x y];unfold fw;rw [Int.toNat_natCast];have e1:decide (0<=(Dc.a_ l x y:Int)/\(Dc.a_ l x y:Int) < (l.length:Int))=decide (Dc.a_ l x y < l.length):=by rw [decide_eq_decide]; omega
 have e2:decide (0<=(Dc.a_ l x y:Int) - 1/\(Dc.a_ l x y:Int) - 1 < (l.length:Int))=decide (1<=Dc.a_ l x y):=by rw [decide_eq_decide]; omega
 have e3:((Dc.a_ l x y:Int) - 1).toNat=Dc.a_ l x y - 1:=by omega
 rw [e1,e2,e3]
theorem Kr {l:List aD.En} {x y:Int}:gX l x y=if Dc.DB l (Dc.a_ l x y) x y=true then ((Dc.a_ l x y:Int),true) else (0,false):=by
 unfold gX Dc.bh;split <;> rename_i h <;> split at h <;> simp_all
theorem ib {F:Nat->Prop} {w:World} {g gv lc vc:Nat} {la:Addr} {vA:Option Addr} {xs vs:List Value} {D:Dc.aZ} (x y:Int) (h:cM 131 w F g gv (some la) lc vA vc xs vs D):Calls Tryz.prog 56 #[.pointer (some ⟨g,0,none⟩),.int .i64 x,.int .i64 y] w fun e w'=>e=.returned (.tuple #[.int .i64 (gX D.l x y).1,.bool (gX D.l x y).2])/\Below w.heap.size w w':=by
 have S:=zq (qF x y h);have AT:=fun (w1:World) (hb:Below w.heap.size w w1)=>yW (Dc.a_ D.l x y) x y (h.below hb)
 rw [Kr];generalize Dc.a_ D.l x y=k at *;cases ha:Dc.DB D.l k x y with
 | true =>
  rw [ha] at AT;rw [if_pos rfl];replace AT:=zq AT;clear ha h;go_enter Tryz.func56,Tryz.ntmps56
  go_wp2_with fail
  refine (S.out).mono ?_;rintro e w1 ⟨rfl,b1⟩;go_wp2_with fail
  refine (AT.out _ b1).mono ?_;rintro e w2 ⟨rfl,rfl⟩;go_wp2_with fail
  go_ret2
  exact ⟨rfl,b1⟩
 | false =>
  rw [ha] at AT;rw [if_neg (by decide)];replace AT:=zq AT;clear ha h;go_enter Tryz.func56,Tryz.ntmps56
  go_wp2_with fail
  refine (S.out).mono ?_;rintro e w1 ⟨rfl,b1⟩;go_wp2_with fail
  refine (AT.out _ b1).mono ?_;rintro e w2 ⟨rfl,rfl⟩;go_wp2_with fail
  go_ret2
  exact ⟨rfl,b1⟩
def tR (l:List aD.En) (x y:Int):Int×Int:=match Dc.bh l x y with | some k=>((k:Int),0) | none=>(0,if Dc.jb l x=true then 101253137 else 100794368)
theorem Oz {l:List aD.En} (ho:Dc.Ord l) {x y:Int}:tR l x y=if Dc.DB l (Dc.a_ l x y) x y=true then ((Dc.a_ l x y:Int),0) else if fw l (Dc.a_ l x y:Int) x=true then (0,101253137) else if fw l ((Dc.a_ l x y:Int) - 1) x=true then (0,101253137) else (0,100794368):=by
 have hn:=Jy ho x y;unfold tR;cases h:Dc.bh l x y with
 | some k =>
  unfold Dc.bh at h;split at h
  ·rename_i ha; rw [if_pos ha]; cases h; rfl
  ·cases h
 | none =>
  unfold Dc.bh at h;split at h
  ·cases h
  ·rename_i ha
   rw [if_neg ha];dsimp only;rw [hn];cases fw l (Dc.a_ l x y:Int) x <;> cases fw l ((Dc.a_ l x y:Int) - 1) x <;> rfl
theorem vH {F:Nat->Prop} {w:World} {g gv lc vc:Nat} {la:Addr} {vA:Option Addr} {xs vs:List Value} {D:Dc.aZ} (x y:Int) (h:cM 131 w F g gv (some la) lc vA vc xs vs D):Calls Tryz.prog 177 #[.pointer (some ⟨g,0,none⟩),.int .i64 x,.int .i64 y] w fun e w'=>e=.returned (.tuple #[.int .i64 (tR D.l x y).1,.int .u32 (tR D.l x y).2])/\Below w.heap.size w w':=by
 have S:=zq (qF x y h);have TH:=zq (oS h);have Vh:=h.few;have hk:=Dc.nj D.l x y;have AT:=fun (w1:World) (hb:Below w.heap.size w w1)=>yW (Dc.a_ D.l x y) x y (h.below hb)
 have I1:=fun (w1:World) (hb:Below w.heap.size w w1)=>zk (Dc.a_ D.l x y:Int) x y (h.below hb)
 have I2:=fun (w1:World) (hb:Below w.heap.size w w1)=>zk ((Dc.a_ D.l x y:Int) - 1) x y (h.below hb)
 rw [Oz h.ord];generalize Dc.a_ D.l x y=k at *;generalize Dc.DB D.l k x y=a1 at *;generalize fw D.l (k:Int) x=a2 at *;generalize fw D.l ((k:Int) - 1) x=a3 at *;cases a1 with
 | true =>
  rw [if_pos rfl];clear h;replace AT:=zq AT; replace I1:=zq I1; replace I2:=zq I2;go_enter Tryz.func177,Tryz.ntmps177
  go_wp2_with fail
  refine (TH.out).mono ?_;rintro e w ⟨rfl,rfl⟩;go_wp2_with fail
  refine (S.out).mono ?_;rintro e w1 ⟨rfl,b1⟩;go_wp2_with fail
  refine (AT.out _ b1).mono ?_;rintro e w2 ⟨rfl,rfl⟩;go_wp2_with fail
  go_ret2
  exact ⟨rfl,b1⟩
 | false =>
 rw [if_neg (by decide)];cases a2 with
 | true =>
  rw [if_pos rfl];clear h;replace AT:=zq AT; replace I1:=zq I1; replace I2:=zq I2;go_enter Tryz.func177,Tryz.ntmps177
  go_wp2_with fail
  refine (TH.out).mono ?_;rintro e w ⟨rfl,rfl⟩;go_wp2_with fail
  refine (S.out).mono ?_;rintro e w1 ⟨rfl,b1⟩;go_wp2_with fail
  refine (AT.out _ b1).mono ?_;rintro e w2 ⟨rfl,rfl⟩;go_wp2_with fail
  refine (I1.out _ b1).mono ?_;rintro e w2 ⟨rfl,rfl⟩;go_wp2_with fail
  go_ret2
  exact ⟨rfl,b1⟩
 | false =>
 rw [if_neg (by decide)];cases a3 with
 | true =>
  rw [if_pos rfl];clear h;replace AT:=zq AT; replace I1:=zq I1; replace I2:=zq I2;go_enter Tryz.func177,Tryz.ntmps177
  go_wp2_with fail
  refine (TH.out).mono ?_;rintro e w ⟨rfl,rfl⟩;go_wp2_with fail
  refine (S.out).mono ?_;rintro e w1 ⟨rfl,b1⟩;go_wp2_with fail
  refine (AT.out _ b1).mono ?_;rintro e w2 ⟨rfl,rfl⟩;go_wp2_with fail
  refine (I1.out _ b1).mono ?_;rintro e w2 ⟨rfl,rfl⟩;go_wp2_with fail
  refine (I2.out _ b1).mono ?_;rintro e w2 ⟨rfl,rfl⟩;go_wp2_with fail
  go_ret2
  exact ⟨rfl,b1⟩
 | false =>
  rw [if_neg (by decide)];clear h;replace AT:=zq AT; replace I1:=zq I1; replace I2:=zq I2;go_enter Tryz.func177,Tryz.ntmps177
  go_wp2_with fail
  refine (TH.out).mono ?_;rintro e w ⟨rfl,rfl⟩;go_wp2_with fail
  refine (S.out).mono ?_;rintro e w1 ⟨rfl,b1⟩;go_wp2_with fail
  refine (AT.out _ b1).mono ?_;rintro e w2 ⟨rfl,rfl⟩;go_wp2_with fail
  refine (I1.out _ b1).mono ?_;rintro e w2 ⟨rfl,rfl⟩;go_wp2_with fail
  refine (I2.out _ b1).mono ?_;rintro e w2 ⟨rfl,rfl⟩;go_wp2_with fail
  go_ret2
  exact ⟨rfl,b1⟩
theorem fM {A:Option Addr} {n c B:Nat} {l:List UInt8} (w:World) (h:RB w B A n c l) (hn:n < 140737488355328) (hB:B<=w.heap.size) :
  Calls Tryz.prog 60 #[.slice A n c] w fun e w'=>∃ A1 c1,e=.returned (.slice A1 n c1)/\OB w' w.heap.size A1 n c1 l/\Below w.heap.size w w':=by
 go_enter Tryz.func60,Tryz.ntmps60
 go_wp2_with (at_builtin; refine bU od rfl (.const (.slice none 0 0)) (.tmp 3) rfl rfl rfl w.heap.size h (by omega) lq ?_; intro A1 c1 w1 h1 hb1)
 go_ret
 exact ⟨_,_,rfl,h1,hb1⟩
theorem oe (e:aD.En) {A:Option Addr} {n c B:Nat} (w:World) (hb:RB w B A n c e.dflt) (hn:n < 140737488355328) (hB:B<=w.heap.size) :
  Calls Tryz.prog 79 #[gO e A n c] w fun x w'=>∃ A1 c1,x=.returned (gO e A1 n c1)/\OB w' w.heap.size A1 n c1 e.dflt/\Below w.heap.size w w':=by
 have hcells:=Da e A n c;obtain ⟨ix,sb,nm,ty,ac,mp,st,mx,lo,hi,df⟩:=e;dsimp only at hb;unfold gO;dsimp only;have OWN:=fM ((w.alloc (.cells #[.int .i64 ix,.int .i64 sb,.string (T nm),.int .i64 ty,.int .i64 ac,.bool mp,.bool st,.int .i64 mx,.int .i64 lo,.int .i64 hi,.slice A n c] 27)).alloc (.cells #[.int .i64 0,.int .i64 0,.string ⟨#[]⟩,.int .i64 0,.int .i64 0,.bool false,.bool false,.int .i64 0,.int .i64 0,.int .i64 0,.slice none 0 0] 27)) ((hb.alloc hB _).alloc (by simp; omega) _) hn (by simp; omega);replace OWN:=zq OWN;clear hb;go_enter Tryz.func79,Tryz.ntmps79
 go_wp2_with fail
 refine (OWN.out).mono ?_;rintro e w1 ⟨A1,c1,rfl,o1,b1⟩;have K1:=((ao.new w 27 #[.int .i64 ix,.int .i64 sb,.string (T nm),.int .i64 ty,.int .i64 ac,.bool mp,.bool st,.int .i64 mx,.int .i64 lo,.int .i64 hi,.slice A n c]).alloc (.cells #[.int .i64 0,.int .i64 0,.string ⟨#[]⟩,.int .i64 0,.int .i64 0,.bool false,.bool false,.int .i64 0,.int .i64 0,.int .i64 0,.slice none 0 0] 27)).later b1;have K2:=(ao.new (w.alloc (.cells #[.int .i64 ix,.int .i64 sb,.string (T nm),.int .i64 ty,.int .i64 ac,.bool mp,.bool st,.int .i64 mx,.int .i64 lo,.int .i64 hi,.slice A n c] 27)) 27 #[.int .i64 0,.int .i64 0,.string ⟨#[]⟩,.int .i64 0,.int .i64 0,.bool false,.bool false,.int .i64 0,.int .i64 0,.int .i64 0,.slice none 0 0]).later b1;have d1:=aa (bZ w (.cells #[.int .i64 ix,.int .i64 sb,.string (T nm),.int .i64 ty,.int .i64 ac,.bool mp,.bool st,.int .i64 mx,.int .i64 lo,.int .i64 hi,.slice A n c] 27) (.cells #[.int .i64 0,.int .i64 0,.string ⟨#[]⟩,.int .i64 0,.int .i64 0,.bool false,.bool false,.int .i64 0,.int .i64 0,.int .i64 0,.slice none 0 0] 27)) b1 lq;have E1:=K1.aA;have E2:=K2.aA;simp only [World.size_alloc] at K2 E2;simp only [World.size_alloc] at o1;have hne:w.heap.size + 1≠w.heap.size:=by omega
 go_wp2_with fail
 have K3:=(K2.cR (p:=⟨w.heap.size,10,none⟩) hne (.slice A1 n c1)).zd (.int .i64 ix) (.int .i64 sb) (.string (T nm)) (.int .i64 ty) (.int .i64 ac) (.bool mp) (.bool st) (.int .i64 mx) (.int .i64 lo) (.int .i64 hi) (.slice A1 n c1);have R:=K3.aA.1;have d2:=mI (g:=w.heap.size + 1) (d1.setCell (p:=⟨w.heap.size,10,none⟩) lq (.slice A1 n c1)) (by omega) (.int .i64 ix) (.int .i64 sb) (.string (T nm)) (.int .i64 ty) (.int .i64 ac) (.bool mp) (.bool st) (.int .i64 mx) (.int .i64 lo) (.int .i64 hi) (.slice A1 n c1);have o2:=((o1.cR (g:=w.heap.size) (by omega) 10 (.slice A1 n c1)).Ll (g:=w.heap.size + 1) (by omega) (.int .i64 ix) (.int .i64 sb) (.string (T nm)) (.int .i64 ty) (.int .i64 ac) (.bool mp) (.bool st) (.int .i64 mx) (.int .i64 lo) (.int .i64 hi) (.slice A1 n c1)).more (base':=w.heap.size) (by omega);exact bodyPost_ret (v:=.agg #[.int .i64 ix,.int .i64 sb,.string (T nm),.int .i64 ty,.int .i64 ac,.bool mp,.bool st,.int .i64 mx,.int .i64 lo,.int .i64 hi,.slice A1 n c1]) (by simp [results,Tryz.results79,go_sem,R]) rfl ⟨A1,c1,rfl,o2,d2⟩
theorem DJ {l:List aD.En} {x y:Int} {k:Nat} (h:Dc.bh l x y=some k):tR l x y=((k:Int),0):=by unfold tR; rw [h]
theorem Gu {l:List aD.En} {x y:Int} (h:Dc.bh l x y=none):tR l x y=(0,if Dc.jb l x=true then 101253137 else 100794368):=by unfold tR; rw [h]
theorem kC {l:List aD.En} {x y:Int} {k:Nat} (h:Dc.bh l x y=some k):gX l x y=((k:Int),true):=by unfold gX; rw [h]
theorem j4 {l:List aD.En} {x y:Int} (h:Dc.bh l x y=none):gX l x y=(0,false):=by unfold gX; rw [h]
def iW (v:Option (List UInt8)) (w:World) (e:Ending) (w':World):Prop:=match v with
 | none=>e=.returned (.tuple #[.slice none 0 0,.bool false])/\Below w.heap.size w w'
 | some b=>∃ A c,e=.returned (.tuple #[.slice A b.length c,.bool true])/\OB w' w.heap.size A b.length c b/\Below w.heap.size w w'
theorem gC {D:Dc.aZ} (hr:∀ v∈D.v,v.length<=1000000) {k:Nat} (hk:k < D.v.length):(D.v.getD k []).length<=1000000:=by
 rw [List.getD_eq_getElem?_getD,List.getElem?_eq_getElem hk];exact hr _ (List.getElem_mem hk)
theorem jB {F:Nat->Prop} {w:World} {g gv lc vc:Nat} {la:Addr} {vA:Option Addr} {xs vs:List Value} {D:Dc.aZ} (x y:Int) (h:cM 131 w F g gv (some la) lc vA vc xs vs D) (hv:∀ v∈D.v,v.length<=1000000):Calls Tryz.prog 26 #[.pointer (some ⟨g,0,none⟩),.int .i64 x,.int .i64 y] w (iW (Dc.c_ D x y) w):=by
 have FD:=ib x y h;cases hf:Dc.bh D.l x y with
 | none =>
  rw [j4 hf] at FD;dsimp only at FD;replace FD:=zq FD;have hp:Dc.c_ D x y=none:=by unfold Dc.c_; rw [hf]; rfl
  rw [hp];clear hp hf h;go_enter Tryz.func26,Tryz.ntmps26
  go_wp2_with fail
  refine (FD.out).mono ?_;rintro e w1 ⟨rfl,b1⟩;go_wp2_with fail
  go_ret2
  exact ⟨rfl,b1⟩
 | some k =>
  rw [kC hf] at FD;dsimp only at FD;replace FD:=zq FD;have hp:Dc.c_ D x y=some (D.v.getD k []):=by unfold Dc.c_; rw [hf]; rfl
  rw [hp];have hk:=(Dc.bS hf).2.1;have hvl:=gC hv (k:=k) (by rw [h.len]; exact hk);clear hp hf;go_enter Tryz.func26,Tryz.ntmps26
  go_wp2_with fail
  refine (FD.out).mono ?_;rintro e w1 ⟨rfl,b1⟩;have h2:=h.below b1;obtain ⟨t0,t1⟩:=h2.two;obtain ⟨A,n,c,hA,_,hg,hr,hcell,_⟩:=h2.value hk;subst hA;have hn:=hr.len;have OWN:=zq (fM w1 hr (by omega) lq);have hcap:D.l.length<=vc/\vc<=9223372036854775807:=⟨h2.own.rv.le,h2.own.rv.cap⟩;have HC:=zq hcap;clear hr hcap;generalize D.v.getD k []=val at *;subst hn;generalize D.l.length=m at *;go_wp2_with fail
  refine (OWN.out).mono ?_;rintro e w2 ⟨A1,c1,rfl,o2,b2⟩;go_wp2_with fail
  go_ret2
  exact ⟨A1,c1,rfl,o2.more b1.size,aa b1 b2 lq⟩
def mc (l:List aD.En) (any:Bool) (x y:Int) (b:List UInt8):Int×Int:=match Dc.bh l x y with
 | none=>(0,if Dc.jb l x=true then 101253137 else 100794368)
 | some k=>((k:Int),if any=false/\aD.ff (l.getD k Dc.aI)≠0 then aD.ff (l.getD k Dc.aI) else aD.cJ (l.getD k Dc.aI) b)
theorem uz (l:List aD.En) (any:Bool) (x y:Int) (b:List UInt8):(mc l any x y b).2=Dc.pK l any x y b:=by
 unfold mc Dc.pK;cases Dc.bh l x y <;> rfl
theorem vJ {F:Nat->Prop} {w:World} {g gv lc vc:Nat} {la:Addr} {vA:Option Addr} {xs vs:List Value} {D:Dc.aZ} (any:Bool) (x y:Int) {A':Option Addr} {n' c' B:Nat} {b:List UInt8} (h:cM 131 w F g gv (some la) lc vA vc xs vs D) (hb:RB w B A' n' c' b) (hB:B<=w.heap.size):Calls Tryz.prog 124 #[.pointer (some ⟨g,0,none⟩),.int .i64 x,.int .i64 y,.slice A' n' c',.bool any] w fun e w'=>e=.returned (.tuple #[.int .i64 (mc D.l any x y b).1,.int .u32 (mc D.l any x y b).2])/\Below w.heap.size w w':=by
 have LC:=vH x y h;cases hf:Dc.bh D.l x y with
 | none =>
  rw [Gu hf] at LC;dsimp only at LC;have hp:mc D.l any x y b=(0,if Dc.jb D.l x=true then 101253137 else 100794368):=by unfold mc; rw [hf]
  rw [hp];clear hp hf h hb;dsimp only;have hz:((if Dc.jb D.l x=true then (101253137:Int) else 100794368) == 0)=false:=by split <;> rfl
  generalize (if Dc.jb D.l x=true then (101253137:Int) else 100794368)=code at *;replace LC:=zq LC;go_enter Tryz.func124,Tryz.ntmps124
  go_wp2_with fail
  refine (LC.out).mono ?_;rintro e w1 ⟨rfl,b1⟩;go_wp2_with fail
  go_ret2
  exact ⟨rfl,b1⟩
 | some k =>
  rw [DJ hf] at LC;dsimp only at LC;replace LC:=zq LC;have hp:mc D.l any x y b=((k:Int),if any=false/\aD.ff (D.l.getD k Dc.aI)≠0 then aD.ff (D.l.getD k Dc.aI) else aD.cJ (D.l.getD k Dc.aI) b):=by unfold mc; rw [hf]
  rw [hp];dsimp only;have hk:=(Dc.bS hf).2.1;have hcap:=h.vt;clear hp hf;generalize he:D.l.getD k Dc.aI=e0;have HE:=zq he;clear he;cases any with
  | true =>
   rw [if_neg (by simp)];go_enter Tryz.func124,Tryz.ntmps124
   go_wp2_with fail
   refine (LC.out).mono ?_;rintro e w1 ⟨rfl,b1⟩;have h2:=h.below b1;obtain ⟨t0,t1⟩:=h2.two;obtain ⟨bb,o,A,n,c,hA,eT,hr,hc⟩:=h2.entry hk;rw [HE.out] at hc hr;injection hA with hA
   subst hA;have V:=ga e0 A n c w1 (hb.below (b1.mono hB)) (Nat.le_trans hB b1.size);unfold gO at V;have c0:=hc 0 _ rfl;have c1:=hc 1 _ rfl;have c2:=hc 2 _ rfl;have c3:=hc 3 _ rfl;have c4:=hc 4 _ rfl;have c5:=hc 5 _ rfl;have c6:=hc 6 _ rfl;have c7:=hc 7 _ rfl;have c8:=hc 8 _ rfl;have c9:=hc 9 _ rfl;have c10:=hc 10 _ rfl;simp only [Nat.add_zero] at c0;replace V:=zq V;have HC:=zq hcap;clear hr hc hcap h2;generalize D.l.length=m at *;go_wp2_with fail
   refine (V.out).mono ?_;rintro e w2 ⟨rfl,b2⟩;go_wp2_with fail
   go_ret2
   exact ⟨rfl,aa b1 b2 lq⟩
  | false =>
   by_cases hw:aD.ff e0=0
   ·rw [if_neg (by rw [hw]; simp)]
    go_enter Tryz.func124,Tryz.ntmps124
    go_wp2_with fail
    refine (LC.out).mono ?_;rintro e w1 ⟨rfl,b1⟩;have h2:=h.below b1;obtain ⟨t0,t1⟩:=h2.two;obtain ⟨bb,o,A,n,c,hA,eT,hr,hc⟩:=h2.entry hk;rw [HE.out] at hc hr;injection hA with hA
    subst hA;have V:=fun (w2:World) (b2:Below w1.heap.size w1 w2)=>ga e0 A n c w2 ((hb.below (b1.mono hB)).below (b2.mono (Nat.le_trans hB b1.size))) (Nat.le_trans hB (Nat.le_trans b1.size b2.size))
    have WR:=fun w=>ir e0 A n c w
    rw [hw] at WR;unfold gO at V WR;have hold:=fun (w2:World) (b2:Below w1.heap.size w1 w2)=>b2
    have c0:=hc 0 _ rfl;have c1:=hc 1 _ rfl;have c2:=hc 2 _ rfl;have c3:=hc 3 _ rfl;have c4:=hc 4 _ rfl;have c5:=hc 5 _ rfl;have c6:=hc 6 _ rfl;have c7:=hc 7 _ rfl;have c8:=hc 8 _ rfl;have c9:=hc 9 _ rfl;have c10:=hc 10 _ rfl;simp only [Nat.add_zero] at c0;replace V:=zq V; replace WR:=zq WR;have HC:=zq hcap;have hbb:=eT;have hg1:=h2.aP.lt;clear hr hc hcap h2 hw hold;generalize D.l.length=m at *;go_wp2_with fail
    refine (WR.out _).mono ?_;rintro e w2 ⟨rfl,b2⟩;obtain ⟨k1,k2⟩:=Qo b2;go_wp2_with fail
    refine (V.out _ b2).mono ?_;rintro e w3 ⟨rfl,b3⟩;go_wp2_with fail
    go_ret2
    exact ⟨rfl,aa (aa b1 b2 lq) b3 lq⟩
   ·rw [if_pos ⟨rfl,hw⟩]
    have WR:=fun (A:Option Addr) (n c:Nat) w=>ir e0 A n c w
    unfold gO at WR;generalize hwv:aD.ff e0=wv at *;have Sl:(wv == 0)=false:=beq_false_of_ne hw;replace WR:=zq WR;go_enter Tryz.func124,Tryz.ntmps124
    go_wp2_with fail
    refine (LC.out).mono ?_;rintro e w1 ⟨rfl,b1⟩;have h2:=h.below b1;obtain ⟨t0,t1⟩:=h2.two;obtain ⟨bb,o,A,n,c,hA,eT,hr,hc⟩:=h2.entry hk;rw [HE.out] at hc hr;injection hA with hA
    subst hA;have c0:=hc 0 _ rfl;have c1:=hc 1 _ rfl;have c2:=hc 2 _ rfl;have c3:=hc 3 _ rfl;have c4:=hc 4 _ rfl;have c5:=hc 5 _ rfl;have c6:=hc 6 _ rfl;have c7:=hc 7 _ rfl;have c8:=hc 8 _ rfl;have c9:=hc 9 _ rfl;have c10:=hc 10 _ rfl;simp only [Nat.add_zero] at c0;have HC:=zq hcap;clear hr hc hcap h2 hw hwv;generalize D.l.length=m at *;go_wp2_with fail
    refine (WR.out _ _ _ _).mono ?_;rintro e w2 ⟨rfl,b2⟩;go_wp2_with fail
    go_ret2
    exact ⟨rfl,aa b1 b2 lq⟩
theorem Ez {F:Nat->Prop} {w:World} {g gv lc vc:Nat} {la:Addr} {vA:Option Addr} {xs vs:List Value} {D:Dc.aZ} (x y:Int) {A':Option Addr} {n' c' B:Nat} {b:List UInt8} (h:cM 131 w F g gv (some la) lc vA vc xs vs D) (hb:RB w B A' n' c' b) (hB:B<=w.heap.size):Calls Tryz.prog 182 #[.pointer (some ⟨g,0,none⟩),.int .i64 x,.int .i64 y,.slice A' n' c'] w fun e w'=>e=.returned (.int .u32 (Dc.pK D.l false x y b))/\Below w.heap.size w w':=by
 have M:=zq (vJ false x y h hb hB);rw [<- uz];clear h hb;go_enter Tryz.func182,Tryz.ntmps182
 go_wp2_with fail
 refine (M.out).mono ?_;rintro e w1 ⟨rfl,b1⟩;go_wp2_with fail
 go_ret
 exact ⟨rfl,b1⟩
end
end Go.Proofs.YtijegngfclkdaaaGreatDoor
