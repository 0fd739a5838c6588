/-
  Pieces of the proof: part 36 of 54.
  Conditions: none.
-/
import Derived.Test.YtijegngfclkdaaaGreatDoorW11
import Derived.Test.YtijegngfclkdaaaGreatDoorW13
import Derived.Test.YtijegngfclkdaaaGreatDoorW15
import Derived.Test.YtijegngfclkdaaaGreatDoorW21
import Derived.Test.YtijegngfclkdaaaGreatDoorW23
import Derived.Test.YtijegngfclkdaaaGreatDoorW25
import Derived.Test.YtijegngfclkdaaaGreatDoorW28
import Derived.Test.YtijegngfclkdaaaGreatDoorW34
import Derived.Test.YtijegngfclkdaaaGreatDoorW35
set_option linter.unusedVariables false
set_option linter.unusedSimpArgs false
set_option maxHeartbeats 100000000
set_option maxRecDepth 100000
namespace Go.Proofs.YtijegngfclkdaaaGreatDoor
open Go.RowKit
namespace Wr
def C (L:List Jr.Look) (i:Nat):Nat:=(L.getD i Jr.lk0).count
def Nm (L:List Jr.Look) (i:Nat):Nat:=(L.getD i Jr.lk0).last.num
def W (f:Fla) (i:Nat):Nat:=f.wear.getD i 0
def NwI (L:List Jr.Look) (k:Nat) (x:Nat×Bool):Prop:=(x.2=false→∀ j,j < k→C L j=0)∧(x.2=true→x.1 < k∧0 < C L x.1∧∀ j,j < k→0 < C L j→Nm L j≤Nm L x.1)
theorem NwI.go {L:List Jr.Look}:∀ (m k:Nat) (x:Nat×Bool),k + m=L.length→NwI L k x→NwI L L.length (Jr.newS (L.drop k) k x fun i=>(L.getD i Jr.lk0).last.num)
 | 0,k,x,hk,h=>by rw [Jr.new_end (by omega)]; rw [show L.length=k by omega]; exact h
 | m + 1,k,x,hk,h=>by
  rw [Jr.new_step (by omega)];refine NwI.go m (k + 1) _ (by omega) ?_;obtain ⟨h1,h2⟩:=h;split
  ·rename_i e
   obtain ⟨e1,e2⟩:=e;refine ⟨(fun h=>by cases h),fun _=>⟨by show k < k + 1; omega,e1,fun j hj hc=>?_⟩⟩;show Nm L j≤Nm L k
   by_cases hjk:j=k
   ·rw [hjk]; exact Nat.le_refl _
   ·rcases e2 with e2 | e2
    ·have:=h1 e2 j (by omega); omega
    ·cases hx:x.2 with
     | false=>have:=h1 hx j (by omega); omega
     | true =>
      have:=(h2 hx).2.2 j (by omega) hc;have e2':Nm L x.1 < Nm L k:=e2;omega
  ·rename_i e
   refine ⟨fun hx j hj=>?_,fun hx=>⟨by have:=(h2 hx).1; omega,(h2 hx).2.1,fun j hj hc=>?_⟩⟩
   ·by_cases hjk:j=k
    ·subst hjk
     by_cases hc:0 < C L j
     ·exact absurd ⟨hc,.inl hx⟩ e
     ·omega
    ·exact h1 hx j (by omega)
   ·by_cases hjk:j=k
    ·subst hjk
     by_cases hn:Nm L x.1 < Nm L j
     ·exact absurd ⟨hc,.inr hn⟩ e
     ·omega
    ·exact (h2 hx).2.2 j (by omega) hc
theorem newN_inv (L:List Jr.Look):NwI L L.length (Jr.newN L):=by
 have:=NwI.go (L:=L) L.length 0 (0,false) (by omega) ⟨fun _ j hj=>absurd hj (Nat.not_lt_zero j),fun h=>by cases h⟩;rw [List.drop_zero] at this;exact this
theorem newN_at {L:List Jr.Look} {k:Nat} (hk:k < L.length) (h0:0 < C L k) (h:∀ j,j < L.length→j≠k→0 < C L j→Nm L j < Nm L k):Jr.newN L=(k,true):=by
 obtain ⟨h1,h2⟩:=newN_inv L;generalize Jr.newN L=x at *;obtain ⟨p,b⟩:=x;cases b with
 | false=>have:=h1 rfl k hk; omega
 | true =>
  obtain ⟨g1,g2,g3⟩:=h2 rfl;dsimp only at g1 g2 g3;have g4:=g3 k hk h0
  by_cases e:p=k
  ·rw [e]
  ·have:=h p g1 e g2; omega
def NxI (nw:Nat×Bool) (V:List Int) (k:Nat) (x:Nat×Bool):Prop:=(x.2=false→∀ j,j < k→nw.2=true∧j=nw.1)∧(x.2=true→x.1 < k∧¬ (nw.2=true∧x.1=nw.1)∧∀ j,j < k→¬ (nw.2=true∧j=nw.1)→V.getD x.1 0≤V.getD j 0)
theorem NxI.go {nw:Nat×Bool} {V:List Int}:∀ (l:List Jr.Look) (k:Nat) (x:Nat×Bool),NxI nw V k x→NxI nw V (k + l.length) (Jr.nxGo nw V l k x)
 | [],k,x,h=>h
 | a :: r,k,x,h=>by
  obtain ⟨h1,h2⟩:=h;rw [Jr.nxGo,show k + (a :: r).length=k + 1 + r.length by simp only [List.length_cons]; omega];split
  ·rename_i e
   refine NxI.go r (k + 1) x ⟨fun hx j hj=>?_,fun hx=>⟨by have:=(h2 hx).1; omega,(h2 hx).2.1,fun j hj hc=>?_⟩⟩
   ·by_cases hjk:j=k
    ·rw [hjk]; exact e
    ·exact h1 hx j (by omega)
   ·by_cases hjk:j=k
    ·rw [hjk] at hc; exact absurd e hc
    ·exact (h2 hx).2.2 j (by omega) hc
  ·rename_i e
   split
   ·rename_i e2
    refine NxI.go r (k + 1) (k,true) ⟨(fun h=>by cases h),fun _=>⟨by show k < k + 1; omega,e,fun j hj hc=>?_⟩⟩;show V.getD k 0≤V.getD j 0
    by_cases hjk:j=k
    ·rw [hjk]; exact Int.le_refl _
    ·rcases e2 with e2 | e2
     ·exact absurd (h1 e2 j (by omega)) hc
     ·cases hx:x.2 with
      | false=>exact absurd (h1 hx j (by omega)) hc
      | true=>have:=(h2 hx).2.2 j (by omega) hc; omega
   ·rename_i e2
    refine NxI.go r (k + 1) x ⟨fun hx j hj=>absurd (.inl hx) e2,fun hx=>⟨by have:=(h2 hx).1; omega,(h2 hx).2.1,fun j hj hc=>?_⟩⟩
    by_cases hjk:j=k
    ·subst hjk
     by_cases hn:V.getD j 0 < V.getD x.1 0
     ·exact absurd (.inr hn) e2
     ·omega
    ·exact (h2 hx).2.2 j (by omega) hc
theorem wornK_getD {f:Fla} {n i:Nat} (hn:f.wear.length=n) (hi:i < n):(wornK f n).getD i 0=(W f i:Int):=by
 unfold wornK;rw [List.getD_eq_getElem?_getD,List.getElem?_map,List.getElem?_range hi];show wornS f (i:Int)=_;unfold wornS;rw [if_pos (by omega),Int.toNat_natCast];rfl
theorem nxN_nx {L:List Jr.Look} {f:Fla} {n now:Nat} {has:Bool} (hL:L.length=n) (hf:f.wear.length=n) (hw:Jr.newN L=(now,has)) (h:(Jr.nxN L (wornK f n)).2=true):Nx n (W f) has now (Jr.nxN L (wornK f n)).1:=by
 have:=NxI.go (nw:=Jr.newN L) (V:=wornK f n) L 0 (0,false) ⟨fun _ j hj=>absurd hj (Nat.not_lt_zero j),fun h=>by cases h⟩;rw [Nat.zero_add,hL] at this;obtain ⟨g1,g2,g3⟩:=this.2 h;unfold Jr.nxN at *;rw [hw] at g1 g2 g3 ⊢;refine ⟨g1,fun e=>g2 ⟨e.1,e.2.symm⟩,fun i hi hc=>?_⟩;have:=g3 i hi fun e=>hc ⟨e.1,e.2.symm⟩
 rw [wornK_getD hf hi,wornK_getD hf g1] at this;omega
structure LkOk (x:Jr.Look):Prop where
 fin:x.fin≤1024
 cnt:13 * x.count≤x.fin
 zero:x.count=0→x.fin=0
 num:x.last.num < 4294967296
 len:x.last.data.length≤960
theorem LkOk.none:LkOk Jr.lk0:=⟨by decide,by decide,fun _=>rfl,by decide,by decide⟩
theorem go_ok {b:List UInt8} (hb:b.length≤1024):∀ (k:Nat) (r:Jr.Rec) (c e:Nat) (cl:Bool),LkOk ⟨r,c,e,cl⟩→LkOk ⟨(Jr.goS b k r c e).1,(Jr.goS b k r c e).2.1,(Jr.goS b k r c e).2.2,cl⟩
 | 0,_,_,_,_,h=>h
 | k + 1,r,c,e,cl,h=>by
  rw [Jr.goS];cases hp:Jr.parseS b e with
  | none=>exact h
  | some q =>
   obtain ⟨r',e'⟩:=q;dsimp only;obtain ⟨h1,h2,h3,h4,h5,h6,h7⟩:=Jr.parse_lt hp;have g1:=h.fin;have g2:=h.cnt;dsimp only at g1 g2;split
   ·exact h
   ·exact go_ok hb k r' (c + 1) e' cl ⟨by show e'≤1024; omega,by show 13 * (c + 1)≤e'; omega,fun hz=>by have hz':c + 1=0:=hz; omega,h5,h7⟩
theorem of_ok {b:List UInt8} (hb:b.length≤1024):LkOk (Jr.ofS b):=go_ok hb _ _ _ _ _ ⟨by show 0≤1024; omega,by show 13 * 0≤0; omega,fun _=>rfl,by show (0:Nat) < 4294967296; omega,by show 0≤960; omega⟩
structure JOk (n:Nat) (L:List Jr.Look) (now:Nat) (has:Bool):Prop where
 len:L.length=n
 nw:Jr.newN L=(now,has)
 ok:∀ i,LkOk (L.getD i Jr.lk0)
section
variable {n c:Nat} {L:List Jr.Look} {now:Nat} {has:Bool} {f:Fla}
theorem JOk.newest (h:JOk n L now has) (hh:has=true):now < n∧0 < C L now∧∀ j,j < n→0 < C L j→Nm L j≤Nm L now:=by
 have:=(newN_inv L).2 (by rw [h.nw]; exact hh);rw [h.nw,h.len] at this;exact this
theorem JOk.none (h:JOk n L now has) (hh:has=false):∀ j,j < n→C L j=0:=by
 have:=(newN_inv L).1 (by rw [h.nw]; exact hh);rw [h.len] at this;exact this
theorem JOk.num (h:JOk n L now has):numS L now has < 4294967296:=by
 unfold numS;split
 ·exact (h.ok now).num
 ·decide
theorem JOk.open_ (f:Fla) (n:Nat):JOk n (looksK f n) (Jr.newN (looksK f n)).1 (Jr.newN (looksK f n)).2:=⟨looksK_len f n,rfl,fun i=>by
 by_cases h:i < n
 ·have:(looksK f n).getD i Jr.lk0=Jr.ofS (secB f i):=by
   unfold looksK;rw [List.getD_eq_getElem?_getD,List.getElem?_map,List.getElem?_range h];rfl
  rw [this];exact of_ok (by unfold secB; rw [List.length_take]; omega)
 ·rw [List.getD_eq_getElem?_getD,List.getElem?_eq_none (by rw [looksK_len]; omega)]
  exact LkOk.none⟩
theorem getD_set (L:List Jr.Look) (i j:Nat) (x:Jr.Look) (hi:i < L.length):(L.set i x).getD j Jr.lk0=if j=i then x else L.getD j Jr.lk0:=by
 rw [List.getD_eq_getElem?_getD,List.getElem?_set]
 by_cases e:i=j
 ·subst e; rw [if_pos rfl,if_pos hi,if_pos rfl]; rfl
 ·rw [if_neg e,if_neg (fun h=>e h.symm)]; rfl
theorem set_ok {x:Jr.Look} {i:Nat} (hi:i < L.length) (h:∀ i,LkOk (L.getD i Jr.lk0)) (hx:LkOk x):∀ j,LkOk ((L.set i x).getD j Jr.lk0):=fun j=>by
 rw [getD_set L i j x hi];split
 ·exact hx
 ·exact h j
theorem W_era (f:Fla) (s:Nat) (hs:s < f.wear.length):W (eraF f s)=up (W f) s (W f s + 1):=by
 funext i
 show (f.wear.set s (f.wear.getD s 0 + 1)).getD i 0=_;rw [List.getD_eq_getElem?_getD,List.getElem?_set];unfold up W
 by_cases e:s=i
 ·subst e; rw [if_pos rfl,if_pos hs,if_pos rfl,Option.getD_some]
 ·rw [if_neg e,if_neg (fun h=>e h.symm)]; rfl
theorem W_torn (f:Fla) (s:Nat) (hs:s < f.wear.length):W (tornF f s)=up (W f) s (W f s + 1):=by
 rw [← W_era f s hs];unfold W tornF eraF;rfl
theorem sum_set:∀ (l:List Nat) (s:Nat),s < l.length→(l.set s (l.getD s 0 + 1)).sum=l.sum + 1
 | [],s,h=>absurd h (Nat.not_lt_zero s)
 | a :: r,0,_=>by simp; omega
 | a :: r,s + 1,h=>by
  have:=sum_set r s (by simpa using h);simp only [List.set_cons_succ,List.sum_cons,List.getD_cons_succ];omega
structure Pg (f f':Fla) (k:Nat) (z:Int):Prop where
 wear:f'.wear=f.wear
 most:f'.most=f.most
 mask:f'.mask=f.mask
 len:f'.b.length=f.b.length
 ops:f.ops≤f'.ops∧f'.ops≤f.ops + k
 off:f'.off=if z=0 then f.off else true
theorem prog_pg:∀ (b:List UInt8) (f:Fla) (p:Nat),Pg f (progF f p b).1 b.length (progF f p b).2∧(progF f p b).2=if 0≤f.ahead∧f.ahead < b.length then 7 else 0
 | [],f,p=>⟨⟨rfl,rfl,rfl,rfl,⟨Int.le_refl _,by simp [progF]⟩,rfl⟩,by
  rw [if_neg (by simp)]; rfl⟩
 | x :: r,f,p=>by
  rw [progF]
  by_cases ha:f.ahead=0
  ·have e:clearS f p x=({ f with b:=f.b.set p (f.b.getD p 0 &&& (x ||| (255 ^^^ UInt8.ofNat (f.mask.toNat % 256)))),ahead:=-1,off:=true },7):=by unfold clearS; rw [if_pos ha]
   rw [e,if_pos (show (7:Int)≠0 by decide)];refine ⟨⟨rfl,rfl,rfl,by simp,⟨Int.le_refl _,by show f.ops≤f.ops + _; omega⟩,rfl⟩,?_⟩;rw [if_pos (by simp only [List.length_cons]; omega)]
  ·have e:clearS f p x=({ f with b:=f.b.set p (f.b.getD p 0 &&& x),ahead:=if 0 < f.ahead then f.ahead - 1 else f.ahead,ops:=f.ops + 1 },0):=by unfold clearS; rw [if_neg ha]
   rw [e,if_neg (by simp)];dsimp only;obtain ⟨h1,h2⟩:=prog_pg r { f with b:=f.b.set p (f.b.getD p 0 &&& x),ahead:=if 0 < f.ahead then f.ahead - 1 else f.ahead,ops:=f.ops + 1 } (p + 1);obtain ⟨g1,g2,g3,g4,g5,g6⟩:=h1;dsimp only at g1 g2 g3 g4 g5 g6 h2;refine ⟨⟨g1,g2,g3,by rw [g4]; simp,⟨by omega,by simp only [List.length_cons]; omega⟩,g6⟩,?_⟩;rw [h2];simp only [List.length_cons]
   by_cases hp:0 < f.ahead
   ·rw [if_pos hp]
    by_cases hq:f.ahead < ((r.length + 1:Nat):Int)
    ·rw [if_pos (by omega),if_pos (by omega)]
    ·rw [if_neg (by omega),if_neg (by omega)]
   ·rw [if_neg hp,if_neg (by omega),if_neg (by omega)]
structure ApL (n c:Nat) (f:Fla) (L:List Jr.Look) (now:Nat) (has:Bool) (d:Nat) (o:ApO):Prop where
 code:o.code=0∨o.code=6∨o.code=7∨o.code=10
 done:o.code=0→JOk n o.L o.now o.has∧St n c (W o.f) o.has o.now (C o.L)∧o.f.off=f.off∧o.dead=false
 no:o.code≠0→o.code≠7→o=⟨o.code,f,L,now,has,false⟩
 torn:o.code=7→S1 n (c + 1) (W o.f)∧o.f.off=true∧o.dead=true∧(o.L.length=n∧(o.has=true→o.now < n)∧∀ i,LkOk (o.L.getD i Jr.lk0))
 wear:o.f.wear.length=f.wear.length∧f.wear.sum≤o.f.wear.sum∧o.f.wear.sum≤f.wear.sum + 1
 same:o.f.most=f.most∧o.f.mask=f.mask
 ops:f.ops≤o.f.ops∧o.f.ops≤f.ops + ((d + 14:Nat):Int)
theorem progA_law {f0:Fla} {L0:List Jr.Look} {at_:Nat} {r:Jr.Rec} (hL:L.length=n) (hat:at_ < n) (hok:∀ i,LkOk (L.getD i Jr.lk0)) (hnow:has=true→now < n)
  (hroom:(L.getD at_ Jr.lk0).fin + (r.data.length + 13)≤1024) (hr:r.num < 4294967296∧r.data.length≤960) (hnm:∀ j,j < n→j≠at_→0 < C L j→Nm L j < r.num)
  (hst:St n c (W f) true at_ (up (C L) at_ (C L at_ + 1))) (hcut:S1 n (c + 1) (W f))
  (hw:f.wear.length=f0.wear.length∧f0.wear.sum≤f.wear.sum∧f.wear.sum≤f0.wear.sum + 1) (hs:f.most=f0.most∧f.mask=f0.mask∧f.off=f0.off) (ho:f0.ops≤f.ops∧f.ops≤f0.ops + 1) :
  ApL n c f0 L0 now has r.data.length (progA f L now has at_ r):=by
 have hb:=Jr.buildS_length r;have hx:=hok at_;obtain ⟨hp,hz⟩:=prog_pg (Jr.buildS r) f (at_ * 1024 + (L.getD at_ lk0).fin);unfold progA;generalize progF f (at_ * 1024 + (L.getD at_ lk0).fin) (Jr.buildS r)=q at *;obtain ⟨f',z⟩:=q;dsimp only at hp hz ⊢;obtain ⟨p1,p2,p3,p4,p5,p6⟩:=hp;rw [hb] at p5 hz;have hW:W f'=W f:=by funext i; unfold W; rw [p1]
 by_cases h0:z=0
 ·rw [if_pos h0]
  rw [if_pos h0] at p6;have hxk:LkOk (lkN r (L.getD at_ lk0)):=⟨hroom,by
   have:=hx.cnt;show 13 * ((L.getD at_ Jr.lk0).count + 1)≤(L.getD at_ Jr.lk0).fin + (r.data.length + 13);omega,(fun h=>by cases h),hr.1,hr.2⟩
  have hC:C (L.set at_ (lkN r (L.getD at_ lk0)))=up (C L) at_ (C L at_ + 1):=by
   funext j
   unfold C up;rw [getD_set L at_ j _ (by omega)];split
   ·rfl
   ·rfl
  refine ⟨.inl rfl,fun _=>⟨⟨by simp [hL],?_,set_ok (by omega) hok hxk⟩,?_,by rw [← hs.2.2]; exact p6,rfl⟩,fun h=>absurd rfl h,fun h=>absurd (show (0:Int)=7 from h) (by decide),?_,?_,?_⟩
  ·refine newN_at (by simp; omega) (by rw [hC]; unfold up; rw [if_pos rfl]; omega) fun j hj hne hc=>?_
   rw [List.length_set,hL] at hj;rw [hC] at hc;unfold up at hc;rw [if_neg hne] at hc;have:=hnm j hj hne hc;unfold Nm;rw [getD_set L at_ j _ (by omega),getD_set L at_ at_ _ (by omega),if_neg hne,if_pos rfl];exact this
  ·show St n c (W f') true at_ (C (L.set at_ (lkN r (L.getD at_ lk0))))
   rw [hC,hW];exact hst
  ·show f'.wear.length=_∧_
   rw [p1]; exact hw
  ·exact ⟨p2.trans hs.1,p3.trans hs.2.1⟩
  ·show f0.ops≤f'.ops∧f'.ops≤_
   omega
 ·rw [if_neg h0]
  rw [if_neg h0] at p6;refine ⟨.inr (.inr (.inl rfl)),fun h=>absurd (show (7:Int)=0 from h) (by decide),fun _ h=>absurd rfl h,fun _=>⟨by show S1 n (c + 1) (W f'); rw [hW]; exact hcut,p6,rfl,hL,hnow,hok⟩,?_,?_,?_⟩
  ·show f'.wear.length=_∧_
   rw [p1]; exact hw
  ·exact ⟨p2.trans hs.1,p3.trans hs.2.1⟩
  ·show f0.ops≤f'.ops∧f'.ops≤_
   omega
theorem app_law {kind:Nat} {data:List UInt8} (hJ:JOk n L now has) (hst:St n c (W f) has now (C L)) (hf:f.wear.length=n) (hd:data.length≤960):ApL n c f L now has data.length (appA f L now has kind data):=by
 have hL:=hJ.len;have hnow:has=true→now < n:=fun h=>(hJ.newest h).1
 have hnum:=hJ.num;have hmax:∀ j,j < n→0 < C L j→Nm L j≤numS L now has:=fun j hj hc=>by
  cases has with
  | false=>have:=hJ.none rfl j hj; omega
  | true=>have:=(hJ.newest rfl).2.2 j hj hc; unfold numS; rw [if_pos rfl]; exact this
 have hfar:S1 n (c + 1) (W f):=hst.cut;have no:∀ z:Int,(z=6∨z=10)→ApL n c f L now has data.length ⟨z,f,L,now,has,false⟩:=fun z hz =>
  ⟨by rcases hz with h | h <;> simp [h],fun h=>by rcases hz with hz | hz <;> (rw [hz] at h; cases h),fun _ _=>rfl,fun h=>by rcases hz with hz | hz <;> (rw [hz] at h; cases h),⟨rfl,Nat.le_refl _,Nat.le_succ _⟩,⟨rfl,rfl⟩,⟨Int.le_refl _,by show f.ops≤f.ops + _; omega⟩⟩
 unfold appA;split
 ·exact no 6 (.inl rfl)
 rename_i hfull;split
 ·exact no 10 (.inr rfl)
 rename_i hok;have hok:(placeS f L now has data.length).2.2=true:=by simpa using hok
 have hlt:=place_lt (f:=f) (d:=data.length) (fun h=>by rw [hL]; exact hnow h) hok;rw [hL] at hlt;have h00:∀ i,(L.getD i lk0).count=0→(L.getD i lk0).fin=0:=fun i=>(hJ.ok i).zero
 split
 ·rename_i her
  have hx:Nx n (W f) has now (placeS f L now has data.length).1:=by
   unfold placeS at her hok ⊢;split
   ·rename_i e; rw [if_pos e] at her; cases her
   ·rename_i e
    rw [if_neg e] at her hok;split
    ·rename_i e2; rw [if_pos e2] at hok; cases hok
    ·rename_i e2
     have:(Jr.nxN L (wornK f L.length)).2=true:=by simpa using e2
     rw [hL] at this ⊢;exact nxN_nx hL hf hJ.nw this
  generalize (placeS f L now has data.length).1=at_ at *;have hat:at_ < L.length:=by omega
  split
  ·refine ⟨.inr (.inr (.inl rfl)),fun h=>absurd (show (7:Int)=0 from h) (by decide),fun _ h=>absurd rfl h,fun _=>⟨?_,rfl,rfl,hL,hnow,hJ.ok⟩,?_,⟨rfl,rfl⟩,⟨Int.le_refl _,by show f.ops≤f.ops + _; omega⟩⟩
   ·show S1 n (c + 1) (W (tornF f at_))
    rw [W_torn f at_ (by omega)];exact hst.cut_erased hx
   ·show (f.wear.set _ _).length=_∧_≤(f.wear.set _ _).sum∧(f.wear.set _ _).sum≤_
    rw [List.length_set,sum_set f.wear at_ (by omega)];omega
  ·have hCE:C (L.set at_ lkE)=up (C L) at_ 0:=by
    funext j
    unfold C up;rw [getD_set L at_ j _ hat];split <;> rfl
   have hEk:LkOk lkE:=⟨by decide,by decide,fun _=>rfl,by decide,by decide⟩;have hG:(L.set at_ lkE).getD at_ Jr.lk0=lkE:=by rw [getD_set L at_ at_ _ hat,if_pos rfl]
   refine progA_law (f:=eraF f at_) (L:=L.set at_ lkE) (r:=⟨kind,numS L now has + 1,data⟩) (by rw [List.length_set]; exact hL) (by omega) (set_ok hat hJ.ok hEk) hnow ?_ ⟨by show numS L now has + 1 < _; omega,hd⟩ (fun j hj hne hc=>?_) ?_ ?_ ?_ ⟨by simp only [eraF],by simp only [eraF],by simp only [eraF]⟩ ?_
   ·rw [hG]
    show 0 + (data.length + 13)≤1024;omega
   ·rw [hCE] at hc
    unfold up at hc;rw [if_neg hne] at hc;have:=hmax j hj hc;show Nm (L.set at_ lkE) j < numS L now has + 1;unfold Nm at this ⊢;rw [getD_set L at_ j _ hat,if_neg hne];omega
   ·rw [W_era f at_ (by omega)]
    have e:up (C (L.set at_ lkE)) at_ (C (L.set at_ lkE) at_ + 1)=up (C L) at_ 1:=by
     rw [hCE]
     funext j
     unfold up
     by_cases h:j=at_
     ·rw [if_pos h,if_pos h,if_pos rfl]
     ·rw [if_neg h,if_neg h,if_neg h]
    rw [e];exact hst.erased hx (fun h=>⟨(hJ.newest h).1,(hJ.newest h).2.1⟩) 1
   ·rw [W_era f at_ (by omega)]
    exact hst.cut_erased hx
   ·show (f.wear.set _ _).length=_∧_≤(f.wear.set _ _).sum∧(f.wear.set _ _).sum≤_
    rw [List.length_set,sum_set f.wear at_ (by omega)];omega
   ·show f.ops≤f.ops + 1∧f.ops + 1≤f.ops + 1
    omega
 ·rename_i her
  have her:(placeS f L now has data.length).2.1=false:=by simpa using her
  have hroom:=place_room hd h00 hok her;have hnewer:∀ j,j < n→j≠(placeS f L now has data.length).1→0 < C L j→Nm L j < numS L now has + 1:=fun j hj _ hc=>by have:=hmax j hj hc; omega
  have hst':St n c (W f) true (placeS f L now has data.length).1 (up (C L) (placeS f L now has data.length).1 (C L (placeS f L now has data.length).1 + 1)):=by
   unfold placeS at her hok ⊢;split
   ·rename_i e
    rw [e.1] at hst;exact hst.same _
   ·rename_i e
    rw [if_neg e] at her hok;split
    ·rename_i e2; rw [if_pos e2] at hok; cases hok
    ·rename_i e2
     rw [if_neg e2] at her;have h2:(Jr.nxN L (wornK f L.length)).2=true:=by simpa using e2
     rw [hL] at h2;simp only [Bool.or_eq_false_iff,decide_eq_false_iff_not] at her;have h0:C L (Jr.nxN L (wornK f L.length)).1=0:=by
      have:=her.1;show (L.getD _ Jr.lk0).count=0;have e3:(L.getD (Jr.nxN L (wornK f L.length)).1 Jr.lk0).count=(L.getD (Jr.nxN L (wornK f L.length)).1 lk0).count:=rfl;omega
     rw [hL] at h0 ⊢;exact hst.begun (nxN_nx hL hf hJ.nw h2) h0 _
  exact progA_law (f0:=f) (r:=⟨kind,numS L now has + 1,data⟩) hL hlt hJ.ok hnow hroom ⟨by show numS L now has + 1 < _; omega,hd⟩ hnewer hst' hfar (And.intro rfl (And.intro (Nat.le_refl _) (Nat.le_succ _))) ⟨rfl,rfl,rfl⟩ ⟨Int.le_refl f.ops,show f.ops≤f.ops + 1 by omega⟩
theorem app_code {kind kind':Nat} {data data':List UInt8} (h:data.length=data'.length):(appA f L now has kind data).code=(appA f L now has kind' data').code:=by
 have key:∀ (f:Fla) (L:List Jr.Look) (at_:Nat) (r r':Jr.Rec),r.data.length=r'.data.length→(progA f L now has at_ r).code=(progA f L now has at_ r').code:=fun f L at_ r r' hr=>by
  have h1:=(prog_pg (Jr.buildS r) f (at_ * 1024 + (L.getD at_ lk0).fin)).2;have h2:=(prog_pg (Jr.buildS r') f (at_ * 1024 + (L.getD at_ lk0).fin)).2;rw [Jr.buildS_length] at h1 h2;rw [hr,← h2] at h1;unfold progA;rw [h1];split <;> rfl
 unfold appA;rw [h];split
 ·rfl
 ·split
  ·rfl
  ·split
   ·split
    ·rfl
    ·exact key _ _ _ _ _ h
   ·exact key _ _ _ _ _ h
end
end Wr
end Go.Proofs.YtijegngfclkdaaaGreatDoor
namespace Go.Proofs.YtijegngfclkdaaaGreatDoor.Ev
open Go Go.RowKit Tw
structure Dt where
 m:Nat
 f:Fla
 D:Dc.Dic
 V:Vau
structure PF (E:Env) (w:World) (col:Nat→Nat) (x:Dt) (gf:Nat) (A:Option Addr) (c:Nat) (A':Option Addr) (c':Nat):Prop where
 nm:E.D 101
 sy:E.sy 101=.pointer (some ⟨gf,0,none⟩)
 mem:FlM w 0 gf A (x.m * 1024) c A' x.m c' x.f
 at_:∀ q,FF gf A (x.m * 1024) c A' x.m c' q→col q=1
def PD (E:Env) (w:World) (col:Nat→Nat) (x:Dt) (k:Nat):Prop:=∃ g gd lc vc la vA ys vs,E.D k∧E.sy k=.pointer (some ⟨g,0,none⟩)∧DRt 131 w (fun q=>col q=2) g gd (some la) lc vA vc ys vs x.D∧DW x.D
def PV (E:Env) (w:World) (col:Nat→Nat) (x:Dt) (k gf:Nat):Prop:=∃ gv gj gl A c xs As cs,E.D k∧E.sy k=.pointer (some ⟨gv,0,none⟩)∧VaM w (fun q=>col q=3) gv gj gl A c xs gf As cs x.V∧∀ f∈x.V.s,f.data.length≤2000
def PL (E:Env) (w:World) (col:Nat→Nat) (k:Nat):Prop:=∃ A n c,E.D k∧E.sy k=.slice A n c∧LgM w (fun q=>col q=4) A n c
def PX (E:Env) (w:World) (col:Nat→Nat) (τ:List UInt8):Prop:=∃ A c,E.D 105∧E.sy 105=.slice A τ.length c∧RBp w (fun q=>col q=5) A τ.length c τ
def PE (E:Env) (w:World) (col:Nat→Nat):Prop:=∃ (H N:Nat) (w0:World) (A:Option Addr) (c B':Nat),(∀ w1:World,N≤w1.heap.size→(∀ b,H≤b→b < N→w1.heap[b]?=w0.heap[b]?)→REn w1 N B' A 4 c esW)∧(∀ b,H≤b→b < N→w.heap[b]?=w0.heap[b]?)∧N≤w.heap.size∧B'≤N∧E.D 110∧E.sy 110=.slice A 4 c∧∀ b,H≤b→b < N→col b≠0
structure OkT (R:Nat→Dt→Prop) (τ:List UInt8) (z0:Option Obj) (t:Nat) (E:Env) (w:World) (x:Dt) (col:Nat→Nat):Prop where
 inB:∀ b,E.B b↔col b≠0
 ltB:∀ b,col b≠0→b < w.heap.size
 c0:col 0=9
 z:w.heap[0]?=z0
 g:ErrG w
 ph:R (tP t) x
 m3:3≤x.m∧x.m≤8
 fv:∃ gf A c A' c',PF E w col x gf A c A' c'∧(tV t≠0→PV E w col x (tV t) gf)
 dic:tD t≠0→PD E w col x (tD t)
 log:tL t≠0→PL E w col (tL t)
 txt:(tP t=1∨tP t=2)→PX E w col τ
 ent:tP t=21→PE E w col
section
variable {E E':Env} {w w':World} {col col':Nat→Nat} {x:Dt} {G:Nat→Prop}
theorem PF.mv {gf c c':Nat} {A A':Option Addr} (h:PF E w col x gf A c A' c') (hx:Ext E E') (hm:Mv G w w') (hd:∀ b,b < w.heap.size→col b=1→¬ G b) (hc:∀ b,col b=1→col' b=1):PF E' w' col' x gf A c A' c' :=
 ⟨(hx 101 h.nm).1,by rw [(hx 101 h.nm).2.2.2.2,h.sy],h.mem.mv hm fun q hq=>hd q (h.mem.lt hq) (h.at_ q hq),fun q hq=>hc q (h.at_ q hq)⟩
theorem PD.mv {k:Nat} (h:PD E w col x k) (hx:Ext E E') (hm:Mv G w w') (hd:∀ b,b < w.heap.size→col b=2→¬ G b) (hc:∀ b,col b=2→col' b=2):PD E' w' col' x k:=by
 obtain ⟨g,gd,lc,vc,la,vA,ys,vs,h1,h2,h3,h4⟩:=h;exact ⟨g,gd,lc,vc,la,vA,ys,vs,(hx k h1).1,by rw [(hx k h1).2.2.2.2,h2],(h3.mv hm hd).mono fun q _ hq=>hc q hq,h4⟩
theorem PV.mv {k gf:Nat} (h:PV E w col x k gf) (hx:Ext E E') (hm:Mv G w w') (hd:∀ b,b < w.heap.size→col b=3→¬ G b) (hc:∀ b,col b=3→col' b=3):PV E' w' col' x k gf:=by
 obtain ⟨gv,gj,gl,A,c,xs,As,cs,h1,h2,h3,h4⟩:=h;exact ⟨gv,gj,gl,A,c,xs,As,cs,(hx k h1).1,by rw [(hx k h1).2.2.2.2,h2],(h3.mv hm hd).mono fun q _ hq=>hc q hq,h4⟩
theorem PL.mv {k:Nat} (h:PL E w col k) (hx:Ext E E') (hm:Mv G w w') (hd:∀ b,b < w.heap.size→col b=4→¬ G b) (hc:∀ b,col b=4→col' b=4):PL E' w' col' k:=by
 obtain ⟨A,n,c,h1,h2,h3⟩:=h;exact ⟨A,n,c,(hx k h1).1,by rw [(hx k h1).2.2.2.2,h2],(h3.mv hm hd).mono fun q _ hq=>hc q hq⟩
theorem PX.mv {τ:List UInt8} (h:PX E w col τ) (hx:Ext E E') (hm:Mv G w w') (hd:∀ b,b < w.heap.size→col b=5→¬ G b) (hc:∀ b,col b=5→col' b=5):PX E' w' col' τ:=by
 obtain ⟨A,c,h1,h2,h3⟩:=h;exact ⟨A,c,(hx 105 h1).1,by rw [(hx 105 h1).2.2.2.2,h2],(h3.mv hm hd).mono fun q _ hq=>hc q hq⟩
theorem PE.mv (h:PE E w col) (hx:Ext E E') (hm:Mv G w w') (hd:∀ b,b < w.heap.size→col b≠0→¬ G b) (hc:∀ b,col b≠0→col' b≠0):PE E' w' col':=by
 obtain ⟨H,N,w0,A,c,B',h1,h2,h3,h4,h5,h6,h7⟩:=h;exact ⟨H,N,w0,A,c,B',h1,fun b ha hb=>(hm.block b (Nat.lt_of_lt_of_le hb h3) (hd b (Nat.lt_of_lt_of_le hb h3) (h7 b ha hb))).trans (h2 b ha hb),Nat.le_trans h3 hm.size,h4,(hx 110 h5).1,by rw [(hx 110 h5).2.2.2.2,h6],fun b ha hb=>hc b (h7 b ha hb)⟩
end
def Ot (R:Nat→Dt→Prop) (τ:List UInt8) (z0:Option Obj):Outside Nat where
 ok:=fun t E w=>∃ x col,OkT R τ z0 t E w x col
 keep:=fun t E w E' w' ⟨x,col,h⟩ hx hB hb hs hk=>by
  have hm:Mv (fun q=>col q=0) w w':=⟨hk.1,hk.2.1,hk.2.2,hs,fun b _ hn=>hb b ((h.inB b).2 hn)⟩;have no:∀ {i:Nat},i≠0→∀ b,b < w.heap.size→col b=i→¬ col b=0:=fun hi b _ e e0=>hi (e.symm.trans e0)
  obtain ⟨gf,A,c,A',c',h1,h2⟩:=h.fv;exact ⟨x,col,{ inB:=fun b=>(hB b).trans (h.inB b),ltB:=fun b hb=>Nat.lt_of_lt_of_le (h.ltB b hb) hs,c0:=h.c0,z:=(hb 0 ((h.inB 0).2 (by rw [h.c0]; decide))).trans h.z,g:=h.g.mv hm (by rw [h.c0]; decide),ph:=h.ph,m3:=h.m3,fv:=⟨gf,A,c,A',c',h1.mv hx hm (no (by decide)) fun _ h=>h,fun hv=>(h2 hv).mv hx hm (no (by decide)) fun _ h=>h⟩,dic:=fun hv=>(h.dic hv).mv hx hm (no (by decide)) fun _ h=>h,log:=fun hv=>(h.log hv).mv hx hm (no (by decide)) fun _ h=>h,txt:=fun hv=>(h.txt hv).mv hx hm (no (by decide)) fun _ h=>h,ent:=fun hv=>(h.ent hv).mv hx hm (fun b _ h1 h0=>h1 h0) fun _ h=>h }⟩
section
variable {X:Cx Nat} {O:Outside Nat} {E E':Env} {h:Nat→Option Ob} {g g' c c':Nat} {w w':World}
theorem step_out (r:Rel X O E h g w) (hx:Ext E E') (hm:Mv E.B w w') (hB:∀ b,E'.B b→E.B b∨(w.heap.size≤b∧b < w'.heap.size)) (hf:∀ id,E'.D id→E.D id∨(c≤id∧id < c')) (ok:O.ok g' E' w'):Rel X O E' h g' w'∧Mvd E h c w E' h c' w':=by
 have some_of:∀ i,h i≠none→∃ o,h i=some o:=fun i hi=>by
  cases e:h i with
  | none=>exact absurd e hi
  | some o=>exact ⟨o,rfl⟩
 have lt:∀ i,h i≠none→E.ι i < w.heap.size:=fun i hi=>by
  obtain ⟨o,e⟩:=some_of i hi;exact r.block_lt e
 have iota:∀ i,h i≠none→E'.ι i=E.ι i:=fun i hi=>by
  obtain ⟨o,e⟩:=some_of i hi;exact (hx i (r.ob i o e).1).2.1
 refine ⟨r.over hx (fun b hb=>?_) (fun i hi=>hm.block _ (lt i hi) (r.apart i hi)) ok,⟨hx,hf,hm.size,fun b hb hn _=>hm.block b hb hn,fun id hi=>.inl ⟨id,hi,iota id hi⟩,fun b hb=>(hB b hb).imp id fun h=>h.1,fun _ hi=>.inl hi,⟨hm.os,hm.tape,hm.output⟩⟩⟩;rcases hB b hb with h1 | h1
 ·exact ⟨Nat.lt_of_lt_of_le (r.lt b h1) hm.size,fun i hi e=>r.apart i hi (e ▸ h1)⟩
 ·exact ⟨h1.2,fun i hi e=>by have:=lt i hi; omega⟩
theorem step_quiet {s:St Nat} {v:AV} {y:Value} (r:Rel X O E s.S.get s.g w) (hb:Below w.heap.size w w') (hv:RV E v y):StepP X O E s w (some v) s y w':=by
 have hm:Mv E.B w w':=Mv.of_new hb _;obtain ⟨r',m⟩:=step_out (c:=s.c) (c':=s.c) r (Ext.refl E) hm (fun b h=>.inl h) (fun id h=>.inl h) (O.keep _ _ _ _ _ r.out (Ext.refl E) (fun _=>Iff.rfl) (fun b h=>hb.block b (r.lt b h)) hb.size ⟨hb.os,hb.tape,hb.output⟩);exact ⟨E,fun av e=>by injection e with e; rw [← e]; exact hv,r',m⟩
end
def recol (col:Nat→Nat) (a b i:Nat):Nat→Nat:=fun q=>if a≤q∧q < b then i else col q
theorem recol_old {col:Nat→Nat} {a b i q:Nat} (h:q < a):recol col a b i q=col q:=if_neg (by omega)
theorem recol_new {col:Nat→Nat} {a b i q:Nat} (h:a≤q∧q < b):recol col a b i q=i:=if_pos h
theorem eqI_tru {a b:Int} (h:eqI a b=true):a=b:=by
 unfold eqI at h;split at h
 ·rw [Nat.eq_of_beq_eq_true h]
 ·rw [Nat.eq_of_beq_eq_true h]
 ·cases h
theorem hasN_ne {k:Nat} (h:hasN k=true):k≠0:=by
 unfold hasN at h;have:0 < k:=by simpa [Nat.blt_eq] using h
 omega
theorem isOp_R {E:Env} {k:Nat} {v:AV} {y:Value} (h:isOp k v=true) (hr:RV E v y):E.D k∧y=E.sy k:=by
 unfold isOp at h;split at h
 ·rename_i j
  have e:=Nat.eq_of_beq_eq_true h;subst e;exact ⟨hr.1,hr.2.1⟩
 ·cases h
theorem isSy_R {E:Env} {k:Nat} {v:AV} {y:Value} (h:isSy k v=true) (hr:RV E v y):E.D k∧y=E.sy k:=by
 unfold isSy at h;split at h
 ·rename_i j
  have e:=Nat.eq_of_beq_eq_true h;subst e;exact ⟨hr.1,hr.2.1⟩
 ·cases h
end Go.Proofs.YtijegngfclkdaaaGreatDoor.Ev
namespace Go.Proofs.YtijegngfclkdaaaGreatDoor
open Go.RowKit
theorem Peek_found {D:Dc.Dic} {x y:Int} {k:Nat} (h:Dc.findS D.l x y=some k):Dc.peekS D x y=some (D.v.getD k []):=by
 unfold Dc.peekS;rw [h];rfl
theorem Num_none {D:Dc.Dic} {x y:Int} (h:Dc.findS D.l x y=none):Pm.numS D x y=(0,false):=by unfold Pm.numS; rw [h]
theorem Num_some {D:Dc.Dic} {x y:Int} {k:Nat} (h:Dc.findS D.l x y=some k):Pm.numS D x y=if Pm.isNum (D.l.getD k Dc.en0).type=true then ((Ty.decS (D.l.getD k Dc.en0).type (D.v.getD k [])).1,decide ((Ty.decS (D.l.getD k Dc.en0).type (D.v.getD k [])).2=0)) else (0,false):=by unfold Pm.numS; rw [h]
theorem Blk.elv {w:World} {g:Nat} {t:TypeId} {c0 c1 c2 c3 c4 c5 c6 c7 c8 c9 c10:Value} (h:Blk w g t #[c0,c1,c2,c3,c4,c5,c6,c7,c8,c9,c10]):w.cell? ⟨g,3,none⟩=some c3:=h.cell 3
theorem Number_any {F:Nat→Prop} {w:World} {g gv lc vc:Nat} {la:Addr} {vA:Option Addr} {xs vs:List Value} {D:Dc.Dic} (x y:Int) (h:DRt 131 w F g gv (some la) lc vA vc xs vs D) (hd:∀ e∈D.l,e.dflt.length≤1000000) (hv:∀ v∈D.v,v.length≤1000000) :
  Calls Tryz.prog 50 #[.pointer (some ⟨g,0,none⟩),.int .i64 x,.int .i64 y] w fun e w'=>e=.returned (.tuple #[.int .i64 (Pm.numS D x y).1,.bool (Pm.numS D x y).2])∧Below w.heap.size w w':=by
 have FI:=dFind_any x y h;cases hf:Dc.findS D.l x y with
 | none =>
  rw [findP_none hf] at FI;have HN:=Lib.hid (Num_none hf);clear h hf;replace FI:=Lib.hid FI;go_enter Tryz.func50,Tryz.ntmps50
  go_wp2_with fail
  refine (FI.out).mono ?_;rintro e w1 ⟨rfl,b1⟩;go_wp2_with fail
  go_ret2
  rw [HN.out];exact ⟨rfl,b1⟩
 | some k =>
  have hk:=(Dc.find_some hf).2.1;rw [findP_some hf] at FI;have HN:=Lib.hid (Num_some hf);have EN:=fun (w1:World) (hb:Below w.heap.size w w1)=>dEntry_any k (h.below hb) hk hd
  have PK:=fun (w1:World) (hb:Below w.heap.size w w1)=>dPeek_any x y (h.below hb) hv
  rw [Peek_found hf] at PK;unfold PeekP at PK;dsimp only at PK FI;generalize D.v.getD k []=dat at *;generalize D.l.getD k Dc.en0=en at *;obtain ⟨ix,sb,nm,ty,ac,mp,st,mx,lo,hi,df⟩:=en;unfold enV at EN;dsimp only at EN HN;replace FI:=Lib.hid FI; replace EN:=Lib.hid EN; replace PK:=Lib.hid PK;clear h hf hk
  by_cases hty:ty=5∨ty=6∨ty=7
  ·have HN2:Hid (Pm.numS D x y=((Ty.decS ty dat).1,decide ((Ty.decS ty dat).2=0))):=Lib.hid (by rw [HN.out,if_pos (by unfold Pm.isNum; exact decide_eq_true hty)])
   have H3:(ty == 5)=true∨((ty == 5)=false∧(ty == 6)=true)∨((ty == 5)=false∧(ty == 6)=false∧(ty == 7)=true):=by
    rcases hty with rfl | rfl | rfl
    ·exact .inl rfl
    ·exact .inr (.inl ⟨rfl,rfl⟩)
    ·exact .inr (.inr ⟨rfl,rfl,rfl⟩)
   clear HN hty;rcases H3 with e5 | ⟨e5,e6⟩ | ⟨e5,e6,e7⟩
   all_goals
    go_enter Tryz.func50,Tryz.ntmps50
    go_wp2_with fail
    refine (FI.out).mono ?_;rintro e w1 ⟨rfl,b1⟩;go_wp2_with fail
    refine (EN.out _ b1).mono ?_;rintro e w2 ⟨A1,n1,c1,rfl,_,b2⟩;have d2:=below_step b1 b2 (Nat.le_refl _);have b3:=alloc_one w2 (.cells #[.int .i64 ix,.int .i64 sb,.string (T nm),.int .i64 ty,.int .i64 ac,.bool mp,.bool st,.int .i64 mx,.int .i64 lo,.int .i64 hi,.slice A1 n1 c1] 27);have K3:=(Blk.new w2 27 #[.int .i64 ix,.int .i64 sb,.string (T nm),.int .i64 ty,.int .i64 ac,.bool mp,.bool st,.int .i64 mx,.int .i64 lo,.int .i64 hi,.slice A1 n1 c1]);have F3:=K3.elv;have d3:=below_step d2 b3 (Nat.le_refl _);go_wp2_with fail
    refine (PK.out _ d3).mono ?_;rintro e w4 ⟨A4,c4,rfl,o4,b4⟩;have d4:=below_step d3 b4 (Nat.le_refl _);have F4:=(K3.later b4).elv;have DE:=Lib.hid (Decode_any ty w4 o4.rb (Nat.le_refl _));clear F3;go_wp2_with fail
    refine (DE.out).mono ?_;rintro e w5 ⟨rfl,b5⟩;go_wp2_with fail
    go_ret2
    rw [HN2.out];exact ⟨rfl,below_step d4 b5 (Nat.le_refl _)⟩
  ·have HN2:Hid (Pm.numS D x y=(0,false)):=Lib.hid (by rw [HN.out,if_neg (by unfold Pm.isNum; rw [decide_eq_false hty]; simp)])
   have e5:(ty == 5)=false:=by simp only [beq_eq_false_iff_ne]; omega
   have e6:(ty == 6)=false:=by simp only [beq_eq_false_iff_ne]; omega
   have e7:(ty == 7)=false:=by simp only [beq_eq_false_iff_ne]; omega
   clear HN hty PK;go_enter Tryz.func50,Tryz.ntmps50
   go_wp2_with fail
   refine (FI.out).mono ?_;rintro e w1 ⟨rfl,b1⟩;go_wp2_with fail
   refine (EN.out _ b1).mono ?_;rintro e w2 ⟨A1,n1,c1,rfl,_,b2⟩;have d2:=below_step b1 b2 (Nat.le_refl _);have b3:=alloc_one w2 (.cells #[.int .i64 ix,.int .i64 sb,.string (T nm),.int .i64 ty,.int .i64 ac,.bool mp,.bool st,.int .i64 mx,.int .i64 lo,.int .i64 hi,.slice A1 n1 c1] 27);have K3:=(Blk.new w2 27 #[.int .i64 ix,.int .i64 sb,.string (T nm),.int .i64 ty,.int .i64 ac,.bool mp,.bool st,.int .i64 mx,.int .i64 lo,.int .i64 hi,.slice A1 n1 c1]);have F3:=K3.elv;have d3:=below_step d2 b3 (Nat.le_refl _);go_wp2_with fail
   go_ret2
   rw [HN2.out];exact ⟨rfl,d3⟩
theorem number_any {F:Nat→Prop} {w:World} {g gv lc vc:Nat} {la:Addr} {vA:Option Addr} {xs vs:List Value} {D:Dc.Dic} (x y o:Int) (h:DRt 131 w F g gv (some la) lc vA vc xs vs D) (hd:∀ e∈D.l,e.dflt.length≤1000000) (hv:∀ v∈D.v,v.length≤1000000) :
  Calls Tryz.prog 51 #[.pointer (some ⟨g,0,none⟩),.int .i64 x,.int .i64 y,.int .i64 o] w fun e w'=>e=.returned (.int .i64 (Pm.numD D x y o))∧Below w.heap.size w w':=by
 have NU:=Number_any x y h hd hv;have hn:Pm.numD D x y o=if (Pm.numS D x y).2=true then (Pm.numS D x y).1 else o:=rfl
 rw [hn];clear hn h;generalize Pm.numS D x y=q at *;obtain ⟨z,b⟩:=q;dsimp only at NU ⊢;replace NU:=Lib.hid NU;cases b
 ·simp only [Bool.false_eq_true,if_false]
  go_enter Tryz.func51,Tryz.ntmps51
  go_wp2_with fail
  refine (NU.out).mono ?_;rintro e w1 ⟨rfl,b1⟩;go_wp2_with fail
  go_ret
  exact ⟨rfl,b1⟩
 ·simp only [if_true]
  go_enter Tryz.func51,Tryz.ntmps51
  go_wp2_with fail
  refine (NU.out).mono ?_;rintro e w1 ⟨rfl,b1⟩;go_wp2_with fail
  go_ret
  exact ⟨rfl,b1⟩
end Go.Proofs.YtijegngfclkdaaaGreatDoor
