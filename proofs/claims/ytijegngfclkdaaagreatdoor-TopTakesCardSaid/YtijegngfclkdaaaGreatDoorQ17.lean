/-
  Piece 17 of the proof.
  Conditions: none.
-/
import Derived.Test.YtijegngfclkdaaaGreatDoorQ16
set_option linter.unusedVariables false
set_option linter.unusedSimpArgs false
set_option maxHeartbeats 100000000
set_option maxRecDepth 100000
namespace Go.Proofs.YtijegngfclkdaaaGreatDoor
section
open Go.RowKit
theorem za:∀ (m k v:Nat),k<=m->(Oct.lb m v).take k=Oct.lb k v
 | 0,k,v,h=>by
  obtain rfl:k=0:=by omega
  simp [Oct.lb]
 | m + 1,k,v,h=>by
  rcases Nat.lt_or_ge m k with h1 | h1
  ·obtain rfl:k=m + 1:=by omega
   exact List.take_of_length_le (by rw [Oct.dw]; omega)
  ·rw [Oct.lb,List.take_append_of_le_length (by rw [Oct.dw]; omega),za m k v h1]
theorem U2 (v:Nat) (w:World) (hv:v < 18446744073709551616) :
  Calls Tryz.prog 199 #[.slice none 0 0,.int .i64 8,.int .u64 (v:Int)] w fun e w'=>∃ A1 c1,e=.returned (.tuple #[.slice A1 8 c1,.int .i64 0])/\OB w' w.heap.size A1 8 c1 (Oct.lb 8 v)/\Below w.heap.size w w':=by
 have:=xD 8 v w (RB.none_ (B:=0)) (by omega) (Nat.zero_le _) (by omega) (by omega) hv (by omega);simp only [Nat.zero_add,List.nil_append] at this;exact this
def nk (T:Nat) (p:List Bt.cS×Int) (w:World) (e:Ending) (w':World):Prop:=∃ A c,e=.returned (.tuple #[.slice A p.1.length c,.int .i64 p.2])/\OS (oT w' w.heap.size) w' w.heap.size T 2 A p.1.length c p.1/\Below w.heap.size w w'
theorem zf {T:Nat} {p:List Bt.cS×Int} {w w':World} {x:Int} (h:p=([],x)) (hb:Below w.heap.size w w'):nk T p w (.returned (.tuple #[.slice none 0 0,.int .i64 x])) w':=by
 subst h;exact ⟨none,0,rfl,OS.none_ _ _ _ _,hb⟩
theorem Ic {T:Nat} {p:List Bt.cS×Int} {w w':World} {A:Option Addr} {n c:Nat} {l:List Bt.cS} (h:p=(l,0)) (hn:l.length=n) (ho:OS (oT w' w.heap.size) w' w.heap.size T 2 A n c l) (hb:Below w.heap.size w w'):nk T p w (.returned (.tuple #[.slice A n c,.int .i64 0])) w':=by
 subst h hn;exact ⟨A,c,rfl,ho,hb⟩
theorem vd {b:List UInt8} {ws:List Int} {z x:Int} (h:Bt.dL ws (ws.map Bt.okW)=(z,x)) (hx:x≠0):Bt.bg b ws=([],x):=by
 unfold Bt.bg;rw [h,if_neg hx]
theorem qg {b:List UInt8} {ws:List Int} {z:Int} (h:Bt.dL ws (ws.map Bt.okW)=(z,0)) (hs:8 * (b.length:Int) < z):Bt.bg b ws=([],2):=by
 unfold Bt.bg;rw [h,if_pos rfl,if_pos hs]
theorem sT {b:List UInt8} {ws:List Int} {z:Int} (h:Bt.dL ws (ws.map Bt.okW)=(z,0)) (hs:z<=8 * (b.length:Int)):Bt.bg b ws=(Bt.fS b ws ws.length,0):=by
 unfold Bt.bg;rw [h,if_pos rfl,if_neg (by simpa using hs)]
theorem G9 {ws:List Int} {z:Int} (h:Bt.dL ws (ws.map Bt.okW)=(z,0)) {k:Nat} (hk:k < ws.length) :
  1<=ws.getD k 0/\ws.getD k 0<=64/\0<=Bt.cH ws k/\Bt.cH ws k + ws.getD k 0=Bt.cH ws (k + 1)/\Bt.cH ws (k + 1)<=z:=by
 obtain ⟨h1,h2,h3⟩:=nI h;have hw:∀ i,i < ws.length->Bt.okW (ws.getD i 0)=true:=fun i hi=>by
  have:=h1 i (by simpa using hi)
  rwa [Bt.pG] at this
 have h4:=Bt.iE.1 (hw k hk);refine ⟨h4.1,h4.2,by have:=Bt.lX hw k (by omega); omega,rfl,?_⟩;have:=Bt.rY hw (k + 1) (ws.length - (k + 1)) (by omega);rw [show k + 1 + (ws.length - (k + 1))=ws.length by omega] at this;omega
theorem wR {A:Option Addr} {n c B:Nat} {bs:List UInt8} {A':Option Addr} {m c' B':Nat} {ws:List Int} (w:World) (hb:RB w B A n c bs) (h:RI w B' A' m c' ws) (hn:n<=1000000) (hm:m<=1000000) (hB:B<=w.heap.size) (hB':B'<=w.heap.size) (hx:∀ x∈ws,x<=9223372036854775807) :
  Calls Tryz.prog 311 #[.slice A n c,.slice A' m c'] w (nk 397 (Bt.bg bs ws) w):=by
 have hl:=h.len;have hbl:=hb.len;have T:=xA w h hm hx;cases hp:Bt.dL ws (ws.map Bt.okW) with
 | mk z x =>
 rw [hp] at T;have HP:=zq hp; clear hp;replace T:=zq T;dsimp only at T
 by_cases hx0:x=0
 ·subst hx0
  obtain ⟨t1,t2,t3⟩:=nI HP.out;clear t1 t2
  by_cases hs:8 * (n:Int) < z
  ·have rG:=zq (qg (b:=bs) HP.out (by rw [hbl]; exact hs))
   clear hbl hl hx;go_enter Tryz.func311,Tryz.ntmps311
   go_wp2_with fail
   refine (T.out).mono ?_;rintro e _ ⟨rfl,rfl⟩;go_wp2_with fail
   go_ret2
   exact zf rG.out (Below.refl _ _)
  ·have hs':z<=8 * (n:Int):=by omega
   have rG:=zq (sT (b:=bs) HP.out (by rw [hbl]; exact hs'));have HL:=zq hl;clear hbl hl hx;go_enter Tryz.func311,Tryz.ntmps311
   go_wp2_with fail
   refine (T.out).mono ?_;rintro e _ ⟨rfl,rfl⟩;go_wp2_with fail
   go_loopw [8,9,33] (fun v a u wr=>∃ (k:Nat) (A1:Option Addr) (c1:Nat),k<=m/\u=.int .i64 k/\v=.slice A1 k c1/\a=.int .i64 (Bt.cH ws k)/\OS (oT wr w.heap.size) wr w.heap.size 397 2 A1 k c1 (Bt.fS bs ws k)/\Below w.heap.size w wr) (fun _ _ u _=>m - (intOf u).toNat)
   case atStart=>exact ⟨0,_,_,by omega,rfl,rfl,rfl,OS.none_ _ _ _ _,Below.refl _ _⟩
   case round =>
    obtain ⟨k,A1,c1,hk,rfl,rfl,rfl,os,bb⟩:=hrel
    by_cases hlt:k < m
    ·obtain ⟨b,o,rfl,eT,q0⟩:=(h.below (bb.mono hB')).at_ hlt
     obtain ⟨s1,s2,s3,s4,s5⟩:=G9 HP.out (k:=k) (by rw [HL.out]; omega);have hnx:Bt.fS bs ws (k + 1)=Bt.fS bs ws k ++ [Bt.eu bs (Bt.cH ws k).toNat (ws.getD k 0)]:=rfl;generalize ws.getD k 0=x at *;obtain ⟨P,hP⟩:∃ P:Nat,Bt.cH ws k=(P:Int):=⟨_,(Int.toNat_of_nonneg s3).symm⟩;obtain ⟨M,rfl⟩:∃ M:Nat,x=(M:Int):=⟨x.toNat,by omega⟩;obtain ⟨nb,e1,e2,e3⟩:=pq (M:Int) (by omega) s2;have hz:=bb.size;have C1:=KT P M wr (hb.below (bb.mono hB)) hn (by omega) (by omega) (by omega);have C2:=fun w=>l0 (M:Int) w (by omega)
     have hlow:=Bt.kT bs P M;have Sp:Bt.gy bs P M < 18446744073709551616:=Nat.lt_of_lt_of_le hlow (Nat.le_trans (Nat.pow_le_pow_right (by decide) (show M<=64 by omega)) (by decide));rw [e1] at C2;rw [hP] at s4 s3 hnx ⊢;rw [<- s4] at s5;unfold Bt.eu at hnx;rw [e1,Int.toNat_natCast,Int.toNat_natCast,Int.toNat_natCast] at hnx;generalize Bt.gy bs P M=V at *;have C3:=U2 V wr Sp;have HN:=zq hnx; have HS:=zq s4;replace C1:=zq C1; replace C2:=zq C2; replace C3:=zq C3;clear hnx s4 hP hlow e1;go_wp2_with fail
     refine (C1.out).mono ?_;rintro e _ ⟨rfl,rfl⟩;go_wp2_with fail
     refine (C3.out).mono ?_;rintro e w1 ⟨A2,c2,rfl,o2,b2⟩;have hcut:=fun w=>iM od A2 8 c2 nb (Nat.le_trans e2 o2.rb.le) .i64 .i64 w
     have ow:=o2.ow.cut e2;rw [za 8 nb V e2] at ow;replace ow:=ow.more hz;have os1:=os.below b2 (R':=oT w1 w.heap.size) fun _ _ h=>h.below b2
     have d2:=aa bb b2 lq;clear o2 C1 C3;go_wp2_with fail
     refine (C2.out _).mono ?_;rintro e _ ⟨rfl,rfl⟩;go_wp2_with fail
     refine (C2.out _).mono ?_;rintro e _ ⟨rfl,rfl⟩;go_wp2_with (at_builtin; refine dU PY (fun w1=>oT w1 w.heap.size) rfl (.tmp 49) (.tmp 58) rfl rfl rfl rfl w.heap.size os1 ⟨(M:Int),Oct.lb nb V⟩ ⟨A2,nb,nb,rfl,ow⟩ rfl (jX _ _ _ _) (by omega) (by omega) d2.size (fun w1 A1 n1 c1 xs h g f cs hf=>hf.beside h (by decide) g) ?_; intro A3 c3 w3 os3 b3 g3 _)
     go_roundw
     case rel=>exact ⟨k + 1,A3,c3,by omega,by go_num,rfl,by rw [<- HS.out],by rw [HN.out]; exact os3,d2.trans b3⟩
     case measure=>simp [intOf] <;> omega
    ·obtain rfl:k=m:=by omega
     go_wp2_with fail
     go_ret2
     exact Ic (by rw [rG.out,HL.out]) (Bt.gM _ _ _) os bb
 ·have hx':(x != 0)=true:=by simpa using hx0
  have HX:=zq hx0; clear hx0 hx;go_enter Tryz.func311,Tryz.ntmps311
  go_wp2_with fail
  refine (T.out).mono ?_;rintro e _ ⟨rfl,rfl⟩;go_wp2_with fail
  go_ret2
  exact zf (vd HP.out HX.out) (Below.refl _ _)
def wg (w:World) (base:Nat) (e:aD.En) (cs:List Value):Prop:=∃ A n c,cs=Da e A n c/\OB w base A n c e.dflt
def vX (w:World) (base:Nat) (b:List UInt8) (cs:List Value):Prop:=∃ A n c,cs=[.slice A n c]/\OB w base A n c b
section
variable {w w':World} {base base' g i e size n c:Nat} {t:TypeId} {A:Option Addr} {l:List UInt8} {xs:List Value} {ds:Array Value} {u:Value}
theorem OB.beside (h:OB w base A n c l) {A':Option Addr} {n' c':Nat} {xs':List Value} (h':OV w base' e size A' n' c' xs') (hne:e≠5) (hg:w.grownBy w' (Value.slice A' n' c').ownBlock):OB w' base A n c l:=OB.kept h hg (fP h' h hne)
theorem OB.off (h:OB w base A n c l) (hb:ao w g t ds) (ht:t≠5):OB (w.setCell ⟨g,i,none⟩ u) base A n c l :=
 OB.kept h (row:=some g) (eQ (World.grownBy.refl _ _) (.inl rfl) u) (.inr (bE h hb (Ne.symm ht)))
theorem OV.off (h:OV w base e size A n c xs) (hb:ao w g t ds) (ht:t≠e):OV (w.setCell ⟨g,i,none⟩ u) base e size A n c xs :=
 OV.kept h (row:=some g) (eQ (World.grownBy.refl _ _) (.inl rfl) u) (.inr (bE h hb (Ne.symm ht)))
theorem OV.beside (h:OV w base e size A n c xs) {e' size':Nat} {A':Option Addr} {n' c':Nat} {xs':List Value} (h':OV w base' e' size' A' n' c' xs') (hne:e'≠e) (hg:w.grownBy w' (Value.slice A' n' c').ownBlock):OV w' base e size A n c xs:=OV.kept h hg (fP h' h hne)
theorem ao.beside (h:ao w g t ds) {A':Option Addr} {n' c':Nat} {xs':List Value} (h':OV w base' e size A' n' c' xs') (hne:e≠t) (hg:w.grownBy w' (Value.slice A' n' c').ownBlock):ao w' g t ds:=h.grown hg (fun q=>bE h' h hne q.symm)
end
section
variable {w w':World} {base g i size n c:Nat} {t e':TypeId} {e:aD.En} {b:List UInt8} {cs xs:List Value} {A:Option Addr} {ds:Array Value} {u:Value}
theorem wg.below (h:wg w base e cs) (hb:Below w.heap.size w w'):wg w' base e cs:=by obtain ⟨A,n,c,h1,h2⟩:=h; exact ⟨A,n,c,h1,h2.below hb⟩
theorem vX.below (h:vX w base b cs) (hb:Below w.heap.size w w'):vX w' base b cs:=by obtain ⟨A,n,c,h1,h2⟩:=h; exact ⟨A,n,c,h1,h2.below hb⟩
theorem wg.beside {base':Nat} (h:wg w base e cs) (h':OV w base' e' size A n c xs) (hne:e'≠5) (hg:w.grownBy w' (Value.slice A n c).ownBlock):wg w' base e cs:=by obtain ⟨A1,n1,c1,h1,h2⟩:=h; exact ⟨A1,n1,c1,h1,h2.beside h' hne hg⟩
theorem vX.beside {base':Nat} (h:vX w base b cs) (h':OV w base' e' size A n c xs) (hne:e'≠5) (hg:w.grownBy w' (Value.slice A n c).ownBlock):vX w' base b cs:=by obtain ⟨A1,n1,c1,h1,h2⟩:=h; exact ⟨A1,n1,c1,h1,h2.beside h' hne hg⟩
theorem wg.off (h:wg w base e cs) (hb:ao w g t ds) (ht:t≠5):wg (w.setCell ⟨g,i,none⟩ u) base e cs:=by obtain ⟨A1,n1,c1,h1,h2⟩:=h; exact ⟨A1,n1,c1,h1,h2.off hb ht⟩
theorem vX.off (h:vX w base b cs) (hb:ao w g t ds) (ht:t≠5):vX (w.setCell ⟨g,i,none⟩ u) base b cs:=by obtain ⟨A1,n1,c1,h1,h2⟩:=h; exact ⟨A1,n1,c1,h1,h2.off hb ht⟩
end
structure k_ (t:TypeId) (w:World) (base g:Nat) (lA:Option Addr) (kl lc:Nat) (vA:Option Addr) (kv vc:Nat) (es:List aD.En) (bs:List (List UInt8)):Prop where
 gb:base<=g
 aP:ao w g t #[.slice lA kl lc,.slice vA kv vc]
 row:OS (wg w base) w base 27 11 lA kl lc es
 yq:OS (vX w base) w base 25 1 vA kv vc bs
section
variable {t:TypeId} {w w':World} {base g kl lc kv vc:Nat} {lA vA:Option Addr} {es:List aD.En} {bs:List (List UInt8)}
theorem k_.below (h:k_ t w base g lA kl lc vA kv vc es bs) (hb:Below w.heap.size w w'):k_ t w' base g lA kl lc vA kv vc es bs :=
 ⟨h.gb,h.aP.later hb,OS.below h.row hb fun _ _ k=>k.below hb,OS.below h.yq hb fun _ _ k=>k.below hb⟩
theorem k_.QX (h:k_ t w base g lA kl lc vA kv vc es bs) (ht:t≠5) (hte:t≠27) (Pt:t≠25) {A1:Option Addr} {k1 c1:Nat} {es':List aD.En} (hrow:OS (wg w' base) w' base 27 11 A1 k1 c1 es') (hg:w.grownBy w' (Value.slice lA kl lc).ownBlock) :
  k_ t (w'.setCell ⟨g,0,none⟩ (.slice A1 k1 c1)) base g A1 k1 c1 vA kv vc es' bs:=by
 have hr:=h.row;obtain ⟨Xp,r0,_⟩:=hr;have hb:ao w' g t #[.slice lA kl lc,.slice vA kv vc]:=h.aP.beside r0 (Ne.symm hte) hg;refine ⟨h.gb,hb.aJ 0 _,?_,?_⟩
 ·obtain ⟨ys,o1,o2⟩:=hrow
  exact ⟨ys,o1.off hb hte,o2.imp fun _ _ k=>k.off hb ht⟩
 ·obtain ⟨ys,o1,o2⟩:=h.yq
  have Mn:=OV.beside o1 r0 (by decide) hg;exact ⟨ys,Mn.off hb Pt,o2.imp fun _ _ k=>(k.beside r0 (by decide) hg).off hb ht⟩
theorem k_.RN (h:k_ t w base g lA kl lc vA kv vc es bs) (ht:t≠5) (hte:t≠27) (Pt:t≠25) {A1:Option Addr} {k1 c1:Nat} {bs':List (List UInt8)} (hrow:OS (vX w' base) w' base 25 1 A1 k1 c1 bs') (hg:w.grownBy w' (Value.slice vA kv vc).ownBlock) :
  k_ t (w'.setCell ⟨g,1,none⟩ (.slice A1 k1 c1)) base g lA kl lc A1 k1 c1 es bs':=by
 have hr:=h.yq;obtain ⟨Xp,r0,_⟩:=hr;have hb:ao w' g t #[.slice lA kl lc,.slice vA kv vc]:=h.aP.beside r0 (Ne.symm Pt) hg;refine ⟨h.gb,hb.aJ 1 _,?_,?_⟩
 ·obtain ⟨ys,o1,o2⟩:=h.row
  have Mn:=OV.beside o1 r0 (by decide) hg;exact ⟨ys,Mn.off hb hte,o2.imp fun _ _ k=>(k.beside r0 (by decide) hg).off hb ht⟩
 ·obtain ⟨ys,o1,o2⟩:=hrow
  exact ⟨ys,o1.off hb Pt,o2.imp fun _ _ k=>k.off hb ht⟩
theorem k_.made {n:Nat} (h:k_ t w base g lA n lc vA n vc es bs) (ht:t≠5) (hte:t≠27) (Pt:t≠25) (hl:es.length=n) (hbs:bs.length=n) (ho:Dc.Ord es) (Sh:n<=96) (hr:∀ e∈es,aD.cD e=0) :
  ∃ gv xs vs,cM t w (fun q=>base<=q) g gv lA lc vA vc xs vs ⟨es,bs⟩:=by
 obtain ⟨xs,r1,r2⟩:=h.row;obtain ⟨vs,v1,v2⟩:=h.yq;subst hl;have hgl:=h.aP.lt;have hgv:∃ gv,gv≠g/\(∀ k,(Value.slice vA es.length vc).ownBlock=some k->k=gv)/\∀ {e' size' n' c':Nat} {A':Option Addr} {zs:List Value},OV w base e' size' A' n' c' zs->25≠e'->∀ k,(Value.slice A' n' c').ownBlock=some k->k≠gv:=by
  cases hk:(Value.slice vA es.length vc).ownBlock with
  | none=>exact ⟨w.heap.size,by omega,(fun k e=>by cases e),(fun ho _ k hk=>by have:=(ho.lt k hk).2; omega)⟩
  | some q =>
   refine ⟨q,fun e=>bE v1 h.aP (Ne.symm Pt) (by rw [hk,e]),(fun k e=>by injection e with e; exact e.symm),fun ho hne k hk2 e=>?_⟩;rcases fP v1 ho hne with h5 | h5
   ·rw [h5] at hk2; cases hk2
   ·exact h5 (by rw [hk2,hk,e])
 obtain ⟨gv,g1,g2,g3⟩:=hgv;have bytes:∀ {A:Option Addr} {n c:Nat} {b:List UInt8},OB w base A n c b->iX w (Fx (fun q=>base<=q) g gv) A n c b:=fun ho=>ho.Lx fun k hk =>
  ⟨(ho.lt k hk).1,fun e=>bE ho h.aP (Ne.symm ht) (by rw [hk,e]),g3 (A':=_) (zs:=_) ho (by decide) k hk⟩
 refine ⟨gv,xs,vs,{ fg:=h.gb,ne:=Ne.symm g1,aP:=h.aP,row:=r1.zC fun k hk=>⟨(r1.lt k hk).1,fun e=>bE r1 h.aP (Ne.symm hte) (by rw [hk,e]),g3 r1 (by decide) k hk⟩,rows:=r2.imp fun e cs he=>?_,own:=v1.more (Nat.zero_le _),at_:=fun k hk=>?_,vals:=v2.imp fun b cs hb=>?_,len:=hbs,ord:=ho,few:=Sh,right:=hr }⟩
 ·obtain ⟨A,n,c,e1,e2⟩:=he
  exact ⟨A,n,c,e1,bytes e2⟩
 ·have:=g2 k hk
  exact ⟨this,by rw [<- this]; exact (v1.lt k hk).1⟩
 ·obtain ⟨A,n,c,e1,e2⟩:=hb
  exact ⟨A,n,c,e1,bytes e2⟩
end
def U1 (w:World) (B:Nat) (e:aD.En) (cs:List Value):Prop:=∃ A n c,cs=Da e A n c/\RB w B A n c e.dflt
def qX (w:World) (B B':Nat) (A:Option Addr) (n c:Nat) (es:List aD.En):Prop:=RS (U1 w B') w B 11 A n c es
section
variable {w w':World} {B B' n c:Nat} {A:Option Addr} {es:List aD.En}
theorem qX.len (h:qX w B B' A n c es):es.length=n:=RS.len h (by decide)
theorem qX.lt (h:qX w B B' A n c es):n<=9223372036854775807:=RS.lt h
theorem qX.below (h:qX w B B' A n c es) (hb:Below B w w') (hB:B'<=B):qX w' B B' A n c es:=RS.below h hb fun _ _ k=>by
 obtain ⟨A,n,c,h1,h2⟩:=k;exact ⟨A,n,c,h1,h2.below (hb.mono hB)⟩
theorem qX.at_ (h:qX w B B' A n c es) {i:Nat} (hi:i < n):∃ b o A1 n1 c1,A=some ⟨b,o,none⟩/\b < B/\RB w B' A1 n1 c1 (es.getD i Dc.aI).dflt /\
  ∀ j u,(Da (es.getD i Dc.aI) A1 n1 c1)[j]?=some u->w.cell? ⟨b,o + i * 11 + j,none⟩=some u:=by
 have hl:=h.len;have hf:es[i]?=some (es.getD i Dc.aI):=by simp [List.getD,List.getElem?_eq_getElem (show i < es.length by omega)]
 obtain ⟨b,o,cs,rfl,hb,⟨A1,n1,c1,rfl,hr⟩,hc⟩:=RS.at_ h (by decide) hf;exact ⟨b,o,A1,n1,c1,rfl,hb,hr,fun j u hu=>hc j u (by have:=(List.getElem?_eq_some_iff.1 hu).1; simpa [Da] using this) hu⟩
end
theorem pe (e:aD.En) (A:Option Addr) (n c:Nat):∀ u∈Da e A n c,u.oneCell'=true:=by
 intro u hu;simp only [Da,List.mem_cons,List.not_mem_nil,or_false] at hu;rcases hu with rfl | rfl | rfl | rfl | rfl | rfl | rfl | rfl | rfl | rfl | rfl <;> rfl
theorem Ch {l:List aD.En} {k n:Nat} (h:k < n):Dc.lp l (n - k) k=if aD.cD (l.getD k Dc.aI)≠0 then (aD.cD (l.getD k Dc.aI),k) else if 0 < k/\aD.mb (l.getD (k - 1) Dc.aI) (l.getD k Dc.aI)=false then (16,k) else Dc.lp l (n - (k + 1)) (k + 1):=by
 obtain ⟨m,hm⟩:∃ m,n - k=m + 1:=⟨n - k - 1,by omega⟩;rw [hm,Dc.lp,show n - (k + 1)=m by omega]
def nJ (t:TypeId) (es:List aD.En) (w:World) (e:Ending) (w':World):Prop :=
 ((Dc.bp es).1=0/\Below w.heap.size w w'/\∃ (g gv lc vc:Nat) (la:Addr) (vA:Option Addr) (xs vs:List Value),e=.returned (.tuple #[.pointer (some ⟨g,0,none⟩),.int .i64 0,.int .i64 0])/\cM t w' (fun q=>w.heap.size<=q) g gv (some la) lc vA vc xs vs ⟨es,es.map (·.dflt)⟩) \/
 ((Dc.bp es).1≠0/\Below w.heap.size w w'/\e=.returned (.tuple #[.pointer none,.int .i64 (Dc.bp es).1,.int .i64 ((Dc.bp es).2:Int)]))
theorem yf {t:TypeId} {es:List aD.En} {w w':World} {x y:Int} {q:Nat} (h:Dc.bp es=(x,q)) (hx:x≠0) (hy:y=(q:Int)) (hb:Below w.heap.size w w'):nJ t es w (.returned (.tuple #[.pointer none,.int .i64 x,.int .i64 y])) w':=by
 subst hy;exact .inr ⟨by rw [h]; exact hx,hb,by rw [h]⟩
theorem RQ:ET Tryz.prog 213 34 3 40 (.agg #[.int .i64 0,.int .i64 0,.slice none 0 0]):=⟨Tryz.underlying213,info_parts (by kernel_rfl),rfl,by decide⟩
def pz (w:World) (base:Nat) (f:Dc.Vl) (cs:List Value):Prop:=∃ A n c,cs=[.int .i64 f.index,.int .i64 f.sub,.slice A n c]/\OW w base A n c f.data
theorem pz.below {w w':World} {base:Nat} {f:Dc.Vl} {cs:List Value} (hb:Below w.heap.size w w') (h:pz w base f cs):pz w' base f cs:=by
 obtain ⟨A,n,c,h1,h2⟩:=h;exact ⟨A,n,c,h1,h2.below hb⟩
theorem pz.beside {w w':World} {base base' e size m c':Nat} {A':Option Addr} {xs:List Value} (h':OV w base' e size A' m c' xs) (hne:e≠5) (hg:w.grownBy w' (Value.slice A' m c').ownBlock) {f:Dc.Vl} {cs:List Value} (h:pz w base f cs):pz w' base f cs:=by
 obtain ⟨A,n,c,h1,h2⟩:=h;exact ⟨A,n,c,h1,h2.beside h' hne hg⟩
theorem jP (x y:Int) (A:Option Addr) (m c:Nat):∀ u∈([.int .i64 x,.int .i64 y,.slice A m c]:List Value),u.oneCell'=true:=by
 intro u hu;simp only [List.mem_cons,List.not_mem_nil,or_false] at hu;rcases hu with rfl | rfl | rfl <;> rfl
def lJ (p:List Dc.Vl×Int) (w:World) (e:Ending) (w':World):Prop:=∃ A c,e=.returned (.tuple #[.slice A p.1.length c,.int .i64 p.2])/\OS (pz w' w.heap.size) w' w.heap.size 34 3 A p.1.length c p.1/\Below w.heap.size w w'
theorem pC {p:List Dc.Vl×Int} {w w':World} {x:Int} (h:p=([],x)) (hb:Below w.heap.size w w'):lJ p w (.returned (.tuple #[.slice none 0 0,.int .i64 x])) w':=by
 subst h;exact ⟨none,0,rfl,OS.none_ _ _ _ _,hb⟩
theorem Bh {p:List Dc.Vl×Int} {w w':World} {A:Option Addr} {n c:Nat} {l:List Dc.Vl} (h:p=(l,0)) (hn:l.length=n) (ho:OS (pz w' w.heap.size) w' w.heap.size 34 3 A n c l) (hb:Below w.heap.size w w'):lJ p w (.returned (.tuple #[.slice A n c,.int .i64 0])) w':=by
 subst h hn;exact ⟨A,c,rfl,ho,hb⟩
theorem CN {ws:List Int} {xs:List Value} (h2:Rows (fun (x:Int) cs=>cs=[Value.int .i64 x]) 1 ws xs):xs=ws.map (Value.int .i64):=by
 apply List.ext_getElem?
 intro i;have hx:=h2.len;rw [List.getElem?_map]
 by_cases hi:i < ws.length
 ·have:=h2.2 i _ (List.getElem?_eq_getElem hi)
  have e0:((xs.drop (i * 1)).take 1)[0]?=xs[i]?:=by rw [List.getElem?_take,List.getElem?_drop]; simp
  rw [this] at e0;simp [List.getElem?_eq_getElem hi,<- e0]
 ·rw [List.getElem?_eq_none (by omega),List.getElem?_eq_none (by omega)]; rfl
def OI (w:World) (base:Nat) (A:Option Addr) (n c:Nat) (ws:List Int):Prop:=OS (fun (x:Int) cs=>cs=[Value.int .i64 x]) w base 3 1 A n c ws
theorem OI.ri {w:World} {base n c:Nat} {A:Option Addr} {ws:List Int} (h:OI w base A n c ws):RI w w.heap.size A n c ws:=by
 obtain ⟨xs,h1,h2⟩:=h;obtain rfl:=CN h2;exact h1.rv
theorem OI.none_ (w:World) (base:Nat):OI w base none 0 0 []:=OS.none_ _ _ _ _
theorem AK (ws:List Nat):∀ x∈Mp.aF ws,x<=9223372036854775807:=by
 intro x hx;unfold Mp.aF at hx;obtain ⟨w,_,rfl⟩:=List.mem_map.1 hx;have:=Mp.uC w;omega
theorem xG (bs:List UInt8) (ws:List Int) (h:(Bt.bg bs ws).2=0):(Bt.bg bs ws).1.length=ws.length:=by
 unfold Bt.bg at *;split
 ·rename_i h1
  rw [if_pos h1] at h;split
  ·rename_i h2; rw [if_pos h2] at h; simp at h
  ·exact Bt.gM _ _ _
 ·rename_i h1
  rw [if_neg h1] at h;exact absurd h h1
theorem xT (bs:List UInt8) (ws:List Int) (h:(Bt.bg bs ws).2≠0):(Bt.bg bs ws).1=[]:=by
 unfold Bt.bg at *;split
 ·rename_i h1
  rw [if_pos h1] at h;split
  ·rfl
  ·rename_i h2; rw [if_neg h2] at h; exact absurd rfl h
 ·rfl
theorem vC {F:Nat->Prop} {w:World} {g gv lc vc:Nat} {la:Addr} {vA:Option Addr} {xs vs:List Value} {D:Dc.aZ} {A:Option Addr} {n c B:Nat} {ws:List Nat} {A':Option Addr} {n' c' B':Nat} {bs:List UInt8} (h:cM 131 w F g gv (some la) lc vA vc xs vs D) (hd:∀ e∈D.l,e.dflt.length<=1000000) (hw:RW w B A n c ws) (hwl:∀ x∈ws,x < 4294967296) (hB:B<=w.heap.size) (hb:RB w B' A' n' c' bs) (hn':n'<=1000000) (hB':B'<=w.heap.size):Calls Tryz.prog 273 #[.pointer (some ⟨g,0,none⟩),.slice A n c,.slice A' n' c'] w (lJ (Mp.aT D.l ws bs) w):=by
 have hl:=hw.len;have RI:=nV true h hd hw hwl hB;have hgs:Mp.aT D.l ws bs=if Mp.ar D.l true ws≠0 then ([],4) else if (Bt.bg bs (Mp.aF ws)).2≠0 then ([],(Bt.bg bs (Mp.aF ws)).2)
  else if Mp.cU D.l ws (Bt.bg bs (Mp.aF ws)).1 ws.length=true then (Mp.j6 ws (Bt.bg bs (Mp.aF ws)).1 ws.length,0) else ([],9):=rfl
 have hce:=Mp.bD (l:=D.l) (cm:=true) (ws:=ws);generalize Mp.ar D.l true ws=r at *
 by_cases hr:r=0
 ·subst hr
  simp only [ne_eq,not_true_eq_false,if_false] at hgs RI;obtain ⟨h8',hone⟩:=hce rfl;have h8:n<=8:=by rw [<- hl]; exact h8'
  have Vm:=zq (fun i hi=>Mp.eC (hone i hi).1);clear hce hone h8';replace RI:=zq RI;have HL:=zq hl;have OH:=zq hgs;clear hl hgs;go_enter Tryz.func273,Tryz.ntmps273
  go_wp2_with fail
  refine (RI.out).mono ?_;rintro e w1 ⟨rfl,b1⟩;go_wp2_with fail
  go_loopw [9,27] (fun v i wr=>∃ (k:Nat) (A1:Option Addr) (c1:Nat),k<=n/\i=.int .i64 k/\v=.slice A1 k c1/\OI wr w.heap.size A1 k c1 (Mp.aF (ws.take k))/\Below w.heap.size w wr) (fun _ i _=>n - (intOf i).toNat)
  case atStart=>exact ⟨0,_,_,by omega,rfl,rfl,OI.none_ _ _,b1⟩
  case round =>
   clear b1;obtain ⟨k,A1,c1,hk,rfl,rfl,os,bb⟩:=hrel
   by_cases hlt:k < n
   ·obtain ⟨b,o,rfl,eT,q0⟩:=(hw.below (bb.mono hB)).at_ hlt
    have hnx:=Mp.vw ws (k:=k) (by rw [HL.out]; exact hlt);have hwv:=word_lt hwl k;have e2:bits .and .u32 ((ws.getD k 0:Nat):Int) 255=((Mp.bt (ws.getD k 0):Nat):Int):=sN _ hwv rfl;have hbt:=Mp.uC (ws.getD k 0);have e3:wrap64 ((Mp.bt (ws.getD k 0):Nat):Int)=((Mp.bt (ws.getD k 0):Nat):Int):=by unfold wrap64; omega
    generalize Mp.bt (ws.getD k 0)=y at *;generalize ws.getD k 0=x at *;have HN:=zq hnx;clear hnx;go_wp2_with (at_builtin; refine dU Qs (fun _ (x:Int) cs=>cs=[Value.int .i64 x]) rfl (.tmp 31) (.tmp 35) rfl rfl rfl rfl w.heap.size os (y:Int) rfl rfl (fun u hu=>by simp only [List.mem_cons,List.not_mem_nil,or_false] at hu; rw [hu]; rfl) (by omega) (by omega) bb.size (fun w1 A1 n1 c1 xs h g f cs hf=>hf) ?_; intro A3 c3 w3 os3 b3 g3 _)
    go_roundw
    case rel=>exact ⟨k + 1,A3,c3,by omega,by go_num,rfl,by rw [HN.out]; exact os3,bb.trans b3⟩
    case measure=>simp [intOf] <;> omega
   ·obtain rfl:k=n:=by omega
    have hall:ws.take k=ws:=List.take_of_length_le (by rw [HL.out]; omega);rw [hall] at os;have UN:=wR wr (hb.below (bb.mono hB')) os.ri hn' (by omega) (Nat.le_trans hB' bb.size) lq (AK ws);have hun:=xG bs (Mp.aF ws);have KY:=xT bs (Mp.aF ws);rw [Mp.iy,HL.out] at hun;have hgs:=OH.out;unfold nk at UN;generalize Bt.bg bs (Mp.aF ws)=up at *;obtain ⟨fs,ue⟩:=up;dsimp only at UN hun KY hgs;replace UN:=zq UN;clear os hall OH
    by_cases hue:ue=0
    ·subst hue
     obtain rfl:fs.length=k:=hun rfl;simp only [ne_eq,not_true_eq_false,if_false] at hgs;rw [HL.out] at hgs;have OH:=zq hgs;clear hgs hun KY;go_wp2_with fail
     refine (UN.out).mono ?_;rintro e wu ⟨Af,cf,rfl,rH,bu⟩;have du:=aa bb bu lq;replace rH:=rH.more bb.size (R':=oT wu w.heap.size) fun _ _ h=>h.more bb.size
     clear UN bu bb;go_wp2_with fail
     go_loopw [14,49] (fun v i wr=>∃ (k:Nat) (A1:Option Addr) (c1:Nat),k<=fs.length/\i=.int .i64 k/\v=.slice A1 k c1/\OS (pz wr w.heap.size) wr wu.heap.size 34 3 A1 k c1 (Mp.j6 ws fs k)/\Below wu.heap.size wu wr/\Mp.cU D.l ws fs k=true) (fun _ i _=>fs.length - (intOf i).toNat)
     case atStart=>exact ⟨0,_,_,by omega,rfl,rfl,OS.none_ _ _ _ _,Below.refl _ _,rfl⟩
     case round =>
      obtain ⟨k,A1,c1,hk,rfl,rfl,os,bb,hat⟩:=hrel;have HAT:=zq hat;clear hat;have db:=aa du bb lq
      by_cases hlt:k < fs.length
      ·obtain ⟨b,o,rfl,eT,q0⟩:=(hw.below (db.mono hB)).at_ hlt
       obtain ⟨kk,hf1,hf2,hf3,th,Zu⟩:=Vm.out k (by rw [HL.out]; exact hlt);have FN:=vu (ws.getD k 0) (word_lt hwl k) (h.below db) hd;unfold oB at FN;rw [hf1] at FN;dsimp only at FN;obtain ⟨hp1,hp2,hp3⟩:=(Dc.bS hf1).2;have htk:Mp.jL D.l ws fs k=decide (aD.cJ (Mp.qS D.l (ws.getD k 0)) (fs.getD k Bt.cS.zero).data=0):=rfl;rw [hf2] at htk;have hvk:Mp.j6 ws fs (k + 1)=Mp.j6 ws fs k ++ [⟨(Mp.ix (ws.getD k 0):Int),(Mp.sb (ws.getD k 0):Int),(fs.getD k Bt.cS.zero).data⟩]:=rfl;rw [<- hp2,<- hp3] at hvk;have Xq:=rH.below bb (R':=oT wr w.heap.size) fun _ _ h=>h.below bb
       have hfg:fs[k]?=some (fs.getD k Bt.cS.zero):=by simp [List.getD,List.getElem?_eq_getElem hlt]
       obtain ⟨bf,Ha,cs,Zv,hbf,⟨A2,n2,c2,rfl,Vn⟩,hcf⟩:=RS.at_ Xq.rs (by decide) hfg;have f1:=hcf 1 _ (by decide) rfl;subst Zv;have Zw:∀ ab,(some ⟨bf,Ha,none⟩:Option Addr)=ab->True:=fun _ _=>trivial
       have Xr:fs.length<=cf:=by obtain ⟨zs,z1,_⟩:=rH; exact z1.rv.le
       have Vo:cf<=9223372036854775807:=by obtain ⟨zs,z1,_⟩:=rH; exact z1.rv.cap
       generalize (fs.getD k Bt.cS.zero).data=dat at *;generalize D.l.getD kk Dc.aI=en at *;clear hf1 hf2 hf3 th Zu hp1 hp2 hp3 hfg hcf Xq;obtain ⟨ix,sb,nm,ty,ac,mp,st,mx,lo,hi,df⟩:=en;dsimp only at FN hvk;generalize ws.getD k 0=x at *;have Zx:=zq hvk; have IF:=zq htk;clear hvk htk;have EV:=fun A n c w2 (hb:Below wr.heap.size wr w2)=>ga ⟨ix,sb,nm,ty,ac,mp,st,mx,lo,hi,df⟩ A n c w2 (Vn.rb.below hb) hb.size
       unfold gO at EV;dsimp only at EV;generalize (Mp.bt x:Int)=vb at FN;replace FN:=zq FN;replace EV:=zq EV;go_wp2_with fail
       refine (FN.out).mono ?_;rintro e w1 ⟨A3,n3,c3,rfl,o3,b1⟩;have b2:=ae w1 (.cells #[.int .i64 ix,.int .i64 sb,.string (T nm),.int .i64 ty,.int .i64 ac,.bool mp,.bool st,.int .i64 mx,.int .i64 lo,.int .i64 hi,.slice A3 n3 c3,.int .i64 vb] 206);have K:=ao.new w1 206 #[.int .i64 ix,.int .i64 sb,.string (T nm),.int .i64 ty,.int .i64 ac,.bool mp,.bool st,.int .i64 mx,.int .i64 lo,.int .i64 hi,.slice A3 n3 c3,.int .i64 vb];have d2:=aa b1 b2 lq;generalize hv:aD.cJ ⟨ix,sb,nm,ty,ac,mp,st,mx,lo,hi,df⟩ dat=vv at *;clear hv;have TW:=K.kj.1;have k0:=cell_regrown TW.1;have k1:=cell_regrown TW.2.1;have k2:=cell_regrown TW.2.2.1;have k3:=cell_regrown TW.2.2.2.1;have k4:=cell_regrown TW.2.2.2.2.1;have k5:=cell_regrown TW.2.2.2.2.2.1;have k6:=cell_regrown TW.2.2.2.2.2.2.1;have k7:=cell_regrown TW.2.2.2.2.2.2.2.1;have k8:=cell_regrown TW.2.2.2.2.2.2.2.2.1;have k9:=cell_regrown TW.2.2.2.2.2.2.2.2.2.1;have k10:=cell_regrown TW.2.2.2.2.2.2.2.2.2.2.1;clear TW;have Zy:=cell_regrown ((d2.cell (p:=⟨bf,Ha + k * 2 + 1,none⟩) hbf).trans f1);have i0:(0:Int)<=(k:Int):=by omega
       have i1:(k:Int) < (fs.length:Int):=by omega
       go_wp2_with fail
       refine aN (by kernel_rfl) ?_;refine ai (by kernel_rfl) 2 (af _) [0,2,3,1,4,5,6] rfl (by kernel_rfl) ?_;simp only [aj,nth]
       repeat (go_big_quiet_step (fail))
       refine wpQuiet_nil ?_;refine aH 7 1 rfl (by kernel_rfl) (by decide) ?_;simp only [nth];go_wp2_with fail
       refine (EV.out _ _ _ _ (d2.trans ((af _).mono d2.size))).mono ?_;rintro e w3 ⟨rfl,b3⟩;have b3':Below (w1.alloc (.cells #[.int .i64 ix,.int .i64 sb,.string (T nm),.int .i64 ty,.int .i64 ac,.bool mp,.bool st,.int .i64 mx,.int .i64 lo,.int .i64 hi,.slice A3 n3 c3,.int .i64 vb] 206)).heap.size (w1.alloc (.cells #[.int .i64 ix,.int .i64 sb,.string (T nm),.int .i64 ty,.int .i64 ac,.bool mp,.bool st,.int .i64 mx,.int .i64 lo,.int .i64 hi,.slice A3 n3 c3,.int .i64 vb] 206)) w3:=(af _).trans b3;have d3:=aa d2 b3' lq;replace K:=K.later b3';go_wp2_with fail
       refine ax b3' ?_;clear k0 k1 k2 k3 k4 k5 k6 k7 k8 k9 k10 Zy EV;have HD2:=zq d2;clear d2 b3' b3 b2 o3
       by_cases hv0:vv=0
       ·subst hv0
        have htk:Mp.jL D.l ws fs k=true:=by rw [IF.out]; rfl
        have Vp:=zq (show Mp.cU D.l ws fs (k + 1)=true by rw [Mp.cU,HAT.out,htk]; rfl);clear htk IF;refine ai (by kernel_rfl) 0 (Below.refl _ _) [8] rfl (by kernel_rfl) ?_;simp only [aj,nth]
        repeat (go_big_quiet_step (fail))
        refine wpQuiet_nil ?_;refine aK (by kernel_rfl) ?_;have os3:=os.below d3 (R':=pz w3 w.heap.size) fun _ _ h=>h.below d3
        have TY:=Vn.below d3;have f3:=(d3.cell (p:=⟨bf,Ha + k * 2 + 1,none⟩) hbf).trans f1;have Xs:=(rH.below bb (R':=oT wr w.heap.size) fun _ _ h=>h.below bb).below d3 (R':=oT w3 w.heap.size) fun _ _ h=>h.below d3
        have bb3:=aa bb d3 lq;obtain ⟨Gq,yr⟩:∃ G:Nat->Prop,∀ q,G q↔some q=(Value.slice A1 k c1).ownBlock:=⟨fun q=>some q=(Value.slice A1 k c1).ownBlock,fun _=>Iff.rfl⟩;have hG1:¬ Gq w1.heap.size:=fun e=>by
         obtain ⟨ys,y1,_⟩:=os3;exact bE y1 K (by decide) ((yr _).1 e).symm
        have hG2:¬ Gq bf:=fun e=>by
         obtain ⟨ys,y1,_⟩:=os3;obtain ⟨zs,z1,_⟩:=Xs;rcases fP y1 z1 (by decide) with h5 | h5
         ·simp [Value.ownBlock] at h5
         ·exact h5 ((yr _).1 e)
        have TW:=K.kj.1;have k0:=aC (G:=Gq) TW.1 hG1;have k1:=aC (G:=Gq) TW.2.1 hG1;have fc:=aC (G:=Gq) f3 hG2;have Zz:=zq yr;have b4:Below w3.heap.size w3 (w3.drew.alloc (.cells #[.int .i64 ix,.int .i64 sb,.slice A2 n2 c2] 34)):=(af w3).trans (ae w3.drew _);have OJ:=os3.below b4 (R':=pz _ w.heap.size) fun _ _ h=>h.below b4
        have hnew:=RV.new w3.drew 34 (size:=3) (cs:=[.int .i64 ix,.int .i64 sb,.slice A2 n2 c2]) rfl;have th:pz (w3.drew.alloc (.cells #[.int .i64 ix,.int .i64 sb,.slice A2 n2 c2] 34)) w.heap.size ⟨ix,sb,dat⟩ [.int .i64 ix,.int .i64 sb,.slice A2 n2 c2]:=⟨A2,n2,c2,rfl,TY.below b4⟩;have Xt:=aa bb3 b4 lq;clear os3 Xs TY yr hG1 hG2 TW K f3;go_wp2_with fail
        refine cF 99 Gq (by kernel_rfl) ?_;refine cy (by kernel_rfl) 3 (Mv.refl _ _).drew [0,1,4,7,8,2,5,9,3,6,10,11,12] rfl (by kernel_rfl) ?_;simp only [aj,nth]
        repeat (go_big_quiet_step (fail))
        refine wpQuiet_nil ?_;refine ag 13 2 rfl (by kernel_rfl) (by decide) ?_;simp only [nth];go_wp2_with fail
        refine aB (Mv.aq b4 _) ?_;refine ag 14 1 rfl (by kernel_rfl) (by decide) ?_;simp only [nth];go_wp2_with (at_builtin; refine cO RQ (fun w1=>pz w1 w.heap.size) rfl (.tmp 69) (.tmp 82) rfl rfl rfl wu.heap.size OJ ⟨ix,sb,dat⟩ hnew th (jP _ _ _ _ _) (by omega) (by omega) Xt.size (fun w1 A1 n1 c1 xs h g f cs hf=>hf.beside h (by decide) g) ?_; intro A5 c5 w5 o5 b5 g5 _)
        have M5:Mv Gq w3 w5:=(Mv.aq b4 _).trans (Mv.fk g5) fun b hb e=>(Zz.out _).2 e
        refine aB M5 ?_;refine cy (by kernel_rfl) 0 M5 [15] rfl (by kernel_rfl) ?_;simp only [aj,nth]
        repeat (go_big_quiet_step (fail))
        refine wpQuiet_nil ?_;refine au (by kernel_rfl) ?_;have Sq:=Xt.trans b5;clear k0 k1 fc OJ hnew th;go_wp2_with fail
        go_roundw
        case rel=>exact ⟨k + 1,A5,c5,by omega,by go_num,rfl,by rw [Zx.out]; exact o5,Sq,Vp.out⟩
        case measure=>simp [intOf] <;> omega
       ·have htk:Mp.jL D.l ws fs k=false:=by rw [IF.out]; exact decide_eq_false hv0
        have hbad:Mp.aT D.l ws bs=([],9):=by
         rw [OH.out,Mp.xa hlt htk];rfl
        have hv2:(vv == 0)=false:=by simpa using hv0
        have hv3:(vv != 0)=true:=by simpa using hv0
        have ZA:=zq hbad;clear hbad htk IF hv0;refine ai (by kernel_rfl) 0 (Below.refl _ _) [8] rfl (by kernel_rfl) ?_;simp only [aj,nth]
        repeat (go_big_quiet_step (fail))
        refine wpQuiet_nil ?_;refine aK (by kernel_rfl) ?_;go_wp2_with fail
        go_ret2
        exact pC ZA.out (aa db d3 lq)
      ·obtain rfl:k=fs.length:=by omega
       have hat:=HAT.out;go_wp2_with fail
       go_ret2
       refine Bh (by rw [OH.out]; exact if_pos hat) (Mp.cz _ _ _) (os.more du.size fun _ _ h=>h) db
    ·obtain rfl:fs=[]:=KY hue
     simp only [ne_eq,hue,not_false_eq_true,if_true] at hgs;have ZB:(ue == 0)=false:=by simpa using hue
     have ZC:(ue != 0)=true:=by simpa using hue
     have OH:=zq hgs;clear hgs hun KY hue;go_wp2_with fail
     refine (UN.out).mono ?_;rintro e wu ⟨Af,cf,rfl,rH,bu⟩;go_wp2_with fail
     go_ret2
     exact pC OH.out (aa bb bu lq)
 ·simp only [ne_eq,hr,not_false_eq_true,if_true] at hgs RI
  rw [hgs];have hr2:(r == 0)=false:=by simpa using hr
  clear hgs hce hr hl;replace RI:=zq RI;go_enter Tryz.func273,Tryz.ntmps273
  go_wp2_with fail
  refine (RI.out).mono ?_;rintro e w1 ⟨rfl,b1⟩;go_wp2_with fail
  go_ret2
  exact pC rfl b1
open Go.ChangeShapes Go.WideShapes Go.ChangeAt
def W6 (w:World) (B:Nat) (f:Dc.Vl) (cs:List Value):Prop:=∃ A n c,cs=[.int .i64 f.index,.int .i64 f.sub,.slice A n c]/\RB w B A n c f.data
def H_:Dc.Vl:=⟨0,0,[]⟩
def NG (w:World) (B B':Nat) (A:Option Addr) (n c:Nat) (fs:List Dc.Vl):Prop:=RS (W6 w B') w B 3 A n c fs
section
variable {w w':World} {B B' n c:Nat} {A:Option Addr} {fs:List Dc.Vl}
theorem NG.len (h:NG w B B' A n c fs):fs.length=n:=RS.len h (by decide)
theorem NG.lt (h:NG w B B' A n c fs):n<=9223372036854775807:=RS.lt h
theorem NG.at_ (h:NG w B B' A n c fs) {i:Nat} (hi:i < n):∃ b o A' n' c',A=some ⟨b,o,none⟩/\b < B/\w.cell? ⟨b,o + i * 3,none⟩=some (.int .i64 (fs.getD i H_).index) /\
  w.cell? ⟨b,o + i * 3 + 1,none⟩=some (.int .i64 (fs.getD i H_).sub)/\w.cell? ⟨b,o + i * 3 + 2,none⟩=some (.slice A' n' c')/\RB w B' A' n' c' (fs.getD i H_).data:=by
 have hl:=h.len;have hf:fs[i]?=some (fs.getD i H_):=by simp [List.getD,List.getElem?_eq_getElem (show i < fs.length by omega)]
 obtain ⟨b,o,cs,rfl,hb,⟨A',n',c',rfl,hr⟩,hc⟩:=RS.at_ h (by decide) hf;exact ⟨b,o,A',n',c',rfl,hb,hc 0 _ (by decide) rfl,hc 1 _ (by decide) rfl,hc 2 _ (by decide) rfl,hr⟩
end
section
variable {H:Type} {enc:TypeId×Value->H} {w:World} {spare:Nat->Bool} {held:Bool}
theorem uc {fuel:Nat} {cs:List Value} {x:DataW H×List MemPlace} (h:DataW.trod enc Tryz.prog w 0 spare held fuel 27 cs=some x):∃ e,U1 w w.heap.size e cs/\e.name.length<=9223372036854775807:=by
 have h3:cs.length=11:=pg Tryz.underlying27 h (by kernel_rfl)
 match cs,h3 with
 | [a0,a1,a2,a3,a4,a5,a6,a7,a8,a9,Mo],_ =>
  obtain ⟨_,_,t0⟩:=aS Tryz.underlying27 h 0 3 0 a0 rfl (by kernel_rfl) rfl;obtain ⟨_,_,t1⟩:=aS Tryz.underlying27 h 1 3 1 a1 rfl (by kernel_rfl) rfl;obtain ⟨_,_,t2⟩:=aS Tryz.underlying27 h 2 9 2 a2 rfl (by kernel_rfl) rfl;obtain ⟨_,_,t3⟩:=aS Tryz.underlying27 h 3 3 3 a3 rfl (by kernel_rfl) rfl;obtain ⟨_,_,t4⟩:=aS Tryz.underlying27 h 4 3 4 a4 rfl (by kernel_rfl) rfl;obtain ⟨_,_,t5⟩:=aS Tryz.underlying27 h 5 4 5 a5 rfl (by kernel_rfl) rfl;obtain ⟨_,_,t6⟩:=aS Tryz.underlying27 h 6 4 6 a6 rfl (by kernel_rfl) rfl;obtain ⟨_,_,t7⟩:=aS Tryz.underlying27 h 7 3 7 a7 rfl (by kernel_rfl) rfl;obtain ⟨_,_,t8⟩:=aS Tryz.underlying27 h 8 2 8 a8 rfl (by kernel_rfl) rfl;obtain ⟨_,_,t9⟩:=aS Tryz.underlying27 h 9 2 9 a9 rfl (by kernel_rfl) rfl;obtain ⟨_,_,t10⟩:=aS Tryz.underlying27 h 10 25 10 Mo rfl (by kernel_rfl) rfl;obtain ⟨i0,rfl,_⟩:=bC Tryz.underlying3 t0;obtain ⟨i1,rfl,_⟩:=bC Tryz.underlying3 t1;obtain ⟨s,rfl,hs⟩:=uS Tryz.underlying9 t2;obtain ⟨i3,rfl,_⟩:=bC Tryz.underlying3 t3;obtain ⟨i4,rfl,_⟩:=bC Tryz.underlying3 t4;obtain ⟨b5,rfl⟩:=lZ Tryz.underlying4 t5;obtain ⟨b6,rfl⟩:=lZ Tryz.underlying4 t6;obtain ⟨i7,rfl,_⟩:=bC Tryz.underlying3 t7;obtain ⟨i8,rfl,_⟩:=bC Tryz.underlying2 t8;obtain ⟨i9,rfl,_⟩:=bC Tryz.underlying2 t9;obtain ⟨A,n,c,l,rfl,hr⟩:=ka Tryz.underlying25 Tryz.underlying5 (by kernel_rfl) t10;obtain ⟨nm,rfl⟩:=UX s;rw [pF] at hs;exact ⟨⟨i0,i1,nm,i3,i4,b5,b6,i7,i8,i9,l⟩,⟨A,n,c,rfl,hr⟩,by simpa [maxLen] using hs⟩
theorem sH {fuel:Nat} {v:Value} {x:DataW H×List MemPlace} (h:DataW.trod enc Tryz.prog w 0 spare held fuel 28 [v]=some x) :
  ∃ (A:Option Addr) (n c:Nat) (es:List aD.En),v=.slice A n c/\qX w w.heap.size w.heap.size A n c es/\∀ e∈es,e.name.length<=9223372036854775807:=by
 obtain ⟨A,n,c,rfl⟩:=iI Tryz.underlying28 h;obtain ⟨es,xs,hl,h1,h2⟩:=ml (fun e cs=>U1 w w.heap.size e cs/\e.name.length<=9223372036854775807) Tryz.underlying28 (show Tryz.prog.cellsOf 27=11 by kernel_rfl) (by decide) (fun _ _ _ h=>uc h) h;refine ⟨A,n,c,es,rfl,⟨xs,h1,h2.imp fun _ _ h=>h.1⟩,fun f hm=>?_⟩;obtain ⟨i,hi,rfl⟩:=List.getElem_of_mem hm;exact (h2.2 i _ (List.getElem?_eq_getElem hi)).2
end
def og (n:Nat) (es:List aD.En) (w:World) (e:Ending) (w':World):Prop:=∃ b:Bool,e=.returned (.bool b)/\w=w'/\(b=true->n<=200/\∀ e∈es,e.name.length<=1000/\e.dflt.length<=1000)
theorem kH {n:Nat} {es:List aD.En} {w:World}:og n es w (.returned (.bool false)) w:=⟨false,rfl,rfl,fun h=>by cases h⟩
theorem ux {n:Nat} {es:List aD.En} {w:World} (hl:es.length=n) (h:n<=200/\∀ i,i < n->(es.getD i Dc.aI).name.length<=1000/\(es.getD i Dc.aI).dflt.length<=1000):og n es w (.returned (.bool true)) w :=
 ⟨true,rfl,rfl,fun _=>⟨h.1,fun e he=>by
  obtain ⟨i,hi,rfl⟩:=List.getElem_of_mem he;have:=h.2 i (by omega)
  rwa [List.getD_eq_getElem?_getD,List.getElem?_eq_getElem hi] at this⟩⟩
theorem ui {A:Option Addr} {n c B B':Nat} {es:List aD.En} (w:World) (h:qX w B B' A n c es) (hnm:∀ e∈es,e.name.length<=9223372036854775807) :
  Calls Tryz.prog 46 #[.slice A n c] w (og n es w):=by
 have hn:=h.lt;have hl:=h.len
 by_cases ZD:200 < n
 ·go_enter Tryz.func46,Tryz.ntmps46
  go_wp2_with fail
  go_ret
  exact kH
 ·have HL:=zq hl
  go_enter Tryz.func46,Tryz.ntmps46
  go_wp2_with fail
  go_loop [3] (fun i=>∃ k:Nat,k<=n/\i=.int .i64 k/\∀ j,j < k->(es.getD j Dc.aI).name.length<=1000/\(es.getD j Dc.aI).dflt.length<=1000) (fun i=>n - (intOf i).toNat)
  case atStart=>exact ⟨0,by omega,rfl,fun _ h=>absurd h (by omega)⟩
  case round =>
   obtain ⟨k,hk,rfl,hall⟩:=hrel;have Sr:=zq hall; clear hall
   by_cases hlt:k < n
   ·obtain ⟨b,o,A1,n1,c1,rfl,eT,hr,hc⟩:=h.at_ hlt
    have q2:=hc 2 _ rfl;have Dn:=hc 10 _ rfl;have hrl:=hr.len;have hmem:es.getD k Dc.aI∈es:=by
     rw [List.getD_eq_getElem?_getD,List.getElem?_eq_getElem (by omega)];exact List.getElem_mem _
    have hnl:=hnm _ hmem;have HJ:=zq (fun (h1:(es.getD k Dc.aI).name.length<=1000) (h2:n1<=1000) (j:Nat) (hj:j < k + 1)=>show (es.getD j Dc.aI).name.length<=1000/\(es.getD j Dc.aI).dflt.length<=1000 from by
     rcases Nat.lt_or_ge j k with h | h
     ·exact Sr.out j h
     ·obtain rfl:j=k:=by omega
      exact ⟨h1,by rw [hrl]; exact h2⟩)
    clear hmem hrl hr hc hnm hl;generalize es.getD k Dc.aI=e0 at *;obtain ⟨ix,sb,nm,ty,ac,mp,st,mx,lo,hi,df⟩:=e0;dsimp only at q2 Dn hnl HJ;have hts:=pF nm
    by_cases hbig:1000 < n1
    ·go_wp2_with fail
     go_ret
     exact kH
    ·by_cases hbig2:1000 < nm.length
     ·go_wp2_with fail
      go_ret
      exact kH
     ·have HTS:=zq hts
      go_wp2_with fail
      go_round
      case rel=>exact ⟨k + 1,by omega,by go_num,HJ.out (by omega) (by omega)⟩
      case measure=>simp [intOf] <;> omega
   ·obtain rfl:k=n:=by omega
    go_wp2_with fail
    go_ret
    exact ux HL.out ⟨by omega,Sr.out⟩
end
end Go.Proofs.YtijegngfclkdaaaGreatDoor
