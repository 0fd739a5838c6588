/-
  Piece 30 of the proof.
  Conditions: none.
-/
import Derived.Test.YtijegngfclkdaaaGreatDoorQ29
set_option linter.unusedVariables false
set_option linter.unusedSimpArgs false
set_option maxHeartbeats 100000000
set_option maxRecDepth 100000
namespace Go.Proofs.YtijegngfclkdaaaGreatDoor
namespace Nn
open Go.RowKit Go
theorem Hu (v:Nat) (hv:v < 4294967296) (hb:aY.bad v=true) (o:Int) (w:World):Calls Tryz.prog 286 #[.int .u32 (v:Int),.int .i64 o] w fun e w'=>e=.returned (.int .i64 4)/\Below w.heap.size w w':=by
 have SP:=zq (iq v hv hb w);clear hb;go_enter Tryz.func286,Tryz.ntmps286
 go_wp2_with fail
 refine (SP.out).mono ?_;rintro e w1 ⟨rfl,b1⟩;have b2:=ae w1 (.cells #[.bool false,.bool false,.int .i64 0] 161);have F2:=(ao.new w1 161 #[.bool false,.bool false,.int .i64 0]).three;go_wp2_with fail
 go_ret
 exact ⟨rfl,aa b1 b2 lq⟩
def L7 (v:Nat) (w:World) (e:Ending) (w':World):Prop:=Below w.heap.size w w'/\∃ (o:Option Nat) (z:Int),e=.returned (.tuple #[pt o,.int .i64 z])/\(opt o (mY (aY.id v:Int))).P w' fun q=>w.heap.size<=q
theorem Eb (v:Nat) (hv:v < 4294967296) (o:Int) (w:World):Calls Tryz.prog 246 #[.int .u32 (v:Int),.int .i64 o] w (L7 v w):=by
 unfold L7;cases hb:aY.bad v with
 | true =>
  have C:=zq (Hu v hv hb o);clear hb;go_enter Tryz.func246,Tryz.ntmps246
  go_wp2_with fail
  refine (C.out _).mono ?_;rintro e w1 ⟨rfl,b1⟩;go_wp2_with fail
  go_ret2
  exact ⟨b1,none,_,rfl,trivial⟩
 | false =>
  have C:=zq (fun w=>p_ (w:=w) v hv o);have SP:=zq (fG v hv hb);clear hb;generalize aY.off v=rH at *;generalize aY.IT v=nr at *;generalize (aY.id v:Int)=zR at *;go_enter Tryz.func246,Tryz.ntmps246
  go_wp2_with fail
  refine (C.out _).mono ?_;rintro e w1 ⟨⟨z,rfl⟩,b1⟩
  by_cases hz:z=0
  ·subst hz
   go_wp2_with fail
   refine (SP.out _).mono ?_;rintro e w2 ⟨rfl,b2⟩;have d2:=aa b1 b2 lq;have b3:=ae w2 (.cells #[.bool rH,.bool nr,.int .i64 zR] 161);have F3:=(ao.new w2 161 #[.bool rH,.bool nr,.int .i64 zR]).three;have d3:=aa d2 b3 lq;go_wp2_with fail
   go_ret2
   have K4:=ao.new (w2.alloc (.cells #[.bool rH,.bool nr,.int .i64 zR] 161)) 353 #[.int .i64 zR,.int .i64 o,.int .i64 0];have s3:=d3.size;rw [World.size_alloc] at K4 s3;exact ⟨aa d3 (ae _ _) lq,some _,0,rfl,s3,_,K4,o,0,rfl⟩
  ·have ez:(z != 0)=true:=by simpa using hz
   go_wp2_with fail
   go_ret2
   exact ⟨b1,none,_,rfl,trivial⟩
def kh (pid:Int) (o:Option Nat) (F:Nat->Prop) (id:Int) (w:World) (e:Ending) (w':World):Prop :=
 ∃ (n:Int) (is wr:Bool),e=.returned (.tuple #[.int .i64 n,.bool is,.bool wr])/\((o=none\/id≠pid)->is=false/\wr=false)/\Mv (fun q=>some q=o) w w'/\(opt o (mY pid)).P w' F
theorem Ct (pid:Int) (F:Nat->Prop) (id:Int) (r:Bool) (A:Option Addr) (n c:Nat) (w:World):Calls Tryz.prog 217 #[.pointer none,.agg #[.int .i64 id,.bool r,.slice A n c]] w (kh pid none F id w):=by
 have K:=(ao.new w 37 #[.int .i64 id,.bool r,.slice A n c]).three;have b0:=ae w (.cells #[.int .i64 id,.bool r,.slice A n c] 37);go_enter Tryz.func217,Tryz.ntmps217
 go_wp2_with fail
 go_step3
 go_wp2_with fail
 go_quiet (fail)
 go_wp2_with fail
 rw [Exit.noGoto_ret];go_ret3
 exact ⟨_,_,_,rfl,fun _=>⟨rfl,rfl⟩,Mv.aq (below_drewN b0 _) _,trivial⟩
section
variable {w:World} {F:Nat->Prop} {g:Nat} {pid:Int}
theorem Im (h:(mY pid g).P w F) (id:Int) (r:Bool) (A:Option Addr) (n c:Nat) (hno:pid=0\/id≠pid\/r=true):Calls Tryz.prog 217 #[.pointer (some ⟨g,0,none⟩),.agg #[.int .i64 id,.bool r,.slice A n c]] w (kh pid (some g) F id w):=by
 have K:=(ao.new w 37 #[.int .i64 id,.bool r,.slice A n c]).three;have b0:=ae w (.cells #[.int .i64 id,.bool r,.slice A n c] 37);have H:=zq h;obtain ⟨_,cs,k,x,y,rfl⟩:=h;have F1:=(k.later b0).three;have fin:∀ k,kh pid (some g) F id w (.returned (.tuple #[.int .i64 0,.bool false,.bool false])) ((w.alloc (.cells #[.int .i64 id,.bool r,.slice A n c] 37)).drewN k):=fun k =>
  ⟨_,_,_,rfl,fun _=>⟨rfl,rfl⟩,Mv.aq (below_drewN b0 _) _,(mY pid g).mv _ _ _ (fun _=>False) H.out (Mv.aq (below_drewN b0 _) _) fun _ _ _ h=>h⟩
 have FIN:=zq fin;clear fin k;have hc:pid=0\/(pid≠0/\id≠pid)\/(pid≠0/\id=pid/\r=true):=by
  rcases hno with h | h | h
  ·exact .inl h
  ·by_cases h0:pid=0
   ·exact .inl h0
   ·exact .inr (.inl ⟨h0,h⟩)
  ·by_cases h0:pid=0
   ·exact .inl h0
   ·by_cases h1:id=pid
    ·exact .inr (.inr ⟨h0,h1,h⟩)
    ·exact .inr (.inl ⟨h0,h1⟩)
 clear hno H;rcases hc with rfl | ⟨h0,h1⟩ | ⟨h0,rfl,rfl⟩
 ·go_enter Tryz.func217,Tryz.ntmps217
  go_wp2_with fail
  go_step3
  go_wp2_with fail
  go_quiet (fail)
  go_wp2_with fail
  rw [Exit.noGoto_ret];go_ret3
  exact FIN.out _
 ·have e0:(pid == 0)=false:=by simpa using h0
  have e1:(id != pid)=true:=by simpa using h1
  go_enter Tryz.func217,Tryz.ntmps217
  go_wp2_with fail
  go_step3
  go_wp2_with fail
  go_quiet (fail)
  go_wp2_with fail
  rw [Exit.noGoto_ret];go_ret3
  exact FIN.out _
 ·have e0:(id == 0)=false:=by simpa using h0
  have e1:(id != id)=false:=by simp
  go_enter Tryz.func217,Tryz.ntmps217
  go_wp2_with fail
  go_step3
  go_wp2_with fail
  go_quiet (fail)
  go_wp2_with fail
  rw [Exit.noGoto_ret];go_ret3
  exact FIN.out _
def US (W:World) (a:Act) (w':World):Prop:=(∃ k,w'=W.drewN k)/\∃ u0 u1 u2 u3 u4 u5 u6 u7 u8 u9 u10 u11 u12 u13 u14 u15 u16 u17 u18 u19 u20 u21 u22 u23 u24 u25 u26 u27 u28 u29 u30 u31 u32 u33 u34 u35 u36 u37 u38 u39 u40 u41 u42 u43 u44 u45 u46 u47 u48 u49 u50 u51 u52 u53 u54 u55 u56 u57 u58 u59 u60 u61 u62 u63 u64:Value,a={ tmps:=#[u0,u1,u2,u3,u4,u5,u6,u7,u8,u9,u10,u11,u12,u13,u14,u15,u16,u17,u18,u19,u20,u21,u22,u23,u24,u25,u26,u27,u28,u29,u30,u31,u32,u33,u34,u35,u36,u37,u38,u39,u40,u41,u42,u43,u44,u45,u46,u47,u48,u49,u50,u51,u52,u53,u54,u55,u56,u57,u58,u59,u60,u61,u62,u63,u64],defers:=[] }
theorem Eo (h:(mY pid g).P w F) (hp:pid≠0) {A:Option Addr} {n c B:Nat} {l:List UInt8} (hr:RB w B A n c l) (hB:B<=w.heap.size):Calls Tryz.prog 217 #[.pointer (some ⟨g,0,none⟩),.agg #[.int .i64 pid,.bool false,.slice A n c]] w (kh pid (some g) F pid w):=by
 have K:=(ao.new w 37 #[.int .i64 pid,.bool false,.slice A n c]).three;have b0:=ae w (.cells #[.int .i64 pid,.bool false,.slice A n c] 37);obtain ⟨hF,cs,k,x,y,rfl⟩:=h;have k1:=k.later b0;have fin:∀ i (W:World) (z:Int) (is wr:Bool),Mv (fun q=>some q=some g) w W->ao W g 353 #[.int .i64 pid,.int .i64 x,.int .i64 i]->kh pid (some g) F pid w (.returned (.tuple #[.int .i64 z,.bool is,.bool wr])) W:=fun i W z is wr hm hk =>
  ⟨_,_,_,rfl,(fun h=>by rcases h with h | h; cases h; exact absurd rfl h),hm,hF,_,hk,x,i,rfl⟩
 have FIN:=zq fin;have m0:=fun d=>Mv.aq (below_drewN b0 d) (fun q=>some q=some g)
 have k2:=fun d=>k1.later (below_drewN (Below.refl _ (w.alloc (.cells #[.int .i64 pid,.bool false,.slice A n c] 37))) d)
 have KD:=zq k2;have MD:=zq m0;have F1:=fun d=>(k2 d).three
 have HF1:=zq F1;have FK:=fun d=>(show ao ((w.alloc (.cells #[.int .i64 pid,.bool false,.slice A n c] 37)).drewN d) w.heap.size 37 #[.int .i64 pid,.bool false,.slice A n c] from (ao.new w _ _).later (below_drewN (Below.refl _ _) d)).three
 have HFK:=zq FK;have F0:=k1.three;have hl:=hr.len;have hr1:=hr.below (b0.mono hB);have e0:(pid == 0)=false:=by simpa using hp
 have e1:(pid != pid)=false:=by simp
 clear fin k k1 m0 k2 F1 FK hr;go_enter Tryz.func217,Tryz.ntmps217
 go_wp2_with fail
 refine wp_scope_jumps 0 (US (w.alloc (.cells #[.int .i64 pid,.bool false,.slice A n c] 37))) (fun _ _=>0) rfl ?_ ?_
 ·go_wp2_with fail
  go_quiet (fail)
  have F2:=HF1.out nq;have FK2:=HFK.out nq;have K2:=KD.out nq;have M2:=MD.out nq;have hr2:=hr1.drewN nq;clear F0
  by_cases hx:x=0
  ·subst hx
   by_cases hn:n=0
   ·subst hn
    go_wp2_with fail
    simp only [Exit.jump];go_ret3
    exact FIN.out _ _ _ _ _ (M2.trans (Mv.setCell _ ⟨g,2,none⟩ _) fun b _ e=>congrArg some e) (K2.aJ 2 _)
   ·have en:decide ((0:Int) < (n:Int))=true:=decide_eq_true (by omega)
    go_wp2_with fail
    go_step3
    exact ⟨rfl,⟨_,rfl⟩,_,_,_,_,_,_,_,_,_,_,_,_,_,_,_,_,_,_,_,_,_,_,_,_,_,_,_,_,_,_,_,_,_,_,_,_,_,_,_,_,_,_,_,_,_,_,_,_,_,_,_,_,_,_,_,_,_,_,_,_,_,_,_,_,_,rfl⟩
  ·have ex:(x == 0)=false:=by simpa using hx
   by_cases hn:n=1
   ·subst hn
    obtain ⟨b,o,rfl,hb,hc⟩:=hr2.at_ (by omega);have c0:=hc 0 (by omega);have hby:((l.getD 0 0).toNat:Int) < 256:=mh l 0;obtain ⟨z,hz⟩:∃ z:Int,((l.getD 0 0).toNat:Int)=z:=⟨_,rfl⟩;rw [hz,Nat.add_zero] at c0;have ez:wrap64 z=z:=by unfold wrap64; omega
    clear hc hby hz hr1 hr2
    by_cases h1:z < 1
    ·go_wp2_with fail
     go_step3
     exact ⟨rfl,⟨_,rfl⟩,_,_,_,_,_,_,_,_,_,_,_,_,_,_,_,_,_,_,_,_,_,_,_,_,_,_,_,_,_,_,_,_,_,_,_,_,_,_,_,_,_,_,_,_,_,_,_,_,_,_,_,_,_,_,_,_,_,_,_,_,_,_,_,_,_,rfl⟩
    ·by_cases h2:z > x
     ·go_wp2_with fail
      go_step3
      exact ⟨rfl,⟨_,rfl⟩,_,_,_,_,_,_,_,_,_,_,_,_,_,_,_,_,_,_,_,_,_,_,_,_,_,_,_,_,_,_,_,_,_,_,_,_,_,_,_,_,_,_,_,_,_,_,_,_,_,_,_,_,_,_,_,_,_,_,_,_,_,_,_,_,_,rfl⟩
     ·go_wp2_with fail
      simp only [Exit.jump];go_ret3
      exact FIN.out _ _ _ _ _ (M2.trans (Mv.setCell _ ⟨g,2,none⟩ _) fun b _ e=>congrArg some e) (K2.aJ 2 _)
   ·have en:((n:Int) != 1)=true:=by rw [bne_iff_ne]; omega
    go_wp2_with fail
    go_step3
    exact ⟨rfl,⟨_,rfl⟩,_,_,_,_,_,_,_,_,_,_,_,_,_,_,_,_,_,_,_,_,_,_,_,_,_,_,_,_,_,_,_,_,_,_,_,_,_,_,_,_,_,_,_,_,_,_,_,_,_,_,_,_,_,_,_,_,_,_,_,_,_,_,_,_,_,rfl⟩
 ·rintro a' w' ⟨⟨kk,rfl⟩,u0,u1,u2,u3,u4,u5,u6,u7,u8,u9,u10,u11,u12,u13,u14,u15,u16,u17,u18,u19,u20,u21,u22,u23,u24,u25,u26,u27,u28,u29,u30,u31,u32,u33,u34,u35,u36,u37,u38,u39,u40,u41,u42,u43,u44,u45,u46,u47,u48,u49,u50,u51,u52,u53,u54,u55,u56,u57,u58,u59,u60,u61,u62,u63,u64,rfl⟩
  go_wp2_with fail
  simp only [Exit.jump];go_ret3
  exact FIN.out _ _ _ _ _ (MD.out kk) (KD.out kk)
end
open Go.Sort
def jF (D:Dc.aZ):Int:=match Pm.fY D with
 | none=>0
 | some (v,_)=>(aY.id v:Int)
section
variable {s:cu} {w w':World} {ah:Nat->Cp} {g:Nat}
theorem Nd.Gk (h:Nd s w ah) {o:Option Nat} {p:Int} (hp:(opt o (mY p)).P w (fun q=>ah q=.tv)):Nd { s with gp:=o,pid:=p } (w.setCell ⟨s.gn,4,none⟩ (pt o)) ah:=by
 have M:=Mv.setCell w ⟨s.gn,4,none⟩ (pt o);have nc:=h.fB;have cR:∀ j:Cp,j≠.node->∀ b,b < w.heap.size->ah b=j->¬ b=s.gn:=fun j hj b _ e1 e2=>by
  rw [e2,nc] at e1;exact hj e1.symm
 intro j
 by_cases hj:j=.node
 ·subst hj
  exact ⟨nc,_,h.node.aJ 4 (pt o),rfl⟩
 ·by_cases hk:j=.tv
  ·subst hk
   exact (opt o (mY p)).mv _ _ _ _ hp M (cR _ hj)
  ·have e:({ s with gp:=o,pid:=p }:cu).rs j=s.rs j:=by
    cases j
    all_goals first | rfl | exact absurd rfl hj | exact absurd rfl hk
   rw [e];exact (s.rs j).mv _ _ _ _ (h j) M (cR _ hj)
theorem Kp.node (h:Nd s w ah) (k:Nat) (v:Value):Kp w ah (w.setCell ⟨s.gn,k,none⟩ v) ah:=⟨(Mv.setCell w ⟨s.gn,k,none⟩ v).mono fun b _ e hx=>(by rw [show b=s.gn from e] at hx; exact absurd (hx.symm.trans h.fB) (by intro e; cases e)),fun _ _ e=>e⟩
def UQ (s:cu) (w:World) (ah:Nat->Cp) (e:Ending) (w':World):Prop:=e=.returned (.tuple #[])/\∃ o an,Nd { s with gp:=o,pid:=jF s.D } w' an/\Kp w ah w' an
theorem wM (h:Nd s w ah) (hd:∀ e∈s.D.l,e.dflt.length<=1000000) (hv:∀ v∈s.D.v,v.length<=1000000):Calls Tryz.prog 193 #[.pointer (some ⟨s.gn,0,none⟩)] w (UQ s w ah):=by
 have N1:=h.Gk (o:=none) (p:=jF s.D) trivial;have K1:=Kp.node h 4 (pt none);change Nd _ (w.setCell ⟨s.gn,4,none⟩ (.pointer none)) ah at N1;change Kp w ah (w.setCell ⟨s.gn,4,none⟩ (.pointer none)) ah at K1;have C4:=h.cells.tv;have fz:=h.cells.free;obtain ⟨w1,hw1⟩:∃ w1,w.setCell ⟨s.gn,4,none⟩ (.pointer none)=w1:=⟨_,rfl⟩;rw [hw1] at N1 K1;have C1:=N1.cells.dy;dsimp only at C1;obtain ⟨gv,lc,vc,la,vA,xs,vs,hr⟩:=N1.dy;have SY:=uB hr hd hv;dsimp only at SY;have pl:∀ v n,Pm.fY s.D=some (v,n)->v < 4294967296:=by
  intro v n e;unfold Pm.fY at e;split at e
  ·cases e
  ·injection e with e
   injection e with e1 e2
   have:=Pm.gY s.D 4101 0;omega
 replace N1:=zq N1;replace K1:=zq K1;clear hr hd hv h;cases hs:Pm.fY s.D with
 | none =>
  rw [hs] at SY;replace SY:=zq SY;clear pl hs;go_enter Tryz.func193,Tryz.ntmps193
  go_wp2_with fail
  refine (SY.out).mono ?_;rintro e w2 ⟨rfl,b2⟩;go_wp2_with fail
  go_end0
  exact ⟨rfl,none,_,N1.out.below b2 .ext,K1.out.trans (Kp.below b2 .ext)⟩
 | some vn =>
  obtain ⟨v,n⟩:=vn;rw [hs] at SY;replace SY:=zq SY;have PN:=zq (Eb v (pl _ _ hs) n);have ep:Hid (jF s.D=(aY.id v:Int)):=zq (by unfold jF; rw [hs]);clear pl hs;go_enter Tryz.func193,Tryz.ntmps193
  go_wp2_with fail
  refine (SY.out).mono ?_;rintro e w2 ⟨rfl,b2⟩;go_wp2_with fail
  refine (PN.out _).mono ?_;rintro e w3 ⟨b3,o,z,rfl,hp⟩;have N2:=N1.out.below b2 .ext;have N3:=N2.below b3 .tv;have K3:=(K1.out.trans (Kp.below b2 .ext)).trans (Kp.below b3 .tv);have hp3:=(opt o (mY (aY.id v:Int))).mono _ _ (fun q=>aL (aL ah w1.heap.size w2.heap.size .ext) w2.heap.size w3.heap.size .tv q=.tv) hp fun b hb e=>ay ⟨e,hb⟩
  have N4:=N3.Gk hp3;have K4:=K3.trans (Kp.node N3 4 (pt o));have XW:=N3.cells.tv;have fz':=N3.cells.free;dsimp only at XW fz';change w3.cell? ⟨s.gn,4,none⟩=some (.pointer none) at XW;obtain ⟨x,hx⟩:∃ x,pt o=.pointer x:=⟨_,rfl⟩;rw [hx] at N4 K4;rw [hx];clear hx;replace N4:=zq N4;replace K4:=zq K4;clear N2 N3 K3 hp3 hp;go_wp2_with fail
  go_end0
  exact ⟨rfl,o,_,(by rw [ep.out]; exact N4.out),K4.out⟩
end
def fZ {α:Type} (f:Nat->α) (k:Nat) (x:α):Nat->α:=fun i=>if i=k then x else f i
theorem eE {α:Type} (f:Nat->α) (k:Nat) (x:α):fZ f k x k=x:=if_pos rfl
theorem fT {α:Type} (f:Nat->α) {k i:Nat} (x:α) (h:i≠k):fZ f k x i=f i:=if_neg h
section
variable {s:cu} {w w':World} {ah:Nat->Cp} {g k:Nat}
theorem Nd.cR (h:Nd s w ah) (j:Cp) (hj:j≠.node) (b:Nat) (_:b < w.heap.size) (e1:ah b=j):¬ b=s.gn:=fun e2=>by
 rw [e2,h.fB] at e1;exact hj e1.symm
theorem Nd.s8 (h:Nd s w ah) (hk:k < 4) {o:Option Nat} {x:Nat×Int×List Nat} (hp:(opt o (mV s.gd x)).P w (fun q=>ah q=.cm k)):Nd { s with gi:=fZ s.gi k o,ic:=fZ s.ic k x } (w.setCell ⟨s.gn,5 + k,none⟩ (pt o)) ah:=by
 have M:=Mv.setCell w ⟨s.gn,5 + k,none⟩ (pt o);intro j
 by_cases hj:j=.node
 ·subst hj
  refine ⟨h.fB,_,h.node.aJ (5 + k) (pt o),?_⟩;rcases k with _ | _ | _ | _ | k
  all_goals first | rfl | omega
 ·by_cases hi:j=.cm k
  ·subst hi
   show (opt (fZ s.gi k o k) (mV s.gd (fZ s.ic k x k))).P _ _;rw [eE,eE];exact (opt o (mV s.gd x)).mv _ _ _ _ hp M (h.cR _ hj)
  ·have e:({ s with gi:=fZ s.gi k o,ic:=fZ s.ic k x }:cu).rs j=s.rs j:=by
    cases j with
    | cm i =>
     have hne:i≠k:=fun e=>hi (by rw [e])
     show opt (fZ s.gi k o i) (mV s.gd (fZ s.ic k x i))=opt (s.gi i) (mV s.gd (s.ic i));rw [fT _ _ hne,fT _ _ hne]
    | _=>first | rfl | exact absurd rfl hj
   rw [e];exact (s.rs j).mv _ _ _ _ (h j) M (h.cR _ hj)
theorem Nd.sr (h:Nd s w ah) (hk:k < 4) {o:Option Nat} (hp:(opt o (n_ s.gd)).P w (fun q=>ah q=.out k)):Nd { s with go:=fZ s.go k o } (w.setCell ⟨s.gn,9 + k,none⟩ (pt o)) ah:=by
 have M:=Mv.setCell w ⟨s.gn,9 + k,none⟩ (pt o);intro j
 by_cases hj:j=.node
 ·subst hj
  refine ⟨h.fB,_,h.node.aJ (9 + k) (pt o),?_⟩;rcases k with _ | _ | _ | _ | k
  all_goals first | rfl | omega
 ·by_cases hi:j=.out k
  ·subst hi
   show (opt (fZ s.go k o k) (n_ s.gd)).P _ _;rw [eE];exact (opt o (n_ s.gd)).mv _ _ _ _ hp M (h.cR _ hj)
  ·have e:({ s with go:=fZ s.go k o }:cu).rs j=s.rs j:=by
    cases j with
    | out i =>
     have hne:i≠k:=fun e=>hi (by rw [e])
     show opt (fZ s.go k o i) (n_ s.gd)=opt (s.go i) (n_ s.gd);rw [fT _ _ hne]
    | _=>first | rfl | exact absurd rfl hj
   rw [e];exact (s.rs j).mv _ _ _ _ (h j) M (h.cR _ hj)
end
end Nn
section
open Go.RowKit
def yI (l:List aD.En) (gd v:Nat) (t:Int) (ws:List Nat) (w:World) (e:Ending) (w':World):Prop :=
 (Rp.ar l v t ws=0/\Below w.heap.size w w'/\∃ g gp Aw cw,e=.returned (.tuple #[.pointer (some ⟨g,0,none⟩),.int .u32 0])/\W8 w' w.heap.size g gp gd v t ws [] Aw cw none 0) \/
 (Rp.ar l v t ws≠0/\Below w.heap.size w w'/\e=.returned (.tuple #[.pointer none,.int .u32 (Rp.ar l v t ws)]))
theorem Cg {F:Nat->Prop} {w:World} {g gv lc vc:Nat} {la:Addr} {vA:Option Addr} {xs vs:List Value} {D:Dc.aZ} {A:Option Addr} {n c B:Nat} {ws:List Nat} (v:Nat) (hv:v < 4294967296) (t:Int) (h:cM 131 w F g gv (some la) lc vA vc xs vs D) (hd:∀ e∈D.l,e.dflt.length<=1000000) (hw:RW w B A n c ws) (hwl:∀ x∈ws,x < 4294967296) (hB:B<=w.heap.size) :
  Calls Tryz.prog 247 #[.pointer (some ⟨g,0,none⟩),.agg #[.int .u32 (v:Int),.int .i64 t,.slice A n c]] w (yI D.l g v t ws w):=by
 have b0:=ae w (.cells #[.int .u32 (v:Int),.int .i64 t,.slice A n c] 65);have K:=ao.new w 65 #[.int .u32 (v:Int),.int .i64 t,.slice A n c];have F0:=K.three;have CK:=pn v hv t (h.below b0) hd (hw.below (b0.mono hB)) hwl (Nat.le_trans hB b0.size);unfold yI;have hcp:=Rp.dW (l:=D.l) (w:=v) (t:=t) (ws:=ws);have hl:=hw.len;subst hl;generalize Rp.ar D.l v t ws=r at *;replace CK:=zq CK
 by_cases hr:r=0
 ·subst hr
  obtain ⟨p1,p2,p3⟩:=hcp rfl;have SP:=zq (fun w=>fG v hv (aY.l7 p1) w);have h8:=(Mp.bD p3).1;clear hcp p1 p2 p3;go_enter Tryz.func247,Tryz.ntmps247
  go_wp2_with fail
  refine (CK.out).mono ?_;rintro e w1 ⟨rfl,b1⟩;have d1:=aa b0 b1 lq;have F1:=(K.later b1).three;clear F0;have hr1:=RW.below hw (d1.mono hB);go_wp2_with (at_builtin; refine b_ Y4 rfl (.const (.slice none 0 0)) (.tmp 18) rfl rfl rfl w.heap.size (OV.none_ _ _ _ _) hr1 (by intro u hu; obtain ⟨x,_,rfl⟩:=List.mem_map.1 hu; rfl) (by omega) (by omega) d1.size ?_; simp only [Nat.zero_add,List.nil_append]; intro A2 c2 w2 o2 g2 _; have b2:Below w1.heap.size w1 w2:=(Below.refl _ w1).grown g2 lq (fun k hk=>by cases hk); have b3:=bZ w2 (.cells #[.pointer (some ⟨g,0,none⟩),.int .i64 0,.slice A2 ws.length c2,.slice none 0 0,.nilFunc] 356) (.cells #[.pointer (some ⟨w2.heap.size,0,none⟩)] 102); have KC:=((K.later b1).later b2).later b3; have F3:=KC.three; clear F1)
  have KG:ao ((w2.alloc (.cells #[.pointer (some ⟨g,0,none⟩),.int .i64 0,.slice A2 ws.length c2,.slice none 0 0,.nilFunc] 356)).alloc (.cells #[.pointer (some ⟨w2.heap.size,0,none⟩)] 102)) w2.heap.size 356 #[.pointer (some ⟨g,0,none⟩),.int .i64 0,.slice A2 ws.length c2,.slice none 0 0,.nilFunc]:=(ao.new w2 _ _).alloc _;have KP:ao ((w2.alloc (.cells #[.pointer (some ⟨g,0,none⟩),.int .i64 0,.slice A2 ws.length c2,.slice none 0 0,.nilFunc] 356)).alloc (.cells #[.pointer (some ⟨w2.heap.size,0,none⟩)] 102)) (w2.heap.size + 1) 102 #[.pointer (some ⟨w2.heap.size,0,none⟩)]:=by
   have:=ao.new (w2.alloc (.cells #[.pointer (some ⟨g,0,none⟩),.int .i64 0,.slice A2 ws.length c2,.slice none 0 0,.nilFunc] 356)) 102 #[.pointer (some ⟨w2.heap.size,0,none⟩)]
   rwa [World.size_alloc] at this
  have o3:Xg ((w2.alloc (.cells #[.pointer (some ⟨g,0,none⟩),.int .i64 0,.slice A2 ws.length c2,.slice none 0 0,.nilFunc] 356)).alloc (.cells #[.pointer (some ⟨w2.heap.size,0,none⟩)] 102)) w.heap.size A2 ws.length c2 ws:=OV.below o2 b3;have d3:=aa (aa d1 b2 lq) b3 lq;have hz2:w.heap.size<=w2.heap.size:=Nat.le_trans d1.size b2.size;have hz3:w.heap.size < w2.heap.size:=((K.later b1).later b2).lt;generalize (w2.alloc (.cells #[.pointer (some ⟨g,0,none⟩),.int .i64 0,.slice A2 ws.length c2,.slice none 0 0,.nilFunc] 356)).alloc (.cells #[.pointer (some ⟨w2.heap.size,0,none⟩)] 102)=w3 at *;generalize w2.heap.size=gq at *;clear o2 g2 b2 b3;refine (SP.out _).mono ?_;rintro e w4 ⟨rfl,b4⟩;have yv:aY.fl v=if aY.off v=true then 0 else aY.id v:=rfl
  generalize aY.IT v=nr at *;generalize aY.off v=ov at *;have b5:=ae w4 (.cells #[.bool ov,.bool nr,.int .i64 (aY.id v:Int)] 161);have K_:=aa b4 b5 lq;have d5:=aa d3 K_ lq;have KB:=(ao.new w4 161 #[.bool ov,.bool nr,.int .i64 (aY.id v:Int)]);have FB:=KB.three;have zP:=KG.later K_;have S8:=KP.later K_;have KC5:=KC.later K_;have o5:=OV.below o3 K_;have FG:=zP.jJ;have FP:=S8.one;have FC:=KC5.three;have hgl:=KG.lt;have hpl:=KP.lt;have Xz:=b4.size;have hcl:=KC.lt;clear F3 KG KP KC o3 b4 SP CK;have hne1:¬ w.heap.size=gq:=by omega
  have hne2:¬ gq=w.heap.size:=by omega
  by_cases ht:t<=240
  ·cases ov
   ·have tw:=zP.aJ 1 (.int .i64 (aY.id v:Int))
    have Ds:=tw.aJ 4 (.func (.func 287) #[] #[]);have f6:=tw.frozen 4;have f7:=Ds.frozen 4;have OQ:=Ds.aJ 4 (.func (.func 288) #[] #[.pointer (some ⟨gq + 1,0,none⟩)]);have S9:=(((S8).cR (p:=⟨gq,1,none⟩) (by dsimp only; omega) (.int .i64 (aY.id v:Int))).cR (p:=⟨gq,4,none⟩) (by dsimp only; omega) (.func (.func 287) #[] #[])).cR (p:=⟨gq,4,none⟩) (by dsimp only; omega) (.func (.func 288) #[] #[.pointer (some ⟨gq + 1,0,none⟩)]);have d8:=(((d5).setCell (p:=⟨gq,1,none⟩) hz2 (.int .i64 (aY.id v:Int))).setCell (p:=⟨gq,4,none⟩) hz2 (.func (.func 287) #[] #[])).setCell (p:=⟨gq,4,none⟩) hz2 (.func (.func 288) #[] #[.pointer (some ⟨gq + 1,0,none⟩)]);have yy:=OV.off (i:=1) (u:=(.int .i64 (aY.id v:Int))) o5 zP (by decide);have IK:=OV.off (i:=4) (u:=(.func (.func 287) #[] #[])) yy tw (by decide);have VX:=OV.off (i:=4) (u:=(.func (.func 288) #[] #[.pointer (some ⟨gq + 1,0,none⟩)])) IK Ds (by decide);go_wp2_with fail
    go_ret2
    refine .inl ⟨by first | rfl | trivial,d8,gq,gq + 1,A2,c2,rfl,hz2,by omega,by omega,?_,fun h=>S9,VX,OS.none_ _ _ _ _⟩;rw [show mL t (gq + 1)=.func (.func 288) #[] #[.pointer (some ⟨gq + 1,0,none⟩)] from if_pos ht,yv];exact OQ
   ·have tw:=zP
    have Ds:=tw.aJ 4 (.func (.func 287) #[] #[]);have f6:=tw.frozen 4;have f7:=Ds.frozen 4;have OQ:=Ds.aJ 4 (.func (.func 288) #[] #[.pointer (some ⟨gq + 1,0,none⟩)]);have S9:=((S8).cR (p:=⟨gq,4,none⟩) (by dsimp only; omega) (.func (.func 287) #[] #[])).cR (p:=⟨gq,4,none⟩) (by dsimp only; omega) (.func (.func 288) #[] #[.pointer (some ⟨gq + 1,0,none⟩)]);have d8:=((d5).setCell (p:=⟨gq,4,none⟩) hz2 (.func (.func 287) #[] #[])).setCell (p:=⟨gq,4,none⟩) hz2 (.func (.func 288) #[] #[.pointer (some ⟨gq + 1,0,none⟩)]);have yy:=OV.off (i:=4) (u:=(.func (.func 287) #[] #[])) o5 tw (by decide);have IK:=OV.off (i:=4) (u:=(.func (.func 288) #[] #[.pointer (some ⟨gq + 1,0,none⟩)])) yy Ds (by decide);go_wp2_with fail
    go_ret2
    refine .inl ⟨by first | rfl | trivial,d8,gq,gq + 1,A2,c2,rfl,hz2,by omega,by omega,?_,fun h=>S9,IK,OS.none_ _ _ _ _⟩;rw [show mL t (gq + 1)=.func (.func 288) #[] #[.pointer (some ⟨gq + 1,0,none⟩)] from if_pos ht,yv];exact OQ
  ·cases ov
   ·have tw:=zP.aJ 1 (.int .i64 (aY.id v:Int))
    have Ds:=tw.aJ 4 (.func (.func 287) #[] #[]);have f6:=tw.frozen 4;have f7:=Ds.frozen 4;have OQ:=Ds;have S9:=((S8).cR (p:=⟨gq,1,none⟩) (by dsimp only; omega) (.int .i64 (aY.id v:Int))).cR (p:=⟨gq,4,none⟩) (by dsimp only; omega) (.func (.func 287) #[] #[]);have d8:=((d5).setCell (p:=⟨gq,1,none⟩) hz2 (.int .i64 (aY.id v:Int))).setCell (p:=⟨gq,4,none⟩) hz2 (.func (.func 287) #[] #[]);have yy:=OV.off (i:=1) (u:=(.int .i64 (aY.id v:Int))) o5 zP (by decide);have IK:=OV.off (i:=4) (u:=(.func (.func 287) #[] #[])) yy tw (by decide);go_wp2_with fail
    go_ret2
    refine .inl ⟨by first | rfl | trivial,d8,gq,gq + 1,A2,c2,rfl,hz2,by omega,by omega,?_,fun h=>absurd h (by omega),IK,OS.none_ _ _ _ _⟩;rw [show mL t (gq + 1)=.func (.func 287) #[] #[] from if_neg (by omega),yv];exact OQ
   ·have tw:=zP
    have Ds:=tw.aJ 4 (.func (.func 287) #[] #[]);have f6:=tw.frozen 4;have f7:=Ds.frozen 4;have OQ:=Ds;have S9:=(S8).cR (p:=⟨gq,4,none⟩) (by dsimp only; omega) (.func (.func 287) #[] #[]);have d8:=(d5).setCell (p:=⟨gq,4,none⟩) hz2 (.func (.func 287) #[] #[]);have yy:=OV.off (i:=4) (u:=(.func (.func 287) #[] #[])) o5 tw (by decide);go_wp2_with fail
    go_ret2
    refine .inl ⟨by first | rfl | trivial,d8,gq,gq + 1,A2,c2,rfl,hz2,by omega,by omega,?_,fun h=>absurd h (by omega),yy,OS.none_ _ _ _ _⟩;rw [show mL t (gq + 1)=.func (.func 287) #[] #[] from if_neg (by omega),yv];exact OQ
 ·clear hcp
  have hr2:(r == 0)=false:=by simpa using hr
  have hr3:(r != 0)=true:=by simpa using hr
  replace hr:=zq hr;go_enter Tryz.func247,Tryz.ntmps247
  go_wp2_with fail
  refine (CK.out).mono ?_;rintro e w1 ⟨rfl,b1⟩;go_wp2_with fail
  go_ret2
  exact .inr ⟨hr.out,aa b0 b1 lq,rfl⟩
end
namespace Nn
open Go.RowKit Go.Sort Go
def nz (D:Dc.aZ) (k:Nat):Option (Nat×Int×List Nat):=match Pm.bO D k with
 | none=>none
 | some (v,t,ws)=>if Rp.ar D.l v t ws=0 then some (v,t,ws) else none
def Nu (s:cu) (w:World) (ah:Nat->Cp) (k:Nat) (e:Ending) (w':World):Prop:=e=.returned (.tuple #[])/\∃ o x an,Nd { s with gi:=fZ s.gi k o,ic:=fZ s.ic k x } w' an/\Kp w ah w' an/\(o.isSome=(nz s.D k).isSome)/\∀ y,nz s.D k=some y->x=y
section
variable {s:cu} {w w':World} {ah:Nat->Cp} {g k:Nat}
theorem Fl (h:Nd s w ah) (hk:k < 4) (hd:∀ e∈s.D.l,e.dflt.length<=1000000) (hv:∀ v∈s.D.v,v.length<=1000000) (hs:Pm.bO s.D k=none):Calls Tryz.prog 194 #[.pointer (some ⟨s.gn,0,none⟩),.int .i64 (k:Int)] w (Nu s w ah k):=by
 have N1:=h.s8 hk (o:=none) (x:=(0,0,[])) trivial;have K1:=Kp.node h (5 + k) (pt none);change Nd _ (w.setCell ⟨s.gn,5 + k,none⟩ (.pointer none)) ah at N1;change Kp w ah (w.setCell ⟨s.gn,5 + k,none⟩ (.pointer none)) ah at K1;have C4:=h.cm hk;have fz:=h.cells.free;obtain ⟨w1,hw1⟩:∃ w1,w.setCell ⟨s.gn,5 + k,none⟩ (.pointer none)=w1:=⟨_,rfl⟩;rw [hw1] at N1 K1;have C1:=N1.cells.dy;dsimp only at C1;obtain ⟨gv,lc,vc,la,vA,xs,vs,hr⟩:=N1.dy;have SY:=px (k:Int) hr hd hv;dsimp only at SY;rw [hs] at SY;have ei:Hid (nz s.D k=none):=zq (by unfold nz; rw [hs]);replace N1:=zq N1;replace K1:=zq K1;replace SY:=zq SY;have hk1:decide ((k:Int) < 4)=true:=decide_eq_true (by omega);clear hr hd hv h hs;go_enter Tryz.func194,Tryz.ntmps194
 go_wp2_with fail
 refine (SY.out).mono ?_;rintro e w2 ⟨rfl,b2⟩;have b3:=ae w2 (.cells #[.int .u32 0,.int .i64 0,.slice none 0 0] 65);have d3:=aa b2 b3 lq;go_wp2_with fail
 go_end0
 exact ⟨rfl,none,_,_,N1.out.below d3 .ext,K1.out.trans (Kp.below d3 .ext),by rw [ei.out]; rfl,fun y e=>by rw [ei.out] at e; cases e⟩
end
theorem aW {P:Program} {Q:Exit->Act->World->Prop} {id:Nat} {ops:List Oper} {a:Act} {w:World} (t:Nat) (S:World->Prop) (hm:P.follows .mixedOrders=true)
  (h:wpAnyL P .any ops.toArray (NoPanic Q) t (fun x=>∃ v:Wc S,x=v.val) ops.length (Array.replicate ops.length false) a w.drew):(Code.region id ops.toArray true).wp P Q a w :=
 wp_region_noPanic (wp_region_any hm (by simpa using dN _ _ _ _ h))
def Au (gn gd b:Nat) (c0 c1 c2:Value) (v:World):Prop:=v.cell? ⟨gn,15,none⟩=some (.pointer (some ⟨gd,0,none⟩))/\v.cell? ⟨b,0,none⟩=some c0/\v.cell? ⟨b,1,none⟩=some c1/\v.cell? ⟨b,2,none⟩=some c2
theorem eF {α:Type} (f:Nat->α) (k:Nat) (x y:α):fZ (fZ f k x) k y=fZ f k y:=by
 funext i
 unfold fZ;split <;> rfl
section
variable {s:cu} {w w':World} {ah:Nat->Cp} {g k b:Nat} {c0 c1 c2:Value} {t:TypeId}
theorem Au.of (h:Nd s w ah) (hb:ao w b t #[c0,c1,c2]):Au s.gn s.gd b c0 c1 c2 w:=⟨h.cells.dy,hb.cell 0,hb.cell 1,hb.cell 2⟩
theorem Fk {v:Nat} {t:Int} {ws:List Nat} (h:Nd s w ah) (hk:k < 4) (hd:∀ e∈s.D.l,e.dflt.length<=1000000) (hv:∀ v∈s.D.v,v.length<=1000000) (hs:Pm.bO s.D k=some (v,t,ws)) (hv1:v < 4294967296) (hw1:∀ x∈ws,x < 4294967296):Calls Tryz.prog 194 #[.pointer (some ⟨s.gn,0,none⟩),.int .i64 (k:Int)] w (Nu s w ah k):=by
 have N1:=h.s8 hk (o:=none) (x:=(0,0,[])) trivial;have K1:=Kp.node h (5 + k) (pt none);change Nd _ (w.setCell ⟨s.gn,5 + k,none⟩ (.pointer none)) ah at N1;change Kp w ah (w.setCell ⟨s.gn,5 + k,none⟩ (.pointer none)) ah at K1;have C4:=h.cm hk;have fz:=h.cells.free;obtain ⟨w1,hw0⟩:∃ w1,w.setCell ⟨s.gn,5 + k,none⟩ (.pointer none)=w1:=⟨_,rfl⟩;rw [hw0] at N1 K1;have C1:=N1.cells.dy;dsimp only at C1;obtain ⟨gv,lc,vc,la,vA,xs,vs,hr⟩:=N1.dy;have SY:=px (k:Int) hr hd hv;dsimp only at SY;rw [hs] at SY;have ei:Hid (nz s.D k=if Rp.ar s.D.l v t ws=0 then some (v,t,ws) else none):=zq (by unfold nz; rw [hs]);have HD:=zq hd;have HW:=zq2 hv1 hw1;replace N1:=zq N1;replace K1:=zq K1;replace SY:=zq SY;have HK:=zq hk;have hk1:decide ((k:Int) < 4)=true:=decide_eq_true (by omega);have hk2:decide (0<=(k:Int))=true:=decide_eq_true (by omega);clear hr hd hv h hs hw1 hv1;go_enter Tryz.func194,Tryz.ntmps194
 go_wp2_with fail
 refine (SY.out).mono ?_;rintro e w2 ⟨A,c,rfl,o2,b2⟩;have b3:=ae w2 (.cells #[.int .u32 (v:Int),.int .i64 t,.slice A ws.length c] 65);have K3:=ao.new w2 65 #[.int .u32 (v:Int),.int .i64 t,.slice A ws.length c];have d3:=aa b2 b3 lq;have N3:=N1.out.below d3 .ext;have M3:=K1.out.trans (Kp.below d3 .ext);have r3:=(iY.rw o2).below b3;have S3:=Au.of N3 K3;dsimp only at S3;obtain ⟨w3,hw3⟩:∃ w3,w2.alloc (.cells #[.int .u32 (v:Int),.int .i64 t,.slice A ws.length c] 65)=w3:=⟨_,rfl⟩;rw [hw3] at b3 K3 d3 N3 M3 r3 S3;have N4:=N3.drew;obtain ⟨gv4,lc4,vc4,la4,vA4,xs4,vs4,hr4⟩:=N4.dy;have PN:=zq (Cg v HW.out.1 t hr4 HD.out (r3.below (Below.refl _ w3).drew) HW.out.2 b3.size);have K4:=K3.later (Below.refl _ w3).drew;have gl:s.gn < w2.heap.size:=Nat.lt_of_lt_of_le (show s.gn < w1.heap.size from N1.out.node.lt) b2.size;have HN:=zq4 N4 M3.drew K4 gl;have z0:∀ x:Wc (Au s.gn s.gd w2.heap.size (.int .u32 (v:Int)) (.int .i64 t) (.slice A ws.length c)),x.val.cell? ⟨s.gn,15,none⟩=some (.pointer (some ⟨s.gd,0,none⟩)):=fun x=>x.ok.1
 have z1:∀ x:Wc (Au s.gn s.gd w2.heap.size (.int .u32 (v:Int)) (.int .i64 t) (.slice A ws.length c)),x.val.cell? ⟨w2.heap.size,0,none⟩=some (.int .u32 (v:Int)):=fun x=>x.ok.2.1
 have z2:∀ x:Wc (Au s.gn s.gd w2.heap.size (.int .u32 (v:Int)) (.int .i64 t) (.slice A ws.length c)),x.val.cell? ⟨w2.heap.size,1,none⟩=some (.int .i64 t):=fun x=>x.ok.2.2.1
 have z3:∀ x:Wc (Au s.gn s.gd w2.heap.size (.int .u32 (v:Int)) (.int .i64 t) (.slice A ws.length c)),x.val.cell? ⟨w2.heap.size,2,none⟩=some (.slice A ws.length c):=fun x=>x.ok.2.2.2
 have S4:=zq (show Au s.gn s.gd w2.heap.size (.int .u32 (v:Int)) (.int .i64 t) (.slice A ws.length c) w3.drew from S3);clear gl N1 K1 C4 fz C1 SY b2 b3 K3 d3 N3 M3 r3 S3 N4 hr4 K4 o2 HW HD;go_wp2_with fail
 haveI cg:Nonempty (Wc (Au s.gn s.gd w2.heap.size (.int .u32 (v:Int)) (.int .i64 t) (.slice A ws.length c))):=⟨⟨_,S4.out⟩⟩;refine aW 99 (Au s.gn s.gd w2.heap.size (.int .u32 (v:Int)) (.int .i64 t) (.slice A ws.length c)) (by kernel_rfl) ?_;refine aw (by kernel_rfl) 6 S4.out [0,1,2,6,3,11,4,12,5,13] rfl (by kernel_rfl) ?_;simp only [aj,nth]
 repeat (go_big_quiet_step (fail))
 refine wpQuiet_nil ?_;refine ag 7 5 rfl (by kernel_rfl) (by decide) ?_;simp only [nth];go_wp2_with fail
 refine (PN.out).mono ?_;intro e w5 HP;have b5:Below w3.drew.heap.size w3.drew w5:=by
  unfold yI at HP;rcases HP with q | q
  ·exact q.2.1
  ·exact q.2.1
 have N5:=HN.out.1.below b5 (.cm k);have K5:=HN.out.2.1.trans (Kp.below b5 (.cm k));have B5:=HN.out.2.2.1.later b5;have S5:=Au.of N5 B5;have C5:=N5.cm HK.out;have VY:=N5.cells.free;dsimp only at C5 VY S5;rw [eE] at C5;unfold yI at HP;rcases HP with (⟨hz,_,g1,gp,Aw,cw,rfl,hp⟩ | ⟨hz,_,rfl⟩)
 ·have S_:(opt (some g1) (mV s.gd (v,t,ws))).P w5 (fun q=>aL (aL ah w1.heap.size w3.heap.size .ext) w3.drew.heap.size w5.heap.size (.cm k) q=.cm k):=⟨gp,[],Aw,cw,none,0,(mT.aq hp).mono fun b hb e=>ay ⟨e,hb⟩,fun _ hx=>by cases hx⟩
  have N6:=N5.s8 HK.out S_;have K6:=K5.trans (Kp.node N5 (5 + k) (pt (some g1)));have S6:=Au.of N6 (B5.cR (p:=⟨s.gn,5 + k,none⟩) (by have:=HN.out.2.2.2; dsimp only; omega) (pt (some g1)));dsimp only at N6 S6;rw [eF,eF] at N6;replace N6:=zq N6;replace K6:=zq K6;replace S6:=zq S6;have IL:=zq S5;clear N5 K5 B5 S5 S_ hp b5;replace hz:=zq hz;go_wp2_with fail
  refine az IL.out ?_;refine aw (by kernel_rfl) 1 IL.out [8,9,10,14] rfl (by kernel_rfl) ?_;simp only [aj,nth]
  repeat (go_big_quiet_step (fail))
  refine wpQuiet_nil ?_;refine ag 15 0 rfl (by kernel_rfl) (by decide) ?_;simp only [nth];go_wp2_with fail
  refine az S6.out ?_;refine au (by kernel_rfl) ?_;go_wp2_with fail
  go_end0
  exact ⟨rfl,some g1,(v,t,ws),_,N6.out,K6.out,by rw [ei.out,if_pos hz.out]; rfl,fun y e=>by rw [ei.out,if_pos hz.out] at e; injection e⟩
 ·have N6:=N5.s8 HK.out (o:=none) (x:=(0,0,[])) trivial
  have K6:=K5.trans (Kp.node N5 (5 + k) (pt none));have S6:=Au.of N6 (B5.cR (p:=⟨s.gn,5 + k,none⟩) (by have:=HN.out.2.2.2; dsimp only; omega) (pt none));dsimp only at N6 S6;rw [eF,eF] at N6;replace N6:=zq N6;replace K6:=zq K6;replace S6:=zq S6;have IL:=zq S5;clear N5 K5 B5 S5 b5;replace hz:=zq hz;go_wp2_with fail
  refine az IL.out ?_;refine aw (by kernel_rfl) 1 IL.out [8,9,10,14] rfl (by kernel_rfl) ?_;simp only [aj,nth]
  repeat (go_big_quiet_step (fail))
  refine wpQuiet_nil ?_;refine ag 15 0 rfl (by kernel_rfl) (by decide) ?_;simp only [nth];go_wp2_with fail
  refine az S6.out ?_;refine au (by kernel_rfl) ?_;go_wp2_with fail
  go_end0
  exact ⟨rfl,none,(0,0,[]),_,N6.out,K6.out,by rw [ei.out,if_neg hz.out]; rfl,fun y e=>by rw [ei.out,if_neg hz.out] at e; cases e⟩
theorem JG (h:Nd s w ah) (hk:k < 4) (hd:∀ e∈s.D.l,e.dflt.length<=1000000) (hv:∀ v∈s.D.v,v.length<=1000000):Calls Tryz.prog 194 #[.pointer (some ⟨s.gn,0,none⟩),.int .i64 (k:Int)] w (Nu s w ah k):=by
 cases hs:Pm.bO s.D k with
 | none=>exact Fl h hk hd hv hs
 | some x =>
  obtain ⟨v,t,ws⟩:=x;have e:=hs;unfold Pm.bO at e;split at e
  ·cases e
  ·split at e
   ·cases e
   ·injection e with e
    injection e with e1 e2
    injection e2 with e2 e3
    exact Fk h hk hd hv hs (by rw [<- e1]; have:=Pm.gY s.D (5120 + k) 1; omega) (by rw [<- e3]; exact Pm.hU _ _ _)
end
end Nn
end Go.Proofs.YtijegngfclkdaaaGreatDoor
