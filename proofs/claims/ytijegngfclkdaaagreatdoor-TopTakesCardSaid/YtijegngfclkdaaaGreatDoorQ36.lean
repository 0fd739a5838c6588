/-
  Piece 36 of the proof.
  Conditions: none.
-/
import Derived.Maps.Own
import Derived.Test.YtijegngfclkdaaaGreatDoorQ35
set_option linter.unusedVariables false
set_option linter.unusedSimpArgs false
set_option maxHeartbeats 100000000
set_option maxRecDepth 100000
namespace Go.Proofs.YtijegngfclkdaaaGreatDoor
namespace Nn
open Go.RowKit Go.Sort Go
section
variable {s s':cu} {w w':World} {ah:Nat->Cp} {g gq k b:Nat} {l:List aD.En}
theorem zz (h:Nd s w ah) (ho:s.on=true):Calls Tryz.prog 14 #[.pointer (some ⟨s.gn,0,none⟩)] w fun e w'=>e=.returned (.bool true)/\w=w':=by
 have TH:=zq (iw h);have C:=h.cells.on;rw [ho] at C;clear h ho;go_enter Tryz.func14,Tryz.ntmps14
 go_wp2_with fail
 refine (TH.out).mono ?_;rintro e _ ⟨rfl,rfl⟩;go_wp2_with fail
 go_ret
 exact ⟨rfl,rfl⟩
theorem we (h:Nd s w ah) (ho:s.on=true):Calls Tryz.prog 24 #[.pointer (some ⟨s.gn,0,none⟩)] w fun e w'=>e=.returned (.int .i64 s.st)/\w=w':=by
 have TH:=zq (zz h ho);have C:=h.cells.st;clear h ho;go_enter Tryz.func24,Tryz.ntmps24
 go_wp2_with fail
 refine (TH.out).mono ?_;rintro e _ ⟨rfl,rfl⟩;go_wp2_with fail
 go_ret
 exact ⟨rfl,rfl⟩
theorem Fu (h:Nd s w ah) (he:s.ge=some g):Calls Tryz.prog 30 #[.pointer (some ⟨s.gn,0,none⟩)] w fun e w'=>(∃ z:Nat,e=.returned (.int .i64 (z:Int))/\(s.act≠[]->1<=z))/\Below w.heap.size w w':=by
 have TH:=zq (iw h);have C:=h.cells.gD;rw [he] at C;change w.cell? ⟨s.gn,3,none⟩=some (.pointer (some ⟨g,0,none⟩)) at C;have RE:=zq (nZ (h.gD he));clear h he;go_enter Tryz.func30,Tryz.ntmps30
 go_wp2_with fail
 refine (TH.out).mono ?_;rintro e _ ⟨rfl,rfl⟩;go_wp2_with fail
 refine (RE.out).mono ?_;rintro e w1 ⟨⟨z,rfl,_,hz⟩,b1⟩;replace hz:=zq hz;go_wp2_with fail
 go_ret
 exact ⟨⟨z,rfl,hz.out⟩,b1⟩
theorem ko (h:Nd s w ah) (hv:∀ v∈s.D.v,v.length<=1000000) (x y:Int):Calls Tryz.prog 27 #[.pointer (some ⟨s.gn,0,none⟩),.int .i64 x,.int .i64 y] w (iW (Dc.c_ s.D x y) w):=by
 have TH:=zq (iw h);have C:=h.cells.dy;obtain ⟨gv,lc,vc,la,vA,xs,vs,hr⟩:=h.dy;have PK:=jB x y hr hv;clear h hr hv;unfold iW at PK ⊢;generalize Dc.c_ s.D x y=o at *;cases o with
 | none =>
  dsimp only at PK ⊢;replace PK:=zq PK;go_enter Tryz.func27,Tryz.ntmps27
  go_wp2_with fail
  refine (TH.out).mono ?_;rintro e _ ⟨rfl,rfl⟩;go_wp2_with fail
  refine (PK.out).mono ?_;rintro e w1 ⟨rfl,b1⟩;go_wp2_with fail
  go_ret2
  exact ⟨rfl,b1⟩
 | some bs =>
  dsimp only at PK ⊢;replace PK:=zq PK;go_enter Tryz.func27,Tryz.ntmps27
  go_wp2_with fail
  refine (TH.out).mono ?_;rintro e _ ⟨rfl,rfl⟩;go_wp2_with fail
  refine (PK.out).mono ?_;rintro e w1 ⟨A,c,rfl,o1,b1⟩;replace o1:=zq o1;go_wp2_with fail
  go_ret2
  exact ⟨A,c,rfl,o1.out,b1⟩
def Qg (s:cu) (w:World) (ah:Nat->Cp) (e:Ending) (w':World):Prop:=∃ (i:Int) (r:Bool) (A:Option Addr) (n c:Nat) (ok:Bool) (bs:List UInt8) (an:Nat->Cp),e=.returned (.tuple #[.agg #[.int .i64 i,.bool r,.slice A n c],.bool ok])/\iX w' (fun q=>an q=.dn) A n c bs/\n<=1000000/\Nd s w' an/\Kp w ah w' an/\Mv (fun q=>ah q=.dn) w w'
theorem Nd.QD (h:Nd s w ah) (hq:s.gq=some gq):Calls Tryz.prog 101 #[.pointer (some ⟨gq,0,none⟩)] w (Qg s w ah):=by
 obtain ⟨fs,lost,sp,q,h2,h3⟩:=h.dn hq;have gc:ah gq=.dn:=q.1;cases fs with
 | nil =>
  refine (wO w q).mono ?_;rintro e w' ⟨rfl,b1⟩;exact ⟨0,false,none,0,0,false,[],_,rfl,iX.none_ _ _,by decide,h.below b1 .ext,Kp.below b1 .ext,Mv.aq b1 _⟩
 | cons f fs =>
  refine (Iu w f q).mono ?_;rintro e w' ⟨A,n,c,rfl,rb,q',hm⟩;have hm':Mv (fun q=>ah q=.dn) w w':=hm.mono fun b _ e=>by rw [show b=gq from e]; exact gc
  have hl:=rb.rb.len;have h8:=h2 f (List.mem_cons_self ..);unfold QA at h8;exact ⟨f.id,f.rem,A,n,c,true,f.data,_,rfl,rb.mono fun q hq e=>fV (.inl e) hq,by omega,h.He hq hm' ⟨fs,lost,sp,q'.mono fun _ _ e=>.inl e,fun x hx=>h2 x (List.mem_cons_of_mem _ hx),by simp only [List.length_cons] at h3; omega⟩,Kp.step hm' (by intro e; cases e) _,hm'⟩
theorem xZ (h:Nd s w ah) (ho:s.on=true) (hq:s.gq=some gq):Calls Tryz.prog 65 #[.pointer (some ⟨s.gn,0,none⟩)] w (Qg s w ah):=by
 have b0:=ae w (.cells #[.int .i64 0,.bool false,.slice none 0 0] 37);have B0:=ao.new w 37 #[.int .i64 0,.bool false,.slice none 0 0];have N0:=h.below b0 .ext;have K0:=Kp.below (ah:=ah) b0 .ext;have Q0:=Kc.below (i:=.dn) (j:=.ext) (ah:=ah) b0;have bx:=ay (ah:=ah) (i:=.ext) (show w.heap.size<=w.heap.size/\w.heap.size < (w.alloc (.cells #[.int .i64 0,.bool false,.slice none 0 0] 37)).heap.size from ⟨Nat.le_refl _,B0.lt⟩);obtain ⟨w0,hw0⟩:∃ x,w.alloc (.cells #[.int .i64 0,.bool false,.slice none 0 0] 37)=x:=⟨_,rfl⟩;rw [hw0] at b0 B0 N0 K0 bx Q0;generalize aL ah w.heap.size w0.heap.size .ext=eO at *;have TH:=zq (zz N0 ho);have QT:=zq (N0.QD hq);have C:=N0.cells.dn;rw [hq] at C;change w0.cell? ⟨s.gn,0,none⟩=some (.pointer (some ⟨gq,0,none⟩)) at C;have HN:=zq4 K0 Q0 B0 bx;clear h ho hq b0 B0 N0 K0 Q0 bx;go_enter Tryz.func65,Tryz.ntmps65
 go_wp2_with fail
 refine (TH.out).mono ?_;rintro e _ ⟨rfl,rfl⟩;go_wp2_with fail
 refine (QT.out).mono ?_;rintro e w1 ⟨i,r,A,n,c,ok,bs,bN,rfl,rb,hn,N1,K1,m1⟩;have B1:=HN.out.2.2.1.mv K1.mv fun e=>e HN.out.2.2.2
 have bx1:=K1.ext _ HN.out.2.2.1.lt HN.out.2.2.2;have F1:=B1.three;have B2:=B1.eG (.int .i64 i) (.bool r) (.slice A n c);have R:=B2.three;have MB:Mv (fun q=>q=w.heap.size) w1 (((w1.setCell ⟨w.heap.size,0,none⟩ (.int .i64 i)).setCell ⟨w.heap.size,1,none⟩ (.bool r)).setCell ⟨w.heap.size,2,none⟩ (.slice A n c)):=((Mv.setCell w1 ⟨w.heap.size,0,none⟩ (.int .i64 i)).trans (Mv.setCell _ ⟨w.heap.size,1,none⟩ (.bool r)) fun _ _ e=>e).trans (Mv.setCell _ ⟨w.heap.size,2,none⟩ (.slice A n c)) fun _ _ e=>e
 have M2:=MB.mono (G:=fun q=>bN q=.ext) fun b _ e=>by rw [show b=w.heap.size from e]; exact bx1
 have N2:=Al.cR N1 M2 rfl;have KK:=HN.out.1.trans K1;have z1:w.heap.size < w1.heap.size:=B1.lt;have K2:Kp w ah _ (aL bN w1.heap.size (((w1.setCell ⟨w.heap.size,0,none⟩ (.int .i64 i)).setCell ⟨w.heap.size,1,none⟩ (.bool r)).setCell ⟨w.heap.size,2,none⟩ (.slice A n c)).heap.size .ext):=⟨KK.mv.trans MB fun b hb e=>absurd (show b=w.heap.size from e) (by omega),fun q hq e=>(bT (by omega)).trans (KK.ext q hq e)⟩;have Q2:=(HN.out.2.1.mv.trans m1 fun b hb e=>HN.out.2.1.old b hb e).trans MB fun b hb e=>absurd (show b=w.heap.size from e) (by omega)
 have r2:=(rb.mono (G:=fun q=>bN q=.dn/\q < w1.heap.size) fun b hb e=>⟨e,hb⟩).mv M2 fun b _ e h=>by rw [e.1] at h; cases h
 have r3:=r2.mono (G:=fun q=>aL bN w1.heap.size (((w1.setCell ⟨w.heap.size,0,none⟩ (.int .i64 i)).setCell ⟨w.heap.size,1,none⟩ (.bool r)).setCell ⟨w.heap.size,2,none⟩ (.slice A n c)).heap.size .ext q=.dn) fun b _ e=>(bT e.2).trans e.1
 have H2:=zq5 N2 K2 Q2 r3 hn;clear N2 K2 Q2 r2 r3 KK M2 MB m1 N1 K1 rb hn QT TH C;go_wp2_with fail
 exact bodyPost_ret (v:=.tuple #[.agg #[.int .i64 i,.bool r,.slice A n c],.bool ok]) (by simp [results,Tryz.results65,go_sem,R]) rfl ⟨i,r,A,n,c,ok,bs,_,rfl,H2.out.2.2.2.1,H2.out.2.2.2.2,H2.out.1,H2.out.2.1,H2.out.2.2.1⟩
end
end Nn
namespace Nn
open Go.RowKit Go
def wD (w:World) (F:Nat->Prop) (gc gm:Nat):Prop:=(ua gc 142 fun cs=>cs[2]?=some (.map (some gm))).P w F/\F gm/\∃ ck,w.heap[gm]?=some (.map #[] ck)
theorem EC (w:World):Calls Tryz.prog 36 #[.int .i64 5] w fun e w'=>∃ gc gm,e=.returned (.tuple #[.pointer (some ⟨gc,0,none⟩),.int .i64 0])/\Below w.heap.size w w'/\wD w' (fun q=>w.heap.size<=q) gc gm:=by
 have I1:=h_ 8 (by decide);have I2:=h_ 7 (by decide);rw [show kU 8 + 5=1541 by kernel_rfl] at I1;rw [show kU 7 + 5=1413 by kernel_rfl] at I2;replace I1:=zq I1;replace I2:=zq I2;go_enter Tryz.func36,Tryz.ntmps36
 go_wp2_with fail
 refine (I2.out _).mono ?_;rintro e w1 ⟨rfl,b1⟩;go_wp2_with fail
 refine (I1.out _).mono ?_;rintro e w2 ⟨rfl,b2⟩;have d2:=aa b1 b2 lq;have hmm:=@run_makeMap Tryz.prog;go_wp2_with fail
 go_ret2
 have b3:=ae w2 (.map #[] 0);have b4:=ae (w2.alloc (.map #[] 0));have s2:=d2.size;have hm:(w2.alloc (.map #[] 0)).heap[w2.heap.size]?=some (.map #[] 0):=heap_alloc_new w2 _;refine ⟨w2.heap.size + 1,w2.heap.size,rfl,aa (aa d2 b3 lq) (b4 _) lq,⟨Nat.le_succ_of_le s2,_,by have:=ao.new (w2.alloc (.map #[] 0)); rw [World.size_alloc] at this; exact this _ _,rfl⟩,s2,0,?_⟩;exact ((b4 _).block w2.heap.size (by rw [World.size_alloc]; omega)).trans hm
theorem wD.below {w w':World} {F:Nat->Prop} {gc gm:Nat} (h:wD w F gc gm) (hb:Below w.heap.size w w'):wD w' F gc gm:=by
 obtain ⟨⟨h1,cs,k,hc⟩,h2,ck,hm⟩:=h;have hlt:gm < w.heap.size:=(Array.getElem?_eq_some_iff.1 hm).1;exact ⟨⟨h1,cs,k.later hb,hc⟩,h2,ck,(hb.block gm hlt).trans hm⟩
section
variable {w:World} {F:Nat->Prop} {gc gm:Nat}
theorem BK (h:wD w F gc gm):Calls Tryz.prog 70 #[.pointer (some ⟨gc,0,none⟩)] w fun e w'=>e=.returned (.bool false)/\w=w':=by
 obtain ⟨⟨_,cs,k,hc⟩,_,ck,hm⟩:=h;have F2:=(k.cell 2).trans hc;have HL:=run_len_map (P:=Tryz.prog) (w:=w) 137 3 gm #[] ck Tryz.underlying137 hm;clear k hc;go_enter Tryz.func70,Tryz.ntmps70
 go_wp2_with fail
 go_ret
 exact ⟨rfl,rfl⟩
theorem Ci (h:wD w F gc gm) (id:Int) (r:Bool) (A:Option Addr) (n c:Nat):Calls Tryz.prog 66 #[.pointer (some ⟨gc,0,none⟩),.agg #[.int .i64 id,.bool r,.slice A n c]] w fun e w'=>e=.returned (.slice none 0 0)/\Below w.heap.size w w':=by
 have b0:=ae w (.cells #[.int .i64 id,.bool r,.slice A n c] 37);have BU:=zq (fun d os=>Calls.kE (BK ((h.below b0).below (below_regrown _ d os))));clear h;go_enter Tryz.func66,Tryz.ntmps66
 go_wp2_with fail
 refine wp_region_quiet_below (by kernel_rfl) (by kernel_rfl) ?_
 repeat (go_big_quiet_step (with_reducible exact BU.out _ _))
 refine wpQuiet_nil ?_;intro _ hw';obtain ⟨⟨dq,osq⟩,hw''⟩:=hw';subst hw'';dsimp only;have bq:=below_regrown (w.alloc (.cells #[.int .i64 id,.bool r,.slice A n c] 37)) dq osq;have d1:=aa b0 bq lq;go_wp2_with fail
 go_ret
 exact ⟨rfl,d1⟩
end
open Go.Sort
section
variable {s s':cu} {w w':World} {ah:Nat->Cp} {g gq gc k b:Nat} {l:List aD.En}
theorem Nd.m6 (h:Nd s w ah) (hg:s.gb=some b):(FU s.gn b).P w (fun q=>ah q=.m6):=by
 have q:(opt s.gb (FU s.gn)).P w (fun q=>ah q=.m6):=h .m6;rw [hg] at q;exact q
theorem xP {base n c e size gm:Nat} {A:Option Addr} {xs:List Value} (h:OV w base e size A n c xs) {ck:TypeId} (hm:w.heap[gm]?=some (.map #[] ck)):(Value.slice A n c).ownBlock≠some gm:=by
 rcases h.2 with ⟨h1,_⟩ | ⟨g',cap,cur,h1,_,hh,_⟩
 ·rw [h1]; simp [Value.ownBlock]
 ·rw [h1]
  intro he;have:g'=gm:=by simpa [Value.ownBlock] using he
  subst this;rw [hm] at hh;cases hh
theorem Cm (h:Nd s w ah) (hg:s.gb=some b) (i:Int) (r:Bool) {A2:Option Addr} {n2 c2 B:Nat} {bs:List UInt8} (hr:RB w B A2 n2 c2 bs) (hB:B<=w.heap.size) (hn:n2<=1000000) (gc:Nat) (hc:w.cell? ⟨b,1,none⟩=some (.pointer (some ⟨gc,0,none⟩))):Calls Tryz.prog 67 #[.pointer (some ⟨b,0,none⟩),.agg #[.int .i64 i,.bool r,.slice A2 n2 c2]] w fun e w'=>e=.returned (.tuple #[])/\∃ an,Nd s w' an/\Kp w ah w' an/\w'.cell? ⟨b,1,none⟩=some (.pointer (some ⟨gc,0,none⟩)):=by
 obtain ⟨h1,gc',gm,A,n,c,h2,h3,⟨Yj,cs,Yk,Yl⟩,h5,ck,h6⟩:=h.m6 hg;have ec:pt (some gc')=.pointer (some ⟨gc,0,none⟩):=Option.some.inj ((h2.cell 1).symm.trans hc);obtain ⟨xs,hov⟩:=h3.own;have hL:Eu w (fun q=>(ah q=.m6/\q≠b)/\q < w.heap.size) A n c:=h3.mono fun q hq e=>⟨e,hq⟩
 have hgm:gm < w.heap.size:=(Array.getElem?_eq_some_iff.1 h6).1;refine (AH hL (h2.cell 2) (h2.frozen 2) h2.lt (fun e=>e.1.2 rfl) i r hr hB hn).mono ?_;rintro e w' ⟨rfl,w4,A',n',c',m4,l4,hw⟩;have k1:∀ q,some q=(Value.slice A n c).ownBlock->ah q=.m6/\q≠b:=fun q e=>h3.at_ q e.symm
 have B4:=h2.mv m4 fun e=>(k1 b e).2 rfl
 have C4:=Yk.mv m4 fun (e:some gc'=_)=>bE hov Yk (by decide) e.symm
 have G4:w4.heap[gm]?=some (.map #[] ck):=(m4.block gm hgm fun (e:some gm=_)=>xP hov h6 e.symm).trans h6;have M4:Mv (fun q=>ah q=.m6) w w4:=m4.mono fun q _ e=>(k1 q e).1
 have z4:=M4.size;have nb:∀ q,((ah q=.m6/\q≠b)/\q < w.heap.size)\/(w.heap.size<=q/\q < w4.heap.size)->q≠b:=fun q e=>by
  rcases e with e | e
  ·exact e.1.2
  ·have:=h2.lt
   omega
 have key:Mv (fun q=>ah q=.m6) w w'/\(FU s.gn b).P w' (fun q=>ah q=.m6\/w.heap.size<=q)/\w'.cell? ⟨b,1,none⟩=some (pt (some gc')):=by
  rcases hw with rfl | ⟨rfl,rfl,rfl,rfl⟩
  ·have MS:=Mv.setCell w4 ⟨b,0 + 2,none⟩ (.slice A' n' c')
   have B5:=B4.aJ 2 (.slice A' n' c');refine ⟨M4.trans MS fun q _ e=>by rw [show q=b from e]; exact h1,⟨.inl h1,gc',gm,A',n',c',B5,(l4.mv MS fun q _ hq e=>nb q hq e).mono fun q _ e=>⟨e.elim (fun e=>.inl e.1.1) fun e=>.inr e.1,nb q e⟩,⟨.inl Yj,cs,C4.mv MS fun (e:gc'=b)=>?_,Yl⟩,.inl h5,ck,(MS.block gm (by omega) fun (e:gm=b)=>?_).trans G4⟩,B5.cell 1⟩
   ·subst e
    exact absurd (ao.Xh C4 B4 (by decide) rfl) (fun x=>x)
   ·subst e
    have q:=B4;unfold ao at q;rw [G4] at q;cases q
  ·exact ⟨M4,⟨.inl h1,gc',gm,_,_,_,B4,l4.mono fun q _ e=>⟨e.elim (fun e=>.inl e.1.1) fun e=>.inr e.1,nb q e⟩,⟨.inl Yj,cs,C4,Yl⟩,.inl h5,ck,G4⟩,B4.cell 1⟩
 obtain ⟨M,P,K⟩:=key;exact ⟨rfl,_,h.part .m6 M (by
  show (opt s.gb (FU s.gn)).P _ _;rw [hg];exact P),Kp.step M (by intro e; cases e) _,K.trans (by rw [ec])⟩
end
section
variable {s s':cu} {w w':World} {ah:Nat->Cp} {g gq gc k b:Nat} {l:List aD.En}
theorem Hk:∀ (args:Array Value) (w:World),(callFunc 65 args).run Tryz.prog w=.ok (.enter 65 args) w:=fun args w=>by kernel_rfl
theorem Gp:∀ (args:Array Value) (w:World),(callFunc 66 args).run Tryz.prog w=.ok (.enter 66 args) w:=fun args w=>by kernel_rfl
def TQ (s:cu) (b gc:Nat) (w:World) (ah:Nat->Cp) (wr:World):Prop:=∃ an,Nd s wr an/\Kp w ah wr an/\wr.cell? ⟨b,1,none⟩=some (.pointer (some ⟨gc,0,none⟩))
theorem Nd.Nw (h:Nd s w ah) (hg:s.gb=some b) (hc:w.cell? ⟨b,1,none⟩=some (.pointer (some ⟨gc,0,none⟩))):∃ gm,wD w (fun q=>ah q=.m6) gc gm:=by
 obtain ⟨h1,gc',gm,A,n,c,h2,h3,h4,h5⟩:=h.m6 hg;have ec:=Option.some.inj ((h2.cell 1).symm.trans hc);have e:gc'=gc:=by
  have q:pt (some gc')=pt (some gc):=ec;unfold pt at q;injection q with q
  injection q with q
  injection q with q
 subst e;exact ⟨gm,h4,h5⟩
theorem oh (h:Nd s w ah) (hg:s.gb=some b) (hr:mZ l s):Calls Tryz.prog 37 #[.pointer (some ⟨b,0,none⟩),.slice none 0 0] w (QB s w ah):=by
 obtain ⟨gq,hq⟩:=hr.dn;obtain ⟨h1,gc,gm,A,n,c,h2,h3,h4,h5⟩:=h.m6 hg;have c0:=h2.cell 0;have c1:=h2.cell 1;change _=some (Value.pointer (some ⟨s.gn,0,none⟩)) at c0;change _=some (Value.pointer (some ⟨gc,0,none⟩)) at c1;have R0:Hid (∀ m,TQ s b gc w ah (w.drewN m)):=zq fun m=>⟨_,h.below (below_drewN (Below.refl _ w) m) .ext,Kp.below (below_drewN (Below.refl _ w) m) .ext,((below_drewN (Below.refl _ w) m).cell (p:=⟨b,1,none⟩) h2.lt).trans c1⟩
 have tr:=Hk;have rr:=Gp;have HQ:=zq3 hg hr.on hq;clear h hg hr hq h1 h2 h3 h4 h5;go_enter Tryz.func37,Tryz.ntmps37
 go_wp2_with fail
 go_step3
 go_wp2_with fail
 go_quiet (fail)
 go_wp2_with fail
 go_step3
 go_wp2_with fail
 clear c0 c1;go_loopw [1,18] (fun lv v wr=>∃ k:Nat,k<=1000/\lv=.slice none 0 0/\v=.int .i64 k/\Hid (TQ s b gc w ah wr)) (fun _ v _=>1000 - (intOf v).toNat)
 case atStart=>exact ⟨0,by omega,rfl,rfl,zq (R0.out _)⟩
 case round =>
  obtain ⟨k,hk,rfl,rfl,HR⟩:=hrel;clear R0
  by_cases hlt:k < 1000
  ·have tk:decide ((k:Int) < 1000)=true:=decide_eq_true (by omega)
   obtain ⟨bN,N1,K1,G1⟩:=HR.out;have hb1:=(N1.m6 HQ.out.1).1;have TK:=zq (xZ N1 HQ.out.2.1 HQ.out.2.2);have H1:=zq3 K1 G1 hb1;have Ym:b < wr.heap.size:=by
    obtain ⟨_,_,_,_,_,_,q,_⟩:=N1.m6 HQ.out.1;exact q.lt
   clear N1 K1 G1 hb1 HR;go_wp2_with fail
   refine (TK.out).mono ?_;rintro e w2 ⟨i,r,A,n,c,ok,bs,bA,rfl,rb,hn,N2,K2,m2⟩;have G2:=aC (G:=fun q=>bN q=.dn) H1.out.2.1 (fun (e:bN b=.dn)=>by rw [H1.out.2.2] at e; cases e) ⟨w2,m2⟩;dsimp only at G2;have b3:=ae w2 (.cells #[.int .i64 i,.bool r,.slice A n c] 37);have B3:=ao.new w2 37 #[.int .i64 i,.bool r,.slice A n c];have N3:=N2.below b3 .ext;have K3:=(H1.out.1.trans K2).trans (Kp.below b3 .ext);have Wb:b < w2.heap.size:=by
    obtain ⟨_,_,_,_,_,_,q,_⟩:=N2.m6 HQ.out.1;exact q.lt
   have G3:=(b3.cell (p:=⟨b,1,none⟩) Wb).trans G2;have We:=rb.rb.below b3;cases ok
   ·have R3:Hid (TQ s b gc w ah (w2.alloc (.cells #[.int .i64 i,.bool r,.slice A n c] 37))):=zq ⟨_,N3,K3,G3⟩
    clear N2 K2 m2 G2 b3 B3 N3 K3 Wb Ym G3 We rb TK H1;go_wp2_with fail
    rw [Exit.noGoto_normal];go_end0
    obtain ⟨dm,N3,K3,_⟩:=R3.out;exact ⟨rfl,dm,N3,K3⟩
   ·have F3:=B3.three
    have NO:=zq (Cm N3 HQ.out.1 i r We b3.size hn gc G3);have Td:=ay (ah:=bA) (i:=.ext) (show w2.heap.size<=w2.heap.size/\w2.heap.size < (w2.alloc (.cells #[.int .i64 i,.bool r,.slice A n c] 37)).heap.size from ⟨Nat.le_refl _,B3.lt⟩);have H3:=zq3 K3 B3 Td;clear N2 K2 m2 G2 b3 B3 N3 K3 Wb Ym G3 We rb TK H1 Td;go_wp2_with fail
    refine (NO.out).mono ?_;rintro e w4 ⟨rfl,fF,N4,K4,G4⟩;have F4:=(H3.out.2.1.mv K4.mv fun e=>e H3.out.2.2).three;obtain ⟨gm4,Yn⟩:=N4.Nw HQ.out.1 G4;have CR:=zq (Ci Yn i r A n c);have Yo:b < w4.heap.size:=by
     obtain ⟨_,_,_,_,_,_,q,_⟩:=N4.m6 HQ.out.1;exact q.lt
    have H4:=zq4 N4 (H3.out.1.trans K4) G4 Yo;clear N4 K4 G4 NO H3 Yn F3 Yo;go_wp2_with fail
    refine (CR.out).mono ?_;rintro e w5 ⟨rfl,b5⟩;have R5:Hid (TQ s b gc w ah w5):=zq ⟨_,H4.out.1.below b5 .ext,H4.out.2.1.trans (Kp.below b5 .ext),(b5.cell (p:=⟨b,1,none⟩) H4.out.2.2.2).trans H4.out.2.2.1⟩;clear b5 CR F4;go_wp2_with fail
    go_roundw
    case rel=>exact ⟨k + 1,by omega,by first | rfl | rw [hw] | go_num,by first | rfl | rw [hw] | go_num,R5⟩
    case measure=>(try rw [hw]); simp [intOf]; omega
  ·go_wp2_with fail
   rw [Exit.noGoto_normal];go_end0
   obtain ⟨dm,N3,K3,_⟩:=HR.out;exact ⟨rfl,dm,N3,K3⟩
end
def fy (e:DA):Array Value:=#[.int .i64 e.kind,.int .i64 e.id,.bool e.r,.slice e.A e.n e.c,.int .i64 e.ix,.int .i64 e.sb,.slice e.A2 e.n2 e.c2,.int .i64 0,.int .u32 0]
def zK (b gn x:Nat) (cs:Array Value) (v:World):Prop:=v.cell? ⟨b,0,none⟩=some (.pointer (some ⟨gn,0,none⟩))/\iV x cs v
section
variable {s s':cu} {w w':World} {ah:Nat->Cp} {g gq gc k b:Nat} {l:List aD.En}
theorem Nd.JI (h:Nd s w ah) (hg:s.gb=some b):w.cell? ⟨b,0,none⟩=some (.pointer (some ⟨s.gn,0,none⟩))/\b < w.heap.size:=by
 obtain ⟨h1,gc,gm,A,n,c,h2,_⟩:=h.m6 hg;exact ⟨h2.cell 0,h2.lt⟩
theorem pL (h:Nd s w ah) (hg:s.gb=some b):Calls Tryz.prog 38 #[.pointer (some ⟨b,0,none⟩)] w fun e w'=>e=.returned (.bool true)/\w=w':=by
 have C:=(h.JI hg).1;clear h hg;go_enter Tryz.func38,Tryz.ntmps38
 go_wp2_with fail
 go_ret
 exact ⟨rfl,rfl⟩
theorem Cn (h:Nd s w ah) (hg:s.gb=some b):Calls Tryz.prog 13 #[.pointer (some ⟨b,0,none⟩)] w fun e w'=>e=.returned (.pointer (some ⟨s.gn,0,none⟩))/\w=w':=by
 have C:=(h.JI hg).1;have TH:=zq (pL h hg);clear h hg;go_enter Tryz.func13,Tryz.ntmps13
 go_wp2_with fail
 refine (TH.out).mono ?_;rintro e _ ⟨rfl,rfl⟩;go_wp2_with fail
 go_ret
 exact ⟨rfl,rfl⟩
theorem rz (hl:Lk l) (h:Nd s w ah) (hg:s.gb=some b) (hr:mZ l s) (ev:DA) {bs:List UInt8} (hk:Of ev w (fun q=>ah q=.ext) bs) {X:Prop} (hX:X->ev.kind=0/\rD s ev.id ev.r/\ev.id≠0/\Can.cb ev.id ev.r ev.n=0):Calls Tryz.prog 8 #[.pointer (some ⟨b,0,none⟩),ev.val] w (cC l s bs X w ah):=by
 have b0:=ae w (.cells (fy ev) 44);have B0:=ao.new w 44 (fy ev);have N0:=h.below b0 .ext;have K0:=Kp.below (ah:=ah) b0 .ext;have hk0:=(K0.drew).Gz hk;have bx:=ay (ah:=ah) (i:=.ext) (show w.heap.size<=w.heap.size/\w.heap.size < (w.alloc (.cells (fy ev) 44)).heap.size from ⟨Nat.le_refl _,B0.lt⟩);have TH:=zq (pL N0 hg);have ST:=CQ hl N0.drew hr ev hk0 hX;have S0:=zq (show zK b s.gn w.heap.size (fy ev) (w.alloc (.cells (fy ev) 44)).drew from ⟨(N0.drew.JI hg).1,iV.aP (B0.later (Below.refl _ _).drew)⟩);have z0:∀ x:Wc (zK b s.gn w.heap.size (fy ev)),x.val.cell? ⟨b,0,none⟩=some (.pointer (some ⟨s.gn,0,none⟩)):=fun x=>x.ok.1
 have HN:=zq5 K0.drew (B0.later (Below.refl _ _).drew) bx hr hg;clear h hg hr hk hX b0 B0 N0 K0 hk0 bx;obtain ⟨kd,id,r,A,n,c,ix,sb,A2,n2,c2⟩:=ev;have y0:∀ x:Wc (zK b s.gn w.heap.size (fy ⟨kd,id,r,A,n,c,ix,sb,A2,n2,c2⟩)),x.val.cell? ⟨w.heap.size,0,none⟩=some (.int .i64 kd):=fun x=>x.ok.2 0 _ rfl
 have y1:∀ x:Wc (zK b s.gn w.heap.size (fy ⟨kd,id,r,A,n,c,ix,sb,A2,n2,c2⟩)),x.val.cell? ⟨w.heap.size,1,none⟩=some (.int .i64 id):=fun x=>x.ok.2 1 _ rfl
 have y2:∀ x:Wc (zK b s.gn w.heap.size (fy ⟨kd,id,r,A,n,c,ix,sb,A2,n2,c2⟩)),x.val.cell? ⟨w.heap.size,2,none⟩=some (.bool r):=fun x=>x.ok.2 2 _ rfl
 have y3:∀ x:Wc (zK b s.gn w.heap.size (fy ⟨kd,id,r,A,n,c,ix,sb,A2,n2,c2⟩)),x.val.cell? ⟨w.heap.size,3,none⟩=some (.slice A n c):=fun x=>x.ok.2 3 _ rfl
 have y4:∀ x:Wc (zK b s.gn w.heap.size (fy ⟨kd,id,r,A,n,c,ix,sb,A2,n2,c2⟩)),x.val.cell? ⟨w.heap.size,4,none⟩=some (.int .i64 ix):=fun x=>x.ok.2 4 _ rfl
 have y5:∀ x:Wc (zK b s.gn w.heap.size (fy ⟨kd,id,r,A,n,c,ix,sb,A2,n2,c2⟩)),x.val.cell? ⟨w.heap.size,5,none⟩=some (.int .i64 sb):=fun x=>x.ok.2 5 _ rfl
 have y6:∀ x:Wc (zK b s.gn w.heap.size (fy ⟨kd,id,r,A,n,c,ix,sb,A2,n2,c2⟩)),x.val.cell? ⟨w.heap.size,6,none⟩=some (.slice A2 n2 c2):=fun x=>x.ok.2 6 _ rfl
 have y7:∀ x:Wc (zK b s.gn w.heap.size (fy ⟨kd,id,r,A,n,c,ix,sb,A2,n2,c2⟩)),x.val.cell? ⟨w.heap.size,7,none⟩=some (.int .i64 0):=fun x=>x.ok.2 7 _ rfl
 have y8:∀ x:Wc (zK b s.gn w.heap.size (fy ⟨kd,id,r,A,n,c,ix,sb,A2,n2,c2⟩)),x.val.cell? ⟨w.heap.size,8,none⟩=some (.int .u32 0):=fun x=>x.ok.2 8 _ rfl
 unfold DA.val at ST ⊢;dsimp only at ST ⊢;replace ST:=zq ST;go_enter Tryz.func8,Tryz.ntmps8
 go_wp2_with fail
 refine (TH.out).mono ?_;rintro e _ ⟨rfl,rfl⟩;go_wp2_with fail
 haveI cg:Nonempty (Wc (zK b s.gn w.heap.size (fy ⟨kd,id,r,A,n,c,ix,sb,A2,n2,c2⟩))):=⟨⟨_,S0.out⟩⟩;refine aW 99 (zK b s.gn w.heap.size (fy ⟨kd,id,r,A,n,c,ix,sb,A2,n2,c2⟩)) (by kernel_rfl) ?_;refine aw (by kernel_rfl) 2 S0.out [0,4,1,2,3] rfl (by kernel_rfl) ?_;simp only [aj,nth]
 repeat (go_big_quiet_step (fail))
 refine wpQuiet_nil ?_;refine ag 5 1 rfl (by kernel_rfl) (by decide) ?_;simp only [nth];go_wp2_with fail
 refine (ST.out).mono ?_;rintro e w2 ⟨⟨z,rfl⟩,s2,bA,N2,K2,r2,p2,x2⟩;have S2:=zq (show zK b s.gn w.heap.size (fy ⟨kd,id,r,A,n,c,ix,sb,A2,n2,c2⟩) w2 from ⟨by have q:=(N2.JI (p2.gb.trans HN.out.2.2.2.2)).1; rw [p2.gn] at q; exact q,iV.aP (HN.out.2.1.mv K2.mv fun e=>e HN.out.2.2.1)⟩);have CA:=zq (oh N2 (p2.gb.trans HN.out.2.2.2.2) r2);have H2:=zq4 (HN.out.1.trans K2) r2 p2 x2;clear N2 K2 r2 p2 x2 ST;go_wp2_with fail
 refine az S2.out ?_;refine aw (by kernel_rfl) 0 S2.out [6] rfl (by kernel_rfl) ?_;simp only [aj,nth]
 repeat (go_big_quiet_step (fail))
 refine wpQuiet_nil ?_;refine au (by kernel_rfl) ?_;clear z0 y0 y1 y2 y3 y4 y5 y6 y7 y8 S0 S2 cg;go_wp2_with fail
 refine (CA.out).mono ?_;rintro e w3 ⟨rfl,dm,N3,K3⟩;have H3:=zq2 N3 K3;clear N3 K3 CA;go_wp2_with fail
 go_ret
 exact ⟨⟨z,rfl⟩,s2,dm,H3.out.1,H2.out.1.trans H3.out.2,H2.out.2.1,H2.out.2.2.1,H2.out.2.2.2⟩
end
def Plain (l:List aD.En):Prop:=∀ k,k < l.length->kM (l.getD k Dc.aI).index->(l.getD k Dc.aI).map=false
theorem Lk.of {l:List aD.En} (h:(Dc.bp l).1=0) (hp:Plain l):Lk l:=by
 obtain ⟨_,ho,hr⟩:=Dc.oY h;have hd:∀ e∈l,e.dflt.length<=256:=fun e he=>gC (aD.jE (hr e he)).2.2.2.2.2.2.2.2
 exact ⟨Dc.m8.new h fun e he=>by have:=hd e he; omega,fun e he=>by have:=hd e he; omega,hr,ho,hp⟩
def S1 (gf:Nat):Cp->Rs
 | .fla=>Kx gf
 | _=>Rs.Ge
def S2 (gf gd:Nat) (D:Dc.aZ):Cp->Rs
 | .fla=>Kx gf
 | .dy=>Jz gd D
 | _=>Rs.Ge
def s0 (gn gf gd:Nat) (D:Dc.aZ):cu:=⟨gn,gf,gd,none,none,none,none,none,none,none,fun _=>none,fun _=>none,0,false,D,[],0,fun _=>(0,0,[])⟩
section
variable {w w':World} {ah:Nat->Cp} {gf:Nat} {l:List aD.En}
def Lw (l:List aD.En) (gf:Nat) (w:World) (ah:Nat->Cp) (e:Ending) (w':World):Prop :=
 ((Dc.bp l).1=0/\∃ s an,e=.returned (.tuple #[.pointer (some ⟨s.gn,0,none⟩),.int .i64 0])/\Nd s w' an/\Kp w ah w' an/\mZ l s/\s.gf=gf/\s.gb=none) \/
 ((Dc.bp l).1≠0/\(∃ z:Int,z≠0/\e=.returned (.tuple #[.pointer none,.int .i64 z]))/\Below w.heap.size w w')
theorem Hr (hp:Plain l) {A:Option Addr} {n c B B':Nat} (hre:qX w B B' A n c l) (hB:B<=w.heap.size) (hB':B'<=B) (hd:∀ e∈l,e.name.length<=1000000/\e.dflt.length<=1000000) (h:Al (S1 gf) w ah):Calls Tryz.prog 35 #[.slice A n c,.int .i64 5,.pointer (some ⟨gf,0,none⟩)] w (Lw l gf w ah):=by
 have DN:=zq (vi w hre hB hB' hd);have HH:=zq2 h hp;clear h hp hre hB hB' hd;go_enter Tryz.func35,Tryz.ntmps35
 go_wp2_with fail
 refine (DN.out).mono ?_;unfold nJ;rintro e w1 (⟨hz,b1,gd,gv,lc,vc,la,vA,xs,vs,rfl,hdr⟩ | ⟨hz,b1,rfl⟩)
 ·have hl:=Lk.of hz HH.out.2
  have A1:Al (S2 gf gd (jA l)) w1 (aL ah w.heap.size w1.heap.size .dy):=HH.out.1.step (i:=.dy) (Mv.aq b1 _) (fun j hj=>by cases j <;> first | rfl | exact absurd rfl hj) ⟨gv,lc,vc,la,vA,xs,vs,hdr.mono fun q hq e=>ay ⟨e,hq⟩⟩;have K1:=Kp.below (ah:=ah) b1 .dy;have b2:=ae w1 (.cells (aG (s0 w1.heap.size gf gd (jA l))) 110);have B2:=ao.new w1 110 (aG (s0 w1.heap.size gf gd (jA l)));have N2:Nd (s0 w1.heap.size gf gd (jA l)) (w1.alloc (.cells (aG (s0 w1.heap.size gf gd (jA l))) 110)) _:=A1.step (i:=.node) (S':=(s0 w1.heap.size gf gd (jA l)).rs) (Mv.aq b2 _) (fun j hj=>by cases j <;> first | rfl | exact absurd rfl hj) ⟨ay ⟨Nat.le_refl _,B2.lt⟩,_,B2,rfl⟩;have K2:=K1.trans (Kp.below b2 .node);have OP:=zq (lV N2);have H2:=zq3 K2 hl hz;clear A1 K1 b2 B2 N2 K2 hl hz b1 hdr DN;go_wp2_with fail
  refine (OP.out).mono ?_;rintro e w3 ⟨rfl,gv3,dm,N3,K3⟩;have BO:=zq (qu H2.out.2.1 N3 (g:=gv3) rfl rfl);have H3:=zq (H2.out.1.trans K3);clear N3 K3 OP;go_wp2_with fail
  refine (BO.out).mono ?_;rintro e w4 ⟨rfl,s4,fF,N4,K4,r4,p4⟩;have H4:=zq4 N4 (H3.out.trans K4) r4 p4;clear N4 K4 r4 p4 BO;go_wp2_with fail
  go_ret2
  obtain ⟨N4,K4,r4,p4⟩:=H4.out;exact .inl ⟨H2.out.2.2,s4,fF,by rw [p4.gn]; rfl,N4,K4,r4,p4.gf,p4.gb⟩
 ·obtain ⟨z,hz1⟩:∃ z,(Dc.bp l).1=z:=⟨_,rfl⟩
  have HZ:=zq hz;rw [hz1] at hz ⊢;have e1:(z == 0)=false:=by simpa using hz
  have e2:(z != 0)=true:=by simpa using hz
  have HW:=zq2 hz b1;clear hz hz1 b1 DN;go_wp2_with fail
  go_ret2
  exact .inr ⟨HZ.out,⟨z,HW.out.1,rfl⟩,HW.out.2⟩
end
section
variable {w w':World} {ah:Nat->Cp} {gf:Nat} {l:List aD.En}
def LY (l:List aD.En) (gf:Nat) (w:World) (ah:Nat->Cp) (e:Ending) (w':World):Prop :=
 ((Dc.bp l).1=0/\∃ s an b,e=.returned (.tuple #[.pointer (some ⟨b,0,none⟩),.int .i64 0])/\Nd s w' an/\Kp w ah w' an/\mZ l s/\s.gb=some b) \/
 ((Dc.bp l).1≠0/\(∃ z:Int,z≠0/\e=.returned (.tuple #[.pointer none,.int .i64 z]))/\Below w.heap.size w w')
theorem Gg (hp:Plain l) {A:Option Addr} {n c B B':Nat} (hre:qX w B B' A n c l) (hB:B<=w.heap.size) (hB':B'<=B) (hd:∀ e∈l,e.name.length<=1000000/\e.dflt.length<=1000000) (h:Al (S1 gf) w ah):Calls Tryz.prog 6 #[.slice A n c,.int .i64 5,.pointer (some ⟨gf,0,none⟩)] w (LY l gf w ah):=by
 have NN:=zq (Hr hp hre hB hB' hd h);clear h hp hre hB hB' hd;go_enter Tryz.func6,Tryz.ntmps6
 go_wp2_with fail
 refine (NN.out).mono ?_;unfold Lw;rintro e w1 (⟨hz,s,bN,rfl,N1,K1,r1,e1,e2⟩ | ⟨hz,⟨z,hz1,rfl⟩,b1⟩)
 ·have H1:=zq5 N1 K1 r1 hz e2
  clear N1 K1 r1 hz NN e1 e2;go_wp2_with fail
  refine (EC _).mono ?_;rintro e w2 ⟨gc,gm,rfl,b2,cl⟩;have N2:=H1.out.1.below b2 .m6;have K2:=H1.out.2.1.trans (Kp.below b2 .m6);have b3:=ae w2 (.cells #[.pointer (some ⟨s.gn,0,none⟩),.pointer (some ⟨gc,0,none⟩),.slice none 0 0] 89);have B3:=ao.new w2 89 #[.pointer (some ⟨s.gn,0,none⟩),.pointer (some ⟨gc,0,none⟩),.slice none 0 0];have K3:=K2.trans (Kp.below b3 .m6);obtain ⟨⟨c1,cs,c2,c3⟩,c4,ck,c5⟩:=cl;have hgm:gm < w2.heap.size:=(Array.getElem?_eq_some_iff.1 c5).1;have N3:Nd { s with gb:=some w2.heap.size } (w2.alloc (.cells #[.pointer (some ⟨s.gn,0,none⟩),.pointer (some ⟨gc,0,none⟩),.slice none 0 0] 89)) _:=Al.step (i:=.m6) (S':=({ s with gb:=some w2.heap.size }:cu).rs) N2 (Mv.aq b3 _) (fun j hj=>by cases j <;> first | rfl | exact absurd rfl hj) ⟨ay ⟨Nat.le_refl _,B3.lt⟩,gc,gm,none,0,0,B3,⟨⟨[],OV.none_ _ _ _ _⟩,by decide,fun k hk=>by cases hk⟩,⟨(bT c2.lt).trans (ay ⟨c1,c2.lt⟩),cs,c2.later b3,c3⟩,(bT hgm).trans (ay ⟨c4,hgm⟩),ck,(b3.block _ hgm).trans c5⟩;have CA:=zq (oh N3 (b:=w2.heap.size) rfl (show mZ l _ from ⟨H1.out.2.2.1.dn,H1.out.2.2.1.qi,H1.out.2.2.1.dx,H1.out.2.2.1.gD,H1.out.2.2.1.pU,H1.out.2.2.1.st,H1.out.2.2.1.on,H1.out.2.2.1.dk,H1.out.2.2.1.cm,H1.out.2.2.1.pid⟩));have H3:=zq K3;clear N2 K2 b3 B3 K3 N3 c1 c2 c3 c4 c5 hgm b2;go_wp2_with fail
  refine (CA.out).mono ?_;rintro e w4 ⟨rfl,fF,N4,K4⟩;have H4:=zq2 N4 K4;clear N4 K4 CA;go_wp2_with fail
  go_ret2
  have r:=H1.out.2.2.1;exact .inl ⟨H1.out.2.2.2.1,_,fF,w2.heap.size,rfl,H4.out.1,H3.out.trans H4.out.2,⟨r.dn,r.qi,r.dx,r.gD,r.pU,r.st,r.on,r.dk,r.cm,r.pid⟩,rfl⟩
 ·have t1:(z == 0)=false:=by simpa using hz1
  have t2:(z != 0)=true:=by simpa using hz1
  have HW:=zq3 hz hz1 b1;clear hz hz1 b1 NN;go_wp2_with fail
  go_ret2
  exact .inr ⟨HW.out.1,⟨z,HW.out.2.1,rfl⟩,HW.out.2.2⟩
end
end Nn
namespace Bt
theorem Bg:∀ c,c < 256->∀ j,j < 8->∀ k,k < 8->(c ||| 2 ^ j) / 2 ^ k % 2=(if k=j then 1 else c / 2 ^ k % 2)/\(c &&& (255 - 2 ^ j)) / 2 ^ k % 2=(if k=j then 0 else c / 2 ^ k % 2):=by decide +kernel
theorem MQ (c:UInt8) (j k:Nat) (hj:j < 8) (hk:k < 8) (x:Bool):(sb c j x).toNat / 2 ^ k % 2=if k=j then x.toNat else c.toNat / 2 ^ k % 2:=by
 have hc:=c.toNat_lt;obtain ⟨h1,h2⟩:=Bg c.toNat hc j hj k hk;have hp:2 ^ j<=2 ^ 7:=Nat.pow_le_pow_right (by decide) (by omega);unfold sb;cases x with
 | true =>
  rw [if_pos rfl,UInt8.toNat_ofNat',Nat.mod_eq_of_lt (Nat.or_lt_two_pow hc (by omega)),h1];rfl
 | false =>
  rw [if_neg (by decide),UInt8.toNat_ofNat',Nat.mod_eq_of_lt (Nat.lt_of_le_of_lt Nat.and_le_left hc),h2];rfl
theorem Jl (l:List UInt8) (i j:Nat) (x:Bool) (hi:i / 8 < l.length):bt (BP l i x) j=if j=i then x.toNat else bt l j:=by
 unfold bt BP
 by_cases e:j / 8=i / 8
 ·have h1:(l.set (i / 8) (sb (l.getD (i / 8) 0) (i % 8) x)).getD (j / 8) 0=sb (l.getD (i / 8) 0) (i % 8) x:=by rw [e]; simp [List.getD,hi]
  rw [h1,MQ _ _ _ (Nat.mod_lt _ (by decide)) (Nat.mod_lt _ (by decide)),e]
  by_cases e2:j=i
  ·rw [if_pos (by rw [e2]),if_pos e2]
  ·rw [if_neg (by omega),if_neg e2]
 ·have h1:(l.set (i / 8) (sb (l.getD (i / 8) 0) (i % 8) x)).getD (j / 8) 0=l.getD (j / 8) 0:=by
   simp [List.getD,List.getElem?_set,show ¬ i / 8=j / 8 by omega]
  rw [h1,if_neg (by omega)]
theorem Bu (l t:List UInt8) (i:Nat) (h:i < 8 * l.length):bt (l ++ t) i=bt l i:=by
 unfold bt;have:i / 8 < l.length:=by omega
 rw [show (l ++ t).getD (i / 8) 0=l.getD (i / 8) 0 by simp [List.getD,List.getElem?_append_left this]]
end Bt
namespace Nn
open Go.RowKit Go.Sort Go
theorem ug (a b:Nat) (ha:a < 9223372036854775808) (hb:b < 9223372036854775808):bits .and .i64 (a:Int) (b:Int)=((a &&& b:Nat):Int):=by
 show IntKind.i64.wrap ((BitVec.ofInt 64 (a:Int) &&& BitVec.ofInt 64 (b:Int)).toNat:Int)=_;have:a &&& b<=a:=Nat.and_le_left;rw [BitVec.toNat_and,nM ha,nM hb,IntKind.wrap_i64];omega
theorem E8 (x j:Nat) (hx:x < 256):bits .and .i64 (wrap64 (x:Int) / 2 ^ j) 1=((x / 2 ^ j % 2:Nat):Int):=by
 have e1:wrap64 (x:Int) / 2 ^ j=((x / 2 ^ j:Nat):Int):=by
  rw [IntWalk.wrap64_in _ (by omega)];simp
 have hle:x / 2 ^ j<=x:=Nat.div_le_self _ _;rw [e1];have:=ug (x / 2 ^ j) 1 (by omega) (by omega);rw [Nat.and_one_is_mod] at this;exact this
def xg (x:Int):Bool:=decide (x=4097) || decide (x=4099)
theorem JK {x:Int} (h:xg x=false):¬ sq x:=by
 unfold xg at h;unfold sq;intro hx;rcases hx with rfl | rfl
 ·cases h
 ·cases h
theorem xC (x:Int) (w:World):Calls Tryz.prog 29 #[.int .i64 x] w fun e w'=>e=.returned (.bool (xg x))/\w=w':=by
 unfold xg
 by_cases h1:x=4097
 ·subst h1
  go_enter Tryz.func29,Tryz.ntmps29
  go_wp2_with fail
  go_ret
  exact ⟨rfl,rfl⟩
 ·have e1:decide (x=4097)=false:=decide_eq_false h1
  have Sy:(x == 4097)=false:=by simpa using h1
  rw [e1];clear h1;go_enter Tryz.func29,Tryz.ntmps29
  go_wp2_with fail
  go_ret
  refine ⟨?_,rfl⟩;rw [Bool.false_or]
  congr 2
theorem pJ (x:Int) (w:World):Calls Tryz.prog 47 #[.int .i64 x] w fun e w'=>e=.returned (.bool (nX x))/\w=w':=by
 unfold nX
 by_cases h1:4096<=x
 ·rw [decide_eq_true h1]
  by_cases h2:x<=8191
  ·rw [decide_eq_true h2]
   have a1:decide (x ≥ 4096)=true:=decide_eq_true h1;have a2:decide (x<=8191)=true:=decide_eq_true h2;clear h1 h2;go_enter Tryz.func47,Tryz.ntmps47
   go_wp2_with fail
   go_ret
   exact ⟨rfl,rfl⟩
  ·rw [decide_eq_false h2]
   have a1:decide (x ≥ 4096)=true:=decide_eq_true h1;have a2:decide (x<=8191)=false:=decide_eq_false h2;clear h1 h2;go_enter Tryz.func47,Tryz.ntmps47
   go_wp2_with fail
   go_ret
   exact ⟨rfl,rfl⟩
 ·rw [decide_eq_false h1]
  have a1:decide (x ≥ 4096)=false:=decide_eq_false h1;clear h1;go_enter Tryz.func47,Tryz.ntmps47
  go_wp2_with fail
  go_ret
  exact ⟨rfl,rfl⟩
theorem ja {A:Option Addr} {n c B:Nat} {bs:List UInt8} (w:World) (hb:RB w B A n c bs) (hn:n<=1000000) (i:Nat) (hi:i<=100000000):Calls Tryz.prog 58 #[.slice A n c,.int .i64 (i:Int)] w fun e w'=>e=.returned (.int .i64 (Bt.bt bs i:Int))/\w=w':=by
 have hl:=hb.len;have q1:Int.tdiv (i:Int) 8=((i / 8:Nat):Int):=by rw [Int.tdiv_eq_ediv_of_nonneg (by omega)]; omega
 have q2:Int.tmod (i:Int) 8=((i % 8:Nat):Int):=by rw [Int.tmod_eq_emod_of_nonneg (by omega)]; omega
 by_cases h:n<=i / 8
 ·have e1:decide (((i / 8:Nat):Int) ≥ (n:Int))=true:=decide_eq_true (by omega)
  have ez:Bt.bt bs i=0:=by
   unfold Bt.bt;rw [List.getD_eq_getElem?_getD,List.getElem?_eq_none (by omega)];simp
  rw [ez];go_enter Tryz.func58,Tryz.ntmps58
  go_wp2_with fail
  go_ret
  exact ⟨rfl,rfl⟩
 ·obtain ⟨b,o,rfl,eT,hc⟩:=hb.at_ (show 0 < n by omega)
  have hlt:i / 8 < n:=by omega
  have c0:=hc (i / 8) hlt;go_enter Tryz.func58,Tryz.ntmps58
  go_wp2_with fail
  go_ret
  have hx : bs[i / 8]'(by omega) = bs.getD (i / 8) 0 := by rw [List.getD_eq_getElem?_getD, List.getElem?_eq_getElem (by omega)]; rfl
  have key : bits .and .i64 (wrap64 ((bs[i / 8]'(by omega)).toNat : Int) / 2 ^ (i % 8)) 1 = (Bt.bt bs i : Int) := by
   unfold Bt.bt;rw [<- hx];exact E8 _ _ (UInt8.toNat_lt _)
  exact ⟨congrArg (fun z=>Ending.returned (.int .i64 z)) key,rfl⟩
end Nn
end Go.Proofs.YtijegngfclkdaaaGreatDoor
