/-
  Piece 33 of the proof.
  Conditions: none.
-/
import Derived.Deep.DeepCutAuto
import Derived.Deep.CutBlock
import Derived.Test.YtijegngfclkdaaaGreatDoorQ32
set_option linter.unusedVariables false
set_option linter.unusedSimpArgs false
set_option maxHeartbeats 100000000
set_option maxRecDepth 100000
namespace Go.Proofs.YtijegngfclkdaaaGreatDoor
namespace Nn
open Go.RowKit Go.Sort Go
def c3 (a b c:Value):Array Value:=#[a,b,c]
def dV (a:Nat) (cs:Array Value) (b:Nat) (ds:Array Value) (v:World):Prop:=iV a cs v/\iV b ds v
theorem iV.aP {w:World} {g:Nat} {t:TypeId} {cs:Array Value} (h:ao w g t cs):iV g cs w:=fun i _ hu=>(h.cell i).trans hu
section
variable {s s':cu} {w w':World} {ah:Nat->Cp} {g k b:Nat} {l:List aD.En}
theorem dV.of {t:TypeId} {cs:Array Value} (h:Nd s w ah) (hb:ao w b t cs):dV s.gn (aG s) b cs w:=⟨iV.of h,iV.aP hb⟩
def Rd (s:cu) (vs:List Dc.Vl) (w:World) (ah:Nat->Cp) (e:Ending) (w':World):Prop:=e=.returned (.tuple #[])/\∃ an,Nd { s with D:=Dc.bJ s.D vs } w' an/\Kp w ah w' an/\Kc .dy w ah w' an
theorem ry (h:Nd s w ah) {A:Option Addr} {n c:Nat} {vs:List Dc.Vl} (hf:jU w (fun q=>ah q≠.dy) A n c vs) (hs:∀ v∈vs,v.data.length<=1000000):Calls Tryz.prog 219 #[.pointer (some ⟨s.gn,0,none⟩),.slice A n c] w (Rd s vs w ah):=by
 have V4:=hf.UZ;have hn:=V4.lt;have hfl:=V4.len;have HFF:=zq hf;have HFS:=zq (fun k (hk:k < vs.length)=>show (vs.getD k H_).data.length<=1000000 from hs _ (by rw [List.getD_eq_getElem?_getD,List.getElem?_eq_getElem hk]; exact List.getElem_mem hk));have V5:=zq hfl;have R0:Hid (∃ an,Nd { s with D:=Dc.bJ s.D (vs.take 0) } w an/\Kp w ah w an/\Kc .dy w ah w an):=zq ⟨ah,h,Kp.refl _ _,Kc.refl _ _ _⟩;clear h hf V4 hs hfl;go_enter Tryz.func219,Tryz.ntmps219
 go_wp2_with fail
 go_loopw [8] (fun v wr=>∃ k:Nat,k<=n/\v=.int .i64 k/\Hid (∃ an,Nd { s with D:=Dc.bJ s.D (vs.take k) } wr an/\Kp w ah wr an/\Kc .dy w ah wr an)) (fun v _=>n - (intOf v).toNat)
 case atStart=>exact ⟨0,by omega,rfl,R0⟩
 case round =>
  obtain ⟨k,hk,rfl,HR⟩:=hrel;clear R0
  by_cases hlt:k < n
  ·have tk:decide ((k:Int) < (n:Int))=true:=decide_eq_true (by omega)
   obtain ⟨bN,N1,K1,Q1⟩:=HR.out;have hq:=HFF.out.mv Q1.mv fun b _ hn e=>hn e
   obtain ⟨b,o,A1,n1,c1,rfl,eT,q0,q1,q2,hr⟩:=hq.UZ.at_ hlt;have hdl:=HFS.out k (by rw [V5.out]; exact hlt);have hst:Hid (Dc.bJ s.D (vs.take (k + 1))=Dc.bK (Dc.bJ s.D (vs.take k)) (vs.getD k H_).index (vs.getD k H_).sub (vs.getD k H_).data):=zq (Dc.xb s.D vs (by rw [V5.out]; exact hlt));have hrl:=hr.len;clear hq HR;generalize vs.getD k H_=v at *;obtain ⟨ix,sb,dat⟩:=v;dsimp only at q0 q1 hr hdl hrl hst;have b2:=ae wr (.cells #[.int .i64 ix,.int .i64 sb,.slice A1 n1 c1] 34);have B2:=ao.new wr 34 #[.int .i64 ix,.int .i64 sb,.slice A1 n1 c1];have N2:=N1.below b2 .ext;have K2:=K1.trans (Kp.below b2 .ext);have Q2:=Q1.trans (Kc.below (i:=.dy) (j:=.ext) b2);have hr2:=(hr.below b2).below (Below.refl _ _).drew;have bx:=ay (ah:=bN) (i:=.ext) (show wr.heap.size<=wr.heap.size/\wr.heap.size < (wr.alloc (.cells #[.int .i64 ix,.int .i64 sb,.slice A1 n1 c1] 34)).heap.size from ⟨Nat.le_refl _,B2.lt⟩);obtain ⟨w2,hw2⟩:∃ x,wr.alloc (.cells #[.int .i64 ix,.int .i64 sb,.slice A1 n1 c1] 34)=x:=⟨_,rfl⟩;rw [hw2] at b2 B2 N2 K2 Q2 hr2 bx;generalize aL bN wr.heap.size w2.heap.size .ext=bA at *;have N3:=N2.drew;have S3:=zq (show dV s.gn (aG s) wr.heap.size (c3 (.int .i64 ix) (.int .i64 sb) (.slice A1 n1 c1)) w2.drew from (by have q:=dV.of N3 (B2.later (Below.refl _ w2).drew); exact q));have Ld:∀ x:Wc (dV s.gn (aG s) wr.heap.size (c3 (.int .i64 ix) (.int .i64 sb) (.slice A1 n1 c1))),x.val.cell? ⟨s.gn,15,none⟩=some (.pointer (some ⟨s.gd,0,none⟩)):=fun x=>x.ok.1 15 _ rfl
   have y0:∀ x:Wc (dV s.gn (aG s) wr.heap.size (c3 (.int .i64 ix) (.int .i64 sb) (.slice A1 n1 c1))),x.val.cell? ⟨wr.heap.size,0,none⟩=some (.int .i64 ix):=fun x=>x.ok.2 0 _ rfl
   have y1:∀ x:Wc (dV s.gn (aG s) wr.heap.size (c3 (.int .i64 ix) (.int .i64 sb) (.slice A1 n1 c1))),x.val.cell? ⟨wr.heap.size,1,none⟩=some (.int .i64 sb):=fun x=>x.ok.2 1 _ rfl
   have y2:∀ x:Wc (dV s.gn (aG s) wr.heap.size (c3 (.int .i64 ix) (.int .i64 sb) (.slice A1 n1 c1))),x.val.cell? ⟨wr.heap.size,2,none⟩=some (.slice A1 n1 c1):=fun x=>x.ok.2 2 _ rfl
   have PK:=N3.EZ ix sb hr2 (show wr.heap.size<=w2.drew.heap.size from b2.size) (by omega);dsimp only at PK;replace PK:=zq PK;have H3:=zq4 K2.drew Q2.drew (B2.later (Below.refl _ w2).drew) bx;clear N1 K1 Q1 N2 K2 Q2 N3 hr hr2 B2 b2 bx hdl hrl;go_wp2_with fail
   haveI cg:Nonempty (Wc (dV s.gn (aG s) wr.heap.size (c3 (.int .i64 ix) (.int .i64 sb) (.slice A1 n1 c1)))):=⟨⟨_,S3.out⟩⟩;refine aW 99 (dV s.gn (aG s) wr.heap.size (c3 (.int .i64 ix) (.int .i64 sb) (.slice A1 n1 c1))) (by kernel_rfl) ?_;refine aw (by kernel_rfl) 1 S3.out [0,4,6,8,1,5,7,9,2,3] rfl (by kernel_rfl) ?_;simp only [aj,nth]
   repeat (go_big_quiet_step (fail))
   refine wpQuiet_nil ?_;refine ag 10 0 rfl (by kernel_rfl) (by decide) ?_;simp only [nth];go_wp2_with fail
   refine (PK.out).mono ?_;rintro e w4 ⟨rfl,fF,N4,K4,Q4⟩;have B4:=H3.out.2.2.1.mv Q4.mv (fun e=>by have q:=H3.out.2.2.2; rw [show bA wr.heap.size=.dy from e] at q; cases q);have S4:=zq (show dV s.gn (aG s) wr.heap.size (c3 (.int .i64 ix) (.int .i64 sb) (.slice A1 n1 c1)) w4 from (by have q:=dV.of N4 B4; exact q));have R4:Hid (∃ an,Nd { s with D:=Dc.bJ s.D (vs.take (k + 1)) } w4 an/\Kp w ah w4 an/\Kc .dy w ah w4 an):=zq ⟨fF,by rw [hst.out]; exact N4,H3.out.1.trans K4,H3.out.2.1.trans Q4⟩;clear N4 K4 Q4 B4 PK H3;go_wp2_with fail
   refine az S4.out ?_;refine au (by kernel_rfl) ?_;go_wp2_with fail
   go_roundw
   case rel=>exact ⟨k + 1,by omega,by first | rfl | rw [hw] | go_num,R4⟩
   case measure=>(try rw [hw]); simp [intOf]; omega
  ·obtain rfl:k=n:=by omega
   go_wp2_with fail
   go_end0
   obtain ⟨bN,N1,K1,Q1⟩:=HR.out;rw [List.take_of_length_le (by rw [V5.out]; exact Nat.le_refl _)] at N1;exact ⟨rfl,bN,N1,K1,Q1⟩
end
section
variable {s s':cu} {w w':World} {ah:Nat->Cp} {g k b:Nat} {l:List aD.En}
def tc (s:cu) (w:World) (ah:Nat->Cp) (e:Ending) (w':World):Prop:=∃ A n c fs an,e=.returned (.slice A n c)/\iZ w' (fun q=>an q≠.dn) A n c fs/\Nd s w' an/\Kp w ah w' an
theorem tc.none_ (h:Nd s w ah):tc s w ah (.returned (.slice none 0 0)) w:=⟨none,0,0,[],ah,rfl,iZ.none_ _ _,h,Kp.refl _ _⟩
theorem NL {base n c:Nat} {A:Option Addr} {fs:List Can.Fr} (h:OS (W5 w base) w base 37 3 A n c fs):iZ w (fun q=>base<=q) A n c fs:=by
 obtain ⟨xs,h1,h2⟩:=h;refine ⟨xs,h1.zC fun k hk=>(h1.lt k hk).1,h2.imp fun f cs k=>?_⟩;obtain ⟨A,n,c,e,o⟩:=k;exact ⟨A,n,c,e,o.Lx fun k hk=>(o.lt k hk).1⟩
theorem xq (h:Nd s w ah) (hg:s.go k=some g) {v:Nat} {t aV ev:Int} {ws:List Nat} {Aw:Option Addr} {cw:Nat} {st:Tp.St} {fs:List Can.Fr} {e:Ending} (h2:∀ x∈ws,x < 4294967296) (h4:ah g=.out k) (h5:∀ j,(Value.slice Aw ws.length cw).ownBlock=some j->ah j=.out k) (ho:Tp.Ok t aV ev st) (hs:rA fs 0 g s.gd v t aV ev ws Aw cw st w e w'):tc s w ah e w':=by
 obtain ⟨A,c,rfl,o,hm,h6⟩:=hs;have hm':Mv (fun q=>ah q=.out k) w w':=hm.mono fun b _ e=>by rw [show b=g from e]; exact h4
 refine ⟨A,_,c,fs,_,rfl,(NL o).mono fun q hq e=>?_,h.L0 hg hm' ⟨v,t,aV,ev,ws,Aw,cw,st,h6,h2,ho,.inl h4,fun j hj=>.inl (h5 j hj)⟩,Kp.step hm' (by intro e; cases e) _⟩;rw [ay ⟨e,hq⟩];intro e;cases e
theorem Nd.DZ (h:Nd s w ah) (h4:ah g=.out k):∀ q,ah q=.dy->q≠g:=fun q hq e=>by
 rw [e,h4] at hq;cases hq
theorem wS (h:Nd s w ah) (hd:∀ e∈s.D.l,e.dflt.length<=1000000) (hv:∀ v∈s.D.v,v.length<=1000000) (k:Nat):Calls Tryz.prog 218 #[pt (s.go k)] w (tc s w ah):=by
 cases hg:s.go k with
 | none =>
  refine (yl w).mono ?_;rintro e w' ⟨rfl,rfl⟩;exact tc.none_ h
 | some g =>
  obtain ⟨v,t,aV,ev,ws,Aw,cw,st,h1,h2,h3,h4,h5⟩:=h.HU hg;obtain ⟨gv,lc,vc,la,vA,xs,vs,hr⟩:=h.dy;exact (wT h1 h3.count hr (h.DZ h4) hd hv h2).mono fun e w' hs=>xq h hg h2 h4 h5 (xf h3.Qx) hs
theorem AZ (h:Nd s w ah) (hd:∀ e∈s.D.l,e.dflt.length<=1000000) (hv:∀ v∈s.D.v,v.length<=1000000) (k:Nat):Calls Tryz.prog 166 #[pt (s.go k)] w (tc s w ah):=by
 cases hg:s.go k with
 | none =>
  refine (Dg w).mono ?_;rintro e w' ⟨rfl,rfl⟩;exact tc.none_ h
 | some g =>
  obtain ⟨v,t,aV,ev,ws,Aw,cw,st,h1,h2,h3,h4,h5⟩:=h.HU hg;obtain ⟨gv,lc,vc,la,vA,xs,vs,hr⟩:=h.dy;exact (CH h1 h3.hold h3.left hr (h.DZ h4) hd hv h2).mono fun e w' hs=>xq h hg h2 h4 h5 (xf h3.tick) hs
theorem Cj (h:Nd s w ah) (hd:∀ e∈s.D.l,e.dflt.length<=1000000) (hv:∀ v∈s.D.v,v.length<=1000000) (k:Nat):Calls Tryz.prog 169 #[pt (s.go k)] w (tc s w ah):=by
 cases hg:s.go k with
 | none =>
  refine (s6 w).mono ?_;rintro e w' ⟨rfl,rfl⟩;exact tc.none_ h
 | some g =>
  obtain ⟨v,t,aV,ev,ws,Aw,cw,st,h1,h2,h3,h4,h5⟩:=h.HU hg;obtain ⟨gv,lc,vc,la,vA,xs,vs,hr⟩:=h.dy;exact (uX h1 hr (h.DZ h4) hd hv h2).mono fun e w' hs=>xq h hg h2 h4 h5 (xf h3.Va) hs
theorem Ip (h:Nd s w ah) (k:Nat) (i j:Int):Calls Tryz.prog 168 #[pt (s.go k),.int .i64 i,.int .i64 j] w fun e w'=>(∃ b:Bool,e=.returned (.bool b))/\w=w':=by
 cases hg:s.go k with
 | none =>
  refine (F9 _ _ w).mono ?_;rintro e w' ⟨rfl,rfl⟩;exact ⟨⟨_,rfl⟩,rfl⟩
 | some g =>
  obtain ⟨v,t,aV,ev,ws,Aw,cw,st,h1,h2,_⟩:=h.HU hg;refine (FE h1 h2 i j).mono ?_;rintro e w' ⟨rfl,rfl⟩;exact ⟨⟨_,rfl⟩,rfl⟩
def Mh (s:cu) (w:World) (ah:Nat->Cp) (id:Int) (e:Ending) (w':World):Prop:=∃ (n:Int) (is wr:Bool) (an:Nat->Cp),e=.returned (.tuple #[.int .i64 n,.bool is,.bool wr])/\(id≠s.pid->is=false/\wr=false)/\Nd s w' an/\Kp w ah w' an
theorem Ny (h:Nd s w ah) {id:Int} {e:Ending} (hs:kh s.pid s.gp (fun q=>ah q=.tv) id w e w'):Mh s w ah id e w':=by
 obtain ⟨n,is,wr,rfl,h1,h2,h3⟩:=hs;have hm':Mv (fun q=>ah q=.tv) w w':=h2.mono fun b _ e=>by
  have q:(opt s.gp (mY s.pid)).P w (fun q=>ah q=.tv):=h .tv;rw [show s.gp=some b from e.symm] at q;exact q.1
 exact ⟨n,is,wr,_,rfl,fun hne=>h1 (.inr hne),h.part .tv hm' ((opt s.gp (mY s.pid)).mono _ _ _ h3 fun _ _ e=>.inl e),Kp.step hm' (by intro e; cases e) _⟩
theorem xt (h:Nd s w ah) (id:Int) (r:Bool) {A:Option Addr} {n c B:Nat} {bs:List UInt8} (hr:RB w B A n c bs) (hB:B<=w.heap.size):Calls Tryz.prog 217 #[pt s.gp,.agg #[.int .i64 id,.bool r,.slice A n c]] w (Mh s w ah id):=by
 have q:(opt s.gp (mY s.pid)).P w (fun q=>ah q=.tv):=h .tv;have key:Calls Tryz.prog 217 #[pt s.gp,.agg #[.int .i64 id,.bool r,.slice A n c]] w (kh s.pid s.gp (fun q=>ah q=.tv) id w):=by
  cases hg:s.gp with
  | none=>exact Ct s.pid _ id r A n c w
  | some g =>
   rw [hg] at q
   by_cases hno:s.pid=0\/id≠s.pid\/r=true
   ·exact Im q id r A n c hno
   ·have h1:s.pid≠0:=fun e=>hno (.inl e)
    have h2:id=s.pid:=Classical.not_not.1 fun e=>hno (.inr (.inl e))
    have h3:r=false:=by
     cases r with
     | false=>rfl
     | true=>exact absurd (.inr (.inr rfl)) hno
    subst h3;rw [h2];exact Eo q h1 hr hB
 exact key.mono fun e w' hs=>Ny h hs
end
section
variable {s s':cu} {w w':World} {ah:Nat->Cp} {g k b:Nat} {l:List aD.En}
def Y6 (s:cu) (w:World) (ah:Nat->Cp) (w':World):Prop:=∃ act D an,Nd { s with act:=act,D:=D } w' an/\Kp w ah w' an/\R0 s.D D
theorem Al.Rv {S S':Cp->Rs} {i:Cp} (h:Al S w ah) (hm:Mv (fun q=>ah q=i) w w') (hr:∀ j,j≠i->S' j=S j) (hn:(S' i).P w' (fun q=>ah q=i/\q < w.heap.size)) (j:Cp):Al S' w' (aL ah w.heap.size w'.heap.size j):=by
 intro k
 by_cases hk:k=i
 ·subst hk
  exact (S' k).mono _ _ _ hn fun b _ e=>(bT e.2).trans e.1
 ·rw [hr k hk]
  have h1:=(S k).mono w _ (fun q=>ah q=k/\q < w.heap.size) (h k) fun b hb e=>⟨e,hb⟩
  exact (S k).mono w' _ _ ((S k).mv w w' _ _ h1 hm fun b _ hb e=>hk (hb.1.symm.trans e)) fun b _ hb=>(bT hb.2).trans hb.1
theorem Nd.El (h:Nd s w ah) (i j:Cp) (hm:Mv (fun q=>ah q=i) w w') (hp:(s.rs i).P w' (fun q=>ah q=i/\q < w.heap.size)):Nd s w' (aL ah w.heap.size w'.heap.size j):=Al.Rv h hm (fun _ _=>rfl) hp j
def Lo (w:World) (F:Nat->Prop) (A:Option Addr) (n c:Nat):Prop:=∃ ys,ij w F 2 A n c ys/\Rows Og 2 (List.replicate n ()) ys
theorem Kp.Hf {an:Nat->Cp} (h:Kp w ah w' an) {A:Option Addr} {n c:Nat} (hf:Lo w (fun q=>ah q=.ext) A n c):Lo w' (fun q=>an q=.ext) A n c:=by
 obtain ⟨ys,h1,h2⟩:=hf;exact ⟨ys,((h1.mono (G:=fun q=>ah q=.ext/\q < w.heap.size) fun b hb e=>⟨e,hb⟩).mv h.mv fun b _ e hn=>hn e.1).mono fun b _ e=>h.ext b e.2 e.1,h2⟩
theorem Lo.at_ {F:Nat->Prop} {A:Option Addr} {n c:Nat} (h:Lo w F A n c) {k:Nat} (hk:k < n):∃ b o x y,A=some ⟨b,o,none⟩/\b < w.heap.size/\w.cell? ⟨b,o + k * 2,none⟩=some (.int .i64 x)/\w.cell? ⟨b,o + k * 2 + 1,none⟩=some (.int .i64 y):=by
 obtain ⟨ys,h1,h2⟩:=h;obtain ⟨b,o,cs,hA,hb,⟨x,y,rfl⟩,hc⟩:=RS.at_ (R:=Og) ⟨ys,h1.rv,h2⟩ (by decide) (show (List.replicate n ())[k]?=some () by rw [List.getElem?_replicate,if_pos hk]);exact ⟨b,o,x,y,hA,hb,hc 0 _ (by decide) rfl,hc 1 _ (by decide) rfl⟩
theorem Lo.lt {F:Nat->Prop} {A:Option Addr} {n c:Nat} (h:Lo w F A n c):n<=9223372036854775807:=by
 obtain ⟨ys,h1,h2⟩:=h;exact RS.lt (R:=Og) ⟨ys,h1.rv,h2⟩
def UE (s:cu) (w:World) (ah:Nat->Cp) (k:Nat) (wr:World):Prop:=∃ act D an,Nd { s with act:=act,D:=D } wr an/\Kp w ah wr an/\R0 s.D D/\(k=0->act=s.act/\D=s.D)
theorem AX (h:Nd s w ah) {gq ge:Nat} (hq:s.gq=some gq) (he:s.ge=some ge) (hg:s.gh=some g) (hs:tu s.st) (hd:∀ e∈s.D.l,e.dflt.length<=1000000) (id:Int) (r:Bool) {A:Option Addr} {n c B:Nat} {bs:List UInt8} (hr:RB w B A n c bs) (hB:B<=w.heap.size):Calls Tryz.prog 159 #[.pointer (some ⟨s.gn,0,none⟩),.agg #[.int .i64 id,.bool r,.slice A n c]] w fun e w'=>e=.returned (.tuple #[])/\Y6 s w ah w'/\(id < 1792->∃ an,Nd s w' an/\Kp w ah w' an):=by
 have b0:=ae w (.cells #[.int .i64 id,.bool r,.slice A n c] 37);have B0:=ao.new w 37 #[.int .i64 id,.bool r,.slice A n c];have N0:=h.below b0 .ext;have K0:=Kp.below (ah:=ah) b0 .ext;have bx:=ay (ah:=ah) (i:=.ext) (show w.heap.size<=w.heap.size/\w.heap.size < (w.alloc (.cells #[.int .i64 id,.bool r,.slice A n c] 37)).heap.size from ⟨Nat.le_refl _,B0.lt⟩);have hr0:=(hr.below (b0.mono hB)).below ((Below.refl _ (w.alloc (.cells #[.int .i64 id,.bool r,.slice A n c] 37))).drew.mono (Nat.le_trans hB b0.size));obtain ⟨w0,hw0⟩:∃ x,w.alloc (.cells #[.int .i64 id,.bool r,.slice A n c] 37)=x:=⟨_,rfl⟩;rw [hw0] at b0 B0 N0 K0 bx hr0;generalize aL ah w.heap.size w0.heap.size .ext=eO at *;have N1:=N0.drew;have B1:=B0.later (Below.refl _ w0).drew;have S1:=zq (show dV s.gn (aG s) w.heap.size (c3 (.int .i64 id) (.bool r) (.slice A n c)) w0.drew from (by have q:=dV.of N1 B1; exact q));have z2:∀ x:Wc (dV s.gn (aG s) w.heap.size (c3 (.int .i64 id) (.bool r) (.slice A n c))),x.val.cell? ⟨s.gn,2,none⟩=some (.pointer (some ⟨g,0,none⟩)):=fun x=>x.ok.1 2 _ (by show some (pt s.gh)=_; rw [hg]; rfl)
 have y0:∀ x:Wc (dV s.gn (aG s) w.heap.size (c3 (.int .i64 id) (.bool r) (.slice A n c))),x.val.cell? ⟨w.heap.size,0,none⟩=some (.int .i64 id):=fun x=>x.ok.2 0 _ rfl
 have y1:∀ x:Wc (dV s.gn (aG s) w.heap.size (c3 (.int .i64 id) (.bool r) (.slice A n c))),x.val.cell? ⟨w.heap.size,1,none⟩=some (.bool r):=fun x=>x.ok.2 1 _ rfl
 have y2:∀ x:Wc (dV s.gn (aG s) w.heap.size (c3 (.int .i64 id) (.bool r) (.slice A n c))),x.val.cell? ⟨w.heap.size,2,none⟩=some (.slice A n c):=fun x=>x.ok.2 2 _ rfl
 have HR:=zq (v_ (kx.mono (N1.dx hg) (G:=fun q=>eO q=.dx/\q < w0.drew.heap.size) fun b hb e=>⟨e,hb⟩) id r hr0 (Nat.le_trans hB b0.size));have HN:=zq5 N1 K0.drew hg B1 bx;have HQ:=zq4 hq he hs hd;clear h hq he hg hs hd hr hB b0 B0 N0 K0 bx hr0 N1 B1;go_enter Tryz.func159,Tryz.ntmps159
 go_wp2_with fail
 haveI cg:Nonempty (Wc (dV s.gn (aG s) w.heap.size (c3 (.int .i64 id) (.bool r) (.slice A n c)))):=⟨⟨_,S1.out⟩⟩;refine aW 99 (dV s.gn (aG s) w.heap.size (c3 (.int .i64 id) (.bool r) (.slice A n c))) (by kernel_rfl) ?_;refine aw (by kernel_rfl) 2 S1.out [0,5,8,1,2,3,4] rfl (by kernel_rfl) ?_;simp only [aj,nth]
 repeat (go_big_quiet_step (fail))
 refine wpQuiet_nil ?_;refine ag 6 1 rfl (by kernel_rfl) (by decide) ?_;simp only [nth];go_wp2_with fail
 refine (HR.out).mono ?_;rintro e w2 ⟨A2,n2,c2,ys,rfl,ov,Tc,n8,hz,m2,h2⟩;have Mu:Mv (fun q=>eO q=.dx) w0.drew w2:=m2.mono fun b _ e=>e.1
 have N2:=HN.out.1.El .dx .ext Mu (by
  show (opt s.gh yi).P _ _;rw [HN.out.2.2.1];exact h2)
 have K2:=HN.out.2.1.trans (Kp.step Mu (by intro e; cases e) .ext);have B2:=HN.out.2.2.2.1.mv Mu (fun e=>by have q:=HN.out.2.2.2.2; rw [show eO w.heap.size=.dx from e] at q; cases q);have S2:=zq (show dV s.gn (aG s) w.heap.size (c3 (.int .i64 id) (.bool r) (.slice A n c)) w2 from (by have q:=dV.of N2 B2; exact q));have nw:Lo w2 (fun q=>aL eO w0.drew.heap.size w2.heap.size .ext q=.ext) A2 n2 c2:=⟨ys,(ov.zC fun k hk=>(ov.lt k hk).1).mono fun q hq e=>ay ⟨e,hq⟩,Tc⟩;generalize aL eO w0.drew.heap.size w2.heap.size .ext=bA at *;have hlt2:=nw.lt;have R2:Hid (UE s w2 bA 0 w2):=zq ⟨s.act,s.D,bA,N2,Kp.refl _ _,R0.refl _,fun _=>⟨rfl,rfl⟩⟩;have H2:=zq3 K2 nw hz;clear N2 K2 B2 nw hz m2 Mu h2 ov Tc HR HN;go_wp2_with fail
 refine az S2.out ?_;refine aw (by kernel_rfl) 0 S2.out [7] rfl (by kernel_rfl) ?_;simp only [aj,nth]
 repeat (go_big_quiet_step (fail))
 refine wpQuiet_nil ?_;refine au (by kernel_rfl) ?_;go_wp2_with fail
 clear z2 y0 y1 y2 S1 S2;go_loopw [14] (fun v wr=>∃ k:Nat,k<=n2/\v=.int .i64 k/\Hid (UE s w2 bA k wr)) (fun v _=>n2 - (intOf v).toNat)
 case atStart=>exact ⟨0,by omega,rfl,R2⟩
 case round =>
  obtain ⟨k,hk,rfl,HRR⟩:=hrel;clear R2
  by_cases hlt:k < n2
  ·have tk:decide ((k:Int) < (n2:Int))=true:=decide_eq_true (by omega)
   obtain ⟨act,D,dm,N3,K3,r3,_⟩:=HRR.out;obtain ⟨b,o,x,y,rfl,hb,c0,c1⟩:=(K3.Hf H2.out.2.1).at_ hlt;have b4:=ae wr (.cells #[.int .i64 x,.int .i64 y] 243);have B4:=(ao.new wr 243 #[.int .i64 x,.int .i64 y]).two;have N4:=N3.below b4 .ext;have K4:=K3.trans (Kp.below b4 .ext);have CL:=f_ N4 (gq:=gq) (g:=ge) HQ.out.1 HQ.out.2.1 HQ.out.2.2.1 (by dsimp only; rw [r3.l]; exact HQ.out.2.2.2) 33072 y;dsimp only at CL;replace CL:=zq CL;have H4:=zq2 K4 r3;clear N3 K3 N4 K4 r3 b4 HRR;go_wp2_with fail
   refine (CL.out).mono ?_;rintro e w5 ⟨rfl,Dt,D5,fv,_,N5,K5,r5⟩;dsimp only at N5 r5;have R5:Hid (UE s w2 bA (k + 1) w5):=zq ⟨Dt,D5,fv,N5,H4.out.1.trans K5,H4.out.2.trans r5,fun h=>absurd h (by omega)⟩;clear N5 K5 r5 CL H4;go_wp2_with fail
   go_roundw
   case rel=>exact ⟨k + 1,by omega,by first | rfl | rw [hw] | go_num,R5⟩
   case measure=>(try rw [hw]); simp [intOf]; omega
  ·obtain rfl:k=n2:=by omega
   go_wp2_with fail
   go_end0
   obtain ⟨act,D,dm,N3,K3,r3,e0⟩:=HRR.out;refine ⟨rfl,⟨act,D,dm,N3,H2.out.1.trans K3,r3⟩,fun hid=>?_⟩;obtain ⟨rfl,rfl⟩:=e0 (H2.out.2.2 hid);exact ⟨dm,N3,H2.out.1.trans K3⟩
theorem JA (h:Nd s w ah) {gq gs:Nat} (hq:s.gq=some gq) (hg:s.gs=some gs) (id:Int) (r:Bool) (A:Option Addr) (n c:Nat) (hid:id≠1541):Calls Tryz.prog 160 #[.pointer (some ⟨s.gn,0,none⟩),.agg #[.int .i64 id,.bool r,.slice A n c]] w (QB s w ah):=by
 have b0:=ae w (.cells #[.int .i64 id,.bool r,.slice A n c] 37);have B0:=ao.new w 37 #[.int .i64 id,.bool r,.slice A n c];have N0:=h.below b0 .ext;have K0:=Kp.below (ah:=ah) b0 .ext;obtain ⟨w0,hw0⟩:∃ x,w.alloc (.cells #[.int .i64 id,.bool r,.slice A n c] 37)=x:=⟨_,rfl⟩;rw [hw0] at b0 B0 N0 K0;have f0:=cell_regrown B0.three.1;have f1:=cell_regrown B0.three.2.1;have f2:=cell_regrown B0.three.2.2.1;have n1:=N0.cells.qi;rw [hg] at n1;change w0.cell? ⟨s.gn,1,none⟩=some (.pointer (some ⟨gs,0,none⟩)) at n1;replace n1:=cell_regrown n1;have SR:=zq (fun (w1:World) (hb:Below w0.heap.size w0 w1)=>Fs (g:=gs) (F:=fun q=>aL (aL ah w.heap.size w0.heap.size .ext) w0.heap.size w1.heap.size .ext q=.qi) (by
  have q:=(N0.below hb .ext) .qi;change (opt s.gs uE).P _ _ at q;rw [hg] at q;exact q) id r A n c hid)
 have HN:=zq3 N0 K0 hq;have SE:=zq (fun (w1:World) (hb:Below w0.heap.size w0 w1)=>dR (HN.out.1.below hb .ext) HN.out.2.2 (iZ.none_ _ _));clear h hq hg hid b0 B0 N0 K0;go_enter Tryz.func160,Tryz.ntmps160
 go_wp2_with fail
 refine aN (by kernel_rfl) ?_;refine ai (by kernel_rfl) 9 (af _) [0,5,1,2,3,4] rfl (by kernel_rfl) ?_;simp only [aj,nth]
 repeat (go_big_quiet_step (fail))
 refine wpQuiet_nil ?_;refine ql 6 11 8 rfl (by kernel_rfl) (by decide) (by decide) ?_ ?_
 ·simp only [nth]
  go_wp2_with fail
  refine (SR.out _ (af w0)).mono ?_;rintro e w1 ⟨rfl,b1⟩;have D1:=zq ((af w0).trans b1);clear b1;go_wp2_with fail
  refine aM D1.out ?_;refine ai (by kernel_rfl) 4 D1.out [7,8,9,10] rfl (by kernel_rfl) ?_;simp only [aj,nth]
  repeat (go_big_quiet_step (fail))
  refine wpQuiet_nil ?_;refine aH 11 3 rfl (by kernel_rfl) (by decide) ?_;simp only [nth];go_wp2_with fail
  have D2:=zq (aa D1.out (ae w1 (.cells #[.int .i64 0,.int .i64 0,.slice none 0 0] 34)) lq);have B2:=zq (ao.new w1 34 #[.int .i64 0,.int .i64 0,.slice none 0 0]);refine aM D2.out ?_;refine ai (by kernel_rfl) 2 D2.out [12] rfl (by kernel_rfl) ?_;simp only [aj,nth]
  repeat (go_big_quiet_step (fail))
  refine wpQuiet_nil ?_;refine aH 13 1 rfl (by kernel_rfl) (by decide) ?_;simp only [nth];go_wp2_with fail
  refine aM D2.out ?_;refine ai (by kernel_rfl) 0 D2.out [14] rfl (by kernel_rfl) ?_;simp only [aj,nth]
  repeat (go_big_quiet_step (fail))
  refine wpQuiet_nil ?_;refine aK (by kernel_rfl) ?_;have BF:=D2;go_wp2_with fail
  refine (SE.out _ BF.out).mono ?_;rintro e w9 ⟨rfl,IM,N9,K9⟩;replace N9:=zq N9;replace K9:=zq K9;go_wp2_with fail
  go_end0
  exact ⟨rfl,IM,N9.out,(HN.out.2.1.trans (Kp.below BF.out .ext)).trans K9.out⟩
 ·simp only [nth]
  go_wp2_with fail
  have D1:=zq ((af w0).trans (ae w0.drew (.cells #[.int .i64 0,.int .i64 0,.slice none 0 0] 34)));have B1:=zq (show ao (w0.drew.alloc (.cells #[.int .i64 0,.int .i64 0,.slice none 0 0] 34)) w0.heap.size 34 #[.int .i64 0,.int .i64 0,.slice none 0 0] from ao.new w0.drew 34 #[.int .i64 0,.int .i64 0,.slice none 0 0]);refine aM D1.out ?_;refine aH 6 7 rfl (by kernel_rfl) (by decide) ?_;simp only [nth];go_wp2_with fail
  refine (SR.out _ D1.out).mono ?_;rintro e w1 ⟨rfl,b1⟩;have B2:=(B1.out.later b1).three;have D2:=zq (aa D1.out b1 lq);clear b1;go_wp2_with fail
  refine aM D2.out ?_;refine ai (by kernel_rfl) 2 D2.out [7,8,9,10,12] rfl (by kernel_rfl) ?_;simp only [aj,nth]
  repeat (go_big_quiet_step (fail))
  refine wpQuiet_nil ?_;refine aH 13 1 rfl (by kernel_rfl) (by decide) ?_;simp only [nth];go_wp2_with fail
  have BF:=zq (bM (g:=w0.heap.size) D2.out lq (.int .i64 0) (.int .i64 0) (.slice none 0 0));refine aM BF.out ?_;refine ai (by kernel_rfl) 0 BF.out [14] rfl (by kernel_rfl) ?_;simp only [aj,nth]
  repeat (go_big_quiet_step (fail))
  refine wpQuiet_nil ?_;refine aK (by kernel_rfl) ?_;go_wp2_with fail
  refine (SE.out _ BF.out).mono ?_;rintro e w9 ⟨rfl,IM,N9,K9⟩;replace N9:=zq N9;replace K9:=zq K9;go_wp2_with fail
  go_end0
  exact ⟨rfl,IM,N9.out,(HN.out.2.1.trans (Kp.below BF.out .ext)).trans K9.out⟩
end
def pa (o:Option Nat):Option Addr:=o.map fun g=>⟨g,0,none⟩
theorem NS (P:Nat->Option Addr) {k:Nat} (hk:k < 4):∀ w:World,(Instr.index 105 (.agg #[.pointer (P 0),.pointer (P 1),.pointer (P 2),.pointer (P 3)]) (.int .i64 (k:Int))).run Tryz.prog w=.ok (.pointer (P k)) w:=fun w=>by
 rcases k with _ | _ | _ | _ | k
 ·kernel_rfl
 ·kernel_rfl
 ·kernel_rfl
 ·kernel_rfl
 ·omega
theorem PX (P:Nat->Option Addr) {k:Nat} (hk:k < 4):∀ w:World,(Instr.index 103 (.agg #[.pointer (P 0),.pointer (P 1),.pointer (P 2),.pointer (P 3)]) (.int .i64 (k:Int))).run Tryz.prog w=.ok (.pointer (P k)) w:=fun w=>by
 rcases k with _ | _ | _ | _ | k
 ·kernel_rfl
 ·kernel_rfl
 ·kernel_rfl
 ·kernel_rfl
 ·omega
section
variable {s s':cu} {w w':World} {ah:Nat->Cp} {g k b:Nat} {l:List aD.En}
def Jk (l:List aD.En) (s:cu) (w:World) (ah:Nat->Cp) (C:Prop) (w':World):Prop:=∃ act D an,Nd { s with act:=act,D:=D } w' an/\Kp w ah w' an/\Dk l D/\(C->act=s.act/\D=s.D)
def Y1 (l:List aD.En) (s:cu) (w:World) (ah:Nat->Cp) (C:Prop) (e:Ending) (w':World):Prop:=e=.returned (.tuple #[])/\Jk l s w ah C w'
theorem Am (hl:Lk l) (h:Nd s w ah) (hr:mZ l s) (id:Int) (r:Bool) {A:Option Addr} {n c B:Nat} {bs:List UInt8} (hb:RB w B A n c bs) (hB:B<=w.heap.size):Calls Tryz.prog 161 #[.pointer (some ⟨s.gn,0,none⟩),.agg #[.int .i64 id,.bool r,.slice A n c]] w (Y1 l s w ah (id≠s.pid)):=by
 obtain ⟨gq,hq⟩:=hr.dn;obtain ⟨ge,he⟩:=hr.gD;have b0:=ae w (.cells #[.int .i64 id,.bool r,.slice A n c] 37);have B0:=ao.new w 37 #[.int .i64 id,.bool r,.slice A n c];have N0:=h.below b0 .ext;have K0:=Kp.below (ah:=ah) b0 .ext;have bx:=ay (ah:=ah) (i:=.ext) (show w.heap.size<=w.heap.size/\w.heap.size < (w.alloc (.cells #[.int .i64 id,.bool r,.slice A n c] 37)).heap.size from ⟨Nat.le_refl _,B0.lt⟩);have hr0:=(hb.below (b0.mono hB)).below ((Below.refl _ (w.alloc (.cells #[.int .i64 id,.bool r,.slice A n c] 37))).drew.mono (Nat.le_trans hB b0.size));obtain ⟨w0,hw0⟩:∃ x,w.alloc (.cells #[.int .i64 id,.bool r,.slice A n c] 37)=x:=⟨_,rfl⟩;rw [hw0] at b0 B0 N0 K0 bx hr0;generalize aL ah w.heap.size w0.heap.size .ext=eO at *;have N1:=N0.drew;have B1:=B0.later (Below.refl _ w0).drew;have S1:=zq (show dV s.gn (aG s) w.heap.size (c3 (.int .i64 id) (.bool r) (.slice A n c)) w0.drew from (by have q:=dV.of N1 B1; exact q));have z4:∀ x:Wc (dV s.gn (aG s) w.heap.size (c3 (.int .i64 id) (.bool r) (.slice A n c))),x.val.cell? ⟨s.gn,4,none⟩=some (.pointer (pa s.gp)):=fun x=>x.ok.1 4 _ rfl
 have y0:∀ x:Wc (dV s.gn (aG s) w.heap.size (c3 (.int .i64 id) (.bool r) (.slice A n c))),x.val.cell? ⟨w.heap.size,0,none⟩=some (.int .i64 id):=fun x=>x.ok.2 0 _ rfl
 have y1:∀ x:Wc (dV s.gn (aG s) w.heap.size (c3 (.int .i64 id) (.bool r) (.slice A n c))),x.val.cell? ⟨w.heap.size,1,none⟩=some (.bool r):=fun x=>x.ok.2 1 _ rfl
 have y2:∀ x:Wc (dV s.gn (aG s) w.heap.size (c3 (.int .i64 id) (.bool r) (.slice A n c))),x.val.cell? ⟨w.heap.size,2,none⟩=some (.slice A n c):=fun x=>x.ok.2 2 _ rfl
 have PR:=xt N1 id r hr0 (show B<=w0.drew.heap.size from Nat.le_trans hB b0.size);change Calls _ _ #[.pointer (pa s.gp),_] _ _ at PR;replace PR:=zq PR;have HN:=zq3 K0.drew B1 bx;have HQ:=zq4 hq he hr hl;clear h hq he hr hl hb hB b0 B0 N0 K0 bx hr0 N1 B1;go_enter Tryz.func161,Tryz.ntmps161
 go_wp2_with fail
 haveI cg:Nonempty (Wc (dV s.gn (aG s) w.heap.size (c3 (.int .i64 id) (.bool r) (.slice A n c)))):=⟨⟨_,S1.out⟩⟩;refine aW 99 (dV s.gn (aG s) w.heap.size (c3 (.int .i64 id) (.bool r) (.slice A n c))) (by kernel_rfl) ?_;refine aw (by kernel_rfl) 8 S1.out [0,5,1,2,3,4] rfl (by kernel_rfl) ?_;simp only [aj,nth]
 repeat (go_big_quiet_step (fail))
 refine wpQuiet_nil ?_;refine ag 6 7 rfl (by kernel_rfl) (by decide) ?_;simp only [nth];go_wp2_with fail
 refine (PR.out).mono ?_;rintro e w2 ⟨nn,is,wr,bA,rfl,hno,N2,K2⟩;have S2:=zq (show dV s.gn (aG s) w.heap.size (c3 (.int .i64 id) (.bool r) (.slice A n c)) w2 from (by
  have q:=dV.of N2 (HN.out.2.1.mv K2.mv fun e=>e HN.out.2.2); exact q))
 have H2:=zq3 N2 (HN.out.1.trans K2) hno;clear N2 K2 hno PR HN;go_wp2_with fail
 refine az S2.out ?_;refine aw (by kernel_rfl) 0 S2.out [7,8,9,10,11,12,13] rfl (by kernel_rfl) ?_;simp only [aj,nth]
 repeat (go_big_quiet_step (fail))
 refine wpQuiet_nil ?_;refine au (by kernel_rfl) ?_;clear z4 y0 y1 y2 S1 S2 cg;go_upto_if 22 with fail
 go_cut [5] (fun v wx=>v=.bool is/\Hid (Jk l s w ah (is=false/\wr=false) wx))
 case first =>
  cases wr
  ·have E2:Hid (Jk l s w ah (is=false/\false=false) w2):=zq ⟨s.act,s.D,bA,H2.out.1,H2.out.2.1,HQ.out.2.2.1.dk,fun _=>⟨rfl,rfl⟩⟩
   go_wp2_with fail
   go_meet
   exact ⟨rfl,E2⟩
  ·have RA:=zq (iJ H2.out.1 (gq:=gq) (g:=ge) HQ.out.1 HQ.out.2.1 HQ.out.2.2.1.st (HQ.out.2.2.1.dk.nR HQ.out.2.2.2) 33344 0 (by decide) (by decide) (by decide))
   go_wp2_with fail
   refine (RA.out).mono ?_;rintro e w3 ⟨rfl,OT,D3,dm,_,N3,K3,R3⟩;have E3:Hid (Jk l s w ah (is=false/\true=false) w3):=zq ⟨OT,D3,dm,N3,H2.out.2.1.trans K3,HQ.out.2.2.1.dk.r0 R3,fun h=>by cases h.2⟩;clear N3 K3 R3 RA;go_wp2_with fail
   go_meet
   exact ⟨rfl,E3⟩
 obtain ⟨rfl,HE⟩:=hcut;have OK:=zq H2.out.2.2;clear H2;cases is
 ·go_wp2_with fail
  (try simp only [Exit.inBlock,Exit.then])
  refine bodyPost_ret (results_none rfl _ _ _) rfl ?_;obtain ⟨act,D,an,N,K,dk,e⟩:=HE.out;exact ⟨rfl,act,D,an,N,K,dk,fun hne=>e (OK.out hne)⟩
 ·have HX:Hid (id≠s.pid->False):=zq fun hne=>by have:=(OK.out hne).1; cases this
  obtain ⟨Le,D4,fF,N4,K4,I3,_⟩:=HE.out;have CL:=f_ N4 (gq:=gq) (g:=ge) HQ.out.1 HQ.out.2.1 HQ.out.2.2.1.st (I3.nR HQ.out.2.2.2) 33344 0;dsimp only at CL;replace CL:=zq CL;have H4:=zq2 K4 I3;clear N4 K4 I3 HE OK;go_wp2_with fail
  refine (CL.out).mono ?_;rintro e w5 ⟨rfl,Dt,D5,fv,_,N5,K5,r5⟩;dsimp only at N5 r5;have SV:=dO N5 HQ.out.2.2.1.st 1 (by unfold qe; decide);obtain ⟨sv,hsv⟩:∃ b,gJ s.st 1=b:=⟨_,rfl⟩;dsimp only at SV;rw [hsv] at SV;replace SV:=zq SV;have H5:=zq3 N5 (H4.out.1.trans K5) (H4.out.2.r0 r5);clear N5 K5 r5 CL H4 hsv;go_wp2_with fail
  refine (SV.out).mono ?_;rintro e _ ⟨rfl,rfl⟩;cases sv
  ·go_wp2_with fail
   (try simp only [Exit.inBlock,Exit.then])
   refine bodyPost_ret (results_none rfl _ _ _) rfl ?_;exact ⟨rfl,Dt,D5,fv,H5.out.1,H5.out.2.1,H5.out.2.2,fun hne=>(HX.out hne).elim⟩
  ·have c0:w5.cell? ⟨s.gn,9,none⟩=some (.pointer (pa (s.go 0))):=H5.out.1.out (k:=0) (by decide)
   have c1:w5.cell? ⟨s.gn,10,none⟩=some (.pointer (pa (s.go 1))):=H5.out.1.out (k:=1) (by decide);have c2:w5.cell? ⟨s.gn,11,none⟩=some (.pointer (pa (s.go 2))):=H5.out.1.out (k:=2) (by decide);have c3':w5.cell? ⟨s.gn,12,none⟩=some (.pointer (pa (s.go 3))):=H5.out.1.out (k:=3) (by decide);have R5:Hid (Jk l s w ah False w5):=zq ⟨Dt,D5,fv,H5.out.1,H5.out.2.1,H5.out.2.2,fun h=>h.elim⟩;clear H5 SV;go_wp2_with fail
   clear c0 c1 c2 c3';go_loopw [37] (fun v wr=>∃ k:Nat,k<=4/\v=.int .i64 k/\Hid (Jk l s w ah False wr)) (fun v _=>4 - (intOf v).toNat)
   case atStart=>exact ⟨0,by omega,rfl,R5⟩
   case round =>
    obtain ⟨k,hk,rfl,HR⟩:=hrel;clear R5
    by_cases hlt:k < 4
    ·have tk:decide ((k:Int) < 4)=true:=decide_eq_true (by omega)
     have ix:∀ w:World,(Instr.index 105 (.agg #[.pointer (pa (s.go 0)),.pointer (pa (s.go 1)),.pointer (pa (s.go 2)),.pointer (pa (s.go 3))]) (.int .i64 (k:Int))).run Tryz.prog w=.ok (.pointer (pa (s.go k))) w:=NS (fun i=>pa (s.go i)) hlt;obtain ⟨jK,D6,gA,N6,K6,na,_⟩:=HR.out;have OP:=wS N6 (na.nR HQ.out.2.2.2) na.small k;change Calls _ _ #[.pointer (pa (s.go k))] _ _ at OP;replace OP:=zq OP;have H6:=zq2 K6 na;clear N6 K6 na HR;go_wp2_with fail
     refine (OP.out).mono ?_;rintro e w7 ⟨A7,n7,q7,X4,kK,rfl,IY,N7,K7⟩;have SE:=dR N7 (g:=gq) HQ.out.1 IY;dsimp only at SE;replace SE:=zq SE;have H7:=zq2 (H6.out.1.trans K7) H6.out.2;clear N7 K7 IY OP H6 ix;go_wp2_with fail
     refine (SE.out).mono ?_;rintro e w8 ⟨rfl,vM,N8,K8⟩;have R8:Hid (Jk l s w ah False w8):=zq ⟨jK,D6,vM,N8,H7.out.1.trans K8,H7.out.2,fun h=>h.elim⟩;clear N8 K8 SE H7;go_wp2_with fail
     go_roundw
     case rel=>exact ⟨k + 1,by omega,by first | rfl | rw [hw] | go_num,R8⟩
     case measure=>(try rw [hw]); simp [intOf]; omega
    ·have tk4:decide ((k:Int) < 4)=false:=decide_eq_false (by omega)
     have R9:=HR;obtain ⟨jK,D6,gA,N6,_,_,_⟩:=HR.out;have c0:wr.cell? ⟨s.gn,5,none⟩=some (.pointer (pa (s.gi 0))):=N6.cm (k:=0) (by decide);have c1:wr.cell? ⟨s.gn,6,none⟩=some (.pointer (pa (s.gi 1))):=N6.cm (k:=1) (by decide);have c2:wr.cell? ⟨s.gn,7,none⟩=some (.pointer (pa (s.gi 2))):=N6.cm (k:=2) (by decide);have c3':wr.cell? ⟨s.gn,8,none⟩=some (.pointer (pa (s.gi 3))):=N6.cm (k:=3) (by decide);clear N6 HR;go_wp2_with fail
     clear c0 c1 c2 c3';go_loopw [50] (fun v wr=>∃ k:Nat,k<=4/\v=.int .i64 k/\Hid (Jk l s w ah False wr)) (fun v _=>4 - (intOf v).toNat)
     case atStart=>exact ⟨0,by omega,rfl,R9⟩
     case round =>
      obtain ⟨k,hk,rfl,HR⟩:=hrel;clear R9
      by_cases hlt:k < 4
      ·have tk:decide ((k:Int) < 4)=true:=decide_eq_true (by omega)
       have ix:∀ w:World,(Instr.index 103 (.agg #[.pointer (pa (s.gi 0)),.pointer (pa (s.gi 1)),.pointer (pa (s.gi 2)),.pointer (pa (s.gi 3))]) (.int .i64 (k:Int))).run Tryz.prog w=.ok (.pointer (pa (s.gi k))) w:=PX (fun i=>pa (s.gi i)) hlt;obtain ⟨jK,D6,gA,N6,K6,na,_⟩:=HR.out;have OP:=pB N6 k;change Calls _ _ #[.pointer (pa (s.gi k))] _ _ at OP;replace OP:=zq OP;have H6:=zq2 K6 na;clear N6 K6 na HR;go_wp2_with fail
       refine (OP.out).mono ?_;rintro e w7 ⟨A7,n7,q7,vs7,kK,rfl,X5,hv7,N7,K7⟩;have SE:=ry N7 X5 (fun v hv=>by have:=(hv7 v hv).1; omega);dsimp only at SE;replace SE:=zq SE;have H7:=zq2 (H6.out.1.trans K7) (H6.out.2.yH vs7 fun v hv=>.inl (hv7 v hv).2);clear N7 K7 X5 hv7 OP H6 ix;go_wp2_with fail
       refine (SE.out).mono ?_;rintro e w8 ⟨rfl,vM,N8,K8,_⟩;have R8:Hid (Jk l s w ah False w8):=zq ⟨jK,_,vM,N8,H7.out.1.trans K8,H7.out.2,fun h=>h.elim⟩;clear N8 K8 SE H7;go_wp2_with fail
       go_roundw
       case rel=>exact ⟨k + 1,by omega,by first | rfl | rw [hw] | go_num,R8⟩
       case measure=>(try rw [hw]); simp [intOf]; omega
      ·obtain rfl:k=4:=by omega
       go_wp2_with fail
       go_end0
       obtain ⟨jK,D6,gA,N6,K6,na,_⟩:=HR.out;exact ⟨rfl,jK,D6,gA,N6,K6,na,fun hne=>(HX.out hne).elim⟩
end
def eH (l:List aD.En) (x:Nat×Int×List Nat) (b:List UInt8):List Dc.Vl×Int :=
 if x.2.2.length=0 then ([],0) else if (Mp.aT l x.2.2 b).2=0 then (if x.2.1<=240 then ([],0) else ((Mp.aT l x.2.2 b).1,0))
 else if (Mp.aT l x.2.2 b).2=2 then ([],33296) else if (Mp.aT l x.2.2 b).2=9 then ([],25344) else ([],0)
theorem Il (l:List aD.En) (x:Nat×Int×List Nat) (b:List UInt8):(eH l x b).2=0\/(eH l x b).2=33296\/(eH l x b).2=25344:=by
 unfold eH
 repeat' split
 all_goals simp
theorem JV (l:List aD.En) (x:Nat×Int×List Nat) (b:List UInt8):∀ v∈(eH l x b).1,v∈(Mp.aT l x.2.2 b).1:=by
 unfold eH
 repeat' split
 all_goals first | exact fun v hv=>hv | exact fun v hv=>(by cases hv)
theorem GL (l:List aD.En) (v:Nat) (t:Int) (ws:List Nat) (waits:List Dc.Vl) (b:List UInt8) (h1:aY.fl v≠0) :
  (Rp.fW l v t ws waits (aY.fl v:Int) false b).1=(eH l (v,t,ws) b).1/\(Rp.fW l v t ws waits (aY.fl v:Int) false b).2.1=(eH l (v,t,ws) b).2/\∀ x∈(Rp.fW l v t ws waits (aY.fl v:Int) false b).2.2,x∈waits\/x∈(Mp.aT l ws b).1:=by
 unfold Rp.fW eH;dsimp only
 by_cases h0:ws.length=0
 ·rw [if_pos (.inr (.inr (.inr h0))),if_pos h0]
  exact ⟨rfl,rfl,fun x hx=>.inl hx⟩
 ·rw [if_neg (by simp [h1,h0]),if_neg h0]
  by_cases h2:(Mp.aT l ws b).2=0
  ·rw [if_pos h2,if_pos h2]
   split
   ·exact ⟨rfl,rfl,fun x hx=>.inr hx⟩
   ·exact ⟨rfl,rfl,fun x hx=>.inl hx⟩
  ·rw [if_neg h2,if_neg h2]
   split
   ·exact ⟨rfl,rfl,fun x hx=>.inl hx⟩
   ·split
    ·exact ⟨rfl,rfl,fun x hx=>.inl hx⟩
    ·exact ⟨rfl,rfl,fun x hx=>.inl hx⟩
def rh (s:cu) (k:Nat):Int:=match s.gi k with
 | none=>0
 | some _=>(aY.fl (s.ic k).1:Int)
theorem u_ {l:List aD.En} {s:cu} (h:jI (jA l) s.gi s.ic 4) {k g:Nat} (hk:k < 4) (hg:s.gi k=some g):nz (jA l) k=some (s.ic k)/\∀ x∈(s.ic k).2.2,x < 4294967296:=by
 obtain ⟨h1,h2⟩:=h k hk;rw [hg] at h1;cases hc:nz (jA l) k with
 | none=>rw [hc] at h1; cases h1
 | some y =>
  have e:=h2 y hc;rw [e];refine ⟨rfl,fun x hx=>?_⟩;unfold nz at hc;split at hc
  ·cases hc
  ·rename_i v t ws hr
   split at hc
   ·injection hc with hc
    rw [<- hc] at hx;unfold Pm.bO at hr;split at hr
    ·cases hr
    ·split at hr
     ·cases hr
     ·injection hr with hr
      injection hr with _ hr
      injection hr with _ hr
      rw [<- hr] at hx;exact Pm.hU _ _ _ x hx
   ·cases hc
section
variable {s s':cu} {w w':World} {ah:Nat->Cp} {g k b:Nat} {l:List aD.En}
theorem Ky (h:Nd s w ah) (k:Nat):Calls Tryz.prog 221 #[.pointer (pa (s.gi k))] w fun e w'=>e=.returned (.int .i64 (rh s k))/\w=w':=by
 unfold rh;cases hg:s.gi k with
 | none=>exact Gw w
 | some g =>
  obtain ⟨gp,waits,Aw,cw,Av,cv,h1,h2⟩:=h.M_ hg;exact pQ h1.aP
def Ot (s:cu) (r:List Dc.Vl×Int) (w:World) (ah:Nat->Cp) (e:Ending) (w':World):Prop:=∃ A c an,e=.returned (.agg #[.slice A r.1.length c,.int .i64 r.2])/\jU w' (fun q=>an q=.ext) A r.1.length c r.1/\Nd s w' an/\Kp w ah w' an
theorem Bf (hl:Lk l) (h:Nd s w ah) (hd:s.D.l=l) (hi:jI (jA l) s.gi s.ic 4) (hk:k < 4) (hid:rh s k≠0) {A:Option Addr} {n c B:Nat} {bs:List UInt8} (hb:RB w B A n c bs) (hB:B<=w.heap.size) (hn:n<=1000000):Calls Tryz.prog 222 #[.pointer (pa (s.gi k)),.agg #[.int .i64 (rh s k),.bool false,.slice A n c]] w (Ot s (eH l (s.ic k) bs) w ah):=by
 unfold rh at hid ⊢;cases hg:s.gi k with
 | none=>rw [hg] at hid; exact absurd rfl hid
 | some g =>
  rw [hg] at hid;dsimp only at hid ⊢;obtain ⟨hin,hwl⟩:=u_ hi hk hg;obtain ⟨gp,waits,Aw,cw,Av,cv,h0,h2⟩:=h.M_ hg;have h1:mT w (fun q=>ah q=.cm k/\q < w.heap.size) g gp s.gd (s.ic k).1 (s.ic k).2.1 (s.ic k).2.2 waits Aw cw Av cv:=h0.mono fun b hb e=>⟨e,hb⟩
  obtain ⟨gv,lc,vc,la,vA,xs,vs,hr⟩:=h.dy;have V6:aY.fl (s.ic k).1≠0:=fun e=>hid (by rw [e]; rfl)
  obtain ⟨e1,e2,e3⟩:=GL l (s.ic k).1 (s.ic k).2.1 (s.ic k).2.2 waits bs V6;have key:Calls Tryz.prog 222 #[.pointer (some ⟨g,0,none⟩),.agg #[.int .i64 (aY.fl (s.ic k).1:Int),.bool false,.slice A n c]] w (JW (Rp.fW l (s.ic k).1 (s.ic k).2.1 (s.ic k).2.2 waits (aY.fl (s.ic k).1:Int) false bs) (fun q=>ah q=.cm k/\q < w.heap.size) g gp s.gd (s.ic k).1 (s.ic k).2.1 (s.ic k).2.2 w):=by
   by_cases hw:(s.ic k).2.2.length=0
   ·have hw':(s.ic k).2.2=[]:=List.eq_nil_of_length_eq_zero hw
    rw [hw'] at h1 ⊢;exact DT l h1 bs V6
   ·have:=NJ h1 hr (by rw [hd]; exact hl.nR) hwl hb hB hn V6 hw
    rwa [hd] at this
  refine key.mono fun e w' hs=>?_
  obtain ⟨A1,c1,rfl,o1,hm,X6,X7,X8,cv',h3⟩:=hs;have gc:ah g=.cm k:=h0.fg;have hm':Mv (fun q=>ah q=.cm k) w w':=hm.mono fun b _ e=>by rw [show b=g from e]; exact gc
  have hw3:∀ v∈(Rp.fW l (s.ic k).1 (s.ic k).2.1 (s.ic k).2.2 waits (aY.fl (s.ic k).1:Int) false bs).2.2,v.data.length<=32/\¬ kM v.index:=fun v hv=>by
   rcases e3 v hv with q | q
   ·exact h2 v q
   ·exact ⟨Mp.jY _ _ _ v q,jN hl v q⟩
  unfold Ot;rw [<- e1,<- e2]
  by_cases hz:(Rp.fW l (s.ic k).1 (s.ic k).2.1 (s.ic k).2.2 waits (aY.fl (s.ic k).1:Int) false bs).1=[]
  ·refine ⟨A1,c1,_,rfl,?_,h.Lv hg hm' ⟨gp,_,X6,X7,X8,cv',h3.mono fun q _ e=>e.elim (fun e=>.inl e.1) fun e=>.inr e.2.1,hw3⟩,Kp.step hm' (by intro e; cases e) _⟩
   obtain ⟨xs,q1,q2⟩:=o1;have hx:xs=[]:=List.eq_nil_of_length_eq_zero (by have:=q1.len; rw [hz] at this; simpa using this);subst hx;rw [hz] at q1 ⊢;exact ⟨[],⟨q1.len,q1.le,q1.cap,q1.nil,fun hn=>absurd hn (by decide)⟩,Rows.nil⟩
  ·refine ⟨A1,c1,_,rfl,o1.mono fun q hq e=>ay ⟨e.1,hq⟩,h.El (.cm k) .ext hm' ?_,Kp.step hm' (by intro e; cases e) _⟩
   show (opt (s.gi k) (mV s.gd (s.ic k))).P _ _;rw [hg];exact ⟨gp,_,X6,X7,X8,cv',h3.mono fun q _ e=>e.elim id fun e=>absurd e.1 hz,hw3⟩
end
end Nn
end Go.Proofs.YtijegngfclkdaaaGreatDoor
