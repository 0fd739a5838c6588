/-
  Piece 28 of the proof.
  Conditions: none.
-/
import Derived.Lib.MinMax
import Derived.Test.YtijegngfclkdaaaGreatDoorQ27
set_option linter.unusedVariables false
set_option linter.unusedSimpArgs false
set_option maxHeartbeats 100000000
set_option maxRecDepth 100000
namespace Go.Proofs.YtijegngfclkdaaaGreatDoor
namespace Nn
open Go.RowKit Go.Sort Go Go.Shelf
attribute [local go_sem] Oper.semAt_some
theorem sJ {F:Fence} {N:Nat} {P:Program} {T E size bytes:Nat} {z:Value} (ht:ET P T E size bytes z) {w:World} {ops:Array Oper} {rest:List Oper} {o:Oper} {a:Act} {Q:Exit->Act->World->Prop} (hgd:o.guard=none) (s x:Operand)
  (ho:o.op=.call { callee:=.builtin .append,args:=#[s,x],argTypes:=#[T,T] })
  {A:Option Addr} {n c:Nat} (hs:a.eval s=.slice A n c) {A':Option Addr} {m c':Nat} (hx:a.eval x=.slice A' m c')
  (base:Nat) {xs:List Value} (hown:OV w base E size A n c xs) {B:Nat} {news:List Value} (hr:RV w B size A' m c' news) (h1:∀ u∈news,u.oneCell'=true)
  (hbytes:(n + m) * bytes<=140737488355328) (h63:n + m<=9223372036854775807) (hbase:base<=w.heap.size)
  (h:∀ A1 c1 w1,OV w1 base E size A1 (n + m) c1 (xs ++ news)->w.grownBy w1 (Value.slice A n c).ownBlock->wpListIn F N P ops Q rest (a.put o.dst (.slice A1 (n + m) c1)) w1) :
  wpListIn F N P ops Q (o :: rest) a w:=by
 refine wpListIn_plain hgd fun K hK=>?_
 obtain ⟨A1,c1,w1,hrun,h2,h3,h4⟩:=zG ht o.type w base hown hr h1 hbytes h63 hbase;unfold Oper.wpIn;refine ⟨?_,?_⟩
 ·simp [Oper.about,ho,resolve,Target.leads,Sem.run_pure]
 ·rw [Oper.semAt_plain F _ _ (by rw [ho]; intro c hc'; cases hc')]
  simp [execOp,ho,resolve,invoke,builtin,hs,hx,hrun,Result.andThen];exact hK _ _ (h _ _ _ h2 h3)
theorem told {W w5:World} {B bn m n c c5:Nat} {A A5:Option Addr} {ys:List Value} {x z:Int} (h1:ao W bn 239 #[.slice A n c]) (h2:OV W B 243 2 A n c ys) (h3:Rows Og 2 (List.replicate n ()) ys) (h4:n<=m) (hB:bn < B) (hBW:B<=W.heap.size)
  (o5:OV w5 B 243 2 A5 (n + 1) c5 (ys ++ [.int .i64 x,.int .i64 z])) (g5:(W.alloc (.cells #[.int .i64 x,.int .i64 z] 243)).grownBy w5 (Value.slice A n c).ownBlock) :
  k_ (w5.setCell ⟨bn,0,none⟩ (.slice A5 (n + 1) c5)) B bn (m + 1)/\Mv (fun q=>q=bn\/B<=q) W (w5.setCell ⟨bn,0,none⟩ (.slice A5 (n + 1) c5))/\KeepsOthers W (w5.setCell ⟨bn,0,none⟩ (.slice A5 (n + 1) c5)):=by
 have b1:=ae W (.cells #[.int .i64 x,.int .i64 z] 243);have K1:=h1.later b1;have o1:=h2.below b1;have VJ:=KeepsOthers.alloc W (.cells #[.int .i64 x,.int .i64 z] 243);have b5:=bQ g5 o1.lt (Nat.le_trans hBW b1.size);have K5:=K1.below b5 hB;have VK:KeepsOthers (W.alloc (.cells #[.int .i64 x,.int .i64 z] 243)) w5:=KeepsOthers.of_grownBy g5 fun j o hj ho=>by
  rcases o1.2 with ⟨hv,_⟩ | ⟨g,cap,cur,hv,_,hh,_⟩
  ·rw [hv] at hj; cases hj
  ·rw [hv] at hj
   have:g=j:=by simpa [Value.ownBlock] using hj
   subst this;rw [hh] at ho;injection ho with ho
   rw [<- ho]; rfl
 have S:=Mv.setCell w5 ⟨bn,0,none⟩ (.slice A5 (n + 1) c5);have M5:Mv (fun q=>q=bn\/B<=q) W w5:=(Mv.aq b1 _).trans (Mv.kZ b5) fun b _ hb=>.inr hb
 refine ⟨⟨A5,n + 1,c5,ys ++ [.int .i64 x,.int .i64 z],K5.aJ 0 _,o5.uj S fun k hk e=>by have:=(o5.lt k hk).1; have e':k=bn:=e; omega,?_,by omega⟩,M5.trans S fun b _ e=>.inl e,(VJ.trans VK).trans (KeepsOthers.setCell _ _ _)⟩;rw [List.replicate_succ'];exact h3.append (Rows.one ⟨x,z,rfl⟩ rfl)
section
variable {w:World} {F:Nat->Prop} {g:Nat}
theorem v_ (h:kx w F g) (id:Int) (r:Bool) {A:Option Addr} {n c B:Nat} {l:List UInt8} (hr:RB w B A n c l) (hB:B<=w.heap.size):Calls Tryz.prog 213 #[.pointer (some ⟨g,0,none⟩),.agg #[.int .i64 id,.bool r,.slice A n c]] w fun e w'=>∃ (A2:Option Addr) (n2 c2:Nat) (ys:List Value),e=.returned (.slice A2 n2 c2)/\OV w' w.heap.size 243 2 A2 n2 c2 ys/\Rows Og 2 (List.replicate n2 ()) ys/\n2<=8/\(id < 1792->n2=0)/\Mv F w w'/\kx w' F g:=by
 have b0:=ae w (.cells #[.int .i64 id,.bool r,.slice A n c] 37);have HE:=Aj id r _ (hr.below (b0.mono hB)) (Nat.le_trans hB b0.size);have K:=ao.new w 37 #[.int .i64 id,.bool r,.slice A n c];have F0:=K.three;refine (callsIn_wide (n:=6)).1 ?_;refine callsIn_of_wp_marks Tryz.func213 rfl trivial ?_ rfl;simp only [Tryz.ntmps213,List.size_toArray,List.length_cons,List.length_nil,Nat.reduceAdd,Nat.reduceSub,Array.replicate_succ,Array.replicate_zero,List.push_toArray,List.append_toArray,List.nil_append,List.cons_append]
 gi_wp2
 refine ⟨trivial,?_⟩;refine (callsIn_wide.2 HE).mono ?_;rintro e w1 ⟨i,s,ok,rfl,hok,b1⟩;have d1:=aa b0 b1 lq;cases ok
 ·gi_wp2
  have d2:=aa (aa d1 (ae w1 (.cells #[.int .i64 i] 3)) lq) (ae (w1.alloc (.cells #[.int .i64 i] 3)) (.cells #[.int .i64 s] 3)) lq;exact ⟨_,results_tmp rfl _ _ _,none,0,0,[],rfl,OV.none_ _ _ _ _,Rows.nil,by decide,fun _=>rfl,Mv.aq d2 _,h.below d2⟩
 ·have hid:=hok rfl
  clear hok
  gi_wp2
  refine ⟨trivial,?_⟩;refine (callsIn_wide.2 (uN g _)).mono ?_;rintro e w4 ⟨rfl,hw4⟩;have i0:=ao.new w1 3 #[.int .i64 i];have c1:=ae (w1.alloc (.cells #[.int .i64 i] 3)) (.cells #[.int .i64 s] 3);have i1:=ao.new (w1.alloc (.cells #[.int .i64 i] 3)) 3 #[.int .i64 s];have c2:=ae ((w1.alloc (.cells #[.int .i64 i] 3)).alloc (.cells #[.int .i64 s] 3)) (.cells #[.slice none 0 0] 239);have i2:=ao.new ((w1.alloc (.cells #[.int .i64 i] 3)).alloc (.cells #[.int .i64 s] 3)) 239 #[.slice none 0 0];have c3:=ae (((w1.alloc (.cells #[.int .i64 i] 3)).alloc (.cells #[.int .i64 s] 3)).alloc (.cells #[.slice none 0 0] 239)) (.cells #[.pointer (some ⟨g,0,none⟩)] 99);have i3:=ao.new (((w1.alloc (.cells #[.int .i64 i] 3)).alloc (.cells #[.int .i64 s] 3)).alloc (.cells #[.slice none 0 0] 239)) 99 #[.pointer (some ⟨g,0,none⟩)];replace i0:=((i0.later c1).later c2).later c3;replace i1:=(i1.later c2).later c3;replace i2:=i2.later c3;have b4:=aa (aa (aa (aa d1 (ae w1 (.cells #[.int .i64 i] 3)) lq) c1 lq) c2 lq) c3 lq;have s4:w4.heap.size=w1.heap.size + 4:=by rw [hw4]; simp only [World.size_alloc]
  rw [<- hw4] at i0 i1 i2 i3 b4;simp only [World.size_alloc] at i1 i2 i3 hw4 ⊢;clear hw4 c1 c2 c3;have s1:=d1.size;obtain ⟨PB,ev,le,A3,n3,c3,xs,k,k2,k3,k4,k5⟩:=h;have k1:=k.later b4;have o1:=k2.below b4;have lg:=k.lt;have ow:∀ j,(Value.slice A3 n3 c3).ownBlock=some j->j < w.heap.size/\j≠g/\F j:=fun j hj=>⟨(k2.lt j hj).2,(k4 j hj).2,(k4 j hj).1⟩
  have hq:∃ q,(∀ j,(Value.slice A3 n3 c3).ownBlock=some j->j=q)/\(n3=0\/A3=some ⟨q,0,none⟩):=by
   rcases k2.2 with ⟨hv,_⟩ | ⟨q',cap,cur,hv,_,_,_⟩
   ·injection hv with e1 e2 e3
    subst e1 e2 e3;exact ⟨0,fun j hj=>(by cases hj),.inl rfl⟩
   ·injection hv with e1 e2 e3
    subst e1 e3;exact ⟨q',fun j hj=>by injection hj with hj; exact hj.symm,.inr rfl⟩
  obtain ⟨q,hq1,hq2⟩:=hq;obtain ⟨L,hL⟩:∃ L:List (Nat×TypeId×Array Value),L=[(w1.heap.size,3,#[.int .i64 i]),(w1.heap.size + 1,3,#[.int .i64 s])]:=⟨_,rfl⟩;have Lc:∀ p∈L,w1.heap.size<=p.1/\p.1 < w1.heap.size + 2:=by
   rw [hL]; intro p hp;simp only [List.mem_cons,List.not_mem_nil,or_false] at hp;rcases hp with rfl | rfl <;> exact ⟨by dsimp only; omega,by dsimp only; omega⟩
  have I0:pT w4 g (w1.heap.size + 1 + 1) L ev le A3 n3 c3 0 w4 :=
   ⟨k1,⟨xs,o1,k3⟩,⟨none,0,0,[],i2,OV.none_ _ _ _ _,Rows.nil,Nat.le_refl _⟩,fun p hp=>(by
    rw [hL] at hp;simp only [List.mem_cons,List.not_mem_nil,or_false] at hp;rcases hp with rfl | rfl
    ·exact i0
    ·exact i1),Mv.refl _ _⟩
  have m0:(w1.heap.size,3,#[Value.int .i64 i])∈L:=by rw [hL]; exact List.mem_cons_self ..
  have m1:(w1.heap.size + 1,3,#[Value.int .i64 s])∈L:=by rw [hL]; exact List.mem_cons_of_mem _ (List.mem_cons_self ..)
  clear hL;have PS:=fun m hm=>mO (n₀:=w4.heap.size) (bx:=w1.heap.size + 1 + 1 + 1) (Q:=fun b=>(Value.slice A3 n3 c3).ownBlock=some b\/b=w1.heap.size + 1 + 1) (F:=fun _=>True) m hm k1 o1 hq1 ⟨by omega,fun e=>by rcases e with e | e; have:=ow _ e; omega; omega⟩ ⟨by omega,fun e=>by rcases e with e | e; exact (ow _ e).2.1 rfl; omega⟩ lq (i3.cell 0)
  gi_wp2
  refine wpIn_rangeFunc_ownF rfl (by decide) (gf:=275) (lb:=#[.pointer (some ⟨w1.heap.size + 1 + 1 + 1,0,none⟩)]) rfl trivial (enters_of Tryz.func275 (by kernel_rfl) rfl) (PS _ (by decide)) (fun h k=>h.trans k) (Mc lq) (Below.refl _ _) (fun _=>rfl)
   (fun pre W=>pre.length<=n3/\pT w4 g (w1.heap.size + 1 + 1) L ev le A3 n3 c3 pre.length W) (fun _ _ _=>False) (fun s A B row hs hg hr=>⟨hs.1,hs.2.own hg hr⟩) (fun _ _ _ _ _ hs _ _=>hs) ⟨Nat.zero_le _,I0⟩ ?a1 ?assign ?body ?done ?stop
  case assign =>
   intro l x W K hK
   gi_wp2
   exact hK
  case stop =>
   rintro D c pre W _ _ h _;exact h.elim
  case done =>
   rintro D ys W hD _ ⟨hpl,hs⟩ hK;obtain ⟨A2,n2,c2,zs,N1,N2,N3,N4⟩:=hs.nw;have F1:=N1.one
   gi_wp2
   have hF:=hs.own (grownBy_putObj' W D (.deferred none)) (fun r e=>by cases e; exact ⟨hD,_,hK,rfl⟩);refine ⟨by simp,.inl ⟨_,_,rfl,run_takeDeferred hK,?_⟩⟩;obtain ⟨xs',p1,p2⟩:=hF.pr;have e2:=OV.cs N2 (GM (grownBy_putObj' W D (.deferred none)) (fun r e=>by cases e; exact ⟨_,hK,rfl⟩));have kk:=fun j hj=>(k4 j hj).1
   have M5:=(Mv.aq b4 F).trans hF.mv (fun b hb hG=>hG.elim (fun h=>(kk b h)) (fun h=>by omega));exact ⟨_,results_tmp rfl _ _ _,_,_,_,_,rfl,e2.more (by omega),N3,by omega,fun h=>by omega,M5,⟨PB,ev,le,A3,n3,c3,xs',hF.hk,p1,p2,fun j hj=>⟨kk j hj,(ow j hj).2.1⟩,k5⟩⟩
  case body =>
   rintro l pre y W ⟨_,hs⟩ hlt;have hmx:Tryz.prog.follows .mixedOrders=true:=by kernel_rfl
   rcases hq2 with rfl | rfl
   ·omega
   obtain ⟨x0,x1,t,x3,x4,e0,e1,e2,e3,e4⟩:=hs.pr.at_ y.2;have fz:=hs.pr.free;have hln:(pre ++ [y]).length=pre.length + 1:=by rw [List.length_append]; rfl
   have yx:(pre ++ [y]).length<=n3:=by omega
   have oq:=ow q rfl;have f0:=(hs.cl _ m0).cell 0;have f1:=(hs.cl _ m1).cell 0;have fh:=hs.hk.four;dsimp only at f0 f1;have hsz:=hs.mv.size;obtain ⟨S,hS⟩:∃ S:World->Prop,∀ x,S x↔(x.cell? ⟨w1.heap.size,0,none⟩=some (.int .i64 i)/\x.cell? ⟨w1.heap.size + 1,0,none⟩=some (.int .i64 s)/\x.cell? ⟨q,y.1 * 5,none⟩=some (.int .i64 x0)/\x.cell? ⟨q,y.1 * 5 + 1,none⟩=some (.int .i64 x1)):=⟨_,fun _=>Iff.rfl⟩;have sS:S W.drew:=(hS _).2 ⟨f0,f1,e0,e1⟩;haveI:Nonempty (Wc S):=⟨⟨_,sS⟩⟩;have v0:=fun v:Wc S=>((hS _).1 v.ok).1
   have v1:=fun v:Wc S=>((hS _).1 v.ok).2.1
   have v2:=fun v:Wc S=>((hS _).1 v.ok).2.2.1
   have v3:=fun v:Wc S=>((hS _).1 v.ok).2.2.2
   have HS:=zq hS;have eA:∀ (X:World) (j:Nat) (u:Value),2<=j->S X->S (X.setCell ⟨q,y.1 * 5 + j,none⟩ u):=fun X j u hj hX=>by
    obtain ⟨h1,h2,h3,h4⟩:=(hS _).1 hX;exact (hS _).2 ⟨(World.cell?_setCell_other _ _ _ _ (fun e=>by have e1:=congrArg Addr.block e; have e2:=congrArg Addr.off e; (try dsimp only at e1 e2); omega)).trans h1,(World.cell?_setCell_other _ _ _ _ (fun e=>by have e1:=congrArg Addr.block e; have e2:=congrArg Addr.off e; (try dsimp only at e1 e2); omega)).trans h2,(World.cell?_setCell_other _ _ _ _ (fun e=>by have e1:=congrArg Addr.block e; have e2:=congrArg Addr.off e; (try dsimp only at e1 e2); omega)).trans h3,(World.cell?_setCell_other _ _ _ _ (fun e=>by have e1:=congrArg Addr.block e; have e2:=congrArg Addr.off e; (try dsimp only at e1 e2); omega)).trans h4⟩
   have hSd:∀ X:World,S X->S X.drew:=fun X h=>(hS X.drew).2 ((hS X).1 h)
   have hSm:∀ Y:World,Mv (fun b=>b=w1.heap.size + 1 + 1\/w4.heap.size<=b) W.drew Y->S Y:=fun Y hm=>by
    have hz:W.drew.heap.size=W.heap.size:=rfl;obtain ⟨h1,h2,h3,h4⟩:=(hS _).1 sS;exact (hS _).2 ⟨(World.cell?_of_block (hm.block w1.heap.size (by omega) (by omega))).trans h1,(World.cell?_of_block (hm.block (w1.heap.size + 1) (by omega) (by omega))).trans h2,(World.cell?_of_block (hm.block q (by omega) (by omega))).trans h3,(World.cell?_of_block (hm.block q (by omega) (by omega))).trans h4⟩
   clear hS
   by_cases hi:x0=i
   ·subst hi
    have t0:(x0 != x0)=false:=by simp
    cases t
    ·obtain ⟨A2,n2,c2,ys,N1,N2,N3,N4⟩:=hs.nw
     have F1:=N1.one;have XQ:ao W.drew (w1.heap.size + 1 + 1) 239 #[.slice A2 n2 c2]:=N1;have XR:OV W.drew w4.heap.size 243 2 A2 n2 c2 ys:=N2;have hWs:w4.heap.size<=W.drew.heap.size:=hsz;have b6:=ae W.drew (.cells #[.int .i64 1,.int .i64 x0] 243);have K6:=XQ.later b6;have o6:=XR.below b6;have F6:=K6.one;have hnew:=(OV.new (base:=W.drew.heap.size) (e:=243) (size:=2) W.drew [.int .i64 1,.int .i64 x0] 1 rfl (by decide) lq).rv;change RV (W.drew.alloc (.cells #[.int .i64 1,.int .i64 x0] 243)) _ _ _ _ _ _ at hnew
     gi_wp2
     refine jf 99 S (by kernel_rfl) (by kernel_rfl) ?_;refine aw (by kernel_rfl) 0 sS [0,4,1,2,3,5] rfl (by kernel_rfl) ?_;simp only [aj,nth]
     repeat (go_big_quiet_step (fail))
     refine wpQuiet_nil ?_;refine au (by kernel_rfl) ⟨rfl,?_⟩
     gi_wp2_with (gi_at_builtin; refine sJ QH rfl (.tmp 32) (.tmp 35) rfl rfl rfl w4.heap.size o6 hnew (lj _ _) (by omega) (by omega) (Nat.le_trans hWs b6.size) ?_; intro A5 c5 w5 o5 g5; have b5:=bQ g5 o6.lt (Nat.le_trans hWs b6.size); have K5:=K6.below b5 (by omega); have F5:=K5.one)
     have TD:=told XQ XR N3 N4 (by omega) hWs o5 g5;obtain ⟨X,hX⟩:∃ X,w5.setCell ⟨w1.heap.size + 1 + 1,0,none⟩ (.slice A5 (n2 + 1) c5)=X:=⟨_,rfl⟩;rw [hX] at TD ⊢;clear hX F5 K5;obtain ⟨T1,T2,T3⟩:=TD;have hsd:pT w4 g (w1.heap.size + 1 + 1) L ev le (some ⟨q,0,none⟩) n3 c3 pre.length W.drew:=⟨hs.hk,hs.pr,hs.nw,hs.cl,hs.mv.drew⟩;have hs7:=hsd.tell T1 T2 (by omega) (by omega) (fun k hk=>by have:=ow k hk; omega) (fun p hp=>by have:=Lc p hp; omega);obtain ⟨ya,yb,yt,yc,yd,ee0,ee1,ee2,ee3,ee4⟩:=hs7.pr.at_ y.2;have Q1:=hs7.put y.2 (j:=2) (.bool true) (.inl ⟨rfl,_,rfl⟩) (fun e=>oq.2.1 e.symm) (by omega) (by omega) (fun p hp=>by have:=Lc p hp; omega);have Q2:=Q1.put y.2 (j:=3) (.int .i64 s) (.inr ⟨.inl rfl,_,rfl⟩) (fun e=>oq.2.1 e.symm) (by omega) (by omega) (fun p hp=>by have:=Lc p hp; omega);have zq:=hs7.pr.free;have zq1:=Q1.pr.free;have zq2:=Q2.pr.free;clear Q1 Q2;have SS:S X.drew:=hSd _ (hSm _ T2);have hs2:pT w4 g (w1.heap.size + 1 + 1) L ev le (some ⟨q,0,none⟩) n3 c3 (pre.length + 1) X.drew:=⟨hs7.hk,hs7.pr,hs7.nw,hs7.cl,hs7.mv.drew⟩;have TU:w4.heap.size<=X.drew.heap.size:=hs7.mv.size;have kb:KeepsOthers W X.drew:=((KeepsOthers.drew W).trans T3).trans (KeepsOthers.drew _);have kq:mR w4.heap.size (fun b=>(Value.slice (some ⟨q,0,none⟩) n3 c3).ownBlock=some b\/b=w1.heap.size + 1 + 1) W.drew X.drew:=mR.qW T2.drew hWs (fun b hb e=>Or.inr (by omega));have kk:mR w4.heap.size (fun b=>(Value.slice (some ⟨q,0,none⟩) n3 c3).ownBlock=some b\/b=w1.heap.size + 1 + 1) W X.drew:=⟨kq.size,kq.block⟩;have P1:=hs2.put y.2 (j:=2) (.bool true) (.inl ⟨rfl,_,rfl⟩) (fun e=>oq.2.1 e.symm) (by omega) (by omega) (fun p hp=>by have:=Lc p hp; omega);have P2:=P1.put y.2 (j:=3) (.int .i64 s) (.inr ⟨.inl rfl,_,rfl⟩) (fun e=>oq.2.1 e.symm) (by omega) (by omega) (fun p hp=>by have:=Lc p hp; omega);have P3:=P2.put y.2 (j:=4) (.int .i64 x1) (.inr ⟨.inr rfl,_,rfl⟩) (fun e=>oq.2.1 e.symm) (by omega) (by omega) (fun p hp=>by have:=Lc p hp; omega);have MM:=((Mv.setCell (X.drew) ⟨q,y.1 * 5 + 2,none⟩ (.bool true)).trans (Mv.setCell _ ⟨q,y.1 * 5 + 3,none⟩ (.int .i64 s)) (fun b _ e=>e)).trans (Mv.setCell _ ⟨q,y.1 * 5 + 4,none⟩ (.int .i64 x1)) (fun b _ e=>e);have z00:=hs2.pr.free;have z0:=P1.pr.free;have z1:=P2.pr.free;refine jf 99 S (by kernel_rfl) (by kernel_rfl) ?_;refine aw (by kernel_rfl) 7 SS [0,1,2,3,4,5,6,7,8,9] rfl (by kernel_rfl) ?_;simp only [aj,nth]
     repeat (go_big_quiet_step (fail))
     refine wpQuiet_nil ?_;refine ag 10 6 rfl (by kernel_rfl) (by decide) ?_;simp only [nth];go_wp2_with fail
     refine az (eA _ 2 _ (by decide) SS) ?_;refine aw (by kernel_rfl) 4 (eA _ 2 _ (by decide) SS) [11,12] rfl (by kernel_rfl) ?_;simp only [aj,nth]
     repeat (go_big_quiet_step (fail))
     refine wpQuiet_nil ?_;refine ag 13 3 rfl (by kernel_rfl) (by decide) ?_;simp only [nth];go_wp2_with fail
     refine az (eA _ 3 _ (by decide) (eA _ 2 _ (by decide) SS)) ?_;refine aw (by kernel_rfl) 1 (eA _ 3 _ (by decide) (eA _ 2 _ (by decide) SS)) [14,15] rfl (by kernel_rfl) ?_;simp only [aj,nth]
     repeat (go_big_quiet_step (fail))
     refine wpQuiet_nil ?_;refine ag 16 0 rfl (by kernel_rfl) (by decide) ?_;simp only [nth];go_wp2_with fail
     refine az (eA _ 4 _ (by decide) (eA _ 3 _ (by decide) (eA _ 2 _ (by decide) SS))) ?_;refine au (by kernel_rfl) ⟨rfl,?_⟩
     gi_wp2
     exact ⟨kb.trans (((KeepsOthers.setCell _ _ _).trans (KeepsOthers.setCell _ _ _)).trans (KeepsOthers.setCell _ _ _)),kk.trans (mR.qW MM TU (fun b _ e=>.inl (by rw [show b=q from e]; rfl))),yx,P3.more (by omega)⟩
    ·gi_wp2
     refine jf 99 S (by kernel_rfl) (by kernel_rfl) ?_;refine aw (by kernel_rfl) 0 sS [0,4,1,2,3,5] rfl (by kernel_rfl) ?_;simp only [aj,nth]
     repeat (go_big_quiet_step (fail))
     refine wpQuiet_nil ?_;refine au (by kernel_rfl) ⟨rfl,?_⟩
     gi_wp2
     have SS:S W.drew.drew:=hSd _ sS;have hs2:pT w4 g (w1.heap.size + 1 + 1) L ev le (some ⟨q,0,none⟩) n3 c3 pre.length W.drew.drew:=⟨hs.hk,hs.pr,hs.nw,hs.cl,hs.mv.drew.drew⟩;have TU:w4.heap.size<=W.drew.drew.heap.size:=hsz;have kb:KeepsOthers W W.drew.drew:=(KeepsOthers.drew W).trans (KeepsOthers.drew _);have kk:mR w4.heap.size (fun b=>(Value.slice (some ⟨q,0,none⟩) n3 c3).ownBlock=some b\/b=w1.heap.size + 1 + 1) W W.drew.drew:=⟨Nat.le_refl _,fun _ _ _=>rfl⟩;have P1:=hs2.put y.2 (j:=2) (.bool true) (.inl ⟨rfl,_,rfl⟩) (fun e=>oq.2.1 e.symm) (by omega) (by omega) (fun p hp=>by have:=Lc p hp; omega);have P2:=P1.put y.2 (j:=3) (.int .i64 s) (.inr ⟨.inl rfl,_,rfl⟩) (fun e=>oq.2.1 e.symm) (by omega) (by omega) (fun p hp=>by have:=Lc p hp; omega);have P3:=P2.put y.2 (j:=4) (.int .i64 x1) (.inr ⟨.inr rfl,_,rfl⟩) (fun e=>oq.2.1 e.symm) (by omega) (by omega) (fun p hp=>by have:=Lc p hp; omega);have MM:=((Mv.setCell (W.drew.drew) ⟨q,y.1 * 5 + 2,none⟩ (.bool true)).trans (Mv.setCell _ ⟨q,y.1 * 5 + 3,none⟩ (.int .i64 s)) (fun b _ e=>e)).trans (Mv.setCell _ ⟨q,y.1 * 5 + 4,none⟩ (.int .i64 x1)) (fun b _ e=>e);have z00:=hs2.pr.free;have z0:=P1.pr.free;have z1:=P2.pr.free;refine jf 99 S (by kernel_rfl) (by kernel_rfl) ?_;refine aw (by kernel_rfl) 7 SS [0,1,2,3,4,5,6,7,8,9] rfl (by kernel_rfl) ?_;simp only [aj,nth]
     repeat (go_big_quiet_step (fail))
     refine wpQuiet_nil ?_;refine ag 10 6 rfl (by kernel_rfl) (by decide) ?_;simp only [nth];go_wp2_with fail
     refine az (eA _ 2 _ (by decide) SS) ?_;refine aw (by kernel_rfl) 4 (eA _ 2 _ (by decide) SS) [11,12] rfl (by kernel_rfl) ?_;simp only [aj,nth]
     repeat (go_big_quiet_step (fail))
     refine wpQuiet_nil ?_;refine ag 13 3 rfl (by kernel_rfl) (by decide) ?_;simp only [nth];go_wp2_with fail
     refine az (eA _ 3 _ (by decide) (eA _ 2 _ (by decide) SS)) ?_;refine aw (by kernel_rfl) 1 (eA _ 3 _ (by decide) (eA _ 2 _ (by decide) SS)) [14,15] rfl (by kernel_rfl) ?_;simp only [aj,nth]
     repeat (go_big_quiet_step (fail))
     refine wpQuiet_nil ?_;refine ag 16 0 rfl (by kernel_rfl) (by decide) ?_;simp only [nth];go_wp2_with fail
     refine az (eA _ 4 _ (by decide) (eA _ 3 _ (by decide) (eA _ 2 _ (by decide) SS))) ?_;refine au (by kernel_rfl) ⟨rfl,?_⟩
     gi_wp2
     exact ⟨kb.trans (((KeepsOthers.setCell _ _ _).trans (KeepsOthers.setCell _ _ _)).trans (KeepsOthers.setCell _ _ _)),kk.trans (mR.qW MM TU (fun b _ e=>.inl (by rw [show b=q from e]; rfl))),yx,P3.more (by omega)⟩
   ·have t0:(x0 != i)=true:=by simpa using hi
    gi_wp2
    refine jf 99 S (by kernel_rfl) (by kernel_rfl) ?_;refine aw (by kernel_rfl) 0 sS [0,4,1,2,3,5] rfl (by kernel_rfl) ?_;simp only [aj,nth]
    repeat (go_big_quiet_step (fail))
    refine wpQuiet_nil ?_;refine au (by kernel_rfl) ⟨rfl,?_⟩
    gi_wp2
    exact ⟨(KeepsOthers.refl W).trans (KeepsOthers.drew _),mR.qW (Mv.refl (fun _=>False) W).drew (by omega) (fun _ _ h=>h.elim),yx,(⟨hs.hk,hs.pr,hs.nw,hs.cl,hs.mv.drew⟩:pT w4 g (w1.heap.size + 1 + 1) L ev le (some ⟨q,0,none⟩) n3 c3 pre.length W.drew).more (by omega)⟩
end
end Nn
namespace Nn
open Go.RowKit Go.Sort Go
theorem Ka:ET Tryz.prog 166 170 2 16 (.agg #[.int .i64 0,.int .i64 0]):=⟨Tryz.underlying166,info_parts (by kernel_rfl),rfl,by decide⟩
def Ck (g:Nat) (F:Nat->Prop) (w:World) (C:List (Int×Int)->Prop) (e:Ending) (w':World):Prop:=∃ act',C act'/\LX w e w'/\Mv F w w'/\lD w' (fun q=>F q\/(w.heap.size<=q/\q < w'.heap.size)) g act'
section
variable {w:World} {F:Nat->Prop} {g:Nat} {act:List (Int×Int)}
theorem lD.lt (h:lD w F g act):g < w.heap.size:=by
 obtain ⟨Aa,ca,Ah,nh,ch,xs,hs,h1,_⟩:=h.ex;exact h1.lt
theorem lD.below {w':World} (h:lD w F g act) (hb:Below w.heap.size w w'):lD w' F g act:=h.mv (Mv.aq hb fun _=>False) fun _ _ _ h=>h
theorem Ck.same {C:List (Int×Int)->Prop} {w':World} (h:lD w F g act) (hb:Below w.heap.size w w') (hc:C act):Ck g F w C (.returned (.slice none 0 0)) w' :=
 ⟨act,hc,LX.none_ _ _,Mv.aq hb _,(h.below hb).mono fun _ _ h=>.inl h⟩
theorem pW (x y:Int):∀ u∈([.int .i64 x,.int .i64 y]:List Value),u.oneCell'=true:=by
 intro u hu;simp only [List.mem_cons,List.not_mem_nil,or_false] at hu;rcases hu with rfl | rfl <;> rfl
theorem qL (h:lD w F g act) (code info:Nat) (hc1:1<=code) (hc:code < 65536) (hi:info < 256):Calls Tryz.prog 147 #[.pointer (some ⟨g,0,none⟩),.int .i64 (code:Int),.int .i64 (info:Int)] w (Ck g F w fun l=>l≠[]):=by
 have BT:=zq (rS (code:Int) (by omega));have AT:=fun (w1:World) (hb:Below w.heap.size w w1)=>zI (h.below hb) (code:Int) (info:Int)
 have HAT:=zq AT;have HH:=zq h;obtain ⟨Aa,ca,Ah,nh,ch,xs,hs,h1,⟨h2,h3,h4⟩,h5,h6⟩:=id h.ex;have few:=h.few;have XN:act.length<=ca/\ca<=9223372036854775807:=⟨h2.rv.le,h2.rv.cap⟩;have t1:decide ((info:Int) < 0)=false:=decide_eq_false (by omega);have t2:decide ((255:Int) < (info:Int))=false:=decide_eq_false (by omega);have F0:=h1.three;clear h AT;have hpos:0 < act.length->act≠[]:=fun h=>List.length_pos_iff.1 h
 generalize hn:act.length=n at *;have HN:=zq2 hn hpos; clear hn hpos;have b1:=ae w (.cells #[.int .i64 (code:Int),.int .i64 (info:Int)] 170);have K1:=ao.new w 170 #[.int .i64 (code:Int),.int .i64 (info:Int)];have G1:=h1.alloc (.cells #[.int .i64 (code:Int),.int .i64 (info:Int)] 170);go_enter Tryz.func147,Tryz.ntmps147
 go_wp2_with fail
 refine (BT.out _).mono ?_;rintro e _ ⟨⟨t,rfl,ht1,ht2⟩,rfl⟩;have et:((t:Int) == 0)=false:=by rw [beq_eq_false_iff_ne]; omega
 have F1:=G1.three;have FK:=K1.two;go_wp2_with fail
 refine (HAT.out _ b1).mono ?_;rintro e w2 ⟨⟨k,hk,rfl⟩,b2⟩;have d2:=aa b1 b2 lq;have HD2:=zq d2;have G2:=G1.later b2;have K2:=K1.later b2;clear F0 F1 FK HAT BT et ht1 ht2 G1 K1
 by_cases hkn:k < n
 ·go_wp2_with fail
  go_ret
  exact Ck.same HH.out HD2.out (HN.out.2 (by omega))
 ·by_cases h64:n=64
  ·subst h64
   go_wp2_with fail
   go_ret
   exact Ck.same HH.out HD2.out (HN.out.2 (by decide))
  ·have t64:((n:Int) == 64)=false:=by rw [beq_eq_false_iff_ne]; omega
   obtain ⟨Gr,SX⟩:∃ Gr:Nat->Prop,∀ q,Gr q↔some q=(Value.slice Aa n ca).ownBlock:=⟨_,fun _=>Iff.rfl⟩;have yw:¬ Gr g:=fun e=>(h4 g ((SX g).1 e).symm).2 rfl
   have hGF:∀ q,Gr q->F q:=fun q e=>(h4 q ((SX q).1 e).symm).1
   have XS:∀ q,Gr q->q < w.heap.size:=fun q e=>h2.lt q ((SX q).1 e).symm
   have IZ:¬ Gr w.heap.size:=fun e=>by have:=XS _ e; omega
   have g1:=fun v:Wd Gr w2=>(G2.uU yw v).2.1
   have x0:=fun v:Wd Gr w2=>aC (K2.cell 0) IZ v
   have x1:=fun v:Wd Gr w2=>aC (K2.cell 1) IZ v
   have o2:=(h2.below HD2.out);have HG:=zq3 SX yw hGF;have H3:=zq h3;clear SX yw hGF IZ h1 h2 h3 h4 XS;go_wp2_with fail
   refine cF 10 Gr (by kernel_rfl) ?_;refine cy (by kernel_rfl) 5 (Mv.refl _ _).drew [0,1,5,2,3,4] rfl (by kernel_rfl) ?_;simp only [aj,nth]
   repeat (go_big_quiet_step (fail))
   refine wpQuiet_nil ?_;refine ag 6 4 rfl (by kernel_rfl) (by decide) ?_;simp only [nth];go_wp2_with fail
   have b3:Below w2.heap.size w2 (w2.alloc (.cells #[.int .i64 (code:Int),.int .i64 (info:Int)] 170)).drew:=(ae w2 (.cells #[.int .i64 (code:Int),.int .i64 (info:Int)] 170)).drew;have hnew:RV (w2.alloc (.cells #[.int .i64 (code:Int),.int .i64 (info:Int)] 170)).drew (w2.heap.size + 1) 2 (some ⟨w2.heap.size,0,none⟩) 1 1 [.int .i64 (code:Int),.int .i64 (info:Int)]:=by
    have:=(OV.new (base:=w2.heap.size) (e:=170) (size:=2) w2 [.int .i64 (code:Int),.int .i64 (info:Int)] 1 rfl (by decide) lq).rv;rw [World.size_alloc] at this;exact this.drew
   have o3:=o2.below b3;have hs3:(w2.alloc (.cells #[.int .i64 (code:Int),.int .i64 (info:Int)] 170)).drew.heap.size=w2.heap.size + 1:=World.size_alloc _ _;refine aB (Mv.aq b3 _) ?_;generalize (w2.alloc (.cells #[.int .i64 (code:Int),.int .i64 (info:Int)] 170)).drew=w3 at *;refine ag 7 3 rfl (by kernel_rfl) (by decide) ?_;simp only [nth];go_wp2_with (at_builtin; refine qa Ka rfl (.tmp 53) (.tmp 55) rfl rfl rfl o3 hnew (by decide) (pW _ _) (by omega) (by omega) (Nat.zero_le _) ?_; intro A5 c5 w5 o5 g5 s5)
   have M5:Mv Gr w2 w5:=(Mv.aq b3 _).trans (Mv.fk g5) fun b hb e=>(HG.out.1 _).2 e
   refine aB M5 ?_;refine ag 8 2 rfl (by kernel_rfl) (by decide) ?_;simp only [nth];go_wp2_with fail
   refine aB M5 ?_;refine cy (by kernel_rfl) 1 M5 [9] rfl (by kernel_rfl) ?_;simp only [aj,nth]
   repeat (go_big_quiet_step (fail))
   refine wpQuiet_nil ?_;have K5:=G2.mv M5 HG.out.2.1;have F5:=K5.three;refine bL 0 rfl (by kernel_rfl) (by decide) (by kernel_rfl) ?_;simp only [nth];go_wp2_with fail
   refine bY ?_;have K6:=K5.aJ 1 (.slice A5 (n + 1) c5);have VQ:Mv (fun q=>Gr q\/q=g) w2 (w5.setCell ⟨g,1,none⟩ (.slice A5 (n + 1) c5)):=(M5.mono fun b _ e=>.inl e).trans (Mv.setCell w5 ⟨g,1,none⟩ (.slice A5 (n + 1) c5)) fun b _ e=>.inr e
   have hgl:g < w.heap.size:=HH.out.lt;have r6:=(h5.below HD2.out).mv VQ fun b hb hf e=>by
    rcases e with e | e
    ·exact hf.2.2 ((HG.out.1 b).1 e)
    ·exact hf.2.1 e
   have hk5:∀ k,(Value.slice A5 (n + 1) c5).ownBlock=some k->k≠g/\(F k\/w.heap.size<=k):=fun k hk=>by
    rcases s5 with s5 | s5
    ·rw [s5] at hk
     have:=(HG.out.1 k).2 hk.symm;exact ⟨fun e=>HG.out.2.1 (e ▸ this),.inl (HG.out.2.2 k this)⟩
    ·obtain ⟨k',e5,hk5⟩:=s5
     rw [e5] at hk;injection hk with hk
     have:=HD2.out.size;have:=b3.size;exact ⟨by omega,.inr (by omega)⟩
   have o6:=OV.uj (G:=fun q=>q=g) o5 (Mv.setCell w5 ⟨g,1,none⟩ (.slice A5 (n + 1) c5)) fun k hk e=>(hk5 k hk).1 e
   have VR:=zq hk5;have PC:=zq3 o6 VQ hgl;clear F5 K5 M5 o5 g5 s5 b3 hs3 hk5 o6 VQ;generalize hw6:w5.setCell ⟨g,1,none⟩ (.slice A5 (n + 1) c5)=w6 at *;obtain ⟨X,hX⟩:∃ X:Obj,X=.cells #[.int .u32 (bits .or .u32 (code:Int) ((info:Int) * 65536))] 35:=⟨_,rfl⟩;have F7:=(K6.alloc X).three;have K7:=K6.alloc X;have XT:=OV.new (base:=w6.heap.size) (e:=35) (size:=1) w6 [.int .u32 (bits .or .u32 (code:Int) ((info:Int) * 65536))] 1 rfl (by decide) lq;have b7:=ae w6 X;subst hX;obtain ⟨m,hm,hm1,Ui⟩:∃ m:Nat,min (1 + (nh:Int)) 4=(m:Int)/\m<=1 + nh/\m<=4:=⟨min (1 + nh) 4,by omega,by omega,by omega⟩;go_wp2_with (at_builtin; refine b_ TE rfl (.tmp 65) (.tmp 69) rfl rfl rfl w6.heap.size XT (r6.rv.alloc lq _) (fun u hu=>by obtain ⟨_,_,rfl⟩:=List.mem_map.1 hu; rfl) (by omega) (by omega) b7.size ?_; intro A8 c8 w8 o8 g8 _; have b8:=bQ g8 XT.lt b7.size; have K8:=K7.below b8 K6.lt; have F8:=K8.three; have hcut:=tf TE A8 (1 + nh) c8 m (Nat.le_trans hm1 o8.rv.le) .i64 w8)
   have hE:lD (w8.setCell ⟨g,2,none⟩ (.slice A8 m c8)) (fun q=>F q\/w.heap.size<=q) g (act ++ [((code:Int),(info:Int))]):=by
    have hlen:(act ++ [((code:Int),(info:Int))]).length=n + 1:=by rw [List.length_append,HN.out.1]; rfl
    have hz6:w.heap.size<=w6.heap.size:=Nat.le_trans HD2.out.size PC.out.2.1.size;have S:=Mv.setCell w8 ⟨g,2,none⟩ (.slice A8 m c8);have b68:=b7.trans b8;refine ⟨.inl HH.out.fg,⟨A5,c5,A8,m,c8,xs ++ [.int .i64 (code:Int),.int .i64 (info:Int)],(bits .or .u32 (code:Int) ((info:Int) * 65536) :: hs).take m,by rw [hlen]; exact K8.aJ 2 _,⟨?_,?_,?_⟩,?_,Ui⟩,?_,?_⟩
    ·rw [hlen]
     exact .inl <| OV.uj (PC.out.1.below b68) S fun k hk e=>(VR.out k hk).1 e
    ·exact H3.out.append (Rows.one rfl rfl)
    ·rw [hlen]
     exact fun k hk=>⟨(VR.out k hk).2,(VR.out k hk).1⟩
    ·rw [hlen]
     have r8:=((o8.zC (F:=fun q=>w6.heap.size<=q) fun k hk=>(o8.lt k hk).1).take hm1 lq (Nat.le_trans hm1 o8.rv.le)).mv S fun b _ hf e=>by
      have e':b=g:=e;have hf':w6.heap.size<=b:=hf;have:=PC.out.2.2;omega
     rw [show ([Value.int .u32 (bits .or .u32 (code:Int) ((info:Int) * 65536))] ++ hs.map fun z=>Value.int .u32 z).take (m * 1)=((bits .or .u32 (code:Int) ((info:Int) * 65536) :: hs).take m).map fun z=>Value.int .u32 z by rw [Nat.mul_one,List.map_take]; rfl] at r8;refine r8.mono fun b _ hf=>?_
     have hf':w6.heap.size<=b:=hf;have hg6:=PC.out.2.2;refine ⟨.inr (by omega),by omega,fun e=>?_⟩;have:=(PC.out.1.lt b e.symm).2;omega
    ·intro x hx
     rcases List.mem_append.1 hx with hx | hx
     ·exact HH.out.ok x hx
     ·rw [List.mem_singleton.1 hx]
      exact ⟨⟨(by omega:(1:Int)<=(code:Int)),(by omega:(code:Int)<=65535)⟩,(by omega:(0:Int)<=(info:Int)),(by omega:(info:Int)<=255)⟩
    ·rw [hlen]; omega
   have M9:Mv F w (w8.setCell ⟨g,2,none⟩ (.slice A8 m c8)):=by
    have a1:Mv F w w6:=(Mv.aq HD2.out F).trans PC.out.2.1 fun b _ e=>by
     rcases e with e | e
     ·exact HG.out.2.2 b e
     ·rw [e]; exact HH.out.fg
    exact (a1.trans (Mv.aq (b7.trans b8) (fun _=>False)) fun _ _ h=>h.elim).trans (Mv.setCell w8 ⟨g,2,none⟩ (.slice A8 m c8)) fun b _ e=>by
     rw [show b=g from e]; exact HH.out.fg
   have FR:=zq (ot hE code (info:Int) hc);have HE:=zq2 hE M9;clear hE M9 F8 hcut K8 o8 g8 b8 r6 K7 F7 K6;generalize w8.setCell ⟨g,2,none⟩ (.slice A8 m c8)=w9 at *;go_wp2_with fail
   refine (FR.out).mono ?_;rintro e XU ⟨⟨VT,n10,c10,fs,rfl,rf,VU,hn1⟩,b10⟩;go_wp2_with fail
   go_ret
   refine ⟨_,by simp,⟨VT,n10,c10,fs,rfl,rf.mono fun b _ hb=>Nat.le_trans HE.out.2.size hb,VU,hn1⟩,HE.out.2.trans (Mv.aq b10 (fun _=>False)) fun _ _ h=>h.elim,((HE.out.1.below b10).mono fun b hb hf=>?_)⟩;rcases hf with hf | hf
   ·exact .inl hf
   ·exact .inr ⟨hf,hb⟩
theorem xy {fs:List (Int×Int)} {xs:List Value} (h:Rows TO 2 fs xs):∀ u∈xs,u.oneCell'=true:=by
 intro u hu;obtain ⟨j,hj,rfl⟩:=List.getElem_of_mem hu;have hl:=h.len;have hi:j / 2 < fs.length:=by omega
 have e:=h.2 (j / 2) _ (List.getElem?_eq_getElem hi);have e0:((xs.drop (j / 2 * 2)).take 2)[j % 2]?=some xs[j]:=by
  rw [List.getElem?_take,if_pos (by omega),List.getElem?_drop,show j / 2 * 2 + j % 2=j by omega,List.getElem?_eq_getElem hj]
 rw [show (xs.drop (j / 2 * 2)).take 2=[.int .i64 fs[j / 2].1,.int .i64 fs[j / 2].2] from e] at e0;rcases (show j % 2=0\/j % 2=1 by omega) with h3 | h3 <;> rw [h3] at e0 <;> simp at e0 <;> rw [<- e0] <;> rfl
theorem rk (h:lD w F g act) (code info:Int):Calls Tryz.prog 232 #[.pointer (some ⟨g,0,none⟩),.int .i64 code,.int .i64 info] w (Ck g F w fun _=>True):=by
 have AT:=zq (zI h code info);have HH:=zq h;obtain ⟨Aa,ca,Ah,nh,ch,xs,hs,h1,⟨h2,h3,h4⟩,h5,h6⟩:=id h.ex;have few:=h.few;have XN:act.length<=ca/\ca<=9223372036854775807:=⟨h2.rv.le,h2.rv.cap⟩;clear h;generalize hn:act.length=n at *;have HN:=zq hn; clear hn;go_enter Tryz.func232,Tryz.ntmps232
 go_wp2_with fail
 refine (AT.out).mono ?_;rintro e w2 ⟨⟨k,hk,rfl⟩,b2⟩;have HD2:=zq b2;have G2:=h1.later b2;have F2:=G2.three
 by_cases hkn:k=n
 ·subst hkn
  go_wp2_with fail
  go_ret
  exact Ck.same HH.out HD2.out trivial
 ·have hlt:k < n:=by omega
  have tk:((k:Int) == (n:Int))=false:=by rw [beq_eq_false_iff_ne]; omega
  have yn:=h2.zC;have hkt:=yn.take (k:=k) (c':=k) (by omega) (by omega) lq;have hkd:=yn.drop (k:=k + 1) hlt;have hlo:=h2.lt;rw [mE Aa n ca k k] at hlo hkt;have c1:=fun w=>iM Ka Aa n ca k (by omega) .i64 .i64 w
  have c2:=fun w=>fE Ka Aa n ca (k + 1) hlt .i64 w
  rw [show ((k + 1:Nat):Int)=(k:Int) + 1 by omega] at c2;have f1:=fun d os=>(G2.DW d os).2.1
  have hlk:(xs.take (k * 2)).length=k * 2:=hkt.len;have zF:(xs.drop ((k + 1) * 2)).length=(n - (k + 1)) * 2:=hkd.len;generalize (if ca=k + 1 then Aa else Aa.map (·.add ((k + 1) * 2)))=A3 at *;generalize ca - (k + 1)=c3 at *;obtain ⟨m,hm⟩:∃ m,n - (k + 1)=m:=⟨_,rfl⟩;rw [hm] at hkd c2 zF;have r1:=hkt.below HD2.out;have r2:=(hkd.below HD2.out).rv;have h1c:∀ u∈xs.drop ((k + 1) * 2),u.oneCell'=true:=fun u hu=>xy h3 u (List.mem_of_mem_drop hu)
  go_wp2_with fail
  clear F2;refine gN 18 (by kernel_rfl) ?_;refine d_ (by kernel_rfl) 4 (af _) [0,1,5,6,8,12,2,9,13,3,10,4,11,7,14] rfl (by kernel_rfl) ?_;simp only [aj,nth]
  repeat (go_big_quiet_step (fail))
  refine wpQuiet_nil ?_;refine ag 15 3 rfl (by kernel_rfl) (by decide) ?_;simp only [nth];go_wp2_with (at_builtin; refine om Ka rfl (.tmp 29) (.tmp 36) rfl rfl rfl (fun q hq=>Nat.lt_of_lt_of_le (hlo q hq) HD2.out.size) (r1.below (af w2)) r2.drew h1c (by omega) (by omega) ?_; intro A5 c5 w5 o5 b5 s5)
  have Sq:Below w2.heap.size w2 w5:=(af w2).trans b5;refine dE Sq ?_;refine ag 16 2 rfl (by kernel_rfl) (by decide) ?_;simp only [nth];go_wp2_with fail
  refine dE (Below.refl _ _) ?_;refine d_ (by kernel_rfl) 1 (Below.refl _ _) [17] rfl (by kernel_rfl) ?_;simp only [aj,nth]
  repeat (go_big_quiet_step (fail))
  refine wpQuiet_nil ?_;have K5:=G2.later Sq;have F5:=K5.three;refine bL 0 rfl (by kernel_rfl) (by decide) (by kernel_rfl) ?_;simp only [nth];go_wp2_with fail
  refine bY ?_;have d5:=aa HD2.out Sq lq;have hgl:g < w.heap.size:=HH.out.lt;have hk5:∀ q,(Value.slice A5 (k + m) c5).ownBlock=some q->q≠g/\(F q\/w.heap.size<=q)/\(some q=(Value.slice Aa n ca).ownBlock\/w.heap.size<=q):=fun q hq=>by
   rcases s5 with s5 | ⟨k',e5,hk5⟩
   ·rw [s5,mE Aa k k n ca] at hq
    exact ⟨(h4 q hq).2,.inl (h4 q hq).1,.inl hq.symm⟩
   ·rw [e5] at hq
    injection hq with hq
    have:=HD2.out.size;have aad:w2.heap.size<=k':=hk5;exact ⟨by omega,.inr (by omega),.inr (by omega)⟩
  have S:=Mv.setCell w5 ⟨g,1,none⟩ (.slice A5 (k + m) c5);have hE:lD (w5.setCell ⟨g,1,none⟩ (.slice A5 (k + m) c5)) (fun q=>F q\/w.heap.size<=q) g (act.take k ++ act.drop (k + 1)):=by
   have hlen:(act.take k ++ act.drop (k + 1)).length=k + m:=by
    have:=HN.out;simp only [List.length_append,List.length_take,List.length_drop];omega
   refine ⟨.inl HH.out.fg,⟨A5,c5,Ah,nh,ch,_,hs,by rw [hlen]; exact K5.aJ 1 _,⟨?_,(h3.take k (by rw [HN.out]; omega)).append (h3.drop (k + 1)),?_⟩,?_,h6⟩,?_,?_⟩
   ·rw [hlen]
    exact o5.uj S fun q hq e=>(hk5 q hq).1 e
   ·rw [hlen]
    exact fun q hq=>⟨(hk5 q hq).2.1,(hk5 q hq).1⟩
   ·rw [hlen]
    refine (((h5.mono (G:=fun q=>(F q/\q≠g/\some q≠(Value.slice Aa n ca).ownBlock)/\q < w.heap.size) fun b hb hf=>⟨hf,hb⟩).below d5).mv S fun b _ hf e=>hf.1.2.1 e).mono fun b _ hf=>⟨.inl hf.1.1,hf.1.2.1,fun e=>?_⟩
    rcases (hk5 b e.symm).2.2 with h | h
    ·exact hf.1.2.2 h
    ·have:=hf.2
     omega
   ·intro x hx
    rcases List.mem_append.1 hx with hx | hx
    ·exact HH.out.ok x (List.mem_of_mem_take hx)
    ·exact HH.out.ok x (List.mem_of_mem_drop hx)
   ·rw [hlen]; omega
  have M9:Mv F w (w5.setCell ⟨g,1,none⟩ (.slice A5 (k + m) c5)):=(Mv.aq d5 F).trans S fun b _ e=>by
   rw [show b=g from e]; exact HH.out.fg
  have VV:=ot hE 0 info (by decide);rw [show ((0:Nat):Int)=0 from rfl] at VV;have FR:=zq VV;have HE:=zq2 hE M9;clear hE M9 F5 K5 c1 c2 f1 VV S;generalize w5.setCell ⟨g,1,none⟩ (.slice A5 (k + m) c5)=w9 at *;go_wp2_with fail
  refine (FR.out).mono ?_;rintro e XU ⟨⟨VT,n10,c10,fs,rfl,rf,VU,hn1⟩,b10⟩;go_wp2_with fail
  go_ret
  refine ⟨_,trivial,⟨VT,n10,c10,fs,rfl,rf.mono fun b _ hb=>Nat.le_trans HE.out.2.size hb,VU,hn1⟩,HE.out.2.trans (Mv.aq b10 (fun _=>False)) fun _ _ h=>h.elim,((HE.out.1.below b10).mono fun b hb hf=>?_)⟩;rcases hf with hf | hf
  ·exact .inl hf
  ·exact .inr ⟨hf,hb⟩
end
theorem FZ (w:World):Calls Tryz.prog 94 #[.int .i64 5] w fun e w'=>∃ g,e=.returned (.tuple #[.pointer (some ⟨g,0,none⟩),.int .i64 0])/\Below w.heap.size w w'/\lD w' (fun q=>w.heap.size<=q) g []:=by
 have CI:=zq (h_ 4 (.inl rfl));go_enter Tryz.func94,Tryz.ntmps94
 go_wp2_with fail
 refine (CI.out _).mono ?_;rintro e w1 ⟨rfl,b1⟩;go_wp2_with fail
 go_ret2
 have s1:=b1.size;exact ⟨_,rfl,aa b1 (ae _ _) lq,s1,⟨none,0,none,0,0,[],[],ao.new w1 _ _,⟨.inl (OV.none_ _ _ _ _),Rows.nil,fun k hk=>by cases hk⟩,ij.none_ _ _ _,by decide⟩,fun x hx=>(by cases hx),by decide⟩
section
variable {s:cu} {w:World} {ah:Nat->Cp}
structure ND (s:cu) (w:World):Prop where
 dn:w.cell? ⟨s.gn,0,none⟩=some (pt s.gq)
 qi:w.cell? ⟨s.gn,1,none⟩=some (pt s.gs)
 dx:w.cell? ⟨s.gn,2,none⟩=some (pt s.gh)
 gD:w.cell? ⟨s.gn,3,none⟩=some (pt s.ge)
 tv:w.cell? ⟨s.gn,4,none⟩=some (pt s.gp)
 id:w.cell? ⟨s.gn,13,none⟩=some (.int .i64 5)
 fla:w.cell? ⟨s.gn,14,none⟩=some (.pointer (some ⟨s.gf,0,none⟩))
 dy:w.cell? ⟨s.gn,15,none⟩=some (.pointer (some ⟨s.gd,0,none⟩))
 pU:w.cell? ⟨s.gn,16,none⟩=some (pt s.gv)
 st:w.cell? ⟨s.gn,17,none⟩=some (.int .i64 s.st)
 on:w.cell? ⟨s.gn,18,none⟩=some (.bool s.on)
 free:∀ j,w.frozen? ⟨s.gn,j,none⟩=false
theorem Nd.cells (h:Nd s w ah):ND s w:=by
 have k:=h.node;exact ⟨k.cell 0,k.cell 1,k.cell 2,k.cell 3,k.cell 4,k.cell 13,k.cell 14,k.cell 15,k.cell 16,k.cell 17,k.cell 18,k.frozen⟩
theorem Nd.cm (h:Nd s w ah) {k:Nat} (hk:k < 4):w.cell? ⟨s.gn,5 + k,none⟩=some (pt (s.gi k)):=by
 have e:=h.node.cell (5 + k);rcases k with _ | _ | _ | _ | k
 all_goals first | exact e | omega
theorem Nd.out (h:Nd s w ah) {k:Nat} (hk:k < 4):w.cell? ⟨s.gn,9 + k,none⟩=some (pt (s.go k)):=by
 have e:=h.node.cell (9 + k);rcases k with _ | _ | _ | _ | k
 all_goals first | exact e | omega
theorem iw (h:Nd s w ah):Calls Tryz.prog 43 #[.pointer (some ⟨s.gn,0,none⟩)] w fun e w'=>e=.returned (.bool true)/\w=w':=by
 have C:=h.cells.dy;go_enter Tryz.func43,Tryz.ntmps43
 go_wp2_with fail
 go_ret
 exact ⟨rfl,rfl⟩
theorem dO (h:Nd s w ah) (hs:tu s.st) (k:Int) (hk:qe k):Calls Tryz.prog 163 #[.pointer (some ⟨s.gn,0,none⟩),.int .i64 k] w fun e w'=>e=.returned (.bool (gJ s.st k))/\w=w':=by
 have C:=h.cells.st;have SV:=zq (oL s.st k hs hk);clear hs hk;go_enter Tryz.func163,Tryz.ntmps163
 go_wp2_with fail
 refine (SV.out _).mono ?_;rintro e w1 ⟨rfl,rfl⟩;go_wp2_with fail
 go_ret
 exact ⟨rfl,rfl⟩
end
end Nn
end Go.Proofs.YtijegngfclkdaaaGreatDoor
