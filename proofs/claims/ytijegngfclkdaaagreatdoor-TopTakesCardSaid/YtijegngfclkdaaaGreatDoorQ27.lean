/-
  Piece 27 of the proof.
  Conditions: none.
-/
import Derived.RangeFuncNested
import Derived.RangeFuncBound
import Derived.RangeFuncCalls
import Derived.RangeFuncLeaves
import Derived.RangeFuncFrom
import Derived.Shelf.Abstract
import Derived.Shelf.RegionOpen
import Derived.OwnWalkIn
import Derived.TacticsInMore
import Derived.LoopNIn
import Derived.LoopIn
import Derived.Test.YtijegngfclkdaaaGreatDoorQ26
set_option linter.unusedVariables false
set_option linter.unusedSimpArgs false
set_option maxHeartbeats 100000000
set_option maxRecDepth 100000
namespace Go.Proofs.YtijegngfclkdaaaGreatDoor
namespace Nn
open Go.RowKit Go.Sort Go Go.Shelf
attribute [local go_sem] Oper.semAt_some
structure mR (n₀:Nat) (Q:Nat->Prop) (W W':World):Prop where
 size:W.heap.size<=W'.heap.size
 block:∀ b,b < n₀->¬ Q b->W'.heap[b]?=W.heap[b]?
theorem mR.refl (n₀:Nat) (Q:Nat->Prop) (W:World):mR n₀ Q W W:=⟨Nat.le_refl _,fun _ _ _=>rfl⟩
theorem mR.trans {n₀:Nat} {Q:Nat->Prop} {A B C:World} (h:mR n₀ Q A B) (k:mR n₀ Q B C):mR n₀ Q A C:=⟨Nat.le_trans h.size k.size,fun b hb hq=>(k.block b hb hq).trans (h.block b hb hq)⟩
theorem mR.cell {n₀:Nat} {Q:Nat->Prop} {W W':World} (h:mR n₀ Q W W') {p:Addr} (hb:p.block < n₀) (hq:¬ Q p.block):W'.cell? p=W.cell? p:=World.cell?_of_block (h.block _ hb hq)
theorem Mc {n₀:Nat} {Q:Nat->Prop} {w:World} (hn:n₀<=w.heap.size) (W:World) (l:Nat) (o o':Obj) (hl:w.heap.size<=l) (h:W.heap[l]?=some o) (_:o.isCells=false) (_:o.isWalk=false):mR n₀ Q W (W.putObj l o'):=by
 have hg:=grownBy_putObj' W l o';exact ⟨hg.size,fun b hb _=>hg.block b (by have:=(Array.getElem?_eq_some_iff.1 h).1; omega) (fun e=>by cases e; omega)⟩
def Pn (n:Nat):={ k:Nat // k < n }
section
variable {g q bx n₀ n c:Nat} {Q:Nat->Prop}
theorem mA (w:World) (h:w.cell? ⟨g,0,none⟩=some (.int .i64 5)):Calls Tryz.prog 274 #[.pointer (some ⟨g,0,none⟩)] w fun e w'=>e=.returned (.bool true)/\w=w':=by
 go_enter Tryz.func274,Tryz.ntmps274
 go_wp2_with fail
 go_ret
 exact ⟨rfl,rfl⟩
theorem uN (g:Nat) (w:World):Calls Tryz.prog 226 #[.pointer (some ⟨g,0,none⟩)] w fun e w'=>e=.returned (.func (.func 275) #[] #[.pointer (some ⟨w.heap.size,0,none⟩)])/\w'=w.alloc (.cells #[.pointer (some ⟨g,0,none⟩)] 99):=by
 go_enter Tryz.func226,Tryz.ntmps226
 go_wp2_with fail
 go_ret
 exact ⟨rfl,rfl⟩
theorem Gt (m:Nat) (hm:1<=m) (l:Nat) (J Jx:List (Pn n)->World->Prop)
  (hY:∀ pre x W,J pre W->pre.length < n->YieldAt Fence.wide (m - 1) Tryz.prog l #[.pointer (some ⟨q,x.1 * 5,none⟩)] W fun e W' =>
   (e=.returned (.bool true)/\J (pre ++ [x]) W'/\mR n₀ Q W W')\/(e=.returned (.bool false)/\Jx (pre ++ [x]) W'))
  (W:World) (hx:bx < n₀/\¬ Q bx) (hg:g < n₀/\¬ Q g) (hbx:W.cell? ⟨bx,0,none⟩=some (.pointer (some ⟨g,0,none⟩))) (h5:W.cell? ⟨g,0,none⟩=some (.int .i64 5)) (h3:W.cell? ⟨g,3,none⟩=some (.slice (some ⟨q,0,none⟩) n c)) (hcap:n<=c/\c<=9223372036854775807) (h0:J [] W) :
  CallsIn Fence.wide m Tryz.prog 275 #[.func (.yield l) #[] #[],.pointer (some ⟨bx,0,none⟩)] W fun e W'=>(∃ v,e=.returned v)/\((∃ ys:List (Pn n),True/\J ys W')\/(∃ pre:List (Pn n),True/\Jx pre W')):=by
 refine callsIn_of_wp Tryz.func275 rfl trivial ?_ rfl;simp only [Tryz.ntmps275,List.size_toArray,List.length_cons,List.length_nil,Nat.reduceAdd,Nat.reduceSub,Array.replicate_succ,Array.replicate_zero,List.push_toArray,List.append_toArray,List.nil_append,List.cons_append]
 gi_wp2
 refine ⟨trivial,?_⟩;refine (callsIn_wide.2 (mA _ h5)).mono ?_;rintro e w' ⟨rfl,rfl⟩
 gi_wp2
 gi_loopw [12] (fun i wr=>∃ (k:Nat) (pre:List (Pn n)),k<=n/\i=.int .i64 k/\pre.length=k/\J pre wr/\mR n₀ Q W wr) (fun i _=>n - (intOf i).toNat)
 case atStart=>exact ⟨0,[],Nat.zero_le _,rfl,rfl,h0,mR.refl _ _ _⟩
 case round =>
  obtain ⟨k,pre,hk,rfl,hpl,hJs,hkp⟩:=hrel;have e1:=(hkp.cell (p:=⟨bx,0,none⟩) hx.1 hx.2).trans hbx;have e3:=(hkp.cell (p:=⟨g,3,none⟩) hg.1 hg.2).trans h3
  by_cases hlt:k < n
  ·obtain ⟨fn,tmps,assign,body,hy,hR⟩:=hY pre ⟨k,hlt⟩ wr hJs (by omega)
   dsimp only at hy
   gi_wp2
   refine hR.mono ?_;rintro e W3 (⟨rfl,hJ3,hk3⟩ | ⟨rfl,hJx3⟩)
   ·gi_wp2
    go_roundw
    case rel=>exact ⟨k + 1,pre ++ [⟨k,hlt⟩],by omega,by go_num,by rw [List.length_append,hpl]; rfl,hJ3,hkp.trans hk3⟩
    case measure=>simp [intOf]; omega
   ·gi_wp2
    refine bodyPost_ret (results_none rfl _ _ _) rfl ?_;exact ⟨⟨_,rfl⟩,.inr ⟨_,trivial,hJx3⟩⟩
  ·obtain rfl:k=n:=by omega
   gi_wp2
   go_end0
   exact ⟨⟨_,rfl⟩,.inl ⟨_,trivial,hJs⟩⟩
theorem xU (m:Nat) (hm:1<=m) (l:Nat) (J:List (Pn 0)->World->Prop) (W:World) (hbx:W.cell? ⟨bx,0,none⟩=some (.pointer (some ⟨g,0,none⟩))) (h5:W.cell? ⟨g,0,none⟩=some (.int .i64 5)) (h3:W.cell? ⟨g,3,none⟩=some (.slice none 0 0)) (h0:J [] W) :
  CallsIn Fence.wide m Tryz.prog 275 #[.func (.yield l) #[] #[],.pointer (some ⟨bx,0,none⟩)] W fun e W'=>(∃ v,e=.returned v)/\J [] W':=by
 refine callsIn_of_wp Tryz.func275 rfl trivial ?_ rfl;simp only [Tryz.ntmps275,List.size_toArray,List.length_cons,List.length_nil,Nat.reduceAdd,Nat.reduceSub,Array.replicate_succ,Array.replicate_zero,List.push_toArray,List.append_toArray,List.nil_append,List.cons_append]
 gi_wp2
 refine ⟨trivial,?_⟩;refine (callsIn_wide.2 (mA _ h5)).mono ?_;rintro e w' ⟨rfl,rfl⟩
 gi_wp2
 gi_loopw [12] (fun i wr=>i=.int .i64 0/\J [] wr) (fun _ _=>0)
 case atStart=>exact ⟨rfl,h0⟩
 case round =>
  obtain ⟨rfl,hJs⟩:=hrel
  gi_wp2
  go_end0
  exact ⟨⟨_,rfl⟩,hJs⟩
theorem mO (m:Nat) (hm:1<=m) {A:Option Addr} {F:Nat->Prop} {w:World} {ev le:Int} {xs:List Value} (hk:ao w g 320 #[.int .i64 5,.int .i64 ev,.int .i64 le,.slice A n c]) (ho:OV w 0 299 5 A n c xs) (hg:∀ k,(Value.slice A n c).ownBlock=some k->k=q) (hx:bx < n₀/\¬ Q bx) (hgn:g < n₀/\¬ Q g) (hn:n₀<=w.heap.size) (hbx:w.cell? ⟨bx,0,none⟩=some (.pointer (some ⟨g,0,none⟩))) :
  SeqStopsK Fence.wide m Tryz.prog 275 #[.pointer (some ⟨bx,0,none⟩)] (fun x:Pn n=>#[Value.pointer (some ⟨q,x.1 * 5,none⟩)]) (mR n₀ Q) (fun _=>True) (fun _=>True) n w:=fun l J Jx W hW _ _ hY h0=>by
 have SQ:=(hW.cell (p:=⟨bx,0,none⟩) (Nat.lt_of_lt_of_le hx.1 hn)).trans hbx;have hk':=hk.later hW;rcases ho.2 with ⟨hv,_⟩ | ⟨q',cap,cur,hv,_,_,_⟩
 ·injection hv with h1 h2 h3
  subst h1 h2 h3;exact (xU m hm l J W SQ (hk'.cell 0) (hk'.cell 3) h0).mono fun e W' ⟨he,hj⟩=>⟨he,.inl ⟨[],trivial,hj⟩⟩
 ·injection hv with h1 h2 h3
  subst h1 h3;obtain rfl:=hg q' rfl;exact Gt m hm l J Jx hY W hx hgn SQ (hk'.cell 0) (hk'.cell 3) ⟨ho.rv.le,ho.rv.cap⟩ h0
end
end Nn
namespace Nn
open Go.RowKit Go.Sort Go Go.Shelf
theorem Rows.Nl {α:Type} {R:α->List Value->Prop} {size:Nat} {fs:List α} {xs:List Value} (h:Rows R size fs xs) {i j:Nat} {f:α} {u:Value} (hi:fs[i]?=some f) (hj:j < size) (hR:R f (((xs.drop (i * size)).take size).set j u)):Rows R size fs (xs.set (i * size + j) u):=by
 have hil:i < fs.length:=(List.getElem?_eq_some_iff.1 hi).1;have hl:=h.len;refine ⟨by rw [List.length_set]; exact hl,fun k f' hk=>?_⟩;have hkl:k < fs.length:=(List.getElem?_eq_some_iff.1 hk).1
 by_cases hki:k=i
 ·subst hki
  rw [hi] at hk;injection hk with hk
  subst hk;have e:((xs.set (k * size + j) u).drop (k * size)).take size=((xs.drop (k * size)).take size).set j u:=by
   apply List.ext_getElem?
   intro m;rw [List.getElem?_take,List.getElem?_drop,List.getElem?_set,List.getElem?_set,List.getElem?_take,List.getElem?_drop,List.length_take,List.length_drop];have hm:k * size + size<=xs.length:=by rw [hl]; have:=Nat.mul_le_mul_right size hkl; rw [Nat.succ_mul] at this; exact this
   by_cases h1:m < size
   ·rw [if_pos h1,if_pos h1]
    by_cases h2:j=m
    ·subst h2
     rw [if_pos rfl,if_pos rfl,if_pos (by omega),if_pos (by omega)]
    ·rw [if_neg (by omega),if_neg h2]
   ·rw [if_neg h1]
    by_cases h2:j=m
    ·omega
    ·rw [if_neg h2,if_neg h1]
  rw [e];exact hR
 ·have e:((xs.set (i * size + j) u).drop (k * size)).take size=(xs.drop (k * size)).take size:=by
   apply List.ext_getElem?
   intro m;rw [List.getElem?_take,List.getElem?_take];split
   ·rename_i hm
    rw [List.getElem?_drop,List.getElem?_drop,List.getElem?_set_ne];rcases Nat.lt_or_gt_of_ne hki with h1 | h1
    ·have:=Nat.mul_le_mul_right size h1
     rw [Nat.succ_mul] at this;omega
    ·have:=Nat.mul_le_mul_right size h1
     rw [Nat.succ_mul] at this;omega
   ·rfl
  rw [e];exact h.2 k f' hk
def DF (W:World) (A:Option Addr) (n c:Nat):Prop:=∃ xs,OV W 0 299 5 A n c xs/\Rows UC 5 (List.replicate n ()) xs
section
variable {W W':World} {A:Option Addr} {n c q:Nat}
theorem DF.at_ (h:DF W (some ⟨q,0,none⟩) n c) {k:Nat} (hk:k < n):∃ (a b:Int) (t:Bool) (c d:Int),W.cell? ⟨q,k * 5,none⟩=some (.int .i64 a)/\W.cell? ⟨q,k * 5 + 1,none⟩=some (.int .i64 b)/\W.cell? ⟨q,k * 5 + 2,none⟩=some (.bool t)/\W.cell? ⟨q,k * 5 + 3,none⟩=some (.int .i64 c)/\W.cell? ⟨q,k * 5 + 4,none⟩=some (.int .i64 d):=by
 obtain ⟨xs,h1,h2⟩:=h;have hr:RS UC W W.heap.size 5 (some ⟨q,0,none⟩) n c (List.replicate n ()):=⟨xs,h1.rv,h2⟩;obtain ⟨b,o,cs,hA,hb,⟨x1,x2,x3,x4,x5,rfl⟩,hc⟩:=hr.at_ (by decide) (i:=k) (f:=()) (by rw [List.getElem?_replicate,if_pos hk]);injection hA with hA
 injection hA with h3 h4
 subst h3 h4;have g0:=hc 0 _ (by decide) rfl;have g1:=hc 1 _ (by decide) rfl;have g2:=hc 2 _ (by decide) rfl;have g3:=hc 3 _ (by decide) rfl;have g4:=hc 4 _ (by decide) rfl;simp only [Nat.zero_add,Nat.add_zero] at g0 g1 g2 g3 g4;exact ⟨x1,x2,x3,x4,x5,g0,g1,g2,g3,g4⟩
theorem DF.free (h:DF W (some ⟨q,0,none⟩) n c) (j:Nat):W.frozen? ⟨q,j,none⟩=false:=by
 obtain ⟨xs,h1,h2⟩:=h;exact h1.free j
theorem DF.aJ (h:DF W (some ⟨q,0,none⟩) n c) {k j:Nat} (hk:k < n) (u:Value) (hu:(j=2/\∃ t,u=.bool t)\/((j=3\/j=4)/\∃ z,u=.int .i64 z)):DF (W.setCell ⟨q,k * 5 + j,none⟩ u) (some ⟨q,0,none⟩) n c:=by
 obtain ⟨xs,h1,h2⟩:=h;have hf:(List.replicate n ())[k]?=some ():=by rw [List.getElem?_replicate,if_pos hk]
 obtain ⟨x1,x2,x3,x4,x5,e⟩:=h2.2 k () hf;refine ⟨_,(h1.set (k * 5 + j) u).1,Rows.Nl h2 hf (by omega) ?_⟩;rw [e];rcases hu with ⟨rfl,t,rfl⟩ | ⟨rfl | rfl,z,rfl⟩
 ·exact ⟨x1,x2,t,x4,x5,rfl⟩
 ·exact ⟨x1,x2,x3,z,x5,rfl⟩
 ·exact ⟨x1,x2,x3,x4,z,rfl⟩
end
attribute [local go_sem] Oper.semAt_some
theorem QH:ET Tryz.prog 239 243 2 16 (.agg #[.int .i64 0,.int .i64 0]):=⟨Tryz.underlying239,info_parts (by kernel_rfl),rfl,by decide⟩
theorem lj (x y:Int):∀ u∈([.int .i64 x,.int .i64 y]:List Value),u.oneCell'=true:=by
 intro u hu;simp only [List.mem_cons,List.not_mem_nil,or_false] at hu;rcases hu with rfl | rfl <;> rfl
def Og (_:Unit) (cs:List Value):Prop:=∃ a b:Int,cs=[.int .i64 a,.int .i64 b]
def k_ (W:World) (B bn m:Nat):Prop:=∃ (A:Option Addr) (n c:Nat) (ys:List Value),ao W bn 239 #[.slice A n c]/\OV W B 243 2 A n c ys/\Rows Og 2 (List.replicate n ()) ys/\n<=m
structure Cs (W W':World):Prop where
 os:W'.os=W.os
 tape:W'.tape=W.tape
 output:W'.output=W.output
 size:W.heap.size<=W'.heap.size
 cells:∀ (b:Nat) (cs:Array Value) (t:TypeId) (fr:Nat×Nat),W.heap[b]?=some (Obj.cells cs t fr)->W'.heap[b]?=some (Obj.cells cs t fr)
theorem GM {W W':World} {row:Option Nat} (hg:W.grownBy W' row) (hr:∀ r,row=some r->∃ o:Obj,W.heap[r]?=some o/\o.isCells=false):Cs W W' :=
 ⟨hg.os,hg.tape,hg.output,hg.size,fun b cs t fr hb=>by
  refine (hg.block b (Array.getElem?_eq_some_iff.1 hb).1 fun e=>?_).trans hb;obtain ⟨o,ho,hc⟩:=hr b e.symm;rw [hb] at ho;injection ho with ho
  subst ho;cases hc⟩
section
variable {W W':World}
theorem ao.cs {g:Nat} {t:TypeId} {cs:Array Value} (h:ao W g t cs) (k:Cs W W'):ao W' g t cs:=k.cells g cs t (0,0) h
theorem OV.cs {base e size n c:Nat} {A:Option Addr} {xs:List Value} (h:OV W base e size A n c xs) (k:Cs W W'):OV W' base e size A n c xs:=by
 refine ⟨h.1,?_⟩;rcases h.2 with h2 | ⟨g,cap,cur,hv,hg,hh,r⟩
 ·exact .inl h2
 ·exact .inr ⟨g,cap,cur,hv,hg,k.cells g cur e (0,0) hh,r⟩
theorem k_.cs {B bn m:Nat} (h:k_ W B bn m) (k:Cs W W'):k_ W' B bn m:=by
 obtain ⟨A,n,c,ys,h1,h2,h3⟩:=h;exact ⟨A,n,c,ys,ao.cs h1 k,OV.cs h2 k,h3⟩
theorem DF.cs {A:Option Addr} {n c:Nat} (h:DF W A n c) (k:Cs W W'):DF W' A n c:=by
 obtain ⟨xs,h1,h2⟩:=h;exact ⟨xs,OV.cs h1 k,h2⟩
theorem k_.more {B bn m m':Nat} (h:k_ W B bn m) (hm:m<=m'):k_ W B bn m':=by
 obtain ⟨A,n,c,ys,h1,h2,h3,h4⟩:=h;exact ⟨A,n,c,ys,h1,h2,h3,Nat.le_trans h4 hm⟩
theorem k_.mv {G:Nat->Prop} {B bn m:Nat} (h:k_ W B bn m) (hm:Mv G W W') (h0:¬ G bn) (hG:∀ b,B<=b->¬ G b):k_ W' B bn m:=by
 obtain ⟨A,n,c,ys,h1,h2,h3⟩:=h;exact ⟨A,n,c,ys,h1.mv hm h0,h2.uj hm fun k hk=>hG k (h2.lt k hk).1,h3⟩
theorem Ee {B bn m:Nat} (h:k_ W B bn m) (hm:m<=1000) (hB:bn < B) (hBW:B<=W.heap.size) (z:Int):Calls Tryz.prog 225 #[.int .i64 z,.pointer (some ⟨bn,0,none⟩)] W fun e W'=>e=.returned (.tuple #[])/\k_ W' B bn (m + 1)/\Mv (fun q=>q=bn\/B<=q) W W'/\KeepsOthers W W':=by
 obtain ⟨A,n,c,ys,h1,h2,h3,h4⟩:=h;have F0:=h1.one;have b1:=ae W (.cells #[.int .i64 2,.int .i64 z] 243);have K1:=h1.later b1;have o1:=h2.below b1;have hnew:=(OV.new (base:=W.heap.size) (e:=243) (size:=2) W [.int .i64 2,.int .i64 z] 1 rfl (by decide) lq).rv;change RV (W.alloc (.cells #[.int .i64 2,.int .i64 z] 243)) _ _ _ _ _ _ at hnew;have VJ:=KeepsOthers.alloc W (.cells #[.int .i64 2,.int .i64 z] 243);go_enter Tryz.func225,Tryz.ntmps225
 go_wp2_with (at_builtin; refine b_ QH rfl (.tmp 3) (.tmp 6) rfl rfl rfl B o1 hnew (lj _ _) (by omega) (by omega) (Nat.le_trans hBW b1.size) ?_; intro A5 c5 w5 o5 g5 s5; have b5:=bQ g5 o1.lt (Nat.le_trans hBW b1.size); have K5:=K1.below b5 hB; have F5:=K5.one)
 go_end0
 have VK:KeepsOthers (W.alloc (.cells #[.int .i64 2,.int .i64 z] 243)) w5:=KeepsOthers.of_grownBy g5 fun j o hj ho=>by
  rcases o1.2 with ⟨hv,_⟩ | ⟨g,cap,cur,hv,_,hh,_⟩
  ·rw [hv] at hj; cases hj
  ·rw [hv] at hj
   have:g=j:=by simpa [Value.ownBlock] using hj
   subst this;rw [hh] at ho;injection ho with ho
   rw [<- ho]; rfl
 have S:=Mv.setCell w5 ⟨bn,0,none⟩ (.slice A5 (n + 1) c5);have M5:Mv (fun q=>q=bn\/B<=q) W w5:=(Mv.aq b1 _).trans (Mv.kZ b5) fun b _ hb=>.inr hb
 refine ⟨rfl,⟨A5,n + 1,c5,ys ++ [.int .i64 2,.int .i64 z],K5.aJ 0 _,o5.uj S fun k hk e=>by have:=(o5.lt k hk).1; have e':k=bn:=e; omega,?_,by omega⟩,M5.trans S fun b _ e=>.inl e,(VJ.trans VK).trans (KeepsOthers.setCell _ _ _)⟩;rw [List.replicate_succ'];exact h3.append (Rows.one ⟨2,z,rfl⟩ rfl)
end
end Nn
namespace Nn
open Go.RowKit Go.Sort Go Go.Shelf
attribute [local go_sem] Oper.semAt_some
structure pT (w0:World) (g bn:Nat) (L:List (Nat×TypeId×Array Value)) (ev le:Int) (A:Option Addr) (n c m:Nat) (W:World):Prop where
 hk:ao W g 320 #[.int .i64 5,.int .i64 ev,.int .i64 le,.slice A n c]
 pr:DF W A n c
 nw:k_ W w0.heap.size bn m
 cl:∀ p∈L,ao W p.1 p.2.1 p.2.2
 mv:Mv (fun b=>(Value.slice A n c).ownBlock=some b\/b=bn) w0 W
section
variable {w0 W W':World} {g bn:Nat} {L:List (Nat×TypeId×Array Value)} {ev le:Int} {A:Option Addr} {n c m q:Nat}
theorem pT.more (h:pT w0 g bn L ev le A n c m W) {m':Nat} (hm:m<=m'):pT w0 g bn L ev le A n c m' W:=⟨h.hk,h.pr,h.nw.more hm,h.cl,h.mv⟩
theorem pT.own {row:Option Nat} (h:pT w0 g bn L ev le A n c m W) (hg:W.grownBy W' row) (hr:∀ r,row=some r->w0.heap.size<=r/\∃ o:Obj,W.heap[r]?=some o/\o.isCells=false):pT w0 g bn L ev le A n c m W':=by
 have k:=GM hg fun r e=>(hr r e).2
 refine ⟨ao.cs h.hk k,DF.cs h.pr k,k_.cs h.nw k,fun p hp=>ao.cs (h.cl p hp) k,⟨k.os.trans h.mv.os,k.tape.trans h.mv.tape,k.output.trans h.mv.output,Nat.le_trans h.mv.size k.size,fun b hb hF=>(hg.block b (Nat.lt_of_lt_of_le hb h.mv.size) fun e=>?_).trans (h.mv.block b hb hF)⟩⟩;have:=(hr b e.symm).1;omega
theorem pT.put (h:pT w0 g bn L ev le (some ⟨q,0,none⟩) n c m W) {k j:Nat} (hk:k < n) (u:Value) (hu:(j=2/\∃ t,u=.bool t)\/((j=3\/j=4)/\∃ z,u=.int .i64 z)) (hg:g≠q) (hb:bn≠q) (hB:q < w0.heap.size) (hL:∀ p∈L,p.1≠q):pT w0 g bn L ev le (some ⟨q,0,none⟩) n c m (W.setCell ⟨q,k * 5 + j,none⟩ u):=by
 have S:=Mv.setCell W ⟨q,k * 5 + j,none⟩ u;exact ⟨h.hk.mv S hg,h.pr.aJ hk u hu,h.nw.mv S hb fun b hb e=>by have e':b=q:=e; omega,fun p hp=>(h.cl p hp).mv S (hL p hp),h.mv.trans S fun b _ e=>.inl (by rw [show b=q from e]; rfl)⟩
theorem pT.tell (h:pT w0 g bn L ev le A n c m W) {m':Nat} (hN:k_ W' w0.heap.size bn m') (hM:Mv (fun q=>q=bn\/w0.heap.size<=q) W W') (hg:g≠bn) (hgB:g < w0.heap.size) (hq:∀ k,(Value.slice A n c).ownBlock=some k->k≠bn/\k < w0.heap.size) (hL:∀ p∈L,p.1≠bn/\p.1 < w0.heap.size):pT w0 g bn L ev le A n c m' W':=by
 refine ⟨h.hk.mv hM (by omega),?_,hN,fun p hp=>(h.cl p hp).mv hM (by have:=hL p hp; omega),h.mv.trans hM fun b hb e=>.inr (by omega)⟩;obtain ⟨xs,h1,h2⟩:=h.pr;exact ⟨xs,h1.uj hM fun k hk=>by have:=hq k hk; omega,h2⟩
end
theorem mR.qW {n₀:Nat} {Q G:Nat->Prop} {W W':World} (h:Mv G W W') (hn:n₀<=W.heap.size) (hG:∀ b,b < n₀->G b->Q b):mR n₀ Q W W':=⟨h.size,fun b hb hq=>h.block b (Nat.lt_of_lt_of_le hb hn) fun hg=>hq (hG b hb hg)⟩
section
variable {w:World} {F:Nat->Prop} {g:Nat}
theorem wW (h:kx w F g) (st:Int) (b:UInt8) (hst:tu st) (hb:yC st b):Calls Tryz.prog 164 #[.pointer (some ⟨g,0,none⟩),.int .i64 st] w fun e w'=>∃ (A A2:Option Addr) (n c n2 c2:Nat) (fs:List Can.Fr) (ys:List Value),e=.returned (.tuple #[.slice A n c,.slice A2 n2 c2])/\iZ w' (fun q=>w.heap.size<=q) A n c fs/\(∀ f∈fs,f.data.length<=8)/\n<=1/\OV w' w.heap.size 243 2 A2 n2 c2 ys/\Rows Og 2 (List.replicate n2 ()) ys/\n2<=8/\Mv F w w'/\kx w' F g:=by
 have HB:=zq (xl (h.mono (G:=fun b=>F b/\b < w.heap.size) fun b hb hf=>⟨hf,hb⟩) st b hst hb);clear hst hb;refine (callsIn_wide (n:=6)).1 ?_;refine callsIn_of_wp_marks Tryz.func164 rfl trivial ?_ rfl;simp only [Tryz.ntmps164,List.size_toArray,List.length_cons,List.length_nil,Nat.reduceAdd,Nat.reduceSub,Array.replicate_succ,Array.replicate_zero,List.push_toArray,List.append_toArray,List.nil_append,List.cons_append]
 gi_wp2
 refine ⟨trivial,?_⟩;refine (callsIn_wide.2 HB.out).mono ?_;rintro e w1 ⟨⟨A,n,c,fs,rfl,rf,hl,hn⟩,M1,H1⟩;have PB:=H1.1;obtain ⟨_,ev,le,A3,n3,c3,xs,k,k2,k3,k4,k5⟩:=H1
 gi_wp2
 refine ⟨trivial,?_⟩;refine (callsIn_wide.2 (uN g _)).mono ?_;rintro e w4 ⟨rfl,hw4⟩;have i1:=ao.new w1 239 #[.slice none 0 0];have c2:=ae (w1.alloc (.cells #[.slice none 0 0] 239)) (.cells #[.func (.func 225) #[] #[.pointer (some ⟨w1.heap.size,0,none⟩)]] 150);have i2:=ao.new (w1.alloc (.cells #[.slice none 0 0] 239)) 150 #[.func (.func 225) #[] #[.pointer (some ⟨w1.heap.size,0,none⟩)]];have c3':=ae ((w1.alloc (.cells #[.slice none 0 0] 239)).alloc (.cells #[.func (.func 225) #[] #[.pointer (some ⟨w1.heap.size,0,none⟩)]] 150)) (.cells #[.pointer (some ⟨g,0,none⟩)] 99);have i3:=ao.new ((w1.alloc (.cells #[.slice none 0 0] 239)).alloc (.cells #[.func (.func 225) #[] #[.pointer (some ⟨w1.heap.size,0,none⟩)]] 150)) 99 #[.pointer (some ⟨g,0,none⟩)];replace i1:=(i1.later c2).later c3';replace i2:=i2.later c3';have b4:=aa (aa (ae w1 (.cells #[.slice none 0 0] 239)) c2 lq) c3' lq;have s4:w4.heap.size=w1.heap.size + 3:=by rw [hw4]; simp only [World.size_alloc]
 rw [<- hw4] at i1 i2 i3 b4;simp only [World.size_alloc] at i2 i3 hw4 ⊢;clear hw4 c2 c3';have k1:=k.later b4;have o1:=k2.below b4;have lg:=k.lt;have ow:∀ j,(Value.slice A3 n3 c3).ownBlock=some j->j < w1.heap.size/\j≠g/\F j:=fun j hj=>⟨(k2.lt j hj).2,(k4 j hj).2,(k4 j hj).1.1⟩
 have hq:∃ q,(∀ j,(Value.slice A3 n3 c3).ownBlock=some j->j=q)/\(n3=0\/A3=some ⟨q,0,none⟩):=by
  rcases k2.2 with ⟨hv,_⟩ | ⟨q',cap,cur,hv,_,_,_⟩
  ·injection hv with e1 e2 e3
   subst e1 e2 e3;exact ⟨0,fun j hj=>(by cases hj),.inl rfl⟩
  ·injection hv with e1 e2 e3
   subst e1 e3;exact ⟨q',fun j hj=>by injection hj with hj; exact hj.symm,.inr rfl⟩
 obtain ⟨q,hq1,hq2⟩:=hq;have I0:pT w4 g w1.heap.size [(w1.heap.size + 1,150,#[.func (.func 225) #[] #[.pointer (some ⟨w1.heap.size,0,none⟩)]])] ev le A3 n3 c3 0 w4 :=
  ⟨k1,⟨xs,o1,k3⟩,⟨none,0,0,[],i1,OV.none_ _ _ _ _,Rows.nil,Nat.le_refl _⟩,fun p hp=>(by rw [List.mem_singleton.1 hp]; exact i2),Mv.refl _ _⟩
 have PS:=fun m hm=>mO (n₀:=w4.heap.size) (bx:=w1.heap.size + 1 + 1) (Q:=fun b=>(Value.slice A3 n3 c3).ownBlock=some b\/b=w1.heap.size) (F:=fun _=>True) m hm k1 o1 hq1 ⟨by omega,fun e=>by rcases e with e | e; have:=ow _ e; omega; omega⟩ ⟨by omega,fun e=>by rcases e with e | e; exact (ow _ e).2.1 rfl; omega⟩ lq (i3.cell 0)
 gi_wp2
 refine wpIn_rangeFunc_ownF rfl (by decide) (gf:=275) (lb:=#[.pointer (some ⟨w1.heap.size + 1 + 1,0,none⟩)]) rfl trivial (enters_of Tryz.func275 (by kernel_rfl) rfl) (PS _ (by decide)) (fun h k=>h.trans k) (Mc lq) (Below.refl _ _) (fun _=>rfl)
  (fun pre W=>pre.length<=n3/\pT w4 g w1.heap.size [(w1.heap.size + 1,150,#[.func (.func 225) #[] #[.pointer (some ⟨w1.heap.size,0,none⟩)]])] ev le A3 n3 c3 pre.length W) (fun _ _ _=>False) (fun s A B row hs hg hr=>⟨hs.1,hs.2.own hg hr⟩) (fun _ _ _ _ _ hs _ _=>hs) ⟨Nat.zero_le _,I0⟩ ?a1 ?assign ?body ?done ?stop
 case assign =>
  intro l x W K hK
  gi_wp2
  exact hK
 case stop =>
  rintro D c pre W _ _ h _;exact h.elim
 case done =>
  rintro D ys W hD _ ⟨hpl,hs⟩ hK;obtain ⟨A2,n2,c2,zs,N1,N2,N3,N4⟩:=hs.nw;have F1:=N1.one
  gi_wp2
  gi_region
  gi_wp2
  have hsd:pT w4 g w1.heap.size [(w1.heap.size + 1,150,#[.func (.func 225) #[] #[.pointer (some ⟨w1.heap.size,0,none⟩)]])] ev le A3 n3 c3 ys.length W.drew:=⟨hs.hk,hs.pr,hs.nw,hs.cl,hs.mv.drew⟩;have VM:W.drew.heap[D]?=some (Obj.deferred (some [])):=hK;have hF:=hsd.own (grownBy_putObj' W.drew D (.deferred none)) (fun r e=>by cases e; exact ⟨hD,_,VM,rfl⟩);refine ⟨by simp,.inl ⟨_,_,rfl,run_takeDeferred VM,?_⟩⟩;obtain ⟨xs',p1,p2⟩:=hF.pr;have e2:=OV.cs (W:=W.drew) N2 (GM (W:=W.drew) (grownBy_putObj' W.drew D (.deferred none)) (fun r e=>by cases e; exact ⟨_,VM,rfl⟩));have s1:=M1.size;have M4:=(Mv.aq b4 (fun b=>(Value.slice A3 n3 c3).ownBlock=some b\/b=w1.heap.size)).trans hF.mv (fun b hb hG=>hG);have kk:=fun j hj=>(k4 j hj).1
  have M5:=(M1.mono (G:=F) fun b _ e=>by rw [e]; exact PB.1).trans M4 (fun b hb hG=>hG.elim (fun h=>(kk b h).1) (fun h=>by omega));refine ⟨_,results_tmp2 rfl _ _ _,_,_,_,_,_,_,_,_,rfl,rf.mv M4 ?_,hl,hn,e2.more ?_,N3,by omega,M5,⟨PB.1,ev,le,A3,n3,c3,xs',hF.hk,p1,p2,fun j hj=>⟨(kk j hj).1,(ow j hj).2.1⟩,k5⟩⟩
  ·rintro b hb h1 (h2 | h2)
   ·have:=(kk b h2).2; omega
   ·omega
  ·omega
 case body =>
  rintro l pre x W ⟨_,hs⟩ hlt;have hmx:Tryz.prog.follows .mixedOrders=true:=by kernel_rfl
  rcases hq2 with rfl | rfl
  ·omega
  obtain ⟨x0,x1,t,x3,x4,e0,e1,e2,e3,e4⟩:=hs.pr.at_ x.2;have fz:=hs.pr.free;have hln:(pre ++ [x]).length=pre.length + 1:=by rw [List.length_append]; rfl
  have yx:(pre ++ [x]).length<=n3:=by omega
  cases t
  ·gi_wp2
   exact ⟨KeepsOthers.refl _,mR.refl _ _ _,yx,hs.more (by omega)⟩
  ·obtain ⟨d',hd'⟩:∃ d',wrap64 (x4 - 1)=d':=⟨_,rfl⟩
   have oq:=ow q rfl;have P4:=hs.put x.2 (j:=4) (.int .i64 d') (.inr ⟨.inr rfl,_,rfl⟩) (fun e=>oq.2.1 e.symm) (by omega) (by omega) (fun p hp=>by rw [List.mem_singleton.1 hp]; dsimp only; omega);have M4:=Mv.setCell W ⟨q,x.1 * 5 + 4,none⟩ (.int .i64 d');have VN:=P4.pr.free
   by_cases hz:d'=0
   ·subst hz
    have P2:=P4.put x.2 (j:=2) (.bool false) (.inl ⟨rfl,_,rfl⟩) (fun e=>oq.2.1 e.symm) (by omega) (by omega) (fun p hp=>by rw [List.mem_singleton.1 hp]; dsimp only; omega);have VP:pT w4 g w1.heap.size [(w1.heap.size + 1,150,#[.func (.func 225) #[] #[.pointer (some ⟨w1.heap.size,0,none⟩)]])] ev le (some ⟨q,0,none⟩) n3 c3 pre.length ((W.setCell ⟨q,x.1 * 5 + 4,none⟩ (.int .i64 0)).setCell ⟨q,x.1 * 5 + 2,none⟩ (.bool false)).drew:=⟨P2.hk,P2.pr,P2.nw,P2.cl,P2.mv.drew⟩;have cl:=(P2.cl _ (List.mem_singleton.2 rfl)).cell 0;dsimp only at cl;have TL:=Ee VP.nw (by omega) (by omega) VP.mv.size x0;have MW:=M4.trans (Mv.setCell _ ⟨q,x.1 * 5 + 2,none⟩ (.bool false)) fun b _ e=>e
    gi_wp2
    gi_region_with_o (refine ⟨trivial,?_⟩; refine (CallsIn.inRound l (callsIn_wide.2 TL)).mono ?_; rintro e w9 ⟨rfl,hN,hM,Z_⟩)
    all_goals gi_wp2
    all_goals (
     have PT:=VP.tell hN hM (by omega) (by omega) (fun k hk=>by have:=ow k hk; omega) (fun p hp=>by rw [List.mem_singleton.1 hp]; dsimp only; omega);have MX:=(MW.drew.mono (G:=fun b=>b=q\/b=w1.heap.size\/w4.heap.size<=b) fun b _ e=>.inl e).trans hM fun b _ e=>.inr e
     exact ⟨((KeepsOthers.setCell _ _ _).trans (KeepsOthers.setCell _ _ _)).trans ((KeepsOthers.drew _).trans Z_),mR.qW MX (by have:=hs.mv.size; omega) (fun b hb e=>by
      rcases e with e | e | e
      ·exact .inl (by rw [e]; rfl)
      ·exact .inr e
      ·omega),yx,PT.more (by omega)⟩)
   ·have t1:(d' == 0)=false:=by simpa using hz
    gi_wp2
    exact ⟨KeepsOthers.setCell _ _ _,mR.qW M4 (by have:=hs.mv.size; omega) (fun b _ e=>.inl (by rw [show b=q from e]; rfl)),yx,P4.more (by omega)⟩
end
end Nn
namespace Nn
open Go.RowKit Go.Sort Go Go.Shelf
section
variable {P:Program} {l n:Nat}
def dH (K:Act->World->Prop):Exit->Act->World->Prop:=fun e a w=>e=.normal/\K a w
theorem dH.not (K:Act->World->Prop):¬ LetsOut (dH K):=fun ⟨_,_,h,_⟩=>by cases h
theorem Cv {o:Oper} {a:Act} {w:World} {K K':Act->World->Prop} {J:Act->World->Prop} {Q:Exit->Act->World->Prop} (hd:∀ c,o.op≠.defer c) (hK:∀ a w,K a w->K' a w) (h:o.wp P a w K (dH J)):o.wpIn (Fence.wide.inRound l) n P a w K' Q:=by
 unfold Oper.wp at h;unfold Oper.wpIn;refine ⟨fun _ _=>trivial,?_⟩;rw [Oper.semAt_eq _ _ _ hd];cases hr:(execOp a.eval o).run P w with
 | ok v w' =>
  rw [hr] at h;cases v with
  | value v=>exact hK _ _ h
  | skip=>exact hK _ _ h
  | defer d=>exact hK _ _ h
  | enter f args =>
   refine ⟨fun e=>(by cases e),CallsIn.inRound l (callsIn_wide.2 (Calls.mono h ?_))⟩;intro e w'' he;cases e with
   | returned v=>exact hK _ _ he
   | panicked c=>cases he.1
   | outgrown=>exact absurd he (dH.not J)
  | row r args =>
   refine ⟨fun e=>(by cases e),fun c cs _=>?_⟩;obtain ⟨v,w'',r,s⟩:=h c cs;exact ⟨v,w'',hK _ _ r,stepsIn_wide.2 s⟩
  | _=>exact h.elim
 | halt x w' =>
  rw [hr] at h;cases x with
  | panic v=>cases h.1
  | _=>exact h.elim
theorem xM {ops:Array Oper} (hd:∀ o∈ops,∀ c,o.op≠.defer c) {md:Region.Mode} {Q:Exit->Act->World->Prop}:∀ (fuel:Nat) (listed:Array Bool) (a:Act) (w:World),wpAny P md ops (dH (Q .normal)) fuel listed a w->wpAnyIn (Fence.wide.inRound l) n P md ops Q fuel listed a w:=by
 intro fuel
 induction fuel with
 | zero=>exact fun _ _ _ h=>⟨h.1,h.2.2⟩
 | succ fuel ih =>
  intro listed a w h;refine ⟨fun e=>(h.1 e).2,fun i hi=>?_⟩;have k:=h.2 i hi;unfold wpOp at k;unfold wpOpIn;cases ho:ops[i]? with
  | none=>simp only [ho] at k ⊢; exact ih _ _ _ k
  | some o =>
   simp only [ho] at k ⊢
   by_cases hw:Region.wanted o (yielded ops a.tmps)=true
   ·rw [if_pos hw] at k ⊢
    rcases k with k | k
    ·exact Cv (hd o (Array.mem_of_getElem? ho)) (fun a w=>ih _ a w) k
    ·exact absurd k.2 (dH.not _)
   ·rw [if_neg hw] at k ⊢
    exact ⟨fun _ _=>trivial,ih _ _ _ k⟩
theorem vg {id:Nat} {ops:List Oper} {a:Act} {w:World} {Q:Exit->Act->World->Prop} (hm:P.follows .mixedOrders=true) (hd:(ops.all fun o=>match o.op with | .defer _=>false | _=>true)=true)
  (h:wpAny P .any ops.toArray (dH (Q .normal)) ops.length (Array.replicate ops.length false) a w.drew):(Code.region id ops.toArray true).wpIn (Fence.wide.inRound l) n P Q a w :=
 wpIn_region_any hm (xM (fun o ho c e=>by
  have:=List.all_eq_true.1 hd o (List.mem_toArray.1 ho);rw [e] at this;cases this) _ _ _ _ (by simpa using h))
theorem dH.np (K:Act->World->Prop):NoPanic (dH K)=dH K:=by
 funext e a w
 cases e with
 | panic c=>exact propext ⟨fun h=>h.elim,fun h=>by cases h.1⟩
 | _=>rfl
end
structure Wc (S:World->Prop) where
 val:World
 ok:S val
section
variable {P:Program} {Q:Exit->Act->World->Prop} {md:Region.Mode} {t:Nat} {S:World->Prop}
theorem jf {l n id:Nat} {ops:List Oper} {a:Act} {w:World} (t:Nat) (S:World->Prop) (hm:P.follows .mixedOrders=true) (hd:(ops.all fun o=>match o.op with | .defer _=>false | _=>true)=true)
  (h:wpAnyL P .any ops.toArray (NoPanic (dH (Q .normal))) t (fun x=>∃ v:Wc S,x=v.val) ops.length (Array.replicate ops.length false) a w.drew):(Code.region id ops.toArray true).wpIn (Fence.wide.inRound l) n P Q a w:=by
 rw [dH.np] at h;exact vg hm hd (dN _ _ _ _ h)
theorem aw {l:List Oper} (hsel:Region.noSelect l.toArray=true) (fuel:Nat) {w:World} (hb:S w) (σ:List Nat) {n:Nat} {listed:Array Bool} {a:Act} (hn:n=σ.length + fuel) (hok:fe md l t listed σ=true)
  (h:wpQuiet P l.toArray (fun x=>∃ v:Wc S,x=v.val) (fun a'=>wpAnyL P md l.toArray (NoPanic Q) t (fun x=>∃ v:Wc S,x=v.val) fuel (after listed σ) a' w) (aj l σ) a) :
  wpAnyL P md l.toArray (NoPanic Q) t (fun x=>∃ v:Wc S,x=v.val) n listed a w:=fJ hsel (fun _ _ _ _ _ h=>h) fuel w ⟨⟨w,hb⟩,rfl⟩ σ listed a hn hok h
theorem az {l:List Oper} {fuel:Nat} {listed:Array Bool} {a:Act} {w:World} (hb:S w)
  (h:wpAnyL P md l.toArray Q t (fun x=>∃ v:Wc S,x=v.val) fuel listed a w):Qn (fun a' w'=>gB P md l Q t (fun x=>∃ v:Wc S,x=v.val) fuel listed a' w') Q .normal a w :=
 ⟨_,⟨⟨w,hb⟩,rfl⟩,fun _ hx=>hx,h⟩
end
end Nn
end Go.Proofs.YtijegngfclkdaaaGreatDoor
