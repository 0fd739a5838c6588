/-
  Pieces of the proof: part 17 of 54.
  Conditions: none.
-/
import Derived.Laws.Concat
import Derived.Laws.RangeAny
import Derived.ArgAppend
import Derived.Test.YtijegngfclkdaaaGreatDoorW13
import Derived.Test.YtijegngfclkdaaaGreatDoorW14
import Derived.Test.YtijegngfclkdaaaGreatDoorW15
import Derived.Test.YtijegngfclkdaaaGreatDoorW16
set_option linter.unusedVariables false
set_option linter.unusedSimpArgs false
set_option maxHeartbeats 100000000
set_option maxRecDepth 100000
namespace Go.Proofs.YtijegngfclkdaaaGreatDoor
open Go.RowKit
def T (s:List UInt8):ByteArray:=⟨s.toArray⟩
theorem T_inj {a b:List UInt8} (h:T a=T b):a=b:=by
 unfold T at h;injection h with h
 simpa using h
theorem T_ne {a b:List UInt8} (h:a≠b):T a≠T b:=fun e=>h (T_inj e)
theorem toList_loop (bs:ByteArray):∀ (d i:Nat) (r:List UInt8),bs.size - i=d→ByteArray.toList.loop bs i r=r.reverse ++ bs.data.toList.drop i:=by
 intro d
 induction d with
 | zero =>
  intro i r h;have h2:bs.data.toList.length≤i:=by show bs.data.size≤i; have:bs.size=bs.data.size:=rfl; omega
  rw [ByteArray.toList.loop,if_neg (by omega),List.drop_of_length_le h2,List.append_nil]
 | succ d ih =>
  intro i r h;have hi:i < bs.size:=by omega
  have hi':i < bs.data.toList.length:=hi;rw [ByteArray.toList.loop,if_pos hi,ih (i + 1) _ (by omega),List.drop_eq_getElem_cons hi',List.reverse_cons,List.append_assoc]
  congr 2
  rw [List.cons_append,List.nil_append]
  congr 1
  have h3:bs.get! i=bs[i]:=by simp [ByteArray.get!,getElem!_pos,hi]; rfl
  rw [h3];rfl
theorem T_toList (s:List UInt8):(T s).toList=s:=by
 have:=toList_loop (T s) _ 0 [] rfl;exact this.trans (by simp [T])
theorem T_size (s:List UInt8):(T s).size=s.length:=by show s.toArray.size=_; simp
theorem T_get (s : List UInt8) (k : Nat) (h : k < (T s).size) : (T s)[k]'h = s.getD k 0 := by
 have h':k < s.length:=by rw [T_size] at h; exact h
 show s.toArray[k]=_;simp [List.getD,h']
theorem run_T_at (s:List UInt8) (kd:IntKind) (z:Int) (k:Nat) (hz:z=(k:Int)) (hk:k < s.length) (w:World) :
  (Instr.index 9 (.string (T s)) (.int kd z)).run Tryz.prog w=.ok (.int .u8 ((s.getD k 0).toNat:Int)) w:=by
 subst hz;rw [run_index_string w _ _ kd _ Tryz.underlying9,dif_pos ⟨by omega,by rw [T_size]; exact Int.ofNat_lt.2 hk⟩];have e:((k:Int)).toNat=k:=by omega
 simp only [e,T_get]
end Go.Proofs.YtijegngfclkdaaaGreatDoor
namespace Go.Proofs.YtijegngfclkdaaaGreatDoor
open Go.RowKit
structure WB (w:World) (base:Nat) (A:Option Addr) (n c:Nat):Prop where
 le:n≤c
 cap:c≤9223372036854775807
 nil:A=none→n=0∧c=0
 at_:0 < c→∃ g cur,A=some ⟨g,0,none⟩∧base≤g∧Blk w g 5 cur∧c≤cur.size∧∀ i,i < n→∃ x:UInt8,cur[i]?=some (bv x)
theorem WB.more {w:World} {base base' n c:Nat} {A:Option Addr} (h:WB w base A n c) (hb:base'≤base):WB w base' A n c :=
 ⟨h.le,h.cap,h.nil,fun hc=>by obtain ⟨g,cur,e,hg,r⟩:=h.at_ hc; exact ⟨g,cur,e,by omega,r⟩⟩
theorem WB.none_ (w:World) (base:Nat):WB w base none 0 0:=⟨Nat.le_refl _,by omega,fun _=>⟨rfl,rfl⟩,fun h=>absurd h (by omega)⟩
theorem OB.wb {w:World} {base n c:Nat} {A:Option Addr} {l:List UInt8} (h:OB w base A n c l):WB w base A n c:=by
 refine ⟨h.rb.le,h.rb.cap,h.rb.nil,fun hc=>?_⟩;have hl:=h.rb.len;rcases h.2 with ⟨hv,_⟩ | ⟨g,cap,cur,hv,hb,hg,hnc,hcm,hcs,ht⟩
 ·injection hv with _ _ h3; omega
 ·injection hv with h1 h2 h3
  subst h1 h3;refine ⟨g,cur,rfl,hb,hg,by omega,fun i hi=>⟨l.getD i 0,?_⟩⟩;have:(l.map bv)[i]?=cur.toList[i]?:=by rw [← ht,List.getElem?_take,if_pos (by omega)]
  rw [← Array.getElem?_toList,← this];simp [List.getD,List.getElem?_eq_getElem (show i < l.length by omega)]
structure OW (w:World) (base:Nat) (A:Option Addr) (n c:Nat) (l:List UInt8):Prop where
 len:l.length=n
 le:n≤c
 cap:c≤9223372036854775807
 nil:A=none→n=0∧c=0
 at_:0 < c→∃ g cur,A=some ⟨g,0,none⟩∧base≤g∧Blk w g 5 cur∧c≤cur.size∧cur.toList.take n=l.map bv
section
variable {w w':World} {base base' n c:Nat} {A:Option Addr} {l:List UInt8}
theorem OB.ow (h:OB w base A n c l):OW w base A n c l:=by
 refine ⟨h.rb.len,h.rb.le,h.rb.cap,h.rb.nil,fun hc=>?_⟩;rcases h.2 with ⟨hv,_⟩ | ⟨g,cap,cur,hv,hb,hg,hnc,hcm,hcs,ht⟩
 ·injection hv with _ _ h3; omega
 ·injection hv with h1 h2 h3
  subst h1 h3;exact ⟨g,cur,rfl,hb,hg,by omega,by simpa using ht⟩
theorem OW.rb (h:OW w base A n c l):RB w w.heap.size A n c l:=by
 have hl:=h.len;have hle:=h.le;refine ⟨hl,hle,h.cap,h.nil,fun hn=>?_⟩;obtain ⟨g,cur,rfl,hg,hb,hs,ht⟩:=h.at_ (by omega);refine ⟨g,0,rfl,hb.lt,fun i hi=>?_⟩;rw [Nat.zero_add,hb.cell i];have:(l.map bv)[i]?=cur.toList[i]?:=by rw [← ht,List.getElem?_take,if_pos (by omega)]
 rw [← Array.getElem?_toList,← this];simp [List.getD,List.getElem?_eq_getElem (show i < l.length by omega),bv]
theorem OW.more (h:OW w base A n c l) (hb:base'≤base):OW w base' A n c l :=
 ⟨h.len,h.le,h.cap,h.nil,fun hc=>by obtain ⟨g,cur,e,hg,r⟩:=h.at_ hc; exact ⟨g,cur,e,by omega,r⟩⟩
theorem OW.below (h:OW w base A n c l) (hb:Below w.heap.size w w'):OW w' base A n c l :=
 ⟨h.len,h.le,h.cap,h.nil,fun hc=>by obtain ⟨g,cur,e,hg,k,r⟩:=h.at_ hc; exact ⟨g,cur,e,hg,k.later hb,r⟩⟩
theorem OW.grown {row:Option Nat} (h:OW w base A n c l) (hg:w.grownBy w' row) (hne:∀ g cur,Blk w g 5 cur→some g≠row):OW w' base A n c l :=
 ⟨h.len,h.le,h.cap,h.nil,fun hc=>by obtain ⟨g,cur,e,hb,k,r⟩:=h.at_ hc; exact ⟨g,cur,e,hb,k.grown hg (hne g cur k),r⟩⟩
theorem OW.beside {base' e size m c':Nat} {A':Option Addr} {xs:List Value} (h:OW w base A n c l) (h':OV w base' e size A' m c' xs) (hne:e≠5) (hg:w.grownBy w' (Value.slice A' m c').ownBlock):OW w' base A n c l :=
 h.grown hg fun _ _ hb he=>own_blk_ne h' hb hne he.symm
theorem OW.none_ (w:World) (base:Nat):OW w base none 0 0 []:=⟨rfl,Nat.le_refl _,by omega,fun _=>⟨rfl,rfl⟩,fun h=>absurd h (by omega)⟩
end
end Go.Proofs.YtijegngfclkdaaaGreatDoor
namespace Go.Proofs.YtijegngfclkdaaaGreatDoor
open Go.RowKit
def enL (e:Ent.En) (A:Option Addr) (n c:Nat):List Value:=[.int .i64 e.index,.int .i64 e.sub,.string (T e.name),.int .i64 e.type,.int .i64 e.access,.bool e.map,.bool e.store,.int .i64 e.max,.int .i64 e.low,.int .i64 e.high,.slice A n c]
def enV (e:Ent.En) (A:Option Addr) (n c:Nat):Value:=.agg #[.int .i64 e.index,.int .i64 e.sub,.string (T e.name),.int .i64 e.type,.int .i64 e.access,.bool e.map,.bool e.store,.int .i64 e.max,.int .i64 e.low,.int .i64 e.high,.slice A n c]
theorem Blk.eleven {w:World} {g:Nat} {t:TypeId} {x0 x1 x2 x3 x4 x5 x6 x7 x8 x9 x10:Value} (h:Blk w g t #[x0,x1,x2,x3,x4,x5,x6,x7,x8,x9,x10]):(w.cell? ⟨g,0,none⟩=some x0∧w.cell? ⟨g,1,none⟩=some x1∧w.cell? ⟨g,2,none⟩=some x2∧w.cell? ⟨g,3,none⟩=some x3∧w.cell? ⟨g,4,none⟩=some x4∧w.cell? ⟨g,5,none⟩=some x5∧w.cell? ⟨g,6,none⟩=some x6∧w.cell? ⟨g,7,none⟩=some x7∧w.cell? ⟨g,8,none⟩=some x8∧w.cell? ⟨g,9,none⟩=some x9∧w.cell? ⟨g,10,none⟩=some x10)∧(w.frozen? ⟨g,0,none⟩=false∧w.frozen? ⟨g,1,none⟩=false∧w.frozen? ⟨g,2,none⟩=false∧w.frozen? ⟨g,3,none⟩=false∧w.frozen? ⟨g,4,none⟩=false∧w.frozen? ⟨g,5,none⟩=false∧w.frozen? ⟨g,6,none⟩=false∧w.frozen? ⟨g,7,none⟩=false∧w.frozen? ⟨g,8,none⟩=false∧w.frozen? ⟨g,9,none⟩=false∧w.frozen? ⟨g,10,none⟩=false):=⟨⟨h.cell 0,h.cell 1,h.cell 2,h.cell 3,h.cell 4,h.cell 5,h.cell 6,h.cell 7,h.cell 8,h.cell 9,h.cell 10⟩,h.frozen 0,h.frozen 1,h.frozen 2,h.frozen 3,h.frozen 4,h.frozen 5,h.frozen 6,h.frozen 7,h.frozen 8,h.frozen 9,h.frozen 10⟩
theorem Blk.store11 {w:World} {g:Nat} {t:TypeId} {x0 x1 x2 x3 x4 x5 x6 x7 x8 x9 x10:Value} (h:Blk w g t #[x0,x1,x2,x3,x4,x5,x6,x7,x8,x9,x10]) (y0 y1 y2 y3 y4 y5 y6 y7 y8 y9 y10:Value):Blk (World.setCell (World.setCell (World.setCell (World.setCell (World.setCell (World.setCell (World.setCell (World.setCell (World.setCell (World.setCell (World.setCell w ⟨g,0,none⟩ y0) ⟨g,1,none⟩ y1) ⟨g,2,none⟩ y2) ⟨g,3,none⟩ y3) ⟨g,4,none⟩ y4) ⟨g,5,none⟩ y5) ⟨g,6,none⟩ y6) ⟨g,7,none⟩ y7) ⟨g,8,none⟩ y8) ⟨g,9,none⟩ y9) ⟨g,10,none⟩ y10) g t #[y0,y1,y2,y3,y4,y5,y6,y7,y8,y9,y10]:=by
 have h0:Blk _ g t #[y0,x1,x2,x3,x4,x5,x6,x7,x8,x9,x10]:=h.set_ 0 y0;have h1:Blk _ g t #[y0,y1,x2,x3,x4,x5,x6,x7,x8,x9,x10]:=h0.set_ 1 y1;have h2:Blk _ g t #[y0,y1,y2,x3,x4,x5,x6,x7,x8,x9,x10]:=h1.set_ 2 y2;have h3:Blk _ g t #[y0,y1,y2,y3,x4,x5,x6,x7,x8,x9,x10]:=h2.set_ 3 y3;have h4:Blk _ g t #[y0,y1,y2,y3,y4,x5,x6,x7,x8,x9,x10]:=h3.set_ 4 y4;have h5:Blk _ g t #[y0,y1,y2,y3,y4,y5,x6,x7,x8,x9,x10]:=h4.set_ 5 y5;have h6:Blk _ g t #[y0,y1,y2,y3,y4,y5,y6,x7,x8,x9,x10]:=h5.set_ 6 y6;have h7:Blk _ g t #[y0,y1,y2,y3,y4,y5,y6,y7,x8,x9,x10]:=h6.set_ 7 y7;have h8:Blk _ g t #[y0,y1,y2,y3,y4,y5,y6,y7,y8,x9,x10]:=h7.set_ 8 y8;have h9:Blk _ g t #[y0,y1,y2,y3,y4,y5,y6,y7,y8,y9,x10]:=h8.set_ 9 y9;have h10:Blk _ g t #[y0,y1,y2,y3,y4,y5,y6,y7,y8,y9,y10]:=h9.set_ 10 y10;exact h10
theorem below_set11 {B:Nat} {a w:World} {g:Nat} (h:Below B a w) (hg:B≤g) (y0 y1 y2 y3 y4 y5 y6 y7 y8 y9 y10:Value):Below B a (World.setCell (World.setCell (World.setCell (World.setCell (World.setCell (World.setCell (World.setCell (World.setCell (World.setCell (World.setCell (World.setCell w ⟨g,0,none⟩ y0) ⟨g,1,none⟩ y1) ⟨g,2,none⟩ y2) ⟨g,3,none⟩ y3) ⟨g,4,none⟩ y4) ⟨g,5,none⟩ y5) ⟨g,6,none⟩ y6) ⟨g,7,none⟩ y7) ⟨g,8,none⟩ y8) ⟨g,9,none⟩ y9) ⟨g,10,none⟩ y10):=(((((((((((h.setCell (p:=⟨g,0,none⟩) hg y0).setCell (p:=⟨g,1,none⟩) hg y1).setCell (p:=⟨g,2,none⟩) hg y2).setCell (p:=⟨g,3,none⟩) hg y3).setCell (p:=⟨g,4,none⟩) hg y4).setCell (p:=⟨g,5,none⟩) hg y5).setCell (p:=⟨g,6,none⟩) hg y6).setCell (p:=⟨g,7,none⟩) hg y7).setCell (p:=⟨g,8,none⟩) hg y8).setCell (p:=⟨g,9,none⟩) hg y9).setCell (p:=⟨g,10,none⟩) hg y10)
theorem OB.far11 {w:World} {base g n c:Nat} {A:Option Addr} {l:List UInt8} (h:OB w base A n c l) (hg:g < base) (y0 y1 y2 y3 y4 y5 y6 y7 y8 y9 y10:Value):OB (World.setCell (World.setCell (World.setCell (World.setCell (World.setCell (World.setCell (World.setCell (World.setCell (World.setCell (World.setCell (World.setCell w ⟨g,0,none⟩ y0) ⟨g,1,none⟩ y1) ⟨g,2,none⟩ y2) ⟨g,3,none⟩ y3) ⟨g,4,none⟩ y4) ⟨g,5,none⟩ y5) ⟨g,6,none⟩ y6) ⟨g,7,none⟩ y7) ⟨g,8,none⟩ y8) ⟨g,9,none⟩ y9) ⟨g,10,none⟩ y10) base A n c l:=(((((((((((h.far hg 0 y0).far hg 1 y1).far hg 2 y2).far hg 3 y3).far hg 4 y4).far hg 5 y5).far hg 6 y6).far hg 7 y7).far hg 8 y8).far hg 9 y9).far hg 10 y10)
end Go.Proofs.YtijegngfclkdaaaGreatDoor
namespace Go.Proofs.YtijegngfclkdaaaGreatDoor
open Go.RowKit
theorem eten:ET Tryz.prog 28 27 11 104 (.agg #[.int .i64 0,.int .i64 0,.string ⟨#[]⟩,.int .i64 0,.int .i64 0,.bool false,.bool false,.int .i64 0,.int .i64 0,.int .i64 0,.slice none 0 0]):=⟨Tryz.underlying28,info_parts (by kernel_rfl),rfl,by decide⟩
theorem etbs:ET Tryz.prog 129 25 1 24 (.slice none 0 0):=⟨Tryz.underlying129,info_parts (by kernel_rfl),rfl,by decide⟩
def EnP (w:World) (F:Nat→Prop) (e:Ent.En) (cs:List Value):Prop:=∃ A n c,cs=enL e A n c∧RBp w F A n c e.dflt
def ByP (w:World) (F:Nat→Prop) (b:List UInt8) (cs:List Value):Prop:=∃ A n c,cs=[.slice A n c]∧RBp w F A n c b
section
variable {F G:Nat→Prop} {w w':World} {e:Ent.En} {b:List UInt8} {cs:List Value}
theorem EnP.mv (h:EnP w F e cs) (hm:Mv G w w') (hd:∀ b,b < w.heap.size→F b→¬ G b):EnP w' F e cs:=by
 obtain ⟨A,n,c,h1,h2⟩:=h;exact ⟨A,n,c,h1,h2.mv hm hd⟩
theorem EnP.mono (h:EnP w F e cs) (hi:∀ b,b < w.heap.size→F b→G b):EnP w G e cs:=by
 obtain ⟨A,n,c,h1,h2⟩:=h;exact ⟨A,n,c,h1,h2.mono hi⟩
theorem ByP.mv (h:ByP w F b cs) (hm:Mv G w w') (hd:∀ b,b < w.heap.size→F b→¬ G b):ByP w' F b cs:=by
 obtain ⟨A,n,c,h1,h2⟩:=h;exact ⟨A,n,c,h1,h2.mv hm hd⟩
theorem ByP.mono (h:ByP w F b cs) (hi:∀ b,b < w.heap.size→F b→G b):ByP w G b cs:=by
 obtain ⟨A,n,c,h1,h2⟩:=h;exact ⟨A,n,c,h1,h2.mono hi⟩
end
def Fx (F:Nat→Prop) (g gv:Nat):Nat→Prop:=fun b=>F b∧b≠g∧b≠gv
structure DRt (t:TypeId) (w:World) (F:Nat→Prop) (g gv:Nat) (lA:Option Addr) (lc:Nat) (vA:Option Addr) (vc:Nat) (xs vs:List Value) (D:Dc.Dic):Prop where
 fg:F g
 ne:g≠gv
 blk:Blk w g t #[.slice lA D.l.length lc,.slice vA D.l.length vc]
 row:RVp w (Fx F g gv) 11 lA D.l.length lc xs
 rows:Rows (EnP w (Fx F g gv)) 11 D.l xs
 own:OV w 0 25 1 vA D.l.length vc vs
 at_:∀ k,(Value.slice vA D.l.length vc).ownBlock=some k→k=gv∧F gv
 vals:Rows (ByP w (Fx F g gv)) 1 D.v vs
 len:D.v.length=D.l.length
 ord:Dc.Ord D.l
 few:D.l.length≤96
 right:∀ e∈D.l,Ent.rightS e=0
section
variable {t:TypeId} {F G:Nat→Prop} {w w':World} {g gv lc vc:Nat} {lA vA:Option Addr} {xs vs:List Value} {D:Dc.Dic}
theorem DRt.mv (h:DRt t w F g gv lA lc vA vc xs vs D) (hm:Mv G w w') (hd:∀ b,b < w.heap.size→F b→¬ G b):DRt t w' F g gv lA lc vA vc xs vs D :=
 have hx:∀ b,b < w.heap.size→Fx F g gv b→¬ G b:=fun b hb hf=>hd b hb hf.1
 {fg:=h.fg,ne:=h.ne,blk:=h.blk.mv hm (hd g h.blk.lt h.fg),row:=h.row.mv hm hx,rows:=h.rows.imp fun _ _ k=>k.mv hm hx
  own:=by
   refine ⟨h.own.1,?_⟩;rcases h.own.2 with h2 | ⟨k,cap,cur,hv,hg,hh,r⟩
   ·exact .inl h2
   ·have hk:=h.at_ k (by rw [hv]; rfl)
    have hlt:k < w.heap.size:=(Array.getElem?_eq_some_iff.1 hh).1;exact .inr ⟨k,cap,cur,hv,hg,(hm.block k hlt (hd k hlt (by rw [hk.1]; exact hk.2))).trans hh,r⟩
  at_:=h.at_,vals:=h.vals.imp fun _ _ k=>k.mv hm hx,len:=h.len,ord:=h.ord,few:=h.few,right:=h.right }
theorem DRt.below (h:DRt t w F g gv lA lc vA vc xs vs D) (hb:Below w.heap.size w w'):DRt t w' F g gv lA lc vA vc xs vs D:=h.mv (Mv.of_new hb fun _=>False) fun _ _ _ h=>h
theorem DRt.mono (h:DRt t w F g gv lA lc vA vc xs vs D) (hi:∀ b,b < w.heap.size→F b→G b):DRt t w G g gv lA lc vA vc xs vs D :=
 have hx:∀ b,b < w.heap.size→Fx F g gv b→Fx G g gv b:=fun b hb hf=>⟨hi b hb hf.1,hf.2⟩
 {fg:=hi g h.blk.lt h.fg,ne:=h.ne,blk:=h.blk,row:=h.row.mono hx,rows:=h.rows.imp fun _ _ k=>k.mono hx,own:=h.own
  at_:=fun k hk=>⟨(h.at_ k hk).1,hi gv (by have:=(h.own.lt k hk).2; rw [(h.at_ k hk).1] at this; exact this) (h.at_ k hk).2⟩
  vals:=h.vals.imp fun _ _ k=>k.mono hx,len:=h.len,ord:=h.ord,few:=h.few,right:=h.right }
theorem Rows.set_one {α:Type} {R:α→List Value→Prop} {fs:List α} {xs:List Value} (h:Rows R 1 fs xs) {k:Nat} {f:α} {u:Value} (hk:k < fs.length) (hf:R f [u]):Rows R 1 (fs.set k f) (xs.set k u):=by
 have hl:=h.len;refine ⟨by rw [List.length_set,List.length_set]; exact hl,fun i f' hi=>?_⟩;rw [List.getElem?_set] at hi;split at hi
 ·rename_i e
  subst e
  first | (rw [if_pos hk] at hi) | skip
  injection hi with hi
  subst hi;have:((xs.set k u).drop (k * 1)).take 1=[u]:=by
   have hlt:k < (xs.set k u).length:=by rw [List.length_set]; omega
   rw [Nat.mul_one,List.drop_eq_getElem_cons hlt,List.take_succ_cons,List.take_zero,List.getElem_set_self]
  rw [this];exact hf
 ·rename_i e
  have h1:=h.2 i f' hi;have:((xs.set k u).drop (i * 1)).take 1=(xs.drop (i * 1)).take 1:=by
   apply List.ext_getElem?
   intro j;rw [List.getElem?_take,List.getElem?_take];split
   ·rw [List.getElem?_drop,List.getElem?_drop,List.getElem?_set_ne (by omega)]
   ·rfl
  rw [this];exact h1
theorem DRt.put {w1:World} {k n c:Nat} {A:Option Addr} {b:List UInt8} (h:DRt t w F g gv lA lc vA vc xs vs D) (hk:k < D.l.length) (hb:Below w.heap.size w w1) (ho:OB w1 w.heap.size A n c b) :
  DRt t (w1.setCell ⟨gv,k,none⟩ (.slice A n c)) (fun q=>F q∨(w.heap.size≤q∧q < w1.heap.size)) g gv lA lc vA vc xs (vs.set k (.slice A n c)) ⟨D.l,D.v.set k b⟩:=by
 have hA:∃ q,vA=some ⟨q,0,none⟩∧q < w.heap.size:=by
  obtain ⟨q,e,_,hq⟩:=h.own.head (by omega);exact ⟨q,e,hq⟩
 obtain ⟨q,rfl,hq⟩:=hA;obtain ⟨rfl,hFq⟩:=h.at_ q rfl;have hgl:=h.blk.lt;have h1:=(h.below hb).mono (G:=fun q=>F q∨(w.heap.size≤q∧q < w1.heap.size)) fun _ _ hf=>.inl hf
 have hm:Mv (fun b=>b=q) w1 (w1.setCell ⟨q,k,none⟩ (.slice A n c)):=Mv.setCell w1 ⟨q,k,none⟩ _;have hx:∀ b,b < w1.heap.size→Fx (fun q=>F q∨(w.heap.size≤q∧q < w1.heap.size)) g q b→¬ b=q:=fun b _ hf=>hf.2.2
 refine { fg:=h1.fg,ne:=h1.ne,blk:=h1.blk.mv hm h1.ne,row:=h1.row.mv hm hx,rows:=h1.rows.imp fun _ _ k=>k.mv hm hx,own:=(h1.own.set k (.slice A n c)).1,at_:=h1.at_,vals:=?_,len:=by rw [List.length_set]; exact h1.len,ord:=h1.ord,few:=h1.few,right:=h1.right };refine Rows.set_one (h1.vals.imp fun _ _ k=>k.mv hm hx) (by rw [h.len]; exact hk) ⟨A,n,c,rfl,?_⟩;have hr:RBp w1 (Fx (fun q=>F q∨(w.heap.size≤q∧q < w1.heap.size)) g q) A n c b:=ho.rbp fun j hj=>by
  have h5:=ho.lt j hj;exact ⟨.inr h5,by omega,by omega⟩
 exact hr.mv hm hx
theorem DRt.two (h:DRt t w F g gv lA lc vA vc xs vs D):w.cell? ⟨g,0,none⟩=some (.slice lA D.l.length lc)∧w.cell? ⟨g,1,none⟩=some (.slice vA D.l.length vc):=⟨h.blk.cell 0,h.blk.cell 1⟩
theorem DRt.lcap (h:DRt t w F g gv lA lc vA vc xs vs D):D.l.length≤lc∧lc≤9223372036854775807:=⟨h.row.le,h.row.cap⟩
theorem DRt.entry (h:DRt t w F g gv lA lc vA vc xs vs D) {i:Nat} (hi:i < D.l.length):∃ b o A n c,lA=some ⟨b,o,none⟩∧b < w.heap.size∧RB w w.heap.size A n c (D.l.getD i Dc.en0).dflt ∧
  ∀ j u,(enL (D.l.getD i Dc.en0) A n c)[j]?=some u→w.cell? ⟨b,o + i * 11 + j,none⟩=some u:=by
 obtain ⟨b,o,rfl,hF,hb,hc⟩:=h.row.at_ (by omega);have hf:D.l[i]?=some (D.l.getD i Dc.en0):=by simp [List.getD,List.getElem?_eq_getElem hi]
 obtain ⟨A,n,c,e,hr⟩:=h.rows.2 i _ hf;refine ⟨b,o,A,n,c,rfl,hb,hr.rb,fun j u hu=>?_⟩;rw [← e,List.getElem?_take] at hu;split at hu
 ·rw [List.getElem?_drop] at hu
  rw [Nat.add_assoc];exact hc _ u hu
 ·cases hu
theorem DRt.value (h:DRt t w F g gv lA lc vA vc xs vs D) {i:Nat} (hi:i < D.l.length):∃ A n c,vA=some ⟨gv,0,none⟩∧F gv∧gv < w.heap.size∧RB w w.heap.size A n c (D.v.getD i [])∧w.cell? ⟨gv,i,none⟩=some (.slice A n c)∧w.frozen? ⟨gv,i,none⟩=false:=by
 obtain ⟨q,rfl,_,hq⟩:=h.own.head (by omega);obtain ⟨e1,e2⟩:=h.at_ q (by rfl);subst e1;have hi':i < D.v.length:=by rw [h.len]; exact hi
 have hf:D.v[i]?=some (D.v.getD i []):=by simp [List.getD,List.getElem?_eq_getElem hi']
 obtain ⟨A,n,c,e,hr⟩:=h.vals.2 i _ hf;refine ⟨A,n,c,rfl,e2,hq,hr.rb,?_,h.own.free i⟩;obtain ⟨b,o,e3,_,hc⟩:=h.own.rv.at_ (by omega);injection e3 with e3
 injection e3 with e3 e4
 subst e3 e4;have hu:vs[i]?=some (.slice A n c):=by
  have h0:((vs.drop (i * 1)).take 1)[0]?=some (Value.slice A n c):=by rw [e]; rfl
  rw [List.getElem?_take,List.getElem?_drop] at h0;simpa using h0
 have:=hc i _ hu
 rwa [Nat.zero_add] at this
end
end Go.Proofs.YtijegngfclkdaaaGreatDoor
namespace Go.Proofs.YtijegngfclkdaaaGreatDoor
open Go.RowKit
def EnB (w:World) (base:Nat) (e:Ent.En) (cs:List Value):Prop:=∃ A n c,cs=enL e A n c∧OB w base A n c e.dflt
def ByB (w:World) (base:Nat) (b:List UInt8) (cs:List Value):Prop:=∃ A n c,cs=[.slice A n c]∧OB w base A n c b
section
variable {w w':World} {base base' g i e size n c:Nat} {t:TypeId} {A:Option Addr} {l:List UInt8} {xs:List Value} {ds:Array Value} {u:Value}
theorem OB.beside (h:OB w base A n c l) {A':Option Addr} {n' c':Nat} {xs':List Value} (h':OV w base' e size A' n' c' xs') (hne:e≠5) (hg:w.grownBy w' (Value.slice A' n' c').ownBlock):OB w' base A n c l:=OB.kept h hg (own_own_ne h' h hne)
theorem OB.off (h:OB w base A n c l) (hb:Blk w g t ds) (ht:t≠5):OB (w.setCell ⟨g,i,none⟩ u) base A n c l :=
 OB.kept h (row:=some g) (grown_setCell (World.grownBy.refl _ _) (.inl rfl) u) (.inr (own_blk_ne h hb (Ne.symm ht)))
theorem OV.off (h:OV w base e size A n c xs) (hb:Blk w g t ds) (ht:t≠e):OV (w.setCell ⟨g,i,none⟩ u) base e size A n c xs :=
 OV.kept h (row:=some g) (grown_setCell (World.grownBy.refl _ _) (.inl rfl) u) (.inr (own_blk_ne h hb (Ne.symm ht)))
theorem OV.beside (h:OV w base e size A n c xs) {e' size':Nat} {A':Option Addr} {n' c':Nat} {xs':List Value} (h':OV w base' e' size' A' n' c' xs') (hne:e'≠e) (hg:w.grownBy w' (Value.slice A' n' c').ownBlock):OV w' base e size A n c xs:=OV.kept h hg (own_own_ne h' h hne)
theorem Blk.beside (h:Blk w g t ds) {A':Option Addr} {n' c':Nat} {xs':List Value} (h':OV w base' e size A' n' c' xs') (hne:e≠t) (hg:w.grownBy w' (Value.slice A' n' c').ownBlock):Blk w' g t ds:=h.grown hg (fun q=>own_blk_ne h' h hne q.symm)
end
section
variable {w w':World} {base g i size n c:Nat} {t e':TypeId} {e:Ent.En} {b:List UInt8} {cs xs:List Value} {A:Option Addr} {ds:Array Value} {u:Value}
theorem EnB.below (h:EnB w base e cs) (hb:Below w.heap.size w w'):EnB w' base e cs:=by obtain ⟨A,n,c,h1,h2⟩:=h; exact ⟨A,n,c,h1,h2.below hb⟩
theorem ByB.below (h:ByB w base b cs) (hb:Below w.heap.size w w'):ByB w' base b cs:=by obtain ⟨A,n,c,h1,h2⟩:=h; exact ⟨A,n,c,h1,h2.below hb⟩
theorem EnB.beside {base':Nat} (h:EnB w base e cs) (h':OV w base' e' size A n c xs) (hne:e'≠5) (hg:w.grownBy w' (Value.slice A n c).ownBlock):EnB w' base e cs:=by obtain ⟨A1,n1,c1,h1,h2⟩:=h; exact ⟨A1,n1,c1,h1,h2.beside h' hne hg⟩
theorem ByB.beside {base':Nat} (h:ByB w base b cs) (h':OV w base' e' size A n c xs) (hne:e'≠5) (hg:w.grownBy w' (Value.slice A n c).ownBlock):ByB w' base b cs:=by obtain ⟨A1,n1,c1,h1,h2⟩:=h; exact ⟨A1,n1,c1,h1,h2.beside h' hne hg⟩
theorem EnB.off (h:EnB w base e cs) (hb:Blk w g t ds) (ht:t≠5):EnB (w.setCell ⟨g,i,none⟩ u) base e cs:=by obtain ⟨A1,n1,c1,h1,h2⟩:=h; exact ⟨A1,n1,c1,h1,h2.off hb ht⟩
theorem ByB.off (h:ByB w base b cs) (hb:Blk w g t ds) (ht:t≠5):ByB (w.setCell ⟨g,i,none⟩ u) base b cs:=by obtain ⟨A1,n1,c1,h1,h2⟩:=h; exact ⟨A1,n1,c1,h1,h2.off hb ht⟩
end
structure NwM (t:TypeId) (w:World) (base g:Nat) (lA:Option Addr) (kl lc:Nat) (vA:Option Addr) (kv vc:Nat) (es:List Ent.En) (bs:List (List UInt8)):Prop where
 gb:base≤g
 blk:Blk w g t #[.slice lA kl lc,.slice vA kv vc]
 row:OS (EnB w base) w base 27 11 lA kl lc es
 vrow:OS (ByB w base) w base 25 1 vA kv vc bs
section
variable {t:TypeId} {w w':World} {base g kl lc kv vc:Nat} {lA vA:Option Addr} {es:List Ent.En} {bs:List (List UInt8)}
theorem NwM.below (h:NwM t w base g lA kl lc vA kv vc es bs) (hb:Below w.heap.size w w'):NwM t w' base g lA kl lc vA kv vc es bs :=
 ⟨h.gb,h.blk.later hb,OS.below h.row hb fun _ _ k=>k.below hb,OS.below h.vrow hb fun _ _ k=>k.below hb⟩
theorem NwM.addl (h:NwM t w base g lA kl lc vA kv vc es bs) (ht:t≠5) (hte:t≠27) (htv:t≠25) {A1:Option Addr} {k1 c1:Nat} {es':List Ent.En} (hrow:OS (EnB w' base) w' base 27 11 A1 k1 c1 es') (hg:w.grownBy w' (Value.slice lA kl lc).ownBlock) :
  NwM t (w'.setCell ⟨g,0,none⟩ (.slice A1 k1 c1)) base g A1 k1 c1 vA kv vc es' bs:=by
 have hr:=h.row;obtain ⟨xs0,r0,_⟩:=hr;have hb:Blk w' g t #[.slice lA kl lc,.slice vA kv vc]:=h.blk.beside r0 (Ne.symm hte) hg;refine ⟨h.gb,hb.set_ 0 _,?_,?_⟩
 ·obtain ⟨ys,o1,o2⟩:=hrow
  exact ⟨ys,o1.off hb hte,o2.imp fun _ _ k=>k.off hb ht⟩
 ·obtain ⟨ys,o1,o2⟩:=h.vrow
  have o1':=OV.beside o1 r0 (by decide) hg;exact ⟨ys,o1'.off hb htv,o2.imp fun _ _ k=>(k.beside r0 (by decide) hg).off hb ht⟩
theorem NwM.addv (h:NwM t w base g lA kl lc vA kv vc es bs) (ht:t≠5) (hte:t≠27) (htv:t≠25) {A1:Option Addr} {k1 c1:Nat} {bs':List (List UInt8)} (hrow:OS (ByB w' base) w' base 25 1 A1 k1 c1 bs') (hg:w.grownBy w' (Value.slice vA kv vc).ownBlock) :
  NwM t (w'.setCell ⟨g,1,none⟩ (.slice A1 k1 c1)) base g lA kl lc A1 k1 c1 es bs':=by
 have hr:=h.vrow;obtain ⟨xs0,r0,_⟩:=hr;have hb:Blk w' g t #[.slice lA kl lc,.slice vA kv vc]:=h.blk.beside r0 (Ne.symm htv) hg;refine ⟨h.gb,hb.set_ 1 _,?_,?_⟩
 ·obtain ⟨ys,o1,o2⟩:=h.row
  have o1':=OV.beside o1 r0 (by decide) hg;exact ⟨ys,o1'.off hb hte,o2.imp fun _ _ k=>(k.beside r0 (by decide) hg).off hb ht⟩
 ·obtain ⟨ys,o1,o2⟩:=hrow
  exact ⟨ys,o1.off hb htv,o2.imp fun _ _ k=>k.off hb ht⟩
theorem NwM.made {n:Nat} (h:NwM t w base g lA n lc vA n vc es bs) (ht:t≠5) (hte:t≠27) (htv:t≠25) (hl:es.length=n) (hbs:bs.length=n) (ho:Dc.Ord es) (h96:n≤96) (hr:∀ e∈es,Ent.rightS e=0) :
  ∃ gv xs vs,DRt t w (fun q=>base≤q) g gv lA lc vA vc xs vs ⟨es,bs⟩:=by
 obtain ⟨xs,r1,r2⟩:=h.row;obtain ⟨vs,v1,v2⟩:=h.vrow;subst hl;have hgl:=h.blk.lt;have hgv:∃ gv,gv≠g∧(∀ k,(Value.slice vA es.length vc).ownBlock=some k→k=gv)∧∀ {e' size' n' c':Nat} {A':Option Addr} {zs:List Value},OV w base e' size' A' n' c' zs→25≠e'→∀ k,(Value.slice A' n' c').ownBlock=some k→k≠gv:=by
  cases hk:(Value.slice vA es.length vc).ownBlock with
  | none=>exact ⟨w.heap.size,by omega,(fun k e=>by cases e),(fun ho _ k hk=>by have:=(ho.lt k hk).2; omega)⟩
  | some q =>
   refine ⟨q,fun e=>own_blk_ne v1 h.blk (Ne.symm htv) (by rw [hk,e]),(fun k e=>by injection e with e; exact e.symm),fun ho hne k hk2 e=>?_⟩;rcases own_own_ne v1 ho hne with h5 | h5
   ·rw [h5] at hk2; cases hk2
   ·exact h5 (by rw [hk2,hk,e])
 obtain ⟨gv,g1,g2,g3⟩:=hgv;have bytes:∀ {A:Option Addr} {n c:Nat} {b:List UInt8},OB w base A n c b→RBp w (Fx (fun q=>base≤q) g gv) A n c b:=fun ho=>ho.rbp fun k hk =>
  ⟨(ho.lt k hk).1,fun e=>own_blk_ne ho h.blk (Ne.symm ht) (by rw [hk,e]),g3 (A':=_) (zs:=_) ho (by decide) k hk⟩
 refine ⟨gv,xs,vs,{ fg:=h.gb,ne:=Ne.symm g1,blk:=h.blk,row:=r1.rvp fun k hk=>⟨(r1.lt k hk).1,fun e=>own_blk_ne r1 h.blk (Ne.symm hte) (by rw [hk,e]),g3 r1 (by decide) k hk⟩,rows:=r2.imp fun e cs he=>?_,own:=v1.more (Nat.zero_le _),at_:=fun k hk=>?_,vals:=v2.imp fun b cs hb=>?_,len:=hbs,ord:=ho,few:=h96,right:=hr }⟩
 ·obtain ⟨A,n,c,e1,e2⟩:=he
  exact ⟨A,n,c,e1,bytes e2⟩
 ·have:=g2 k hk
  exact ⟨this,by rw [← this]; exact (v1.lt k hk).1⟩
 ·obtain ⟨A,n,c,e1,e2⟩:=hb
  exact ⟨A,n,c,e1,bytes e2⟩
end
def EnC (w:World) (B:Nat) (e:Ent.En) (cs:List Value):Prop:=∃ A n c,cs=enL e A n c∧RB w B A n c e.dflt
def REn (w:World) (B B':Nat) (A:Option Addr) (n c:Nat) (es:List Ent.En):Prop:=RS (EnC w B') w B 11 A n c es
section
variable {w w':World} {B B' n c:Nat} {A:Option Addr} {es:List Ent.En}
theorem REn.len (h:REn w B B' A n c es):es.length=n:=RS.len h (by decide)
theorem REn.lt (h:REn w B B' A n c es):n≤9223372036854775807:=RS.lt h
theorem REn.at_ (h:REn w B B' A n c es) {i:Nat} (hi:i < n):∃ b o A1 n1 c1,A=some ⟨b,o,none⟩∧b < B∧RB w B' A1 n1 c1 (es.getD i Dc.en0).dflt ∧
  ∀ j u,(enL (es.getD i Dc.en0) A1 n1 c1)[j]?=some u→w.cell? ⟨b,o + i * 11 + j,none⟩=some u:=by
 have hl:=h.len;have hf:es[i]?=some (es.getD i Dc.en0):=by simp [List.getD,List.getElem?_eq_getElem (show i < es.length by omega)]
 obtain ⟨b,o,cs,rfl,hb,⟨A1,n1,c1,rfl,hr⟩,hc⟩:=RS.at_ h (by decide) hf;exact ⟨b,o,A1,n1,c1,rfl,hb,hr,fun j u hu=>hc j u (by have:=(List.getElem?_eq_some_iff.1 hu).1; simpa [enL] using this) hu⟩
end
theorem en_oneCell (e:Ent.En) (A:Option Addr) (n c:Nat):∀ u∈enL e A n c,u.oneCell'=true:=by
 intro u hu;simp only [enL,List.mem_cons,List.not_mem_nil,or_false] at hu;rcases hu with rfl | rfl | rfl | rfl | rfl | rfl | rfl | rfl | rfl | rfl | rfl <;> rfl
theorem newF_step {l:List Ent.En} {k n:Nat} (h:k < n):Dc.newF l (n - k) k=if Ent.rightS (l.getD k Dc.en0)≠0 then (Ent.rightS (l.getD k Dc.en0),k) else if 0 < k∧Ent.befB (l.getD (k - 1) Dc.en0) (l.getD k Dc.en0)=false then (16,k) else Dc.newF l (n - (k + 1)) (k + 1):=by
 obtain ⟨m,hm⟩:∃ m,n - k=m + 1:=⟨n - k - 1,by omega⟩;rw [hm,Dc.newF,show n - (k + 1)=m by omega]
def NewPost (t:TypeId) (es:List Ent.En) (w:World) (e:Ending) (w':World):Prop :=
 ((Dc.newS es).1=0∧Below w.heap.size w w'∧∃ (g gv lc vc:Nat) (la:Addr) (vA:Option Addr) (xs vs:List Value),e=.returned (.tuple #[.pointer (some ⟨g,0,none⟩),.int .i64 0,.int .i64 0])∧DRt t w' (fun q=>w.heap.size≤q) g gv (some la) lc vA vc xs vs ⟨es,es.map (·.dflt)⟩) ∨
 ((Dc.newS es).1≠0∧Below w.heap.size w w'∧e=.returned (.tuple #[.pointer none,.int .i64 (Dc.newS es).1,.int .i64 ((Dc.newS es).2:Int)]))
theorem new_no {t:TypeId} {es:List Ent.En} {w w':World} {x y:Int} {q:Nat} (h:Dc.newS es=(x,q)) (hx:x≠0) (hy:y=(q:Int)) (hb:Below w.heap.size w w'):NewPost t es w (.returned (.tuple #[.pointer none,.int .i64 x,.int .i64 y])) w':=by
 subst hy;exact .inr ⟨by rw [h]; exact hx,hb,by rw [h]⟩
end Go.Proofs.YtijegngfclkdaaaGreatDoor
namespace Go.Proofs.YtijegngfclkdaaaGreatDoor
open Go.RowKit
structure Fla where
 b:List UInt8
 wear:List Nat
 most:Int
 off:Bool
 ahead:Int
 mask:Int
 ops:Int
def nv (k:Nat):Value:=.int .i64 (k:Int)
structure FlM (w:World) (base g:Nat) (A:Option Addr) (n c:Nat) (A':Option Addr) (m c':Nat) (f:Fla):Prop where
 gb:base≤g
 blk:Blk w g 93 #[.slice A n c,.slice A' m c',.int .i64 f.most,.bool f.off,.int .i64 f.ahead,.int .u32 f.mask,.int .i64 f.ops]
 row:OB w base A n c f.b
 worn:OV w base 3 1 A' m c' (f.wear.map nv)
section
variable {w w':World} {base g n c m c':Nat} {A A':Option Addr} {f:Fla}
theorem FlM.below (h:FlM w base g A n c A' m c' f) (hb:Below w.heap.size w w'):FlM w' base g A n c A' m c' f:=⟨h.gb,h.blk.later hb,h.row.below hb,h.worn.below hb⟩
theorem FlM.len (h:FlM w base g A n c A' m c' f):f.wear.length=m:=by have:=h.worn.rv.len; simpa using this
theorem FlM.seven (h:FlM w base g A n c A' m c' f):(w.cell? ⟨g,0,none⟩=some (.slice A n c)∧w.cell? ⟨g,1,none⟩=some (.slice A' m c')∧w.cell? ⟨g,2,none⟩=some (.int .i64 f.most)∧w.cell? ⟨g,3,none⟩=some (.bool f.off)∧w.cell? ⟨g,4,none⟩=some (.int .i64 f.ahead)∧w.cell? ⟨g,5,none⟩=some (.int .u32 f.mask)∧w.cell? ⟨g,6,none⟩=some (.int .i64 f.ops)) ∧
  (w.frozen? ⟨g,2,none⟩=false∧w.frozen? ⟨g,3,none⟩=false∧w.frozen? ⟨g,4,none⟩=false∧w.frozen? ⟨g,5,none⟩=false∧w.frozen? ⟨g,6,none⟩=false) :=
 ⟨⟨h.blk.cell 0,h.blk.cell 1,h.blk.cell 2,h.blk.cell 3,h.blk.cell 4,h.blk.cell 5,h.blk.cell 6⟩,h.blk.frozen 2,h.blk.frozen 3,h.blk.frozen 4,h.blk.frozen 5,h.blk.frozen 6⟩
theorem FlM.set_ (h:FlM w base g A n c A' m c' f) {i:Nat} {u:Value} {f':Fla} (hb:Blk (w.setCell ⟨g,i,none⟩ u) g 93 #[.slice A n c,.slice A' m c',.int .i64 f'.most,.bool f'.off,.int .i64 f'.ahead,.int .u32 f'.mask,.int .i64 f'.ops]) (h1:f'.b=f.b) (h2:f'.wear=f.wear):FlM (w.setCell ⟨g,i,none⟩ u) base g A n c A' m c' f' :=
 ⟨h.gb,hb,by rw [h1]; exact h.row.off h.blk (by decide),by rw [h2]; exact h.worn.off h.blk (by decide)⟩
set_option maxHeartbeats 1000000
theorem fOps_any (h:FlM w base g A n c A' m c' f):Calls Tryz.prog 11 #[.pointer (some ⟨g,0,none⟩)] w fun e w'=>e=.returned (.int .i64 f.ops)∧w=w':=by
 have F:=h.seven;clear h;go_enter Tryz.func11,Tryz.ntmps11
 go_wp2_with fail
 go_ret
 exact ⟨rfl,rfl⟩
theorem fOn_any (h:FlM w base g A n c A' m c' f):Calls Tryz.prog 184 #[.pointer (some ⟨g,0,none⟩)] w fun e w'=>e=.returned (.bool (!f.off))∧w=w':=by
 have F:=h.seven;clear h;go_enter Tryz.func184,Tryz.ntmps184
 go_wp2_with fail
 go_ret
 exact ⟨rfl,rfl⟩
theorem fSectors_any (h:FlM w base g A n c A' m c' f):Calls Tryz.prog 185 #[.pointer (some ⟨g,0,none⟩)] w fun e w'=>e=.returned (.int .i64 (m:Int))∧w=w':=by
 have F:=h.seven;clear h;go_enter Tryz.func185,Tryz.ntmps185
 go_wp2_with fail
 go_ret
 exact ⟨rfl,rfl⟩
theorem fthere_any (h:FlM w base g A n c A' m c' f) (s:Int):Calls Tryz.prog 44 #[.pointer (some ⟨g,0,none⟩),.int .i64 s] w fun e w'=>e=.returned (.bool (decide (0≤s∧s < (m:Int))))∧w=w':=by
 have F:=h.seven;clear h
 by_cases h1:0≤s
 ·have e1:decide (0≤s)=true:=decide_eq_true h1
  go_enter Tryz.func44,Tryz.ntmps44
  go_wp2_with fail
  go_ret
  exact ⟨ret_bool (by simp [h1]),rfl⟩
 ·have e1:decide (0≤s)=false:=decide_eq_false h1
  go_enter Tryz.func44,Tryz.ntmps44
  go_wp2_with fail
  go_ret
  exact ⟨ret_bool (by simp [h1]),rfl⟩
theorem fStart_any (h:FlM w base g A n c A' m c' f):Calls Tryz.prog 113 #[.pointer (some ⟨g,0,none⟩)] w fun e w'=>e=.returned (.tuple #[])∧Mv (fun q=>q=g) w w'∧FlM w' base g A n c A' m c' { f with off:=false }:=by
 have F:=h.seven;have H2:=Lib.hid (h.set_ (i:=3) (u:=.bool false) (f':={ f with off:=false }) (h.blk.set_ 3 (.bool false)) rfl rfl);clear h;go_enter Tryz.func113,Tryz.ntmps113
 go_wp2_with fail
 go_end0
 exact ⟨rfl,Mv.setCell _ ⟨g,3,none⟩ _,H2.out⟩
theorem fCut_any (h:FlM w base g A n c A' m c' f) (k z:Int) (hk:0≤k):Calls Tryz.prog 9 #[.pointer (some ⟨g,0,none⟩),.int .i64 k,.int .u32 z] w fun e w'=>e=.returned (.int .i64 0)∧Mv (fun q=>q=g) w w'∧FlM w' base g A n c A' m c' { f with ahead:=k,mask:=z }:=by
 have F:=h.seven;have H1:=h.set_ (i:=4) (u:=.int .i64 k) (f':={ f with ahead:=k }) (h.blk.set_ 4 (.int .i64 k)) rfl rfl;have F1:=H1.seven;have H2:=Lib.hid (H1.set_ (i:=5) (u:=.int .u32 z) (f':={ f with ahead:=k,mask:=z }) (H1.blk.set_ 5 (.int .u32 z)) rfl rfl);have e1:decide (k < 0)=false:=decide_eq_false (by omega);clear h H1;go_enter Tryz.func9,Tryz.ntmps9
 go_wp2_with fail
 go_ret
 exact ⟨rfl,(Mv.setCell _ ⟨g,4,none⟩ _).trans (Mv.setCell _ ⟨g,5,none⟩ _) fun _ _ e=>e,H2.out⟩
end
end Go.Proofs.YtijegngfclkdaaaGreatDoor
