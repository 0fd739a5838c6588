/-
  Piece 9 of the proof.
  Conditions: none.
-/
import Derived.WalkKit
import Derived.WalkSpells
import Derived.WalkLawsBesides
import Derived.Lib.Hide
import Derived.Deep.AppendLies
import Derived.Deep.Draws
import Derived.Laws.CopyOwn
import Derived.Maps.AppendAt
import Derived.Lib.SlBytesConst
import Derived.OrdersHeld
import Derived.Deep.QuietTactic
import Derived.BigQuiet
import Derived.Deep.RegionHeld3
import Derived.Lib.QuietBelow
import Derived.Test.YtijegngfclkdaaaGreatDoorQ00
set_option linter.unusedVariables false
set_option linter.unusedSimpArgs false
set_option maxHeartbeats 100000000
set_option maxRecDepth 100000
namespace Go.Proofs.YtijegngfclkdaaaGreatDoor
section
open Go.RowKit
def bv (c:UInt8):Value:=.int .u8 (c.toNat:Int)
structure RB (w:World) (B:Nat) (A:Option Addr) (n c:Nat) (l:List UInt8):Prop where
 len:l.length=n
 le:n<=c
 cap:c<=9223372036854775807
 nil:A=none->n=0/\c=0
 at_:0 < n->∃ b o,A=some ⟨b,o,none⟩/\b < B/\∀ i,i < n->w.cell? ⟨b,o + i,none⟩=some (.int .u8 ((l.getD i 0).toNat:Int))
def OB (w:World) (base:Nat) (A:Option Addr) (n c:Nat) (l:List UInt8):Prop:=w.ownsRow base 5 1 (.slice A n c) n (l.map bv)
theorem nG (c:UInt8):c.toNat < 256:=c.toNat_lt
theorem mh (l:List UInt8) (i:Nat):((l.getD i 0).toNat:Int) < 256:=by have:=(l.getD i 0).toNat_lt; omega
theorem ub (x y:UInt8):((x.toNat:Int) == (y.toNat:Int))=(x == y):=by
 rw [Bool.eq_iff_iff,beq_iff_eq,beq_iff_eq];exact ⟨fun h=>UInt8.toNat_inj.1 (by omega),fun h=>by rw [h]⟩
section
variable {w w':World} {B B' n c:Nat} {A:Option Addr} {l:List UInt8}
theorem RB.none_:RB w B none 0 0 []:=⟨rfl,Nat.le_refl _,by omega,fun _=>⟨rfl,rfl⟩,fun h=>absurd h (by omega)⟩
theorem RB.dX (h:RB w B A n c l) (hk:∀ p:Addr,p.block < B->w'.cell? p=w.cell? p):RB w' B A n c l :=
 ⟨h.len,h.le,h.cap,h.nil,fun hn=>by
  obtain ⟨b,o,e,hb,hc⟩:=h.at_ hn;exact ⟨b,o,e,hb,fun i hi=>(hk _ hb).trans (hc i hi)⟩⟩
theorem RB.below (h:RB w B A n c l) (hb:Below B w w'):RB w' B A n c l:=h.dX fun _ hp=>hb.cell hp
theorem RB.alloc (h:RB w B A n c l) (hB:B<=w.heap.size) (o:Obj):RB (w.alloc o) B A n c l:=h.dX fun p hp=>World.cell?_alloc_lt w o p (by omega)
theorem RB.drew (h:RB w B A n c l):RB w.drew B A n c l:=⟨h.len,h.le,h.cap,h.nil,h.at_⟩
theorem RB.drewN (h:RB w B A n c l) (k:Nat):RB (w.drewN k) B A n c l:=⟨h.len,h.le,h.cap,h.nil,h.at_⟩
theorem RB.lt (h:RB w B A n c l):n<=9223372036854775807:=Nat.le_trans h.le h.cap
theorem RB.take (h:RB w B A n c l) {k:Nat} (hk:k<=n):RB w B A k c (l.take k) :=
 ⟨by rw [List.length_take,h.len]; omega,Nat.le_trans hk h.le,h.cap,fun e=>⟨by have:=(h.nil e).1; omega,(h.nil e).2⟩,fun hn=>by
  obtain ⟨b,o,e,hb,hc⟩:=h.at_ (by omega);refine ⟨b,o,e,hb,fun i hi=>?_⟩;rw [hc i (by omega)];simp [List.getD,List.getElem?_take,hi]⟩
theorem RB.drop (h:RB w B A n c l) {k:Nat} (hk:k<=n):RB w B (if c=k then A else A.map (·.add k)) (n - k) (c - k) (l.drop k) :=
 ⟨by rw [List.length_drop,h.len],by have:=h.le; omega,by have:=h.cap; omega,fun e=>by
  have hA:A=none:=by
   split at e
   ·exact e
   ·simpa using e
  have:=h.nil hA; omega,fun hn=>by
  obtain ⟨b,o,rfl,hb,hc⟩:=h.at_ (by omega);rw [if_neg (by have:=h.le; omega)];refine ⟨b,o + k,by simp [Addr.add_lit],hb,fun i hi=>?_⟩;rw [Nat.add_assoc,hc (k + i) (by omega)];simp [List.getD,List.getElem?_drop]⟩
theorem OB.rb {base:Nat} (h:OB w base A n c l):RB w w.heap.size A n c l:=by
 obtain ⟨hl,hr⟩:=h;have hlen:l.length=n:=by simpa using hl
 rcases hr with ⟨hv,hn⟩ | ⟨g,cap,cur,hv,hb,hg,hnc,hcm,hcs,ht⟩
 ·injection hv with h1 h2 h3
  subst h1 h2 h3;exact ⟨hlen,Nat.le_refl _,by omega,fun _=>⟨rfl,rfl⟩,fun h=>absurd h (by omega)⟩
 ·injection hv with h1 h2 h3
  subst h1 h3;have hcap:c<=9223372036854775807:=by simpa [maxLen] using hcm
  refine ⟨hlen,hnc,hcap,(fun e=>by cases e),fun hn=>⟨g,0,rfl,(Array.getElem?_eq_some_iff.1 hg).1,fun i hi=>?_⟩⟩;rw [Nat.zero_add,cell_of_row w g i cur _ (0,0) hg];have:(l.map bv)[i]?=cur.toList[i]?:=by rw [<- ht,List.getElem?_take,if_pos (by omega)]
  rw [<- Array.getElem?_toList,<- this];simp [List.getD,List.getElem?_eq_getElem (show i < l.length by omega),bv]
theorem OB.more {base base':Nat} (h:OB w base A n c l) (hb:base'<=base):OB w base' A n c l:=by
 refine ⟨h.1,?_⟩;rcases h.2 with h2 | ⟨g,cap,cur,hv,hg,r⟩
 ·exact .inl h2
 ·exact .inr ⟨g,cap,cur,hv,by omega,r⟩
theorem OB.below {base:Nat} (h:OB w base A n c l) (hb:Below w.heap.size w w'):OB w' base A n c l:=by
 refine ⟨h.1,?_⟩;rcases h.2 with h2 | ⟨g,cap,cur,hv,hg,hh,r⟩
 ·exact .inl h2
 ·exact .inr ⟨g,cap,cur,hv,hg,(hb.block g (Array.getElem?_eq_some_iff.1 hh).1).trans hh,r⟩
theorem RB.conv {P:Program} (h:RB w B A n c l) (src e:TypeId) (hs:P.underlying src=some (.slice e)) (he:P.underlying e=some (.int .u8)) :
  ∀ dst,P.underlying dst=some .string->(convert src dst (.slice A n c)).run P w=.ok (.string ⟨l.toArray⟩) w:=by
 intro dst hd
 by_cases hn:0 < n
 ·obtain ⟨b,o,rfl,hb,hc⟩:=h.at_ hn
  have:=run_convert_bytes_arg (P:=P) w src e hs he b o n c (l.map fun x=>(x.toNat:Int)) (by simpa using h.len) (fun i hi=>by
   rw [hc i hi];simp [List.getD,List.getElem?_eq_getElem (show i < l.length by rw [h.len]; exact hi)]) dst hd
  rw [this]
  congr 2
  simp [strOfNums,List.map_map,Function.comp_def]
 ·obtain rfl:n=0:=by omega
  have hl:l=[]:=List.eq_nil_of_length_eq_zero h.len;subst hl;cases A with
  | none=>exact run_convert_bytes_nil w src e hs he _ _ dst hd
  | some ad =>
   have:=run_bytesToString (P:=P) w ad 0 c [] (by simp [loadCells,loadCellsFrom]);rw [run_convert_bytes_string w src dst e _ 0 c hs he hd,this];rfl
end
theorem Qo {W w1:World} (hb:Below W.heap.size W w1):(∀ b o,b < W.heap.size->w1.cell? ⟨b,o,none⟩=W.cell? ⟨b,o,none⟩)/\(∀ b o,b < W.heap.size->w1.frozen? ⟨b,o,none⟩=W.frozen? ⟨b,o,none⟩) :=
 ⟨fun b o h=>hb.cell (p:=⟨b,o,none⟩) h,fun b o h=>hb.frozen (p:=⟨b,o,none⟩) h⟩
theorem eS {k:IntKind} {a b:Int} (h:a=b):Ending.returned (.int k a)=.returned (.int k b):=by rw [h]
theorem bI {a b:Bool} (h:a=b):Ending.returned (.bool a)=.returned (.bool b):=by rw [h]
theorem ae (w:World) (o:Obj):Below w.heap.size w (w.alloc o):=(Below.refl _ _).alloc lq o
theorem bZ (w:World) (o o':Obj):Below w.heap.size w ((w.alloc o).alloc o'):=(ae w o).alloc (by simp) o'
theorem below_drewN {B:Nat} {a w:World} (h:Below B a w) (n:Nat):Below B a (w.drewN n):=⟨h.os,h.tape,h.output,h.size,h.block⟩
theorem aa {B:Nat} {a b c:World} (h:Below B a b) (k:Below b.heap.size b c) (hB:B<=a.heap.size):Below B a c :=
 h.trans (k.mono (Nat.le_trans hB h.size))
structure RV (w:World) (B size:Nat) (A:Option Addr) (n c:Nat) (xs:List Value):Prop where
 len:xs.length=n * size
 le:n<=c
 cap:c<=9223372036854775807
 nil:A=none->n=0/\c=0
 at_:0 < n->∃ b o,A=some ⟨b,o,none⟩/\b < B/\∀ j u,xs[j]?=some u->w.cell? ⟨b,o + j,none⟩=some u
def OV (w:World) (base e size:Nat) (A:Option Addr) (n c:Nat) (xs:List Value):Prop:=w.ownsRow base e size (.slice A n c) n xs
section
variable {w w':World} {B B' size n c e:Nat} {A:Option Addr} {xs:List Value} {l:List UInt8}
theorem RV.none_:RV w B size none 0 0 []:=⟨by simp,Nat.le_refl _,by omega,fun _=>⟨rfl,rfl⟩,fun h=>absurd h (by omega)⟩
theorem RV.dX (h:RV w B size A n c xs) (hk:∀ p:Addr,p.block < B->w'.cell? p=w.cell? p):RV w' B size A n c xs :=
 ⟨h.len,h.le,h.cap,h.nil,fun hn=>by
  obtain ⟨b,o,e,hb,hc⟩:=h.at_ hn;exact ⟨b,o,e,hb,fun j u hu=>(hk _ hb).trans (hc j u hu)⟩⟩
theorem RV.more (h:RV w B size A n c xs) (hB:B<=B'):RV w B' size A n c xs :=
 ⟨h.len,h.le,h.cap,h.nil,fun hn=>by
  obtain ⟨b,o,e,hb,hc⟩:=h.at_ hn;exact ⟨b,o,e,by omega,hc⟩⟩
theorem RV.below (h:RV w B size A n c xs) (hb:Below B w w'):RV w' B size A n c xs:=h.dX fun _ hp=>hb.cell hp
theorem RV.alloc (h:RV w B size A n c xs) (hB:B<=w.heap.size) (o:Obj):RV (w.alloc o) B size A n c xs:=h.dX fun p hp=>World.cell?_alloc_lt w o p (by omega)
theorem RV.drew (h:RV w B size A n c xs):RV w.drew B size A n c xs:=⟨h.len,h.le,h.cap,h.nil,h.at_⟩
theorem RB.rv (h:RB w B A n c l):RV w B 1 A n c (l.map bv) :=
 ⟨by simpa using h.len,h.le,h.cap,h.nil,fun hn=>by
  obtain ⟨b,o,rfl,hb,hc⟩:=h.at_ hn;refine ⟨b,o,rfl,hb,fun j u hu=>?_⟩;have hj:j < l.length:=by have:=(List.getElem?_eq_some_iff.1 hu).1; simpa using this
  rw [hc j (by rw [<- h.len]; exact hj)];simp [List.getElem?_eq_getElem hj] at hu;simp [List.getD,List.getElem?_eq_getElem hj,<- hu,bv]⟩
theorem OV.rv {base:Nat} (h:OV w base e size A n c xs):RV w w.heap.size size A n c xs:=by
 obtain ⟨hl,hr⟩:=h;rcases hr with ⟨hv,hn⟩ | ⟨g,cap,cur,hv,hb,hg,hnc,hcm,hcs,ht⟩
 ·injection hv with h1 h2 h3
  subst h1 h2 h3;exact ⟨hl,Nat.le_refl _,by omega,fun _=>⟨rfl,rfl⟩,fun h=>absurd h (by omega)⟩
 ·injection hv with h1 h2 h3
  subst h1 h3;have hcap:c<=9223372036854775807:=by simpa [maxLen] using hcm
  refine ⟨hl,hnc,hcap,(fun e=>by cases e),fun hn=>⟨g,0,rfl,(Array.getElem?_eq_some_iff.1 hg).1,fun j u hu=>?_⟩⟩;rw [Nat.zero_add,cell_of_row w g j cur _ (0,0) hg,<- Array.getElem?_toList];rw [<- ht,List.getElem?_take] at hu;split at hu
  ·exact hu
  ·cases hu
theorem OV.more {base base':Nat} (h:OV w base e size A n c xs) (hb:base'<=base):OV w base' e size A n c xs:=by
 refine ⟨h.1,?_⟩;rcases h.2 with h2 | ⟨g,cap,cur,hv,hg,r⟩
 ·exact .inl h2
 ·exact .inr ⟨g,cap,cur,hv,by omega,r⟩
theorem OV.below {base:Nat} (h:OV w base e size A n c xs) (hb:Below w.heap.size w w'):OV w' base e size A n c xs:=by
 refine ⟨h.1,?_⟩;rcases h.2 with h2 | ⟨g,cap,cur,hv,hg,hh,r⟩
 ·exact .inl h2
 ·exact .inr ⟨g,cap,cur,hv,hg,(hb.block g (Array.getElem?_eq_some_iff.1 hh).1).trans hh,r⟩
theorem OV.none_ (w:World) (base e size:Nat):OV w base e size none 0 0 []:=World.ownsRow_nil _ _ _ _
theorem OV.alloc {base:Nat} (h:OV w base e size A n c xs) (o:Obj):OV (w.alloc o) base e size A n c xs:=World.ownsRow.alloc h o
theorem OB.none_ (w:World) (base:Nat):OB w base none 0 0 []:=World.ownsRow_nil _ _ _ _
theorem OB.alloc {base:Nat} (h:OB w base A n c l) (o:Obj):OB (w.alloc o) base A n c l:=World.ownsRow.alloc h o
theorem OV.kept {base:Nat} {row:Option Nat} (h:OV w base e size A n c xs) (hg:w.grownBy w' row) (hne:(Value.slice A n c).ownBlock=none\/(Value.slice A n c).ownBlock≠row):OV w' base e size A n c xs:=World.ownsRow.kept h hg hne
theorem OB.kept {base:Nat} {row:Option Nat} (h:OB w base A n c l) (hg:w.grownBy w' row) (hne:(Value.slice A n c).ownBlock=none\/(Value.slice A n c).ownBlock≠row):OB w' base A n c l:=World.ownsRow.kept h hg hne
theorem OV.new {base:Nat} (w:World) (cs:List Value) (m:Nat) (hl:cs.length=m * size) (hm:m<=9223372036854775807) (hb:base<=w.heap.size) :
  OV (w.alloc (.cells cs.toArray e)) base e size (some ⟨w.heap.size,0,none⟩) m m cs :=
 ⟨hl,.inr ⟨w.heap.size,m,cs.toArray,rfl,hb,heap_alloc_new w _,Nat.le_refl _,by simpa [maxLen] using hm,by simpa using hl,by simp [<- hl]⟩⟩
theorem OB.new {base:Nat} (w:World) (l:List UInt8) (m:Nat) (hl:l.length=m) (hm:m<=9223372036854775807) (hb:base<=w.heap.size) :
  OB (w.alloc (.cells (l.map bv).toArray 5)) base (some ⟨w.heap.size,0,none⟩) m m l:=OV.new w (l.map bv) m (by simpa using hl) hm hb
theorem RB.one (w:World) (c:UInt8):RB (w.alloc (.cells #[.int .u8 (c.toNat:Int)] 5)) (w.heap.size + 1) (some ⟨w.heap.size,0,none⟩) 1 1 [c]:=by
 have h:=(OB.new (base:=0) w [c] 1 rfl (by omega) (by omega)).rb;simpa [bv] using h
theorem RB.lit (w:World) (cs:List Value) (l:List UInt8) (h:cs=l.map bv) {n:Nat} (hn:l.length=n) (hm:n<=9223372036854775807):RB (w.alloc (.cells cs.toArray 5)) (w.heap.size + 1) (some ⟨w.heap.size,0,none⟩) n n l:=by
 subst h;have h:=(OB.new (base:=0) w l n hn hm (by omega)).rb;simpa using h
theorem OV.lt {base:Nat} (h:OV w base e size A n c xs):∀ k,(Value.slice A n c).ownBlock=some k->base<=k/\k < w.heap.size:=World.ownsRow.lt h
theorem OB.lt {base:Nat} (h:OB w base A n c l):∀ k,(Value.slice A n c).ownBlock=some k->base<=k/\k < w.heap.size:=World.ownsRow.lt h
theorem OB.head {base:Nat} (h:OB w base A n c l) (hn:0 < n):∃ g,A=some ⟨g,0,none⟩/\base<=g/\g < w.heap.size:=by
 rcases h.2 with ⟨hv,h0⟩ | ⟨g,cap,cur,hv,hb,hg,_⟩
 ·omega
 ·injection hv with h1
  exact ⟨g,h1,hb,(Array.getElem?_eq_some_iff.1 hg).1⟩
theorem OV.head {base:Nat} (h:OV w base e size A n c xs) (hn:0 < n):∃ g,A=some ⟨g,0,none⟩/\base<=g/\g < w.heap.size:=by
 rcases h.2 with ⟨hv,h0⟩ | ⟨g,cap,cur,hv,hb,hg,_⟩
 ·omega
 ·injection hv with h1
  exact ⟨g,h1,hb,(Array.getElem?_eq_some_iff.1 hg).1⟩
theorem OB.set {base g:Nat} (h:OB w base (some ⟨g,0,none⟩) n c l) (j:Nat) (x:UInt8) :
  OB (w.setCell ⟨g,j,none⟩ (.int .u8 (x.toNat:Int))) base (some ⟨g,0,none⟩) n c (l.set j x)/\w.grownBy (w.setCell ⟨g,j,none⟩ (.int .u8 (x.toNat:Int))) (some g):=by
 have:=World.ownsRow.stored h j (.int .u8 (x.toNat:Int));refine ⟨?_,this.2⟩;unfold OB;rw [List.map_set];exact this.1
theorem OB.EM {base g:Nat} (h:OB w base (some ⟨g,0,none⟩) n c l) (j:Nat) {v:Int} (x:UInt8) (hv:v=(x.toNat:Int)) :
  OB (w.setCell ⟨g,j,none⟩ (.int .u8 v)) base (some ⟨g,0,none⟩) n c (l.set j x)/\w.grownBy (w.setCell ⟨g,j,none⟩ (.int .u8 v)) (some g):=by
 subst hv; exact h.set j x
theorem OV.set {base g:Nat} (h:OV w base e size (some ⟨g,0,none⟩) n c xs) (j:Nat) (u:Value) :
  OV (w.setCell ⟨g,j,none⟩ u) base e size (some ⟨g,0,none⟩) n c (xs.set j u)/\w.grownBy (w.setCell ⟨g,j,none⟩ u) (some g):=World.ownsRow.stored h j u
theorem OB.cell {base g:Nat} (h:OB w base (some ⟨g,0,none⟩) n c l) {i:Nat} (hi:i < n):w.cell? ⟨g,i,none⟩=some (.int .u8 ((l.getD i 0).toNat:Int)):=by
 obtain ⟨b,o,e1,_,hc⟩:=h.rb.at_ (by omega);injection e1 with e1
 injection e1 with e1 e2
 subst e1 e2;have:=hc i hi
 rwa [Nat.zero_add] at this
theorem OB.free {base g:Nat} (h:OB w base (some ⟨g,0,none⟩) n c l) (j:Nat):w.frozen? ⟨g,j,none⟩=false:=World.ownsRow.frozenAt h j
theorem OV.free {base g:Nat} (h:OV w base e size (some ⟨g,0,none⟩) n c xs) (j:Nat):w.frozen? ⟨g,j,none⟩=false:=World.ownsRow.frozenAt h j
end
theorem eQ {a w:World} {row:Option Nat} (h:a.grownBy w row) {p:Addr} (hp:some p.block=row\/a.heap.size<=p.block) (u:Value):a.grownBy (w.setCell p u) row :=
 ⟨h.os,h.tape,h.output,by simpa [World.setCell] using h.size,fun i hi hne=>(Below.heap_setCell w p u i (by
  rintro rfl;rcases hp with hp | hp
  ·exact hne hp
  ·omega)).trans (h.block i hi hne)⟩
theorem pj {a w:World} (h:Below a.heap.size a w) (row:Option Nat):a.grownBy w row:=⟨h.os,h.tape,h.output,h.size,fun i hi _=>h.block i hi⟩
structure ET (P:Program) (T E size bytes:Nat) (z:Value):Prop where
 sl:P.underlying T=some (.slice E)
 info:∃ i,P.info? E=some i/\i.zero=some z/\i.size=size/\i.bytes=bytes
 zc:z.cells.size=size
 pos:0 < size
section
variable {P:Program}
theorem zG {T E size bytes:Nat} {z:Value} (ht:ET P T E size bytes z) (ty:TypeId) (w:World) (base:Nat) {A:Option Addr} {n c:Nat} {xs:List Value} (hown:OV w base E size A n c xs)
  {B:Nat} {A':Option Addr} {m c':Nat} {news:List Value} (hr:RV w B size A' m c' news) (h1:∀ u∈news,u.oneCell'=true)
  (hbytes:(n + m) * bytes<=140737488355328) (h63:n + m<=9223372036854775807) (hbase:base<=w.heap.size) :
  ∃ A1 c1 w1,(Builtin.append_ #[T,T] ty #[.slice A n c,.slice A' m c']).run P w=.ok (.slice A1 (n + m) c1) w1/\OV w1 base E size A1 (n + m) c1 (xs ++ news)/\w.grownBy w1 (Value.slice A n c).ownBlock /\
   ((Value.slice A1 (n + m) c1).ownBlock=(Value.slice A n c).ownBlock\/(Value.slice A1 (n + m) c1).ownBlock=some w.heap.size):=by
 obtain ⟨i,hi,hz,hs,hb⟩:=ht.info;have h63':n + m<=maxLen:=by simpa [maxLen] using h63
 have form:∀ {v:Value} {w1:World} {k:Nat} {ys:List Value},w1.ownsRow base E size v k ys->∃ A1 c1,v=.slice A1 k c1:=by
  intro v w1 k ys h;rcases h.2 with ⟨rfl,rfl⟩ | ⟨g,cap,cur,rfl,_⟩
  ·exact ⟨_,_,rfl⟩
  ·exact ⟨_,_,rfl⟩
 rcases A' with _ | ad
 ·obtain ⟨rfl,rfl⟩:=hr.nil rfl
  have hn:news=[]:=List.eq_nil_of_length_eq_zero (by simpa using hr.len);subst hn;refine ⟨A,c,w,?_,by simpa using hown,World.grownBy.refl w _,.inl rfl⟩;exact run_append_owned_none (P:=P) w base T ty E i size ht.sl hi (.slice A n c) n xs hown
 ·have hcells:∀ j u,news[j]?=some u->w.cell? (ad.add j)=some u:=by
   intro j u hu;rcases Nat.eq_zero_or_pos m with h0 | h0
   ·subst h0
    have hn:news=[]:=List.eq_nil_of_length_eq_zero (by simpa using hr.len);subst hn;simp at hu
   ·obtain ⟨b,o,he,_,hc⟩:=hr.at_ h0
    injection he with he
    subst he;rw [Addr.add_lit];exact hc j u hu
  obtain ⟨v',w',hrun,h2,h3,_,h5⟩:=run_append_own_at (P:=P) w base T ty E i z size bytes ht.sl hi hz hs hb ht.zc ht.pos (.slice A n c) n xs hown ad m c' news hr.len hcells h1 h63' hbytes hbase;obtain ⟨A1,c1,rfl⟩:=form h2;exact ⟨A1,c1,w',hrun,h2,h3,h5⟩
theorem Np {T E size bytes:Nat} {z:Value} (ht:ET P T E size bytes z) {w:World} {o:Oper} {a:Act} {K:Act->World->Prop} {Q:Exit->Act->World->Prop} (s x:Operand)
  (ho:o.op=.call { callee:=.builtin .append,args:=#[s,x],argTypes:=#[T,T] })
  {A:Option Addr} {n c:Nat} (hs:a.eval s=.slice A n c) {A':Option Addr} {m c':Nat} (hx:a.eval x=.slice A' m c')
  (base:Nat) {xs:List Value} (hown:OV w base E size A n c xs) {B:Nat} {news:List Value} (hr:RV w B size A' m c' news) (h1:∀ u∈news,u.oneCell'=true)
  (hbytes:(n + m) * bytes<=140737488355328) (h63:n + m<=9223372036854775807) (hbase:base<=w.heap.size)
  (h:∀ A1 c1 w1,OV w1 base E size A1 (n + m) c1 (xs ++ news)->w.grownBy w1 (Value.slice A n c).ownBlock ->
   ((Value.slice A1 (n + m) c1).ownBlock=(Value.slice A n c).ownBlock\/(Value.slice A1 (n + m) c1).ownBlock=some w.heap.size)->K (a.put o.dst (.slice A1 (n + m) c1)) w1):o.wp P a w K Q:=by
 obtain ⟨A1,c1,w1,hrun,h2,h3,h4⟩:=zG ht o.type w base hown hr h1 hbytes h63 hbase;unfold Oper.wp execOp;simp only [ho,resolve,invoke,builtin,Sem.run_bind,Sem.run_pure,Result.andThen_ok,List.map_toArray,List.map_cons,List.map_nil,hs,hx,hrun];exact h A1 c1 w1 h2 h3 h4
theorem b_ {T E size bytes:Nat} {z:Value} (ht:ET P T E size bytes z) {w:World} {ops:Array Oper} {rest:List Oper} {o:Oper} {a:Act} {Q:Exit->Act->World->Prop} (hgd:o.guard=none) (s x:Operand)
  (ho:o.op=.call { callee:=.builtin .append,args:=#[s,x],argTypes:=#[T,T] })
  {A:Option Addr} {n c:Nat} (hs:a.eval s=.slice A n c) {A':Option Addr} {m c':Nat} (hx:a.eval x=.slice A' m c')
  (base:Nat) {xs:List Value} (hown:OV w base E size A n c xs) {B:Nat} {news:List Value} (hr:RV w B size A' m c' news) (h1:∀ u∈news,u.oneCell'=true)
  (hbytes:(n + m) * bytes<=140737488355328) (h63:n + m<=9223372036854775807) (hbase:base<=w.heap.size)
  (h:∀ A1 c1 w1,OV w1 base E size A1 (n + m) c1 (xs ++ news)->w.grownBy w1 (Value.slice A n c).ownBlock ->
   ((Value.slice A1 (n + m) c1).ownBlock=(Value.slice A n c).ownBlock\/(Value.slice A1 (n + m) c1).ownBlock=some w.heap.size)->wpList P ops Q rest (a.put o.dst (.slice A1 (n + m) c1)) w1) :
  wpList P ops Q (o :: rest) a w :=
 wpList_plain hgd fun _ hK=>Np ht s x ho hs hx base hown hr h1 hbytes h63 hbase fun A1 c1 w1 h2 h3 h4=>hK _ _ (h A1 c1 w1 h2 h3 h4)
theorem jZ (l:List UInt8):∀ u∈l.map bv,u.oneCell'=true:=by
 intro u hu;obtain ⟨_,_,rfl⟩:=List.mem_map.1 hu;rfl
theorem bQ {w w1:World} {base:Nat} {v:Value} (hg:w.grownBy w1 v.ownBlock) (hl:∀ k,v.ownBlock=some k->base<=k/\k < w.heap.size) (hbase:base<=w.heap.size):Below base w w1 :=
 (Below.refl base w).grown hg hbase fun k hk=>(hl k hk).1
theorem jc {T:Nat} (ht:ET P T 5 1 1 (.int .u8 0)) {w:World} {ops:Array Oper} {rest:List Oper} {o:Oper} {a:Act} {Q:Exit->Act->World->Prop} (hgd:o.guard=none) (s x:Operand)
  (ho:o.op=.call { callee:=.builtin .append,args:=#[s,x],argTypes:=#[T,T] })
  {A:Option Addr} {n c:Nat} (hs:a.eval s=.slice A n c) {A':Option Addr} {m c':Nat} (hx:a.eval x=.slice A' m c')
  (base:Nat) {l:List UInt8} (hown:OB w base A n c l) {B:Nat} {l':List UInt8} (hr:RB w B A' m c' l')
  (hbytes:n + m<=140737488355328) (hbase:base<=w.heap.size)
  (h:∀ A1 c1 w1,OB w1 base A1 (n + m) c1 (l ++ l')->Below base w w1->w.grownBy w1 (Value.slice A n c).ownBlock ->
   ((Value.slice A1 (n + m) c1).ownBlock=(Value.slice A n c).ownBlock\/(Value.slice A1 (n + m) c1).ownBlock=some w.heap.size)->wpList P ops Q rest (a.put o.dst (.slice A1 (n + m) c1)) w1) :
  wpList P ops Q (o :: rest) a w :=
 b_ ht hgd s x ho hs hx base hown hr.rv (jZ l') (by omega) (by omega) hbase fun A1 c1 w1 h2 h3 h4=>h A1 c1 w1 (by unfold OB; rw [List.map_append]; exact h2) (bQ h3 hown.lt hbase) h3 h4
theorem bU {T:Nat} (ht:ET P T 5 1 1 (.int .u8 0)) {w:World} {ops:Array Oper} {rest:List Oper} {o:Oper} {a:Act} {Q:Exit->Act->World->Prop} (hgd:o.guard=none) (s x:Operand)
  (ho:o.op=.call { callee:=.builtin .append,args:=#[s,x],argTypes:=#[T,T] })
  (hs:a.eval s=.slice none 0 0) {A':Option Addr} {m c':Nat} (hx:a.eval x=.slice A' m c')
  (base:Nat) {B:Nat} {l':List UInt8} (hr:RB w B A' m c' l')
  (hbytes:m<=140737488355328) (hbase:base<=w.heap.size)
  (h:∀ A1 c1 w1,OB w1 w.heap.size A1 m c1 l'->Below w.heap.size w w1->wpList P ops Q rest (a.put o.dst (.slice A1 m c1)) w1) :
  wpList P ops Q (o :: rest) a w :=
 jc ht hgd s x ho hs hx w.heap.size (OB.none_ _ _) hr (by omega) lq fun A1 c1 w1 h2 h3 _ _=>by
  simp only [Nat.zero_add,List.nil_append] at h2 ⊢;exact h A1 c1 w1 h2 h3
theorem mU {T:Nat} (ht:ET P T 5 1 1 (.int .u8 0)) {w:World} {ops:Array Oper} {rest:List Oper} {o:Oper} {a:Act} {Q:Exit->Act->World->Prop} (hgd:o.guard=none) (s x:Operand)
  (ho:o.op=.call { callee:=.builtin .append,args:=#[s,x],argTypes:=#[T,T] })
  {A:Option Addr} {n c:Nat} (hs:a.eval s=.slice A n c) (hx:a.eval x=.slice (some ⟨w.heap.size,0,none⟩) 1 1)
  (base:Nat) {l:List UInt8} (hown:OB w base A n c l) (b:UInt8) {v:Int} (hv:v=(b.toNat:Int))
  (hbytes:n + 1<=140737488355328) (hbase:base<=w.heap.size)
  (h:∀ A1 c1 w1,OB w1 base A1 (n + 1) c1 (l ++ [b])->Below base w w1->w.grownBy w1 (Value.slice A n c).ownBlock ->
   ((Value.slice A1 (n + 1) c1).ownBlock=(Value.slice A n c).ownBlock\/(Value.slice A1 (n + 1) c1).ownBlock=some (w.heap.size + 1))->wpList P ops Q rest (a.put o.dst (.slice A1 (n + 1) c1)) w1) :
  wpList P ops Q (o :: rest) a (w.alloc (.cells #[.int .u8 v] 5)):=by
 subst hv;refine jc ht hgd s x ho hs hx base (hown.alloc _) (RB.one w b) hbytes (by simp; omega) fun A1 c1 w1 h2 h3 h4 h5=>?_
 have hg:w.grownBy w1 (Value.slice A n c).ownBlock:=World.grownBy.trans (World.grownBy_alloc w _ _) h4;exact h A1 c1 w1 h2 (bQ hg hown.lt hbase) hg (by simpa using h5)
theorem run_mk {T E size bytes:Nat} {z:Value} (ht:ET P T E size bytes z) (kl kc:IntKind) (n c:Nat) (hnc:n<=c) (hbytes:bytes * c<=281474976710656) (h63:c<=9223372036854775807) (w:World) :
  (Instr.makeSlice T (.int kl (n:Int)) (.int kc (c:Int))).run P w=.ok (.slice (some ⟨w.heap.size,0,none⟩) n c) (w.alloc (.cells (madeCells z.cells (c * size)) E)):=by
 obtain ⟨i,hi,hz,hs,hb⟩:=ht.info;have hb':(i.bytes:Int) * (c:Int)<=281474976710656:=by
  rw [hb];have h:((bytes * c:Nat):Int)<=281474976710656:=by omega
  rwa [Int.natCast_mul] at h
 have hr:=run_make (P:=P) w T E i z ht.sl hi hz kl kc n c (by omega) (by omega) hb' (by omega);rw [hs] at hr;simpa only [Int.toNat_natCast] using hr
theorem ma {T E size bytes:Nat} {z:Value} (ht:ET P T E size bytes z) {w:World} {ops:Array Oper} {rest:List Oper} {o:Oper} {a:Act} {Q:Exit->Act->World->Prop} (hgd:o.guard=none) (sl sc:Operand)
  (ho:o.op=.makeSlice T sl sc) (kl kc:IntKind) (n c:Nat) (hs:a.eval sl=.int kl (n:Int)) (hx:a.eval sc=.int kc (c:Int)) (hnc:n<=c) (hbytes:bytes * c<=281474976710656) (h63:c<=9223372036854775807)
  (base:Nat) (hbase:base<=w.heap.size)
  (h:∀ w1,OV w1 base E size (some ⟨w.heap.size,0,none⟩) n c ((madeCells z.cells (c * size)).toList.take (n * size))->w.grownBy w1 none->w1.heap.size=w.heap.size + 1 ->
   wpList P ops Q rest (a.put o.dst (.slice (some ⟨w.heap.size,0,none⟩) n c)) w1):wpList P ops Q (o :: rest) a w:=by
 refine wpList_plain hgd fun K hK=>?_
 have hrun:=run_mk ht kl kc n c hnc hbytes h63 w;unfold Oper.wp;simp [execOp,ho,hs,hx,hrun,Result.andThen];refine hK _ _ (h _ ⟨?_,.inr ⟨w.heap.size,c,_,rfl,hbase,heap_alloc_new w _,hnc,by simpa [maxLen] using h63,by simp [size_madeCells],rfl⟩⟩ (World.grownBy_alloc w _ none) (by simp));rw [List.length_take,Array.length_toList,size_madeCells];exact Nat.min_eq_left (Nat.mul_le_mul_right _ hnc)
theorem yg (n c:Nat) (h:n<=c):((madeCells (Value.int .u8 0).cells (c * 1)).toList.take (n * 1))=(List.replicate n (0:UInt8)).map bv:=by
 have:(Value.int .u8 0).cells=#[.int .u8 0]:=rfl;rw [this,toList_madeCells_one];simp [Nat.min_eq_left h,bv]
theorem fO {T:Nat} (ht:ET P T 5 1 1 (.int .u8 0)) {w:World} {ops:Array Oper} {rest:List Oper} {o:Oper} {a:Act} {Q:Exit->Act->World->Prop} (hgd:o.guard=none) (sl sc:Operand)
  (ho:o.op=.makeSlice T sl sc) (kl kc:IntKind) (n c:Nat) (hs:a.eval sl=.int kl (n:Int)) (hx:a.eval sc=.int kc (c:Int)) (hnc:n<=c) (hbytes:c<=281474976710656)
  (base:Nat) (hbase:base<=w.heap.size)
  (h:∀ w1,OB w1 base (some ⟨w.heap.size,0,none⟩) n c (List.replicate n 0)->Below w.heap.size w w1->w1.heap.size=w.heap.size + 1 ->
   wpList P ops Q rest (a.put o.dst (.slice (some ⟨w.heap.size,0,none⟩) n c)) w1):wpList P ops Q (o :: rest) a w :=
 ma ht hgd sl sc ho kl kc n c hs hx hnc (by omega) (by omega) base hbase fun w1 h1 h2 h3=>h w1 (by unfold OB; rw [<- yg n c hnc]; exact h1) ((Below.refl _ w).grown h2 lq fun k hk=>by cases hk) h3
theorem wa {T:Nat} (ht:ET P T 5 1 1 (.int .u8 0)) {w:World} {ops:Array Oper} {rest:List Oper} {o:Oper} {a:Act} {Q:Exit->Act->World->Prop} (hgd:o.guard=none) (s x:Operand)
  (ho:o.op=.call { callee:=.builtin .copy,args:=#[s,x],argTypes:=#[T,T] })
  {A:Option Addr} {n c:Nat} (hs:a.eval s=.slice A n c) {A':Option Addr} {m c':Nat} (hx:a.eval x=.slice A' m c')
  (base:Nat) {l:List UInt8} (hown:OB w base A n c l) {B:Nat} {l':List UInt8} (hr:RB w B A' m c' l') (hm:m<=n)
  (h:∀ w1,OB w1 base A n c (l' ++ l.drop m)->w.grownBy w1 (Value.slice A n c).ownBlock->w1.heap.size=w.heap.size->wpList P ops Q rest (a.put o.dst (.int .i64 (m:Int))) w1) :
  wpList P ops Q (o :: rest) a w:=by
 obtain ⟨i,hi,hz,hsz,hb⟩:=ht.info;have hsz':(P.info? 5).map (·.size)=some 1:=by simp [hi,hsz]
 rcases Nat.eq_zero_or_pos m with h0 | h0
 ·subst h0
  have:l'=[]:=List.eq_nil_of_length_eq_zero hr.len;subst this;exact wpList_copy_nothing hgd s x T T ho _ ht.sl hsz' A A' n c 0 c' hs hx (by simp) (by simpa [goInt] using h w (by simpa using hown) (World.grownBy.refl w _) rfl)
 ·obtain ⟨g,rfl,hbg,hlt⟩:=hown.head (by omega)
  obtain ⟨b,o',rfl,_,_⟩:=hr.at_ h0;obtain ⟨hl,hrow⟩:=hown;rcases hrow with ⟨hv,hn⟩ | ⟨g',cap,cur,hv,hb',hg,hnc,hcm,hcs,htk⟩
  ·cases hv
  ·injection hv with h1 _ h3
   injection h1 with h1
   injection h1 with h1
   subst h1 h3;obtain ⟨_,_,e1,_,hcell⟩:=hr.rv.at_ h0;injection e1 with e1
   injection e1 with e1 e2
   subst e1 e2;have hl':l'.length=m:=hr.len;refine wpList_copy_own hgd s x T T ho _ ht.sl hsz' g 0 n c ⟨b,o',none⟩ m c' hs hx cur _ hg (l'.map bv) (by rw [List.length_map,hl']; exact (Nat.min_eq_left hm).symm) (fun j u hu=>by rw [Addr.add_lit]; exact hcell j u hu) (by simp; omega) (jZ l') ?_;have hfin:=h (w.setRow g (cur.toList.take 0 ++ (l'.map bv ++ cur.toList.drop (0 + (l'.map bv).length))).toArray) ⟨?_,.inr ⟨g,c,_,rfl,hb',setRow_heap w g cur _ _ _ hg,hnc,hcm,?_,?_⟩⟩
    ⟨rfl,rfl,rfl,by simp [World.setRow],fun k _ hk=>setRow_other w g k _ (fun e=>hk (by simp [Value.ownBlock,e]))⟩ (by simp [World.setRow])
   ·simpa [goInt,hl'] using hfin
   ·have:l.length=n:=by simpa using hl
    simp [hl',this]; omega
   ·simp only [List.take_zero,List.nil_append,List.length_map,Nat.zero_add,List.size_toArray,List.length_append,List.length_drop,Array.length_toList]
    omega
   ·have e:(l' ++ l.drop m).map bv=l'.map bv ++ (cur.toList.drop m).take (n - m):=by
     rw [List.map_append,List.map_drop,<- htk,List.drop_take]; simp
    rw [e];simp only [List.take_zero,List.nil_append,List.length_map,Nat.zero_add,hl',Nat.mul_one];rw [List.take_append,List.take_of_length_le (by simp [hl']; omega)];simp [hl']
end
open Go.Sort
section
variable {P:Program} {ops:Array Oper} {Q:Exit->Act->World->Prop} {md:Region.Mode} {S S':World->Prop}
theorem lW (hS:∀ w,S' w->S w):∀ (fuel:Nat) (listed:Array Bool) (a:Act) (w:World),wpAnyH P md ops Q S' fuel listed a w->wpAnyH P md ops Q S fuel listed a w
 | 0,_,_,_,h=>h
 | fuel + 1,_,_,_,h=>⟨h.1,fun i hi=>wpOp_mono (fun a' w' h'=>⟨hS _ h'.1,lW hS fuel _ a' w' h'.2⟩) (h.2 i hi)⟩
def calm (o:Oper):Bool :=
 match o.op with
 | .move _ | .assign _ | .pick _ _ _ | .load _ _ | .binOp _ _ _ _ _ | .unOp _ _ _ | .convert _ _ _ | .field _ _ _ | .fieldAddr _ _ _ | .index _ _ _ | .indexAddr _ _ _ | .slice _ _ _ _ _ | .extract _ _ | .build _ _ | .nilCheck _=>true
 | .call { callee:=.builtin .len,.. }=>true
 | _=>false
theorem ky {s:Sem Value} {w:World} {n:Next} {w':World} (h:(do let x <- s; pure (Next.value x):Sem Next).run P w=.ok n w'):∃ v,n=.value v:=by
 rw [Sem.run_bind] at h;cases hs:s.run P w with
 | ok x w1 =>
  rw [hs] at h;simp only [Result.andThen,Sem.run_pure] at h;injection h with h1 h2
  exact ⟨x,h1.symm⟩
 | halt x w1 =>
  rw [hs] at h;simp [Result.andThen] at h
theorem iC {α:Type} {s:Sem α} {k:α->Sem Next} (hk:∀ x w n w',(k x).run P w=.ok n w'->∃ v,n=.value v) {w:World} {n:Next} {w':World} (h:(s >>= k).run P w=.ok n w'):∃ v,n=.value v:=by
 rw [Sem.run_bind] at h;cases hs:s.run P w with
 | ok x w1=>rw [hs] at h; exact hk x w1 n w' h
 | halt x w1=>rw [hs] at h; simp [Result.andThen] at h
theorem iN {x:Value} {w:World} {n:Next} {w':World} (h:(pure (Next.value x):Sem Next).run P w=.ok n w'):∃ v,n=.value v:=by
 rw [Sem.run_pure] at h;injection h with h _
 exact ⟨x,h.symm⟩
theorem gL {w:World} {n:Next} {w':World} (h:(runtimePanic .nilDeref:Sem Next).run P w=.ok n w'):∃ v,n=.value v:=by
 unfold runtimePanic at h;exact iC (fun p w n w' h=>by simp at h) h
theorem xi {o:Oper} (hc:calm o=true) (ρ:Operand->Value) (w:World) (n:Next) (w':World) (h:(execOp ρ o).run P w=.ok n w'):∃ v,n=.value v:=by
 unfold calm at hc;split at hc
 case h_16 heq =>
  unfold execOp at h;simp only [heq,resolve,Sem.run_bind,Sem.run_pure,Result.andThen,invoke,builtin] at h;exact ky (s:=Builtin.len_ _ _ _) (by rw [Sem.run_bind]; exact h)
 case h_17=>simp at hc
 case h_15 heq =>
  unfold execOp at h;simp only [heq] at h;split at h
  ·exact gL h
  ·exact gL h
  ·exact gL h
  ·split at h
   ·exact gL h
   ·refine iC (fun p w n w' h=>?_) h
    refine iC (fun p w n w' h=>?_) h;split at h
    ·exact iC (fun p w n w' h=>iN h) h
    ·exact iN h
   ·exact iN h
  ·exact iN h
 case h_1 heq | h_2 heq =>
  unfold execOp at h;simp only [heq,Sem.run_pure] at h;injection h with h1 h2
  exact ⟨_,h1.symm⟩
 case h_3 heq =>
  unfold execOp at h;simp only [heq] at h;rename_i c a b;exact ky (s:=do pure (if <- asBool (ρ c) then ρ a else ρ b)) (by
   rw [Sem.run_bind] at h ⊢;rw [Sem.run_bind];cases hs:(asBool (ρ c)).run P w with
   | ok x w1=>rw [hs] at h; simpa [Result.andThen,Sem.run_pure] using h
   | halt x w1=>rw [hs] at h; simp [Result.andThen] at h)
 all_goals
  rename_i heq;unfold execOp at h;simp only [heq] at h;exact ky h
theorem iT {o:Oper} {a:Act} {K:Act->Prop} (hc:calm o=true) {w0:World} (h0:S w0) (h:o.quiet P a S K) :
  ∃ v,(∀ w,S w->(execOp a.eval o).run P w=.ok (.value v) w)/\K (a.put o.dst v):=by
 obtain ⟨v,h1,h2⟩:=h;refine ⟨v,fun w hw=>?_,h2⟩;have h3:=h1 w hw;unfold Oper.quietAt at h3;have hv:=xi (P:=P) hc a.eval w;generalize (execOp a.eval o).run P w=r at *;cases r with
 | halt x w'=>simp [Oper.quietUpon] at h3
 | ok n w' =>
  obtain ⟨u,rfl⟩:=hv n w' rfl;simp only [Oper.quietUpon] at h3;rw [h3.1,h3.2]
def nth:List Oper->Nat->Oper
 | [],_=>default
 | o :: _,0=>o
 | _ :: l,n + 1=>nth l n
def aj (l:List Oper):List Nat->List Oper
 | []=>[]
 | i :: σ=>nth l i :: aj l σ
theorem fU:∀ (l:List Oper) (i:Nat),i < l.length->l[i]?=some (nth l i)
 | [],_,h=>absurd h (by simp)
 | _ :: _,0,_=>rfl
 | _ :: l,i + 1,h=>by simpa [nth] using fU l i (by simpa using h)
def after:Array Bool->List Nat->Array Bool
 | listed,[]=>listed
 | listed,i :: σ=>after (listed.setIfInBounds i true) σ
def lI (md:Region.Mode) (l:List Oper):Array Bool->List Nat->Bool
 | _,[]=>true
 | listed,i :: σ=>decide (i < l.length) && (Region.ready md l.toArray listed).contains i && Region.free md l.toArray listed i && calm (nth l i) && lI md l (listed.setIfInBounds i true) σ
theorem vK {l:List Oper} (hsel:Region.noSelect l.toArray=true) (hQ:∀ c a d v w,Q (.panic c) (Act.put a d v) w->Q (.panic c) a w) (fuel:Nat) (w:World) (hS:S w) :
  ∀ (σ:List Nat) {n:Nat} (listed:Array Bool) (a:Act),n=σ.length + fuel->lI md l listed σ=true ->
   wpQuiet P l.toArray S (fun a'=>wpAnyH P md l.toArray Q S fuel (after listed σ) a' w) (aj l σ) a->wpAnyH P md l.toArray Q S n listed a w
 | [],n,listed,a,hn,_,h=>by
  obtain rfl:n=fuel:=by simpa using hn
  exact h
 | i :: σ,n,listed,a,hn,hok,h=>by
  obtain rfl:n=(σ.length + fuel) + 1:=by simp at hn; omega
  simp only [lI,Bool.and_eq_true,decide_eq_true_eq] at hok;obtain ⟨⟨⟨⟨hi,hr⟩,hf⟩,hc⟩,hrest⟩:=hok;have ho:l.toArray[i]?=some (nth l i):=by rw [List.getElem?_toArray]; exact fU l i hi
  simp only [aj,wpQuiet] at h;have step:∀ v,YieldsIf P l.toArray S (nth l i) v a->wpQuiet P l.toArray S (fun a'=>wpAnyH P md l.toArray Q S fuel (after (listed.setIfInBounds i true) σ) a' w) (aj l σ) (a.put (nth l i).dst v) ->
    wpAnyH P md l.toArray Q S ((σ.length + fuel) + 1) listed a w:=fun v hy hk =>
   wpAnyH_first ho (Region.noSelect_spec hsel) (fun c a w=>hQ c a _ _ w) (σ.length + fuel) listed a w (Region.free_spec ho hf) (by simpa using hr) hy hS
    (vK hsel hQ fuel w hS σ _ _ rfl hrest hk)
  by_cases hw:Region.wanted (nth l i) (yielded l.toArray a.tmps)=true
  ·rw [if_pos hw] at h
   obtain ⟨v,hv,hk⟩:=iT hc hS h;exact step v (.inl ⟨hw,hv⟩) hk
  ·rw [if_neg hw] at h
   exact step undef (.inr ⟨by simpa using hw,rfl⟩) h
theorem phase {l:List Oper} (hsel:Region.noSelect l.toArray=true) (fuel:Nat) {w:World} (hS:S w) (σ:List Nat) {n:Nat} {listed:Array Bool} {a:Act} (hn:n=σ.length + fuel) (hok:lI md l listed σ=true)
  (h:wpQuiet P l.toArray S (fun a'=>wpAnyH P md l.toArray (NoPanic Q) S fuel (after listed σ) a' w) (aj l σ) a):wpAnyH P md l.toArray (NoPanic Q) S n listed a w :=
 vK hsel (fun _ _ _ _ _ h=>h) fuel w hS σ listed a hn hok h
def Qn (K:Act->World->Prop) (Q:Exit->Act->World->Prop):Exit->Act->World->Prop
 | .normal,a,w=>K a w
 | e,a,w=>Q e a w
def jm (P:Program) (md:Region.Mode) (l:List Oper) (Q:Exit->Act->World->Prop) (S:World->Prop) (fuel:Nat) (listed:Array Bool) (a:Act) (w:World):Prop :=
 ∃ S':World->Prop,S' w/\(∀ x,S' x->S x)/\wpAnyH P md l.toArray Q S' fuel listed a w
theorem aH {l:List Oper} (i:Nat) {n:Nat} (fuel:Nat) {listed:Array Bool} {a:Act} {w:World} (hn:n=fuel + 1) (hr:Region.ready md l.toArray listed=[i]) (hi:i < l.length)
  (h:wpList P l.toArray (Qn (fun a' w'=>jm P md l Q S fuel (listed.setIfInBounds i true) a' w') Q) [nth l i] a w):wpAnyH P md l.toArray Q S n listed a w:=by
 subst hn;have ho:l.toArray[i]?=some (nth l i):=by rw [List.getElem?_toArray]; exact fU l i hi
 refine ⟨(fun h0=>by rw [hr] at h0; cases h0),fun j hj=>?_⟩;rw [hr] at hj;obtain rfl:j=i:=by simpa using hj
 have fin:∀ a' w',jm P md l Q S fuel (listed.setIfInBounds j true) a' w'->S w'/\wpAnyH P md l.toArray Q S fuel (listed.setIfInBounds j true) a' w':=fun a' w' ⟨S',h1,h2,h3⟩=>⟨h2 _ h1,lW h2 _ _ _ _ h3⟩
 refine wpOp_mono fin ?_;unfold wpOp;simp only [ho];simp only [wpList] at h
 by_cases hw:Region.wanted (nth l j) (yielded l.toArray a.tmps)=true
 ·rw [if_pos hw] at h ⊢
  rcases h with h | ⟨h1,a0,w0,h2⟩
  ·exact .inl h
  ·exact .inr ⟨h1,a0,w0,h2⟩
 ·rw [if_neg hw] at h ⊢
  exact h
theorem aK {l:List Oper} {listed:Array Bool} {a:Act} {w:World} (hr:Region.ready md l.toArray listed=[]) (h:Q .normal a w):wpAnyH P md l.toArray (NoPanic Q) S 0 listed a w:=⟨hr,NoPanic.normal h⟩
theorem jM {id:Nat} {l:List Oper} {a:Act} {w:World} (S:World->Prop) (hm:P.follows .mixedOrders=true)
  (h:wpAnyH P .any l.toArray (NoPanic Q) S l.length (Array.replicate l.length false) a w.drew):(Code.region id l.toArray true).wp P Q a w :=
 wp_region_noPanic (wp_region_any hm (by simpa using wpAny_of_held _ _ _ _ h))

theorem eZ {w x:World} (h:Below w.heap.size w x):∃ p:Regrown,x=grow (redrawn w p.d) p.os:=regrown_of_below h
theorem vq {w x:World} (h:∃ p:Regrown,x=grow (redrawn w p.d) p.os):Below w.heap.size w x:=by
 obtain ⟨p,rfl⟩:=h;exact below_regrown w p.d p.os
theorem aN {id:Nat} {l:List Oper} {a:Act} {w:World} (hm:P.follows .mixedOrders=true)
  (h:wpAnyH P .any l.toArray (NoPanic Q) (fun x=>∃ p:Regrown,x=grow (redrawn w p.d) p.os) l.length (Array.replicate l.length false) a w.drew):(Code.region id l.toArray true).wp P Q a w:=jM _ hm h
theorem ai {l:List Oper} (hsel:Region.noSelect l.toArray=true) (fuel:Nat) {w0 w:World} (hb:Below w0.heap.size w0 w) (σ:List Nat) {n:Nat} {listed:Array Bool} {a:Act} (hn:n=σ.length + fuel) (hok:lI md l listed σ=true)
  (h:wpQuiet P l.toArray (fun x=>∃ p:Regrown,x=grow (redrawn w0 p.d) p.os) (fun a'=>wpAnyH P md l.toArray (NoPanic Q) (fun x=>∃ p:Regrown,x=grow (redrawn w0 p.d) p.os) fuel (after listed σ) a' w) (aj l σ) a) :
  wpAnyH P md l.toArray (NoPanic Q) (fun x=>∃ p:Regrown,x=grow (redrawn w0 p.d) p.os) n listed a w:=phase hsel fuel (eZ hb) σ hn hok h
theorem ax {l:List Oper} {fuel:Nat} {listed:Array Bool} {a:Act} {w0 w:World} (hb:Below w0.heap.size w0 w)
  (h:wpAnyH P md l.toArray Q (fun x=>∃ p:Regrown,x=grow (redrawn w p.d) p.os) fuel listed a w):Qn (fun a' w'=>jm P md l Q (fun x=>∃ p:Regrown,x=grow (redrawn w0 p.d) p.os) fuel listed a' w') Q .normal a w :=
 ⟨_,eZ (Below.refl _ _),fun _ hx=>eZ (hb.trans ((vq hx).mono hb.size)),h⟩
theorem kY {id:Nat} {l:List Oper} {a:Act} {w w0:World} (hm:P.follows .mixedOrders=true)
  (h:wpAnyH P .any l.toArray (NoPanic Q) (fun x=>∃ p:Regrown,x=grow (redrawn w0 p.d) p.os) l.length (Array.replicate l.length false) a w.drew):(Code.region id l.toArray true).wp P Q a w:=jM _ hm h
theorem aM {l:List Oper} {fuel:Nat} {listed:Array Bool} {a:Act} {w0 w:World} (hb:Below w0.heap.size w0 w)
  (h:wpAnyH P md l.toArray Q (fun x=>∃ p:Regrown,x=grow (redrawn w0 p.d) p.os) fuel listed a w):Qn (fun a' w'=>jm P md l Q (fun x=>∃ p:Regrown,x=grow (redrawn w0 p.d) p.os) fuel listed a' w') Q .normal a w :=
 ⟨_,eZ hb,fun _ hx=>hx,h⟩
end
theorem af (w:World):Below w.heap.size w w.drew:=(Below.refl _ _).drew
end
end Go.Proofs.YtijegngfclkdaaaGreatDoor
