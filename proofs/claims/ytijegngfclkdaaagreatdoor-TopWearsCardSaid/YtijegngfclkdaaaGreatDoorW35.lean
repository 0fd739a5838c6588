/-
  Pieces of the proof: part 35 of 54.
  Conditions: none.
-/
import Derived.Test.YtijegngfclkdaaaGreatDoorProg
import Derived.WalkKit
import Derived.Test.YtijegngfclkdaaaGreatDoorW11
import Derived.Test.YtijegngfclkdaaaGreatDoorW13
import Derived.Test.YtijegngfclkdaaaGreatDoorW14
import Derived.Test.YtijegngfclkdaaaGreatDoorW16
import Derived.Test.YtijegngfclkdaaaGreatDoorW25
import Derived.Test.YtijegngfclkdaaaGreatDoorW28
import Derived.Test.YtijegngfclkdaaaGreatDoorW32
import Derived.Test.YtijegngfclkdaaaGreatDoorW34
set_option linter.unusedVariables false
set_option linter.unusedSimpArgs false
set_option maxHeartbeats 100000000
set_option maxRecDepth 100000
namespace Go.Proofs.YtijegngfclkdaaaGreatDoor.Bt
def bytesS (n:Int):Int:=if n < 1 then 0 else (n - 1) / 8 + 1
def roomS (len:Nat) (at_ n:Int):Int:=if n < 1∨64 < n∨at_ < 0 then 1 else if 8 * (len:Int) < at_∨8 * (len:Int) - at_ < n then 2 else 0
def bt (l:List UInt8) (i:Nat):Nat:=(l.getD (i / 8) 0).toNat / 2 ^ (i % 8) % 2
def lowF (l:List UInt8) (p:Nat):Nat→Nat
 | 0=>0
 | n + 1=>lowF l p n + bt l (p + n) * 2 ^ n
def getS (l:List UInt8) (at_ n:Int):Nat×Int:=if roomS l.length at_ n=0 then (lowF l at_.toNat n.toNat,0) else (0,roomS l.length at_ n)
def sb (c:UInt8) (j:Nat) (x:Bool):UInt8:=UInt8.ofNat (if x then c.toNat ||| 2 ^ j else c.toNat &&& (255 - 2 ^ j))
def setB (l:List UInt8) (i:Nat) (x:Bool):List UInt8:=l.set (i / 8) (sb (l.getD (i / 8) 0) (i % 8) x)
def putF (l:List UInt8) (p v:Nat):Nat→List UInt8
 | 0=>l
 | n + 1=>setB (putF l p v n) (p + n) (v.testBit n)
def wideS (v:Nat) (n:Int):Bool:=decide (n < 64) && v / 2 ^ n.toNat != 0
end Go.Proofs.YtijegngfclkdaaaGreatDoor.Bt
namespace Go.Proofs.YtijegngfclkdaaaGreatDoor.Bt
structure Fld where
 bits:Int
 data:List UInt8
def Fld.zero:Fld:=⟨0,[]⟩
def fits (f:Fld):Bool:=decide (1≤f.bits∧f.bits≤64∧(f.data.length:Int)=bytesS f.bits)
def valS (f:Fld):Nat×Bool:=if fits f=true then (Oct.le f.data,!wideS (Oct.le f.data) f.bits) else (0,false)
def okF (f:Fld):Bool:=(valS f).2
def sumK (ws:List Int):Nat→Int
 | 0=>0
 | k + 1=>sumK ws k + ws.getD k 0
def totS (ws:List Int) (ok:List Bool):Int×Int:=if ok.all id=true then (if 64 < sumK ws ws.length then (0,3) else (sumK ws ws.length,0)) else (0,1)
def bitsOf (l:List Fld):List Int:=l.map (·.bits)
def packK (l:List Fld) (b:List UInt8):Nat→List UInt8
 | 0=>b
 | k + 1=>putF (packK l b k) (sumK (bitsOf l) k).toNat (Oct.le (l.getD k Fld.zero).data) (l.getD k Fld.zero).bits.toNat
def packS (l:List Fld):List UInt8×Int :=
 if (totS (bitsOf l) (l.map okF)).2=0 then (packK l (List.replicate (bytesS (totS (bitsOf l) (l.map okF)).1).toNat 0) l.length,0) else ([],(totS (bitsOf l) (l.map okF)).2)
end Go.Proofs.YtijegngfclkdaaaGreatDoor.Bt
namespace Go.Proofs.YtijegngfclkdaaaGreatDoor.Mp
open Ent Dc
def fld (D:Dic) (w:Nat):Bt.Fld:=⟨(bt w:Int),(peekS D (ix w) (sb w)).getD []⟩
def fldsS (D:Dic) (ws:List Nat):List Bt.Fld:=ws.map (fld D)
def gatherS (D:Dic) (ws:List Nat):List UInt8×Int:=if checkS D.l false ws≠0 then ([],4) else Bt.packS (fldsS D ws)
end Go.Proofs.YtijegngfclkdaaaGreatDoor.Mp
namespace Go.Proofs.YtijegngfclkdaaaGreatDoor.Cob
def bad (w:Nat):Bool:=decide (2048≤w % 1073741824)
def off (w:Nat):Bool:=decide (2147483648≤w)
def id (w:Nat):Nat:=w % 2048
def restr (n:Int):Bool:=decide (n < 128∨2047 < n∨(257≤n∧n≤384)∨(1409≤n∧n≤1535)∨(1537≤n∧n≤1663)∨(1760≤n∧n≤1791)∨1792 < n)
def place (w:Nat):Int:=if bad w=true then 100925507 else if off w=false∧restr (id w:Int)=true then 100925507 else 0
def pdo (w:Nat):Nat:=if off w=true then 0 else id w
end Go.Proofs.YtijegngfclkdaaaGreatDoor.Cob
namespace Go.Proofs.YtijegngfclkdaaaGreatDoor.Rp
open Ent Dc
def kindB (n:Int):Bool:=decide ((0≤n∧n≤240)∨(254≤n∧n≤255))
def checkS (l:List En) (w:Nat) (t:Int) (ws:List Nat):Int:=if Cob.place w≠0 then Cob.place w else if kindB t=false then 101253168 else Mp.checkS l true ws
end Go.Proofs.YtijegngfclkdaaaGreatDoor.Rp
namespace Go.Proofs.YtijegngfclkdaaaGreatDoor.Tp
open Ent Dc
def inB (a b c:Int):Bool:=decide (b≤a∧a≤c)
def kindB (t inh ev:Int):Bool:=(inB t 0 240 || inB t 254 255) && inB inh 0 65535 && inB ev 0 65535
def checkS (l:List En) (w:Nat) (t inh ev:Int) (ws:List Nat):Int:=if Cob.place w≠0 then Cob.place w else if kindB t inh ev=false then 101253168 else Mp.checkS l false ws
structure St where
 due:Bool
 hold:Int
 left:Int
 count:Int
def bytesS (D:Dic) (w:Nat) (ws:List Nat):Option (List UInt8):=if Cob.pdo w=0∨ws.length=0 then none else if (Mp.gatherS D ws).2=0 then some (Mp.gatherS D ws).1 else none
end Go.Proofs.YtijegngfclkdaaaGreatDoor.Tp
namespace Go.Proofs.YtijegngfclkdaaaGreatDoor.Pm
open Ent Dc
def isNum (t:Int):Bool:=decide (t=5∨t=6∨t=7)
def numS (D:Dic) (i j:Int):Int×Bool:=match findS D.l i j with
 | none=>(0,false)
 | some k=>if isNum (D.l.getD k en0).type=true then ((Ty.decS (D.l.getD k en0).type (D.v.getD k [])).1,decide ((Ty.decS (D.l.getD k en0).type (D.v.getD k [])).2=0)) else (0,false)
def numD (D:Dic) (i j other:Int):Int:=if (numS D i j).2=true then (numS D i j).1 else other
def cntS (D:Dic) (i:Int):Nat:=(min (numD D i 0 0) 8).toNat
def wordsK (D:Dic) (i:Int) (k:Nat):List Nat:=(List.range k).map fun (j:Nat)=>(numD D i ((j:Int) + 1) 0).toNat
def wordsS (D:Dic) (i:Int):List Nat:=wordsK D i (cntS D i)
def rpdoS (D:Dic) (k:Int):Option (Nat×Int×List Nat):=if k < 0∨4≤k then none else if (numS D (5120 + k) 1).2=false then none else some ((numS D (5120 + k) 1).1.toNat,numD D (5120 + k) 2 255,wordsS D (5632 + k))
def inS (X:Dic) (k:Int):Int:=match rpdoS X k with | none=>0 | some (v,t,ws)=>Rp.checkS X.l v t ws
end Go.Proofs.YtijegngfclkdaaaGreatDoor.Pm
namespace Go.Proofs.YtijegngfclkdaaaGreatDoor
open Go.RowKit
namespace Tw
def saveB:List UInt8:=[115,97,118,101]
def loadB:List UInt8:=[108,111,97,100]
def esW:List Ent.En:=[⟨4112,1,saveB,7,4,false,false,0,0,4294967295,[1,0,0,0]⟩,⟨4113,1,loadB,7,4,false,false,0,0,4294967295,[1,0,0,0]⟩,⟨8192,0,[97],9,4,false,true,256,0,0,[]⟩,⟨8193,0,[98],9,4,false,true,256,0,0,[]⟩]
theorem new_W:Dc.newS esW=(0,0):=by kernel_rfl
theorem dflt_W:∀ e∈esW,e.name.length≤1000000∧e.dflt.length≤1000000:=by decide
theorem dfl2_W:∀ e∈esW,e.dflt.length≤2000:=by decide
theorem find_no {x y:Int} (h:∀ e∈esW,¬ (e.index=x∧e.sub=y)):Dc.findS esW x y=none:=by
 unfold Dc.findS;rw [if_neg];intro hat;unfold Dc.atB at hat;rw [Bool.and_eq_true,decide_eq_true_eq] at hat;obtain ⟨h1,h2⟩:=hat;unfold Dc.hit at h2;refine h (esW.getD (Dc.seekS esW x y) Dc.en0) ?_ (of_decide_eq_true h2);rw [List.getD_eq_getElem?_getD,List.getElem?_eq_getElem h1];exact List.getElem_mem h1
theorem find_W (x y:Int):Dc.findS esW x y=if x=4112∧y=1 then some 0 else if x=4113∧y=1 then some 1 else if x=8192∧y=0 then some 2 else if x=8193∧y=0 then some 3 else none:=by
 by_cases h0:x=4112∧y=1
 ·rw [if_pos h0,h0.1,h0.2]; decide
 rw [if_neg h0]
 by_cases h1:x=4113∧y=1
 ·rw [if_pos h1,h1.1,h1.2]; decide
 rw [if_neg h1]
 by_cases h2:x=8192∧y=0
 ·rw [if_pos h2,h2.1,h2.2]; decide
 rw [if_neg h2]
 by_cases h3:x=8193∧y=0
 ·rw [if_pos h3,h3.1,h3.2]; decide
 rw [if_neg h3];refine find_no fun e he hh=>?_
 simp only [esW,List.mem_cons,List.not_mem_nil,or_false] at he;rcases he with rfl | rfl | rfl | rfl
 ·exact h0 ⟨hh.1.symm,hh.2.symm⟩
 ·exact h1 ⟨hh.1.symm,hh.2.symm⟩
 ·exact h2 ⟨hh.1.symm,hh.2.symm⟩
 ·exact h3 ⟨hh.1.symm,hh.2.symm⟩
def Small (b:List UInt8):Prop:=b.length≤256∧∀ c∈b,97≤c.toNat∧c.toNat≤122
structure DW (D:Dc.Dic):Prop where
 l:D.l=esW
 fine:Dc.Fine D
theorem DW.vlen {D:Dc.Dic} (h:DW D):D.v.length=4:=by rw [h.fine.len,h.l]; rfl
theorem DW.four {D:Dc.Dic} (h:DW D):∃ a b c d,D=⟨esW,[a,b,c,d]⟩:=by
 obtain ⟨l,v⟩:=D;have e1:l=esW:=h.l;have e2:v.length=4:=h.vlen;subst e1
 match v,e2 with
 | [a,b,c,d],_=>exact ⟨a,b,c,d,rfl⟩
theorem DW.dfl {D:Dc.Dic} (h:DW D):∀ e∈D.l,e.dflt.length≤1000000:=fun e he=>(dflt_W e (h.l ▸ he)).2
theorem DW.pos {D:Dc.Dic} (h:DW D):0 < D.l.length:=by rw [h.l]; decide
theorem DW.small {D:Dc.Dic} (h:DW D):∀ v∈D.v,v.length≤1000000:=fun v hv=>Nat.le_trans (h.fine.sm v hv) (by decide)
theorem DW.poke {D:Dc.Dic} (h:DW D) (x y:Int) {b:List UInt8} (hb:b.length≤2000):DW (Dc.pokeS D x y b):=⟨by rw [Dc.poke_l,h.l],h.fine.poke x y hb⟩
theorem DW.new:DW ⟨esW,esW.map (·.dflt)⟩:=⟨rfl,Dc.Fine.new (by rw [new_W]) dfl2_W⟩
theorem DW.reset {D:Dc.Dic} (h:DW D):DW (resetS D):=by
 have:resetS D=⟨esW,esW.map (·.dflt)⟩:=by unfold resetS; rw [h.l]
 rw [this];exact DW.new
theorem DW.apply:∀ (s:List Dc.Vl) {D:Dc.Dic},DW D→(∀ f∈s,f.data.length≤2000)→DW (Sn.applyS D s)
 | [],_,h,_=>h
 | v :: r,D,h,hs=>DW.apply r (h.poke _ _ (hs v List.mem_cons_self)) fun f hf=>hs f (List.mem_cons_of_mem _ hf)
theorem DW.load {D:Dc.Dic} (h:DW D) {s:List Dc.Vl} (hs:∀ f∈s,f.data.length≤2000):DW (loadD D s):=by
 unfold loadD;split
 ·exact DW.apply s h.reset hs
 ·exact h.reset
theorem ofS_W (a b c d:List UInt8):Sn.ofS ⟨esW,[a,b,c,d]⟩=[⟨8192,0,c⟩,⟨8193,0,d⟩]:=rfl
theorem val_text (b:List UInt8) (i:Int):Ent.valS ⟨i,0,[97],9,4,false,true,256,0,0,[]⟩ b=0↔(b.length≤256∧b.all Ty.seen=true):=by
 unfold Ent.valS;rw [if_neg (show ¬ (0 < (Ty.kd 9).bits) by decide)];have hc:Ty.checkS 9 256 b=if (256:Int) < (b.length:Int)∨256 < (b.length:Int) then 3 else if (9:Int)=9∧b.all Ty.seen=false then 4 else 0:=by
  unfold Ty.checkS;rw [if_neg (show ¬ ((Ty.kd 9).name=[]) by decide),if_neg (show ¬ (0 < (Ty.kd 9).bits) by decide)]
 dsimp only
 by_cases h1:(256:Int) < (b.length:Int)
 ·have e:Ty.checkS 9 256 b=3:=hc.trans (if_pos (.inl h1))
  rw [e,if_neg (by decide),if_pos rfl];exact ⟨fun h=>absurd h (by decide),fun h=>by omega⟩
 ·have hc2:=hc.trans (if_neg (fun h=>h1 (h.elim id id)))
  cases hb:b.all Ty.seen with
  | true =>
   rw [hb,if_neg (by simp)] at hc2;rw [hc2,if_pos rfl];exact ⟨fun _=>⟨by omega,rfl⟩,fun _=>rfl⟩
  | false =>
   rw [hb,if_pos ⟨rfl,rfl⟩] at hc2;rw [hc2,if_neg (by decide),if_neg (by decide),if_pos rfl];exact ⟨fun h=>absurd h (by decide),fun h=>by cases h.2⟩
theorem val_name (b n:List UInt8) (i:Int):Ent.valS ⟨i,0,n,9,4,false,true,256,0,0,[]⟩ b=Ent.valS ⟨i,0,[97],9,4,false,true,256,0,0,[]⟩ b:=rfl
theorem Small.seen {b:List UInt8} (h:Small b):b.all Ty.seen=true:=by
 rw [List.all_eq_true];intro c hc;have:=h.2 c hc;unfold Ty.seen;rw [decide_eq_true_eq];omega
theorem may_text {b:List UInt8} (h:Small b) (x:Int) (hx:x=8192∨x=8193):Dc.mayS esW true x 0 b=0:=by
 unfold Dc.mayS;rw [find_W];rcases hx with rfl | rfl
 ·rw [if_neg (by decide),if_neg (by decide),if_pos ⟨rfl,rfl⟩]
  dsimp only;rw [if_neg (fun h=>by cases h.1)];exact (val_text b 8192).2 ⟨h.1,h.seen⟩
 ·rw [if_neg (by decide),if_neg (by decide),if_neg (by decide),if_pos ⟨rfl,rfl⟩]
  dsimp only;rw [if_neg (fun h=>by cases h.1)];exact (val_name b [98] 8193).trans ((val_text b 8193).2 ⟨h.1,h.seen⟩)
theorem DW.texts {D:Dc.Dic} (h:DW D):∃ a b c d,D=⟨esW,[a,b,c,d]⟩∧c.length≤256∧d.length≤256:=by
 obtain ⟨a,b,c,d,rfl⟩:=h.four;have h2:=h.fine.ok 2 (show 2 < esW.length by decide);have h3:=h.fine.ok 3 (show 3 < esW.length by decide);exact ⟨a,b,c,d,rfl,((val_text c 8192).1 h2).1,((val_text d 8193).1 ((val_name d [98] 8193).symm.trans h3)).1⟩
structure StoS (l:List Dc.Vl):Prop where
 ord:OrdV l
 there:∀ f∈l,thereB f.index f.sub=true
 size:Sn.sizeV l≤522
 len:l.length=2
 data:∀ f∈l,f.data.length≤256
theorem DW.stored {D:Dc.Dic} (h:DW D):StoS (Sn.ofS D):=by
 obtain ⟨a,b,c,d,rfl,hc,hd⟩:=h.texts;rw [ofS_W];refine ⟨fun i j hij hj=>?_,fun f hf=>?_,?_,rfl,fun f hf=>?_⟩
 ·have:i=0∧j=1:=by simp only [List.length_cons,List.length_nil] at hj; omega
  obtain ⟨rfl,rfl⟩:=this;rfl
 ·simp only [List.mem_cons,List.not_mem_nil,or_false] at hf
  rcases hf with rfl | rfl <;> rfl
 ·show 5 + c.length + (5 + d.length + 0)≤522
  omega
 ·simp only [List.mem_cons,List.not_mem_nil,or_false] at hf
  rcases hf with rfl | rfl
  ·exact hc
  ·exact hd
theorem save_num {D:Dc.Dic} (h:DW D):Dc.mayS D.l false 4112 1 saveB=0∧Pm.numD (Dc.pokeS D 4112 1 saveB) 4112 1 0=1702257011:=by
 obtain ⟨v0,v1,v2,v3,rfl⟩:=h.four;exact ⟨by kernel_rfl,by kernel_rfl⟩
theorem load_num {D:Dc.Dic} (h:DW D):Dc.mayS D.l false 4113 1 loadB=0∧Pm.numD (Dc.pokeS D 4113 1 loadB) 4113 1 0=1684107116:=by
 obtain ⟨v0,v1,v2,v3,rfl⟩:=h.four;exact ⟨by kernel_rfl,by kernel_rfl⟩
end Tw
end Go.Proofs.YtijegngfclkdaaaGreatDoor
namespace Go.Proofs.YtijegngfclkdaaaGreatDoor.Can
open Oct
structure Fr where
 id:Int
 rem:Bool
 data:List UInt8
def zero:Fr:=⟨0,false,[]⟩
def checkN (id:Int) (r:Bool) (n:Nat):Int:=if id < 0∨2047 < id then 9 else if 8 < n then 3 else if r=true∧0 < n then 4 else 0
def check (f:Fr):Int:=checkN f.id f.rem f.data.length
def beforeN (i:Int) (r:Bool) (i':Int) (r':Bool):Bool:=decide (i < i') || (decide (i=i') && !r && r')
def before (a b:Fr):Bool:=beforeN a.id a.rem b.id b.rem
def idS (i:Int):List UInt8:=[dig ((i / 256).toNat % 16),dig ((i % 256).toNat / 16),dig ((i % 256).toNat % 16)]
def showS (f:Fr):List UInt8×Int:=if check f=0 then (idS f.id ++ [35] ++ (if f.rem=true then [82] else hexS f.data),0) else ([],check f)
def id3 (s:List UInt8):Option Nat :=
 match nib (s.getD 0 0),nib (s.getD 1 0),nib (s.getD 2 0) with
 | some x,some y,some z=>some (256 * x + 16 * y + z)
 | _,_,_=>none
def nv (c:UInt8):Nat:=(nib c).getD 0
def chk (f:Fr):Fr×Int:=if check f=0 then (f,0) else (zero,check f)
def parseS (s:List UInt8):Fr×Int :=
 if 4≤s.length∧s.getD 3 0=35 then
  match id3 s with
  | none=>(zero,4)
  | some n=>if s.drop 4=[82] then chk ⟨n,true,[]⟩ else
   match pairs (s.drop 4) with
   | none=>(zero,4)
   | some d=>chk ⟨n,false,d⟩
 else (zero,4)
def textF:List Fr→List UInt8→List UInt8×Int
 | [],t=>(t,0)
 | f :: l,t=>if (showS f).2=0 then textF l (t ++ ((showS f).1 ++ [10])) else ([],(showS f).2)
end Go.Proofs.YtijegngfclkdaaaGreatDoor.Can
namespace Go.Proofs.YtijegngfclkdaaaGreatDoor
open Go.ChangeShapes Go.WideShapes Go.ChangeAt Go.RowKit
def FrC (w:World) (B:Nat) (f:Can.Fr) (cs:List Value):Prop:=∃ A n c,cs=[.int .i64 f.id,.bool f.rem,.slice A n c]∧RB w B A n c f.data
def RF (w:World) (B:Nat) (A:Option Addr) (n c:Nat) (fs:List Can.Fr):Prop:=∃ xs,RV w B 3 A n c xs∧Rows (FrC w B) 3 fs xs
end Go.Proofs.YtijegngfclkdaaaGreatDoor
namespace Go.Proofs.YtijegngfclkdaaaGreatDoor
open Go.ChangeShapes Go.WideShapes Go.ChangeAt Go.RowKit
theorem etf:ET Tryz.prog 87 37 3 40 (.agg #[.int .i64 0,.bool false,.slice none 0 0]):=⟨Tryz.underlying87,info_parts (by kernel_rfl),rfl,by decide⟩
end Go.Proofs.YtijegngfclkdaaaGreatDoor
namespace Go.Proofs.YtijegngfclkdaaaGreatDoor
open Go.RowKit
theorem bown_any {A:Option Addr} {n c B:Nat} {l:List UInt8} (i:Int) (r:Bool) (w:World) (h:RB w B A n c l) (hB:B≤w.heap.size) (hn:n≤1000000):Calls Tryz.prog 109 #[.agg #[.int .i64 i,.bool r,.slice A n c]] w fun e w'=>∃ A' c',e=.returned (.agg #[.int .i64 i,.bool r,.slice A' n c'])∧Below w.heap.size w w':=by
 have b1:=alloc_one w (.cells #[.int .i64 i,.bool r,.slice A n c] 37);have K1:=Blk.new w 37 #[.int .i64 i,.bool r,.slice A n c];have b2:=alloc_one (w.alloc (.cells #[.int .i64 i,.bool r,.slice A n c] 37)) (.cells #[.int .i64 0,.bool false,.slice none 0 0] 37);have K2:=Blk.new (w.alloc (.cells #[.int .i64 i,.bool r,.slice A n c] 37)) 37 #[.int .i64 0,.bool false,.slice none 0 0];rw [World.size_alloc] at K2;have K12:=K1.later b2;have d2:=below_step b1 b2 (Nat.le_refl _);have h2:=h.below (d2.mono hB);have k1:=K12.three;have k2:=K2.three;have HK:=Lib.hid (And.intro K12 (And.intro K2 d2));have hB2:B≤((w.alloc (.cells #[.int .i64 i,.bool r,.slice A n c] 37)).alloc (.cells #[.int .i64 0,.bool false,.slice none 0 0] 37)).heap.size:=Nat.le_trans hB d2.size;clear h b1 K1 b2 K2 K12 d2;generalize hw2:(w.alloc (.cells #[.int .i64 i,.bool r,.slice A n c] 37)).alloc (.cells #[.int .i64 0,.bool false,.slice none 0 0] 37)=w2 at *;go_enter Tryz.func109,Tryz.ntmps109
 go_wp2_with (at_builtin; (try rw [hw2]); refine wpList_appb_nil etb rfl (.const (.slice none 0 0)) (.tmp 4) rfl rfl rfl w2.heap.size h2 (by omega) (Nat.le_refl _) ?_; intro A5 c5 w5 o5 b5; have k15:=(HK.out.1.later b5).three; have k25:=(HK.out.2.1.later b5).three; have HB5:=Lib.hid b5; have hS1:=HK.out.1.later b5; have hS2:=HK.out.2.1.later b5)
 have hne:w.heap.size + 1≠w.heap.size:=by omega
 have KF:=(hS2.far (p:=⟨w.heap.size,2,none⟩) hne (.slice A5 n c5)).store3 (.int .i64 i) (.bool r) (.slice A5 n c5);have s0:=KF.cell 0;have s1:=KF.cell 1;have s2:=KF.cell 2;have d5:=below_step HK.out.2.2 HB5.out (Nat.le_refl _);have d6:=d5.setCell (p:=⟨w.heap.size,2,none⟩) (Nat.le_refl _) (.slice A5 n c5);have d7:=d6.setCell (p:=⟨w.heap.size + 1,0,none⟩) (Nat.le_succ _) (.int .i64 i);have d8:=d7.setCell (p:=⟨w.heap.size + 1,1,none⟩) (Nat.le_succ _) (.bool r);have d9:=d8.setCell (p:=⟨w.heap.size + 1,2,none⟩) (Nat.le_succ _) (.slice A5 n c5);exact bodyPost_ret (v:=.agg #[.int .i64 i,.bool r,.slice A5 n c5]) (by simp [results,Tryz.results109,go_sem,s0,s1,s2]) rfl ⟨A5,c5,rfl,d9⟩
structure LgM (w:World) (F:Nat→Prop) (A:Option Addr) (n c:Nat):Prop where
 own:∃ xs,OV w 0 37 3 A n c xs
 few:n≤4096
 at_:∀ k,(Value.slice A n c).ownBlock=some k→F k
theorem LgM.mv {w w':World} {F G:Nat→Prop} {A:Option Addr} {n c:Nat} (h:LgM w F A n c) (hm:Mv G w w') (hd:∀ b,b < w.heap.size→F b→¬ G b):LgM w' F A n c:=by
 obtain ⟨xs,h1⟩:=h.own;exact ⟨⟨xs,OV.mvj h1 hm fun k hk=>hd k (h1.lt k hk).2 (h.at_ k hk)⟩,h.few,h.at_⟩
theorem LgM.mono {w:World} {F G:Nat→Prop} {A:Option Addr} {n c:Nat} (h:LgM w F A n c) (hi:∀ b,b < w.heap.size→F b→G b):LgM w G A n c:=by
 obtain ⟨xs,h1⟩:=h.own;exact ⟨⟨xs,h1⟩,h.few,fun k hk=>hi k (h1.lt k hk).2 (h.at_ k hk)⟩
theorem LgM.none (w:World) (F:Nat→Prop):LgM w F none 0 0:=⟨⟨[],OV.none_ _ _ _ _⟩,by decide,fun k hk=>by cases hk⟩
def NoteP (w:World) (F:Nat→Prop) (gb o:Nat) (A:Option Addr) (n c:Nat) (e:Ending) (w':World):Prop :=
 e=.returned (.tuple #[])∧∃ w4 A' n' c',Mv (fun q=>some q=(Value.slice A n c).ownBlock) w w4∧LgM w4 (fun q=>F q∨(w.heap.size≤q∧q < w4.heap.size)) A' n' c'∧(w'=w4.setCell ⟨gb,o + 2,none⟩ (.slice A' n' c')∨(w'=w4∧A'=A∧n'=n∧c'=c))
theorem bnote_any {w:World} {F:Nat→Prop} {gb o:Nat} {A:Option Addr} {n c:Nat} (h:LgM w F A n c) (hgb:w.cell? ⟨gb,o + 2,none⟩=some (.slice A n c)) (hgf:w.frozen? ⟨gb,o + 2,none⟩=false) (hgl:gb < w.heap.size) (hFg:¬ F gb) {A2:Option Addr} {n2 c2 B:Nat} {l:List UInt8} (i:Int) (r:Bool) (hr:RB w B A2 n2 c2 l) (hB:B≤w.heap.size) (hn2:n2≤1000000) :
  Calls Tryz.prog 67 #[.pointer (some ⟨gb,o,none⟩),.agg #[.int .i64 i,.bool r,.slice A2 n2 c2]] w (NoteP w F gb o A n c):=by
 have b1:=alloc_one w (.cells #[.int .i64 i,.bool r,.slice A2 n2 c2] 37);have K1:=Blk.new w 37 #[.int .i64 i,.bool r,.slice A2 n2 c2];have g1:=(b1.cell (p:=⟨gb,o + 2,none⟩) hgl).trans hgb;have k1:=K1.three
 by_cases hn:n < 4096
 ·have e1:decide ((n:Int) < 4096)=true:=decide_eq_true (by omega)
  have HN:=Lib.hid hn;have bd:=below_drew (w.alloc (.cells #[.int .i64 i,.bool r,.slice A2 n2 c2] 37));have Kd:=K1.later bd;have gd:(w.alloc (.cells #[.int .i64 i,.bool r,.slice A2 n2 c2] 37)).drew.cell? ⟨gb,o + 2,none⟩=some (.slice A n c):=g1;have gf:=(b1.frozen (p:=⟨gb,o + 2,none⟩) hgl).trans hgf;have hgf1:(w.alloc (.cells #[.int .i64 i,.bool r,.slice A2 n2 c2] 37)).drew.frozen? ⟨gb,o + 2,none⟩=false:=gf;have dd:=below_step b1 bd (Nat.le_refl _);obtain ⟨C,hC⟩:∃ C:World→Prop,∀ y,C y↔(Blk y w.heap.size 37 #[.int .i64 i,.bool r,.slice A2 n2 c2]∧y.cell? ⟨gb,o + 2,none⟩=some (.slice A n c)):=⟨_,fun y=>Iff.rfl⟩;have cl0:∀ y:Cl C,y.val.cell? ⟨w.heap.size,0,none⟩=some (.int .i64 i):=fun y=>((hC _).1 y.ok).1.cell 0
  have cl1:∀ y:Cl C,y.val.cell? ⟨w.heap.size,1,none⟩=some (.bool r):=fun y=>((hC _).1 y.ok).1.cell 1
  have cl2:∀ y:Cl C,y.val.cell? ⟨w.heap.size,2,none⟩=some (.slice A2 n2 c2):=fun y=>((hC _).1 y.ok).1.cell 2
  have clg:∀ y:Cl C,y.val.cell? ⟨gb,o + 2,none⟩=some (.slice A n c):=fun y=>((hC _).1 y.ok).2
  have hC0:=(hC _).2 ⟨Kd,gd⟩;haveI instC:Nonempty (Cl C):=⟨⟨_,hC0⟩⟩;have OW:=Lib.hid (bown_any i r _ (hr.below (dd.mono hB)) (Nat.le_trans hB dd.size) hn2);have HH:=Lib.hid h;have HD:=Lib.hid (And.intro dd (And.intro hgf1 (And.intro Kd gd)));have HG:=Lib.hid (And.intro hgl hFg);have HCC:=Lib.hid hC;clear hn h hr hB K1 b1 bd Kd gf hgf1 dd hC gd hgb hgf;go_enter Tryz.func67,Tryz.ntmps67
  go_wp2_with fail
  refine region_cl 11 C (by kernel_rfl) ?_;clear k1 g1;generalize (w.alloc (.cells #[.int .i64 i,.bool r,.slice A2 n2 c2] 37)).drew=wd at *;refine phase_cl (by kernel_rfl) 6 hC0 [0,1,5,2,3,4] rfl (by kernel_rfl) ?_;simp only [picks,nth]
  repeat (go_big_quiet_step (fail))
  refine wpQuiet_nil ?_;refine phase_opL 6 5 rfl (by kernel_rfl) (by decide) ?_;simp only [nth];clear cl0 cl1 cl2 clg;go_wp2_with fail
  refine (OW.out).mono ?_;rintro e w3 ⟨A3,c3,rfl,b3⟩;have C3:C w3:=(HCC.out _).2 ⟨HD.out.2.2.1.later b3,(b3.cell (p:=⟨gb,o + 2,none⟩) (Nat.lt_of_lt_of_le HG.out.1 HD.out.1.size)).trans HD.out.2.2.2⟩;have D3:=Lib.hid (below_step HD.out.1 b3 (Nat.le_refl _));have b4:=alloc_one w3 (.cells #[.int .i64 i,.bool r,.slice A3 n2 c3] 37);have K4:=Blk.new w3 37 #[.int .i64 i,.bool r,.slice A3 n2 c3];have hlt3:gb < w3.heap.size:=Nat.lt_of_lt_of_le HG.out.1 D3.out.size;have C4:C (w3.alloc (.cells #[.int .i64 i,.bool r,.slice A3 n2 c3] 37)):=(HCC.out _).2 ⟨((HCC.out _).1 C3).1.later b4,(b4.cell (p:=⟨gb,o + 2,none⟩) hlt3).trans ((HCC.out _).1 C3).2⟩;have HD4:=Lib.hid (below_step D3.out b4 (Nat.le_refl _));have f3:=(b3.frozen (p:=⟨gb,o + 2,none⟩) (Nat.lt_of_lt_of_le HG.out.1 HD.out.1.size)).trans HD.out.2.1;have F4:=Lib.hid ((b4.frozen (p:=⟨gb,o + 2,none⟩) hlt3).trans f3);have HS3:=Lib.hid D3.out.size;clear OW b3 b4 f3 hC0;go_wp2_with fail
  refine behind_cl C3 ?_;refine phase_opL 7 4 rfl (by kernel_rfl) (by decide) ?_;simp only [nth];go_wp2_with fail
  refine behind_cl C4 ?_;obtain ⟨xs,hown⟩:=HH.out.own;have hown4:=hown.below HD4.out;have hnew:=RV.new w3 37 (size:=3) (cs:=[.int .i64 i,.bool r,.slice A3 n2 c3]) rfl;have hone:∀ u∈([.int .i64 i,.bool r,.slice A3 n2 c3]:List Value),u.oneCell'=true:=by
   intro u hu;simp only [List.mem_cons,List.not_mem_nil,or_false] at hu;rcases hu with rfl | rfl | rfl <;> rfl
  have hn4:=HN.out;have hs4:w3.heap.size < (w3.alloc (.cells #[.int .i64 i,.bool r,.slice A3 n2 c3] 37)).heap.size:=by rw [World.size_alloc]; omega
  have hown0:∀ k,(Value.slice A n c).ownBlock=some k→F k:=HH.out.at_;have KB4:=((HCC.out _).1 C4).1;have hg4:=((HCC.out _).1 C4).2;have hlt4:gb < (w3.alloc (.cells #[.int .i64 i,.bool r,.slice A3 n2 c3] 37)).heap.size:=by omega
  generalize hw4:w3.alloc (.cells #[.int .i64 i,.bool r,.slice A3 n2 c3] 37)=w4 at *;refine phase_opL 8 3 rfl (by kernel_rfl) (by decide) ?_;simp only [nth];go_wp2_with (at_builtin; refine wpList_app etf rfl (.tmp 14) (.tmp 17) rfl rfl rfl 0 hown4 hnew hone (by omega) (by omega) (Nat.zero_le _) ?_; intro A5 c5 w5 o5 g5 j5)
  have hgn:some gb≠(Value.slice A n c).ownBlock:=fun e=>HG.out.2 (hown0 gb e.symm)
  have hbn:some w.heap.size≠(Value.slice A n c).ownBlock:=fun e=>by have:=(hown.lt _ e.symm).2; omega
  have m5:=Mv.of_grown g5;have K5:=KB4.grown g5 hbn;have c5g:w5.cell? ⟨gb,o + 2,none⟩=some (.slice A n c):=(World.cell?_of_block (g5.block gb hlt4 hgn)).trans hg4;have f5g:w5.frozen? ⟨gb,o + 2,none⟩=false:=(World.frozen?_of_block (g5.block gb hlt4 hgn)).trans F4.out;have C5:C w5:=(HCC.out _).2 ⟨K5,c5g⟩;have M5:Hid (Mv (fun q=>some q=(Value.slice A n c).ownBlock) w w5):=Lib.hid ((Mv.of_new HD4.out _).trans m5 fun _ _ e=>e);have L5:Hid (LgM w5 (fun q=>F q∨(w.heap.size≤q∧q < w5.heap.size)) A5 (n + 1) c5):=Lib.hid ⟨⟨_,o5⟩,by omega,fun k hk=>by
   rcases j5 with j5 | j5
   ·rw [j5] at hk; exact .inl (hown0 k hk)
   ·rw [j5] at hk
    injection hk with hk
    have:=HD4.out.size;have:=(o5.lt k (by rw [j5,hk])).2;exact .inr ⟨by omega,by omega⟩⟩
  clear hown hown4 hnew hone o5 g5 j5 m5 K5 KB4 hg4 C3 C4 K4 hw4 HD HD4 hgn hbn hown0;refine behind_cl C5 ?_;refine phase_opL 9 2 rfl (by kernel_rfl) (by decide) ?_;simp only [nth];go_wp2_with fail
  refine behind_cl C5 ?_;refine phase_cl (by kernel_rfl) 1 C5 [10] rfl (by kernel_rfl) ?_;simp only [picks,nth]
  repeat (go_big_quiet_step (fail))
  refine wpQuiet_nil ?_;refine phase_last 0 rfl (by kernel_rfl) (by decide) (by kernel_rfl) ?_;simp only [nth];go_wp2_with fail
  refine behind_last ?_;go_wp2_with fail
  go_end0
  exact ⟨rfl,w5,A5,n + 1,c5,M5.out,L5.out,.inl rfl⟩
 ·have e1:decide ((n:Int) < 4096)=false:=decide_eq_false (by omega)
  have HH:=Lib.hid h;have HB1:=Lib.hid b1;clear hn h hr hB K1 k1 b1;go_enter Tryz.func67,Tryz.ntmps67
  go_wp2_with fail
  go_end0
  have m1:Mv (fun q=>some q=(Value.slice A n c).ownBlock) w (w.alloc (.cells #[.int .i64 i,.bool r,.slice A2 n2 c2] 37)):=Mv.of_new HB1.out _;exact ⟨rfl,_,A,n,c,m1,(HH.out.mv (Mv.of_new HB1.out fun _=>False) fun _ _ _ h=>h).mono fun _ _ h=>.inl h,.inr ⟨rfl,rfl,rfl,rfl⟩⟩
end Go.Proofs.YtijegngfclkdaaaGreatDoor
namespace Go.Proofs.YtijegngfclkdaaaGreatDoor.Wr
def S1 (n c:Nat) (W:Nat→Nat):Prop:=∀ i j,i < n→j < n→W i≤W j + c + 1
def S2 (n c:Nat) (W:Nat→Nat) (L:Nat):Prop:=L < n∧(∀ i j,i < n→j < n→W i≤W j + c + 2)∧∀ i,i < n→i≠L→W L < W i
def St (n c:Nat) (W:Nat→Nat) (has:Bool) (now:Nat) (cnt:Nat→Nat):Prop:=S1 n c W∨∃ L,S2 n c W L∧¬ (has=true∧now=L)∧0 < cnt L
def Nx (n:Nat) (W:Nat→Nat) (has:Bool) (now at_:Nat):Prop:=at_ < n∧¬ (has=true∧now=at_)∧∀ i,i < n→¬ (has=true∧now=i)→W at_≤W i
def up (f:Nat→Nat) (i v:Nat):Nat→Nat:=fun k=>if k=i then v else f k
theorem up_ne (f:Nat→Nat) {i k:Nat} (v:Nat) (h:k≠i):up f i v k=f k:=by simp [up,h]
section
variable {n c:Nat} {W:Nat→Nat} {has:Bool} {now:Nat} {cnt:Nat→Nat}
theorem St.far (h:St n c W has now cnt):∀ i j,i < n→j < n→W i≤W j + c + 2:=fun i j hi hj=>by
 rcases h with h | ⟨L,h,_⟩
 ·have:=h i j hi hj; omega
 ·exact h.2.1 i j hi hj
theorem St.same (h:St n c W true now cnt) (k:Nat):St n c W true now (up cnt now k):=by
 rcases h with h | ⟨L,h1,h2,h3⟩
 ·exact .inl h
 ·exact .inr ⟨L,h1,h2,by rw [up_ne _ _ (fun x=>h2 ⟨rfl,x.symm⟩)]; exact h3⟩
theorem Nx.low {at_ L:Nat} (hx:Nx n W has now at_) (h1:S2 n c W L) (h2:¬ (has=true∧now=L)):at_=L:=by
 by_cases e:at_=L
 ·exact e
 ·have:=hx.2.2 L h1.1 h2
  have:=h1.2.2 at_ hx.1 e;omega
theorem St.begun {at_:Nat} (h:St n c W has now cnt) (hx:Nx n W has now at_) (h0:cnt at_=0) (k:Nat):St n c W true at_ (up cnt at_ k):=by
 rcases h with h | ⟨L,h1,h2,h3⟩
 ·exact .inl h
 ·rw [hx.low h1 h2] at h0
  omega
theorem St.erased {at_:Nat} (h:St n c W has now cnt) (hx:Nx n W has now at_) (hn:has=true→now < n∧0 < cnt now) (k:Nat):St n c (up W at_ (W at_ + 1)) true at_ (up cnt at_ k):=by
 rcases h with h | ⟨L,h1,h2,h3⟩
 ·by_cases hl:∀ i,i < n→W at_≤W i
  ·refine .inl fun i j hi hj=>?_
   have:=h i j hi hj;have:=hl j hj;unfold up;split <;> split <;> subst_vars <;> omega
  ·
   obtain ⟨i,hi,hlt⟩:∃ i,i < n∧W i < W at_:=by
    apply Classical.byContradiction
    intro hc;exact hl fun i hi=>Nat.not_lt.1 fun hh=>hc ⟨i,hi,hh⟩
   have hin:has=true∧now=i:=by
    apply Classical.byContradiction
    intro hc;have:=hx.2.2 i hi hc;omega
   obtain ⟨hb,rfl⟩:=hin;have hnn:=hn hb;have hne:at_≠now:=fun e=>hx.2.1 ⟨hb,e.symm⟩
   refine .inr ⟨now,⟨hi,fun a b ha hb'=>?_,fun a ha hna=>?_⟩,fun e=>hne e.2,by rw [up_ne _ _ (Ne.symm hne)]; exact hnn.2⟩
   ·have h1:=h a b ha hb'
    have h2:=h at_ b hx.1 hb';have h3:=h at_ now hx.1 hi;unfold up;split <;> split <;> subst_vars <;> omega
   ·rw [up_ne _ _ (Ne.symm hne)]
    have h1:=hx.2.2 a ha (fun e=>hna e.2.symm);unfold up;split <;> subst_vars <;> omega
 ·have e:=hx.low h1 h2
  subst e;refine .inl fun i j hi hj=>?_
  have h4:=h1.2.1 i j hi hj;have h6:=h1.2.1 i at_ hi hx.1;have h5:∀ q,q < n→q≠at_→W at_ < W q:=h1.2.2;unfold up
  by_cases ei:i=at_ <;> by_cases ej:j=at_
  ·rw [if_pos ei,if_pos ej]; omega
  ·rw [if_pos ei,if_neg ej]; have:=h5 j hj ej; omega
  ·rw [if_neg ei,if_pos ej]; omega
  ·rw [if_neg ei,if_neg ej]; have:=h5 j hj ej; omega
theorem St.cut (h:St n c W has now cnt):S1 n (c + 1) W:=fun i j hi hj=>by
 have:=h.far i j hi hj;omega
theorem St.cut_erased {at_:Nat} (h:St n c W has now cnt) (hx:Nx n W has now at_):S1 n (c + 1) (up W at_ (W at_ + 1)):=fun i j hi hj=>by
 rcases h with h | ⟨L,h1,h2,h3⟩
 ·have h1:=h i j hi hj
  have h2:=h at_ j hx.1 hj;unfold up;split <;> split <;> subst_vars <;> omega
 ·have e:=hx.low h1 h2
  subst e;have h4:=h1.2.1 i j hi hj;have h6:=h1.2.1 i at_ hi hx.1;have h5:∀ q,q < n→q≠at_→W at_ < W q:=h1.2.2;unfold up
  by_cases ei:i=at_ <;> by_cases ej:j=at_
  ·rw [if_pos ei,if_pos ej]; omega
  ·rw [if_pos ei,if_neg ej]; have:=h5 j hj ej; omega
  ·rw [if_neg ei,if_pos ej]; omega
  ·rw [if_neg ei,if_neg ej]; omega
end
end Go.Proofs.YtijegngfclkdaaaGreatDoor.Wr
