/-
  Piece 11 of the proof.
  Conditions: none.
-/
import Derived.Test.YtijegngfclkdaaaGreatDoorProg
import Derived.Test.YtijegngfclkdaaaGreatDoorQ09
set_option linter.unusedVariables false
set_option linter.unusedSimpArgs false
set_option maxHeartbeats 100000000
set_option maxRecDepth 100000
namespace Go.Proofs.YtijegngfclkdaaaGreatDoor
namespace Oct
def le:List UInt8->Nat
 | []=>0
 | c :: l=>c.toNat + 256 * le l
def lb:Nat->Nat->List UInt8
 | 0,_=>[]
 | k + 1,n=>lb k n ++ [UInt8.ofNat (n / 256 ^ k)]
theorem dw:∀ k n,(lb k n).length=k
 | 0,_=>rfl
 | k + 1,n=>by simp [lb,dw k]
theorem qt:∀ (a b:List UInt8),le (a ++ b)=le a + 256 ^ a.length * le b
 | [],b=>by simp [le]
 | c :: a,b=>by
  simp only [List.cons_append,le,List.length_cons,qt a b,Nat.pow_succ];rw [Nat.mul_add,<- Nat.mul_assoc,Nat.add_assoc,Nat.mul_comm 256 (256 ^ a.length)]
theorem Jn (a:List UInt8) (c:UInt8):le (a ++ [c])=le a + c.toNat * 256 ^ a.length:=by
 rw [qt]; simp [le,Nat.mul_comm]
theorem qJ:∀ (l:List UInt8),le l < 256 ^ l.length
 | []=>by simp [le]
 | c :: l=>by
  have h1:=qJ l;have h2:=c.toNat_lt;simp only [le,List.length_cons,Nat.pow_succ];omega
def cut (l:List UInt8) (p k:Nat):List UInt8:=(l.drop p).take k
theorem ks (l:List UInt8) (p k:Nat) (h:p + k<=l.length):(cut l p k).length=k:=by simp [cut]; omega
theorem E6 (l:List UInt8) (p k:Nat) (h:p + k < l.length):cut l p (k + 1)=cut l p k ++ [l.getD (p + k) 0]:=by
 unfold cut;rw [List.take_succ_eq_append_getElem (by simp; omega)];simp [List.getD,h]
theorem Fw (l:List UInt8) (p:Nat):cut l p 0=[]:=by simp [cut]
def lM (n b:Nat):Int:=if n % 2 ^ b < 2 ^ (b - 1) then ((n % 2 ^ b:Nat):Int) else ((n % 2 ^ b:Nat):Int) - 2 ^ b
theorem GQ (b:Nat) (h:1<=b):2 ^ b=2 * 2 ^ (b - 1):=by
 obtain ⟨k,rfl⟩:∃ k,b=k + 1:=⟨b - 1,by omega⟩;rw [Nat.add_sub_cancel,Nat.pow_succ,Nat.mul_comm]
theorem nu (b:Nat):(2:Int) ^ b=((2 ^ b:Nat):Int):=by simp
theorem wy (n b:Nat) (h1:1<=b) (h2:b<=64) :
  (((((n:Int) * 2 ^ (64 - b)) % 18446744073709551616 + 9223372036854775808) % 18446744073709551616) - 9223372036854775808) / (2 ^ (64 - b))=lM n b:=by
 have hp:0 < 2 ^ (64 - b):=Nat.pow_pos (by decide);have e64:2 ^ b * 2 ^ (64 - b)=18446744073709551616:=by rw [<- Nat.pow_add,show b + (64 - b)=64 by omega]
 have e63:2 ^ (b - 1) * 2 ^ (64 - b)=9223372036854775808:=by rw [<- Nat.pow_add,show b - 1 + (64 - b)=63 by omega]
 have e1:((n:Int) * 2 ^ (64 - b)) % 18446744073709551616=(((n % 2 ^ b) * 2 ^ (64 - b):Nat):Int):=by
  rw [nu,<- Int.natCast_mul,show (18446744073709551616:Int)=((18446744073709551616:Nat):Int) from rfl,<- Int.natCast_emod,<- e64,Nat.mul_mod_mul_right]
 rw [e1];have hm:n % 2 ^ b < 2 ^ b:=Nat.mod_lt _ (Nat.pow_pos (by decide));unfold lM;generalize n % 2 ^ b=m at *;have hb:=GQ b h1;have hlt:m * 2 ^ (64 - b) < 18446744073709551616:=by rw [<- e64]; exact Nat.mul_lt_mul_of_pos_right hm hp
 split
 ·rename_i hlow
  have h3:m * 2 ^ (64 - b) < 9223372036854775808:=by rw [<- e63]; exact Nat.mul_lt_mul_of_pos_right hlow hp
  rw [Int.emod_eq_of_lt (by omega) (by omega),show ((m * 2 ^ (64 - b):Nat):Int) + 9223372036854775808 - 9223372036854775808=((m * 2 ^ (64 - b):Nat):Int) by omega,nu,<- Int.natCast_ediv,Nat.mul_div_cancel _ hp]
 ·rename_i hhigh
  have h3:9223372036854775808<=m * 2 ^ (64 - b):=by rw [<- e63]; exact Nat.mul_le_mul_right _ (by omega)
  have e2:(((m * 2 ^ (64 - b):Nat):Int) + 9223372036854775808) % 18446744073709551616=((m * 2 ^ (64 - b):Nat):Int) - 9223372036854775808:=by omega
  have e3:((m * 2 ^ (64 - b):Nat):Int) - 9223372036854775808 - 9223372036854775808=((m:Int) - ((2 ^ b:Nat):Int)) * ((2 ^ (64 - b):Nat):Int):=by
   rw [Int.sub_mul,<- Int.natCast_mul,<- Int.natCast_mul,e64]; omega
  rw [e2,e3,nu,nu,Int.mul_ediv_cancel _ (by omega)]
def qc (l:List UInt8) (x:Int) (m:Nat):List UInt8×Int :=
 if 1<=x/\x<=8 then (if 256 ^ x.toNat<=m then ([],9) else (l ++ lb x.toNat m,0)) else ([],1)
def kX (l:List UInt8) (p x:Int):Nat×Int :=
 if 1<=x/\x<=8/\0<=p/\p<=(l.length:Int) then (if (l.length:Int) - p < x then (0,2) else (le (cut l p.toNat x.toNat),0)) else (0,1)
def kS (l:List UInt8) (p x:Int):Int×Int:=if (kX l p x).2=0 then (lM (kX l p x).1 (8 * x.toNat),0) else (0,(kX l p x).2)

def P7 (i:Nat):UInt8:=if i < 10 then UInt8.ofNat (48 + i) else UInt8.ofNat (87 + i)
def QS (l:List UInt8):List UInt8:=l.flatMap fun c=>[P7 (c.toNat / 16),P7 (c.toNat % 16)]
def Pj (c:UInt8):Option Nat:=if 48<=c.toNat/\c.toNat<=57 then some (c.toNat - 48) else if 97<=c.toNat/\c.toNat<=102 then some (c.toNat - 87) else none
def Ea:List UInt8->Option (List UInt8)
 | []=>some []
 | [_]=>none
 | a :: b :: r=>match Pj a,Pj b,Ea r with
  | some h,some l,some t=>some (UInt8.ofNat (16 * h + l) :: t)
  | _,_,_=>none
def OA (s:List UInt8):List UInt8×Int:=match Ea s with | some l=>(l,0) | none=>([],4)
end Oct
namespace Ty
structure Kd where
 name:List UInt8
 size:Nat
 bits:Nat
 lM:Bool
def Lm:Kd:=⟨[],0,0,false⟩
def kd (t:Int):Kd :=
 if t=1 then ⟨[98,111,111,108],1,1,false⟩ else if t=2 then ⟨[105,56],1,8,true⟩ else if t=3 then ⟨[105,49,54],2,16,true⟩ else if t=4 then ⟨[105,51,50],4,32,true⟩
 else if t=5 then ⟨[117,56],1,8,false⟩ else if t=6 then ⟨[117,49,54],2,16,false⟩ else if t=7 then ⟨[117,51,50],4,32,false⟩
 else if t=9 then ⟨[116,101,120,116],0,0,false⟩ else if t=10 then ⟨[98,121,116,101,115],0,0,false⟩ else if t=15 then ⟨[100,111,109,97,105,110],0,0,false⟩
 else if t=21 then ⟨[105,54,52],8,64,true⟩ else Lm
def CC:List Int:=[1,2,3,4,5,6,7,9,10,15,21]
theorem zo {t:Int} (h:t ∉ CC):kd t=Lm:=by
 unfold CC at h;simp only [List.mem_cons,List.not_mem_nil,or_false,not_or] at h;obtain ⟨h1,h2,h3,h4,h5,h6,h7,h8,h9,h10,h11⟩:=h;unfold kd;simp only [h1,h2,h3,h4,h5,h6,h7,h8,h9,h10,h11,if_false]
theorem lF (t:Int):(t=1\/t=2\/t=3\/t=4\/t=5\/t=6\/t=7\/t=9\/t=10\/t=15\/t=21)\/(t ∉ CC/\kd t=Lm):=by
 by_cases h:t∈CC
 ·left
  unfold CC at h;simpa only [List.mem_cons,List.not_mem_nil,or_false] using h
 ·exact .inr ⟨h,zo h⟩
def gV (t:Int):Int×Int×Bool :=
 if (kd t).bits=0 then (0,0,false) else if (kd t).lM=true then (-((2 ^ ((kd t).bits - 1):Nat):Int),((2 ^ ((kd t).bits - 1):Nat):Int) - 1,true) else (0,((2 ^ (kd t).bits:Nat):Int) - 1,true)
def UU (t n:Int):List UInt8×Int :=
 if (gV t).2.2=false then ([],15) else if n < (gV t).1\/(gV t).2.1 < n then ([],9) else (Oct.lb (kd t).size (n % 18446744073709551616).toNat,0)
def cV (t:Int) (b:List UInt8):Int×Int :=
 if (kd t).bits=0 then (0,15) else if b.length < (kd t).size then (0,2) else if (kd t).size < b.length then (0,3)
 else if (kd t).lM=true then (Oct.lM (Oct.le b) (8 * (kd t).size),0) else if 2 ^ (kd t).bits<=Oct.le b then (0,9) else ((Oct.le b:Int),0)
def seen (c:UInt8):Bool:=decide (32<=c.toNat/\c.toNat<=126)
def ar (t most:Int) (b:List UInt8):Int :=
 if (kd t).name=[] then 15 else if 0 < (kd t).bits then (cV t b).2 else if most < (b.length:Int)\/256 < (b.length:Int) then 3 else if t=9/\b.all seen=false then 4 else 0

def Zb (m:Nat):UInt8:=UInt8.ofNat (48 + m)
def Om:Nat->Nat->List UInt8
 | 0,_=>[]
 | k + 1,m=>(if m / 10=0 then [] else Om k (m / 10)) ++ [Zb (m % 10)]
def UM (n:Int):List UInt8:=if n < 0 then 45 :: Om 20 n.natAbs else Om 20 n.natAbs
def P0 (c:UInt8):Bool:=decide (48<=c.toNat/\c.toNat<=57)
def Jc (s:List UInt8):Nat:=s.foldl (fun v c=>10 * v + (c.toNat - 48)) 0
def minus (s:List UInt8):Bool:=s.head? == some 45
def rest (s:List UInt8):List UInt8:=if minus s=true then s.tail else s
def Qa (s:List UInt8):Bool:=!(rest s).isEmpty && !((rest s).head? == some 48 && s != [48]) && (rest s).all P0
def Nm (s:List UInt8):Int×Int :=
 if Qa s=false then (0,4) else if 9223372036854775808 < Jc (rest s)\/(Jc (rest s)=9223372036854775808/\minus s=false) then (0,9)
 else (if minus s=true then -(Jc (rest s):Int) else (Jc (rest s):Int),0)

def mark (c:UInt8):Bool:=c == 34 || c == 92
def Y5 (b:List UInt8):List UInt8:=b.flatMap fun c=>if mark c=true then [92,c] else [c]
def quo (b:List UInt8):List UInt8:=34 :: (Y5 b ++ [34])
def U6:List UInt8->Option (List UInt8)
 | []=>some []
 | [c]=>if mark c=true then none else some [c]
 | c :: d :: r=>if c=34 then none else if c=92 then (if mark d=true then (U6 r).map (d :: ·) else none) else (U6 (d :: r)).map (c :: ·)
def Y3 (s:List UInt8):Option (List UInt8):=if 2<=s.length/\s.head?=some 34/\s.getLast?=some 34 then U6 s.tail.dropLast else none
def yM (t:Int) (b:List UInt8):List UInt8×Int :=
 if ar t 256 b≠0 then ([],ar t 256 b) else if 0 < (kd t).bits then (UM (cV t b).1,0) else if t=9 then (quo b,0) else (35 :: Oct.QS b,0)
def Iw (t:Int) (s:List UInt8):List UInt8×Int :=
 if t=9 then (match Y3 s with | some b=>(b,0) | none=>([],4)) else if s.head?=some 35 then Oct.OA s.tail else ([],4)
def gP (t:Int) (s:List UInt8):List UInt8×Int :=
 if (kd t).name=[] then ([],15) else if 0 < (kd t).bits then (if (Nm s).2≠0 then ([],(Nm s).2) else UU t (Nm s).1)
 else if (Iw t s).2≠0 then ([],(Iw t s).2) else if ar t 256 (Iw t s).1≠0 then ([],ar t 256 (Iw t s).1) else ((Iw t s).1,0)


end Ty
namespace aD
structure En where
 index:Int
 sub:Int
 name:List UInt8
 type:Int
 access:Int
 map:Bool
 store:Bool
 max:Int
 low:Int
 high:Int
 dflt:List UInt8
def low (c:UInt8):Bool:=decide (97<=c.toNat/\c.toNat<=122)
def inner (c:UInt8):Bool:=low c || Ty.P0 c || c == 95
def hH (s:List UInt8):Bool:=decide (1<=s.length/\s.length<=16) && (match s with | []=>false | c :: _=>low c) && s.all inner
def cE (e:En) (b:List UInt8):Int :=
 if (Ty.cV e.type b).2=2 then 101122067 else if (Ty.cV e.type b).2=3 then 101122066 else if (Ty.cV e.type b).2≠0 then 101253168
 else if (Ty.cV e.type b).1 < e.low then 101253170 else if e.high < (Ty.cV e.type b).1 then 101253169 else 0
def cJ (e:En) (b:List UInt8):Int :=
 if 0 < (Ty.kd e.type).bits then cE e b
 else if Ty.ar e.type e.max b=0 then 0 else if Ty.ar e.type e.max b=3 then 101122066 else if Ty.ar e.type e.max b=4 then 101253168 else 100925511
def j8 (e:En):Bool:=if e.access=1 then !e.store && !e.map else if e.access=2 then !e.store else decide (e.access=3\/e.access=4)
def dT (e:En) (lo hi:Int):Bool:=decide (e.max=0/\lo<=e.low/\e.low<=e.high/\e.high<=hi)
def sizedB (e:En):Bool:=decide (e.low=0/\e.high=0/\1<=e.max/\e.max<=256) && !e.map
def Hw (e:En):Bool:=if (Ty.gV e.type).2.2=true then dT e (Ty.gV e.type).1 (Ty.gV e.type).2.1 else sizedB e
def cD (e:En):Int :=
 if e.index < 1\/65535 < e.index\/e.sub < 0\/255 < e.sub then 9
 else if hH e.name=false then 14
 else if (Ty.kd e.type).name=[] then 15
 else if j8 e=false then 1
 else if Hw e=false then 1
 else if cJ e e.dflt≠0 then 4 else 0
def kQ (e:En):Int:=if e.access=3 then 100728833 else 0
def ff (e:En):Int:=if e.access=1\/e.access=2 then 100728834 else 0
def mb (a b:En):Bool:=if a.index=b.index then decide (a.sub < b.sub) else decide (a.index < b.index)
theorem jE {e:En} (h:cD e=0):1<=e.index/\e.index<=65535/\0<=e.sub/\e.sub<=255/\hH e.name=true/\(Ty.kd e.type).name≠[]/\j8 e=true/\Hw e=true/\cJ e e.dflt=0:=by
 unfold cD at h;split at h
 ·omega
 ·split at h
  ·omega
  ·split at h
   ·omega
   ·split at h
    ·omega
    ·split at h
     ·omega
     ·split at h
      ·omega
      ·rename_i h1 h2 h3 h4 h5 h6
       exact ⟨by omega,by omega,by omega,by omega,by simpa using h2,h3,by simpa using h4,by simpa using h5,by simpa using h6⟩
end aD
namespace Dc
open aD
structure aZ where
 l:List En
 v:List (List UInt8)
def aI:En:=⟨0,0,[],0,0,false,false,0,0,0,[]⟩
def ahead (x y:Int) (e:En):Bool:=if e.index=x then decide (e.sub < y) else decide (e.index < x)
def a_ (l:List En) (x y:Int):Nat:=(l.takeWhile (ahead x y)).length
def Pg (x y:Int) (e:En):Bool:=decide (e.index=x/\e.sub=y)
def DB (l:List En) (k:Nat) (x y:Int):Bool:=decide (k < l.length) && Pg x y (l.getD k aI)
def jb (l:List En) (x:Int):Bool:=l.any fun e=>e.index == x
def bh (l:List En) (x y:Int):Option Nat:=if DB l (a_ l x y) x y=true then some (a_ l x y) else none
def Ord (l:List En):Prop:=∀ i,i + 1 < l.length->mb (l.getD i aI) (l.getD (i + 1) aI)=true
def Lt (x y x' y':Int):Prop:=x < x'\/(x=x'/\y < y')
theorem yS {a b:En}:mb a b=true↔Lt a.index a.sub b.index b.sub:=by
 unfold mb Lt;split <;> simp <;> omega
theorem dP {x y:Int} {e:En}:ahead x y e=true↔Lt e.index e.sub x y:=by
 unfold ahead Lt;split <;> simp <;> omega
theorem Lt.trans {a b c d e f:Int} (h:Lt a b c d) (h':Lt c d e f):Lt a b e f:=by unfold Lt at *; omega
theorem Ir {l:List En} (h:Ord l):∀ (k i:Nat),i + (k + 1) < l.length->Lt (l.getD i aI).index (l.getD i aI).sub (l.getD (i + (k + 1)) aI).index (l.getD (i + (k + 1)) aI).sub
 | 0,i,hi=>yS.1 (h i hi)
 | k + 1,i,hi=>(Ir h k i (by omega)).trans (yS.1 (h (i + (k + 1)) (by omega)))
theorem iz {l:List En} (h:Ord l) {i j:Nat} (hij:i < j) (hj:j < l.length):Lt (l.getD i aI).index (l.getD i aI).sub (l.getD j aI).index (l.getD j aI).sub:=by
 have:=Ir h (j - i - 1) i (by omega)
 rwa [show i + (j - i - 1 + 1)=j by omega] at this
theorem nj (l:List En) (x y:Int):a_ l x y<=l.length:=(List.takeWhile_prefix _).length_le
theorem sP {l:List En} {x y:Int} {j:Nat} (h:j < a_ l x y):ahead x y (l.getD j aI)=true:=by
 unfold a_ at h;have hp:=List.takeWhile_prefix (ahead x y) (l:=l);have hl:=hp.length_le;have e : (l.takeWhile (ahead x y))[j] = l[j]'(by omega) := by
  obtain ⟨t,ht⟩:=hp;have : l[j]'(by omega) = (l.takeWhile (ahead x y) ++ t)[j]'(by rw [List.length_append]; omega) := by congr 1; exact ht.symm
  rw [this,List.getElem_append_left h]
 have hm:=List.getElem_mem h;have:=List.all_eq_true.1 (List.all_takeWhile (p:=ahead x y) (l:=l)) _ hm;rw [e] at this;rw [List.getD_eq_getElem?_getD,List.getElem?_eq_getElem (by omega)];exact this
theorem lr {l:List En} {x y:Int} (h:a_ l x y < l.length):ahead x y (l.getD (a_ l x y) aI)=false:=by
 induction l with
 | nil=>simp at h
 | cons e l ih =>
  unfold a_ at *;rw [List.takeWhile_cons] at *;split at h
  ·rename_i hp
   rw [if_pos hp];simp only [List.length_cons,List.getD_cons_succ] at *;exact ih (by omega)
  ·rename_i hp
   rw [if_neg hp];simpa using hp
theorem TT {l:List En} (ho:Ord l) {x y:Int} {j:Nat} (h:a_ l x y<=j) (hj:j < l.length):ahead x y (l.getD j aI)=false:=by
 rcases Nat.eq_or_lt_of_le h with h1 | h1
 ·subst h1; exact lr hj
 ·cases ha:ahead x y (l.getD j aI) with
  | false=>rfl
  | true =>
   have h2:=iz ho h1 hj;have h3:=h2.trans (dP.1 ha);have h4:=lr (l:=l) (x:=x) (y:=y) (by omega);rw [dP.2 h3] at h4;cases h4
theorem Jg {l:List En} (ho:Ord l) {x y:Int} {k:Nat} (hk:k<=l.length) (h1:∀ j,j < k->ahead x y (l.getD j aI)=true) (h2:∀ j,k<=j->j < l.length->ahead x y (l.getD j aI)=false):k=a_ l x y:=by
 rcases Nat.lt_trichotomy k (a_ l x y) with h | h | h
 ·have:=sP h
  rw [h2 k lq (by have:=nj l x y; omega)] at this;cases this
 ·exact h
 ·have:=lr (l:=l) (x:=x) (y:=y) (by omega)
  rw [h1 _ h] at this;cases this
theorem zh {x y:Int} {e:En}:Pg x y e=true↔e.index=x/\e.sub=y:=by unfold Pg; simp
theorem bS {l:List En} {x y:Int} {k:Nat} (h:bh l x y=some k):k=a_ l x y/\k < l.length/\(l.getD k aI).index=x/\(l.getD k aI).sub=y:=by
 unfold bh at h;split at h
 ·rename_i ha
  injection h with h
  subst h;unfold DB at ha;simp only [Bool.and_eq_true,decide_eq_true_eq] at ha;exact ⟨rfl,ha.1,zh.1 ha.2⟩
 ·cases h
theorem Bq {l:List En} (ho:Ord l) {x y:Int} (h:bh l x y=none) {j:Nat} (hj:j < l.length):¬ ((l.getD j aI).index=x/\(l.getD j aI).sub=y):=by
 rintro ⟨h1,h2⟩;have e:j=a_ l x y:=by
  rcases Nat.lt_trichotomy j (a_ l x y) with h3 | h3 | h3
  ·have:=dP.1 (sP h3)
   unfold Lt at this;omega
  ·exact h3
  ·have h4:=iz ho h3 hj
   rw [h1,h2] at h4;have h5:=lr (l:=l) (x:=x) (y:=y) (by omega);rw [dP.2 h4] at h5;cases h5
 unfold bh at h;rw [if_pos (by unfold DB; rw [<- e,decide_eq_true hj,zh.2 ⟨h1,h2⟩]; rfl)] at h;cases h
theorem J4 {l:List En} (ho:Ord l) (x y:Int):jb l x=(decide (a_ l x y < l.length) && ((l.getD (a_ l x y) aI).index == x) || (decide (1<=a_ l x y) && ((l.getD (a_ l x y - 1) aI).index == x))):=by
 have hle:=nj l x y;rw [Bool.eq_iff_iff];unfold jb;simp only [List.any_eq_true,Bool.or_eq_true,Bool.and_eq_true,decide_eq_true_eq,beq_iff_eq];constructor
 ·rintro ⟨e,he,hx⟩
  obtain ⟨j,hj,rfl⟩:=List.getElem_of_mem he;have hg:l.getD j aI=l[j]:=by rw [List.getD_eq_getElem?_getD,List.getElem?_eq_getElem hj]; rfl
  rw [<- hg] at hx;rcases Nat.lt_or_ge j (a_ l x y) with h | h
  ·right
   refine ⟨by omega,?_⟩;have h1:=dP.1 (sP (l:=l) (x:=x) (y:=y) (j:=a_ l x y - 1) (by omega));rcases Nat.eq_or_lt_of_le (show j<=a_ l x y - 1 by omega) with h2 | h2
   ·rw [<- h2]; exact hx
   ·have h3:=iz ho h2 (by omega)
    unfold Lt at h1 h3;omega
  ·left
   refine ⟨by omega,?_⟩;have h1:=lr (l:=l) (x:=x) (y:=y) (by omega);have h2:¬ Lt (l.getD (a_ l x y) aI).index (l.getD (a_ l x y) aI).sub x y:=by
    intro h; rw [dP.2 h] at h1; cases h1
   rcases Nat.eq_or_lt_of_le h with h3 | h3
   ·rw [h3]; exact hx
   ·have h4:=iz ho h3 hj
    unfold Lt at h2 h4;omega
 ·rintro (⟨h,hx⟩ | ⟨h,hx⟩)
  ·exact ⟨_,by rw [List.getD_eq_getElem?_getD,List.getElem?_eq_getElem h]; exact List.getElem_mem h,hx⟩
  ·have h':a_ l x y - 1 < l.length:=by omega
   exact ⟨_,by rw [List.getD_eq_getElem?_getD,List.getElem?_eq_getElem h']; exact List.getElem_mem h',hx⟩
def lp (l:List En):Nat->Nat->Int×Nat
 | 0,_=>(0,0)
 | k + 1,i=>if cD (l.getD i aI)≠0 then (cD (l.getD i aI),i) else if 0 < i/\mb (l.getD (i - 1) aI) (l.getD i aI)=false then (16,i) else lp l k (i + 1)
def bp (l:List En):Int×Nat:=if 96 < l.length then (3,96) else lp l l.length 0
theorem zD {l:List En}:∀ (k i:Nat),k + i=l.length->lp l k i=(0,0)->∀ j,i<=j->j < l.length->cD (l.getD j aI)=0/\(0 < j->mb (l.getD (j - 1) aI) (l.getD j aI)=true)
 | 0,i,hk,_,j,h1,h2=>by omega
 | k + 1,i,hk,h,j,h1,h2=>by
  rw [lp] at h;split at h
  ·rename_i hr; injection h with h _; exact absurd h hr
  ·rename_i hr
   split at h
   ·simp at h
   ·rename_i hb
    rcases Nat.eq_or_lt_of_le h1 with h3 | h3
    ·subst h3
     refine ⟨by simpa using hr,fun h0=>?_⟩;cases hbb:mb (l.getD (i - 1) aI) (l.getD i aI) with
     | true=>rfl
     | false=>exact absurd ⟨h0,hbb⟩ hb
    ·exact zD k (i + 1) (by omega) h j (by omega) h2
theorem pc {l:List En}:∀ (k i:Nat),(lp l k i).1=0->(lp l k i).2=0
 | 0,_,_=>rfl
 | k + 1,i,h=>by
  rw [lp] at h ⊢;split at h
  ·rename_i hr; exact absurd h hr
  ·rename_i hr
   rw [if_neg hr];split at h
   ·simp at h
   ·rename_i hb
    rw [if_neg hb];exact pc k (i + 1) h
theorem oY {l:List En} (h:(bp l).1=0):l.length<=96/\Ord l/\∀ e∈l,cD e=0:=by
 unfold bp at h;split at h
 ·simp at h
 ·rename_i Sh
  have hz:lp l l.length 0=(0,0):=by
   have:=pc l.length 0 h;generalize lp l l.length 0=x at *;obtain ⟨a,b⟩:=x;dsimp only at *;subst h this;rfl
  have ha:=zD l.length 0 (by omega) hz;refine ⟨by omega,fun i hi=>?_,fun e he=>?_⟩
  ·have:=(ha (i + 1) (by omega) hi).2 (by omega)
   rwa [Nat.add_sub_cancel] at this
  ·obtain ⟨j,hj,rfl⟩:=List.getElem_of_mem he
   have:=(ha j (by omega) hj).1
   rwa [List.getD_eq_getElem?_getD,List.getElem?_eq_getElem hj] at this
def pK (l:List En) (any:Bool) (x y:Int) (b:List UInt8):Int:=match bh l x y with
 | none=>if jb l x=true then 101253137 else 100794368
 | some k=>if any=false/\ff (l.getD k aI)≠0 then ff (l.getD k aI) else cJ (l.getD k aI) b
def bK (d:aZ) (x y:Int) (b:List UInt8):aZ:=match bh d.l x y with
 | none=>d
 | some k=>if cJ (d.l.getD k aI) b=0 then ⟨d.l,d.v.set k b⟩ else d
def c_ (d:aZ) (x y:Int):Option (List UInt8):=(bh d.l x y).map fun k=>d.v.getD k []
structure Vl where
 index:Int
 sub:Int
 data:List UInt8
def jC (d:aZ):List Vl:=(List.range d.l.length).map fun k=>⟨(d.l.getD k aI).index,(d.l.getD k aI).sub,d.v.getD k []⟩
def oP:List Vl->List Vl->Bool
 | [],[]=>true
 | a :: l,b :: m=>a.index == b.index && a.sub == b.sub && a.data == b.data && oP l m
 | _,_=>false
end Dc
namespace Mp
open aD Dc
def ix (w:Nat):Nat:=w / 65536
def sb (w:Nat):Nat:=w / 256 % 256
def bt (w:Nat):Nat:=w % 256
def aU (l:List Nat):Nat:=(l.map bt).sum
def jH (l:List En) (cm:Bool) (w:Nat):Int:=match bh l (ix w) (sb w) with
 | none=>if jb l (ix w)=true then 101253137 else 100794368
 | some k=>if (l.getD k aI).map=false\/((Ty.kd (l.getD k aI).type).bits:Int)≠(bt w:Int)\/(if cm=true then ff (l.getD k aI) else kQ (l.getD k aI))≠0 then 100925505 else 0
def iG (l:List En) (cm:Bool) (all:List Nat):Nat->Nat->Int
 | 0,_=>0
 | k + 1,i=>if jH l cm (all.getD i 0)≠0 then jH l cm (all.getD i 0) else if 64 < aU (all.take (i + 1)) then 100925506 else iG l cm all k (i + 1)
def ar (l:List En) (cm:Bool) (all:List Nat):Int:=if 8 < all.length then 100925506 else iG l cm all all.length 0
end Mp
namespace Bt
def ba (n:Int):Int:=if n < 1 then 0 else (n - 1) / 8 + 1
def fA (len:Nat) (at_ n:Int):Int:=if n < 1\/64 < n\/at_ < 0 then 1 else if 8 * (len:Int) < at_\/8 * (len:Int) - at_ < n then 2 else 0
def bt (l:List UInt8) (i:Nat):Nat:=(l.getD (i / 8) 0).toNat / 2 ^ (i % 8) % 2
theorem tZ (l:List UInt8) (i:Nat):bt l i < 2:=Nat.mod_lt _ (by decide)
def gy (l:List UInt8) (p:Nat):Nat->Nat
 | 0=>0
 | n + 1=>gy l p n + bt l (p + n) * 2 ^ n
theorem kT (l:List UInt8) (p:Nat):∀ n,gy l p n < 2 ^ n
 | 0=>by simp [gy]
 | n + 1=>by
  have h1:=kT l p n;have h2:=tZ l (p + n);have h3:bt l (p + n) * 2 ^ n<=1 * 2 ^ n:=Nat.mul_le_mul_right _ (by omega);rw [gy,Nat.pow_succ];omega
def kX (l:List UInt8) (at_ n:Int):Nat×Int:=if fA l.length at_ n=0 then (gy l at_.toNat n.toNat,0) else (0,fA l.length at_ n)
def sb (c:UInt8) (j:Nat) (x:Bool):UInt8:=UInt8.ofNat (if x then c.toNat ||| 2 ^ j else c.toNat &&& (255 - 2 ^ j))
def BP (l:List UInt8) (i:Nat) (x:Bool):List UInt8:=l.set (i / 8) (sb (l.getD (i / 8) 0) (i % 8) x)
def cI (l:List UInt8) (p v:Nat):Nat->List UInt8
 | 0=>l
 | n + 1=>BP (cI l p v n) (p + n) (v.testBit n)
theorem mw (l:List UInt8) (p v:Nat):∀ n,(cI l p v n).length=l.length
 | 0=>rfl
 | n + 1=>by rw [cI,BP,List.length_set,mw]
def jQ (v:Nat) (n:Int):Bool:=decide (n < 64) && v / 2 ^ n.toNat != 0
def qc (l:List UInt8) (at_ n:Int) (v:Nat):List UInt8×Int :=
 if fA l.length at_ n=1 then ([],1) else if jQ v n=true then ([],9) else if fA l.length at_ n=0 then (cI l at_.toNat v n.toNat,0) else ([],fA l.length at_ n)
structure cS where
 bits:Int
 data:List UInt8
def cS.zero:cS:=⟨0,[]⟩
theorem oW {m:Int} (h1:1<=m) (h2:m<=64):1<=ba m/\ba m<=8/\m<=8 * ba m/\8 * ba m < m + 8:=by
 unfold ba;rw [if_neg (by omega)];omega
def fits (f:cS):Bool:=decide (1<=f.bits/\f.bits<=64/\(f.data.length:Int)=ba f.bits)
def cJ (f:cS):Nat×Bool:=if fits f=true then (Oct.le f.data,!jQ (Oct.le f.data) f.bits) else (0,false)
def okF (f:cS):Bool:=(cJ f).2
theorem je {f:cS} (h:okF f=true):1<=f.bits/\f.bits<=64/\(f.data.length:Int)=ba f.bits/\jQ (Oct.le f.data) f.bits=false:=by
 unfold okF cJ at h;split at h
 ·rename_i h1
  unfold fits at h1;have h2:=of_decide_eq_true h1;exact ⟨h2.1,h2.2.1,h2.2.2,by simpa using h⟩
 ·cases h
theorem J_ {f:cS} (h:okF f=true):cJ f=(Oct.le f.data,true):=by
 have h1:=je h;unfold cJ;rw [if_pos (by unfold fits; exact decide_eq_true ⟨h1.1,h1.2.1,h1.2.2.1⟩),h1.2.2.2];rfl
def cH (ws:List Int):Nat->Int
 | 0=>0
 | k + 1=>cH ws k + ws.getD k 0
def okW (w:Int):Bool:=decide (1<=w/\w<=64)
theorem iE {w:Int}:okW w=true↔1<=w/\w<=64:=by unfold okW; exact decide_eq_true_iff
theorem lX {ws:List Int} (h:∀ i,i < ws.length->okW (ws.getD i 0)=true):∀ k,k<=ws.length->(k:Int)<=cH ws k/\cH ws k<=64 * k
 | 0,_=>by simp [cH]
 | k + 1,hk=>by
  have h1:=lX h k (by omega);have h2:=iE.1 (h k (by omega));rw [cH];omega
theorem rY {ws:List Int} (h:∀ i,i < ws.length->okW (ws.getD i 0)=true):∀ k m,k + m<=ws.length->cH ws k + m<=cH ws (k + m)
 | k,0,_=>by simp
 | k,m + 1,hk=>by
  have h1:=rY h k m (by omega);have h2:=iE.1 (h (k + m) (by omega));rw [<- Nat.add_assoc,cH];omega
def dL (ws:List Int) (ok:List Bool):Int×Int:=if ok.all id=true then (if 64 < cH ws ws.length then (0,3) else (cH ws ws.length,0)) else (0,1)
def bitsOf (l:List cS):List Int:=l.map (·.bits)
def lE (l:List cS) (b:List UInt8):Nat->List UInt8
 | 0=>b
 | k + 1=>cI (lE l b k) (cH (bitsOf l) k).toNat (Oct.le (l.getD k cS.zero).data) (l.getD k cS.zero).bits.toNat
theorem ll (l:List cS) (b:List UInt8):∀ k,(lE l b k).length=b.length
 | 0=>rfl
 | k + 1=>by rw [lE,mw,ll]
def mK (l:List cS):List UInt8×Int :=
 if (dL (bitsOf l) (l.map okF)).2=0 then (lE l (List.replicate (ba (dL (bitsOf l) (l.map okF)).1).toNat 0) l.length,0) else ([],(dL (bitsOf l) (l.map okF)).2)
def eu (b:List UInt8) (p:Nat) (w:Int):cS:=⟨w,Oct.lb (ba w).toNat (gy b p w.toNat)⟩
def fS (b:List UInt8) (ws:List Int):Nat->List cS
 | 0=>[]
 | k + 1=>fS b ws k ++ [eu b (cH ws k).toNat (ws.getD k 0)]
theorem gM (b:List UInt8) (ws:List Int):∀ k,(fS b ws k).length=k
 | 0=>rfl
 | k + 1=>by rw [fS,List.length_append,gM]; rfl
def bg (b:List UInt8) (ws:List Int):List cS×Int :=
 if (dL ws (ws.map okW)).2=0 then (if 8 * (b.length:Int) < (dL ws (ws.map okW)).1 then ([],2) else (fS b ws ws.length,0)) else ([],(dL ws (ws.map okW)).2)
theorem zt {ok:List Bool} (h:ok.all id=true) {i:Nat} (hi:i < ok.length):ok.getD i false=true:=by
 rw [List.all_eq_true] at h;have:=h ok[i] (List.getElem_mem hi);simpa [List.getD,hi] using this
theorem vU {ok:List Bool} (h:∀ i,i < ok.length->ok.getD i false=true):ok.all id=true:=by
 rw [List.all_eq_true];intro x hx;obtain ⟨i,hi,rfl⟩:=List.getElem_of_mem hx;have:=h i hi;simpa [List.getD,hi] using this
theorem Jh {ok:List Bool} {i:Nat} (hi:i < ok.length) (h:ok.getD i false=false):ok.all id=false:=by
 cases hb:ok.all id with
 | false=>rfl
 | true=>rw [zt hb hi] at h; cases h
theorem jh (l:List cS) (i:Nat):(bitsOf l).getD i 0=(l.getD i cS.zero).bits:=by
 unfold bitsOf;simp only [List.getD,List.getElem?_map];cases l[i]? <;> rfl
theorem pb (l:List cS) (i:Nat):(l.map okF).getD i false=okF (l.getD i cS.zero):=by
 simp only [List.getD,List.getElem?_map];cases l[i]? <;> rfl
theorem pG (ws:List Int) (i:Nat):(ws.map okW).getD i false=okW (ws.getD i 0):=by
 simp only [List.getD,List.getElem?_map];cases ws[i]? <;> rfl
end Bt
namespace Mp
open aD Dc
def Uy (D:aZ) (w:Nat):Bt.cS:=⟨(bt w:Int),(c_ D (ix w) (sb w)).getD []⟩
def jT (D:aZ) (ws:List Nat):List Bt.cS:=ws.map (Uy D)
def iF (D:aZ) (ws:List Nat):List UInt8×Int:=if ar D.l false ws≠0 then ([],4) else Bt.mK (jT D ws)
def aF (ws:List Nat):List Int:=ws.map fun w=>(bt w:Int)
def qS (l:List En) (w:Nat):En:=l.getD ((bh l (ix w) (sb w)).getD 0) aI
def jL (l:List En) (ws:List Nat) (fs:List Bt.cS) (k:Nat):Bool:=decide (cJ (qS l (ws.getD k 0)) (fs.getD k Bt.cS.zero).data=0)
def cU (l:List En) (ws:List Nat) (fs:List Bt.cS):Nat->Bool
 | 0=>true
 | k + 1=>cU l ws fs k && jL l ws fs k
def j6 (ws:List Nat) (fs:List Bt.cS):Nat->List Vl
 | 0=>[]
 | k + 1=>j6 ws fs k ++ [⟨(ix (ws.getD k 0):Int),(sb (ws.getD k 0):Int),(fs.getD k Bt.cS.zero).data⟩]
theorem cz (ws:List Nat) (fs:List Bt.cS):∀ k,(j6 ws fs k).length=k
 | 0=>rfl
 | k + 1=>by rw [j6,List.length_append,cz]; rfl
theorem jw (ws:List Nat) (fs:List Bt.cS):∀ (k i:Nat),i < k->(j6 ws fs k)[i]?=some ⟨(ix (ws.getD i 0):Int),(sb (ws.getD i 0):Int),(fs.getD i Bt.cS.zero).data⟩
 | 0,_,h=>absurd h (by omega)
 | k + 1,i,h=>by
  rw [j6];rcases Nat.lt_or_ge i k with h1 | h1
  ·rw [List.getElem?_append_left (by rw [cz]; exact h1)]
   exact jw ws fs k i h1
  ·obtain rfl:i=k:=by omega
   rw [List.getElem?_append_right (by rw [cz]; omega),cz];simp
def aT (l:List En) (ws:List Nat) (b:List UInt8):List Vl×Int :=
 if ar l true ws≠0 then ([],4)
 else if (Bt.bg b (aF ws)).2≠0 then ([],(Bt.bg b (aF ws)).2)
 else if cU l ws (Bt.bg b (aF ws)).1 ws.length=true then (j6 ws (Bt.bg b (aF ws)).1 ws.length,0) else ([],9)
theorem iu {l:List En} {ws:List Nat} {fs:List Bt.cS}:∀ {k:Nat},cU l ws fs k=true->∀ i,i < k->jL l ws fs i=true
 | 0,_,_,h=>absurd h (by omega)
 | k + 1,h,i,hi=>by
  rw [cU,Bool.and_eq_true] at h;rcases Nat.lt_or_ge i k with h1 | h1
  ·exact iu h.1 i h1
  ·obtain rfl:i=k:=by omega
   exact h.2
theorem oA {l:List En} {ws:List Nat} {fs:List Bt.cS}:∀ {k:Nat},(∀ i,i < k->jL l ws fs i=true)->cU l ws fs k=true
 | 0,_=>rfl
 | k + 1,h=>by rw [cU,oA (fun i hi=>h i (by omega)),h k (by omega)]; rfl
theorem xa {l:List En} {ws:List Nat} {fs:List Bt.cS} {n k:Nat} (hk:k < n) (h:jL l ws fs k=false):cU l ws fs n=false:=by
 cases e:cU l ws fs n with
 | false=>rfl
 | true=>rw [iu e k hk] at h; cases h
theorem mG {l:List En} {cm:Bool} {all:List Nat}:∀ (k i:Nat),iG l cm all k i=0->∀ j,i<=j->j < i + k->jH l cm (all.getD j 0)=0/\aU (all.take (j + 1))<=64
 | 0,i,_,j,h1,h2=>by omega
 | k + 1,i,h,j,h1,h2=>by
  rw [iG] at h;split at h
  ·rename_i ho; exact absurd h ho
  ·rename_i ho
   split at h
   ·simp at h
   ·rename_i hs
    rcases Nat.eq_or_lt_of_le h1 with h3 | h3
    ·subst h3
     exact ⟨by simpa using ho,by omega⟩
    ·exact mG k (i + 1) h j (by omega) (by omega)
theorem bD {l:List En} {cm:Bool} {ws:List Nat} (h:ar l cm ws=0):ws.length<=8/\∀ i,i < ws.length->jH l cm (ws.getD i 0)=0/\aU (ws.take (i + 1))<=64:=by
 unfold ar at h;split at h
 ·simp at h
 ·exact ⟨by omega,fun i hi=>mG ws.length 0 h i (by omega) (by omega)⟩
theorem j7 {l:List En} {cm:Bool} {ws:List Nat} (h:ar l cm ws=0):aU ws<=64:=by
 obtain ⟨h1,h2⟩:=bD h;rcases Nat.eq_zero_or_pos ws.length with h0 | h0
 ·have:ws=[]:=List.eq_nil_of_length_eq_zero h0
  subst this;decide
 ·have:=(h2 (ws.length - 1) (by omega)).2
  rwa [show ws.length - 1 + 1=ws.length by omega,List.take_length] at this
theorem eC {l:List En} {cm:Bool} {w:Nat} (h:jH l cm w=0):∃ k,bh l (ix w) (sb w)=some k/\qS l w=l.getD k aI/\(l.getD k aI).map=true/\((Ty.kd (l.getD k aI).type).bits:Int)=(bt w:Int)/\(if cm=true then ff (l.getD k aI) else kQ (l.getD k aI))=0:=by
 unfold jH at h;unfold qS;cases hf:bh l (ix w) (sb w) with
 | none =>
  rw [hf] at h;dsimp only at h;split at h <;> simp at h
 | some k =>
  rw [hf] at h;dsimp only at h;refine ⟨k,rfl,rfl,?_⟩
  by_cases hc:(l.getD k aI).map=false\/((Ty.kd (l.getD k aI).type).bits:Int)≠(bt w:Int)\/(if cm=true then ff (l.getD k aI) else kQ (l.getD k aI))≠0
  ·rw [if_pos hc] at h; simp at h
  ·refine ⟨?_,?_,?_⟩
   ·cases hm:(l.getD k aI).map with
    | true=>rfl
    | false=>exact absurd (Or.inl hm) hc
   ·exact Classical.not_not.1 fun hx=>hc (Or.inr (Or.inl hx))
   ·exact Classical.not_not.1 fun hx=>hc (Or.inr (Or.inr hx))
theorem iy (ws:List Nat):(aF ws).length=ws.length:=by unfold aF; rw [List.length_map]
theorem vw (ws:List Nat) {k:Nat} (hk:k < ws.length):aF (ws.take (k + 1))=aF (ws.take k) ++ [(bt (ws.getD k 0):Int)]:=by
 unfold aF;rw [List.take_succ_eq_append_getElem hk,List.map_append,List.getD_eq_getElem?_getD,List.getElem?_eq_getElem hk];rfl
theorem AB (D:aZ) (ws:List Nat) {k:Nat} (hk:k < ws.length):jT D (ws.take (k + 1))=jT D (ws.take k) ++ [Uy D (ws.getD k 0)]:=by
 unfold jT;rw [List.take_succ_eq_append_getElem hk,List.map_append,List.getD_eq_getElem?_getD,List.getElem?_eq_getElem hk];rfl
theorem uC (w:Nat):bt w<=255:=by unfold bt; omega
theorem xJ {L:List (List UInt8)} (h:∀ v∈L,v.length<=1000000) (k:Nat):(L.getD k []).length<=1000000:=by
 rw [List.getD_eq_getElem?_getD];cases hi:L[k]? with
 | none=>simp
 | some x=>exact h _ (List.mem_of_getElem? hi)
theorem pM {D:aZ} (h:∀ v∈D.v,v.length<=1000000) (x y:Int):((c_ D x y).getD []).length<=1000000:=by
 unfold c_;cases bh D.l x y with
 | none=>simp
 | some k=>exact xJ h k
theorem xz {D:aZ} (h:∀ v∈D.v,v.length<=1000000) (ws:List Nat):∀ f∈jT D ws,f.data.length<=1000000/\f.bits<=255:=by
 intro f hf;unfold jT at hf;obtain ⟨w,_,rfl⟩:=List.mem_map.1 hf;have:=uC w;exact ⟨pM h _ _,by show (bt w:Int)<=255; omega⟩
theorem oG (b:List UInt8) (W:List Int) (hW:∀ x∈W,x<=255):∀ k,∀ f∈Bt.fS b W k,f.data.length<=32
 | 0,f,hf=>by simp [Bt.fS] at hf
 | k + 1,f,hf=>by
  rw [Bt.fS,List.mem_append] at hf;rcases hf with hf | hf
  ·exact oG b W hW k f hf
  ·simp only [List.mem_cons,List.not_mem_nil,or_false] at hf
   subst hf;have hw:W.getD k 0<=255:=by
    rw [List.getD_eq_getElem?_getD];cases hi:W[k]? with
    | none=>simp
    | some x=>exact hW _ (List.mem_of_getElem? hi)
   unfold Bt.eu;dsimp only;rw [Oct.dw];unfold Bt.ba;split <;> omega
theorem rW (b:List UInt8) (W:List Int) (hW:∀ x∈W,x<=255) (i:Nat):((Bt.bg b W).1.getD i Bt.cS.zero).data.length<=32:=by
 rw [List.getD_eq_getElem?_getD];cases hi:(Bt.bg b W).1[i]? with
 | none=>simp [Bt.cS.zero]
 | some f =>
  have hm:=List.mem_of_getElem? hi;unfold Bt.bg at hm;split at hm
  ·split at hm
   ·simp at hm
   ·exact oG b W hW _ f hm
  ·simp at hm
theorem jY (l:List En) (ws:List Nat) (b:List UInt8):∀ v∈(aT l ws b).1,v.data.length<=32:=by
 intro v hv;unfold aT at hv;split at hv
 ·simp at hv
 ·split at hv
  ·simp at hv
  ·split at hv
   ·dsimp only at hv
    obtain ⟨i,hi,rfl⟩:=List.getElem_of_mem hv;have h1:=jw ws (Bt.bg b (aF ws)).1 ws.length i (by rwa [cz] at hi);rw [List.getElem?_eq_getElem hi] at h1;injection h1 with h1
    rw [h1];exact rW b (aF ws) (fun x hx=>by
     unfold aF at hx;obtain ⟨w,_,rfl⟩:=List.mem_map.1 hx;have:=uC w;omega) i
   ·simp at hv
end Mp
namespace aY
def bad (w:Nat):Bool:=decide (2048<=w % 1073741824)
def off (w:Nat):Bool:=decide (2147483648<=w)
def IT (w:Nat):Bool:=decide (1073741824<=w % 2147483648)
def id (w:Nat):Nat:=w % 2048
def jO (n:Int):Bool:=decide (n < 128\/2047 < n\/(257<=n/\n<=384)\/(1409<=n/\n<=1535)\/(1537<=n/\n<=1663)\/(1760<=n/\n<=1791)\/1792 < n)
def place (w:Nat):Int:=if bad w=true then 100925507 else if off w=false/\jO (id w:Int)=true then 100925507 else 0
def fl (w:Nat):Nat:=if off w=true then 0 else id w
theorem l7 {w:Nat} (h:place w=0):bad w=false:=by
 unfold place at h;split at h
 ·simp at h
 ·rename_i hb
  simpa using hb
theorem oc (x:Nat) (hx:x < 4294967296):bits .andNot .u32 (x:Int) 3221225472=((x % 1073741824:Nat):Int):=by
 show IntKind.u32.wrap ((BitVec.ofInt 32 (x:Int) &&& ~~~BitVec.ofInt 32 3221225472).toNat:Int)=_;have h1:(BitVec.ofInt 32 (x:Int)).toNat=x:=by simp [BitVec.toNat_ofInt]; omega
 have h2:(~~~BitVec.ofInt 32 3221225472).toNat=2 ^ 30 - 1:=by decide
 rw [BitVec.toNat_and,h1,h2,Nat.and_two_pow_sub_one_eq_mod];simp [IntKind.wrap,IntKind.bits,IntKind.signed];omega
theorem yG (x n:Nat) (hx:x < 4294967296) (hn:n < 32):bits .and .u32 (x:Int) ((2 ^ n:Nat):Int)=(((x / 2 ^ n % 2) * 2 ^ n:Nat):Int):=by
 have hp:2 ^ n<=2 ^ 31:=Nat.pow_le_pow_right (by decide) (by omega);have:=u32_and_nat x (2 ^ n) hx (by omega);rw [this]
 congr 1
 apply Nat.eq_of_testBit_eq
 intro i;rw [Nat.testBit_and,Nat.testBit_two_pow,Nat.testBit_mul_two_pow];rcases Nat.lt_trichotomy n i with h | h | h
 ·have h1:x / 2 ^ n % 2 < 2 ^ (i - n):=by
   have:2 ^ 1<=2 ^ (i - n):=Nat.pow_le_pow_right (by decide) (by omega);omega
  rw [Nat.testBit_lt_two_pow h1,decide_eq_false (show ¬ n=i by omega)];simp
 ·subst h
  rw [Nat.sub_self,Nat.testBit_zero,Nat.testBit_eq_decide_div_mod_eq];simp
 ·rw [decide_eq_false (show ¬ n=i by omega),decide_eq_false (show ¬ n<=i by omega)]
  simp
theorem Jp (x:Nat) (hx:x < 4294967296):(bits .and .u32 (x:Int) 2147483648 != 0)=off x:=by
 have:=yG x 31 hx (by decide);rw [show ((2 ^ 31:Nat):Int)=2147483648 by decide] at this;rw [this];unfold off
 by_cases h:2147483648<=x
 ·rw [decide_eq_true h,show x / 2 ^ 31 % 2=1 by omega]
  decide
 ·rw [decide_eq_false h,show x / 2 ^ 31 % 2=0 by omega]
  decide
theorem I_ (x:Nat) (hx:x < 4294967296):(bits .and .u32 (x:Int) 1073741824 != 0)=IT x:=by
 have:=yG x 30 hx (by decide);rw [show ((2 ^ 30:Nat):Int)=1073741824 by decide] at this;rw [this];unfold IT
 by_cases h:1073741824<=x % 2147483648
 ·rw [decide_eq_true h,show x / 2 ^ 30 % 2=1 by omega]
  decide
 ·rw [decide_eq_false h,show x / 2 ^ 30 % 2=0 by omega]
  decide
end aY
end Go.Proofs.YtijegngfclkdaaaGreatDoor
