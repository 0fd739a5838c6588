/-
  Pieces of the proof: part 13 of 54.
  Conditions: none.
-/
import Derived.Test.YtijegngfclkdaaaGreatDoorProg
import Derived.Test.YtijegngfclkdaaaGreatDoorW12
set_option linter.unusedVariables false
set_option linter.unusedSimpArgs false
set_option maxHeartbeats 100000000
set_option maxRecDepth 100000
namespace Go.Proofs.YtijegngfclkdaaaGreatDoor
open Go.RowKit
theorem etb:ET Tryz.prog 25 5 1 1 (.int .u8 0):=⟨Tryz.underlying25,info_parts (by kernel_rfl),rfl,by decide⟩
def cnt (n m:Int):Int:=n % m
theorem cnt_pos {n m:Int} (h:1≤m) (h0:0≤n.tmod m):n.tmod m=cnt n m:=by
 have h1:=Int.mul_tdiv_add_tmod n m;have h2:=Int.tmod_lt_of_pos n (show 0 < m by omega);unfold cnt
 conv=>rhs; rw [← h1]
 rw [Int.add_comm,Int.add_mul_emod_self_left,Int.emod_eq_of_lt h0 h2]
theorem cnt_neg {n m:Int} (h:1≤m) (h0:n.tmod m < 0) (h3:-m < n.tmod m):n.tmod m + m=cnt n m:=by
 have h1:=Int.mul_tdiv_add_tmod n m;unfold cnt
 conv=>rhs; rw [← h1]
 rw [Int.add_comm (m * _),Int.add_mul_emod_self_left,← Int.add_emod_right,Int.emod_eq_of_lt (by omega) (by omega)]
theorem Count_any (n m:Int) (w:World) (h1:1≤m) (h2:m≤4294967296) (h3:-9223372036854775808≤n) (h4:n≤9223372036854775807) :
  Calls Tryz.prog 7 #[.int .i64 n,.int .i64 m] w fun e w'=>e=.returned (.int .i64 (cnt n m))∧w=w':=by
 have b1:=Int.tmod_lt_of_pos n (show 0 < m by omega);have b2:-m < n.tmod m:=by have:=Int.lt_tmod_of_pos n (show 0 < m by omega); exact this
 go_enter Tryz.func7,Tryz.ntmps7
 go_wp2
 ·go_ret
  exact ⟨ret_int (cnt_neg h1 (by assumption) b2),rfl⟩
 ·go_ret
  exact ⟨ret_int (cnt_pos h1 (by assumption)),rfl⟩
end Go.Proofs.YtijegngfclkdaaaGreatDoor
namespace Go.Proofs.YtijegngfclkdaaaGreatDoor.Crc
def poly:Nat:=3988292384
def full:Nat:=4294967295
def T (d:Nat):Nat:=d / 2 ^^^ (if d % 2=0 then 0 else poly)
def stp (r b:Nat):Nat:=T (r ^^^ b)
def bitsStep:Nat→Nat→Nat→Nat
 | 0,r,_=>r
 | k + 1,r,c=>bitsStep k (stp r (c % 2)) (c / 2)
def reg (r:Nat) (l:List UInt8):Nat:=l.foldl (fun r c=>bitsStep 8 r c.toNat) r
def on (s:Nat) (l:List UInt8):Nat:=full - reg (full - s) l
theorem T_lt (d:Nat) (h:d < 2 ^ 32):T d < 2 ^ 32:=by
 unfold T;refine Nat.xor_lt_two_pow (by omega) ?_;split <;> decide
theorem xor_mod2 (x y:Nat):(x ^^^ y) % 2=(x % 2) ^^^ (y % 2):=by
 have:=Nat.xor_mod_two_pow (a:=x) (b:=y) (n:=1);simpa using this
theorem xor_div2 (x y:Nat):(x ^^^ y) / 2=(x / 2) ^^^ (y / 2):=by
 have:=Nat.xor_div_two_pow (a:=x) (b:=y) (n:=1);simpa using this
theorem T_xor (x y:Nat):T (x ^^^ y)=T x ^^^ T y:=by
 unfold T;rw [xor_mod2,xor_div2];rcases Nat.mod_two_eq_zero_or_one x with hx | hx <;> rcases Nat.mod_two_eq_zero_or_one y with hy | hy <;> rw [hx,hy]
 ·simp
 ·simp [Nat.xor_assoc]
 ·simp only [Nat.xor_zero,Nat.one_ne_zero,if_false,if_true]
  rw [Nat.xor_assoc,Nat.xor_assoc,Nat.xor_comm poly]
 ·simp only [Nat.xor_self,Nat.one_ne_zero,if_false,if_true]
  rw [Nat.xor_zero,Nat.xor_assoc,← Nat.xor_assoc poly,Nat.xor_comm poly,Nat.xor_assoc,Nat.xor_self,Nat.xor_zero]
theorem T_inj0 (d:Nat) (hd:d < 2 ^ 32) (h:T d=0):d=0:=by
 unfold T at h
 by_cases h2:d % 2=0
 ·rw [if_pos h2,Nat.xor_zero] at h; omega
 ·rw [if_neg h2] at h
  have:d / 2=poly:=by
   have:=congrArg (· ^^^ poly) h;simpa [Nat.xor_assoc] using this
  unfold poly at this; omega
theorem xor_eq_zero {x y:Nat} (h:x ^^^ y=0):x=y:=by
 have:=congrArg (· ^^^ y) h;simpa [Nat.xor_assoc] using this

def regb (r:Nat) (bs:List Nat):Nat:=bs.foldl stp r
theorem regb_append (r:Nat) (a b:List Nat):regb r (a ++ b)=regb (regb r a) b:=by simp [regb]
theorem stp_lt (r b:Nat) (hr:r < 2 ^ 32) (hb:b < 2):stp r b < 2 ^ 32:=T_lt _ (Nat.xor_lt_two_pow hr (by omega))
theorem regb_lt:∀ (bs:List Nat) (r:Nat),r < 2 ^ 32→(∀ b∈bs,b < 2)→regb r bs < 2 ^ 32
 | [],r,h,_=>h
 | b :: bs,r,h,hb=>regb_lt bs (stp r b) (stp_lt r b h (hb b (by simp))) fun c hc=>hb c (by simp [hc])
def byteBits (c:Nat):List Nat:=(List.range 8).map fun i=>c / 2 ^ i % 2
theorem bitsStep_regb (r c:Nat):bitsStep 8 r c=regb r (byteBits c):=by
 simp [bitsStep,regb,byteBits,List.range_succ,Nat.div_div_eq_div_mul]
theorem bitsStep_succ:∀ (k r c:Nat),bitsStep (k + 1) r c=stp (bitsStep k r c) (c / 2 ^ k % 2)
 | 0,r,c=>by simp [bitsStep]
 | k + 1,r,c=>by
  rw [bitsStep,bitsStep_succ k,bitsStep]
  congr 2
  rw [Nat.div_div_eq_div_mul,Nat.pow_succ,Nat.mul_comm]
theorem bitsStep_lt:∀ (k r c:Nat),r < 2 ^ 32→bitsStep k r c < 2 ^ 32
 | 0,_,_,h=>h
 | k + 1,r,c,h=>bitsStep_lt k _ _ (stp_lt r _ h (Nat.mod_lt _ (by decide)))
def bitsOf (l:List UInt8):List Nat:=l.flatMap fun c=>byteBits c.toNat
theorem reg_bits:∀ (l:List UInt8) (r:Nat),reg r l=regb r (bitsOf l)
 | [],r=>rfl
 | c :: l,r=>by
  show reg (bitsStep 8 r c.toNat) l=_;have e:bitsOf (c :: l)=byteBits c.toNat ++ bitsOf l:=by simp [bitsOf]
  rw [reg_bits l,bitsStep_regb,e,regb_append]
theorem byteBits_lt (c:Nat):∀ b∈byteBits c,b < 2:=by
 intro b hb; simp only [byteBits,List.mem_map] at hb;obtain ⟨i,_,rfl⟩:=hb; exact Nat.mod_lt _ (by decide)
theorem bitsOf_lt (l:List UInt8):∀ b∈bitsOf l,b < 2:=by
 intro b hb; simp only [bitsOf,List.mem_flatMap] at hb;obtain ⟨c,_,h⟩:=hb; exact byteBits_lt _ b h
theorem reg_lt (l:List UInt8) (r:Nat) (h:r < 2 ^ 32):reg r l < 2 ^ 32:=by
 rw [reg_bits]; exact regb_lt _ r h (bitsOf_lt l)
theorem reg_snoc (r:Nat) (a:List UInt8) (c:UInt8):reg r (a ++ [c])=bitsStep 8 (reg r a) c.toNat:=by simp [reg]
theorem on_lt (s:Nat) (l:List UInt8):on s l < 2 ^ 32:=by unfold on full; omega

def Tn:Nat→Nat→Nat
 | 0,d=>d
 | n + 1,d=>Tn n (T d)
theorem Tn_inj0:∀ (n d:Nat),d < 2 ^ 32→Tn n d=0→d=0
 | 0,_,_,h=>h
 | n + 1,d,hd,h=>T_inj0 d hd (Tn_inj0 n (T d) (T_lt d hd) h)
theorem Tn_xor:∀ (n x y:Nat),Tn n (x ^^^ y)=Tn n x ^^^ Tn n y
 | 0,_,_=>rfl
 | n + 1,x,y=>by simp only [Tn,T_xor,Tn_xor n]
theorem T_inj {x y:Nat} (n:Nat) (hx:x < 2 ^ 32) (hy:y < 2 ^ 32) (h:Tn n x=Tn n y):x=y:=by
 apply xor_eq_zero
 apply Tn_inj0 n _ (Nat.xor_lt_two_pow hx hy)
 rw [Tn_xor,h,Nat.xor_self]
end Go.Proofs.YtijegngfclkdaaaGreatDoor.Crc
namespace Go.Proofs.YtijegngfclkdaaaGreatDoor.Oct
def le:List UInt8→Nat
 | []=>0
 | c :: l=>c.toNat + 256 * le l
def lb:Nat→Nat→List UInt8
 | 0,_=>[]
 | k + 1,n=>lb k n ++ [UInt8.ofNat (n / 256 ^ k)]
theorem lb_length:∀ k n,(lb k n).length=k
 | 0,_=>rfl
 | k + 1,n=>by simp [lb,lb_length k]
theorem le_append:∀ (a b:List UInt8),le (a ++ b)=le a + 256 ^ a.length * le b
 | [],b=>by simp [le]
 | c :: a,b=>by
  simp only [List.cons_append,le,List.length_cons,le_append a b,Nat.pow_succ];rw [Nat.mul_add,← Nat.mul_assoc,Nat.add_assoc,Nat.mul_comm 256 (256 ^ a.length)]
theorem le_snoc (a:List UInt8) (c:UInt8):le (a ++ [c])=le a + c.toNat * 256 ^ a.length:=by
 rw [le_append]; simp [le,Nat.mul_comm]
theorem le_lt:∀ (l:List UInt8),le l < 256 ^ l.length
 | []=>by simp [le]
 | c :: l=>by
  have h1:=le_lt l;have h2:=c.toNat_lt;simp only [le,List.length_cons,Nat.pow_succ];omega
def cut (l:List UInt8) (p k:Nat):List UInt8:=(l.drop p).take k
theorem cut_length (l:List UInt8) (p k:Nat) (h:p + k≤l.length):(cut l p k).length=k:=by simp [cut]; omega
theorem cut_succ (l:List UInt8) (p k:Nat) (h:p + k < l.length):cut l p (k + 1)=cut l p k ++ [l.getD (p + k) 0]:=by
 unfold cut;rw [List.take_succ_eq_append_getElem (by simp; omega)];simp [List.getD,h]
theorem cut_zero (l:List UInt8) (p:Nat):cut l p 0=[]:=by simp [cut]
theorem le_lb:∀ (k n:Nat),le (lb k n)=n % 256 ^ k
 | 0,n=>by simp [lb,le,Nat.mod_one]
 | k + 1,n=>by
  rw [lb,le_snoc,le_lb k,lb_length,UInt8.toNat_ofNat',show (2 ^ 8:Nat)=256 from rfl,Nat.mod_pow_succ (x:=n) (b:=256) (k:=k),Nat.mul_comm (256 ^ k)]
theorem lb_cons:∀ (k n:Nat),lb (k + 1) n=UInt8.ofNat n :: lb k (n / 256)
 | 0,n=>by simp [lb]
 | k + 1,n=>by
  rw [lb,lb_cons k n,List.cons_append]
  congr 1
  rw [lb,Nat.div_div_eq_div_mul,Nat.pow_succ,Nat.mul_comm 256]
theorem lb_le:∀ (l:List UInt8),lb l.length (le l)=l
 | []=>rfl
 | c :: l=>by
  have h:=c.toNat_lt;rw [List.length_cons,lb_cons,le];rw [show (c.toNat + 256 * le l) / 256=le l by omega,lb_le l]
  congr 1
  apply UInt8.toNat_inj.1
  rw [UInt8.toNat_ofNat'];omega
end Go.Proofs.YtijegngfclkdaaaGreatDoor.Oct
namespace Go.Proofs.YtijegngfclkdaaaGreatDoor
open Go.RowKit
theorem nat_not32 (s:Nat) (h:s < 4294967296):4294967295 ^^^ s=4294967295 - s:=by
 apply Nat.eq_of_testBit_eq
 intro i;have h':s < 2 ^ 32:=h;rw [Nat.testBit_xor,show 4294967295 - s=2 ^ 32 - (s + 1) by omega,Nat.testBit_two_pow_sub_succ h',show 4294967295=2 ^ 32 - 1 by decide,Nat.testBit_two_pow_sub_one]
 by_cases hi:i < 32
 ·simp [hi]
 ·have:s.testBit i=false:=Nat.testBit_lt_two_pow (Nat.lt_of_lt_of_le h' (Nat.pow_le_pow_right (by decide) (by omega)))
  simp [hi,this]
theorem not32 (s:Nat) (h:s < 4294967296):bits .xor .u32 4294967295 (s:Int)=((4294967295 - s:Nat):Int):=by
 have:=u32_xor_nat 4294967295 s (by decide) h;rw [nat_not32 s h] at this;exact this
theorem take_val (r bit:Nat) (hr:r < 4294967296) (hb:bit < 2) :
  bits .xor .u32 ((r:Int) / 2) (bits .and .u32 3988292384 (-bits .xor .u32 (bits .and .u32 (r:Int) 1) (bit:Int) % 4294967296))=(Crc.stp r bit:Int):=by
 have e1:bits .and .u32 (r:Int) 1=((r % 2:Nat):Int):=by
  have:=u32_and_nat r 1 hr (by decide)
  rwa [nat_mask1] at this
 have h2:r % 2 < 2:=Nat.mod_lt _ (by decide);have e2:bits .xor .u32 ((r % 2:Nat):Int) (bit:Int)=((r % 2 ^^^ bit:Nat):Int):=u32_xor_nat _ _ (by omega) (by omega);have hq:(r ^^^ bit) / 2=r / 2:=by rw [Crc.xor_div2,show bit / 2=0 by omega,Nat.xor_zero]
 have hm:(r ^^^ bit) % 2=r % 2 ^^^ bit:=by rw [Crc.xor_mod2,show bit % 2=bit by omega]
 rw [e1,e2];unfold Crc.stp Crc.T;rw [hq,hm];have hx:r % 2 ^^^ bit=0∨r % 2 ^^^ bit=1:=by
  rcases (show r % 2=0∨r % 2=1 by omega) with e | e <;> rcases (show bit=0∨bit=1 by omega) with e' | e' <;> rw [e,e'] <;> simp
 rcases hx with e | e <;> rw [e]
 ·have e3:bits .and .u32 3988292384 (-((0:Nat):Int) % 4294967296)=((0:Nat):Int):=u32_and_nat 3988292384 0 (by decide) (by decide)
  rw [e3,if_pos rfl];exact u32_xor_nat (r / 2) 0 (by omega) (by decide)
 ·have e3:bits .and .u32 3988292384 (-((1:Nat):Int) % 4294967296)=((3988292384:Nat):Int):=u32_and_nat 3988292384 4294967295 (by decide) (by decide)
  rw [e3,if_neg (by decide)];exact u32_xor_nat (r / 2) 3988292384 (by omega) (by decide)
theorem take_any (r bit:Nat) (g:Nat) (w:World) {b:Int} (hbb:b=(bit:Int)) (hr:r < 4294967296) (hb:bit < 2) (hg:w.heap[g]?=some (.cells #[.int .u32 (r:Int)] 35 (0,0))) :
  Calls Tryz.prog 393 #[.int .u32 b,.pointer (some ⟨g,0,none⟩)] w fun e w' =>
   e=.returned (.tuple #[])∧w'.heap[g]?=some (.cells #[.int .u32 (Crc.stp r bit:Int)] 35 (0,0))∧w.grownBy w' (some g)∧w'.heap.size=w.heap.size:=by
 subst hbb;have hc:=cell_of_one hg;have hf:=free_of_one hg;have HG:=Lib.hid hg; clear hg;go_enter Tryz.func393,Tryz.ntmps393
 go_wp2
 go_end0
 rw [take_val r bit hr hb];exact ⟨rfl,one_setCell (one_setCell HG.out),grown_setCell (grown_setCell (World.grownBy.refl _ _) (.inl rfl) _) (.inl rfl) _,by simp⟩
theorem On_any {A:Option Addr} {n c B:Nat} {l:List UInt8} (s:Nat) (w:World) (hs:s < 4294967296) (hb:RB w B A n c l) (hB:B≤w.heap.size) :
  Calls Tryz.prog 378 #[.int .u32 (s:Int),.slice A n c] w fun e w'=>e=.returned (.int .u32 (Crc.on s l:Int))∧Below w.heap.size w w':=by
 have hn:=hb.lt;have hl:=hb.len;have h0:bits .xor .u32 IntKind.u32.max (s:Int)=((Crc.full - s:Nat):Int):=not32 s hs;have hf:Crc.full - s < 4294967296:=by unfold Crc.full; omega
 have HL:=Lib.hid hl; clear hl;go_enter Tryz.func378,Tryz.ntmps378
 go_wp2_with fail
 go_loopw [15] (fun i wr=>∃ k:Nat,k≤n∧i=.int .i64 k∧wr.heap[w.heap.size]?=some (.cells #[.int .u32 (Crc.reg (Crc.full - s) (l.take k):Int)] 35 (0,0))∧Below w.heap.size w wr) (fun i _=>n - (intOf i).toNat)
 case atStart=>exact ⟨0,Nat.zero_le _,rfl,heap_alloc_new w _,(Below.refl _ _).alloc (Nat.le_refl _) _⟩
 case round =>
  obtain ⟨k,hk,rfl,hg,hbel⟩:=hrel;have hr:=Crc.reg_lt (l.take k) (Crc.full - s) hf
  by_cases hlt:k < n
  ·obtain ⟨b,o,rfl,hbB,hc⟩:=hb.at_ (by omega)
   have hck:=(hbel.cell (p:=⟨b,o + k,none⟩) (by show b < _; omega)).trans (hc k hlt);have hts:=List.take_succ_eq_append_getElem (l:=l) (i:=k) (by rw [HL.out]; exact hlt);have hgd : l.getD k 0 = l[k]'(by rw [HL.out]; exact hlt) := by simp [List.getD, HL.out, hlt]
   rw [← hgd] at hts;have hx:=byte_lt (l.getD k 0);have HT:=Lib.hid hts; clear hts;clear hgd;generalize hrr:Crc.reg (Crc.full - s) (l.take k)=r at *;have HR:=Lib.hid hrr; clear hrr;generalize hxe:l.getD k 0=x at *;clear hc hxe h0;obtain ⟨wo,rfl⟩:∃ wo:World,wo=wr:=⟨_,rfl⟩;have HG:=Lib.hid hg; clear hg;go_wp2_with fail
   go_loopw [19] (fun j wi=>∃ q:Nat,q≤8∧j=.int .i64 q∧wi.heap[w.heap.size]?=some (.cells #[.int .u32 (Crc.bitsStep q r x.toNat:Int)] 35 (0,0))∧Below w.heap.size w wi) (fun j _=>8 - (intOf j).toNat)
   case atStart=>exact ⟨0,by omega,rfl,HG.out,hbel⟩
   case round =>
    obtain ⟨q,hq,rfl,hgi,hbi⟩:=hrel;have hbit:bits .and .u32 ((x.toNat:Int) / 2 ^ q) 1=((x.toNat / 2 ^ q % 2:Nat):Int):=by
     have:=u32_and_nat (x.toNat / 2 ^ q) 1 (Nat.lt_of_le_of_lt (Nat.div_le_self _ _) (by omega)) (by decide);rw [nat_mask1] at this;rw [← this]; simp
    have hs:=Crc.bitsStep_succ q r x.toNat;have hbl:=Crc.bitsStep_lt q r x.toNat hr;generalize hye:Crc.bitsStep q r x.toNat=y at *;have HB:=Lib.hid hbit; clear hbit;have HS:=Lib.hid hs; clear hs;have HGI:=Lib.hid hgi; clear hgi;have HY:=Lib.hid hye; clear hye
    by_cases hq8:q < 8
    ·go_wp2_with (go_at_call 393; refine (take_any y _ _ _ HB.out hbl (Nat.mod_lt _ (by decide)) HGI.out).mono ?_; rintro e w2 ⟨rfl,hg2,hgr2,hsz2⟩)
     go_roundw
     case rel=>exact ⟨q + 1,by omega,by go_num,by rw [HS.out]; exact hg2,hbi.grown hgr2 hbi.size fun k hk=>by cases hk; exact Nat.le_refl _⟩
     case measure=>simp [intOf]; omega
    ·obtain rfl:q=8:=by omega
     go_wp2_with fail
     go_roundw
     case rel=>exact ⟨k + 1,by omega,by go_num,by rw [HT.out,Crc.reg_snoc,HR.out,HY.out]; exact HGI.out,hbi⟩
     case measure=>simp [intOf]; omega
  ·obtain rfl:k=n:=by omega
   have hc:=cell_of_one hg;rw [List.take_of_length_le (by rw [HL.out]; exact Nat.le_refl _)] at hc;clear hg h0;have h1:bits .xor .u32 IntKind.u32.max (Crc.reg (Crc.full - s) l:Int)=(Crc.on s l:Int):=not32 _ (Crc.reg_lt l _ hf);have H1:=Lib.hid h1; clear h1;go_wp2
   go_ret
   exact ⟨by rw [← H1.out]; rfl,hbel⟩
theorem Sum_any {A:Option Addr} {n c B:Nat} {l:List UInt8} (w:World) (hb:RB w B A n c l) (hB:B≤w.heap.size) :
  Calls Tryz.prog 357 #[.slice A n c] w fun e w'=>e=.returned (.int .u32 (Crc.on 0 l:Int))∧Below w.heap.size w w':=by
 go_enter Tryz.func357,Tryz.ntmps357
 go_wp2_with (go_at_call 378; refine (On_any 0 _ (by decide) hb hB).mono ?_; rintro e w' ⟨rfl,hb1⟩)
 go_ret
 exact ⟨rfl,hb1⟩
end Go.Proofs.YtijegngfclkdaaaGreatDoor
namespace Go.Proofs.YtijegngfclkdaaaGreatDoor
open Go.RowKit
theorem there_yes (x:Int) (w:World) (h1:1≤x) (h2:x≤8):Calls Tryz.prog 181 #[.int .i64 x] w fun e w'=>e=.returned (.bool true)∧w=w':=by
 go_enter Tryz.func181,Tryz.ntmps181
 go_wp2
 go_ret
 exact ⟨by simp [h2],rfl⟩
theorem there_no (x:Int) (w:World) (h:¬ (1≤x∧x≤8)):Calls Tryz.prog 181 #[.int .i64 x] w fun e w'=>e=.returned (.bool false)∧w=w':=by
 by_cases h1:1≤x
 ·have h2:¬ x≤8:=fun h2=>h ⟨h1,h2⟩
  clear h;go_enter Tryz.func181,Tryz.ntmps181
  go_wp2
  all_goals
   go_ret
   exact ⟨by simp <;> omega,rfl⟩
 ·clear h
  go_enter Tryz.func181,Tryz.ntmps181
  go_wp2
  all_goals
   go_ret
   exact ⟨by simp <;> omega,rfl⟩
theorem pow_shift (k:Nat):(2:Int) ^ (8 * k)=((256 ^ k:Nat):Int):=by
 rw [Int.pow_mul]; simp
theorem byte_shift (m j:Nat):((m:Int) / 2 ^ (8 * j)) % 256=((UInt8.ofNat (m / 256 ^ j)).toNat:Int):=by
 rw [pow_shift,← Int.natCast_ediv,UInt8.toNat_ofNat'];simp
theorem Put_ok {A:Option Addr} {n c B:Nat} {l:List UInt8} (k m:Nat) (w:World) (hb:RB w B A n c l) (hn:n < 140737488355000) (hB:B≤w.heap.size) (h1:1≤k) (h2:k≤8) (hm:m < 18446744073709551616) (h:m < 256 ^ k) :
  Calls Tryz.prog 199 #[.slice A n c,.int .i64 (k:Int),.int .u64 (m:Int)] w fun e w' =>
   ∃ A1 c1,e=.returned (.tuple #[.slice A1 (n + k) c1,.int .i64 0])∧OB w' w.heap.size A1 (n + k) c1 (l ++ Oct.lb k m)∧Below w.heap.size w w':=by
 have ht:((m:Int) / 2 ^ (8 * k) != 0)=false:=by
  rw [pow_shift,bne_eq_false_iff_eq,← Int.natCast_ediv,Nat.div_eq_of_lt h]; rfl
 clear h
 by_cases hk:k < 8
 all_goals
  go_enter Tryz.func199,Tryz.ntmps199
  go_wp2_with (first
   | (go_at_call 181; refine (there_yes _ _ (by omega) (by omega)).mono ?_; rintro e w' ⟨rfl,rfl⟩)
   | (at_make; refine wpList_mkb etb rfl (.tmp 26) (.tmp 30) rfl .i64 .i64 n (n + k) rfl rfl (by omega) (by omega) w.heap.size (Nat.le_refl _) ?_; intro w1 hw1 hb1 hs1)
   | (refine wpList_cpb etb rfl (.tmp 32) (.tmp 33) rfl rfl rfl w.heap.size hw1 (hb.below (hb1.mono hB)) (Nat.le_refl _) ?_; intro w2 hw2 hg2 hs2; have hb2:=grown_below hg2 hw1.lt (by omega))
   | fail)
  rw [List.drop_of_length_le (by simp),List.append_nil] at hw2;go_loopw [8,36] (fun v i wr=>∃ (j:Nat) (A1:Option Addr) (c1:Nat),j≤k∧i=.int .i64 j∧v=.slice A1 (n + j) c1∧OB wr w.heap.size A1 (n + j) c1 (l ++ Oct.lb j m)∧Below w.heap.size w wr) (fun _ i _=>k - (intOf i).toNat)
  case atStart=>exact ⟨0,_,_,Nat.zero_le _,rfl,rfl,by simpa [Oct.lb] using hw2,hb1.trans hb2⟩
  case round =>
   obtain ⟨j,A1,c1,hj,rfl,rfl,hown,hbel⟩:=hrel
   by_cases hlt:j < k
   ·go_wp2_with (at_builtin; refine wpList_appb_one etb rfl (.tmp 39) (.tmp 46) rfl rfl rfl w.heap.size hown (UInt8.ofNat (m / 256 ^ j)) (byte_shift m j) (by omega) hbel.size ?_; intro A2 c2 w3 h3 hb3 _ _)
    go_roundw
    case rel=>exact ⟨j + 1,A2,c2,by omega,by go_num,rfl,by rw [Oct.lb,← List.append_assoc]; exact h3,hbel.trans hb3⟩
    case measure=>simp [intOf]; omega
   ·obtain rfl:j=k:=by omega
    go_wp2
    go_ret2
    exact ⟨_,_,rfl,hown,hbel⟩
end Go.Proofs.YtijegngfclkdaaaGreatDoor
namespace Go.Proofs.YtijegngfclkdaaaGreatDoor
open Go.RowKit
theorem Get_arg {A:Option Addr} {n c:Nat} (x p:Int) (w:World) (h:¬ (1≤x∧x≤8)∨p < 0∨(n:Int) < p) :
  Calls Tryz.prog 127 #[.slice A n c,.int .i64 p,.int .i64 x] w fun e w'=>e=.returned (.tuple #[.int .u64 0,.int .i64 1])∧w=w':=by
 by_cases hx:1≤x∧x≤8
 ·have h':p < 0∨(n:Int) < p:=h.resolve_left (fun h=>h hx)
  clear h;obtain ⟨h1,h2⟩:=hx
  by_cases hp:p < 0
  ·go_enter Tryz.func127,Tryz.ntmps127
   go_wp2_with (go_at_call 181; refine (there_yes _ _ h1 h2).mono ?_; rintro e w' ⟨rfl,rfl⟩)
   go_ret2
   exact ⟨rfl,rfl⟩
  ·have hq:(n:Int) < p:=h'.resolve_left hp
   clear h';go_enter Tryz.func127,Tryz.ntmps127
   go_wp2_with (go_at_call 181; refine (there_yes _ _ h1 h2).mono ?_; rintro e w' ⟨rfl,rfl⟩)
   go_ret2
   exact ⟨rfl,rfl⟩
 ·clear h
  go_enter Tryz.func127,Tryz.ntmps127
  go_wp2_with (go_at_call 181; refine (there_no _ _ hx).mono ?_; rintro e w' ⟨rfl,rfl⟩)
  go_ret2
  exact ⟨rfl,rfl⟩
theorem Get_short {A:Option Addr} {n c:Nat} (x p:Int) (w:World) (h1:1≤x) (h2:x≤8) (h3:0≤p) (h4:p≤(n:Int)) (hn:n≤9223372036854775807) (h:(n:Int) - p < x) :
  Calls Tryz.prog 127 #[.slice A n c,.int .i64 p,.int .i64 x] w fun e w'=>e=.returned (.tuple #[.int .u64 0,.int .i64 2])∧w=w':=by
 go_enter Tryz.func127,Tryz.ntmps127
 go_wp2_with (go_at_call 181; refine (there_yes _ _ h1 h2).mono ?_; rintro e w' ⟨rfl,rfl⟩)
 go_ret2
 exact ⟨rfl,rfl⟩
theorem or_step {v a j:Nat} (hv:v < 256 ^ j) (ha:a < 256) (hj:j < 8):bits .or .u64 (v:Int) (IntKind.u64.wrap ((a:Int) * 2 ^ (8 * j)))=((v + a * 256 ^ j:Nat):Int):=by
 have hp:256 ^ j * 256≤18446744073709551616:=by
  rw [← Nat.pow_succ];exact Nat.le_trans (Nat.pow_le_pow_right (by decide) (show j + 1≤8 by omega)) (by decide)
 have h1:a * 256 ^ j < 256 ^ j * 256:=by rw [Nat.mul_comm]; exact Nat.mul_lt_mul_of_pos_left ha (Nat.pow_pos (by decide))
 have h2:256 ^ j≤256 ^ j * 256:=Nat.le_mul_of_pos_right _ (by decide);rw [pow_shift,← Int.natCast_mul,IntKind.wrap_u64,Int.emod_eq_of_lt (by omega) (by omega),u64_or_nat _ _ (by omega) (by omega),Nat.or_comm,nat_join (8 * j),Nat.add_comm]
 ·rw [Nat.pow_mul]; exact Nat.mul_mod_left _ _
 ·rw [Nat.pow_mul]; exact hv
theorem Get_ok {A:Option Addr} {n c B:Nat} {l:List UInt8} (k p:Nat) (w:World) (hb:RB w B A n c l) (h1:1≤k) (h2:k≤8) (h:p + k≤n) :
  Calls Tryz.prog 127 #[.slice A n c,.int .i64 (p:Int),.int .i64 (k:Int)] w fun e w'=>e=.returned (.tuple #[.int .u64 (Oct.le (Oct.cut l p k):Int),.int .i64 0])∧w=w':=by
 have hn:=hb.lt;have hl:=hb.len;obtain ⟨b,o,rfl,hbB,hc⟩:=hb.at_ (by omega);have HL:=Lib.hid hl; clear hl;clear hb;go_enter Tryz.func127,Tryz.ntmps127
 go_wp2_with (go_at_call 181; refine (there_yes _ _ (by omega) (by omega)).mono ?_; rintro e w' ⟨rfl,rfl⟩)
 go_loop [8,32] (fun v i=>∃ j:Nat,j≤k∧i=.int .i64 j∧v=.int .u64 (Oct.le (Oct.cut l p j):Int)) (fun _ i=>k - (intOf i).toNat)
 case atStart=>exact ⟨0,Nat.zero_le _,rfl,by rw [Oct.cut_zero]; rfl⟩
 case round =>
  obtain ⟨j,hj,rfl,rfl⟩:=hrel
  by_cases hlt:j < k
  ·have hcj:=hc (p + j) (by omega)
   have hx:=byte_lt (l.getD (p + j) 0);generalize hxe:l.getD (p + j) 0=x at *;have HX:=Lib.hid hxe; clear hxe hc;generalize hve:Oct.le (Oct.cut l p j)=v at *;have HV:=Lib.hid hve; clear hve;go_wp2
   go_round
   case rel =>
    refine ⟨j + 1,by omega,by go_num,?_⟩;have hl:=HL.out;have h3:v < 256 ^ j:=by rw [← HV.out]; have:=Oct.le_lt (Oct.cut l p j); rwa [Oct.cut_length _ _ _ (by omega)] at this
    rw [or_step h3 hx (by omega),Oct.cut_succ _ _ _ (by omega),Oct.le_snoc,Oct.cut_length _ _ _ (by omega),HX.out,HV.out]
   case measure=>simp [intOf]; omega
  ·obtain rfl:j=k:=by omega
   clear hc;go_wp2
   go_ret2
   exact ⟨rfl,rfl⟩
end Go.Proofs.YtijegngfclkdaaaGreatDoor
namespace Go.Proofs.YtijegngfclkdaaaGreatDoor
open Go.RowKit
def sealS (l:List UInt8):List UInt8:=l ++ Oct.lb 4 (Crc.on 0 l)
theorem sealS_length (l:List UInt8):(sealS l).length=l.length + 4:=by simp [sealS,Oct.lb_length]
def openS (l:List UInt8):List UInt8×Int :=
 if l.length < 4 then ([],2) else if sealS (l.take (l.length - 4))=l then (l.take (l.length - 4),0) else ([],5)
theorem on64 (l:List UInt8):Crc.on 0 l < 18446744073709551616:=Nat.lt_trans (Crc.on_lt 0 l) (by decide)
theorem Seal_any {A:Option Addr} {n c B:Nat} {l:List UInt8} (w:World) (hb:RB w B A n c l) (hB:B≤w.heap.size) (hn:n < 140737488355000) :
  Calls Tryz.prog 401 #[.slice A n c] w fun e w'=>∃ A1 c1,e=.returned (.slice A1 (n + 4) c1)∧OB w' w.heap.size A1 (n + 4) c1 (sealS l)∧Below w.heap.size w w':=by
 have h32:Crc.on 0 l < 4294967296:=Crc.on_lt 0 l;go_enter Tryz.func401,Tryz.ntmps401
 go_wp2_with (first
  | (go_at_call 357; refine (Sum_any _ hb hB).mono ?_; rintro e w1 ⟨rfl,hb1⟩)
  | (go_at_call 199; refine (Put_ok 4 (Crc.on 0 l) _ (hb.below (hb1.mono hB)) hn (Nat.le_trans hB hb1.size) (by decide) (by decide) (on64 l) h32).mono ?_; rintro e w2 ⟨A2,c2,rfl,h2,hb2⟩))
 go_ret
 exact ⟨_,_,rfl,h2.more hb1.size,below_step hb1 hb2 (Nat.le_refl _)⟩
theorem Open_any {A:Option Addr} {n c B:Nat} {l:List UInt8} (w:World) (hb:RB w B A n c l) (hB:B≤w.heap.size) (hn:n < 140737488355000) :
  Calls Tryz.prog 317 #[.slice A n c] w fun e w'=>∃ A1 c1,e=.returned (.tuple #[.slice A1 (openS l).1.length c1,.int .i64 (openS l).2])∧OB w' w.heap.size A1 (openS l).1.length c1 (openS l).1∧Below w.heap.size w w':=by
 have hl:=hb.len;have hle:=hb.le
 by_cases h4:n < 4
 ·have e:openS l=([],2):=by unfold openS; rw [if_pos (by omega)]
  rw [e];clear e;go_enter Tryz.func317,Tryz.ntmps317
  go_wp2_with fail
  go_ret2
  exact ⟨none,0,rfl,OB.none_ _ _,Below.refl _ _⟩
 ·obtain ⟨m,rfl⟩:∃ m,n=m + 4:=⟨n - 4,by omega⟩
  have h32:Crc.on 0 (l.take m) < 4294967296:=Crc.on_lt 0 _;have hg32:Oct.le (Oct.cut l m 4) < 4294967296:=by have:=Oct.le_lt (Oct.cut l m 4); rwa [Oct.cut_length _ _ _ (by omega)] at this
  have hsplit:l=l.take m ++ Oct.cut l m 4:=by
   unfold Oct.cut;rw [List.take_of_length_le (l:=l.drop m) (by simp; omega),List.take_append_drop]
  have hio:(sealS (l.take m)=l)↔Oct.le (Oct.cut l m 4)=Crc.on 0 (l.take m):=by
   constructor
   ·intro h
    unfold sealS at h;have:Oct.lb 4 (Crc.on 0 (l.take m))=Oct.cut l m 4:=by
     have h':=h.trans hsplit;exact List.append_inj_right h' rfl
    rw [← this,Oct.le_lb,Nat.mod_eq_of_lt h32]
   ·intro h
    unfold sealS
    conv=>rhs; rw [hsplit]
    rw [← h]
    congr 1
    have:=Oct.lb_le (Oct.cut l m 4)
    rwa [Oct.cut_length _ _ _ (by omega)] at this
  have e:openS l=if Oct.le (Oct.cut l m 4)=Crc.on 0 (l.take m) then (l.take m,0) else ([],5):=by
   unfold openS;rw [if_neg (by omega),show l.length - 4=m by omega];simp only [hio]
  rw [e];have hlt:(l.take m).length=m:=by simp; omega
  have ht:=hb.take (k:=m) (by omega);clear e hio hsplit;have HL:=Lib.hid hl; clear hl;have HT:=Lib.hid hlt; clear hlt
  by_cases heq:Oct.le (Oct.cut l m 4)=Crc.on 0 (l.take m)
  ·rw [if_pos heq]
   have ht1:(((Oct.le (Oct.cut l m 4):Nat):Int) != ((Crc.on 0 (l.take m):Nat):Int))=false:=by rw [heq]; simp
   have HE:=Lib.hid heq; clear heq;go_enter Tryz.func317,Tryz.ntmps317
   go_wp2_with (first
    | (go_at_call 127; refine (Get_ok 4 m _ hb (by decide) (by decide) (by omega)).mono ?_; rintro e w1 ⟨rfl,rfl⟩)
    | (go_at_call 357; refine (Sum_any _ ht hB).mono ?_; rintro e w1 ⟨rfl,hb1⟩; generalize Crc.on 0 (l.take m)=x at *; generalize Oct.le (Oct.cut l m 4)=y at *)
    | (at_builtin; refine wpList_appb_nil etb rfl (.const (.slice none 0 0)) (.tmp 27) rfl rfl rfl B (ht.below (hb1.mono hB)) (by omega) (Nat.le_trans hB hb1.size) ?_; intro A2 c2 w2 h2 hb2))
   go_ret2
   exact ⟨A2,c2,by rw [HT.out]; rfl,by rw [HT.out]; exact h2.more hb1.size,below_step hb1 hb2 (Nat.le_refl _)⟩
  ·rw [if_neg heq]
   have ht1:(((Oct.le (Oct.cut l m 4):Nat):Int) != ((Crc.on 0 (l.take m):Nat):Int))=true:=by rw [bne_iff_ne]; omega
   clear heq;go_enter Tryz.func317,Tryz.ntmps317
   go_wp2_with (first
    | (go_at_call 127; refine (Get_ok 4 m _ hb (by decide) (by decide) (by omega)).mono ?_; rintro e w1 ⟨rfl,rfl⟩)
    | (go_at_call 357; refine (Sum_any _ ht hB).mono ?_; rintro e w1 ⟨rfl,hb1⟩; generalize Crc.on 0 (l.take m)=x at *; generalize Oct.le (Oct.cut l m 4)=y at *))
   go_ret2
   exact ⟨none,0,rfl,OB.none_ _ _,hb1⟩
end Go.Proofs.YtijegngfclkdaaaGreatDoor
