/-
  Piece 18 of the proof.
  Conditions: none.
-/
import Derived.Laws.EntriesVeiled
import Derived.IntWalk
import Derived.Test.YtijegngfclkdaaaGreatDoorQ17
set_option linter.unusedVariables false
set_option linter.unusedSimpArgs false
set_option maxHeartbeats 100000000
set_option maxRecDepth 100000
namespace Go.Proofs.YtijegngfclkdaaaGreatDoor
section
open Go.RowKit
theorem Y4:ET Tryz.prog 63 35 1 4 (.int .u32 0):=⟨Tryz.underlying63,info_parts (by kernel_rfl),rfl,by decide⟩
def Xg (w:World) (base:Nat) (A:Option Addr) (n c:Nat) (ws:List Nat):Prop:=OV w base 35 1 A n c (ws.map fun (x:Nat)=>Value.int .u32 (x:Int))
def mL (t:Int) (gp:Nat):Value:=if t<=240 then .func (.func 288) #[] #[.pointer (some ⟨gp,0,none⟩)] else .func (.func 287) #[] #[]
structure W8 (w:World) (base g gp gd:Nat) (v:Nat) (t:Int) (ws:List Nat) (waits:List Dc.Vl) (Aw:Option Addr) (cw:Nat) (Av:Option Addr) (cv:Nat):Prop where
 gb:base<=g
 ZE:base<=gp
 ne:g≠gp
 aP:ao w g 356 #[.pointer (some ⟨gd,0,none⟩),.int .i64 (aY.fl v:Int),.slice Aw ws.length cw,.slice Av waits.length cv,mL t gp]
 box:t<=240->ao w gp 102 #[.pointer (some ⟨g,0,none⟩)]
 words:Xg w base Aw ws.length cw ws
 wait:OS (pz w base) w base 34 3 Av waits.length cv waits
theorem ao.jJ {w:World} {g:Nat} {t:TypeId} {a b c d e:Value} (h:ao w g t #[a,b,c,d,e]):(w.cell? ⟨g,0,none⟩=some a/\w.cell? ⟨g,1,none⟩=some b/\w.cell? ⟨g,2,none⟩=some c/\w.cell? ⟨g,3,none⟩=some d/\w.cell? ⟨g,4,none⟩=some e)/\(w.frozen? ⟨g,0,none⟩=false/\w.frozen? ⟨g,1,none⟩=false/\w.frozen? ⟨g,2,none⟩=false/\w.frozen? ⟨g,3,none⟩=false/\w.frozen? ⟨g,4,none⟩=false):=⟨⟨h.cell 0,h.cell 1,h.cell 2,h.cell 3,h.cell 4⟩,h.frozen 0,h.frozen 1,h.frozen 2,h.frozen 3,h.frozen 4⟩
open Go.Sort
theorem pQ {w:World} {g:Nat} {t:TypeId} {a b c d:Value} {n:Int} (h:ao w g t #[a,.int .i64 n,b,c,d]):Calls Tryz.prog 221 #[.pointer (some ⟨g,0,none⟩)] w fun e w'=>e=.returned (.int .i64 n)/\w=w':=by
 have F:=h.jJ;go_enter Tryz.func221,Tryz.ntmps221
 go_wp2_with fail
 go_ret
 exact ⟨rfl,rfl⟩
theorem Gw (w:World):Calls Tryz.prog 221 #[.pointer none] w fun e w'=>e=.returned (.int .i64 0)/\w=w':=by
 go_enter Tryz.func221,Tryz.ntmps221
 go_wp2_with fail
 go_ret
 exact ⟨rfl,rfl⟩
theorem BV (v:Value) (w:World):Calls Tryz.prog 287 #[v] w fun e w'=>e=.returned v/\w=w':=by
 go_enter Tryz.func287,Tryz.ntmps287
 go_wp2_with fail
 go_ret
 exact ⟨rfl,rfl⟩
theorem AR {w:World} {g gp:Nat} {t t':TypeId} {a b c d e:Value} (A:Option Addr) (n k:Nat) (h:ao w g t #[a,b,c,d,e]) (h':ao w gp t' #[.pointer (some ⟨g,0,none⟩)]):Calls Tryz.prog 288 #[.slice A n k,.pointer (some ⟨gp,0,none⟩)] w fun x w'=>x=.returned (.slice none 0 0)/\w'=w.setCell ⟨g,3,none⟩ (.slice A n k):=by
 have F:=h.jJ;have F':=h'.one;go_enter Tryz.func288,Tryz.ntmps288
 go_wp2_with fail
 go_ret
 exact ⟨rfl,rfl⟩
theorem ao.mf {w:World} {g:Nat} {t:TypeId} {a b:Value} (h:ao w g t #[a,b]) (x y:Value):ao ((w.setCell ⟨g,0,none⟩ x).setCell ⟨g,1,none⟩ y) g t #[x,y]:=(h.aJ 0 x).aJ 1 y
theorem fK {B:Nat} {w w':World} {g:Nat} (h:Below B w w') (hg:B<=g) (i j:Nat) (a b:Value):Below B w ((w'.setCell ⟨g,i,none⟩ a).setCell ⟨g,j,none⟩ b):=(h.setCell (p:=⟨g,i,none⟩) hg a).setCell (p:=⟨g,j,none⟩) hg b
theorem GJ {l:List aD.En} {v:Nat} {t:Int} {ws:List Nat} {waits:List Dc.Vl} {IC:Int} {rem:Bool} {b:List UInt8} (h:aY.fl v=0\/IC≠(aY.fl v:Int)\/rem=true\/ws.length=0):Rp.fW l v t ws waits IC rem b=([],0,waits):=by
 unfold Rp.fW;rw [if_pos h]
theorem Mv.out {F:Nat->Prop} {w w':World} (h:Mv F w w') {q:Nat} (hq:w.heap.size<=q) (i:Nat) (u:Value):Mv F w (w'.setCell ⟨q,i,none⟩ u):=h.trans (Mv.setCell w' ⟨q,i,none⟩ u) fun b hb e=>by have e2:b=q:=e; omega
end
section
open Go.RowKit
def Xb (i j:Int):aD.En:=⟨i,j,[],0,0,false,false,0,0,0,[]⟩
def N_ (i j:Int):Bool:=decide (1<=i/\i<=65535/\0<=j/\j<=255)
structure vO where
 b:List UInt8
 Vq:List Nat
 most:Int
 off:Bool
 ahead:Int
 mask:Int
 ops:Int
def nv (k:Nat):Value:=.int .i64 (k:Int)
structure m7 (w:World) (base g:Nat) (A:Option Addr) (n c:Nat) (A':Option Addr) (m c':Nat) (f:vO):Prop where
 gb:base<=g
 aP:ao w g 93 #[.slice A n c,.slice A' m c',.int .i64 f.most,.bool f.off,.int .i64 f.ahead,.int .u32 f.mask,.int .i64 f.ops]
 row:OB w base A n c f.b
 yu:OV w base 3 1 A' m c' (f.Vq.map nv)
section
variable {w w':World} {base g n c m c':Nat} {A A':Option Addr} {f:vO}
theorem m7.below (h:m7 w base g A n c A' m c' f) (hb:Below w.heap.size w w'):m7 w' base g A n c A' m c' f:=⟨h.gb,h.aP.later hb,h.row.below hb,h.yu.below hb⟩
theorem m7.seven (h:m7 w base g A n c A' m c' f):(w.cell? ⟨g,0,none⟩=some (.slice A n c)/\w.cell? ⟨g,1,none⟩=some (.slice A' m c')/\w.cell? ⟨g,2,none⟩=some (.int .i64 f.most)/\w.cell? ⟨g,3,none⟩=some (.bool f.off)/\w.cell? ⟨g,4,none⟩=some (.int .i64 f.ahead)/\w.cell? ⟨g,5,none⟩=some (.int .u32 f.mask)/\w.cell? ⟨g,6,none⟩=some (.int .i64 f.ops)) /\
  (w.frozen? ⟨g,2,none⟩=false/\w.frozen? ⟨g,3,none⟩=false/\w.frozen? ⟨g,4,none⟩=false/\w.frozen? ⟨g,5,none⟩=false/\w.frozen? ⟨g,6,none⟩=false) :=
 ⟨⟨h.aP.cell 0,h.aP.cell 1,h.aP.cell 2,h.aP.cell 3,h.aP.cell 4,h.aP.cell 5,h.aP.cell 6⟩,h.aP.frozen 2,h.aP.frozen 3,h.aP.frozen 4,h.aP.frozen 5,h.aP.frozen 6⟩
set_option maxHeartbeats 1000000
theorem KM (h:m7 w base g A n c A' m c' f):Calls Tryz.prog 184 #[.pointer (some ⟨g,0,none⟩)] w fun e w'=>e=.returned (.bool (!f.off))/\w=w':=by
 have F:=h.seven;clear h;go_enter Tryz.func184,Tryz.ntmps184
 go_wp2_with fail
 go_ret
 exact ⟨rfl,rfl⟩
theorem lz (h:m7 w base g A n c A' m c' f):Calls Tryz.prog 185 #[.pointer (some ⟨g,0,none⟩)] w fun e w'=>e=.returned (.int .i64 (m:Int))/\w=w':=by
 have F:=h.seven;clear h;go_enter Tryz.func185,Tryz.ntmps185
 go_wp2_with fail
 go_ret
 exact ⟨rfl,rfl⟩
end
def fA (f:vO) (at_ n:Int):Int:=if f.off=true then 7 else if at_ < 0\/n < 0\/(f.b.length:Int) < at_\/(f.b.length:Int) - at_ < n then 9 else 0
section
variable {w w':World} {base g n c m c':Nat} {A A':Option Addr} {f:vO}
set_option maxHeartbeats 1000000
theorem A_ (h:m7 w base g A n c A' m c' f) (p k:Int) (hp:p<=9223372036854775807):Calls Tryz.prog 281 #[.pointer (some ⟨g,0,none⟩),.int .i64 p,.int .i64 k] w fun e w'=>e=.returned (.int .i64 (fA f p k))/\w=w':=by
 have F:=h.seven;have hl:=h.row.rb.len;have hn:=h.row.rb.lt;unfold fA;rw [hl];cases hoff:f.off
 case true =>
  rw [hoff] at F;rw [if_pos rfl];clear h hl;go_enter Tryz.func281,Tryz.ntmps281
  go_wp2_with fail
  go_ret
  exact ⟨rfl,rfl⟩
 rw [hoff] at F;rw [if_neg (by simp)];clear h hl hoff
 by_cases h1:p < 0
 ·rw [if_pos (.inl h1)]
  have e1:decide (p < 0)=true:=decide_eq_true h1;go_enter Tryz.func281,Tryz.ntmps281
  go_wp2_with fail
  go_ret
  exact ⟨rfl,rfl⟩
 have e1:decide (p < 0)=false:=decide_eq_false h1
 by_cases h2:k < 0
 ·rw [if_pos (.inr (.inl h2))]
  have e2:decide (k < 0)=true:=decide_eq_true h2;go_enter Tryz.func281,Tryz.ntmps281
  go_wp2_with fail
  go_ret
  exact ⟨rfl,rfl⟩
 have e2:decide (k < 0)=false:=decide_eq_false h2
 by_cases h3:(n:Int) < p
 ·rw [if_pos (.inr (.inr (.inl h3)))]
  have e3:decide ((n:Int) < p)=true:=decide_eq_true h3;go_enter Tryz.func281,Tryz.ntmps281
  go_wp2_with fail
  go_ret
  exact ⟨rfl,rfl⟩
 have e3:decide ((n:Int) < p)=false:=decide_eq_false h3;have q1:IntKind.i64.wrap ((n:Int) - p)=(n:Int) - p:=IntWalk.i64_in _ (by omega);have q2:wrap64 ((n:Int) - p)=(n:Int) - p:=IntWalk.wrap64_in _ (by omega)
 by_cases h4:(n:Int) - p < k
 ·rw [if_pos (.inr (.inr (.inr h4)))]
  have e4:decide ((n:Int) - p < k)=true:=decide_eq_true h4;go_enter Tryz.func281,Tryz.ntmps281
  go_wp2_with fail
  go_ret
  exact ⟨rfl,rfl⟩
 ·rw [if_neg (by rintro (h | h | h | h); exact h1 h; exact h2 h; exact h3 h; exact h4 h)]
  have e4:decide ((n:Int) - p < k)=false:=decide_eq_false h4;go_enter Tryz.func281,Tryz.ntmps281
  go_wp2_with fail
  go_ret
  exact ⟨rfl,rfl⟩
end
section
variable {w w':World} {base g n c m c':Nat} {A A':Option Addr} {f:vO}
theorem I9 {A:Option Addr} {n c:Nat} (p k:Nat) (hpk:p + k<=n) (hn:n<=c) (hc:c<=9223372036854775807) (w:World) :
  (Instr.slice 25 (.slice A n c) (some (.int .i64 (p:Int))) (some (.int .i64 ((p:Int) + (k:Int)))) none).run Tryz.prog w=.ok (.slice (if c=p then A else A.map (·.add p)) k (c - p)) w:=by
 have hT:Tryz.prog.underlying 25=some (.slice (Tryz.prog.elem 25)):=by rw [gE od]; exact od.sl
 rw [run_slice_lh w 25 A n c hT .i64 .i64 (p:Int) ((p:Int) + (k:Int)) (by omega) (by omega) (by omega),gE od,run_sizeOf od];simp only [Result.andThen,sliced,Int.toNat_natCast,show ((p:Int) + (k:Int)).toNat=p + k by omega,Nat.mul_one,Nat.add_sub_cancel_left]
theorem Ef {f:vO} {p k:Nat} (hoff:f.off=false) (h:p + k<=f.b.length):fA f (p:Int) (k:Int)=0:=by
 unfold fA;rw [hoff,if_neg (by simp),if_neg (by omega)]
theorem GP (h:m7 w base g A n c A' m c' f) (p k:Nat) (hoff:f.off=false) (hpk:p + k<=n) (hn:n<=100000):Calls Tryz.prog 237 #[.pointer (some ⟨g,0,none⟩),.int .i64 (p:Int),.int .i64 (k:Int)] w fun e w'=>∃ A1 c1,e=.returned (.tuple #[.slice A1 k c1,.int .i64 0])/\OB w' w.heap.size A1 k c1 ((f.b.drop p).take k)/\Below w.heap.size w w':=by
 have F:=h.seven;have hrb:=h.row.rb;have hl:=hrb.len;have C:=A_ h (p:Int) (k:Int) (by omega);rw [Ef hoff (by omega)] at C;have hcut:=(hrb.drop (k:=p) (by omega)).take (k:=k) (by omega);have hsl:=I9 (A:=A) (n:=n) (c:=c) p k hpk hrb.le hrb.cap;have q1:IntKind.i64.wrap ((p:Int) + (k:Int))=(p:Int) + (k:Int):=IntWalk.i64_in _ (by omega);have q2:wrap64 ((p:Int) + (k:Int))=(p:Int) + (k:Int):=IntWalk.wrap64_in _ (by omega);have hk:k<=140737488355328:=by omega
 have HC:=zq hcut;replace C:=zq C;generalize (if c=p then A else A.map (·.add p))=A2 at *;clear h hrb hl hpk hn hoff hcut;go_enter Tryz.func237,Tryz.ntmps237
 go_wp2_with fail
 refine (C.out).mono ?_;rintro e _ ⟨rfl,rfl⟩;go_wp2_with (at_builtin; refine bU od rfl (.const (.slice none 0 0)) (.tmp 24) rfl rfl rfl w.heap.size HC.out hk lq ?_; intro A1 c1 w1 o1 b1)
 go_ret2
 exact ⟨A1,c1,rfl,o1,b1⟩
end
end
namespace Xu
def vZ:Nat:=3988292384
def full:Nat:=4294967295
def T (d:Nat):Nat:=d / 2 ^^^ (if d % 2=0 then 0 else vZ)
def Xf (r b:Nat):Nat:=T (r ^^^ b)
def fL:Nat->Nat->Nat->Nat
 | 0,r,_=>r
 | k + 1,r,c=>fL k (Xf r (c % 2)) (c / 2)
def YZ (r:Nat) (l:List UInt8):Nat:=l.foldl (fun r c=>fL 8 r c.toNat) r
def on (s:Nat) (l:List UInt8):Nat:=full - YZ (full - s) l
theorem UA (d:Nat) (h:d < 2 ^ 32):T d < 2 ^ 32:=by
 unfold T;refine Nat.xor_lt_two_pow (by omega) ?_;split <;> decide
theorem Fa (x y:Nat):(x ^^^ y) % 2=(x % 2) ^^^ (y % 2):=by
 have:=Nat.xor_mod_two_pow (a:=x) (b:=y) (n:=1);simpa using this
theorem E5 (x y:Nat):(x ^^^ y) / 2=(x / 2) ^^^ (y / 2):=by
 have:=Nat.xor_div_two_pow (a:=x) (b:=y) (n:=1);simpa using this
theorem P9 (x y:Nat):T (x ^^^ y)=T x ^^^ T y:=by
 unfold T;rw [Fa,E5];rcases Nat.mod_two_eq_zero_or_one x with hx | hx <;> rcases Nat.mod_two_eq_zero_or_one y with hy | hy <;> rw [hx,hy]
 ·simp
 ·simp [Nat.xor_assoc]
 ·simp only [Nat.xor_zero,Nat.one_ne_zero,if_false,if_true]
  rw [Nat.xor_assoc,Nat.xor_assoc,Nat.xor_comm vZ]
 ·simp only [Nat.xor_self,Nat.one_ne_zero,if_false,if_true]
  rw [Nat.xor_zero,Nat.xor_assoc,<- Nat.xor_assoc vZ,Nat.xor_comm vZ,Nat.xor_assoc,Nat.xor_self,Nat.xor_zero]
theorem Od (d:Nat) (hd:d < 2 ^ 32) (h:T d=0):d=0:=by
 unfold T at h
 by_cases h2:d % 2=0
 ·rw [if_pos h2,Nat.xor_zero] at h; omega
 ·rw [if_neg h2] at h
  have:d / 2=vZ:=by
   have:=congrArg (· ^^^ vZ) h;simpa [Nat.xor_assoc] using this
  unfold vZ at this; omega
theorem tM {x y:Nat} (h:x ^^^ y=0):x=y:=by
 have:=congrArg (· ^^^ y) h;simpa [Nat.xor_assoc] using this

def Ib (c:Nat):List Nat:=(List.range 8).map fun i=>c / 2 ^ i % 2
theorem qd:∀ (k r c:Nat),fL (k + 1) r c=Xf (fL k r c) (c / 2 ^ k % 2)
 | 0,r,c=>by simp [fL]
 | k + 1,r,c=>by
  rw [fL,qd k,fL]
  congr 2
  rw [Nat.div_div_eq_div_mul,Nat.pow_succ,Nat.mul_comm]
def bitsOf (l:List UInt8):List Nat:=l.flatMap fun c=>Ib c.toNat

def word:List Nat->Nat
 | []=>0
 | b :: bs=>b + 2 * word bs
theorem word_lt:∀ (bs:List Nat),(∀ b∈bs,b < 2)->word bs < 2 ^ bs.length
 | [],_=>by simp [word]
 | b :: bs,h=>by
  have:=word_lt bs fun c hc=>h c (by simp [hc])
  have h0:=h b (by simp);simp only [word,List.length_cons,Nat.pow_succ]; omega
def Tn:Nat->Nat->Nat
 | 0,d=>d
 | n + 1,d=>Tn n (T d)
theorem zH:∀ (n d:Nat),d < 2 ^ 32->Tn n d=0->d=0
 | 0,_,_,h=>h
 | n + 1,d,hd,h=>Od d hd (zH n (T d) (UA d hd) h)
theorem Fz:∀ (n x y:Nat),Tn n (x ^^^ y)=Tn n x ^^^ Tn n y
 | 0,_,_=>rfl
 | n + 1,x,y=>by simp only [Tn,P9,Fz n]
theorem L6 {x y:Nat} (n:Nat) (hx:x < 2 ^ 32) (hy:y < 2 ^ 32) (h:Tn n x=Tn n y):x=y:=by
 apply tM
 apply zH n _ (Nat.xor_lt_two_pow hx hy)
 rw [Fz,h,Nat.xor_self]
end Xu
section
open Go.RowKit
def RL (l:List UInt8):List UInt8:=l ++ Oct.lb 4 (Xu.on 0 l)
def PZ (l:List UInt8):List UInt8×Int :=
 if l.length < 4 then ([],2) else if RL (l.take (l.length - 4))=l then (l.take (l.length - 4),0) else ([],5)
def bV (l:List UInt8):Bool:=l.all (· == 255)
theorem sF {A:Option Addr} {n c B:Nat} {l:List UInt8} (w:World) (hb:RB w B A n c l):Calls Tryz.prog 283 #[.slice A n c] w fun e w'=>e=.returned (.bool (bV l))/\w=w':=by
 have HL:=zq hb.len;have hn:=hb.lt;have HB:=zq hb;clear hb;go_enter Tryz.func283,Tryz.ntmps283
 go_wp2_with fail
 go_loopw [7] (fun i wr=>∃ k:Nat,k<=n/\i=.int .i64 (k:Int)/\wr=w/\Hid (bV l=bV (l.drop k))) (fun i _=>n - (intOf i).toNat)
 case atStart=>exact ⟨0,Nat.zero_le _,rfl,rfl,zq rfl⟩
 case round =>
  obtain ⟨k,hk,rfl,rfl,HE⟩:=hrel
  by_cases hlt:k < n
  ·obtain ⟨b,o,rfl,eT,hc⟩:=HB.out.at_ (by omega)
   have hck:=hc k hlt;have hkl:k < l.length:=by rw [HL.out]; exact hlt
   have hst:bV (l.drop k)=(l.getD k 0 == 255 && bV (l.drop (k + 1))):=by
    have:l.getD k 0=l[k]:=by simp [List.getD,List.getElem?_eq_getElem hkl]
    rw [this,List.drop_eq_getElem_cons hkl];rfl
   generalize l.getD k 0=x at *;have i0:(0:Int)<=(k:Int):=by omega
   have i1:(k:Int) < (n:Int):=by omega
   have hbx:=ub x 255
   by_cases hx:x=255
   ·subst hx
    have HE2:Hid (bV l=bV (l.drop (k + 1))):=zq (by rw [HE.out,hst]; simp);clear hc hst HE hkl hbx;go_wp2_with fail
    go_roundw
    case rel=>exact ⟨k + 1,by omega,by go_num,trivial,HE2⟩
    case measure=>simp [intOf] <;> omega
   ·have hx2:((x.toNat:Int) != 255)=true:=by
     have:(x == 255)=false:=by simpa using hx
     rw [this] at hbx;exact (by rw [bne,show ((255:Int))=((255:UInt8).toNat:Int) from rfl,hbx]; rfl)
    have HE2:Hid (bV l=false):=zq (by rw [HE.out,hst]; simp [hx]);clear hc hst HE hkl hbx hx;go_wp2_with fail
    go_ret
    exact ⟨by rw [HE2.out]; rfl,rfl⟩
  ·obtain rfl:k=n:=by omega
   have HE2:Hid (bV l=true):=zq (by rw [HE.out,<- HL.out,List.drop_length]; rfl);clear HE;go_wp2_with fail
   go_ret
   exact ⟨by rw [HE2.out]; rfl,rfl⟩
end
namespace Jr
open Go.RowKit Go.Proofs.YtijegngfclkdaaaGreatDoor
structure Rec where
 kind:Nat
 num:Nat
 data:List UInt8
def Rz (k m n:Nat):Bool:=if k=2 then decide (0 < m/\n=0) else if k=1 then decide (0 < m/\n<=960) else false
def cD (r:Rec):Int:=if r.num=0 then 1 else if r.kind=2/\r.data.length=0 then 0 else if r.kind≠1 then 1 else if 960 < r.data.length then 3 else 0
def gP (b:List UInt8) (p:Nat):Option (Rec×Nat) :=
 if (b.drop p).length < 13 then none
 else if (b.drop p).getD 0 0≠87 then none
 else if Rz (Oct.le (Oct.cut (b.drop p) 1 1)) (Oct.le (Oct.cut (b.drop p) 2 4)) (Oct.le (Oct.cut (b.drop p) 6 2))=false then none
 else if (b.drop p).length < Oct.le (Oct.cut (b.drop p) 6 2) + 13 then none
 else if (PZ ((b.drop p).take (12 + Oct.le (Oct.cut (b.drop p) 6 2)))).2≠0 then none
 else if (b.drop p).getD (12 + Oct.le (Oct.cut (b.drop p) 6 2)) 0≠0 then none
 else some (⟨Oct.le (Oct.cut (b.drop p) 1 1),Oct.le (Oct.cut (b.drop p) 2 4),Oct.cut (b.drop p) 8 (Oct.le (Oct.cut (b.drop p) 6 2))⟩,p + Oct.le (Oct.cut (b.drop p) 6 2) + 13)
structure eW where
 last:Rec
 count:Nat
 fin:Nat
 clean:Bool
def ia:Rec:=⟨0,0,[]⟩
def Cf (b:List UInt8):Nat->Rec->Nat->Nat->Rec×Nat×Nat
 | 0,r,c,e=>(r,c,e)
 | k + 1,r,c,e=>match gP b e with
  | none=>(r,c,e)
  | some (r',e')=>if 0 < c/\(r.num=4294967295\/r'.num≠r.num + 1) then (r,c,e) else Cf b k r' (c + 1) e'
def vI (b:List UInt8):eW:=⟨(Cf b b.length ia 0 0).1,(Cf b b.length ia 0 0).2.1,(Cf b b.length ia 0 0).2.2,bV (b.drop (Cf b b.length ia 0 0).2.2)⟩
def bp:List eW->Nat->Nat×Bool->(Nat->Nat)->Nat×Bool
 | [],_,x,_=>x
 | l :: r,i,x,num=>if 0 < l.count/\(x.2=false\/num x.1 < l.last.num) then bp r (i + 1) (i,true) num else bp r (i + 1) x num
end Jr
section
open Go.RowKit
theorem Mv.Rq (w:World) (g i j k:Nat) (a b c:Value):Mv (fun q=>q=g) w (((w.setCell ⟨g,i,none⟩ a).setCell ⟨g,j,none⟩ b).setCell ⟨g,k,none⟩ c) :=
 ((Mv.setCell w ⟨g,i,none⟩ a).trans (Mv.setCell _ ⟨g,j,none⟩ b) fun _ _ e=>e).trans (Mv.setCell _ ⟨g,k,none⟩ c) fun _ _ e=>e
end
namespace Sn
open Dc
def jH (b:List UInt8):Option (Vl×List UInt8) :=
 if b.length < 5 then none
 else if (b.drop 5).length < Oct.le (Oct.cut b 3 2) then none
 else if N_ (Oct.le (Oct.cut b 0 2):Int) ((b.getD 2 0).toNat:Int)=false then none
 else some (⟨(Oct.le (Oct.cut b 0 2):Int),((b.getD 2 0).toNat:Int),(b.drop 5).take (Oct.le (Oct.cut b 3 2))⟩,(b.drop 5).drop (Oct.le (Oct.cut b 3 2)))
end Sn
section
open Go.RowKit
def Hb {t:TypeId} (D:Dc.aZ) (x y:Int) (b:List UInt8) (w:World) (F:Nat->Prop) (g gv:Nat) (lA:Option Addr) (lc:Nat) (vA:Option Addr) (vc:Nat) (xs:List Value) (e:Ending) (w':World):Prop :=
 e=.returned (.int .u32 (Dc.pK D.l true x y b))/\Mv (fun q=>q=gv) w w'/\∃ vs',cM t w' (fun q=>F q\/(w.heap.size<=q/\q < w'.heap.size)) g gv lA lc vA vc xs vs' (Dc.bK D x y b)
theorem zL {t:TypeId} {D:Dc.aZ} {x y:Int} {b:List UInt8} {w w':World} {F:Nat->Prop} {g gv lc vc:Nat} {lA vA:Option Addr} {xs vs:List Value} (h:cM t w F g gv lA lc vA vc xs vs D) (hb:Below w.heap.size w w') {z:Int} (hz:z=Dc.pK D.l true x y b) (hp:Dc.bK D x y b=D) :
  Hb (t:=t) D x y b w F g gv lA lc vA vc xs (.returned (.int .u32 z)) w':=by
 subst hz;refine ⟨rfl,Mv.aq hb _,vs,?_⟩;rw [hp];exact (h.below hb).mono fun _ _ hf=>.inl hf
theorem Ih {F:Nat->Prop} {w:World} {g gv lc vc:Nat} {la:Addr} {vA:Option Addr} {xs vs:List Value} {D:Dc.aZ} (x y:Int) {A':Option Addr} {n' c' B:Nat} {b:List UInt8} (h:cM 131 w F g gv (some la) lc vA vc xs vs D) (hb:RB w B A' n' c' b) (hB:B<=w.heap.size) (hn:n' < 140737488355328):Calls Tryz.prog 80 #[.pointer (some ⟨g,0,none⟩),.int .i64 x,.int .i64 y,.slice A' n' c',.bool true] w (Hb (t:=131) D x y b w F g gv (some la) lc vA vc xs):=by
 have M:=vJ true x y h hb hB;have hz0:=uz D.l true x y b;cases hf:Dc.bh D.l x y with
 | none =>
  have hp:Dc.bK D x y b=D:=by unfold Dc.bK; rw [hf]
  have hv:(mc D.l true x y b).2≠0:=by
   unfold mc;rw [hf];dsimp only;split <;> decide
  generalize (mc D.l true x y b).2=z at *;have ez:(z == 0)=false:=beq_false_of_ne hv;replace M:=zq M;have HP:=zq hp; have HZ:=zq hz0;clear hp hz0 hv hf;go_enter Tryz.func80,Tryz.ntmps80
  go_wp2_with fail
  refine (M.out).mono ?_;rintro e w1 ⟨rfl,b1⟩;go_wp2_with fail
  go_ret
  exact zL h b1 HZ.out HP.out
 | some k =>
  have hk:=(Dc.bS hf).2.1;have hm:mc D.l true x y b=((k:Int),aD.cJ (D.l.getD k Dc.aI) b):=by unfold mc; rw [hf]; simp
  rw [hm] at M hz0;dsimp only at M hz0
  by_cases hv:aD.cJ (D.l.getD k Dc.aI) b=0
  ·have hp:Dc.bK D x y b=⟨D.l,D.v.set k b⟩:=by unfold Dc.bK; rw [hf]; dsimp only; rw [if_pos hv]
   rw [hv] at M hz0;replace M:=zq M;have HP:=zq hp; have HZ:=zq hz0;clear hp hz0 hv hf hm;obtain ⟨t0,t1⟩:=h.two;obtain ⟨A,n,c,hA,hF,hg,hr,hcell,hfr⟩:=h.value hk;subst hA;have hcap:D.l.length<=vc/\vc<=9223372036854775807:=⟨h.own.rv.le,h.own.rv.cap⟩;have HC:=zq hcap;have hgl:=h.aP.lt;have HM:Hid (∀ {w1:World} {n c:Nat} {A:Option Addr},Below w.heap.size w w1->OB w1 w.heap.size A n c b->cM 131 (w1.setCell ⟨gv,k,none⟩ (.slice A n c)) (fun q=>F q\/(w.heap.size<=q/\q < w1.heap.size)) g gv (some la) lc (some ⟨gv,0,none⟩) vc xs (vs.set k (.slice A n c)) ⟨D.l,D.v.set k b⟩):=zq fun h1 h2=>h.put hk h1 h2
   clear hcap hr h;generalize hmm:D.l.length=m at *;have HMM:=zq hmm;clear hmm;go_enter Tryz.func80,Tryz.ntmps80
   go_wp2_with fail
   refine (M.out).mono ?_;rintro e w1 ⟨rfl,b1⟩;have OWN:=zq (fM w1.drew (hb.below (b1.drew.mono hB)) hn (Nat.le_trans hB b1.drew.size));have t1':w1.cell? ⟨g,1,none⟩=_:=(b1.cell (p:=⟨g,1,none⟩) hgl).trans t1;have T1:=cell_regrown t1';have i0:(0:Int)<=(k:Int):=by omega
   have i1:(k:Int) < (m:Int):=by omega
   clear t0 t1 t1';go_wp2_with fail
   refine gN 8 (by kernel_rfl) ?_;refine d_ (by kernel_rfl) 3 (af _) [0,4,5,1,2,3] rfl (by kernel_rfl) ?_;simp only [aj,nth]
   repeat (go_big_quiet_step (fail))
   refine wpQuiet_nil ?_;refine ag 6 2 rfl (by kernel_rfl) (by decide) ?_;simp only [nth];go_wp2_with fail
   refine (OWN.out).mono ?_;rintro e w3 ⟨A3,c3,rfl,o3,b3⟩;have b3':Below w1.heap.size w1 w3:=(af w1).trans b3;go_wp2_with fail
   refine dE b3' ?_;refine d_ (by kernel_rfl) 1 (Below.refl _ _) [7] rfl (by kernel_rfl) ?_;simp only [aj,nth]
   repeat (go_big_quiet_step (fail))
   refine wpQuiet_nil ?_;have d3:=aa b1 b3' lq;have e3:=(d3.cell (p:=⟨gv,k,none⟩) hg).trans hcell;have f3:=(d3.frozen (p:=⟨gv,k,none⟩) hg).trans hfr;refine bL 0 rfl (by kernel_rfl) (by decide) (by kernel_rfl) ?_;simp only [nth];go_wp2_with fail
   refine bY ?_;go_wp2_with fail
   go_ret
   have ZF:OB w3 w.heap.size A3 n' c3 b:=o3.more b1.drew.size;have hput:=HM.out (w1:=w3) d3 ZF;have M2:Mv (fun q=>q=gv) w (w3.setCell ⟨gv,k,none⟩ (.slice A3 n' c3)):=(Mv.aq d3 _).trans (Mv.setCell w3 ⟨gv,k,none⟩ (.slice A3 n' c3)) fun b _ h=>h
   refine ⟨by rw [<- HZ.out]; rfl,M2,vs.set k (.slice A3 n' c3),?_⟩;rw [HP.out];exact hput.mono fun q hq hf=>by
    rcases hf with hf | hf
    ·exact .inl hf
    ·exact .inr ⟨hf.1,by simpa [World.setCell] using hf.2⟩
  ·have hp:Dc.bK D x y b=D:=by unfold Dc.bK; rw [hf]; dsimp only; rw [if_neg hv]
   generalize aD.cJ (D.l.getD k Dc.aI) b=z at *;have ez:(z == 0)=false:=beq_false_of_ne hv;replace M:=zq M;have HP:=zq hp; have HZ:=zq hz0;clear hp hz0 hv hf hm;go_enter Tryz.func80,Tryz.ntmps80
   go_wp2_with fail
   refine (M.out).mono ?_;rintro e w1 ⟨rfl,b1⟩;go_wp2_with fail
   go_ret
   exact zL h b1 HZ.out HP.out
theorem BM {F:Nat->Prop} {w:World} {g gv lc vc:Nat} {la:Addr} {vA:Option Addr} {xs vs:List Value} {D:Dc.aZ} (x y:Int) {A':Option Addr} {n' c' B:Nat} {b:List UInt8} (h:cM 131 w F g gv (some la) lc vA vc xs vs D) (hb:RB w B A' n' c' b) (hB:B<=w.heap.size) (hn:n' < 140737488355328):Calls Tryz.prog 49 #[.pointer (some ⟨g,0,none⟩),.int .i64 x,.int .i64 y,.slice A' n' c'] w (Hb (t:=131) D x y b w F g gv (some la) lc vA vc xs):=by
 have M:=zq (Ih x y h hb hB hn);clear h hb;go_enter Tryz.func49,Tryz.ntmps49
 go_wp2_with fail
 refine (M.out).mono ?_;rintro e w1 ⟨rfl,h1,vs',h2⟩;go_wp2_with fail
 go_ret
 exact ⟨rfl,h1,vs',h2⟩
end
namespace Dc
def jz (D:aZ) (k:Nat):List Vl:=(List.range k).map fun k=>⟨(D.l.getD k aI).index,(D.l.getD k aI).sub,D.v.getD k []⟩
theorem rX (D:aZ) (k:Nat):jz D (k + 1)=jz D k ++ [⟨(D.l.getD k aI).index,(D.l.getD k aI).sub,D.v.getD k []⟩]:=by
 unfold jz;rw [List.range_succ,List.map_append];rfl
theorem uR (D:aZ) (k:Nat):(jz D k).length=k:=by unfold jz; simp
theorem uo (D:aZ):(jC D).length=D.l.length:=uR D D.l.length
end Dc
section
open Go.RowKit
def Ro (D:Dc.aZ) (w:World) (e:Ending) (w':World):Prop:=∃ A c,e=.returned (.slice A D.l.length c)/\OS (pz w' w.heap.size) w' w.heap.size 34 3 A D.l.length c (Dc.jC D)/\Below w.heap.size w w'
theorem zn {L:List (List UInt8)} (h:∀ v∈L,v.length<=1000000) (k:Nat):(L.getD k []).length<=1000000:=by
 rw [List.getD_eq_getElem?_getD];cases hi:L[k]? with
 | none=>simp
 | some x=>exact h _ (List.mem_of_getElem? hi)
theorem Bb {F:Nat->Prop} {w:World} {g gv lc vc:Nat} {la:Addr} {vA:Option Addr} {xs vs:List Value} {D:Dc.aZ} (h:cM 131 w F g gv (some la) lc vA vc xs vs D) (hv:∀ v∈D.v,v.length<=1000000):Calls Tryz.prog 259 #[.pointer (some ⟨g,0,none⟩)] w (Ro D w):=by
 obtain ⟨t0,t1⟩:=h.two;have T0:=cell_regrown t0;have T1:=cell_regrown t1;have Zr:=zq h.vt;have hcap:D.l.length<=vc/\vc<=9223372036854775807:=⟨h.own.rv.le,h.own.rv.cap⟩;obtain ⟨hcap1,hcap2⟩:=hcap;obtain ⟨Vr,Vs⟩:=h.vt;have hgl:=h.aP.lt;have Sh:=h.few;have LN:=zq (eY h);go_enter Tryz.func259,Tryz.ntmps259
 go_wp2_with fail
 refine (LN.out).mono ?_;rintro e w2 ⟨rfl,rfl⟩;go_wp2_with fail
 go_loopw [3,7] (fun v i wr=>∃ (k:Nat) (A1:Option Addr) (c1:Nat),k<=D.l.length/\i=.int .i64 k/\v=.slice A1 k c1/\OS (pz wr w.heap.size) wr w.heap.size 34 3 A1 k c1 (Dc.jz D k)/\Below w.heap.size w wr) (fun _ i _=>D.l.length - (intOf i).toNat)
 case atStart=>exact ⟨0,_,_,by omega,rfl,rfl,OS.none_ _ _ _ _,Below.refl _ _⟩
 case round =>
  obtain ⟨k,A1,c1,hk,rfl,rfl,os,bb⟩:=hrel;have t0':=(bb.cell (p:=⟨g,0,none⟩) hgl).trans t0
  by_cases hlt:k < D.l.length
  ·obtain ⟨b,oo,A0,n0,c0,Pu,eT,hr0,hc⟩:=h.entry hlt
   obtain ⟨A2,n2,c2,hA2,_,hg,hr2,hcell,_⟩:=h.value hlt;have hnx:=Dc.rX D k;have hln:=zn hv k;have hl2:=hr2.len;have q0:=cell_regrown (hc 0 _ rfl);have q1:=cell_regrown (hc 1 _ rfl);have q2:=cell_regrown hcell;simp only [Nat.add_zero] at q0
   try dsimp only at q0 q1
   injection Pu with Pu
   subst Pu hA2;generalize D.v.getD k []=dat at *;generalize (D.l.getD k Dc.aI).index=vR at *;generalize (D.l.getD k Dc.aI).sub=Dp at *;subst hl2;have HN:=zq hnx;have OWN:=zq (fun (w2:World) (hb:Below w.heap.size w w2)=>fM w2 (hr2.below hb) (by omega) hb.size);have i0:(0:Int)<=(k:Int):=by omega
   have i1:(k:Int) < (D.l.length:Int):=by omega
   have bd:=bb.trans ((af wr).mono bb.size);clear hnx hc hr0 hr2 hcell;go_wp2_with fail
   refine kY (w0:=w) (by kernel_rfl) ?_;refine ai (by kernel_rfl) 5 bd [0,1,5,9,13,17,21,2,10,18,3,11,19,4,12,20,6,14,22,7,15,23,8,16] rfl (by kernel_rfl) ?_;simp only [aj,nth]
   repeat (go_big_quiet_step (fail))
   refine wpQuiet_nil ?_;refine aH 24 4 rfl (by kernel_rfl) (by decide) ?_;simp only [nth];go_wp2_with fail
   refine (OWN.out _ bd).mono ?_;rintro e w3 ⟨A3,c3,rfl,o3,b3⟩
   skip
   have b3':Below wr.heap.size wr w3:=(af wr).trans b3;have d3:=aa bb b3' lq;have os3:=os.below b3' (R':=pz w3 w.heap.size) fun _ _ h=>h.below b3'
   have TY:=(o3.ow).more (base':=w.heap.size) bd.size;clear os o3;go_wp2_with fail
   refine aM d3 ?_;refine ai (by kernel_rfl) 3 d3 [25] rfl (by kernel_rfl) ?_;simp only [aj,nth]
   repeat (go_big_quiet_step (fail))
   refine wpQuiet_nil ?_;refine aH 26 2 rfl (by kernel_rfl) (by decide) ?_;simp only [nth];have b4:=ae w3 (.cells #[.int .i64 vR,.int .i64 Dp,.slice A3 dat.length c3] 34);have d4:=aa d3 b4 lq;have OJ:=os3.below b4 (R':=pz _ w.heap.size) fun _ _ h=>h.below b4
   have hnew:=RV.new w3 34 (size:=3) (cs:=[.int .i64 vR,.int .i64 Dp,.slice A3 dat.length c3]) rfl;have th:pz (w3.alloc (.cells #[.int .i64 vR,.int .i64 Dp,.slice A3 dat.length c3] 34)) w.heap.size ⟨vR,Dp,dat⟩ [.int .i64 vR,.int .i64 Dp,.slice A3 dat.length c3]:=⟨A3,dat.length,c3,rfl,TY.below b4⟩;go_wp2_with fail
   refine aM d4 ?_;refine aH 27 1 rfl (by kernel_rfl) (by decide) ?_;simp only [nth];go_wp2_with (at_builtin; refine cO RQ (fun w1=>pz w1 w.heap.size) rfl (.tmp 10) (.tmp 36) rfl rfl rfl w.heap.size OJ ⟨vR,Dp,dat⟩ hnew th (jP _ _ _ _ _) (by omega) (by omega) d4.size (fun w1 A1 n1 c1 xs h g f cs hf=>hf.beside h (by decide) g) ?_; intro A5 c5 w5 o5 b5 g5 _)
   have d5:=d4.trans b5;refine aM d5 ?_;refine ai (by kernel_rfl) 0 d5 [28] rfl (by kernel_rfl) ?_;simp only [aj,nth]
   repeat (go_big_quiet_step (fail))
   refine wpQuiet_nil ?_;refine aK (by kernel_rfl) ?_;clear os3 OJ hnew th;go_wp2_with fail
   go_roundw
   case rel=>exact ⟨k + 1,A5,c5,by omega,by go_num,rfl,by rw [HN.out]; exact o5,d5⟩
   case measure=>simp [intOf] <;> omega
  ·obtain rfl:k=D.l.length:=by omega
   go_wp2_with fail
   go_ret
   exact ⟨A1,c1,rfl,os,bb⟩
end
namespace Sn
open Dc
def Qc:Nat->List UInt8->List Vl->Option (List Vl)
 | 0,_,out=>some out
 | f + 1,b,out=>if b=[] then some out else match jH b with
  | none=>none
  | some (v,r)=>if out≠[]/\aD.mb (Xb (out.getLastD ⟨0,0,[]⟩).index (out.getLastD ⟨0,0,[]⟩).sub) (Xb v.index v.sub)=false then none else Qc f r (out ++ [v])
def gP (b:List UInt8):Option (List Vl):=if 960 < b.length then none else Qc (b.length + 1) b []
def Qw (D:aZ) (v:Vl):Int:=match bh D.l v.index v.sub with
 | none=>8
 | some k=>if (D.l.getD k aI).store=false then 8 else if aD.cJ (D.l.getD k aI) v.data=0 then 0 else 4
def ar (D:aZ):List Vl->Int
 | []=>0
 | v :: r=>if Qw D v=0 then ar D r else Qw D v
end Sn
section
open Go.RowKit
def IV (w:World) (F:Nat->Prop) (f:Dc.Vl) (cs:List Value):Prop:=∃ A n c,cs=[.int .i64 f.index,.int .i64 f.sub,.slice A n c]/\iX w F A n c f.data
def jU (w:World) (F:Nat->Prop) (A:Option Addr) (n c:Nat) (fs:List Dc.Vl):Prop:=∃ xs,ij w F 3 A n c xs/\Rows (IV w F) 3 fs xs
section
variable {F G:Nat->Prop} {w w':World} {A:Option Addr} {n c base:Nat} {fs:List Dc.Vl} {f:Dc.Vl} {cs:List Value}
theorem IV.mv (h:IV w F f cs) (hm:Mv G w w') (hd:∀ b,b < w.heap.size->F b->¬ G b):IV w' F f cs:=by obtain ⟨A,n,c,h1,h2⟩:=h; exact ⟨A,n,c,h1,h2.mv hm hd⟩
theorem IV.mono (h:IV w F f cs) (hi:∀ b,b < w.heap.size->F b->G b):IV w G f cs:=by obtain ⟨A,n,c,h1,h2⟩:=h; exact ⟨A,n,c,h1,h2.mono hi⟩
theorem IV.Y_ (h:IV w F f cs):W6 w w.heap.size f cs:=by obtain ⟨A,n,c,h1,h2⟩:=h; exact ⟨A,n,c,h1,h2.rb⟩
theorem jU.mv (h:jU w F A n c fs) (hm:Mv G w w') (hd:∀ b,b < w.heap.size->F b->¬ G b):jU w' F A n c fs:=by
 obtain ⟨xs,h1,h2⟩:=h;exact ⟨xs,h1.mv hm hd,h2.imp fun _ _ k=>k.mv hm hd⟩
theorem jU.below (h:jU w F A n c fs) (hb:Below w.heap.size w w'):jU w' F A n c fs:=h.mv (Mv.aq hb fun _=>False) fun _ _ _ h=>h
theorem jU.mono (h:jU w F A n c fs) (hi:∀ b,b < w.heap.size->F b->G b):jU w G A n c fs:=by
 obtain ⟨xs,h1,h2⟩:=h;exact ⟨xs,h1.mono hi,h2.imp fun _ _ k=>k.mono hi⟩
theorem jU.UZ (h:jU w F A n c fs):NG w w.heap.size w.heap.size A n c fs:=by
 obtain ⟨xs,h1,h2⟩:=h;exact ⟨xs,h1.rv,h2.imp fun _ _ k=>k.Y_⟩
theorem jU.nil (w:World) (F:Nat->Prop):jU w F none 0 0 []:=⟨[],ij.none_ _ _ _,Rows.nil⟩
theorem OW.Lx {l:List UInt8} (h:OW w base A n c l):iX w (fun q=>base<=q) A n c l:=by
 have hr:=h.rb;refine ⟨hr.len,hr.le,hr.cap,hr.nil,fun hn=>?_⟩;obtain ⟨b,o,e1,hb,hc⟩:=hr.at_ hn;obtain ⟨g,cur,e2,hg,_⟩:=h.at_ (by have:=hr.le; omega);rw [e1] at e2;injection e2 with e2
 injection e2 with e3 _
 subst e3;exact ⟨b,o,e1,hg,hb,hc⟩
theorem pz.Y9 (h:pz w base f cs):IV w (fun q=>base<=q) f cs:=by obtain ⟨A,n,c,h1,h2⟩:=h; exact ⟨A,n,c,h1,h2.Lx⟩
theorem FA (h:OS (pz w base) w base 34 3 A n c fs):jU w (fun q=>base<=q) A n c fs:=by
 obtain ⟨xs,h1,h2⟩:=h;exact ⟨xs,h1.zC fun k hk=>(h1.lt k hk).1,h2.imp fun _ _ k=>k.Y9⟩
end
theorem l9 (D:Dc.aZ) (x y:Int) (b:List UInt8):(Dc.bK D x y b).l=D.l:=by
 unfold Dc.bK;split
 ·rfl
 ·split <;> rfl
end
end Go.Proofs.YtijegngfclkdaaaGreatDoor
