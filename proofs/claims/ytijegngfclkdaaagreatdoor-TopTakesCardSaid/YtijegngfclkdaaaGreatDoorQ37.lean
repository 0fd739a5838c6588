/-
  Piece 37 of the proof.
  Conditions: none.
-/
import Derived.Test.YtijegngfclkdaaaGreatDoorQ36
set_option linter.unusedVariables false
set_option linter.unusedSimpArgs false
set_option maxHeartbeats 100000000
set_option maxRecDepth 100000
namespace Go.Proofs.YtijegngfclkdaaaGreatDoor
namespace Nn
open Go.RowKit Go.Sort Go
structure ey (m:Nat) (L:List UInt8) (k p:Nat) (bs:List UInt8):Prop where
 len:L.length=m
 bit:∀ j,Bt.bt L j=if j < k then Bt.bt bs (p + j) else 0
theorem ey.zero (m p:Nat) (bs:List UInt8):ey m (List.replicate m 0) 0 p bs:=⟨by simp,fun j=>by
 rw [if_neg (by omega)];unfold Bt.bt;rw [List.getD_eq_getElem?_getD,List.getElem?_replicate];split <;> simp⟩
def Tz (c:UInt8) (j x:Nat):UInt8:=if x=0 then c else Bt.sb c j true
theorem ey.step {m k p:Nat} {L bs:List UInt8} (h:ey m L k p bs) (hk:k / 8 < m):ey m (L.set (k / 8) (Tz (L.getD (k / 8) 0) (k % 8) (Bt.bt bs (p + k)))) (k + 1) p bs:=by
 have hl:=h.len;have h2:=Bt.tZ bs (p + k);refine ⟨by rw [List.length_set]; exact hl,fun j=>?_⟩;unfold Tz
 by_cases hx:Bt.bt bs (p + k)=0
 ·rw [if_pos hx]
  have e:L.set (k / 8) (L.getD (k / 8) 0)=L:=by
   rw [List.getD_eq_getElem?_getD,List.getElem?_eq_getElem (by omega)];exact List.set_getElem_self (by omega)
  rw [e,h.bit j]
  by_cases hj:j < k
  ·rw [if_pos hj,if_pos (by omega)]
  ·rw [if_neg hj]
   by_cases e2:j=k
   ·subst e2
    rw [if_pos (by omega),hx]
   ·rw [if_neg (by omega)]
 ·rw [if_neg hx]
  have h3:=Bt.Jl L k j true (by omega);unfold Bt.BP at h3;rw [h3,h.bit j]
  by_cases e2:j=k
  ·subst e2
   rw [if_pos rfl,if_pos (by omega)];show 1=_;omega
  ·rw [if_neg e2]
   by_cases hj:j < k
   ·rw [if_pos hj,if_pos (by omega)]
   ·rw [if_neg hj,if_neg (by omega)]
theorem yZ (c:UInt8) (j x:Nat) (hj:j < 8) (hx:x < 2):bits .or .u8 (c.toNat:Int) (wrap64 ((x:Int) * 2 ^ j) % 256)=((Tz c j x).toNat:Int):=by
 have hp:(2:Int) ^ j<=128/\0<=(2:Int) ^ j:=by
  rcases j with _ | _ | _ | _ | _ | _ | _ | _ | j
  all_goals first | decide | omega
 unfold Tz;rcases x with _ | _ | x
 ·rw [if_pos rfl]
  have e:wrap64 (((0:Nat):Int) * 2 ^ j) % 256=((0:Nat):Int):=by simp [wrap64]
  rw [e,u8_or_nat _ _ c.toNat_lt (by decide),Nat.or_zero]
 ·rw [if_neg (by decide)]
  have e:wrap64 (((1:Nat):Int) * 2 ^ j)=(2:Int) ^ j:=by
   rw [show ((1:Nat):Int) * 2 ^ j=(2:Int) ^ j by simp];exact IntWalk.wrap64_in _ (by omega)
  rw [show ((0 + 1:Nat):Int)=((1:Nat):Int) from rfl,e];exact yB c j hj
 ·omega
def Lr (g q:Nat) (x:Value) (v:World):Prop:=v.cell? ⟨g,q,none⟩=some x
def NT (n:Nat) (bs:List UInt8) (w:World) (e:Ending) (w':World):Prop:=∃ A c L,e=.returned (.slice A ((n + 7) / 8) c)/\OB w' w.heap.size A ((n + 7) / 8) c L/\ey ((n + 7) / 8) L n 0 bs/\Below w.heap.size w w'
theorem GY {A:Option Addr} {n c B:Nat} {bs:List UInt8} (w:World) (hb:RB w B A n c bs) (hB:B<=w.heap.size) (hn:n<=1000000) (m:Nat) (hm:m<=1000000):Calls Tryz.prog 32 #[.slice A n c,.int .i64 (m:Int)] w (NT m bs w):=by
 have q1:Int.tdiv ((m:Int) + 7) 8=(((m + 7) / 8:Nat):Int):=by rw [Int.tdiv_eq_ediv_of_nonneg (by omega)]; omega
 have q1':((m:Int) + 7) / 8=(((m + 7) / 8:Nat):Int):=by omega
 obtain ⟨z,hz⟩:∃ z,(m + 7) / 8=z:=⟨_,rfl⟩;have HZ:Hid ((m + 7) / 8=z):=zq hz;have hzb:z<=200000:=by omega
 rw [hz] at q1 q1';have HB:=zq4 hb hB hn hm;clear hz hb hB hn hm;unfold NT;rw [HZ.out];go_enter Tryz.func32,Tryz.ntmps32
 go_wp2_with (at_make; refine fO od rfl (.tmp 9) (.tmp 9) rfl .i64 .i64 z z rfl rfl lq (by omega) w.heap.size lq ?_; intro w1 o1 b1 s1)
 have R0:Hid (∃ L,OB w1 w.heap.size (some ⟨w.heap.size,0,none⟩) z z L/\ey z L 0 0 bs/\Below w.heap.size w w1):=zq ⟨_,o1,ey.zero _ _ _,b1⟩;clear o1 b1 s1;go_loopw [6] (fun v wr=>∃ k:Nat,k<=m/\v=.int .i64 k/\Hid (∃ L,OB wr w.heap.size (some ⟨w.heap.size,0,none⟩) z z L/\ey z L k 0 bs/\Below w.heap.size w wr)) (fun v _=>m - (intOf v).toNat)
 case atStart=>exact ⟨0,by omega,rfl,R0⟩
 case round =>
  obtain ⟨k,hk,rfl,HR⟩:=hrel;clear R0
  by_cases hlt:k < m
  ·have tk:decide ((k:Int) < (m:Int))=true:=decide_eq_true (by omega)
   have q2:Int.tdiv (k:Int) 8=((k / 8:Nat):Int):=by rw [Int.tdiv_eq_ediv_of_nonneg (by omega)]; omega
   have q3:Int.tmod (k:Int) 8=((k % 8:Nat):Int):=by rw [Int.tmod_eq_emod_of_nonneg (by omega)]; omega
   have q4:k / 8 < z:=by have:=HZ.out; omega
   obtain ⟨L,o1,r1,b1⟩:=HR.out;have hc:=o1.cell q4;have hf:=o1.free (k / 8);have S0:=zq (show Lr w.heap.size (k / 8) (.int .u8 ((L.getD (k / 8) 0).toNat:Int)) wr.drew from hc);have y0:∀ x:Wc (Lr w.heap.size (k / 8) (.int .u8 ((L.getD (k / 8) 0).toNat:Int))),x.val.cell? ⟨w.heap.size,k / 8,none⟩=some (.int .u8 ((L.getD (k / 8) 0).toNat:Int)):=fun x=>x.ok
   have LB:=zq (ja wr.drew ((HB.out.1.below (b1.mono HB.out.2.1)).below ((Below.refl _ wr).drew.mono (Nat.le_trans HB.out.2.1 b1.size))) HB.out.2.2.1 k (by have:=HB.out.2.2.2; omega));have hc2:wr.drew.cell? ⟨w.heap.size,k / 8,none⟩=some (.int .u8 ((L.getD (k / 8) 0).toNat:Int)):=hc;have hf2:wr.drew.frozen? ⟨w.heap.size,k / 8,none⟩=false:=hf;have H1:=zq3 o1 r1 b1;clear o1 r1 b1 hc hf HR;have hx:=(L.getD (k / 8) 0).toNat_lt;generalize hcx:L.getD (k / 8) 0=cx at *;replace hcx:=zq hcx;go_wp2_with fail
   haveI cg:Nonempty (Wc (Lr w.heap.size (k / 8) (.int .u8 (cx.toNat:Int)))):=⟨⟨_,S0.out⟩⟩;refine aW 18 (Lr w.heap.size (k / 8) (.int .u8 (cx.toNat:Int))) (by kernel_rfl) ?_;refine aw (by kernel_rfl) 6 S0.out [0,1,3,4,8,9,11,2,5,12,6,13,7] rfl (by kernel_rfl) ?_;simp only [aj,nth]
   repeat (go_big_quiet_step (fail))
   refine wpQuiet_nil ?_;refine ag 10 5 rfl (by kernel_rfl) (by decide) ?_;simp only [nth];go_wp2_with fail
   refine (LB.out).mono ?_;rintro e _ ⟨rfl,rfl⟩;go_wp2_with fail
   refine az S0.out ?_;refine aw (by kernel_rfl) 1 S0.out [14,15,16,17] rfl (by kernel_rfl) ?_;simp only [aj,nth]
   repeat (go_big_quiet_step (fail))
   refine wpQuiet_nil ?_;refine bL 0 rfl (by kernel_rfl) (by decide) (by kernel_rfl) ?_;simp only [nth];go_wp2_with fail
   refine il ?_;have ew:=yZ cx (k % 8) (Bt.bt bs k) (Nat.mod_lt _ (by decide)) (Bt.tZ _ _);have o2:=(H1.out.1.EM (k / 8) _ ew).1;have r2:=H1.out.2.1.step q4;rw [hcx.out,Nat.zero_add] at r2;have R2:=zq (show ∃ L,OB (wr.setCell ⟨w.heap.size,k / 8,none⟩ (.int .u8 (bits .or .u8 (cx.toNat:Int) (wrap64 ((Bt.bt bs k:Int) * 2 ^ (k % 8)) % 256)))).drew w.heap.size (some ⟨w.heap.size,0,none⟩) z z L/\ey z L (k + 1) 0 bs/\Below w.heap.size w (wr.setCell ⟨w.heap.size,k / 8,none⟩ (.int .u8 (bits .or .u8 (cx.toNat:Int) (wrap64 ((Bt.bt bs k:Int) * 2 ^ (k % 8)) % 256)))).drew from ⟨_,o2.below (Below.refl _ _).drew,r2,(H1.out.2.2.setCell (p:=⟨w.heap.size,k / 8,none⟩) lq _).drew⟩);clear o2 r2 ew H1 S0 y0 cg hc2 hf2;go_wp2_with fail
   go_roundw
   case rel=>exact ⟨k + 1,by omega,by first | rfl | rw [hw] | go_num,R2⟩
   case measure=>(try rw [hw]); simp [intOf]; omega
  ·obtain rfl:k=m:=by omega
   go_wp2_with fail
   go_ret
   obtain ⟨L,o1,r1,b1⟩:=HR.out;exact ⟨_,_,L,rfl,o1,r1,b1⟩
end Nn
namespace Nn
theorem tb (x i:Nat):x.testBit i=decide (x / 2 ^ i % 2=1):=Nat.testBit_eq_decide_div_mod_eq
theorem QC {x y i:Nat} (h:x / 2 ^ i % 2=y / 2 ^ i % 2):x.testBit i=y.testBit i:=by rw [tb,tb,h]
theorem LF {x y i:Nat} (h:x.testBit i=y.testBit i):x / 2 ^ i % 2=y / 2 ^ i % 2:=by
 rw [tb,tb] at h;have h1:=Nat.mod_lt (x / 2 ^ i) (show 0 < 2 by decide);have h2:=Nat.mod_lt (y / 2 ^ i) (show 0 < 2 by decide);rw [decide_eq_decide] at h;omega
theorem nF (c:UInt8) (l:List UInt8) (j:Nat):Bt.bt (c :: l) j=if j < 8 then c.toNat / 2 ^ j % 2 else Bt.bt l (j - 8):=by
 unfold Bt.bt
 by_cases h:j < 8
 ·rw [if_pos h,show j / 8=0 by omega,show j % 8=j by omega]
  rfl
 ·rw [if_neg h,show j / 8=(j - 8) / 8 + 1 by omega,show j % 8=(j - 8) % 8 by omega]
  rfl
theorem Fg {c d:UInt8} (h:∀ j,j < 8->c.toNat / 2 ^ j % 2=d.toNat / 2 ^ j % 2):c=d:=by
 apply UInt8.toNat_inj.1
 apply Nat.eq_of_testBit_eq
 intro i
 by_cases hi:i < 8
 ·exact QC (h i hi)
 ·have h1:c.toNat < 2 ^ i:=Nat.lt_of_lt_of_le c.toNat_lt (Nat.pow_le_pow_right (by decide) (by omega))
  have h2:d.toNat < 2 ^ i:=Nat.lt_of_lt_of_le d.toNat_lt (Nat.pow_le_pow_right (by decide) (by omega));rw [Nat.testBit_lt_two_pow h1,Nat.testBit_lt_two_pow h2]
theorem ru:∀ {L M:List UInt8},L.length=M.length->(∀ j,Bt.bt L j=Bt.bt M j)->L=M
 | [],[],_,_=>rfl
 | [],_ :: _,h,_=>by simp at h
 | _ :: _,[],h,_=>by simp at h
 | c :: L,d :: M,hl,h=>by
  have e1:c=d:=Fg fun j hj=>by
   have:=h j
   rwa [nF,nF,if_pos hj,if_pos hj] at this
  have e2:L=M:=ru (by simpa using hl) fun j=>by
   have:=h (j + 8)
   rwa [nF,nF,if_neg (by omega),if_neg (by omega),Nat.add_sub_cancel] at this
  rw [e1,e2]
theorem EE:∀ (m v j:Nat),Bt.bt (Oct.lb m v) j=if j < 8 * m then v / 2 ^ j % 2 else 0
 | 0,v,j=>by
  rw [if_neg (by omega)];unfold Bt.bt Oct.lb;simp
 | m + 1,v,j=>by
  rw [Oct.lb];have hl:=Oct.dw m v
  by_cases h:j < 8 * m
  ·rw [Bt.Bu _ _ _ (by rw [hl]; exact h),EE m,if_pos h,if_pos (by omega)]
  ·have e0:(Oct.lb m v ++ [UInt8.ofNat (v / 256 ^ m)])[j / 8]?=([UInt8.ofNat (v / 256 ^ m)]:List UInt8)[j / 8 - m]?:=by
    rw [List.getElem?_append_right (by omega),hl]
   unfold Bt.bt;rw [List.getD_eq_getElem?_getD,e0]
   by_cases h2:j < 8 * (m + 1)
   ·rw [if_pos h2,show j / 8 - m=0 by omega]
    show (UInt8.ofNat (v / 256 ^ m)).toNat / 2 ^ (j % 8) % 2=_;rw [UInt8.toNat_ofNat'];have e1:v / 2 ^ j=v / 256 ^ m / 2 ^ (j % 8):=by
     rw [Nat.div_div_eq_div_mul,show (256:Nat)=2 ^ 8 from rfl,<- Nat.pow_mul,<- Nat.pow_add]
     congr 2
     omega
    rw [e1];apply LF
    rw [Nat.testBit_mod_two_pow];simp [show j % 8 < 8 by omega]
   ·rw [if_neg h2,List.getElem?_eq_none (by simp; omega)]
    simp
theorem nY (l:List UInt8) (p:Nat):∀ n j,Bt.gy l p n / 2 ^ j % 2=if j < n then Bt.bt l (p + j) else 0
 | 0,j=>by
  rw [if_neg (by omega),Bt.gy];simp
 | n + 1,j=>by
  have hlt:=Bt.kT l p n;have h2:=Bt.tZ l (p + n);have key:Bt.gy l p (n + 1)=2 ^ n * Bt.bt l (p + n) + Bt.gy l p n:=by
   rw [Bt.gy,Nat.mul_comm,Nat.add_comm]
  have ih:=nY l p n j;have PI:(Bt.gy l p (n + 1)).testBit j=if j < n then (Bt.gy l p n).testBit j else (Bt.bt l (p + n)).testBit (j - n):=by
   rw [key];exact Nat.testBit_two_pow_mul_add _ hlt _
  by_cases hj:j < n
  ·rw [if_pos (by omega)]
   rw [if_pos hj] at ih PI;rw [<- ih];exact LF PI
  ·rw [if_neg hj] at PI
   by_cases e:j=n
   ·subst e
    rw [if_pos (by omega)];rw [Nat.sub_self,tb,tb] at PI;rw [decide_eq_decide] at PI;have h3:=Nat.mod_lt (Bt.gy l p (j + 1) / 2 ^ j) (show 0 < 2 by decide);simp only [Nat.pow_zero,Nat.div_one] at PI;omega
   ·rw [if_neg (by omega)]
    have h4:Bt.gy l p (n + 1) < 2 ^ j:=Nat.lt_of_lt_of_le (Bt.kT l p (n + 1)) (Nat.pow_le_pow_right (by decide) (by omega));rw [Nat.div_eq_of_lt h4]
theorem ey.field {m p:Nat} {L bs:List UInt8} (h:ey ((m + 7) / 8) L m p bs):L=(Bt.eu bs p (m:Int)).data:=by
 unfold Bt.eu;dsimp only;have hm:(Bt.ba (m:Int)).toNat=(m + 7) / 8:=by
  unfold Bt.ba;split
  ·omega
  ·omega
 rw [hm,Int.toNat_natCast];refine ru (by rw [h.len,Oct.dw]) fun j=>?_
 rw [h.bit j,EE,nY]
 by_cases hj:j < m
 ·rw [if_pos hj,if_pos (by omega)]
 ·rw [if_neg hj]
  split <;> rfl
open Go.RowKit Go.Sort Go
def okW (l:List aD.En) (bs:List UInt8) (at_ w:Nat):Bool:=decide (at_ + Mp.bt w<=8 * bs.length) && decide (aD.cJ (Mp.qS l w) (Bt.eu bs at_ (Mp.bt w:Int)).data=0)
def dY (l:List aD.En) (bs:List UInt8) (ws:List Nat) (k:Nat):Bool:=(List.range k).all fun i=>okW l bs (Mp.aU (ws.take i)) (ws.getD i 0)
theorem wh (l:List aD.En) (bs:List UInt8) (ws:List Nat) (k:Nat):dY l bs ws (k + 1)=(dY l bs ws k && okW l bs (Mp.aU (ws.take k)) (ws.getD k 0)):=by
 unfold dY;rw [List.range_succ,List.all_append];simp
theorem Ed {l:List aD.En} {bs:List UInt8} {ws:List Nat} {k n:Nat} (hk:k < n) (h:okW l bs (Mp.aU (ws.take k)) (ws.getD k 0)=false):dY l bs ws n=false:=by
 unfold dY;rw [List.all_eq_false];exact ⟨k,List.mem_range.2 hk,by rw [h]; decide⟩
theorem size_take (ws:List Nat) {k:Nat} (hk:k < ws.length):Mp.aU (ws.take (k + 1))=Mp.aU (ws.take k) + Mp.bt (ws.getD k 0):=by
 unfold Mp.aU;rw [List.take_succ_eq_append_getElem hk,List.map_append,List.sum_append,List.getD_eq_getElem?_getD,List.getElem?_eq_getElem hk];simp
structure UW (l:List aD.En) (w k m a:Nat):Prop where
 find:Dc.bh l (Mp.ix w) (Mp.sb w)=some k
 lt:k < l.length
 ent:Mp.qS l w=l.getD k Dc.aI
 bits:Mp.bt w=m
 small:a + m<=64
theorem L3 {l:List aD.En} {ws:List Nat} (h:Mp.ar l true ws=0) {i:Nat} (hi:i < ws.length):∃ k,UW l (ws.getD i 0) k (Mp.bt (ws.getD i 0)) (Mp.aU (ws.take i)):=by
 obtain ⟨h1,h2⟩:=Mp.bD h;obtain ⟨h3,h4⟩:=h2 i hi;obtain ⟨k,f1,f2,_⟩:=Mp.eC h3;refine ⟨k,f1,(Dc.bS f1).2.1,f2,rfl,?_⟩;have:=size_take ws hi;omega
section
variable {w:World} {F:Nat->Prop} {g gv lc vc:Nat} {la:Addr} {vA:Option Addr} {xs vs:List Value} {D:Dc.aZ}
theorem Dj (h:cM 131 w F g gv (some la) lc vA vc xs vs D) (hd:∀ e∈D.l,e.dflt.length<=1000000) {A:Option Addr} {n c B:Nat} {ws:List Nat} (hw:RW w B A n c ws) (hwl:∀ x∈ws,x < 4294967296) (hB:B<=w.heap.size) (hck:Mp.ar D.l true ws=0) {A2:Option Addr} {n2 c2 B2:Nat} {bs:List UInt8} (hb:RB w B2 A2 n2 c2 bs) (hB2:B2<=w.heap.size) (hn2:n2<=1000000):Calls Tryz.prog 25 #[.pointer (some ⟨g,0,none⟩),.slice A n c,.slice A2 n2 c2] w fun e w'=>e=.returned (.bool (dY D.l bs ws n))/\Below w.heap.size w w':=by
 have hl:=hw.len;have hbl:=hb.len;have hn8:n<=8:=by rw [<- hl]; exact (Mp.bD hck).1
 have HH:=zq8 h hd hw hwl hB hb hB2 hn2;have HL:=zq2 hl hbl;have WK:=zq (fun i (hi:i < ws.length)=>L3 hck hi);have R0:Hid (dY D.l bs ws 0=true/\Below w.heap.size w w):=zq ⟨rfl,Below.refl _ _⟩;clear h hd hw hwl hB hb hB2 hl hbl hck;go_enter Tryz.func25,Tryz.ntmps25
 go_wp2_with fail
 go_loopw [7,8] (fun a v wr=>∃ k:Nat,k<=n/\a=.int .i64 (Mp.aU (ws.take k):Int)/\v=.int .i64 k/\Hid (dY D.l bs ws k=true/\Below w.heap.size w wr)) (fun _ v _=>n - (intOf v).toNat)
 case atStart=>exact ⟨0,by omega,rfl,rfl,R0⟩
 case round =>
  obtain ⟨k,hk,rfl,rfl,HR⟩:=hrel;clear R0
  by_cases hlt:k < n
  ·have tk:decide ((k:Int) < (n:Int))=true:=decide_eq_true (by omega)
   obtain ⟨kk,wk⟩:=WK.out k (by rw [HL.out.1]; exact hlt);obtain ⟨b,o,rfl,eT,q0⟩:=(HH.out.2.2.1.below (HR.out.2.mono HH.out.2.2.2.2.1)).at_ hlt;have hnx:=zq (size_take ws (k:=k) (by rw [HL.out.1]; exact hlt));have hss:=zq (wh D.l bs ws k);have hno:=zq (fun (hf:okW D.l bs (Mp.aU (ws.take k)) (ws.getD k 0)=false)=>Ed (n:=n) hlt hf);have hxl:=word_lt HH.out.2.2.2.1 k;generalize ws.getD k 0=x at *;generalize Mp.aU (ws.take k)=at_ at *;obtain ⟨m,hm⟩:∃ m,Mp.bt x=m:=⟨_,rfl⟩;have SP:=eM x hxl wr;rw [hm] at SP wk hnx;replace SP:=zq SP;have FI:=ib (Mp.ix x) (Mp.sb x) (HH.out.1.below HR.out.2);have ef:gX D.l (Mp.ix x) (Mp.sb x)=((kk:Int),true):=by unfold gX; rw [wk.find]
   rw [ef] at FI;dsimp only at FI;replace FI:=zq FI;have EN:=zq (fun (w1:World) (hb:Below w.heap.size w w1)=>im kk (HH.out.1.below hb) wk.lt HH.out.2.1);have hsm:=wk.small;have hok:Hid (okW D.l bs at_ x=(decide (at_ + m<=8 * bs.length) && decide (aD.cJ (D.l.getD kk Dc.aI) (Bt.eu bs at_ (m:Int)).data=0))):=zq (by unfold okW; rw [hm,wk.ent]);have HX:=zq2 hm wk;clear hm wk ef;generalize (Mp.ix x:Int)=vR at SP FI;generalize (Mp.sb x:Int)=Dp at SP FI;go_wp2_with fail
   refine (SP.out).mono ?_;rintro e _ ⟨rfl,rfl⟩;go_wp2_with fail
   refine (FI.out).mono ?_;rintro e w1 ⟨rfl,b1⟩;have d1:=aa HR.out.2 b1 lq;have Yp:=zq (EN.out w1 d1);replace d1:=zq d1;clear b1 EN FI SP;go_wp2_with fail
   refine (Yp.out).mono ?_;rintro e w2 ⟨A1,n1,c1,rfl,_,b2⟩;generalize D.l.getD kk Dc.aI=en at *;have d2:=aa d1.out b2 lq;have b3:=ae w2 (.cells #[.int .i64 en.index,.int .i64 en.sub,.string (T en.name),.int .i64 en.type,.int .i64 en.access,.bool en.map,.bool en.store,.int .i64 en.max,.int .i64 en.low,.int .i64 en.high,.slice A1 n1 c1] 27);have B3:=ao.new w2 27 #[.int .i64 en.index,.int .i64 en.sub,.string (T en.name),.int .i64 en.type,.int .i64 en.access,.bool en.map,.bool en.store,.int .i64 en.max,.int .i64 en.low,.int .i64 en.high,.slice A1 n1 c1];have d3:=aa d2 b3 lq;have z3:w2.heap.size < (w2.alloc (.cells #[.int .i64 en.index,.int .i64 en.sub,.string (T en.name),.int .i64 en.type,.int .i64 en.access,.bool en.map,.bool en.store,.int .i64 en.max,.int .i64 en.low,.int .i64 en.high,.slice A1 n1 c1] 27)).heap.size:=B3.lt;have H3:=zq3 d3 B3 z3;have HR1:=zq HR.out.1;clear Yp d1 b2 b3 B3 d2 d3 z3 HR
   by_cases hle:at_ + m<=8 * n2
   ·have t8:decide ((at_:Int) + (m:Int) > 8 * (n2:Int))=false:=decide_eq_false (by omega)
    have t8':decide (8 * (n2:Int) < (at_:Int) + (m:Int))=false:=decide_eq_false (by omega);unfold gO;go_upto_region 10 with fail
    generalize w2.alloc (.cells #[.int .i64 en.index,.int .i64 en.sub,.string (T en.name),.int .i64 en.type,.int .i64 en.access,.bool en.map,.bool en.store,.int .i64 en.max,.int .i64 en.low,.int .i64 en.high,.slice A1 n1 c1] 27)=w3 at *;have q1:Int.tdiv ((m:Int) + 7) 8=(((m + 7) / 8:Nat):Int):=by rw [Int.tdiv_eq_ediv_of_nonneg (by omega)]; omega
    have q1':((m:Int) + 7) / 8=(((m + 7) / 8:Nat):Int):=by omega
    obtain ⟨z,hz⟩:∃ z,(m + 7) / 8=z:=⟨_,rfl⟩;have HZ:Hid ((m + 7) / 8=z):=zq hz;have hzb:z<=200:=by omega
    rw [hz] at q1 q1';clear hz;go_wp2_with (at_make; refine fO od rfl (.tmp 63) (.tmp 63) rfl .i64 .i64 z z rfl rfl lq (by omega) w3.heap.size lq ?_; intro w4 o4 b4 s4)
    have R4:Hid (∃ L,OB w4 w3.heap.size (some ⟨w3.heap.size,0,none⟩) z z L/\ey z L 0 at_ bs/\Below w3.heap.size w3 w4):=zq ⟨_,o4,ey.zero _ _ _,b4⟩;clear o4 b4 s4 q1 q1' q0;go_loopw [17] (fun v wq=>∃ j:Nat,j<=m/\v=.int .i64 j/\Hid (∃ L,OB wq w3.heap.size (some ⟨w3.heap.size,0,none⟩) z z L/\ey z L j at_ bs/\Below w3.heap.size w3 wq)) (fun v _=>m - (intOf v).toNat)
    case atStart=>exact ⟨0,by omega,rfl,R4⟩
    case round =>
     obtain ⟨j,hj,rfl,HJ⟩:=hrel;clear R4
     by_cases hjt:j < m
     ·have tj:decide ((j:Int) < (m:Int))=true:=decide_eq_true (by omega)
      have q2:Int.tdiv (j:Int) 8=((j / 8:Nat):Int):=by rw [Int.tdiv_eq_ediv_of_nonneg (by omega)]; omega
      have q3:Int.tmod (j:Int) 8=((j % 8:Nat):Int):=by rw [Int.tmod_eq_emod_of_nonneg (by omega)]; omega
      have q4:j / 8 < z:=by have:=HZ.out; omega
      obtain ⟨L,o1,r1,b1⟩:=HJ.out;have hc:=o1.cell q4;have hf:=o1.free (j / 8);have S0:=zq (show Lr w3.heap.size (j / 8) (.int .u8 ((L.getD (j / 8) 0).toNat:Int)) wr.drew from hc);have y0:∀ x:Wc (Lr w3.heap.size (j / 8) (.int .u8 ((L.getD (j / 8) 0).toNat:Int))),x.val.cell? ⟨w3.heap.size,j / 8,none⟩=some (.int .u8 ((L.getD (j / 8) 0).toNat:Int)):=fun x=>x.ok
      have dB:=(aa H3.out.1 b1 lq).drew;have LB:=zq (ja wr.drew (HH.out.2.2.2.2.2.1.below (dB.mono HH.out.2.2.2.2.2.2.1)) hn2 (at_ + j) (by omega));have hc2:wr.drew.cell? ⟨w3.heap.size,j / 8,none⟩=some (.int .u8 ((L.getD (j / 8) 0).toNat:Int)):=hc;have hf2:wr.drew.frozen? ⟨w3.heap.size,j / 8,none⟩=false:=hf;have H1:=zq3 o1 r1 b1;clear o1 r1 b1 hc hf HJ dB;have hx:=(L.getD (j / 8) 0).toNat_lt;generalize hcx:L.getD (j / 8) 0=cx at *;replace hcx:=zq hcx;go_wp2_with fail
      haveI cg:Nonempty (Wc (Lr w3.heap.size (j / 8) (.int .u8 (cx.toNat:Int)))):=⟨⟨_,S0.out⟩⟩;refine aW 20 (Lr w3.heap.size (j / 8) (.int .u8 (cx.toNat:Int))) (by kernel_rfl) ?_;refine aw (by kernel_rfl) 6 S0.out [0,1,3,4,8,9,10,13,2,5,11,14,6,15,7] rfl (by kernel_rfl) ?_;simp only [aj,nth]
      repeat (go_big_quiet_step (fail))
      refine wpQuiet_nil ?_;refine ag 12 5 rfl (by kernel_rfl) (by decide) ?_;simp only [nth];go_wp2_with fail
      refine (LB.out).mono ?_;rintro e _ ⟨rfl,rfl⟩;go_wp2_with fail
      refine az S0.out ?_;refine aw (by kernel_rfl) 1 S0.out [16,17,18,19] rfl (by kernel_rfl) ?_;simp only [aj,nth]
      repeat (go_big_quiet_step (fail))
      refine wpQuiet_nil ?_;refine bL 0 rfl (by kernel_rfl) (by decide) (by kernel_rfl) ?_;simp only [nth];go_wp2_with fail
      refine il ?_;have ew:=yZ cx (j % 8) (Bt.bt bs (at_ + j)) (Nat.mod_lt _ (by decide)) (Bt.tZ _ _);have o2:=(H1.out.1.EM (j / 8) _ ew).1;have r2:=H1.out.2.1.step q4;rw [hcx.out] at r2;have R2:=zq (show ∃ L,OB (wr.setCell ⟨w3.heap.size,j / 8,none⟩ (.int .u8 (bits .or .u8 (cx.toNat:Int) (wrap64 ((Bt.bt bs (at_ + j):Int) * 2 ^ (j % 8)) % 256)))).drew w3.heap.size (some ⟨w3.heap.size,0,none⟩) z z L/\ey z L (j + 1) at_ bs/\Below w3.heap.size w3 (wr.setCell ⟨w3.heap.size,j / 8,none⟩ (.int .u8 (bits .or .u8 (cx.toNat:Int) (wrap64 ((Bt.bt bs (at_ + j):Int) * 2 ^ (j % 8)) % 256)))).drew from ⟨_,o2.below (Below.refl _ _).drew,r2,(H1.out.2.2.setCell (p:=⟨w3.heap.size,j / 8,none⟩) lq _).drew⟩);clear o2 r2 ew H1 S0 y0 cg hc2 hf2;go_wp2_with fail
      go_roundw
      case rel=>exact ⟨j + 1,by omega,by first | rfl | rw [hw] | go_num,R2⟩
      case measure=>(try rw [hw]); simp [intOf]; omega
     ·have tj:decide ((j:Int) < (m:Int))=false:=decide_eq_false (by omega)
      obtain ⟨L,o1,r1,b1⟩:=HJ.out;have ejm:j=m:=by omega
      have eL:L=(Bt.eu bs at_ (m:Int)).data:=by
       rw [ejm,<- HZ.out] at r1;exact r1.field
      have C3:=(H3.out.2.1.later b1).aA;have EV:=ga en A1 n1 c1 wr o1.rb lq;obtain ⟨y,hy⟩:∃ y,aD.cJ en L=y:=⟨_,rfl⟩;rw [hy] at EV;unfold gO at EV;replace EV:=zq EV;rw [eL] at hy;have hok2:=hok.out;rw [hy,HL.out.2,decide_eq_true hle,Bool.true_and] at hok2;have HK:=zq2 hok2 (aa H3.out.1 b1 lq);clear o1 r1 b1 eL hy hok2 HJ;go_wp2_with fail
      refine (EV.out).mono ?_;rintro e w6 ⟨rfl,b6⟩;have d6:=zq (aa HK.out.2 b6 lq);clear b6 EV C3
      by_cases hy0:y=0
      ·have R6:Hid (dY D.l bs ws (k + 1)=true/\Below w.heap.size w w6):=zq ⟨by rw [hss.out,HK.out.1,decide_eq_true hy0,Bool.and_true]; exact HR1.out,d6.out⟩
       have e1:(y != 0)=false:=by simp [hy0]
       have e2:decide (y=0)=true:=decide_eq_true hy0;clear hy0;go_wp2_with fail
       go_roundw
       case rel=>exact ⟨k + 1,by omega,by rw [hnx.out]; first | rfl | rw [hw] | go_num,by first | rfl | rw [hw] | go_num,R6⟩
       case measure=>(try rw [hw]); simp [intOf]; omega
      ·have e1:(y != 0)=true:=by simpa using hy0
       have e2:decide (y=0)=false:=decide_eq_false hy0;have HF:=zq (hno.out (by rw [HK.out.1,e2]));clear hy0;go_wp2_with fail
       go_ret
       exact ⟨by rw [HF.out]; rfl,d6.out⟩
   ·have t8:decide ((at_:Int) + (m:Int) > 8 * (n2:Int))=true:=decide_eq_true (by omega)
    have t8':decide (8 * (n2:Int) < (at_:Int) + (m:Int))=true:=decide_eq_true (by omega);have HF:=zq (hno.out (by rw [hok.out,HL.out.2,decide_eq_false hle,Bool.false_and]));unfold gO;go_wp2_with fail
    go_ret
    exact ⟨by rw [HF.out]; rfl,H3.out.1⟩
  ·obtain rfl:k=n:=by omega
   go_wp2_with fail
   go_ret
   exact ⟨by rw [HR.out.1]; rfl,HR.out.2⟩
end
theorem E7 {x:Int} (h:kM x):nX x=true:=by
 unfold kM at h;unfold nX;simp [h.1,h.2]
def Oq (es:List aD.En) (w:World) (e:Ending) (w':World):Prop:=(∃ b:Bool,e=.returned (.bool b)/\(b=true->Plain es))/\w=w'
theorem vT {A:Option Addr} {n c B B':Nat} {es:List aD.En} (w:World) (h:qX w B B' A n c es):Calls Tryz.prog 18 #[.slice A n c] w (Oq es w):=by
 have hn:=h.lt;have hl:=h.len;have HH:=zq2 h hl;have R0:Hid (∀ j,j < 0->kM (es.getD j Dc.aI).index->(es.getD j Dc.aI).map=false):=zq fun j hj=>absurd hj (by omega)
 clear h hl;go_enter Tryz.func18,Tryz.ntmps18
 go_wp2_with fail
 go_loopw [3] (fun v wr=>∃ k:Nat,k<=n/\v=.int .i64 k/\w=wr/\Hid (∀ j,j < k->kM (es.getD j Dc.aI).index->(es.getD j Dc.aI).map=false)) (fun v _=>n - (intOf v).toNat)
 case atStart=>exact ⟨0,by omega,rfl,rfl,R0⟩
 case round =>
  obtain ⟨k,hk,rfl,rfl,HR⟩:=hrel;clear R0
  by_cases hlt:k < n
  ·have tk:decide ((k:Int) < (n:Int))=true:=decide_eq_true (by omega)
   obtain ⟨b,o,A1,n1,c1,rfl,eT,hr,hc⟩:=HH.out.1.at_ hlt;have q0:=hc 0 _ rfl;have q5:=hc 5 _ rfl;rw [Nat.add_zero] at q0;clear hc hr;have TK:=zq (pJ (es.getD k Dc.aI).index w);obtain ⟨t,ht⟩:∃ t,nX (es.getD k Dc.aI).index=t:=⟨_,rfl⟩;obtain ⟨mp,hmp⟩:∃ mp,(es.getD k Dc.aI).map=mp:=⟨_,rfl⟩;have OU:=TK.out;rw [ht] at OU;replace TK:=zq OU;have HS:=zq (fun (hz:t=false\/mp=false) (j:Nat) (hj:j < k + 1) (hx:kM (es.getD j Dc.aI).index)=>show (es.getD j Dc.aI).map=false from by
    rcases Nat.lt_or_ge j k with q | q
    ·exact HR.out j q hx
    ·obtain rfl:j=k:=by omega
     rcases hz with hz | hz
     ·rw [E7 hx,hz] at ht
      cases ht
     ·rw [hmp,hz])
   rw [hmp] at q5;generalize (es.getD k Dc.aI).index=ix at *;clear OU ht hmp;cases t
   ·have R1:=zq (HS.out (.inl rfl))
    go_wp2_with fail
    refine (TK.out).mono ?_;rintro e _ ⟨rfl,rfl⟩;go_wp2_with fail
    go_roundw
    case rel=>exact ⟨k + 1,by omega,by first | rfl | rw [hw] | go_num,by first | trivial | rfl,R1⟩
    case measure=>(try rw [hw]); simp [intOf]; omega
   ·cases mp
    ·have R1:=zq (HS.out (.inr rfl))
     go_wp2_with fail
     refine (TK.out).mono ?_;rintro e _ ⟨rfl,rfl⟩;go_wp2_with fail
     go_roundw
     case rel=>exact ⟨k + 1,by omega,by first | rfl | rw [hw] | go_num,by first | trivial | rfl,R1⟩
     case measure=>(try rw [hw]); simp [intOf]; omega
    ·go_wp2_with fail
     refine (TK.out).mono ?_;rintro e _ ⟨rfl,rfl⟩;go_wp2_with fail
     go_ret
     exact ⟨⟨false,rfl,fun h=>by cases h⟩,rfl⟩
  ·obtain rfl:k=n:=by omega
   go_wp2_with fail
   go_ret
   exact ⟨⟨true,rfl,fun _ j hj=>HR.out j (by rw [<- HH.out.2]; exact hj)⟩,rfl⟩
def Rc (kd id ix:Int) (w:World) (e:Ending) (w':World):Prop:=(∃ b:Bool,e=.returned (.bool b)/\(b=true->kd≠3/\kd≠4/\(kd=0->id≠1541)/\(kd=2->¬ kM ix)))/\Below w.heap.size w w'
theorem Cb (kd id:Int) (r:Bool) (A:Option Addr) (n c:Nat) (ix sb:Int) (A2:Option Addr) (n2 c2:Nat) (x y:Int) (w:World):Calls Tryz.prog 19 #[.agg #[.int .i64 kd,.int .i64 id,.bool r,.slice A n c,.int .i64 ix,.int .i64 sb,.slice A2 n2 c2,.int .i64 x,.int .u32 y]] w (Rc kd id ix w):=by
 have b0:=ae w (.cells #[.int .i64 kd,.int .i64 id,.bool r,.slice A n c,.int .i64 ix,.int .i64 sb,.slice A2 n2 c2,.int .i64 x,.int .u32 y] 39);have B0:=ao.new w 39 #[.int .i64 kd,.int .i64 id,.bool r,.slice A n c,.int .i64 ix,.int .i64 sb,.slice A2 n2 c2,.int .i64 x,.int .u32 y];have g0:=B0.cell 0;have g1:=B0.cell 1;have g4:=B0.cell 4;change _=some (Value.int .i64 kd) at g0;change _=some (Value.int .i64 id) at g1;change _=some (Value.int .i64 ix) at g4;have HB:=zq b0;clear b0 B0
 by_cases h2:kd=2
 ·subst h2
  have TK:=zq (pJ ix (w.alloc (.cells #[.int .i64 2,.int .i64 id,.bool r,.slice A n c,.int .i64 ix,.int .i64 sb,.slice A2 n2 c2,.int .i64 x,.int .u32 y] 39)));obtain ⟨t,ht⟩:∃ t,nX ix=t:=⟨_,rfl⟩;have OU:=TK.out;rw [ht] at OU;replace TK:=zq OU;have HT:=zq ht;clear OU ht;cases t
  ·go_enter Tryz.func19,Tryz.ntmps19
   go_wp2_with fail
   refine (TK.out).mono ?_;rintro e _ ⟨rfl,rfl⟩;go_wp2_with fail
   go_ret
   exact ⟨⟨_,rfl,fun _=>⟨by decide,by decide,fun h=>absurd h (by decide),fun _=>yA HT.out⟩⟩,HB.out⟩
  ·go_enter Tryz.func19,Tryz.ntmps19
   go_wp2_with fail
   refine (TK.out).mono ?_;rintro e _ ⟨rfl,rfl⟩;go_wp2_with fail
   go_ret
   exact ⟨⟨false,rfl,fun h=>by cases h⟩,HB.out⟩
 ·have e2:decide (kd=2)=false:=decide_eq_false h2
  have e2':(kd == 2)=false:=by simpa using h2
  have H2:=zq h2;clear h2
  by_cases h3:kd=3
  ·subst h3
   go_enter Tryz.func19,Tryz.ntmps19
   go_wp2_with fail
   go_ret
   exact ⟨⟨false,rfl,fun h=>by cases h⟩,HB.out⟩
  ·have e3:decide (kd=3)=false:=decide_eq_false h3
   have e3':(kd == 3)=false:=by simpa using h3
   have e3n:(kd != 3)=true:=by simpa using h3
   have H3:=zq h3;clear h3
   by_cases h4:kd=4
   ·subst h4
    go_enter Tryz.func19,Tryz.ntmps19
    go_wp2_with fail
    go_ret
    exact ⟨⟨false,rfl,fun h=>by cases h⟩,HB.out⟩
   ·have e4:decide (kd=4)=false:=decide_eq_false h4
    have e4':(kd == 4)=false:=by simpa using h4
    have e4n:(kd != 4)=true:=by simpa using h4
    have H4:=zq h4;clear h4
    by_cases h0:kd=0
    ·subst h0
     by_cases h5:id=1541
     ·subst h5
      go_enter Tryz.func19,Tryz.ntmps19
      go_wp2_with fail
      go_ret
      exact ⟨⟨false,rfl,fun h=>by cases h⟩,HB.out⟩
     ·have e5:decide (id=1541)=false:=decide_eq_false h5
      have e5':(id == 1541)=false:=by simpa using h5
      have e5n:(id != 1541)=true:=by simpa using h5
      have H5:=zq h5;clear h5;go_enter Tryz.func19,Tryz.ntmps19
      go_wp2_with fail
      go_ret
      exact ⟨⟨true,rfl,fun _=>⟨by decide,by decide,fun _=>H5.out,fun h=>absurd h (by decide)⟩⟩,HB.out⟩
    ·have e0:decide (kd=0)=false:=decide_eq_false h0
     have Sl:(kd == 0)=false:=by simpa using h0
     have e0n:(kd != 0)=true:=by simpa using h0
     have H0:=zq h0;clear h0;go_enter Tryz.func19,Tryz.ntmps19
     go_wp2_with fail
     go_ret
     exact ⟨⟨true,rfl,fun _=>⟨H3.out,H4.out,fun h=>absurd h H0.out,fun h=>absurd h H2.out⟩⟩,HB.out⟩
structure Kn where
 n3:Nat
 ev:DA
 bs:List UInt8
 Lg:List UInt8
def ig:Kn:=⟨0,⟨0,0,false,none,0,0,0,0,none,0,0⟩,[],[]⟩
def RY (w:World) (B:Nat) (o:Kn) (cs:List Value):Prop:=∃ (ki a1 a2:Int) (A3:Option Addr) (c3:Nat) (a4 g nn mm Lh a16:Int),cs=[.int .i64 ki,.int .i64 a1,.int .i64 a2,.slice A3 o.n3 c3,.int .u8 a4,.int .u8 g,.int .i64 nn,.int .u32 mm,.int .i64 o.ev.kind,.int .i64 o.ev.id,.bool o.ev.r,.slice o.ev.A o.ev.n o.ev.c,.int .i64 o.ev.ix,.int .i64 o.ev.sb,.slice o.ev.A2 o.ev.n2 o.ev.c2,.int .i64 Lh,.int .u32 a16]/\RB w B o.ev.A o.ev.n o.ev.c o.bs/\RB w B o.ev.A2 o.ev.n2 o.ev.c2 o.Lg
def Ay (w:World) (B B':Nat) (A:Option Addr) (n c:Nat) (os:List Kn):Prop:=RS (RY w B') w B 17 A n c os
section
variable {w w':World} {B B' n c:Nat} {A:Option Addr} {os:List Kn}
theorem Ay.len (h:Ay w B B' A n c os):os.length=n:=RS.len h (by decide)
theorem Ay.below (h:Ay w B B' A n c os) (hb:Below B w w') (hB:B'<=B):Ay w' B B' A n c os:=RS.below h hb fun _ _ k=>by
 obtain ⟨ki,a1,a2,A3,c3,a4,g,nn,mm,Lh,a16,e,h1,h2⟩:=k;exact ⟨ki,a1,a2,A3,c3,a4,g,nn,mm,Lh,a16,e,h1.below (hb.mono hB),h2.below (hb.mono hB)⟩
theorem Ay.at_ (h:Ay w B B' A n c os) {i:Nat} (hi:i < n):∃ b o,A=some ⟨b,o,none⟩/\b < B/\RY w B' (os.getD i ig) ((List.range 17).map fun j=>(w.cell? ⟨b,o + i * 17 + j,none⟩).getD undef)/\∀ j,j < 17->(w.cell? ⟨b,o + i * 17 + j,none⟩).isSome=true:=by
 have hl:=h.len;have hf:os[i]?=some (os.getD i ig):=by simp [List.getD,List.getElem?_eq_getElem (show i < os.length by omega)]
 obtain ⟨b,o,cs,rfl,hb,hr,hc⟩:=RS.at_ h (by decide) hf;have hr0:=hr;obtain ⟨ki,a1,a2,A3,c3,a4,g,nn,mm,Lh,a16,rfl,h1,h2⟩:=hr;refine ⟨b,o,rfl,hb,?_,fun j hj=>?_⟩
 ·have e:((List.range 17).map fun j=>(w.cell? ⟨b,o + i * 17 + j,none⟩).getD undef)=[.int .i64 ki,.int .i64 a1,.int .i64 a2,.slice A3 (os.getD i ig).n3 c3,.int .u8 a4,.int .u8 g,.int .i64 nn,.int .u32 mm,.int .i64 (os.getD i ig).ev.kind,.int .i64 (os.getD i ig).ev.id,.bool (os.getD i ig).ev.r,.slice (os.getD i ig).ev.A (os.getD i ig).ev.n (os.getD i ig).ev.c,.int .i64 (os.getD i ig).ev.ix,.int .i64 (os.getD i ig).ev.sb,.slice (os.getD i ig).ev.A2 (os.getD i ig).ev.n2 (os.getD i ig).ev.c2,.int .i64 Lh,.int .u32 a16]:=by
   simp only [List.range,List.range.loop,List.map];rw [hc 0 _ (by decide) rfl,hc 1 _ (by decide) rfl,hc 2 _ (by decide) rfl,hc 3 _ (by decide) rfl,hc 4 _ (by decide) rfl,hc 5 _ (by decide) rfl,hc 6 _ (by decide) rfl,hc 7 _ (by decide) rfl,hc 8 _ (by decide) rfl,hc 9 _ (by decide) rfl,hc 10 _ (by decide) rfl,hc 11 _ (by decide) rfl,hc 12 _ (by decide) rfl,hc 13 _ (by decide) rfl,hc 14 _ (by decide) rfl,hc 15 _ (by decide) rfl,hc 16 _ (by decide) rfl];rfl
  rw [e];exact hr0
 ·obtain ⟨u,hu⟩:∃ u,([.int .i64 ki,.int .i64 a1,.int .i64 a2,.slice A3 (os.getD i ig).n3 c3,.int .u8 a4,.int .u8 g,.int .i64 nn,.int .u32 mm,.int .i64 (os.getD i ig).ev.kind,.int .i64 (os.getD i ig).ev.id,.bool (os.getD i ig).ev.r,.slice (os.getD i ig).ev.A (os.getD i ig).ev.n (os.getD i ig).ev.c,.int .i64 (os.getD i ig).ev.ix,.int .i64 (os.getD i ig).ev.sb,.slice (os.getD i ig).ev.A2 (os.getD i ig).ev.n2 (os.getD i ig).ev.c2,.int .i64 Lh,.int .u32 a16]:List Value)[j]?=some u:=⟨_,List.getElem?_eq_getElem (by simpa using hj)⟩
  rw [hc j u hj hu];rfl
theorem Ay.cells (h:Ay w B B' A n c os) {i:Nat} (hi:i < n):∃ b o cs,A=some ⟨b,o,none⟩/\b < B/\RY w B' (os.getD i ig) cs/\∀ j u,j < 17->cs[j]?=some u->w.cell? ⟨b,o + i * 17 + j,none⟩=some u:=by
 have hl:=h.len;have hf:os[i]?=some (os.getD i ig):=by simp [List.getD,List.getElem?_eq_getElem (show i < os.length by omega)]
 obtain ⟨b,o,cs,rfl,hb,hr,hc⟩:=RS.at_ h (by decide) hf;exact ⟨b,o,cs,rfl,hb,hr,hc⟩
end
def GI (n:Nat) (es:List aD.En) (os:List Kn) (m:Nat) (w:World) (e:Ending) (w':World):Prop:=(∃ b:Bool,e=.returned (.bool b)/\(b=true->(n<=200/\∀ e∈es,e.name.length<=1000/\e.dflt.length<=1000)/\∀ k,k < m->k < 40->(os.getD k ig).ev.n<=100/\(os.getD k ig).ev.n2<=500))/\Below w.heap.size w w'
theorem ld {n:Nat} {es:List aD.En} {os:List Kn} {m:Nat} {w w':World} (hb:Below w.heap.size w w'):GI n es os m w (.returned (.bool false)) w':=⟨⟨false,rfl,fun h=>by cases h⟩,hb⟩
theorem xL {A A2:Option Addr} {n c B B' m c2 C C':Nat} {es:List aD.En} {os:List Kn} (w:World) (h:qX w B B' A n c es) (hnm:∀ e∈es,e.name.length<=9223372036854775807) (hB:B<=w.heap.size) (hB':B'<=B) (ho:Ay w C C' A2 m c2 os) (hC:C<=w.heap.size) (hC':C'<=C):Calls Tryz.prog 17 #[.agg #[.slice A n c,.slice A2 m c2]] w (GI n es os m w):=by
 have hm:=RS.lt ho;have b0:=ae w (.cells #[.slice A n c,.slice A2 m c2] 57);have B0:=ao.new w 57 #[.slice A n c,.slice A2 m c2];have g0:=B0.cell 0;have g1:=B0.cell 1;change _=some (Value.slice A n c) at g0;change _=some (Value.slice A2 m c2) at g1;have LI:=zq (ui (w.alloc (.cells #[.slice A n c,.slice A2 m c2] 57)) (h.below (b0.mono hB) hB') hnm);have HO:=zq (ho.below (b0.mono hC) hC');have HB:=zq b0;clear b0 B0 h ho;go_enter Tryz.func17,Tryz.ntmps17
 go_upto_region 1 with fail
 generalize w.alloc (.cells #[.slice A n c,.slice A2 m c2] 57)=w1 at *;go_wp2_with fail
 refine (LI.out).mono ?_;rintro e w2 ⟨t,rfl,rfl,ht⟩;have HT:=zq ht;clear LI ht;cases t
 ·go_wp2_with fail
  go_ret
  exact ld HB.out
 ·have HT2:=zq (HT.out rfl)
  have R0:Hid (∀ j,j < 0->(os.getD j ig).ev.n<=100/\(os.getD j ig).ev.n2<=500):=zq fun j hj=>absurd hj (by omega)
  clear HT;go_wp2_with fail
  go_loopw [3] (fun v wr=>∃ k:Nat,k<=m/\v=.int .i64 k/\w1=wr/\Hid (∀ j,j < k->(os.getD j ig).ev.n<=100/\(os.getD j ig).ev.n2<=500)) (fun v _=>m - (intOf v).toNat)
  case atStart=>exact ⟨0,by omega,rfl,rfl,R0⟩
  case round =>
   obtain ⟨k,hk,rfl,rfl,HR⟩:=hrel;clear R0
   by_cases hlt:k < m
   ·have tk:decide ((k:Int) < (m:Int))=true:=decide_eq_true (by omega)
    by_cases hq:k < 40
    ·have tq:decide ((k:Int) < 40)=true:=decide_eq_true (by omega)
     obtain ⟨b,o,cs,rfl,eT,⟨ki,a1,a2,A3,c3,a4,g,nn,mm,Lh,a16,rfl,o1,o2⟩,hc⟩:=HO.out.cells hlt;have q3:=hc 3 _ (by decide) rfl;have Th:=hc 11 _ (by decide) rfl;have Tj:=hc 14 _ (by decide) rfl;have HJ:=zq (fun (h1:(os.getD k ig).ev.n<=100) (h2:(os.getD k ig).ev.n2<=500) (j:Nat) (hj:j < k + 1)=>show (os.getD j ig).ev.n<=100/\(os.getD j ig).ev.n2<=500 from by
      rcases Nat.lt_or_ge j k with h | h
      ·exact HR.out j h
      ·obtain rfl:j=k:=by omega
       exact ⟨h1,h2⟩)
     clear hc o1 o2;generalize os.getD k ig=ok at *;obtain ⟨n3,⟨kd,id,r,A4,n4,c4,ix,sb,A5,n5,c5⟩,bs,Lg⟩:=ok;dsimp only at q3 Th Tj HJ
     by_cases h1:500 < n3
     ·have t1:decide ((n3:Int) > 500)=true:=decide_eq_true (by omega)
      go_wp2_with fail
      go_ret
      exact ld HB.out
     ·have t1:decide ((n3:Int) > 500)=false:=decide_eq_false (by omega)
      by_cases h2:100 < n4
      ·go_wp2_with fail
       go_ret
       exact ld HB.out
      ·by_cases h3:500 < n5
       ·go_wp2_with fail
        go_ret
        exact ld HB.out
       ·go_wp2_with fail
        go_roundw
        case rel=>exact ⟨k + 1,by omega,by first | rfl | rw [hw] | go_num,by first | trivial | rfl,zq (HJ.out (by omega) (by omega))⟩
        case measure=>(try rw [hw]); simp [intOf]; omega
    ·go_wp2_with fail
     go_ret
     exact ⟨⟨true,rfl,fun _=>⟨HT2.out,fun j _ hj=>HR.out j (by omega)⟩⟩,HB.out⟩
   ·obtain rfl:k=m:=by omega
    go_wp2_with fail
    go_ret
    exact ⟨⟨true,rfl,fun _=>⟨HT2.out,fun j hj _=>HR.out j hj⟩⟩,HB.out⟩
end Nn
end Go.Proofs.YtijegngfclkdaaaGreatDoor
