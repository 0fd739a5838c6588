/-
  Piece 16 of the proof.
  Conditions: none.
-/
import Derived.Test.YtijegngfclkdaaaGreatDoorQ15
set_option linter.unusedVariables false
set_option linter.unusedSimpArgs false
set_option maxHeartbeats 100000000
set_option maxRecDepth 100000
namespace Go.Proofs.YtijegngfclkdaaaGreatDoor
section
open Go.RowKit
theorem BI (n:Int) (w:World):Calls Tryz.prog 54 #[.int .i64 n] w fun e w'=>e=.returned (.bool (Rp.fj n))/\w=w':=by
 by_cases h1:0<=n/\n<=240
 ·rw [show Rp.fj n=true from decide_eq_true (.inl h1)]
  obtain ⟨h2,h3⟩:=h1;go_enter Tryz.func54,Tryz.ntmps54
  go_wp2_with fail
  go_ret
  exact ⟨rfl,rfl⟩
 ·by_cases h4:254<=n/\n<=255
  ·rw [show Rp.fj n=true from decide_eq_true (.inr h4)]
   obtain ⟨h2,h3⟩:=h4;go_enter Tryz.func54,Tryz.ntmps54
   go_wp2_with fail
   go_ret
   exact ⟨rfl,rfl⟩
  ·rw [show Rp.fj n=false from decide_eq_false (by omega)]
   rcases (show n < 0\/(0<=n/\240 < n/\n < 254)\/(255 < n) by omega) with h | ⟨h,h',h''⟩ | h
   all_goals
    go_enter Tryz.func54,Tryz.ntmps54
    go_wp2_with fail
    go_ret
    exact ⟨by first | rfl | (simp <;> omega),rfl⟩
theorem pn {F:Nat->Prop} {w:World} {g gv lc vc:Nat} {la:Addr} {vA:Option Addr} {xs vs:List Value} {D:Dc.aZ} {A:Option Addr} {n c B:Nat} {ws:List Nat} (v:Nat) (hv:v < 4294967296) (t:Int) (h:cM 131 w F g gv (some la) lc vA vc xs vs D) (hd:∀ e∈D.l,e.dflt.length<=1000000) (hw:RW w B A n c ws) (hwl:∀ x∈ws,x < 4294967296) (hB:B<=w.heap.size) :
  Calls Tryz.prog 23 #[.pointer (some ⟨g,0,none⟩),.agg #[.int .u32 (v:Int),.int .i64 t,.slice A n c]] w fun e w'=>e=.returned (.int .u32 (Rp.ar D.l v t ws))/\Below w.heap.size w w':=by
 have b0:=ae w (.cells #[.int .u32 (v:Int),.int .i64 t,.slice A n c] 65);have K:=ao.new w 65 #[.int .u32 (v:Int),.int .i64 t,.slice A n c];have F0:=K.three;have PL:=fun w=>xm v hv w
 have KD:=zq (fun w=>BI t w);have CK:=fun w1 (hb:Below w.heap.size w w1)=>kA true (h.below hb) hd (hw.below (hb.mono hB)) hwl (Nat.le_trans hB hb.size)
 have hcs:Rp.ar D.l v t ws=if aY.place v≠0 then aY.place v else if Rp.fj t=false then 101253168 else Mp.ar D.l true ws:=rfl
 rw [hcs];clear hcs h hw;generalize Mp.ar D.l true ws=r at *;generalize aY.place v=pl at *;generalize Rp.fj t=kb at *;replace PL:=zq PL; replace CK:=zq CK
 by_cases hp:pl=0
 ·subst hp
  simp only [ne_eq,not_true_eq_false,if_false];cases kb
  ·simp only [if_true]
   go_enter Tryz.func23,Tryz.ntmps23
   go_wp2_with fail
   refine (PL.out _).mono ?_;rintro e w1 ⟨rfl,b1⟩;have F1:=(K.later b1).three;clear F0;go_wp2_with fail
   refine (KD.out _).mono ?_;rintro e _ ⟨rfl,rfl⟩;go_wp2_with fail
   go_ret
   exact ⟨rfl,aa b0 b1 lq⟩
  ·simp only [Bool.true_eq_false,if_false]
   go_enter Tryz.func23,Tryz.ntmps23
   go_wp2_with fail
   refine (PL.out _).mono ?_;rintro e w1 ⟨rfl,b1⟩;have F1:=(K.later b1).three;have d1:=aa b0 b1 lq;clear F0;go_wp2_with fail
   refine (KD.out _).mono ?_;rintro e _ ⟨rfl,rfl⟩;go_wp2_with fail
   refine (CK.out _ d1).mono ?_;rintro e w2 ⟨rfl,b2⟩;go_wp2_with fail
   go_ret
   exact ⟨rfl,aa d1 b2 lq⟩
 ·simp only [ne_eq,hp,not_false_eq_true,if_true]
  have hp2:(pl == 0)=false:=by simpa using hp
  have hp3:(pl != 0)=true:=by simpa using hp
  replace hp:=zq hp;go_enter Tryz.func23,Tryz.ntmps23
  go_wp2_with fail
  refine (PL.out _).mono ?_;rintro e w1 ⟨rfl,b1⟩;go_wp2_with fail
  go_ret
  exact ⟨rfl,aa b0 b1 lq⟩
theorem nV {F:Nat->Prop} {w:World} {g gv lc vc:Nat} {la:Addr} {vA:Option Addr} {xs vs:List Value} {D:Dc.aZ} {A:Option Addr} {n c B:Nat} {ws:List Nat} (cm:Bool) (h:cM 131 w F g gv (some la) lc vA vc xs vs D) (hd:∀ e∈D.l,e.dflt.length<=1000000) (hw:RW w B A n c ws) (hwl:∀ x∈ws,x < 4294967296) (hB:B<=w.heap.size):Calls Tryz.prog 310 #[.pointer (some ⟨g,0,none⟩),.slice A n c,.bool cm] w fun e w'=>e=.returned (.int .i64 (if Mp.ar D.l cm ws≠0 then 4 else 0))/\Below w.heap.size w w':=by
 have CK:=kA cm h hd hw hwl hB;generalize Mp.ar D.l cm ws=r at *;replace CK:=zq CK
 by_cases hr:r=0
 ·subst hr
  simp only [ne_eq,not_true_eq_false,if_false];go_enter Tryz.func310,Tryz.ntmps310
  go_wp2_with fail
  refine (CK.out).mono ?_;rintro e w1 ⟨rfl,b1⟩;go_wp2_with fail
  go_ret
  exact ⟨rfl,b1⟩
 ·simp only [ne_eq,hr,not_false_eq_true,if_true]
  have hr2:(r == 0)=false:=by simpa using hr
  have hr3:(r != 0)=true:=by simpa using hr
  replace hr:=zq hr;go_enter Tryz.func310,Tryz.ntmps310
  go_wp2_with fail
  refine (CK.out).mono ?_;rintro e w1 ⟨rfl,b1⟩;go_wp2_with fail
  go_ret
  exact ⟨rfl,b1⟩
open Go.ChangeShapes Go.WideShapes Go.ChangeAt
def Ma (w:World) (B:Nat) (f:Bt.cS) (cs:List Value):Prop:=∃ A n c,cs=[.int .i64 f.bits,.slice A n c]/\RB w B A n c f.data
theorem Ma.dX {w w':World} {B:Nat} {f:Bt.cS} {cs:List Value} (hk:∀ p:Addr,p.block < B->w'.cell? p=w.cell? p) (h:Ma w B f cs):Ma w' B f cs:=by
 obtain ⟨A,n,c,h1,h2⟩:=h;exact ⟨A,n,c,h1,h2.dX hk⟩
theorem Ma.below {w w':World} {B:Nat} {f:Bt.cS} {cs:List Value} (hb:Below B w w') (h:Ma w B f cs):Ma w' B f cs:=h.dX fun _ hp=>hb.cell hp
def IX (w:World) (B B':Nat) (A:Option Addr) (n c:Nat) (fs:List Bt.cS):Prop:=RS (Ma w B') w B 2 A n c fs
section
variable {w w':World} {B B' n c:Nat} {A:Option Addr} {fs:List Bt.cS}
theorem IX.len (h:IX w B B' A n c fs):fs.length=n:=RS.len h (by decide)
theorem IX.below (h:IX w B B' A n c fs) (hb:Below B w w') (hB:B'<=B):IX w' B B' A n c fs:=RS.below h hb fun _ _ h=>h.below (hb.mono hB)
theorem IX.at_ (h:IX w B B' A n c fs) {i:Nat} (hi:i < n):∃ b o A' n' c',A=some ⟨b,o,none⟩/\b < B/\w.cell? ⟨b,o + i * 2,none⟩=some (.int .i64 (fs.getD i Bt.cS.zero).bits) /\
  w.cell? ⟨b,o + i * 2 + 1,none⟩=some (.slice A' n' c')/\RB w B' A' n' c' (fs.getD i Bt.cS.zero).data:=by
 have hl:=h.len;have hf:fs[i]?=some (fs.getD i Bt.cS.zero):=by simp [List.getD,List.getElem?_eq_getElem (show i < fs.length by omega)]
 obtain ⟨b,o,cs,rfl,hb,⟨A',n',c',rfl,hr⟩,hc⟩:=RS.at_ h (by decide) hf;exact ⟨b,o,A',n',c',rfl,hb,hc 0 _ (by decide) rfl,hc 1 _ (by decide) rfl,hr⟩
end
def RI (w:World) (B:Nat) (A:Option Addr) (n c:Nat) (ws:List Int):Prop:=RV w B 1 A n c (ws.map (Value.int .i64))
section
variable {w w':World} {B B' n c:Nat} {A:Option Addr} {ws:List Int}
theorem RI.len (h:RI w B A n c ws):ws.length=n:=by have:=RV.len h; simpa using this
theorem RI.below (h:RI w B A n c ws) (hb:Below B w w'):RI w' B A n c ws:=RV.below h hb
theorem RI.at_ (h:RI w B A n c ws) {i:Nat} (hi:i < n):∃ b o,A=some ⟨b,o,none⟩/\b < B/\w.cell? ⟨b,o + i,none⟩=some (.int .i64 (ws.getD i 0)):=by
 have hl:=h.len;obtain ⟨b,o,rfl,hb,hc⟩:=RV.at_ h (by omega);exact ⟨b,o,rfl,hb,hc i _ (by simp [List.getElem?_map,List.getD,show i < ws.length by omega])⟩
end
theorem PY:ET Tryz.prog 393 397 2 32 (.agg #[.int .i64 0,.slice none 0 0]):=⟨Tryz.underlying393,info_parts (by kernel_rfl),rfl,by decide⟩
theorem Qs:ET Tryz.prog 91 3 1 8 (.int .i64 0):=⟨Tryz.underlying91,info_parts (by kernel_rfl),rfl,by decide⟩
theorem jX (f:Int) (A:Option Addr) (m c:Nat):∀ u∈([.int .i64 f,.slice A m c]:List Value),u.oneCell'=true:=by
 intro u hu;simp only [List.mem_cons,List.not_mem_nil,or_false] at hu;rcases hu with rfl | rfl <;> rfl
def oT (w:World) (base:Nat) (f:Bt.cS) (cs:List Value):Prop:=∃ A n c,cs=[.int .i64 f.bits,.slice A n c]/\OW w base A n c f.data
theorem oT.below {w w':World} {base:Nat} {f:Bt.cS} {cs:List Value} (hb:Below w.heap.size w w') (h:oT w base f cs):oT w' base f cs:=by
 obtain ⟨A,n,c,h1,h2⟩:=h;exact ⟨A,n,c,h1,h2.below hb⟩
theorem oT.more {w:World} {base base':Nat} {f:Bt.cS} {cs:List Value} (hb:base'<=base) (h:oT w base f cs):oT w base' f cs:=by
 obtain ⟨A,n,c,h1,h2⟩:=h;exact ⟨A,n,c,h1,h2.more hb⟩
theorem oT.Zd {w:World} {base:Nat} {f:Bt.cS} {cs:List Value} (h:oT w base f cs):Ma w w.heap.size f cs:=by
 obtain ⟨A,n,c,h1,h2⟩:=h;exact ⟨A,n,c,h1,h2.rb⟩
theorem oT.beside {w w':World} {base base' e size m c':Nat} {A':Option Addr} {xs:List Value} (h':OV w base' e size A' m c' xs) (hne:e≠5) (hg:w.grownBy w' (Value.slice A' m c').ownBlock) {f:Bt.cS} {cs:List Value} (h:oT w base f cs):oT w' base f cs:=by
 obtain ⟨A,n,c,h1,h2⟩:=h;exact ⟨A,n,c,h1,h2.beside h' hne hg⟩
section
variable {H:Type} {enc:TypeId×Value->H} {w:World} {spare:Nat->Bool} {held:Bool}
theorem open_ints {r:Reach} {b0:Nat} {v:Value} {d:DataW H} {p:List MemPlace} (hv:Value.okWide Tryz.prog w r b0 91 v) (h:DataW.Trod enc Tryz.prog w 0 spare held 91 v d p) :
  ∃ (A:Option Addr) (n c:Nat) (ws:List Int),v=.slice A n c/\RI w w.heap.size A n c ws/\∀ x∈ws,(Lit.int .i64 x).wf=true:=by
 obtain ⟨A,n,c,rfl⟩:=okWide_slice Tryz.underlying91 hv;obtain ⟨fuel,hf⟩:=h;obtain ⟨ws,xs,hl,h1,h2⟩:=ml (fun (x:Int) cs=>cs=[.int .i64 x]/\(Lit.int .i64 x).wf=true) Tryz.underlying91 (show Tryz.prog.cellsOf 3=1 by kernel_rfl) (by decide) (fun _ cs _ h=>by
  have h3:cs.length=1:=(DataW.trod_int Tryz.underlying3 h).elim fun z hz=>by rw [hz.1]; rfl
  match cs,h3 with
  | [a],_ =>
   obtain ⟨i,rfl,hw⟩:=bC Tryz.underlying3 h;exact ⟨i,rfl,hw⟩) hf
 have e:xs=ws.map (Value.int .i64):=by
  apply List.ext_getElem?
  intro i;have hx:=h2.len;rw [List.getElem?_map]
  by_cases hi:i < ws.length
  ·have:=(h2.2 i _ (List.getElem?_eq_getElem hi)).1
   have e0:((xs.drop (i * 1)).take 1)[0]?=xs[i]?:=by rw [List.getElem?_take,List.getElem?_drop]; simp
   rw [this] at e0;simp [List.getElem?_eq_getElem hi,<- e0]
  ·rw [List.getElem?_eq_none (by omega),List.getElem?_eq_none (by omega)]; rfl
 subst e;refine ⟨A,n,c,ws,rfl,h1,fun x hm=>?_⟩;obtain ⟨i,hi,rfl⟩:=List.getElem_of_mem hm;exact (h2.2 i _ (List.getElem?_eq_getElem hi)).2
end
end
section
open Go.RowKit
theorem rF {a b:Bool} (h:a=b):Ending.returned (.bool a)=.returned (.bool b):=by rw [h]
theorem vB {A:Option Addr} {n c:Nat} (p m:Int) (w:World) (hn:n<=1000000) :
  Calls Tryz.prog 376 #[.slice A n c,.int .i64 p,.int .i64 m] w fun e w'=>e=.returned (.int .i64 (Bt.fA n p m))/\w=w':=by
 unfold Bt.fA
 by_cases h:m < 1\/64 < m\/p < 0
 ·rw [if_pos h]
  rcases (show m < 1\/(1<=m/\64 < m)\/(1<=m/\m<=64/\p < 0) by omega) with h | ⟨h1,h2⟩ | ⟨h1,h2,h3⟩
  all_goals
   go_enter Tryz.func376,Tryz.ntmps376
   go_wp2_with fail
   go_ret
   exact ⟨rfl,rfl⟩
 ·rw [if_neg h]
  have h1:1<=m:=by omega
  have h2:m<=64:=by omega
  have h3:0<=p:=by omega
  clear h
  by_cases h:8 * (n:Int) < p
  ·rw [if_pos (.inl h)]
   go_enter Tryz.func376,Tryz.ntmps376
   go_wp2_with fail
   go_ret
   exact ⟨rfl,rfl⟩
  ·by_cases h':8 * (n:Int) - p < m
   ·rw [if_pos (.inr h')]
    go_enter Tryz.func376,Tryz.ntmps376
    go_wp2_with fail
    go_ret
    exact ⟨rfl,rfl⟩
   ·rw [if_neg (by omega)]
    go_enter Tryz.func376,Tryz.ntmps376
    go_wp2_with fail
    go_ret
    exact ⟨rfl,rfl⟩
theorem l0 (m:Int) (w:World) (hm:m<=9223372036854775807):Calls Tryz.prog 351 #[.int .i64 m] w fun e w'=>e=.returned (.int .i64 (Bt.ba m))/\w=w':=by
 unfold Bt.ba
 by_cases h:m < 1
 ·rw [if_pos h]
  go_enter Tryz.func351,Tryz.ntmps351
  go_wp2_with fail
  go_ret
  exact ⟨rfl,rfl⟩
 ·rw [if_neg h]
  go_enter Tryz.func351,Tryz.ntmps351
  go_wp2_with fail
  go_ret
  exact ⟨rfl,rfl⟩
theorem tJ (v:Nat) (m:Int) (w:World) (h1:1<=m) (h2:m<=64) :
  Calls Tryz.prog 377 #[.int .u64 (v:Int),.int .i64 m] w fun e w'=>e=.returned (.bool (Bt.jQ v m))/\w=w':=by
 unfold Bt.jQ
 by_cases h:m < 64
 ·obtain ⟨k,rfl⟩:∃ k:Nat,m=(k:Int):=⟨m.toNat,by omega⟩
  go_enter Tryz.func377,Tryz.ntmps377
  go_wp2_with fail
  go_ret
  refine ⟨rF ?_,rfl⟩;have e:(v:Int) / 2 ^ k=((v / 2 ^ k:Nat):Int):=by simp
  simp only [e,h,decide_true,Bool.true_and,Int.toNat_natCast];rw [Bool.eq_iff_iff];simp only [bne_iff_ne,ne_eq];omega
 ·go_enter Tryz.func377,Tryz.ntmps377
  go_wp2_with fail
  go_ret
  exact ⟨rF (by rw [show decide (m < 64)=false by simpa using h]; rfl),rfl⟩
theorem NZ (x y j k:Nat) (hx:x < 2 ^ 8) (hy:y < 2 ^ k) (hk:k < 64) :
  bits .or .u64 (y:Int) (IntKind.u64.wrap (IntKind.u64.wrap (bits .and .u8 ((x:Int) / 2 ^ j) 1) * 2 ^ k))=((y + x / 2 ^ j % 2 * 2 ^ k:Nat):Int):=by
 have e1:(x:Int) / 2 ^ j=((x / 2 ^ j:Nat):Int):=by simp
 have hle:x / 2 ^ j<=x:=Nat.div_le_self _ _;have e2:bits .and .u8 ((x:Int) / 2 ^ j) 1=((x / 2 ^ j % 2:Nat):Int):=by
  rw [e1];have:=u8_and_nat (x / 2 ^ j) 1 (by omega) (by omega);rw [Nat.and_one_is_mod] at this;exact this
 have hb:x / 2 ^ j % 2 < 2:=Nat.mod_lt _ (by decide);rw [e2];generalize x / 2 ^ j % 2=z at *;have hpk:2 ^ k<=2 ^ 63:=Nat.pow_le_pow_right (by decide) (by omega);have hzk:z * 2 ^ k<=1 * 2 ^ k:=Nat.mul_le_mul_right _ (by omega);have e3:IntKind.u64.wrap (IntKind.u64.wrap ((z:Nat):Int) * 2 ^ k)=((z * 2 ^ k:Nat):Int):=by
  rw [IntKind.wrap_u64,IntKind.wrap_u64,Int.emod_eq_of_lt (a:=(z:Int)) (by omega) (by omega),show (z:Int) * 2 ^ k=((z * 2 ^ k:Nat):Int) by simp];omega
 rw [e3,u64_or_nat _ _ (by omega) (by omega)]
 congr 1
 rw [Nat.or_comm,Nat.mul_comm z,<- Nat.two_pow_add_eq_or_of_lt hy];omega
theorem KT {A:Option Addr} {n c B:Nat} {l:List UInt8} (p m:Nat) (w:World) (hb:RB w B A n c l) (hn:n<=1000000) (h1:1<=m) (h2:m<=64) (h3:p + m<=8 * n) :
  Calls Tryz.prog 350 #[.slice A n c,.int .i64 (p:Int),.int .i64 (m:Int)] w fun e w'=>e=.returned (.tuple #[.int .u64 (Bt.gy l p m:Int),.int .i64 0])/\w=w':=by
 have C:=vB (A:=A) (c:=c) (p:Int) (m:Int) w hn;rw [show Bt.fA n p m=0 by unfold Bt.fA; rw [if_neg (by omega),if_neg (by omega)]] at C;replace C:=zq C;go_enter Tryz.func350,Tryz.ntmps350
 go_wp2_with fail
 refine (C.out).mono ?_;rintro e _ ⟨rfl,rfl⟩;go_wp2_with fail
 go_loopw [9,20] (fun v u wr=>∃ k:Nat,k<=m/\u=.int .i64 k/\v=.int .u64 (Bt.gy l p k:Int)/\w=wr) (fun _ u _=>m - (intOf u).toNat)
 case atStart=>exact ⟨0,by omega,rfl,rfl,rfl⟩
 case round =>
  obtain ⟨k,hk,rfl,rfl,rfl⟩:=hrel
  by_cases hlt:k < m
  ·obtain ⟨b,o,rfl,eT,hc⟩:=hb.at_ (show 0 < n by omega)
   have hcell:=hc ((p + k) / 8) (by omega);have hx:=(l.getD ((p + k) / 8) 0).toNat_lt;have hbt:Bt.bt l (p + k)=(l.getD ((p + k) / 8) 0).toNat / 2 ^ ((p + k) % 8) % 2:=rfl;have hlo:=Bt.kT l p k;have hnx:Bt.gy l p (k + 1)=Bt.gy l p k + Bt.bt l (p + k) * 2 ^ k:=rfl;generalize (l.getD ((p + k) / 8) 0).toNat=x at *;generalize Bt.gy l p k=y at *;have HB:=zq hbt; have HN:=zq hnx; have HL:=zq hlo; clear hbt hnx hlo hc;go_wp2_with fail
   go_roundw
   case rel =>
    refine ⟨k + 1,by omega,by go_num,?_,by trivial⟩;rw [HN.out,HB.out];exact congrArg _ (NZ x y ((p + k) % 8) k hx HL.out (by omega))
   case measure=>simp [intOf] <;> omega
  ·obtain rfl:k=m:=by omega
   go_wp2_with fail
   go_ret2
   exact ⟨rfl,rfl⟩
theorem J3 (l:List UInt8):Oct.cut l 0 l.length=l:=by simp [Oct.cut]
theorem qI {A:Option Addr} {n c B:Nat} {l:List UInt8} (m:Int) (w:World) (hb:RB w B A n c l) (hn:n<=1000000) (hB:B<=w.heap.size) (hm:m<=9223372036854775807) :
  Calls Tryz.prog 354 #[.agg #[.int .i64 m,.slice A n c]] w fun e w'=>e=.returned (.tuple #[.int .u64 ((Bt.cJ ⟨m,l⟩).1:Int),.bool (Bt.cJ ⟨m,l⟩).2])/\Below w.heap.size w w':=by
 have hl:=hb.len;have C:=zq (fun w=>l0 m w hm);have b1:=ae w (.cells #[.int .i64 m,.slice A n c] 397);have F:=(ao.new w 397 #[.int .i64 m,.slice A n c]).two
 by_cases hf:1<=m/\m<=64/\(n:Int)=Bt.ba m
 ·obtain ⟨h1,h2,h3⟩:=hf
  have hp:=Bt.oW h1 h2;have hv:Bt.cJ ⟨m,l⟩=(Oct.le l,!Bt.jQ (Oct.le l) m):=by
   unfold Bt.cJ Bt.fits;rw [if_pos (decide_eq_true ⟨h1,h2,by dsimp only; rw [hl,h3]⟩)]
  have C2:=Hx n 0 _ (hb.below (b1.mono hB)) (by omega) (by omega) (by omega);have e1:Oct.cut l 0 n=l:=by rw [<- hl,J3]
  rw [e1,show ((0:Nat):Int)=0 from rfl] at C2;have C3:=fun w=>tJ (Oct.le l) m w h1 h2
  rw [hv];generalize Oct.le l=v at *;generalize Bt.jQ v m=x at *;replace C2:=zq C2;replace C3:=zq C3;rw [<- h3] at C;have hn1:1<=n:=by omega
  have hn2:n<=8:=by omega
  clear hv hl hb e1 hp h3;go_enter Tryz.func354,Tryz.ntmps354
  go_wp2_with fail
  refine (C.out _).mono ?_;rintro e _ ⟨rfl,rfl⟩;go_wp2_with fail
  refine (C2.out).mono ?_;rintro e _ ⟨rfl,rfl⟩;go_wp2_with fail
  refine (C3.out _).mono ?_;rintro e _ ⟨rfl,rfl⟩;go_wp2_with fail
  go_ret2
  exact ⟨rfl,b1⟩
 ·have hv:Bt.cJ ⟨m,l⟩=(0,false):=by
   unfold Bt.cJ Bt.fits;rw [if_neg (by rw [decide_eq_true_iff]; dsimp only; rw [hl]; exact hf)]
  rw [hv];clear hv;rcases (show m < 1\/(1<=m/\64 < m)\/(1<=m/\m<=64/\¬ (n:Int)=Bt.ba m) by omega) with h | ⟨h1,h2⟩ | ⟨h1,h2,h3⟩
  all_goals
   try have h4:((n:Int) != Bt.ba m)=true:=by rw [bne_iff_ne]; exact h3
   clear hf hl hb;generalize Bt.ba m=z at *
   try clear h3
   go_enter Tryz.func354,Tryz.ntmps354
   go_wp2_with fail
   refine (C.out _).mono ?_;rintro e _ ⟨rfl,rfl⟩;go_wp2_with fail
   go_ret2
   exact ⟨rfl,b1⟩
theorem B_ {A:Option Addr} {n c B:Nat} {l:List UInt8} (m:Int) (w:World) (hb:RB w B A n c l) (hn:n<=1000000) (hB:B<=w.heap.size) (hm:m<=9223372036854775807) :
  Calls Tryz.prog 353 #[.agg #[.int .i64 m,.slice A n c]] w fun e w'=>e=.returned (.tuple #[.int .i64 m,.bool (Bt.okF ⟨m,l⟩)])/\Below w.heap.size w w':=by
 have b1:=ae w (.cells #[.int .i64 m,.slice A n c] 397);have F:=(ao.new w 397 #[.int .i64 m,.slice A n c]).two;have C:=qI m _ (hb.below (b1.mono hB)) hn (Nat.le_trans hB b1.size) hm;unfold Bt.okF;generalize (Bt.cJ ⟨m,l⟩).1=v at *;generalize (Bt.cJ ⟨m,l⟩).2=x at *;replace C:=zq C;clear hb;go_enter Tryz.func353,Tryz.ntmps353
 go_wp2_with fail
 refine (C.out).mono ?_;rintro e w1 ⟨rfl,b2⟩;have K:=ao.made b2;have F2:=K.two;clear F;go_wp2_with fail
 go_ret2
 exact ⟨rfl,aa b1 b2 lq⟩
theorem uw (m:Int) (w:World):Calls Tryz.prog 349 #[.int .i64 m] w fun e w'=>e=.returned (.tuple #[.int .i64 m,.bool (Bt.okW m)])/\w=w':=by
 by_cases h1:1<=m
 ·by_cases h2:m<=64
  ·rw [show Bt.okW m=true from Bt.iE.2 ⟨h1,h2⟩]
   go_enter Tryz.func349,Tryz.ntmps349
   go_wp2_with fail
   go_ret2
   exact ⟨rfl,rfl⟩
  ·rw [show Bt.okW m=false by unfold Bt.okW; exact decide_eq_false (by omega)]
   go_enter Tryz.func349,Tryz.ntmps349
   go_wp2_with fail
   go_ret2
   exact ⟨rfl,rfl⟩
 ·rw [show Bt.okW m=false by unfold Bt.okW; exact decide_eq_false (by omega)]
  go_enter Tryz.func349,Tryz.ntmps349
  go_wp2_with fail
  go_ret2
  exact ⟨rfl,rfl⟩
theorem zM {ws:List Int} {ok:List Bool} {i:Nat} (hi:i < ok.length) (h:ok.getD i false=false):Bt.dL ws ok=(0,1):=by
 unfold Bt.dL;rw [Bt.Jh hi h];rfl
theorem KJ {ws:List Int} {ok:List Bool} (h:∀ i,i < ok.length->ok.getD i false=true) (hs:64 < Bt.cH ws ws.length):Bt.dL ws ok=(0,3):=by
 unfold Bt.dL;rw [Bt.vU h,if_pos rfl,if_pos hs]
theorem NQ {ws:List Int} {ok:List Bool} (h:∀ i,i < ok.length->ok.getD i false=true) (hs:Bt.cH ws ws.length<=64):Bt.dL ws ok=(Bt.cH ws ws.length,0):=by
 unfold Bt.dL;rw [Bt.vU h,if_pos rfl,if_neg (by omega)]
def yP (p:Int×Int) (w:World) (e:Ending) (w':World):Prop:=e=.returned (.tuple #[.int .i64 p.1,.int .i64 p.2])/\Below w.heap.size w w'
theorem wP {p:Int×Int} {w w':World} {a b:Int} (h:p=(a,b)) (hb:Below w.heap.size w w'):yP p w (.returned (.tuple #[.int .i64 a,.int .i64 b])) w':=by
 subst h; exact ⟨rfl,hb⟩
structure gQ (ws:List Int) (ok:List Bool) (k:Nat) (s:Int):Prop where
 lo:0<=s
 hi:s<=65
 sum:s<=64->s=Bt.cH ws k
 big:s=65->65<=Bt.cH ws k
 all:∀ i,i < k->ok.getD i false=true
theorem qo (ws:List Int) (ok:List Bool):gQ ws ok 0 0:=⟨by omega,by omega,fun _=>rfl,fun h=>by omega,fun _ h=>absurd h (by omega)⟩
theorem gQ.next {ws:List Int} {ok:List Bool} {k:Nat} {s x:Int} (h:gQ ws ok k s) (h1:1<=x) (hx:ws.getD k 0=x) (ho:ok.getD k false=true) (s':Int) (hs:(s + x<=64/\s'=s + x)\/(65<=s + x/\s'=65)):gQ ws ok (k + 1) s':=by
 have a:=h.lo;have b:=h.hi;refine ⟨by omega,by omega,fun h64=>?_,fun Ps=>?_,fun i hi=>?_⟩
 ·have:=h.sum (by omega)
  rw [Bt.cH,hx];omega
 ·rw [Bt.cH,hx]
  by_cases e:s=65
  ·have:=h.big e
   omega
  ·have:=h.sum (by omega)
   omega
 ·rcases Nat.lt_or_ge i k with hi' | hi'
  ·exact h.all i hi'
  ·obtain rfl:i=k:=by omega
   exact ho
theorem gQ.Mb {ws:List Int} {ok:List Bool} {k:Nat} (h:gQ ws ok k 65) (hw:ws.length=k) (ho:ok.length=k):Bt.dL ws ok=(0,3) :=
 KJ (fun i hi=>h.all i (by omega)) (by rw [hw]; have:=h.big rfl; omega)
theorem gQ.kR {ws:List Int} {ok:List Bool} {k:Nat} {s:Int} (h:gQ ws ok k s) (hw:ws.length=k) (ho:ok.length=k) (hs:s<=64):Bt.dL ws ok=(s,0):=by
 have e:=h.sum hs;rw [NQ (fun i hi=>h.all i (by omega)) (by rw [hw]; omega),hw,<- e]
theorem CE {A:Option Addr} {n c B B':Nat} {fs:List Bt.cS} (w:World) (h:IX w B B' A n c fs) (hn:n<=1000000) (hB:B<=w.heap.size) (hB':B'<=B) (hsm:∀ f∈fs,f.data.length<=1000000) (hm:∀ f∈fs,f.bits<=9223372036854775807) :
  Calls Tryz.prog 352 #[.func (.func 353) #[] #[],.slice A n c] w (yP (Bt.dL (Bt.bitsOf fs) (fs.map Bt.okF)) w):=by
 have hl:=h.len;go_enter Tryz.func352,Tryz.ntmps352
 go_wp2_with fail
 go_loopw [6,13] (fun v u wr=>∃ (k:Nat) (s:Int),k<=n/\u=.int .i64 k/\v=.int .i64 s/\gQ (Bt.bitsOf fs) (fs.map Bt.okF) k s/\Below w.heap.size w wr) (fun _ u _=>n - (intOf u).toNat)
 case atStart=>exact ⟨0,0,by omega,rfl,rfl,qo _ _,Below.refl _ _⟩
 case round =>
  obtain ⟨k,s,hk,rfl,rfl,hrel,hbel⟩:=hrel;have hs1:=hrel.lo;have hs2:=hrel.hi;have yp:=zq hrel; clear hrel
  by_cases hlt:k < n
  ·obtain ⟨b,o,A1,n1,c1,rfl,eT,q0,q1,hr⟩:=(h.below (hbel.mono hB) hB').at_ hlt
   have hmem:fs.getD k Bt.cS.zero∈fs:=by
    have:k < fs.length:=by omega
    rw [show fs.getD k Bt.cS.zero=fs[k] by simp [List.getD,this]];exact List.getElem_mem this
   have hd:=hsm _ hmem;have hb:=hm _ hmem;have hok:=Bt.pb fs k;have hbi:=Bt.jh fs k;generalize fs.getD k Bt.cS.zero=f at *;obtain ⟨m,l⟩:=f;dsimp only at *;obtain rfl:l.length=n1:=hr.len;have b1:=ae wr (.cells #[.int .i64 m,.slice A1 l.length c1] 397);have F:=(ao.new wr 397 #[.int .i64 m,.slice A1 l.length c1]).two;have hz:=hbel.size;have C:=B_ m _ (hr.below (b1.mono (Nat.le_trans hB' (Nat.le_trans hB hz)))) hd (Nat.le_trans hB' (Nat.le_trans hB (Nat.le_trans hz b1.size))) hb;have IE:=fun h=>Bt.je (f:=⟨m,l⟩) h
   generalize Bt.okF ⟨m,l⟩=x at *;replace C:=zq C;have Mm:=zq hok; have Zt:=zq hbi;clear hok hbi hr hmem;cases x with
   | false =>
    clear IE;go_wp2_with fail
    refine (C.out).mono ?_;rintro e w1 ⟨rfl,b2⟩;go_wp2_with fail
    go_ret2
    exact wP (zM (i:=k) (by rw [List.length_map]; omega) Mm.out) (aa hbel (aa b1 b2 lq) lq)
   | true =>
    obtain ⟨g1,g2,_⟩:=IE rfl;dsimp only at g1 g2;clear IE;go_wp2_with fail
    refine (C.out).mono ?_;rintro e w1 ⟨rfl,b2⟩;go_wp2_with fail
    go_roundw
    case rel =>
     refine ⟨k + 1,_,by omega,by go_num,rfl,yp.out.next g1 Zt.out Mm.out _ ?_,aa hbel (aa b1 b2 lq) lq⟩;split <;> omega
    case measure=>simp [intOf] <;> omega
  ·obtain rfl:k=n:=by omega
   by_cases Ps:s=65
   ·subst Ps
    go_wp2_with fail
    go_ret2
    exact wP (yp.out.Mb (by simpa [Bt.bitsOf] using hl) (by simpa using hl)) hbel
   ·have h64:s<=64:=by omega
    clear Ps;go_wp2_with fail
    go_ret2
    exact wP (yp.out.kR (by simpa [Bt.bitsOf] using hl) (by simpa using hl) h64) hbel
theorem xA {A:Option Addr} {n c B:Nat} {ws:List Int} (w:World) (h:RI w B A n c ws) (hn:n<=1000000) (hm:∀ x∈ws,x<=9223372036854775807) :
  Calls Tryz.prog 348 #[.func (.func 349) #[] #[],.slice A n c] w fun e w'=>e=.returned (.tuple #[.int .i64 (Bt.dL ws (ws.map Bt.okW)).1,.int .i64 (Bt.dL ws (ws.map Bt.okW)).2])/\w=w':=by
 have hl:=h.len;generalize hres:Bt.dL ws (ws.map Bt.okW)=res;have Dm:=zq hres; clear hres;go_enter Tryz.func348,Tryz.ntmps348
 go_wp2_with fail
 go_loopw [6,13] (fun v u wr=>∃ (k:Nat) (s:Int),k<=n/\u=.int .i64 k/\v=.int .i64 s/\gQ ws (ws.map Bt.okW) k s/\w=wr) (fun _ u _=>n - (intOf u).toNat)
 case atStart=>exact ⟨0,0,by omega,rfl,rfl,qo _ _,rfl⟩
 case round =>
  obtain ⟨k,s,hk,rfl,rfl,hrel,rfl⟩:=hrel;have hs1:=hrel.lo;have hs2:=hrel.hi;have yp:=zq hrel; clear hrel
  by_cases hlt:k < n
  ·obtain ⟨b,o,rfl,eT,q0⟩:=h.at_ hlt
   have hmem:ws.getD k 0∈ws:=by
    have:k < ws.length:=by omega
    rw [show ws.getD k 0=ws[k] by simp [List.getD,this]];exact List.getElem_mem this
   have hb:=hm _ hmem;have hok:=Bt.pG ws k;generalize hx:ws.getD k 0=m at *;have HX:=zq hx;have C:=uw m w;have IE:=fun h=>(Bt.iE (w:=m)).1 h
   generalize Bt.okW m=x at *;replace C:=zq C;have Mm:=zq hok;clear hok hx hmem;cases x with
   | false =>
    clear IE;go_wp2_with fail
    refine (C.out).mono ?_;rintro e _ ⟨rfl,rfl⟩;go_wp2_with fail
    go_ret2
    exact ⟨by rw [<- Dm.out,zM (i:=k) (by rw [List.length_map]; omega) Mm.out]; rfl,rfl⟩
   | true =>
    obtain ⟨g1,g2⟩:=IE rfl;clear IE;go_wp2_with fail
    refine (C.out).mono ?_;rintro e _ ⟨rfl,rfl⟩;go_wp2_with fail
    go_roundw
    case rel =>
     refine ⟨k + 1,_,by omega,by go_num,rfl,yp.out.next g1 HX.out Mm.out _ ?_,by trivial⟩;split <;> omega
    case measure=>simp [intOf] <;> omega
  ·obtain rfl:k=n:=by omega
   by_cases Ps:s=65
   ·subst Ps
    go_wp2_with fail
    go_ret2
    exact ⟨by rw [<- Dm.out,yp.out.Mb hl (by simpa using hl)]; rfl,rfl⟩
   ·have h64:s<=64:=by omega
    clear Ps;go_wp2_with fail
    go_ret2
    exact ⟨by rw [<- Dm.out,yp.out.kR hl (by simpa using hl) h64]; rfl,rfl⟩
theorem Hd (v k:Nat) (hv:v < 18446744073709551616):(bits .and .u64 ((v:Int) / 2 ^ k) 1 == 1)=v.testBit k:=by
 have e1:(v:Int) / 2 ^ k=((v / 2 ^ k:Nat):Int):=by simp
 have hle:v / 2 ^ k<=v:=Nat.div_le_self _ _;have e2:bits .and .u64 ((v:Int) / 2 ^ k) 1=((v / 2 ^ k % 2:Nat):Int):=by
  rw [e1];have:=u64_and_nat (v / 2 ^ k) 1 (by omega) (by omega);rw [Nat.and_one_is_mod] at this;exact this
 rw [e2,Nat.testBit_eq_decide_div_mod_eq];rw [Bool.eq_iff_iff];simp only [beq_iff_eq,decide_eq_true_eq];omega
theorem uK {j:Nat} (hj:j < 8):(2:Int) ^ j % 256=((2 ^ j:Nat):Int)/\2 ^ j < 256:=by
 have h:2 ^ j<=2 ^ 7:=Nat.pow_le_pow_right (by decide) (by omega);have e:(2:Int) ^ j=((2 ^ j:Nat):Int):=by simp
 rw [e];generalize 2 ^ j=q at *;omega
theorem yB (c:UInt8) (j:Nat) (hj:j < 8):bits .or .u8 (c.toNat:Int) ((2:Int) ^ j % 256)=((Bt.sb c j true).toNat:Int):=by
 obtain ⟨e,hlt⟩:=uK hj;have hc:=c.toNat_lt;have ho:c.toNat ||| 2 ^ j < 2 ^ 8:=Nat.or_lt_two_pow hc hlt;rw [e,u8_or_nat _ _ (by omega) hlt,Bt.sb,if_pos rfl,UInt8.toNat_ofNat',Nat.mod_eq_of_lt ho]
theorem uq (c:UInt8) (j:Nat) (hj:j < 8):bits .andNot .u8 (c.toNat:Int) ((2:Int) ^ j % 256)=((Bt.sb c j false).toNat:Int):=by
 obtain ⟨e,hlt⟩:=uK hj;have hc:=c.toNat_lt;have ho:c.toNat &&& (255 - 2 ^ j) < 2 ^ 8:=Nat.lt_of_le_of_lt Nat.and_le_left hc;rw [e,u8_andNot_nat _ _ (by omega) hlt,Bt.sb,if_neg (by decide),UInt8.toNat_ofNat',Nat.mod_eq_of_lt ho]
theorem Jj {A:Option Addr} {n c B:Nat} {l:List UInt8} (p m v:Nat) (w:World) (hb:RB w B A n c l) (hn:n<=1000000) (hB:B<=w.heap.size) (hv:v < 18446744073709551616) (h1:1<=m) (h2:m<=64) (h3:p + m<=8 * n) (hw:Bt.jQ v m=false) :
  Calls Tryz.prog 355 #[.slice A n c,.int .i64 (p:Int),.int .i64 (m:Int),.int .u64 (v:Int)] w fun e w'=>∃ A1 c1,e=.returned (.tuple #[.slice A1 n c1,.int .i64 0])/\OB w' w.heap.size A1 n c1 (Bt.cI l p v m)/\Below w.heap.size w w':=by
 have C:=vB (A:=A) (c:=c) (p:Int) (m:Int) w hn;rw [show Bt.fA n p m=0 by unfold Bt.fA; rw [if_neg (by omega),if_neg (by omega)]] at C;replace C:=zq C;have C2:=tJ v (m:Int) w (by omega) (by omega);rw [hw] at C2;replace C2:=zq C2;clear hw;go_enter Tryz.func355,Tryz.ntmps355
 go_wp2_with fail
 refine (C.out).mono ?_;rintro e _ ⟨rfl,rfl⟩;go_wp2_with fail
 refine (C2.out).mono ?_;rintro e _ ⟨rfl,rfl⟩;go_wp2_with (at_builtin; refine bU od rfl (.const (.slice none 0 0)) (.tmp 31) rfl rfl rfl w.heap.size hb (by omega) lq ?_; intro A1 c1 w1 o1 b1)
 go_loopw [34] (fun u wr=>∃ k:Nat,k<=m/\u=.int .i64 k/\OB wr w.heap.size A1 n c1 (Bt.cI l p v k)/\Below w.heap.size w wr) (fun u _=>m - (intOf u).toNat)
 case atStart=>exact ⟨0,by omega,rfl,o1,b1⟩
 case round =>
  clear o1 b1;obtain ⟨k,hk,rfl,ob,bb⟩:=hrel
  by_cases hlt:k < m
  ·obtain ⟨g,rfl,hg1,hg2⟩:=OV.head (e:=5) (size:=1) ob (show 0 < n by omega)
   have hcell:=ob.cell (i:=(p + k) / 8) (by omega);have hfree:=ob.free ((p + k) / 8);have hx:=((Bt.cI l p v k).getD ((p + k) / 8) 0).toNat_lt;have ht:=Hd v k hv;have hnx:Bt.cI l p v (k + 1)=Bt.BP (Bt.cI l p v k) (p + k) (v.testBit k):=rfl;generalize Bt.cI l p v k=l' at *;cases hbit:v.testBit k with
   | true =>
    rw [hbit] at ht hnx;have HN:=zq hnx; clear hnx hbit;generalize So:(l'.getD ((p + k) / 8) 0).toNat=x at *;have HX:=zq So; clear So;go_wp2_with fail
    go_roundw
    case rel =>
     refine ⟨k + 1,by omega,by go_num,?_,bb.setCell (p:=⟨g,(p + k) / 8,none⟩) hg1 _⟩;rw [HN.out,<- HX.out];exact (ob.EM _ _ (yB _ _ (by omega))).1
    case measure=>simp [intOf] <;> omega
   | false =>
    rw [hbit] at ht hnx;have HN:=zq hnx; clear hnx hbit;generalize So:(l'.getD ((p + k) / 8) 0).toNat=x at *;have HX:=zq So; clear So;go_wp2_with fail
    go_roundw
    case rel =>
     refine ⟨k + 1,by omega,by go_num,?_,bb.setCell (p:=⟨g,(p + k) / 8,none⟩) hg1 _⟩;rw [HN.out,<- HX.out];exact (ob.EM _ _ (uq _ _ (by omega))).1
    case measure=>simp [intOf] <;> omega
  ·obtain rfl:k=m:=by omega
   go_wp2_with fail
   go_ret2
   exact ⟨A1,c1,rfl,ob,bb⟩
theorem nI {ws:List Int} {ok:List Bool} {z:Int} (h:Bt.dL ws ok=(z,0)):(∀ i,i < ok.length->ok.getD i false=true)/\z=Bt.cH ws ws.length/\z<=64:=by
 unfold Bt.dL at h;split at h
 ·rename_i h1
  split at h
  ·simp at h
  ·rename_i h2
   simp only [Prod.mk.injEq,and_true] at h;exact ⟨fun i hi=>Bt.zt h1 hi,h.symm,by omega⟩
 ·simp at h
theorem qH {fs:List Bt.cS} {z:Int} (h:Bt.dL (Bt.bitsOf fs) (fs.map Bt.okF)=(z,0)) {k:Nat} (hk:k < fs.length) :
  Bt.okF (fs.getD k Bt.cS.zero)=true/\0<=Bt.cH (Bt.bitsOf fs) k/\Bt.cH (Bt.bitsOf fs) k + (fs.getD k Bt.cS.zero).bits=Bt.cH (Bt.bitsOf fs) (k + 1)/\Bt.cH (Bt.bitsOf fs) (k + 1)<=z:=by
 obtain ⟨h1,h2,h3⟩:=nI h;have hw:∀ i,i < (Bt.bitsOf fs).length->Bt.okW ((Bt.bitsOf fs).getD i 0)=true:=fun i hi=>by
  have hi':i < fs.length:=by simpa [Bt.bitsOf] using hi
  have:=h1 i (by simpa using hi');rw [Bt.pb] at this;rw [Bt.jh];have:=Bt.je this;exact Bt.iE.2 ⟨this.1,this.2.1⟩
 have hl:(Bt.bitsOf fs).length=fs.length:=by simp [Bt.bitsOf]
 refine ⟨by have:=h1 k (by simpa using hk); rwa [Bt.pb] at this,by have:=Bt.lX hw k (by omega); omega,by rw [Bt.cH,Bt.jh],?_⟩;have:=Bt.rY hw (k + 1) (fs.length - (k + 1)) (by omega);rw [show k + 1 + (fs.length - (k + 1))=fs.length by omega] at this;rw [h2,hl];omega
theorem It {fs:List Bt.cS} {k:Nat} (hk:k < fs.length):fs.getD k Bt.cS.zero∈fs:=by
 rw [show fs.getD k Bt.cS.zero=fs[k] by simp [List.getD,hk]];exact List.getElem_mem hk
def hZ (p:List UInt8×Int) (w:World) (e:Ending) (w':World):Prop:=∃ A1 c1,e=.returned (.tuple #[.slice A1 p.1.length c1,.int .i64 p.2])/\OB w' w.heap.size A1 p.1.length c1 p.1/\Below w.heap.size w w'
theorem uD {p:List UInt8×Int} {w w':World} {x:Int} (h:p=([],x)) (hb:Below w.heap.size w w'):hZ p w (.returned (.tuple #[.slice none 0 0,.int .i64 x])) w':=by
 subst h;exact ⟨none,0,rfl,OB.none_ _ _,hb⟩
theorem Db {p:List UInt8×Int} {w w':World} {A:Option Addr} {n c:Nat} {l:List UInt8} (h:p=(l,0)) (hn:l.length=n) (ho:OB w' w.heap.size A n c l) (hb:Below w.heap.size w w'):hZ p w (.returned (.tuple #[.slice A n c,.int .i64 0])) w':=by
 subst h hn;exact ⟨A,c,rfl,ho,hb⟩
theorem zV {fs:List Bt.cS} {z x:Int} (h:Bt.dL (Bt.bitsOf fs) (fs.map Bt.okF)=(z,x)) (hx:x≠0):Bt.mK fs=([],x):=by
 unfold Bt.mK;rw [h,if_neg hx]
theorem xY {fs:List Bt.cS} {z:Int} (h:Bt.dL (Bt.bitsOf fs) (fs.map Bt.okF)=(z,0)):Bt.mK fs=(Bt.lE fs (List.replicate (Bt.ba z).toNat 0) fs.length,0):=by
 unfold Bt.mK;rw [h,if_pos rfl]
theorem pq (z:Int) (h1:0<=z) (h2:z<=64):∃ k:Nat,Bt.ba z=(k:Int)/\k<=8/\z<=8 * (k:Int):=by
 unfold Bt.ba;split
 ·exact ⟨0,by omega,by omega,by omega⟩
 ·exact ⟨((z - 1) / 8 + 1).toNat,by omega,by omega,by omega⟩
theorem Fo {A:Option Addr} {n c B B':Nat} {fs:List Bt.cS} (w:World) (h:IX w B B' A n c fs) (hn:n<=1000000) (hB:B<=w.heap.size) (hB':B'<=B) (hsm:∀ f∈fs,f.data.length<=1000000) (hm:∀ f∈fs,f.bits<=9223372036854775807) :
  Calls Tryz.prog 314 #[.slice A n c] w (hZ (Bt.mK fs) w):=by
 have hl:=h.len;have T:=CE w h hn hB hB' hsm hm;cases hp:Bt.dL (Bt.bitsOf fs) (fs.map Bt.okF) with
 | mk z x =>
 rw [hp] at T;have HP:=zq hp; clear hp;replace T:=zq T
 by_cases hx:x=0
 ·subst hx
  obtain ⟨t1,t2,t3⟩:=nI HP.out;have hz0:0<=z:=by
   rcases Nat.eq_zero_or_pos fs.length with h0 | h0
   ·rw [t2,show (Bt.bitsOf fs).length=0 by simpa [Bt.bitsOf] using h0]; exact Int.le_refl 0
   ·have h':=qH HP.out (k:=0) h0
    have h'':=Bt.je h'.1;have e:Bt.cH (Bt.bitsOf fs) 0=0:=rfl;omega
  obtain ⟨nb,hb1,hb2,hb3⟩:=pq z hz0 t3;have C:=fun w=>l0 z w (by omega)
  rw [hb1] at C;replace C:=zq C;have rG:=zq (xY HP.out);have HB1:=zq hb1; clear hb1;clear t1 t2;go_enter Tryz.func314,Tryz.ntmps314
  go_wp2_with fail
  refine (T.out).mono ?_;rintro e w1 ⟨rfl,b1⟩;go_wp2_with fail
  refine (C.out _).mono ?_;rintro e _ ⟨rfl,rfl⟩;go_wp2_with (at_make; refine fO od rfl (.tmp 21) (.tmp 21) rfl .i64 .i64 nb nb rfl rfl lq (by omega) w.heap.size b1.size ?_; intro w2 o2 b2 hs2)
  have d2:=aa b1 b2 lq;go_loopw [6,7,25] (fun v a u wr=>∃ (k:Nat) (A1:Option Addr) (c1:Nat),k<=n/\u=.int .i64 k/\v=.slice A1 nb c1/\a=.int .i64 (Bt.cH (Bt.bitsOf fs) k)/\OB wr w.heap.size A1 nb c1 (Bt.lE fs (List.replicate nb 0) k)/\Below w.heap.size w wr) (fun _ _ u _=>n - (intOf u).toNat)
  case atStart=>exact ⟨0,_,_,by omega,rfl,rfl,rfl,o2,d2⟩
  case round =>
   clear o2 b1 b2 d2 hs2;obtain ⟨k,A1,c1,hk,rfl,rfl,rfl,ob,bb⟩:=hrel
   by_cases hlt:k < n
   ·obtain ⟨b,o,A2,n2,c2,rfl,eT,q0,q1,hr⟩:=(h.below (bb.mono hB) hB').at_ hlt
    have hmem:=It (fs:=fs) (k:=k) (by omega);have hd:=hsm _ hmem;obtain ⟨s1,s2,s3,s4⟩:=qH HP.out (k:=k) (by omega);have hnx:Bt.lE fs (List.replicate nb 0) (k + 1)=Bt.cI (Bt.lE fs (List.replicate nb 0) k) (Bt.cH (Bt.bitsOf fs) k).toNat (Oct.le (fs.getD k Bt.cS.zero).data) (fs.getD k Bt.cS.zero).bits.toNat:=rfl;generalize fs.getD k Bt.cS.zero=f at *;generalize Bt.lE fs (List.replicate nb 0) k=L at *;obtain ⟨m,l⟩:=f;dsimp only at *;obtain rfl:l.length=n2:=hr.len;have hval:=Bt.J_ s1;obtain ⟨g1,g2,g3,g4⟩:=Bt.je s1;dsimp only at g1 g2 g3 g4;obtain ⟨P,hP⟩:∃ P:Nat,Bt.cH (Bt.bitsOf fs) k=(P:Int):=⟨_,(Int.toNat_of_nonneg s2).symm⟩;obtain ⟨M,rfl⟩:∃ M:Nat,m=(M:Int):=⟨m.toNat,by omega⟩;have hle:=Oct.qJ l;have hle2:Oct.le l < 18446744073709551616:=by
     have h8:l.length<=8:=by have:=Bt.oW g1 g2; omega
     exact Nat.lt_of_lt_of_le hle (Nat.le_trans (Nat.pow_le_pow_right (by decide) h8) (by decide))
    have b1:=ae wr (.cells #[.int .i64 (M:Int),.slice A2 l.length c2] 397);have F:=(ao.new wr 397 #[.int .i64 (M:Int),.slice A2 l.length c2]).two;have hz:=bb.size;have V:=qI (M:Int) _ (hr.below (b1.mono (Nat.le_trans hB' (Nat.le_trans hB hz)))) hd (Nat.le_trans hB' (Nat.le_trans hB (Nat.le_trans hz b1.size))) (by omega);rw [hval] at V;dsimp only at V;replace V:=zq V;rw [hP] at s3 s2 hnx ⊢;rw [<- s3] at s4;rw [Int.toNat_natCast,Int.toNat_natCast] at hnx;have PU:=fun (w2:World) (h:Below wr.heap.size wr w2)=>Jj P M (Oct.le l) w2 ((ob.below h).rb) (by omega) lq hle2 (by omega) (by omega) (by omega) g4
    replace PU:=zq PU;have HN:=zq hnx; have HS:=zq s3;clear hnx s3 hval hle hP s1 g3 g4 hr;generalize Oct.le l=v at *;go_wp2_with fail
    refine (V.out).mono ?_;rintro e w1 ⟨rfl,b2⟩;have K:=ao.made b2;have F2:=K.two;clear F;have d1:=aa b1 b2 lq;go_wp2_with fail
    refine (PU.out w1 d1).mono ?_;rintro e w3 ⟨A3,c3,rfl,o3,b3⟩;have F3:=(K.later b3).two;clear F2;have d3:=aa d1 b3 lq;go_wp2_with fail
    go_roundw
    case rel=>exact ⟨k + 1,A3,c3,by omega,by go_num,rfl,by rw [<- HS.out],by rw [HN.out]; exact o3.more (Nat.le_trans hz d1.size),aa bb d3 lq⟩
    case measure=>simp [intOf] <;> omega
   ·obtain rfl:k=n:=by omega
    go_wp2_with fail
    go_ret2
    exact Db (by rw [rG.out,HB1.out,hl,Int.toNat_natCast]) (by rw [Bt.ll,List.length_replicate]) ob bb
 ·have hx':(x != 0)=true:=by simpa using hx
  have HX:=zq hx; clear hx;go_enter Tryz.func314,Tryz.ntmps314
  go_wp2_with fail
  refine (T.out).mono ?_;rintro e w1 ⟨rfl,b1⟩;go_wp2_with fail
  go_ret2
  exact uD (zV HP.out HX.out) b1
end
end Go.Proofs.YtijegngfclkdaaaGreatDoor
