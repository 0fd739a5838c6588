/-
  Pieces of the proof: part 23 of 54.
  Conditions: none.
-/
import Derived.Deep.QuietTactic
import Derived.BigQuiet
import Derived.Test.YtijegngfclkdaaaGreatDoorW17
import Derived.Test.YtijegngfclkdaaaGreatDoorW21
import Derived.Test.YtijegngfclkdaaaGreatDoorW22
set_option linter.unusedVariables false
set_option linter.unusedSimpArgs false
set_option maxHeartbeats 100000000
set_option maxRecDepth 100000
namespace Go.Proofs.YtijegngfclkdaaaGreatDoor
open Go.RowKit
theorem getS_all {l:List UInt8} {k:Nat} (h:l.length=k) (h1:1≤k) (h2:k≤8):Oct.getS l 0 (k:Int)=(Oct.le l,0):=by
 unfold Oct.getS;rw [if_pos (by omega),if_neg (by omega),Int.toNat_natCast,show (0:Int).toNat=0 from rfl];subst h;simp [Oct.cut]
theorem getIntS_all {l:List UInt8} {k:Nat} (h:l.length=k) (h1:1≤k) (h2:k≤8):Oct.getIntS l 0 (k:Int)=(Oct.sgn (Oct.le l) (8 * k),0):=by
 unfold Oct.getIntS;rw [getS_all h h1 h2,if_pos rfl,Int.toNat_natCast]
theorem Decode_any {A:Option Addr} {n c B:Nat} {l:List UInt8} (t:Int) (w:World) (hb:RB w B A n c l) (hB:B≤w.heap.size) :
  Calls Tryz.prog 81 #[.int .i64 t,.slice A n c] w fun e w'=>e=.returned (.tuple #[.int .i64 (Ty.decS t l).1,.int .i64 (Ty.decS t l).2])∧Below w.heap.size w w':=by
 have hl:=hb.len;have hn:=hb.lt;have C:=of_any t w;have hk:=kd_num t;have hd:Ty.decS t l=if (Ty.kd t).bits=0 then (0,15) else if l.length < (Ty.kd t).size then (0,2) else if (Ty.kd t).size < l.length then (0,3)
  else if (Ty.kd t).sgn=true then (Oct.sgn (Oct.le l) (8 * (Ty.kd t).size),0) else if 2 ^ (Ty.kd t).bits≤Oct.le l then (0,9) else ((Oct.le l:Int),0):=rfl
 generalize (Ty.kd t).name=nm at *;generalize (Ty.kd t).sgn=sg at *;generalize (Ty.kd t).size=sz at *;generalize (Ty.kd t).bits=bt at *;generalize Ty.decS t l=d at *;rw [hl] at hd;replace C:=Lib.hid C;have HL:=Lib.hid hl; clear hl
 by_cases h0:bt=0
 ·subst h0
  rw [if_pos rfl] at hd;have HD:=Lib.hid hd; clear hd hk;go_enter Tryz.func81,Tryz.ntmps81
  go_wp2_with fail
  refine (C.out).mono ?_;rintro e w1 ⟨rfl,b1⟩;go_wp2_with fail
  go_ret2
  exact ⟨by rw [HD.out]; rfl,b1.alloc b1.size _⟩
 ·rw [if_neg h0] at hd
  have hbz:((bt:Int) == 0)=false:=by rw [beq_eq_false_iff_ne]; omega
  by_cases hlt:n < sz
  ·rw [if_pos hlt] at hd
   have HD:=Lib.hid hd; clear hd hk h0;go_enter Tryz.func81,Tryz.ntmps81
   go_wp2_with fail
   refine (C.out).mono ?_;rintro e w1 ⟨rfl,b1⟩;go_wp2_with fail
   go_ret2
   exact ⟨by rw [HD.out]; rfl,b1.alloc b1.size _⟩
  ·rw [if_neg hlt] at hd
   by_cases hgt:sz < n
   ·rw [if_pos hgt] at hd
    have HD:=Lib.hid hd; clear hd hk h0;go_enter Tryz.func81,Tryz.ntmps81
    go_wp2_with fail
    refine (C.out).mono ?_;rintro e w1 ⟨rfl,b1⟩;go_wp2_with fail
    go_ret2
    exact ⟨by rw [HD.out]; rfl,b1.alloc b1.size _⟩
   ·rw [if_neg hgt] at hd
    obtain rfl:n=sz:=by omega
    rcases hk with ⟨h,_⟩ | ⟨rfl,e1,e2,e3⟩ | ⟨rfl,e1,e2,e3,e4,e5⟩
    ·exact absurd h h0
    ·rw [if_pos rfl] at hd
     have HD:=Lib.hid hd; clear hd h0;have G:=fun (w1:World) (h:Below w.heap.size w w1)=>GetInt_any 0 (n:Int) w1 (hb.below (h.mono hB))
     rw [getIntS_all HL.out e2 e3] at G;dsimp only at G;replace G:=Lib.hid G;clear e1;go_enter Tryz.func81,Tryz.ntmps81
     go_wp2_with fail
     refine (C.out).mono ?_;rintro e w1 ⟨rfl,b1⟩;have b2:=b1.alloc b1.size (.cells #[.string (T nm),.int .i64 (n:Int),.int .i64 (bt:Int),.bool true] 199);go_wp2_with fail
     refine (G.out _ b2).mono ?_;rintro e _ ⟨rfl,rfl⟩;go_wp2_with fail
     go_ret2
     exact ⟨by rw [HD.out]; rfl,b2⟩
    ·rw [if_neg (by decide)] at hd
     have hle:=Oct.le_lt l;rw [HL.out] at hle;have hle2:Oct.le l < 4294967296:=Nat.lt_of_lt_of_le hle (Nat.le_trans (Nat.pow_le_pow_right (by decide) e4) (by decide));have G:=fun (w1:World) (h:Below w.heap.size w w1)=>Get_any 0 (n:Int) w1 (hb.below (h.mono hB))
     rw [getS_all HL.out e3 (by omega)] at G;dsimp only at G;replace G:=Lib.hid G;generalize Oct.le l=v at *
     by_cases hw:2 ^ bt≤v
     ·rw [if_pos hw] at hd
      have HD:=Lib.hid hd; clear hd h0;have hbt:bt < 8 * n:=by
       rcases Nat.lt_or_ge bt (8 * n) with h | h
       ·exact h
       ·obtain rfl:bt=8 * n:=by omega
        rw [pow_256] at hle;omega
      have ht:((v:Int) / 2 ^ bt != 0)=true:=by
       rw [show (v:Int) / 2 ^ bt=((v / 2 ^ bt:Nat):Int) by simp,bne_iff_ne];have:=Nat.div_pos hw (Nat.pow_pos (by decide));omega
      clear hle hw e5;go_enter Tryz.func81,Tryz.ntmps81
      go_wp2_with fail
      refine (C.out).mono ?_;rintro e w1 ⟨rfl,b1⟩;have b2:=b1.alloc b1.size (.cells #[.string (T nm),.int .i64 (n:Int),.int .i64 (bt:Int),.bool false] 199);go_wp2_with fail
      refine (G.out _ b2).mono ?_;rintro e _ ⟨rfl,rfl⟩;go_wp2_with fail
      go_ret2
      exact ⟨by rw [HD.out]; rfl,b2⟩
     ·rw [if_neg hw] at hd
      have HD:=Lib.hid hd; clear hd h0;have ht:((v:Int) / 2 ^ bt != 0)=false:=by
       rw [show (v:Int) / 2 ^ bt=((v / 2 ^ bt:Nat):Int) by simp,bne_eq_false_iff_eq,Nat.div_eq_of_lt (by omega)];rfl
      clear hle hw e5
      by_cases hbt:bt < 8 * n
      all_goals
       go_enter Tryz.func81,Tryz.ntmps81
       go_wp2_with fail
       refine (C.out).mono ?_;rintro e w1 ⟨rfl,b1⟩;have b2:=b1.alloc b1.size (.cells #[.string (T nm),.int .i64 (n:Int),.int .i64 (bt:Int),.bool false] 199);go_wp2_with fail
       refine (G.out _ b2).mono ?_;rintro e _ ⟨rfl,rfl⟩;go_wp2_with fail
       go_ret2
       exact ⟨by rw [HD.out]; rfl,b2⟩
end Go.Proofs.YtijegngfclkdaaaGreatDoor
namespace Go.Proofs.YtijegngfclkdaaaGreatDoor
open Go.RowKit
theorem seen_all {l:List UInt8} (h:∀ i,i < l.length→Ty.seen (l.getD i 0)=true):l.all Ty.seen=true:=by
 rw [List.all_eq_true];intro x hx;obtain ⟨i,hi,rfl⟩:=List.getElem_of_mem hx;have:=h i hi;simpa [List.getD,hi] using this
theorem seen_not {l:List UInt8} {i:Nat} (hi:i < l.length) (h:Ty.seen (l.getD i 0)=false):l.all Ty.seen=false:=by
 cases hb:l.all Ty.seen with
 | false=>rfl
 | true =>
  rw [List.all_eq_true] at hb;have:=hb l[i] (List.getElem_mem hi);rw [show l.getD i 0=l[i] by simp [List.getD,hi]] at h;rw [h] at this;cases this
theorem printed_any {A:Option Addr} {n c B:Nat} {l:List UInt8} (w:World) (hb:RB w B A n c l):Calls Tryz.prog 132 #[.slice A n c] w fun e w'=>e=.returned (.bool (l.all Ty.seen))∧w=w':=by
 have hn:=hb.lt;have HL:=Lib.hid hb.len;go_enter Tryz.func132,Tryz.ntmps132
 go_wp2_with fail
 go_loop [7] (fun i=>∃ k:Nat,k≤n∧i=.int .i64 k∧∀ j,j < k→Ty.seen (l.getD j 0)=true) (fun i=>n - (intOf i).toNat)
 case atStart=>exact ⟨0,by omega,rfl,fun j hj=>absurd hj (by omega)⟩
 case round =>
  obtain ⟨k,hk,rfl,hall⟩:=hrel;have HA:=Lib.hid hall; clear hall
  by_cases hlt:k < n
  ·obtain ⟨b,o,rfl,hbB,hc⟩:=hb.at_ (show 0 < n by omega)
   have hck:=hc k hlt;have hx:=byte_lt (l.getD k 0);generalize hxe:l.getD k 0=x at *;have HX:=Lib.hid hxe; clear hxe hc hb;rcases (show x.toNat < 32∨(32≤x.toNat∧126 < x.toNat)∨(32≤x.toNat∧x.toNat≤126) by omega) with h | ⟨h1,h2⟩ | ⟨h1,h2⟩
   ·go_wp2_with fail
    go_ret
    refine ⟨?_,rfl⟩;rw [seen_not (i:=k) (by have:=HL.out; omega) (by rw [HX.out]; exact decide_eq_false (by omega))];rfl
   ·go_wp2_with fail
    go_ret
    refine ⟨?_,rfl⟩;rw [seen_not (i:=k) (by have:=HL.out; omega) (by rw [HX.out]; exact decide_eq_false (by omega))];rfl
   ·go_wp2_with fail
    go_round
    case rel =>
     refine ⟨k + 1,by omega,by go_num,fun j hj=>?_⟩;rcases Nat.lt_or_ge j k with h | h
     ·exact HA.out j h
     ·obtain rfl:j=k:=by omega
      rw [HX.out]; exact decide_eq_true ⟨h1,h2⟩
    case measure=>simp [intOf] <;> omega
  ·obtain rfl:k=n:=by omega
   have HS:=Lib.hid (seen_all (l:=l) fun i hi=>HA.out i (by have:=HL.out; omega));go_wp2_with fail
   go_ret
   exact ⟨by rw [HS.out]; rfl,rfl⟩
theorem chk_val (t most:Int) (l:List UInt8):Ty.checkS t most l=if (Ty.kd t).name=[] then 15 else if 0 < (Ty.kd t).bits then (Ty.decS t l).2 else if most < (l.length:Int)∨256 < (l.length:Int) then 3 else if t=9∧l.all Ty.seen=false then 4 else 0:=rfl
theorem Check_any {A:Option Addr} {n c B:Nat} {l:List UInt8} (t most:Int) (w:World) (hb:RB w B A n c l) (hB:B≤w.heap.size) :
  Calls Tryz.prog 90 #[.int .i64 t,.int .i64 most,.slice A n c] w fun e w'=>e=.returned (.int .i64 (Ty.checkS t most l))∧Below w.heap.size w w':=by
 have hl:=hb.len;have hn:=hb.lt;have C:=of_any t w;have D:=fun (w1:World) (h:Below w.heap.size w w1)=>Decode_any t w1 (hb.below (h.mono hB)) (Nat.le_trans hB h.size)
 have P:=fun (w1:World) (h:Below w.heap.size w w1)=>printed_any w1 (hb.below (h.mono hB))
 have hv:=chk_val t most l;rw [hl] at hv;rcases kd_named t with h | h
 ·rw [if_neg h] at hv
  generalize Ty.checkS t most l=v at *;generalize Ty.decS t l=d at *;generalize l.all Ty.seen=se at *;obtain ⟨dv,de⟩:=d;generalize (Ty.kd t).name=nm at *;generalize (Ty.kd t).sgn=sg at *;generalize (Ty.kd t).size=sz at *;generalize (Ty.kd t).bits=bt at *;dsimp only at hv;have h1:nm.isEmpty=false:=by simpa using h
  have h2:=T_toList nm;have h3:T nm≠T []:=T_ne h;have h4:(nm == [])=false:=by simpa using h
  replace C:=Lib.hid C; replace D:=Lib.hid D; replace P:=Lib.hid P;clear h hl
  by_cases hbt:0 < bt
  ·rw [if_pos hbt] at hv
   subst hv;go_enter Tryz.func90,Tryz.ntmps90
   go_wp2_with fail
   refine (C.out).mono ?_;rintro e w1 ⟨rfl,b1⟩;have b2:=b1.alloc b1.size (.cells #[.string (T nm),.int .i64 (sz:Int),.int .i64 (bt:Int),.bool sg] 199);go_wp2_with fail
   refine (D.out _ b2).mono ?_;rintro e w3 ⟨rfl,b3⟩;go_wp2_with fail
   go_ret
   exact ⟨rfl,below_step b2 b3 (Nat.le_refl _)⟩
  ·rw [if_neg hbt] at hv
   obtain rfl:bt=0:=by omega
   by_cases hbig:most < (n:Int)∨256 < (n:Int)
   ·rw [if_pos hbig] at hv
    subst hv;rcases (show (most≤256∧most < (n:Int))∨(256 < most∧256 < n) by omega) with ⟨m1,m2⟩ | ⟨m1,m2⟩
    all_goals
     clear hbig;go_enter Tryz.func90,Tryz.ntmps90
     go_wp2_with fail
     refine (C.out).mono ?_;rintro e w1 ⟨rfl,b1⟩;have b2:=b1.alloc b1.size (.cells #[.string (T nm),.int .i64 (sz:Int),.int .i64 ((0:Nat):Int),.bool sg] 199);go_wp2_with fail
     go_ret
     exact ⟨rfl,b2⟩
   ·rw [if_neg hbig] at hv
    have m1:(n:Int)≤most:=by omega
    have m2:(n:Int)≤256:=by omega
    clear hbig
    by_cases ht:t=9
    ·subst ht
     have HV:=Lib.hid hv; clear hv
     by_cases hmm:most≤256
     all_goals
      go_enter Tryz.func90,Tryz.ntmps90
      go_wp2_with fail
      refine (C.out).mono ?_;rintro e w1 ⟨rfl,b1⟩;have b2:=b1.alloc b1.size (.cells #[.string (T nm),.int .i64 (sz:Int),.int .i64 0,.bool sg] 199);go_wp2_with fail
      refine (P.out _ b2).mono ?_;rintro e _ ⟨rfl,rfl⟩;cases se with
      | true =>
       go_wp2_with fail
       go_ret
       exact ⟨by rw [HV.out]; rfl,b2⟩
      | false =>
       go_wp2_with fail
       go_ret
       exact ⟨by rw [HV.out]; rfl,b2⟩
    ·rw [if_neg (fun h=>ht h.1)] at hv
     subst hv;have ht1:(t == 9)=false:=by rw [beq_eq_false_iff_ne]; exact ht
     clear ht
     by_cases hmm:most≤256
     all_goals
      go_enter Tryz.func90,Tryz.ntmps90
      go_wp2_with fail
      refine (C.out).mono ?_;rintro e w1 ⟨rfl,b1⟩;have b2:=b1.alloc b1.size (.cells #[.string (T nm),.int .i64 (sz:Int),.int .i64 0,.bool sg] 199);go_wp2_with fail
      go_ret
      exact ⟨rfl,b2⟩
 ·rw [h,if_pos (show Ty.kd0.name=[] from rfl)] at hv
  rw [h] at C;unfold Ty.kd0 at C;dsimp only at C;rw [show T []=(⟨#[]⟩:ByteArray) from rfl,show ((0:Nat):Int)=0 from rfl] at C;rw [hv];replace C:=Lib.hid C;clear hv h D P hl;go_enter Tryz.func90,Tryz.ntmps90
  go_wp2_with fail
  refine (C.out).mono ?_;rintro e w1 ⟨rfl,b1⟩;have b2:=b1.alloc b1.size (.cells #[.string ⟨#[]⟩,.int .i64 0,.int .i64 0,.bool false] 199);go_wp2_with fail
  go_ret
  exact ⟨rfl,b2⟩
end Go.Proofs.YtijegngfclkdaaaGreatDoor
namespace Go.Proofs.YtijegngfclkdaaaGreatDoor
open Go.RowKit
theorem enumber_any (e:Ent.En) (A:Option Addr) (n c:Nat) {A':Option Addr} {n' c' B:Nat} {l:List UInt8} (w:World) (hb:RB w B A' n' c' l) (hB:B≤w.heap.size):Calls Tryz.prog 89 #[enV e A n c,.slice A' n' c'] w fun x w'=>x=.returned (.int .u32 (Ent.numS e l))∧Below w.heap.size w w':=by
 obtain ⟨ix,sb,nm,ty,ac,mp,st,mx,lo,hi,df⟩:=e;unfold enV;dsimp only;have D:=Decode_any ty (w.alloc (.cells #[.int .i64 ix,.int .i64 sb,.string (T nm),.int .i64 ty,.int .i64 ac,.bool mp,.bool st,.int .i64 mx,.int .i64 lo,.int .i64 hi,.slice A n c] 27)) (hb.alloc hB _) (by simp; omega);have hv:Ent.numS ⟨ix,sb,nm,ty,ac,mp,st,mx,lo,hi,df⟩ l=if (Ty.decS ty l).2=2 then 101122067 else if (Ty.decS ty l).2=3 then 101122066 else if (Ty.decS ty l).2≠0 then 101253168 else if (Ty.decS ty l).1 < lo then 101253170 else if hi < (Ty.decS ty l).1 then 101253169 else 0:=rfl
 rw [hv];generalize (Ty.decS ty l).1=z at *;generalize (Ty.decS ty l).2=f at *;replace D:=Lib.hid D;clear hv hb
 by_cases h2:f=2
 ·subst h2
  rw [if_pos rfl];go_enter Tryz.func89,Tryz.ntmps89
  go_wp2_with fail
  refine (D.out).mono ?_;rintro e w1 ⟨rfl,b1⟩;have K1:=(Blk.made b1).eleven;have d1:=below_step (alloc_one _ _) b1 (Nat.le_refl _);go_wp2_with fail
  go_ret
  exact ⟨rfl,d1⟩
 rw [if_neg h2];have e2:(f == 2)=false:=beq_false_of_ne h2
 by_cases h3:f=3
 ·subst h3
  rw [if_pos rfl];go_enter Tryz.func89,Tryz.ntmps89
  go_wp2_with fail
  refine (D.out).mono ?_;rintro e w1 ⟨rfl,b1⟩;have K1:=(Blk.made b1).eleven;have d1:=below_step (alloc_one _ _) b1 (Nat.le_refl _);go_wp2_with fail
  go_ret
  exact ⟨rfl,d1⟩
 rw [if_neg h3];have e3:(f == 3)=false:=beq_false_of_ne h3
 by_cases h0:f=0
 ·subst h0
  rw [if_neg (by decide)]
  by_cases h4:z < lo
  ·rw [if_pos h4]
   go_enter Tryz.func89,Tryz.ntmps89
   go_wp2_with fail
   refine (D.out).mono ?_;rintro e w1 ⟨rfl,b1⟩;have K1:=(Blk.made b1).eleven;have d1:=below_step (alloc_one _ _) b1 (Nat.le_refl _);go_wp2_with fail
   go_ret
   exact ⟨rfl,d1⟩
  rw [if_neg h4]
  by_cases h5:hi < z
  ·rw [if_pos h5]
   go_enter Tryz.func89,Tryz.ntmps89
   go_wp2_with fail
   refine (D.out).mono ?_;rintro e w1 ⟨rfl,b1⟩;have K1:=(Blk.made b1).eleven;have d1:=below_step (alloc_one _ _) b1 (Nat.le_refl _);go_wp2_with fail
   go_ret
   exact ⟨rfl,d1⟩
  rw [if_neg h5];go_enter Tryz.func89,Tryz.ntmps89
  go_wp2_with fail
  refine (D.out).mono ?_;rintro e w1 ⟨rfl,b1⟩;have K1:=(Blk.made b1).eleven;have d1:=below_step (alloc_one _ _) b1 (Nat.le_refl _);go_wp2_with fail
  go_ret
  exact ⟨rfl,d1⟩
 rw [if_pos h0];have e0:(f != 0)=true:=by simpa using h0
 have e0':(f == 0)=false:=beq_false_of_ne h0;clear h2 h3 h0;go_enter Tryz.func89,Tryz.ntmps89
 go_wp2_with fail
 refine (D.out).mono ?_;rintro e w1 ⟨rfl,b1⟩;have K1:=(Blk.made b1).eleven;have d1:=below_step (alloc_one _ _) b1 (Nat.le_refl _);go_wp2_with fail
 go_ret
 exact ⟨rfl,d1⟩
theorem EValue_any (e:Ent.En) (A:Option Addr) (n c:Nat) {A':Option Addr} {n' c' B:Nat} {l:List UInt8} (w:World) (hb:RB w B A' n' c' l) (hB:B≤w.heap.size):Calls Tryz.prog 59 #[enV e A n c,.slice A' n' c'] w fun x w'=>x=.returned (.int .u32 (Ent.valS e l))∧Below w.heap.size w w':=by
 have hval:Ent.valS e l=if 0 < (Ty.kd e.type).bits then Ent.numS e l else if Ty.checkS e.type e.max l=0 then 0 else if Ty.checkS e.type e.max l=3 then 101122066 else if Ty.checkS e.type e.max l=4 then 101253168 else 100925511:=rfl
 rw [hval];have N:=fun (w1:World) (h:Below w.heap.size w w1)=>enumber_any e A n c w1 (hb.below (h.mono hB)) (Nat.le_trans hB h.size)
 have C:=fun (w1:World) (h:Below w.heap.size w w1)=>Check_any e.type e.max w1 (hb.below (h.mono hB)) (Nat.le_trans hB h.size)
 generalize Ent.numS e l=num at *;generalize Ty.checkS e.type e.max l=ck at *;obtain ⟨ix,sb,nm,ty,ac,mp,st,mx,lo,hi,df⟩:=e;unfold enV;unfold enV at N;dsimp only at *;have TB:=fun w=>TBits_any ty w
 replace N:=Lib.hid N; replace C:=Lib.hid C; replace TB:=Lib.hid TB;clear hval hb;generalize (Ty.kd ty).bits=bt at *
 by_cases hbt:0 < bt
 ·rw [if_pos hbt]
  go_enter Tryz.func59,Tryz.ntmps59
  go_wp2_with fail
  refine (TB.out _).mono ?_;rintro e w1 ⟨rfl,b1⟩;have K1:=(Blk.made b1).eleven;have d1:=below_step (alloc_one _ _) b1 (Nat.le_refl _);go_wp2_with fail
  refine (N.out _ d1).mono ?_;rintro e w2 ⟨rfl,b2⟩;go_wp2_with fail
  go_ret
  exact ⟨rfl,below_step d1 b2 (Nat.le_refl _)⟩
 rw [if_neg hbt];have ebt:bt=0:=by omega
 subst ebt;clear hbt
 by_cases h0:ck=0
 ·subst h0
  simp only [Int.reduceEq,if_true,if_false];go_enter Tryz.func59,Tryz.ntmps59
  go_wp2_with fail
  refine (TB.out _).mono ?_;rintro e w1 ⟨rfl,b1⟩;have K1:=(Blk.made b1).eleven;have d1:=below_step (alloc_one _ _) b1 (Nat.le_refl _);go_wp2_with fail
  refine (C.out _ d1).mono ?_;rintro e w2 ⟨rfl,b2⟩;go_wp2_with fail
  go_ret
  exact ⟨rfl,below_step d1 b2 (Nat.le_refl _)⟩
 by_cases h3:ck=3
 ·subst h3
  simp only [Int.reduceEq,if_true,if_false];go_enter Tryz.func59,Tryz.ntmps59
  go_wp2_with fail
  refine (TB.out _).mono ?_;rintro e w1 ⟨rfl,b1⟩;have K1:=(Blk.made b1).eleven;have d1:=below_step (alloc_one _ _) b1 (Nat.le_refl _);go_wp2_with fail
  refine (C.out _ d1).mono ?_;rintro e w2 ⟨rfl,b2⟩;go_wp2_with fail
  go_ret
  exact ⟨rfl,below_step d1 b2 (Nat.le_refl _)⟩
 by_cases h4:ck=4
 ·subst h4
  simp only [Int.reduceEq,if_true,if_false];go_enter Tryz.func59,Tryz.ntmps59
  go_wp2_with fail
  refine (TB.out _).mono ?_;rintro e w1 ⟨rfl,b1⟩;have K1:=(Blk.made b1).eleven;have d1:=below_step (alloc_one _ _) b1 (Nat.le_refl _);go_wp2_with fail
  refine (C.out _ d1).mono ?_;rintro e w2 ⟨rfl,b2⟩;go_wp2_with fail
  go_ret
  exact ⟨rfl,below_step d1 b2 (Nat.le_refl _)⟩
 rw [if_neg h0,if_neg h3,if_neg h4];have e0:(ck == 0)=false:=beq_false_of_ne h0;have e3:(ck == 3)=false:=beq_false_of_ne h3;have e4:(ck == 4)=false:=beq_false_of_ne h4;clear h0 h3 h4;go_enter Tryz.func59,Tryz.ntmps59
 go_wp2_with fail
 refine (TB.out _).mono ?_;rintro e w1 ⟨rfl,b1⟩;have K1:=(Blk.made b1).eleven;have d1:=below_step (alloc_one _ _) b1 (Nat.le_refl _);go_wp2_with fail
 refine (C.out _ d1).mono ?_;rintro e w2 ⟨rfl,b2⟩;go_wp2_with fail
 go_ret
 exact ⟨rfl,below_step d1 b2 (Nat.le_refl _)⟩
end Go.Proofs.YtijegngfclkdaaaGreatDoor
namespace Go.Proofs.YtijegngfclkdaaaGreatDoor
open Go.RowKit
theorem dthere_any {F:Nat→Prop} {w:World} {g gv lc vc:Nat} {la:Addr} {vA:Option Addr} {xs vs:List Value} {D:Dc.Dic} (h:DRt 131 w F g gv (some la) lc vA vc xs vs D):Calls Tryz.prog 131 #[.pointer (some ⟨g,0,none⟩)] w fun e w'=>e=.returned (.bool true)∧w=w':=by
 obtain ⟨t0,t1⟩:=h.two;go_enter Tryz.func131,Tryz.ntmps131
 go_wp2_with fail
 go_ret
 exact ⟨rfl,rfl⟩
theorem dLen_any {F:Nat→Prop} {w:World} {g gv lc vc:Nat} {la:Addr} {vA:Option Addr} {xs vs:List Value} {D:Dc.Dic} (h:DRt 131 w F g gv (some la) lc vA vc xs vs D):Calls Tryz.prog 87 #[.pointer (some ⟨g,0,none⟩)] w fun e w'=>e=.returned (.int .i64 (D.l.length:Int))∧w=w':=by
 obtain ⟨t0,t1⟩:=h.two;have T:=Lib.hid (dthere_any h);go_enter Tryz.func87,Tryz.ntmps87
 go_wp2_with fail
 refine (T.out).mono ?_;rintro e w ⟨rfl,rfl⟩;go_wp2_with fail
 go_ret
 exact ⟨rfl,rfl⟩
theorem dat_any {F:Nat→Prop} {w:World} {g gv lc vc:Nat} {la:Addr} {vA:Option Addr} {xs vs:List Value} {D:Dc.Dic} (k:Nat) (x y:Int) (h:DRt 131 w F g gv (some la) lc vA vc xs vs D):Calls Tryz.prog 86 #[.pointer (some ⟨g,0,none⟩),.int .i64 (k:Int),.int .i64 x,.int .i64 y] w fun e w'=>e=.returned (.bool (Dc.atB D.l k x y))∧w=w':=by
 have LN:=Lib.hid (dLen_any h);obtain ⟨t0,t1⟩:=h.two;have hcap:=h.lcap
 by_cases hk:k < D.l.length
 ·obtain ⟨b,o,A,n,c,hA,hbB,hr,hc⟩:=h.entry hk
  have hv:Dc.atB D.l k x y=((D.l.getD k Dc.en0).index == x && (D.l.getD k Dc.en0).sub == y):=by
   unfold Dc.atB Dc.hit;rw [decide_eq_true hk,Bool.true_and,Bool.eq_iff_iff];simp
  have c0:=hc 0 _ rfl;have c1:=hc 1 _ rfl;rw [hv];generalize (D.l.getD k Dc.en0).index=ix at *;generalize (D.l.getD k Dc.en0).sub=sb at *;injection hA with hA
  subst hA;simp only [Nat.add_zero] at c0;have HC:=Lib.hid hcap;clear hc hr hv h;generalize D.l.length=m at *;generalize hx1:(ix == x)=b1 at *;generalize hx2:(sb == y)=b2 at *;cases b1 <;> cases b2
  all_goals
   go_enter Tryz.func86,Tryz.ntmps86
   go_wp2_with fail
   refine (LN.out).mono ?_;rintro e w ⟨rfl,rfl⟩;go_wp2_with fail
   go_ret
   exact ⟨rfl,rfl⟩
 ·have hv:Dc.atB D.l k x y=false:=by unfold Dc.atB; rw [decide_eq_false hk]; rfl
  rw [hv];clear hv h;generalize D.l.length=m at *;go_enter Tryz.func86,Tryz.ntmps86
  go_wp2_with fail
  refine (LN.out).mono ?_;rintro e w ⟨rfl,rfl⟩;go_wp2_with fail
  go_ret
  exact ⟨rfl,rfl⟩
def nearB (l:List Ent.En) (z x:Int):Bool:=decide (0≤z∧z < (l.length:Int)) && ((l.getD z.toNat Dc.en0).index == x)
theorem din_any {F:Nat→Prop} {w:World} {g gv lc vc:Nat} {la:Addr} {vA:Option Addr} {xs vs:List Value} {D:Dc.Dic} (z x y:Int) (h:DRt 131 w F g gv (some la) lc vA vc xs vs D):Calls Tryz.prog 236 #[.pointer (some ⟨g,0,none⟩),.int .i64 z,.int .i64 x,.int .i64 y] w fun e w'=>e=.returned (.bool (nearB D.l z x))∧w=w':=by
 have LN:=Lib.hid (dLen_any h);obtain ⟨t0,t1⟩:=h.two;have hcap:=h.lcap
 by_cases h0:z < 0
 ·have hv:nearB D.l z x=false:=by unfold nearB; rw [decide_eq_false (by omega)]; rfl
  rw [hv];clear hv h;generalize D.l.length=m at *;go_enter Tryz.func236,Tryz.ntmps236
  go_wp2_with fail
  go_ret
  exact ⟨rfl,rfl⟩
 obtain ⟨k,rfl⟩:∃ k:Nat,z=(k:Int):=⟨z.toNat,by omega⟩
 by_cases hk:k < D.l.length
 ·obtain ⟨b,o,A,n,c,hA,hbB,hr,hc⟩:=h.entry hk
  have hv:nearB D.l (k:Int) x=((D.l.getD k Dc.en0).index == x):=by
   unfold nearB;rw [decide_eq_true (by omega),Int.toNat_natCast];rfl
  have c0:=hc 0 _ rfl;rw [hv];generalize (D.l.getD k Dc.en0).index=ix at *;injection hA with hA
  subst hA;simp only [Nat.add_zero] at c0;have HC:=Lib.hid hcap;clear hc hr hv h;generalize D.l.length=m at *;generalize hx1:(ix == x)=b1 at *;cases b1
  all_goals
   go_enter Tryz.func236,Tryz.ntmps236
   go_wp2_with fail
   refine (LN.out).mono ?_;rintro e w ⟨rfl,rfl⟩;go_wp2_with fail
   go_ret
   exact ⟨rfl,rfl⟩
 ·have hv:nearB D.l (k:Int) x=false:=by unfold nearB; rw [decide_eq_false (by omega)]; rfl
  rw [hv];clear hv h;generalize D.l.length=m at *;go_enter Tryz.func236,Tryz.ntmps236
  go_wp2_with fail
  refine (LN.out).mono ?_;rintro e w ⟨rfl,rfl⟩;go_wp2_with fail
  go_ret
  exact ⟨rfl,rfl⟩
end Go.Proofs.YtijegngfclkdaaaGreatDoor
namespace Go.Proofs.YtijegngfclkdaaaGreatDoor
open Go.RowKit
theorem ahead_mono {l:List Ent.En} (ho:Dc.Ord l) {x y:Int} {i j:Nat} (hij:i≤j) (hj:j < l.length) (h:Dc.ahead x y (l.getD j Dc.en0)=true):Dc.ahead x y (l.getD i Dc.en0)=true:=by
 rcases Nat.eq_or_lt_of_le hij with h1 | h1
 ·subst h1; exact h
 ·exact Dc.ahead_iff.2 ((Dc.ord_lt2 ho h1 hj).trans (Dc.ahead_iff.1 h))
theorem ahead_mono_no {l:List Ent.En} (ho:Dc.Ord l) {x y:Int} {i j:Nat} (hij:i≤j) (hj:j < l.length) (h:Dc.ahead x y (l.getD i Dc.en0)=false):Dc.ahead x y (l.getD j Dc.en0)=false:=by
 cases ha:Dc.ahead x y (l.getD j Dc.en0) with
 | false=>rfl
 | true=>rw [ahead_mono ho hij hj ha] at h; cases h
def plc (x y:Int):Ent.En:=⟨x,y,[],0,0,false,false,0,0,0,[]⟩
def SeekR (l:List Ent.En) (x y:Int) (lo hi:Nat):Prop:=lo≤hi∧hi≤l.length∧(∀ j,j < lo→Dc.ahead x y (l.getD j Dc.en0)=true)∧∀ j,hi≤j→j < l.length→Dc.ahead x y (l.getD j Dc.en0)=false
theorem dseek_any {F:Nat→Prop} {w:World} {g gv lc vc:Nat} {la:Addr} {vA:Option Addr} {xs vs:List Value} {D:Dc.Dic} (x y:Int) (h:DRt 131 w F g gv (some la) lc vA vc xs vs D):Calls Tryz.prog 85 #[.pointer (some ⟨g,0,none⟩),.int .i64 x,.int .i64 y] w fun e w'=>e=.returned (.int .i64 (Dc.seekS D.l x y:Int))∧Below w.heap.size w w':=by
 have LN:=Lib.hid (dLen_any (h.below (alloc_one w (.cells #[.int .i64 x,.int .i64 y,.string ⟨#[]⟩,.int .i64 0,.int .i64 0,.bool false,.bool false,.int .i64 0,.int .i64 0,.int .i64 0,.slice none 0 0] 27))));have hcap:=h.lcap;have hfew:=h.few;have HORD:=Lib.hid h.ord;have HS:Hid (SeekR D.l x y 0 D.l.length):=Lib.hid ⟨by omega,by omega,fun j hj=>absurd hj (by omega),fun j h1 h2=>absurd h2 (by omega)⟩;have HRES:∀ k,k≤D.l.length→SeekR D.l x y k k→k=Dc.seekS D.l x y:=fun k hk hs=>Dc.seek_of h.ord hk hs.2.2.1 hs.2.2.2
 have HR2:=Lib.hid HRES;clear HRES;go_enter Tryz.func85,Tryz.ntmps85
 go_wp2_with fail
 refine (LN.out).mono ?_;rintro e w1 ⟨rfl,rfl⟩;have b0:=alloc_one w (.cells #[.int .i64 x,.int .i64 y,.string ⟨#[]⟩,.int .i64 0,.int .i64 0,.bool false,.bool false,.int .i64 0,.int .i64 0,.int .i64 0,.slice none 0 0] 27);have K0:=Blk.new w 27 #[.int .i64 x,.int .i64 y,.string ⟨#[]⟩,.int .i64 0,.int .i64 0,.bool false,.bool false,.int .i64 0,.int .i64 0,.int .i64 0,.slice none 0 0];clear LN;go_wp2_with fail
 go_loopw [8,9] (fun u v wr=>∃ lo hi:Nat,u=.int .i64 lo∧v=.int .i64 hi∧Hid (SeekR D.l x y lo hi)∧lo≤hi∧hi≤D.l.length∧Blk wr w.heap.size 27 #[.int .i64 x,.int .i64 y,.string ⟨#[]⟩,.int .i64 0,.int .i64 0,.bool false,.bool false,.int .i64 0,.int .i64 0,.int .i64 0,.slice none 0 0]∧Below w.heap.size w wr) (fun u v _=>(intOf v).toNat - (intOf u).toNat)
 case atStart=>exact ⟨0,D.l.length,rfl,rfl,HS,by omega,by omega,K0,b0⟩
 case round =>
  obtain ⟨lo,hi,rfl,rfl,hs,hlh,hhl,K,bb⟩:=hrel
  by_cases hlt:lo < hi
  ·obtain ⟨m,hm⟩:∃ m:Nat,((lo:Int) + (hi:Int)) / 2=(m:Int):=⟨(lo + hi) / 2,by omega⟩
   have hm1:lo≤m:=by omega
   have hm2:m < hi:=by omega
   have h2:=h.below bb;obtain ⟨b,o,A,n,c,hA,hbB,hr,hc⟩:=h2.entry (i:=m) (by omega);obtain ⟨t0,t1⟩:=h2.two;injection hA with hA
   subst hA;replace t0:=cell_regrown t0;have E:=K.eleven;have B:=fun w=>Before_any (D.l.getD m Dc.en0) (plc x y) A none n c 0 0 w
   rw [show Ent.befB (D.l.getD m Dc.en0) (plc x y)=Dc.ahead x y (D.l.getD m Dc.en0) from rfl] at B;unfold enV plc at B;dsimp only [show T []=(⟨#[]⟩:ByteArray) from rfl] at B;have c0:=cell_regrown (hc 0 _ rfl);have c1:=cell_regrown (hc 1 _ rfl);have c2:=cell_regrown (hc 2 _ rfl);have c3:=cell_regrown (hc 3 _ rfl);have c4:=cell_regrown (hc 4 _ rfl);have c5:=cell_regrown (hc 5 _ rfl);have c6:=cell_regrown (hc 6 _ rfl);have c7:=cell_regrown (hc 7 _ rfl);have c8:=cell_regrown (hc 8 _ rfl);have c9:=cell_regrown (hc 9 _ rfl);have c10:=cell_regrown (hc 10 _ rfl);simp only [Nat.add_zero] at c0;have hst:=hs.out;have H1:Dc.ahead x y (D.l.getD m Dc.en0)=true→SeekR D.l x y (m + 1) hi:=fun ha=>⟨by omega,hhl,fun j hj=>ahead_mono HORD.out (show j≤m by omega) (by omega) ha,hst.2.2.2⟩
   have H2:Dc.ahead x y (D.l.getD m Dc.en0)=false→SeekR D.l x y lo m:=fun ha=>⟨hm1,by omega,hst.2.2.1,fun j h1 h2=>ahead_mono_no HORD.out h1 h2 ha⟩
   have d0:=cell_regrown E.1.1;have d1:=cell_regrown E.1.2.1;have d2:=cell_regrown E.1.2.2.1;have d3:=cell_regrown E.1.2.2.2.1;have d4:=cell_regrown E.1.2.2.2.2.1;have d5:=cell_regrown E.1.2.2.2.2.2.1;have d6:=cell_regrown E.1.2.2.2.2.2.2.1;have d7:=cell_regrown E.1.2.2.2.2.2.2.2.1;have d8:=cell_regrown E.1.2.2.2.2.2.2.2.2.1;have d9:=cell_regrown E.1.2.2.2.2.2.2.2.2.2.1;have d10:=cell_regrown E.1.2.2.2.2.2.2.2.2.2.2;have i0:(0:Int)≤(m:Int):=by omega
   have i1:(m:Int) < (D.l.length:Int):=by omega
   clear hs hst hc hr E;cases ha:Dc.ahead x y (D.l.getD m Dc.en0) with
   | true =>
    rw [ha] at B;have HQ:=Lib.hid (H1 ha);replace B:=Lib.hid B;clear H1 H2 ha;generalize D.l.getD m Dc.en0=e0 at *;go_wp2_with fail
    refine region_later (by kernel_rfl) ?_;refine phase_later (by kernel_rfl) 1 (below_drew _) [0,4,7,1,2,3,5,6] rfl (by kernel_rfl) ?_;simp only [picks,nth]
    repeat (go_big_quiet_step (fail))
    refine wpQuiet_nil ?_;refine phase_op 8 0 rfl (by kernel_rfl) (by decide) ?_;simp only [nth];go_wp2_with (go_at_call 78; refine (B.out _).mono ?_; rintro e w5 ⟨rfl,b5⟩)
    have b6:Below wr.heap.size wr w5:=(below_drew wr).trans b5;refine behind_later b6 ?_;refine phase_end (by kernel_rfl) ?_;have K6:=K.later b6;have bb6:=below_step bb b6 (Nat.le_refl _);go_wp2_with fail
    go_roundw
    case rel=>exact ⟨m + 1,hi,by go_num,by go_num,HQ,by omega,by omega,K6,bb6⟩
    case measure=>simp [intOf] <;> omega
   | false =>
    rw [ha] at B;have HQ:=Lib.hid (H2 ha);replace B:=Lib.hid B;clear H1 H2 ha;generalize D.l.getD m Dc.en0=e0 at *;go_wp2_with fail
    refine region_later (by kernel_rfl) ?_;refine phase_later (by kernel_rfl) 1 (below_drew _) [0,4,7,1,2,3,5,6] rfl (by kernel_rfl) ?_;simp only [picks,nth]
    repeat (go_big_quiet_step (fail))
    refine wpQuiet_nil ?_;refine phase_op 8 0 rfl (by kernel_rfl) (by decide) ?_;simp only [nth];go_wp2_with (go_at_call 78; refine (B.out _).mono ?_; rintro e w5 ⟨rfl,b5⟩)
    have b6:Below wr.heap.size wr w5:=(below_drew wr).trans b5;refine behind_later b6 ?_;refine phase_end (by kernel_rfl) ?_;have K6:=K.later b6;have bb6:=below_step bb b6 (Nat.le_refl _);go_wp2_with fail
    go_roundw
    case rel=>exact ⟨lo,m,by go_num,by go_num,HQ,by omega,by omega,K6,bb6⟩
    case measure=>simp [intOf] <;> omega
  ·obtain rfl:lo=hi:=by omega
   have HQ:Hid (lo=Dc.seekS D.l x y):=Lib.hid (HR2.out lo hhl hs.out);clear hs;go_wp2_with fail
   go_ret
   exact ⟨ret_int (by rw [← HQ.out]),bb⟩
end Go.Proofs.YtijegngfclkdaaaGreatDoor
