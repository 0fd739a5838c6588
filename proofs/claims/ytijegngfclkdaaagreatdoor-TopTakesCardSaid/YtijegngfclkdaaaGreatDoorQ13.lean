/-
  Piece 13 of the proof.
  Conditions: none.
-/
import Derived.Laws.Tables
import Derived.KernelRfl
import Derived.Test.YtijegngfclkdaaaGreatDoorQ12
set_option linter.unusedVariables false
set_option linter.unusedSimpArgs false
set_option maxHeartbeats 100000000
set_option maxRecDepth 100000
namespace Go.Proofs.YtijegngfclkdaaaGreatDoor
section
open Go.RowKit
theorem Bk (e:aD.En) (A:Option Addr) (n c:Nat) (w:World):Calls Tryz.prog 121 #[gO e A n c] w fun x w'=>x=.returned (.bool (aD.j8 e))/\Below w.heap.size w w':=by
 obtain ⟨ix,sb,nm,ty,ac,mp,st,mx,lo,hi,df⟩:=e;unfold gO;dsimp only
 by_cases h1:ac=1
 ·subst h1
  cases mp <;> cases st
  all_goals
   go_enter Tryz.func121,Tryz.ntmps121
   go_wp2_with fail
   go_ret
   exact ⟨rfl,ae _ _⟩
 by_cases h2:ac=2
 ·subst h2
  cases st
  all_goals
   go_enter Tryz.func121,Tryz.ntmps121
   go_wp2_with fail
   go_ret
   exact ⟨rfl,ae _ _⟩
 by_cases h3:ac=3
 ·subst h3
  go_enter Tryz.func121,Tryz.ntmps121
  go_wp2_with fail
  go_ret
  exact ⟨rfl,ae _ _⟩
 by_cases h4:ac=4
 ·subst h4
  go_enter Tryz.func121,Tryz.ntmps121
  go_wp2_with fail
  go_ret
  exact ⟨rfl,ae _ _⟩
 have e1:(ac == 1)=false:=beq_false_of_ne h1;have e2:(ac == 2)=false:=beq_false_of_ne h2;have e3:(ac == 3)=false:=beq_false_of_ne h3;have e4:(ac == 4)=false:=beq_false_of_ne h4;have hv:aD.j8 ⟨ix,sb,nm,ty,ac,mp,st,mx,lo,hi,df⟩=false:=by unfold aD.j8; rw [if_neg h1,if_neg h2]; simp [h3,h4]
 rw [hv];clear hv h1 h2 h3 h4;go_enter Tryz.func121,Tryz.ntmps121
 go_wp2_with fail
 go_ret
 exact ⟨rfl,ae _ _⟩
theorem sn (e:aD.En) (A:Option Addr) (n c:Nat) (l h:Int) (w:World):Calls Tryz.prog 122 #[gO e A n c,.int .i64 l,.int .i64 h] w fun x w'=>x=.returned (.bool (aD.dT e l h))/\Below w.heap.size w w':=by
 obtain ⟨ix,sb,nm,ty,ac,mp,st,mx,lo,hi,df⟩:=e;unfold gO;dsimp only
 by_cases h1:mx=0
 ·by_cases h2:l<=lo
  ·by_cases h3:lo<=hi
   ·by_cases h4:hi<=h
    all_goals
     go_enter Tryz.func122,Tryz.ntmps122
     go_wp2_with fail
     go_ret
     exact ⟨bI (by rw [Bool.eq_iff_iff]; simp [aD.dT] <;> omega),ae _ _⟩
   ·go_enter Tryz.func122,Tryz.ntmps122
    go_wp2_with fail
    go_ret
    exact ⟨bI (by rw [Bool.eq_iff_iff]; simp [aD.dT] <;> omega),ae _ _⟩
  ·go_enter Tryz.func122,Tryz.ntmps122
   go_wp2_with fail
   go_ret
   exact ⟨bI (by rw [Bool.eq_iff_iff]; simp [aD.dT] <;> omega),ae _ _⟩
 ·have e1:(mx == 0)=false:=beq_false_of_ne h1
  go_enter Tryz.func122,Tryz.ntmps122
  go_wp2_with fail
  go_ret
  exact ⟨bI (by rw [Bool.eq_iff_iff]; simp [aD.dT] <;> omega),ae _ _⟩
theorem Bx (e:aD.En) (A:Option Addr) (n c:Nat) (w:World):Calls Tryz.prog 123 #[gO e A n c] w fun x w'=>x=.returned (.bool (aD.sizedB e))/\Below w.heap.size w w':=by
 obtain ⟨ix,sb,nm,ty,ac,mp,st,mx,lo,hi,df⟩:=e;unfold gO;dsimp only
 by_cases h1:lo=0
 ·by_cases h2:hi=0
  ·subst h1 h2
   by_cases h3:1<=mx
   ·by_cases h4:mx<=256
    ·cases mp
     all_goals
      go_enter Tryz.func123,Tryz.ntmps123
      go_wp2_with fail
      go_ret
      exact ⟨bI (by rw [Bool.eq_iff_iff]; simp [aD.sizedB] <;> omega),ae _ _⟩
    ·go_enter Tryz.func123,Tryz.ntmps123
     go_wp2_with fail
     go_ret
     exact ⟨bI (by rw [Bool.eq_iff_iff]; simp [aD.sizedB] <;> omega),ae _ _⟩
   ·go_enter Tryz.func123,Tryz.ntmps123
    go_wp2_with fail
    go_ret
    exact ⟨bI (by rw [Bool.eq_iff_iff]; simp [aD.sizedB] <;> omega),ae _ _⟩
  ·have e1:(hi == 0)=false:=beq_false_of_ne h2
   subst h1;go_enter Tryz.func123,Tryz.ntmps123
   go_wp2_with fail
   go_ret
   exact ⟨bI (by rw [Bool.eq_iff_iff]; simp [aD.sizedB] <;> omega),ae _ _⟩
 ·have e1:(lo == 0)=false:=beq_false_of_ne h1
  go_enter Tryz.func123,Tryz.ntmps123
  go_wp2_with fail
  go_ret
  exact ⟨bI (by rw [Bool.eq_iff_iff]; simp [aD.sizedB] <;> omega),ae _ _⟩
theorem sI (e:aD.En) (A:Option Addr) (n c:Nat) (w:World):Calls Tryz.prog 183 #[gO e A n c] w fun x w'=>x=.returned (.int .u32 (aD.kQ e))/\Below w.heap.size w w':=by
 obtain ⟨ix,sb,nm,ty,ac,mp,st,mx,lo,hi,df⟩:=e;unfold gO;dsimp only
 by_cases h1:ac=3
 ·subst h1
  go_enter Tryz.func183,Tryz.ntmps183
  go_wp2_with fail
  go_ret
  exact ⟨rfl,ae _ _⟩
 ·have e1:(ac == 3)=false:=beq_false_of_ne h1
  have hv:aD.kQ ⟨ix,sb,nm,ty,ac,mp,st,mx,lo,hi,df⟩=0:=if_neg h1;rw [hv];clear hv h1;go_enter Tryz.func183,Tryz.ntmps183
  go_wp2_with fail
  go_ret
  exact ⟨rfl,ae _ _⟩
theorem ir (e:aD.En) (A:Option Addr) (n c:Nat) (w:World):Calls Tryz.prog 178 #[gO e A n c] w fun x w'=>x=.returned (.int .u32 (aD.ff e))/\Below w.heap.size w w':=by
 obtain ⟨ix,sb,nm,ty,ac,mp,st,mx,lo,hi,df⟩:=e;unfold gO;dsimp only
 by_cases h1:ac=1
 ·subst h1
  go_enter Tryz.func178,Tryz.ntmps178
  go_wp2_with fail
  go_ret
  exact ⟨rfl,ae _ _⟩
 by_cases h2:ac=2
 ·subst h2
  go_enter Tryz.func178,Tryz.ntmps178
  go_wp2_with fail
  go_ret
  exact ⟨rfl,ae _ _⟩
 have e1:(ac == 1)=false:=beq_false_of_ne h1;have e2:(ac == 2)=false:=beq_false_of_ne h2;have hv:aD.ff ⟨ix,sb,nm,ty,ac,mp,st,mx,lo,hi,df⟩=0:=if_neg (fun h=>h.elim h1 h2);rw [hv];clear hv h1 h2;go_enter Tryz.func178,Tryz.ntmps178
 go_wp2_with fail
 go_ret
 exact ⟨rfl,ae _ _⟩
def kc (t:Int):Array Value:=#[.string (T (Ty.kd t).name),.int .i64 ((Ty.kd t).size:Int),.int .i64 ((Ty.kd t).bits:Int),.bool (Ty.kd t).lM]
def l8:Array Value:=((List.range 32).flatMap fun (t:Nat)=>(kc (t:Int)).toList).toArray
theorem E9:∀ (k:Nat) (_:k < 32) (w:World),(Instr.index 256 (.agg l8) (.int .i64 (k:Int))).run Tryz.prog w=.ok (.agg (kc (k:Int))) w
 | 0,_=>fun _=>by kernel_rfl
 | 1,_=>fun _=>by kernel_rfl
 | 2,_=>fun _=>by kernel_rfl
 | 3,_=>fun _=>by kernel_rfl
 | 4,_=>fun _=>by kernel_rfl
 | 5,_=>fun _=>by kernel_rfl
 | 6,_=>fun _=>by kernel_rfl
 | 7,_=>fun _=>by kernel_rfl
 | 8,_=>fun _=>by kernel_rfl
 | 9,_=>fun _=>by kernel_rfl
 | 10,_=>fun _=>by kernel_rfl
 | 11,_=>fun _=>by kernel_rfl
 | 12,_=>fun _=>by kernel_rfl
 | 13,_=>fun _=>by kernel_rfl
 | 14,_=>fun _=>by kernel_rfl
 | 15,_=>fun _=>by kernel_rfl
 | 16,_=>fun _=>by kernel_rfl
 | 17,_=>fun _=>by kernel_rfl
 | 18,_=>fun _=>by kernel_rfl
 | 19,_=>fun _=>by kernel_rfl
 | 20,_=>fun _=>by kernel_rfl
 | 21,_=>fun _=>by kernel_rfl
 | 22,_=>fun _=>by kernel_rfl
 | 23,_=>fun _=>by kernel_rfl
 | 24,_=>fun _=>by kernel_rfl
 | 25,_=>fun _=>by kernel_rfl
 | 26,_=>fun _=>by kernel_rfl
 | 27,_=>fun _=>by kernel_rfl
 | 28,_=>fun _=>by kernel_rfl
 | 29,_=>fun _=>by kernel_rfl
 | 30,_=>fun _=>by kernel_rfl
 | 31,_=>fun _=>by kernel_rfl
 | k + 32,h=>absurd h (by omega)
theorem below_setRow {B:Nat} {a w:World} (h:Below B a w) {g:Nat} (hg:B<=g) (cs:Array Value):Below B a (w.setRow g cs) :=
 ⟨h.os,h.tape,h.output,by rw [size_setRow]; exact h.size,fun b hb=>(setRow_other w g b cs (by omega)).trans (h.block b hb)⟩
theorem CJ (w:World):Calls Tryz.prog 179 #[] w fun e w'=>e=.returned (.agg l8)/\Below w.heap.size w w':=by
 go_enter Tryz.func179,Tryz.ntmps179
 go_wp2_with (refine wpList_store_row rfl 256 (.tmp 0) (.tmp 12) rfl w.heap.size l8 (by kernel_rfl) (by kernel_rfl) 256 _ (heap_alloc_new w _) (by kernel_rfl) (by kernel_rfl) (by kernel_rfl) ?_)
 exact bodyPost_ret (v:=.agg l8) (results_cell_row Tryz.results179 _ _ w.heap.size 256 l8 (0,0) _ (by kernel_rfl) (setRow_heap _ _ _ _ _ _ (heap_alloc_new w _)) Tryz.underlying256 rfl (by kernel_rfl)) rfl ⟨rfl,below_setRow (ae w _) lq _⟩
theorem mo (t:Int) (w:World):Calls Tryz.prog 125 #[.int .i64 t] w fun e w'=>e=.returned (.agg #[.string (T (Ty.kd t).name),.int .i64 ((Ty.kd t).size:Int),.int .i64 ((Ty.kd t).bits:Int),.bool (Ty.kd t).lM])/\Below w.heap.size w w':=by
 by_cases h:0<=t/\t < 32
 ·obtain ⟨h1,h2⟩:=h
  obtain ⟨k,rfl⟩:∃ k:Nat,t=(k:Int):=⟨t.toNat,by omega⟩;have hr:=E9 k (by omega);unfold kc at hr;generalize (Ty.kd (k:Int)).name=nm at *;generalize (Ty.kd (k:Int)).size=sz at *;generalize (Ty.kd (k:Int)).bits=bt at *;generalize (Ty.kd (k:Int)).lM=sg at *;generalize hkc:l8=K at *;have C:=zq (fun w=>CJ w);rw [hkc] at C;clear hkc;go_enter Tryz.func125,Tryz.ntmps125
  go_wp2_with fail
  refine (C.out _).mono ?_;rintro e w1 ⟨rfl,b1⟩;have KB:=ao.made b1;have F:=KB.four;have hlt:=KB.lt;go_wp2_with fail
  have K4:=KB.Ow (.string (T nm)) (.int .i64 (sz:Int)) (.int .i64 (bt:Int)) (.bool sg);have F4:=K4.four.1;exact bodyPost_ret (v:=.agg #[.string (T nm),.int .i64 (sz:Int),.int .i64 (bt:Int),.bool sg]) (by simp [results,Tryz.results125,go_sem,F4]) rfl ⟨rfl,((((aa (ae _ _) b1 lq).setCell (p:=⟨w.heap.size,0,none⟩) lq _).setCell (p:=⟨w.heap.size,1,none⟩) lq _).setCell (p:=⟨w.heap.size,2,none⟩) lq _).setCell (p:=⟨w.heap.size,3,none⟩) lq _⟩
 ·have e:Ty.kd t=Ty.Lm:=Ty.zo (by
   intro hm;unfold Ty.CC at hm;simp only [List.mem_cons,List.not_mem_nil,or_false] at hm;omega)
  rw [e];rcases (show t < 0\/(0<=t/\32<=t) by omega) with h | ⟨h1,h2⟩
  all_goals
   clear e;go_enter Tryz.func125,Tryz.ntmps125
   go_wp2_with fail
   exact bodyPost_ret (v:=.agg #[.string (T []),.int .i64 0,.int .i64 0,.bool false]) (by simp [results,Tryz.results125,go_sem]; rfl) rfl ⟨rfl,ae _ _⟩
theorem Cw (t:Int) (w:World):Calls Tryz.prog 200 #[.int .i64 t] w fun e w'=>e=.returned (.int .i64 ((Ty.kd t).size:Int))/\Below w.heap.size w w':=by
 have C:=zq (mo t w);generalize (Ty.kd t).name=nm at *;generalize (Ty.kd t).size=sz at *;generalize (Ty.kd t).bits=bt at *;generalize (Ty.kd t).lM=sg at *;have Zp:∀ w:World,(Instr.field 199 (.agg #[.string (T nm),.int .i64 (sz:Int),.int .i64 (bt:Int),.bool sg]) 1).run Tryz.prog w=.ok (.int .i64 (sz:Int)) w:=fun _=>by kernel_rfl
 go_enter Tryz.func200,Tryz.ntmps200
 go_wp2_with fail
 refine (C.out).mono ?_;rintro e w1 ⟨rfl,b1⟩;go_wp2_with fail
 go_ret
 exact ⟨rfl,b1⟩
theorem qm (t:Int) (w:World):Calls Tryz.prog 88 #[.int .i64 t] w fun e w'=>e=.returned (.int .i64 ((Ty.kd t).bits:Int))/\Below w.heap.size w w':=by
 have C:=zq (mo t w);generalize (Ty.kd t).name=nm at *;generalize (Ty.kd t).size=sz at *;generalize (Ty.kd t).bits=bt at *;generalize (Ty.kd t).lM=sg at *;have Zp:∀ w:World,(Instr.field 199 (.agg #[.string (T nm),.int .i64 (sz:Int),.int .i64 (bt:Int),.bool sg]) 2).run Tryz.prog w=.ok (.int .i64 (bt:Int)) w:=fun _=>by kernel_rfl
 go_enter Tryz.func88,Tryz.ntmps88
 go_wp2_with fail
 refine (C.out).mono ?_;rintro e w1 ⟨rfl,b1⟩;go_wp2_with fail
 go_ret
 exact ⟨rfl,b1⟩
theorem uP (t:Int):(Ty.kd t).name≠[]\/Ty.kd t=Ty.Lm:=by
 rcases Ty.lF t with h | ⟨_,h⟩
 ·left
  rcases h with rfl | rfl | rfl | rfl | rfl | rfl | rfl | rfl | rfl | rfl | rfl <;> decide
 ·exact .inr h
def wL (t:Int):Bool:=!(Ty.kd t).name.isEmpty
theorem xN (t:Int) (w:World):Calls Tryz.prog 120 #[.int .i64 t] w fun e w'=>e=.returned (.bool (wL t))/\Below w.heap.size w w':=by
 have C:=zq (mo t w);unfold wL;rcases uP t with h | h
 ·generalize (Ty.kd t).name=nm at *
  generalize (Ty.kd t).size=sz at *;generalize (Ty.kd t).bits=bt at *;generalize (Ty.kd t).lM=sg at *;have h1:nm.isEmpty=false:=by simpa using h
  rw [h1];have h2:=pA nm;have h3:T nm≠T []:=Qp h;clear h;go_enter Tryz.func120,Tryz.ntmps120
  go_wp2_with fail
  refine (C.out).mono ?_;rintro e w1 ⟨rfl,b1⟩;go_wp2_with fail
  go_ret
  exact ⟨rfl,b1⟩
 ·rw [h] at C ⊢
  unfold Ty.Lm at C ⊢;dsimp only at C ⊢;rw [show T []=(⟨#[]⟩:ByteArray) from rfl] at C;go_enter Tryz.func120,Tryz.ntmps120
  go_wp2_with fail
  refine (C.out).mono ?_;rintro e w1 ⟨rfl,b1⟩;go_wp2_with fail
  go_ret
  exact ⟨rfl,b1⟩
def r9 (p:Int×Int×Bool) (w:World) (e:Ending) (w':World):Prop:=e=.returned (.tuple #[.int .i64 p.1,.int .i64 p.2.1,.bool p.2.2])/\Below w.heap.size w w'
theorem Gm {p:Int×Int×Bool} {w w':World} {a b:Int} {x:Bool} (h:p=(a,b,x)) (hb:Below w.heap.size w w'):r9 p w (.returned (.tuple #[.int .i64 a,.int .i64 b,.bool x])) w':=by
 subst h; exact ⟨rfl,hb⟩
theorem wi (t:Int) (w:World):Calls Tryz.prog 118 #[.int .i64 t] w (r9 (Ty.gV t) w):=by
 have C:=mo t w;have hl:Ty.gV t=if (Ty.kd t).bits=0 then (0,0,false) else if (Ty.kd t).lM=true then (-((2 ^ ((Ty.kd t).bits - 1):Nat):Int),((2 ^ ((Ty.kd t).bits - 1):Nat):Int) - 1,true) else (0,((2 ^ (Ty.kd t).bits:Nat):Int) - 1,true):=rfl
 have hc:(Ty.kd t).bits=0\/((Ty.kd t).lM=true/\((Ty.kd t).bits=8\/(Ty.kd t).bits=16\/(Ty.kd t).bits=32\/(Ty.kd t).bits=64))\/((Ty.kd t).lM=false/\((Ty.kd t).bits=1\/(Ty.kd t).bits=8\/(Ty.kd t).bits=16\/(Ty.kd t).bits=32)):=by
  rcases Ty.lF t with h | ⟨_,h⟩
  ·rcases h with rfl | rfl | rfl | rfl | rfl | rfl | rfl | rfl | rfl | rfl | rfl <;> decide
  ·rw [h]; exact .inl rfl
 generalize (Ty.kd t).name=nm at *;generalize (Ty.kd t).size=sz at *;generalize (Ty.kd t).bits=bt at *;generalize (Ty.kd t).lM=sg at *;rcases hc with rfl | ⟨rfl,rfl | rfl | rfl | rfl⟩ | ⟨rfl,rfl | rfl | rfl | rfl⟩
 all_goals
  have HL:=zq hl;clear hl;replace C:=zq C;go_enter Tryz.func118,Tryz.ntmps118
  go_wp2_with fail
  refine (C.out).mono ?_;rintro e w1 ⟨rfl,b1⟩;go_wp2_with fail
 all_goals first
  | (go_ret3; exact Gm (by rw [HL.out]; rfl) (b1.alloc b1.size _))
  | (go_quiet (fail); go_wp2_with fail; go_ret3; exact Gm (by rw [HL.out]; rfl) (below_drewN (b1.alloc b1.size _) _))
theorem fI (x:Int) (w:World) (h1:1<=x) (h2:x<=8):Calls Tryz.prog 181 #[.int .i64 x] w fun e w'=>e=.returned (.bool true)/\w=w':=by
 go_enter Tryz.func181,Tryz.ntmps181
 go_wp2
 go_ret
 exact ⟨by simp [h2],rfl⟩
theorem vo (x:Int) (w:World) (h:¬ (1<=x/\x<=8)):Calls Tryz.prog 181 #[.int .i64 x] w fun e w'=>e=.returned (.bool false)/\w=w':=by
 by_cases h1:1<=x
 ·have h2:¬ x<=8:=fun h2=>h ⟨h1,h2⟩
  clear h;go_enter Tryz.func181,Tryz.ntmps181
  go_wp2
  all_goals
   go_ret
   exact ⟨by simp <;> omega,rfl⟩
 ·clear h
  go_enter Tryz.func181,Tryz.ntmps181
  go_wp2
  all_goals
   go_ret
   exact ⟨by simp <;> omega,rfl⟩
theorem J2 {A:Option Addr} {n c:Nat} (x m:Int) (w:World) (h:¬ (1<=x/\x<=8)) :
  Calls Tryz.prog 199 #[.slice A n c,.int .i64 x,.int .u64 m] w fun e w'=>e=.returned (.tuple #[.slice none 0 0,.int .i64 1])/\w=w':=by
 go_enter Tryz.func199,Tryz.ntmps199
 go_wp2_with (go_at_call 181; refine (vo _ _ h).mono ?_; rintro e w' ⟨rfl,rfl⟩)
 go_ret2
 exact ⟨rfl,rfl⟩
theorem jr (k:Nat):(2:Int) ^ (8 * k)=((256 ^ k:Nat):Int):=by
 rw [Int.pow_mul]; simp
theorem x_ (m j:Nat):((m:Int) / 2 ^ (8 * j)) % 256=((UInt8.ofNat (m / 256 ^ j)).toNat:Int):=by
 rw [jr,<- Int.natCast_ediv,UInt8.toNat_ofNat'];simp
theorem BH {A:Option Addr} {n c:Nat} (k m:Nat) (w:World) (h1:1<=k) (h2:k<=8) (hm:m < 18446744073709551616) (h:256 ^ k<=m) :
  Calls Tryz.prog 199 #[.slice A n c,.int .i64 (k:Int),.int .u64 (m:Int)] w fun e w'=>e=.returned (.tuple #[.slice none 0 0,.int .i64 9])/\w=w':=by
 have hk:k < 8:=by
  rcases Nat.lt_or_ge k 8 with hk | hk
  ·exact hk
  ·obtain rfl:k=8:=by omega
   omega
 have ht:((m:Int) / 2 ^ (8 * k) != 0)=true:=by
  rw [jr,bne_iff_ne,<- Int.natCast_ediv];have:=Nat.div_pos h (Nat.pow_pos (by decide:0 < 256));omega
 clear h;go_enter Tryz.func199,Tryz.ntmps199
 go_wp2_with (first | (go_at_call 181; refine (fI _ _ (by omega) (by omega)).mono ?_; rintro e w' ⟨rfl,rfl⟩) | fail)
 go_ret2
 exact ⟨rfl,rfl⟩
theorem xD {A:Option Addr} {n c B:Nat} {l:List UInt8} (k m:Nat) (w:World) (hb:RB w B A n c l) (hn:n < 140737488355000) (hB:B<=w.heap.size) (h1:1<=k) (h2:k<=8) (hm:m < 18446744073709551616) (h:m < 256 ^ k) :
  Calls Tryz.prog 199 #[.slice A n c,.int .i64 (k:Int),.int .u64 (m:Int)] w fun e w' =>
   ∃ A1 c1,e=.returned (.tuple #[.slice A1 (n + k) c1,.int .i64 0])/\OB w' w.heap.size A1 (n + k) c1 (l ++ Oct.lb k m)/\Below w.heap.size w w':=by
 have ht:((m:Int) / 2 ^ (8 * k) != 0)=false:=by
  rw [jr,bne_eq_false_iff_eq,<- Int.natCast_ediv,Nat.div_eq_of_lt h]; rfl
 clear h
 by_cases hk:k < 8
 all_goals
  go_enter Tryz.func199,Tryz.ntmps199
  go_wp2_with (first
   | (go_at_call 181; refine (fI _ _ (by omega) (by omega)).mono ?_; rintro e w' ⟨rfl,rfl⟩)
   | (at_make; refine fO od rfl (.tmp 26) (.tmp 30) rfl .i64 .i64 n (n + k) rfl rfl (by omega) (by omega) w.heap.size lq ?_; intro w1 hw1 hb1 hs1)
   | (refine wa od rfl (.tmp 32) (.tmp 33) rfl rfl rfl w.heap.size hw1 (hb.below (hb1.mono hB)) lq ?_; intro w2 hw2 hg2 hs2; have hb2:=bQ hg2 hw1.lt (by omega))
   | fail)
  rw [List.drop_of_length_le (by simp),List.append_nil] at hw2;go_loopw [8,36] (fun v i wr=>∃ (j:Nat) (A1:Option Addr) (c1:Nat),j<=k/\i=.int .i64 j/\v=.slice A1 (n + j) c1/\OB wr w.heap.size A1 (n + j) c1 (l ++ Oct.lb j m)/\Below w.heap.size w wr) (fun _ i _=>k - (intOf i).toNat)
  case atStart=>exact ⟨0,_,_,Nat.zero_le _,rfl,rfl,by simpa [Oct.lb] using hw2,hb1.trans hb2⟩
  case round =>
   obtain ⟨j,A1,c1,hj,rfl,rfl,hown,hbel⟩:=hrel
   by_cases hlt:j < k
   ·go_wp2_with (at_builtin; refine mU od rfl (.tmp 39) (.tmp 46) rfl rfl rfl w.heap.size hown (UInt8.ofNat (m / 256 ^ j)) (x_ m j) (by omega) hbel.size ?_; intro A2 c2 w3 h3 hb3 _ _)
    go_roundw
    case rel=>exact ⟨j + 1,A2,c2,by omega,by go_num,rfl,by rw [Oct.lb,<- List.append_assoc]; exact h3,hbel.trans hb3⟩
    case measure=>simp [intOf]; omega
   ·obtain rfl:j=k:=by omega
    go_wp2
    go_ret2
    exact ⟨_,_,rfl,hown,hbel⟩
theorem Je {A:Option Addr} {n c:Nat} (x p:Int) (w:World) (h:¬ (1<=x/\x<=8)\/p < 0\/(n:Int) < p) :
  Calls Tryz.prog 127 #[.slice A n c,.int .i64 p,.int .i64 x] w fun e w'=>e=.returned (.tuple #[.int .u64 0,.int .i64 1])/\w=w':=by
 by_cases hx:1<=x/\x<=8
 ·have h':p < 0\/(n:Int) < p:=h.resolve_left (fun h=>h hx)
  clear h;obtain ⟨h1,h2⟩:=hx
  by_cases hp:p < 0
  ·go_enter Tryz.func127,Tryz.ntmps127
   go_wp2_with (go_at_call 181; refine (fI _ _ h1 h2).mono ?_; rintro e w' ⟨rfl,rfl⟩)
   go_ret2
   exact ⟨rfl,rfl⟩
  ·have hq:(n:Int) < p:=h'.resolve_left hp
   clear h';go_enter Tryz.func127,Tryz.ntmps127
   go_wp2_with (go_at_call 181; refine (fI _ _ h1 h2).mono ?_; rintro e w' ⟨rfl,rfl⟩)
   go_ret2
   exact ⟨rfl,rfl⟩
 ·clear h
  go_enter Tryz.func127,Tryz.ntmps127
  go_wp2_with (go_at_call 181; refine (vo _ _ hx).mono ?_; rintro e w' ⟨rfl,rfl⟩)
  go_ret2
  exact ⟨rfl,rfl⟩
theorem Bw {A:Option Addr} {n c:Nat} (x p:Int) (w:World) (h1:1<=x) (h2:x<=8) (h3:0<=p) (h4:p<=(n:Int)) (hn:n<=9223372036854775807) (h:(n:Int) - p < x) :
  Calls Tryz.prog 127 #[.slice A n c,.int .i64 p,.int .i64 x] w fun e w'=>e=.returned (.tuple #[.int .u64 0,.int .i64 2])/\w=w':=by
 go_enter Tryz.func127,Tryz.ntmps127
 go_wp2_with (go_at_call 181; refine (fI _ _ h1 h2).mono ?_; rintro e w' ⟨rfl,rfl⟩)
 go_ret2
 exact ⟨rfl,rfl⟩
theorem JM {v a j:Nat} (hv:v < 256 ^ j) (ha:a < 256) (hj:j < 8):bits .or .u64 (v:Int) (IntKind.u64.wrap ((a:Int) * 2 ^ (8 * j)))=((v + a * 256 ^ j:Nat):Int):=by
 have hp:256 ^ j * 256<=18446744073709551616:=by
  rw [<- Nat.pow_succ];exact Nat.le_trans (Nat.pow_le_pow_right (by decide) (show j + 1<=8 by omega)) (by decide)
 have h1:a * 256 ^ j < 256 ^ j * 256:=by rw [Nat.mul_comm]; exact Nat.mul_lt_mul_of_pos_left ha (Nat.pow_pos (by decide))
 have h2:256 ^ j<=256 ^ j * 256:=Nat.le_mul_of_pos_right _ (by decide);rw [jr,<- Int.natCast_mul,IntKind.wrap_u64,Int.emod_eq_of_lt (by omega) (by omega),u64_or_nat _ _ (by omega) (by omega),Nat.or_comm,nat_join (8 * j),Nat.add_comm]
 ·rw [Nat.pow_mul]; exact Nat.mul_mod_left _ _
 ·rw [Nat.pow_mul]; exact hv
theorem Hx {A:Option Addr} {n c B:Nat} {l:List UInt8} (k p:Nat) (w:World) (hb:RB w B A n c l) (h1:1<=k) (h2:k<=8) (h:p + k<=n) :
  Calls Tryz.prog 127 #[.slice A n c,.int .i64 (p:Int),.int .i64 (k:Int)] w fun e w'=>e=.returned (.tuple #[.int .u64 (Oct.le (Oct.cut l p k):Int),.int .i64 0])/\w=w':=by
 have hn:=hb.lt;have hl:=hb.len;obtain ⟨b,o,rfl,eT,hc⟩:=hb.at_ (by omega);have HL:=zq hl; clear hl;clear hb;go_enter Tryz.func127,Tryz.ntmps127
 go_wp2_with (go_at_call 181; refine (fI _ _ (by omega) (by omega)).mono ?_; rintro e w' ⟨rfl,rfl⟩)
 go_loop [8,32] (fun v i=>∃ j:Nat,j<=k/\i=.int .i64 j/\v=.int .u64 (Oct.le (Oct.cut l p j):Int)) (fun _ i=>k - (intOf i).toNat)
 case atStart=>exact ⟨0,Nat.zero_le _,rfl,by rw [Oct.Fw]; rfl⟩
 case round =>
  obtain ⟨j,hj,rfl,rfl⟩:=hrel
  by_cases hlt:j < k
  ·have hcj:=hc (p + j) (by omega)
   have hx:=nG (l.getD (p + j) 0);generalize hxe:l.getD (p + j) 0=x at *;have HX:=zq hxe; clear hxe hc;generalize Xm:Oct.le (Oct.cut l p j)=v at *;have HV:=zq Xm; clear Xm;go_wp2
   go_round
   case rel =>
    refine ⟨j + 1,by omega,by go_num,?_⟩;have hl:=HL.out;have h3:v < 256 ^ j:=by rw [<- HV.out]; have:=Oct.qJ (Oct.cut l p j); rwa [Oct.ks _ _ _ (by omega)] at this
    rw [JM h3 hx (by omega),Oct.E6 _ _ _ (by omega),Oct.Jn,Oct.ks _ _ _ (by omega),HX.out,HV.out]
   case measure=>simp [intOf]; omega
  ·obtain rfl:j=k:=by omega
   clear hc;go_wp2
   go_ret2
   exact ⟨rfl,rfl⟩
theorem w_ (n b:Nat) {x:Int} (hx:x=(b:Int)) (w:World) (hn:n < 18446744073709551616) (h1:1<=b) (h2:b<=64) :
  Calls Tryz.prog 180 #[.int .u64 (n:Int),.int .i64 x] w fun e w'=>e=.returned (.int .i64 (Oct.lM n b))/\w=w':=by
 subst hx;go_enter Tryz.func180,Tryz.ntmps180
 go_wp2
 go_ret
 exact ⟨eS (by unfold wrap64; rw [IntKind.wrap_u64]; exact Oct.wy n b h1 h2),rfl⟩
theorem JD {A:Option Addr} {n c B:Nat} {l:List UInt8} (x:Int) (m:Nat) (w:World) (hb:RB w B A n c l) (hn:n < 140737488355000) (hB:B<=w.heap.size) (hm:m < 18446744073709551616) :
  Calls Tryz.prog 199 #[.slice A n c,.int .i64 x,.int .u64 (m:Int)] w fun e w' =>
   ∃ A1 c1,e=.returned (.tuple #[.slice A1 (Oct.qc l x m).1.length c1,.int .i64 (Oct.qc l x m).2])/\OB w' w.heap.size A1 (Oct.qc l x m).1.length c1 (Oct.qc l x m).1/\Below w.heap.size w w':=by
 unfold Oct.qc
 by_cases h:1<=x/\x<=8
 ·obtain ⟨k,rfl⟩:=Int.eq_ofNat_of_zero_le (show 0<=x by omega)
  rw [if_pos h]
  by_cases hk:256 ^ k<=m
  ·have e:256 ^ ((k:Nat):Int).toNat<=m:=hk
   rw [if_pos e];exact (BH k m w (by omega) (by omega) hm hk).mono fun e w' ⟨he,hw⟩=>by subst hw; exact ⟨none,0,he,OB.none_ _ _,Below.refl _ _⟩
  ·have e:¬ 256 ^ ((k:Nat):Int).toNat<=m:=hk
   have hl:(l ++ Oct.lb k m).length=n + k:=by rw [List.length_append,Oct.dw,hb.len]
   rw [if_neg e];refine (xD k m w hb hn hB (by omega) (by omega) hm (by omega)).mono fun e w' ⟨A1,c1,he,h1,h2⟩=>⟨A1,c1,?_,?_,h2⟩
   ·show e=.returned (.tuple #[.slice A1 (l ++ Oct.lb k m).length c1,_])
    rw [hl]; exact he
   ·show OB w' _ A1 (l ++ Oct.lb k m).length c1 (l ++ Oct.lb k m)
    rw [hl]; exact h1
 ·rw [if_neg h]
  exact (J2 x m w h).mono fun e w' ⟨he,hw⟩=>by subst hw; exact ⟨none,0,he,OB.none_ _ _,Below.refl _ _⟩
theorem yN {A:Option Addr} {n c B:Nat} {l:List UInt8} (p x:Int) (w:World) (hb:RB w B A n c l) :
  Calls Tryz.prog 127 #[.slice A n c,.int .i64 p,.int .i64 x] w fun e w'=>e=.returned (.tuple #[.int .u64 ((Oct.kX l p x).1:Int),.int .i64 (Oct.kX l p x).2])/\w=w':=by
 have hl:=hb.len;have hn:=hb.lt;unfold Oct.kX
 by_cases h:1<=x/\x<=8/\0<=p/\p<=(l.length:Int)
 ·rw [if_pos h]
  obtain ⟨h1,h2,h3,h4⟩:=h
  by_cases hs:(l.length:Int) - p < x
  ·rw [if_pos hs]
   exact Bw x p w h1 h2 h3 (by omega) hn (by omega)
  ·rw [if_neg hs]
   obtain ⟨k,rfl⟩:=Int.eq_ofNat_of_zero_le (show 0<=x by omega);obtain ⟨q,rfl⟩:=Int.eq_ofNat_of_zero_le h3;exact Hx k q w hb (by omega) (by omega) (by omega)
 ·rw [if_neg h]
  exact Je x p w (by rw [<- hl]; omega)
theorem JU (l:List UInt8) (p x:Int):(Oct.kX l p x).1 < 18446744073709551616:=by
 unfold Oct.kX;split
 ·rename_i h
  split
  ·decide
  ·have h1:=Oct.qJ (Oct.cut l p.toNat x.toNat)
   rw [Oct.ks _ _ _ (by omega)] at h1;exact Nat.lt_of_lt_of_le h1 (Nat.le_trans (Nat.pow_le_pow_right (by decide) (show x.toNat<=8 by omega)) (by decide))
 ·decide
theorem JT {l:List UInt8} {p x:Int} (h:(Oct.kX l p x).2=0):1<=x/\x<=8:=by
 unfold Oct.kX at h;split at h
 ·rename_i h1; exact ⟨h1.1,h1.2.1⟩
 ·simp at h
theorem yk {A:Option Addr} {n c B:Nat} {l:List UInt8} (p x:Int) (w:World) (hb:RB w B A n c l) :
  Calls Tryz.prog 126 #[.slice A n c,.int .i64 p,.int .i64 x] w fun e w'=>e=.returned (.tuple #[.int .i64 (Oct.kS l p x).1,.int .i64 (Oct.kS l p x).2])/\w=w':=by
 have hlt:=JU l p x;have hok:=JT (l:=l) (p:=p) (x:=x);have hg:=yN p x w hb;unfold Oct.kS;generalize Oct.kX l p x=y at *;obtain ⟨y,ye⟩:=y;dsimp only at *;have HG:=zq hg; clear hg
 by_cases he:ye=0
 ·rw [if_pos he]
  obtain ⟨h1,h2⟩:=hok he;clear hok;subst he;go_enter Tryz.func126,Tryz.ntmps126
  go_wp2_with fail
  refine HG.out.mono ?_;rintro e w1 ⟨rfl,rfl⟩;go_wp2_with fail
  refine (w_ y (8 * x.toNat) (by omega) _ hlt (by omega) (by omega)).mono ?_;rintro e w1 ⟨rfl,rfl⟩;go_wp2_with fail
  go_ret2
  exact ⟨rfl,rfl⟩
 ·rw [if_neg he]
  clear hok;have ht:(ye != 0)=true:=by rw [bne_iff_ne]; exact he
  clear he;go_enter Tryz.func126,Tryz.ntmps126
  go_wp2_with fail
  refine HG.out.mono ?_;rintro e w1 ⟨rfl,rfl⟩;go_wp2_with fail
  go_ret2
  exact ⟨rfl,rfl⟩
theorem Nh (t:Int):((Ty.kd t).bits=0/\(Ty.kd t).size=0/\(Ty.kd t).lM=false)\/((Ty.kd t).lM=true/\(Ty.kd t).bits=8 * (Ty.kd t).size/\1<=(Ty.kd t).size/\(Ty.kd t).size<=8)\/((Ty.kd t).lM=false/\1<=(Ty.kd t).bits/\(Ty.kd t).bits<=8 * (Ty.kd t).size/\1<=(Ty.kd t).size/\(Ty.kd t).size<=4/\((Ty.kd t).bits=8 * (Ty.kd t).size\/((Ty.kd t).bits=1/\t=1))):=by
 rcases Ty.lF t with h | ⟨_,h⟩
 ·rcases h with rfl | rfl | rfl | rfl | rfl | rfl | rfl | rfl | rfl | rfl | rfl <;> decide
 ·rw [h]; exact .inl ⟨rfl,rfl,rfl⟩
theorem Ks (k:Nat):256 ^ k=2 ^ (8 * k):=by rw [Nat.pow_mul]
theorem tG {l:List UInt8} {k:Nat} (h:l.length=k) (h1:1<=k) (h2:k<=8):Oct.kX l 0 (k:Int)=(Oct.le l,0):=by
 unfold Oct.kX;rw [if_pos (by omega),if_neg (by omega),Int.toNat_natCast,show (0:Int).toNat=0 from rfl];subst h;simp [Oct.cut]
theorem tT {l:List UInt8} {k:Nat} (h:l.length=k) (h1:1<=k) (h2:k<=8):Oct.kS l 0 (k:Int)=(Oct.lM (Oct.le l) (8 * k),0):=by
 unfold Oct.kS;rw [tG h h1 h2,if_pos rfl,Int.toNat_natCast]
theorem kf {A:Option Addr} {n c B:Nat} {l:List UInt8} (t:Int) (w:World) (hb:RB w B A n c l) (hB:B<=w.heap.size) :
  Calls Tryz.prog 81 #[.int .i64 t,.slice A n c] w fun e w'=>e=.returned (.tuple #[.int .i64 (Ty.cV t l).1,.int .i64 (Ty.cV t l).2])/\Below w.heap.size w w':=by
 have hl:=hb.len;have hn:=hb.lt;have C:=mo t w;have hk:=Nh t;have hd:Ty.cV t l=if (Ty.kd t).bits=0 then (0,15) else if l.length < (Ty.kd t).size then (0,2) else if (Ty.kd t).size < l.length then (0,3)
  else if (Ty.kd t).lM=true then (Oct.lM (Oct.le l) (8 * (Ty.kd t).size),0) else if 2 ^ (Ty.kd t).bits<=Oct.le l then (0,9) else ((Oct.le l:Int),0):=rfl
 generalize (Ty.kd t).name=nm at *;generalize (Ty.kd t).lM=sg at *;generalize (Ty.kd t).size=sz at *;generalize (Ty.kd t).bits=bt at *;generalize Ty.cV t l=d at *;rw [hl] at hd;replace C:=zq C;have HL:=zq hl; clear hl
 by_cases h0:bt=0
 ·subst h0
  rw [if_pos rfl] at hd;have HD:=zq hd; clear hd hk;go_enter Tryz.func81,Tryz.ntmps81
  go_wp2_with fail
  refine (C.out).mono ?_;rintro e w1 ⟨rfl,b1⟩;go_wp2_with fail
  go_ret2
  exact ⟨by rw [HD.out]; rfl,b1.alloc b1.size _⟩
 ·rw [if_neg h0] at hd
  have hbz:((bt:Int) == 0)=false:=by rw [beq_eq_false_iff_ne]; omega
  by_cases hlt:n < sz
  ·rw [if_pos hlt] at hd
   have HD:=zq hd; clear hd hk h0;go_enter Tryz.func81,Tryz.ntmps81
   go_wp2_with fail
   refine (C.out).mono ?_;rintro e w1 ⟨rfl,b1⟩;go_wp2_with fail
   go_ret2
   exact ⟨by rw [HD.out]; rfl,b1.alloc b1.size _⟩
  ·rw [if_neg hlt] at hd
   by_cases hgt:sz < n
   ·rw [if_pos hgt] at hd
    have HD:=zq hd; clear hd hk h0;go_enter Tryz.func81,Tryz.ntmps81
    go_wp2_with fail
    refine (C.out).mono ?_;rintro e w1 ⟨rfl,b1⟩;go_wp2_with fail
    go_ret2
    exact ⟨by rw [HD.out]; rfl,b1.alloc b1.size _⟩
   ·rw [if_neg hgt] at hd
    obtain rfl:n=sz:=by omega
    rcases hk with ⟨h,_⟩ | ⟨rfl,e1,e2,e3⟩ | ⟨rfl,e1,e2,e3,e4,e5⟩
    ·exact absurd h h0
    ·rw [if_pos rfl] at hd
     have HD:=zq hd; clear hd h0;have G:=fun (w1:World) (h:Below w.heap.size w w1)=>yk 0 (n:Int) w1 (hb.below (h.mono hB))
     rw [tT HL.out e2 e3] at G;dsimp only at G;replace G:=zq G;clear e1;go_enter Tryz.func81,Tryz.ntmps81
     go_wp2_with fail
     refine (C.out).mono ?_;rintro e w1 ⟨rfl,b1⟩;have b2:=b1.alloc b1.size (.cells #[.string (T nm),.int .i64 (n:Int),.int .i64 (bt:Int),.bool true] 199);go_wp2_with fail
     refine (G.out _ b2).mono ?_;rintro e _ ⟨rfl,rfl⟩;go_wp2_with fail
     go_ret2
     exact ⟨by rw [HD.out]; rfl,b2⟩
    ·rw [if_neg (by decide)] at hd
     have hle:=Oct.qJ l;rw [HL.out] at hle;have hle2:Oct.le l < 4294967296:=Nat.lt_of_lt_of_le hle (Nat.le_trans (Nat.pow_le_pow_right (by decide) e4) (by decide));have G:=fun (w1:World) (h:Below w.heap.size w w1)=>yN 0 (n:Int) w1 (hb.below (h.mono hB))
     rw [tG HL.out e3 (by omega)] at G;dsimp only at G;replace G:=zq G;generalize Oct.le l=v at *
     by_cases hw:2 ^ bt<=v
     ·rw [if_pos hw] at hd
      have HD:=zq hd; clear hd h0;have hbt:bt < 8 * n:=by
       rcases Nat.lt_or_ge bt (8 * n) with h | h
       ·exact h
       ·obtain rfl:bt=8 * n:=by omega
        rw [Ks] at hle;omega
      have ht:((v:Int) / 2 ^ bt != 0)=true:=by
       rw [show (v:Int) / 2 ^ bt=((v / 2 ^ bt:Nat):Int) by simp,bne_iff_ne];have:=Nat.div_pos hw (Nat.pow_pos (by decide));omega
      clear hle hw e5;go_enter Tryz.func81,Tryz.ntmps81
      go_wp2_with fail
      refine (C.out).mono ?_;rintro e w1 ⟨rfl,b1⟩;have b2:=b1.alloc b1.size (.cells #[.string (T nm),.int .i64 (n:Int),.int .i64 (bt:Int),.bool false] 199);go_wp2_with fail
      refine (G.out _ b2).mono ?_;rintro e _ ⟨rfl,rfl⟩;go_wp2_with fail
      go_ret2
      exact ⟨by rw [HD.out]; rfl,b2⟩
     ·rw [if_neg hw] at hd
      have HD:=zq hd; clear hd h0;have ht:((v:Int) / 2 ^ bt != 0)=false:=by
       rw [show (v:Int) / 2 ^ bt=((v / 2 ^ bt:Nat):Int) by simp,bne_eq_false_iff_eq,Nat.div_eq_of_lt (by omega)];rfl
      clear hle hw e5
      by_cases hbt:bt < 8 * n
      all_goals
       go_enter Tryz.func81,Tryz.ntmps81
       go_wp2_with fail
       refine (C.out).mono ?_;rintro e w1 ⟨rfl,b1⟩;have b2:=b1.alloc b1.size (.cells #[.string (T nm),.int .i64 (n:Int),.int .i64 (bt:Int),.bool false] 199);go_wp2_with fail
       refine (G.out _ b2).mono ?_;rintro e _ ⟨rfl,rfl⟩;go_wp2_with fail
       go_ret2
       exact ⟨by rw [HD.out]; rfl,b2⟩
theorem Ik {l:List UInt8} (h:∀ i,i < l.length->Ty.seen (l.getD i 0)=true):l.all Ty.seen=true:=by
 rw [List.all_eq_true];intro x hx;obtain ⟨i,hi,rfl⟩:=List.getElem_of_mem hx;have:=h i hi;simpa [List.getD,hi] using this
theorem uJ {l:List UInt8} {i:Nat} (hi:i < l.length) (h:Ty.seen (l.getD i 0)=false):l.all Ty.seen=false:=by
 cases hb:l.all Ty.seen with
 | false=>rfl
 | true =>
  rw [List.all_eq_true] at hb;have:=hb l[i] (List.getElem_mem hi);rw [show l.getD i 0=l[i] by simp [List.getD,hi]] at h;rw [h] at this;cases this
theorem uV {A:Option Addr} {n c B:Nat} {l:List UInt8} (w:World) (hb:RB w B A n c l):Calls Tryz.prog 132 #[.slice A n c] w fun e w'=>e=.returned (.bool (l.all Ty.seen))/\w=w':=by
 have hn:=hb.lt;have HL:=zq hb.len;go_enter Tryz.func132,Tryz.ntmps132
 go_wp2_with fail
 go_loop [7] (fun i=>∃ k:Nat,k<=n/\i=.int .i64 k/\∀ j,j < k->Ty.seen (l.getD j 0)=true) (fun i=>n - (intOf i).toNat)
 case atStart=>exact ⟨0,by omega,rfl,fun j hj=>absurd hj (by omega)⟩
 case round =>
  obtain ⟨k,hk,rfl,hall⟩:=hrel;have HA:=zq hall; clear hall
  by_cases hlt:k < n
  ·obtain ⟨b,o,rfl,eT,hc⟩:=hb.at_ (show 0 < n by omega)
   have hck:=hc k hlt;have hx:=nG (l.getD k 0);generalize hxe:l.getD k 0=x at *;have HX:=zq hxe; clear hxe hc hb;rcases (show x.toNat < 32\/(32<=x.toNat/\126 < x.toNat)\/(32<=x.toNat/\x.toNat<=126) by omega) with h | ⟨h1,h2⟩ | ⟨h1,h2⟩
   ·go_wp2_with fail
    go_ret
    refine ⟨?_,rfl⟩;rw [uJ (i:=k) (by have:=HL.out; omega) (by rw [HX.out]; exact decide_eq_false (by omega))];rfl
   ·go_wp2_with fail
    go_ret
    refine ⟨?_,rfl⟩;rw [uJ (i:=k) (by have:=HL.out; omega) (by rw [HX.out]; exact decide_eq_false (by omega))];rfl
   ·go_wp2_with fail
    go_round
    case rel =>
     refine ⟨k + 1,by omega,by go_num,fun j hj=>?_⟩;rcases Nat.lt_or_ge j k with h | h
     ·exact HA.out j h
     ·obtain rfl:j=k:=by omega
      rw [HX.out]; exact decide_eq_true ⟨h1,h2⟩
    case measure=>simp [intOf] <;> omega
  ·obtain rfl:k=n:=by omega
   have HS:=zq (Ik (l:=l) fun i hi=>HA.out i (by have:=HL.out; omega));go_wp2_with fail
   go_ret
   exact ⟨by rw [HS.out]; rfl,rfl⟩
theorem Jd (t most:Int) (l:List UInt8):Ty.ar t most l=if (Ty.kd t).name=[] then 15 else if 0 < (Ty.kd t).bits then (Ty.cV t l).2 else if most < (l.length:Int)\/256 < (l.length:Int) then 3 else if t=9/\l.all Ty.seen=false then 4 else 0:=rfl
theorem AS {A:Option Addr} {n c B:Nat} {l:List UInt8} (t most:Int) (w:World) (hb:RB w B A n c l) (hB:B<=w.heap.size) :
  Calls Tryz.prog 90 #[.int .i64 t,.int .i64 most,.slice A n c] w fun e w'=>e=.returned (.int .i64 (Ty.ar t most l))/\Below w.heap.size w w':=by
 have hl:=hb.len;have hn:=hb.lt;have C:=mo t w;have D:=fun (w1:World) (h:Below w.heap.size w w1)=>kf t w1 (hb.below (h.mono hB)) (Nat.le_trans hB h.size)
 have P:=fun (w1:World) (h:Below w.heap.size w w1)=>uV w1 (hb.below (h.mono hB))
 have hv:=Jd t most l;rw [hl] at hv;rcases uP t with h | h
 ·rw [if_neg h] at hv
  generalize Ty.ar t most l=v at *;generalize Ty.cV t l=d at *;generalize l.all Ty.seen=se at *;obtain ⟨dv,de⟩:=d;generalize (Ty.kd t).name=nm at *;generalize (Ty.kd t).lM=sg at *;generalize (Ty.kd t).size=sz at *;generalize (Ty.kd t).bits=bt at *;dsimp only at hv;have h1:nm.isEmpty=false:=by simpa using h
  have h2:=pA nm;have h3:T nm≠T []:=Qp h;have h4:(nm == [])=false:=by simpa using h
  replace C:=zq C; replace D:=zq D; replace P:=zq P;clear h hl
  by_cases hbt:0 < bt
  ·rw [if_pos hbt] at hv
   subst hv;go_enter Tryz.func90,Tryz.ntmps90
   go_wp2_with fail
   refine (C.out).mono ?_;rintro e w1 ⟨rfl,b1⟩;have b2:=b1.alloc b1.size (.cells #[.string (T nm),.int .i64 (sz:Int),.int .i64 (bt:Int),.bool sg] 199);go_wp2_with fail
   refine (D.out _ b2).mono ?_;rintro e w3 ⟨rfl,b3⟩;go_wp2_with fail
   go_ret
   exact ⟨rfl,aa b2 b3 lq⟩
  ·rw [if_neg hbt] at hv
   obtain rfl:bt=0:=by omega
   by_cases hbig:most < (n:Int)\/256 < (n:Int)
   ·rw [if_pos hbig] at hv
    subst hv;rcases (show (most<=256/\most < (n:Int))\/(256 < most/\256 < n) by omega) with ⟨m1,m2⟩ | ⟨m1,m2⟩
    all_goals
     clear hbig;go_enter Tryz.func90,Tryz.ntmps90
     go_wp2_with fail
     refine (C.out).mono ?_;rintro e w1 ⟨rfl,b1⟩;have b2:=b1.alloc b1.size (.cells #[.string (T nm),.int .i64 (sz:Int),.int .i64 ((0:Nat):Int),.bool sg] 199);go_wp2_with fail
     go_ret
     exact ⟨rfl,b2⟩
   ·rw [if_neg hbig] at hv
    have m1:(n:Int)<=most:=by omega
    have m2:(n:Int)<=256:=by omega
    clear hbig
    by_cases ht:t=9
    ·subst ht
     have HV:=zq hv; clear hv
     by_cases hmm:most<=256
     all_goals
      go_enter Tryz.func90,Tryz.ntmps90
      go_wp2_with fail
      refine (C.out).mono ?_;rintro e w1 ⟨rfl,b1⟩;have b2:=b1.alloc b1.size (.cells #[.string (T nm),.int .i64 (sz:Int),.int .i64 0,.bool sg] 199);go_wp2_with fail
      refine (P.out _ b2).mono ?_;rintro e _ ⟨rfl,rfl⟩;cases se with
      | true =>
       go_wp2_with fail
       go_ret
       exact ⟨by rw [HV.out]; rfl,b2⟩
      | false =>
       go_wp2_with fail
       go_ret
       exact ⟨by rw [HV.out]; rfl,b2⟩
    ·rw [if_neg (fun h=>ht h.1)] at hv
     subst hv;have ht1:(t == 9)=false:=by rw [beq_eq_false_iff_ne]; exact ht
     clear ht
     by_cases hmm:most<=256
     all_goals
      go_enter Tryz.func90,Tryz.ntmps90
      go_wp2_with fail
      refine (C.out).mono ?_;rintro e w1 ⟨rfl,b1⟩;have b2:=b1.alloc b1.size (.cells #[.string (T nm),.int .i64 (sz:Int),.int .i64 0,.bool sg] 199);go_wp2_with fail
      go_ret
      exact ⟨rfl,b2⟩
 ·rw [h,if_pos (show Ty.Lm.name=[] from rfl)] at hv
  rw [h] at C;unfold Ty.Lm at C;dsimp only at C;rw [show T []=(⟨#[]⟩:ByteArray) from rfl,show ((0:Nat):Int)=0 from rfl] at C;rw [hv];replace C:=zq C;clear hv h D P hl;go_enter Tryz.func90,Tryz.ntmps90
  go_wp2_with fail
  refine (C.out).mono ?_;rintro e w1 ⟨rfl,b1⟩;have b2:=b1.alloc b1.size (.cells #[.string ⟨#[]⟩,.int .i64 0,.int .i64 0,.bool false] 199);go_wp2_with fail
  go_ret
  exact ⟨rfl,b2⟩
end
end Go.Proofs.YtijegngfclkdaaaGreatDoor
