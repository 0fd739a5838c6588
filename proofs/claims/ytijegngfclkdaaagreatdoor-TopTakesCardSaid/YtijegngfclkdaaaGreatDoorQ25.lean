/-
  Piece 25 of the proof.
  Conditions: none.
-/
import Derived.Test.YtijegngfclkdaaaGreatDoorQ24
set_option linter.unusedVariables false
set_option linter.unusedSimpArgs false
set_option maxHeartbeats 100000000
set_option maxRecDepth 100000
namespace Go.Proofs.YtijegngfclkdaaaGreatDoor
namespace Nn
open Go.RowKit Go.Sort Go
section
variable {w:World} {F:Nat->Prop} {g:Nat} {act:List (Int×Int)}
theorem nZ (h:lD w F g act):Calls Tryz.prog 61 #[.pointer (some ⟨g,0,none⟩)] w fun e w'=>(∃ z:Nat,e=.returned (.int .i64 (z:Int))/\z < 256/\(act≠[]->1<=z))/\Below w.heap.size w w':=by
 have hok:=h.ok;obtain ⟨Aa,ca,Ah,nh,ch,xs,hs,h1,⟨h2,h3,h4⟩,h5,h6⟩:=h.ex;have hr:RS TO w w.heap.size 2 Aa act.length ca act:=⟨xs,h2.rv,h3⟩;have few:=h.few;have F0:=h1.three;clear h h2 h3 h4 h5 h6;have hne:act≠[]->0 < act.length:=fun h=>List.length_pos_iff.2 h
 generalize hn:act.length=n at *;have HN:=zq3 hn hne hok; clear hn hne hok;go_enter Tryz.func61,Tryz.ntmps61
 go_wp2_with fail
 go_loopw [3,13] (fun v i wr=>∃ k z:Nat,k<=n/\i=.int .i64 k/\v=.int .i64 z/\z < 256/\(0 < k->1<=z)/\Below w.heap.size w wr) (fun _ i _=>n - (intOf i).toNat)
 case atStart=>exact ⟨0,0,by omega,rfl,rfl,by omega,fun h=>absurd h (by omega),Below.refl _ _⟩
 case round =>
  obtain ⟨k,z,hk,rfl,rfl,hz,hkz,br⟩:=hrel
  by_cases hlt:k < n
  ·obtain ⟨f,hf⟩:∃ f,act[k]?=some f:=⟨_,List.getElem?_eq_getElem (by rw [HN.out.1]; exact hlt)⟩
   have hfo:=HN.out.2.2 f (List.mem_of_getElem? hf);obtain ⟨b,o,cs,rfl,hb,hc,hcell⟩:=(hr.below br fun _ _ h=>h).at_ (by decide) hf;obtain ⟨u,v⟩:=f;have hcs:cs=[.int .i64 u,.int .i64 v]:=hc;subst hcs;have q0:=hcell 0 _ (by decide) rfl;have q1:=hcell 1 _ (by decide) rfl;rw [Nat.add_zero] at q0;have b2:=ae wr (.cells #[.int .i64 u,.int .i64 v] 170);have K2:=(ao.new wr 170 #[.int .i64 u,.int .i64 v]).two;have BT:=zq (rS u hfo.1);have Ua:=aa br b2 lq;have HZ:=zq2 hz hkz;clear hc hcell hf F0 hfo hkz hz;go_wp2_with fail
   refine (BT.out _).mono ?_;rintro e w3 ⟨⟨t,rfl,ht1,ht2⟩,rfl⟩;have eo:=On z t HZ.out.1 ht2;have ht3:=Nt (a:=z) ht1;have Z1:z ||| t < 256:=Nat.or_lt_two_pow (n:=8) HZ.out.1 ht2;generalize z ||| t=y at *;clear ht1 ht2;go_wp2_with fail
   go_roundw
   case rel=>exact ⟨k + 1,y,by omega,by go_num,rfl,Z1,fun _=>ht3,Ua⟩
   case measure=>simp [intOf] <;> omega
  ·obtain rfl:k=n:=by omega
   go_wp2_with fail
   go_ret
   exact ⟨⟨z,rfl,hz,fun h=>hkz (HN.out.2.1 h)⟩,br⟩
def LX (w:World) (e:Ending) (w':World):Prop:=∃ (A:Option Addr) (n c:Nat) (fs:List Can.Fr),e=.returned (.slice A n c)/\iZ w' (fun q=>w.heap.size<=q) A n c fs/\(∀ f∈fs,f.data.length<=8)/\n<=1
theorem LX.none_ (w w':World):LX w (.returned (.slice none 0 0)) w':=⟨none,0,0,[],rfl,iZ.none_ _ _,(fun f h=>by cases h),by decide⟩
theorem wX {w:World} {base:Nat} {i:Int} {r:Bool} {A:Option Addr} {n c:Nat} {l:List UInt8} (h:OB w base A n c l) (hb:base<=w.heap.size):iZ (w.alloc (.cells #[.int .i64 i,.bool r,.slice A n c] 37)) (fun q=>base<=q) (some ⟨w.heap.size,0,none⟩) 1 1 [⟨i,r,l⟩]:=by
 refine ⟨[.int .i64 i,.bool r,.slice A n c],(OV.new (base:=base) (e:=37) (size:=3) w [.int .i64 i,.bool r,.slice A n c] 1 rfl (by decide) hb).zC fun k hk=>?_,Rows.one ⟨A,n,c,rfl,?_⟩ rfl⟩
 ·have e:some w.heap.size=some k:=hk
  injection e with e
  omega
 ·exact (h.alloc _).Lx fun k hk=>((h.alloc (.cells #[.int .i64 i,.bool r,.slice A n c] 37)).lt k hk).1
theorem ot (h:lD w F g act) (code:Nat) (info:Int) (hc:code < 65536):Calls Tryz.prog 202 #[.pointer (some ⟨g,0,none⟩),.int .i64 (code:Int),.int .i64 info] w fun e w'=>LX w e w'/\Below w.heap.size w w':=by
 have PU:=zq (xD (A:=none) (n:=0) (c:=0) (B:=0) (l:=[]) 2 code w RB.none_ (by decide) (Nat.zero_le _) (by decide) (by decide) (by omega) (by simpa using hc));have RE:=fun (w1:World) (hb:Below w.heap.size w w1)=>nZ (h.mv (Mv.aq hb fun _=>False) fun _ _ _ h=>h)
 have XI:=zq RE;obtain ⟨Aa,ca,Ah,nh,ch,xs,hs,h1,_,_,_⟩:=h.ex;have ew:IntKind.u64.wrap (code:Int)=(code:Int):=by rw [IntKind.wrap_u64]; omega
 obtain ⟨y,hy,hy2⟩:∃ y:Nat,IntKind.u8.wrap info=(y:Int)/\y < 256:=⟨(info % 256).toNat,by rw [IntKind.wrap_u8]; omega,by omega⟩;clear h RE;go_enter Tryz.func202,Tryz.ntmps202
 go_wp2_with fail
 refine (PU.out).mono ?_;rintro e w1 ⟨A1,c1,rfl,o1,b1⟩;go_wp2_with fail
 refine (XI.out w1 b1).mono ?_;rintro e w2 ⟨⟨z,rfl,hz,_⟩,b2⟩;have ez:IntKind.u8.wrap (z:Int)=(z:Int):=by rw [IntKind.wrap_u8]; omega
 have d2:=aa b1 b2 lq;have o2:=(o1.below b2).alloc (.cells #[.int .u8 (z:Int),.int .u8 (y:Int)] 5);have Z2:(z:Int)=((UInt8.ofNat z).toNat:Int):=by rw [UInt8.toNat_ofNat']; omega
 have Z3:(y:Int)=((UInt8.ofNat y).toNat:Int):=by rw [UInt8.toNat_ofNat']; omega
 have r2:=RB.lit w2 [.int .u8 (z:Int),.int .u8 (y:Int)] [UInt8.ofNat z,UInt8.ofNat y] (by simp [bv]; omega) rfl (by simp);have b3:=ae w2 (.cells #[.int .u8 (z:Int),.int .u8 (y:Int)] 5);have d3:=aa d2 b3 lq;have f0:=cell_regrown h1.three.1;have HS:=zq d3.size;clear Z2 Z3 o1 XI PU;go_wp2_with (at_builtin; refine jc od rfl (.tmp 15) (.tmp 21) rfl rfl rfl w.heap.size o2 r2 (by decide) HS.out ?_; intro A5 c5 w5 o5 b5 g5 _)
 have d5:=d3.trans b5;have XJ:=d5.size;have db:=d5.trans ((af w5).mono XJ);refine kY (w0:=w) (by kernel_rfl) ?_;refine ai (by kernel_rfl) 4 db [0,4,5,1,6,2,7,3] rfl (by kernel_rfl) ?_;simp only [aj,nth]
 repeat (go_big_quiet_step (fail))
 refine wpQuiet_nil ?_;refine aH 8 3 rfl (by kernel_rfl) (by decide) ?_;simp only [nth];go_wp2_with (at_builtin; refine tI od (k:=4) Tryz.underlying3 rfl (.tmp 27) (.tmp 30) rfl rfl rfl o5 (by decide) (by decide) (by decide) XJ ?_; intro A6 c6 w6 o6 b6)
 have d6:=db.trans b6;refine aM d6 ?_;refine ai (by kernel_rfl) 2 d6 [9] rfl (by kernel_rfl) ?_;simp only [aj,nth]
 repeat (go_big_quiet_step (fail))
 refine wpQuiet_nil ?_;refine aH 10 1 rfl (by kernel_rfl) (by decide) ?_;simp only [nth];go_wp2_with fail
 have IY:=wX (i:=133) (r:=false) o6 d6.size;have d7:=aa d6 (ae w6 (.cells #[.int .i64 133,.bool false,.slice A6 (0 + 2 + 2 + 4) c6] 37)) lq;have HL:([] ++ Oct.lb 2 code ++ [UInt8.ofNat z,UInt8.ofNat y] ++ List.replicate 4 (0:UInt8)).length<=8:=by simp [Oct.dw]
 generalize [] ++ Oct.lb 2 code ++ [UInt8.ofNat z,UInt8.ofNat y] ++ List.replicate 4 (0:UInt8)=data at *;refine aM d7 ?_;refine ai (by kernel_rfl) 0 d7 [11] rfl (by kernel_rfl) ?_;simp only [aj,nth]
 repeat (go_big_quiet_step (fail))
 refine wpQuiet_nil ?_;refine aK (by kernel_rfl) ?_;go_wp2_with fail
 go_ret
 exact ⟨⟨_,_,_,_,rfl,IY,(fun f hf=>by rw [List.mem_singleton.1 hf]; exact HL),by decide⟩,d7⟩
def Y8 (w:World) (e:Ending) (w':World):Prop:=∃ (A:Option Addr) (n c:Nat) (hs:List Int),e=.returned (.slice A n c)/\ij w' (fun q=>w.heap.size<=q) 1 A n c (hs.map fun z=>Value.int .u32 z)/\n<=4/\Below w.heap.size w w'
theorem AU (h:lD w F g act):Calls Tryz.prog 144 #[.pointer (some ⟨g,0,none⟩)] w (Y8 w):=by
 obtain ⟨Aa,ca,Ah,nh,ch,xs,hs,h1,_,h5,h6⟩:=h.ex;have F0:=h1.three;have r5:=h5.rv;clear h h1 h5;go_enter Tryz.func144,Tryz.ntmps144
 go_wp2_with (at_builtin; refine b_ TE rfl (.const (.slice none 0 0)) (.tmp 8) rfl rfl rfl w.heap.size (OV.none_ w w.heap.size _ 1) r5 (fun u hu=>by obtain ⟨_,_,rfl⟩:=List.mem_map.1 hu; rfl) (by omega) (by omega) lq ?_; intro A5 c5 w5 o5 g5 _)
 go_ret
 exact ⟨_,_,_,hs,rfl,by simpa using OV.zC o5 fun k hk=>(OV.lt o5 k hk).1,by omega,bQ g5 (fun k hk=>by cases hk) lq⟩
end
end Nn
namespace Nn
open Go.RowKit Go
theorem bM {B:Nat} {w w':World} {g:Nat} (h:Below B w w') (hg:B<=g) (a b c:Value):Below B w (((w'.setCell ⟨g,0,none⟩ a).setCell ⟨g,1,none⟩ b).setCell ⟨g,2,none⟩ c):=((h.setCell (p:=⟨g,0,none⟩) hg a).setCell (p:=⟨g,1,none⟩) hg b).setCell (p:=⟨g,2,none⟩) hg c
def TG (id:Int) (w:World) (e:Ending) (w':World):Prop:=∃ (k i j:Int) (ok:Bool),e=.returned (.tuple #[.agg #[.int .i64 k,.int .i64 i,.int .i64 j],.bool ok])/\(ok=true->k=9->1792<=id)/\Below w.heap.size w w'
theorem MG (id:Int) (w:World):Calls Tryz.prog 292 #[.int .i64 id] w (TG id w):=by
 have BT:=zq (fC id 0 2047);have K:=ao.new w 136 #[.int .i64 0,.int .i64 0,.int .i64 0];have F:=K.three;have b0:=ae w (.cells #[.int .i64 0,.int .i64 0,.int .i64 0] 136)
 by_cases h:0<=id/\id<=2047
 ·rw [decide_eq_true h] at BT
  have GU:=zq (Ag id h);go_enter Tryz.func292,Tryz.ntmps292
  go_wp2_with fail
  refine (BT.out _).mono ?_;rintro e w1 ⟨rfl,rfl⟩;go_wp2_with fail
  refine (GU.out _).mono ?_;rintro e w2 ⟨k,i,j,rfl,hk,h9,b2⟩;have ID:=zq (Kj k i j hk);have K2:=K.later b2;have VF:=ae w2 (.cells #[.int .i64 k,.int .i64 i,.int .i64 j] 136);have K3:=ao.new w2 136 #[.int .i64 k,.int .i64 i,.int .i64 j];have F3:=K3.three;have d3:=aa (aa b0 b2 lq) VF lq;have VG:=K2.later VF;clear K K2 F;go_wp2_with fail
  refine (ID.out _).mono ?_;rintro e w3 ⟨⟨z,c,rfl⟩,b3⟩;have K4:=VG.later b3;have F4:=K4.three;have F5:=(K3.later b3).three;have d4:=aa d3 b3 lq;clear F3 K3 VF
  by_cases hc:c=0
  ·subst hc
   by_cases hz:z=id
   ·subst hz
    have ez:(z != z)=false:=by simp
    go_wp2_with fail
    have R:=(K4.eG (.int .i64 k) (.int .i64 i) (.int .i64 j)).three;exact bodyPost_ret (v:=.tuple #[.agg #[.int .i64 k,.int .i64 i,.int .i64 j],.bool true]) (by simp [results,Tryz.results292,go_sem,R]) rfl ⟨k,i,j,true,rfl,fun _ h=>h9 h,bM d4 lq _ _ _⟩
   ·have ez:(z != id)=true:=by simpa using hz
    go_wp2_with fail
    have R:=(K4.eG (.int .i64 0) (.int .i64 0) (.int .i64 0)).three;exact bodyPost_ret (v:=.tuple #[.agg #[.int .i64 0,.int .i64 0,.int .i64 0],.bool false]) (by simp [results,Tryz.results292,go_sem,R]) rfl ⟨0,0,0,false,rfl,(fun h=>by cases h),bM d4 lq _ _ _⟩
  ·have ec:(c != 0)=true:=by simpa using hc
   go_wp2_with fail
   have R:=(K4.eG (.int .i64 0) (.int .i64 0) (.int .i64 0)).three;exact bodyPost_ret (v:=.tuple #[.agg #[.int .i64 0,.int .i64 0,.int .i64 0],.bool false]) (by simp [results,Tryz.results292,go_sem,R]) rfl ⟨0,0,0,false,rfl,(fun h=>by cases h),bM d4 lq _ _ _⟩
 ·rw [decide_eq_false h] at BT
  go_enter Tryz.func292,Tryz.ntmps292
  go_wp2_with fail
  refine (BT.out _).mono ?_;rintro e w1 ⟨rfl,rfl⟩;go_wp2_with fail
  have R:=K.three;exact bodyPost_ret (v:=.tuple #[.agg #[.int .i64 0,.int .i64 0,.int .i64 0],.bool false]) (by simp [results,Tryz.results292,go_sem,R]) rfl ⟨0,0,0,false,rfl,(fun h=>by cases h),b0⟩
def oN (s:Int):Bool:=s == 0 || (s == 4 || (s == 5 || s == 127))
theorem lQ (s:Int) (w:World):Calls Tryz.prog 197 #[.int .i64 s] w fun e w'=>e=.returned (.bool (oN s))/\w=w':=by
 unfold oN;generalize ha:(s == 0)=a;generalize hb:(s == 4)=b;generalize hc:(s == 5)=c;generalize hd:(s == 127)=d;cases a <;> cases b <;> cases c <;> cases d
 all_goals
  go_enter Tryz.func197,Tryz.ntmps197
  go_wp2_with fail
  go_ret
  exact ⟨rfl,rfl⟩
def Bs (c:Int):Prop:=c=1\/c=2\/c=128\/c=129\/c=130
def vj (c:Int):Int:=if c=1 then 5 else if c=2 then 4 else if c=128 then 127 else 0
theorem qT (c:Int) (hc:Bs c) (w:World):Calls Tryz.prog 209 #[.int .i64 c] w fun e w'=>e=.returned (.tuple #[.int .i64 (vj c),.bool true])/\w=w':=by
 rcases hc with rfl | rfl | rfl | rfl | rfl
 all_goals
  go_enter Tryz.func209,Tryz.ntmps209
  go_wp2_with fail
  go_ret2
  exact ⟨rfl,rfl⟩
theorem AD (c:Int) (hc:¬ Bs c) (w:World):Calls Tryz.prog 209 #[.int .i64 c] w fun e w'=>e=.returned (.tuple #[.int .i64 0,.bool false])/\w=w':=by
 have h1:(c == 1)=false:=by rw [beq_eq_false_iff_ne]; exact fun h=>hc (.inl h)
 have h2:(c == 2)=false:=by rw [beq_eq_false_iff_ne]; exact fun h=>hc (.inr (.inl h))
 have h3:(c == 128)=false:=by rw [beq_eq_false_iff_ne]; exact fun h=>hc (.inr (.inr (.inl h)))
 have h4:(c == 129)=false:=by rw [beq_eq_false_iff_ne]; exact fun h=>hc (.inr (.inr (.inr (.inl h))))
 have h5:(c == 130)=false:=by rw [beq_eq_false_iff_ne]; exact fun h=>hc (.inr (.inr (.inr (.inr h))))
 clear hc;go_enter Tryz.func209,Tryz.ntmps209
 go_wp2_with fail
 go_ret2
 exact ⟨rfl,rfl⟩
def qA (c:Int):Int×Int:=if c=129\/c=130 then (0,c) else (vj c,0)
def tu (s:Int):Prop:=s=4\/s=5\/s=127
theorem Fe (s c:Int) (hs:tu s) (hc:Bs c) (w:World):Calls Tryz.prog 210 #[.int .i64 s,.int .i64 c] w fun e w'=>e=.returned (.tuple #[.int .i64 (qA c).1,.int .i64 (qA c).2])/\w=w':=by
 have TA:=zq (qT c hc);have KN:=zq (lQ s);rw [show oN s=true by rcases hs with rfl | rfl | rfl <;> rfl] at KN;have e0:(s == 0)=false:=by rw [beq_eq_false_iff_ne]; rcases hs with rfl | rfl | rfl <;> decide
 clear hs;rcases hc with rfl | rfl | rfl | rfl | rfl
 all_goals
  go_enter Tryz.func210,Tryz.ntmps210
  go_wp2_with fail
  refine (TA.out _).mono ?_;rintro e w1 ⟨rfl,rfl⟩;go_wp2_with fail
  refine (KN.out _).mono ?_;rintro e w1 ⟨rfl,rfl⟩;go_wp2_with fail
  go_ret2
  exact ⟨rfl,rfl⟩
def gJ (s k:Int):Bool:=(s == 5 && k == 1) || ((s == 5 || s == 127) && (k == 2 || k == 3 || k == 4)) || k == 5
def qe (k:Int):Prop:=k=1\/k=2\/k=3\/k=4\/k=5
theorem oL (s k:Int) (hs:tu s) (hk:qe k) (w:World):Calls Tryz.prog 223 #[.int .i64 s,.int .i64 k] w fun e w'=>e=.returned (.bool (gJ s k))/\w=w':=by
 rcases hs with rfl | rfl | rfl <;> rcases hk with rfl | rfl | rfl | rfl | rfl
 all_goals
  go_enter Tryz.func223,Tryz.ntmps223
  go_wp2_with fail
  go_ret
  exact ⟨rfl,rfl⟩
def RJ (b:UInt8) (w:World) (e:Ending) (w':World):Prop:=∃ A c,e=.returned (.tuple #[.agg #[.int .i64 1797,.bool false,.slice A 1 c],.int .i64 0])/\OB w' w.heap.size A 1 c [b]/\Below w.heap.size w w'
def yC (s:Int) (b:UInt8):Prop:=(s=0/\b=0)\/(s=4/\b=4)\/(s=5/\b=5)\/(s=127/\b=127)
theorem ud (s:Int) (b:UInt8) (hs:yC s b) (w:World):Calls Tryz.prog 142 #[.int .i64 5,.int .i64 s] w (RJ b w):=by
 have KN:=zq (lQ s);rw [show oN s=true by rcases hs with ⟨rfl,_⟩ | ⟨rfl,_⟩ | ⟨rfl,_⟩ | ⟨rfl,_⟩ <;> rfl] at KN;have ID:=h_ 9 (by decide);rw [show kU 9 + 5=1797 by kernel_rfl] at ID;replace ID:=zq ID;have K:=ao.new w 37 #[.int .i64 0,.bool false,.slice none 0 0];have F:=K.three;have b0:=ae w (.cells #[.int .i64 0,.bool false,.slice none 0 0] 37);rcases hs with ⟨rfl,rfl⟩ | ⟨rfl,rfl⟩ | ⟨rfl,rfl⟩ | ⟨rfl,rfl⟩
 all_goals
  go_enter Tryz.func142,Tryz.ntmps142
  go_wp2_with fail
  refine (ID.out _).mono ?_;rintro e w1 ⟨rfl,b1⟩;have K1:=K.later b1;have d1:=aa b0 b1 lq;clear K F b0;go_wp2_with fail
  refine (KN.out _).mono ?_;rintro e w1 ⟨rfl,rfl⟩
 ·have K2:=K1.alloc (.cells #[.int .u8 0] 5)
  have F2:=K2.three;have o2:=OB.new (base:=w.heap.size + 1) w1 [0] 1 rfl (by decide) (by have:=b1.size; rw [World.size_alloc] at this; exact this);have d2:=aa d1 (ae w1 (.cells #[.int .u8 0] 5)) lq;go_wp2_with fail
  have R:=(K2.eG (.int .i64 1797) (.bool false) (.slice (some ⟨w1.heap.size,0,none⟩) 1 1)).three;exact bodyPost_ret (v:=.tuple #[.agg #[.int .i64 1797,.bool false,.slice (some ⟨w1.heap.size,0,none⟩) 1 1],.int .i64 0]) (by simp [results,Tryz.results142,go_sem,R]) rfl ⟨_,_,rfl,(o2.wj (Nat.lt_succ_self _) _ _ _ _ _ _).more (Nat.le_succ _),bM d2 lq _ _ _⟩
 ·have K2:=K1.alloc (.cells #[.int .u8 4] 5)
  have F2:=K2.three;have o2:=OB.new (base:=w.heap.size + 1) w1 [4] 1 rfl (by decide) (by have:=b1.size; rw [World.size_alloc] at this; exact this);have d2:=aa d1 (ae w1 (.cells #[.int .u8 4] 5)) lq;go_wp2_with fail
  have R:=(K2.eG (.int .i64 1797) (.bool false) (.slice (some ⟨w1.heap.size,0,none⟩) 1 1)).three;exact bodyPost_ret (v:=.tuple #[.agg #[.int .i64 1797,.bool false,.slice (some ⟨w1.heap.size,0,none⟩) 1 1],.int .i64 0]) (by simp [results,Tryz.results142,go_sem,R]) rfl ⟨_,_,rfl,(o2.wj (Nat.lt_succ_self _) _ _ _ _ _ _).more (Nat.le_succ _),bM d2 lq _ _ _⟩
 ·have K2:=K1.alloc (.cells #[.int .u8 5] 5)
  have F2:=K2.three;have o2:=OB.new (base:=w.heap.size + 1) w1 [5] 1 rfl (by decide) (by have:=b1.size; rw [World.size_alloc] at this; exact this);have d2:=aa d1 (ae w1 (.cells #[.int .u8 5] 5)) lq;go_wp2_with fail
  have R:=(K2.eG (.int .i64 1797) (.bool false) (.slice (some ⟨w1.heap.size,0,none⟩) 1 1)).three;exact bodyPost_ret (v:=.tuple #[.agg #[.int .i64 1797,.bool false,.slice (some ⟨w1.heap.size,0,none⟩) 1 1],.int .i64 0]) (by simp [results,Tryz.results142,go_sem,R]) rfl ⟨_,_,rfl,(o2.wj (Nat.lt_succ_self _) _ _ _ _ _ _).more (Nat.le_succ _),bM d2 lq _ _ _⟩
 ·have K2:=K1.alloc (.cells #[.int .u8 127] 5)
  have F2:=K2.three;have o2:=OB.new (base:=w.heap.size + 1) w1 [127] 1 rfl (by decide) (by have:=b1.size; rw [World.size_alloc] at this; exact this);have d2:=aa d1 (ae w1 (.cells #[.int .u8 127] 5)) lq;go_wp2_with fail
  have R:=(K2.eG (.int .i64 1797) (.bool false) (.slice (some ⟨w1.heap.size,0,none⟩) 1 1)).three;exact bodyPost_ret (v:=.tuple #[.agg #[.int .i64 1797,.bool false,.slice (some ⟨w1.heap.size,0,none⟩) 1 1],.int .i64 0]) (by simp [results,Tryz.results142,go_sem,R]) rfl ⟨_,_,rfl,(o2.wj (Nat.lt_succ_self _) _ _ _ _ _ _).more (Nat.le_succ _),bM d2 lq _ _ _⟩
def U9 (id:Int) (w:World) (e:Ending) (w':World):Prop:=∃ (c:Int) (ok:Bool),e=.returned (.tuple #[.int .i64 c,.bool ok])/\(ok=true->id=0/\Bs c)/\Below w.heap.size w w'
theorem E_ (z:Int) (w:World):Calls Tryz.prog 208 #[.int .u8 z,.int .i64 5] w fun e w'=>(∃ b:Bool,e=.returned (.bool b))/\w=w':=by
 by_cases h0:z=0
 ·subst h0
  go_enter Tryz.func208,Tryz.ntmps208
  go_wp2_with fail
  go_ret
  exact ⟨⟨_,rfl⟩,rfl⟩
 ·have e0:(z == 0)=false:=by simpa using h0
  go_enter Tryz.func208,Tryz.ntmps208
  go_wp2_with fail
  go_ret
  exact ⟨⟨_,rfl⟩,rfl⟩
theorem uI (id:Int) (r:Bool) {A:Option Addr} {n c B:Nat} {l:List UInt8} (w:World) (h:RB w B A n c l) (hB:B<=w.heap.size):Calls Tryz.prog 157 #[.agg #[.int .i64 id,.bool r,.slice A n c],.int .i64 5] w (U9 id w):=by
 have K:=(ao.new w 37 #[.int .i64 id,.bool r,.slice A n c]).three;have b0:=ae w (.cells #[.int .i64 id,.bool r,.slice A n c] 37)
 by_cases hid:id=0
 ·subst hid
  cases r
  ·by_cases hn:n=2
   ·subst hn
    obtain ⟨b,o,rfl,hb,hc⟩:=(h.below (b0.mono hB)).at_ (by omega);have c0:=hc 0 (by omega);have c1:=hc 1 (by omega);have MI:=zq (fun w=>E_ ((l.getD 1 0).toNat:Int) w);have hl:((l.getD 0 0).toNat:Int) < 256:=mh l 0;obtain ⟨z,hz⟩:∃ z:Int,((l.getD 0 0).toNat:Int)=z:=⟨_,rfl⟩;have T1:=fun hc=>zq (qT z hc)
    have T2:=fun hc=>zq (AD z hc)
    rw [hz] at c0;have ez:wrap64 z=z:=by unfold wrap64; omega
    generalize ((l.getD 1 0).toNat:Int)=y at *;clear hc h hl hz;rw [Nat.add_zero] at c0;go_enter Tryz.func157,Tryz.ntmps157
    go_wp2_with fail
    refine (MI.out _).mono ?_;rintro e w1 ⟨⟨m,rfl⟩,rfl⟩;cases m
    ·go_wp2_with fail
     go_ret2
     exact ⟨_,_,rfl,(fun h=>by cases h),b0⟩
    ·go_wp2_with fail
     by_cases hc:Bs z
     ·replace T1:=T1 hc
      refine (T1.out _).mono ?_;rintro e w1 ⟨rfl,rfl⟩;go_wp2_with fail
      go_ret2
      exact ⟨_,_,rfl,fun _=>⟨rfl,hc⟩,b0⟩
     ·replace T2:=T2 hc
      refine (T2.out _).mono ?_;rintro e w1 ⟨rfl,rfl⟩;go_wp2_with fail
      go_ret2
      exact ⟨_,_,rfl,(fun h=>by cases h),b0⟩
   ·have en:((n:Int) != 2)=true:=by rw [bne_iff_ne]; omega
    go_enter Tryz.func157,Tryz.ntmps157
    go_wp2_with fail
    go_ret2
    exact ⟨_,_,rfl,(fun h=>by cases h),b0⟩
  ·go_enter Tryz.func157,Tryz.ntmps157
   go_wp2_with fail
   go_ret2
   exact ⟨_,_,rfl,(fun h=>by cases h),b0⟩
 ·have ei:(id != 0)=true:=by simpa using hid
  go_enter Tryz.func157,Tryz.ntmps157
  go_wp2_with fail
  go_ret2
  exact ⟨_,_,rfl,(fun h=>by cases h),b0⟩
def Nz (id:Int) (w:World) (e:Ending) (w':World):Prop:=∃ (i s:Int) (ok:Bool),e=.returned (.tuple #[.int .i64 i,.int .i64 s,.bool ok])/\(ok=true->1792<=id)/\Below w.heap.size w w'
theorem Aj (id:Int) (r:Bool) {A:Option Addr} {n c B:Nat} {l:List UInt8} (w:World) (h:RB w B A n c l) (hB:B<=w.heap.size):Calls Tryz.prog 262 #[.agg #[.int .i64 id,.bool r,.slice A n c]] w (Nz id w):=by
 have K:=ao.new w 37 #[.int .i64 id,.bool r,.slice A n c];have F:=K.three;have b0:=ae w (.cells #[.int .i64 id,.bool r,.slice A n c] 37);have OF:=zq (MG id);go_enter Tryz.func262,Tryz.ntmps262
 go_wp2_with fail
 refine (OF.out _).mono ?_;rintro e w1 ⟨k,i,j,ok,rfl,h9,b1⟩;have d1:=aa b0 b1 lq;have K1:=(K.later b1).alloc (.cells #[.int .i64 0,.int .i64 0,.int .i64 0] 136);have K2:=ao.new w1 136 #[.int .i64 k,.int .i64 i,.int .i64 j];have K1:=(K.later b1).alloc (.cells #[.int .i64 k,.int .i64 i,.int .i64 j] 136);have F1:=K1.three;have F2:=K2.three;have b2:=ae w1 (.cells #[.int .i64 k,.int .i64 i,.int .i64 j] 136);have d2:=aa d1 b2 lq;have h2:=h.below (d2.mono hB);clear F K b1;cases ok
 ·go_wp2_with fail
  go_ret3
  exact ⟨_,_,_,rfl,(fun h=>by cases h),d2⟩
 ·by_cases hk:k=9
  ·subst hk
   cases r
   ·by_cases hn:n=1
    ·subst hn
     obtain ⟨b,o,rfl,hb,hc⟩:=h2.at_ (by omega);have c0:=hc 0 (by omega);have hl:((l.getD 0 0).toNat:Int) < 256:=mh l 0;obtain ⟨z,hz⟩:∃ z:Int,((l.getD 0 0).toNat:Int)=z:=⟨_,rfl⟩;have KN:=zq (lQ z);have ez:wrap64 z=z:=by unfold wrap64; omega
     rw [hz,Nat.add_zero] at c0;generalize oN z=kn at *;clear hc h h2 hl hz;go_wp2_with fail
     refine (KN.out _).mono ?_;rintro e w3 ⟨rfl,rfl⟩;cases kn
     ·go_wp2_with fail
      go_ret3
      exact ⟨_,_,_,rfl,(fun h=>by cases h),d2⟩
     ·go_wp2_with fail
      go_quiet (fail)
      go_wp2_with fail
      go_ret3
      exact ⟨_,_,_,rfl,fun _=>h9 trivial trivial,below_drewN d2 _⟩
    ·have en:((n:Int) != 1)=true:=by rw [bne_iff_ne]; omega
     go_wp2_with fail
     go_ret3
     exact ⟨_,_,_,rfl,(fun h=>by cases h),d2⟩
   ·go_wp2_with fail
    go_ret3
    exact ⟨_,_,_,rfl,(fun h=>by cases h),d2⟩
  ·have ek:(k != 9)=true:=by simpa using hk
   go_wp2_with fail
   go_ret3
   exact ⟨_,_,_,rfl,(fun h=>by cases h),d2⟩
end Nn
namespace Pm
open aD Dc
def isNum (t:Int):Bool:=decide (t=5\/t=6\/t=7)
def cE (D:aZ) (i j:Int):Int×Bool:=match bh D.l i j with
 | none=>(0,false)
 | some k=>if isNum (D.l.getD k aI).type=true then ((Ty.cV (D.l.getD k aI).type (D.v.getD k [])).1,decide ((Ty.cV (D.l.getD k aI).type (D.v.getD k [])).2=0)) else (0,false)
def dC (D:aZ) (i j other:Int):Int:=if (cE D i j).2=true then (cE D i j).1 else other
theorem Ba {t:Int} (h:isNum t=true) (b:List UInt8):0<=(Ty.cV t b).1/\(Ty.cV t b).1 < 4294967296:=by
 have key:∀ z:Nat,2 ^ z<=4294967296->(Ty.kd t).lM=false->(Ty.kd t).bits=z->0<=(Ty.cV t b).1/\(Ty.cV t b).1 < 4294967296:=by
  intro z hz h1 h2;unfold Ty.cV;rw [h2];split
  ·exact ⟨by decide,by decide⟩
  ·split
   ·exact ⟨by decide,by decide⟩
   ·split
    ·exact ⟨by decide,by decide⟩
    ·split
     ·rename_i h5; rw [h1] at h5; cases h5
     ·split
      ·exact ⟨by decide,by decide⟩
      ·dsimp only; omega
 have h':=of_decide_eq_true h;rcases h' with rfl | rfl | rfl
 ·exact key 8 (by decide) (by decide) (by decide)
 ·exact key 16 (by decide) (by decide) (by decide)
 ·exact key 32 (by decide) (by decide) (by decide)
theorem gY (D:aZ) (i j:Int):0<=(cE D i j).1/\(cE D i j).1 < 4294967296:=by
 unfold cE;cases bh D.l i j with
 | none=>dsimp only; omega
 | some k =>
  dsimp only;split
  ·rename_i h; exact Ba h _
  ·dsimp only; omega
theorem iA (D:aZ) (i j:Int) {o:Int} (ho:0<=o/\o < 4294967296):0<=dC D i j o/\dC D i j o < 4294967296:=by
 unfold dC;split
 ·exact gY D i j
 ·exact ho
def xR (D:aZ) (i:Int):Nat:=(min (dC D i 0 0) 8).toNat
def fp (D:aZ) (i:Int) (k:Nat):List Nat:=(List.range k).map fun (j:Nat)=>(dC D i ((j:Int) + 1) 0).toNat
def dJ (D:aZ) (i:Int):List Nat:=fp D i (xR D i)
theorem pD (D:aZ) (i:Int) (k:Nat):(fp D i k).length=k:=by unfold fp; simp
theorem uF (D:aZ) (i:Int) (k:Nat):fp D i (k + 1)=fp D i k ++ [(dC D i ((k:Int) + 1) 0).toNat]:=by
 unfold fp;rw [List.range_succ,List.map_append];rfl
theorem GB (D:aZ) (i:Int):xR D i<=8/\(xR D i:Int)=min (dC D i 0 0) 8:=by
 have:=(iA D i 0 (o:=0) (by omega)).1;unfold xR;omega
theorem hU (D:aZ) (i:Int) (k:Nat):∀ x∈fp D i k,x < 4294967296:=by
 intro x hx;unfold fp at hx;obtain ⟨j,_,rfl⟩:=List.mem_map.1 hx;have:=(iA D i ((j:Int) + 1) (o:=0) (by omega));omega
def bO (D:aZ) (k:Int):Option (Nat×Int×List Nat):=if k < 0\/4<=k then none else if (cE D (5120 + k) 1).2=false then none else some ((cE D (5120 + k) 1).1.toNat,dC D (5120 + k) 2 255,dJ D (5632 + k))
def lB (D:aZ) (k:Int):Option (Nat×Int×Int×Int×List Nat):=if k < 0\/4<=k then none else if (cE D (6144 + k) 1).2=false then none else some ((cE D (6144 + k) 1).1.toNat,dC D (6144 + k) 2 255,dC D (6144 + k) 3 0,dC D (6144 + k) 5 0,dJ D (6656 + k))
def j_ (D:aZ):List Nat:=(dJ D 4118).take 4
def yO (D:aZ):Int:=dC D 4119 0 0
def fY (D:aZ):Option (Nat×Int):=if (cE D 4101 0).2=false then none else some ((cE D 4101 0).1.toNat,dC D 4121 0 0)
def UJ (X:aZ) (k:Int):Int:=match bO X k with | none=>0 | some (v,t,ws)=>Rp.ar X.l v t ws
end Pm
section
open Go.RowKit
theorem xh {D:Dc.aZ} {x y:Int} {k:Nat} (h:Dc.bh D.l x y=some k):Dc.c_ D x y=some (D.v.getD k []):=by
 unfold Dc.c_;rw [h];rfl
theorem Ey {D:Dc.aZ} {x y:Int} (h:Dc.bh D.l x y=none):Pm.cE D x y=(0,false):=by unfold Pm.cE; rw [h]
theorem Fy {D:Dc.aZ} {x y:Int} {k:Nat} (h:Dc.bh D.l x y=some k):Pm.cE D x y=if Pm.isNum (D.l.getD k Dc.aI).type=true then ((Ty.cV (D.l.getD k Dc.aI).type (D.v.getD k [])).1,decide ((Ty.cV (D.l.getD k Dc.aI).type (D.v.getD k [])).2=0)) else (0,false):=by unfold Pm.cE; rw [h]
theorem ao.UY {w:World} {g:Nat} {t:TypeId} {c0 c1 c2 c3 c4 c5 c6 c7 c8 c9 c10:Value} (h:ao w g t #[c0,c1,c2,c3,c4,c5,c6,c7,c8,c9,c10]):w.cell? ⟨g,3,none⟩=some c3:=h.cell 3
theorem iP {F:Nat->Prop} {w:World} {g gv lc vc:Nat} {la:Addr} {vA:Option Addr} {xs vs:List Value} {D:Dc.aZ} (x y:Int) (h:cM 131 w F g gv (some la) lc vA vc xs vs D) (hd:∀ e∈D.l,e.dflt.length<=1000000) (hv:∀ v∈D.v,v.length<=1000000) :
  Calls Tryz.prog 50 #[.pointer (some ⟨g,0,none⟩),.int .i64 x,.int .i64 y] w fun e w'=>e=.returned (.tuple #[.int .i64 (Pm.cE D x y).1,.bool (Pm.cE D x y).2])/\Below w.heap.size w w':=by
 have FI:=ib x y h;cases hf:Dc.bh D.l x y with
 | none =>
  rw [j4 hf] at FI;have HN:=zq (Ey hf);clear h hf;replace FI:=zq FI;go_enter Tryz.func50,Tryz.ntmps50
  go_wp2_with fail
  refine (FI.out).mono ?_;rintro e w1 ⟨rfl,b1⟩;go_wp2_with fail
  go_ret2
  rw [HN.out];exact ⟨rfl,b1⟩
 | some k =>
  have hk:=(Dc.bS hf).2.1;rw [kC hf] at FI;have HN:=zq (Fy hf);have EN:=fun (w1:World) (hb:Below w.heap.size w w1)=>im k (h.below hb) hk hd
  have PK:=fun (w1:World) (hb:Below w.heap.size w w1)=>jB x y (h.below hb) hv
  rw [xh hf] at PK;unfold iW at PK;dsimp only at PK FI;generalize D.v.getD k []=dat at *;generalize D.l.getD k Dc.aI=en at *;obtain ⟨ix,sb,nm,ty,ac,mp,st,mx,lo,hi,df⟩:=en;unfold gO at EN;dsimp only at EN HN;replace FI:=zq FI; replace EN:=zq EN; replace PK:=zq PK;clear h hf hk
  by_cases hty:ty=5\/ty=6\/ty=7
  ·have VH:Hid (Pm.cE D x y=((Ty.cV ty dat).1,decide ((Ty.cV ty dat).2=0))):=zq (by rw [HN.out,if_pos (by unfold Pm.isNum; exact decide_eq_true hty)])
   have H3:(ty == 5)=true\/((ty == 5)=false/\(ty == 6)=true)\/((ty == 5)=false/\(ty == 6)=false/\(ty == 7)=true):=by
    rcases hty with rfl | rfl | rfl
    ·exact .inl rfl
    ·exact .inr (.inl ⟨rfl,rfl⟩)
    ·exact .inr (.inr ⟨rfl,rfl,rfl⟩)
   clear HN hty;rcases H3 with e5 | ⟨e5,e6⟩ | ⟨e5,e6,e7⟩
   all_goals
    go_enter Tryz.func50,Tryz.ntmps50
    go_wp2_with fail
    refine (FI.out).mono ?_;rintro e w1 ⟨rfl,b1⟩;go_wp2_with fail
    refine (EN.out _ b1).mono ?_;rintro e w2 ⟨A1,n1,c1,rfl,_,b2⟩;have d2:=aa b1 b2 lq;have b3:=ae w2 (.cells #[.int .i64 ix,.int .i64 sb,.string (T nm),.int .i64 ty,.int .i64 ac,.bool mp,.bool st,.int .i64 mx,.int .i64 lo,.int .i64 hi,.slice A1 n1 c1] 27);have K3:=(ao.new w2 27 #[.int .i64 ix,.int .i64 sb,.string (T nm),.int .i64 ty,.int .i64 ac,.bool mp,.bool st,.int .i64 mx,.int .i64 lo,.int .i64 hi,.slice A1 n1 c1]);have F3:=K3.UY;have d3:=aa d2 b3 lq;go_wp2_with fail
    refine (PK.out _ d3).mono ?_;rintro e w4 ⟨A4,c4,rfl,o4,b4⟩;have d4:=aa d3 b4 lq;have F4:=(K3.later b4).UY;have DE:=zq (kf ty w4 o4.rb lq);clear F3;go_wp2_with fail
    refine (DE.out).mono ?_;rintro e w5 ⟨rfl,b5⟩;go_wp2_with fail
    go_ret2
    rw [VH.out];exact ⟨rfl,aa d4 b5 lq⟩
  ·have VH:Hid (Pm.cE D x y=(0,false)):=zq (by rw [HN.out,if_neg (by unfold Pm.isNum; rw [decide_eq_false hty]; simp)])
   have e5:(ty == 5)=false:=by simp only [beq_eq_false_iff_ne]; omega
   have e6:(ty == 6)=false:=by simp only [beq_eq_false_iff_ne]; omega
   have e7:(ty == 7)=false:=by simp only [beq_eq_false_iff_ne]; omega
   clear HN hty PK;go_enter Tryz.func50,Tryz.ntmps50
   go_wp2_with fail
   refine (FI.out).mono ?_;rintro e w1 ⟨rfl,b1⟩;go_wp2_with fail
   refine (EN.out _ b1).mono ?_;rintro e w2 ⟨A1,n1,c1,rfl,_,b2⟩;have d2:=aa b1 b2 lq;have b3:=ae w2 (.cells #[.int .i64 ix,.int .i64 sb,.string (T nm),.int .i64 ty,.int .i64 ac,.bool mp,.bool st,.int .i64 mx,.int .i64 lo,.int .i64 hi,.slice A1 n1 c1] 27);have K3:=(ao.new w2 27 #[.int .i64 ix,.int .i64 sb,.string (T nm),.int .i64 ty,.int .i64 ac,.bool mp,.bool st,.int .i64 mx,.int .i64 lo,.int .i64 hi,.slice A1 n1 c1]);have F3:=K3.UY;have d3:=aa d2 b3 lq;go_wp2_with fail
   go_ret2
   rw [VH.out];exact ⟨rfl,d3⟩
theorem cY {F:Nat->Prop} {w:World} {g gv lc vc:Nat} {la:Addr} {vA:Option Addr} {xs vs:List Value} {D:Dc.aZ} (x y o:Int) (h:cM 131 w F g gv (some la) lc vA vc xs vs D) (hd:∀ e∈D.l,e.dflt.length<=1000000) (hv:∀ v∈D.v,v.length<=1000000) :
  Calls Tryz.prog 51 #[.pointer (some ⟨g,0,none⟩),.int .i64 x,.int .i64 y,.int .i64 o] w fun e w'=>e=.returned (.int .i64 (Pm.dC D x y o))/\Below w.heap.size w w':=by
 have NU:=iP x y h hd hv;have hn:Pm.dC D x y o=if (Pm.cE D x y).2=true then (Pm.cE D x y).1 else o:=rfl
 rw [hn];clear hn h;generalize Pm.cE D x y=q at *;obtain ⟨z,b⟩:=q;dsimp only at NU ⊢;replace NU:=zq NU;cases b
 ·simp only [Bool.false_eq_true,if_false]
  go_enter Tryz.func51,Tryz.ntmps51
  go_wp2_with fail
  refine (NU.out).mono ?_;rintro e w1 ⟨rfl,b1⟩;go_wp2_with fail
  go_ret
  exact ⟨rfl,b1⟩
 ·simp only [if_true]
  go_enter Tryz.func51,Tryz.ntmps51
  go_wp2_with fail
  refine (NU.out).mono ?_;rintro e w1 ⟨rfl,b1⟩;go_wp2_with fail
  go_ret
  exact ⟨rfl,b1⟩
theorem W4:ET Tryz.prog 63 35 1 4 (.int .u32 0):=⟨Tryz.underlying63,info_parts (by kernel_rfl),rfl,by decide⟩
def Me (x:Nat) (cs:List Value):Prop:=cs=[Value.int .u32 (x:Int)]
def iY (w:World) (base:Nat) (A:Option Addr) (n c:Nat) (ws:List Nat):Prop:=OS Me w base 35 1 A n c ws
theorem oV:∀ {ws:List Nat} {xs:List Value},Rows Me 1 ws xs->xs=ws.map fun (x:Nat)=>Value.int .u32 (x:Int):=by
 intro ws xs h;have hl:=h.len;apply List.ext_getElem?
 intro i;rw [List.getElem?_map]
 by_cases hi:i < ws.length
 ·have h1:ws[i]?=some ws[i]:=List.getElem?_eq_getElem hi
  have h2:(xs.drop (i * 1)).take 1=[Value.int .u32 ((ws[i]:Nat):Int)]:=h.2 i _ h1;have h3:((xs.drop (i * 1)).take 1)[0]?=some (Value.int .u32 ((ws[i]:Nat):Int)):=by rw [h2]; rfl
  rw [List.getElem?_take,if_pos (by decide),List.getElem?_drop] at h3;rw [h1,Option.map_some];simpa using h3
 ·rw [List.getElem?_eq_none (by omega),List.getElem?_eq_none (by omega)]
  rfl
theorem iY.rw {w:World} {base n c:Nat} {A:Option Addr} {ws:List Nat} (h:iY w base A n c ws):RW w w.heap.size A n c ws:=by
 obtain ⟨xs,h1,h2⟩:=h;have:=oV h2;subst this;exact h1.rv
theorem iY.below {w w':World} {base n c:Nat} {A:Option Addr} {ws:List Nat} (h:iY w base A n c ws) (hb:Below w.heap.size w w'):iY w' base A n c ws:=OS.below h hb fun _ _ h=>h
theorem iY.more {w:World} {base base' n c:Nat} {A:Option Addr} {ws:List Nat} (h:iY w base A n c ws) (hb:base'<=base):iY w base' A n c ws:=OS.more h hb fun _ _ h=>h
theorem iY.cR {w:World} {base n c g:Nat} {A:Option Addr} {ws:List Nat} (h:iY w base A n c ws) (hg:g < base) (i:Nat) (u:Value):iY (w.setCell ⟨g,i,none⟩ u) base A n c ws:=by
 obtain ⟨xs,h1,h2⟩:=h;exact ⟨xs,h1.cR hg i u,h2⟩
theorem iY.none_ (w:World) (base:Nat):iY w base none 0 0 []:=OS.none_ _ _ _ _
def sM (ws:List Nat) (w:World) (e:Ending) (w':World):Prop:=∃ A c,e=.returned (.slice A ws.length c)/\iY w' w.heap.size A ws.length c ws/\Below w.heap.size w w'
section
variable {F:Nat->Prop} {w:World} {g gv lc vc:Nat} {la:Addr} {vA:Option Addr} {xs vs:List Value} {D:Dc.aZ}
theorem me (x:Int) (h:cM 131 w F g gv (some la) lc vA vc xs vs D) (hd:∀ e∈D.l,e.dflt.length<=1000000) (hv:∀ v∈D.v,v.length<=1000000) :
  Calls Tryz.prog 52 #[.pointer (some ⟨g,0,none⟩),.int .i64 x] w (sM (Pm.dJ D x) w):=by
 have Px:=cY x 0 0 h hd hv;have Py:=fun (w1:World) (hb:Below w.heap.size w w1) (y:Int)=>cY x y 0 (h.below hb) hd hv
 obtain ⟨hc8,hce⟩:=Pm.GB D x;have hn0:=(Pm.iA D x 0 (o:=0) (by omega)).1;have hst:=Pm.uF D x;have hrg:=fun y=>Pm.iA D x y (o:=0) (by omega)
 have hws:Pm.dJ D x=Pm.fp D x (Pm.xR D x):=rfl;have XK:Pm.fp D x 0=[]:=rfl;have hln:=Pm.pD D x;rw [hws];generalize Pm.dC D x=nd at *;generalize Pm.fp D x=wk at *;generalize Pm.xR D x=cn at *;have HST:=zq hst; have Ub:=zq hrg; have Uc:=zq XK; have Pz:=zq hln;replace Px:=zq Px; replace Py:=zq Py;clear h hws hst hrg XK hln;generalize hz0:nd 0 0=z0 at *;clear hz0;rcases (show (8 < z0/\cn=8)\/(z0=(cn:Int)) by omega) with ⟨h8,rfl⟩ | rfl
 ·clear hce hn0
  go_enter Tryz.func52,Tryz.ntmps52
  go_wp2_with fail
  refine (Px.out).mono ?_;rintro e w1 ⟨rfl,b1⟩;go_wp2_with fail
  go_loopw [5,11] (fun v i wr=>∃ (k:Nat) (A1:Option Addr) (c1:Nat),k<=8/\i=.int .i64 k/\v=.slice A1 k c1/\OS Me wr w.heap.size 35 1 A1 k c1 (wk k)/\Below w.heap.size w wr) (fun _ i _=>8 - (intOf i).toNat)
  case atStart=>exact ⟨0,_,_,by omega,rfl,rfl,by rw [Uc.out]; exact OS.none_ _ _ _ _,b1⟩
  case round =>
   obtain ⟨k,A1,c1,hk,rfl,rfl,os,bb⟩:=hrel;clear h8 hc8
   by_cases hlt:k < 8
   ·have NK:=zq (Py.out wr bb ((k:Int) + 1))
    obtain ⟨hz1,hz2⟩:=Ub.out ((k:Int) + 1);have HS:=zq (HST.out k);generalize nd ((k:Int) + 1) 0=z at *;obtain ⟨z,rfl⟩:=Int.eq_ofNat_of_zero_le hz1;have Ud:(z:Int) % 4294967296=(z:Int):=Int.emod_eq_of_lt hz1 hz2;clear hz1 hz2;have SH:=zq os;clear os HST Ub Uc Pz Py Px hd hv;go_wp2_with fail
    refine (NK.out).mono ?_;rintro e w2 ⟨rfl,b2⟩;have d2:=aa bb b2 lq;have os2:=(SH.out).below b2 (R':=Me) fun _ _ h=>h
    clear SH NK;go_wp2_with (at_builtin; refine dU W4 (fun _=>Me) rfl (.tmp 14) (.tmp 21) rfl rfl rfl rfl w.heap.size os2 z rfl rfl (fun u hu=>by simp only [List.mem_cons,List.not_mem_nil,or_false] at hu; rw [hu]; rfl) (by omega) (by omega) d2.size (fun w1 A1 n1 c1 xs h g f cs hf=>hf) ?_; intro A3 c3 w3 os3 b3 g3 _)
    have d3:=d2.trans b3;go_wp2_with fail
    go_roundw
    case rel=>exact ⟨k + 1,A3,c3,by omega,by go_num,rfl,by rw [HS.out]; exact os3,d3⟩
    case measure=>simp [intOf] <;> omega
   ·obtain rfl:k=8:=by omega
    go_wp2_with fail
    go_ret
    exact ⟨A1,c1,by rw [Pz.out]; rfl,by rw [Pz.out]; exact os,bb⟩
 ·clear hce
  go_enter Tryz.func52,Tryz.ntmps52
  go_wp2_with fail
  refine (Px.out).mono ?_;rintro e w1 ⟨rfl,b1⟩;go_wp2_with fail
  go_loopw [5,11] (fun v i wr=>∃ (k:Nat) (A1:Option Addr) (c1:Nat),k<=cn/\i=.int .i64 k/\v=.slice A1 k c1/\OS Me wr w.heap.size 35 1 A1 k c1 (wk k)/\Below w.heap.size w wr) (fun _ i _=>cn - (intOf i).toNat)
  case atStart=>exact ⟨0,_,_,by omega,rfl,rfl,by rw [Uc.out]; exact OS.none_ _ _ _ _,b1⟩
  case round =>
   obtain ⟨k,A1,c1,hk,rfl,rfl,os,bb⟩:=hrel
   by_cases hlt:k < cn
   ·have NK:=zq (Py.out wr bb ((k:Int) + 1))
    obtain ⟨hz1,hz2⟩:=Ub.out ((k:Int) + 1);have HS:=zq (HST.out k);generalize nd ((k:Int) + 1) 0=z at *;obtain ⟨z,rfl⟩:=Int.eq_ofNat_of_zero_le hz1;have Ud:(z:Int) % 4294967296=(z:Int):=Int.emod_eq_of_lt hz1 hz2;clear hz1 hz2;have SH:=zq os;clear os HST Ub Uc Pz Py Px hd hv;go_wp2_with fail
    refine (NK.out).mono ?_;rintro e w2 ⟨rfl,b2⟩;have d2:=aa bb b2 lq;have os2:=(SH.out).below b2 (R':=Me) fun _ _ h=>h
    clear SH NK;go_wp2_with (at_builtin; refine dU W4 (fun _=>Me) rfl (.tmp 14) (.tmp 21) rfl rfl rfl rfl w.heap.size os2 z rfl rfl (fun u hu=>by simp only [List.mem_cons,List.not_mem_nil,or_false] at hu; rw [hu]; rfl) (by omega) (by omega) d2.size (fun w1 A1 n1 c1 xs h g f cs hf=>hf) ?_; intro A3 c3 w3 os3 b3 g3 _)
    have d3:=d2.trans b3;go_wp2_with fail
    go_roundw
    case rel=>exact ⟨k + 1,A3,c3,by omega,by go_num,rfl,by rw [HS.out]; exact os3,d3⟩
    case measure=>simp [intOf] <;> omega
   ·obtain rfl:k=cn:=by omega
    go_wp2_with fail
    go_ret
    exact ⟨A1,c1,by rw [Pz.out]; rfl,by rw [Pz.out]; exact os,bb⟩
end
end
end Go.Proofs.YtijegngfclkdaaaGreatDoor
