/-
  Pieces of the proof: part 50 of 54.
  Conditions: none.
-/
import Derived.Deep.DeepCutAuto
import Derived.Deep.CutBlock
import Derived.Lib.MinMax
import Derived.Test.YtijegngfclkdaaaGreatDoorW13
import Derived.Test.YtijegngfclkdaaaGreatDoorW20
import Derived.Test.YtijegngfclkdaaaGreatDoorX46
import Derived.Test.YtijegngfclkdaaaGreatDoorX49
set_option linter.unusedVariables false
set_option linter.unusedSimpArgs false
set_option maxHeartbeats 100000000
set_option maxRecDepth 100000
namespace Go.Proofs.YtijegngfclkdaaaGreatDoor.Ev
open Go Go.RowKit Tw
def LpI (m k cc:Nat) (w wr:World) (bk:Addr) (gf:Nat):Prop:=cc≤k∧∃ (x:Dt) (md:Ob),(md=map0∨md=map1)∧Iv m k cc x∧Hs (idleR md) w wr x (.pointer (some bk)) (.pointer (some ⟨gf,0,none⟩)) wr.heap.size fun _ _=>False
theorem meas40 (k:Nat) (h:k < 40):40 - (intOf (.int .i64 ((k:Int) + 1))).toNat < 40 - (intOf (.int .i64 (k:Int))).toNat:=by
 simp only [intOf];omega
def Ob1 (H:Nat) (cs:Array Value):Nat→Obj→Prop:=fun b o=>b=H∧o=.cells cs 41 (0,0)
theorem wears_any (w:World) (hg:ErrG w) (h0:0 < w.heap.size) (s:Nat) (hs:s < 256) {A:Option Addr} {n c:Nat} (ho:ROp w w.heap.size A n c) :
  Calls Tryz.prog 3 #[.int .u8 (s:Int),.slice A n c] w fun e w'=>e=.returned (.bool true)∧Below w.heap.size w w':=by
 obtain ⟨m,hm⟩:∃ m:Nat,3 + (s:Int) % 6=(m:Int):=⟨3 + s % 6,by omega⟩;have hm3:3≤m∧m≤8:=by omega
 have F1:=Lib.hid (flaNew_any w m 1073741824 (by omega) (by omega) (by omega));go_enter Tryz.func3,Tryz.ntmps3
 go_wp2_with fail
 refine (F1.out).mono ?_;rintro e w1 ⟨gf,A1,c1,A2,rfl,b1,fm1⟩;have HM:=Lib.hid hm;have FM1:=Lib.hid (And.intro b1 fm1);clear F1 hm b1 fm1;go_wp2_with fail
 refine (new_here hg h0 FM1.out.1 FM1.out.2 hm3).mono ?_;rintro e w2 ⟨bk,rfl,x0,i0,h2⟩;have L0:=Lib.hid (show LpI m 0 0 w w2 bk gf from ⟨Nat.le_refl _,x0,map0,.inl rfl,i0,h2⟩);have HO:=Lib.hid (And.intro ho (And.intro hg h0));have hn:=ho.lt;clear i0 h2 FM1 ho hg h0;go_upto_region 7 with fail
 go_cut [10] (fun v wx=>v=.int .i64 0∧wx=w2)
 case first =>
  go_wp2_with fail
  go_meet
  exact ⟨rfl,rfl⟩
 obtain ⟨rfl,rfl⟩:=hcut;go_wp2_with fail
 go_loopw [10,11,12] (fun kv cv iv wr=>∃ k cc:Nat,k≤n∧k≤40∧kv=.int .i64 k∧cv=.int .i64 cc∧iv=.int .i64 k∧Hid (LpI m k cc w wr bk gf)) (fun _ _ iv _=>40 - (intOf iv).toNat)
 case atStart=>exact ⟨0,0,Nat.zero_le _,Nat.zero_le _,rfl,rfl,rfl,L0⟩
 case round =>
  obtain ⟨k,cc,hkn,hk40,rfl,rfl,rfl,LP⟩:=hrel;clear L0;obtain ⟨wo,hwo⟩:∃ wo,wo=wr:=⟨wr,rfl⟩;subst hwo
  by_cases hlt:k < n∧k < 40
  ·obtain ⟨hlt,hlt40⟩:=hlt
   obtain ⟨hck,x,md,hmd,iv,hs1⟩:=LP.out;have old:=hs1.old;obtain ⟨ob,oo,ki,a1,a2,A3,n3,c3,a4,g,nn,mm,a8,a9,a10,A11,n11,c11,a12,a13,A14,n14,c14,a15,a16,rfl,_,hg8,hnn,hmm,CS⟩:=(HO.out.1.below old).at_ hlt;have HS1:=Lib.hid (And.intro hck (And.intro hmd (And.intro iv hs1)));clear hck hmd iv hs1 LP old;have t40:decide ((k:Int) < 40)=true:=decide_eq_true (by omega);go_wp2_with fail
   clear t40;obtain ⟨cs,hcs⟩:∃ cs:Array Value,cs=#[.int .i64 ki,.int .i64 a1,.int .i64 a2,.slice A3 n3 c3,.int .u8 a4,.int .u8 (g:Int),.int .i64 nn,.int .u32 mm,.int .i64 a8,.int .i64 a9,.bool a10,.slice A11 n11 c11,.int .i64 a12,.int .i64 a13,.slice A14 n14 c14,.int .i64 a15,.int .u32 a16]:=⟨_,rfl⟩;rw [← hcs];have q0:cs[0]?=some (.int .i64 ki):=by rw [hcs]; rfl
   have q5:cs[5]?=some (.int .u8 (g:Int)):=by rw [hcs]; rfl
   have q6:cs[6]?=some (.int .i64 nn):=by rw [hcs]; rfl
   have q7:cs[7]?=some (.int .u32 mm):=by rw [hcs]; rfl
   have HQ:=Lib.hid (And.intro q0 (And.intro q5 (And.intro q6 q7)));clear hcs q0 q5 q6 q7 CS;have b3:=alloc_one wo (.cells cs 41);have K3:=Blk.new wo 41 cs;have z3:(wo.alloc (.cells cs 41)).heap.size=wo.heap.size + 1:=Array.size_push _;generalize wo.alloc (.cells cs 41)=w3 at *;have HB3:=Lib.hid (And.intro b3 (And.intro K3 z3));clear b3 K3 z3;have E1:=Lib.hid (And.intro hnn (And.intro hmm hg8));obtain ⟨N,hN,hN2⟩:∃ N:Nat,cnt nn 257=(N:Int)∧N≤256:=cnt_nat nn 257;have HN:=Lib.hid hN;clear hN hnn hmm hg8;go_loopw [14,15] (fun tv jv w4=>∃ (j c4:Nat) (A4:Option Addr) (τ:List UInt8),j≤N∧jv=.int .i64 j∧tv=.slice A4 j c4∧Hid (OB w4 (wo.heap.size + 1) A4 j c4 τ∧τ.length=j∧(∀ q∈τ,97≤q.toNat∧q.toNat≤122)∧Below (wo.heap.size + 1) w3 w4)) (fun _ jv _=>N - (intOf jv).toNat)
   case atStart=>exact ⟨0,0,none,[],Nat.zero_le _,rfl,rfl,Lib.hid ⟨OB.none_ _ _,rfl,(fun q hq=>(by cases hq)),Below.refl _ _⟩⟩
   case round =>
    obtain ⟨j,c4,A4,τ,hj,rfl,rfl,TX⟩:=hrel;have K4:=HB3.out.2.1.below TX.out.2.2.2 (Nat.lt_succ_self _);have c6:=(K4.cell 6).trans HQ.out.2.2.1;have CN:Hid (Calls Tryz.prog 7 #[.int .i64 nn,.int .i64 257] wr fun e w'=>e=.returned (.int .i64 (N:Int))∧wr=w'):=Lib.hid (by rw [← HN.out]; exact Count_any nn 257 wr (by decide) (by decide) E1.out.1.1 E1.out.1.2);clear K4
    by_cases hjN:j < N
    ·as_aux_lemma =>
      obtain ⟨r,hr,hr26⟩:∃ r:Nat,Int.tmod (j:Int) 26=(r:Int)∧r < 26:=tmod_nat j 26 (by decide);obtain ⟨hown,hl,hle,hbt⟩:=TX.out;have HT:=Lib.hid (And.intro hl (And.intro hle hbt));have hz:=HB3.out.2.2;have hzb:=hbt.size;clear TX hl hle hbt;go_wp2_with fail
      refine (CN.out).mono ?_;rintro e w9 ⟨rfl,rfl⟩;go_wp2_with (at_builtin; refine wpList_appb_one etb rfl (.tmp 74) (.tmp 79) rfl rfl rfl (wo.heap.size + 1) hown (UInt8.ofNat (97 + r)) (byte97 hr26) (by omega) (by omega) ?_; intro A5 c5 w5 o5 b5 _ _)
      go_roundw
      case rel =>
       refine ⟨j + 1,c5,A5,τ ++ [UInt8.ofNat (97 + r)],by omega,by go_num,rfl,Lib.hid ⟨o5,?_,fun q hq=>?_,HT.out.2.2.trans b5⟩⟩
       ·rw [List.length_append,HT.out.1]; rfl
       ·rcases List.mem_append.1 hq with hq | hq
        ·exact HT.out.2.1 q hq
        ·rw [List.mem_singleton.1 hq]
         have:=byte97 hr26;omega
      case measure=>simp [intOf]; omega
    ·as_aux_lemma =>
      have hjN2:j=N:=by omega
      clear hjN;subst hjN2;obtain ⟨hown,hl,hle,hbt⟩:=TX.out;obtain ⟨hck,hmd,iv,hs1⟩:=HS1.out;obtain ⟨i2,hi2,hi22⟩:∃ r:Nat,Int.tmod (k:Int) 2=(r:Int)∧r < 2:=tmod_nat k 2 (by decide);have bw:Below wo.heap.size wo wr:=HB3.out.1.trans (hbt.mono (Nat.le_succ _));have szw:=hbt.size;have K4:=HB3.out.2.1.below hbt (Nat.lt_succ_self _);have h4:Hs (idleR md) w wr x (.pointer (some bk)) (.pointer (some ⟨gf,0,none⟩)) (wo.heap.size + 1) (Ob1 wo.heap.size cs):=((hs1.below bw).mine (b:=wo.heap.size) (nb':=wo.heap.size + 1) ⟨Nat.le_refl _,Nat.lt_succ_self _,by rw [← HB3.out.2.2]; exact szw⟩ K4).less fun _ _ h=>.inr h
      have EV:=ev_write hmd h4 iv.voff (A:=A4) (c:=c4) (τ:=τ) (by rw [hl]; exact hown) ⟨by omega,hle⟩ hi22;rw [hl,show ((8192 + i2:Nat):Int)=8192 + (i2:Int) by omega] at EV;unfold evV at EV;have HEV:=Lib.hid EV;have HIV:=Lib.hid (And.intro hck (And.intro hmd iv));clear EV hown hl hle hbt hck hmd iv hs1 bw szw K4 h4 TX HS1 HB3 hj;go_wp2_with fail
      refine (CN.out).mono ?_;rintro e w9 ⟨rfl,rfl⟩;clear c6 CN;go_wp2_with fail
      refine (HEV.out).mono ?_;rintro e w5 ⟨⟨y5,rfl⟩,h5⟩;have CU:=Lib.hid (hs_cut h5 1099511627776 0 (by decide));clear HEV h5;go_wp2_with fail
      refine (CU.out).mono ?_;rintro e w6 ⟨rfl,h6,m6⟩;replace h6:=h6.grow ⟨m6.size,Nat.le_refl _⟩;have K6:Blk w6 wo.heap.size 41 cs:=h6.at_ ⟨rfl,rfl⟩;have c60:=(K6.cell 0).trans HQ.out.1;have c66:=(K6.cell 6).trans HQ.out.2.2.1;have c67:=(K6.cell 7).trans HQ.out.2.2.2;have R6:=Lib.hid (show Rd Pl m k cc w w6 (.pointer (some bk)) (.pointer (some ⟨gf,0,none⟩)) (Ob1 wo.heap.size cs) from ⟨_,md,HIV.out.2.1,(HIV.out.2.2.poke _ _).cut _ _,⟨⟨(show (0:Int)≤1099511627776 by decide),(show (1099511627776:Int)≤1099511627776 by decide)⟩,(show (0:Int)≤0 by decide)⟩,h6⟩);have H6:=Lib.hid h6;clear CU h6 m6 K6;go_upto_if 93 with fail
      go_cut [10] (fun v wx=>v=.int .i64 k∧Hid (Rd Pl m k cc w wx (.pointer (some bk)) (.pointer (some ⟨gf,0,none⟩)) (Ob1 wo.heap.size cs)))
      case first =>
       as_aux_lemma =>
        by_cases hk4:ki=4
        ·as_aux_lemma =>
          subst hk4;obtain ⟨K,hK,hK2⟩:∃ K:Int,cnt nn 600=K∧(0≤K∧K≤1099511627776):=cnt_plan nn;have HK2:=Lib.hid hK2;clear hK2;have CN:Hid (Calls Tryz.prog 7 #[.int .i64 nn,.int .i64 600] w6.drew fun e w'=>e=.returned (.int .i64 K)∧w6.drew=w'):=Lib.hid (by rw [← hK]; exact Count_any nn 600 w6.drew (by decide) (by decide) E1.out.1.1 E1.out.1.2);have h6d:=(H6.out.below (below_drew w6)).grow ⟨(below_drew w6).size,Nat.le_refl _⟩;have CU:=Lib.hid (hs_cut h6d K mm HK2.out.1);have K6:Blk w6.drew wo.heap.size 41 cs:=h6d.at_ ⟨rfl,rfl⟩;obtain ⟨C,hC⟩:∃ C:World→Prop,∀ y,C y↔Blk y wo.heap.size 41 cs:=⟨_,fun y=>Iff.rfl⟩;have cl6:∀ y:Cl C,y.val.cell? ⟨wo.heap.size,6,none⟩=some (.int .i64 nn):=fun y=>(((hC _).1 y.ok).cell 6).trans HQ.out.2.2.1
          have cl7:∀ y:Cl C,y.val.cell? ⟨wo.heap.size,7,none⟩=some (.int .u32 mm):=fun y=>(((hC _).1 y.ok).cell 7).trans HQ.out.2.2.2
          have hC0:C w6.drew:=(hC _).2 K6;haveI instC:Nonempty (Cl C):=⟨⟨w6.drew,hC0⟩⟩;have HC:=Lib.hid (And.intro hC hC0);clear hK h6d K6 H6 hC hC0 c66 c67 R6;go_wp2_with fail
          refine region_cl 99 C (by kernel_rfl) ?_;generalize w6.drew=wd at *;refine phase_cl (by kernel_rfl) 2 HC.out.2 [0,1,4,2,5] rfl (by kernel_rfl) ?_;simp only [picks,nth]
          repeat (go_big_quiet_step (fail))
          refine wpQuiet_nil ?_;refine phase_opL 3 1 rfl (by kernel_rfl) (by decide) ?_;simp only [nth];go_wp2_with fail
          refine (CN.out).mono ?_;rintro e w9 ⟨rfl,rfl⟩;go_wp2_with fail
          refine behind_cl HC.out.2 ?_;refine phase_opL 6 0 rfl (by kernel_rfl) (by decide) ?_;simp only [nth];go_wp2_with fail
          refine (CU.out).mono ?_;rintro e w8 ⟨rfl,h8,m8⟩;replace h8:=h8.grow ⟨m8.size,Nat.le_refl _⟩;go_wp2_with fail
          refine behind_cl ((HC.out.1 _).2 (h8.at_ ⟨rfl,rfl⟩)) ?_;refine phase_endL (by kernel_rfl) ?_;go_wp2_with fail
          go_meet
          exact ⟨rfl,Lib.hid ⟨_,md,HIV.out.2.1,((HIV.out.2.2.poke _ _).cut _ _).cut _ _,⟨HK2.out,(show (0:Int)≤mm from E1.out.2.1)⟩,h8⟩⟩
        ·as_aux_lemma =>
          have hmb:(ki == 4)=false:=by simp [hk4]
          go_wp2_with fail
          go_meet
          exact ⟨rfl,R6⟩
      case rest =>
       as_aux_lemma =>
        obtain ⟨rfl,R7⟩:=hcut;clear R6 H6 c60 c66 c67;obtain ⟨x7,md7,hmd7,iv7,p7,h7⟩:=R7.out;have c75:=((show Blk wc wo.heap.size 41 cs from h7.at_ ⟨rfl,rfl⟩).cell 5).trans HQ.out.2.1;obtain ⟨g2,hg2,hg22⟩:∃ g2:Nat,Int.tmod (g:Int) 2=(g2:Int)∧g2 < 2:=tmod_nat g 2 (by decide);have CM:=cmd_any (g2:Int) (by omega) wc;unfold opV at CM;have HCM:=Lib.hid CM;have H7:=Lib.hid (And.intro hmd7 (And.intro iv7 (And.intro p7 h7)));have HCK:=Lib.hid HIV.out.1;have hg8:=E1.out.2.2;clear CM hmd7 iv7 p7 h7 R7 HIV HQ;go_wp2_with fail
        refine (HCM.out).mono ?_;rintro e w8 ⟨kb,rfl,wd8,b8⟩;have h8:=(H7.out.2.2.2.below b8).less (Ow':=fun _ _=>False) fun _ _ h=>h.elim
        have OPS:=Lib.hid (hs_ops h8);have EC:=Lib.hid (ev_cmd H7.out.1 h8 H7.out.2.1 (by omega) H7.out.2.2.1 wd8);obtain ⟨hw1,hw2⟩:=H7.out.2.1.ops;clear c75 HCM H7 h8 wd8 b8;generalize x7.f.ops=was at *;go_wp2_with fail
        refine (OPS.out).mono ?_;rintro e w9 ⟨rfl,rfl⟩;go_wp2_with fail
        refine (EC.out).mono ?_;rintro e w10 ⟨⟨y10,rfl⟩,a10⟩;obtain ⟨z,hz,OP2⟩:=a10.ops;obtain ⟨on,nv,ND,ONc,HT,HF⟩:=a10.on;have OP3:=Lib.hid OP2;have ND2:=Lib.hid ND;have ON2:=Lib.hid ONc;have HTF:=Lib.hid (And.intro HT HF);clear OPS EC a10 OP2 ND ONc HT HF;go_wp2_with fail
        refine (OP3.out).mono ?_;rintro e w11 ⟨rfl,rfl⟩;go_wp2_with fail
        refine (ND2.out).mono ?_;rintro e w12 ⟨rfl,rfl⟩;go_wp2_with fail
        refine (ON2.out).mono ?_;rintro e w13 ⟨rfl,rfl⟩;clear ND2 ON2 OP3;go_upto_if 129 with fail
        go_cut [11] (fun v wx=>∃ cc':Nat,v=.int .i64 cc'∧cc'≤k + 1∧Hid (Rd (fun _=>True) m (k + 1) cc' w wx (.pointer (some bk)) (.pointer (some ⟨gf,0,none⟩)) fun _ _=>False))
        case first =>
         as_aux_lemma =>
          cases on
          ·as_aux_lemma =>
            obtain ⟨x11,wn,hoff⟩:=HTF.out.2 rfl;have RS:=ev_reset hoff;unfold evV at RS;have HRS:=Lib.hid RS;have HWN:=Lib.hid wn;have hck:=HCK.out;clear RS hoff wn HTF;go_wp2_with fail
            refine (HRS.out).mono ?_;rintro e w14 ⟨⟨y14,rfl⟩,h14⟩;go_wp2_with fail
            go_meet
            exact ⟨cc + 1,rfl,Nat.succ_le_succ hck,Lib.hid ⟨_,map1,.inr rfl,HWN.out.reset,trivial,h14⟩⟩
          ·as_aux_lemma =>
            have hck:=HCK.out;go_wp2_with fail
            go_meet
            exact ⟨cc,rfl,Nat.le_succ_of_le hck,Lib.hid (HTF.out.1 trivial)⟩
        case rest =>
         as_aux_lemma =>
          obtain ⟨cc',rfl,hcc',R13⟩:=hcut;obtain ⟨x13,md13,hmd13,iv13,_,h13⟩:=R13.out;clear HTF R13;have WO0:Hid (Calls Tryz.prog 15 #[.pointer (some ⟨gf,0,none⟩),.int .i64 0] wc fun e w'=>e=.returned (.int .i64 (Wr.W x13.f 0:Int))∧wc=w'):=Lib.hid (hs_wornN h13 iv13 (s:=0) (Nat.lt_of_lt_of_le (by decide) iv13.n3.1));have SP0:=SumP.start iv13;have W0:=worn_small iv13 0;have H13:=Lib.hid (And.intro hmd13 (And.intro iv13 h13));clear hmd13 iv13 h13;generalize Wr.W x13.f 0=z0 at *;have HSP:=Lib.hid SP0;clear SP0;go_wp2_with fail
          refine (WO0.out).mono ?_;rintro e w14 ⟨rfl,rfl⟩;go_wp2_with fail
          refine (WO0.out).mono ?_;rintro e w15 ⟨rfl,rfl⟩;go_wp2_with fail
          clear WO0;go_loopw [20,21,22,23] (fun sv lv hv iv w4=>∃ s su lo hi:Nat,s≤m∧sv=.int .i64 su∧lv=.int .i64 lo∧hv=.int .i64 hi∧iv=.int .i64 s∧Hid (SumP m s x13 su lo hi)∧w4=wc) (fun _ _ _ iv _=>m - (intOf iv).toNat)
          case atStart=>exact ⟨0,0,z0,z0,Nat.zero_le _,rfl,rfl,rfl,rfl,HSP,rfl⟩
          case round =>
           as_aux_lemma =>
            obtain ⟨s',su,lo,hi,hsm,rfl,rfl,rfl,rfl,SP,rfl⟩:=hrel;obtain ⟨e1,e2,e3,e4⟩:=SP.out.small H13.out.2.1
            by_cases hlt3:s' < m
            ·as_aux_lemma =>
              have WS:=Lib.hid (hs_wornN H13.out.2.2 H13.out.2.1 hlt3);have hw:=worn_small H13.out.2.1 s';have SP2:=Lib.hid (SP.out.step H13.out.2.1 hlt3);generalize Wr.W x13.f s'=z at *;clear SP HSP;go_wp2_with fail
              refine (WS.out).mono ?_;rintro e w16 ⟨rfl,rfl⟩;go_wp2_with fail
              refine (WS.out).mono ?_;rintro e w17 ⟨rfl,rfl⟩;go_wp2_with fail
              refine (WS.out).mono ?_;rintro e w18 ⟨rfl,rfl⟩;go_wp2_with fail
              go_roundw
              case rel=>exact ⟨s' + 1,su + z,min lo z,max hi z,Nat.succ_le_of_lt hlt3,by go_num,congrArg (Value.int .i64) (cast_min lo z),congrArg (Value.int .i64) (cast_max hi z),by go_num,SP2,trivial⟩
              case measure=>simp [intOf]; omega
            ·as_aux_lemma =>
              have hsm2:s'=m:=Nat.le_antisymm hsm (Nat.le_of_not_lt hlt3);subst hsm2;obtain ⟨nv2,ND3,ON3⟩:=(ask_idle H13.out.1 H13.out.2.2).node;have HND:=Lib.hid ND3;have HON:=Lib.hid ON3;clear ND3 ON3 hlt3;go_wp2_with fail
              refine (HND.out).mono ?_;rintro e w19 ⟨rfl,rfl⟩;go_wp2_with fail
              refine (HON.out).mono ?_;rintro e w20 ⟨rfl,rfl⟩;go_wp2_with fail
              refine ⟨⟨k + 1,cc',Nat.succ_le_of_lt hlt,Nat.succ_le_of_lt hlt40,by go_num,rfl,by go_num,Lib.hid ⟨hcc',x13,md13,H13.out.1,H13.out.2.1,H13.out.2.2⟩⟩,?_⟩;exact meas40 k hlt40
  ·have AL:=Lib.hid (alive_any wo)
   obtain ⟨_,_,_,_,_,hsq⟩:=LP.out;have OLD:=Lib.hid hsq.old;clear hsq
   by_cases hkn2:k < n
   ·have hk2:k=40:=by omega
    subst hk2;go_wp2_with fail
    refine (AL.out).mono ?_;rintro e w9 ⟨rfl,b9⟩;have B9:=Lib.hid (below_step OLD.out b9 (Nat.le_refl _));clear b9;go_wp2_with fail
    go_ret
    exact ⟨rfl,B9.out⟩
   ·have hk2:k=n:=by omega
    subst hk2;go_wp2_with fail
    refine (AL.out).mono ?_;rintro e w9 ⟨rfl,b9⟩;have B9:=Lib.hid (below_step OLD.out b9 (Nat.le_refl _));clear b9;go_wp2_with fail
    go_ret
    exact ⟨rfl,B9.out⟩
end Go.Proofs.YtijegngfclkdaaaGreatDoor.Ev
