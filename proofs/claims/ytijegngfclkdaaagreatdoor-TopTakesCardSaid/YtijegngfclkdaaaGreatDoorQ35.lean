/-
  Piece 35 of the proof.
  Conditions: none.
-/
import Derived.Test.YtijegngfclkdaaaGreatDoorQ34
set_option linter.unusedVariables false
set_option linter.unusedSimpArgs false
set_option maxHeartbeats 100000000
set_option maxRecDepth 100000
namespace Go.Proofs.YtijegngfclkdaaaGreatDoor
section
open Go.RowKit
section
variable {F:Nat->Prop} {g:Nat} {room lost:Int} {fs:List Can.Fr} {sp:Bool}
theorem sE (w:World) (hq:QR w F g room fs lost sp):Calls Tryz.prog 148 #[.pointer (some ⟨g,0,none⟩)] w fun e w'=>e=.returned (.int .i64 (fs.length:Int))/\w=w':=by
 obtain ⟨hF,Aq,cq,hg,hfs⟩:=hq;have F0:=hg.four;go_enter Tryz.func148,Tryz.ntmps148
 go_wp2_with fail
 go_ret
 exact ⟨rfl,rfl⟩
theorem rk (w:World) (hq:QR w F g room fs lost sp):Calls Tryz.prog 111 #[.pointer (some ⟨g,0,none⟩)] w fun e w'=>e=.returned (.tuple #[])/\QR w' F g room [] lost sp/\Mv (fun b=>b=g) w w':=by
 obtain ⟨hF,Aq,cq,hg,hfs⟩:=hq;have F0:=hg.four;go_enter Tryz.func111,Tryz.ntmps111
 go_wp2_with fail
 go_end0
 exact ⟨rfl,⟨hF,none,0,hg.aJ 1 (.slice none 0 0),iZ.none_ _ _⟩,Mv.setCell w ⟨g,1,none⟩ _⟩
theorem BD (w:World) (hq:QR w F g room fs lost sp):Calls Tryz.prog 112 #[.pointer (some ⟨g,0,none⟩)] w fun e w'=>e=.returned (.bool sp)/\QR w' F g room fs lost false/\Mv (fun b=>b=g) w w':=by
 obtain ⟨hF,Aq,cq,hg,hfs⟩:=hq;have F0:=hg.four;cases sp with
 | false =>
  go_enter Tryz.func112,Tryz.ntmps112
  go_wp2_with fail
  go_ret
  exact ⟨rfl,⟨hF,Aq,cq,hg,hfs⟩,Mv.refl _ _⟩
 | true =>
  go_enter Tryz.func112,Tryz.ntmps112
  go_wp2_with fail
  go_ret
  exact ⟨rfl,⟨hF,Aq,cq,hg.aJ 3 (.bool false),hfs.mv (Mv.setCell w ⟨g,3,none⟩ _) fun b _ h=>h.2⟩,Mv.setCell w ⟨g,3,none⟩ _⟩
theorem wO (w:World) (hq:QR w F g room [] lost sp):Calls Tryz.prog 101 #[.pointer (some ⟨g,0,none⟩)] w fun e w'=>e=.returned (.tuple #[.agg #[.int .i64 0,.bool false,.slice none 0 0],.bool false])/\Below w.heap.size w w':=by
 have K:=ao.new w 37 #[.int .i64 0,.bool false,.slice none 0 0];obtain ⟨r0,r1,r2,r3⟩:=(K.eG (.int .i64 0) (.bool false) (.slice none 0 0)).three;have F0:=K.three;go_enter Tryz.func101,Tryz.ntmps101
 go_wp2_with fail
 refine (sE _ (hq.below (ae _ _))).mono ?_;rintro e w1 ⟨rfl,rfl⟩;go_wp2_with fail
 exact bodyPost_ret (v:=.tuple #[.agg #[.int .i64 0,.bool false,.slice none 0 0],.bool false]) (by simp [results,Tryz.results101,go_sem,r0,r1,r2]) rfl ⟨rfl,ae _ _⟩
theorem vF {A1 At:Option Addr} {n1 c1 ct:Nat} {fd:List UInt8} (w:World) (hF:F g) {Aq:Option Addr} {nq cq:Nat} (hg:ao w g 232 #[.int .i64 room,.slice Aq nq cq,.int .i64 lost,.bool sp])
  (hfs:iZ w (fun b=>F b/\b≠g) At fs.length ct fs) (hr:iX w (fun b=>F b/\b≠g) A1 n1 c1 fd) (X Y:Obj) :
  iX (((w.setCell ⟨g,1,none⟩ (.slice At fs.length ct)).alloc X).alloc Y) F A1 n1 c1 fd /\
  QR (((w.setCell ⟨g,1,none⟩ (.slice At fs.length ct)).alloc X).alloc Y) F g room fs lost sp/\Mv (fun b=>b=g) w (((w.setCell ⟨g,1,none⟩ (.slice At fs.length ct)).alloc X).alloc Y):=by
 have M:Mv (fun b=>b=g) w (((w.setCell ⟨g,1,none⟩ (.slice At fs.length ct)).alloc X).alloc Y) :=
  ((Mv.setCell w ⟨g,1,none⟩ (.slice At fs.length ct)).trans (Mv.alloc _ X (fun b=>b=g)) fun _ _ h=>h).trans (Mv.alloc _ Y (fun b=>b=g)) fun _ _ h=>h
 exact ⟨(hr.mv M fun _ _ h=>h.2).mono fun _ _ h=>h.1,⟨hF,At,ct,((hg.aJ 1 (.slice At fs.length ct)).alloc X).alloc Y,hfs.mv M fun _ _ h=>h.2⟩,M⟩
theorem Iu (w:World) (f:Can.Fr) (hq:QR w F g room (f :: fs) lost sp):Calls Tryz.prog 101 #[.pointer (some ⟨g,0,none⟩)] w fun e w' =>
  ∃ A n c,e=.returned (.tuple #[.agg #[.int .i64 f.id,.bool f.rem,.slice A n c],.bool true])/\iX w' F A n c f.data/\QR w' F g room fs lost sp/\Mv (fun b=>b=g) w w':=by
 have C1:=zq (fun w=>sE w (F:=F) (g:=g) (room:=room) (fs:=f :: fs) (lost:=lost) (sp:=sp));obtain ⟨hF,Aq,cq,hg,hfs⟩:=id hq;have hq1:=zq (hq.below (ae w (.cells #[.int .i64 0,.bool false,.slice none 0 0] 37)));have F0:=(hg.alloc (.cells #[.int .i64 0,.bool false,.slice none 0 0] 37)).four;have hlt:=hg.lt;obtain ⟨b,o,A1,n1,c1,rfl,eT,q0,q1,q2,hr⟩:=hfs.at_ (i:=0) (by simp);have hdrop:=hfs.drop (k:=1) (by simp);have hcap:fs.length + 1<=cq:=by obtain ⟨xs,h1,_⟩:=hfs; exact h1.le
 have hcap2:cq<=9223372036854775807:=by obtain ⟨xs,h1,_⟩:=hfs; exact h1.cap
 simp only [List.length_cons,List.getD_cons_zero,Nat.zero_mul,Nat.add_zero,Nat.add_sub_cancel,List.drop_succ_cons,List.drop_zero] at hdrop hg F0 q0 q1 q2 hr;obtain ⟨fi,fr,fd⟩:=f;dsimp only at q0 q1 hr;have ht:(((fs.length + 1:Nat):Int) == 0)=false:=by rw [beq_eq_false_iff_ne]; omega
 clear hfs hq
 by_cases hc1:cq=1
 ·subst hc1
  rw [if_pos rfl] at hdrop;obtain rfl:fs=[]:=List.eq_nil_of_length_eq_zero (by omega);have HD:Hid (iZ w (fun b=>F b/\b≠g) (some ⟨b,o,none⟩) ([]:List Can.Fr).length 0 []):=zq hdrop;clear hdrop;have HR:=zq hr; clear hr;go_enter Tryz.func101,Tryz.ntmps101
  go_wp2_with fail
  refine (C1.out _ hq1.out).mono ?_;rintro e w1 ⟨rfl,rfl⟩;go_wp2_with fail
  obtain ⟨e1,e2,e3⟩:=vF w hF hg HD.out HR.out (.cells #[.int .i64 fi,.bool fr,.slice A1 n1 c1] 37) (.cells #[.int .i64 fi,.bool fr,.slice A1 n1 c1] 37);exact bodyPost_ret (v:=.tuple #[.agg #[.int .i64 fi,.bool fr,.slice A1 n1 c1],.bool true]) (by simp [results,Tryz.results101,go_sem]) rfl ⟨A1,n1,c1,rfl,e1,e2,e3⟩
 ·rw [if_neg hc1] at hdrop
  simp only [Option.map_some,Addr.add_lit,Nat.one_mul] at hdrop;have HD:=zq hdrop; clear hdrop;have HR:=zq hr; clear hr;have hb1:(cq=1)=False:=by simpa using hc1
  go_enter Tryz.func101,Tryz.ntmps101
  go_wp2_with fail
  refine (C1.out _ hq1.out).mono ?_;rintro e w1 ⟨rfl,rfl⟩;go_wp2_with fail
  obtain ⟨e1,e2,e3⟩:=vF w hF hg HD.out HR.out (.cells #[.int .i64 fi,.bool fr,.slice A1 n1 c1] 37) (.cells #[.int .i64 fi,.bool fr,.slice A1 n1 c1] 37);exact bodyPost_ret (v:=.tuple #[.agg #[.int .i64 fi,.bool fr,.slice A1 n1 c1],.bool true]) (by simp [results,Tryz.results101,go_sem]) rfl ⟨A1,n1,c1,rfl,e1,e2,e3⟩
end
end
namespace Nn
open Go.RowKit Go.Sort Go
section
variable {s s':cu} {w w':World} {ah:Nat->Cp} {F:Nat->Prop} {g gq k b:Nat} {l:List aD.En} {act:List (Int×Int)}
theorem zY (h:lD w F g act) (code:Nat) (hc1:1<=code) (hc:code < 65536) (info:Int) (hi:¬ (0<=info/\info<=255)):Calls Tryz.prog 147 #[.pointer (some ⟨g,0,none⟩),.int .i64 (code:Int),.int .i64 info] w fun e w'=>e=.returned (.slice none 0 0)/\w=w':=by
 have BT:=zq (rS (code:Int) (by omega));obtain ⟨Aa,ca,Ah,nh,ch,xs,hs,h1,_⟩:=h.ex;have F0:=h1.three;clear h
 by_cases h0:info < 0
 ·have t1:decide (info < 0)=true:=decide_eq_true h0
  clear hi;go_enter Tryz.func147,Tryz.ntmps147
  go_wp2_with fail
  refine (BT.out _).mono ?_;rintro e _ ⟨⟨t,rfl,ht1,ht2⟩,rfl⟩;have et:((t:Int) == 0)=false:=by rw [beq_eq_false_iff_ne]; omega
  go_wp2_with fail
  go_ret
  exact ⟨rfl,rfl⟩
 ·have t1:decide (info < 0)=false:=decide_eq_false h0
  have t2:decide ((255:Int) < info)=true:=decide_eq_true (by omega);clear hi h0;go_enter Tryz.func147,Tryz.ntmps147
  go_wp2_with fail
  refine (BT.out _).mono ?_;rintro e _ ⟨⟨t,rfl,ht1,ht2⟩,rfl⟩;have et:((t:Int) == 0)=false:=by rw [beq_eq_false_iff_ne]; omega
  go_wp2_with fail
  go_ret
  exact ⟨rfl,rfl⟩
theorem AG (h:lD w F g act) (code:Nat) (hc1:1<=code) (hc:code < 65536) (info:Int):Calls Tryz.prog 147 #[.pointer (some ⟨g,0,none⟩),.int .i64 (code:Int),.int .i64 info] w (Ck g F w fun _=>True):=by
 by_cases hi:0<=info/\info<=255
 ·obtain ⟨m,rfl⟩:∃ m:Nat,info=(m:Int):=⟨info.toNat,by omega⟩
  refine (qL h code m hc1 hc (by omega)).mono ?_;rintro e w' ⟨act',_,k⟩;exact ⟨act',trivial,k⟩
 ·refine (zY h code hc1 hc info hi).mono ?_
  rintro e w' ⟨rfl,rfl⟩;exact Ck.same h (Below.refl _ _) trivial
theorem xv (h:Nd s w ah) (hq:s.gq=some gq) (hg:s.ge=some g) (hs:tu s.st) (hd:∀ e∈s.D.l,e.dflt.length<=1000000) (code:Nat) (hc1:1<=code) (hc:code < 65536) (info:Int):Calls Tryz.prog 98 #[.pointer (some ⟨s.gn,0,none⟩),.int .i64 (code:Int),.int .i64 info] w (J0 s w ah fun _=>True):=by
 have C:=h.cells.gD;rw [hg] at C;change w.cell? ⟨s.gn,3,none⟩=some (.pointer (some ⟨g,0,none⟩)) at C;have RA:=zq (AG (h.gD hg) code hc1 hc info);have TL:=zq (fun (e:Ending) (w':World) (k:Ck g (fun q=>ah q=.gD) w (fun _=>True) e w')=>oH h hq hg hs hd k);clear h hq hg hs hd hc1 hc;go_enter Tryz.func98,Tryz.ntmps98
 go_wp2_with fail
 refine (RA.out).mono ?_;intro e w1 hk;obtain ⟨A,n,c,rfl,T⟩:=TL.out _ _ hk;replace T:=zq T;clear hk;go_wp2_with fail
 refine (T.out).mono ?_;rintro e w2 ⟨rfl,R⟩;go_wp2_with fail
 go_end0
 exact ⟨rfl,R⟩
theorem JX {st:Int} (h:tu st):∃ b:UInt8,yC st b:=by
 rcases h with rfl | rfl | rfl
 ·exact ⟨4,.inr (.inl ⟨rfl,rfl⟩)⟩
 ·exact ⟨5,.inr (.inr (.inl ⟨rfl,rfl⟩))⟩
 ·exact ⟨127,.inr (.inr (.inr ⟨rfl,rfl⟩))⟩
theorem Nd.UL (h:Nd s w ah) (hq:s.gq=some gq):Calls Tryz.prog 148 #[.pointer (some ⟨gq,0,none⟩)] w fun e w'=>(∃ n:Nat,e=.returned (.int .i64 (n:Int)))/\w=w':=by
 obtain ⟨fs,lost,sp,q,_⟩:=h.dn hq;refine (sE w q).mono ?_;rintro e w' ⟨rfl,rfl⟩;exact ⟨⟨_,rfl⟩,rfl⟩
def xW (l:List aD.En) (s:cu) (w:World) (ah:Nat->Cp) (wr:World):Prop:=∃ act D an,Nd { s with act:=act,D:=D } wr an/\Kp w ah wr an/\Dk l D
theorem BY (hl:Lk l) (h:Nd s w ah) (hr:mZ l s):Calls Tryz.prog 115 #[.pointer (some ⟨s.gn,0,none⟩)] w fun e w'=>e=.returned (.tuple #[])/\xW l s w ah w':=by
 obtain ⟨gq,hq⟩:=hr.dn;obtain ⟨ge,he⟩:=hr.gD;obtain ⟨gh,hh⟩:=hr.dx;obtain ⟨gs,hs⟩:=hr.qi;obtain ⟨bt,hbt⟩:=JX hr.st;have N1:=h.drew;have S1:=zq (iV.of N1);have z2:∀ x:Wc (iV s.gn (aG s)),x.val.cell? ⟨s.gn,2,none⟩=some (.pointer (some ⟨gh,0,none⟩)):=fun x=>x.ok 2 _ (by show some (pt s.gh)=_; rw [hh]; rfl)
 have z17:∀ x:Wc (iV s.gn (aG s)),x.val.cell? ⟨s.gn,17,none⟩=some (.int .i64 s.st):=fun x=>x.ok 17 _ rfl
 have TK:=zq (wW (kx.mono (N1.dx hh) (G:=fun q=>ah q=.dx/\q < w.drew.heap.size) fun b hb e=>⟨e,hb⟩) s.st bt hr.st hbt);have HQ:=zq6 hq he hr hl hh hs;have HN:=zq2 N1 ((Kp.refl w ah).drew);clear h hq he hr hl hh hs N1 hbt;go_enter Tryz.func115,Tryz.ntmps115
 go_wp2_with fail
 haveI cg:Nonempty (Wc (iV s.gn (aG s))):=⟨⟨_,S1.out⟩⟩;refine aW 99 (iV s.gn (aG s)) (by kernel_rfl) ?_;refine aw (by kernel_rfl) 6 S1.out [0,5,1,6,2,7,3,8,4] rfl (by kernel_rfl) ?_;simp only [aj,nth]
 repeat (go_big_quiet_step (fail))
 refine wpQuiet_nil ?_;refine ag 9 5 rfl (by kernel_rfl) (by decide) ?_;simp only [nth];go_wp2_with fail
 refine (TK.out).mono ?_;rintro e w2 ⟨A,A2,n,c,n2,c2,fs,ys,rfl,rf,_,_,ov,Tc,n8,m2,h2⟩;have Mu:Mv (fun q=>ah q=.dx) w.drew w2:=m2.mono fun b _ e=>e.1
 have N2:=HN.out.1.El .dx .ext Mu (by
  show (opt s.gh yi).P _ _;rw [HQ.out.2.2.2.2.1];exact h2)
 have K2:=HN.out.2.trans (Kp.step Mu (by intro e; cases e) .ext);have S2:=zq (show iV s.gn (aG s) w2 from (by have q:=iV.of N2; exact q));have Yf:=rf.mono (G:=fun q=>aL ah w.drew.heap.size w2.heap.size .ext q≠.dn) fun q hq e=>by rw [ay ⟨e,hq⟩]; intro e; cases e
 have nw:Lo w2 (fun q=>aL ah w.drew.heap.size w2.heap.size .ext q=.ext) A2 n2 c2:=⟨ys,(ov.zC fun k hk=>(ov.lt k hk).1).mono fun q hq e=>ay ⟨e,hq⟩,Tc⟩;generalize aL ah w.drew.heap.size w2.heap.size .ext=bA at *;have hlt2:=nw.lt;have SE:=zq (dR N2 HQ.out.1 Yf);have H2:=zq2 K2 nw;clear N2 K2 nw rf Yf ov Tc m2 Mu h2 HN TK;go_wp2_with fail
 refine az S2.out ?_;refine aw (by kernel_rfl) 0 S2.out [10,11,12,13,14] rfl (by kernel_rfl) ?_;simp only [aj,nth]
 repeat (go_big_quiet_step (fail))
 refine wpQuiet_nil ?_;refine au (by kernel_rfl) ?_;clear z2 z17 S1 S2 cg;go_wp2_with fail
 refine (SE.out).mono ?_;rintro e w3 ⟨rfl,dm,N3,K3⟩;have Yg:=K3.Hf H2.out.2;have R3:Hid (xW l s w3 dm w3):=zq ⟨s.act,s.D,dm,N3,Kp.refl _ _,HQ.out.2.2.1.dk⟩;have H3:=zq2 (H2.out.1.trans K3) Yg;clear N3 K3 Yg SE H2;go_wp2_with fail
 go_loopw [26] (fun v wr=>∃ k:Nat,k<=n2/\v=.int .i64 k/\Hid (xW l s w3 dm wr)) (fun v _=>n2 - (intOf v).toNat)
 case atStart=>exact ⟨0,by omega,rfl,R3⟩
 case round =>
  obtain ⟨k,hk,rfl,HR⟩:=hrel;clear R3
  by_cases hlt:k < n2
  ·have tk:decide ((k:Int) < (n2:Int))=true:=decide_eq_true (by omega)
   obtain ⟨Le,D4,fF,N4,K4,I3⟩:=HR.out;obtain ⟨b,o,x,y,rfl,hb,c0,c1⟩:=(K4.Hf H3.out.2).at_ hlt;have b5:=ae wr (.cells #[.int .i64 x,.int .i64 y] 243);have B5:=(ao.new wr 243 #[.int .i64 x,.int .i64 y]).two;have N5:=N4.below b5 .ext;have K5:=K4.trans (Kp.below b5 .ext);have CL:=xv N5 (gq:=gq) (g:=ge) HQ.out.1 HQ.out.2.1 HQ.out.2.2.1.st (I3.nR HQ.out.2.2.2.1) 33072 (by decide) (by decide) y;dsimp only at CL;replace CL:=zq CL;have H5:=zq2 K5 I3;clear N4 K4 N5 K5 I3 b5 HR;go_wp2_with fail
   refine (CL.out).mono ?_;rintro e w6 ⟨rfl,jK,D6,gA,_,N6,K6,r6⟩;dsimp only at N6 r6;have R6:Hid (xW l s w3 dm w6):=zq ⟨jK,D6,gA,N6,H5.out.1.trans K6,H5.out.2.r0 r6⟩;clear N6 K6 r6 CL H5;go_wp2_with fail
   go_roundw
   case rel=>exact ⟨k + 1,by omega,by first | rfl | rw [hw] | go_num,R6⟩
   case measure=>(try rw [hw]); simp [intOf]; omega
  ·have tk4:decide ((k:Int) < (n2:Int))=false:=decide_eq_false (by omega)
   obtain ⟨Le,D4,fF,N4,K4,I3⟩:=HR.out;have SV:=dO N4 HQ.out.2.2.1.st 2 (by unfold qe; decide);obtain ⟨sv,hsv⟩:∃ b,gJ s.st 2=b:=⟨_,rfl⟩;dsimp only at SV;rw [hsv] at SV;replace SV:=zq SV;have H4:=zq3 N4 (H3.out.1.trans K4) I3;clear N4 K4 I3 HR H3 hsv;go_wp2_with fail
   refine (SV.out).mono ?_;rintro e _ ⟨rfl,rfl⟩;go_upto_if 36 with fail
   go_cut [36] (fun v wx=>v=.bool sv/\Hid (xW l s w ah wx))
   case first =>
    cases sv
    ·have E4:Hid (xW l s w ah wr):=zq ⟨Le,D4,fF,H4.out.1,H4.out.2.1,H4.out.2.2⟩
     go_wp2_with fail
     go_meet
     exact ⟨rfl,E4⟩
    ·have c1:=H4.out.1.cells.qi
     dsimp only at c1;rw [HQ.out.2.2.2.2.2] at c1;change wr.cell? ⟨s.gn,1,none⟩=some (.pointer (some ⟨gs,0,none⟩)) at c1;have ST:=zq (CZ (g:=gs) (F:=fun q=>fF q=.qi) (by
      have q:=H4.out.1 .qi;change (opt s.gs uE).P _ _ at q;rw [HQ.out.2.2.2.2.2] at q;exact q))
     have SE:=dR H4.out.1 (g:=gq) HQ.out.1 (iZ.none_ _ _);dsimp only at SE;replace SE:=zq SE;go_wp2_with fail
     refine (ST.out).mono ?_;rintro e _ ⟨rfl,rfl⟩;go_wp2_with fail
     refine (SE.out).mono ?_;rintro e w5 ⟨rfl,fv,N5,K5⟩;have E4:Hid (xW l s w ah w5):=zq ⟨Le,D4,fv,N5,H4.out.2.1.trans K5,H4.out.2.2⟩;clear N5 K5;go_wp2_with fail
     go_meet
     exact ⟨rfl,E4⟩
   obtain ⟨rfl,HE⟩:=hcut;clear H4 SV;obtain ⟨Dt,D5,fv,N5,K5,Te⟩:=HE.out;have SV:=dO N5 HQ.out.2.2.1.st 1 (by unfold qe; decide);obtain ⟨Yh,hsv⟩:∃ b,gJ s.st 1=b:=⟨_,rfl⟩;dsimp only at SV;rw [hsv] at SV;replace SV:=zq SV;clear N5 K5 Te hsv;go_wp2_with fail
   refine (SV.out).mono ?_;rintro e _ ⟨rfl,rfl⟩;go_upto_if 46 with fail
   go_cut [46] (fun v wx=>v=.bool Yh/\Hid (xW l s w ah wx))
   case first =>
    cases Yh
    ·go_wp2_with fail
     go_meet
     exact ⟨rfl,HE⟩
    ·obtain ⟨Dt,D5,fv,N5,K5,Te⟩:=HE.out
     have c0:wc.cell? ⟨s.gn,9,none⟩=some (.pointer (pa (s.go 0))):=N5.out (k:=0) (by decide);have c1:wc.cell? ⟨s.gn,10,none⟩=some (.pointer (pa (s.go 1))):=N5.out (k:=1) (by decide);have c2':wc.cell? ⟨s.gn,11,none⟩=some (.pointer (pa (s.go 2))):=N5.out (k:=2) (by decide);have c3':wc.cell? ⟨s.gn,12,none⟩=some (.pointer (pa (s.go 3))):=N5.out (k:=3) (by decide);clear N5 K5 Te;go_wp2_with fail
     clear c0 c1 c2' c3';go_loopw [52] (fun v wr=>∃ k:Nat,k<=4/\v=.int .i64 k/\Hid (xW l s w ah wr)) (fun v _=>4 - (intOf v).toNat)
     case atStart=>exact ⟨0,by omega,rfl,HE⟩
     case round =>
      obtain ⟨j,hj,rfl,HJ⟩:=hrel;clear HE
      by_cases Dr:j < 4
      ·have tj:decide ((j:Int) < 4)=true:=decide_eq_true (by omega)
       have ix:∀ w:World,(Instr.index 105 (.agg #[.pointer (pa (s.go 0)),.pointer (pa (s.go 1)),.pointer (pa (s.go 2)),.pointer (pa (s.go 3))]) (.int .i64 (j:Int))).run Tryz.prog w=.ok (.pointer (pa (s.go j))) w:=NS (fun i=>pa (s.go i)) Dr;obtain ⟨jK,D6,gA,N6,K6,na⟩:=HJ.out;have OP:=AZ N6 (na.nR HQ.out.2.2.2.1) na.small j;change Calls _ _ #[.pointer (pa (s.go j))] _ _ at OP;replace OP:=zq OP;have H6:=zq2 K6 na;clear N6 K6 na HJ;go_wp2_with fail
       refine (OP.out).mono ?_;rintro e w7 ⟨A7,n7,q7,X4,kK,rfl,IY,N7,K7⟩;have SE:=dR N7 (g:=gq) HQ.out.1 IY;dsimp only at SE;replace SE:=zq SE;have H7:=zq2 (H6.out.1.trans K7) H6.out.2;clear N7 K7 IY OP H6 ix;go_wp2_with fail
       refine (SE.out).mono ?_;rintro e w8 ⟨rfl,vM,N8,K8⟩;have R8:Hid (xW l s w ah w8):=zq ⟨jK,D6,vM,N8,H7.out.1.trans K8,H7.out.2⟩;clear N8 K8 SE H7;go_wp2_with fail
       go_roundw
       case rel=>exact ⟨j + 1,by omega,by first | rfl | rw [hw] | go_num,R8⟩
       case measure=>(try rw [hw]); simp [intOf]; omega
      ·have tj:decide ((j:Int) < 4)=false:=decide_eq_false (by omega)
       go_wp2_with fail
       go_meet
       exact ⟨rfl,HJ⟩
   obtain ⟨rfl,HF⟩:=hcut;clear HE SV;obtain ⟨jK,D6,gA,N6,K6,na⟩:=HF.out;have c0:=N6.cells.dn;dsimp only at c0;rw [HQ.out.1] at c0;change World.cell? _ ⟨s.gn,0,none⟩=some (.pointer (some ⟨gq,0,none⟩)) at c0;have QL:=zq (N6.UL HQ.out.1);have CL:=f_ N6 (gq:=gq) (g:=ge) HQ.out.1 HQ.out.2.1 HQ.out.2.2.1.st (na.nR HQ.out.2.2.2.1) 33040 0;dsimp only at CL;replace CL:=zq CL;have H6:=zq3 N6 K6 na;clear N6 K6 na HF;go_wp2_with fail
   refine (QL.out).mono ?_;rintro e _ ⟨⟨m,rfl⟩,rfl⟩
   by_cases hm:m=0
   ·subst hm
    go_wp2_with fail
    refine (CL.out).mono ?_;rintro e w7 ⟨rfl,Du,D7,kK,_,N7,K7,r7⟩;dsimp only at N7 r7;have R7:Hid (xW l s w ah w7):=zq ⟨Du,D7,kK,N7,H6.out.2.1.trans K7,H6.out.2.2.r0 r7⟩;clear N7 K7 r7 CL H6;go_wp2_with fail
    go_end0
    exact ⟨rfl,R7.out⟩
   ·have tm:((m:Int) == 0)=false:=by rw [beq_eq_false_iff_ne]; omega
    have tm':decide ((m:Int)=0)=false:=decide_eq_false (by omega);go_wp2_with fail
    go_end0
    exact ⟨rfl,jK,D6,gA,H6.out.1,H6.out.2.1,H6.out.2.2⟩
end
section
variable {s s':cu} {w w':World} {ah:Nat->Cp} {g gq k b:Nat} {l:List aD.En}
theorem vx (hl:Lk l) (h:Nd s w ah) (hr:mZ l s) (ix sb:Int) (hx:¬ kM ix) {A:Option Addr} {n c B:Nat} {bs:List UInt8} (hb:RB w B A n c bs) (hB:B<=w.heap.size) (hn:n<=1000000):Calls Tryz.prog 116 #[.pointer (some ⟨s.gn,0,none⟩),.agg #[.int .i64 ix,.int .i64 sb,.slice A n c]] w fun e w'=>(∃ z,e=.returned (.int .i64 z))/\xW l s w ah w':=by
 obtain ⟨gq,hq⟩:=hr.dn;have b0:=ae w (.cells #[.int .i64 ix,.int .i64 sb,.slice A n c] 34);have B0:=ao.new w 34 #[.int .i64 ix,.int .i64 sb,.slice A n c];have N0:=h.below b0 .ext;have K0:=Kp.below (ah:=ah) b0 .ext;have bx:=ay (ah:=ah) (i:=.ext) (show w.heap.size<=w.heap.size/\w.heap.size < (w.alloc (.cells #[.int .i64 ix,.int .i64 sb,.slice A n c] 34)).heap.size from ⟨Nat.le_refl _,B0.lt⟩);have hr0:=(hb.below (b0.mono hB)).below ((Below.refl _ (w.alloc (.cells #[.int .i64 ix,.int .i64 sb,.slice A n c] 34))).drew.mono (Nat.le_trans hB b0.size));obtain ⟨w0,hw0⟩:∃ x,w.alloc (.cells #[.int .i64 ix,.int .i64 sb,.slice A n c] 34)=x:=⟨_,rfl⟩;rw [hw0] at b0 B0 N0 K0 bx hr0;generalize aL ah w.heap.size w0.heap.size .ext=eO at *;have N1:=N0.drew;have B1:=B0.later (Below.refl _ w0).drew;have S1:=zq (show dV s.gn (aG s) w.heap.size (c3 (.int .i64 ix) (.int .i64 sb) (.slice A n c)) w0.drew from (by have q:=dV.of N1 B1; exact q));have Ld:∀ x:Wc (dV s.gn (aG s) w.heap.size (c3 (.int .i64 ix) (.int .i64 sb) (.slice A n c))),x.val.cell? ⟨s.gn,15,none⟩=some (.pointer (some ⟨s.gd,0,none⟩)):=fun x=>x.ok.1 15 _ rfl
 have y0:∀ x:Wc (dV s.gn (aG s) w.heap.size (c3 (.int .i64 ix) (.int .i64 sb) (.slice A n c))),x.val.cell? ⟨w.heap.size,0,none⟩=some (.int .i64 ix):=fun x=>x.ok.2 0 _ rfl
 have y1:∀ x:Wc (dV s.gn (aG s) w.heap.size (c3 (.int .i64 ix) (.int .i64 sb) (.slice A n c))),x.val.cell? ⟨w.heap.size,1,none⟩=some (.int .i64 sb):=fun x=>x.ok.2 1 _ rfl
 have y2:∀ x:Wc (dV s.gn (aG s) w.heap.size (c3 (.int .i64 ix) (.int .i64 sb) (.slice A n c))),x.val.cell? ⟨w.heap.size,2,none⟩=some (.slice A n c):=fun x=>x.ok.2 2 _ rfl
 have PK:=N1.EZ ix sb hr0 (show B<=w0.drew.heap.size from Nat.le_trans hB b0.size) (by omega);obtain ⟨z,hz⟩:∃ z,Dc.pK s.D.l true ix sb bs=z:=⟨_,rfl⟩;rw [hz] at PK;replace PK:=zq PK;have HN:=zq3 K0.drew B1 bx;have HQ:=zq4 hq hr hl hx;clear h hq hr hl hb hB b0 B0 N0 K0 bx hr0 N1 B1 hn hz hx;go_enter Tryz.func116,Tryz.ntmps116
 go_wp2_with fail
 haveI cg:Nonempty (Wc (dV s.gn (aG s) w.heap.size (c3 (.int .i64 ix) (.int .i64 sb) (.slice A n c)))):=⟨⟨_,S1.out⟩⟩;refine aW 99 (dV s.gn (aG s) w.heap.size (c3 (.int .i64 ix) (.int .i64 sb) (.slice A n c))) (by kernel_rfl) ?_;refine aw (by kernel_rfl) 2 S1.out [0,4,6,8,1,5,7,9,2,3] rfl (by kernel_rfl) ?_;simp only [aj,nth]
 repeat (go_big_quiet_step (fail))
 refine wpQuiet_nil ?_;refine ag 10 1 rfl (by kernel_rfl) (by decide) ?_;simp only [nth];go_wp2_with fail
 refine (PK.out).mono ?_;rintro e w2 ⟨rfl,bA,N2,K2,Q2⟩;have B2:=HN.out.2.1.mv Q2.mv (fun e=>by have q:=HN.out.2.2; rw [show eO w.heap.size=.dy from e] at q; cases q);have S2:=zq (show dV s.gn (aG s) w.heap.size (c3 (.int .i64 ix) (.int .i64 sb) (.slice A n c)) w2 from (by have q:=dV.of N2 B2; exact q));have Yi:bA w.heap.size=.ext:=K2.ext _ HN.out.2.1.lt HN.out.2.2;have dk:=HQ.out.2.1.dk.oD (.inl HQ.out.2.2.2) sb bs;have H2:=zq5 N2 (HN.out.1.trans K2) dk B2 Yi;clear N2 K2 Q2 B2 Yi PK HN dk;go_wp2_with fail
 refine az S2.out ?_;refine aw (by kernel_rfl) 0 S2.out [11] rfl (by kernel_rfl) ?_;simp only [aj,nth]
 repeat (go_big_quiet_step (fail))
 refine wpQuiet_nil ?_;refine au (by kernel_rfl) ?_;clear Ld y0 y1 y2 S1 S2 cg;generalize Dc.bK s.D ix sb bs=D2 at *
 by_cases hz:z=0
 ·subst hz
  have SV:=dO H2.out.1 HQ.out.2.1.st 1 (by unfold qe; decide);obtain ⟨sv,hsv⟩:∃ b,gJ s.st 1=b:=⟨_,rfl⟩;dsimp only at SV;rw [hsv] at SV;replace SV:=zq SV;clear hsv;go_wp2_with fail
  refine (SV.out).mono ?_;rintro e _ ⟨rfl,rfl⟩;cases sv
  ·go_wp2_with fail
   go_ret
   exact ⟨⟨_,rfl⟩,s.act,D2,bA,H2.out.1,H2.out.2.1,H2.out.2.2.1⟩
  ·have N5:=H2.out.1
   have c0:w2.cell? ⟨s.gn,9,none⟩=some (.pointer (pa (s.go 0))):=N5.out (k:=0) (by decide);have c1:w2.cell? ⟨s.gn,10,none⟩=some (.pointer (pa (s.go 1))):=N5.out (k:=1) (by decide);have c2':w2.cell? ⟨s.gn,11,none⟩=some (.pointer (pa (s.go 2))):=N5.out (k:=2) (by decide);have c3':w2.cell? ⟨s.gn,12,none⟩=some (.pointer (pa (s.go 3))):=N5.out (k:=3) (by decide);have R5:Hid (xW l s w2 bA w2):=zq ⟨s.act,D2,bA,N5,Kp.refl _ _,H2.out.2.2.1⟩;clear N5;go_wp2_with fail
   clear c0 c1 c2' c3';go_loopw [27] (fun v wr=>∃ k:Nat,k<=4/\v=.int .i64 k/\Hid (xW l s w2 bA wr)) (fun v _=>4 - (intOf v).toNat)
   case atStart=>exact ⟨0,by omega,rfl,R5⟩
   case round =>
    obtain ⟨j,hj,rfl,HJ⟩:=hrel;clear R5
    by_cases Dr:j < 4
    ·have tj:decide ((j:Int) < 4)=true:=decide_eq_true (by omega)
     have vR:∀ w:World,(Instr.index 105 (.agg #[.pointer (pa (s.go 0)),.pointer (pa (s.go 1)),.pointer (pa (s.go 2)),.pointer (pa (s.go 3))]) (.int .i64 (j:Int))).run Tryz.prog w=.ok (.pointer (pa (s.go j))) w:=NS (fun i=>pa (s.go i)) Dr;obtain ⟨jK,D6,gA,N6,K6,na⟩:=HJ.out;have B6:=(H2.out.2.2.2.1.mv K6.mv fun e=>e H2.out.2.2.2.2).three;have HA:=Ip N6 j ix sb;change Calls _ _ #[.pointer (pa (s.go j)),_,_] _ _ at HA;replace HA:=zq HA;have OP:=Cj N6 (na.nR HQ.out.2.2.1) na.small j;change Calls _ _ #[.pointer (pa (s.go j))] _ _ at OP;replace OP:=zq OP;have H6:=zq2 K6 na;clear N6 K6 na;go_wp2_with fail
     refine (HA.out).mono ?_;rintro e _ ⟨⟨hb,rfl⟩,rfl⟩;cases hb
     ·go_wp2_with fail
      go_roundw
      case rel=>exact ⟨j + 1,by omega,by first | rfl | rw [hw] | go_num,HJ⟩
      case measure=>(try rw [hw]); simp [intOf]; omega
     ·go_wp2_with fail
      refine (OP.out).mono ?_;rintro e w7 ⟨A7,n7,q7,X4,kK,rfl,IY,N7,K7⟩;have SE:=dR N7 (g:=gq) HQ.out.1 IY;dsimp only at SE;replace SE:=zq SE;have H7:=zq2 (H6.out.1.trans K7) H6.out.2;clear N7 K7 IY OP H6 vR HJ B6;go_wp2_with fail
      refine (SE.out).mono ?_;rintro e w8 ⟨rfl,vM,N8,K8⟩;have R8:Hid (xW l s w2 bA w8):=zq ⟨jK,D6,vM,N8,H7.out.1.trans K8,H7.out.2⟩;clear N8 K8 SE H7;go_wp2_with fail
      go_roundw
      case rel=>exact ⟨j + 1,by omega,by first | rfl | rw [hw] | go_num,R8⟩
      case measure=>(try rw [hw]); simp [intOf]; omega
    ·have tj:decide ((j:Int) < 4)=false:=decide_eq_false (by omega)
     go_wp2_with fail
     go_ret
     obtain ⟨jK,D6,gA,N6,K6,na⟩:=HJ.out;exact ⟨⟨_,rfl⟩,jK,D6,gA,N6,H2.out.2.1.trans K6,na⟩
 ·have e1:(z == 0)=false:=by simpa using hz
  have e2:(z != 0)=true:=by simpa using hz
  clear hz;go_wp2_with fail
  go_ret
  exact ⟨⟨_,rfl⟩,s.act,D2,bA,H2.out.1,H2.out.2.1,H2.out.2.2.1⟩
theorem Nd.LR (h:Nd s w ah) (hq:s.gq=some gq):Calls Tryz.prog 112 #[.pointer (some ⟨gq,0,none⟩)] w fun e w'=>(∃ b:Bool,e=.returned (.bool b))/\∃ an,Nd s w' an/\Kp w ah w' an:=by
 obtain ⟨fs,lost,sp,q,h2⟩:=h.dn hq;have gc:ah gq=.dn:=q.1;refine (BD w q).mono ?_;rintro e w' ⟨rfl,q',hm⟩;have hm':Mv (fun q=>ah q=.dn) w w':=hm.mono fun b _ e=>by rw [show b=gq from e]; exact gc
 exact ⟨⟨_,rfl⟩,_,h.He hq hm' ⟨fs,lost,false,q'.mono fun _ _ e=>.inl e,h2⟩,Kp.step hm' (by intro e; cases e) _⟩
def UP (s:cu) (w:World) (ah:Nat->Cp) (e:Ending) (w':World):Prop:=(∃ z,e=.returned (.int .i64 z))/\∃ act D an,Nd { s with act:=act,D:=D } w' an/\Kp w ah w' an/\R0 s.D D/\(act=s.act\/act≠[])
theorem um (hl:Lk l) (h:Nd s w ah) (hr:mZ l s) (z:Int):Calls Tryz.prog 68 #[.pointer (some ⟨s.gn,0,none⟩),.int .i64 z] w (UP s w ah):=by
 obtain ⟨gq,hq⟩:=hr.dn;obtain ⟨ge,he⟩:=hr.gD;obtain ⟨gv,hv⟩:=hr.pU;have Wa:=h.cells.pU;rw [hv] at Wa;change w.cell? ⟨s.gn,16,none⟩=some (.pointer (some ⟨gv,0,none⟩)) at Wa;have C0:=h.cells.dn;rw [hq] at C0;change w.cell? ⟨s.gn,0,none⟩=some (.pointer (some ⟨gq,0,none⟩)) at C0;have Up:=h.cells.on;rw [hr.on] at Up;have OF:=zq (DS h hv);have SP:=zq (h.LR hq);have HQ:=zq4 hq he hr hl;clear h hq he hr hl hv;go_enter Tryz.func68,Tryz.ntmps68
 go_wp2_with fail
 refine (OF.out).mono ?_;rintro e _ ⟨rfl,rfl⟩;go_wp2_with fail
 refine (SP.out).mono ?_;rintro e w1 ⟨⟨sp,rfl⟩,bN,N1,K1⟩;have H1:=zq2 N1 K1;clear N1 K1 SP OF C0 Wa Up;cases sp
 ·go_wp2_with fail
  go_ret
  exact ⟨⟨_,rfl⟩,s.act,s.D,bN,H1.out.1,H1.out.2,R0.refl _,.inl rfl⟩
 ·have RA:=zq (iJ H1.out.1 (gq:=gq) (g:=ge) HQ.out.1 HQ.out.2.1 HQ.out.2.2.1.st (HQ.out.2.2.1.dk.nR HQ.out.2.2.2) 33040 0 (by decide) (by decide) (by decide))
  go_wp2_with fail
  refine (RA.out).mono ?_;rintro e w2 ⟨rfl,tp,D2,bA,hne,N2,K2,r2⟩;have C0:=N2.cells.dn;dsimp only at C0;rw [HQ.out.1] at C0;change w2.cell? ⟨s.gn,0,none⟩=some (.pointer (some ⟨gq,0,none⟩)) at C0;have SP:=zq (N2.LR (gq:=gq) HQ.out.1);have H2:=zq3 (H1.out.2.trans K2) r2 hne;clear N2 K2 r2 hne RA H1;go_wp2_with fail
  refine (SP.out).mono ?_;rintro e w3 ⟨⟨sp3,rfl⟩,dm,N3,K3⟩;have H3:=zq2 N3 K3;clear N3 K3 SP C0;go_wp2_with fail
  go_ret
  exact ⟨⟨_,rfl⟩,tp,D2,dm,H3.out.1,H2.out.1.trans H3.out.2,H2.out.2.1,.inr H2.out.2.2⟩
end
structure DA where
 kind:Int
 id:Int
 r:Bool
 A:Option Addr
 n:Nat
 c:Nat
 ix:Int
 sb:Int
 A2:Option Addr
 n2:Nat
 c2:Nat
def DA.val (e:DA):Value:=.agg #[.int .i64 e.kind,.int .i64 e.id,.bool e.r,.slice e.A e.n e.c,.int .i64 e.ix,.int .i64 e.sb,.slice e.A2 e.n2 e.c2,.int .i64 0,.int .u32 0]
structure Of (e:DA) (w:World) (F:Nat->Prop) (bs:List UInt8):Prop where
 three:e.kind≠3
 four:e.kind≠4
 Tf:e.kind=0->e.id≠1541
 Tg:e.kind=2->¬ kM e.ix
 frame:iX w F e.A e.n e.c bs
 small:e.n<=1000000
 value:∃ Lg,iX w F e.A2 e.n2 e.c2 Lg
 short:e.n2<=1000000
section
variable {s s':cu} {w w':World} {ah:Nat->Cp} {g gq k b:Nat} {l:List aD.En}
theorem Kp.Gz {an:Nat->Cp} (h:Kp w ah w' an) {e:DA} {bs:List UInt8} (hf:Of e w (fun q=>ah q=.ext) bs):Of e w' (fun q=>an q=.ext) bs:=by
 obtain ⟨Lg,h2⟩:=hf.value;exact ⟨hf.three,hf.four,hf.Tf,hf.Tg,h.jV hf.frame,hf.small,⟨Lg,h.jV h2⟩,hf.short⟩
theorem Ns (hl:Lk l) (h:Nd s w ah) (hr:mZ l s) (ev:DA) {bs:List UInt8} (hk:Of ev w (fun q=>ah q=.ext) bs) {X:Prop} (hX:X->ev.kind=0/\rD s ev.id ev.r/\ev.id≠0/\Can.cb ev.id ev.r ev.n=0):Calls Tryz.prog 69 #[.pointer (some ⟨s.gn,0,none⟩),ev.val] w (Q_ l s bs X w ah):=by
 obtain ⟨kd,id,r,A,n,c,ix,sb,A2,n2,c2⟩:=ev;unfold DA.val;dsimp only at hX ⊢;have b0:=ae w (.cells #[.int .i64 kd,.int .i64 id,.bool r,.slice A n c,.int .i64 ix,.int .i64 sb,.slice A2 n2 c2,.int .i64 0,.int .u32 0] 44);have B0:=ao.new w 44 #[.int .i64 kd,.int .i64 id,.bool r,.slice A n c,.int .i64 ix,.int .i64 sb,.slice A2 n2 c2,.int .i64 0,.int .u32 0];have N0:=h.below b0 .ext;have K0:=Kp.below (ah:=ah) b0 .ext;have hk0:=K0.Gz hk;obtain ⟨w0,hw0⟩:∃ x,w.alloc (.cells #[.int .i64 kd,.int .i64 id,.bool r,.slice A n c,.int .i64 ix,.int .i64 sb,.slice A2 n2 c2,.int .i64 0,.int .u32 0] 44)=x:=⟨_,rfl⟩;rw [hw0] at b0 B0 N0 K0 hk0;generalize aL ah w.heap.size w0.heap.size .ext=eO at *;have g0:=B0.cell 0;have g1:=B0.cell 1;have g2:=B0.cell 2;have g3:=B0.cell 3;have g4:=B0.cell 4;have g5:=B0.cell 5;have g6:=B0.cell 6;have g7:=B0.cell 7;have g8:=B0.cell 8;change _=some (Value.int .i64 kd) at g0;change _=some (Value.int .i64 id) at g1;change _=some (Value.bool r) at g2;change _=some (Value.slice A n c) at g3;change _=some (Value.int .i64 ix) at g4;change _=some (Value.int .i64 sb) at g5;change _=some (Value.slice A2 n2 c2) at g6;have Up:=N0.cells.on;rw [hr.on] at Up;have e3:decide (kd=3)=false:=decide_eq_false hk.three;have e3':(kd == 3)=false:=by simpa using hk.three
 have HN:=zq3 N0 K0 hk0;have HQ:=zq3 hl hr hX;clear h hl hr hX hk b0 B0 N0 K0 hk0
 by_cases h0:kd=0
 ·subst h0
  have TA:=zq (Dd HQ.out.1 HN.out.1 HQ.out.2.1 id r (HN.out.2.2.Tf rfl) HN.out.2.2.frame HN.out.2.2.small fun x=>(HQ.out.2.2 x).2);go_enter Tryz.func69,Tryz.ntmps69
  go_wp2_with fail
  refine (TA.out).mono ?_;rintro e w2 ⟨⟨z,rfl⟩,s2,bA,N2,K2,r2,p2,x2⟩;have H2:=zq5 N2 K2 r2 p2 x2;clear N2 K2 r2 p2 x2 TA;go_wp2_with fail
  go_ret
  exact ⟨⟨_,rfl⟩,s2,bA,H2.out.1,HN.out.2.1.trans H2.out.2.1,H2.out.2.2.1,H2.out.2.2.2.1,H2.out.2.2.2.2⟩
 ·have HX:Hid (X->False):=zq fun x=>h0 (HQ.out.2.2 x).1
  have e0:decide (kd=0)=false:=decide_eq_false h0;have Sl:(kd == 0)=false:=by simpa using h0
  by_cases h1:kd=1
  ·subst h1
   have TA:=zq (BY HQ.out.1 HN.out.1 HQ.out.2.1);clear h0 e0 Sl e3 e3';go_enter Tryz.func69,Tryz.ntmps69
   go_wp2_with fail
   refine (TA.out).mono ?_;rintro e w2 ⟨rfl,tp,D2,bA,N2,K2,dk2⟩;have H2:=zq3 N2 K2 dk2;clear N2 K2 dk2 TA;go_wp2_with fail
   go_ret
   exact ⟨⟨_,rfl⟩,_,bA,H2.out.1,HN.out.2.1.trans H2.out.2.1,HQ.out.2.1.q_ H2.out.2.2,⟨rfl,rfl,rfl,rfl⟩,fun x=>(HX.out x).elim⟩
  ·have e1:decide (kd=1)=false:=decide_eq_false h1
   have Sy:(kd == 1)=false:=by simpa using h1
   by_cases h2:kd=2
   ·subst h2
    obtain ⟨Lg,hb2⟩:=HN.out.2.2.value;have TA:=zq (vx HQ.out.1 HN.out.1 HQ.out.2.1 ix sb (HN.out.2.2.Tg rfl) hb2.rb lq HN.out.2.2.short);clear h0 e0 Sl e3 e3' h1 e1 Sy hb2;go_enter Tryz.func69,Tryz.ntmps69
    go_wp2_with fail
    refine (TA.out).mono ?_;rintro e w2 ⟨⟨z,rfl⟩,tp,D2,bA,N2,K2,dk2⟩;have H2:=zq3 N2 K2 dk2;clear N2 K2 dk2 TA;go_wp2_with fail
    go_ret
    exact ⟨⟨_,rfl⟩,_,bA,H2.out.1,HN.out.2.1.trans H2.out.2.1,HQ.out.2.1.q_ H2.out.2.2,⟨rfl,rfl,rfl,rfl⟩,fun x=>(HX.out x).elim⟩
   ·have e2:decide (kd=2)=false:=decide_eq_false h2
    have e2':(kd == 2)=false:=by simpa using h2
    clear h0 h1 h2;go_enter Tryz.func69,Tryz.ntmps69
    go_wp2_with fail
    go_ret
    exact ⟨⟨_,rfl⟩,s,eO,HN.out.1,HN.out.2.1,HQ.out.2.1,Pl.refl _,fun x=>(HX.out x).elim⟩
def qO (l:List aD.En) (s:cu) (bs:List UInt8) (act:List (Int×Int)) (D:Dc.aZ):Prop :=
 (s.st=5->((eH l (s.ic 0) bs).2=0->∃ D1,R0 s.D D1/\R0 (Dc.bJ D1 (eH l (s.ic 0) bs).1) D)/\((eH l (s.ic 0) bs).2≠0->act≠[]/\R0 s.D D))/\(s.st≠5->R0 s.D D)
theorem J9.step {bs:List UInt8} {act act':List (Int×Int)} {D D':Dc.aZ} (h:J9 l s bs act D) (hr:R0 D D') (ha:act'=act\/act'≠[]):qO l s bs act' D':=by
 refine ⟨fun h5=>⟨fun h0=>?_,fun h1=>?_⟩,fun h5=>?_⟩
 ·obtain ⟨D1,r1,rfl⟩:=(h.1 h5).1 h0
  exact ⟨D1,r1,hr⟩
 ·obtain ⟨h2,h3⟩:=(h.1 h5).2 h1
  refine ⟨?_,h3.trans hr⟩;rcases ha with rfl | ha
  ·exact h2
  ·exact ha
 ·obtain ⟨_,rfl⟩:=h.2 h5
  exact hr
def cC (l:List aD.En) (s:cu) (bs:List UInt8) (X:Prop) (w:World) (ah:Nat->Cp) (e:Ending) (w':World):Prop:=(∃ z,e=.returned (.int .i64 z))/\∃ s' an,Nd s' w' an/\Kp w ah w' an/\mZ l s'/\Pl s s'/\(X->∃ act D,s'={ s with act:=act,D:=D }/\qO l s bs act D)
theorem KS:∀ (args:Array Value) (w:World),(callFunc 68 args).run Tryz.prog w=.ok (.enter 68 args) w:=fun args w=>by kernel_rfl
theorem CQ (hl:Lk l) (h:Nd s w ah) (hr:mZ l s) (ev:DA) {bs:List UInt8} (hk:Of ev w (fun q=>ah q=.ext) bs) {X:Prop} (hX:X->ev.kind=0/\rD s ev.id ev.r/\ev.id≠0/\Can.cb ev.id ev.r ev.n=0):Calls Tryz.prog 39 #[.pointer (some ⟨s.gn,0,none⟩),ev.val] w (cC l s bs X w ah):=by
 obtain ⟨kd,id,r,A,n,c,ix,sb,A2,n2,c2⟩:=ev;have b0:=ae w (.cells #[.int .i64 kd,.int .i64 id,.bool r,.slice A n c,.int .i64 ix,.int .i64 sb,.slice A2 n2 c2,.int .i64 0,.int .u32 0] 44);have B0:=ao.new w 44 #[.int .i64 kd,.int .i64 id,.bool r,.slice A n c,.int .i64 ix,.int .i64 sb,.slice A2 n2 c2,.int .i64 0,.int .u32 0];have N0:=h.below b0 .ext;have K0:=Kp.below (ah:=ah) b0 .ext;have hk0:=K0.Gz hk;obtain ⟨w0,hw0⟩:∃ x,w.alloc (.cells #[.int .i64 kd,.int .i64 id,.bool r,.slice A n c,.int .i64 ix,.int .i64 sb,.slice A2 n2 c2,.int .i64 0,.int .u32 0] 44)=x:=⟨_,rfl⟩;rw [hw0] at b0 B0 N0 K0 hk0;generalize aL ah w.heap.size w0.heap.size .ext=eO at *;have TH:=zq (iw N0);have DO:=Ns hl N0 hr _ hk0 hX;unfold DA.val at DO ⊢;dsimp only at DO ⊢;replace DO:=zq DO;have g0:=B0.cell 0;have g1:=B0.cell 1;have g2:=B0.cell 2;have g3:=B0.cell 3;have g4:=B0.cell 4;have g5:=B0.cell 5;have g6:=B0.cell 6;have g7:=B0.cell 7;have g8:=B0.cell 8;change _=some (Value.int .i64 kd) at g0;change _=some (Value.int .i64 id) at g1;change _=some (Value.bool r) at g2;change _=some (Value.slice A n c) at g3;change _=some (Value.int .i64 ix) at g4;change _=some (Value.int .i64 sb) at g5;change _=some (Value.slice A2 n2 c2) at g6;change _=some (Value.int .i64 0) at g7;change _=some (Value.int .u32 0) at g8;have e4:decide (kd=4)=false:=decide_eq_false hk.four;have e4':(kd == 4)=false:=by simpa using hk.four
 have fr:=KS;have HQ:=zq3 hl hr K0;clear h hl hr hX hk b0 B0 N0 K0 hk0;go_enter Tryz.func39,Tryz.ntmps39
 go_wp2_with fail
 refine (TH.out).mono ?_;rintro e _ ⟨rfl,rfl⟩;go_wp2_with fail
 refine (DO.out).mono ?_;rintro e w2 ⟨⟨z,rfl⟩,s2,bA,N2,K2,r2,p2,x2⟩;have FI:=um HQ.out.1 N2 r2 z;rw [p2.gn] at FI;replace FI:=zq FI;have H2:=zq4 (HQ.out.2.2.trans K2) r2 p2 x2;clear N2 K2 r2 p2 x2 DO g0 g1 g2 g3 g4 g5 g6 g7 g8 TH;go_wp2_with fail
 refine (FI.out).mono ?_;rintro e w3 ⟨⟨z3,rfl⟩,OT,D3,dm,N3,K3,r3,a3⟩;have H3:=zq4 N3 K3 r3 a3;clear N3 K3 r3 a3 FI;go_wp2_with fail
 go_ret
 obtain ⟨K2,r2,p2,x2⟩:=H2.out;obtain ⟨N3,K3,r3,a3⟩:=H3.out;refine ⟨⟨_,rfl⟩,_,dm,N3,K2.trans K3,r2.q_ (r2.dk.r0 r3),⟨p2.gn,p2.gf,p2.gd,p2.gb⟩,fun x=>?_⟩;obtain ⟨act,D,rfl,tk⟩:=x2 x;exact ⟨OT,D3,rfl,tk.step r3 a3⟩
end
end Nn
end Go.Proofs.YtijegngfclkdaaaGreatDoor
