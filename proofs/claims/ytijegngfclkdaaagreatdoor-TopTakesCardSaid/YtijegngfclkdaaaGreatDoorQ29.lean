/-
  Piece 29 of the proof.
  Conditions: none.
-/
import Derived.Test.YtijegngfclkdaaaGreatDoorQ28
set_option linter.unusedVariables false
set_option linter.unusedSimpArgs false
set_option maxHeartbeats 100000000
set_option maxRecDepth 100000
namespace Go.Proofs.YtijegngfclkdaaaGreatDoor
namespace Nn
open Go.RowKit Go.Sort Go
section
variable {F:Nat->Prop} {w:World} {g B n c:Nat} {i room lost:Int} {r sp:Bool} {fs:List Can.Fr} {A:Option Addr} {l:List UInt8}
theorem FH (w:World) (hq:QR w F g room fs lost sp) (hr:1<=room) (h:RB w B A n c l) (hc:Can.check ⟨i,r,l⟩=0) (hroom:(fs.length:Int)=room) :
  Calls Tryz.prog 198 #[.pointer (some ⟨g,0,none⟩),.agg #[.int .i64 i,.bool r,.slice A n c]] w fun e w'=>e=.returned (.int .i64 6)/\(∃ l2,QR w' F g room fs l2 true)/\Mv (fun b=>b=g) w w':=by
 obtain ⟨hF,Aq,cq,hg,hfs⟩:=hq;obtain rfl:l.length=n:=h.len;have c1:=fun w=>gH i r (A:=A) (n:=l.length) (c:=c) w h.lt
 change ∀ (w:World),Calls _ _ _ w fun e w'=>e=.returned (.int .i64 (Can.check ⟨i,r,l⟩))/\_ at c1
 rw [hc] at c1;have C1:=zq c1; clear c1 hc;have F0:=hg.four;have hlt:=hg.lt;have hz:(room == 0)=false:=by rw [beq_eq_false_iff_ne]; omega
 have hfn:=hfs.rf.lt;generalize hm:fs.length=m at *;subst hroom;have HM:=zq hm; clear hm;obtain ⟨l2,hl2⟩:∃ l2,wrap64 (lost + 1)=l2:=⟨_,rfl⟩;go_enter Tryz.func198,Tryz.ntmps198
 go_wp2_with fail
 refine (C1.out _).mono ?_;rintro e w1 ⟨rfl,b1⟩;have d1:=aa (ae w _) b1 lq;have K:=hg.later d1;have F1:=K.four;have G1:=K.zm;clear F0;have hmm:((m:Int) == (m:Int))=true:=by simp
 go_wp2_with fail
 refine aN (by kernel_rfl) ?_;refine ai (by kernel_rfl) 0 (af _) [0,5,1,6,2,7,3,8,4,9] rfl (by kernel_rfl) ?_;simp only [aj,nth]
 repeat (go_big_quiet_step (fail))
 refine wpQuiet_nil ?_;refine aK (by kernel_rfl) ?_;go_wp2_with fail
 go_ret
 have M:Mv (fun b=>b=g) w (((w1.setCell ⟨g,2,none⟩ (.int .i64 l2)).setCell ⟨g,3,none⟩ (.bool true)).drew) :=
  (((Mv.aq d1 _).trans (Mv.setCell w1 ⟨g,2,none⟩ _) fun b _ h=>h).trans (Mv.setCell _ ⟨g,3,none⟩ _) fun b _ h=>h).drew
 refine ⟨rfl,⟨l2,hF,Aq,cq,?_,?_⟩,M⟩
 ·rw [HM.out]
  exact ((K.aJ 2 (.int .i64 l2)).aJ 3 (.bool true)).drew
 ·rw [HM.out]
  exact hfs.mv M fun b _ hf=>hf.2
theorem Eh (f x:Can.Fr) (l:List Can.Fr) (h:x∈Can.tY f l):x=f\/x∈l:=by
 unfold Can.tY at h;rcases List.mem_append.1 h with h | h
 ·exact .inr (List.mem_of_mem_take h)
 ·rcases List.mem_cons.1 h with h | h
  ·exact .inl h
  ·exact .inr (List.mem_of_mem_drop h)
theorem JQ (w:World) (hq:(sa g).P w F) (h:RB w B A n c l) (hB:B<=w.heap.size) :
  Calls Tryz.prog 198 #[.pointer (some ⟨g,0,none⟩),.agg #[.int .i64 i,.bool r,.slice A n c]] w fun e w'=>(∃ z:Int,e=.returned (.int .i64 z))/\(sa g).P w' (fun b=>F b\/w.heap.size<=b)/\Mv (fun b=>b=g) w w':=by
 obtain ⟨fs,lost,sp,h1,h2,h3⟩:=hq
 by_cases hc:Can.check ⟨i,r,l⟩=0
 ·by_cases hr:fs.length=64
  ·refine (FH w h1 (by decide) h hc (by omega)).mono ?_
   rintro e w' ⟨rfl,⟨l2,k⟩,M⟩;exact ⟨⟨_,rfl⟩,⟨fs,l2,true,k.mono fun _ _ h=>.inl h,h2,h3⟩,M⟩
  ·refine (Ni w h1 (by decide) (by decide) h hB hc (by omega)).mono ?_
   rintro e w' ⟨rfl,k,M⟩;refine ⟨⟨_,rfl⟩,⟨_,_,_,k,fun f hf=>?_,by rw [Can.mH]; omega⟩,M⟩;rcases Eh _ _ _ hf with rfl | hf
   ·exact (Can.qY hc).2.2.1
   ·exact h2 f hf
 ·refine (Jw w h1 (by decide) h hc).mono ?_
  rintro e w' ⟨rfl,b⟩;exact ⟨⟨_,rfl⟩,⟨fs,lost,sp,(h1.mv (Mv.aq b fun _=>False) fun _ _ _ h=>h).mono fun _ _ h=>.inl h,h2,h3⟩,Mv.aq b _⟩
end
theorem fV {ah:Nat->Cp} {a z q:Nat} {i:Cp} (h:ah q=i\/a<=q) (hz:q < z):aL ah a z i q=i:=by
 by_cases ha:a<=q
 ·exact ay ⟨ha,hz⟩
 ·exact (bT (by omega)).trans (h.resolve_right ha)
section
variable {s:cu} {w w':World} {ah:Nat->Cp} {g:Nat}
theorem Nd.fB (h:Nd s w ah):ah s.gn=.node:=(h .node).1
theorem Nd.drew (h:Nd s w ah):Nd s w.drew ah:=fun j=>(s.rs j).mv w w.drew _ (fun _=>False) (h j) (Mv.refl _ w).drew fun _ _ _ h=>h
theorem Kp.drew {an:Nat->Cp} (h:Kp w ah w' an):Kp w ah w'.drew an:=⟨h.mv.drew,h.ext⟩
theorem Nd.dn (h:Nd s w ah) (hg:s.gq=some g):(sa g).P w (fun q=>ah q=.dn):=by
 have k:(opt s.gq sa).P w (fun q=>ah q=.dn):=h .dn;rw [hg] at k;exact k
theorem Nd.He (h:Nd s w ah) (hg:s.gq=some g) (hm:Mv (fun q=>ah q=.dn) w w') (hp:(sa g).P w' (fun q=>ah q=.dn\/w.heap.size<=q)):Nd s w' (aL ah w.heap.size w'.heap.size .dn):=by
 refine Al.step h hm (fun _ _=>rfl) ?_;show (opt s.gq sa).P _ _;rw [hg];exact (sa g).mono _ _ _ hp fun b hb e=>fV e hb
structure Kq (w:World) (ah:Nat->Cp) (w':World) (an:Nat->Cp):Prop where
 mv:Mv (fun q=>ah q=.dn) w w'
 old:∀ q,q < w.heap.size->an q=.dn->ah q=.dn
theorem Kq.refl (w:World) (ah:Nat->Cp):Kq w ah w ah:=⟨Mv.refl _ _,fun _ _ h=>h⟩
theorem Kq.step {w1 w2:World} {bN:Nat->Cp} {i:Cp} (h:Kq w ah w1 bN) (hm:Mv (fun q=>bN q=.dn) w1 w2):Kq w ah w2 (aL bN w1.heap.size w2.heap.size i) :=
 ⟨h.mv.trans hm fun b hb e=>h.old b hb e,fun q hq e=>h.old q hq ((bT (Nat.lt_of_lt_of_le hq h.mv.size)).symm.trans e)⟩
theorem dR (h:Nd s w ah) (hg:s.gq=some g) {A:Option Addr} {n c:Nat} {fs:List Can.Fr} (hf:iZ w (fun q=>ah q≠.dn) A n c fs):Calls Tryz.prog 143 #[.pointer (some ⟨s.gn,0,none⟩),.slice A n c] w fun e w'=>e=.returned (.tuple #[])/\∃ an,Nd s w' an/\Kp w ah w' an:=by
 have hnl:=hf.rf.lt;go_enter Tryz.func143,Tryz.ntmps143
 go_wp2_with fail
 go_loopw [8] (fun i wr=>∃ (k:Nat) (an:Nat->Cp),k<=n/\i=.int .i64 k/\Nd s wr an/\Kp w ah wr an/\Kq w ah wr an) (fun i _=>n - (intOf i).toNat)
 case atStart=>exact ⟨0,ah,Nat.zero_le _,rfl,h,Kp.refl _ _,Kq.refl _ _⟩
 case round =>
  obtain ⟨k,bN,hk,rfl,hN,hK,hQ⟩:=hrel
  by_cases hlt:k < n
  ·have tk:decide ((k:Int) < (n:Int))=true:=decide_eq_true (by omega)
   have hf1:=hf.mv hQ.mv fun b _ e hn=>e hn
   obtain ⟨b,o,A',n',c',rfl,hb,x0,x1,x2,hrb⟩:=hf1.at_ hlt;generalize fs.getD k Can.zero=f at *;obtain ⟨fi,fr,fd⟩:=f;dsimp only at x0 x1 x2 hrb;have b2:=ae wr (.cells #[.int .i64 fi,.bool fr,.slice A' n' c'] 37);have K2:=ao.new wr 37 #[.int .i64 fi,.bool fr,.slice A' n' c'];have PF:=hN.below b2 .ext;have hK2:=hK.trans (Kp.below b2 .ext);have Uj:=hQ.step (i:=.ext) (Mv.aq b2 _);obtain ⟨w2,hw2⟩:∃ w2,wr.alloc (.cells #[.int .i64 fi,.bool fr,.slice A' n' c'] 37)=w2:=⟨_,rfl⟩;obtain ⟨bA,hc2⟩:∃ bA,aL bN wr.heap.size (wr.alloc (.cells #[.int .i64 fi,.bool fr,.slice A' n' c'] 37)).heap.size .ext=bA:=⟨_,rfl⟩;have bc:bA wr.heap.size=.ext:=by rw [<- hc2]; exact ay ⟨Nat.le_refl _,by rw [World.size_alloc]; omega⟩
   rw [hc2] at PF hK2 Uj;have OM:=(hrb.below b2.drew).rb;rw [hw2] at PF hK2 Uj K2 OM;have VW:=PF.drew;have PQ:=zq (JQ (i:=fi) (r:=fr) w2.drew (VW.dn hg) OM lq);have nc:=PF.fB;have q0:=aC (G:=fun q=>bA q=.dn) PF.cells.dn (fun e=>by rw [show bA s.gn=.dn from e] at nc; cases nc);rw [hg] at q0;change ∀ v:Wd (fun q=>bA q=.dn) w2,v.val.cell? ⟨s.gn,0,none⟩=some (.pointer (some ⟨g,0,none⟩)) at q0;have z3:=K2.uU (G:=fun q=>bA q=.dn) (fun e=>by rw [show bA wr.heap.size=.dn from e] at bc; cases bc);have HN:=zq4 VW hK2 hg Uj;clear hQ Uj nc bc VW PF hK2 hc2 OM b2 hN hK hf hf1 hrb h hg;go_wp2_with fail
   refine cF 99 (fun q=>bA q=.dn) (by kernel_rfl) ?_;refine cy (by kernel_rfl) 1 (Mv.refl _ _).drew [0,5,1,2,3,4] rfl (by kernel_rfl) ?_;simp only [aj,nth]
   repeat (go_big_quiet_step (fail))
   refine wpQuiet_nil ?_;refine ag 6 0 rfl (by kernel_rfl) (by decide) ?_;simp only [nth];go_wp2_with fail
   refine (PQ.out).mono ?_;rintro e w3 ⟨⟨z,rfl⟩,hq3,M3⟩;obtain ⟨n2,k2,eg,q2⟩:=HN.out;have gq:bA g=.dn:=(n2.dn eg).choose_spec.choose_spec.choose_spec.1.1;have M4:Mv (fun q=>bA q=.dn) w2.drew w3:=M3.mono fun b _ e=>by rw [e]; exact gq
   have M5:Mv (fun q=>bA q=.dn) w2 w3:=((Mv.refl (fun q=>bA q=.dn) w2).drew).trans M4 fun _ _ e=>e
   have n3:=n2.He eg M4 hq3;have q3:=q2.step (i:=.dn) M5;have k3:=k2.drew.trans (Kp.step M4 (by intro e; cases e) .dn);go_wp2_with fail
   refine aB M5 ?_;refine au (by kernel_rfl) ?_;go_wp2_with fail
   go_roundw
   case rel=>exact ⟨k + 1,_,by omega,(by first | rfl | rw [hw]),n3,k3,q3⟩
   case measure=>(try rw [hw]); simp [intOf]; omega
  ·obtain rfl:k=n:=by omega
   go_wp2_with fail
   go_end0
   exact ⟨rfl,bN,hN,hK⟩
end
theorem vD {F:Nat->Prop} {w:World} {g gv lc vc:Nat} {la:Addr} {vA:Option Addr} {xs vs:List Value} {D:Dc.aZ} (k:Nat) (h:cM 131 w F g gv (some la) lc vA vc xs vs D) (hk:D.l.length<=k):Calls Tryz.prog 57 #[.pointer (some ⟨g,0,none⟩),.int .i64 (k:Int)] w fun e w'=>e=.returned (.tuple #[.agg #[.int .i64 0,.int .i64 0,.string ⟨#[]⟩,.int .i64 0,.int .i64 0,.bool false,.bool false,.int .i64 0,.int .i64 0,.int .i64 0,.slice none 0 0],.bool false])/\Below w.heap.size w w':=by
 have b0:=ae w (.cells #[.int .i64 0,.int .i64 0,.string ⟨#[]⟩,.int .i64 0,.int .i64 0,.bool false,.bool false,.int .i64 0,.int .i64 0,.int .i64 0,.slice none 0 0] 27);have LN:=zq (eY (h.below b0));have K2:=ao.new w 27 #[.int .i64 0,.int .i64 0,.string ⟨#[]⟩,.int .i64 0,.int .i64 0,.bool false,.bool false,.int .i64 0,.int .i64 0,.int .i64 0,.slice none 0 0];clear h;generalize D.l.length=m at *;have tk:decide ((k:Int) ≥ (m:Int))=true:=decide_eq_true (by omega);have E1:=K2.aA;go_enter Tryz.func57,Tryz.ntmps57
 go_wp2_with fail
 refine (LN.out).mono ?_;rintro e w1 ⟨rfl,rfl⟩;go_wp2_with fail
 have R:=E1.1;exact bodyPost_ret (v:=.tuple #[.agg #[.int .i64 0,.int .i64 0,.string ⟨#[]⟩,.int .i64 0,.int .i64 0,.bool false,.bool false,.int .i64 0,.int .i64 0,.int .i64 0,.slice none 0 0],.bool false]) (by simp [results,Tryz.results57,go_sem,R]) rfl ⟨rfl,b0⟩
theorem BB {F:Nat->Prop} {w:World} {g gv lc vc:Nat} {la:Addr} {vA:Option Addr} {xs vs:List Value} {D:Dc.aZ} (k:Nat) (h:cM 131 w F g gv (some la) lc vA vc xs vs D) (hd:∀ e∈D.l,e.dflt.length<=1000000):Calls Tryz.prog 57 #[.pointer (some ⟨g,0,none⟩),.int .i64 (k:Int)] w fun e w'=>∃ (nm:ByteArray) (ix sb ty ac mx lo hi:Int) (mp st ok:Bool) (A1:Option Addr) (n1 c1:Nat),e=.returned (.tuple #[.agg #[.int .i64 ix,.int .i64 sb,.string nm,.int .i64 ty,.int .i64 ac,.bool mp,.bool st,.int .i64 mx,.int .i64 lo,.int .i64 hi,.slice A1 n1 c1],.bool ok])/\Below w.heap.size w w':=by
 by_cases hk:k < D.l.length
 ·refine (im k h hk hd).mono ?_
  rintro e w' ⟨A1,n1,c1,rfl,_,b⟩;exact ⟨_,_,_,_,_,_,_,_,_,_,_,_,_,_,rfl,b⟩
 ·refine (vD k h (by omega)).mono ?_
  rintro e w' ⟨rfl,b⟩;exact ⟨_,_,_,_,_,_,_,_,_,_,_,_,_,_,rfl,b⟩
section
variable {s:cu} {w w':World} {ah:Nat->Cp}
theorem Nd.FM (h:Nd s w ah) {D':Dc.aZ} (hm:Mv (fun q=>ah q=.dy) w w') (hp:(Jz s.gd D').P w' (fun q=>ah q=.dy\/w.heap.size<=q)):Nd { s with D:=D' } w' (aL ah w.heap.size w'.heap.size .dy):=by
 refine Al.step h hm (fun j hj=>?_) ((Jz s.gd D').mono _ _ _ hp fun b hb e=>fV e hb);cases j
 all_goals first | rfl | exact absurd rfl hj
theorem Nd.oD (h:Nd s w ah) (x y:Int) {A:Option Addr} {n c B:Nat} {b:List UInt8} (hb:RB w B A n c b) (hB:B<=w.heap.size) (hn:n < 140737488355328):Calls Tryz.prog 49 #[.pointer (some ⟨s.gd,0,none⟩),.int .i64 x,.int .i64 y,.slice A n c] w fun e w'=>e=.returned (.int .u32 (Dc.pK s.D.l true x y b))/\∃ an,Nd { s with D:=Dc.bK s.D x y b } w' an/\Kp w ah w' an:=by
 obtain ⟨gv,lc,vc,la,vA,xs,vs,hr⟩:=h.dy;refine (One.oD (base:=0) (F:=fun q=>ah q=.dy/\q < w.heap.size) ⟨gv,lc,vc,la,vA,xs,vs,hr.cut,fun q hq=>⟨Nat.zero_le _,hq.2⟩⟩ (Nat.zero_le _) x y hb hB hn).mono ?_;rintro e w' ⟨he,hm,_,Ue,Uf,Ug,la',Uh,xs',vs',hd,_⟩;have hm':Mv (fun q=>ah q=.dy) w w':=hm.mono fun b _ e=>e.1
 exact ⟨he,_,h.FM hm' ⟨Ue,Uf,Ug,la',Uh,xs',vs',hd.mono fun q _ e=>e.elim (fun e=>.inl e.1) fun e=>.inr e.1⟩,Kp.step hm' (by intro e; cases e) .dy⟩
end
theorem FW (v:Int):∃ m:Nat,IntKind.u64.wrap v=(m:Int)/\m < 18446744073709551616:=by
 refine ⟨(v % 18446744073709551616).toNat,?_,by omega⟩;simp [IntKind.wrap,IntKind.signed,IntKind.bits]
 try omega
def AI (s:cu) (w:World) (ah:Nat->Cp) (x y:Int) (e:Ending) (w':World):Prop:=e=.returned (.tuple #[])/\∃ D' an,Nd { s with D:=D' } w' an/\Kp w ah w' an/\(D'=s.D\/∃ b:List UInt8,D'=Dc.bK s.D x y b)
section
variable {s:cu} {w w':World} {ah:Nat->Cp}
theorem AI.same (h:Nd s w ah) (hb:Below w.heap.size w w') (x y:Int):AI s w ah x y (.returned (.tuple #[])) w':=⟨rfl,s.D,_,h.below hb .ext,Kp.below hb .ext,.inl rfl⟩
theorem tS (h:Nd s w ah) (hd:∀ e∈s.D.l,e.dflt.length<=1000000) (x y t:Int) (v:Int):Calls Tryz.prog 145 #[.pointer (some ⟨s.gn,0,none⟩),.int .i64 x,.int .i64 y,.int .i64 t,.int .i64 v] w (AI s w ah x y):=by
 obtain ⟨m,hm,hv⟩:∃ m:Nat,IntKind.u64.wrap v=(m:Int)/\m < 18446744073709551616:=FW v;have HM:=zq hm;clear hm;have C:=h.cells.dy;obtain ⟨gv,lc,vc,la,vA,xs,vs,hr⟩:=h.dy;have FI:=zq (ib x y hr);obtain ⟨k,hk⟩:∃ k:Nat,(gX s.D.l x y).1=(k:Int):=by
  unfold gX;split
  ·exact ⟨_,rfl⟩
  ·exact ⟨0,rfl⟩
 obtain ⟨ok,ho⟩:∃ ok,(gX s.D.l x y).2=ok:=⟨_,rfl⟩;have FJ:=FI.out;rw [hk,ho] at FJ;replace FI:=zq FJ;have HH:=zq h;have HD:=zq hd;have HR:=zq hr;clear FJ hk ho hr hd h;go_enter Tryz.func145,Tryz.ntmps145
 go_wp2_with fail
 refine (FI.out).mono ?_;rintro e w1 ⟨rfl,b1⟩;have C1:=(HH.out.below b1 .ext).cells.dy;have EN:=zq (BB k (HR.out.below b1) HD.out);go_wp2_with fail
 refine (EN.out).mono ?_;rintro e w2 ⟨nm,ix,sb,ty,ac,mx,lo,hi,mp,st,ok2,A1,n1,c1,rfl,b2⟩;have d2:=aa b1 b2 lq;have b3:=ae w2 (.cells #[.int .i64 ix,.int .i64 sb,.string nm,.int .i64 ty,.int .i64 ac,.bool mp,.bool st,.int .i64 mx,.int .i64 lo,.int .i64 hi,.slice A1 n1 c1] 27);have K3:=(ao.new w2 27 #[.int .i64 ix,.int .i64 sb,.string nm,.int .i64 ty,.int .i64 ac,.bool mp,.bool st,.int .i64 mx,.int .i64 lo,.int .i64 hi,.slice A1 n1 c1]).aA;have d3:=aa d2 b3 lq;cases ok
 ·go_wp2_with fail
  go_end0
  exact AI.same HH.out d3 x y
 ·by_cases ht:ty=t
  ·subst ht
   have t0:(ty != ty)=false:=by simp
   have TS:=zq (Cw ty);go_wp2_with fail
   refine (TS.out _).mono ?_;rintro e w4 ⟨rfl,b4⟩;have d4:=aa d3 b4 lq;obtain ⟨z,hz⟩:∃ z:Nat,(Ty.kd ty).size=z:=⟨_,rfl⟩;rw [hz];clear hz;have PU:=zq (JD (z:Int) m w4 (B:=w4.heap.size) (A:=none) (n:=0) (c:=0) (l:=[]) (RB.none_ ..) (by decide) lq hv);go_wp2_with fail
   rw [HM.out];refine (PU.out).mono ?_;rintro e w5 ⟨A5,c5,rfl,o5,b5⟩;have d5:=aa d4 b5 lq;have N5:=HH.out.below d5 .ext;have C5:=N5.cells.dy;have kl:(Oct.qc [] (z:Int) m).1.length<=8:=by
    unfold Oct.qc;split
    ·rename_i hz
     split
     ·decide
     ·simp [Oct.dw]; omega
    ·decide
   have XV:=OB.rb o5;generalize (Oct.qc [] (z:Int) m).1=l5 at *;generalize (Oct.qc [] (z:Int) m).2=z5 at *;have PK:=zq (N5.oD x y XV lq (by omega));have D5:=zq d5;clear N5 o5 kl XV;go_wp2_with fail
   refine (PK.out).mono ?_;rintro e w6 ⟨rfl,gA,n6,k6⟩;go_wp2_with fail
   go_end0
   exact ⟨rfl,_,gA,n6,(Kp.below D5.out .ext).trans k6,.inr ⟨l5,rfl⟩⟩
  ·have t0:(ty != t)=true:=by simpa using ht
   go_wp2_with fail
   go_end0
   exact AI.same HH.out d3 x y
end
def R0 (D D':Dc.aZ):Prop:=∃ ps:List Dc.Vl,(∀ p∈ps,p.index=4097\/p.index=4099)/\D'=Dc.bJ D ps
theorem R0.refl (D:Dc.aZ):R0 D D:=⟨[],fun _ h=>(by cases h),rfl⟩
theorem R0.trans {D D1 D2:Dc.aZ} (h:R0 D D1) (k:R0 D1 D2):R0 D D2:=by
 obtain ⟨a,h1,rfl⟩:=h;obtain ⟨b,k1,rfl⟩:=k;refine ⟨a ++ b,fun p hp=>(List.mem_append.1 hp).elim (h1 p) (k1 p),?_⟩;unfold Dc.bJ;rw [List.foldl_append]
theorem R0.of {D D':Dc.aZ} {x y:Int} (hx:x=4097\/x=4099) (h:D'=D\/∃ b:List UInt8,D'=Dc.bK D x y b):R0 D D':=by
 rcases h with rfl | ⟨b,rfl⟩
 ·exact R0.refl _
 ·exact ⟨[⟨x,y,b⟩],fun p hp=>by rw [List.mem_singleton.1 hp]; exact hx,rfl⟩
theorem R0.l {D D':Dc.aZ} (h:R0 D D'):D'.l=D.l:=by
 obtain ⟨ps,h0,rfl⟩:=h;clear h0;unfold Dc.bJ
 induction ps generalizing D with
 | nil=>rfl
 | cons p ps ih=>exact ih.trans (Dc.l9 _ _ _ _)
def QO (s:cu) (w:World) (ah:Nat->Cp) (e:Ending) (w':World):Prop:=e=.returned (.tuple #[])/\∃ D' an,Nd { s with D:=D' } w' an/\Kp w ah w' an/\R0 s.D D'
section
variable {s:cu} {w w':World} {ah:Nat->Cp} {g:Nat}
theorem Nd.gD (h:Nd s w ah) (hg:s.ge=some g):lD w (fun q=>ah q=.gD) g s.act:=by
 have k:(opt s.ge (MO s.act)).P w (fun q=>ah q=.gD):=h .gD;rw [hg] at k;exact k
theorem yQ {D:Dc.aZ} (h:Nd { s with D:=D } w ah) (hl:D.l=s.D.l) (hd:∀ e∈s.D.l,e.dflt.length<=1000000) (x y t v:Int):Calls Tryz.prog 145 #[.pointer (some ⟨s.gn,0,none⟩),.int .i64 x,.int .i64 y,.int .i64 t,.int .i64 v] w (AI { s with D:=D } w ah x y):=tS h (by rw [hl]; exact hd) x y t v
theorem pI (h:Nd s w ah) (hg:s.ge=some g) (hd:∀ e∈s.D.l,e.dflt.length<=1000000):Calls Tryz.prog 96 #[.pointer (some ⟨s.gn,0,none⟩)] w (QO s w ah):=by
 have C:=h.cells.gD;rw [hg] at C;change w.cell? ⟨s.gn,3,none⟩=some (.pointer (some ⟨g,0,none⟩)) at C;have HI:=zq (AU (h.gD hg));have HH:=zq h;have HD:=zq hd;have HG:=zq hg;clear h hd hg;go_enter Tryz.func96,Tryz.ntmps96
 go_wp2_with fail
 refine (HI.out).mono ?_;rintro e w1 ⟨A,n,c,hs,rfl,rv,hn,b1⟩;obtain ⟨bN,hc1⟩:∃ bN,aL ah w.heap.size w1.heap.size .ext=bN:=⟨_,rfl⟩;have N1:=HH.out.below b1 .ext;have K1:=Kp.below (ah:=ah) b1 .ext;have rv1:=rv.mono (G:=fun q=>bN q=.ext) fun q hq h=>by rw [<- hc1]; exact ay ⟨h,hq⟩
 have K1E:=zq hc1;rw [hc1] at N1 K1;have C1:=N1.cells.gD;rw [HG.out] at C1;change w1.cell? ⟨s.gn,3,none⟩=some (.pointer (some ⟨g,0,none⟩)) at C1;have RE:=zq (nZ (N1.gD HG.out));replace N1:=zq N1;replace K1:=zq K1;clear hc1 rv C;go_wp2_with fail
 refine (RE.out).mono ?_;rintro e w2 ⟨⟨z,rfl,_,_⟩,b2⟩;have NA:=zq (tS (N1.out.below b2 .ext) HD.out 4097 0 5 z);have K2:=zq (Kp.below (ah:=bN) b2 .ext);go_wp2_with fail
 refine (NA.out).mono ?_;rintro e w3 ⟨rfl,D3,dm,n3,k3,r3⟩;have R3:=R0.of (.inl rfl) r3;have NB:=zq (yQ (s:=s) n3 R3.l HD.out 4099 0 5 n);have K3:=zq (K2.out.trans k3);replace R3:=zq R3;clear r3 k3 n3;go_wp2_with fail
 refine (NB.out).mono ?_;rintro e w4 ⟨rfl,D4,fF,n4,k4,r4⟩;have R4:=R3.out.trans (R0.of (.inr rfl) r4);replace K3:=K3.out.trans k4;clear r4 k4;go_wp2_with fail
 go_loopw [23] (fun i wr=>∃ (k:Nat) (D':Dc.aZ) (an:Nat->Cp),k<=4/\i=.int .i64 k/\Nd { s with D:=D' } wr an/\Kp w1 bN wr an/\R0 s.D D') (fun i _=>4 - (intOf i).toNat)
 case atStart=>exact ⟨0,D4,fF,by decide,rfl,n4,K3,R4⟩
 case round =>
  obtain ⟨k,D',an,hk,rfl,hN,hK,hR⟩:=hrel;have NN:=zq (fun y v=>yQ (s:=s) hN hR.l HD.out 4099 y 7 v);have RK:=zq2 hK hR;have OO:=rv1.mv hK.mv fun b _ e hn=>hn e
  by_cases hlt:k < 4
  ·have hw:wrap64 ((k:Int) + 1)=((k + 1:Nat):Int):=by unfold wrap64; omega
   have tk:decide ((k:Int) < 4)=true:=decide_eq_true (by omega)
   by_cases hkn:k < n
   ·have tn:decide ((k:Int) < (n:Int))=true:=decide_eq_true (by omega)
    obtain ⟨b,o,rfl,_,hb,hc⟩:=OO.at_ (by omega);have hl:=OO.len;rw [List.length_map] at hl;have c0:=hc k (Value.int .u32 (hs.getD k 0)) (by rw [List.getElem?_map,List.getElem?_eq_getElem (by omega),List.getD_eq_getElem?_getD,List.getElem?_eq_getElem (by omega)]; rfl);clear hc hN hK hR OO;go_wp2_with fail
    refine (NN.out _ _).mono ?_;rintro e w5 ⟨rfl,D5,fv,n5,k5,r5⟩;have R5:=RK.out.2.trans (R0.of (.inr rfl) r5);have K5:=RK.out.1.trans k5;go_wp2_with fail
    go_roundw
    case rel=>exact ⟨k + 1,D5,fv,by omega,(by first | rfl | rw [hw]),n5,K5,R5⟩
    case measure=>(try rw [hw]); simp [intOf]; omega
   ·have tn:decide ((k:Int) < (n:Int))=false:=decide_eq_false (by omega)
    clear hN hK hR OO;go_wp2_with fail
    refine (NN.out _ _).mono ?_;rintro e w5 ⟨rfl,D5,fv,n5,k5,r5⟩;have R5:=RK.out.2.trans (R0.of (.inr rfl) r5);have K5:=RK.out.1.trans k5;go_wp2_with fail
    go_roundw
    case rel=>exact ⟨k + 1,D5,fv,by omega,(by first | rfl | rw [hw]),n5,K5,R5⟩
    case measure=>(try rw [hw]); simp [intOf]; omega
  ·obtain rfl:k=4:=by omega
   go_wp2_with fail
   go_end0
   exact ⟨rfl,D',an,hN,(Kp.below (ah:=ah) b1 .ext).trans (by rw [K1E.out]; exact hK),hR⟩
end
section
variable {s:cu} {w w':World} {ah:Nat->Cp} {g gq:Nat}
theorem BW (h:Nd s w ah) (hq:s.gq=some gq) (hg:s.ge=some g) (hs:tu s.st) (hd:∀ e∈s.D.l,e.dflt.length<=1000000) {A:Option Addr} {n c:Nat} {fs:List Can.Fr} (hf:iZ w (fun q=>ah q≠.dn) A n c fs):Calls Tryz.prog 146 #[.pointer (some ⟨s.gn,0,none⟩),.slice A n c] w (QO s w ah):=by
 have SV:=zq (dO h hs 4 (by unfold qe; decide));have SE:=zq (dR h hq hf);have RF:=zq (fun (w':World) (an:Nat->Cp) (hN:Nd s w' an)=>pI hN hg hd);have HH:=zq h;obtain ⟨b,hb⟩:∃ b,gJ s.st 4=b:=⟨_,rfl⟩;have SW:=SV.out;rw [hb] at SW;replace SV:=zq SW;clear SW h hq hg hs hd hf hb;cases b
 ·go_enter Tryz.func146,Tryz.ntmps146
  go_wp2_with fail
  refine (SV.out).mono ?_;rintro e w1 ⟨rfl,rfl⟩;have RG:=zq (RF.out _ _ HH.out);go_wp2_with fail
  refine (RG.out).mono ?_;rintro e w2 ⟨rfl,R⟩;go_wp2_with fail
  go_end0
  exact ⟨rfl,R⟩
 ·go_enter Tryz.func146,Tryz.ntmps146
  go_wp2_with fail
  refine (SV.out).mono ?_;rintro e w1 ⟨rfl,rfl⟩;go_wp2_with fail
  refine (SE.out).mono ?_;rintro e w2 ⟨rfl,bA,n2,k2⟩;have RG:=zq (RF.out _ _ n2);replace k2:=zq k2;clear n2;go_wp2_with fail
  refine (RG.out).mono ?_;rintro e w3 ⟨rfl,D',an,r1,r2,r3⟩;go_wp2_with fail
  go_end0
  exact ⟨rfl,D',an,r1,k2.out.trans r2,r3⟩
theorem Nd.QF (h:Nd s w ah) (hg:s.ge=some g) {act':List (Int×Int)} (hm:Mv (fun q=>ah q=.gD) w w') (hp:lD w' (fun q=>ah q=.gD\/w.heap.size<=q) g act'):Nd { s with act:=act' } w' (aL ah w.heap.size w'.heap.size .gD):=by
 refine Al.step h hm (fun j hj=>?_) ?_
 ·cases j
  all_goals first | rfl | exact absurd rfl hj
 ·show (opt s.ge (MO act')).P _ _
  rw [hg];exact lD.mono hp fun b hb e=>fV e hb
def J0 (s:cu) (w:World) (ah:Nat->Cp) (C:List (Int×Int)->Prop) (e:Ending) (w':World):Prop:=e=.returned (.tuple #[])/\∃ act' D' an,C act'/\Nd { s with act:=act',D:=D' } w' an/\Kp w ah w' an/\R0 s.D D'
theorem oH (h:Nd s w ah) (hq:s.gq=some gq) (hg:s.ge=some g) (hs:tu s.st) (hd:∀ e∈s.D.l,e.dflt.length<=1000000) {C:List (Int×Int)->Prop} {e:Ending} (k:Ck g (fun q=>ah q=.gD) w C e w'):∃ (A:Option Addr) (n c:Nat),e=.returned (.slice A n c)/\Calls Tryz.prog 146 #[.pointer (some ⟨s.gn,0,none⟩),.slice A n c] w' (J0 s w ah C):=by
 obtain ⟨act',hC,⟨A,n,c,fs,rfl,rf,_,_⟩,hm,hE⟩:=k;have n1:=h.QF hg hm (hE.mono fun q _ e=>e.elim .inl fun e=>.inr e.1);refine ⟨A,n,c,rfl,(BW n1 hq hg hs hd (rf.mono fun b hb hw=>?_)).mono ?_⟩
 ·rw [ay ⟨hw,hb⟩]
  intro e;cases e
 ·rintro e w2 ⟨rfl,D',an,r1,r2,r3⟩
  exact ⟨rfl,act',D',an,hC,r1,(Kp.step hm (by intro e; cases e) .gD).trans r2,r3⟩
theorem iJ (h:Nd s w ah) (hq:s.gq=some gq) (hg:s.ge=some g) (hs:tu s.st) (hd:∀ e∈s.D.l,e.dflt.length<=1000000) (code info:Nat) (hc1:1<=code) (hc:code < 65536) (hi:info < 256):Calls Tryz.prog 98 #[.pointer (some ⟨s.gn,0,none⟩),.int .i64 (code:Int),.int .i64 (info:Int)] w (J0 s w ah fun l=>l≠[]):=by
 have C:=h.cells.gD;rw [hg] at C;change w.cell? ⟨s.gn,3,none⟩=some (.pointer (some ⟨g,0,none⟩)) at C;have RA:=zq (qL (h.gD hg) code info hc1 hc hi);have TL:=zq (fun (e:Ending) (w':World) (k:Ck g (fun q=>ah q=.gD) w (fun l=>l≠[]) e w')=>oH h hq hg hs hd k);clear h hq hg hs hd hc1 hc hi;go_enter Tryz.func98,Tryz.ntmps98
 go_wp2_with fail
 refine (RA.out).mono ?_;intro e w1 hk;obtain ⟨A,n,c,rfl,T⟩:=TL.out _ _ hk;replace T:=zq T;clear hk;go_wp2_with fail
 refine (T.out).mono ?_;rintro e w2 ⟨rfl,R⟩;go_wp2_with fail
 go_end0
 exact ⟨rfl,R⟩
theorem f_ (h:Nd s w ah) (hq:s.gq=some gq) (hg:s.ge=some g) (hs:tu s.st) (hd:∀ e∈s.D.l,e.dflt.length<=1000000) (code info:Int):Calls Tryz.prog 167 #[.pointer (some ⟨s.gn,0,none⟩),.int .i64 code,.int .i64 info] w (J0 s w ah fun _=>True):=by
 have C:=h.cells.gD;rw [hg] at C;change w.cell? ⟨s.gn,3,none⟩=some (.pointer (some ⟨g,0,none⟩)) at C;have RA:=zq (rk (h.gD hg) code info);have TL:=zq (fun (e:Ending) (w':World) (k:Ck g (fun q=>ah q=.gD) w (fun _=>True) e w')=>oH h hq hg hs hd k);clear h hq hg hs hd;go_enter Tryz.func167,Tryz.ntmps167
 go_wp2_with fail
 refine (RA.out).mono ?_;intro e w1 hk;obtain ⟨A,n,c,rfl,T⟩:=TL.out _ _ hk;replace T:=zq T;clear hk;go_wp2_with fail
 refine (T.out).mono ?_;rintro e w2 ⟨rfl,R⟩;go_wp2_with fail
 go_end0
 exact ⟨rfl,R⟩
end
def QB (s:cu) (w:World) (ah:Nat->Cp) (e:Ending) (w':World):Prop:=e=.returned (.tuple #[])/\∃ an,Nd s w' an/\Kp w ah w' an
section
variable {s:cu} {w w':World} {ah:Nat->Cp} {g:Nat}
theorem Nd.dx (h:Nd s w ah) (hg:s.gh=some g):kx w (fun q=>ah q=.dx) g:=by
 have k:(opt s.gh yi).P w (fun q=>ah q=.dx):=h .dx;rw [hg] at k;exact k
theorem Nd.L9 (h:Nd s w ah) (hg:s.gh=some g) (hm:Mv (fun q=>ah q=.dx) w w') (hp:kx w' (fun q=>ah q=.dx\/w.heap.size<=q) g):Nd s w' (aL ah w.heap.size w'.heap.size .dx):=by
 refine Al.step h hm (fun _ _=>rfl) ?_;show (opt s.gh yi).P _ _;rw [hg];exact kx.mono hp fun b hb e=>fV e hb
theorem xE (h:Nd s w ah) (hg:s.gh=some g) (hd:∀ e∈s.D.l,e.dflt.length<=1000000) (hv:∀ v∈s.D.v,v.length<=1000000):Calls Tryz.prog 191 #[.pointer (some ⟨s.gn,0,none⟩)] w (QB s w ah):=by
 have hdr:=h.drew;obtain ⟨gv,lc,vc,la,vA,xs,vs,hr⟩:=hdr.dy;have PE:=zq (wE hr hd hv);have nc:=h.fB;have q0:=aC (G:=fun q=>ah q=.dx) h.cells.dx (fun e=>by rw [show ah s.gn=.dx from e] at nc; cases nc);rw [hg] at q0;change ∀ v:Wd (fun q=>ah q=.dx) w,v.val.cell? ⟨s.gn,2,none⟩=some (.pointer (some ⟨g,0,none⟩)) at q0;have q1:=aC (G:=fun q=>ah q=.dx) h.cells.dy (fun e=>by rw [show ah s.gn=.dx from e] at nc; cases nc);have HN:=zq2 hdr hg;have gc:ah g=.dx:=(h.dx hg).1;have GC:=zq gc;clear hr hdr nc h hg hd hv gc;go_enter Tryz.func191,Tryz.ntmps191
 go_wp2_with fail
 refine cF 99 (fun q=>ah q=.dx) (by kernel_rfl) ?_;refine cy (by kernel_rfl) 2 (Mv.refl _ _).drew [0,5,1,6,2,7,3,8,4] rfl (by kernel_rfl) ?_;simp only [aj,nth]
 repeat (go_big_quiet_step (fail))
 refine wpQuiet_nil ?_;refine ag 9 1 rfl (by kernel_rfl) (by decide) ?_;simp only [nth];go_wp2_with fail
 refine (PE.out).mono ?_;rintro e w1 ⟨rfl,b1⟩;have M1:Mv (fun q=>ah q=.dx) w w1:=((Mv.refl (fun q=>ah q=.dx) w).drew).trans (Mv.aq b1 (fun q=>ah q=.dx)) fun _ _ e=>e
 have N1:=HN.out.1.below b1 .ext;have K1:=Kp.below (ah:=ah) b1 .ext;have PD:=zq (sU (N1.dx HN.out.2) (Pm.yO s.D));replace N1:=zq N1;go_wp2_with fail
 refine aB M1 ?_;refine ag 10 0 rfl (by kernel_rfl) (by decide) ?_;simp only [nth];go_wp2_with fail
 refine (PD.out).mono ?_;rintro e w2 ⟨⟨z,rfl⟩,m2,h2⟩;have n2:=N1.out.L9 HN.out.2 (m2.mono fun b _ e=>by rw [e]; exact (N1.out.dx HN.out.2).1) (h2.mono fun _ _ e=>.inl e);have k2:=K1.trans (Kp.step (m2.mono fun b _ e=>by rw [e]; exact (N1.out.dx HN.out.2).1) (i:=.dx) (by intro e; cases e) .dx);have M2:=M1.trans m2 fun b _ e=>by rw [e]; exact GC.out
 go_wp2_with fail
 refine aB M2 ?_;refine au (by kernel_rfl) ?_;go_wp2_with fail
 go_end0
 exact ⟨rfl,_,n2,(Kp.refl w ah).drew.trans k2⟩
theorem vV (h:Nd s w ah) (hg:s.gh=some g) (hd:∀ e∈s.D.l,e.dflt.length<=1000000) (hv:∀ v∈s.D.v,v.length<=1000000) (hwl:∀ x∈Pm.j_ s.D,x < 4294967296):Calls Tryz.prog 192 #[.pointer (some ⟨s.gn,0,none⟩)] w (QB s w ah):=by
 have hdr:=h.drew;obtain ⟨gv,lc,vc,la,vA,xs,vs,hr⟩:=hdr.dy;have PE:=zq (C9 hr hd hv);have HW:=zq hwl;have gl:=(h.dx hg).2;have gw:g < w.heap.size:=by obtain ⟨_,_,_,_,_,_,k,_⟩:=gl; exact k.lt
 have GW:=zq gw;have ln:(Pm.j_ s.D).length<=4:=by unfold Pm.j_; rw [List.length_take]; omega
 have LN:=zq ln;have nc:=h.fB;have q0:=aC (G:=fun q=>ah q=.dx) h.cells.dx (fun e=>by rw [show ah s.gn=.dx from e] at nc; cases nc);rw [hg] at q0;change ∀ v:Wd (fun q=>ah q=.dx) w,v.val.cell? ⟨s.gn,2,none⟩=some (.pointer (some ⟨g,0,none⟩)) at q0;have q1:=aC (G:=fun q=>ah q=.dx) h.cells.dy (fun e=>by rw [show ah s.gn=.dx from e] at nc; cases nc);have HN:=zq2 hdr hg;have gc:ah g=.dx:=(h.dx hg).1;have GC:=zq gc;clear hr hdr nc h hg hd hv gc hwl gl gw ln;go_enter Tryz.func192,Tryz.ntmps192
 go_wp2_with fail
 refine cF 99 (fun q=>ah q=.dx) (by kernel_rfl) ?_;refine cy (by kernel_rfl) 2 (Mv.refl _ _).drew [0,5,1,6,2,7,3,8,4] rfl (by kernel_rfl) ?_;simp only [aj,nth]
 repeat (go_big_quiet_step (fail))
 refine wpQuiet_nil ?_;refine ag 9 1 rfl (by kernel_rfl) (by decide) ?_;simp only [nth];go_wp2_with fail
 refine (PE.out).mono ?_;rintro e w1 ⟨A1,c1,rfl,r1,b1⟩;have M1:Mv (fun q=>ah q=.dx) w w1:=((Mv.refl (fun q=>ah q=.dx) w).drew).trans (Mv.aq b1 (fun q=>ah q=.dx)) fun _ _ e=>e
 have N1:=HN.out.1.below b1 .ext;have K1:=Kp.below (ah:=ah) b1 .ext;have PD:=zq (tK (N1.dx HN.out.2) (fun wr hm=>r1 wr _ hm fun q e=>by rw [e]; exact GW.out) HW.out LN.out);replace N1:=zq N1;go_wp2_with fail
 refine aB M1 ?_;refine ag 10 0 rfl (by kernel_rfl) (by decide) ?_;simp only [nth];go_wp2_with fail
 refine (PD.out).mono ?_;rintro e w2 ⟨⟨z,rfl⟩,m2,h2⟩;have n2:=N1.out.L9 HN.out.2 (m2.mono fun b _ e=>by rw [e]; exact (N1.out.dx HN.out.2).1) (h2.mono fun _ _ e=>e.elim .inl fun e=>.inr e.1);have k2:=K1.trans (Kp.step (m2.mono fun b _ e=>by rw [e]; exact (N1.out.dx HN.out.2).1) (i:=.dx) (by intro e; cases e) .dx);have M2:=M1.trans m2 fun b _ e=>by rw [e]; exact GC.out
 go_wp2_with fail
 refine aB M2 ?_;refine au (by kernel_rfl) ?_;go_wp2_with fail
 go_end0
 exact ⟨rfl,_,n2,(Kp.refl w ah).drew.trans k2⟩
end
end Nn
namespace Nn
open Go.RowKit Go
def QK (t:TypeId) (i:Nat) (w:World) (e:Ending) (w':World):Prop:=∃ g cs,e=.returned (.pointer (some ⟨g,0,none⟩))/\w.heap.size<=g/\ao w' g t cs/\cs[i]?=some (.int .i64 0)/\Below w.heap.size w w'
theorem xu (gd:Nat) (w:World):Calls Tryz.prog 250 #[.pointer (some ⟨gd,0,none⟩)] w (QK 368 1 w):=by
 go_enter Tryz.func250,Tryz.ntmps250
 go_wp2_with fail
 go_ret
 exact ⟨w.heap.size,_,rfl,Nat.le_refl _,ao.new w _ _,rfl,ae _ _⟩
theorem wF (gd:Nat) (w:World):Calls Tryz.prog 251 #[.pointer (some ⟨gd,0,none⟩)] w (QK 375 7 w):=by
 go_enter Tryz.func251,Tryz.ntmps251
 go_wp2_with fail
 go_ret
 exact ⟨w.heap.size,_,rfl,Nat.le_refl _,ao.new w _ _,rfl,ae _ _⟩
theorem Gx (gd:Nat) (w:World):Calls Tryz.prog 196 #[.pointer (some ⟨gd,0,none⟩),.int .i64 5] w fun e w'=>∃ g,e=.returned (.tuple #[.pointer (some ⟨g,0,none⟩),.int .i64 0])/\Below w.heap.size w w'/\(uE g).P w' fun q=>w.heap.size<=q:=by
 have I1:=h_ 8 (by decide);have I2:=h_ 7 (by decide);rw [show kU 8 + 5=1541 by kernel_rfl] at I1;rw [show kU 7 + 5=1413 by kernel_rfl] at I2;have SN:=zq (xu gd);have BN:=zq (wF gd);replace I1:=zq I1;replace I2:=zq I2;go_enter Tryz.func196,Tryz.ntmps196
 go_wp2_with fail
 refine (I1.out _).mono ?_;rintro e w1 ⟨rfl,b1⟩;go_wp2_with fail
 refine (I2.out _).mono ?_;rintro e w2 ⟨rfl,b2⟩;have d2:=aa b1 b2 lq;go_wp2_with fail
 refine (SN.out _).mono ?_;rintro e w3 ⟨g3,c3,rfl,l3,k3,z3,b3⟩;have d3:=aa d2 b3 lq;go_wp2_with fail
 refine (BN.out _).mono ?_;rintro e w4 ⟨g4,c4,rfl,l4,k4,z4,b4⟩;have d4:=aa d3 b4 lq;go_wp2_with fail
 go_ret2
 have b5:=ae w4 (.cells #[.pointer (some ⟨g3,0,none⟩),.pointer (some ⟨g4,0,none⟩),.int .i64 1541,.int .i64 1413,.int .i64 0] 303);have s2:=d2.size;have s3:=d3.size;have s4:=d4.size;exact ⟨w4.heap.size,rfl,aa d4 b5 lq,g3,g4,⟨s4,_,ao.new w4 _ _,0,rfl⟩,⟨by omega,_,(k3.later b4).later b5,z3⟩,⟨by omega,_,k4.later b5,z4⟩⟩
section
variable {w:World} {F:Nat->Prop} {g:Nat}
theorem uv {cs:Array Value} (h:ao w g 368 cs) (hc:cs[1]?=some (.int .i64 0)):Calls Tryz.prog 276 #[.pointer (some ⟨g,0,none⟩)] w fun e w'=>e=.returned (.bool false)/\w=w':=by
 have F1:=(h.cell 1).trans hc;go_enter Tryz.func276,Tryz.ntmps276
 go_wp2_with fail
 go_ret
 exact ⟨rfl,rfl⟩
theorem vr {cs:Array Value} (h:ao w g 375 cs) (hc:cs[7]?=some (.int .i64 0)):Calls Tryz.prog 277 #[.pointer (some ⟨g,0,none⟩)] w fun e w'=>e=.returned (.bool false)/\w=w':=by
 have F1:=(h.cell 7).trans hc;go_enter Tryz.func277,Tryz.ntmps277
 go_wp2_with fail
 go_ret
 exact ⟨rfl,rfl⟩
theorem Df (h:(uE g).P w F):Calls Tryz.prog 227 #[.pointer (some ⟨g,0,none⟩)] w fun e w'=>e=.returned (.bool false)/\w=w':=by
 obtain ⟨a,b,⟨_,_,k1,z,rfl⟩,⟨_,c2,k2,z2⟩,⟨_,c3,k3,z3⟩⟩:=h;have F0:=k1.cell 0;have F1:=k1.cell 1;have S:=zq (uv k2 z2);have B:=zq (vr k3 z3);clear k1 k2 k3 z2 z3;unfold pt at F0 F1;go_enter Tryz.func227,Tryz.ntmps227
 go_wp2_with fail
 refine (S.out).mono ?_;rintro e w1 ⟨rfl,rfl⟩;go_wp2_with fail
 refine (B.out).mono ?_;rintro e w1 ⟨rfl,rfl⟩;go_wp2_with fail
 go_ret
 exact ⟨rfl,rfl⟩
theorem CZ (h:(uE g).P w F):Calls Tryz.prog 165 #[.pointer (some ⟨g,0,none⟩)] w fun e w'=>e=.returned (.slice none 0 0)/\w=w':=by
 have B:=zq (Df h);clear h;go_enter Tryz.func165,Tryz.ntmps165
 go_wp2_with fail
 refine (B.out).mono ?_;rintro e w1 ⟨rfl,rfl⟩;go_wp2_with fail
 go_ret
 exact ⟨rfl,rfl⟩
theorem Fs (h:(uE g).P w F) (id:Int) (r:Bool) (A:Option Addr) (n c:Nat) (hid:id≠1541):Calls Tryz.prog 214 #[.pointer (some ⟨g,0,none⟩),.agg #[.int .i64 id,.bool r,.slice A n c]] w fun e w' =>
  e=.returned (.tuple #[.slice none 0 0,.agg #[.int .i64 0,.int .i64 0,.slice none 0 0],.bool false])/\Below w.heap.size w w':=by
 obtain ⟨a,b,⟨_,_,k1,z,rfl⟩,_,_⟩:=h;have b0:=bZ w (.cells #[.int .i64 id,.bool r,.slice A n c] 37) (.cells #[.int .i64 0,.int .i64 0,.slice none 0 0] 34);have KF:=((ao.new w 37 #[.int .i64 id,.bool r,.slice A n c]).alloc (.cells #[.int .i64 0,.int .i64 0,.slice none 0 0] 34)).three;have KV:=ao.new (w.alloc (.cells #[.int .i64 id,.bool r,.slice A n c] 37)) 34 #[.int .i64 0,.int .i64 0,.slice none 0 0];rw [World.size_alloc] at KV;have F2:=(k1.later b0).cell 2;have e1:(id != 1541)=true:=by simpa using hid
 clear k1;go_enter Tryz.func214,Tryz.ntmps214
 go_wp2_with fail
 go_quiet (fail)
 go_wp2_with fail
 have R:=KV.three;exact bodyPost_ret (v:=.tuple #[.slice none 0 0,.agg #[.int .i64 0,.int .i64 0,.slice none 0 0],.bool false]) (by simp [results,Tryz.results214,go_sem,R]) rfl ⟨rfl,Go.Proofs.YtijegngfclkdaaaGreatDoor.bM (below_drewN b0 _) (Nat.le_succ _) 0 1 2 _ _ _⟩
end
end Nn
end Go.Proofs.YtijegngfclkdaaaGreatDoor
