/-
  Piece 20 of the proof.
  Conditions: none.
-/
import Derived.Test.YtijegngfclkdaaaGreatDoorQ19
set_option linter.unusedVariables false
set_option linter.unusedSimpArgs false
set_option maxHeartbeats 100000000
set_option maxRecDepth 100000
namespace Go.Proofs.YtijegngfclkdaaaGreatDoor
section
open Go.RowKit
theorem Hi {i:Int} (r:Bool) (n:Nat) (h:i < 0):Can.cb i r n=9:=by unfold Can.cb; rw [if_pos (.inl h)]
theorem Gi {i:Int} (r:Bool) (n:Nat) (h:2047 < i):Can.cb i r n=9:=by unfold Can.cb; rw [if_pos (.inr h)]
theorem Em {i:Int} (r:Bool) {n:Nat} (h1:¬ i < 0) (h2:¬ 2047 < i) (h:8 < n):Can.cb i r n=3:=by unfold Can.cb; rw [if_neg (by omega),if_pos h]
theorem G_ {i:Int} {n:Nat} (h1:¬ i < 0) (h2:¬ 2047 < i) (h3:¬ 8 < n):Can.cb i false n=0:=by unfold Can.cb; rw [if_neg (by omega),if_neg h3]; rfl
theorem GK {i:Int} {n:Nat} (h1:¬ i < 0) (h2:¬ 2047 < i) (h3:¬ 8 < n) (h:0 < n):Can.cb i true n=4:=by unfold Can.cb; rw [if_neg (by omega),if_neg h3,if_pos ⟨rfl,h⟩]
theorem GG {i:Int} (h1:¬ i < 0) (h2:¬ 2047 < i):Can.cb i true 0=0:=by unfold Can.cb; rw [if_neg (by omega),if_neg (by omega)]; rfl
theorem gH (i:Int) (r:Bool) {A:Option Addr} {n c:Nat} (w:World) (hn:n<=9223372036854775807) :
  Calls Tryz.prog 156 #[.agg #[.int .i64 i,.bool r,.slice A n c]] w fun e w'=>e=.returned (.int .i64 (Can.cb i r n))/\Below w.heap.size w w':=by
 by_cases h1:i < 0
 ·go_enter Tryz.func156,Tryz.ntmps156
  go_wp2_with fail
  go_ret
  exact ⟨eS (Hi r n h1).symm,ae _ _⟩
 by_cases h2:2047 < i
 ·go_enter Tryz.func156,Tryz.ntmps156
  go_wp2_with fail
  go_ret
  exact ⟨eS (Gi r n h2).symm,ae _ _⟩
 by_cases h3:8 < n
 ·go_enter Tryz.func156,Tryz.ntmps156
  go_wp2_with fail
  go_ret
  exact ⟨eS (Em r (by omega) (by omega) (by omega)).symm,ae _ _⟩
 cases r
 ·go_enter Tryz.func156,Tryz.ntmps156
  go_wp2_with fail
  go_ret
  exact ⟨eS (G_ (by omega) (by omega) (by omega)).symm,ae _ _⟩
 ·by_cases h4:0 < n
  ·go_enter Tryz.func156,Tryz.ntmps156
   go_wp2_with fail
   go_ret
   exact ⟨eS (GK (by omega) (by omega) (by omega) (by omega)).symm,ae _ _⟩
  ·obtain rfl:n=0:=by omega
   go_enter Tryz.func156,Tryz.ntmps156
   go_wp2_with fail
   go_ret
   exact ⟨eS (GG (by omega) (by omega)).symm,ae _ _⟩
theorem sj (i:Int) (r:Bool) {A:Option Addr} {n c:Nat} (i':Int) (r':Bool) {A':Option Addr} {n' c':Nat} (w:World) :
  Calls Tryz.prog 254 #[.agg #[.int .i64 i,.bool r,.slice A n c],.agg #[.int .i64 i',.bool r',.slice A' n' c']] w fun e w'=>e=.returned (.bool (Can.gK i r i' r'))/\Below w.heap.size w w':=by
 by_cases h:i=i'
 ·subst h
  have E0:∀ r r',Can.gK i r i r'=(r' && !r):=fun r r'=>by unfold Can.gK; cases r <;> cases r' <;> simp
  have E:=zq E0; clear E0;cases r <;> cases r'
  all_goals
   go_enter Tryz.func254,Tryz.ntmps254
   go_wp2_with fail
   go_ret
   exact ⟨bI (by rw [E.out]; rfl),bZ _ _ _⟩
 ·have E0:Can.gK i r i' r'=decide (i < i'):=by unfold Can.gK; simp [h]
  have E:=zq E0; clear E0;have hb:(i != i')=true:=by simpa using h
  go_enter Tryz.func254,Tryz.ntmps254
  go_wp2_with fail
  go_ret
  exact ⟨bI E.out.symm,bZ _ _ _⟩
theorem MN (room:Int) (w:World) (h1:1<=room) (h2:room<=64):Calls Tryz.prog 141 #[.int .i64 room] w fun e w'=>e=.returned (.tuple #[.pointer (some ⟨w.heap.size,0,none⟩),.int .i64 0]) /\
  w'=w.alloc (.cells #[.int .i64 room,.slice none 0 0,.int .i64 0,.bool false] 232):=by
 go_enter Tryz.func141,Tryz.ntmps141
 go_wp2_with fail
 go_ret2
 exact ⟨rfl,rfl⟩
theorem CV (i:Int) (r:Bool) {A:Option Addr} {n c B:Nat} {l:List UInt8} (w:World) (h:RB w B A n c l) (hB:B<=w.heap.size) (hn:n<=140737488355328) :
  Calls Tryz.prog 255 #[.agg #[.int .i64 i,.bool r,.slice A n c]] w fun e w'=>∃ A1 c1,e=.returned (.agg #[.int .i64 i,.bool r,.slice A1 n c1])/\OB w' w.heap.size A1 n c1 l/\Below w.heap.size w w':=by
 have hd:=bZ w (.cells #[.int .i64 i,.bool r,.slice A n c] 37) (.cells #[.int .i64 0,.bool false,.slice none 0 0] 37);have h':=h.below (hd.mono hB);go_enter Tryz.func255,Tryz.ntmps255
 go_wp2_with (at_builtin; refine bU od rfl (.const (.slice none 0 0)) (.tmp 4) rfl rfl rfl w.heap.size h' (by omega) (by simp; omega) ?_; intro A1 c1 w1 o1 b1; have K0:=((ao.new w 37 #[.int .i64 i,.bool r,.slice A n c]).alloc (.cells #[.int .i64 0,.bool false,.slice none 0 0] 37)).later b1; have K1:=(ao.new (w.alloc (.cells #[.int .i64 i,.bool r,.slice A n c] 37)) 37 #[.int .i64 0,.bool false,.slice none 0 0]).later b1; simp only [World.size_alloc] at K1; have F0:=K0.three; have F1:=K1.three)
 obtain ⟨r0,r1,r2,r3⟩:=((K1.cR (p:=⟨w.heap.size,2,none⟩) (by show w.heap.size + 1≠w.heap.size; omega) (.slice A1 n c1)).eG (.int .i64 i) (.bool r) (.slice A1 n c1)).three;have d1:Below w.heap.size w w1:=hd.trans (b1.mono (by simp; omega));exact bodyPost_ret (v:=.agg #[.int .i64 i,.bool r,.slice A1 n c1]) (by simp [results,Tryz.results255,go_sem,r0,r1,r2]) rfl
  ⟨A1,c1,rfl,((o1.cR (g:=w.heap.size) (by simp; omega) 2 (.slice A1 n c1)).wj (g:=w.heap.size + 1) (by simp) 0 1 2 (.int .i64 i) (.bool r) (.slice A1 n c1)).more (by simp; omega),
   bM (d1.setCell (p:=⟨w.heap.size,2,none⟩) lq _) (by omega) _ _ _ _ _ _⟩
theorem rj (i:Int) (r:Bool) (A:Option Addr) (n c:Nat) (i':Int) (r':Bool) {A':Option Addr} {n' c':Nat} (g:Nat) (w:World) (hg:ao w g 37 #[.int .i64 i,.bool r,.slice A n c]) :
  Calls Tryz.prog 253 #[.agg #[.int .i64 i',.bool r',.slice A' n' c'],.pointer (some ⟨g,0,none⟩)] w fun e w'=>e=.returned (.bool (Can.gK i r i' r'))/\Below w.heap.size w w':=by
 have F0:=hg.three;have hlt:=hg.lt;go_enter Tryz.func253,Tryz.ntmps253
 go_wp2_with fail
 refine (sj i r i' r' _).mono ?_;rintro e w1 ⟨rfl,b1⟩;go_wp2_with fail
 go_ret
 exact ⟨rfl,aa (ae _ _) b1 lq⟩
theorem C8 (i:Int) (r:Bool) (Af:Option Addr) (nf cf:Nat) (fd:List UInt8) (gf:Nat) {A:Option Addr} {n c B:Nat} {fs:List Can.Fr} (w:World) (h:RF w B A n c fs) (hB:B<=w.heap.size) (hg:ao w gf 37 #[.int .i64 i,.bool r,.slice Af nf cf]) :
  Calls Tryz.prog 252 #[.slice A n c,.func (.func 253) #[] #[.pointer (some ⟨gf,0,none⟩)]] w fun e w'=>e=.returned (.int .i64 (Can.DG ⟨i,r,fd⟩ fs:Int))/\Below w.heap.size w w':=by
 have hn:=h.lt;have hl:=h.len;have HL:=zq hl; clear hl;go_enter Tryz.func252,Tryz.ntmps252
 go_wp2_with fail
 go_loopw [9] (fun v wr=>∃ k:Nat,k<=n/\v=.int .i64 k/\(∀ j,j < k->Can.before ⟨i,r,fd⟩ (fs.getD j Can.zero)=false)/\Below w.heap.size w wr) (fun v _=>n - (intOf v).toNat)
 case atStart=>exact ⟨0,by omega,rfl,fun _ h=>absurd h (by omega),Below.refl _ _⟩
 case round =>
  obtain ⟨k,hk,rfl,hno,hbel⟩:=hrel;have HN:=zq hno; clear hno
  by_cases hlt:k < n
  ·obtain ⟨b,o,A1,n1,c1,rfl,eT,q0,q1,q2,hr⟩:=(h.below (hbel.mono hB)).at_ hlt
   generalize hf:fs.getD k Can.zero=f at *;obtain ⟨fi,fr,fdd⟩:=f;dsimp only at *;have HF:=zq hf; clear hf;have hg1:=(hg.later hbel).alloc (.cells #[.int .i64 fi,.bool fr,.slice A1 n1 c1] 37);cases hb:Can.gK i r fi fr with
   | true =>
    have HB:=zq hb; clear hb;go_wp2_with fail
    refine (rj i r Af nf cf fi fr gf _ hg1).mono ?_;rintro e w1 ⟨he,b1⟩;rw [HB.out] at he;subst he;go_wp2_with fail
    go_ret
    refine ⟨eS ?_,aa (aa hbel (ae wr _) lq) b1 lq⟩;rw [Can.EJ (k:=k) (by rw [HL.out]; exact hlt) (by rw [HF.out]; exact HB.out) HN.out]
   | false =>
    have HB:=zq hb; clear hb;go_wp2_with fail
    refine (rj i r Af nf cf fi fr gf _ hg1).mono ?_;rintro e w1 ⟨he,b1⟩;rw [HB.out] at he;subst he;go_wp2_with fail
    go_roundw
    case rel =>
     refine ⟨k + 1,by omega,by go_num,fun j hj=>?_,aa (aa hbel (ae wr _) lq) b1 lq⟩;rcases Nat.lt_or_ge j k with h | h
     ·exact HN.out j h
     ·obtain rfl:j=k:=by omega
      rw [HF.out]; exact HB.out
    case measure=>simp [intOf] <;> omega
  ·obtain rfl:k=n:=by omega
   go_wp2_with fail
   go_ret
   refine ⟨eS ?_,hbel⟩;rw [Can.yT (by rw [HL.out]; exact HN.out),HL.out]
def QR (w:World) (F:Nat->Prop) (g:Nat) (room:Int) (fs:List Can.Fr) (lost:Int) (sp:Bool):Prop :=
 F g/\∃ A c,ao w g 232 #[.int .i64 room,.slice A fs.length c,.int .i64 lost,.bool sp]/\iZ w (fun b=>F b/\b≠g) A fs.length c fs
section
variable {F G:Nat->Prop} {w w':World} {g:Nat} {room lost:Int} {fs:List Can.Fr} {sp:Bool}
theorem QR.mono (h:QR w F g room fs lost sp) (hi:∀ b,b < w.heap.size->F b->G b):QR w G g room fs lost sp:=by
 obtain ⟨h1,A,c,h2,h3⟩:=h;exact ⟨hi g h2.lt h1,A,c,h2,h3.mono fun b hb hf=>⟨hi b hb hf.1,hf.2⟩⟩
theorem QR.mv (h:QR w F g room fs lost sp) (hm:Mv G w w') (hd:∀ b,b < w.heap.size->F b->¬ G b):QR w' F g room fs lost sp:=by
 obtain ⟨h1,A,c,h2,h3⟩:=h;exact ⟨h1,A,c,h2.mv hm (hd g h2.lt h1),h3.mv hm fun b hb hf=>hd b hb hf.1⟩
theorem QR.below (h:QR w F g room fs lost sp) (hb:Below w.heap.size w w'):QR w' F g room fs lost sp:=h.mv (Mv.aq hb fun _=>False) fun _ _ _ h=>h
end
section
variable {F:Nat->Prop} {g:Nat} {room lost:Int} {fs:List Can.Fr} {sp:Bool} {i:Int} {r:Bool} {A:Option Addr} {n c B:Nat} {l:List UInt8}
theorem Jw (w:World) (hq:QR w F g room fs lost sp) (hr:1<=room) (h:RB w B A n c l) (hc:Can.check ⟨i,r,l⟩≠0) :
  Calls Tryz.prog 198 #[.pointer (some ⟨g,0,none⟩),.agg #[.int .i64 i,.bool r,.slice A n c]] w fun e w'=>e=.returned (.int .i64 (Can.check ⟨i,r,l⟩))/\Below w.heap.size w w':=by
 obtain ⟨hF,Aq,cq,hg,hfs⟩:=hq;obtain rfl:l.length=n:=h.len;have c1:=fun w=>gH i r (A:=A) (n:=l.length) (c:=c) w h.lt
 change ∀ (w:World),Calls _ _ _ w fun e w'=>e=.returned (.int .i64 (Can.check ⟨i,r,l⟩))/\_ at c1
 have hne:(Can.check ⟨i,r,l⟩ != 0)=true:=by simpa using hc
 generalize Can.check ⟨i,r,l⟩=v at *;have C1:=zq c1; clear c1;have F0:=hg.four;have hlt:=hg.lt;have hz:(room == 0)=false:=by rw [beq_eq_false_iff_ne]; omega
 go_enter Tryz.func198,Tryz.ntmps198
 go_wp2_with fail
 refine (C1.out _).mono ?_;rintro e w1 ⟨rfl,b1⟩;go_wp2_with fail
 go_ret
 exact ⟨rfl,aa (ae _ _) b1 lq⟩
theorem Ni (w:World) (hq:QR w F g room fs lost sp) (hr:1<=room) (hr2:room<=64) (h:RB w B A n c l) (hB:B<=w.heap.size) (hc:Can.check ⟨i,r,l⟩=0) (hroom:(fs.length:Int) < room) :
  Calls Tryz.prog 198 #[.pointer (some ⟨g,0,none⟩),.agg #[.int .i64 i,.bool r,.slice A n c]] w fun e w'=>e=.returned (.int .i64 0)/\QR w' (fun b=>F b\/w.heap.size<=b) g room (Can.tY ⟨i,r,l⟩ fs) lost sp/\Mv (fun b=>b=g) w w':=by
 obtain ⟨hF,Aq,cq,hg,hfs⟩:=hq;obtain rfl:l.length=n:=h.len;have c1:=fun w=>gH i r (A:=A) (n:=l.length) (c:=c) w h.lt
 change ∀ (w:World),Calls _ _ _ w fun e w'=>e=.returned (.int .i64 (Can.check ⟨i,r,l⟩))/\_ at c1
 rw [hc] at c1;have hlen:l.length<=8:=(Can.qY hc).2.2.1;have C1:=zq c1; clear c1 hc;have F0:=hg.four;have hlt:=hg.lt;have hz:(room == 0)=false:=by rw [beq_eq_false_iff_ne]; omega
 have hle:=Can.xx ⟨i,r,l⟩ fs;have hfn:=hfs.rf.lt;obtain ⟨hcap,hcap2⟩:fs.length<=cq/\cq<=9223372036854775807:=by obtain ⟨xs,h1,_⟩:=hfs; exact ⟨h1.le,h1.cap⟩
 generalize hm:fs.length=m at *;have HM:=zq hm; clear hm;go_enter Tryz.func198,Tryz.ntmps198
 go_wp2_with fail
 refine (C1.out _).mono ?_;rintro e w1 ⟨rfl,b1⟩;have Kf:=ao.made b1;have d1:=aa (ae w _) b1 lq;have K:=hg.later d1;have F1:=K.four;have G1:=K.zm;clear F0;have hmm:((m:Int) == room)=false:=by rw [beq_eq_false_iff_ne]; omega
 go_wp2_with fail
 refine aN (by kernel_rfl) ?_;refine ai (by kernel_rfl) 0 (af _) [0,5,1,6,2,7,3,8,4,9] rfl (by kernel_rfl) ?_;simp only [aj,nth]
 repeat (go_big_quiet_step (fail))
 refine wpQuiet_nil ?_;refine aK (by kernel_rfl) ?_;go_wp2_with fail
 refine (C8 i r A l.length c l _ _ (hfs.below (d1.drew)).rf lq Kf.drew).mono ?_;rintro e w2 ⟨rfl,b2⟩;have K2:=(K.drew).later b2;have ZJ:=(Kf.drew).later b2;have d2:=aa d1.drew b2 lq;clear F1 G1;have F2:=K2.four;have G2:=K2.zm;have E2:=ZJ.DW;have hr2:=h.below (d2.mono hB);have Ss:=hfs.below d2;generalize hk:Can.DG ⟨i,r,l⟩ fs=k at *;have HK:=zq hk; clear hk;have hcut:=fun w=>fE Q5 Aq m cq k hle .i64 w
 have ZK:=fun w=>iM Q5 Aq m cq k (by omega) .i64 .i64 w
 have Su:=Ss.drop hle;generalize (if cq=k then Aq else Aq.map (·.add (k * 3)))=At at *;go_wp2_with fail
 refine gN 16 (by kernel_rfl) ?_;refine d_ (by kernel_rfl) 7 (af _) [0,1,5,6,8,12,2,3,4,7] rfl (by kernel_rfl) ?_;simp only [aj,nth]
 repeat (go_big_quiet_step (fail))
 refine wpQuiet_nil ?_;refine ag 9 6 rfl (by kernel_rfl) (by decide) ?_;simp only [nth];go_wp2_with fail
 refine (CV i r _ hr2.drew (Nat.le_trans hB d2.size) (by omega)).mono ?_;rintro e w3 ⟨A3,c3,rfl,o3,b3⟩;have b3':=aa (af w2) b3 lq;go_wp2_with fail
 refine dE b3' ?_;refine ag 10 5 rfl (by kernel_rfl) (by decide) ?_;simp only [nth];go_wp2_with fail
 have hcells:=pV ⟨i,r,l⟩ A3 l.length c3;have hnew:=(OV.new (base:=w3.heap.size) (e:=37) (size:=3) w3 [.int .i64 i,.bool r,.slice A3 l.length c3] 1 rfl (by omega) lq).rv;have b4:=ae w3 (.cells #[.int .i64 i,.bool r,.slice A3 l.length c3] 37);have o4:=o3.alloc (.cells #[.int .i64 i,.bool r,.slice A3 l.length c3] 37);have Sv:=aa b3' b4 lq;change RV (w3.alloc (.cells #[.int .i64 i,.bool r,.slice A3 l.length c3] 37)) _ _ _ _ _ _ at hnew;refine dE b4 ?_;generalize hw4:w3.alloc (.cells #[.int .i64 i,.bool r,.slice A3 l.length c3] 37)=w4 at *;have HW4:=zq hw4; clear hw4;obtain ⟨xs,Vu,hrows2⟩:=Ss;obtain ⟨ys,Vv,IG⟩:=Su;have hx4:=(Vu.below Sv).take hle (c':=k) (by omega) lq;have K4:=K2.later Sv;have G4:=K4.zm;refine ag 11 4 rfl (by kernel_rfl) (by decide) ?_;simp only [nth];go_wp2_with (at_builtin; refine fo Q5 rfl (.tmp 61) (.tmp 64) rfl rfl rfl hx4.rv hnew (by omega) hcells (by omega) (by omega) ?_; intro A5 c5 w5 o5 b5)
 refine eR b5 ?_;have ZL:=(Vv.below Sv).below b5;refine ag 13 3 rfl (by kernel_rfl) (by decide) ?_;simp only [nth];go_wp2_with (at_builtin; refine b_ Q5 rfl (.tmp 65) (.tmp 66) rfl rfl rfl w4.heap.size o5 ZL.rv (sC IG) (by omega) (by omega) b5.size ?_; intro A6 c6 w6 o6 g6 _)
 have b6:=b5.trans (bQ g6 o5.lt b5.size);refine eR b6 ?_;refine ag 14 2 rfl (by kernel_rfl) (by decide) ?_;simp only [nth];go_wp2_with fail
 refine eR b6 ?_;refine ag 15 1 rfl (by kernel_rfl) (by decide) ?_;simp only [nth];go_wp2_with fail
 refine eR b6 ?_;have K6:=K4.later b6;have F6:=K6.four;refine bL 0 rfl (by kernel_rfl) (by decide) (by kernel_rfl) ?_;simp only [nth];go_wp2_with fail
 refine bY ?_;go_wp2_with fail
 go_ret
 have hm':(Can.tY ⟨i,r,l⟩ fs).length=m + 1:=by rw [Can.mH,HM.out]
 have Vw:=Sv.trans (b6.mono Sv.size);have M6:Mv (fun b=>b=g) w w6:=Mv.aq (d2.trans (Vw.mono d2.size)) _;have M7:Mv (fun b=>b=g) w (w6.setCell ⟨g,1,none⟩ (.slice A6 (k + 1 + (m - k)) c6)):=M6.trans (Mv.setCell w6 ⟨g,1,none⟩ _) fun b _ h=>h
 have hz2:=d2.size;have hz3:=b3'.size;have Xz:=b4.size;have hnn:k + 1 + (m - k)=m + 1:=by omega
 refine ⟨rfl,⟨.inl hF,A6,c6,?_,?_⟩,M7⟩
 ·rw [hm',<- hnn]
  exact K6.aJ 1 (.slice A6 (k + 1 + (m - k)) c6)
 ·rw [hm',<- hnn]
  have sep:∀ b,b < w6.heap.size->((F b\/w.heap.size<=b)/\b≠g)->¬ b=g:=fun _ _ h=>h.2
  have up:∀ b,(F b/\b≠g)->((F b\/w.heap.size<=b)/\b≠g):=fun _ h=>⟨.inl h.1,h.2⟩
  have row:ij w6 (fun b=>(F b\/w.heap.size<=b)/\b≠g) 3 A6 (k + 1 + (m - k)) c6 (xs.take (k * 3) ++ [.int .i64 i,.bool r,.slice A3 l.length c3] ++ ys) :=
   o6.zC fun q hq=>by have:=o6.lt q hq; exact ⟨.inr (by omega),by omega⟩
  have elems:Rows (yR w6 (fun b=>(F b\/w.heap.size<=b)/\b≠g)) 3 (Can.tY ⟨i,r,l⟩ fs) (xs.take (k * 3) ++ [.int .i64 i,.bool r,.slice A3 l.length c3] ++ ys):=by
   unfold Can.tY;rw [HK.out,List.append_cons];refine Rows.append (Rows.append ((hrows2.take k (by rw [HM.out]; exact hle)).imp fun f cs hf=>(hf.below Vw).mono fun b _ h=>up b h) (Rows.one ?_ rfl)) (IG.imp fun f cs hf=>(hf.below Vw).mono fun b _ h=>up b h);refine ⟨A3,l.length,c3,rfl,?_⟩;exact (o4.Lx fun q hq=>by have:=o4.lt q hq; exact ⟨.inr (by have:=this.1; simp at this; omega),by have:=this.1; simp at this; omega⟩).below b6
  exact ⟨_,row.mv (Mv.setCell w6 ⟨g,1,none⟩ _) sep,elems.imp fun f cs hf=>hf.mv (Mv.setCell w6 ⟨g,1,none⟩ _) sep⟩
end
end
namespace Tp
open aD Dc
def jb (a b c:Int):Bool:=decide (b<=a/\a<=c)
def fj (t aV ev:Int):Bool:=(jb t 0 240 || jb t 254 255) && jb aV 0 65535 && jb ev 0 65535
def ar (l:List En) (w:Nat) (t aV ev:Int) (ws:List Nat):Int:=if aY.place w≠0 then aY.place w else if fj t aV ev=false then 101253168 else Mp.ar l false ws
structure St where
 due:Bool
 hold:Int
 left:Int
 count:Int
def pH (ev:Int):St:=⟨false,0,ev,0⟩
def ba (D:aZ) (w:Nat) (ws:List Nat):Option (List UInt8):=if aY.fl w=0\/ws.length=0 then none else if (Mp.iF D ws).2=0 then some (Mp.iF D ws).1 else none
def zp (aV ev:Int) (s:St):St:=⟨false,aV,ev,s.count⟩
def iR (t:Int) (s:St):Bool×St:=if 254<=t then (if s.hold=0 then (true,s) else (false,{ s with due:=true })) else if t=0 then (false,{ s with due:=true }) else (false,s)
def fx (s:St):St:=⟨s.due || (decide (0 < s.left) && decide (s.left=1)),if s.hold<=1 then 0 else s.hold - 1,if 0 < s.left then s.left - 1 else s.left,s.count⟩
def cr (t:Int) (s:St):Bool×St:=if 254<=t then ((fx s).due && decide ((fx s).hold=0),fx s) else (false,s)
def fq (t:Int) (s:St):Bool×St:=if 254<=t then (false,s) else if t=0 then (s.due,s) else if s.count + 1 < t then (false,{ s with count:=s.count + 1 }) else (true,{ s with count:=0 })
theorem dW {l:List En} {w:Nat} {t aV ev:Int} {ws:List Nat} (h:ar l w t aV ev ws=0):aY.place w=0/\fj t aV ev=true/\Mp.ar l false ws=0:=by
 unfold ar at h
 by_cases h1:aY.place w=0
 ·rw [if_neg (by simpa using h1)] at h
  cases h2:fj t aV ev
  ·rw [h2] at h; simp at h
  ·rw [h2] at h
   exact ⟨h1,rfl,by simpa using h⟩
 ·rw [if_pos h1] at h
  exact absurd h h1
theorem iQ {t aV ev:Int} (h:fj t aV ev=true):((0<=t/\t<=240)\/(254<=t/\t<=255))/\(0<=aV/\aV<=65535)/\(0<=ev/\ev<=65535):=by
 unfold fj jb at h;simp only [Bool.and_eq_true,Bool.or_eq_true,decide_eq_true_eq] at h;exact ⟨h.1.1,h.1.2,h.2⟩
end Tp
section
open Go.RowKit
theorem gI (a b c:Int) (w:World):Calls Tryz.prog 319 #[.int .i64 a,.int .i64 b,.int .i64 c] w fun e w'=>e=.returned (.bool (Tp.jb a b c))/\w=w':=by
 by_cases h1:b<=a
 ·by_cases h2:a<=c
  ·rw [show Tp.jb a b c=true from decide_eq_true ⟨h1,h2⟩]
   go_enter Tryz.func319,Tryz.ntmps319
   go_wp2_with fail
   go_ret
   exact ⟨rfl,rfl⟩
  ·rw [show Tp.jb a b c=false from decide_eq_false (fun h=>h2 h.2)]
   go_enter Tryz.func319,Tryz.ntmps319
   go_wp2_with fail
   go_ret
   exact ⟨rfl,rfl⟩
 ·rw [show Tp.jb a b c=false from decide_eq_false (fun h=>h1 h.1)]
  go_enter Tryz.func319,Tryz.ntmps319
  go_wp2_with fail
  go_ret
  exact ⟨rfl,rfl⟩
theorem wC {F:Nat->Prop} {w:World} {g gv lc vc:Nat} {la:Addr} {vA:Option Addr} {xs vs:List Value} {D:Dc.aZ} {A:Option Addr} {n c B:Nat} {ws:List Nat} (v:Nat) (hv:v < 4294967296) (t aV ev:Int) (h:cM 131 w F g gv (some la) lc vA vc xs vs D) (hd:∀ e∈D.l,e.dflt.length<=1000000) (hw:RW w B A n c ws) (hwl:∀ x∈ws,x < 4294967296) (hB:B<=w.heap.size) :
  Calls Tryz.prog 289 #[.pointer (some ⟨g,0,none⟩),.agg #[.int .u32 (v:Int),.int .i64 t,.int .i64 aV,.int .i64 ev,.slice A n c]] w fun e w'=>e=.returned (.int .u32 (Tp.ar D.l v t aV ev ws))/\Below w.heap.size w w':=by
 have b0:=ae w (.cells #[.int .u32 (v:Int),.int .i64 t,.int .i64 aV,.int .i64 ev,.slice A n c] 307);have K:=ao.new w 307 #[.int .u32 (v:Int),.int .i64 t,.int .i64 aV,.int .i64 ev,.slice A n c];have F0:=K.cell 0;have PL:=fun w=>vW v hv w
 have B1:=zq (fun w=>gI t 0 240 w);have B2:=zq (fun w=>gI t 254 255 w);have B3:=zq (fun w=>gI aV 0 65535 w);have B4:=zq (fun w=>gI ev 0 65535 w);have CK:=fun w1 (hb:Below w.heap.size w w1)=>kA false (h.below hb) hd (hw.below (hb.mono hB)) hwl (Nat.le_trans hB hb.size)
 have hcs:Tp.ar D.l v t aV ev ws=if aY.place v≠0 then aY.place v else if ((Tp.jb t 0 240 || Tp.jb t 254 255) && Tp.jb aV 0 65535 && Tp.jb ev 0 65535)=false then 101253168 else Mp.ar D.l false ws:=rfl
 rw [hcs];clear hcs h hw;generalize Mp.ar D.l false ws=r at *;generalize aY.place v=pl at *;generalize Tp.jb t 0 240=k1 at *;generalize Tp.jb t 254 255=k2 at *;generalize Tp.jb aV 0 65535=k3 at *;generalize Tp.jb ev 0 65535=k4 at *;replace PL:=zq PL; replace CK:=zq CK
 by_cases hp:pl=0
 ·subst hp
  simp only [ne_eq,not_true_eq_false,if_false];go_enter Tryz.func289,Tryz.ntmps289
  go_wp2_with fail
  refine (PL.out _).mono ?_;rintro e w1 ⟨rfl,b1⟩;have K1:=K.later b1;have f1:=K1.cell 1;have f2:=K1.cell 2;have f3:=K1.cell 3;have f4:=K1.cell 4;have d1:=aa b0 b1 lq;clear F0;go_wp2_with fail
  refine (B1.out _).mono ?_;rintro e _ ⟨rfl,rfl⟩;cases k1
  ·go_wp2_with fail
   refine (B2.out _).mono ?_;rintro e _ ⟨rfl,rfl⟩;cases k2
   ·go_wp2_with fail
    go_ret
    exact ⟨rfl,d1⟩
   ·go_wp2_with fail
    refine (B3.out _).mono ?_;rintro e _ ⟨rfl,rfl⟩;cases k3
    ·go_wp2_with fail
     go_ret
     exact ⟨rfl,d1⟩
    ·go_wp2_with fail
     refine (B4.out _).mono ?_;rintro e _ ⟨rfl,rfl⟩;cases k4
     ·go_wp2_with fail
      go_ret
      exact ⟨rfl,d1⟩
     ·go_wp2_with fail
      refine (CK.out _ d1).mono ?_;rintro e w2 ⟨rfl,b2⟩;go_wp2_with fail
      go_ret
      exact ⟨rfl,aa d1 b2 lq⟩
  ·go_wp2_with fail
   refine (B3.out _).mono ?_;rintro e _ ⟨rfl,rfl⟩;cases k3
   ·go_wp2_with fail
    go_ret
    exact ⟨rfl,d1⟩
   ·go_wp2_with fail
    refine (B4.out _).mono ?_;rintro e _ ⟨rfl,rfl⟩;cases k4
    ·go_wp2_with fail
     go_ret
     exact ⟨rfl,d1⟩
    ·go_wp2_with fail
     refine (CK.out _ d1).mono ?_;rintro e w2 ⟨rfl,b2⟩;go_wp2_with fail
     go_ret
     exact ⟨rfl,aa d1 b2 lq⟩
 ·simp only [ne_eq,hp,not_false_eq_true,if_true]
  have hp2:(pl == 0)=false:=by simpa using hp
  have hp3:(pl != 0)=true:=by simpa using hp
  replace hp:=zq hp;go_enter Tryz.func289,Tryz.ntmps289
  go_wp2_with fail
  refine (PL.out _).mono ?_;rintro e w1 ⟨rfl,b1⟩;go_wp2_with fail
  go_ret
  exact ⟨rfl,aa b0 b1 lq⟩
structure Wk (K:World->Prop) (w0:Subtype K) where
 val:World
 ok:K val
instance U7 (K:World->Prop) (w0:Subtype K):Nonempty (Wk K w0):=⟨⟨w0.1,w0.2⟩⟩
section
variable {P:Program} {Q:Exit->Act->World->Prop} {md:Region.Mode} {t:Nat} {K:World->Prop} {w0:Subtype K}
theorem AF {id:Nat} {l:List Oper} {a:Act} {w:World} (t:Nat) (w0:Subtype K) (hm:P.follows .mixedOrders=true)
  (h:wpAnyL P .any l.toArray (NoPanic Q) t (fun x=>∃ v:Wk K w0,x=v.val) l.length (Array.replicate l.length false) a w.drew):(Code.region id l.toArray true).wp P Q a w :=
 wp_region_noPanic (wp_region_any hm (by simpa using dN _ _ _ _ h))
theorem pd {l:List Oper} (hsel:Region.noSelect l.toArray=true) (fuel:Nat) {w:World} (hb:K w) (σ:List Nat) {n:Nat} {listed:Array Bool} {a:Act} (hn:n=σ.length + fuel) (hok:fe md l t listed σ=true)
  (h:wpQuiet P l.toArray (fun x=>∃ v:Wk K w0,x=v.val) (fun a'=>wpAnyL P md l.toArray (NoPanic Q) t (fun x=>∃ v:Wk K w0,x=v.val) fuel (after listed σ) a' w) (aj l σ) a) :
  wpAnyL P md l.toArray (NoPanic Q) t (fun x=>∃ v:Wk K w0,x=v.val) n listed a w:=fJ hsel (fun _ _ _ _ _ h=>h) fuel w ⟨⟨w,hb⟩,rfl⟩ σ listed a hn hok h
theorem mu {l:List Oper} {fuel:Nat} {listed:Array Bool} {a:Act} {w:World} (hb:K w)
  (h:wpAnyL P md l.toArray Q t (fun x=>∃ v:Wk K w0,x=v.val) fuel listed a w):Qn (fun a' w'=>gB P md l Q t (fun x=>∃ v:Wk K w0,x=v.val) fuel listed a' w') Q .normal a w :=
 ⟨_,⟨⟨w,hb⟩,rfl⟩,fun _ hx=>hx,h⟩
end
theorem TE:ET Tryz.prog 63 35 1 4 (.int .u32 0):=⟨Tryz.underlying63,info_parts (by kernel_rfl),rfl,by decide⟩
def MZ (w:World) (base:Nat) (A:Option Addr) (n c:Nat) (ws:List Nat):Prop:=OV w base 35 1 A n c (ws.map fun (x:Nat)=>Value.int .u32 (x:Int))
theorem MZ.rw {w:World} {base n c:Nat} {A:Option Addr} {ws:List Nat} (h:MZ w base A n c ws):RW w w.heap.size A n c ws:=OV.rv h
structure iO (w:World) (base g gd:Nat) (v:Nat) (t aV ev:Int) (ws:List Nat) (Aw:Option Addr) (cw:Nat) (s:Tp.St):Prop where
 gb:base<=g
 aP:ao w g 309 #[.pointer (some ⟨gd,0,none⟩),.int .u32 (v:Int),.int .i64 t,.int .i64 aV,.int .i64 ev,.slice Aw ws.length cw,.int .i64 (aY.fl v:Int),.bool s.due,.int .i64 s.hold,.int .i64 s.left,.int .i64 s.count]
 words:MZ w base Aw ws.length cw ws
section
variable {w w':World} {base g gd v:Nat} {t aV ev:Int} {ws:List Nat} {Aw:Option Addr} {cw:Nat} {s:Tp.St}
theorem iO.below (h:iO w base g gd v t aV ev ws Aw cw s) (hb:Below w.heap.size w w'):iO w' base g gd v t aV ev ws Aw cw s:=⟨h.gb,h.aP.later hb,h.words.below hb⟩
theorem j9 (h:iO w base g gd v t aV ev ws Aw cw s):Calls Tryz.prog 230 #[.pointer (some ⟨g,0,none⟩)] w fun e w'=>e=.returned (.bool (decide (254<=t)))/\w=w':=by
 have F:=h.aP.cell 2;go_enter Tryz.func230,Tryz.ntmps230
 go_wp2_with fail
 go_ret
 exact ⟨rfl,rfl⟩
theorem iO.put (h:iO w base g gd v t aV ev ws Aw cw s) (s':Tp.St):iO ((((w.setCell ⟨g,7,none⟩ (.bool s'.due)).setCell ⟨g,8,none⟩ (.int .i64 s'.hold)).setCell ⟨g,9,none⟩ (.int .i64 s'.left)).setCell ⟨g,10,none⟩ (.int .i64 s'.count)) base g gd v t aV ev ws Aw cw s':=by
 have b1:=h.aP.aJ 7 (.bool s'.due);have b2:=b1.aJ 8 (.int .i64 s'.hold);have b3:=b2.aJ 9 (.int .i64 s'.left);have b4:=b3.aJ 10 (.int .i64 s'.count);have o1:=OV.off (i:=7) (u:=.bool s'.due) h.words h.aP (by decide);have o2:=OV.off (i:=8) (u:=.int .i64 s'.hold) o1 b1 (by decide);have o3:=OV.off (i:=9) (u:=.int .i64 s'.left) o2 b2 (by decide);have o4:=OV.off (i:=10) (u:=.int .i64 s'.count) o3 b3 (by decide);exact ⟨h.gb,b4,o4⟩
end
theorem ao.IS {w:World} {g:Nat} {t:TypeId} {a b c d e:Value} (h:ao w g t #[a,b,c,d,e]):(w.cell? ⟨g,0,none⟩=some a/\w.cell? ⟨g,1,none⟩=some b/\w.cell? ⟨g,2,none⟩=some c/\w.cell? ⟨g,3,none⟩=some d/\w.cell? ⟨g,4,none⟩=some e)/\(w.frozen? ⟨g,0,none⟩=false/\w.frozen? ⟨g,1,none⟩=false/\w.frozen? ⟨g,2,none⟩=false/\w.frozen? ⟨g,3,none⟩=false/\w.frozen? ⟨g,4,none⟩=false):=⟨⟨h.cell 0,h.cell 1,h.cell 2,h.cell 3,h.cell 4⟩,h.frozen 0,h.frozen 1,h.frozen 2,h.frozen 3,h.frozen 4⟩
theorem oy {w:World} {base g gd v:Nat} {t aV ev:Int} {ws:List Nat} {Aw:Option Addr} {cw:Nat} {s:Tp.St} (h:iO w base g gd v t aV ev ws Aw cw s) :
  Calls Tryz.prog 261 #[.pointer (some ⟨g,0,none⟩)] w fun e w'=>e=.returned (.tuple #[])/\Mv (fun q=>q=g) w w'/\iO w' base g gd v t aV ev ws Aw cw (Tp.pH ev):=by
 have F:=h.aP.aA;have H2:=h.put (Tp.pH ev);have M:=(((Mv.setCell w ⟨g,7,none⟩ (.bool false)).trans (Mv.setCell _ ⟨g,8,none⟩ (.int .i64 0)) (fun _ _ e=>e)).trans (Mv.setCell _ ⟨g,9,none⟩ (.int .i64 ev)) (fun _ _ e=>e)).trans (Mv.setCell _ ⟨g,10,none⟩ (.int .i64 0)) (fun _ _ e=>e);clear h;go_enter Tryz.func261,Tryz.ntmps261
 go_wp2_with fail
 go_end0
 exact ⟨rfl,M,H2⟩
def zj (l:List aD.En) (gd v:Nat) (t aV ev:Int) (ws:List Nat) (w:World) (e:Ending) (w':World):Prop :=
 (Tp.ar l v t aV ev ws=0/\Below w.heap.size w w'/\∃ g Aw cw,e=.returned (.tuple #[.pointer (some ⟨g,0,none⟩),.int .u32 0])/\iO w' w.heap.size g gd v t aV ev ws Aw cw (Tp.pH ev)) \/
 (Tp.ar l v t aV ev ws≠0/\Below w.heap.size w w'/\e=.returned (.tuple #[.pointer none,.int .u32 (Tp.ar l v t aV ev ws)]))
theorem Bp {F:Nat->Prop} {w:World} {g gv lc vc:Nat} {la:Addr} {vA:Option Addr} {xs vs:List Value} {D:Dc.aZ} {A:Option Addr} {n c B:Nat} {ws:List Nat} (v:Nat) (hv:v < 4294967296) (t aV ev:Int) (h:cM 131 w F g gv (some la) lc vA vc xs vs D) (hd:∀ e∈D.l,e.dflt.length<=1000000) (hw:RW w B A n c ws) (hwl:∀ x∈ws,x < 4294967296) (hB:B<=w.heap.size) :
  Calls Tryz.prog 249 #[.pointer (some ⟨g,0,none⟩),.agg #[.int .u32 (v:Int),.int .i64 t,.int .i64 aV,.int .i64 ev,.slice A n c]] w (zj D.l g v t aV ev ws w):=by
 have b0:=ae w (.cells #[.int .u32 (v:Int),.int .i64 t,.int .i64 aV,.int .i64 ev,.slice A n c] 307);have K:=ao.new w 307 #[.int .u32 (v:Int),.int .i64 t,.int .i64 aV,.int .i64 ev,.slice A n c];have F0:=K.IS;have CK:=wC v hv t aV ev (h.below b0) hd (hw.below (b0.mono hB)) hwl (Nat.le_trans hB b0.size);unfold zj;have hcp:=Tp.dW (l:=D.l) (w:=v) (t:=t) (aV:=aV) (ev:=ev) (ws:=ws);have hl:=hw.len;subst hl;generalize Tp.ar D.l v t aV ev ws=r at *;replace CK:=zq CK
 by_cases hr:r=0
 ·subst hr
  obtain ⟨p1,p2,p3⟩:=hcp rfl;have SP:=zq (fun w=>fG v hv (aY.l7 p1) w);have h8:=(Mp.bD p3).1;clear hcp p1 p2 p3;go_enter Tryz.func249,Tryz.ntmps249
  go_wp2_with fail
  refine (CK.out).mono ?_;rintro e w1 ⟨rfl,b1⟩;have d1:=aa b0 b1 lq;have K1:=K.later b1;have F1:=K1.IS;clear F0 K;have hr1:=RW.below hw (d1.mono hB);go_wp2_with (at_builtin; refine b_ TE rfl (.const (.slice none 0 0)) (.tmp 17) rfl rfl rfl w.heap.size (OV.none_ _ _ _ _) hr1 (by intro u hu; obtain ⟨x,_,rfl⟩:=List.mem_map.1 hu; rfl) (by omega) (by omega) d1.size ?_; simp only [Nat.zero_add,List.nil_append]; intro A2 c2 w2 o2 g2 _; have b2:Below w1.heap.size w1 w2:=(Below.refl _ w1).grown g2 lq (fun k hk=>by cases hk); have K2:=K1.later b2; have F2:=K2.IS; have K3:ao (w2.setCell ⟨w.heap.size,4,none⟩ (.slice A2 ws.length c2)) w.heap.size 307 #[.int .u32 (v:Int),.int .i64 t,.int .i64 aV,.int .i64 ev,.slice A2 ws.length c2]:=K2.aJ 4 (.slice A2 ws.length c2); have F3:=K3.IS; have F4:=(K3.alloc (.cells #[.pointer (some ⟨g,0,none⟩),.int .u32 (v:Int),.int .i64 t,.int .i64 aV,.int .i64 ev,.slice A2 ws.length c2,.int .i64 0,.bool false,.int .i64 0,.int .i64 0,.int .i64 0] 309)).IS; clear F1)
  have o3:MZ ((w2.setCell ⟨w.heap.size,4,none⟩ (.slice A2 ws.length c2)).alloc (.cells #[.pointer (some ⟨g,0,none⟩),.int .u32 (v:Int),.int .i64 t,.int .i64 aV,.int .i64 ev,.slice A2 ws.length c2,.int .i64 0,.bool false,.int .i64 0,.int .i64 0,.int .i64 0] 309)) w.heap.size A2 ws.length c2 ws:=OV.alloc (OV.off o2 K2 (by decide)) _;have KG:=ao.new (w2.setCell ⟨w.heap.size,4,none⟩ (.slice A2 ws.length c2)) 309 #[.pointer (some ⟨g,0,none⟩),.int .u32 (v:Int),.int .i64 t,.int .i64 aV,.int .i64 ev,.slice A2 ws.length c2,.int .i64 0,.bool false,.int .i64 0,.int .i64 0,.int .i64 0];have d3:Below w.heap.size w ((w2.setCell ⟨w.heap.size,4,none⟩ (.slice A2 ws.length c2)).alloc (.cells #[.pointer (some ⟨g,0,none⟩),.int .u32 (v:Int),.int .i64 t,.int .i64 aV,.int .i64 ev,.slice A2 ws.length c2,.int .i64 0,.bool false,.int .i64 0,.int .i64 0,.int .i64 0] 309)):=(((aa d1 b2 lq).setCell (p:=⟨w.heap.size,4,none⟩) lq (.slice A2 ws.length c2))).alloc (by have:=d1.size; have:=b2.size; simp; omega) _;have hz2:w.heap.size<=w2.heap.size:=Nat.le_trans d1.size b2.size;have hzs:(w2.setCell ⟨w.heap.size,4,none⟩ (.slice A2 ws.length c2)).heap.size=w2.heap.size:=by simp [World.setCell]
  rw [hzs] at KG;generalize ((w2.setCell ⟨w.heap.size,4,none⟩ (.slice A2 ws.length c2)).alloc (.cells #[.pointer (some ⟨g,0,none⟩),.int .u32 (v:Int),.int .i64 t,.int .i64 aV,.int .i64 ev,.slice A2 ws.length c2,.int .i64 0,.bool false,.int .i64 0,.int .i64 0,.int .i64 0] 309))=w3 at *;generalize w2.heap.size=gq at *;clear o2 g2 b2 F2 F3 K2 K3 hzs;refine (SP.out _).mono ?_;rintro e w4 ⟨rfl,b4⟩;have yv:aY.fl v=if aY.off v=true then 0 else aY.id v:=rfl
  generalize aY.IT v=nr at *;generalize aY.off v=ov at *;have b5:=ae w4 (.cells #[.bool ov,.bool nr,.int .i64 (aY.id v:Int)] 161);have K_:=aa b4 b5 lq;have d5:=aa d3 K_ lq;have FB:=(ao.new w4 161 #[.bool ov,.bool nr,.int .i64 (aY.id v:Int)]).three;have zP:=KG.later K_;have o5:=OV.below o3 K_;have FG:=zP.aA;have hgl:=KG.lt;have Xz:=b4.size;clear F4 KG o3 b4 SP CK;cases ov
  ·have tw:=zP.aJ 6 (.int .i64 (aY.id v:Int))
   have o6:=OV.off (i:=6) (u:=(.int .i64 (aY.id v:Int))) o5 zP (by decide);have d6:=d5.setCell (p:=⟨gq,6,none⟩) hz2 (.int .i64 (aY.id v:Int));have TM:iO _ w.heap.size gq g v t aV ev ws A2 c2 ⟨false,0,0,0⟩:=⟨hz2,by rw [yv]; exact tw,o6⟩;have RS:=zq (oy TM);clear TM tw zP o5 o6;go_wp2_with fail
   refine (RS.out).mono ?_;rintro e w6 ⟨rfl,M6,Vx⟩;have d7:=d6.trans (M6.below d6.size fun q e=>by subst e; omega);go_wp2_with fail
   go_ret2
   exact .inl ⟨by first | rfl | trivial,d7,gq,A2,c2,rfl,Vx⟩
  ·have TM:iO _ w.heap.size gq g v t aV ev ws A2 c2 ⟨false,0,0,0⟩:=⟨hz2,by rw [yv]; exact zP,o5⟩
   have RS:=zq (oy TM);clear TM zP o5;go_wp2_with fail
   refine (RS.out).mono ?_;rintro e w6 ⟨rfl,M6,Vx⟩;have d7:=d5.trans (M6.below d5.size fun q e=>by subst e; omega);go_wp2_with fail
   go_ret2
   exact .inl ⟨by first | rfl | trivial,d7,gq,A2,c2,rfl,Vx⟩
 ·clear hcp
  have hr2:(r == 0)=false:=by simpa using hr
  have hr3:(r != 0)=true:=by simpa using hr
  replace hr:=zq hr;go_enter Tryz.func249,Tryz.ntmps249
  go_wp2_with fail
  refine (CK.out).mono ?_;rintro e w1 ⟨rfl,b1⟩;have d1:=aa b0 b1 lq;go_wp2_with fail
  go_ret2
  exact .inr ⟨hr.out,d1,rfl⟩
theorem iW.any {v:Option (List UInt8)} {w w':World} {e:Ending} (h:iW v w e w'):∃ A c b,e=.returned (.tuple #[.slice A (v.getD []).length c,.bool b])/\OB w' w.heap.size A (v.getD []).length c (v.getD [])/\Below w.heap.size w w'/\b=v.isSome:=by
 cases v with
 | none=>exact ⟨none,0,false,h.1,OB.none_ _ _,h.2,rfl⟩
 | some l=>obtain ⟨A,c,h1,h2,h3⟩:=h; exact ⟨A,c,true,h1,h2,h3,rfl⟩
theorem wU {F:Nat->Prop} {w:World} {g gv lc vc:Nat} {la:Addr} {vA:Option Addr} {xs vs:List Value} {D:Dc.aZ} {A:Option Addr} {n c B:Nat} {ws:List Nat} (h:cM 131 w F g gv (some la) lc vA vc xs vs D) (hd:∀ e∈D.l,e.dflt.length<=1000000) (hv:∀ v∈D.v,v.length<=1000000) (hw:RW w B A n c ws) (hwl:∀ x∈ws,x < 4294967296) (hB:B<=w.heap.size):Calls Tryz.prog 280 #[.pointer (some ⟨g,0,none⟩),.slice A n c] w (hZ (Mp.iF D ws) w):=by
 have hl:=hw.len;have RI:=nV false h hd hw hwl hB;have hgs:Mp.iF D ws=if Mp.ar D.l false ws≠0 then ([],4) else Bt.mK (Mp.jT D ws):=rfl
 have hce:=Mp.bD (l:=D.l) (cm:=false) (ws:=ws);generalize Mp.ar D.l false ws=r at *
 by_cases hr:r=0
 ·subst hr
  simp only [ne_eq,not_true_eq_false,if_false] at hgs RI;rw [hgs];have h8:n<=8:=by rw [<- hl]; exact (hce rfl).1
  clear hgs hce;replace RI:=zq RI;have HL:=zq hl;clear hl;go_enter Tryz.func280,Tryz.ntmps280
  go_wp2_with fail
  refine (RI.out).mono ?_;rintro e w1 ⟨rfl,b1⟩;go_wp2_with fail
  go_loopw [7,23] (fun v i wr=>∃ (k:Nat) (A1:Option Addr) (c1:Nat),k<=n/\i=.int .i64 k/\v=.slice A1 k c1/\OS (oT wr w.heap.size) wr w.heap.size 397 2 A1 k c1 (Mp.jT D (ws.take k))/\Below w.heap.size w wr) (fun _ i _=>n - (intOf i).toNat)
  case atStart=>exact ⟨0,_,_,by omega,rfl,rfl,OS.none_ _ _ _ _,b1⟩
  case round =>
   clear b1;obtain ⟨k,A1,c1,hk,rfl,rfl,os,bb⟩:=hrel
   by_cases hlt:k < n
   ·obtain ⟨b,o,rfl,eT,q0⟩:=(hw.below (bb.mono hB)).at_ hlt
    have SP:=eM (ws.getD k 0) (word_lt hwl k) wr;have PK:=jB (Mp.ix (ws.getD k 0)) (Mp.sb (ws.getD k 0)) (h.below bb) hv;have hnx:=Mp.AB D ws (k:=k) (by rw [HL.out]; exact hlt);have hpb:=Mp.pM hv (Mp.ix (ws.getD k 0)) (Mp.sb (ws.getD k 0));have hbt:=Mp.uC (ws.getD k 0);unfold Mp.Uy at hnx;generalize ws.getD k 0=x at *;have HN:=zq hnx;clear hnx;generalize Dc.c_ D (Mp.ix x) (Mp.sb x)=pv at *;generalize (Mp.ix x:Int)=vR at SP PK;generalize (Mp.sb x:Int)=Dp at SP PK;replace SP:=zq SP; replace PK:=zq PK;go_wp2_with fail
    refine (SP.out).mono ?_;rintro e w1 ⟨rfl,rfl⟩;go_wp2_with fail
    refine (PK.out).mono ?_;intro e w2 hpk;obtain ⟨A2,c2,bq,rfl,o2,b2,_⟩:=hpk.any;generalize pv.getD []=l2 at *;have d2:=aa bb b2 lq;have os1:=os.below b2 (R':=oT w2 w.heap.size) fun _ _ h=>h.below b2
    have ow:=(o2.ow).more (base':=w.heap.size) bb.size;clear o2 hpk;go_wp2_with (at_builtin; refine dU PY (fun w1=>oT w1 w.heap.size) rfl (.tmp 40) (.tmp 44) rfl rfl rfl rfl w.heap.size os1 ⟨(Mp.bt x:Int),l2⟩ ⟨A2,l2.length,c2,rfl,ow⟩ rfl (jX _ _ _ _) (by omega) (by omega) d2.size (fun w1 A1 n1 c1 xs h g f cs hf=>hf.beside h (by decide) g) ?_; intro A3 c3 w3 os3 b3 g3 _)
    go_roundw
    case rel=>exact ⟨k + 1,A3,c3,by omega,by go_num,rfl,by rw [HN.out]; exact os3,d2.trans b3⟩
    case measure=>simp [intOf] <;> omega
   ·obtain rfl:k=n:=by omega
    have hall:ws.take k=ws:=List.take_of_length_le (by rw [HL.out]; omega);rw [hall] at os;have rf:IX wr wr.heap.size wr.heap.size A1 k c1 (Mp.jT D ws):=os.rs.imp fun _ _ h=>h.Zd
    have IE:=Mp.xz hv ws;have PA:=Fo wr rf (by omega) lq lq (fun f hf=>(IE f hf).1) (fun f hf=>by have:=(IE f hf).2; omega);unfold hZ at PA ⊢;generalize Bt.mK (Mp.jT D ws)=pk at *;replace PA:=zq PA;clear IE rf os hall;go_wp2_with fail
    refine (PA.out).mono ?_;rintro e w2 ⟨A2,c2,rfl,o2,b2⟩;go_wp2_with fail
    go_ret2
    exact ⟨A2,c2,rfl,o2.more bb.size,aa bb b2 lq⟩
 ·simp only [ne_eq,hr,not_false_eq_true,if_true] at hgs RI
  rw [hgs];clear hgs hce hr hl;replace RI:=zq RI;go_enter Tryz.func280,Tryz.ntmps280
  go_wp2_with fail
  refine (RI.out).mono ?_;rintro e w1 ⟨rfl,b1⟩;go_wp2_with fail
  go_ret2
  exact uD rfl b1
end
end Go.Proofs.YtijegngfclkdaaaGreatDoor
