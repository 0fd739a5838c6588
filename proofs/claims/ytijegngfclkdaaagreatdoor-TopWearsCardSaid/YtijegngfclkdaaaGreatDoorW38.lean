/-
  Pieces of the proof: part 38 of 54.
  Conditions: none.
-/
import Derived.Test.YtijegngfclkdaaaGreatDoorW25
import Derived.Test.YtijegngfclkdaaaGreatDoorW30
import Derived.Test.YtijegngfclkdaaaGreatDoorW36
import Derived.Test.YtijegngfclkdaaaGreatDoorW37
set_option linter.unusedVariables false
set_option linter.unusedSimpArgs false
set_option maxHeartbeats 100000000
set_option maxRecDepth 100000
namespace Go.Proofs.YtijegngfclkdaaaGreatDoor.Ev
open Go Go.RowKit Tw
def OrcOK (X:Cx Nat) (O:Outside Nat) (f:Nat) (o:List AV→St Nat→Option (AV×St Nat)):Prop:=∀ args s v s',o args s=some (v,s')→s.c≤s'.c∧∀ E w vals,Rel X O E s.S.get s.g w→(∀ id,s.c≤id→id < s'.c→¬ E.D id)→Rel2 (RV E) args vals →
 Calls Tryz.prog f vals.toArray w fun e w'=>∃ y,e=.returned y∧StepP X O E s w (some v) s' y w'
section
variable {X:Cx Nat} {R:Nat→Dt→Prop} {τ:List UInt8} {z0:Option Obj}
theorem findA_R (E:Env) (x y:Int):RV E (findA x y) (.tuple #[.int .i64 (findP esW x y).1,.bool (findP esW x y).2]):=by
 have key:∀ (n:Int) (b:Bool),findP esW x y=(n,b)→findA x y=.tup [c6 n,cb b]→RV E (findA x y) (.tuple #[.int .i64 (findP esW x y).1,.bool (findP esW x y).2]):=fun n b h1 h2=>by
  rw [h1,h2];exact ⟨_,rfl,⟨rfl,rfl⟩,⟨rfl,rfl⟩,trivial⟩
 have hf:=find_W x y;have e:∀ a b c d:Int,(eqI a c && eqI b d)=decide (a=c∧b=d):=fun a b c d=>by
  rw [eqI_eq,eqI_eq]
  by_cases h1:a=c <;> by_cases h2:b=d <;> simp [h1,h2]
 have hA:findA x y=if x=4112∧y=1 then .tup [c6 0,cb true] else if x=4113∧y=1 then .tup [c6 1,cb true] else if x=8192∧y=0 then .tup [c6 2,cb true] else if x=8193∧y=0 then .tup [c6 3,cb true] else .tup [c6 0,cb false]:=by
  unfold findA;rw [e,e,e,e]
  by_cases h0:x=4112∧y=1
  ·rw [decide_eq_true h0,if_pos h0]
  rw [decide_eq_false h0,if_neg h0]
  by_cases h1:x=4113∧y=1
  ·rw [decide_eq_true h1,if_pos h1]
  rw [decide_eq_false h1,if_neg h1]
  by_cases h2:x=8192∧y=0
  ·rw [decide_eq_true h2,if_pos h2]
  rw [decide_eq_false h2,if_neg h2]
  by_cases h3:x=8193∧y=0
  ·rw [decide_eq_true h3,if_pos h3]
  ·rw [decide_eq_false h3,if_neg h3]
 by_cases h0:x=4112∧y=1
 ·exact key 0 true (by unfold findP; rw [hf,if_pos h0]; rfl) (by rw [hA,if_pos h0])
 by_cases h1:x=4113∧y=1
 ·exact key 1 true (by unfold findP; rw [hf,if_neg h0,if_pos h1]; rfl) (by rw [hA,if_neg h0,if_pos h1])
 by_cases h2:x=8192∧y=0
 ·exact key 2 true (by unfold findP; rw [hf,if_neg h0,if_neg h1,if_pos h2]; rfl) (by rw [hA,if_neg h0,if_neg h1,if_pos h2])
 by_cases h3:x=8193∧y=0
 ·exact key 3 true (by unfold findP; rw [hf,if_neg h0,if_neg h1,if_neg h2,if_pos h3]; rfl) (by rw [hA,if_neg h0,if_neg h1,if_neg h2,if_pos h3])
 ·exact key 0 false (by unfold findP; rw [hf,if_neg h0,if_neg h1,if_neg h2,if_neg h3]) (by rw [hA,if_neg h0,if_neg h1,if_neg h2,if_neg h3])
theorem oFind_ok:OrcOK X (Ot R τ z0) 56 oFind:=by
 intro args s v s' h;unfold oFind at h;split at h
 ·rename_i d x y
  rw [gd_some] at h;obtain ⟨hb,h⟩:=h;injection h with h
  injection h with h1 h2
  subst h1 h2;simp only [Bool.and_eq_true] at hb;refine ⟨Nat.le_refl _,fun E w vals Rl hf hargs=>?_⟩;obtain ⟨xx,col,K⟩:=Rl.out;obtain ⟨g,gd,lc,vc,la,vA,ys,vs,k1,k2,k3,k4⟩:=K.dic (hasN_ne hb.1)
  match vals,hargs with
  | [dv,xv,yv],⟨a1,a2,a3,_⟩ =>
   obtain ⟨_,rfl⟩:=isOp_R hb.2 a1;obtain rfl:xv=.int .i64 x:=a2.1;obtain rfl:yv=.int .i64 y:=a3.1;rw [k2];refine (dFind_any x y k3).mono ?_;rintro e w' ⟨rfl,b⟩;rw [k4.l];exact ⟨_,rfl,step_quiet Rl b (findA_R E x y)⟩
 ·cases h
theorem enA_R {E:Env}:∀ {k:Nat} {e:V1},enA k=some e→k < 4∧∀ A n c,R1 E e (enV (esW.getD k Dc.en0) A n c)
 | 0,e,h=>by
  injection h with h; subst h
  exact ⟨by decide,fun A n c=>⟨_,rfl,⟨rfl,rfl⟩,⟨rfl,rfl⟩,⟨rfl,rfl⟩,⟨rfl,rfl⟩,⟨rfl,rfl⟩,⟨rfl,rfl⟩,⟨rfl,rfl⟩,⟨rfl,rfl⟩,⟨rfl,rfl⟩,⟨rfl,rfl⟩,rfl,trivial⟩⟩
 | 1,e,h=>by
  injection h with h; subst h
  exact ⟨by decide,fun A n c=>⟨_,rfl,⟨rfl,rfl⟩,⟨rfl,rfl⟩,⟨rfl,rfl⟩,⟨rfl,rfl⟩,⟨rfl,rfl⟩,⟨rfl,rfl⟩,⟨rfl,rfl⟩,⟨rfl,rfl⟩,⟨rfl,rfl⟩,⟨rfl,rfl⟩,rfl,trivial⟩⟩
 | 2,e,h=>by
  injection h with h; subst h
  exact ⟨by decide,fun A n c=>⟨_,rfl,⟨rfl,rfl⟩,⟨rfl,rfl⟩,⟨rfl,rfl⟩,⟨rfl,rfl⟩,⟨rfl,rfl⟩,⟨rfl,rfl⟩,⟨rfl,rfl⟩,⟨rfl,rfl⟩,⟨rfl,rfl⟩,⟨rfl,rfl⟩,rfl,trivial⟩⟩
 | 3,e,h=>by
  injection h with h; subst h
  exact ⟨by decide,fun A n c=>⟨_,rfl,⟨rfl,rfl⟩,⟨rfl,rfl⟩,⟨rfl,rfl⟩,⟨rfl,rfl⟩,⟨rfl,rfl⟩,⟨rfl,rfl⟩,⟨rfl,rfl⟩,⟨rfl,rfl⟩,⟨rfl,rfl⟩,⟨rfl,rfl⟩,rfl,trivial⟩⟩
 | _ + 4,e,h=>by cases h
theorem oEntry_ok:OrcOK X (Ot R τ z0) 57 oEntry:=by
 intro args s v s' h;unfold oEntry at h;split at h
 ·rename_i d i
  simp only [gd_some,Option.map_eq_some_iff] at h;obtain ⟨hb,e,he,h⟩:=h;injection h with h1 h2
  subst h1 h2;simp only [Bool.and_eq_true] at hb;refine ⟨Nat.le_refl _,fun E w vals Rl hf hargs=>?_⟩;obtain ⟨xx,col,K⟩:=Rl.out;obtain ⟨g,gd,lc,vc,la,vA,ys,vs,k1,k2,k3,k4⟩:=K.dic (hasN_ne hb.1)
  match vals,hargs with
  | [dv,iv],⟨a1,a2,_⟩ =>
   obtain ⟨_,rfl⟩:=isOp_R hb.2 a1;obtain rfl:iv=.int .i64 (Int.ofNat i):=a2.1;rw [k2];obtain ⟨hi,hr⟩:=enA_R (E:=E) he;refine (dEntry_any i k3 (by rw [k4.l]; exact hi) k4.dfl).mono ?_;rintro e' w' ⟨A1,n1,c1,rfl,_,b⟩;rw [k4.l];exact ⟨_,rfl,step_quiet Rl b ⟨_,rfl,hr A1 n1 c1,⟨rfl,rfl⟩,trivial⟩⟩
 ·cases h
theorem bytesC_at {E:Env}:∀ {l:List Ce} {vs:List Value} {bs:List UInt8},bytesC l=some bs→Rel2 (RC E) l vs→bs.length=l.length∧∀ i,i < bs.length→vs[i]?=some (.int .u8 ((bs.getD i 0).toNat:Int))
 | [],vs,bs,h,hr=>by
  simp only [bytesC] at h;injection h with h
  subst h;exact ⟨rfl,fun i hi=>absurd hi (Nat.not_lt_zero i)⟩
 | c :: l,[],bs,h,hr=>hr.elim
 | c :: l,v :: vs,bs,h,⟨h1,h2⟩=>by
  unfold bytesC at h;split at h
  ·rename_i heq
   cases heq
  ·rename_i n r heq
   injection heq with e1 e2
   subst e1 e2;simp only [gd_some,Option.map_eq_some_iff] at h;obtain ⟨hn,b',hb,rfl⟩:=h;obtain ⟨g1,g2⟩:=bytesC_at hb h2;have hn:n < 256:=by simpa [Nat.blt_eq] using hn
   obtain rfl:v=.int .u8 (Int.ofNat n):=h1.1;refine ⟨by simp [g1],fun i hi=>?_⟩;cases i with
   | zero =>
    show some _=some _;have:(UInt8.ofNat n).toNat=n:=by simp [UInt8.toNat_ofNat,Nat.mod_eq_of_lt hn]
    simp only [List.getD_cons_zero,this];rfl
   | succ j =>
    have:=g2 j (by simpa using hi);simpa using this
  ·cases h
theorem bytesOf_R {E:Env} {w:World} {S:Tr Ob} (hS:∀ id o,S.get id=some o→E.D id∧RO E id w o) {v:At} {y:Value} {b:List UInt8} (h:bytesOf S v=some b) (hy:RA E v y):∃ A c,y=.slice A b.length c∧RB w w.heap.size A b.length c b:=by
 unfold bytesOf at h;split at h
 ·injection h with h
  subst h;exact ⟨none,0,hy.1,rfl,Nat.le_refl _,by decide,fun _=>⟨rfl,rfl⟩,fun h=>absurd h (Nat.lt_irrefl 0)⟩
 ·rename_i id off n cp
  simp only [gd_some,Option.bind_eq_some_iff] at h;obtain ⟨hcp,r,hl,cs,hc,hb⟩:=h;obtain ⟨d,a,c,rfl,h2,h3,h4,h5⟩:=hy;obtain ⟨ty,hl⟩:=look_some hl;have ro:=(hS _ _ hl).2;obtain ⟨g1,vs,g2,g3,g4⟩:=cut_lies ro hc;obtain ⟨b1,b2⟩:=bytesC_at hb g3;have hn:b.length=n:=by rw [b1,g1]
  subst hn;refine ⟨some a,c,rfl,rfl,h2,?_,(fun h=>by cases h),fun hn=>?_⟩
  ·cases cp with
   | none=>exact h5 rfl
   | some k =>
    have e1:=h4 k rfl;have e2:=Nat.le_of_ble_eq_true (show Nat.ble k 65536=true from hcp);omega
  ·rcases h3 with ⟨h3,_⟩ | ⟨h3,_⟩
   ·omega
   ·subst h3
    have hlt:E.ι id < w.heap.size:=by
     obtain ⟨arr,fz,q1,_⟩:=ro;exact (Array.getElem?_eq_some_iff.1 q1).1
    exact ⟨_,_,rfl,hlt,fun i hi=>g4 i _ (b2 i hi)⟩
 ·cases h
theorem agg3 {E:Env} {a b c:Ce} {y:Value} (h:RV E (.w (.agg [a,b,c])) y):∃ u v t,y=.agg #[u,v,t]∧RC E a u∧RC E b v∧RC E c t:=by
 obtain ⟨A,rfl,h1⟩:=h
 match hA:A.toList,h1 with
 | [u,v,t],⟨r1,r2,r3,_⟩=>exact ⟨u,v,t,by rw [← Array.toArray_toList (xs:=A),hA],r1,r2,r3⟩
theorem isWord_eq {S:Tr Ob} {v:At} {l:List UInt8} (h:isWord S v l=true):bytesOf S v=some l:=by
 unfold isWord at h;split at h
 ·rename_i b hb
  rw [hb,of_decide_eq_true h]
 ·cases h
theorem oGuard_ok:OrcOK X (Ot R τ z0) 267 oGuard:=by
 intro args s v s' h;unfold oGuard at h;split at h
 ·rename_i d x y a
  rw [gd_some] at h;obtain ⟨hb,h⟩:=h;injection h with h
  injection h with h1 h2
  subst h1 h2;simp only [Bool.and_eq_true,Bool.or_eq_true] at hb;obtain ⟨⟨⟨hb1,hb2⟩,hb3⟩,hb4⟩:=hb;have hy:=eqI_tru hb3;subst hy;refine ⟨Nat.le_refl _,fun E w vals Rl hf hargs=>?_⟩;obtain ⟨xx,col,K⟩:=Rl.out;obtain ⟨g,gd,lc,vc,la,vA,ys,vs,k1,k2,k3,k4⟩:=K.dic (hasN_ne hb1)
  match vals,hargs with
  | [dv,av],⟨a1,a2,_⟩ =>
   obtain ⟨_,rfl⟩:=isOp_R hb2 a1;obtain ⟨u1,u2,u3,rfl,r1,r2,r3⟩:=agg3 a2;obtain rfl:u1=.int .i64 x:=r1.1;obtain rfl:u2=.int .i64 1:=r2.1;rw [k2];rcases hb4 with ⟨q1,q2⟩ | ⟨q1,q2⟩
   ·have hx:=eqI_tru q1
    subst hx;obtain ⟨A,c,rfl,hr⟩:=bytesOf_R Rl.ob (isWord_eq q2) r3;refine (Guard_cmd 4112 1702257011 (.inl ⟨rfl,rfl⟩) k3 k4.dfl k4.fine hr (Nat.le_refl _) (by decide) (save_num k4).1 (save_num k4).2).mono ?_;rintro e w' ⟨rfl,b⟩;exact ⟨_,rfl,step_quiet Rl b ⟨rfl,rfl⟩⟩
   ·have hx:=eqI_tru q1
    subst hx;obtain ⟨A,c,rfl,hr⟩:=bytesOf_R Rl.ob (isWord_eq q2) r3;refine (Guard_cmd 4113 1684107116 (.inr ⟨rfl,rfl⟩) k3 k4.dfl k4.fine hr (Nat.le_refl _) (by decide) (load_num k4).1 (load_num k4).2).mono ?_;rintro e w' ⟨rfl,b⟩;exact ⟨_,rfl,step_quiet Rl b ⟨rfl,rfl⟩⟩
 ·cases h
end
end Go.Proofs.YtijegngfclkdaaaGreatDoor.Ev
namespace Go.Proofs.YtijegngfclkdaaaGreatDoor
open Go.RowKit
def openV (f:Fla) (m:Nat) (D:Dc.Dic):Vau :=
 if (Jr.newN (looksK f m)).2=true∧((looksK f m).getD (Jr.newN (looksK f m)).1 Jr.lk0).last.kind=1 then
  match Sn.parseS ((looksK f m).getD (Jr.newN (looksK f m)).1 Jr.lk0).last.data with
  | none=>⟨looksK f m,(Jr.newN (looksK f m)).1,(Jr.newN (looksK f m)).2,false,[],true,false⟩
  | some vs=>if Sn.checkS D vs=0 then ⟨looksK f m,(Jr.newN (looksK f m)).1,(Jr.newN (looksK f m)).2,false,vs,false,false⟩ else ⟨looksK f m,(Jr.newN (looksK f m)).1,(Jr.newN (looksK f m)).2,false,[],true,false⟩
 else ⟨looksK f m,(Jr.newN (looksK f m)).1,(Jr.newN (looksK f m)).2,false,[],false,false⟩
theorem open_made {w w1 w2:World} {gj gl c gf:Nat} {A:Option Addr} {xs:List Value} {L:List Jr.Look} {now:Nat} {has odd:Bool} {As:Option Addr} {cs:Nat} {vs:List Dc.Vl}
  (b1:Below w.heap.size w w1) (J:JoM w1 (fun q=>w.heap.size≤q) gj gl A c xs L now has gf false) (hm:Mv (fun q=>q=w1.heap.size) w1 w2) (hb:Blk w2 w1.heap.size 215 (vaC gj As vs.length cs odd false)) (hv:RVq w2 (fun q=>w1.heap.size < q) As vs.length cs vs) (hL:0 < L.length) :
  Below w.heap.size w w2∧VaM w2 (fun q=>w.heap.size≤q) w1.heap.size gj gl A c xs gf As cs ⟨L,now,has,false,vs,odd,false⟩:=by
 have hgj:=J.blk.lt;have hgl:gl < w1.heap.size:=by
  obtain ⟨q,e,_,h⟩:=J.own.head hL;have:=(J.at_ q (by rw [e]; rfl)).1;omega
 have hs:=b1.size;refine ⟨(Mv.trans (Mv.of_below b1) hm fun q _ e=>?_).below (Nat.le_refl _) fun _ h=>h,hs,by omega,hb,?_,hv.mono fun q _ hq=>?_⟩
 ·have e2:q=w1.heap.size:=e; omega
 ·exact (J.mono fun q hq hf=>(⟨hf,by omega⟩:w.heap.size≤q∧q≠w1.heap.size)).mv hm fun q _ hf e=>hf.2 e
 ·have hq':w1.heap.size < q:=hq
  exact ⟨by omega,by omega,by omega,by omega⟩
theorem vOpen_any {w:World} {base gf n c m c':Nat} {A A':Option Addr} {f:Fla} (hf:FlM w base gf A n c A' m c' f) (hoff:f.off=false) (hn:n=m * 1024) (hm3:3≤m) (hm:m≤8)
  {FD:Nat→Prop} {g gd lc vc:Nat} {la:Addr} {vA:Option Addr} {ys vs:List Value} {D:Dc.Dic} (hd:DRt 131 w FD g gd (some la) lc vA vc ys vs D) (hdf:∀ e∈D.l,e.dflt.length≤1000000) (h0:0 < D.l.length) (hnow:(Jr.newN (looksK f m)).2=true→(Jr.newN (looksK f m)).1 < m) (hdl:∀ i,((looksK f m).getD i Jr.lk0).last.data.length≤960) :
  Calls Tryz.prog 92 #[.pointer (some ⟨gf,0,none⟩),.pointer (some ⟨g,0,none⟩)] w fun e w'=>∃ gv gj gl A1 c1 xs As cs,e=.returned (.tuple #[.pointer (some ⟨gv,0,none⟩),.int .i64 0])∧Below w.heap.size w w'∧VaM w' (fun q=>w.heap.size≤q) gv gj gl A1 c1 xs gf As cs (openV f m D):=by
 have JO:=Lib.hid (jOpen_any hf hoff hn hm3 hm);have HD:=Lib.hid (And.intro hd (And.intro hdf h0));have hV:openV f m D=openV f m D:=rfl
 conv at hV=>rhs; unfold openV
 have HV:=Lib.hid hV;have HLK:=Lib.hid (looksK_len f m);have HDL:=Lib.hid (hdl (Jr.newN (looksK f m)).1);have HN:=Lib.hid hnow;have HM:=Lib.hid (And.intro hm3 hm);clear hf hoff hn hm3 hm hd hdf h0 hV hnow hdl;generalize looksK f m=L at *;generalize Jr.newN L=nw at *;obtain ⟨now,has⟩:=nw;dsimp only at HV HN HDL JO;go_enter Tryz.func92,Tryz.ntmps92
 go_wp2_with fail
 refine (JO.out).mono ?_;rintro e w1 ⟨gj,gl,A1,c1,xs,rfl,b1,J1⟩;have b2:=alloc_one w1 (.cells #[.pointer (some ⟨gj,0,none⟩),.slice none 0 0,.bool false,.bool false] 215);have K2:=Blk.new w1 215 #[.pointer (some ⟨gj,0,none⟩),.slice none 0 0,.bool false,.bool false];have HJ1:=Lib.hid (And.intro b1 J1);cases has with
 | false =>
  have LA:=Lib.hid (jLast_no (J1.below b2));have H:Hid (openV f m D=⟨L,now,false,false,[],false,false⟩):=Lib.hid (HV.out.trans (if_neg (by simp)));have HB2:=Lib.hid b2;have HK2:=Lib.hid K2;clear HV JO b1 J1 b2 K2 HDL HN;go_wp2_with fail
  generalize w1.alloc (.cells #[.pointer (some ⟨gj,0,none⟩),.slice none 0 0,.bool false,.bool false] 215)=w2 at *;refine (LA.out).mono ?_;unfold recZ;rintro e w3 ⟨rfl,b3⟩;have D3:=Lib.hid (below_step HB2.out b3 (Nat.le_refl _));have K3:=HK2.out.later b3;have b4:=alloc_one w3 (.cells #[.int .i64 0,.int .u32 0,.slice none 0 0] 217);have HF:=Lib.hid (And.intro (below_step D3.out b4 (Nat.le_refl _)) (K3.later b4));clear LA b3 K3 b4;go_wp2_with fail
  go_ret2
  obtain ⟨d4,k4⟩:=HF.out;obtain ⟨b1,J1⟩:=HJ1.out;have hL:0 < L.length:=by rw [HLK.out]; have:=HM.out.1; omega
  rw [H.out];obtain ⟨r1,r2⟩:=open_made (As:=none) (cs:=0) (vs:=[]) (odd:=false) b1 J1 (Mv.of_new d4 _) k4 (RVq.nil _ _) hL;exact ⟨_,gj,gl,A1,c1,xs,none,0,rfl,r1,r2⟩
 | true =>
  have hlt:now < L.length:=by rw [HLK.out]; exact HN.out rfl
  have LA:=Lib.hid (jLast_yes (J1.below b2) hlt (by rw [HLK.out]; have:=HM.out.2; omega) (Nat.le_trans HDL.out (by decide)));have HB2:=Lib.hid b2;have HK2:=Lib.hid K2;have HDD:=Lib.hid HDL.out;obtain ⟨r,hr⟩:∃ r,r=(L.getD now Jr.lk0).last:=⟨_,rfl⟩;rw [← hr] at LA HV HDD;clear hr JO b1 J1 b2 K2 HDL HN hlt;obtain ⟨kind,num,data⟩:=r;dsimp only at LA HV HDD;go_wp2_with fail
  generalize w1.alloc (.cells #[.pointer (some ⟨gj,0,none⟩),.slice none 0 0,.bool false,.bool false] 215)=w2 at *;refine (LA.out).mono ?_;unfold recV;dsimp only;rintro e w3 ⟨A3,c3,rfl,o3,b3⟩;have D3:=Lib.hid (below_step HB2.out b3 (Nat.le_refl _));have K3:=HK2.out.later b3;have b4:=alloc_one w3 (.cells #[.int .i64 (kind:Int),.int .u32 (num:Int),.slice A3 data.length c3] 217);have K4:=Blk.new w3 217 #[.int .i64 (kind:Int),.int .u32 (num:Int),.slice A3 data.length c3];have D4:=Lib.hid (below_step D3.out b4 (Nat.le_refl _));have HK4:=Lib.hid (K3.later b4);have o4:=o3.below b4;have C4:=K4.three;have HO4:=Lib.hid o4;clear LA b3 K3 b4 K4 o3 o4
  by_cases hk:kind=1
  ·have e1:decide ((kind:Int)=1)=true:=decide_eq_true (by omega)
   have e1':((kind:Int) == 1)=true:=by simp [hk]
   have S1:=HV.out;rw [if_pos ⟨by simp,hk⟩] at S1;have HS1:=Lib.hid S1;clear HV S1 hk;have PA:=Lib.hid (sparse_any (w3.alloc (.cells #[.int .i64 (kind:Int),.int .u32 (num:Int),.slice A3 data.length c3] 217)) HO4.out.rb (Nat.le_refl _) (by have:=HDD.out; omega));go_wp2_with fail
   generalize w3.alloc (.cells #[.int .i64 (kind:Int),.int .u32 (num:Int),.slice A3 data.length c3] 217)=w4 at *;refine (PA.out).mono ?_;unfold SParP;rintro e w5 ⟨b5,h5⟩;have hw2:w1.heap.size < w4.heap.size:=HK4.out.lt;have D5:=Lib.hid (below_step D4.out b5 (Nat.le_refl _));have K5:=HK4.out.later b5;have HB5:=Lib.hid b5;clear b5 C4 PA;cases hps:Sn.parseS data with
   | none =>
    rw [hps] at h5 HS1;dsimp only at h5 HS1;obtain ⟨z,rfl,hz⟩:=h5;have e2:decide (z=0)=false:=decide_eq_false hz;have e2':(z == 0)=false:=by simpa using hz
    have C5:=K5.four;have KS:=K5.set_ 2 (.bool true);have k2:=KS.cell 2;have MS:=Mv.setCell w5 ⟨w1.heap.size,2,none⟩ (.bool true);have HF:=Lib.hid (And.intro KS MS);have HZ:=Lib.hid hz;clear hps hz KS MS K5;go_wp2_with fail
    go_ret2
    obtain ⟨b1,J1⟩:=HJ1.out;have hL:0 < L.length:=by rw [HLK.out]; have:=HM.out.1; omega
    rw [HS1.out];obtain ⟨KS,MS⟩:=HF.out;obtain ⟨r1,r2⟩:=open_made (As:=none) (cs:=0) (vs:=[]) (odd:=true) b1 J1 ((Mv.of_new D5.out _).trans MS fun _ _ e=>e) KS (RVq.nil _ _) hL;exact ⟨_,gj,gl,A1,c1,xs,none,0,rfl,r1,r2⟩
   | some vs5 =>
    rw [hps] at h5 HS1;dsimp only at h5 HS1;obtain ⟨A5,c5,rfl,o5⟩:=h5;have HO5:=Lib.hid (os_rvq o5);have d5:=Lib.hid (D3.out);have CK:=Lib.hid (scheck_any ((HD.out.1.below ((below_step HJ1.out.1 D5.out (Nat.le_refl _))))) HD.out.2.1 HD.out.2.2 (os_rvq o5).rvl (Nat.le_refl _) (Nat.le_refl _));have HC5:=Lib.hid K5;have C5:=K5.four;clear hps K5 o5;go_wp2_with fail
    refine (CK.out).mono ?_;rintro e w6 ⟨rfl,b6⟩;have K6:=HC5.out.later b6;have C6:=K6.four;have D6:=Lib.hid (below_step D5.out b6 (Nat.le_refl _));have V6:=Lib.hid (HO5.out.below b6);clear CK C5
    by_cases hz:Sn.checkS D vs5=0
    ·have S2:=HS1.out
     rw [if_pos hz] at S2;have H:=Lib.hid S2;have KS:=(K6.set_ 2 (.bool false)).set_ 1 (.slice A5 vs5.length c5);have k2:=(K6.set_ 2 (.bool false)).cell 2;have k3:=(K6.set_ 2 (.bool false)).four;have MS:=(Mv.setCell w6 ⟨w1.heap.size,2,none⟩ (.bool false)).trans (Mv.setCell _ ⟨w1.heap.size,1,none⟩ (.slice A5 vs5.length c5)) fun _ _ e=>e
     have HF:=Lib.hid (And.intro KS MS);rw [hz];clear hz S2 KS MS K6;go_wp2_with fail
     go_ret2
     obtain ⟨b1,J1⟩:=HJ1.out;have hL:0 < L.length:=by rw [HLK.out]; have:=HM.out.1; omega
     rw [H.out];obtain ⟨KS,MS⟩:=HF.out;obtain ⟨r1,r2⟩:=open_made (As:=A5) (cs:=c5) (vs:=vs5) (odd:=false) b1 J1 ((Mv.of_new D6.out _).trans MS fun _ _ e=>e) KS ((V6.out.mv MS fun q _ hq e=>by have e2:q=w1.heap.size:=e; have:=D4.out.size; have hq':w4.heap.size≤q:=hq; omega).mono fun q _ hq=>by have hq':w4.heap.size≤q:=hq; show w1.heap.size < q; omega) hL;exact ⟨_,gj,gl,A1,c1,xs,A5,c5,rfl,r1,r2⟩
    ·have S2:=HS1.out
     rw [if_neg hz] at S2;have H:=Lib.hid S2;generalize Sn.checkS D vs5=z at *;have e2:decide (z=0)=false:=decide_eq_false hz;have e2':(z == 0)=false:=by simpa using hz
     have e3:(z != 0)=true:=by simpa using hz
     have KS:=K6.set_ 2 (.bool true);have k2:=KS.cell 2;have MS:=Mv.setCell w6 ⟨w1.heap.size,2,none⟩ (.bool true);have HF:=Lib.hid (And.intro KS MS);have HZ:=Lib.hid hz;clear hz S2 KS MS K6;go_wp2_with fail
     go_ret2
     obtain ⟨b1,J1⟩:=HJ1.out;have hL:0 < L.length:=by rw [HLK.out]; have:=HM.out.1; omega
     rw [H.out];obtain ⟨KS,MS⟩:=HF.out;obtain ⟨r1,r2⟩:=open_made (As:=none) (cs:=0) (vs:=[]) (odd:=true) b1 J1 ((Mv.of_new D6.out _).trans MS fun _ _ e=>e) KS (RVq.nil _ _) hL;exact ⟨_,gj,gl,A1,c1,xs,none,0,rfl,r1,r2⟩
  ·have e1:decide ((kind:Int)=1)=false:=decide_eq_false (by omega)
   have e1':((kind:Int) == 1)=false:=by simp; omega
   have H:Hid (openV f m D=⟨L,now,true,false,[],false,false⟩):=Lib.hid (HV.out.trans (if_neg (by simp [hk])));clear HV hk;go_wp2_with fail
   go_ret2
   obtain ⟨b1,J1⟩:=HJ1.out;have hL:0 < L.length:=by rw [HLK.out]; have:=HM.out.1; omega
   rw [H.out];obtain ⟨r1,r2⟩:=open_made (As:=none) (cs:=0) (vs:=[]) (odd:=false) b1 J1 (Mv.of_new D4.out _) HK4.out (RVq.nil _ _) hL;exact ⟨_,gj,gl,A1,c1,xs,none,0,rfl,r1,r2⟩
end Go.Proofs.YtijegngfclkdaaaGreatDoor
namespace Go.Proofs.YtijegngfclkdaaaGreatDoor.Ev
open Go Go.RowKit Tw
def appD (x:Dt) (kind:Nat) (bs:List UInt8):ApO:=appA x.f x.V.L x.V.now x.V.has kind bs
def cmdD (x:Dt) (o:ApO) (l:List Dc.Vl):Dt:={ x with f:=o.f,V:=endV (apV x.V o) l o.code }
def Cmd (x:Dt) (d:Nat):Prop:=x.V.off=false∧x.V.dead=false∧Rdy x.f x.V.L x.V.now x.V.has (x.m * 1024) x.m d
structure Good (R:Nat→Dt→Prop) (τ:List UInt8):Prop where
 poke1:∀ x,R 1 x→Small τ∧R 3 { x with D:=Dc.pokeS x.D 8192 0 τ }
 poke2:∀ x,R 2 x→Small τ∧R 3 { x with D:=Dc.pokeS x.D 8193 0 τ }
 st4:∀ x,DW x.D→R 4 x→Cmd x (Sn.sizeV (Sn.ofS x.D))∧∀ bs,bs.length=Sn.sizeV (Sn.ofS x.D)→(appD x 1 bs).code=0∧R 7 (cmdD x (appD x 1 bs) (Sn.ofS x.D))
 st5:∀ x,DW x.D→R 5 x→Cmd x (Sn.sizeV (Sn.ofS x.D))∧∀ bs,bs.length=Sn.sizeV (Sn.ofS x.D)→(appD x 1 bs).code≠0∧R 8 (cmdD x (appD x 1 bs) (Sn.ofS x.D))
 st6:∀ x,DW x.D→R 6 x→Cmd x (Sn.sizeV (Sn.ofS x.D))∧∀ bs,bs.length=Sn.sizeV (Sn.ofS x.D)→(appD x 1 bs).code≠0∧R 9 (cmdD x (appD x 1 bs) (Sn.ofS x.D))
 rs10:∀ x,R 10 x→Cmd x 0∧(appD x 2 []).code=0∧R 7 (cmdD x (appD x 2 []) [])
 rs11:∀ x,R 11 x→Cmd x 0∧(appD x 2 []).code≠0∧R 8 (cmdD x (appD x 2 []) [])
 rs12:∀ x,R 12 x→Cmd x 0∧(appD x 2 []).code≠0∧R 9 (cmdD x (appD x 2 []) [])
 off9:∀ x,R 9 x→x.V.off=true
 offn:∀ p x,(p=3∨p=7∨p=8∨p=19∨p=20)→R p x→x.V.off=false
 odd19:∀ x,R 19 x→x.V.odd=false
 odd20:∀ x,R 20 x→x.V.odd=true
 start13:∀ x,R 13 x→R 15 { x with f:={ x.f with off:=false } }
 start14:∀ x,R 14 x→R 16 { x with f:={ x.f with off:=false } }
 open15:∀ x,R 15 x→x.f.off=false∧R 17 { x with V:=openV x.f x.m x.D }
 open16:∀ x,R 16 x→x.f.off=false∧R 18 { x with V:=openV x.f x.m x.D }
 open22:∀ x,R 22 x→x.f.off=false∧R 17 { x with V:=openV x.f x.m x.D }
 load17:∀ x,R 17 x→R 19 { x with D:=loadD x.D x.V.s }
 load18:∀ x,R 18 x→R 20 { x with D:=loadD x.D x.V.s }
 new21:∀ x,R 21 x→R 22 { x with D:=⟨esW,esW.map (·.dflt)⟩ }
structure Adv (E:Env) (w:World) (col:Nat→Nat) (I:Nat→Prop) (E':Env) (w':World) (col':Nat→Nat) (z0:Option Obj):Prop where
 inB:∀ b,E'.B b↔col' b≠0
 ltB:∀ b,col' b≠0→b < w'.heap.size
 c0:col' 0=9
 z:w'.heap[0]?=z0
 g:ErrG w'
 fla:¬ I 1→∀ x gf A c A' c',PF E w col x gf A c A' c'→PF E' w' col' x gf A c A' c'
 dic:¬ I 2→∀ x k,PD E w col x k→PD E' w' col' x k
 vlt:¬ I 3→∀ x k gf,PV E w col x k gf→PV E' w' col' x k gf
 log:¬ I 4→∀ k,PL E w col k→PL E' w' col' k
section
variable {X:Cx Nat} {R:Nat→Dt→Prop} {τ:List UInt8} {z0:Option Obj}
theorem OkT.adv {t:Nat} {E E':Env} {w w':World} {x:Dt} {col:Nat→Nat} (K:OkT R τ z0 t E w x col) {G I:Nat→Prop} {i:Nat} (hi:i≠0) (h9:¬ I 9) (hx:Ext E E') (hB:∀ b,E'.B b↔recol col w.heap.size w'.heap.size i b≠0) (hm:Mv G w w') (hG:∀ b,b < w.heap.size→G b→I (col b)):Adv E w col I E' w' (recol col w.heap.size w'.heap.size i) z0:=by
 have h0:0 < w.heap.size:=K.ltB 0 (by rw [K.c0]; decide);have hd:∀ {k:Nat},¬ I k→∀ b,b < w.heap.size→col b=k→¬ G b:=fun hk b hb e hg=>hk (e ▸ hG b hb hg)
 have hc:∀ {k:Nat},k≠0→∀ b,col b=k→recol col w.heap.size w'.heap.size i b=k:=fun hk b e=>by rw [recol_old (K.ltB b (by rw [e]; exact hk)),e]
 refine ⟨hB,fun b hb=>?_,hc (by decide) 0 K.c0,(hm.block 0 h0 (hd h9 0 h0 K.c0)).trans K.z,K.g.mv hm (hd h9 0 h0 K.c0),fun hn x gf A c A' c' h=>h.mv hx hm (hd hn) (hc (by decide)),fun hn x k h=>h.mv hx hm (hd hn) (hc (by decide)),fun hn x k gf h=>h.mv hx hm (hd hn) (hc (by decide)),fun hn k h=>h.mv hx hm (hd hn) (hc (by decide))⟩;unfold recol at hb;split at hb
 ·rename_i e; exact e.2
 ·exact Nat.lt_of_lt_of_le (K.ltB b hb) hm.size
def Env.withB (E:Env) (B:Nat→Prop):Env:={ E with B:=B }
theorem Env.withB_ext (E:Env) (B:Nat→Prop):Ext E (E.withB B):=fun _ h=>⟨h,rfl,rfl,rfl,rfl⟩
theorem toP_ph {s:St Nat} {p:Nat} (hp:p < 64):tP (toP s p).g=p:=tg_P hp
theorem toP_V {s:St Nat} {p:Nat} (hp:p < 64):tV (toP s p).g=tV s.g:=tg_V hp (by unfold tV; omega)
theorem toP_L {s:St Nat} {p:Nat} (hp:p < 64):tL (toP s p).g=tL s.g:=tg_L hp (by unfold tV; omega) (by unfold tL; omega)
theorem toP_D {s:St Nat} {p:Nat} (hp:p < 64):tD (toP s p).g=tD s.g:=tg_D hp (by unfold tV; omega) (by unfold tL; omega)
theorem step_same {s:St Nat} {p:Nat} {E:Env} {w w':World} {x x':Dt} {col:Nat→Nat} {G I:Nat→Prop} {i:Nat} {v:AV} {y:Value} (hp:p < 64) (Rl:Rel X (Ot R τ z0) E s.S.get s.g w) (K:OkT R τ z0 s.g E w x col) (hi:i≠0) (h9:¬ I 9) (hm:Mv G w w') (hG:∀ b,b < w.heap.size→G b→col b≠0∧I (col b)) (hm':x'.m=x.m)
  (hv:∀ E',E'.D=E.D→E'.sy=E.sy→RV E' v y) (hR:R p x') (hp':p≠1∧p≠2∧p≠21)
  (hfv:Adv E w col I (E.withB fun b=>recol col w.heap.size w'.heap.size i b≠0) w' (recol col w.heap.size w'.heap.size i) z0→∃ gf A c A' c',PF (E.withB fun b=>recol col w.heap.size w'.heap.size i b≠0) w' (recol col w.heap.size w'.heap.size i) x' gf A c A' c'∧(tV s.g≠0→PV (E.withB fun b=>recol col w.heap.size w'.heap.size i b≠0) w' (recol col w.heap.size w'.heap.size i) x' (tV s.g) gf))
  (hd:Adv E w col I (E.withB fun b=>recol col w.heap.size w'.heap.size i b≠0) w' (recol col w.heap.size w'.heap.size i) z0→tD s.g≠0→PD (E.withB fun b=>recol col w.heap.size w'.heap.size i b≠0) w' (recol col w.heap.size w'.heap.size i) x' (tD s.g))
  (hl:¬ I 4):StepP X (Ot R τ z0) E s w (some v) (toP s p) y w':=by
 have ad:=K.adv (E':=E.withB fun b=>recol col w.heap.size w'.heap.size i b≠0) hi h9 (Env.withB_ext E _) (fun _=>Iff.rfl) hm fun b hb hg=>(hG b hb hg).2
 have ok:(Ot R τ z0).ok (toP s p).g (E.withB fun b=>recol col w.heap.size w'.heap.size i b≠0) w':=⟨x',recol col w.heap.size w'.heap.size i,{ inB:=ad.inB,ltB:=ad.ltB,c0:=ad.c0,z:=ad.z,g:=ad.g,ph:=by rw [toP_ph hp]; exact hR,m3:=by rw [hm']; exact K.m3,fv:=by rw [toP_V hp]; exact hfv ad,dic:=by rw [toP_D hp]; exact hd ad,log:=by rw [toP_L hp]; exact fun h=>ad.log hl _ (K.log h),txt:=by rw [toP_ph hp]; exact fun h=>absurd h (by omega),ent:=by rw [toP_ph hp]; exact fun h=>absurd h (by omega) }⟩;obtain ⟨r',m⟩:=step_out (c:=s.c) (c':=s.c) (E':=E.withB fun b=>recol col w.heap.size w'.heap.size i b≠0) Rl (Env.withB_ext E _) (hm.mono fun b hb hg=>(K.inB b).2 (hG b hb hg).1) (fun b hb=>by
  have hb':recol col w.heap.size w'.heap.size i b≠0:=hb;unfold recol at hb';split at hb'
  ·rename_i e; exact .inr e
  ·exact .inl ((K.inB b).2 hb')) (fun id h=>.inl h) ok
 exact ⟨_,fun av e=>by injection e with e; rw [← e]; exact hv _ rfl rfl,r',m⟩
theorem recol_or {col:Nat→Nat} {F:Nat→Prop} {a b i q:Nat} (h:F q∨(a≤q∧q < b)) (hF:F q→q < a∧col q=i):recol col a b i q=i:=by
 rcases h with h | h
 ·rw [recol_old (hF h).1]; exact (hF h).2
 ·exact recol_new h
theorem oPoke_ok (G:Good R τ):OrcOK X (Ot R τ z0) 49 oPoke:=by
 intro args s v s' h;unfold oPoke at h;split at h
 ·rename_i d x y b
  rw [gd_some] at h;obtain ⟨hb,h⟩:=h;injection h with h
  injection h with h1 h2
  subst h1 h2;simp only [Bool.and_eq_true,Bool.or_eq_true] at hb;obtain ⟨⟨⟨⟨hb1,hb2⟩,hb3⟩,hb4⟩,hb5⟩:=hb;have hy:=eqI_tru hb4;subst hy;refine ⟨Nat.le_refl _,fun E w vals Rl hf hargs=>?_⟩;obtain ⟨xx,col,K⟩:=Rl.out;obtain ⟨g,gd,lc,vc,la,vA,ys,vs,k1,k2,k3,k4⟩:=K.dic (hasN_ne hb1);have hph:(tP s.g=1∧x=8192)∨(tP s.g=2∧x=8193):=hb5.imp (fun h=>⟨Nat.eq_of_beq_eq_true h.1,eqI_tru h.2⟩) fun h=>⟨Nat.eq_of_beq_eq_true h.1,eqI_tru h.2⟩
  have hgood:Small τ∧R 3 { xx with D:=Dc.pokeS xx.D x 0 τ }:=by
   have:=K.ph;rcases hph with ⟨e,rfl⟩ | ⟨e,rfl⟩
   ·rw [e] at this; exact G.poke1 xx this
   ·rw [e] at this; exact G.poke2 xx this
  obtain ⟨AX,cX,x1,x2,x3⟩:=K.txt (hph.imp (fun h=>h.1) fun h=>h.1)
  match vals,hargs with
  | [dv,xv,yv,bv],⟨a1,a2,a3,a4,_⟩ =>
   obtain ⟨_,rfl⟩:=isOp_R hb2 a1;obtain rfl:xv=.int .i64 x:=a2.1;obtain rfl:yv=.int .i64 0:=a3.1;obtain ⟨_,rfl⟩:=isSy_R hb3 a4;rw [k2,x2];have hgd:gd < w.heap.size∧col gd=2:=by
    obtain ⟨q,hq,_,hlt⟩:=k3.own.head k4.pos;have:=k3.at_ q (by rw [hq]; rfl);rw [← this.1];exact ⟨hlt,by rw [this.1]; exact this.2⟩
   refine (dPoke_any x 0 k3 x3.rb (Nat.le_refl _) (by have:=hgood.1.1; omega)).mono ?_;rintro e w' ⟨rfl,m,vs',hd'⟩;have hz:Dc.mayS xx.D.l true x 0 τ=0:=by rw [k4.l]; exact may_text hgood.1 x (hph.imp (fun h=>h.2) fun h=>h.2)
   rw [hz];refine ⟨_,rfl,step_same (x':={ xx with D:=Dc.pokeS xx.D x 0 τ }) (I:=fun k=>k=2) (i:=2) (by decide) Rl K (by decide) (by decide) m (fun b _ e=>by have e2:b=gd:=e; rw [e2,hgd.2]; exact ⟨by decide,rfl⟩) rfl (fun _ _ _=>⟨rfl,rfl⟩) hgood.2 (by decide) (fun ad=>?_) (fun ad _=>?_) (by decide)⟩
   ·obtain ⟨gf,A,c,A',c',f1,f2⟩:=K.fv
    have f3:=ad.fla (by decide) _ _ _ _ _ _ f1;exact ⟨gf,A,c,A',c',⟨f3.nm,f3.sy,f3.mem,f3.at_⟩,fun hv=>ad.vlt (by decide) xx _ _ (f2 hv)⟩
   ·exact ⟨g,gd,lc,vc,la,vA,ys,vs',k1,k2,hd'.mono fun q hq hF=>recol_or (F:=fun q=>col q=2) hF fun h=>⟨K.ltB q (by rw [h]; decide),h⟩,k4.poke x 0 (by have:=hgood.1.1; omega)⟩
 ·cases h
end
end Go.Proofs.YtijegngfclkdaaaGreatDoor.Ev
