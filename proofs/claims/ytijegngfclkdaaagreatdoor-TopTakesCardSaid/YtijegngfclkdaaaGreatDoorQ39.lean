/-
  Piece 39 of the proof.
  Conditions: none.
-/
import Derived.Test.YtijegngfclkdaaaGreatDoorQ08
import Derived.Test.YtijegngfclkdaaaGreatDoorQ23
set_option linter.unusedVariables false
set_option linter.unusedSimpArgs false
set_option maxHeartbeats 100000000
set_option maxRecDepth 100000
namespace Go.Proofs.YtijegngfclkdaaaGreatDoor
namespace Ev
open Go
def aR:FuncId->List AV->St Nat->Option (AV×St Nat):=fun _ _ _=>none
def O0:Outside Nat:=⟨fun _ _ _=>True,fun _ _ _ _ _ _ _ _ _ _ _=>trivial⟩
theorem cL {l:List cW} {m:cW} (hl:∀ m∈l,bj (XP aR) O0 m) (hf:((XP aR).fn m.f).isSome=true) (h:cA (XP (aX aR l)) 1000000 m=true):bj (XP aR) O0 m :=
 (Jb (Qe _) (DP _) (ou (fun f args s v s' h _=>by cases h) fun m h=>(hl m h).swap (X':=XP (aX aR l)) rfl rfl) (fun e=>by
  have e':(XP aR).fn m.f=none:=e;rw [e'] at hf;cases hf) h).swap rfl rfl
open Go.RowKit
theorem P8 (n:Nat) (c:Ce):rp n c=List.replicate n c:=by
 induction n with
 | zero=>rfl
 | succ n ih=>show c :: rp n c=_; rw [ih]; rfl
theorem RO.Ry {E:Env} {id:Nat} {w:World} {base e size k n cc:Nat} {xs:List Value} {Yr:List Ce} (h:OV w base e size (some ⟨k,0,none⟩) n cc xs) (hι:E.ι id=k) (hs:E.sh id=0) (hκ:E.κ id=cc * size) (hc:aQ (RC E) Yr xs):RO E id w (.row Yr e):=by
 obtain ⟨h1,h2⟩:=h;rcases h2 with ⟨h2,_⟩ | ⟨g,cap,cur,hv,hb,hh,hn,_,hsz,htk⟩
 ·cases h2
 ·injection hv with e1 _ e3
  injection e1 with e1
  injection e1 with e1
  subst e1 e3;have hl:=hc.length;have hle:n * size<=cc * size:=Nat.mul_le_mul_right _ hn;refine ⟨cur,(0,0),by rw [hι]; exact hh,by rw [hκ,hsz],by rw [hs,hl,h1]; omega,.inl rfl,fun i c hi=>?_⟩;obtain ⟨v,g1,g2⟩:=hc.get hi;refine ⟨v,?_,g2⟩;rw [<- htk,List.getElem?_take] at g1;split at g1
  ·rw [hs,Nat.zero_add]; simpa using g1
  ·cases g1
theorem OV.Iv {w:World} {base e size n cc:Nat} {A:Option Addr} {xs:List Value} (h:OV w base e size A n cc xs) (hn:0 < n):∃ k,A=some ⟨k,0,none⟩/\base<=k/\k < w.heap.size/\n<=cc/\∃ cur,w.heap[k]?=some (.cells cur e (0,0)):=by
 rcases h.2 with ⟨h2,h3⟩ | ⟨g,cap,cur,hv,hb,hh,hn',_⟩
 ·omega
 ·injection hv with e1 _ e3
  exact ⟨g,e1,hb,(Array.getElem?_eq_some_iff.1 hh).1,by omega,cur,hh⟩
theorem Gc {E:Env} (n:Nat) {c:Ce} {v:Value} (h:RC E c v):aQ (RC E) (List.replicate n c) (List.replicate n v):=by
 induction n with
 | zero=>trivial
 | succ n ih=>exact ⟨h,ih⟩
def uG (c:Nat):cW where
 f:=5
 args:=[(.w (.one (.a (.v (.int .i64 3))))),(.w (.one (.a (.v (.int .i64 9)))))]
 c:=c
 pre:=[]
 v:=(.w (.one (.a (.ptr (c + 3) 0))))
 d:=c + 4
 post:=[(c + 1,.row (rp 3072 ((.a (.v (.int .u8 255))))) 5),
  (c + 2,.row ([i6 0,i6 0,i6 0]) 3),
  (c + 3,.row ([so (c + 1) 0 3072 1,sl (c + 2) 0 3 3 1,i6 9,bl false,i6 (-1),(.a (.v (.int .u32 0))),i6 0]) 93)]
theorem oY {X:Cx Nat} {O:Outside Nat} (hP:X.P=Tryz.prog) (c:Nat) (hc:X.ng<=c):bj X O (uG c):=by
 refine ⟨by simp [uG],fun E w vals R hf ha=>?_⟩;have hv:vals=[.int .i64 3,.int .i64 9]:=by
  match vals,ha with
  | [a,b],⟨h1,h2,_⟩=>rw [h1.1,h2.1]
 subst hv;rw [hP];refine (oM w 3 9 (by decide) (by decide) (by decide)).mono ?_;rintro e w' ⟨g,A1,c1,A2,rfl,b,F⟩;obtain ⟨k1,rfl,hk1,aaS,hn1,aaT,hb1⟩:=OV.Iv F.row (by decide);obtain ⟨k2,rfl,hk2,aaU,_,aaV,hb2⟩:=OV.Iv F.yu (by decide);have Xo:c1<=9223372036854775807:=F.row.rb.cap;have hg:=F.gb;have hg':=F.aP.lt;have h12:k1≠k2:=fun e=>by subst e; rw [hb1] at hb2; injection hb2 with hb2; injection hb2 with _ ht; exact absurd ht (by decide)
 have Ys:k1≠g:=fun e=>by subst e; have:=F.aP; unfold ao at this; rw [hb1] at this; injection this with this; injection this with _ ht; exact absurd ht (by decide)
 have Yt:k2≠g:=fun e=>by subst e; have:=F.aP; unfold ao at this; rw [hb2] at this; injection this with this; injection this with _ ht; exact absurd ht (by decide)
 have OC:∀ id,c<=id->id < c + 4->¬ E.D id:=hf;obtain ⟨E',hE'⟩:∃ E':Env,E'={ ι:=fun i=>if i=c + 1 then k1 else if i=c + 2 then k2 else if i=c + 3 then g else E.ι i,sh:=fun i=>if c<=i/\i < c + 4 then 0 else E.sh i,κ:=fun i=>if i=c + 1 then c1 * 1 else if i=c + 2 then 3 * 1 else if i=c + 3 then 7 else E.κ i,D:=fun i=>E.D i\/(c + 1<=i/\i < c + 4),sy:=E.sy,B:=E.B }:=⟨_,rfl⟩;have i1:E'.ι (c + 1)=k1:=by rw [hE']; simp
 have i2:E'.ι (c + 2)=k2:=by rw [hE']; simp
 have i3:E'.ι (c + 3)=g:=by rw [hE']; simp
 have s1:∀ i,c + 1<=i->i < c + 4->E'.sh i=0:=fun i h1 h2=>by rw [hE']; simp; omega
 have d1:∀ i,c + 1<=i->i < c + 4->E'.D i:=fun i h1 h2=>by rw [hE']; exact .inr ⟨h1,h2⟩
 have q1:E'.κ (c + 1)=c1 * 1:=by rw [hE']; simp
 have q2:E'.κ (c + 2)=3 * 1:=by rw [hE']; simp
 have q3:E'.κ (c + 3)=7:=by rw [hE']; simp
 have old:∀ i,¬ (c + 1<=i/\i < c + 4)->¬ (c<=i/\i < c + 4)->E'.ι i=E.ι i/\E'.sh i=E.sh i/\E'.κ i=E.κ i:=fun i h1 h2=>by
  rw [hE'];refine ⟨?_,?_,?_⟩
  ·show (if i=c + 1 then k1 else if i=c + 2 then k2 else if i=c + 3 then g else E.ι i)=_
   rw [if_neg (by omega),if_neg (by omega),if_neg (by omega)]
  ·show (if c<=i/\i < c + 4 then 0 else E.sh i)=_
   rw [if_neg h2]
  ·show (if i=c + 1 then c1 * 1 else if i=c + 2 then 3 * 1 else if i=c + 3 then 7 else E.κ i)=_
   rw [if_neg (by omega),if_neg (by omega),if_neg (by omega)]
 have hB:E'.B=E.B:=by rw [hE']
 have hsy:E'.sy=E.sy:=by rw [hE']
 have ext:Ext E E':=fun id hd=>by
  have h1:¬ (c<=id/\id < c + 4):=fun h=>OC id h.1 h.2 hd
  obtain ⟨a1,a2,a3⟩:=old id (by omega) h1;exact ⟨by rw [hE']; exact .inl hd,a1,a2,a3,by rw [hsy]⟩
 have hD:∀ id,E'.D id->E.D id\/(c + 1<=id/\id < c + 4):=fun id h=>by rw [hE'] at h; exact h
 clear hE';have R1:RO E' (c + 1) w' (.row (rp 3072 ((.a (.v (.int .u8 255))))) 5):=by
  refine RO.Ry (show OV w' w.heap.size 5 1 (some ⟨k1,0,none⟩) 3072 c1 ((List.replicate 3072 (255:UInt8)).map bv) from F.row) i1 (s1 _ (by omega) (by omega)) q1 ?_;rw [P8,List.map_replicate];exact Gc _ ⟨rfl,rfl⟩
 have R2:RO E' (c + 2) w' (.row ([i6 0,i6 0,i6 0]) 3) :=
  RO.Ry F.yu i2 (s1 _ (by omega) (by omega)) q2 ⟨⟨rfl,rfl⟩,⟨rfl,rfl⟩,⟨rfl,rfl⟩,trivial⟩
 have R3:RO E' (c + 3) w' (.row ([so (c + 1) 0 3072 1,sl (c + 2) 0 3 3 1,i6 9,bl false,i6 (-1),(.a (.v (.int .u32 0))),i6 0]) 93):=by
  refine ⟨_,(0,0),by rw [i3]; exact F.aP,by rw [q3]; rfl,by rw [s1 _ (by omega) (by omega)]; exact Nat.le_refl 7,.inl rfl,fun i x hx=>?_⟩;rw [s1 _ (by omega) (by omega),Nat.zero_add];have:aQ (RC E') [so (c + 1) 0 3072 1,sl (c + 2) 0 3 3 1,i6 9,bl false,i6 (-1),(.a (.v (.int .u32 0))),i6 0] [.slice (some ⟨k1,0,none⟩) 3072 c1,.slice (some ⟨k2,0,none⟩) 3 3,.int .i64 9,.bool false,.int .i64 (-1),.int .u32 0,.int .i64 0]:=by
   refine ⟨⟨d1 _ (by omega) (by omega),_,_,rfl,hn1,.inr ⟨by rw [i1,s1 _ (by omega) (by omega)],by rw [q1,s1 _ (by omega) (by omega)]; omega⟩,(fun k hk=>by cases hk),fun _=>Xo⟩,⟨d1 _ (by omega) (by omega),_,_,rfl,Nat.le_refl _,.inr ⟨by rw [i2,s1 _ (by omega) (by omega)],by rw [q2,s1 _ (by omega) (by omega)]; decide⟩,(fun k hk=>by injection hk with hk),fun h=>by cases h⟩,⟨rfl,rfl⟩,⟨rfl,rfl⟩,⟨rfl,rfl⟩,⟨rfl,rfl⟩,⟨rfl,rfl⟩,trivial⟩
  obtain ⟨y,y1,y2⟩:=this.get hx;exact ⟨y,by simpa using y1,y2⟩
 have post:∀ id o,mJ (uG c).post id=some o->(id=c + 1\/id=c + 2\/id=c + 3)/\RO E' id w' o:=fun id o h=>by
  have:=Ke h;simp only [uG,List.mem_cons,List.not_mem_nil,or_false,Prod.mk.injEq] at this;rcases this with ⟨rfl,rfl⟩ | ⟨rfl,rfl⟩ | ⟨rfl,rfl⟩
  ·exact ⟨.inl rfl,R1⟩
  ·exact ⟨.inr (.inl rfl),R2⟩
  ·exact ⟨.inr (.inr rfl),R3⟩
 have nQ:∀ id,mJ (uG c).post id≠none->(id=c + 1\/id=c + 2\/id=c + 3):=fun id h=>by
  cases e:mJ (uG c).post id with
  | none=>exact absurd e h
  | some o=>exact (post id o e).1
 have big:∀ id,mJ (uG c).post id≠none->w.heap.size<=E'.ι id:=fun id h=>by
  rcases nQ id h with rfl | rfl | rfl
  ·rw [i1]; exact hk1
  ·rw [i2]; exact hk2
  ·rw [i3]; exact hg
 refine ⟨_,E',rfl,⟨d1 _ (by omega) (by omega),by rw [i3,s1 _ (by omega) (by omega)]⟩,⟨fun id o h=>?_,fun i j hi hj e=>?_,fun i hi hb=>?_,fun b hb=>?_,fun b' hb=>?_,?_⟩,⟨ext,fun id h=>?_,b.size,fun b' hb' _ _=>b.block _ hb',fun id h=>.inr (big id h),fun b' h=>.inl (hB ▸ h),fun id h=>.inr ?_,⟨b.os,b.tape,b.output⟩⟩⟩
 ·obtain ⟨p1,p2⟩:=post id o h
  exact ⟨d1 _ (by omega) (by omega),p2⟩
 ·rcases nQ i hi with rfl | rfl | rfl <;> rcases nQ j hj with rfl | rfl | rfl <;> first | rfl | (simp only [i1,i2,i3] at e; first | exact absurd e h12 | exact absurd e.symm h12 | exact absurd e Ys | exact absurd e.symm Ys | exact absurd e Yt | exact absurd e.symm Yt)
 ·rw [hB] at hb
  have:=R.lt _ hb;have:=big i hi;omega
 ·obtain ⟨a1,a2,a3⟩:=R.kJ b hb
  have e:=ext b a1;exact ⟨e.1,by rw [e.2.1,a2],by rw [e.2.2.1,a3]⟩
 ·rw [hB] at hb
  have:=R.lt _ hb;have:=b.size;omega
 ·exact O.dX _ _ _ _ _ R.out ext (fun _=>by rw [hB]) (fun b' hb=>b.block _ (R.lt _ hb)) b.size ⟨b.os,b.tape,b.output⟩
 ·rcases hD id h with h | h
  ·exact .inl h
  ·exact .inr ⟨by show c<=id; omega,by show id < c + 4; omega⟩
 ·have:=nQ id h
  exact ⟨by show c<=id; omega,by show id < c + 4; omega⟩
end Ev
end Go.Proofs.YtijegngfclkdaaaGreatDoor
