/-
  Piece 6 of the proof.
  Conditions: none.
-/
import Derived.Test.YtijegngfclkdaaaGreatDoorQ05
set_option linter.unusedVariables false
set_option linter.unusedSimpArgs false
set_option maxHeartbeats 100000000
set_option maxRecDepth 100000
namespace Go.Proofs.YtijegngfclkdaaaGreatDoor
namespace Ev
open Go
variable {σ:Type}
theorem iB.Hq {E E':Env} {h h':Nat->Option Ob} {c c' d d':Nat} {w w':World} (m:iB E h c w E' h' c' w') (h1:d<=c) (h2:c'<=d'):iB E h d w E' h' d' w' :=
 ⟨m.ext,fun id hi=>by rcases m.fresh id hi with h | ⟨a,b⟩; exact .inl h; exact .inr ⟨by omega,by omega⟩,m.size,m.frame,m.img,m.m_,fun id hi=>by rcases m.dom id hi with h | ⟨a,b⟩; exact .inl h; exact .inr ⟨by omega,by omega⟩,m.kp⟩
theorem iB.comp {E E' Mj:Env} {h h' h'':Nat->Option Ob} {c d:Nat} {w w' w'':World} (m:iB E h c w E' h' d w') (n:iB E' h' c w' Mj h'' d w''):iB E h c w Mj h'' d w'':=by
 refine ⟨m.ext.trans n.ext,fun id hi=>?_,Nat.le_trans m.size n.size,fun b hb hB hI=>?_,fun id hi=>?_,fun b hb=>?_,fun id hi=>?_,m.kp.trans n.kp⟩
 ·rcases n.fresh id hi with h | h
  ·exact m.fresh id h
  ·exact .inr h
 ·rw [n.frame b (Nat.lt_of_lt_of_le hb m.size) (fun h=>by rcases m.m_ b h with h | h; exact hB h; omega) (fun id hi e=>by
   rcases m.img id hi with ⟨j,hj,e'⟩ | h
   ·exact hI j hj (by rw [<- e',e])
   ·omega)]
  exact m.frame b hb hB hI
 ·rcases n.img id hi with ⟨j,hj,e⟩ | h
  ·rcases m.img j hj with ⟨k,hk,e'⟩ | h
   ·exact .inl ⟨k,hk,by rw [e,e']⟩
   ·exact .inr (by omega)
  ·exact .inr (Nat.le_trans m.size h)
 ·rcases n.m_ b hb with h | h
  ·exact m.m_ b h
  ·exact .inr (Nat.le_trans m.size h)
 ·rcases n.dom id hi with h | h
  ·exact m.dom id h
  ·exact .inr h
def rest (h S S':Nat->Option Ob):Nat->Option Ob:=fun id=>match S' id with
 | some o=>some o
 | none=>match S id with
  | none=>h id
  | some _=>none
theorem Rel.Is {X:Cx σ} {O:Outside σ} {E E':Env} {h S S':Nat->Option Ob} {g g':σ} {c c':Nat} {w w':World} (R:Rel X O E h g w) (hs:∀ id o,S id=some o->h id=some o) (R':Rel X O E' S' g' w') (m:iB E S c w E' S' c' w') :
  Rel X O E' (rest h S S') g' w'/\iB E h c w E' (rest h S S') c' w':=by
 have ne:∀ i,S i≠none->h i≠none:=fun i hi=>by
  cases e:S i with
  | none=>exact absurd e hi
  | some o=>rw [hs i o e]; simp
 have cases':∀ i,rest h S S' i≠none->S' i≠none\/(S' i=none/\S i=none/\h i≠none/\rest h S S' i=h i):=fun i hi=>by
  cases e:S' i with
  | some o=>exact .inl (by simp)
  | none=>cases e2:S i with
   | none =>
        right; have:rest h S S' i=h i:=by simp [rest,e,e2]
        exact ⟨rfl,rfl,by rw [<- this]; exact hi,this⟩
   | some o=>exact absurd (by simp [rest,e,e2]) hi
 have ext:∀ i,S i=none->h i≠none->E.D i/\E'.ι i=E.ι i/\E.ι i < w.heap.size/\w'.heap[E.ι i]?=w.heap[E.ι i]?:=fun i h1 h2=>by
  cases e:h i with
  | none=>exact absurd e h2
  | some o =>
   obtain ⟨a,_⟩:=R.ob i o e;refine ⟨a,(m.ext i a).2.1,R.ji e,m.frame _ (R.ji e) (R.apart i h2) fun j hj e'=>?_⟩;have:=R.inj j i (ne j hj) h2 e';subst this;exact hj h1
 refine ⟨⟨fun id o ho=>?_,fun i j hi hj e=>?_,fun i hi=>?_,R'.kJ,R'.lt,R'.out⟩,⟨m.ext,m.fresh,m.size,fun b hb hB hI=>m.frame b hb hB fun id hi=>hI id (ne id hi),fun id hi=>?_,m.m_,fun id hi=>?_,m.kp⟩⟩
 ·rcases cases' id (by rw [ho]; simp) with h1 | ⟨h1,h2,h3,h4⟩
  ·cases e:S' id with
   | none=>exact absurd e h1
   | some o' =>
    have:rest h S S' id=some o':=by simp [rest,e]
    rw [this] at ho;injection ho with ho
    subst ho;exact R'.ob id _ e
  ·rw [h4] at ho
   obtain ⟨a,b⟩:=R.ob id o ho;exact ⟨(m.ext id a).1,b.ext m.ext a (ext id h2 h3).2.2.2⟩
 ·have mix:∀ i j,S' i≠none->S' j=none->S j=none->h j≠none->E'.ι i=E'.ι j->False:=fun i j h1 _ h3 h4 e=>by
   obtain ⟨a,b,c,_⟩:=ext j h3 h4;rcases m.img i h1 with ⟨k,hk,e'⟩ | h
   ·have:=R.inj k j (ne k hk) h4 (by rw [<- e',e,b])
    subst this;exact hk h3
   ·rw [e,b] at h; omega
  rcases cases' i hi with h1 | ⟨h1,h2,h3,h4⟩ <;> rcases cases' j hj with k1 | ⟨k1,k2,k3,k4⟩
  ·exact R'.inj i j h1 k1 e
  ·exact (mix i j h1 k1 k2 k3 e).elim
  ·exact (mix j i k1 h1 h2 h3 e.symm).elim
  ·exact R.inj i j h3 k3 (by rw [<- (ext i h2 h3).2.1,<- (ext j k2 k3).2.1,e])
 ·rcases cases' i hi with h1 | ⟨h1,h2,h3,h4⟩
  ·exact R'.apart i h1
  ·obtain ⟨a,b,c,_⟩:=ext i h2 h3
   intro hB;rcases m.m_ _ hB with h | h
   ·rw [b] at h; exact R.apart i h3 h
   ·rw [b] at h; omega
 ·rcases cases' id hi with h1 | ⟨h1,h2,h3,h4⟩
  ·rcases m.img id h1 with ⟨j,hj,e⟩ | h
   ·exact .inl ⟨j,ne j hj,e⟩
   ·exact .inr h
  ·exact .inl ⟨id,h3,(ext id h2 h3).2.1⟩
 ·rcases cases' id hi with h1 | ⟨h1,h2,h3,h4⟩
  ·rcases m.dom id h1 with h | h
   ·exact .inl (ne id h)
   ·exact .inr h
  ·exact .inl h3
structure Inv (X:Cx σ) (O:Outside σ) (l:List Oper) (π:List Nat) (tr:Nat->GF σ) (E0:Env) (w0:World) (listed:Array Bool) (a:Act) (w:World) (q:Nat) (h:Nat->Option Ob) (E:Env):Prop where
 size:listed.size=l.length
 closed:wN l fun i=>listed.getD i false=true
 zN:a.defers=[]
 nt:a.tmps.size=(tr 0).F.nt
 qn:q<=π.length
 hq:q=0\/∃ q',q=q' + 1/\xO X l π tr q'
 h1:∀ (p i:Nat),p < q->π[p]?=some i->listed.getD i false=true
 h2:∀ (p i:Nat),q<=p->π[p]?=some i->listed.getD i false=true->¬ xO X l π tr p
 h3:∀ id o,(tr q).s.S.get id=some o->h id=some o
 h4:∀ (r i:Nat) id o,q<=r->π[r]?=some i->listed.getD i false=true->yU X l π tr r id o->h id=some o
 h5:∀ id,h id≠none->(tr q).s.S.get id≠none\/∃ (r i:Nat) (o:Ob),q<=r/\π[r]?=some i/\listed.getD i false=true/\yU X l π tr r id o
 h6:∀ id,E.D id->E0.D id\/∃ (r i:Nat),π[r]?=some i/\listed.getD i false=true/\(tr r).s.c<=id/\id < (tr (r + 1)).s.c
 h7:∀ id,(tr q).s.S.get id≠none->¬ ((tr q).s.c<=id/\id < (tr π.length).s.c)
 rel:Rel X O E h (tr q).s.g w
 TV:iB E0 (tr 0).s.S.get (tr 0).s.c w0 E h (tr π.length).s.c w
 tA:∀ (p i:Nat) o t av,π[p]?=some i->l[i]?=some o->o.dst=some t->listed.getD i false=true->(tr (p + 1)).F.t.get t=some av->∃ y,a.tmps[t]?=some y/\RV E av y
 tB:∀ t av,(∀ (p i:Nat) o,π[p]?=some i->l[i]?=some o->listed.getD i false=true->o.dst≠some t)->(tr 0).F.t.get t=some av->∃ y,a.tmps[t]?=some y/\RV E av y
section
variable {X:Cx σ} {O:Outside σ} {call:FuncId->List AV->St σ->Option (AV×St σ)} {l:List Oper} {π:List Nat} {tr:Nat->GF σ} {E0:Env} {w0:World} {a0:Act} {listed:Array Bool} {a:Act} {w:World} {q:Nat} {h:Nat->Option Ob} {E:Env}
theorem aO {i j:Nat}:(listed.setIfInBounds i true).getD j false=true↔listed.getD j false=true\/(j=i/\i < listed.size):=by
 by_cases e:j=i
 ·subst e
  by_cases hl:j < listed.size
  ·simp [hl]
  ·simp [hl]
 ·rw [getD_set_ne false (Ne.symm e)]
  simp [e]
theorem Inv.look (C:DC X O call l π tr E0 w0 a0) (I:Inv X O l π tr E0 w0 listed a w q h E) {p i:Nat} {o:Oper} (hp:π[p]?=some i) (ho:l[i]?=some o) (hn:¬ listed.getD i false=true) (he:∀ k∈dS o,listed.getD k false=true) :
  ∀ t∈fu l o,∀ av,(tr p).F.t.get t=some av->∃ y,a.tmps[t]?=some y/\RV E av y:=by
 intro t ht av Zo;have mk:=ju I.closed i o ho he;obtain ⟨_,h1⟩:=C.get (Nat.le_of_lt (g_ hp)) Zo;rcases h1 with ⟨r,j,o',hr,g1,g2,g3,g4⟩ | ⟨g1,g2⟩
 ·refine I.tA r j o' t av g1 g2 g3 ?_ g4
  have hji:j≠i:=fun e=>by subst e; have:=C.plan.inj r p j g1 hp; omega
  rcases (C.plan.tmp j i o' o t g2 ho g3 hji).2 ht with h | h
  ·exact mk j h
  ·obtain ⟨s,hs,h'⟩:=C.plan.mask g1 g2 h
   have:=C.plan.inj s p i h' hp;omega
 ·refine I.tB t av (fun r j o' k1 k2 k3 k4=>?_) g2
  have hji:j≠i:=fun e=>by subst e; exact hn k3
  have yn:¬ r < p:=fun hr=>g1 r j o' hr k1 k2 k4
  rcases (C.plan.tmp j i o' o t k2 ho k4 hji).2 ht with h | h
  ·obtain ⟨s,hs,h'⟩:=C.plan.mask hp ho h
   have:=C.plan.inj s r j h' k1;omega
  ·exact hn (ju I.closed j o' k2 (I.closed j o' k2 k3) i h)
theorem Inv.new (C:DC X O call l π tr E0 w0 a0) (I:Inv X O l π tr E0 w0 listed a w q h E) {p i:Nat} (hp:π[p]?=some i) (hn:¬ listed.getD i false=true):∀ id,(tr p).s.c<=id->id < (tr (p + 1)).s.c->¬ E.D id:=by
 intro id h1 h2 hD;have hpl:=g_ hp;rcases I.h6 id hD with h | ⟨r,j,g1,g2,g3,g4⟩
 ·have a1:=C.le (Nat.zero_le p) (Nat.le_of_lt hpl)
  have a2:=C.le (show p + 1<=π.length by omega) lq;exact C.fresh id (by omega) (by omega) h
 ·rcases Nat.lt_trichotomy r p with h | h | h
  ·have:=C.le (show r + 1<=p by omega) (by omega); omega
  ·subst h
   rw [hp] at g1;injection g1 with g1
   subst g1;exact hn g2
  ·have:=C.le (show p + 1<=r by omega) (Nat.le_of_lt (g_ g1)); omega
theorem Inv.FV (C:DC X O call l π tr E0 w0 a0) (I:Inv X O l π tr E0 w0 listed a w q h E) {p i:Nat} {o:Oper} (hp:π[p]?=some i) (ho:l[i]?=some o) (hn:¬ listed.getD i false=true) {E':Env} (ext:Ext E E') {v:Option AV} {y:Value} (hF:(tr (p + 1)).F=cI (tr p).F o.dst v)
  (hv:∀ av,v=some av->RV E' av y) :
  (∀ (p i:Nat) o' t av,π[p]?=some i->l[i]?=some o'->o'.dst=some t->(listed.setIfInBounds i true).getD i false=true->listed.getD i false=true\/True->(tr (p + 1)).F.t.get t=some av->True) /\
  (∀ (r j:Nat) o' t av,π[r]?=some j->l[j]?=some o'->o'.dst=some t->(listed.setIfInBounds i true).getD j false=true->(tr (r + 1)).F.t.get t=some av->∃ y',(a.put o.dst y).tmps[t]?=some y'/\RV E' av y') /\
  (∀ t av,(∀ (r j:Nat) o',π[r]?=some j->l[j]?=some o'->(listed.setIfInBounds i true).getD j false=true->o'.dst≠some t)->(tr 0).F.t.get t=some av->∃ y',(a.put o.dst y).tmps[t]?=some y'/\RV E' av y'):=by
 have IB:∀ t,o.dst≠some t->(a.put o.dst y).tmps[t]?=a.tmps[t]?:=fun t ht=>by
  cases hd:o.dst with
  | none=>rfl
  | some d =>
   simp only [Act.put];rw [Array.getElem?_setIfInBounds_ne (fun e=>ht (by rw [hd,e]))]
 have hil:i < listed.size:=by rw [I.size]; exact C.plan.lt p i hp
 refine ⟨fun _ _ _ _ _ _ _ _ _ _ _=>trivial,fun r j o' t av g1 g2 g3 g4 g5=>?_,fun t av g1 g2=>?_⟩
 ·rcases aO.1 g4 with g4 | ⟨g4,_⟩
  ·have hji:i≠j:=fun e=>by subst e; exact hn g4
   have hne:o.dst≠some t:=(C.plan.tmp j i o' o t g2 ho g3 (Ne.symm hji)).1;obtain ⟨y',k1,k2⟩:=I.tA r j o' t av g1 g2 g3 g4 g5;exact ⟨y',by rw [IB t hne]; exact k1,k2.ext ext⟩
  ·subst g4
   have yn:=C.plan.inj r p j g1 hp;subst yn;rw [ho] at g2;injection g2 with g2
   subst g2;have ht:=(C.get (show r + 1<=π.length by have:=g_ hp; omega) g5).1;have hnt:=C.nt (show r<=π.length from Nat.le_of_lt (g_ hp));rw [hF,g3,AY (by rw [hnt]; exact ht)] at g5;refine ⟨y,?_,hv av g5⟩;rw [g3];simp only [Act.put];rw [Array.getElem?_setIfInBounds_self_of_lt (by rw [I.nt]; exact ht)]
 ·have hne:o.dst≠some t:=g1 p i o hp ho (aO.2 (.inr ⟨rfl,hil⟩))
  obtain ⟨y',k1,k2⟩:=I.tB t av (fun r j o' k1 k2 k3=>g1 r j o' k1 k2 (aO.2 (.inl k3))) g2;exact ⟨y',by rw [IB t hne]; exact k1,k2.ext ext⟩
theorem wm {d:Option Tmp} {y:Value}:(a.put d y).tmps.size=a.tmps.size:=by cases d <;> simp [Act.put]
theorem rZ {d:Option Tmp} {y:Value}:(a.put d y).defers=a.defers:=by cases d <;> rfl
theorem Inv.close (I:Inv X O l π tr E0 w0 listed a w q h E) {i:Nat} {o:Oper} (ho:l[i]?=some o) (he:∀ k∈dS o,listed.getD k false=true):wN l fun j=>(listed.setIfInBounds i true).getD j false=true:=by
 intro j o' hj hL k hk;rcases aO.1 hL with h | ⟨rfl,_⟩
 ·exact aO.2 (.inl (I.closed j o' hj h k hk))
 ·rw [ho] at hj
  injection hj with hj
  subst hj;exact aO.2 (.inl (he k hk))
theorem zg {s:St σ} {o:Ob}:¬ s=bp s (some o):=fun h=>by
 have:=congrArg St.c h;simp [bp] at this
theorem Inv.quiet (C:DC X O call l π tr E0 w0 a0) (I:Inv X O l π tr E0 w0 listed a w q h E) {p i:Nat} {o:Oper} (hp:π[p]?=some i) (ho:l[i]?=some o) (hn:¬ listed.getD i false=true) (he:∀ k∈dS o,listed.getD k false=true) {v:Option AV} {y:Value} (hF:(tr (p + 1)).F=cI (tr p).F o.dst v)
  (hv:∀ av,v=some av->RV E av y) (hs:(tr (p + 1)).s=(tr p).s) (hE:¬ xO X l π tr p):Inv X O l π tr E0 w0 (listed.setIfInBounds i true) (a.put o.dst y) w q h E:=by
 obtain ⟨_,tA,tB⟩:=I.FV C hp ho hn (Ext.refl E) hF hv;have old:∀ {j:Nat} (r:Nat),π[r]?=some j->(listed.setIfInBounds i true).getD j false=true->listed.getD j false=true\/r=p:=fun r hr hL=>by
  rcases aO.1 hL with h | ⟨rfl,_⟩
  ·exact .inl h
  ·exact .inr (C.plan.inj r p _ hr hp)
 refine ⟨by simpa using I.size,I.close ho he,by rw [rZ]; exact I.zN,by rw [wm]; exact I.nt,I.qn,I.hq,fun r j hr hj=>aO.2 (.inl (I.h1 r j hr hj)),fun r j hr hj hL=>?_,I.h3,fun r j id x hr hj hL hA=>?_,fun id hi=>?_,fun id hi=>?_,I.h7,I.rel,I.TV,tA,tB⟩
 ·rcases old r hj hL with h | rfl
  ·exact I.h2 r j hr hj h
  ·exact hE
 ·rcases old r hj hL with h | rfl
  ·exact I.h4 r j id x hr hj h hA
  ·have:=hA.2.1
   rw [hs] at this;exact (zg this).elim
 ·rcases I.h5 id hi with h | ⟨r,j,x,a1,a2,a3,a4⟩
  ·exact .inl h
  ·exact .inr ⟨r,j,x,a1,a2,aO.2 (.inl a3),a4⟩
 ·rcases I.h6 id hi with h | ⟨r,j,a1,a2,a3⟩
  ·exact .inl h
  ·exact .inr ⟨r,j,a1,aO.2 (.inl a2),a3⟩
end
end Ev
namespace Ev
open Go
variable {σ:Type}
section
variable {X:Cx σ} {O:Outside σ} {call:FuncId->List AV->St σ->Option (AV×St σ)} {l:List Oper} {π:List Nat} {tr:Nat->GF σ} {E0:Env} {w0:World} {a0:Act} {listed:Array Bool} {a:Act} {w:World} {q:Nat} {h:Nat->Option Ob} {E:Env}
theorem Inv.ge (I:Inv X O l π tr E0 w0 listed a w q h E) {p i:Nat} (hp:π[p]?=some i) (hn:¬ listed.getD i false=true):q<=p:=by
 rcases Nat.lt_or_ge p q with h | h
 ·exact absurd (I.h1 p i h hp) hn
 ·exact h
theorem EP {s:St σ} {o o':Ob} (h:bp s (some o)=bp s (some o')):o=o':=by
 have:=congrArg (fun x:St σ=>x.S.get s.c) h;simp [bp,Tr.dI] at this;exact this
theorem Inv.made (C:DC X O call l π tr E0 w0 a0) (I:Inv X O l π tr E0 w0 listed a w q h E) {p i:Nat} {o:Oper} (hp:π[p]?=some i) (ho:l[i]?=some o) (hn:¬ listed.getD i false=true) (he:∀ k∈dS o,listed.getD k false=true) {v:AV} {ob:Option Ob} {y:Value} {w':World} (hF:(tr (p + 1)).F=cI (tr p).F o.dst (some v))
  (hm:jk X O E h (tr q).s.g (tr p).s.c w v ob y w') (hs:(tr (p + 1)).s=bp (tr p).s ob) (hE:¬ xO X l π tr p):∃ h' E',Inv X O l π tr E0 w0 (listed.setIfInBounds i true) (a.put o.dst y) w' q h' E':=by
 obtain ⟨E',m1,m2,m3,_⟩:=hm;have IA:=I.ge hp hn;have hpl:=g_ hp;have c1:=C.le IA (Nat.le_of_lt hpl);have c2:=C.le (show p + 1<=π.length by omega) lq;have c3:=C.le (Nat.zero_le p) (Nat.le_of_lt hpl);obtain ⟨_,tA,tB⟩:=I.FV C hp ho hn m3.ext hF (fun av e=>by injection e with e; rw [<- e]; exact m1);have hcnt:Hl (tr p).s.c ob=(tr (p + 1)).s.c:=by rw [hs]; cases ob <;> simp [Hl,bp]
 have old:∀ {j:Nat} (r:Nat),π[r]?=some j->(listed.setIfInBounds i true).getD j false=true->listed.getD j false=true\/r=p:=fun r hr hL=>by
  rcases aO.1 hL with h | ⟨rfl,_⟩
  ·exact .inl h
  ·exact .inr (C.plan.inj r p _ hr hp)
 have hnew:∀ id,id≠(tr p).s.c->CS h (tr p).s.c ob id=h id:=fun id hid=>by
  cases ob with
  | none=>rfl
  | some o=>simp [CS,cP,hid]
 refine ⟨_,E',⟨by simpa using I.size,I.close ho he,by rw [rZ]; exact I.zN,by rw [wm]; exact I.nt,I.qn,I.hq,fun r j hr hj=>aO.2 (.inl (I.h1 r j hr hj)),fun r j hr hj hL=>?_,fun id x hx=>?_,fun r j id x hr hj hL hA=>?_,fun id hi=>?_,fun id hi=>?_,I.h7,m2,I.TV.comp (m3.Hq c3 (by omega)),tA,tB⟩⟩
 ·rcases old r hj hL with h | rfl
  ·exact I.h2 r j hr hj h
  ·exact hE
 ·cases ob with
  | none=>exact I.h3 id x hx
  | some ob =>
   rw [hnew id (fun e=>by
    subst e;have h1:Hl (tr p).s.c (some ob)=(tr p).s.c + 1:=rfl;exact I.h7 _ (by rw [hx]; simp) ⟨c1,by omega⟩)]
   exact I.h3 id x hx
 ·rcases old r hj hL with h | rfl
  ·cases ob with
   | none=>exact I.h4 r j id x hr hj h hA
   | some ob =>
    have hne:id≠(tr p).s.c:=fun e=>by
     obtain ⟨e1,e2,_⟩:=hA;have e3:(tr (r + 1)).s.c=(tr r).s.c + 1:=by rw [e2]; rfl
     have e4:(tr (p + 1)).s.c=(tr p).s.c + 1:=by rw [hs]; rfl
     have yn:r≠p:=fun e=>by
      subst e;rw [hp] at hj;injection hj with hj
      subst hj;exact hn h
     rcases Nat.lt_or_ge r p with k | k
     ·have:=C.le (show r + 1<=p by omega) (Nat.le_of_lt hpl); omega
     ·have:=C.le (show p + 1<=r by omega) (Nat.le_of_lt (g_ hj)); omega
    rw [hnew id hne];exact I.h4 r j id x hr hj h hA
  ·obtain ⟨e1,e2,_⟩:=hA
   rw [hs] at e2;cases ob with
   | none=>exact (zg e2).elim
   | some ob =>
    have:=EP e2;subst this;subst e1;simp [CS,cP]
 ·by_cases hid:id=(tr p).s.c
  ·cases ob with
   | none =>
    rcases I.h5 id hi with h | ⟨r,j,x,a1,a2,a3,a4⟩
    ·exact .inl h
    ·exact .inr ⟨r,j,x,a1,a2,aO.2 (.inl a3),a4⟩
   | some ob=>exact .inr ⟨p,i,ob,IA,hp,aO.2 (.inr ⟨rfl,by rw [I.size]; exact C.plan.lt p i hp⟩),hid,hs,hE⟩
  ·rw [hnew id hid] at hi
   rcases I.h5 id hi with h | ⟨r,j,x,a1,a2,a3,a4⟩
   ·exact .inl h
   ·exact .inr ⟨r,j,x,a1,a2,aO.2 (.inl a3),a4⟩
 ·rcases m3.fresh id hi with h | ⟨b1,b2⟩
  ·rcases I.h6 id h with h | ⟨r,j,a1,a2,a3⟩
   ·exact .inl h
   ·exact .inr ⟨r,j,a1,aO.2 (.inl a2),a3⟩
  ·exact .inr ⟨p,i,hp,aO.2 (.inr ⟨rfl,by rw [I.size]; exact C.plan.lt p i hp⟩),b1,by omega⟩
theorem Inv.ahead (C:DC X O call l π tr E0 w0 a0) (I:Inv X O l π tr E0 w0 listed a w q h E) {p i:Nat} {o:Oper} (hp:π[p]?=some i) (ho:l[i]?=some o) (he:∀ k∈dS o,listed.getD k false=true) (hk:Di X o=true):∀ (r j:Nat),r < p->π[r]?=some j->listed.getD j false=true :=
 fun r j hr hj=>ju I.closed i o ho he j (C.plan.act p i o hp ho hk r j hr hj)
theorem Inv.part (C:DC X O call l π tr E0 w0 a0) (I:Inv X O l π tr E0 w0 listed a w q h E) {p:Nat} (IA:q<=p) (hpl:p<=π.length) (hah:∀ (r j:Nat),r < p->π[r]?=some j->listed.getD j false=true):(tr p).s.g=(tr q).s.g/\∀ id x,(tr p).s.S.get id=some x->h id=some x:=by
 have OE:∀ r,q<=r->r < p->¬ xO X l π tr r:=fun r hr yn=>by
  obtain ⟨j,hj⟩:=iS (π:=π) (show r < π.length by omega);exact I.h2 r j hr hj (hah r j yn hj)
 obtain ⟨g1,g2⟩:=C.calm IA hpl OE;refine ⟨g1,fun id x hx=>?_⟩;rcases g2 id x hx with h | ⟨r,a1,a2,a3⟩
 ·exact I.h3 id x h
 ·obtain ⟨j,hj⟩:=iS (π:=π) (show r < π.length by omega)
  exact I.h4 r j id x a1 hj (hah r j a2 hj) a3
theorem Inv.UI (C:DC X O call l π tr E0 w0 a0) (I:Inv X O l π tr E0 w0 listed a w q h E) {p i:Nat} {o:Oper} (hp:π[p]?=some i) (ho:l[i]?=some o) (hn:¬ listed.getD i false=true) (he:∀ k∈dS o,listed.getD k false=true) (hk:Di X o=true) (hw:gT l (tr p).F o=some true) {v:Option AV} {y:Value} {w':World} (hF:(tr (p + 1)).F=cI (tr p).F o.dst v)
  {E':Env} (hv:∀ av,v=some av->RV E' av y) (R':Rel X O E' (tr (p + 1)).s.S.get (tr (p + 1)).s.g w') (m:iB E (tr p).s.S.get (tr p).s.c w E' (tr (p + 1)).s.S.get (tr (p + 1)).s.c w') :
  ∃ h',Inv X O l π tr E0 w0 (listed.setIfInBounds i true) (a.put o.dst y) w' (p + 1) h' E':=by
 have IA:=I.ge hp hn;have hpl:=g_ hp;have c1:=C.le IA (Nat.le_of_lt hpl);have c2:=C.le (show p + 1<=π.length by omega) lq;have c3:=C.le (Nat.zero_le p) (Nat.le_of_lt hpl);have c4:=C.W9 hp;have hah:=I.ahead C hp ho he hk;obtain ⟨_,hsub⟩:=I.part C IA (Nat.le_of_lt hpl) hah;obtain ⟨R2,m2⟩:=I.rel.Is hsub R' m;obtain ⟨_,tA,tB⟩:=I.FV C hp ho hn m.ext hF hv;have hil:i < listed.size:=by rw [I.size]; exact C.plan.lt p i hp
 have old:∀ {j:Nat} (r:Nat),π[r]?=some j->(listed.setIfInBounds i true).getD j false=true->listed.getD j false=true\/r=p:=fun r hr hL=>by
  rcases aO.1 hL with h | ⟨rfl,_⟩
  ·exact .inl h
  ·exact .inr (C.plan.inj r p _ hr hp)
 have UJ:∀ id,(tr p).s.S.get id≠none->¬ ((tr p).s.c<=id/\id < (tr π.length).s.c):=fun id hid hh=>by
  have OE:∀ r,q<=r->r < p->¬ xO X l π tr r:=fun r hr yn=>by
   obtain ⟨j,hj⟩:=iS (π:=π) (show r < π.length by omega);exact I.h2 r j hr hj (hah r j yn hj)
  cases e:(tr p).s.S.get id with
  | none=>exact hid e
  | some x =>
   rcases (C.calm IA (Nat.le_of_lt hpl) OE).2 id x e with h | ⟨r,a1,a2,a3⟩
   ·exact I.h7 id (by rw [h]; simp) ⟨by omega,hh.2⟩
   ·have e1:=a3.1
    have e2:(tr (r + 1)).s.c=(tr r).s.c + 1:=by rw [a3.2.1]; rfl
    have:=C.le (show r + 1<=p by omega) (Nat.le_of_lt hpl);omega
 have Sg:∀ id,(tr (p + 1)).s.S.get id≠none->¬ ((tr (p + 1)).s.c<=id/\id < (tr π.length).s.c):=fun id hid hh=>by
  rcases m.dom id hid with h | ⟨b1,b2⟩
  ·exact UJ id h ⟨by omega,hh.2⟩
  ·omega
 refine ⟨_,⟨by simpa using I.size,I.close ho he,by rw [rZ]; exact I.zN,by rw [wm]; exact I.nt,by omega,.inr ⟨p,rfl,i,o,hp,ho,hk,hw⟩,fun r j hr hj=>?_,fun r j hr hj hL Vg=>?_,fun id x hx=>?_,fun r j id x hr hj hL hA=>?_,fun id hi=>?_,fun id hi=>?_,Sg,R2,I.TV.comp (m2.Hq c3 (by omega)),tA,tB⟩⟩
 ·by_cases e:r=p
  ·subst e
   rw [hp] at hj;injection hj with hj
   subst hj;exact aO.2 (.inr ⟨rfl,hil⟩)
  ·exact aO.2 (.inl (hah r j (by omega) hj))
 ·rcases old r hj hL with h | rfl
  ·obtain ⟨j',o',k1,k2,k3,k4⟩:=Vg
   rw [hj] at k1;injection k1 with k1
   subst k1;exact hn (ju I.closed j o' k2 (I.closed j o' k2 h) i (C.plan.act r j o' hj k2 k3 p i (by omega) hp))
  ·omega
 ·simp [rest,hx]
 ·rcases old r hj hL with h | rfl
  ·have e2:(tr (r + 1)).s.c=(tr r).s.c + 1:=by rw [hA.2.1]; rfl
   have e3:=C.le (show p + 1<=r by omega) (Nat.le_of_lt (g_ hj));have e4:=C.le (show r + 1<=π.length by have:=g_ hj; omega) lq;have hid:=hA.1;have n1:(tr (p + 1)).s.S.get id=none:=by
    cases e:(tr (p + 1)).s.S.get id with
    | none=>rfl
    | some x=>exact absurd ⟨by omega,by omega⟩ (Sg id (by rw [e]; simp))
   have n2:(tr p).s.S.get id=none:=by
    cases e:(tr p).s.S.get id with
    | none=>rfl
    | some x=>exact absurd ⟨by omega,by omega⟩ (UJ id (by rw [e]; simp))
   simp only [rest,n1,n2];exact I.h4 r j id x (by omega) hj h hA
  ·omega
 ·cases e:(tr (p + 1)).s.S.get id with
  | some x=>exact .inl (by simp)
  | none =>
   right
   cases e2:(tr p).s.S.get id with
   | some x=>exact absurd (by simp [rest,e,e2]) hi
   | none =>
    simp only [rest,e,e2] at hi;rcases I.h5 id hi with h | ⟨r,j,x,a1,a2,a3,a4⟩
    ·
     exfalso
     cases e3:(tr q).s.S.get id with
     | none=>exact h e3
     | some x =>
      have OE:∀ r,q<=r->r < p->¬ xO X l π tr r:=fun r hr yn=>by
       obtain ⟨j,hj⟩:=iS (π:=π) (show r < π.length by omega);exact I.h2 r j hr hj (hah r j yn hj)
      have dX:∀ s,q<=s->s<=p->(tr s).s.S.get id≠none:=by
       intro s
       induction s with
       | zero=>intro h1 _; obtain rfl:q=0:=(by omega); exact h
       | succ s ih =>
        intro h1 h2
        by_cases e:q=s + 1
        ·rw [<- e]; exact h
        ·have hs:=ih (by omega) (by omega)
         obtain ⟨j,hj⟩:=iS (π:=π) (show s < π.length by omega);obtain ⟨o',ho',hst⟩:=C.step s j hj;cases hst with
         | no _ _ k=>rw [k]; exact hs
         | q _ _ _ v _ _ k=>rw [k]; exact hs
         | e hw hk=>exact absurd ⟨j,o',hj,ho',hk,hw⟩ (OE s (by omega) (by omega))
         | a _ _ _ v ob _ _ k =>
          rw [k];cases ob with
          | none=>exact hs
          | some ob =>
           simp only [bp,Tr.dI];split
           ·simp
           ·exact hs
      exact dX p IA lq e2
    ·refine ⟨r,j,x,?_,a2,aO.2 (.inl a3),a4⟩
     rcases Nat.lt_or_ge r p with k | k
     ·
      exfalso
      have OE:∀ r,q<=r->r < p->¬ xO X l π tr r:=fun r hr yn=>by
       obtain ⟨j,hj⟩:=iS (π:=π) (show r < π.length by omega);exact I.h2 r j hr hj (hah r j yn hj)
      have dX:∀ s,r + 1<=s->s<=p->(tr s).s.S.get id≠none:=by
       intro s
       induction s with
       | zero=>intro h1 _; omega
       | succ s ih =>
        intro h1 h2
        by_cases e:r=s
        ·subst e
         rw [a4.2.1];simp [bp,Tr.dI,a4.1]
        ·have hs:=ih (by omega) (by omega)
         obtain ⟨j,hj⟩:=iS (π:=π) (show s < π.length by omega);obtain ⟨o',ho',hst⟩:=C.step s j hj;cases hst with
         | no _ _ k=>rw [k]; exact hs
         | q _ _ _ v _ _ k=>rw [k]; exact hs
         | e hw hk=>exact absurd ⟨j,o',hj,ho',hk,hw⟩ (OE s (by omega) (by omega))
         | a _ _ _ v ob _ _ k =>
          rw [k];cases ob with
          | none=>exact hs
          | some ob =>
           simp only [bp,Tr.dI];split
           ·simp
           ·exact hs
      exact dX p (by omega) lq e2
     ·have:r≠p:=fun e=>by
       subst e;rw [hp] at a2;injection a2 with a2
       subst a2;exact hn a3
      omega
 ·rcases m.fresh id hi with h | ⟨b1,b2⟩
  ·rcases I.h6 id h with h | ⟨r,j,a1,a2,a3⟩
   ·exact .inl h
   ·exact .inr ⟨r,j,a1,aO.2 (.inl a2),a3⟩
  ·exact .inr ⟨p,i,hp,aO.2 (.inr ⟨rfl,hil⟩),b1,b2⟩
end
end Ev
namespace Ev
open Go
variable {σ:Type}
theorem iB.less {E E':Env} {h h' h'':Nat->Option Ob} {c c':Nat} {w w':World} (m:iB E h c w E' h' c' w') (hs:∀ id,h'' id≠none->h' id≠none):iB E h c w E' h'' c' w' :=
 ⟨m.ext,m.fresh,m.size,m.frame,fun id hi=>m.img id (hs id hi),m.m_,fun id hi=>m.dom id (hs id hi),m.kp⟩
theorem jy {E:Env} {F:Fr} {a:Act} {ops:Array Oper} {o:Oper} {b:Bool} (r:∀ t∈fu ops.toList o,∀ av,F.t.get t=some av->∃ y,a.tmps[t]?=some y/\RV E av y) (h:gT ops.toList F o=some b):Region.wanted o (yielded ops a.tmps)=b:=by
 unfold gT at h;unfold Region.wanted;split at h
 ·rename_i hg
  injection h with h
  rw [hg,<- h]
 ·rename_i j want hg
  rw [hg];dsimp only;unfold yielded;split at h
  ·rename_i hd
   injection h with h
   rw [Array.getElem?_toList] at hd;rw [hd,<- h];rfl
  ·rename_i d hd
   have hm:d∈fu ops.toList o:=by
    unfold fu;rw [hg];simp only [List.mem_append]
    right
    rw [hd];simp
   rw [Array.getElem?_toList] at hd;split at h
   ·rename_i b' hb
    injection h with h
    obtain ⟨y,h1,h2⟩:=r d hm _ hb;rw [hd,Option.bind_some,h1,h2.1,<- h];cases want <;> cases b' <;> rfl
   ·rename_i hb
    injection h with h
    obtain ⟨y,h1,A,h2,h3⟩:=r d hm _ hb;rw [hd,Option.bind_some,h1,h2,<- h];cases want <;> rfl
   ·cases h
theorem QY {X:Cx σ} {E:Env} {F:Fr} {a:Act} {lk:List Tmp} (r:∀ t∈lk,∀ av,F.t.get t=some av->∃ y,a.tmps[t]?=some y/\RV E av y) (hg:∀ b,b < X.ng->E.D b/\E.ι b=b/\E.sh b=0) (x:Operand) (av:AV) (h:Hj X F lk x=some av):RV E av (a.eval x):=by
 cases x with
 | tmp t =>
  simp only [Hj,aE] at h;obtain ⟨y,h1,h2⟩:=r t (by rw [<- List.contains_iff_mem]; exact h.1) av h.2;simp only [Act.eval,Array.getD_eq_getD_getElem?,h1,Option.getD_some];exact h2
 | const v => 
  simp only [Hj,Dy,Option.map_eq_some_iff] at h;obtain ⟨v1,h1,rfl⟩:=h;exact oI h1
 | global g =>
  simp only [Hj,Dy,aE] at h;obtain ⟨h1,h⟩:=h;injection h with h
  subst h;obtain ⟨a1,a2,a3⟩:=hg g (Nat.le_of_ble_eq_true h1);exact ⟨a1,by rw [a2,a3]; rfl⟩
 | func f =>
  simp only [Hj,Dy] at h;injection h with h
  subst h;exact ⟨#[],#[],rfl,trivial,trivial⟩
theorem mD {p p':Nat->Bool}:∀ {l:List Nat},(∀ x∈l,p' x=true->p x=true)->(∃ x∈l,p x=true/\p' x=false)->l.countP p' < l.countP p
 | [],_,⟨x,hx,_⟩=>by simp at hx
 | y :: l,h,⟨x,hx,h1,h2⟩=>by
  have le:l.countP p'<=l.countP p:=List.countP_mono_left fun z hz=>h z (List.mem_cons_of_mem _ hz)
  rcases List.mem_cons.1 hx with rfl | hx
  ·rw [List.countP_cons,List.countP_cons,h1,h2]; simp; omega
  ·have:=mD (fun z hz=>h z (List.mem_cons_of_mem _ hz)) ⟨x,hx,h1,h2⟩
   rw [List.countP_cons,List.countP_cons]
   by_cases hy:p' y=true
   ·rw [if_pos hy,if_pos (h y (by simp) hy)]; omega
   ·rw [if_neg hy]; omega
section
variable {X:Cx σ} {O:Outside σ} {call:FuncId->List AV->St σ->Option (AV×St σ)} {ops:Array Oper} {π:List Nat} {tr:Nat->GF σ} {E0:Env} {w0:World} {a0:Act}
theorem Inv.fin (C:DC X O call ops.toList π tr E0 w0 a0) {listed:Array Bool} {a:Act} {w:World} {q:Nat} {h:Nat->Option Ob} {E:Env} (I:Inv X O ops.toList π tr E0 w0 listed a w q h E) (hall:∀ (p i:Nat),π[p]?=some i->listed.getD i false=true) :
  gz X O E0 (tr 0).s w0 (tr π.length).F (tr π.length).s a w:=by
 obtain ⟨g1,g2⟩:=I.part C I.qn lq fun r j _ hj=>hall r j hj
 refine ⟨E,⟨I.zN,by rw [C.nt lq]; exact I.nt,fun t av ht=>?_⟩,by rw [g1]; exact I.rel.sub g2,I.TV.less fun id hi=>?_⟩
 ·obtain ⟨_,h1⟩:=C.get lq ht
  rcases h1 with ⟨r,j,o,_,k1,k2,k3,k4⟩ | ⟨k1,k2⟩
  ·exact I.tA r j o t av k1 k2 k3 (hall r j k1) k4
  ·exact I.tB t av (fun r j o e1 e2 _=>k1 r j o (g_ e1) e1 e2) k2
 ·cases e:(tr π.length).s.S.get id with
  | none=>exact absurd e hi
  | some x=>rw [g2 id x e]; simp
theorem Hp (C:DC X O call ops.toList π tr E0 w0 a0) {Q:Exit->Act->World->Prop} (hQ:∀ a w,gz X O E0 (tr 0).s w0 (tr π.length).F (tr π.length).s a w->Q .normal a w) :
  ∀ (fuel:Nat) (listed:Array Bool) (a:Act) (w:World) (q:Nat) (h:Nat->Option Ob) (E:Env),Inv X O ops.toList π tr E0 w0 listed a w q h E->((List.range ops.toList.length).countP fun i=>!listed.getD i false)<=fuel->wpAny X.P .any ops Q fuel listed a w:=by
 have done:∀ (listed:Array Bool) (a:Act) (w:World) (q:Nat) (h:Nat->Option Ob) (E:Env),Inv X O ops.toList π tr E0 w0 listed a w q h E->Region.ready .any ops listed=[]->Q .normal a w:=fun listed a w q h E I hr=>by
  refine hQ a w (I.fin C ?_);intro p
  induction p using Nat.strongRecOn with
  | _ p ih =>
   intro i hi;cases hL:listed.getD i false with
   | true=>rfl
   | false =>
    obtain ⟨o,ho,_⟩:=C.step p i hi;have hil:=C.plan.lt p i hi;have hin:i∈Region.ready .any ops listed:=by
     rw [mem_ready];refine ⟨?_,o,by rw [<- Array.getElem?_toList]; exact ho,fun e he hb=>?_⟩
     ·have hsz:i < listed.size:=by rw [I.size]; exact hil
      simp only [Array.getD_eq_getD_getElem?,Array.getElem?_eq_getElem hsz,Option.getD_some] at hL ⊢;exact hL
     ·obtain ⟨r,hr,h'⟩:=C.plan.top p i o hi ho e.on (qy.2 ⟨e,he,hb,rfl⟩)
      exact ih r hr e.on h'
    rw [hr] at hin;cases hin
 intro fuel
 induction fuel with
 | zero =>
  intro listed a w q h E I hcnt;have hz:Region.ready .any ops listed=[]:=by
   cases hr:Region.ready .any ops listed with
   | nil=>rfl
   | cons i rs =>
    have hin:i∈Region.ready .any ops listed:=by rw [hr]; simp
    obtain ⟨h1,o,h2,_⟩:=mem_ready.1 hin;have hlt:i < ops.toList.length:=by simpa using (Array.getElem?_eq_some_iff.1 h2).1
    have:0 < (List.range ops.toList.length).countP fun i=>!listed.getD i false:=by
     rw [List.countP_pos_iff];refine ⟨i,List.mem_range.2 hlt,?_⟩;have hsz:i < listed.size:=by rw [I.size]; exact hlt
     simp only [Array.getD_eq_getD_getElem?,Array.getElem?_eq_getElem hsz,Option.getD_some] at h1 ⊢;simp [h1]
    omega
  exact ⟨hz,done listed a w q h E I hz⟩
 | succ fuel ih =>
  intro listed a w q h E I hcnt;refine ⟨done listed a w q h E I,fun i hi=>?_⟩;obtain ⟨h1,o,h2,h3⟩:=mem_ready.1 hi;have hlt:i < ops.toList.length:=by simpa using (Array.getElem?_eq_some_iff.1 h2).1
  have ho:ops.toList[i]?=some o:=by rw [Array.getElem?_toList]; exact h2
  have hsz:i < listed.size:=by rw [I.size]; exact hlt
  have hn:¬ listed.getD i false=true:=by
   simp only [Array.getD_eq_getD_getElem?,Array.getElem?_eq_getElem hsz,Option.getD_some] at h1 ⊢;simp [h1]
  have he:∀ k∈dS o,listed.getD k false=true:=fun k hk=>by
   obtain ⟨e,a1,a2,a3⟩:=qy.1 hk;rw [<- a3];exact h3 e a1 a2
  obtain ⟨p,hp⟩:=C.plan.all i hlt;have zO:((List.range ops.toList.length).countP fun j=>!(listed.setIfInBounds i true).getD j false)<=fuel:=by
   have:=mD (p:=fun j=>!listed.getD j false) (p':=fun j=>!(listed.setIfInBounds i true).getD j false) (l:=List.range ops.toList.length) (fun x _ hx=>by
    simp only [Bool.not_eq_true'] at hx ⊢;cases e:listed.getD x false with
    | false=>rfl
    | true=>rw [getD_set_true e] at hx; cases hx) ⟨i,List.mem_range.2 hlt,by simpa using hn,by
    have:=aO (listed:=listed) (i:=i) (j:=i) |>.2 (.inr ⟨rfl,hsz⟩);simp only [this,Bool.not_true]⟩
   omega
  obtain ⟨o',ho',hst⟩:=C.step p i hp;rw [ho] at ho';injection ho' with ho'
  subst ho';have lk:=I.look C hp ho hn he;have hρ:=QY (X:=X) lk I.rel.kJ;have hnew:=I.new C hp hn;have hmem:(tr q).s.S∈Bn (tr p).es (tr 0).s.S ((dg ops.toList []).getD i 0):=C.mem I.hq (I.ge hp hn) hp fun r j hr yn hj Vg=>by
   cases hb:((dg ops.toList []).getD i 0).testBit j with
   | false=>rfl
   | true=>exact absurd Vg (I.h2 r j hr hj (ju I.closed i o ho he j hb))
  unfold wpOp;simp only [h2];have uniq:∀ {b:Bool},gT ops.toList (tr p).F o=some b->b=false\/Di X o=false->¬ xO X ops.toList π tr p:=fun hw hor ⟨j,oj,k1,k2,k3,k4⟩=>by
   rw [hp] at k1;injection k1 with k1
   subst k1;rw [ho] at k2;injection k2 with k2
   subst k2;rcases hor with hor | hor
   ·rw [hw,hor] at k4; cases k4
   ·rw [hor] at k3; cases k3
  cases hst with
  | no hw hF hs _ =>
   rw [jy lk hw];exact ih _ _ _ _ _ _ (I.quiet C hp ho hn he hF (y:=undef) (fun av e=>by injection e with e; rw [<- e]; exact ⟨#[],rfl,trivial⟩) hs (uniq hw (.inl rfl))) zO
  | q hw hk hkd v hv hF hs _ =>
   rw [jy lk hw];refine .inl ?_;obtain ⟨y,g1,g2⟩:=Lp C.hX (w:=w) hρ (fun id ob hid=>I.rel.ob id ob (I.h3 id ob hid)) (hv _ hmem);unfold Oper.wp;rw [g1];exact ih _ _ _ _ _ _ (I.quiet C hp ho hn he hF (fun av e=>by injection e with e; rw [<- e]; exact g2) hs (uniq hw (.inr hk))) zO
  | a hw hk hkd v ob hv hF hs _ =>
   rw [jy lk hw];refine .inl ?_;obtain ⟨y,w',g1,g2⟩:=L4 C.hX hρ (fun _=>rfl) I.rel I.h3 (fun hne=>hnew _ lq (by
    cases ob with
    | none=>exact absurd rfl hne
    | some ob=>rw [hs]; simp [bp])) (hv _ hmem)
   unfold Oper.wp;rw [g1];obtain ⟨h',E',I'⟩:=I.made C hp ho hn he hF g2 hs (uniq hw (.inr hk));exact ih _ _ _ _ _ _ I' zO
  | e hw hk hkd v hv hF _ =>
   rw [jy lk hw];refine .inl ?_;obtain ⟨e1,e2⟩:=I.part C (I.ge hp hn) (Nat.le_of_lt (g_ hp)) (I.ahead C hp ho he hk);unfold Oper.wp;refine Ln C.hX C.hc hρ hv (by rw [e1]; exact I.rel.sub e2) hnew a _ Q fun y w' hs=>?_
   obtain ⟨E',k1,k2,k3⟩:=hs;obtain ⟨h',I'⟩:=I.UI C hp ho hn he hk hw hF k1 k2 k3;exact ih _ _ _ _ _ _ I' zO
end
end Ev
namespace Ev
open Go
variable {σ:Type}
theorem gz.trans {X:Cx σ} {O:Outside σ} {E E1:Env} {s s1 s2:St σ} {w w1 w2:World} {F2:Fr} {a2:Act} (h1:s.c<=s1.c) (h2:s1.c<=s2.c) (R1:Rel X O E1 s1.S.get s1.g w1) (m:iB E s.S.get s.c w E1 s1.S.get s1.c w1) (t:gz X O E1 s1 w1 F2 s2 a2 w2):gz X O E s w F2 s2 a2 w2:=by
 obtain ⟨E2,a,b,c⟩:=t;exact ⟨E2,a,b,m.trans c h1 h2 fun id hi=>by
  cases e:s1.S.get id with
  | none=>exact absurd e hi
  | some o=>exact (R1.ob id o e).1⟩
theorem sY {X:Cx σ} {call:FuncId->List AV->St σ->Option (AV×St σ)} (hc:∀ f args s v s',call f args s=some (v,s')->X.fn f≠none->s.c<=s'.c) {ops:List Oper}:∀ {l:List Oper} {F F':Fr} {s s':St σ},mN X call ops l F s=some (F',s')->s.c<=s'.c
 | [],F,F',s,s',h=>by simp only [mN] at h; injection h with h; injection h with _ h; rw [h]; exact Nat.le_refl _
 | o :: l,F,F',s,s',h=>by
  simp only [mN,Option.bind_eq_some_iff] at h;obtain ⟨⟨F1,s1⟩,h1,h2⟩:=h;exact Nat.le_trans (Mi hc h1) (sY hc h2)
theorem jl {X:Cx σ} {call:FuncId->List AV->St σ->Option (AV×St σ)} (hc:∀ f args s v s',call f args s=some (v,s')->X.fn f≠none->s.c<=s'.c) {ops:List Oper} {ms:List Nat} {S0:Tr Ob}:∀ {π:List Nat} {es:List (Nat×Tr Ob)} {F F':Fr} {s s':St σ},eK X call ops ms S0 π es F s=some (F',s')->s.c<=s'.c
 | [],es,F,F',s,s',h=>by simp only [eK] at h; injection h with h; injection h with _ h; rw [h]; exact Nat.le_refl _
 | i :: π,es,F,F',s,s',h=>by
  simp only [eK,Option.bind_eq_some_iff] at h;obtain ⟨o,ho,b,hb,h⟩:=h;split at h
  ·exact jl hc h
  ·split at h
   ·rw [Option.bind_eq_some_iff] at h
    obtain ⟨v,hv,h⟩:=h;exact jl hc h
   ·rw [Option.bind_eq_some_iff] at h
    obtain ⟨⟨v,ob⟩,hv,h⟩:=h;refine Nat.le_trans ?_ (jl hc h);cases ob <;> simp [bp]
   ·rw [Option.bind_eq_some_iff] at h
    obtain ⟨⟨v,s1⟩,hv,h⟩:=h;exact Nat.le_trans (Fv hc hv) (jl hc h)
theorem eh.c {X:Cx σ} {O:Outside σ} {call:FuncId->List AV->St σ->Option (AV×St σ)} (hc:eh X O call):∀ f args s v s',call f args s=some (v,s')->X.fn f≠none->s.c<=s'.c:=fun f args s v s' h hn=>(hc f args s v s' h hn).1
theorem zA {X:Cx σ} (hX:kg X) {O:Outside σ} {call:FuncId->List AV->St σ->Option (AV×St σ)} (hc:eh X O call) {ops:Array Oper} {Q:Exit->Act->World->Prop}:∀ (n k:Nat) {F F':Fr} {s s':St σ} {E:Env} {w:World} {a:Act},n + k=ops.size->mN X call ops.toList (ops.toList.drop k) F s=some (F',s')->RF E F a->Rel X O E s.S.get s.g w ->
  (∀ id,s.c<=id->id < s'.c->¬ E.D id)->(∀ a' w',gz X O E s w F' s' a' w'->Q .normal a' w')->wpOps X.P ops Q (List.range' k n) a w
 | 0,k,F,F',s,s',E,w,a,hk,h,r,R,hf,hQ=>by
  rw [List.drop_of_length_le (by simp; omega)] at h;simp only [mN] at h;injection h with h
  injection h with h1 h2
  subst h1 h2;exact hQ a w ⟨E,r,R,iB.refl _ _ _ _⟩
 | n + 1,k,F,F',s,s',E,w,a,hk,h,r,R,hf,hQ=>by
  have hlt:k < ops.size:=by omega
  have hd:ops.toList.drop k=ops[k] :: ops.toList.drop (k + 1):=by
   rw [List.drop_eq_getElem_cons (by simpa using hlt)];simp
  rw [hd] at h;simp only [mN,Option.bind_eq_some_iff] at h;obtain ⟨⟨F1,s1⟩,h1,h2⟩:=h;dsimp only at h2;have c1:=Mi hc.c h1;have c2:=sY hc.c h2;rw [List.range'_succ,wpOps_cons];unfold wpOp;rw [Array.getElem?_eq_getElem hlt];dsimp only;exact RX hX hc h1 r R (fun id a b=>hf id a (by omega)) _ Q fun a' w' ⟨E1,t1,t2,t3⟩ =>
   zA hX hc n (k + 1) (by omega) h2 t1 t2 (fun id a b hD=>by
    rcases t3.fresh id hD with h | ⟨_,h⟩
    ·exact hf id (by omega) b h
    ·omega) fun a'' w'' t=>hQ a'' w'' (gz.trans c1 c2 t2 t3 t)
theorem Et {X:Cx σ} (hX:kg X) {O:Outside σ} {call:FuncId->List AV->St σ->Option (AV×St σ)} (hc:eh X O call) {ops:Array Oper} {p:List Nat×List Nat} (hp:yY X ops.toList p=true) {Q:Exit->Act->World->Prop} {F F':Fr} {s s':St σ} {E:Env} {w:World} {a:Act}
  (h:eK X call ops.toList p.1 s.S p.2 [] F s=some (F',s')) (r:RF E F a) (R:Rel X O E s.S.get s.g w) (hf:∀ id,s.c<=id->id < s'.c->¬ E.D id) (hQ:∀ a' w',gz X O E s w F' s' a' w'->Q .normal a' w') :
  wpAny X.P .any ops Q ops.size (Array.replicate ops.size false) a { w with drawn:=w.drawn + 1 }:=by
 obtain ⟨p1,p2⟩:=p;obtain ⟨e1,P⟩:=wV hp;dsimp only at e1 P h;subst e1;obtain ⟨tr,t1,t2,t3,t4⟩:=oO h;have R':Rel X O E s.S.get s.g { w with drawn:=w.drawn + 1 }:=R.drawn rfl;have C:DC X O call ops.toList p2 tr E { w with drawn:=w.drawn + 1 } a:=⟨hX,hc,P,by rw [t1],fun p i hp=>by rw [t1]; exact t4 p i hp,by rw [t1]; exact r,by rw [t1]; exact R',by rw [t1,t3]; exact hf⟩;have c0:=C.le (Nat.zero_le _) lq;refine Hp C (fun a' w' ht=>?_) ops.size _ a _ 0 s.S.get E ?_ ?_
 ·rw [t1,t2,t3] at ht
  obtain ⟨E',k1,k2,k3⟩:=ht;exact hQ a' w' ⟨E',k1,k2,k3.of_heap rfl⟩
 ·have nl:∀ i,¬ (Array.replicate ops.size false).getD i false=true:=fun i=>by
   simp only [Array.getD_eq_getD_getElem?,Array.getElem?_replicate];split <;> simp
  refine ⟨by simp,fun j o _ hL=>absurd hL (nl j),r.1,by rw [t1]; exact r.2.1,Nat.zero_le _,.inl rfl,fun p i hp=>absurd hp (by omega),fun p i _ _ hL=>absurd hL (nl i),fun id o ho=>by rw [t1] at ho; exact ho,fun r i id o _ _ hL=>absurd hL (nl i),fun id hi=>.inl (by rw [t1]; exact hi),fun id hD=>.inl hD,fun id hi=>?_,by rw [t1]; exact R',?_,fun p i o t av _ _ _ hL=>absurd hL (nl i),fun t av _ hg=>by rw [t1] at hg; exact r.2.2 t av hg⟩
  ·rw [t1] at hi ⊢
   rw [t3];intro ⟨a1,a2⟩;cases e:s.S.get id with
   | none=>exact hi e
   | some o=>exact hf id a1 a2 (R.ob id o e).1
  ·rw [t1] at c0 ⊢
   exact (iB.refl _ _ _ _).Hq lq c0
 ·have:(List.range ops.toList.length).countP (fun i=>!(Array.replicate ops.size false).getD i false)<=(List.range ops.toList.length).length:=List.countP_le_length
  simpa using this
theorem Ja {X:Cx σ} {call:FuncId->List AV->St σ->Option (AV×St σ)} (hc:∀ f args s v s',call f args s=some (v,s')->X.fn f≠none->s.c<=s'.c) {pl:List (Nat×List Nat×List Nat)} {id:Nat} {ops:Array Oper} {d:Bool} {F F':Fr} {s s':St σ} (h:uH X call pl id ops d F s=some (F',s')):s.c<=s'.c:=by
 cases d with
 | false=>exact sY hc h
 | true =>
  simp only [uH,Option.bind_eq_some_iff] at h;obtain ⟨p,_,h⟩:=h;exact jl hc h
theorem JS {X:Cx σ} (hX:kg X) {O:Outside σ} {call:FuncId->List AV->St σ->Option (AV×St σ)} (hc:eh X O call) {pl:List (Nat×List Nat×List Nat)} {id:Nat} {ops:Array Oper} {d:Bool} {Q:Exit->Act->World->Prop} {F F':Fr} {s s':St σ} {E:Env} {w:World} {a:Act}
  (h:uH X call pl id ops d F s=some (F',s')) (hpl:cj X pl (.region id ops d)=true) (r:RF E F a) (R:Rel X O E s.S.get s.g w) (hf:∀ id,s.c<=id->id < s'.c->¬ E.D id) (hQ:∀ a' w',gz X O E s w F' s' a' w'->Q .normal a' w'):(Code.region id ops d).wp X.P Q a w:=by
 cases d with
 | false =>
  refine wp_region ?_;rw [List.range_eq_range'];exact zA hX hc ops.size 0 (by omega) (by rw [List.drop_zero]; exact h) r R hf hQ
 | true =>
  simp only [uH,Option.bind_eq_some_iff] at h;obtain ⟨p,hp,h⟩:=h;simp only [cj,hp] at hpl;exact wp_region_any hX.mixed (Et hX hc hpl h r R hf hQ)
def Ex.of:Ex->Exit
 | .normal=>.normal
 | .exit id=>.exit id
 | .ret=>.ret
theorem LP {X:Cx σ} {n:Nat} (hc:∀ m,m < n->∀ f args s v s',l6 X (fy X m) f args s=some (v,s')->X.fn f≠none->s.c<=s'.c):∀ (m:Nat),m<=n->∀ {pl:List (Nat×List Nat×List Nat)} {c:Code} {F F':Fr} {s s':St σ} {ex:Ex},fy X m pl c F s=some (ex,F',s')->s.c<=s'.c:=by
 intro m
 induction m with
 | zero=>intro _ pl c F F' s s' ex h; simp [fy] at h
 | succ m ih =>
  intro hm pl c F F' s s' ex h;have ih:=fun {pl:List (Nat×List Nat×List Nat)} {c:Code} {F F':Fr} {s s':St σ} {ex:Ex} h=>ih (by omega) (pl:=pl) (c:=c) (F:=F) (F':=F') (s:=s) (s':=s') (ex:=ex) h
  unfold fy at h;split at h
  ·injection h with h; injection h with _ h; injection h with _ h; rw [h]; exact Nat.le_refl _
  ·injection h with h; injection h with _ h; injection h with _ h; rw [h]; exact Nat.le_refl _
  ·rw [Option.map_eq_some_iff] at h
   obtain ⟨⟨F1,s1⟩,h1,h⟩:=h;injection h with _ h; injection h with _ h
   rw [<- h];exact Ja (hc m (by omega)) h1
  ·rw [Option.bind_eq_some_iff] at h
   obtain ⟨⟨e1,F1,s1⟩,h1,h⟩:=h;have:=ih h1;split at h
   ·exact Nat.le_trans this (ih h)
   ·injection h with h; injection h with _ h; injection h with _ h; rw [<- h]; exact this
   ·injection h with h; injection h with _ h; injection h with _ h; rw [<- h]; exact this
  ·rw [Option.bind_eq_some_iff] at h
   obtain ⟨v,_,h⟩:=h;split at h
   ·split at h <;> exact ih h
   ·cases h
  ·rw [Option.map_eq_some_iff] at h
   obtain ⟨⟨e1,F1,s1⟩,h1,h⟩:=h;have:=ih h1;split at h
   ·split at h <;> (injection h with _ h; injection h with _ h; rw [<- h]; exact this)
   ·injection h with _ h; injection h with _ h; rw [<- h]; exact this
   ·injection h with _ h; injection h with _ h; rw [<- h]; exact this
  ·rw [Option.bind_eq_some_iff] at h
   obtain ⟨⟨e1,F1,s1⟩,h1,h⟩:=h;have:=ih h1;split at h
   ·exact Nat.le_trans this (ih h)
   ·injection h with h; injection h with _ h; injection h with _ h; rw [<- h]; exact this
   ·injection h with h; injection h with _ h; injection h with _ h; rw [<- h]; exact this
  ·injection h with h; injection h with _ h; injection h with _ h; rw [h]; exact Nat.le_refl _
  ·exact ih h
  ·injection h with h; injection h with _ h; injection h with _ h; rw [h]; exact Nat.le_refl _
  ·cases h
end Ev
end Go.Proofs.YtijegngfclkdaaaGreatDoor
