/-
  Piece 2 of the proof.
  Conditions: none.
-/
import Derived.Laws.BytesString
import Derived.Test.YtijegngfclkdaaaGreatDoorQ01
set_option linter.unusedVariables false
set_option linter.unusedSimpArgs false
set_option maxHeartbeats 100000000
set_option maxRecDepth 100000
namespace Go.Proofs.YtijegngfclkdaaaGreatDoor
namespace Ev
open Go
variable {σ:Type}
theorem gZ:∀ {l:List Ce} {o k:Nat} {cs:List Ce},cut l o k=some cs->o + k<=l.length/\cs=(l.drop o).take k
 | l,0,0,cs,h=>by simp only [cut] at h; injection h with h; subst h; simp
 | [],0,k + 1,cs,h=>by simp [cut] at h
 | c :: l,0,k + 1,cs,h=>by
  rw [cut,Option.map_eq_some_iff] at h;obtain ⟨r,h1,h2⟩:=h;obtain ⟨a,b⟩:=gZ h1;subst h2;refine ⟨by simp; omega,?_⟩;rw [b]; simp
 | [],o + 1,k,cs,h=>by cases k <;> simp [cut] at h
 | c :: l,o + 1,k,cs,h=>by
  have h':cut l o k=some cs:=by cases k <;> simpa [cut] using h
  obtain ⟨a,b⟩:=gZ h';exact ⟨by simp; omega,by simpa using b⟩
theorem eX:∀ {l:List Ce} {o:Nat} {xs l':List Ce},lay l o xs=some l'->o + xs.length<=l.length/\l'=l.take o ++ (xs ++ l.drop (o + xs.length))
 | l,0,[],l',h=>by simp only [lay] at h; injection h with h; subst h; simp
 | [],0,x :: xs,l',h=>by simp [lay] at h
 | c :: l,0,x :: xs,l',h=>by
  rw [lay,Option.map_eq_some_iff] at h;obtain ⟨r,h1,h2⟩:=h;obtain ⟨a,b⟩:=eX h1;subst h2;refine ⟨by simp; omega,?_⟩;rw [b]; simp
 | [],o + 1,xs,l',h=>by cases xs <;> simp [lay] at h
 | c :: l,o + 1,xs,l',h=>by
  have h':(lay l o xs).map (c :: ·)=some l':=by cases xs <;> simpa [lay] using h
  rw [Option.map_eq_some_iff] at h';obtain ⟨r,h1,h2⟩:=h';obtain ⟨a,b⟩:=eX h1;subst h2;refine ⟨by simp; omega,?_⟩;rw [b,show o + 1 + xs.length=(o + xs.length) + 1 by omega]; simp
theorem kz {l l' xs:List Ce} {o:Nat} (h:lay l o xs=some l'):l'.length=l.length:=by
 obtain ⟨a,b⟩:=eX h;rw [b];simp;omega
theorem zJ {l l' xs:List Ce} {o:Nat} (h:lay l o xs=some l') (i:Nat):l'[i]?=if o<=i/\i < o + xs.length then xs[i - o]? else l[i]?:=by
 obtain ⟨a,b⟩:=eX h;rw [b]
 by_cases h1:i < o
 ·rw [if_neg (by omega),List.getElem?_append_left (by simp; omega),List.getElem?_take,if_pos h1]
 ·rw [List.getElem?_append_right (by simp; omega)]
  simp only [List.length_take,Nat.min_eq_left (show o<=l.length by omega)]
  by_cases h2:i < o + xs.length
  ·rw [if_pos ⟨by omega,h2⟩,List.getElem?_append_left (by omega)]
  ·rw [if_neg (by omega),List.getElem?_append_right (by omega),List.getElem?_drop]
   congr 1
   omega
def Nx (w:World) (b o:Nat) (vs:List Value):Prop:=∀ (j:Nat) v,vs[j]?=some v->w.cell? ⟨b,o + j,none⟩=some v
theorem cell_of {w:World} {b i:Nat} {arr:Array Value} {ty:TypeId} {fz:Nat×Nat} (h:w.heap[b]?=some (.cells arr ty fz)):w.cell? ⟨b,i,none⟩=arr[i]?:=by
 simp [World.cell?,h]
theorem ly {E:Env} {id:Nat} {w:World} {l:List Ce} {ty:TypeId} (h:RO E id w (.row l ty)) {o k:Nat} {cs:List Ce} (hc:cut l o k=some cs) :
  cs.length=k/\∃ vs:List Value,vs.length=k/\aQ (RC E) cs vs/\Nx w (E.ι id) (E.sh id + o) vs:=by
 obtain ⟨arr,fz,h1,h2,h3,h4,h5⟩:=h;obtain ⟨a,b⟩:=gZ hc;have hl:cs.length=k:=by rw [b]; simp; omega
 have hg:∀ j,j < k->cs[j]?=l[o + j]?:=fun j hj=>by rw [b,List.getElem?_take,if_pos hj,List.getElem?_drop]
 refine ⟨hl,(List.range k).map (fun j=>arr.getD (E.sh id + (o + j)) undef),by simp,?_,?_⟩
 ·refine aQ.xF (by simp [hl]) fun i x y hx hy=>?_
  have hi:i < k:=by
   rcases Nat.lt_or_ge i k with h' | h'
   ·exact h'
   ·simp [List.getElem?_eq_none (show cs.length<=i by omega)] at hx
  rw [hg i hi] at hx;obtain ⟨v,r1,r2⟩:=h5 _ _ hx;simp only [List.getElem?_map,List.getElem?_range hi,Option.map_some] at hy;injection hy with hy
  rw [<- hy];simp only [Array.getD_eq_getD_getElem?,r1,Option.getD_some];exact r2
 ·intro j v hv
  have hj:j < k:=by
   rcases Nat.lt_or_ge j k with h' | h'
   ·exact h'
   ·rw [List.getElem?_eq_none (by simpa using h')] at hv
    cases hv
  simp only [List.getElem?_map,List.getElem?_range hj,Option.map_some] at hv;injection hv with hv
  rw [cell_of h1,<- hv];have hj2:E.sh id + (o + j) < arr.size:=by omega
  rw [Nat.add_assoc];simp [Array.getD_eq_getD_getElem?,Array.getElem?_eq_getElem hj2]
theorem ed {P:Program} {w:World} {b o:Nat} {vs:List Value} (h:Nx w b o vs) {k:Nat} (hk:vs.length=k):(loadCells ⟨b,o,none⟩ k).run P w=.ok vs.toArray w:=by
 subst hk;refine run_loadCells_list w _ vs fun j v hv=>?_
 have:=h j v hv;cases j with
 | zero=>simpa [Addr.add] using this
 | succ j=>simpa [Addr.add] using this
theorem nH {P:Program} (g o:Nat) (t:TypeId) (fz:Nat×Nat):∀ (vs:List Value) (i:Nat) (cur:Array Value) (w:World),w.heap[g]?=some (.cells cur t fz)->(∀ j,j < cur.size->¬ (fz.1<=j/\j < fz.2))->o + i + vs.length<=cur.size->(∀ v∈vs,v.oneCell'=true) ->
  ∃ w' cur',(storeCells ⟨g,o,none⟩ vs i).run P w=.ok () w'/\w'.heap[g]?=some (.cells cur' t fz)/\cur'.size=cur.size/\(∀ j,cur'[j]?=if o + i<=j/\j < o + i + vs.length then vs[j - (o + i)]? else cur[j]?)/\(∀ b,b≠g->w'.heap[b]?=w.heap[b]?)/\w'.heap.size=w.heap.size/\Kp w w'
 | [],i,cur,w,h,hf,hl,ho=>⟨w,cur,rfl,h,rfl,fun j=>by rw [if_neg (by simp only [List.length_nil]; omega)],fun _ _=>rfl,rfl,Kp.refl w⟩
 | v :: vs,i,cur,w,h,hf,hl,ho=>by
  have hlt:o + i < cur.size:=by simp at hl; omega
  have ha:(⟨g,o,none⟩:Addr).add i=⟨g,o + i,none⟩:=by
   cases i with
   | zero=>simp [Addr.add]
   | succ i=>simp [Addr.add]
  have hc:w.cell? ⟨g,o + i,none⟩=some cur[o + i]:=by rw [cell_of h,Array.getElem?_eq_getElem hlt]
  have hfr:w.frozen? ⟨g,o + i,none⟩=false:=by
   have:=hf (o + i) hlt;simp only [World.frozen?,h]
   by_cases h1:fz.1<=o + i
   ·have:¬ (o + i < fz.2):=fun h2=>this ⟨h1,h2⟩
    simp [this]
   ·simp [h1]
  have hw1:(w.setCell ⟨g,o + i,none⟩ v).heap[g]?=some (.cells (cur.setIfInBounds (o + i) v) t fz):=by
   simp only [World.setCell,Array.getElem?_modify,↓reduceIte,h,Option.map_some,Option.isSome_none,Bool.false_eq_true]
  obtain ⟨w',cur',r1,r2,r3,r4,r5,r6,r7⟩:=nH g o t fz vs (i + 1) (cur.setIfInBounds (o + i) v) (w.setCell ⟨g,o + i,none⟩ v) hw1 (fun j hj=>hf j (by simpa using hj)) (by simp at hl ⊢; omega) (fun v hv=>ho v (List.mem_cons_of_mem _ hv));refine ⟨w',cur',?_,r2,by simpa using r3,fun j=>?_,fun b hb=>?_,by simpa using r6,r7⟩
  ·rw [storeCells,Sem.run_bind,ha,run_store P w _ v _ (ho v (by simp)),hc,hfr]
   exact r1
  ·rw [r4 j]
   by_cases h1:o + (i + 1)<=j/\j < o + (i + 1) + vs.length
   ·rw [if_pos h1,if_pos (by simp; omega),show j - (o + i)=(j - (o + (i + 1))) + 1 by omega,List.getElem?_cons_succ]
   ·rw [if_neg h1]
    by_cases h2:j=o + i
    ·subst h2
     rw [if_pos (by simp),Nat.sub_self,Array.getElem?_setIfInBounds_self_of_lt hlt];rfl
    ·rw [if_neg (by simp; omega),Array.getElem?_setIfInBounds_ne (Ne.symm h2)]
  ·rw [r5 b hb]
   simp only [World.setCell,Array.getElem?_modify];rw [if_neg (Ne.symm hb)]
theorem RO.lay {E:Env} {id:Nat} {w w':World} {l l' xs:List Ce} {ty:TypeId} {o:Nat} {vs:List Value} (h:RO E id w (.row l ty)) (hl:lay l o xs=some l') (hx:aQ (RC E) xs vs)
  {KU:Array Value} {fz:Nat×Nat} {arr:Array Value} (h0:w.heap[E.ι id]?=some (.cells arr ty fz)) (h1:w'.heap[E.ι id]?=some (.cells KU ty fz)) (h2:KU.size=arr.size)
  (h3:∀ j,KU[j]?=if E.sh id + o<=j/\j < E.sh id + o + vs.length then vs[j - (E.sh id + o)]? else arr[j]?):RO E id w' (.row l' ty):=by
 obtain ⟨a,f,k1,k2,k3,k4,k5⟩:=h;rw [h0] at k1;injection k1 with k1
 injection k1 with k1 _ k1'
 subst k1 k1';have hlen:=hx.length;refine ⟨KU,fz,h1,by rw [k2,h2],by rw [kz hl,h2]; exact k3,by rw [h2]; exact k4,fun i c hc=>?_⟩;rw [zJ hl] at hc;rw [h3]
 by_cases hi:o<=i/\i < o + xs.length
 ·rw [if_pos hi] at hc
  rw [if_pos (by omega),show E.sh id + i - (E.sh id + o)=i - o by omega];exact hx.get hc
 ·rw [if_neg hi] at hc
  rw [if_neg (by omega)];exact k5 i c hc
theorem heap_alloc {w:World} {o:Obj}:(w.alloc o).heap[w.heap.size]?=some o:=by
 show (w.heap.push o)[w.heap.size]?=some o;simp
theorem pY {w:World} {o:Obj} {b:Nat} (h:b < w.heap.size):(w.alloc o).heap[b]?=w.heap[b]?:=by
 show (w.heap.push o)[b]?=w.heap[b]?;rw [Array.getElem?_push,if_neg (Nat.ne_of_lt h)]
def Env.more (E:Env) (c b k:Nat):Env:={ E with ι:=fun i=>if i=c then b else E.ι i,sh:=fun i=>if i=c then 0 else E.sh i,κ:=fun i=>if i=c then k else E.κ i,D:=fun i=>E.D i\/i=c }
theorem Env.tN {E:Env} {c b k:Nat} (hc:¬ E.D c):Ext E (E.more c b k):=fun id hd=>by
 have:id≠c:=fun e=>hc (e ▸ hd)
 simp [Env.more,this,hd]
def cP (h:Nat->Option Ob) (c:Nat) (o:Option Ob):Nat->Option Ob:=fun i=>if i=c then o else h i
theorem bW (t:Tr Ob) (c:Nat) (o:Option Ob):(t.set c o).get=cP t.get c o:=by funext i; simp [cP,Tr.dI]
theorem Rel.made {X:Cx σ} {O:Outside σ} {E:Env} {h:Nat->Option Ob} {g:σ} {w:World} (r:Rel X O E h g w) {c:Nat} (hc:¬ E.D c) {w1:World} {ob:Obj} {o:Ob} {k:Nat}
  (hw:w1=w.alloc ob) (ho:RO (E.more c w.heap.size k) c w1 o) (OC:X.ng<=c):Rel X O (E.more c w.heap.size k) (cP h c (some o)) g w1/\iB E h c w (E.more c w.heap.size k) (cP h c (some o)) (c + 1) w1:=by
 have ext:Ext E (E.more c w.heap.size k):=Env.tN hc;have hold:∀ b,b < w.heap.size->w1.heap[b]?=w.heap[b]?:=fun b hb=>by rw [hw]; exact pY hb
 have hsz:w1.heap.size=w.heap.size + 1:=by rw [hw]; simp
 have hι:∀ i,i≠c->(E.more c w.heap.size k).ι i=E.ι i:=fun i hi=>by simp [Env.more,hi]
 have KW:(E.more c w.heap.size k).ι c=w.heap.size:=by simp [Env.more]
 have hne:∀ i,i≠c->cP h c (some o) i=h i:=fun i hi=>by simp [cP,hi]
 refine ⟨⟨fun id x hx=>?_,fun i j hi hj e=>?_,fun i hi=>?_,fun b hb=>?_,fun b hb=>?_,?_⟩,⟨ext,fun id hd=>?_,by omega,fun b hb _ _=>hold b hb,fun id hi=>?_,fun b hb=>.inl hb,fun id hi=>?_,by rw [hw]; exact ⟨rfl,rfl,rfl⟩⟩⟩
 ·by_cases hid:id=c
  ·subst hid
   simp only [cP,if_pos] at hx;injection hx with hx
   subst hx;exact ⟨by simp [Env.more],ho⟩
  ·rw [hne id hid] at hx
   obtain ⟨a,b⟩:=r.ob id x hx;exact ⟨(ext id a).1,b.ext ext a (hold _ (r.ji hx))⟩
 ·have lt:∀ i,i≠c->cP h c (some o) i≠none->(E.more c w.heap.size k).ι i < w.heap.size:=fun i hi hn=>by
   rw [hne i hi] at hn;cases hx:h i with
   | none=>exact absurd hx hn
   | some x=>rw [hι i hi]; exact r.ji hx
  by_cases h1:i=c <;> by_cases h2:j=c
  ·rw [h1,h2]
  ·subst h1; have:=lt j h2 hj; rw [KW] at e; omega
  ·subst h2; have:=lt i h1 hi; rw [KW] at e; omega
  ·rw [hι i h1,hι j h2] at e
   rw [hne i h1] at hi;rw [hne j h2] at hj;exact r.inj i j hi hj e
 ·by_cases h1:i=c
  ·subst h1
   rw [KW];intro hb;have:=r.lt _ hb;omega
  ·rw [hne i h1] at hi
   rw [hι i h1];exact r.apart i hi
 ·obtain ⟨a,b',d⟩:=r.kJ b hb
  have:b≠c:=by omega
  exact ⟨(ext b a).1,by rw [hι b this]; exact b',by simpa [Env.more,this] using d⟩
 ·have:=r.lt b hb
  omega
 ·exact O.dX _ _ _ _ _ r.out ext (fun _=>Iff.rfl) (fun b hb=>hold b (r.lt b hb)) (by omega) (by rw [hw]; exact ⟨rfl,rfl,rfl⟩)
 ·rcases hd with h | h
  ·exact .inl h
  ·exact .inr (by omega)
 ·by_cases h1:id=c
  ·subst h1; exact .inr (by rw [KW]; omega)
  ·rw [hne id h1] at hi
   exact .inl ⟨id,hi,hι id h1⟩
 ·by_cases h1:id=c
  ·exact .inr (by omega)
  ·rw [hne id h1] at hi
   exact .inl hi
theorem Rel.drawn {X:Cx σ} {O:Outside σ} {E:Env} {h:Nat->Option Ob} {g:σ} {w w':World} (r:Rel X O E h g w) (hw:w'.heap=w.heap) (hk:Kp w w':=by exact ⟨rfl,rfl,rfl⟩):Rel X O E h g w' :=
 ⟨fun id o hi=>⟨(r.ob id o hi).1,(r.ob id o hi).2.ext (Ext.refl E) (r.ob id o hi).1 (by rw [hw])⟩,r.inj,r.apart,r.kJ,by rw [hw]; exact r.lt,O.dX _ _ _ _ _ r.out (Ext.refl E) (fun _=>Iff.rfl) (fun b _=>by rw [hw]) (by rw [hw]; exact Nat.le_refl _) hk⟩
theorem Rel.wrote {X:Cx σ} {O:Outside σ} {E:Env} {h:Nat->Option Ob} {g:σ} {w w':World} (r:Rel X O E h g w) {id:Nat} {o o':Ob} (hi:h id=some o) (ho:RO E id w' o')
  (hw:∀ b,b≠E.ι id->w'.heap[b]?=w.heap[b]?) (hs:w'.heap.size=w.heap.size) (c:Nat) (hk:Kp w w':=by exact ⟨rfl,rfl,rfl⟩):Rel X O E (cP h id (some o')) g w'/\iB E h c w E (cP h id (some o')) c w':=by
 have hne:∀ i,cP h id (some o') i≠none->h i≠none:=fun i hn=>by
  by_cases e:i=id
  ·subst e; rw [hi]; simp
  ·simpa [cP,e] using hn
 refine ⟨⟨fun i x hx=>?_,fun i j a b e=>r.inj i j (hne i a) (hne j b) e,fun i a=>r.apart i (hne i a),r.kJ,fun b hb=>by rw [hs]; exact r.lt b hb,?_⟩,⟨Ext.refl E,fun _ h=>.inl h,by omega,fun b hb hB hI=>?_,fun i hn=>.inl ⟨i,hne i hn,rfl⟩,fun _ h=>.inl h,fun i hn=>.inl (hne i hn),hk⟩⟩
 ·by_cases e:i=id
  ·subst e
   simp only [cP,if_pos] at hx;injection hx with hx
   subst hx;exact ⟨(r.ob i o hi).1,ho⟩
  ·simp only [cP,if_neg e] at hx
   obtain ⟨a,b⟩:=r.ob i x hx;exact ⟨a,b.ext (Ext.refl E) a (hw _ fun e'=>e (r.inj i id (by rw [hx]; simp) (by rw [hi]; simp) e'))⟩
 ·exact O.dX _ _ _ _ _ r.out (Ext.refl E) (fun _=>Iff.rfl) (fun b hb=>hw b fun e=>r.apart id (by rw [hi]; simp) (e ▸ hb)) (by omega) hk
 ·exact hw b (hI id (by rw [hi]; simp)).symm
end Ev
namespace Ev
open Go
variable {σ:Type}
structure kg (X:Cx σ):Prop where
 und:∀ t d,X.und t=some d->X.P.underlying t=some d
 inf:∀ t i,X.inf t=some i->∃ ti,X.P.info? t=some ti/\ti.size=i.size/\ti.bytes=i.bytes/\ti.zero=some i.zero
 R_:∀ t i,X.inf t=some i->i.zero.cells.size=i.size
 fn : ∀ f i, X.fn f = some i -> ∃ F, X.P.funcs[f]? = some F /\ F.body = some i.body /\ F.ntmps = i.nt /\ F.results.toList = i.res /\ (F.name == "runtime.NumGoroutine") = false
 mixed:X.P.follows .mixedOrders=true
theorem Gj {P:Program} {s:Sem Value} {w w':World} {y:Value} (h:s.run P w=.ok y w'):(do pure (Next.value (<- s)):Sem Next).run P w=.ok (.value y) w':=by
 rw [Sem.run_bind,h]; rfl
theorem RM {P:Program} {s:Sem Unit} {w w':World} (h:s.run P w=.ok () w'):(do s; pure Next.skip:Sem Next).run P w=.ok .skip w':=by
 rw [Sem.run_bind,h]; rfl
theorem qP {P:Program} {t:TypeId} {d:TypeDesc} (h:P.underlying t=some d) (w:World):(isAgg t).run P w=.ok (rV d) w:=by
 unfold isAgg;rw [Sem.run_bind,run_underlying h];cases d <;> rfl
theorem bm {P:Program} {t:TypeId} {i:TypeInfo} (h:P.info? t=some i) (w:World):(sizeOf t).run P w=.ok i.size w:=by
 simp [sizeOf,typeInfo,h]
theorem gU {P:Program} {t:TypeId} {i:TypeInfo} {z:Value} (h:P.info? t=some i) (hz:i.zero=some z) (w:World):(zeroValue t).run P w=.ok z w:=by
 simp [zeroValue,typeInfo,h,hz]
theorem qC {E:Env} {d:TypeDesc} {l:List Ce} {v:AV} (h:iD d l=some v):(rV d=true/\v=.w (.agg l))\/(rV d=false/\∃ c,l=[c]/\v=.w (.one c)):=by
 unfold iD at h;split at h
 ·rename_i hd; injection h with h; exact .inl ⟨hd,h.symm⟩
 ·rename_i hd
  split at h
  ·rename_i c; injection h with h; exact .inr ⟨hd,c,rfl,h.symm⟩
  ·cases h
theorem fH {S:Tr Ob} {id:Nat} {l:List Ce} (h:look S id=some l):∃ ty,S.get id=some (.row l ty):=by
 unfold look at h;split at h
 ·rename_i l' ty e; injection h with h; subst h; exact ⟨ty,e⟩
 ·cases h
theorem qM {X:Cx σ} (hX:kg X) {E:Env} {w:World} {id off:Nat} {l:List Ce} {ty:TypeId} (hr:RO E id w (.row l ty)) {t:TypeId} {d:TypeDesc} {i:TI} (hd:X.und t=some d) (hi:X.inf t=some i)
  {v:AV} (h:(cut l off (match rV d with | true=>i.size | false=>1)).bind (iD d)=some v):∃ y,(loadVar t ⟨E.ι id,E.sh id + off,none⟩).run X.P w=.ok y w/\RV E v y:=by
 obtain ⟨ti,i1,i2,_⟩:=hX.inf _ _ hi;rw [Option.bind_eq_some_iff] at h;obtain ⟨cs,h1,h2⟩:=h;obtain ⟨c1,vs,c2,c3,c4⟩:=ly hr h1;unfold loadVar;rw [Sem.run_bind,qP (hX.und _ _ hd)];rcases qC (E:=E) h2 with ⟨ha,rfl⟩ | ⟨ha,c,rfl,rfl⟩
 ·rw [ha] at c2 ⊢
  refine ⟨.agg vs.toArray,?_,vs.toArray,rfl,c3⟩;simp only [Result.andThen_ok,if_true,Sem.run_bind,bm i1,i2,ed c4 c2,Sem.run_pure]
 ·rw [ha] at c2 ⊢
  match vs,c3,c4 with
  | [y],c3,c4 =>
   refine ⟨y,?_,c3.1⟩;have:=c4 0 y rfl;simp only [Nat.add_zero] at this;simp only [Result.andThen_ok,Bool.false_eq_true,if_false,run_load,this]
theorem No {X:Cx σ} (hX:kg X) {E:Env} {w:World} {id off:Nat} {l:List Ce} {ty:TypeId} (hr:RO E id w (.row l ty)) {t:TypeId} {d:TypeDesc} {i:TI} (hd:X.und t=some d) (hi:X.inf t=some i)
  {v:AV} (h:(cut l off (match rV d with | true=>i.size | false=>1)).bind (iD d)=some v):∃ y,(Instr.loadAt t (.pointer (some ⟨E.ι id,E.sh id + off,none⟩))).run X.P w=.ok y w/\RV E v y:=by
 obtain ⟨y,h1,h2⟩:=qM hX hr hd hi h;exact ⟨y,by simpa [Instr.loadAt,Instr.sureAddr] using h1,h2⟩
theorem rU {A:Array Value} {o k:Nat}:(A.extract o (o + k)).toList=(A.toList.drop o).take k:=by
 simp [Array.toList_extract,List.extract]
theorem aQ.take {α β:Type} {R:α->β->Prop}:∀ {l:List α} {r:List β} (k:Nat),aQ R l r->aQ R (l.take k) (r.take k)
 | _,_,0,_=>by simp; trivial
 | [],[],_ + 1,_=>trivial
 | _ :: _,_ :: _,k + 1,⟨a,b⟩=>⟨a,aQ.take k b⟩
theorem aQ.drop {α β:Type} {R:α->β->Prop}:∀ {l:List α} {r:List β} (k:Nat),aQ R l r->aQ R (l.drop k) (r.drop k)
 | _,_,0,h=>by simpa using h
 | [],[],_ + 1,_=>trivial
 | _ :: _,_ :: _,k + 1,⟨_,b⟩=>by simpa using aQ.drop k b
theorem EU {X:Cx σ} (hX:kg X) {E:Env} {w:World} {l:List Ce} {A:Array Value} (hr:aQ (RC E) l A.toList) {t:TypeId} {off:Nat} {v:AV} (h:y_ X t l off=some v) :
  ∃ y,(part t A off).run X.P w=.ok y w/\RV E v y:=by
 simp only [y_,Option.bind_eq_some_iff] at h;obtain ⟨d,hd,i,hi,h⟩:=h;obtain ⟨ti,i1,i2,_⟩:=hX.inf _ _ hi;unfold part;rw [Sem.run_bind,qP (hX.und _ _ hd)];split at h
 ·rename_i ha
  rw [Option.map_eq_some_iff] at h;obtain ⟨cs,h1,rfl⟩:=h;obtain ⟨c1,c2⟩:=gZ h1;refine ⟨.agg (A.extract off (off + i.size)),?_,_,rfl,?_⟩
  ·simp only [Result.andThen_ok,ha,if_true,Sem.run_bind,bm i1,i2,Sem.run_pure]
  ·rw [rU,c2]
   exact (hr.drop off).take i.size
 ·rename_i ha
  rw [Option.bind_eq_some_iff] at h;obtain ⟨cs,h1,h2⟩:=h;obtain ⟨c1,c2⟩:=gZ h1;rcases qC (E:=E) h2 with ⟨ha',_⟩ | ⟨_,c,rfl,rfl⟩
  ·rw [ha] at ha'; cases ha'
  ·have hl:l[off]?=some c:=by
    have:((l.drop off).take 1)[0]?=some c:=by rw [<- c2]; rfl
    simpa using this
   obtain ⟨y,g1,g2⟩:=hr.get hl;refine ⟨y,?_,g2⟩;have:A[off]?=some y:=by simpa using g1
   simp only [Result.andThen_ok,ha,Bool.false_eq_true,if_false,this,Sem.run_pure]
theorem lh {E:Env} {v:AV} {n:Nat} {y:Value} (h:lH v=some n) (hr:RV E v y):∃ k,y=.int k (n:Int):=by
 unfold lH at h;split at h
 ·rename_i k m; injection h with h; subst h; exact ⟨k,hr.1⟩
 ·cases h
theorem lG {b o k:Nat}:(⟨b,o,none⟩:Addr).add k=⟨b,o + k,none⟩:=by
 unfold Addr.add;split
 ·rename_i h; subst h; rfl
 ·rfl
theorem CX {X:Cx σ} (hX:kg X) {w:World} {t:TypeId} {fs:Array Field} {f:Nat} {fd:Field} {i:TI} {b o:Nat} (hd:X.und t=some (.struct fs)) (hf:fs[f]?=some fd) (hi:X.inf fd.type=some i) (h1:1<=i.size) :
  (Instr.fieldAt t (.pointer (some ⟨b,o,none⟩)) f).run X.P w=.ok (.pointer (some ⟨b,o + fd.offset,none⟩)) w:=by
 obtain ⟨ti,i1,i2,_⟩:=hX.inf _ _ hi;have h0:¬ (ti.size=0):=by omega
 simp [Instr.fieldAt,run_underlying (hX.und _ _ hd),hf,Instr.sureAddr,fieldPlace,bm i1,h0,lG]
theorem mW {X:Cx σ} (hX:kg X) {w:World} {t e:TypeId} {ie:TI} {k:IntKind} {i len cap:Nat} {a:Addr} (hd:X.und t=some (.slice e)) (hi:X.inf e=some ie) (h:i < len) :
  (Instr.indexAt t (.slice (some a) len cap) (.int k (i:Int))).run X.P w=.ok (.pointer (some (a.add (i * ie.size)))) w:=by
 obtain ⟨ti,i1,i2,_⟩:=hX.inf _ _ hi;have h1:(i:Int) < (len:Int):=by omega
 simp [Instr.indexAt,asIntOf,run_underlying (hX.und _ _ hd),bm i1,h1,i2];intro hh;omega
theorem mX {X:Cx σ} (hX:kg X) {w:World} {t e:TypeId} {ie:TI} {k:IntKind} {i len:Nat} {a:Addr} (hd:X.und t=some (.array len e)) (hi:X.inf e=some ie) (h:i < len) :
  (Instr.indexAt t (.pointer (some a)) (.int k (i:Int))).run X.P w=.ok (.pointer (some (a.add (i * ie.size)))) w:=by
 obtain ⟨ti,i1,i2,_⟩:=hX.inf _ _ hi;have h1:(i:Int) < (len:Int):=by omega
 simp [Instr.indexAt,asIntOf,run_underlying (hX.und _ _ hd),bm i1,h1,i2,Instr.sureAddr];intro hh;omega
theorem bX {P:Program} {w:World} {k:IntKind} {i y:Nat} {c:BoundsCode} (h:i<=y):(Instr.sliceBound (.int k (i:Int)) y c).run P w=.ok i w:=by
 have h1:(i:Int)<=(y:Int):=by omega
 simp [Instr.sliceBound,asIntOf,h1]
end Ev
namespace Ev
open Go
variable {σ:Type}
theorem jW {P:Program} {α β:Type} {w:World} (f:α->Sem β):∀ {l:List α} {r:List β},aQ (fun x y=>(f x).run P w=.ok y w) l r->(l.mapM f).run P w=.ok r w
 | [],[],_=>by simp [List.mapM_nil]
 | x :: l,y :: r,⟨a,b⟩=>by simp [List.mapM_cons,a,jW f b]
theorem uW {P:Program} {α β:Type} {w:World} (f:α->Sem β) {A:Array α} {r:List β} (h:aQ (fun x y=>(f x).run P w=.ok y w) A.toList r):(A.mapM f).run P w=.ok r.toArray w:=by
 rw [Array.mapM_eq_mapM_toList,Sem.run_map,jW f h];rfl
theorem qN {α β:Type} {f:α->Option β}:∀ {l:List α} {r:List β},gk f l=some r->aQ (fun x y=>f x=some y) l r
 | [],r,h=>by simp only [gk] at h; injection h with h; subst h; trivial
 | x :: l,r,h=>by
  simp only [gk,Option.bind_eq_some_iff] at h;obtain ⟨y,h1,r',h2,h3⟩:=h;injection h3 with h3
  subst h3;exact ⟨h1,qN h2⟩
theorem qE (off:Nat):∀ (vs:List Value) (i:Nat) (A:Array Value) (k:Nat),off + i + vs.length<=A.size ->
  ((vs.zipIdx i).foldl (fun cs (p:Value×Nat)=>cs.setIfInBounds (off + p.2) p.1) A)[k]?=if off + i<=k/\k < off + i + vs.length then vs[k - (off + i)]? else A[k]?
 | [],i,A,k,_=>by rw [if_neg (by simp only [List.length_nil]; omega)]; rfl
 | v :: vs,i,A,k,h=>by
  rw [List.zipIdx_cons,List.foldl_cons,qE off vs (i + 1) _ k (by simp at h ⊢; omega)];have hlt:off + i < A.size:=by simp at h; omega
  by_cases h1:off + (i + 1)<=k/\k < off + (i + 1) + vs.length
  ·rw [if_pos h1,if_pos (by simp; omega),show k - (off + i)=(k - (off + (i + 1))) + 1 by omega,List.getElem?_cons_succ]
  ·rw [if_neg h1]
   by_cases h2:k=off + i
   ·subst h2
    rw [if_pos (by simp),Nat.sub_self,Array.getElem?_setIfInBounds_self_of_lt hlt];rfl
   ·rw [if_neg (by simp; omega),Array.getElem?_setIfInBounds_ne (Ne.symm h2)]
theorem oZ (off:Nat):∀ (vs:List (Value×Nat)) (A:Array Value),(vs.foldl (fun cs (p:Value×Nat)=>cs.setIfInBounds (off + p.2) p.1) A).size=A.size
 | [],A=>rfl
 | v :: vs,A=>by rw [List.foldl_cons,oZ off vs]; simp
theorem s9 {E:Env} (place ym:Nat->Option (Nat×Nat)):∀ {ps:List (Nat×List Ce)} {qs:List (Nat×Value)} {cs r:List Ce} {A:Array Value},jS place cs ps=some r->aQ (RC E) cs A.toList ->
  aQ (fun x y=>x.1=y.1/\aQ (RC E) x.2 y.2.cells.toList) ps qs->(∀ i x,place i=some x->ym i=some x)->∃ B,Instr.fill ym A qs=some B/\aQ (RC E) r B.toList
 | [],[],cs,r,A,h,hA,_,_=>by simp only [jS] at h; injection h with h; subst h; exact ⟨A,rfl,hA⟩
 | (i,l) :: ps,(j,v) :: qs,cs,r,A,h,hA,⟨⟨hi,hv⟩,hq⟩,hp=>by
  simp only [jS,Option.bind_eq_some_iff] at h;obtain ⟨⟨off,size⟩,h1,h2⟩:=h;dsimp only at h2;rw [aE,Option.bind_eq_some_iff] at h2;obtain ⟨h2,cs',h3,h4⟩:=h2;dsimp only at hi hv;subst hi;have hsz:l.length=size:=Nat.eq_of_beq_eq_true h2;have hlen:=hv.length;have Xj:=hA.length;obtain ⟨h5,_⟩:=eX h3;have e1:v.cells.size=size:=by rw [<- hsz,hlen]; simp
  simp only [Array.length_toList] at hlen Xj;have hc:¬ (v.cells.size≠size || off + v.cells.size > A.size)=true:=by simp; omega
  obtain ⟨B,b1,b2⟩:=s9 place ym (ps:=ps) (qs:=qs) (A:=v.cells.zipIdx.foldl (fun cs (c,j)=>cs.setIfInBounds (off + j) c) A) h4 (by
   have ez:v.cells.zipIdx.foldl (fun cs (c,j)=>cs.setIfInBounds (off + j) c) A=(v.cells.toList.zipIdx 0).foldl (fun cs (p:Value×Nat)=>cs.setIfInBounds (off + p.2) p.1) A:=by
    rw [<- Array.foldl_toList,Array.toList_zipIdx]
   rw [ez];refine aQ.xF (by rw [kz h3,Xj,Array.length_toList,oZ]) fun k x y hx hy=>?_
   rw [Array.getElem?_toList,qE off _ _ _ _ (by simp; omega)] at hy;rw [zJ h3] at hx;simp only [Nat.add_zero,Array.length_toList] at hy
   by_cases hk:off<=k/\k < off + l.length
   ·rw [if_pos hk] at hx
    rw [if_pos (by omega)] at hy;obtain ⟨y',g1,g2⟩:=hv.get hx;rw [hy] at g1;injection g1 with g1
    rw [g1]; exact g2
   ·rw [if_neg hk] at hx
    rw [if_neg (by omega)] at hy;obtain ⟨y',g1,g2⟩:=hA.get hx;rw [Array.getElem?_toList,hy] at g1;injection g1 with g1
    rw [g1]; exact g2) hq hp
  refine ⟨B,?_,b2⟩;simp only [Instr.fill,hp _ _ h1];rw [if_neg hc];exact b1
theorem rM {X:Cx σ} {E:Env} {ρ:Operand->Option AV} {r:Operand->Value} (hρ:∀ x a,ρ x=some a->RV E a (r x)):∀ {l:List (Nat×Operand)} {ps:List (Nat×List Ce)},
  gk (fun p:Nat×Operand=>(ρ p.2).bind fun v=>(cells v).map fun l=>(p.1,l)) l=some ps->aQ (fun x y=>x.1=y.1/\aQ (RC E) x.2 y.2.cells.toList) ps (l.map fun (i,x)=>(i,r x))
 | [],ps,h=>by simp only [gk] at h; injection h with h; subst h; trivial
 | (i,x) :: l,ps,h=>by
  simp only [gk,Option.bind_eq_some_iff,Option.map_eq_some_iff] at h;obtain ⟨y,⟨v,h1,c,h2,h3⟩,r',h4,h5⟩:=h;injection h5 with h5
  subst h3 h5;exact ⟨⟨rfl,rO h2 (hρ _ _ h1)⟩,rM (X:=X) hρ h4⟩
theorem JZ {X:Cx σ} (hX:kg X) {E:Env} {w:World} {ρ:Operand->Option AV} {r:Operand->Value} (hρ:∀ x a,ρ x=some a->RV E a (r x)) {t:TypeId} {parts:Array (Nat×Operand)} {d:TypeDesc} {i:TI} {z:List Ce} {ps:List (Nat×List Ce)} {v:AV}
  (hd:X.und t=some d) (hi:X.inf t=some i) (hz:i_ i.zc=some z) (hps:gk (fun p:Nat×Operand=>(ρ p.2).bind fun v=>(cells v).map fun l=>(p.1,l)) parts.toList=some ps)
  (h:wK X d z ps=some v):∃ y,(Instr.build t (parts.map fun (i,x)=>(i,r x))).run X.P w=.ok y w/\RV E v y:=by
 obtain ⟨ti,i1,i2,_,i4⟩:=hX.inf _ _ hi;have Vd:aQ (RC E) z i.zero.cells.toList:=gF hz;have hpr:=rM (X:=X) hρ hps;have hq:(parts.map fun (i,x)=>(i,r x)).toList=parts.toList.map fun (i,x)=>(i,r x):=by simp
 unfold wK at h;unfold Instr.build;simp only [Sem.run_bind,gU i1 i4,Result.andThen_ok,Sem.run_pure,run_underlying (hX.und _ _ hd)];split at h
 ·rename_i fs
  simp only [Option.bind_eq_some_iff,Option.map_eq_some_iff] at h;obtain ⟨pl,h1,l,h2,rfl⟩:=h;have hpl:aQ (fun (f:Field) y=>(do pure (f.offset,<- sizeOf f.type):Sem (Nat×Nat)).run X.P w=.ok y w) fs.toList pl:=by
   refine (qN h1).mono fun f y hy=>?_
   rw [Option.map_eq_some_iff] at hy;obtain ⟨fi,f1,rfl⟩:=hy;obtain ⟨Zf,j1,j2,_⟩:=hX.inf _ _ f1;simp [bm j1,j2]
  obtain ⟨B,b1,b2⟩:=s9 (E:=E) _ (fun i=>pl.toArray[i]?) h2 Vd hpr (fun i x hx=>by simpa using hx);refine ⟨.agg B,?_,B,rfl,b2⟩;simp only [Sem.run_bind,uW _ hpl,Result.andThen_ok,hq]
  erw [b1]
  rfl
 ·rename_i n e
  simp only [Option.bind_eq_some_iff,Option.map_eq_some_iff] at h;obtain ⟨ie,h1,l,h2,rfl⟩:=h;obtain ⟨Zf,j1,j2,_⟩:=hX.inf _ _ h1;obtain ⟨B,b1,b2⟩:=s9 (E:=E) _ (fun i=>some (i * ie.size,ie.size)) h2 Vd hpr (fun i x hx=>hx);refine ⟨.agg B,?_,B,rfl,b2⟩;simp only [Sem.run_bind,bm j1,Result.andThen_ok,j2,hq]
  erw [b1]
  rfl
 ·cases h
section
variable {P:Program} {n:Nat} {t:TypeId} {w:World}
theorem nK {e:TypeId} (h:P.underlying t=some (.pointer e)) (q:Addr):(Op.equalIn (n + 1) t (.pointer (some q)) (.pointer none)).run P w=.ok false w/\(Op.equalIn (n + 1) t (.pointer none) (.pointer (some q))).run P w=.ok false w:=by
 constructor <;> simp only [Op.equalIn,Sem.run_bind,run_underlying h,Result.andThen_ok,Sem.run_pure,Option.isNone_some]
theorem GS {e:TypeId} (h:P.underlying t=some (.slice e)) (q:Addr) (a b c d:Nat):(Op.equalIn (n + 1) t (.slice (some q) a b) (.slice none c d)).run P w=.ok false w/\(Op.equalIn (n + 1) t (.slice none c d) (.slice (some q) a b)).run P w=.ok false w:=by
 constructor <;> simp only [Op.equalIn,Sem.run_bind,run_underlying h,Result.andThen_ok,Sem.run_pure,Option.isNone_some]
theorem DQ {k e:TypeId} (h:P.underlying t=some (.map k e)) (q:Nat):(Op.equalIn (n + 1) t (.map (some q)) (.map none)).run P w=.ok false w/\(Op.equalIn (n + 1) t (.map none) (.map (some q))).run P w=.ok false w:=by
 constructor <;> simp only [Op.equalIn,Sem.run_bind,run_underlying h,Result.andThen_ok,Sem.run_pure,Option.isNone_some]
theorem Gn {p r:Array TypeId} {v:Bool} (h:P.underlying t=some (.func p r v)) (f:Fn) (A B:Array Value):(Op.equalIn (n + 1) t (.func f A B) .nilFunc).run P w=.ok false w/\(Op.equalIn (n + 1) t .nilFunc (.func f A B)).run P w=.ok false w:=by
 constructor <;> simp only [Op.equalIn,Sem.run_bind,run_underlying h,Result.andThen_ok,Sem.run_pure]
end
theorem rB {X:Cx σ} (hX:kg X) {E:Env} {w:World} {t:TypeId} {d:TypeDesc} {a:AV} {u v:Value} (hd:X.und t=some d) (hr:RV E a u) (h1:nB d a=true) (h2:dG d v=true) :
  (Op.equal t u v).run X.P w=.ok false w/\(Op.equal t v u).run X.P w=.ok false w/\(∀ op x y,eqGuard op t x y u v=pure ())/\(∀ op x y,eqGuard op t x y v u=pure ()) /\
   binOp .eql t u v=(do pure (.bool (<- Op.equal t u v)))/\binOp .neq t u v=(do pure (.bool (!(<- Op.equal t u v))))/\binOp .eql t v u=(do pure (.bool (<- Op.equal t v u)))/\binOp .neq t v u=(do pure (.bool (!(<- Op.equal t v u)))):=by
 have hu:=hX.und _ _ hd;unfold nB at h1;split at h1
 ·rename_i e id off
  obtain ⟨_,rfl⟩:=hr;cases v with
  | pointer p=>cases p with
   | none=>exact ⟨(nK hu _).1,(nK hu _).2,fun op x y=>by cases op <;> rfl,fun op x y=>by cases op <;> rfl,rfl,rfl,rfl,rfl⟩
   | some p=>simp [dG] at h2
  | _=>simp [dG] at h2
 ·rename_i e k
  obtain ⟨_,_,q,rfl⟩:=hr;cases v with
  | pointer p=>cases p with
   | none=>exact ⟨(nK hu _).1,(nK hu _).2,fun op x y=>by cases op <;> rfl,fun op x y=>by cases op <;> rfl,rfl,rfl,rfl,rfl⟩
   | some p=>simp [dG] at h2
  | _=>simp [dG] at h2
 ·rename_i e id off len cp ez
  obtain ⟨_,q,c,rfl,_⟩:=hr;cases v with
  | slice p=>cases p with
   | none=>exact ⟨(GS hu _ _ _ _ _).1,(GS hu _ _ _ _ _).2,fun op x y=>by cases op <;> rfl,fun op x y=>by cases op <;> rfl,rfl,rfl,rfl,rfl⟩
   | some p=>simp [dG] at h2
  | _=>simp [dG] at h2
 ·rename_i kt et id
  obtain ⟨_,rfl⟩:=hr;cases v with
  | map p=>cases p with
   | none=>exact ⟨(DQ hu _).1,(DQ hu _).2,fun op x y=>by cases op <;> rfl,fun op x y=>by cases op <;> rfl,rfl,rfl,rfl,rfl⟩
   | some p=>simp [dG] at h2
  | _=>simp [dG] at h2
 ·rename_i ps rs va f fi ca
  obtain ⟨A,B,rfl,_⟩:=hr;cases v with
  | nilFunc=>exact ⟨(Gn hu _ _ _).1,(Gn hu _ _ _).2,fun op x y=>by cases op <;> rfl,fun op x y=>by cases op <;> rfl,rfl,rfl,rfl,rfl⟩
  | _=>simp [dG] at h2
 ·cases h1
theorem Q3 {j k:IntKind} (h:Nat.beq (kn j) (kn k)=true):j=k:=by
 cases j <;> cases k <;> first | rfl | cases h
theorem Ff (k:IntKind) (n:Int):qU k n=k.wrap n:=by
 unfold qU;split
 ·rename_i m
  split
  ·rename_i h
   have h:=Nat.le_of_ble_eq_true h;show (m:Int)=k.wrap (m:Int);unfold IntKind.wrap;cases k <;> simp [IntKind.signed,IntKind.bits,QE] at h ⊢ <;> omega
  ·rfl
 ·rfl
theorem Ol (a b:Int):TC a b=(a == b):=by
 cases a <;> cases b <;> simp only [TC] <;> rw [Bool.eq_iff_iff]
 ·rw [Nat.beq_eq,beq_iff_eq]; exact ⟨fun h=>by rw [h],fun h=>by injection h⟩
 ·simp
 ·simp
 ·rw [Nat.beq_eq,beq_iff_eq]; exact ⟨fun h=>by rw [h],fun h=>by injection h⟩
theorem NH (a b:Int):Pk a b=decide (a<=b):=by
 cases a <;> cases b <;> simp only [Pk] <;> rw [Bool.eq_iff_iff,decide_eq_true_iff]
 ·rw [Nat.ble_eq]; simp [Int.ofNat_le]
 ·simp only [Bool.false_eq_true,false_iff,Int.negSucc_eq,Int.ofNat_eq_natCast]; omega
 ·simp only [true_iff,Int.negSucc_eq,Int.ofNat_eq_natCast]; omega
 ·rw [Nat.ble_eq]; simp only [Int.negSucc_eq]; omega
theorem Co {P:Program} {op:BinOp} {t:TypeId} {x y:Operand} {u v r:Value} (h:lf op u v=some r) (w:World):(do eqGuard op t x y u v; binOp op t u v).run P w=.ok r w/\r.oneCell'=true:=by
 cases u with
 | int j a=>cases v with
  | int k b =>
   simp only [lf] at h;split at h
   ·rename_i hk
    have:=Q3 hk;subst this;rw [eqGuard_at_int];unfold Ht at h;cases op <;> simp only [reduceCtorEq,Option.some.injEq] at h <;> subst h <;> refine ⟨?_,rfl⟩ <;> simp only [pure_bind,binOp_add,binOp_sub,binOp_eql,binOp_neq,binOp_lss,binOp_leq,binOp_gtr,binOp_geq,Op.intArith,Op.intCmp,Ff,Ol,NH,Sem.run_pure]
    ·rfl
    ·rfl
    ·rfl
    ·congr 2; rw [Bool.eq_iff_iff]; simp
    ·congr 2; rw [Bool.eq_iff_iff]; simp
   ·cases h
  | _=>simp [lf] at h
 | _=>simp [lf] at h
theorem Jv {X:Cx σ} (hX:kg X) {E:Env} {w:World} {op:BinOp} {t:TypeId} {x y:Operand} {a b v:AV} {u u':Value} (h:GN X op t x y a b=some v) (ha:RV E a u) (hb:RV E b u') :
  ∃ r,(do eqGuard op t x y u u'; binOp op t u u').run X.P w=.ok r w/\RV E v r:=by
 unfold GN at h;split at h
 ·rename_i p q hp hq
  rw [dF hp ha,dF hq hb];split at h
  ·rename_i r hr
   injection h with h
   subst h;obtain ⟨g1,g2⟩:=Co (P:=X.P) (t:=t) (x:=x) (y:=y) hr w;exact ⟨r,g1,rfl,g2⟩
  ·simp only [Option.bind_eq_some_iff,Option.map_eq_some_iff] at h
   obtain ⟨r,h1,v',h2,rfl⟩:=h;exact ⟨r,tH h1 w,oI h2⟩
 ·rename_i q hp hq
  rw [dF hq hb];simp only [Option.bind_eq_some_iff,aE,Bool.and_eq_true] at h;obtain ⟨d,hd,⟨h1,h2⟩,h3⟩:=h;obtain ⟨e1,_,g1,_,b1,b2,_,_⟩:=rB hX (w:=w) hd ha h1 h2;cases op <;> simp only [reduceCtorEq,Option.some.injEq] at h3 <;> subst h3
  ·exact ⟨.bool false,by rw [g1,b1]; simp [e1],rfl,rfl⟩
  ·exact ⟨.bool true,by rw [g1,b2]; simp [e1],rfl,rfl⟩
 ·rename_i q hp hq
  rw [dF hp ha];simp only [Option.bind_eq_some_iff,aE,Bool.and_eq_true] at h;obtain ⟨d,hd,⟨h1,h2⟩,h3⟩:=h;obtain ⟨_,e1,_,g1,_,_,b1,b2⟩:=rB hX (w:=w) hd hb h1 h2;cases op <;> simp only [reduceCtorEq,Option.some.injEq] at h3 <;> subst h3
  ·exact ⟨.bool false,by rw [g1,b1]; simp [e1],rfl,rfl⟩
  ·exact ⟨.bool true,by rw [g1,b2]; simp [e1],rfl,rfl⟩
 ·cases h
end Ev
namespace Ev
open Go
variable {σ:Type}
theorem tz {E:Env}:∀ {l:List Ce} {vs:List Value} {bs:List UInt8},lY l=some bs->aQ (RC E) l vs->∃ ns:List Int,vs=ns.map (Value.int .u8)/\ns.map (fun n=>UInt8.ofNat n.toNat)=bs
 | [],vs,bs,h,hr=>by simp only [lY] at h; injection h with h; subst h; rw [hr.gS]; exact ⟨[],rfl,rfl⟩
 | c :: l,[],_,_,hr=>hr.elim
 | c :: l,v :: vs,bs,h,⟨hc,hr⟩=>by
  unfold lY at h;split at h
  ·rename_i e; cases e
  ·rename_i n l' e
   injection e with e1 e2
   subst e1 e2;rw [aE,Option.map_eq_some_iff] at h;obtain ⟨_,bs',h1,rfl⟩:=h;obtain ⟨ns,rfl,h2⟩:=tz h1 hr;refine ⟨(n:Int) :: ns,?_,?_⟩
   ·rw [hc.1]; rfl
   ·simp [h2]
  ·cases h
theorem Ai (ns:List Int):∀ s:ByteArray,ns.foldl (fun r n=>r.push (UInt8.ofNat n.toNat)) s=⟨s.data ++ (ns.map fun n=>UInt8.ofNat n.toNat).toArray⟩:=by
 induction ns with
 | nil=>intro s; simp
 | cons n ns ih =>
  intro s;rw [List.foldl_cons,ih]
  congr 1
  apply Array.ext'
  simp [ByteArray.push]
theorem wJ {E:Env} {w:World} {id off len ez:Nat} {cp:Option Nat} {y:Value} (hy:RA E (.sl id off len cp ez) y) {l:List Ce} {ty:TypeId} (hr:RO E id w (.row l ty)) {k:Nat} {cs:List Ce} (hk:k<=len) (hc:cut l off (k * ez)=some cs) :
  ∃ a c vs,y=.slice (some a) len c/\vs.length=k * ez/\aQ (RC E) cs vs/\(∀ P:Program,(loadCells a (k * ez)).run P w=.ok vs.toArray w):=by
 obtain ⟨_,a,c,h1,h2,h3,_⟩:=hy;obtain ⟨c1,vs,c2,c3,c4⟩:=ly hr hc;refine ⟨a,c,vs,h1,c2,c3,fun P=>?_⟩;rcases h3 with h3 | ⟨h3,_⟩
 ·have hk0:k=0:=by omega
  subst hk0;simp only [Nat.zero_mul] at c2 ⊢;rw [List.length_eq_zero_iff.1 c2];rfl
 ·rw [h3]
  exact ed c4 c2
theorem QV {X:Cx σ} (hX:kg X) {E:Env} {w:World} {src dst e:TypeId} {id off len ez:Nat} {cp:Option Nat} {y:Value} (hy:RA E (.sl id off len cp ez) y) (hs:X.und src=some (.slice e)) (hd:X.und dst=some .string) (he:X.und e=some (.int .u8))
  {l:List Ce} {ty:TypeId} (hr:RO E id w (.row l ty)) (hz:ez=1) {cs:List Ce} (hc:cut l off len=some cs) {bs:List UInt8} (hb:lY cs=some bs):(convert src dst y).run X.P w=.ok (.string ⟨bs.toArray⟩) w:=by
 subst hz;obtain ⟨a,c,vs,rfl,v1,v2,v3⟩:=wJ hy hr lq (k:=len) (by simpa using hc);obtain ⟨ns,rfl,n2⟩:=tz hb v2;rw [run_convert_bytes_string w src dst e _ _ _ (hX.und _ _ hs) (hX.und _ _ he) (hX.und _ _ hd),run_bytesToString w a len c ns (by have:=v3 X.P; rw [Nat.mul_one] at this; exact this),Ai,n2]
 congr 2
 simp
theorem hJ {E:Env} {ρ:Operand->Option AV} {r:Operand->Value} (hρ:∀ x a,ρ x=some a->RV E a (r x)) {d n:Nat} {o:Option Operand} (h:dp d ρ o=some n):(o=none/\n=d)\/∃ x k,o=some x/\r x=.int k (n:Int):=by
 cases o with
 | none=>simp only [dp] at h; injection h with h; exact .inl ⟨rfl,h.symm⟩
 | some x =>
  simp only [dp,Option.bind_eq_some_iff] at h;obtain ⟨a,h1,h2⟩:=h;obtain ⟨k,hk⟩:=lh h2 (hρ _ _ h1);exact .inr ⟨x,k,rfl,hk⟩
theorem uY {E:Env} {P:Program} {w:World} {ρ:Operand->Option AV} {r:Operand->Value} (hρ:∀ x a,ρ x=some a->RV E a (r x)) {Pr:Bool} {len cap l h:Nat} {lo hi:Option Operand} (hl:dp 0 ρ lo=some l) (hh:dp len ρ hi=some h)
  (h1:l<=h) (h2:h<=cap):(Instr.sliceBounds Pr len cap (lo.map r) (hi.map r) none).run P w=.ok (l,h,cap) w:=by
 unfold Instr.sliceBounds;rcases hJ hρ hl with ⟨rfl,rfl⟩ | ⟨x,k,rfl,hx⟩ <;> rcases hJ hρ hh with ⟨rfl,rfl⟩ | ⟨x',k',rfl,hx'⟩
 ·simp
 ·simp [hx',bX h2]
 ·simp [hx,bX h1]
 ·simp [hx,hx',bX h1,bX h2]
theorem AM {E:Env} {P:Program} {w:World} {ρ:Operand->Option AV} {r:Operand->Value} (hρ:∀ x a,ρ x=some a->RV E a (r x)) {Pr:Bool} {len cap l h m:Nat} {lo hi:Option Operand} {x2:Operand} (hl:dp 0 ρ lo=some l) (hh:dp len ρ hi=some h) (hm:dp 0 ρ (some x2)=some m)
  (hi1:hi.isSome=true) (h1:l<=h) (h2:h<=m) (h3:m<=cap):(Instr.sliceBounds Pr len cap (lo.map r) (hi.map r) (some (r x2))).run P w=.ok (l,h,m) w:=by
 unfold Instr.sliceBounds;rcases hJ hρ hm with ⟨h,_⟩ | ⟨x,k,hx0,hx⟩
 ·cases h
 ·injection hx0 with hx0
  subst hx0;rcases hJ hρ hl with ⟨rfl,rfl⟩ | ⟨x',k',rfl,hx'⟩ <;> rcases hJ hρ hh with ⟨rfl,rfl⟩ | ⟨x'',k'',rfl,Sa⟩
  ·simp at hi1
  ·simp [hx,Sa,bX h2,bX h3]
  ·simp at hi1
  ·simp [hx,hx',Sa,bX h1,bX h2,bX h3]
theorem l_ {E:Env} {id off ez:Nat} {a:Addr} {c l h m:Nat} (hd:E.D id) (hc:(c=0/\a.block=E.ι id)\/(a=⟨E.ι id,E.sh id + off,none⟩/\E.sh id + off + c * ez<=E.κ id)) (h1:l<=h) (h2:h<=m) (h3:m<=c) (cp':Option Nat) (hcp:∀ k,cp'=some k->m - l=k) (hcm:cp'=none->m - l<=9223372036854775807:=by intro h; cases h) :
  RA E (.sl id (off + l * ez) (h - l) cp' ez) (.slice (some (if m=l then a else a.add (l * ez))) (h - l) (m - l)):=by
 refine ⟨hd,_,_,rfl,by omega,?_,hcp,hcm⟩
 by_cases hm:m=l
 ·rw [if_pos hm]
  refine .inl ⟨by omega,?_⟩;rcases hc with hc | ⟨rfl,_⟩
  ·exact hc.2
  ·rfl
 ·rw [if_neg hm]
  rcases hc with hc | ⟨rfl,hc⟩
  ·omega
  ·right
   refine ⟨by rw [lG,Nat.add_assoc],?_⟩;have e:l * ez + (m - l) * ez=m * ez:=by rw [<- Nat.add_mul]; congr 1; omega
   have:=Nat.mul_le_mul_right ez h3;omega
theorem lx {X:Cx σ} (hX:kg X) {w:World} {t e:TypeId} {ie:TI} {a:Addr} {len c l h m:Nat} {lo hi mx:Option Value} (hd:X.und t=some (.slice e)) (hi':X.inf e=some ie) (hb:(Instr.sliceBounds true len c lo hi mx).run X.P w=.ok (l,h,m) w) :
  (Instr.sliceAt t (.slice (some a) len c) lo hi mx).run X.P w=.ok (.slice (some (if m=l then a else a.add (l * ie.size))) (h - l) (m - l)) w:=by
 obtain ⟨ti,i1,i2,_⟩:=hX.inf _ _ hi';simp only [Instr.sliceAt,Sem.run_bind,run_underlying (hX.und _ _ hd),Result.andThen_ok,Instr.slice,hb,bm i1,i2,Sem.run_pure];split <;> rfl
theorem pZ {X:Cx σ} (hX:kg X) {w:World} {t e:TypeId} {ie:TI} {a:Addr} {n l h m:Nat} {lo hi mx:Option Value} (hd:X.und t=some (.array n e)) (hi':X.inf e=some ie) (hb:(Instr.sliceBounds false n n lo hi mx).run X.P w=.ok (l,h,m) w) :
  (Instr.sliceAt t (.pointer (some a)) lo hi mx).run X.P w=.ok (.slice (some (if m=l then a else a.add (l * ie.size))) (h - l) (m - l)) w:=by
 obtain ⟨ti,i1,i2,_⟩:=hX.inf _ _ hi';simp only [Instr.sliceAt,Sem.run_bind,run_underlying (hX.und _ _ hd),Result.andThen_ok,Instr.sureAddr,hb,bm i1,i2,Sem.run_pure]
theorem qq {k:IntKind} {j:IntKind} {n:Int}:∀ {es:List MapEntry} {i:Nat} {r:Option (Nat×Value)},cT (.int j n) es i=some r->Instr.findNow (.int k) (.int j n) es i=some r
 | [],i,r,h=>by simpa [cT,Instr.findNow] using h
 | e :: es,i,r,h=>by
  unfold cT at h;split at h
  ·rename_i j0 a j' b hk he
   injection hk with hk1 hk2
   subst hk1 hk2;rw [aE] at h;obtain ⟨h1,h2⟩:=h;have hj:j=j':=of_decide_eq_true h1;rw [Instr.findNow,he];subst hj;simp only [Instr.sameNow,if_true];split at h2
   ·rename_i hn; simp only [hn]; exact h2
   ·rename_i hn; simp only [hn]; exact qq h2
  ·cases h
theorem sD {P:Program} {w:World} {n:Nat} {b:Bool} {t:TypeId} {k:IntKind} {v:Value} (h:P.underlying t=some (.int k)):(Instr.checkKey b (n + 1) t v).run P w=.ok () w:=by
 rw [Instr.checkKey,Sem.run_bind,run_underlying h];rfl
theorem dD {P:Program} {w:World} {b:Bool} {t:TypeId} {k:IntKind} {v:Value} (h:P.underlying t=some (.int k)):(Instr.checkKey b 10000 t v).run P w=.ok () w:=sD (n:=9999) h
theorem run_findKey {P:Program} {w:World} {t:TypeId} {k j:IntKind} {n:Int} {es:List MapEntry} {r:Option (Nat×Value)} (h:P.underlying t=some (.int k)) (hf:cT (.int j n) es 0=some r):(Instr.findKey t (.int j n) es).run P w=.ok r w:=by
 unfold Instr.findKey;rw [Sem.run_bind,run_underlying h,Result.andThen_ok,qq hf];rfl
theorem fD {S:Tr Ob} {id:Nat} {p:List MapEntry×Nat} (h:jD S id=some p):S.get id=some (.map p.1 p.2):=by
 unfold jD at h;split at h
 ·rename_i es c e; injection h with h; subst h; exact e
 ·cases h
theorem iH {k:Value}:∀ {es r:List MapEntry} {i:Nat},SM es r->cT k es i=cT k r i
 | [],[],_,_=>rfl
 | a :: l,b :: r,i,⟨⟨h1,h2⟩,h3⟩=>by
  have ih:=iH (k:=k) (i:=i + 1) h3;simp only [cT,h1,h2,ih]
theorem eJ {P:Program} {w:World} {b:Nat} {es:Array MapEntry} {c:Nat} (h:w.heap[b]?=some (.map es c)):(getObj b).run P w=.ok (.map es c) w:=by
 simp [getObj,Sem.run,h]
theorem Km {X:Cx σ} (hX:kg X) {E:Env} {w:World} {S:Tr Ob} (hS:∀ id ob,S.get id=some ob->E.D id/\RO E id w ob) {t:TypeId} {v u:AV} {y:Value} {ts:Array TypeId} {ty:TypeId} (ht:ts[0]?=some t) (h:Hz X t v S=some u) (hv:RV E v y) :
  ∃ r,(Builtin.len_ ts ty #[y]).run X.P w=.ok r w/\RV E u r:=by
 simp only [Hz,Option.bind_eq_some_iff] at h;obtain ⟨d,hd,h⟩:=h;have hu:=hX.und _ _ hd;unfold Builtin.len_;split at h
 ·rename_i n e
  injection h with h; subst h
  exact ⟨goInt n,by simp [ht,run_underlying hu],rfl,rfl⟩
 ·rename_i e
  rw [Option.bind_eq_some_iff] at h;obtain ⟨d',hd',h⟩:=h;split at h
  ·rename_i n e'
   injection h with h; subst h
   exact ⟨goInt n,by simp [ht,run_underlying hu,run_underlying (hX.und _ _ hd')],rfl,rfl⟩
  ·cases h
 ·rename_i e
  split at h
  ·rename_i id off n cp ez
   injection h with h; subst h
   obtain ⟨_,a,c,rfl,_⟩:=hv;exact ⟨goInt n,by simp [ht,run_underlying hu],rfl,rfl⟩
  ·cases h
 ·rename_i k e
  split at h
  ·rename_i id
   rw [Option.map_eq_some_iff] at h;obtain ⟨p,h1,rfl⟩:=h;obtain ⟨_,rfl⟩:=hv;obtain ⟨r,k,this,hm⟩:=(hS _ _ (fD h1)).2;refine ⟨goInt p.1.length,?_,rfl,rfl⟩;simp [ht,run_underlying hu,eJ this,hm.length]
  ·cases h
 ·cases h
end Ev
end Go.Proofs.YtijegngfclkdaaaGreatDoor
