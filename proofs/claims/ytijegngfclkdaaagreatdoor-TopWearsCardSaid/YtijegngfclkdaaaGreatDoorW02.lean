/-
  Pieces of the proof: part 2 of 54.
  Conditions: none.
-/
import Derived.Laws.BytesString
import Derived.Test.YtijegngfclkdaaaGreatDoorW01
set_option linter.unusedVariables false
set_option linter.unusedSimpArgs false
set_option maxHeartbeats 100000000
set_option maxRecDepth 100000
namespace Go.Proofs.YtijegngfclkdaaaGreatDoor.Ev
open Go
variable {σ:Type}
structure Env where
 ι:Nat→Nat
 sh:Nat→Nat
 κ:Nat→Nat
 D:Nat→Prop
 sy:Nat→Value
 B:Nat→Prop
def RA (E:Env):At→Value→Prop
 | .v x,y=>y=x∧x.oneCell'=true
 | .ptr id off,y=>E.D id∧y=.pointer (some ⟨E.ι id,E.sh id + off,none⟩)
 | .sl id off len cp ez,y=>E.D id∧∃ a c,y=.slice (some a) len c∧len≤c∧((c=0∧a.block=E.ι id)∨(a=⟨E.ι id,E.sh id + off,none⟩∧E.sh id + off + c * ez≤E.κ id))∧(∀ k,cp=some k→c=k)∧(cp=none→c≤9223372036854775807)
 | .mp id,y=>E.D id∧y=.map (some (E.ι id))
 | .sym k,y=>E.D k∧y=E.sy k∧y.oneCell'=true
 | .op k,y=>E.D k∧y=E.sy k∧∃ a,y=.pointer (some a)
 | .top,y=>y.oneCell'=true
def Rel2 {α β:Type} (R:α→β→Prop):List α→List β→Prop
 | [],[]=>True
 | x :: l,y :: r=>R x y∧Rel2 R l r
 | _,_=>False
def RAr (E:Env):Ar→Value→Prop
 | .one x,y=>RA E x y
 | .agg l,y=>∃ A,y=.agg A∧Rel2 (RA E) l A.toList
def RC (E:Env):Ce→Value→Prop
 | .a x,y=>RA E x y
 | .fn f fi ca,y=>∃ A B,y=.func f A B∧Rel2 (RAr E) fi A.toList∧Rel2 (RAr E) ca B.toList
def R1 (E:Env):V1→Value→Prop
 | .one c,y=>RC E c y
 | .agg l,y=>∃ A,y=.agg A∧Rel2 (RC E) l A.toList
def RV (E:Env):AV→Value→Prop
 | .w x,y=>R1 E x y
 | .tup l,y=>∃ A,y=.tuple A∧Rel2 (R1 E) l A.toList
section
variable {α β γ:Type} {R R':α→β→Prop}
theorem Rel2.mono (h:∀ x y,R x y→R' x y):∀ {l:List α} {r:List β},Rel2 R l r→Rel2 R' l r
 | [],[],_=>trivial
 | _ :: _,_ :: _,⟨a,b⟩=>⟨h _ _ a,Rel2.mono h b⟩
theorem Rel2.length:∀ {l:List α} {r:List β},Rel2 R l r→l.length=r.length
 | [],[],_=>rfl
 | _ :: _,_ :: _,⟨_,b⟩=>by simp [Rel2.length b]
theorem Rel2.append:∀ {l:List α} {r:List β} {l':List α} {r':List β},Rel2 R l r→Rel2 R l' r'→Rel2 R (l ++ l') (r ++ r')
 | [],[],_,_,_,h=>h
 | _ :: _,_ :: _,_,_,⟨a,b⟩,h=>⟨a,Rel2.append b h⟩
theorem Rel2.get:∀ {l:List α} {r:List β} {i:Nat} {x:α},Rel2 R l r→l[i]?=some x→∃ y,r[i]?=some y∧R x y
 | [],[],_,_,_,h=>by simp at h
 | x :: _,y :: _,0,_,⟨a,_⟩,h=>⟨y,rfl,by simp at h; exact h ▸ a⟩
 | _ :: _,_ :: _,i + 1,_,⟨_,b⟩,h=>by simpa using Rel2.get b (by simpa using h)
theorem Rel2.of_get:∀ {l:List α} {r:List β},l.length=r.length→(∀ (i:Nat) x y,l[i]?=some x→r[i]?=some y→R x y)→Rel2 R l r
 | [],[],_,_=>trivial
 | [],_ :: _,h,_=>by simp at h
 | _ :: _,[],h,_=>by simp at h
 | x :: l,y :: r,h,k=>⟨k 0 x y rfl rfl,Rel2.of_get (by simpa using h) fun i a b ha hb=>k (i + 1) a b (by simpa using ha) (by simpa using hb)⟩
theorem Rel2.nil_left {r:List β} (h:Rel2 R [] r):r=[]:=by cases r with | nil=>rfl | cons=>exact h.elim
end
def Ext (E E':Env):Prop:=∀ id,E.D id→E'.D id∧E'.ι id=E.ι id∧E'.sh id=E.sh id∧E'.κ id=E.κ id∧E'.sy id=E.sy id
theorem Ext.refl (E:Env):Ext E E:=fun _ h=>⟨h,rfl,rfl,rfl,rfl⟩
theorem Ext.trans {E E' E'':Env} (h:Ext E E') (h':Ext E' E''):Ext E E'':=fun id hd=>by
 obtain ⟨a,b,c,d,e⟩:=h id hd;obtain ⟨a',b',c',d',e'⟩:=h' id a;exact ⟨a',by rw [b',b],by rw [c',c],by rw [d',d],by rw [e',e]⟩
theorem RA.ext {E E':Env} (h:Ext E E'):∀ {x:At} {y:Value},RA E x y→RA E' x y
 | .v _,_,r=>r
 | .ptr id off,y,⟨d,r⟩=>by obtain ⟨a,b,c,_,_⟩:=h id d; exact ⟨a,by rw [b,c]; exact r⟩
 | .sl id off len cp ez,y,⟨d,a,k,r1,r2,r3,r4⟩=>by obtain ⟨a',b,c,e,_⟩:=h id d; exact ⟨a',a,k,r1,r2,by rw [b,c,e]; exact r3,r4⟩
 | .mp id,y,⟨d,r⟩=>by obtain ⟨a,b,_,_,_⟩:=h id d; exact ⟨a,by rw [b]; exact r⟩
 | .sym k,y,⟨d,r1,r2⟩=>by obtain ⟨a,_,_,_,e⟩:=h k d; exact ⟨a,by rw [e]; exact r1,r2⟩
 | .op k,y,⟨d,r1,r2⟩=>by obtain ⟨a,_,_,_,e⟩:=h k d; exact ⟨a,by rw [e]; exact r1,r2⟩
 | .top,_,r=>r
theorem RAr.ext {E E':Env} (h:Ext E E'):∀ {x:Ar} {y:Value},RAr E x y→RAr E' x y
 | .one _,_,r=>RA.ext h r
 | .agg _,_,⟨A,r1,r2⟩=>⟨A,r1,r2.mono fun _ _=>RA.ext h⟩
theorem RC.ext {E E':Env} (h:Ext E E'):∀ {x:Ce} {y:Value},RC E x y→RC E' x y
 | .a _,_,r=>RA.ext h r
 | .fn _ _ _,_,⟨A,B,r1,r2,r3⟩=>⟨A,B,r1,r2.mono fun _ _=>RAr.ext h,r3.mono fun _ _=>RAr.ext h⟩
theorem R1.ext {E E':Env} (h:Ext E E'):∀ {x:V1} {y:Value},R1 E x y→R1 E' x y
 | .one _,_,r=>RC.ext h r
 | .agg _,_,⟨A,r1,r2⟩=>⟨A,r1,r2.mono fun _ _=>RC.ext h⟩
theorem RV.ext {E E':Env} (h:Ext E E'):∀ {x:AV} {y:Value},RV E x y→RV E' x y
 | .w _,_,r=>R1.ext h r
 | .tup _,_,⟨A,r1,r2⟩=>⟨A,r1,r2.mono fun _ _=>R1.ext h⟩
theorem RA.oneCell {E:Env}:∀ {x:At} {y:Value},RA E x y→y.oneCell'=true
 | .v _,_,⟨r,h⟩=>by rw [r]; exact h
 | .ptr _ _,_,⟨_,r⟩=>by rw [r]; rfl
 | .sl ..,_,⟨_,a,c,r,_⟩=>by rw [r]; rfl
 | .mp _,_,⟨_,r⟩=>by rw [r]; rfl
 | .sym _,_,⟨_,_,r⟩=>r
 | .op _,_,⟨_,_,a,r⟩=>by rw [r]; rfl
 | .top,_,r=>r
theorem RC.oneCell {E:Env}:∀ {x:Ce} {y:Value},RC E x y→y.oneCell'=true
 | .a _,_,r=>RA.oneCell r
 | .fn ..,_,⟨A,B,r,_⟩=>by rw [r]; rfl
theorem atOf_R {E:Env} {x:Value} {a:At} (h:atOf x=some a):RA E a x:=by
 unfold atOf at h;split at h
 ·cases h
 ·cases h
 ·rename_i h1 h2
  injection h with h
  subst h;refine ⟨rfl,?_⟩;cases x <;> first | rfl | exact absurd rfl (h1 _) | exact absurd rfl (h2 _)
theorem cesOf_R {E:Env}:∀ {l:List Value} {r:List Ce},cesOf l=some r→Rel2 (RC E) r l
 | [],r,h=>by simp only [cesOf] at h; injection h with h; subst h; trivial
 | x :: l,r,h=>by
  simp only [cesOf,Option.bind_eq_some_iff] at h;obtain ⟨a,h1,r',h2,h3⟩:=h;injection h3 with h3
  subst h3;exact ⟨atOf_R h1,cesOf_R h2⟩
theorem v1Of_R {E:Env} {x:Value} {y:V1} (h:v1Of x=some y):R1 E y x:=by
 unfold v1Of at h;split at h
 ·rename_i cs
  rw [Option.map_eq_some_iff] at h;obtain ⟨l,h1,h2⟩:=h;subst h2;exact ⟨cs,rfl,cesOf_R h1⟩
 ·rw [Option.map_eq_some_iff] at h
  obtain ⟨a,h1,h2⟩:=h;subst h2;exact atOf_R h1
theorem plainC_R {E:Env}:∀ {l:List Ce} {r vs:List Value},plainC l=some vs→Rel2 (RC E) l r→r=vs
 | [],r,vs,h,hr=>by simp only [plainC] at h; injection h with h; subst h; exact hr.nil_left
 | c :: l,[],vs,h,hr=>hr.elim
 | c :: l,y :: r,vs,h,⟨hc,hr⟩=>by
  have key:∀ x,c=.a (.v x)→y :: r=vs:=fun x hx=>by
   subst hx;rw [plainC,Option.map_eq_some_iff] at h;obtain ⟨vs',h1,h2⟩:=h;subst h2;rw [plainC_R h1 hr,hc.1]
  cases c with
  | fn=>simp [plainC] at h
  | a x=>cases x <;> first | exact key _ rfl | simp [plainC] at h
theorem plain_R {E:Env} {x:AV} {y v:Value} (h:plain x=some v) (hr:RV E x y):y=v:=by
 unfold plain at h;split at h
 ·injection h with h; subst h; exact hr.1
 ·rw [Option.map_eq_some_iff] at h
  obtain ⟨vs,h1,h2⟩:=h;obtain ⟨A,r1,r2⟩:=hr;subst h2;rw [r1,← plainC_R h1 r2]
 ·cases h
theorem cells_R {E:Env} {x:AV} {y:Value} {l:List Ce} (h:cells x=some l) (hr:RV E x y):Rel2 (RC E) l y.cells.toList:=by
 unfold cells at h;split at h
 ·injection h with h
  subst h;have:=RC.oneCell (x:=_) hr;have e:y.cells=#[y]:=by cases y <;> first | rfl | simp [Value.oneCell'] at this
  rw [e];exact ⟨hr,trivial⟩
 ·injection h with h
  subst h;obtain ⟨A,r1,r2⟩:=hr;rw [r1];exact r2
 ·cases h
theorem cells_one {E:Env} {l:List Ce}:∀ {r:List Value},Rel2 (RC E) l r→∀ v∈r,v.oneCell'=true:=by
 induction l with
 | nil=>intro r h v hv; rw [h.nil_left] at hv; simp at hv
 | cons c l ih =>
  intro r h v hv;cases r with
  | nil=>exact h.elim
  | cons y r =>
   rcases List.mem_cons.1 hv with rfl | hv
   ·exact RC.oneCell h.1
   ·exact ih h.2 v hv
def NF (fz:Nat×Nat) (n:Nat):Prop:=fz.1=fz.2∨n≤fz.1
theorem NF.free {fz:Nat×Nat} {n:Nat} (h:NF fz n):∀ i,i < n→¬ (fz.1≤i∧i < fz.2):=fun i hi hh=>by
 rcases h with h | h <;> omega
def SM (es r:List MapEntry):Prop:=Rel2 (fun a b:MapEntry=>b.key=a.key∧b.val=a.val) es r
def RO (E:Env) (id:Nat) (w:World):Ob→Prop
 | .row l ty=>∃ arr fz,w.heap[E.ι id]?=some (.cells arr ty fz)∧E.κ id=arr.size∧E.sh id + l.length≤arr.size∧NF fz arr.size∧∀ (i:Nat) c,l[i]?=some c→∃ v,arr[E.sh id + i]?=some v∧RC E c v
 | .map es _=>∃ r k,w.heap[E.ι id]?=some (.map r.toArray k)∧SM es r
theorem RO.ext {E E':Env} {id:Nat} {w w':World} (h:Ext E E') (hd:E.D id) (hw:w'.heap[E.ι id]?=w.heap[E.ι id]?):∀ {o:Ob},RO E id w o→RO E' id w' o
 | .row l ty,⟨arr,fz,h1,h2,h3,h4,h5⟩=>by
  obtain ⟨_,b,c,d,_⟩:=h id hd;refine ⟨arr,fz,by rw [b,hw]; exact h1,by rw [d]; exact h2,by rw [c]; exact h3,h4,fun i x hx=>?_⟩;obtain ⟨v,r1,r2⟩:=h5 i x hx;exact ⟨v,by rw [c]; exact r1,RC.ext h r2⟩
 | .map es k,⟨r,k',h1,h2⟩=>by
  obtain ⟨_,b,_⟩:=h id hd;exact ⟨r,k',by rw [b,hw]; exact h1,h2⟩
def Kp (w w':World):Prop:=w'.os=w.os∧w'.tape=w.tape∧w'.output=w.output
theorem Kp.refl (w:World):Kp w w:=⟨rfl,rfl,rfl⟩
theorem Kp.trans {w w' w'':World} (h:Kp w w') (h':Kp w' w''):Kp w w'':=⟨h'.1.trans h.1,h'.2.1.trans h.2.1,h'.2.2.trans h.2.2⟩
structure Outside (σ:Type) where
 ok:σ→Env→World→Prop
 keep:∀ g E w E' w',ok g E w→Ext E E'→(∀ b,E'.B b↔E.B b)→(∀ b,E.B b→w'.heap[b]?=w.heap[b]?)→w.heap.size≤w'.heap.size→Kp w w'→ok g E' w'
structure Rel (X:Cx σ) (O:Outside σ) (E:Env) (h:Nat→Option Ob) (g:σ) (w:World):Prop where
 ob:∀ id o,h id=some o→E.D id∧RO E id w o
 inj:∀ i j,h i≠none→h j≠none→E.ι i=E.ι j→i=j
 apart:∀ i,h i≠none→¬ E.B (E.ι i)
 glob:∀ b,b < X.ng→E.D b∧E.ι b=b∧E.sh b=0
 lt:∀ b,E.B b→b < w.heap.size
 out:O.ok g E w
theorem Rel.block_lt {X:Cx σ} {O:Outside σ} {E:Env} {h:Nat→Option Ob} {g:σ} {w:World} (r:Rel X O E h g w) {id:Nat} {o:Ob} (hi:h id=some o):E.ι id < w.heap.size:=by
 have:=(r.ob id o hi).2;rcases Nat.lt_or_ge (E.ι id) w.heap.size with h' | h'
 ·exact h'
 ·cases o with
  | row l ty=>obtain ⟨arr,fz,h1,_⟩:=this; simp [Array.getElem?_eq_none h'] at h1
  | map es k=>obtain ⟨r,k',h1,_⟩:=this; simp [Array.getElem?_eq_none h'] at h1
theorem Rel.sub {X:Cx σ} {O:Outside σ} {E:Env} {h h':Nat→Option Ob} {g:σ} {w:World} (r:Rel X O E h g w) (hs:∀ id o,h' id=some o→h id=some o):Rel X O E h' g w:=by
 have ne:∀ i,h' i≠none→h i≠none:=fun i hi=>by
  cases e:h' i with
  | none=>exact absurd e hi
  | some o=>rw [hs i o e]; simp
 exact ⟨fun id o e=>r.ob id o (hs id o e),fun i j hi hj e=>r.inj i j (ne i hi) (ne j hj) e,fun i hi=>r.apart i (ne i hi),r.glob,r.lt,r.out⟩
structure Mvd (E:Env) (h:Nat→Option Ob) (c:Nat) (w:World) (E':Env) (h':Nat→Option Ob) (c':Nat) (w':World):Prop where
 ext:Ext E E'
 fresh:∀ id,E'.D id→E.D id∨(c≤id∧id < c')
 size:w.heap.size≤w'.heap.size
 frame:∀ b,b < w.heap.size→¬ E.B b→(∀ id,h id≠none→E.ι id≠b)→w'.heap[b]?=w.heap[b]?
 img:∀ id,h' id≠none→(∃ j,h j≠none∧E'.ι id=E.ι j)∨w.heap.size≤E'.ι id
 imgB:∀ b,E'.B b→E.B b∨w.heap.size≤b
 dom:∀ id,h' id≠none→h id≠none∨(c≤id∧id < c')
 kp:Kp w w'
theorem Mvd.refl (E:Env) (h:Nat→Option Ob) (c:Nat) (w:World):Mvd E h c w E h c w :=
 ⟨Ext.refl E,fun _ h=>.inl h,Nat.le_refl _,fun _ _ _ _=>rfl,fun id hi=>.inl ⟨id,hi,rfl⟩,fun _ h=>.inl h,fun _ h=>.inl h,Kp.refl w⟩
theorem Mvd.trans {E E' E'':Env} {h h' h'':Nat→Option Ob} {c c' c'':Nat} {w w' w'':World} (m:Mvd E h c w E' h' c' w') (n:Mvd E' h' c' w' E'' h'' c'' w'') (h1:c≤c') (h2:c'≤c'') (hd:∀ id,h' id≠none→E'.D id):Mvd E h c w E'' h'' c'' w'':=by
 refine ⟨m.ext.trans n.ext,fun id hi=>?_,Nat.le_trans m.size n.size,fun b hb hB hI=>?_,fun id hi=>?_,fun b hb=>?_,fun id hi=>?_,m.kp.trans n.kp⟩
 ·rcases n.fresh id hi with h | ⟨a,b⟩
  ·rcases m.fresh id h with h | ⟨a,b⟩
   ·exact .inl h
   ·exact .inr ⟨a,by omega⟩
  ·exact .inr ⟨by omega,b⟩
 ·rw [n.frame b (Nat.lt_of_lt_of_le hb m.size) (fun h=>by rcases m.imgB b h with h | h; exact hB h; omega) (fun id hi e=>by
   rcases m.img id hi with ⟨j,hj,e'⟩ | h
   ·exact hI j hj (by rw [← e',e])
   ·omega)]
  exact m.frame b hb hB hI
 ·rcases n.img id hi with ⟨j,hj,e⟩ | h
  ·rcases m.img j hj with ⟨k,hk,e'⟩ | h
   ·exact .inl ⟨k,hk,by rw [e,e']⟩
   ·exact .inr (by omega)
  ·exact .inr (Nat.le_trans m.size h)
 ·rcases n.imgB b hb with h | h
  ·exact m.imgB b h
  ·exact .inr (Nat.le_trans m.size h)
 ·rcases n.dom id hi with h | ⟨a,b⟩
  ·rcases m.dom id h with h | ⟨a,b⟩
   ·exact .inl h
   ·exact .inr ⟨a,by omega⟩
  ·exact .inr ⟨by omega,b⟩
end Go.Proofs.YtijegngfclkdaaaGreatDoor.Ev
namespace Go.Proofs.YtijegngfclkdaaaGreatDoor.Ev
open Go
variable {σ:Type}
theorem cut_spec:∀ {l:List Ce} {o k:Nat} {cs:List Ce},cut l o k=some cs→o + k≤l.length∧cs=(l.drop o).take k
 | l,0,0,cs,h=>by simp only [cut] at h; injection h with h; subst h; simp
 | [],0,k + 1,cs,h=>by simp [cut] at h
 | c :: l,0,k + 1,cs,h=>by
  rw [cut,Option.map_eq_some_iff] at h;obtain ⟨r,h1,h2⟩:=h;obtain ⟨a,b⟩:=cut_spec h1;subst h2;refine ⟨by simp; omega,?_⟩;rw [b]; simp
 | [],o + 1,k,cs,h=>by cases k <;> simp [cut] at h
 | c :: l,o + 1,k,cs,h=>by
  have h':cut l o k=some cs:=by cases k <;> simpa [cut] using h
  obtain ⟨a,b⟩:=cut_spec h';exact ⟨by simp; omega,by simpa using b⟩
theorem lay_spec:∀ {l:List Ce} {o:Nat} {xs l':List Ce},lay l o xs=some l'→o + xs.length≤l.length∧l'=l.take o ++ (xs ++ l.drop (o + xs.length))
 | l,0,[],l',h=>by simp only [lay] at h; injection h with h; subst h; simp
 | [],0,x :: xs,l',h=>by simp [lay] at h
 | c :: l,0,x :: xs,l',h=>by
  rw [lay,Option.map_eq_some_iff] at h;obtain ⟨r,h1,h2⟩:=h;obtain ⟨a,b⟩:=lay_spec h1;subst h2;refine ⟨by simp; omega,?_⟩;rw [b]; simp
 | [],o + 1,xs,l',h=>by cases xs <;> simp [lay] at h
 | c :: l,o + 1,xs,l',h=>by
  have h':(lay l o xs).map (c :: ·)=some l':=by cases xs <;> simpa [lay] using h
  rw [Option.map_eq_some_iff] at h';obtain ⟨r,h1,h2⟩:=h';obtain ⟨a,b⟩:=lay_spec h1;subst h2;refine ⟨by simp; omega,?_⟩;rw [b,show o + 1 + xs.length=(o + xs.length) + 1 by omega]; simp
theorem lay_length {l l' xs:List Ce} {o:Nat} (h:lay l o xs=some l'):l'.length=l.length:=by
 obtain ⟨a,b⟩:=lay_spec h;rw [b];simp;omega
theorem lay_get {l l' xs:List Ce} {o:Nat} (h:lay l o xs=some l') (i:Nat):l'[i]?=if o≤i∧i < o + xs.length then xs[i - o]? else l[i]?:=by
 obtain ⟨a,b⟩:=lay_spec h;rw [b]
 by_cases h1:i < o
 ·rw [if_neg (by omega),List.getElem?_append_left (by simp; omega),List.getElem?_take,if_pos h1]
 ·rw [List.getElem?_append_right (by simp; omega)]
  simp only [List.length_take,Nat.min_eq_left (show o≤l.length by omega)]
  by_cases h2:i < o + xs.length
  ·rw [if_pos ⟨by omega,h2⟩,List.getElem?_append_left (by omega)]
  ·rw [if_neg (by omega),List.getElem?_append_right (by omega),List.getElem?_drop]
   congr 1
   omega
def Lies (w:World) (b o:Nat) (vs:List Value):Prop:=∀ (j:Nat) v,vs[j]?=some v→w.cell? ⟨b,o + j,none⟩=some v
theorem cell_of {w:World} {b i:Nat} {arr:Array Value} {ty:TypeId} {fz:Nat×Nat} (h:w.heap[b]?=some (.cells arr ty fz)):w.cell? ⟨b,i,none⟩=arr[i]?:=by
 simp [World.cell?,h]
theorem cut_lies {E:Env} {id:Nat} {w:World} {l:List Ce} {ty:TypeId} (h:RO E id w (.row l ty)) {o k:Nat} {cs:List Ce} (hc:cut l o k=some cs) :
  cs.length=k∧∃ vs:List Value,vs.length=k∧Rel2 (RC E) cs vs∧Lies w (E.ι id) (E.sh id + o) vs:=by
 obtain ⟨arr,fz,h1,h2,h3,h4,h5⟩:=h;obtain ⟨a,b⟩:=cut_spec hc;have hl:cs.length=k:=by rw [b]; simp; omega
 have hg:∀ j,j < k→cs[j]?=l[o + j]?:=fun j hj=>by rw [b,List.getElem?_take,if_pos hj,List.getElem?_drop]
 refine ⟨hl,(List.range k).map (fun j=>arr.getD (E.sh id + (o + j)) undef),by simp,?_,?_⟩
 ·refine Rel2.of_get (by simp [hl]) fun i x y hx hy=>?_
  have hi:i < k:=by
   rcases Nat.lt_or_ge i k with h' | h'
   ·exact h'
   ·simp [List.getElem?_eq_none (show cs.length≤i by omega)] at hx
  rw [hg i hi] at hx;obtain ⟨v,r1,r2⟩:=h5 _ _ hx;simp only [List.getElem?_map,List.getElem?_range hi,Option.map_some] at hy;injection hy with hy
  rw [← hy];simp only [Array.getD_eq_getD_getElem?,r1,Option.getD_some];exact r2
 ·intro j v hv
  have hj:j < k:=by
   rcases Nat.lt_or_ge j k with h' | h'
   ·exact h'
   ·rw [List.getElem?_eq_none (by simpa using h')] at hv
    cases hv
  simp only [List.getElem?_map,List.getElem?_range hj,Option.map_some] at hv;injection hv with hv
  rw [cell_of h1,← hv];have hj2:E.sh id + (o + j) < arr.size:=by omega
  rw [Nat.add_assoc];simp [Array.getD_eq_getD_getElem?,Array.getElem?_eq_getElem hj2]
theorem loadCells_lies {P:Program} {w:World} {b o:Nat} {vs:List Value} (h:Lies w b o vs) {k:Nat} (hk:vs.length=k):(loadCells ⟨b,o,none⟩ k).run P w=.ok vs.toArray w:=by
 subst hk;refine run_loadCells_list w _ vs fun j v hv=>?_
 have:=h j v hv;cases j with
 | zero=>simpa [Addr.add] using this
 | succ j=>simpa [Addr.add] using this
theorem run_lay {P:Program} (g o:Nat) (t:TypeId) (fz:Nat×Nat):∀ (vs:List Value) (i:Nat) (cur:Array Value) (w:World),w.heap[g]?=some (.cells cur t fz)→(∀ j,j < cur.size→¬ (fz.1≤j∧j < fz.2))→o + i + vs.length≤cur.size→(∀ v∈vs,v.oneCell'=true) →
  ∃ w' cur',(storeCells ⟨g,o,none⟩ vs i).run P w=.ok () w'∧w'.heap[g]?=some (.cells cur' t fz)∧cur'.size=cur.size∧(∀ j,cur'[j]?=if o + i≤j∧j < o + i + vs.length then vs[j - (o + i)]? else cur[j]?)∧(∀ b,b≠g→w'.heap[b]?=w.heap[b]?)∧w'.heap.size=w.heap.size∧Kp w w'
 | [],i,cur,w,h,hf,hl,ho=>⟨w,cur,rfl,h,rfl,fun j=>by rw [if_neg (by simp only [List.length_nil]; omega)],fun _ _=>rfl,rfl,Kp.refl w⟩
 | v :: vs,i,cur,w,h,hf,hl,ho=>by
  have hlt:o + i < cur.size:=by simp at hl; omega
  have ha:(⟨g,o,none⟩:Addr).add i=⟨g,o + i,none⟩:=by
   cases i with
   | zero=>simp [Addr.add]
   | succ i=>simp [Addr.add]
  have hc:w.cell? ⟨g,o + i,none⟩=some cur[o + i]:=by rw [cell_of h,Array.getElem?_eq_getElem hlt]
  have hfr:w.frozen? ⟨g,o + i,none⟩=false:=by
   have:=hf (o + i) hlt;simp only [World.frozen?,h]
   by_cases h1:fz.1≤o + i
   ·have:¬ (o + i < fz.2):=fun h2=>this ⟨h1,h2⟩
    simp [this]
   ·simp [h1]
  have hw1:(w.setCell ⟨g,o + i,none⟩ v).heap[g]?=some (.cells (cur.setIfInBounds (o + i) v) t fz):=by
   simp only [World.setCell,Array.getElem?_modify,↓reduceIte,h,Option.map_some,Option.isSome_none,Bool.false_eq_true]
  obtain ⟨w',cur',r1,r2,r3,r4,r5,r6,r7⟩:=run_lay g o t fz vs (i + 1) (cur.setIfInBounds (o + i) v) (w.setCell ⟨g,o + i,none⟩ v) hw1 (fun j hj=>hf j (by simpa using hj)) (by simp at hl ⊢; omega) (fun v hv=>ho v (List.mem_cons_of_mem _ hv));refine ⟨w',cur',?_,r2,by simpa using r3,fun j=>?_,fun b hb=>?_,by simpa using r6,r7⟩
  ·rw [storeCells,Sem.run_bind,ha,run_store P w _ v _ (ho v (by simp)),hc,hfr]
   exact r1
  ·rw [r4 j]
   by_cases h1:o + (i + 1)≤j∧j < o + (i + 1) + vs.length
   ·rw [if_pos h1,if_pos (by simp; omega),show j - (o + i)=(j - (o + (i + 1))) + 1 by omega,List.getElem?_cons_succ]
   ·rw [if_neg h1]
    by_cases h2:j=o + i
    ·subst h2
     rw [if_pos (by simp),Nat.sub_self,Array.getElem?_setIfInBounds_self_of_lt hlt];rfl
    ·rw [if_neg (by simp; omega),Array.getElem?_setIfInBounds_ne (Ne.symm h2)]
  ·rw [r5 b hb]
   simp only [World.setCell,Array.getElem?_modify];rw [if_neg (Ne.symm hb)]
theorem RO.lay {E:Env} {id:Nat} {w w':World} {l l' xs:List Ce} {ty:TypeId} {o:Nat} {vs:List Value} (h:RO E id w (.row l ty)) (hl:lay l o xs=some l') (hx:Rel2 (RC E) xs vs)
  {arr':Array Value} {fz:Nat×Nat} {arr:Array Value} (h0:w.heap[E.ι id]?=some (.cells arr ty fz)) (h1:w'.heap[E.ι id]?=some (.cells arr' ty fz)) (h2:arr'.size=arr.size)
  (h3:∀ j,arr'[j]?=if E.sh id + o≤j∧j < E.sh id + o + vs.length then vs[j - (E.sh id + o)]? else arr[j]?):RO E id w' (.row l' ty):=by
 obtain ⟨a,f,k1,k2,k3,k4,k5⟩:=h;rw [h0] at k1;injection k1 with k1
 injection k1 with k1 _ k1'
 subst k1 k1';have hlen:=hx.length;refine ⟨arr',fz,h1,by rw [k2,h2],by rw [lay_length hl,h2]; exact k3,by rw [h2]; exact k4,fun i c hc=>?_⟩;rw [lay_get hl] at hc;rw [h3]
 by_cases hi:o≤i∧i < o + xs.length
 ·rw [if_pos hi] at hc
  rw [if_pos (by omega),show E.sh id + i - (E.sh id + o)=i - o by omega];exact hx.get hc
 ·rw [if_neg hi] at hc
  rw [if_neg (by omega)];exact k5 i c hc
theorem heap_alloc {w:World} {o:Obj}:(w.alloc o).heap[w.heap.size]?=some o:=by
 show (w.heap.push o)[w.heap.size]?=some o;simp
theorem heap_alloc_lt {w:World} {o:Obj} {b:Nat} (h:b < w.heap.size):(w.alloc o).heap[b]?=w.heap[b]?:=by
 show (w.heap.push o)[b]?=w.heap[b]?;rw [Array.getElem?_push,if_neg (Nat.ne_of_lt h)]
def Env.more (E:Env) (c b k:Nat):Env:={ E with ι:=fun i=>if i=c then b else E.ι i,sh:=fun i=>if i=c then 0 else E.sh i,κ:=fun i=>if i=c then k else E.κ i,D:=fun i=>E.D i∨i=c }
theorem Env.more_ext {E:Env} {c b k:Nat} (hc:¬ E.D c):Ext E (E.more c b k):=fun id hd=>by
 have:id≠c:=fun e=>hc (e ▸ hd)
 simp [Env.more,this,hd]
def put1 (h:Nat→Option Ob) (c:Nat) (o:Option Ob):Nat→Option Ob:=fun i=>if i=c then o else h i
theorem get_put1 (t:Tr Ob) (c:Nat) (o:Option Ob):(t.set c o).get=put1 t.get c o:=by funext i; simp [put1,Tr.get_set]
theorem Rel.made {X:Cx σ} {O:Outside σ} {E:Env} {h:Nat→Option Ob} {g:σ} {w:World} (r:Rel X O E h g w) {c:Nat} (hc:¬ E.D c) {w1:World} {ob:Obj} {o:Ob} {k:Nat}
  (hw:w1=w.alloc ob) (ho:RO (E.more c w.heap.size k) c w1 o) (hng:X.ng≤c):Rel X O (E.more c w.heap.size k) (put1 h c (some o)) g w1∧Mvd E h c w (E.more c w.heap.size k) (put1 h c (some o)) (c + 1) w1:=by
 have ext:Ext E (E.more c w.heap.size k):=Env.more_ext hc;have hold:∀ b,b < w.heap.size→w1.heap[b]?=w.heap[b]?:=fun b hb=>by rw [hw]; exact heap_alloc_lt hb
 have hsz:w1.heap.size=w.heap.size + 1:=by rw [hw]; simp
 have hι:∀ i,i≠c→(E.more c w.heap.size k).ι i=E.ι i:=fun i hi=>by simp [Env.more,hi]
 have hιc:(E.more c w.heap.size k).ι c=w.heap.size:=by simp [Env.more]
 have hne:∀ i,i≠c→put1 h c (some o) i=h i:=fun i hi=>by simp [put1,hi]
 refine ⟨⟨fun id x hx=>?_,fun i j hi hj e=>?_,fun i hi=>?_,fun b hb=>?_,fun b hb=>?_,?_⟩,⟨ext,fun id hd=>?_,by omega,fun b hb _ _=>hold b hb,fun id hi=>?_,fun b hb=>.inl hb,fun id hi=>?_,by rw [hw]; exact ⟨rfl,rfl,rfl⟩⟩⟩
 ·by_cases hid:id=c
  ·subst hid
   simp only [put1,if_pos] at hx;injection hx with hx
   subst hx;exact ⟨by simp [Env.more],ho⟩
  ·rw [hne id hid] at hx
   obtain ⟨a,b⟩:=r.ob id x hx;exact ⟨(ext id a).1,b.ext ext a (hold _ (r.block_lt hx))⟩
 ·have lt:∀ i,i≠c→put1 h c (some o) i≠none→(E.more c w.heap.size k).ι i < w.heap.size:=fun i hi hn=>by
   rw [hne i hi] at hn;cases hx:h i with
   | none=>exact absurd hx hn
   | some x=>rw [hι i hi]; exact r.block_lt hx
  by_cases h1:i=c <;> by_cases h2:j=c
  ·rw [h1,h2]
  ·subst h1; have:=lt j h2 hj; rw [hιc] at e; omega
  ·subst h2; have:=lt i h1 hi; rw [hιc] at e; omega
  ·rw [hι i h1,hι j h2] at e
   rw [hne i h1] at hi;rw [hne j h2] at hj;exact r.inj i j hi hj e
 ·by_cases h1:i=c
  ·subst h1
   rw [hιc];intro hb;have:=r.lt _ hb;omega
  ·rw [hne i h1] at hi
   rw [hι i h1];exact r.apart i hi
 ·obtain ⟨a,b',d⟩:=r.glob b hb
  have:b≠c:=by omega
  exact ⟨(ext b a).1,by rw [hι b this]; exact b',by simpa [Env.more,this] using d⟩
 ·have:=r.lt b hb
  omega
 ·exact O.keep _ _ _ _ _ r.out ext (fun _=>Iff.rfl) (fun b hb=>hold b (r.lt b hb)) (by omega) (by rw [hw]; exact ⟨rfl,rfl,rfl⟩)
 ·rcases hd with h | h
  ·exact .inl h
  ·exact .inr (by omega)
 ·by_cases h1:id=c
  ·subst h1; exact .inr (by rw [hιc]; omega)
  ·rw [hne id h1] at hi
   exact .inl ⟨id,hi,hι id h1⟩
 ·by_cases h1:id=c
  ·exact .inr (by omega)
  ·rw [hne id h1] at hi
   exact .inl hi
theorem Rel.drawn {X:Cx σ} {O:Outside σ} {E:Env} {h:Nat→Option Ob} {g:σ} {w w':World} (r:Rel X O E h g w) (hw:w'.heap=w.heap) (hk:Kp w w':=by exact ⟨rfl,rfl,rfl⟩):Rel X O E h g w' :=
 ⟨fun id o hi=>⟨(r.ob id o hi).1,(r.ob id o hi).2.ext (Ext.refl E) (r.ob id o hi).1 (by rw [hw])⟩,r.inj,r.apart,r.glob,by rw [hw]; exact r.lt,O.keep _ _ _ _ _ r.out (Ext.refl E) (fun _=>Iff.rfl) (fun b _=>by rw [hw]) (by rw [hw]; exact Nat.le_refl _) hk⟩
theorem Rel.wrote {X:Cx σ} {O:Outside σ} {E:Env} {h:Nat→Option Ob} {g:σ} {w w':World} (r:Rel X O E h g w) {id:Nat} {o o':Ob} (hi:h id=some o) (ho:RO E id w' o')
  (hw:∀ b,b≠E.ι id→w'.heap[b]?=w.heap[b]?) (hs:w'.heap.size=w.heap.size) (c:Nat) (hk:Kp w w':=by exact ⟨rfl,rfl,rfl⟩):Rel X O E (put1 h id (some o')) g w'∧Mvd E h c w E (put1 h id (some o')) c w':=by
 have hne:∀ i,put1 h id (some o') i≠none→h i≠none:=fun i hn=>by
  by_cases e:i=id
  ·subst e; rw [hi]; simp
  ·simpa [put1,e] using hn
 refine ⟨⟨fun i x hx=>?_,fun i j a b e=>r.inj i j (hne i a) (hne j b) e,fun i a=>r.apart i (hne i a),r.glob,fun b hb=>by rw [hs]; exact r.lt b hb,?_⟩,⟨Ext.refl E,fun _ h=>.inl h,by omega,fun b hb hB hI=>?_,fun i hn=>.inl ⟨i,hne i hn,rfl⟩,fun _ h=>.inl h,fun i hn=>.inl (hne i hn),hk⟩⟩
 ·by_cases e:i=id
  ·subst e
   simp only [put1,if_pos] at hx;injection hx with hx
   subst hx;exact ⟨(r.ob i o hi).1,ho⟩
  ·simp only [put1,if_neg e] at hx
   obtain ⟨a,b⟩:=r.ob i x hx;exact ⟨a,b.ext (Ext.refl E) a (hw _ fun e'=>e (r.inj i id (by rw [hx]; simp) (by rw [hi]; simp) e'))⟩
 ·exact O.keep _ _ _ _ _ r.out (Ext.refl E) (fun _=>Iff.rfl) (fun b hb=>hw b fun e=>r.apart id (by rw [hi]; simp) (e ▸ hb)) (by omega) hk
 ·exact hw b (hI id (by rw [hi]; simp)).symm
end Go.Proofs.YtijegngfclkdaaaGreatDoor.Ev
namespace Go.Proofs.YtijegngfclkdaaaGreatDoor.Ev
open Go
variable {σ:Type}
structure XOK (X:Cx σ):Prop where
 und:∀ t d,X.und t=some d→X.P.underlying t=some d
 inf:∀ t i,X.inf t=some i→∃ ti,X.P.info? t=some ti∧ti.size=i.size∧ti.bytes=i.bytes∧ti.zero=some i.zero
 zsz:∀ t i,X.inf t=some i→i.zero.cells.size=i.size
 fn : ∀ f i, X.fn f = some i → ∃ F, X.P.funcs[f]? = some F ∧ F.body = some i.body ∧ F.ntmps = i.nt ∧ F.results.toList = i.res ∧ (F.name == "runtime.NumGoroutine") = false
 mixed:X.P.follows .mixedOrders=true
theorem run_v {P:Program} {s:Sem Value} {w w':World} {y:Value} (h:s.run P w=.ok y w'):(do pure (Next.value (← s)):Sem Next).run P w=.ok (.value y) w':=by
 rw [Sem.run_bind,h]; rfl
theorem run_u {P:Program} {s:Sem Unit} {w w':World} (h:s.run P w=.ok () w'):(do s; pure Next.skip:Sem Next).run P w=.ok .skip w':=by
 rw [Sem.run_bind,h]; rfl
theorem run_isAgg {P:Program} {t:TypeId} {d:TypeDesc} (h:P.underlying t=some d) (w:World):(isAgg t).run P w=.ok (aggD d) w:=by
 unfold isAgg;rw [Sem.run_bind,run_underlying h];cases d <;> rfl
theorem run_sizeOf' {P:Program} {t:TypeId} {i:TypeInfo} (h:P.info? t=some i) (w:World):(sizeOf t).run P w=.ok i.size w:=by
 simp [sizeOf,typeInfo,h]
theorem run_zero' {P:Program} {t:TypeId} {i:TypeInfo} {z:Value} (h:P.info? t=some i) (hz:i.zero=some z) (w:World):(zeroValue t).run P w=.ok z w:=by
 simp [zeroValue,typeInfo,h,hz]
theorem ofCells_R {E:Env} {d:TypeDesc} {l:List Ce} {v:AV} (h:ofCells d l=some v):(aggD d=true∧v=.w (.agg l))∨(aggD d=false∧∃ c,l=[c]∧v=.w (.one c)):=by
 unfold ofCells at h;split at h
 ·rename_i hd; injection h with h; exact .inl ⟨hd,h.symm⟩
 ·rename_i hd
  split at h
  ·rename_i c; injection h with h; exact .inr ⟨hd,c,rfl,h.symm⟩
  ·cases h
theorem look_some {S:Tr Ob} {id:Nat} {l:List Ce} (h:look S id=some l):∃ ty,S.get id=some (.row l ty):=by
 unfold look at h;split at h
 ·rename_i l' ty e; injection h with h; subst h; exact ⟨ty,e⟩
 ·cases h
theorem loadVar_R {X:Cx σ} (hX:XOK X) {E:Env} {w:World} {id off:Nat} {l:List Ce} {ty:TypeId} (hr:RO E id w (.row l ty)) {t:TypeId} {d:TypeDesc} {i:TI} (hd:X.und t=some d) (hi:X.inf t=some i)
  {v:AV} (h:(cut l off (match aggD d with | true=>i.size | false=>1)).bind (ofCells d)=some v):∃ y,(loadVar t ⟨E.ι id,E.sh id + off,none⟩).run X.P w=.ok y w∧RV E v y:=by
 obtain ⟨ti,i1,i2,_⟩:=hX.inf _ _ hi;rw [Option.bind_eq_some_iff] at h;obtain ⟨cs,h1,h2⟩:=h;obtain ⟨c1,vs,c2,c3,c4⟩:=cut_lies hr h1;unfold loadVar;rw [Sem.run_bind,run_isAgg (hX.und _ _ hd)];rcases ofCells_R (E:=E) h2 with ⟨ha,rfl⟩ | ⟨ha,c,rfl,rfl⟩
 ·rw [ha] at c2 ⊢
  refine ⟨.agg vs.toArray,?_,vs.toArray,rfl,c3⟩;simp only [Result.andThen_ok,if_true,Sem.run_bind,run_sizeOf' i1,i2,loadCells_lies c4 c2,Sem.run_pure]
 ·rw [ha] at c2 ⊢
  match vs,c3,c4 with
  | [y],c3,c4 =>
   refine ⟨y,?_,c3.1⟩;have:=c4 0 y rfl;simp only [Nat.add_zero] at this;simp only [Result.andThen_ok,Bool.false_eq_true,if_false,run_load,this]
theorem load_R {X:Cx σ} (hX:XOK X) {E:Env} {w:World} {id off:Nat} {l:List Ce} {ty:TypeId} (hr:RO E id w (.row l ty)) {t:TypeId} {d:TypeDesc} {i:TI} (hd:X.und t=some d) (hi:X.inf t=some i)
  {v:AV} (h:(cut l off (match aggD d with | true=>i.size | false=>1)).bind (ofCells d)=some v):∃ y,(Instr.loadAt t (.pointer (some ⟨E.ι id,E.sh id + off,none⟩))).run X.P w=.ok y w∧RV E v y:=by
 obtain ⟨y,h1,h2⟩:=loadVar_R hX hr hd hi h;exact ⟨y,by simpa [Instr.loadAt,Instr.sureAddr] using h1,h2⟩
theorem extract_list {A:Array Value} {o k:Nat}:(A.extract o (o + k)).toList=(A.toList.drop o).take k:=by
 simp [Array.toList_extract,List.extract]
theorem Rel2.take {α β:Type} {R:α→β→Prop}:∀ {l:List α} {r:List β} (k:Nat),Rel2 R l r→Rel2 R (l.take k) (r.take k)
 | _,_,0,_=>by simp; trivial
 | [],[],_ + 1,_=>trivial
 | _ :: _,_ :: _,k + 1,⟨a,b⟩=>⟨a,Rel2.take k b⟩
theorem Rel2.drop {α β:Type} {R:α→β→Prop}:∀ {l:List α} {r:List β} (k:Nat),Rel2 R l r→Rel2 R (l.drop k) (r.drop k)
 | _,_,0,h=>by simpa using h
 | [],[],_ + 1,_=>trivial
 | _ :: _,_ :: _,k + 1,⟨_,b⟩=>by simpa using Rel2.drop k b
theorem part_R {X:Cx σ} (hX:XOK X) {E:Env} {w:World} {l:List Ce} {A:Array Value} (hr:Rel2 (RC E) l A.toList) {t:TypeId} {off:Nat} {v:AV} (h:partC X t l off=some v) :
  ∃ y,(part t A off).run X.P w=.ok y w∧RV E v y:=by
 simp only [partC,Option.bind_eq_some_iff] at h;obtain ⟨d,hd,i,hi,h⟩:=h;obtain ⟨ti,i1,i2,_⟩:=hX.inf _ _ hi;unfold part;rw [Sem.run_bind,run_isAgg (hX.und _ _ hd)];split at h
 ·rename_i ha
  rw [Option.map_eq_some_iff] at h;obtain ⟨cs,h1,rfl⟩:=h;obtain ⟨c1,c2⟩:=cut_spec h1;refine ⟨.agg (A.extract off (off + i.size)),?_,_,rfl,?_⟩
  ·simp only [Result.andThen_ok,ha,if_true,Sem.run_bind,run_sizeOf' i1,i2,Sem.run_pure]
  ·rw [extract_list,c2]
   exact (hr.drop off).take i.size
 ·rename_i ha
  rw [Option.bind_eq_some_iff] at h;obtain ⟨cs,h1,h2⟩:=h;obtain ⟨c1,c2⟩:=cut_spec h1;rcases ofCells_R (E:=E) h2 with ⟨ha',_⟩ | ⟨_,c,rfl,rfl⟩
  ·rw [ha] at ha'; cases ha'
  ·have hl:l[off]?=some c:=by
    have:((l.drop off).take 1)[0]?=some c:=by rw [← c2]; rfl
    simpa using this
   obtain ⟨y,g1,g2⟩:=hr.get hl;refine ⟨y,?_,g2⟩;have:A[off]?=some y:=by simpa using g1
   simp only [Result.andThen_ok,ha,Bool.false_eq_true,if_false,this,Sem.run_pure]
theorem natOf_R {E:Env} {v:AV} {n:Nat} {y:Value} (h:natOf v=some n) (hr:RV E v y):∃ k,y=.int k (n:Int):=by
 unfold natOf at h;split at h
 ·rename_i k m; injection h with h; subst h; exact ⟨k,hr.1⟩
 ·cases h
theorem add_off {b o k:Nat}:(⟨b,o,none⟩:Addr).add k=⟨b,o + k,none⟩:=by
 unfold Addr.add;split
 ·rename_i h; subst h; rfl
 ·rfl
theorem fieldAt_R {X:Cx σ} (hX:XOK X) {w:World} {t:TypeId} {fs:Array Field} {f:Nat} {fd:Field} {i:TI} {b o:Nat} (hd:X.und t=some (.struct fs)) (hf:fs[f]?=some fd) (hi:X.inf fd.type=some i) (h1:1≤i.size) :
  (Instr.fieldAt t (.pointer (some ⟨b,o,none⟩)) f).run X.P w=.ok (.pointer (some ⟨b,o + fd.offset,none⟩)) w:=by
 obtain ⟨ti,i1,i2,_⟩:=hX.inf _ _ hi;have h0:¬ (ti.size=0):=by omega
 simp [Instr.fieldAt,run_underlying (hX.und _ _ hd),hf,Instr.sureAddr,fieldPlace,run_sizeOf' i1,h0,add_off]
theorem indexAt_slice_R {X:Cx σ} (hX:XOK X) {w:World} {t e:TypeId} {ie:TI} {k:IntKind} {i len cap:Nat} {a:Addr} (hd:X.und t=some (.slice e)) (hi:X.inf e=some ie) (h:i < len) :
  (Instr.indexAt t (.slice (some a) len cap) (.int k (i:Int))).run X.P w=.ok (.pointer (some (a.add (i * ie.size)))) w:=by
 obtain ⟨ti,i1,i2,_⟩:=hX.inf _ _ hi;have h1:(i:Int) < (len:Int):=by omega
 simp [Instr.indexAt,asIntOf,run_underlying (hX.und _ _ hd),run_sizeOf' i1,h1,i2];intro hh;omega
theorem indexAt_array_R {X:Cx σ} (hX:XOK X) {w:World} {t e:TypeId} {ie:TI} {k:IntKind} {i len:Nat} {a:Addr} (hd:X.und t=some (.array len e)) (hi:X.inf e=some ie) (h:i < len) :
  (Instr.indexAt t (.pointer (some a)) (.int k (i:Int))).run X.P w=.ok (.pointer (some (a.add (i * ie.size)))) w:=by
 obtain ⟨ti,i1,i2,_⟩:=hX.inf _ _ hi;have h1:(i:Int) < (len:Int):=by omega
 simp [Instr.indexAt,asIntOf,run_underlying (hX.und _ _ hd),run_sizeOf' i1,h1,i2,Instr.sureAddr];intro hh;omega
theorem sliceBound_R {P:Program} {w:World} {k:IntKind} {i y:Nat} {c:BoundsCode} (h:i≤y):(Instr.sliceBound (.int k (i:Int)) y c).run P w=.ok i w:=by
 have h1:(i:Int)≤(y:Int):=by omega
 simp [Instr.sliceBound,asIntOf,h1]
end Go.Proofs.YtijegngfclkdaaaGreatDoor.Ev
