/-
  Pieces of the proof: part 11 of 54.
  Conditions: none.
-/
import Derived.WalkKit
import Derived.WalkSpells
import Derived.WalkLawsBesides
import Derived.Lib.Hide
import Derived.Deep.AppendLies
import Derived.Deep.Draws
import Derived.Laws.CopyOwn
import Derived.Test.YtijegngfclkdaaaGreatDoorW10
set_option linter.unusedVariables false
set_option linter.unusedSimpArgs false
set_option maxHeartbeats 100000000
set_option maxRecDepth 100000
namespace Go.Proofs.YtijegngfclkdaaaGreatDoor.Ev
open Go
section
variable {σ:Type}
def Env.ren (E:Env) (ρ:Nat→Option (Nat×Nat)):Env where
 ι:=fun i=>match ρ i with | some p=>E.ι p.1 | none=>0
 sh:=fun i=>match ρ i with | some p=>E.sh p.1 + p.2 | none=>0
 κ:=fun i=>match ρ i with | some p=>E.κ p.1 | none=>0
 D:=fun i=>∃ p,ρ i=some p∧E.D p.1
 sy:=fun i=>match ρ i with | some p=>E.sy p.1 | none=>.bool false
 B:=E.B
def eqT (ρ:Nat→Option (Nat×Nat)) (a b o' o:Nat):Bool:=match ρ a with
 | some p=>Nat.beq p.1 b && Nat.beq (p.2 + o') o
 | none=>false
def toB (ρ:Nat→Option (Nat×Nat)) (a b:Nat):Bool:=match ρ a with
 | some p=>Nat.beq p.1 b
 | none=>false
def wkAt (ρ:Nat→Option (Nat×Nat)):At→At→Bool
 | .top,_=>true
 | .v x,.v y=>sameV x y
 | .ptr a o,.ptr b o'=>eqT ρ a b o o'
 | .sl a o n cp ez,.sl b o' n' cp' ez'=>eqT ρ a b o o' && Nat.beq n n' && (match cp with | none=>(match cp' with | none=>true | some k=>Nat.ble k 65536) | some _=>sameO cp cp') && Nat.beq ez ez'
 | .mp a,.mp b=>toB ρ a b
 | .sym a,.sym b=>toB ρ a b
 | .op a,.op b=>toB ρ a b
 | _,_=>false
def wkAr (ρ:Nat→Option (Nat×Nat)):Ar→Ar→Bool
 | .one a,.one b=>wkAt ρ a b
 | .agg a,.agg b=>sameL (wkAt ρ) a b
 | _,_=>false
def wkCe (ρ:Nat→Option (Nat×Nat)):Ce→Ce→Bool
 | .a x,.a y=>wkAt ρ x y
 | .a .top,.fn ..=>true
 | .fn f a b,.fn g c d=>sameFn f g && sameL (wkAr ρ) a c && sameL (wkAr ρ) b d
 | _,_=>false
def wkRow (ρ:Nat→Option (Nat×Nat)):List Ce→List Ce→Bool
 | [],_=>true
 | a :: l,b :: r=>wkCe ρ a b && wkRow ρ l r
 | _,_=>false
def wkE:List MapEntry→List MapEntry→Bool
 | [],[]=>true
 | a :: l,b :: r=>sameV a.key b.key && sameV a.val b.val && wkE l r
 | _,_=>false
def dropN:Nat→List Ce→Option (List Ce)
 | 0,l=>some l
 | _ + 1,[]=>none
 | n + 1,_ :: l=>dropN n l
def wkOb (ρ:Nat→Option (Nat×Nat)) (s:Nat):Ob→Ob→Bool
 | .row a t,.row b u=>Nat.beq t u && (match dropN s b with | some r=>wkRow ρ a r | none=>false)
 | .map a _,.map b _=>wkE a b
 | _,_=>false
def renL (ng:Nat):List (Nat×Nat×Nat)→Nat→Option (Nat×Nat)
 | [],i=>match Nat.blt i ng with
  | true=>some (i,0)
  | false=>none
 | p :: l,i=>match Nat.beq p.1 i with
  | true=>some p.2
  | false=>renL ng l i
def wkAll (ρ:Nat→Option (Nat×Nat)) (m l:List (Nat×Ob)):Bool :=
 (l.all fun p=>match ρ p.1 with
  | some q=>(match hOf m q.1 with | some o=>wkOb ρ q.2 p.2 o | none=>false)
  | none=>false) &&
 l.all fun p=>l.all fun q=>Nat.beq p.1 q.1 || !(match ρ p.1,ρ q.1 with | some a,some b=>Nat.beq a.1 b.1 | _,_=>true)
def renOK (ng c:Nat) (l:List (Nat×Nat×Nat)):Bool:=Nat.ble ng c && l.all fun p=>Nat.ble ng p.1 && Nat.blt p.1 c
theorem wkAt_R {E:Env} {ρ:Nat→Option (Nat×Nat)}:∀ {a b:At} {y:Value},wkAt ρ a b=true→RA E b y→RA (E.ren ρ) a y:=by
 have hE:∀ {a b o o'},eqT ρ a b o o'=true→∃ s,ρ a=some (b,s)∧s + o=o':=fun {a b o o'} h=>by
  unfold eqT at h;split at h
  ·rename_i p hp
   simp only [Bool.and_eq_true] at h;obtain ⟨p1,p2⟩:=p;have h1:=Nat.eq_of_beq_eq_true h.1;have h2:=Nat.eq_of_beq_eq_true h.2;dsimp only at h1 h2;subst h1;exact ⟨p2,hp,h2⟩
  ·cases h
 have hT:∀ {a b},toB ρ a b=true→∃ s,ρ a=some (b,s):=fun {a b} h=>by
  unfold toB at h;split at h
  ·rename_i p hp
   obtain ⟨p1,p2⟩:=p;have h1:=Nat.eq_of_beq_eq_true h;dsimp only at h1;subst h1;exact ⟨p2,hp⟩
  ·cases h
 intro a b y h r;cases a with
 | top=>exact r.oneCell
 | v x =>
  cases b <;> first | (simp [wkAt] at h; done) | skip;rename_i x';have:=sameV_eq (show sameV x x'=true from h);subst this;exact r
 | ptr i o =>
  cases b <;> first | (simp [wkAt] at h; done) | skip;rename_i j o';obtain ⟨s,h1,h2⟩:=hE (show eqT ρ i j o o'=true from h);obtain ⟨d,e⟩:=r;refine ⟨⟨_,h1,d⟩,?_⟩;rw [e,← h2];simp only [Env.ren,h1,Nat.add_assoc]
 | sl i o n cp ez =>
  cases b <;> first | (simp [wkAt] at h; done) | skip;rename_i j o' n' cp' ez';simp only [wkAt,Bool.and_eq_true] at h;obtain ⟨⟨⟨g1,g2⟩,g3⟩,g4⟩:=h;obtain ⟨s,h1,h2⟩:=hE g1;have e2:=Nat.eq_of_beq_eq_true g2;have e4:=Nat.eq_of_beq_eq_true g4;subst e2 e4 h2;obtain ⟨d,ad,c,r1,r2,r3,r4⟩:=r;refine ⟨⟨_,h1,d⟩,ad,c,r1,r2,?_,fun k hk=>?_,fun hk=>?_⟩
  ·rcases r3 with ⟨a1,a2⟩ | ⟨a1,a2⟩
   ·exact .inl ⟨a1,by simp only [Env.ren,h1]; exact a2⟩
   ·exact .inr ⟨by rw [a1]; simp only [Env.ren,h1,Nat.add_assoc],by simp only [Env.ren,h1]; omega⟩
  ·subst hk
   dsimp only at g3;cases cp' with
   | none=>simp [sameO] at g3
   | some k'=>exact r4.1 k (by rw [Nat.eq_of_beq_eq_true (show Nat.beq k k'=true from g3)])
  ·subst hk
   dsimp only at g3;cases cp' with
   | none=>exact r4.2 rfl
   | some k' =>
    have:=Nat.le_of_ble_eq_true (show Nat.ble k' 65536=true from g3);have:=r4.1 k' rfl;omega
 | mp i =>
  cases b <;> first | (simp [wkAt] at h; done) | skip;rename_i j;obtain ⟨s,h1⟩:=hT (show toB ρ i j=true from h);obtain ⟨d,e⟩:=r;exact ⟨⟨_,h1,d⟩,by rw [e]; simp only [Env.ren,h1]⟩
 | sym i =>
  cases b <;> first | (simp [wkAt] at h; done) | skip;rename_i j;obtain ⟨s,h1⟩:=hT (show toB ρ i j=true from h);obtain ⟨d,e,f⟩:=r;exact ⟨⟨_,h1,d⟩,by rw [e]; simp only [Env.ren,h1],f⟩
 | op i =>
  cases b <;> first | (simp [wkAt] at h; done) | skip;rename_i j;obtain ⟨s,h1⟩:=hT (show toB ρ i j=true from h);obtain ⟨d,e,f⟩:=r;exact ⟨⟨_,h1,d⟩,by rw [e]; simp only [Env.ren,h1],f⟩
theorem wkL {α γ:Type} {f:α→α→Bool} {R R':α→γ→Prop} (H:∀ a b y,f a b=true→R b y→R' a y):∀ {l m:List α} {r:List γ},sameL f l m=true→Rel2 R m r→Rel2 R' l r
 | [],[],[],_,_=>trivial
 | a :: l,b :: m,y :: r,h,⟨h1,h2⟩=>by
  simp only [sameL,Bool.and_eq_true] at h;exact ⟨H a b y h.1 h1,wkL H h.2 h2⟩
 | [],[],_ :: _,_,h=>h.elim
 | _ :: _,_ :: _,[],_,h=>h.elim
 | [],_ :: _,_,h,_=>by simp [sameL] at h
 | _ :: _,[],_,h,_=>by simp [sameL] at h
theorem wkAr_R {E:Env} {ρ:Nat→Option (Nat×Nat)} {a b:Ar} {y:Value} (h:wkAr ρ a b=true) (r:RAr E b y):RAr (E.ren ρ) a y:=by
 cases a <;> cases b <;> first | (simp [wkAr] at h; done) | skip
 ·exact wkAt_R h r
 ·obtain ⟨A,r1,r2⟩:=r
  exact ⟨A,r1,wkL (f:=wkAt ρ) (R:=RA E) (R':=RA (E.ren ρ)) (fun _ _ _=>wkAt_R) h r2⟩
theorem wkCe_R {E:Env} {ρ:Nat→Option (Nat×Nat)} {a b:Ce} {y:Value} (h:wkCe ρ a b=true) (r:RC E b y):RC (E.ren ρ) a y:=by
 cases a with
 | a x =>
  cases b with
  | a x'=>exact wkAt_R h r
  | fn f fi ca =>
   cases x <;> first | (simp [wkCe] at h; done) | skip;exact RC.oneCell (x:=.fn f fi ca) r
 | fn f fi ca =>
  cases b with
  | a x'=>simp [wkCe] at h
  | fn g fi' ca' =>
   simp only [wkCe,Bool.and_eq_true] at h;obtain ⟨A,B,r1,r2,r3⟩:=r;have:=sameFn_eq h.1.1;subst this;exact ⟨A,B,r1,wkL (f:=wkAr ρ) (R:=RAr E) (R':=RAr (E.ren ρ)) (fun _ _ _=>wkAr_R) h.1.2 r2,wkL (f:=wkAr ρ) (R:=RAr E) (R':=RAr (E.ren ρ)) (fun _ _ _=>wkAr_R) h.2 r3⟩
theorem wkRow_get {ρ:Nat→Option (Nat×Nat)}:∀ {l r:List Ce} {i:Nat} {c:Ce},wkRow ρ l r=true→l[i]?=some c→∃ d,r[i]?=some d∧wkCe ρ c d=true
 | [],_,_,_,_,h=>by simp at h
 | a :: l,b :: r,0,c,h,hc=>by
  simp only [wkRow,Bool.and_eq_true] at h;simp at hc;subst hc;exact ⟨b,rfl,h.1⟩
 | a :: l,b :: r,i + 1,c,h,hc=>by
  simp only [wkRow,Bool.and_eq_true] at h;simpa using wkRow_get h.2 (by simpa using hc)
 | _ :: _,[],_,_,h,_=>by simp [wkRow] at h
theorem wkRow_length {ρ:Nat→Option (Nat×Nat)}:∀ {l r:List Ce},wkRow ρ l r=true→l.length≤r.length
 | [],_,_=>Nat.zero_le _
 | a :: l,b :: r,h=>by
  simp only [wkRow,Bool.and_eq_true] at h;have:=wkRow_length h.2;simp only [List.length_cons];omega
 | _ :: _,[],h=>by simp [wkRow] at h
theorem dropN_some:∀ {n:Nat} {l r:List Ce},dropN n l=some r→r=l.drop n∧n≤l.length
 | 0,l,r,h=>by simp only [dropN] at h; injection h with h; subst h; exact ⟨rfl,Nat.zero_le _⟩
 | n + 1,[],r,h=>by simp [dropN] at h
 | n + 1,_ :: l,r,h=>by
  obtain ⟨a,b⟩:=dropN_some (n:=n) (l:=l) (r:=r) h;exact ⟨by simpa using a,by simpa using b⟩
theorem wkE_SM:∀ {a b r:List MapEntry},wkE a b=true→SM b r→SM a r
 | [],[],_,_,h=>h
 | a :: l,b :: m,y :: r,h,⟨⟨h1,h2⟩,h3⟩=>by
  simp only [wkE,Bool.and_eq_true] at h;exact ⟨⟨by rw [h1,sameV_eq h.1.1],by rw [h2,sameV_eq h.1.2]⟩,wkE_SM h.2 h3⟩
 | _ :: _,_ :: _,[],_,h=>h.elim
 | [],_ :: _,_,h,_=>by simp [wkE] at h
 | _ :: _,[],_,h,_=>by simp [wkE] at h
theorem wkOb_R {E:Env} {ρ:Nat→Option (Nat×Nat)} {i j s:Nat} (hi:ρ i=some (j,s)) {w:World} {a b:Ob} (h:wkOb ρ s a b=true) (r:RO E j w b):RO (E.ren ρ) i w a:=by
 cases a with
 | row l ty =>
  cases b with
  | map es c=>simp [wkOb] at h
  | row m u =>
   simp only [wkOb,Bool.and_eq_true] at h;obtain ⟨h1,h2⟩:=h;have e1:=Nat.eq_of_beq_eq_true h1;subst e1;split at h2
   ·rename_i q hq
    obtain ⟨e2,e3⟩:=dropN_some hq;subst e2;obtain ⟨arr,fz,r1,r2,r3,r4,r5⟩:=r;have hlen:=wkRow_length h2;rw [List.length_drop] at hlen;refine ⟨arr,fz,by simp only [Env.ren,hi]; exact r1,by simp only [Env.ren,hi]; exact r2,by simp only [Env.ren,hi]; omega,r4,fun k c hc=>?_⟩;obtain ⟨d,g1,g2⟩:=wkRow_get h2 hc;rw [List.getElem?_drop] at g1;obtain ⟨v,v1,v2⟩:=r5 _ _ g1;exact ⟨v,by simp only [Env.ren,hi]; rw [Nat.add_assoc]; exact v1,wkCe_R g2 v2⟩
   ·cases h2
 | map es c =>
  cases b with
  | row m u=>simp [wkOb] at h
  | map es' c' =>
   obtain ⟨r,k,r1,r2⟩:=r;exact ⟨r,k,by simp only [Env.ren,hi]; exact r1,wkE_SM h r2⟩
theorem hOf_mem {l:List (Nat×Ob)} {i:Nat} {o:Ob} (h:hOf l i=some o):(i,o)∈l:=by
 induction l with
 | nil=>cases h
 | cons p l ih =>
  simp only [hOf] at h;split at h
  ·rename_i hb
   injection h with h
   obtain ⟨p1,p2⟩:=p;have:=Nat.eq_of_beq_eq_true hb;dsimp only at this h;subst this h;exact List.mem_cons_self
  ·exact List.mem_cons_of_mem _ (ih h)
theorem renL_glob {ng c:Nat}:∀ {l:List (Nat×Nat×Nat)},renOK ng c l=true→∀ i,i < ng→renL ng l i=some (i,0)
 | [],_,i,hi=>by
  have:Nat.blt i ng=true:=by simpa [Nat.blt_eq] using hi
  simp only [renL,this]
 | p :: l,h,i,hi=>by
  simp only [renOK,List.all_cons,Bool.and_eq_true] at h;have h1:=Nat.le_of_ble_eq_true h.2.1.1;have:Nat.beq p.1 i=false:=by
   cases e:Nat.beq p.1 i with
   | false=>rfl
   | true=>exact absurd (Nat.eq_of_beq_eq_true e) (by omega)
  simp only [renL,this];exact renL_glob (c:=c) (l:=l) (by simp only [renOK,Bool.and_eq_true]; exact ⟨h.1,h.2.2⟩) i hi
theorem renL_lt {ng c:Nat}:∀ {l:List (Nat×Nat×Nat)},renOK ng c l=true→∀ i q,renL ng l i=some q→i < c
 | [],h,i,q,hq=>by
  simp only [renL] at hq;simp only [renOK,List.all_nil,Bool.and_eq_true] at h;have:=Nat.le_of_ble_eq_true h.1;split at hq
  ·rename_i e
   have:i < ng:=by simpa [Nat.blt_eq] using e
   omega
  ·cases hq
 | p :: l,h,i,q,hq=>by
  simp only [renOK,List.all_cons,Bool.and_eq_true] at h;simp only [renL] at hq;split at hq
  ·rename_i e
   have:=Nat.eq_of_beq_eq_true e;have h2:p.1 < c:=by simpa [Nat.blt_eq] using h.2.1.2
   omega
  ·exact renL_lt (ng:=ng) (c:=c) (l:=l) (by simp only [renOK,Bool.and_eq_true]; exact ⟨h.1,h.2.2⟩) i q hq
theorem Rel.ren {X:Cx σ} {O O':Outside σ} {E:Env} {g g':σ} {w:World} {m l:List (Nat×Ob)} {r:List (Nat×Nat×Nat)} {c:Nat} (R:Rel X O E (hOf m) g w) (hr:renOK X.ng c r=true) (hw:wkAll (renL X.ng r) m l=true) (ho:O'.ok g' (E.ren (renL X.ng r)) w) :
  Rel X O' (E.ren (renL X.ng r)) (hOf l) g' w:=by
 simp only [wkAll,Bool.and_eq_true,List.all_eq_true] at hw;obtain ⟨h1,h2⟩:=hw;have key:∀ i o,hOf l i=some o→∃ j s o',renL X.ng r i=some (j,s)∧hOf m j=some o'∧wkOb (renL X.ng r) s o o'=true:=fun i o hi=>by
  have:=h1 _ (hOf_mem hi);dsimp only at this;split at this
  ·rename_i q hq
   split at this
   ·rename_i o' ho'
    exact ⟨q.1,q.2,o',hq,ho',this⟩
   ·cases this
  ·cases this
 have some_of:∀ i,hOf l i≠none→∃ o,hOf l i=some o:=fun i hi=>by
  cases e:hOf l i with
  | none=>exact absurd e hi
  | some o=>exact ⟨o,rfl⟩
 refine ⟨fun i o hi=>?_,fun i j hi hj e=>?_,fun i hi=>?_,fun b hb=>?_,R.lt,ho⟩
 ·obtain ⟨j,s,o',k1,k2,k3⟩:=key i o hi
  obtain ⟨d,ro⟩:=R.ob _ _ k2;exact ⟨⟨_,k1,d⟩,wkOb_R k1 k3 ro⟩
 ·obtain ⟨o1,hi'⟩:=some_of i hi
  obtain ⟨o2,hj'⟩:=some_of j hj;obtain ⟨a,s,oa,a1,a2,_⟩:=key i o1 hi';obtain ⟨b,t,ob,b1,b2,_⟩:=key j o2 hj';have hab:a=b:=R.inj a b (by rw [a2]; simp) (by rw [b2]; simp) (by simpa only [Env.ren,a1,b1] using e);have:=h2 _ (hOf_mem hi') _ (hOf_mem hj');rw [Bool.or_eq_true] at this;rcases this with h | h
  ·exact Nat.eq_of_beq_eq_true h
  ·dsimp only at h
   rw [a1,b1] at h;dsimp only at h;rw [hab,Nat.beq_refl] at h;cases h
 ·obtain ⟨o1,hi'⟩:=some_of i hi
  obtain ⟨a,s,oa,a1,a2,_⟩:=key i o1 hi';have:=R.apart a (by rw [a2]; simp);simpa only [Env.ren,a1] using this
 ·obtain ⟨d,e1,e2⟩:=R.glob b hb
  have hq:=renL_glob hr b hb;exact ⟨⟨_,hq,d⟩,by simp only [Env.ren,hq]; exact e1,by simp only [Env.ren,hq]; omega⟩
theorem ren_fresh {E:Env} {ng c:Nat} {r:List (Nat×Nat×Nat)} (hr:renOK ng c r=true):∀ id,c≤id→¬ (E.ren (renL ng r)).D id:=fun id hi ⟨q,hq,_⟩=>by
 have:=renL_lt hr id q hq;omega
theorem Rel.over {X:Cx σ} {O O':Outside σ} {E E2:Env} {h:Nat→Option Ob} {g g2:σ} {w w2:World} (R:Rel X O E h g w) (hx:Ext E E2) (hB:∀ b,E2.B b→b < w2.heap.size∧∀ i,h i≠none→E.ι i≠b)
  (hw:∀ i,h i≠none→w2.heap[E.ι i]?=w.heap[E.ι i]?) (ho:O'.ok g2 E2 w2):Rel X O' E2 h g2 w2:=by
 have some_of:∀ i,h i≠none→∃ o,h i=some o:=fun i hi=>by
  cases e:h i with
  | none=>exact absurd e hi
  | some o=>exact ⟨o,rfl⟩
 have iota:∀ i,h i≠none→E2.ι i=E.ι i:=fun i hi=>by
  obtain ⟨o,e⟩:=some_of i hi;exact (hx i (R.ob i o e).1).2.1
 refine ⟨fun i o hi=>?_,fun i j hi hj e=>R.inj i j hi hj (by rw [← iota i hi,← iota j hj,e]),fun i hi hb=>?_,fun b hb=>?_,fun b hb=>(hB b hb).1,ho⟩
 ·obtain ⟨d,r⟩:=R.ob i o hi
  exact ⟨(hx i d).1,RO.ext hx d (hw i (by rw [hi]; simp)) r⟩
 ·rw [iota i hi] at hb
  exact (hB _ hb).2 i hi rfl
 ·obtain ⟨d,e1,e2⟩:=R.glob b hb
  obtain ⟨d',f1,f2,_⟩:=hx b d;exact ⟨d',by rw [f1,e1],by rw [f2,e2]⟩
theorem Rel.add {X:Cx σ} {O O':Outside σ} {E E2:Env} {h:Nat→Option Ob} {g g2:σ} {w:World} (R:Rel X O E h g w) (hx:Ext E E2) {k:Nat} {o:Ob} (hD:E2.D k) (ho:RO E2 k w o) (hB:E2.B=E.B) (hk:h k=none) (hne:∀ i,h i≠none→E.ι i≠E2.ι k) (hnB:¬ E.B (E2.ι k)) (hok:O'.ok g2 E2 w) :
  Rel X O' E2 (fun i=>if i=k then some o else h i) g2 w:=by
 have some_of:∀ i,h i≠none→∃ o,h i=some o:=fun i hi=>by
  cases e:h i with
  | none=>exact absurd e hi
  | some o=>exact ⟨o,rfl⟩
 have iota:∀ i,h i≠none→E2.ι i=E.ι i:=fun i hi=>by
  obtain ⟨o,e⟩:=some_of i hi;exact (hx i (R.ob i o e).1).2.1
 refine ⟨fun i o' hi=>?_,fun i j hi hj e=>?_,fun i hi=>?_,fun b hb=>?_,fun b hb=>R.lt b (hB ▸ hb),hok⟩
 ·by_cases e:i=k
  ·subst e
   rw [if_pos rfl] at hi;injection hi with hi
   subst hi;exact ⟨hD,ho⟩
  ·rw [if_neg e] at hi
   obtain ⟨d,r⟩:=R.ob i o' hi;exact ⟨(hx i d).1,RO.ext hx d rfl r⟩
 ·by_cases e1:i=k <;> by_cases e2:j=k
  ·rw [e1,e2]
  ·rw [if_neg e2] at hj
   subst e1;have hj':h j≠none:=hj;exact absurd (by rw [← iota j hj',e]) (hne j hj')
  ·rw [if_neg e1] at hi
   subst e2;exact absurd (by rw [← iota i hi,e]) (hne i hi)
  ·rw [if_neg e1] at hi
   rw [if_neg e2] at hj;exact R.inj i j hi hj (by rw [← iota i hi,← iota j hj,e])
 ·rw [hB]
  by_cases e1:i=k
  ·subst e1; exact hnB
  ·rw [if_neg e1] at hi
   rw [iota i hi];exact R.apart i hi
 ·obtain ⟨d,e1,e2⟩:=R.glob b hb
  obtain ⟨d',f1,f2,_⟩:=hx b d;exact ⟨d',by rw [f1,e1],by rw [f2,e2]⟩
end
end Go.Proofs.YtijegngfclkdaaaGreatDoor.Ev
namespace Go.Proofs.YtijegngfclkdaaaGreatDoor.Ev
open Go
noncomputable section
def tg (p v l d:Nat):Nat:=p + 64 * (v + 65536 * (l + 65536 * d))
def tP (t:Nat):Nat:=t % 64
def tV (t:Nat):Nat:=t / 64 % 65536
def tL (t:Nat):Nat:=t / 4194304 % 65536
def tD (t:Nat):Nat:=t / 274877906944
theorem tg_P {p v l d:Nat} (hp:p < 64):tP (tg p v l d)=p:=by unfold tP tg; omega
theorem tg_V {p v l d:Nat} (hp:p < 64) (hv:v < 65536):tV (tg p v l d)=v:=by unfold tV tg; omega
theorem tg_L {p v l d:Nat} (hp:p < 64) (hv:v < 65536) (hl:l < 65536):tL (tg p v l d)=l:=by unfold tL tg; omega
theorem tg_D {p v l d:Nat} (hp:p < 64) (hv:v < 65536) (hl:l < 65536):tD (tg p v l d)=d:=by unfold tD tg; omega
def isOp (k:Nat):AV→Bool
 | .w (.one (.a (.op j)))=>Nat.beq j k
 | _=>false
def isSy (k:Nat):AV→Bool
 | .w (.one (.a (.sym j)))=>Nat.beq j k
 | _=>false
def hasN (k:Nat):Bool:=Nat.blt 0 k
def u32A (n:Int):AV:=.w (.one (.a (.v (.int .u32 n))))
def blA (b:Bool):AV:=.w (.one (.a (.v (.bool b))))
def c6 (n:Int):V1:=.one (i6 n)
def cb (b:Bool):V1:=.one (bl b)
def stC (l:List UInt8):Ce:=.a (.v (.string ⟨l.toArray⟩))
def findA (x y:Int):AV:=match eqI x 4112 && eqI y 1 with
 | true=>.tup [c6 0,cb true]
 | false=>match eqI x 4113 && eqI y 1 with
  | true=>.tup [c6 1,cb true]
  | false=>match eqI x 8192 && eqI y 0 with
   | true=>.tup [c6 2,cb true]
   | false=>match eqI x 8193 && eqI y 0 with
    | true=>.tup [c6 3,cb true]
    | false=>.tup [c6 0,cb false]
def enA:Nat→Option V1
 | 0=>some (.agg [i6 4112,i6 1,stC [115,97,118,101],i6 7,i6 4,bl false,bl false,i6 0,i6 0,i6 4294967295,.a .top])
 | 1=>some (.agg [i6 4113,i6 1,stC [108,111,97,100],i6 7,i6 4,bl false,bl false,i6 0,i6 0,i6 4294967295,.a .top])
 | 2=>some (.agg [i6 8192,i6 0,stC [97],i6 9,i6 4,bl false,bl true,i6 256,i6 0,i6 0,.a .top])
 | 3=>some (.agg [i6 8193,i6 0,stC [98],i6 9,i6 4,bl false,bl true,i6 256,i6 0,i6 0,.a .top])
 | _=>none
def oFind (args:List AV) (s:St Nat):Option (AV×St Nat):=match args with
 | [d,.w (.one (.a (.v (.int .i64 x)))),.w (.one (.a (.v (.int .i64 y))))]=>gd (hasN (tD s.g) && isOp (tD s.g) d) (some (findA x y,s))
 | _=>none
def oEntry (args:List AV) (s:St Nat):Option (AV×St Nat):=match args with
 | [d,.w (.one (.a (.v (.int .i64 (.ofNat i)))))]=>gd (hasN (tD s.g) && isOp (tD s.g) d) ((enA i).map fun e=>(.tup [e,cb true],s))
 | _=>none
def toP (s:St Nat) (p:Nat):St Nat:={ s with g:=tg p (tV s.g) (tL s.g) (tD s.g) }
def oPoke (args:List AV) (s:St Nat):Option (AV×St Nat):=match args with
 | [d,.w (.one (.a (.v (.int .i64 x)))),.w (.one (.a (.v (.int .i64 y)))),b] =>
  gd (hasN (tD s.g) && isOp (tD s.g) d && isSy 105 b && eqI y 0 && ((Nat.beq (tP s.g) 1 && eqI x 8192) || (Nat.beq (tP s.g) 2 && eqI x 8193))) (some (u32A 0,toP s 3))
 | _=>none
def capB (cp:Option Nat):Bool:=match cp with
 | none=>true
 | some k=>Nat.ble k 65536
def bytesOf (S:Tr Ob):At→Option (List UInt8)
 | .v (.slice none 0 0)=>some []
 | .sl id off n cp 1=>gd (capB cp) ((look S id).bind fun r=>(cut r off n).bind bytesC)
 | _=>none
def isWord (S:Tr Ob) (v:At) (l:List UInt8):Bool:=match bytesOf S v with
 | some b=>decide (b=l)
 | none=>false
def oGuard (args:List AV) (s:St Nat):Option (AV×St Nat):=match args with
 | [d,.w (.agg [.a (.v (.int .i64 x)),.a (.v (.int .i64 y)),.a v])] =>
  gd (hasN (tD s.g) && isOp (tD s.g) d && eqI y 1 && ((eqI x 4112 && isWord s.S v [115,97,118,101]) || (eqI x 4113 && isWord s.S v [108,111,97,100]))) (some (u32A 0,s))
 | _=>none
def cmdA (p:Nat) (s:St Nat):Option (AV×St Nat):=match Nat.beq (tP s.g) p with
 | true=>some (u32A 0,toP s 7)
 | false=>match Nat.beq (tP s.g) (p + 1) with
  | true=>some (u32A 101056512,toP s 8)
  | false=>gd (Nat.beq (tP s.g) (p + 2)) (some (u32A 101056512,toP s 9))
def oStore (args:List AV) (s:St Nat):Option (AV×St Nat):=match args with
 | [v,d,.w (.one (.a (.v (.int .i64 n))))]=>gd (hasN (tD s.g) && isOp (tD s.g) d && hasN (tV s.g) && isOp (tV s.g) v && eqI n 1) (cmdA 4 s)
 | _=>none
def oRestore (args:List AV) (s:St Nat):Option (AV×St Nat):=match args with
 | [v,.w (.one (.a (.v (.int .i64 n))))]=>gd (hasN (tV s.g) && isOp (tV s.g) v && eqI n 1) (cmdA 10 s)
 | _=>none
def oOff (args:List AV) (s:St Nat):Option (AV×St Nat):=match args with
 | [v]=>gd (hasN (tV s.g) && isOp (tV s.g) v) (match Nat.beq (tP s.g) 9 with
  | true=>some (blA true,s)
  | false=>gd (Nat.beq (tP s.g) 3 || Nat.beq (tP s.g) 7 || Nat.beq (tP s.g) 8 || Nat.beq (tP s.g) 19 || Nat.beq (tP s.g) 20) (some (blA false,s)))
 | _=>none
def oOdd (args:List AV) (s:St Nat):Option (AV×St Nat):=match args with
 | [v]=>gd (hasN (tV s.g) && isOp (tV s.g) v) (match Nat.beq (tP s.g) 20 with
  | true=>some (blA true,s)
  | false=>gd (Nat.beq (tP s.g) 19) (some (blA false,s)))
 | _=>none
def oOpen (args:List AV) (s:St Nat):Option (AV×St Nat):=match args with
 | [f,d]=>gd (hasN (tD s.g) && isOp (tD s.g) d && isOp 101 f && Nat.blt s.c 65536) (match Nat.beq (tP s.g) 16 with
  | true=>some (.tup [.one (.a (.op s.c)),c6 0],{ s with c:=s.c + 1,g:=tg 18 s.c (tL s.g) (tD s.g) })
  | false=>gd (Nat.beq (tP s.g) 15 || Nat.beq (tP s.g) 22) (some (.tup [.one (.a (.op s.c)),c6 0],{ s with c:=s.c + 1,g:=tg 17 s.c (tL s.g) (tD s.g) })))
 | _=>none
def oLoad (args:List AV) (s:St Nat):Option (AV×St Nat):=match args with
 | [v,d]=>gd (hasN (tD s.g) && isOp (tD s.g) d && hasN (tV s.g) && isOp (tV s.g) v) (match Nat.beq (tP s.g) 17 with
  | true=>some (.w (.one (.a .top)),toP s 19)
  | false=>gd (Nat.beq (tP s.g) 18) (some (.w (.one (.a .top)),toP s 20)))
 | _=>none
def oStart (args:List AV) (s:St Nat):Option (AV×St Nat):=match args with
 | [f]=>gd (isOp 101 f) (match Nat.beq (tP s.g) 13 with
  | true=>some (.tup [],toP s 15)
  | false=>gd (Nat.beq (tP s.g) 14) (some (.tup [],toP s 16)))
 | _=>none
def oNew (args:List AV) (s:St Nat):Option (AV×St Nat):=match args with
 | [l]=>gd (isSy 110 l && Nat.beq (tP s.g) 21 && Nat.blt s.c 65536) (some (.tup [.one (.a (.op s.c)),c6 0,c6 0],{ s with c:=s.c + 1,g:=tg 22 (tV s.g) (tL s.g) s.c }))
 | _=>none
def isLog (l:Nat):Ce→Bool
 | .a (.sym j)=>hasN l && Nat.beq j l
 | .a (.v (.slice none 0 0))=>Nat.beq l 0
 | _=>false
def isData (S:Tr Ob) (v:At):Bool:=match bytesOf S v with
 | some b=>Nat.ble b.length 1000
 | none=>false
def oNote (args:List AV) (s:St Nat):Option (AV×St Nat):=match args with
 | [.w (.one (.a (.ptr id 0))),.w (.agg [.a (.v (.int .i64 _)),.a (.v (.bool _)),.a v])]=>match s.S.get id with
  | some (.row [n,cl,x] ty)=>gd (isLog (tL s.g) x && isData s.S v && Nat.blt s.c 65536 && (Nat.beq (tP s.g) 7 || Nat.beq (tP s.g) 8 || Nat.beq (tP s.g) 19 || Nat.beq (tP s.g) 20)) (some (.tup [],{ c:=s.c + 1,S:=s.S.set id (some (.row [n,cl,.a (.sym s.c)] ty)),g:=tg (tP s.g) (tV s.g) s.c (tD s.g) }))
  | _=>none
 | _=>none
def pickO:List (Nat×(List AV→St Nat→Option (AV×St Nat)))→FuncId→List AV→St Nat→Option (AV×St Nat)
 | [],_,_,_=>none
 | p :: l,f,args,s=>match Nat.beq p.1 f with
  | true=>p.2 args s
  | false=>pickO l f args s
def tabO:List (Nat×(List AV→St Nat→Option (AV×St Nat))):=[(56,oFind),(57,oEntry),(49,oPoke),(267,oGuard),(269,oStore),(270,oRestore),(110,oOff),(97,oOdd),(92,oOpen),(93,oLoad),(113,oStart),(48,oNew),(67,oNote)]
def orcT:FuncId→List AV→St Nat→Option (AV×St Nat):=pickO tabO
theorem pick_ok {X:Cx Nat} {O:Outside Nat}:∀ {l:List (Nat×(List AV→St Nat→Option (AV×St Nat)))},(∀ p∈l,∀ args s v s',p.2 args s=some (v,s')→s.c≤s'.c∧∀ E w vals,Rel X O E s.S.get s.g w→(∀ id,s.c≤id→id < s'.c→¬ E.D id)→Rel2 (RV E) args vals →
  Calls X.P p.1 vals.toArray w fun e w'=>∃ y,e=.returned y∧StepP X O E s w (some v) s' y w')→CallOK X O (pickO l)
 | [],_=>fun f args s v s' h _=>by cases h
 | p :: l,H=>fun f args s v s' h hn=>by
  simp only [pickO] at h;split at h
  ·rename_i hb
   have e:=Nat.eq_of_beq_eq_true hb;subst e;exact H p List.mem_cons_self args s v s' h
  ·exact pick_ok (fun q hq=>H q (List.mem_cons_of_mem _ hq)) f args s v s' h hn
end
end Go.Proofs.YtijegngfclkdaaaGreatDoor.Ev
namespace Go.Proofs.YtijegngfclkdaaaGreatDoor
open Go.RowKit
def bv (c:UInt8):Value:=.int .u8 (c.toNat:Int)
structure RB (w:World) (B:Nat) (A:Option Addr) (n c:Nat) (l:List UInt8):Prop where
 len:l.length=n
 le:n≤c
 cap:c≤9223372036854775807
 nil:A=none→n=0∧c=0
 at_:0 < n→∃ b o,A=some ⟨b,o,none⟩∧b < B∧∀ i,i < n→w.cell? ⟨b,o + i,none⟩=some (.int .u8 ((l.getD i 0).toNat:Int))
def OB (w:World) (base:Nat) (A:Option Addr) (n c:Nat) (l:List UInt8):Prop:=w.ownsRow base 5 1 (.slice A n c) n (l.map bv)
theorem byte_lt (c:UInt8):c.toNat < 256:=c.toNat_lt
theorem byte_beq (x y:UInt8):((x.toNat:Int) == (y.toNat:Int))=(x == y):=by
 rw [Bool.eq_iff_iff,beq_iff_eq,beq_iff_eq];exact ⟨fun h=>UInt8.toNat_inj.1 (by omega),fun h=>by rw [h]⟩
theorem u8_xor_bytes (x y:UInt8):bits .xor .u8 (x.toNat:Int) (y.toNat:Int)=((x ^^^ y).toNat:Int):=by
 rw [u8_xor_nat _ _ x.toNat_lt y.toNat_lt,UInt8.toNat_xor]
theorem u8_or_bytes (x y:UInt8):bits .or .u8 (x.toNat:Int) (y.toNat:Int)=((x ||| y).toNat:Int):=by
 rw [u8_or_nat _ _ x.toNat_lt y.toNat_lt,UInt8.toNat_or]
theorem u8_and_bytes (x y:UInt8):bits .and .u8 (x.toNat:Int) (y.toNat:Int)=((x &&& y).toNat:Int):=by
 rw [u8_and_nat _ _ x.toNat_lt y.toNat_lt,UInt8.toNat_and]
section
variable {w w':World} {B B' n c:Nat} {A:Option Addr} {l:List UInt8}
theorem RB.none_:RB w B none 0 0 []:=⟨rfl,Nat.le_refl _,by omega,fun _=>⟨rfl,rfl⟩,fun h=>absurd h (by omega)⟩
theorem RB.keep (h:RB w B A n c l) (hk:∀ p:Addr,p.block < B→w'.cell? p=w.cell? p):RB w' B A n c l :=
 ⟨h.len,h.le,h.cap,h.nil,fun hn=>by
  obtain ⟨b,o,e,hb,hc⟩:=h.at_ hn;exact ⟨b,o,e,hb,fun i hi=>(hk _ hb).trans (hc i hi)⟩⟩
theorem RB.below (h:RB w B A n c l) (hb:Below B w w'):RB w' B A n c l:=h.keep fun _ hp=>hb.cell hp
theorem RB.alloc (h:RB w B A n c l) (hB:B≤w.heap.size) (o:Obj):RB (w.alloc o) B A n c l:=h.keep fun p hp=>World.cell?_alloc_lt w o p (by omega)
theorem RB.drew (h:RB w B A n c l):RB w.drew B A n c l:=⟨h.len,h.le,h.cap,h.nil,h.at_⟩
theorem RB.lt (h:RB w B A n c l):n≤9223372036854775807:=Nat.le_trans h.le h.cap
theorem RB.take (h:RB w B A n c l) {k:Nat} (hk:k≤n):RB w B A k c (l.take k) :=
 ⟨by rw [List.length_take,h.len]; omega,Nat.le_trans hk h.le,h.cap,fun e=>⟨by have:=(h.nil e).1; omega,(h.nil e).2⟩,fun hn=>by
  obtain ⟨b,o,e,hb,hc⟩:=h.at_ (by omega);refine ⟨b,o,e,hb,fun i hi=>?_⟩;rw [hc i (by omega)];simp [List.getD,List.getElem?_take,hi]⟩
theorem RB.drop (h:RB w B A n c l) {k:Nat} (hk:k≤n):RB w B (if c=k then A else A.map (·.add k)) (n - k) (c - k) (l.drop k) :=
 ⟨by rw [List.length_drop,h.len],by have:=h.le; omega,by have:=h.cap; omega,fun e=>by
  have hA:A=none:=by
   split at e
   ·exact e
   ·simpa using e
  have:=h.nil hA; omega,fun hn=>by
  obtain ⟨b,o,rfl,hb,hc⟩:=h.at_ (by omega);rw [if_neg (by have:=h.le; omega)];refine ⟨b,o + k,by simp [Addr.add_lit],hb,fun i hi=>?_⟩;rw [Nat.add_assoc,hc (k + i) (by omega)];simp [List.getD,List.getElem?_drop]⟩
theorem OB.rb {base:Nat} (h:OB w base A n c l):RB w w.heap.size A n c l:=by
 obtain ⟨hl,hr⟩:=h;have hlen:l.length=n:=by simpa using hl
 rcases hr with ⟨hv,hn⟩ | ⟨g,cap,cur,hv,hb,hg,hnc,hcm,hcs,ht⟩
 ·injection hv with h1 h2 h3
  subst h1 h2 h3;exact ⟨hlen,Nat.le_refl _,by omega,fun _=>⟨rfl,rfl⟩,fun h=>absurd h (by omega)⟩
 ·injection hv with h1 h2 h3
  subst h1 h3;have hcap:c≤9223372036854775807:=by simpa [maxLen] using hcm
  refine ⟨hlen,hnc,hcap,(fun e=>by cases e),fun hn=>⟨g,0,rfl,(Array.getElem?_eq_some_iff.1 hg).1,fun i hi=>?_⟩⟩;rw [Nat.zero_add,cell_of_row w g i cur _ (0,0) hg];have:(l.map bv)[i]?=cur.toList[i]?:=by rw [← ht,List.getElem?_take,if_pos (by omega)]
  rw [← Array.getElem?_toList,← this];simp [List.getD,List.getElem?_eq_getElem (show i < l.length by omega),bv]
theorem OB.more {base base':Nat} (h:OB w base A n c l) (hb:base'≤base):OB w base' A n c l:=by
 refine ⟨h.1,?_⟩;rcases h.2 with h2 | ⟨g,cap,cur,hv,hg,r⟩
 ·exact .inl h2
 ·exact .inr ⟨g,cap,cur,hv,by omega,r⟩
theorem OB.below {base:Nat} (h:OB w base A n c l) (hb:Below w.heap.size w w'):OB w' base A n c l:=by
 refine ⟨h.1,?_⟩;rcases h.2 with h2 | ⟨g,cap,cur,hv,hg,hh,r⟩
 ·exact .inl h2
 ·exact .inr ⟨g,cap,cur,hv,hg,(hb.block g (Array.getElem?_eq_some_iff.1 hh).1).trans hh,r⟩
end
theorem bcell {W w1:World} (hb:Below W.heap.size W w1):(∀ b o,b < W.heap.size→w1.cell? ⟨b,o,none⟩=W.cell? ⟨b,o,none⟩)∧(∀ b o,b < W.heap.size→w1.frozen? ⟨b,o,none⟩=W.frozen? ⟨b,o,none⟩) :=
 ⟨fun b o h=>hb.cell (p:=⟨b,o,none⟩) h,fun b o h=>hb.frozen (p:=⟨b,o,none⟩) h⟩
theorem ret_int {k:IntKind} {a b:Int} (h:a=b):Ending.returned (.int k a)=.returned (.int k b):=by rw [h]
theorem ret_bool {a b:Bool} (h:a=b):Ending.returned (.bool a)=.returned (.bool b):=by rw [h]
theorem alloc_one (w:World) (o:Obj):Below w.heap.size w (w.alloc o):=(Below.refl _ _).alloc (Nat.le_refl _) o
theorem alloc_two (w:World) (o o':Obj):Below w.heap.size w ((w.alloc o).alloc o'):=(alloc_one w o).alloc (by simp) o'
theorem below_drewN {B:Nat} {a w:World} (h:Below B a w) (n:Nat):Below B a (w.drewN n):=⟨h.os,h.tape,h.output,h.size,h.block⟩
theorem below_step {B:Nat} {a b c:World} (h:Below B a b) (k:Below b.heap.size b c) (hB:B≤a.heap.size):Below B a c :=
 h.trans (k.mono (Nat.le_trans hB h.size))
end Go.Proofs.YtijegngfclkdaaaGreatDoor
