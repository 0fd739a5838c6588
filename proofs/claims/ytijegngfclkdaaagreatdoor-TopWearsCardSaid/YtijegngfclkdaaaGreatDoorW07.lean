/-
  Pieces of the proof: part 7 of 54.
  Conditions: none.
-/
import Derived.Test.YtijegngfclkdaaaGreatDoorW06
set_option linter.unusedVariables false
set_option linter.unusedSimpArgs false
set_option maxHeartbeats 100000000
set_option maxRecDepth 100000
namespace Go.Proofs.YtijegngfclkdaaaGreatDoor.Ev
open Go
noncomputable section
variable {σ:Type}
def edges (o:Oper):List Nat:=o.after.toList.filterMap fun e=>if Region.binds .any e then some e.on else none
def maskOf (acc:List Nat) (es:List Nat):Nat:=es.foldl (fun m j=>m ||| 2 ^ j ||| acc.getD j 0) 0
def masks:List Oper→List Nat→List Nat
 | [],acc=>acc
 | o :: l,acc=>masks l (acc ++ [maskOf acc (edges o)])
def isE (X:Cx σ) (o:Oper):Bool:=match kdOf X o with
 | .e=>true
 | _=>false
def okGo (X:Cx σ) (ops:List Oper) (ms:List Nat):List Nat→List Nat→Bool
 | [],_=>true
 | i :: π,done=>match ops[i]? with
  | none=>false
  | some o=>!done.contains i && (edges o).all done.contains && (!isE X o || done.all fun j=>(ms.getD i 0).testBit j) && okGo X ops ms π (i :: done)
def looksL (ops:List Oper) (o:Oper):List Tmp :=
 (o.op.operands.toList.filterMap fun | .tmp t=>some t | _=>none) ++
 (match o.guard with
  | some (g,_)=>((ops[g]?).bind (·.dst)).toList
  | none=>[])
def tmpOK (ops:List Oper) (ms:List Nat):Bool :=
 (ops.zipIdx).all fun (o,i)=>match o.dst with
  | none=>true
  | some t=>(ops.zipIdx).all fun (o',j)=>i == j || (o'.dst != some t && (!(looksL ops o').contains t || (ms.getD j 0).testBit i || (ms.getD i 0).testBit j))
def sameN:List Nat→List Nat→Bool
 | [],[]=>true
 | a :: l,b :: r=>Nat.beq a b && sameN l r
 | _,_=>false
def planB (X:Cx σ) (ops:List Oper) (p:List Nat×List Nat):Bool :=
 sameN (masks ops []) p.1 && okGo X ops p.1 p.2 [] && (List.range ops.length).all p.2.contains && tmpOK ops p.1 && Region.noSelect ops.toArray
def findPl:List (Nat×List Nat×List Nat)→Nat→Option (List Nat×List Nat)
 | [],_=>none
 | p :: l,i=>match Nat.beq p.1 i with
  | true=>some p.2
  | false=>findPl l i
def plansOK (X:Cx σ) (pl:List (Nat×List Nat×List Nat)):Code→Bool
 | .region id ops true=>match findPl pl id with
  | some p=>planB X ops.toList p
  | none=>true
 | .seq a b=>plansOK X pl a && plansOK X pl b
 | .cond _ a b=>plansOK X pl a && plansOK X pl b
 | .block _ b=>plansOK X pl b
 | .loop b=>plansOK X pl b
 | .scope b=>plansOK X pl b
 | _=>true
def sameV:Value→Value→Bool
 | .bool a,.bool b=>a == b
 | .int j a,.int k b=>decide (j=k) && decide (a=b)
 | .string a,.string b=>decide (a.data.toList=b.data.toList)
 | .pointer none,.pointer none=>true
 | .slice none a b,.slice none c d=>Nat.beq a c && Nat.beq b d
 | .map none,.map none=>true
 | .nilFunc,.nilFunc=>true
 | _,_=>false
def sameO:Option Nat→Option Nat→Bool
 | none,none=>true
 | some a,some b=>Nat.beq a b
 | _,_=>false
def sameAt:At→At→Bool
 | .v x,.v y=>sameV x y
 | .ptr a b,.ptr c d=>Nat.beq a c && Nat.beq b d
 | .sl a b c d e,.sl a' b' c' d' e'=>Nat.beq a a' && Nat.beq b b' && Nat.beq c c' && sameO d d' && Nat.beq e e'
 | .mp a,.mp b=>Nat.beq a b
 | .sym a,.sym b=>Nat.beq a b
 | .op a,.op b=>Nat.beq a b
 | .top,.top=>true
 | _,_=>false
def sameL {α:Type} (f:α→α→Bool):List α→List α→Bool
 | [],[]=>true
 | x :: l,y :: r=>f x y && sameL f l r
 | _,_=>false
def sameFn:Fn→Fn→Bool
 | .func a,.func b=>Nat.beq a b
 | _,_=>false
def sameAr:Ar→Ar→Bool
 | .one a,.one b=>sameAt a b
 | .agg a,.agg b=>sameL sameAt a b
 | _,_=>false
def sameCe:Ce→Ce→Bool
 | .a x,.a y=>sameAt x y
 | .fn f a b,.fn g c d=>sameFn f g && sameL sameAr a c && sameL sameAr b d
 | _,_=>false
def sameV1:V1→V1→Bool
 | .one x,.one y=>sameCe x y
 | .agg x,.agg y=>sameL sameCe x y
 | _,_=>false
def sameAV:AV→AV→Bool
 | .w x,.w y=>sameV1 x y
 | .tup x,.tup y=>sameL sameV1 x y
 | _,_=>false
def sameOb:Option Ob→Option Ob→Bool
 | none,none=>true
 | some (.row a t),some (.row b u)=>sameL sameCe a b && Nat.beq t u
 | some (.map [] a),some (.map [] b)=>Nat.beq a b
 | _,_=>false
def sts:List (Nat×Tr Ob)→Tr Ob→Nat→List (Tr Ob)
 | [],S0,_=>[S0]
 | (j,S) :: es,S0,m=>match m.testBit j with
  | true=>[S]
  | false=>S :: sts es S0 m
def allQ (X:Cx σ) (o:Oper) (ρ:Operand→Option AV):List (Tr Ob)→Option AV
 | []=>none
 | S :: []=>opq X o ρ S
 | S :: l=>(opq X o ρ S).bind fun v=>(allQ X o ρ l).bind fun u=>gd (sameAV v u) (some v)
def allA (X:Cx σ) (o:Oper) (ρ:Operand→Option AV) (c:Nat):List (Tr Ob)→Option (AV×Option Ob)
 | []=>none
 | S :: []=>opa X o ρ S c
 | S :: l=>(opa X o ρ S c).bind fun v=>(allA X o ρ c l).bind fun u=>gd (sameAV v.1 u.1 && sameOb v.2 u.2) (some v)
def evR (X:Cx σ) (F:Fr) (lk:List Tmp):Operand→Option AV
 | .tmp t=>gd (lk.contains t) (F.t.get t)
 | x=>evO X F x
def drawGo (X:Cx σ) (call:FuncId→List AV→St σ→Option (AV×St σ)) (ops:List Oper) (ms:List Nat) (S0:Tr Ob):List Nat→List (Nat×Tr Ob)→Fr→St σ→Option (Fr×St σ)
 | [],_,F,s=>some (F,s)
 | i :: π,es,F,s=>(ops[i]?).bind fun o=>(wantF ops F o).bind fun b=>match b with
  | false=>drawGo X call ops ms S0 π es (putF F o.dst (some (.tup []))) s
  | true=>match kdOf X o with
   | .q=>(allQ X o (evR X F (looksL ops o)) (sts es S0 (ms.getD i 0))).bind fun v=>drawGo X call ops ms S0 π es (putF F o.dst (some v)) s
   | .a=>(allA X o (evR X F (looksL ops o)) s.c (sts es S0 (ms.getD i 0))).bind fun r=>drawGo X call ops ms S0 π es (putF F o.dst (some r.1)) (newS s r.2)
   | .e=>(ope X call o (evR X F (looksL ops o)) s).bind fun r=>drawGo X call ops ms S0 π ((i,r.2.S) :: es) (putF F o.dst r.1) r.2
def evReg (X:Cx σ) (call:FuncId→List AV→St σ→Option (AV×St σ)) (pl:List (Nat×List Nat×List Nat)) (id:Nat) (ops:Array Oper) (draw:Bool) (F:Fr) (s:St σ):Option (Fr×St σ):=match draw with
 | false=>evOps X call ops.toList ops.toList F s
 | true=>(findPl pl id).bind fun p=>drawGo X call ops.toList p.1 s.S p.2 [] F s
def evCall (X:Cx σ) (ev:List (Nat×List Nat×List Nat)→Code→Fr→St σ→Option (Ex×Fr×St σ)) (f:FuncId) (args:List AV) (s:St σ):Option (AV×St σ):=match X.orc f args s with
 | some r=>some r
 | none=>(X.fn f).bind fun fi=>gd (Nat.ble args.length fi.nt) ((ev fi.pl fi.body ⟨fi.nt,argF args 0 .e⟩ s).bind fun r=>match r.1 with
  | .exit _=>none
  | _=>((evRes X r.2.1 r.2.2.S fi.res).bind resOf).map fun v=>(v,r.2.2))
def evC (X:Cx σ):Nat→List (Nat×List Nat×List Nat)→Code→Fr→St σ→Option (Ex×Fr×St σ)
 | 0,_,_,_,_=>none
 | n + 1,pl,c,F,s=>match c with
  | .skip=>some (.normal,F,s)
  | .label _=>some (.normal,F,s)
  | .region id ops d=>(evReg X (evCall X (evC X n)) pl id ops d F s).map fun r=>(.normal,r.1,r.2)
  | .seq a b=>(evC X n pl a F s).bind fun r=>match r.1 with
   | .normal=>evC X n pl b r.2.1 r.2.2
   | .exit _=>some r
   | .ret=>some r
  | .cond c a b=>(evO X F c).bind fun v=>match v with
   | .w (.one (.a (.v (.bool t))))=>match t with
    | true=>evC X n pl a F s
    | false=>evC X n pl b F s
   | _=>none
  | .block id b=>(evC X n pl b F s).map fun r=>match r.1 with
   | .exit j=>match Nat.beq j id with
    | true=>(.normal,r.2.1,r.2.2)
    | false=>r
   | .normal=>r
   | .ret=>r
  | .loop b=>(evC X n pl b F s).bind fun r=>match r.1 with
   | .normal=>evC X n pl (.loop b) r.2.1 r.2.2
   | .exit _=>some r
   | .ret=>some r
  | .exit id=>some (.exit id,F,s)
  | .scope b=>evC X n pl b F s
  | .ret=>some (.ret,F,s)
  | _=>none
end
end Go.Proofs.YtijegngfclkdaaaGreatDoor.Ev
namespace Go.Proofs.YtijegngfclkdaaaGreatDoor.Ev
open Go
variable {σ:Type}
theorem edges_mem {o:Oper} {i:Nat}:i∈edges o↔∃ e∈o.after,Region.binds .any e=true∧e.on=i:=by
 unfold edges;rw [List.mem_filterMap];constructor
 ·rintro ⟨e,he,h⟩
  split at h
  ·rename_i hb; injection h with h; exact ⟨e,Array.mem_toList_iff.1 he,hb,h⟩
  ·cases h
 ·rintro ⟨e,he,hb,h⟩
  exact ⟨e,Array.mem_toList_iff.2 he,by rw [if_pos hb,h]⟩
theorem maskOf_bit (acc:List Nat):∀ (es:List Nat) (m i:Nat),(es.foldl (fun m j=>m ||| 2 ^ j ||| acc.getD j 0) m).testBit i=true→m.testBit i=true∨∃ k∈es,k=i∨(acc.getD k 0).testBit i=true
 | [],m,i,h=>.inl h
 | j :: es,m,i,h=>by
  rw [List.foldl_cons] at h;rcases maskOf_bit acc es _ i h with h | ⟨k,hk,h⟩
  ·rw [Nat.testBit_or,Nat.testBit_or,Nat.testBit_two_pow,Bool.or_eq_true,Bool.or_eq_true] at h
   rcases h with (h | h) | h
   ·exact .inl h
   ·exact .inr ⟨j,by simp,.inl (of_decide_eq_true h)⟩
   ·exact .inr ⟨j,by simp,.inr h⟩
  ·exact .inr ⟨k,List.mem_cons_of_mem _ hk,h⟩
theorem masks_pre:∀ (l:List Oper) (acc:List Nat) (j:Nat),j < acc.length→(masks l acc).getD j 0=acc.getD j 0
 | [],acc,j,_=>rfl
 | o :: l,acc,j,h=>by
  rw [masks,masks_pre l _ j (by simp; omega)];simp only [List.getD];rw [List.getElem?_append_left h]
theorem masks_spec:∀ (l:List Oper) (acc:List Nat) (k:Nat) (o:Oper),l[k]?=some o→∀ i,((masks l acc).getD (acc.length + k) 0).testBit i=true→∃ e∈edges o,e=i∨(e < acc.length + k∧((masks l acc).getD e 0).testBit i=true)
 | [],acc,k,o,h,_,_=>by simp at h
 | o :: l,acc,0,o',h,i,hb=>by
  simp at h;subst h;rw [masks,masks_pre l _ _ (by simp)] at hb;have e1:(acc ++ [maskOf acc (edges o)]).getD (acc.length + 0) 0=maskOf acc (edges o):=by simp [List.getD]
  rw [e1] at hb;rcases maskOf_bit acc (edges o) 0 i hb with h | ⟨e,he,h | h⟩
  ·simp at h
  ·exact ⟨e,he,.inl h⟩
  ·have hlt:e < acc.length:=by
    rcases Nat.lt_or_ge e acc.length with h' | h'
    ·exact h'
    ·rw [List.getD,List.getElem?_eq_none h'] at h
     simp at h
   refine ⟨e,he,.inr ⟨by omega,?_⟩⟩;rw [masks,masks_pre l _ _ (by simp; omega)];simp only [List.getD] at h ⊢;rw [List.getElem?_append_left hlt];exact h
 | o :: l,acc,k + 1,o',h,i,hb=>by
  have h':l[k]?=some o':=by simpa using h
  rw [masks] at hb ⊢;have:=masks_spec l (acc ++ [maskOf acc (edges o)]) k o' h' i (by simpa [Nat.add_assoc,Nat.add_comm 1 k] using hb);obtain ⟨e,he,h2⟩:=this;refine ⟨e,he,?_⟩;rcases h2 with h2 | ⟨h2,h3⟩
  ·exact .inl h2
  ·exact .inr ⟨by simp at h2; omega,h3⟩
def Closed (ops:List Oper) (L:Nat→Prop):Prop:=∀ j o,ops[j]?=some o→L j→∀ k∈edges o,L k
theorem mask_in {ops:List Oper} {L:Nat→Prop} (hc:Closed ops L):∀ (j:Nat) (o:Oper),ops[j]?=some o→(∀ k∈edges o,L k)→∀ i,((masks ops []).getD j 0).testBit i=true→L i:=by
 intro j
 induction j using Nat.strongRecOn with
 | _ j ih =>
  intro o ho he i hi;obtain ⟨e,h1,h2⟩:=masks_spec ops [] j o ho i (by simpa using hi);rcases h2 with rfl | ⟨h2,h3⟩
  ·exact he _ h1
  ·simp only [List.length_nil,Nat.zero_add] at h2
   have hlt:e < ops.length:=by
    have:j < ops.length:=by
     rcases Nat.lt_or_ge j ops.length with h | h
     ·exact h
     ·rw [List.getElem?_eq_none h] at ho; cases ho
    omega
   exact ih e h2 _ (List.getElem?_eq_getElem hlt) (hc e _ (List.getElem?_eq_getElem hlt) (he e h1)) i h3
theorem sameN_eq:∀ {a b:List Nat},sameN a b=true→a=b
 | [],[],_=>rfl
 | x :: a,y :: b,h=>by
  simp only [sameN,Bool.and_eq_true] at h;rw [Nat.eq_of_beq_eq_true h.1,sameN_eq h.2]
 | [],_ :: _,h=>by cases h
 | _ :: _,[],h=>by cases h
structure Plan (X:Cx σ) (ops:List Oper) (π:List Nat):Prop where
 all:∀ i,i < ops.length→∃ p:Nat,π[p]?=some i
 lt:∀ (p:Nat) i,π[p]?=some i→i < ops.length
 inj:∀ (p q:Nat) i,π[p]?=some i→π[q]?=some i→p=q
 top:∀ (p i:Nat) o,π[p]?=some i→ops[i]?=some o→∀ k∈edges o,∃ q,q < p∧π[q]?=some k
 act:∀ (p i:Nat) o,π[p]?=some i→ops[i]?=some o→isE X o=true→∀ q j,q < p→π[q]?=some j→((masks ops []).getD i 0).testBit j=true
 tmp:∀ (i j:Nat) o o' t,ops[i]?=some o→ops[j]?=some o'→o.dst=some t→i≠j→o'.dst≠some t∧(t∈looksL ops o'→((masks ops []).getD j 0).testBit i=true∨((masks ops []).getD i 0).testBit j=true)
theorem okGo_spec {X:Cx σ} {ops:List Oper} {ms:List Nat}:∀ {π done:List Nat},okGo X ops ms π done=true→∀ (p i:Nat),π[p]?=some i→∃ o,ops[i]?=some o∧¬ i∈done∧(∀ q,q < p→π[q]?≠some i)∧(∀ k∈edges o,k∈done∨∃ q,q < p∧π[q]?=some k) ∧
  (isE X o=true→(∀ j∈done,(ms.getD i 0).testBit j=true)∧∀ q j,q < p→π[q]?=some j→(ms.getD i 0).testBit j=true)
 | [],_,_,p,i,h=>by simp at h
 | a :: π,done,hok,p,i,h=>by
  simp only [okGo] at hok;cases ho:ops[a]? with
  | none=>rw [ho] at hok; cases hok
  | some o =>
   rw [ho] at hok;simp only [Bool.and_eq_true,Bool.not_eq_true',List.all_eq_true,Bool.or_eq_true] at hok;obtain ⟨⟨⟨h1,h2⟩,h3⟩,h4⟩:=hok;cases p with
   | zero =>
    simp at h;subst h;refine ⟨o,ho,by simpa using h1,fun q hq=>absurd hq (by omega),fun k hk=>.inl (by simpa using h2 k hk),fun he=>⟨fun j hj=>?_,fun q j hq=>absurd hq (by omega)⟩⟩;rcases h3 with h3 | h3
    ·rw [he] at h3; cases h3
    ·exact h3 j hj
   | succ p =>
    have h':π[p]?=some i:=by simpa using h
    obtain ⟨o',g1,g2,g3,g4,g5⟩:=okGo_spec h4 p i h';refine ⟨o',g1,fun hd=>g2 (List.mem_cons_of_mem _ hd),fun q hq e=>?_,fun k hk=>?_,fun he=>⟨fun j hj=>(g5 he).1 j (List.mem_cons_of_mem _ hj),fun q j hq hj=>?_⟩⟩
    ·cases q with
     | zero=>simp at e; exact g2 (by rw [e]; simp)
     | succ q=>exact g3 q (by omega) (by simpa using e)
    ·rcases g4 k hk with h | ⟨q,hq,h⟩
     ·rcases List.mem_cons.1 h with rfl | h
      ·exact .inr ⟨0,by omega,by simp⟩
      ·exact .inl h
     ·exact .inr ⟨q + 1,by omega,by simpa using h⟩
    ·cases q with
     | zero=>simp at hj; exact (g5 he).1 j (by rw [hj]; simp)
     | succ q=>exact (g5 he).2 q j (by omega) (by simpa using hj)
theorem planB_spec {X:Cx σ} {ops:List Oper} {p:List Nat×List Nat} (h:planB X ops p=true):p.1=masks ops []∧Plan X ops p.2:=by
 simp only [planB,Bool.and_eq_true,List.all_eq_true] at h;obtain ⟨⟨⟨⟨h1,h2⟩,h3⟩,h4⟩,h5⟩:=h;have e:=(sameN_eq h1).symm;rw [e] at h2 h4;have ok:=fun p i h=>okGo_spec h2 p i h
 refine ⟨e,⟨fun i hi=>?_,fun q i hq=>?_,fun q r i hq hr=>?_,fun q i o hq ho k hk=>?_,fun q i o hq ho he r j hr hj=>?_,fun i j o o' t ho ho' hd hij=>?_⟩⟩
 ·have:=h3 i (List.mem_range.2 hi)
  rw [List.contains_iff_mem] at this;exact List.getElem?_of_mem this
 ·obtain ⟨o,g,_⟩:=ok q i hq
  rcases Nat.lt_or_ge i ops.length with h | h
  ·exact h
  ·rw [List.getElem?_eq_none h] at g; cases g
 ·obtain ⟨_,_,_,g1,_⟩:=ok q i hq
  obtain ⟨_,_,_,g2,_⟩:=ok r i hr;rcases Nat.lt_trichotomy q r with h | h | h
  ·exact absurd hq (g2 q h)
  ·exact h
  ·exact absurd hr (g1 r h)
 ·obtain ⟨o',g0,_,_,g,_⟩:=ok q i hq
  rw [ho] at g0;injection g0 with g0
  subst g0;rcases g k hk with h | h
  ·simp at h
  ·exact h
 ·obtain ⟨o',g0,_,_,_,g⟩:=ok q i hq
  rw [ho] at g0;injection g0 with g0
  subst g0;exact (g he).2 r j hr hj
 ·simp only [tmpOK,List.all_eq_true] at h4
  have m1:(o,i)∈ops.zipIdx:=by rw [List.mem_zipIdx_iff_getElem?]; exact ho
  have m2:(o',j)∈ops.zipIdx:=by rw [List.mem_zipIdx_iff_getElem?]; exact ho'
  have g:=h4 (o,i) m1;simp only [hd,List.all_eq_true] at g;have g:=g (o',j) m2;simp only [Bool.or_eq_true,beq_iff_eq,hij,false_or,Bool.and_eq_true,bne_iff_ne,ne_eq,Bool.not_eq_true'] at g;refine ⟨g.1,fun ht=>?_⟩;rcases g.2 with (h | h) | h
  ·rw [← Bool.not_eq_true,List.contains_iff_mem] at h; exact absurd ht h
  ·exact .inl h
  ·exact .inr h
theorem Plan.mask {X:Cx σ} {ops:List Oper} {π:List Nat} (P:Plan X ops π) {p i j:Nat} {o:Oper} (hp:π[p]?=some i) (ho:ops[i]?=some o) (hb:((masks ops []).getD i 0).testBit j=true):∃ q,q < p∧π[q]?=some j:=by
 refine mask_in (L:=fun k=>∃ q,q < p∧π[q]?=some k) (fun a oa ha ⟨q,hq,hqa⟩ k hk=>?_) i o ho (P.top p i o hp ho) j hb;obtain ⟨r,hr,h⟩:=P.top q a oa hqa ha k hk;exact ⟨r,by omega,h⟩
end Go.Proofs.YtijegngfclkdaaaGreatDoor.Ev
namespace Go.Proofs.YtijegngfclkdaaaGreatDoor.Ev
open Go
variable {σ:Type}
theorem sameV_eq {a b:Value} (h:sameV a b=true):a=b:=by
 unfold sameV at h;split at h
 ·rw [eq_of_beq h]
 ·rw [Bool.and_eq_true] at h; rw [of_decide_eq_true h.1,of_decide_eq_true h.2]
 ·rename_i x y
  have:=of_decide_eq_true h
  congr 1
  cases x with | mk x=>cases y with | mk y=>congr 1; apply Array.ext'; exact this
 ·rfl
 ·rw [Bool.and_eq_true] at h; rw [Nat.eq_of_beq_eq_true h.1,Nat.eq_of_beq_eq_true h.2]
 ·rfl
 ·rfl
 ·cases h
theorem sameO_eq {a b:Option Nat} (h:sameO a b=true):a=b:=by
 unfold sameO at h;split at h
 ·rfl
 ·rw [Nat.eq_of_beq_eq_true h]
 ·cases h
theorem sameAt_eq {a b:At} (h:sameAt a b=true):a=b:=by
 unfold sameAt at h;split at h
 ·rw [sameV_eq h]
 ·rw [Bool.and_eq_true] at h; rw [Nat.eq_of_beq_eq_true h.1,Nat.eq_of_beq_eq_true h.2]
 ·simp only [Bool.and_eq_true] at h
  obtain ⟨⟨⟨⟨h1,h2⟩,h3⟩,h4⟩,h5⟩:=h;rw [Nat.eq_of_beq_eq_true h1,Nat.eq_of_beq_eq_true h2,Nat.eq_of_beq_eq_true h3,sameO_eq h4,Nat.eq_of_beq_eq_true h5]
 ·rw [Nat.eq_of_beq_eq_true h]
 ·rw [Nat.eq_of_beq_eq_true h]
 ·rw [Nat.eq_of_beq_eq_true h]
 ·rfl
 ·cases h
theorem sameL_eq {α:Type} {f:α→α→Bool} (hf:∀ a b,f a b=true→a=b):∀ {a b:List α},sameL f a b=true→a=b
 | [],[],_=>rfl
 | x :: a,y :: b,h=>by
  simp only [sameL,Bool.and_eq_true] at h;rw [hf _ _ h.1,sameL_eq hf h.2]
 | [],_ :: _,h=>by cases h
 | _ :: _,[],h=>by cases h
theorem sameFn_eq {a b:Fn} (h:sameFn a b=true):a=b:=by
 unfold sameFn at h;split at h
 ·rw [Nat.eq_of_beq_eq_true h]
 ·cases h
theorem sameAr_eq {a b:Ar} (h:sameAr a b=true):a=b:=by
 unfold sameAr at h;split at h
 ·rw [sameAt_eq h]
 ·rw [sameL_eq (fun _ _=>sameAt_eq) h]
 ·cases h
theorem sameCe_eq {a b:Ce} (h:sameCe a b=true):a=b:=by
 unfold sameCe at h;split at h
 ·rw [sameAt_eq h]
 ·simp only [Bool.and_eq_true] at h
  obtain ⟨⟨h1,h2⟩,h3⟩:=h;rw [sameFn_eq h1,sameL_eq (fun _ _=>sameAr_eq) h2,sameL_eq (fun _ _=>sameAr_eq) h3]
 ·cases h
theorem sameV1_eq {a b:V1} (h:sameV1 a b=true):a=b:=by
 unfold sameV1 at h;split at h
 ·rw [sameCe_eq h]
 ·rw [sameL_eq (fun _ _=>sameCe_eq) h]
 ·cases h
theorem sameAV_eq {a b:AV} (h:sameAV a b=true):a=b:=by
 unfold sameAV at h;split at h
 ·rw [sameV1_eq h]
 ·rw [sameL_eq (fun _ _=>sameV1_eq) h]
 ·cases h
theorem sameOb_eq {a b:Option Ob} (h:sameOb a b=true):a=b:=by
 unfold sameOb at h;split at h
 ·rfl
 ·simp only [Bool.and_eq_true] at h
  rw [sameL_eq (fun _ _=>sameCe_eq) h.1,Nat.eq_of_beq_eq_true h.2]
 ·rw [Nat.eq_of_beq_eq_true h]
 ·cases h
theorem allQ_spec {X:Cx σ} {o:Oper} {ρ:Operand→Option AV}:∀ {l:List (Tr Ob)} {v:AV},allQ X o ρ l=some v→∀ S∈l,opq X o ρ S=some v
 | [],_,h,_,_=>by cases h
 | [S],v,h,S',hS=>by simp at hS; rw [hS]; exact h
 | S :: T :: l,v,h,S',hS=>by
  simp only [allQ,Option.bind_eq_some_iff,gd_some] at h;obtain ⟨u,h1,u',h2,h3,h4⟩:=h;injection h4 with h4
  subst h4;have e:=sameAV_eq h3;rcases List.mem_cons.1 hS with rfl | hS
  ·exact h1
  ·rw [e]; exact allQ_spec (l:=T :: l) h2 S' hS
theorem allA_spec {X:Cx σ} {o:Oper} {ρ:Operand→Option AV} {c:Nat}:∀ {l:List (Tr Ob)} {v:AV×Option Ob},allA X o ρ c l=some v→∀ S∈l,opa X o ρ S c=some v
 | [],_,h,_,_=>by cases h
 | [S],v,h,S',hS=>by simp at hS; rw [hS]; exact h
 | S :: T :: l,v,h,S',hS=>by
  simp only [allA,Option.bind_eq_some_iff,gd_some,Bool.and_eq_true] at h;obtain ⟨u,h1,u',h2,⟨h3,h3'⟩,h4⟩:=h;injection h4 with h4
  subst h4;have e:u=u':=Prod.ext (sameAV_eq h3) (sameOb_eq h3');rcases List.mem_cons.1 hS with rfl | hS
  ·exact h1
  ·rw [e]; exact allA_spec (l:=T :: l) h2 S' hS
structure Cfg (σ:Type) where
 es:List (Nat×Tr Ob)
 F:Fr
 s:St σ
inductive StepD (X:Cx σ) (call:FuncId→List AV→St σ→Option (AV×St σ)) (ops:List Oper) (S0:Tr Ob) (i:Nat) (o:Oper) (c c':Cfg σ):Prop where
 | no (hw:wantF ops c.F o=some false) (hF:c'.F=putF c.F o.dst (some (.tup []))) (hs:c'.s=c.s) (he:c'.es=c.es)
 | q (hw:wantF ops c.F o=some true) (hk:isE X o=false) (hkd:kdOf X o=.q) (v:AV) (hv:∀ S∈sts c.es S0 ((masks ops []).getD i 0),opq X o (evR X c.F (looksL ops o)) S=some v) (hF:c'.F=putF c.F o.dst (some v)) (hs:c'.s=c.s) (he:c'.es=c.es)
 | a (hw:wantF ops c.F o=some true) (hk:isE X o=false) (hkd:kdOf X o=.a) (v:AV) (ob:Option Ob) (hv:∀ S∈sts c.es S0 ((masks ops []).getD i 0),opa X o (evR X c.F (looksL ops o)) S c.s.c=some (v,ob)) (hF:c'.F=putF c.F o.dst (some v)) (hs:c'.s=newS c.s ob) (he:c'.es=c.es)
 | e (hw:wantF ops c.F o=some true) (hk:isE X o=true) (hkd:kdOf X o=.e) (v:Option AV) (hv:ope X call o (evR X c.F (looksL ops o)) c.s=some (v,c'.s)) (hF:c'.F=putF c.F o.dst v) (he:c'.es=(i,c'.s.S) :: c.es)
theorem drawGo_run {X:Cx σ} {call:FuncId→List AV→St σ→Option (AV×St σ)} {ops:List Oper} {S0:Tr Ob}:∀ {π:List Nat} {es:List (Nat×Tr Ob)} {F F':Fr} {s s':St σ},drawGo X call ops (masks ops []) S0 π es F s=some (F',s') →
  ∃ tr:Nat→Cfg σ,tr 0=⟨es,F,s⟩∧(tr π.length).F=F'∧(tr π.length).s=s'∧∀ p i,π[p]?=some i→∃ o,ops[i]?=some o∧StepD X call ops S0 i o (tr p) (tr (p + 1))
 | [],es,F,F',s,s',h=>by
  simp only [drawGo] at h;injection h with h
  injection h with h1 h2
  exact ⟨fun _=>⟨es,F,s⟩,rfl,h1,h2,fun p i hp=>by simp at hp⟩
 | i :: π,es,F,F',s,s',h=>by
  simp only [drawGo,Option.bind_eq_some_iff] at h;obtain ⟨o,ho,b,hb,h⟩:=h;have fin:∀ es1 F1 s1,drawGo X call ops (masks ops []) S0 π es1 F1 s1=some (F',s')→StepD X call ops S0 i o ⟨es,F,s⟩ ⟨es1,F1,s1⟩→∃ tr:Nat→Cfg σ,tr 0=⟨es,F,s⟩∧(tr (i :: π).length).F=F'∧(tr (i :: π).length).s=s'∧∀ p j,(i :: π)[p]?=some j→∃ o,ops[j]?=some o∧StepD X call ops S0 j o (tr p) (tr (p + 1)):=fun es1 F1 s1 hg hst=>by
   obtain ⟨tr,t1,t2,t3,t4⟩:=drawGo_run hg;refine ⟨fun p=>match p with | 0=>⟨es,F,s⟩ | p + 1=>tr p,rfl,t2,t3,fun p j hp=>?_⟩;cases p with
   | zero =>
    simp at hp;subst hp;refine ⟨o,ho,?_⟩;dsimp only;rw [t1];exact hst
   | succ p=>exact t4 p j (by simpa using hp)
  split at h
  ·exact fin _ _ _ h (.no hb rfl rfl rfl)
  ·split at h
   ·rename_i hkd
    rw [Option.bind_eq_some_iff] at h;obtain ⟨v,hv,h⟩:=h;exact fin _ _ _ h (.q hb (by simp [isE,hkd]) hkd v (allQ_spec hv) rfl rfl rfl)
   ·rename_i hkd
    rw [Option.bind_eq_some_iff] at h;obtain ⟨⟨v,ob⟩,hv,h⟩:=h;exact fin _ _ _ h (.a hb (by simp [isE,hkd]) hkd v ob (allA_spec hv) rfl rfl rfl)
   ·rename_i hkd
    rw [Option.bind_eq_some_iff] at h;obtain ⟨⟨v,s1⟩,hv,h⟩:=h;exact fin _ _ _ h (.e hb (by simp [isE,hkd]) hkd v hv rfl rfl)
end Go.Proofs.YtijegngfclkdaaaGreatDoor.Ev
namespace Go.Proofs.YtijegngfclkdaaaGreatDoor.Ev
open Go
variable {σ:Type}
structure DC (X:Cx σ) (O:Outside σ) (call:FuncId→List AV→St σ→Option (AV×St σ)) (l:List Oper) (π:List Nat) (tr:Nat→Cfg σ) (E0:Env) (w0:World) (a0:Act):Prop where
 hX:XOK X
 hc:CallOK X O call
 plan:Plan X l π
 es0:(tr 0).es=[]
 step:∀ (p i:Nat),π[p]?=some i→∃ o,l[i]?=some o∧StepD X call l (tr 0).s.S i o (tr p) (tr (p + 1))
 rf:RF E0 (tr 0).F a0
 rel:Rel X O E0 (tr 0).s.S.get (tr 0).s.g w0
 fresh:∀ id,(tr 0).s.c≤id→id < (tr π.length).s.c→¬ E0.D id
def Eff (X:Cx σ) (l:List Oper) (π:List Nat) (tr:Nat→Cfg σ) (p:Nat):Prop:=∃ i o,π[p]?=some i∧l[i]?=some o∧isE X o=true∧wantF l (tr p).F o=some true
def Alloc (X:Cx σ) (l:List Oper) (π:List Nat) (tr:Nat→Cfg σ) (r id:Nat) (o:Ob):Prop:=id=(tr r).s.c∧(tr (r + 1)).s=newS (tr r).s (some o)∧¬ Eff X l π tr r
section
variable {X:Cx σ} {O:Outside σ} {call:FuncId→List AV→St σ→Option (AV×St σ)} {l:List Oper} {π:List Nat} {tr:Nat→Cfg σ} {E0:Env} {w0:World} {a0:Act}
theorem DC.put (C:DC X O call l π tr E0 w0 a0) {p i:Nat} {o:Oper} (hp:π[p]?=some i) (ho:l[i]?=some o):∃ v,(tr (p + 1)).F=putF (tr p).F o.dst v:=by
 obtain ⟨o',h1,h2⟩:=C.step p i hp;rw [ho] at h1;injection h1 with h1
 subst h1;cases h2 with
 | no _ hF=>exact ⟨_,hF⟩
 | q _ _ _ v _ hF=>exact ⟨_,hF⟩
 | a _ _ _ v ob _ hF=>exact ⟨_,hF⟩
 | e _ _ _ v _ hF=>exact ⟨_,hF⟩
theorem DC.le1 (C:DC X O call l π tr E0 w0 a0) {p i:Nat} (hp:π[p]?=some i):(tr p).s.c≤(tr (p + 1)).s.c:=by
 obtain ⟨o',h1,h2⟩:=C.step p i hp;cases h2 with
 | no _ _ hs=>rw [hs]; exact Nat.le_refl _
 | q _ _ _ v _ _ hs=>rw [hs]; exact Nat.le_refl _
 | a _ _ _ v ob _ _ hs=>rw [hs]; cases ob <;> simp [newS]
 | e _ _ _ v hv=>exact ope_c (fun f args s v s' h hn=>(C.hc f args s v s' h hn).1) hv
theorem at_lt {p:Nat} (h:p < π.length):∃ i,π[p]?=some i:=⟨_,List.getElem?_eq_getElem h⟩
theorem lt_at {p i:Nat} (h:π[p]?=some i):p < π.length:=by
 rcases Nat.lt_or_ge p π.length with h' | h'
 ·exact h'
 ·rw [List.getElem?_eq_none h'] at h; cases h
theorem DC.le (C:DC X O call l π tr E0 w0 a0):∀ {p q:Nat},p≤q→q≤π.length→(tr p).s.c≤(tr q).s.c:=by
 intro p q h
 induction q with
 | zero=>intro _; obtain rfl:p=0:=(by omega); exact Nat.le_refl _
 | succ q ih =>
  intro hq
  by_cases e:p=q + 1
  ·rw [e]; exact Nat.le_refl _
  ·obtain ⟨i,hi⟩:=at_lt (π:=π) (show q < π.length by omega)
   exact Nat.le_trans (ih (by omega) (by omega)) (C.le1 hi)
theorem putF_nt (F:Fr) (d:Option Tmp) (v:Option AV):(putF F d v).nt=F.nt:=by
 unfold putF;split
 ·rfl
 ·split <;> rfl
theorem putF_get {F:Fr} {d:Option Tmp} {v:Option AV} {t:Tmp} (h:d≠some t):(putF F d v).t.get t=F.t.get t:=by
 unfold putF;split
 ·rfl
 ·rename_i d
  split
  ·simp only [Tr.get_set]; rw [if_neg (fun e=>h (by rw [e]))]
  ·rfl
theorem putF_same {F:Fr} {v:Option AV} {t:Tmp} (h:t < F.nt):(putF F (some t) v).t.get t=v:=by
 unfold putF;simp only;have:Nat.blt t F.nt=true:=Nat.ble_eq_true_of_le h;rw [this];simp [Tr.get_set]
theorem DC.nt (C:DC X O call l π tr E0 w0 a0):∀ {p:Nat},p≤π.length→(tr p).F.nt=(tr 0).F.nt:=by
 intro p
 induction p with
 | zero=>intro _; rfl
 | succ p ih =>
  intro h;obtain ⟨i,hi⟩:=at_lt (π:=π) (show p < π.length by omega);obtain ⟨o,ho,_⟩:=C.step p i hi;obtain ⟨v,hv⟩:=C.put hi ho;rw [hv,putF_nt];exact ih (by omega)
theorem DC.get (C:DC X O call l π tr E0 w0 a0):∀ {p:Nat},p≤π.length→∀ {t:Tmp} {av:AV},(tr p).F.t.get t=some av→t < (tr 0).F.nt ∧
  ((∃ q i o,q < p∧π[q]?=some i∧l[i]?=some o∧o.dst=some t∧(tr (q + 1)).F.t.get t=some av)∨((∀ q i o,q < p→π[q]?=some i→l[i]?=some o→o.dst≠some t)∧(tr 0).F.t.get t=some av)):=by
 intro p
 induction p with
 | zero =>
  intro _ t av h;refine ⟨?_,.inr ⟨fun q i o hq=>absurd hq (by omega),h⟩⟩;obtain ⟨y,h1,_⟩:=C.rf.2.2 t av h;rw [← C.rf.2.1];rcases Nat.lt_or_ge t a0.tmps.size with h' | h'
  ·exact h'
  ·rw [Array.getElem?_eq_none h'] at h1; cases h1
 | succ p ih =>
  intro hp t av h;obtain ⟨i,hi⟩:=at_lt (π:=π) (show p < π.length by omega);obtain ⟨o,ho,_⟩:=C.step p i hi;obtain ⟨v,hv⟩:=C.put hi ho
  by_cases hd:o.dst=some t
  ·refine ⟨?_,.inl ⟨p,i,o,by omega,hi,ho,hd,h⟩⟩
   rcases Nat.lt_or_ge t (tr 0).F.nt with h' | h'
   ·exact h'
   ·rw [hv,hd] at h
    have hn:Nat.blt t (tr p).F.nt=false:=by
     cases hb:Nat.blt t (tr p).F.nt with
     | false=>rfl
     | true =>
      have:=Nat.le_of_ble_eq_true hb;rw [C.nt (show p≤π.length by omega)] at this;omega
    simp only [putF,hn] at h;exact (ih (by omega) h).1
  ·rw [hv,putF_get hd] at h
   obtain ⟨h1,h2⟩:=ih (by omega) h;refine ⟨h1,?_⟩;rcases h2 with ⟨q,j,o',hq,a1,a2,a3,a4⟩ | ⟨h2,h3⟩
   ·exact .inl ⟨q,j,o',by omega,a1,a2,a3,a4⟩
   ·refine .inr ⟨fun q j o' hq a1 a2=>?_,h3⟩
    by_cases e:q=p
    ·subst e
     rw [hi] at a1;injection a1 with a1
     subst a1;rw [ho] at a2;injection a2 with a2
     subst a2;exact hd
    ·exact h2 q j o' (by omega) a1 a2
theorem DC.calm (C:DC X O call l π tr E0 w0 a0) {q:Nat}:∀ {p:Nat},q≤p→p≤π.length→(∀ r,q≤r→r < p→¬ Eff X l π tr r)→(tr p).s.g=(tr q).s.g∧∀ id o,(tr p).s.S.get id=some o→(tr q).s.S.get id=some o∨∃ r,q≤r∧r < p∧Alloc X l π tr r id o:=by
 intro p
 induction p with
 | zero=>intro h _ _; obtain rfl:q=0:=(by omega); exact ⟨rfl,fun _ _ h=>.inl h⟩
 | succ p ih =>
  intro h hp hr
  by_cases e:q=p + 1
  ·subst e; exact ⟨rfl,fun _ _ h=>.inl h⟩
  ·obtain ⟨h1,h2⟩:=ih (by omega) (by omega) fun r a b=>hr r a (by omega)
   obtain ⟨i,hi⟩:=at_lt (π:=π) (show p < π.length by omega);obtain ⟨o,ho,hst⟩:=C.step p i hi;have old:∀ id x,(tr p).s.S.get id=some x→(tr q).s.S.get id=some x∨∃ r,q≤r∧r < p + 1∧Alloc X l π tr r id x:=fun id x hx=>by
    rcases h2 id x hx with h | ⟨r,a,b,c⟩
    ·exact .inl h
    ·exact .inr ⟨r,a,by omega,c⟩
   cases hst with
   | no _ _ hs=>rw [hs]; exact ⟨h1,old⟩
   | q _ _ _ v _ _ hs=>rw [hs]; exact ⟨h1,old⟩
   | e hw hk=>exact absurd ⟨i,o,hi,ho,hk,hw⟩ (hr p (by omega) (by omega))
   | a hw hk _ v ob _ _ hs =>
    cases ob with
    | none=>rw [hs]; exact ⟨h1,old⟩
    | some ob =>
     rw [hs];refine ⟨h1,fun id x hx=>?_⟩;simp only [newS,Tr.get_set] at hx;split at hx
     ·rename_i e
      injection hx with hx
      subst hx;exact .inr ⟨p,by omega,by omega,e,hs,hr p (by omega) (by omega)⟩
     ·exact old id x hx
theorem DC.es (C:DC X O call l π tr E0 w0 a0) {q:Nat}:∀ {p:Nat},q≤p→p≤π.length→∃ pre,(tr p).es=pre ++ (tr q).es∧∀ x∈pre,∃ r,q≤r∧r < p∧π[r]?=some x.1∧Eff X l π tr r:=by
 intro p
 induction p with
 | zero=>intro h _; obtain rfl:q=0:=(by omega); exact ⟨[],rfl,fun _ h=>by simp at h⟩
 | succ p ih =>
  intro h hp
  by_cases e:q=p + 1
  ·subst e; exact ⟨[],rfl,fun _ h=>by simp at h⟩
  ·obtain ⟨pre,h1,h2⟩:=ih (by omega) (by omega)
   obtain ⟨i,hi⟩:=at_lt (π:=π) (show p < π.length by omega);obtain ⟨o,ho,hst⟩:=C.step p i hi;have old:∀ x∈pre,∃ r,q≤r∧r < p + 1∧π[r]?=some x.1∧Eff X l π tr r:=fun x hx=>by
    obtain ⟨r,a,b,c⟩:=h2 x hx;exact ⟨r,a,by omega,c⟩
   cases hst with
   | no _ _ _ he=>exact ⟨pre,by rw [he,h1],old⟩
   | q _ _ _ v _ _ _ he=>exact ⟨pre,by rw [he,h1],old⟩
   | a _ _ _ v ob _ _ _ he=>exact ⟨pre,by rw [he,h1],old⟩
   | e hw hk _ v _ _ he =>
    refine ⟨(i,(tr (p + 1)).s.S) :: pre,by rw [he,h1]; rfl,fun x hx=>?_⟩;rcases List.mem_cons.1 hx with rfl | hx
    ·exact ⟨p,by omega,by omega,hi,i,o,hi,ho,hk,hw⟩
    ·exact old x hx
theorem sts_pre {S0 S:Tr Ob} {m:Nat} {rest:List (Nat×Tr Ob)}:∀ {pre:List (Nat×Tr Ob)},(∀ x∈pre,m.testBit x.1=false)→S∈sts rest S0 m→S∈sts (pre ++ rest) S0 m
 | [],_,h=>h
 | (j,T) :: pre,hp,h=>by
  have:=hp (j,T) (by simp);simp only [List.cons_append,sts];rw [this];exact List.mem_cons_of_mem _ (sts_pre (fun x hx=>hp x (List.mem_cons_of_mem _ hx)) h)
theorem sts_head {S0 S:Tr Ob} {m j:Nat} {es:List (Nat×Tr Ob)}:S∈sts ((j,S) :: es) S0 m:=by
 simp only [sts];split <;> simp
theorem DC.mem (C:DC X O call l π tr E0 w0 a0) {q p i:Nat} (hq:q=0∨∃ q',q=q' + 1∧Eff X l π tr q') (hqp:q≤p) (hp:π[p]?=some i) (hm:∀ r j,q≤r→r < p→π[r]?=some j→Eff X l π tr r→((masks l []).getD i 0).testBit j=false) :
  (tr q).s.S∈sts (tr p).es (tr 0).s.S ((masks l []).getD i 0):=by
 obtain ⟨pre,h1,h2⟩:=C.es hqp (Nat.le_of_lt (lt_at hp));rw [h1];refine sts_pre (fun x hx=>?_) ?_
 ·obtain ⟨r,a,b,c,d⟩:=h2 x hx
  exact hm r x.1 a b c d
 ·rcases hq with rfl | ⟨q',rfl,i',o',g1,g2,g3,g4⟩
  ·rw [C.es0]; simp [sts]
  ·obtain ⟨o2,k1,hst⟩:=C.step q' i' g1
   rw [g2] at k1;injection k1 with k1
   subst k1;cases hst with
   | no hw=>rw [g4] at hw; cases hw
   | q _ hk=>rw [g3] at hk; cases hk
   | a _ hk=>rw [g3] at hk; cases hk
   | e _ _ _ v _ _ he=>rw [he]; exact sts_head
end
end Go.Proofs.YtijegngfclkdaaaGreatDoor.Ev
