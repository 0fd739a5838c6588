/-
  Piece 5 of the proof.
  Conditions: none.
-/
import Derived.Test.YtijegngfclkdaaaGreatDoorQ04
set_option linter.unusedVariables false
set_option linter.unusedSimpArgs false
set_option maxHeartbeats 100000000
set_option maxRecDepth 100000
namespace Go.Proofs.YtijegngfclkdaaaGreatDoor
namespace Ev
open Go
variable {σ:Type}
def RF (E:Env) (F:Fr) (a:Act):Prop:=a.defers=[]/\a.tmps.size=F.nt/\∀ t av,F.t.get t=some av->∃ y,a.tmps[t]?=some y/\RV E av y
theorem RF.ext {E E':Env} {F:Fr} {a:Act} (h:Ext E E') (r:RF E F a):RF E' F a:=⟨r.1,r.2.1,fun t av ht=>by obtain ⟨y,a,b⟩:=r.2.2 t av ht; exact ⟨y,a,b.ext h⟩⟩
theorem Lq {X:Cx σ} {E:Env} {F:Fr} {a:Act} (r:RF E F a) (hg:∀ b,b < X.ng->E.D b/\E.ι b=b/\E.sh b=0) (x:Operand) (av:AV) (h:Dy X F x=some av):RV E av (a.eval x):=by
 cases x with
 | tmp t =>
  obtain ⟨y,h1,h2⟩:=r.2.2 t av h;simp only [Act.eval,Array.getD_eq_getD_getElem?,h1,Option.getD_some];exact h2
 | const v =>
  simp only [Dy,Option.map_eq_some_iff] at h;obtain ⟨v1,h1,rfl⟩:=h;exact oI h1
 | global g =>
  simp only [Dy,aE] at h;obtain ⟨h1,h⟩:=h;injection h with h
  subst h;obtain ⟨a1,a2,a3⟩:=hg g (Nat.le_of_ble_eq_true h1);exact ⟨a1,by rw [a2,a3]; rfl⟩
 | func f =>
  simp only [Dy] at h;injection h with h
  subst h;exact ⟨#[],#[],rfl,trivial,trivial⟩
theorem Oe {E:Env} {F:Fr} {a:Act} (r:RF E F a) {d:Option Tmp} {v:Option AV} {y:Value} (hv:∀ av,v=some av->RV E av y):RF E (cI F d v) (a.put d y):=by
 cases d with
 | none=>exact r
 | some d =>
  simp only [cI,Act.put];split
  ·rename_i hd
   have hd:d < F.nt:=Nat.le_of_ble_eq_true hd;refine ⟨r.1,by simpa using r.2.1,fun t av ht=>?_⟩;simp only [Tr.dI] at ht
   by_cases e:t=d
   ·subst e
    rw [if_pos rfl] at ht;exact ⟨y,by rw [Array.getElem?_setIfInBounds_self_of_lt (by rw [r.2.1]; exact hd)],hv av ht⟩
   ·rw [if_neg e] at ht
    obtain ⟨u,h1,h2⟩:=r.2.2 t av ht;exact ⟨u,by rw [Array.getElem?_setIfInBounds_ne (Ne.symm e)]; exact h1,h2⟩
  ·rename_i hd
   have hd:¬ d < F.nt:=fun h=>by
    have:Nat.blt d F.nt=true:=Nat.ble_eq_true_of_le h;rw [this] at hd; cases hd
   refine ⟨r.1,by simpa using r.2.1,fun t av ht=>?_⟩;obtain ⟨u,h1,h2⟩:=r.2.2 t av ht;have e:t≠d:=fun e=>by
    subst e;have:t < a.tmps.size:=by
     rcases Nat.lt_or_ge t a.tmps.size with h | h
     ·exact h
     ·rw [Array.getElem?_eq_none h] at h1; cases h1
    rw [r.2.1] at this;exact hd this
   exact ⟨u,by rw [Array.getElem?_setIfInBounds_ne (Ne.symm e)]; exact h1,h2⟩
theorem Kh {E:Env} {F:Fr} {a:Act} (r:RF E F a) {ops:Array Oper} {o:Oper} {b:Bool} (h:gT ops.toList F o=some b):Region.wanted o (yielded ops a.tmps)=b:=by
 unfold gT at h;unfold Region.wanted;split at h
 ·rename_i hg
  injection h with h
  rw [hg,<- h]
 ·rename_i j want hg
  rw [hg];dsimp only;rw [Array.getElem?_toList] at h;unfold yielded;split at h
  ·rename_i hd
   injection h with h
   rw [hd,<- h];rfl
  ·rename_i d hd
   split at h
   ·rename_i b' hb
    injection h with h
    obtain ⟨y,h1,h2⟩:=r.2.2 d _ hb;rw [hd,Option.bind_some,h1,h2.1,<- h];cases want <;> cases b' <;> rfl
   ·rename_i hb
    injection h with h
    obtain ⟨y,h1,A,h2,h3⟩:=r.2.2 d _ hb;rw [hd,Option.bind_some,h1,h2,<- h];cases want <;> rfl
   ·cases h
def gz (X:Cx σ) (O:Outside σ) (E:Env) (s:St σ) (w:World) (F':Fr) (s':St σ) (a':Act) (w':World):Prop :=
 ∃ E',RF E' F' a'/\Rel X O E' s'.S.get s'.g w'/\iB E s.S.get s.c w E' s'.S.get s'.c w'
theorem cC.then {X:Cx σ} {O:Outside σ} {E:Env} {s s':St σ} {w w':World} {F:Fr} {a:Act} {d:Option Tmp} {v:Option AV} {y:Value} (r:RF E F a) (h:cC X O E s w v s' y w'):gz X O E s w (cI F d v) s' (a.put d y) w':=by
 obtain ⟨E',h1,h2,h3⟩:=h;exact ⟨E',Oe (r.ext h3.ext) h1,h2,h3⟩
theorem Mi {X:Cx σ} {call:FuncId->List AV->St σ->Option (AV×St σ)} (hc:∀ f args s v s',call f args s=some (v,s')->X.fn f≠none->s.c<=s'.c) {ops:List Oper} {o:Oper} {F F':Fr} {s s':St σ} (h:PW X call ops o F s=some (F',s')):s.c<=s'.c:=by
 simp only [PW,Option.bind_eq_some_iff] at h;obtain ⟨b,_,h⟩:=h;split at h
 ·injection h with h; injection h with _ h; rw [h]; exact Nat.le_refl _
 ·split at h
  ·rw [Option.map_eq_some_iff] at h; obtain ⟨_,_,h⟩:=h; injection h with _ h; rw [h]; exact Nat.le_refl _
  ·rw [Option.map_eq_some_iff] at h
   obtain ⟨⟨v,ob⟩,_,h⟩:=h;injection h with _ h
   rw [<- h];cases ob <;> simp [bp]
  ·rw [Option.map_eq_some_iff] at h
   obtain ⟨⟨v,s''⟩,h1,h⟩:=h;injection h with _ h
   rw [<- h];exact Fv hc h1
theorem RX {X:Cx σ} (hX:kg X) {O:Outside σ} {call:FuncId->List AV->St σ->Option (AV×St σ)} (hc:eh X O call) {ops:Array Oper} {o:Oper} {F F':Fr} {s s':St σ} (h:PW X call ops.toList o F s=some (F',s'))
  {E:Env} {w:World} {a:Act} (r:RF E F a) (R:Rel X O E s.S.get s.g w) (hf:∀ id,s.c<=id->id < s'.c->¬ E.D id) (K:Act->World->Prop) (Q:Exit->Act->World->Prop) (hK:∀ a' w',gz X O E s w F' s' a' w'->K a' w') :
  if Region.wanted o (yielded ops a.tmps) then o.wp X.P a w K Q\/(o.asks X.P a w/\LetsOut Q) else K (a.put o.dst undef) w:=by
 simp only [PW,Option.bind_eq_some_iff] at h;obtain ⟨b,hb,h⟩:=h;rw [Kh r hb];have hρ:=Lq r R.kJ;split at h
 ·injection h with h
  injection h with h1 h2
  subst h1 h2;simp only [Bool.false_eq_true,if_false];exact hK _ _ (cC.then r (cC.same R fun av e=>by injection e with e; rw [<- e]; exact ⟨#[],rfl,trivial⟩))
 ·simp only [if_true]
  refine .inl ?_;unfold Oper.wp;split at h
  ·rw [Option.map_eq_some_iff] at h
   obtain ⟨v,hv,h⟩:=h;injection h with h1 h2
   subst h1 h2;obtain ⟨y,g1,g2⟩:=Lp hX hρ R.ob hv;rw [g1];exact hK _ _ (cC.then r (cC.same R fun av e=>by injection e with e; rw [<- e]; exact g2))
  ·rw [Option.map_eq_some_iff] at h
   obtain ⟨⟨v,ob⟩,hv,h⟩:=h;injection h with h1 h2
   subst h1 h2;have hnew:ob≠none->¬ E.D s.c:=fun hn=>by
    cases ob with
    | none=>exact absurd rfl hn
    | some o=>exact hf s.c lq (by simp [bp])
   obtain ⟨y,w',g1,g2⟩:=L4 hX hρ (fun _=>rfl) R (fun _ _ h=>h) hnew hv;rw [g1];exact hK _ _ (cC.then r (cC.rL g2))
  ·rw [Option.map_eq_some_iff] at h
   obtain ⟨⟨v,s''⟩,hv,h⟩:=h;injection h with h1 h2
   subst h1 h2;exact Ln hX hc hρ hv R hf a K Q fun y w' hs=>hK _ _ (cC.then r hs)
end Ev
namespace Ev
open Go
noncomputable section
variable {σ:Type}
def dS (o:Oper):List Nat:=o.after.toList.filterMap fun e=>if Region.binds .any e then some e.on else none
def s_ (acc:List Nat) (es:List Nat):Nat:=es.foldl (fun m j=>m ||| 2 ^ j ||| acc.getD j 0) 0
def dg:List Oper->List Nat->List Nat
 | [],acc=>acc
 | o :: l,acc=>dg l (acc ++ [s_ acc (dS o)])
def Di (X:Cx σ) (o:Oper):Bool:=match Bd X o with
 | .e=>true
 | _=>false
def Jm (X:Cx σ) (ops:List Oper) (ms:List Nat):List Nat->List Nat->Bool
 | [],_=>true
 | i :: π,done=>match ops[i]? with
  | none=>false
  | some o=>!done.contains i && (dS o).all done.contains && (!Di X o || done.all fun j=>(ms.getD i 0).testBit j) && Jm X ops ms π (i :: done)
def fu (ops:List Oper) (o:Oper):List Tmp :=
 (o.op.operands.toList.filterMap fun | .tmp t=>some t | _=>none) ++
 (match o.guard with
  | some (g,_)=>((ops[g]?).bind (·.dst)).toList
  | none=>[])
def LH (ops:List Oper) (ms:List Nat):Bool :=
 (ops.zipIdx).all fun (o,i)=>match o.dst with
  | none=>true
  | some t=>(ops.zipIdx).all fun (o',j)=>i == j || (o'.dst != some t && (!(fu ops o').contains t || (ms.getD j 0).testBit i || (ms.getD i 0).testBit j))
def yL:List Nat->List Nat->Bool
 | [],[]=>true
 | a :: l,b :: r=>Nat.beq a b && yL l r
 | _,_=>false
def yY (X:Cx σ) (ops:List Oper) (p:List Nat×List Nat):Bool :=
 yL (dg ops []) p.1 && Jm X ops p.1 p.2 [] && (List.range ops.length).all p.2.contains && LH ops p.1 && Region.noSelect ops.toArray
def xH:List (Nat×List Nat×List Nat)->Nat->Option (List Nat×List Nat)
 | [],_=>none
 | p :: l,i=>match Nat.beq p.1 i with
  | true=>some p.2
  | false=>xH l i
def cj (X:Cx σ) (pl:List (Nat×List Nat×List Nat)):Code->Bool
 | .region id ops true=>match xH pl id with
  | some p=>yY X ops.toList p
  | none=>true
 | .seq a b=>cj X pl a && cj X pl b
 | .cond _ a b=>cj X pl a && cj X pl b
 | .block _ b=>cj X pl b
 | .loop b=>cj X pl b
 | .scope b=>cj X pl b
 | _=>true
def oP:Value->Value->Bool
 | .bool a,.bool b=>a == b
 | .int j a,.int k b=>decide (j=k) && decide (a=b)
 | .string a,.string b=>decide (a.data.toList=b.data.toList)
 | .pointer none,.pointer none=>true
 | .slice none a b,.slice none c d=>Nat.beq a c && Nat.beq b d
 | .map none,.map none=>true
 | .nilFunc,.nilFunc=>true
 | _,_=>false
def Ig:Option Nat->Option Nat->Bool
 | none,none=>true
 | some a,some b=>Nat.beq a b
 | _,_=>false
def sameAt:At->At->Bool
 | .v x,.v y=>oP x y
 | .ptr a b,.ptr c d=>Nat.beq a c && Nat.beq b d
 | .sl a b c d e,.sl a' b' c' d' e'=>Nat.beq a a' && Nat.beq b b' && Nat.beq c c' && Ig d d' && Nat.beq e e'
 | .mp a,.mp b=>Nat.beq a b
 | .sym a,.sym b=>Nat.beq a b
 | .op a,.op b=>Nat.beq a b
 | .top,.top=>true
 | _,_=>false
def iU {α:Type} (f:α->α->Bool):List α->List α->Bool
 | [],[]=>true
 | x :: l,y :: r=>f x y && iU f l r
 | _,_=>false
def xV:Fn->Fn->Bool
 | .func a,.func b=>Nat.beq a b
 | _,_=>false
def ta:Ar->Ar->Bool
 | .one a,.one b=>sameAt a b
 | .agg a,.agg b=>iU sameAt a b
 | _,_=>false
def lP:Ce->Ce->Bool
 | .a x,.a y=>sameAt x y
 | .fn f a b,.fn g c d=>xV f g && iU ta a c && iU ta b d
 | _,_=>false
def su:V1->V1->Bool
 | .one x,.one y=>lP x y
 | .agg x,.agg y=>iU lP x y
 | _,_=>false
def mi:AV->AV->Bool
 | .w x,.w y=>su x y
 | .nN x,.nN y=>iU su x y
 | _,_=>false
def yj:Option Ob->Option Ob->Bool
 | none,none=>true
 | some (.row a t),some (.row b u)=>iU lP a b && Nat.beq t u
 | some (.map [] a),some (.map [] b)=>Nat.beq a b
 | _,_=>false
def Bn:List (Nat×Tr Ob)->Tr Ob->Nat->List (Tr Ob)
 | [],S0,_=>[S0]
 | (j,S) :: es,S0,m=>match m.testBit j with
  | true=>[S]
  | false=>S :: Bn es S0 m
def Kb (X:Cx σ) (o:Oper) (ρ:Operand->Option AV):List (Tr Ob)->Option AV
 | []=>none
 | S :: []=>mP X o ρ S
 | S :: l=>(mP X o ρ S).bind fun v=>(Kb X o ρ l).bind fun u=>gd (mi v u) (some v)
def Ki (X:Cx σ) (o:Oper) (ρ:Operand->Option AV) (c:Nat):List (Tr Ob)->Option (AV×Option Ob)
 | []=>none
 | S :: []=>qb X o ρ S c
 | S :: l=>(qb X o ρ S c).bind fun v=>(Ki X o ρ c l).bind fun u=>gd (mi v.1 u.1 && yj v.2 u.2) (some v)
def Hj (X:Cx σ) (F:Fr) (lk:List Tmp):Operand->Option AV
 | .tmp t=>gd (lk.contains t) (F.t.get t)
 | x=>Dy X F x
def eK (X:Cx σ) (call:FuncId->List AV->St σ->Option (AV×St σ)) (ops:List Oper) (ms:List Nat) (S0:Tr Ob):List Nat->List (Nat×Tr Ob)->Fr->St σ->Option (Fr×St σ)
 | [],_,F,s=>some (F,s)
 | i :: π,es,F,s=>(ops[i]?).bind fun o=>(gT ops F o).bind fun b=>match b with
  | false=>eK X call ops ms S0 π es (cI F o.dst (some (.nN []))) s
  | true=>match Bd X o with
   | .q=>(Kb X o (Hj X F (fu ops o)) (Bn es S0 (ms.getD i 0))).bind fun v=>eK X call ops ms S0 π es (cI F o.dst (some v)) s
   | .a=>(Ki X o (Hj X F (fu ops o)) s.c (Bn es S0 (ms.getD i 0))).bind fun r=>eK X call ops ms S0 π es (cI F o.dst (some r.1)) (bp s r.2)
   | .e=>(m9 X call o (Hj X F (fu ops o)) s).bind fun r=>eK X call ops ms S0 π ((i,r.2.S) :: es) (cI F o.dst r.1) r.2
def uH (X:Cx σ) (call:FuncId->List AV->St σ->Option (AV×St σ)) (pl:List (Nat×List Nat×List Nat)) (id:Nat) (ops:Array Oper) (draw:Bool) (F:Fr) (s:St σ):Option (Fr×St σ):=match draw with
 | false=>mN X call ops.toList ops.toList F s
 | true=>(xH pl id).bind fun p=>eK X call ops.toList p.1 s.S p.2 [] F s
def l6 (X:Cx σ) (ev:List (Nat×List Nat×List Nat)->Code->Fr->St σ->Option (Ex×Fr×St σ)) (f:FuncId) (args:List AV) (s:St σ):Option (AV×St σ):=match X.gg f args s with
 | some r=>some r
 | none=>(X.fn f).bind fun fi=>gd (Nat.ble args.length fi.nt) ((ev fi.pl fi.body ⟨fi.nt,EW args 0 .e⟩ s).bind fun r=>match r.1 with
  | .exit _=>none
  | _=>((kP X r.2.1 r.2.2.S fi.res).bind zu).map fun v=>(v,r.2.2))
def fy (X:Cx σ):Nat->List (Nat×List Nat×List Nat)->Code->Fr->St σ->Option (Ex×Fr×St σ)
 | 0,_,_,_,_=>none
 | n + 1,pl,c,F,s=>match c with
  | .skip=>some (.normal,F,s)
  | .label _=>some (.normal,F,s)
  | .region id ops d=>(uH X (l6 X (fy X n)) pl id ops d F s).map fun r=>(.normal,r.1,r.2)
  | .seq a b=>(fy X n pl a F s).bind fun r=>match r.1 with
   | .normal=>fy X n pl b r.2.1 r.2.2
   | .exit _=>some r
   | .ret=>some r
  | .cond c a b=>(Dy X F c).bind fun v=>match v with
   | .w (.one (.a (.v (.bool t))))=>match t with
    | true=>fy X n pl a F s
    | false=>fy X n pl b F s
   | _=>none
  | .block id b=>(fy X n pl b F s).map fun r=>match r.1 with
   | .exit j=>match Nat.beq j id with
    | true=>(.normal,r.2.1,r.2.2)
    | false=>r
   | .normal=>r
   | .ret=>r
  | .loop b=>(fy X n pl b F s).bind fun r=>match r.1 with
   | .normal=>fy X n pl (.loop b) r.2.1 r.2.2
   | .exit _=>some r
   | .ret=>some r
  | .exit id=>some (.exit id,F,s)
  | .scope b=>fy X n pl b F s
  | .ret=>some (.ret,F,s)
  | _=>none
end
end Ev
namespace Ev
open Go
variable {σ:Type}
theorem qy {o:Oper} {i:Nat}:i∈dS o↔∃ e∈o.after,Region.binds .any e=true/\e.on=i:=by
 unfold dS;rw [List.mem_filterMap];constructor
 ·rintro ⟨e,he,h⟩
  split at h
  ·rename_i hb; injection h with h; exact ⟨e,Array.mem_toList_iff.1 he,hb,h⟩
  ·cases h
 ·rintro ⟨e,he,hb,h⟩
  exact ⟨e,Array.mem_toList_iff.2 he,by rw [if_pos hb,h]⟩
theorem pE (acc:List Nat):∀ (es:List Nat) (m i:Nat),(es.foldl (fun m j=>m ||| 2 ^ j ||| acc.getD j 0) m).testBit i=true->m.testBit i=true\/∃ k∈es,k=i\/(acc.getD k 0).testBit i=true
 | [],m,i,h=>.inl h
 | j :: es,m,i,h=>by
  rw [List.foldl_cons] at h;rcases pE acc es _ i h with h | ⟨k,hk,h⟩
  ·rw [Nat.testBit_or,Nat.testBit_or,Nat.testBit_two_pow,Bool.or_eq_true,Bool.or_eq_true] at h
   rcases h with (h | h) | h
   ·exact .inl h
   ·exact .inr ⟨j,by simp,.inl (of_decide_eq_true h)⟩
   ·exact .inr ⟨j,by simp,.inr h⟩
  ·exact .inr ⟨k,List.mem_cons_of_mem _ hk,h⟩
theorem mg:∀ (l:List Oper) (acc:List Nat) (j:Nat),j < acc.length->(dg l acc).getD j 0=acc.getD j 0
 | [],acc,j,_=>rfl
 | o :: l,acc,j,h=>by
  rw [dg,mg l _ j (by simp; omega)];simp only [List.getD];rw [List.getElem?_append_left h]
theorem n9:∀ (l:List Oper) (acc:List Nat) (k:Nat) (o:Oper),l[k]?=some o->∀ i,((dg l acc).getD (acc.length + k) 0).testBit i=true->∃ e∈dS o,e=i\/(e < acc.length + k/\((dg l acc).getD e 0).testBit i=true)
 | [],acc,k,o,h,_,_=>by simp at h
 | o :: l,acc,0,o',h,i,hb=>by
  simp at h;subst h;rw [dg,mg l _ _ (by simp)] at hb;have e1:(acc ++ [s_ acc (dS o)]).getD (acc.length + 0) 0=s_ acc (dS o):=by simp [List.getD]
  rw [e1] at hb;rcases pE acc (dS o) 0 i hb with h | ⟨e,he,h | h⟩
  ·simp at h
  ·exact ⟨e,he,.inl h⟩
  ·have hlt:e < acc.length:=by
    rcases Nat.lt_or_ge e acc.length with h' | h'
    ·exact h'
    ·rw [List.getD,List.getElem?_eq_none h'] at h
     simp at h
   refine ⟨e,he,.inr ⟨by omega,?_⟩⟩;rw [dg,mg l _ _ (by simp; omega)];simp only [List.getD] at h ⊢;rw [List.getElem?_append_left hlt];exact h
 | o :: l,acc,k + 1,o',h,i,hb=>by
  have h':l[k]?=some o':=by simpa using h
  rw [dg] at hb ⊢;have:=n9 l (acc ++ [s_ acc (dS o)]) k o' h' i (by simpa [Nat.add_assoc,Nat.add_comm 1 k] using hb);obtain ⟨e,he,h2⟩:=this;refine ⟨e,he,?_⟩;rcases h2 with h2 | ⟨h2,h3⟩
  ·exact .inl h2
  ·exact .inr ⟨by simp at h2; omega,h3⟩
def wN (ops:List Oper) (L:Nat->Prop):Prop:=∀ j o,ops[j]?=some o->L j->∀ k∈dS o,L k
theorem ju {ops:List Oper} {L:Nat->Prop} (hc:wN ops L):∀ (j:Nat) (o:Oper),ops[j]?=some o->(∀ k∈dS o,L k)->∀ i,((dg ops []).getD j 0).testBit i=true->L i:=by
 intro j
 induction j using Nat.strongRecOn with
 | _ j ih =>
  intro o ho he i hi;obtain ⟨e,h1,h2⟩:=n9 ops [] j o ho i (by simpa using hi);rcases h2 with rfl | ⟨h2,h3⟩
  ·exact he _ h1
  ·simp only [List.length_nil,Nat.zero_add] at h2
   have hlt:e < ops.length:=by
    have:j < ops.length:=by
     rcases Nat.lt_or_ge j ops.length with h | h
     ·exact h
     ·rw [List.getElem?_eq_none h] at ho; cases ho
    omega
   exact ih e h2 _ (List.getElem?_eq_getElem hlt) (hc e _ (List.getElem?_eq_getElem hlt) (he e h1)) i h3
theorem uL:∀ {a b:List Nat},yL a b=true->a=b
 | [],[],_=>rfl
 | x :: a,y :: b,h=>by
  simp only [yL,Bool.and_eq_true] at h;rw [Nat.eq_of_beq_eq_true h.1,uL h.2]
 | [],_ :: _,h=>by cases h
 | _ :: _,[],h=>by cases h
structure J7 (X:Cx σ) (ops:List Oper) (π:List Nat):Prop where
 all:∀ i,i < ops.length->∃ p:Nat,π[p]?=some i
 lt:∀ (p:Nat) i,π[p]?=some i->i < ops.length
 inj:∀ (p q:Nat) i,π[p]?=some i->π[q]?=some i->p=q
 top:∀ (p i:Nat) o,π[p]?=some i->ops[i]?=some o->∀ k∈dS o,∃ q,q < p/\π[q]?=some k
 act:∀ (p i:Nat) o,π[p]?=some i->ops[i]?=some o->Di X o=true->∀ q j,q < p->π[q]?=some j->((dg ops []).getD i 0).testBit j=true
 tmp:∀ (i j:Nat) o o' t,ops[i]?=some o->ops[j]?=some o'->o.dst=some t->i≠j->o'.dst≠some t/\(t∈fu ops o'->((dg ops []).getD j 0).testBit i=true\/((dg ops []).getD i 0).testBit j=true)
theorem rE {X:Cx σ} {ops:List Oper} {ms:List Nat}:∀ {π done:List Nat},Jm X ops ms π done=true->∀ (p i:Nat),π[p]?=some i->∃ o,ops[i]?=some o/\¬ i∈done/\(∀ q,q < p->π[q]?≠some i)/\(∀ k∈dS o,k∈done\/∃ q,q < p/\π[q]?=some k) /\
  (Di X o=true->(∀ j∈done,(ms.getD i 0).testBit j=true)/\∀ q j,q < p->π[q]?=some j->(ms.getD i 0).testBit j=true)
 | [],_,_,p,i,h=>by simp at h
 | a :: π,done,hok,p,i,h=>by
  simp only [Jm] at hok;cases ho:ops[a]? with
  | none=>rw [ho] at hok; cases hok
  | some o =>
   rw [ho] at hok;simp only [Bool.and_eq_true,Bool.not_eq_true',List.all_eq_true,Bool.or_eq_true] at hok;obtain ⟨⟨⟨h1,h2⟩,h3⟩,h4⟩:=hok;cases p with
   | zero =>
    simp at h;subst h;refine ⟨o,ho,by simpa using h1,fun q hq=>absurd hq (by omega),fun k hk=>.inl (by simpa using h2 k hk),fun he=>⟨fun j hj=>?_,fun q j hq=>absurd hq (by omega)⟩⟩;rcases h3 with h3 | h3
    ·rw [he] at h3; cases h3
    ·exact h3 j hj
   | succ p =>
    have h':π[p]?=some i:=by simpa using h
    obtain ⟨o',g1,g2,g3,g4,g5⟩:=rE h4 p i h';refine ⟨o',g1,fun hd=>g2 (List.mem_cons_of_mem _ hd),fun q hq e=>?_,fun k hk=>?_,fun he=>⟨fun j hj=>(g5 he).1 j (List.mem_cons_of_mem _ hj),fun q j hq hj=>?_⟩⟩
    ·cases q with
     | zero=>simp at e; exact g2 (by rw [e]; simp)
     | succ q=>exact g3 q (by omega) (by simpa using e)
    ·rcases g4 k hk with h | ⟨q,hq,h⟩
     ·rcases List.mem_cons.1 h with rfl | h
      ·exact .inr ⟨0,by omega,by simp⟩
      ·exact .inl h
     ·exact .inr ⟨q + 1,by omega,by simpa using h⟩
    ·cases q with
     | zero=>simp at hj; exact (g5 he).1 j (by rw [hj]; simp)
     | succ q=>exact (g5 he).2 q j (by omega) (by simpa using hj)
theorem wV {X:Cx σ} {ops:List Oper} {p:List Nat×List Nat} (h:yY X ops p=true):p.1=dg ops []/\J7 X ops p.2:=by
 simp only [yY,Bool.and_eq_true,List.all_eq_true] at h;obtain ⟨⟨⟨⟨h1,h2⟩,h3⟩,h4⟩,h5⟩:=h;have e:=(uL h1).symm;rw [e] at h2 h4;have ok:=fun p i h=>rE h2 p i h
 refine ⟨e,⟨fun i hi=>?_,fun q i hq=>?_,fun q r i hq hr=>?_,fun q i o hq ho k hk=>?_,fun q i o hq ho he r j hr hj=>?_,fun i j o o' t ho ho' hd hij=>?_⟩⟩
 ·have:=h3 i (List.mem_range.2 hi)
  rw [List.contains_iff_mem] at this;exact List.getElem?_of_mem this
 ·obtain ⟨o,g,_⟩:=ok q i hq
  rcases Nat.lt_or_ge i ops.length with h | h
  ·exact h
  ·rw [List.getElem?_eq_none h] at g; cases g
 ·obtain ⟨_,_,_,g1,_⟩:=ok q i hq
  obtain ⟨_,_,_,g2,_⟩:=ok r i hr;rcases Nat.lt_trichotomy q r with h | h | h
  ·exact absurd hq (g2 q h)
  ·exact h
  ·exact absurd hr (g1 r h)
 ·obtain ⟨o',g0,_,_,g,_⟩:=ok q i hq
  rw [ho] at g0;injection g0 with g0
  subst g0;rcases g k hk with h | h
  ·simp at h
  ·exact h
 ·obtain ⟨o',g0,_,_,_,g⟩:=ok q i hq
  rw [ho] at g0;injection g0 with g0
  subst g0;exact (g he).2 r j hr hj
 ·simp only [LH,List.all_eq_true] at h4
  have m1:(o,i)∈ops.zipIdx:=by rw [List.mem_zipIdx_iff_getElem?]; exact ho
  have m2:(o',j)∈ops.zipIdx:=by rw [List.mem_zipIdx_iff_getElem?]; exact ho'
  have g:=h4 (o,i) m1;simp only [hd,List.all_eq_true] at g;have g:=g (o',j) m2;simp only [Bool.or_eq_true,beq_iff_eq,hij,false_or,Bool.and_eq_true,bne_iff_ne,ne_eq,Bool.not_eq_true'] at g;refine ⟨g.1,fun ht=>?_⟩;rcases g.2 with (h | h) | h
  ·rw [<- Bool.not_eq_true,List.contains_iff_mem] at h; exact absurd ht h
  ·exact .inl h
  ·exact .inr h
theorem J7.mask {X:Cx σ} {ops:List Oper} {π:List Nat} (P:J7 X ops π) {p i j:Nat} {o:Oper} (hp:π[p]?=some i) (ho:ops[i]?=some o) (hb:((dg ops []).getD i 0).testBit j=true):∃ q,q < p/\π[q]?=some j:=by
 refine ju (L:=fun k=>∃ q,q < p/\π[q]?=some k) (fun a oa ha ⟨q,hq,Zn⟩ k hk=>?_) i o ho (P.top p i o hp ho) j hb;obtain ⟨r,hr,h⟩:=P.top q a oa Zn ha k hk;exact ⟨r,by omega,h⟩
end Ev
namespace Ev
open Go
variable {σ:Type}
theorem oJ {a b:Value} (h:oP a b=true):a=b:=by
 unfold oP at h;split at h
 ·rw [eq_of_beq h]
 ·rw [Bool.and_eq_true] at h; rw [of_decide_eq_true h.1,of_decide_eq_true h.2]
 ·rename_i x y
  have:=of_decide_eq_true h
  congr 1
  cases x with | mk x=>cases y with | mk y=>congr 1; apply Array.ext'; exact this
 ·rfl
 ·rw [Bool.and_eq_true] at h; rw [Nat.eq_of_beq_eq_true h.1,Nat.eq_of_beq_eq_true h.2]
 ·rfl
 ·rfl
 ·cases h
theorem ES {a b:Option Nat} (h:Ig a b=true):a=b:=by
 unfold Ig at h;split at h
 ·rfl
 ·rw [Nat.eq_of_beq_eq_true h]
 ·cases h
theorem mn {a b:At} (h:sameAt a b=true):a=b:=by
 unfold sameAt at h;split at h
 ·rw [oJ h]
 ·rw [Bool.and_eq_true] at h; rw [Nat.eq_of_beq_eq_true h.1,Nat.eq_of_beq_eq_true h.2]
 ·simp only [Bool.and_eq_true] at h
  obtain ⟨⟨⟨⟨h1,h2⟩,h3⟩,h4⟩,h5⟩:=h;rw [Nat.eq_of_beq_eq_true h1,Nat.eq_of_beq_eq_true h2,Nat.eq_of_beq_eq_true h3,ES h4,Nat.eq_of_beq_eq_true h5]
 ·rw [Nat.eq_of_beq_eq_true h]
 ·rw [Nat.eq_of_beq_eq_true h]
 ·rw [Nat.eq_of_beq_eq_true h]
 ·rfl
 ·cases h
theorem dz {α:Type} {f:α->α->Bool} (hf:∀ a b,f a b=true->a=b):∀ {a b:List α},iU f a b=true->a=b
 | [],[],_=>rfl
 | x :: a,y :: b,h=>by
  simp only [iU,Bool.and_eq_true] at h;rw [hf _ _ h.1,dz hf h.2]
 | [],_ :: _,h=>by cases h
 | _ :: _,[],h=>by cases h
theorem AP {a b:Fn} (h:xV a b=true):a=b:=by
 unfold xV at h;split at h
 ·rw [Nat.eq_of_beq_eq_true h]
 ·cases h
theorem rq {a b:Ar} (h:ta a b=true):a=b:=by
 unfold ta at h;split at h
 ·rw [mn h]
 ·rw [dz (fun _ _=>mn) h]
 ·cases h
theorem jn {a b:Ce} (h:lP a b=true):a=b:=by
 unfold lP at h;split at h
 ·rw [mn h]
 ·simp only [Bool.and_eq_true] at h
  obtain ⟨⟨h1,h2⟩,h3⟩:=h;rw [AP h1,dz (fun _ _=>rq) h2,dz (fun _ _=>rq) h3]
 ·cases h
theorem qD {a b:V1} (h:su a b=true):a=b:=by
 unfold su at h;split at h
 ·rw [jn h]
 ·rw [dz (fun _ _=>jn) h]
 ·cases h
theorem jx {a b:AV} (h:mi a b=true):a=b:=by
 unfold mi at h;split at h
 ·rw [qD h]
 ·rw [dz (fun _ _=>qD) h]
 ·cases h
theorem AN {a b:Option Ob} (h:yj a b=true):a=b:=by
 unfold yj at h;split at h
 ·rfl
 ·simp only [Bool.and_eq_true] at h
  rw [dz (fun _ _=>jn) h.1,Nat.eq_of_beq_eq_true h.2]
 ·rw [Nat.eq_of_beq_eq_true h]
 ·cases h
theorem rC {X:Cx σ} {o:Oper} {ρ:Operand->Option AV}:∀ {l:List (Tr Ob)} {v:AV},Kb X o ρ l=some v->∀ S∈l,mP X o ρ S=some v
 | [],_,h,_,_=>by cases h
 | [S],v,h,S',hS=>by simp at hS; rw [hS]; exact h
 | S :: T :: l,v,h,S',hS=>by
  simp only [Kb,Option.bind_eq_some_iff,aE] at h;obtain ⟨u,h1,u',h2,h3,h4⟩:=h;injection h4 with h4
  subst h4;have e:=jx h3;rcases List.mem_cons.1 hS with rfl | hS
  ·exact h1
  ·rw [e]; exact rC (l:=T :: l) h2 S' hS
theorem qZ {X:Cx σ} {o:Oper} {ρ:Operand->Option AV} {c:Nat}:∀ {l:List (Tr Ob)} {v:AV×Option Ob},Ki X o ρ c l=some v->∀ S∈l,qb X o ρ S c=some v
 | [],_,h,_,_=>by cases h
 | [S],v,h,S',hS=>by simp at hS; rw [hS]; exact h
 | S :: T :: l,v,h,S',hS=>by
  simp only [Ki,Option.bind_eq_some_iff,aE,Bool.and_eq_true] at h;obtain ⟨u,h1,u',h2,⟨h3,h3'⟩,h4⟩:=h;injection h4 with h4
  subst h4;have e:u=u':=Prod.ext (jx h3) (AN h3');rcases List.mem_cons.1 hS with rfl | hS
  ·exact h1
  ·rw [e]; exact qZ (l:=T :: l) h2 S' hS
structure GF (σ:Type) where
 es:List (Nat×Tr Ob)
 F:Fr
 s:St σ
inductive yX (X:Cx σ) (call:FuncId->List AV->St σ->Option (AV×St σ)) (ops:List Oper) (S0:Tr Ob) (i:Nat) (o:Oper) (c c':GF σ):Prop where
 | no (hw:gT ops c.F o=some false) (hF:c'.F=cI c.F o.dst (some (.nN []))) (hs:c'.s=c.s) (he:c'.es=c.es)
 | q (hw:gT ops c.F o=some true) (hk:Di X o=false) (hkd:Bd X o=.q) (v:AV) (hv:∀ S∈Bn c.es S0 ((dg ops []).getD i 0),mP X o (Hj X c.F (fu ops o)) S=some v) (hF:c'.F=cI c.F o.dst (some v)) (hs:c'.s=c.s) (he:c'.es=c.es)
 | a (hw:gT ops c.F o=some true) (hk:Di X o=false) (hkd:Bd X o=.a) (v:AV) (ob:Option Ob) (hv:∀ S∈Bn c.es S0 ((dg ops []).getD i 0),qb X o (Hj X c.F (fu ops o)) S c.s.c=some (v,ob)) (hF:c'.F=cI c.F o.dst (some v)) (hs:c'.s=bp c.s ob) (he:c'.es=c.es)
 | e (hw:gT ops c.F o=some true) (hk:Di X o=true) (hkd:Bd X o=.e) (v:Option AV) (hv:m9 X call o (Hj X c.F (fu ops o)) c.s=some (v,c'.s)) (hF:c'.F=cI c.F o.dst v) (he:c'.es=(i,c'.s.S) :: c.es)
theorem oO {X:Cx σ} {call:FuncId->List AV->St σ->Option (AV×St σ)} {ops:List Oper} {S0:Tr Ob}:∀ {π:List Nat} {es:List (Nat×Tr Ob)} {F F':Fr} {s s':St σ},eK X call ops (dg ops []) S0 π es F s=some (F',s') ->
  ∃ tr:Nat->GF σ,tr 0=⟨es,F,s⟩/\(tr π.length).F=F'/\(tr π.length).s=s'/\∀ p i,π[p]?=some i->∃ o,ops[i]?=some o/\yX X call ops S0 i o (tr p) (tr (p + 1))
 | [],es,F,F',s,s',h=>by
  simp only [eK] at h;injection h with h
  injection h with h1 h2
  exact ⟨fun _=>⟨es,F,s⟩,rfl,h1,h2,fun p i hp=>by simp at hp⟩
 | i :: π,es,F,F',s,s',h=>by
  simp only [eK,Option.bind_eq_some_iff] at h;obtain ⟨o,ho,b,hb,h⟩:=h;have fin:∀ es1 F1 s1,eK X call ops (dg ops []) S0 π es1 F1 s1=some (F',s')->yX X call ops S0 i o ⟨es,F,s⟩ ⟨es1,F1,s1⟩->∃ tr:Nat->GF σ,tr 0=⟨es,F,s⟩/\(tr (i :: π).length).F=F'/\(tr (i :: π).length).s=s'/\∀ p j,(i :: π)[p]?=some j->∃ o,ops[j]?=some o/\yX X call ops S0 j o (tr p) (tr (p + 1)):=fun es1 F1 s1 hg hst=>by
   obtain ⟨tr,t1,t2,t3,t4⟩:=oO hg;refine ⟨fun p=>match p with | 0=>⟨es,F,s⟩ | p + 1=>tr p,rfl,t2,t3,fun p j hp=>?_⟩;cases p with
   | zero =>
    simp at hp;subst hp;refine ⟨o,ho,?_⟩;dsimp only;rw [t1];exact hst
   | succ p=>exact t4 p j (by simpa using hp)
  split at h
  ·exact fin _ _ _ h (.no hb rfl rfl rfl)
  ·split at h
   ·rename_i hkd
    rw [Option.bind_eq_some_iff] at h;obtain ⟨v,hv,h⟩:=h;exact fin _ _ _ h (.q hb (by simp [Di,hkd]) hkd v (rC hv) rfl rfl rfl)
   ·rename_i hkd
    rw [Option.bind_eq_some_iff] at h;obtain ⟨⟨v,ob⟩,hv,h⟩:=h;exact fin _ _ _ h (.a hb (by simp [Di,hkd]) hkd v ob (qZ hv) rfl rfl rfl)
   ·rename_i hkd
    rw [Option.bind_eq_some_iff] at h;obtain ⟨⟨v,s1⟩,hv,h⟩:=h;exact fin _ _ _ h (.e hb (by simp [Di,hkd]) hkd v hv rfl rfl)
end Ev
namespace Ev
open Go
variable {σ:Type}
structure DC (X:Cx σ) (O:Outside σ) (call:FuncId->List AV->St σ->Option (AV×St σ)) (l:List Oper) (π:List Nat) (tr:Nat->GF σ) (E0:Env) (w0:World) (a0:Act):Prop where
 hX:kg X
 hc:eh X O call
 plan:J7 X l π
 es0:(tr 0).es=[]
 step:∀ (p i:Nat),π[p]?=some i->∃ o,l[i]?=some o/\yX X call l (tr 0).s.S i o (tr p) (tr (p + 1))
 rf:RF E0 (tr 0).F a0
 rel:Rel X O E0 (tr 0).s.S.get (tr 0).s.g w0
 fresh:∀ id,(tr 0).s.c<=id->id < (tr π.length).s.c->¬ E0.D id
def xO (X:Cx σ) (l:List Oper) (π:List Nat) (tr:Nat->GF σ) (p:Nat):Prop:=∃ i o,π[p]?=some i/\l[i]?=some o/\Di X o=true/\gT l (tr p).F o=some true
def yU (X:Cx σ) (l:List Oper) (π:List Nat) (tr:Nat->GF σ) (r id:Nat) (o:Ob):Prop:=id=(tr r).s.c/\(tr (r + 1)).s=bp (tr r).s (some o)/\¬ xO X l π tr r
section
variable {X:Cx σ} {O:Outside σ} {call:FuncId->List AV->St σ->Option (AV×St σ)} {l:List Oper} {π:List Nat} {tr:Nat->GF σ} {E0:Env} {w0:World} {a0:Act}
theorem DC.put (C:DC X O call l π tr E0 w0 a0) {p i:Nat} {o:Oper} (hp:π[p]?=some i) (ho:l[i]?=some o):∃ v,(tr (p + 1)).F=cI (tr p).F o.dst v:=by
 obtain ⟨o',h1,h2⟩:=C.step p i hp;rw [ho] at h1;injection h1 with h1
 subst h1;cases h2 with
 | no _ hF=>exact ⟨_,hF⟩
 | q _ _ _ v _ hF=>exact ⟨_,hF⟩
 | a _ _ _ v ob _ hF=>exact ⟨_,hF⟩
 | e _ _ _ v _ hF=>exact ⟨_,hF⟩
theorem DC.W9 (C:DC X O call l π tr E0 w0 a0) {p i:Nat} (hp:π[p]?=some i):(tr p).s.c<=(tr (p + 1)).s.c:=by
 obtain ⟨o',h1,h2⟩:=C.step p i hp;cases h2 with
 | no _ _ hs=>rw [hs]; exact Nat.le_refl _
 | q _ _ _ v _ _ hs=>rw [hs]; exact Nat.le_refl _
 | a _ _ _ v ob _ _ hs=>rw [hs]; cases ob <;> simp [bp]
 | e _ _ _ v hv=>exact Fv (fun f args s v s' h hn=>(C.hc f args s v s' h hn).1) hv
theorem iS {p:Nat} (h:p < π.length):∃ i,π[p]?=some i:=⟨_,List.getElem?_eq_getElem h⟩
theorem g_ {p i:Nat} (h:π[p]?=some i):p < π.length:=by
 rcases Nat.lt_or_ge p π.length with h' | h'
 ·exact h'
 ·rw [List.getElem?_eq_none h'] at h; cases h
theorem DC.le (C:DC X O call l π tr E0 w0 a0):∀ {p q:Nat},p<=q->q<=π.length->(tr p).s.c<=(tr q).s.c:=by
 intro p q h
 induction q with
 | zero=>intro _; obtain rfl:p=0:=(by omega); exact Nat.le_refl _
 | succ q ih =>
  intro hq
  by_cases e:p=q + 1
  ·rw [e]; exact Nat.le_refl _
  ·obtain ⟨i,hi⟩:=iS (π:=π) (show q < π.length by omega)
   exact Nat.le_trans (ih (by omega) (by omega)) (C.W9 hi)
theorem Ko (F:Fr) (d:Option Tmp) (v:Option AV):(cI F d v).nt=F.nt:=by
 unfold cI;split
 ·rfl
 ·split <;> rfl
theorem Gb {F:Fr} {d:Option Tmp} {v:Option AV} {t:Tmp} (h:d≠some t):(cI F d v).t.get t=F.t.get t:=by
 unfold cI;split
 ·rfl
 ·rename_i d
  split
  ·simp only [Tr.dI]; rw [if_neg (fun e=>h (by rw [e]))]
  ·rfl
theorem AY {F:Fr} {v:Option AV} {t:Tmp} (h:t < F.nt):(cI F (some t) v).t.get t=v:=by
 unfold cI;simp only;have:Nat.blt t F.nt=true:=Nat.ble_eq_true_of_le h;rw [this];simp [Tr.dI]
theorem DC.nt (C:DC X O call l π tr E0 w0 a0):∀ {p:Nat},p<=π.length->(tr p).F.nt=(tr 0).F.nt:=by
 intro p
 induction p with
 | zero=>intro _; rfl
 | succ p ih =>
  intro h;obtain ⟨i,hi⟩:=iS (π:=π) (show p < π.length by omega);obtain ⟨o,ho,_⟩:=C.step p i hi;obtain ⟨v,hv⟩:=C.put hi ho;rw [hv,Ko];exact ih (by omega)
theorem DC.get (C:DC X O call l π tr E0 w0 a0):∀ {p:Nat},p<=π.length->∀ {t:Tmp} {av:AV},(tr p).F.t.get t=some av->t < (tr 0).F.nt /\
  ((∃ q i o,q < p/\π[q]?=some i/\l[i]?=some o/\o.dst=some t/\(tr (q + 1)).F.t.get t=some av)\/((∀ q i o,q < p->π[q]?=some i->l[i]?=some o->o.dst≠some t)/\(tr 0).F.t.get t=some av)):=by
 intro p
 induction p with
 | zero =>
  intro _ t av h;refine ⟨?_,.inr ⟨fun q i o hq=>absurd hq (by omega),h⟩⟩;obtain ⟨y,h1,_⟩:=C.rf.2.2 t av h;rw [<- C.rf.2.1];rcases Nat.lt_or_ge t a0.tmps.size with h' | h'
  ·exact h'
  ·rw [Array.getElem?_eq_none h'] at h1; cases h1
 | succ p ih =>
  intro hp t av h;obtain ⟨i,hi⟩:=iS (π:=π) (show p < π.length by omega);obtain ⟨o,ho,_⟩:=C.step p i hi;obtain ⟨v,hv⟩:=C.put hi ho
  by_cases hd:o.dst=some t
  ·refine ⟨?_,.inl ⟨p,i,o,by omega,hi,ho,hd,h⟩⟩
   rcases Nat.lt_or_ge t (tr 0).F.nt with h' | h'
   ·exact h'
   ·rw [hv,hd] at h
    have hn:Nat.blt t (tr p).F.nt=false:=by
     cases hb:Nat.blt t (tr p).F.nt with
     | false=>rfl
     | true =>
      have:=Nat.le_of_ble_eq_true hb;rw [C.nt (show p<=π.length by omega)] at this;omega
    simp only [cI,hn] at h;exact (ih (by omega) h).1
  ·rw [hv,Gb hd] at h
   obtain ⟨h1,h2⟩:=ih (by omega) h;refine ⟨h1,?_⟩;rcases h2 with ⟨q,j,o',hq,a1,a2,a3,a4⟩ | ⟨h2,h3⟩
   ·exact .inl ⟨q,j,o',by omega,a1,a2,a3,a4⟩
   ·refine .inr ⟨fun q j o' hq a1 a2=>?_,h3⟩
    by_cases e:q=p
    ·subst e
     rw [hi] at a1;injection a1 with a1
     subst a1;rw [ho] at a2;injection a2 with a2
     subst a2;exact hd
    ·exact h2 q j o' (by omega) a1 a2
theorem DC.calm (C:DC X O call l π tr E0 w0 a0) {q:Nat}:∀ {p:Nat},q<=p->p<=π.length->(∀ r,q<=r->r < p->¬ xO X l π tr r)->(tr p).s.g=(tr q).s.g/\∀ id o,(tr p).s.S.get id=some o->(tr q).s.S.get id=some o\/∃ r,q<=r/\r < p/\yU X l π tr r id o:=by
 intro p
 induction p with
 | zero=>intro h _ _; obtain rfl:q=0:=(by omega); exact ⟨rfl,fun _ _ h=>.inl h⟩
 | succ p ih =>
  intro h hp hr
  by_cases e:q=p + 1
  ·subst e; exact ⟨rfl,fun _ _ h=>.inl h⟩
  ·obtain ⟨h1,h2⟩:=ih (by omega) (by omega) fun r a b=>hr r a (by omega)
   obtain ⟨i,hi⟩:=iS (π:=π) (show p < π.length by omega);obtain ⟨o,ho,hst⟩:=C.step p i hi;have old:∀ id x,(tr p).s.S.get id=some x->(tr q).s.S.get id=some x\/∃ r,q<=r/\r < p + 1/\yU X l π tr r id x:=fun id x hx=>by
    rcases h2 id x hx with h | ⟨r,a,b,c⟩
    ·exact .inl h
    ·exact .inr ⟨r,a,by omega,c⟩
   cases hst with
   | no _ _ hs=>rw [hs]; exact ⟨h1,old⟩
   | q _ _ _ v _ _ hs=>rw [hs]; exact ⟨h1,old⟩
   | e hw hk=>exact absurd ⟨i,o,hi,ho,hk,hw⟩ (hr p (by omega) (by omega))
   | a hw hk _ v ob _ _ hs =>
    cases ob with
    | none=>rw [hs]; exact ⟨h1,old⟩
    | some ob =>
     rw [hs];refine ⟨h1,fun id x hx=>?_⟩;simp only [bp,Tr.dI] at hx;split at hx
     ·rename_i e
      injection hx with hx
      subst hx;exact .inr ⟨p,by omega,by omega,e,hs,hr p (by omega) (by omega)⟩
     ·exact old id x hx
theorem DC.es (C:DC X O call l π tr E0 w0 a0) {q:Nat}:∀ {p:Nat},q<=p->p<=π.length->∃ pre,(tr p).es=pre ++ (tr q).es/\∀ x∈pre,∃ r,q<=r/\r < p/\π[r]?=some x.1/\xO X l π tr r:=by
 intro p
 induction p with
 | zero=>intro h _; obtain rfl:q=0:=(by omega); exact ⟨[],rfl,fun _ h=>by simp at h⟩
 | succ p ih =>
  intro h hp
  by_cases e:q=p + 1
  ·subst e; exact ⟨[],rfl,fun _ h=>by simp at h⟩
  ·obtain ⟨pre,h1,h2⟩:=ih (by omega) (by omega)
   obtain ⟨i,hi⟩:=iS (π:=π) (show p < π.length by omega);obtain ⟨o,ho,hst⟩:=C.step p i hi;have old:∀ x∈pre,∃ r,q<=r/\r < p + 1/\π[r]?=some x.1/\xO X l π tr r:=fun x hx=>by
    obtain ⟨r,a,b,c⟩:=h2 x hx;exact ⟨r,a,by omega,c⟩
   cases hst with
   | no _ _ _ he=>exact ⟨pre,by rw [he,h1],old⟩
   | q _ _ _ v _ _ _ he=>exact ⟨pre,by rw [he,h1],old⟩
   | a _ _ _ v ob _ _ _ he=>exact ⟨pre,by rw [he,h1],old⟩
   | e hw hk _ v _ _ he =>
    refine ⟨(i,(tr (p + 1)).s.S) :: pre,by rw [he,h1]; rfl,fun x hx=>?_⟩;rcases List.mem_cons.1 hx with rfl | hx
    ·exact ⟨p,by omega,by omega,hi,i,o,hi,ho,hk,hw⟩
    ·exact old x hx
theorem zi {S0 S:Tr Ob} {m:Nat} {rest:List (Nat×Tr Ob)}:∀ {pre:List (Nat×Tr Ob)},(∀ x∈pre,m.testBit x.1=false)->S∈Bn rest S0 m->S∈Bn (pre ++ rest) S0 m
 | [],_,h=>h
 | (j,T) :: pre,hp,h=>by
  have:=hp (j,T) (by simp);simp only [List.cons_append,Bn];rw [this];exact List.mem_cons_of_mem _ (zi (fun x hx=>hp x (List.mem_cons_of_mem _ hx)) h)
theorem Hh {S0 S:Tr Ob} {m j:Nat} {es:List (Nat×Tr Ob)}:S∈Bn ((j,S) :: es) S0 m:=by
 simp only [Bn];split <;> simp
theorem DC.mem (C:DC X O call l π tr E0 w0 a0) {q p i:Nat} (hq:q=0\/∃ q',q=q' + 1/\xO X l π tr q') (IA:q<=p) (hp:π[p]?=some i) (hm:∀ r j,q<=r->r < p->π[r]?=some j->xO X l π tr r->((dg l []).getD i 0).testBit j=false) :
  (tr q).s.S∈Bn (tr p).es (tr 0).s.S ((dg l []).getD i 0):=by
 obtain ⟨pre,h1,h2⟩:=C.es IA (Nat.le_of_lt (g_ hp));rw [h1];refine zi (fun x hx=>?_) ?_
 ·obtain ⟨r,a,b,c,d⟩:=h2 x hx
  exact hm r x.1 a b c d
 ·rcases hq with rfl | ⟨q',rfl,i',o',g1,g2,g3,g4⟩
  ·rw [C.es0]; simp [Bn]
  ·obtain ⟨o2,k1,hst⟩:=C.step q' i' g1
   rw [g2] at k1;injection k1 with k1
   subst k1;cases hst with
   | no hw=>rw [g4] at hw; cases hw
   | q _ hk=>rw [g3] at hk; cases hk
   | a _ hk=>rw [g3] at hk; cases hk
   | e _ _ _ v _ _ he=>rw [he]; exact Hh
end
end Ev
end Go.Proofs.YtijegngfclkdaaaGreatDoor
