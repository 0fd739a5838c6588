/-
  Piece 7 of the proof.
  Conditions: none.
-/
import Derived.Test.YtijegngfclkdaaaGreatDoorProg
import Derived.Test.YtijegngfclkdaaaGreatDoorQ06
set_option linter.unusedVariables false
set_option linter.unusedSimpArgs false
set_option maxHeartbeats 100000000
set_option maxRecDepth 100000
namespace Go.Proofs.YtijegngfclkdaaaGreatDoor
namespace Ev
open Go
variable {σ:Type}
def ni (X:Cx σ):Prop:=∀ f fi,X.fn f=some fi->cj X fi.pl fi.body=true
theorem gz.same {X:Cx σ} {O:Outside σ} {E:Env} {F:Fr} {s:St σ} {a:Act} {w:World} (r:RF E F a) (R:Rel X O E s.S.get s.g w):gz X O E s w F s a w:=⟨E,r,R,iB.refl _ _ _ _⟩
theorem Qi {X:Cx σ} (hX:kg X) {O:Outside σ} {n:Nat} (Hc:∀ m,m < n->eh X O (l6 X (fy X m))):∀ (m:Nat),m<=n->∀ {pl:List (Nat×List Nat×List Nat)} {c:Code} {F F':Fr} {s s':St σ} {ex:Ex},fy X m pl c F s=some (ex,F',s')->cj X pl c=true ->
  ∀ {E:Env} {a:Act} {w:World},RF E F a->Rel X O E s.S.get s.g w->(∀ id,s.c<=id->id < s'.c->¬ E.D id) ->
  (∀ Q:Exit->Act->World->Prop,(∀ a' w',gz X O E s w F' s' a' w'->Q ex.of a' w')->c.wp X.P Q a w)/\(∀ b,c=.loop b->∀ Q:Exit->Act->World->Prop,(∀ a' w',gz X O E s w F' s' a' w'->Q ex.of a' w')->Code.rounds X.P b Q m a w):=by
 intro m
 induction m with
 | zero=>intro _ pl c F F' s s' ex h; simp [fy] at h
 | succ m ih =>
  intro hm pl c F F' s s' ex h hpl E a w r R hf;have ih:=fun {pl:List (Nat×List Nat×List Nat)} {c:Code} {F F':Fr} {s s':St σ} {ex:Ex} h=>ih (by omega) (pl:=pl) (c:=c) (F:=F) (F':=F') (s:=s) (s':=s') (ex:=ex) h
  have TX:=fun {pl:List (Nat×List Nat×List Nat)} {c:Code} {F F':Fr} {s s':St σ} {ex:Ex} h=>LP (X:=X) (n:=n) (fun k hk=>(Hc k hk).c) m (by omega) (pl:=pl) (c:=c) (F:=F) (F':=F') (s:=s) (s':=s') (ex:=ex) h
  have later:∀ {s1 s':St σ} {w1:World} {E1:Env} {E:Env} {s:St σ} {w:World},s.c<=s1.c->s1.c<=s'.c->(∀ id,s.c<=id->id < s'.c->¬ E.D id)->iB E s.S.get s.c w E1 s1.S.get s1.c w1->∀ id,s1.c<=id->id < s'.c->¬ E1.D id:=fun c1 _ hf m id a b hD=>by
   rcases m.fresh id hD with h | ⟨_,h⟩
   ·exact hf id (by omega) b h
   ·omega
  cases c with
  | skip =>
   simp only [fy] at h;injection h with h; injection h with h0 h; injection h with h1 h2
   subst h0 h1 h2;exact ⟨fun Q hQ=>wp_skip (hQ a w (gz.same r R)),fun b hb=>by cases hb⟩
  | label l =>
   simp only [fy] at h;injection h with h; injection h with h0 h; injection h with h1 h2
   subst h0 h1 h2;exact ⟨fun Q hQ=>wp_label (hQ a w (gz.same r R)),fun b hb=>by cases hb⟩
  | exit id =>
   simp only [fy] at h;injection h with h; injection h with h0 h; injection h with h1 h2
   subst h0 h1 h2;exact ⟨fun Q hQ=>wp_exit (hQ a w (gz.same r R)),fun b hb=>by cases hb⟩
  | ret =>
   simp only [fy] at h;injection h with h; injection h with h0 h; injection h with h1 h2
   subst h0 h1 h2;exact ⟨fun Q hQ=>wp_ret (hQ a w (gz.same r R)),fun b hb=>by cases hb⟩
  | region id ops d =>
   simp only [fy,Option.map_eq_some_iff] at h;obtain ⟨⟨F1,s1⟩,h1,h⟩:=h;injection h with h0 h; injection h with h2 h3
   subst h0 h2 h3;exact ⟨fun Q hQ=>JS hX (Hc m (by omega)) h1 hpl r R hf hQ,fun b hb=>by cases hb⟩
  | seq x y =>
   simp only [fy,Option.bind_eq_some_iff] at h;obtain ⟨⟨e1,F1,s1⟩,h1,h⟩:=h;dsimp only at h;simp only [cj,Bool.and_eq_true] at hpl;refine ⟨fun Q hQ=>wp_seq ?_,fun b hb=>by cases hb⟩;have c1:=TX h1;cases e1 with
   | normal =>
    dsimp only at h;have c2:=TX h;refine (ih h1 hpl.1 r R (fun id a b=>hf id a (by omega))).1 _ fun a' w' ⟨E1,t1,t2,t3⟩=>?_
    exact (ih h hpl.2 t1 t2 (later c1 c2 hf t3)).1 Q fun a'' w'' t=>hQ a'' w'' (gz.trans c1 c2 t2 t3 t)
   | exit j =>
    dsimp only at h;injection h with h; injection h with h0 h; injection h with h2 h3
    subst h0 h2 h3;exact (ih h1 hpl.1 r R hf).1 _ fun a' w' t=>hQ a' w' t
   | ret =>
    dsimp only at h;injection h with h; injection h with h0 h; injection h with h2 h3
    subst h0 h2 h3;exact (ih h1 hpl.1 r R hf).1 _ fun a' w' t=>hQ a' w' t
  | cond x y z =>
   simp only [fy,Option.bind_eq_some_iff] at h;obtain ⟨v,hv,h⟩:=h;simp only [cj,Bool.and_eq_true] at hpl;split at h
   ·rename_i t
    have ev:=Lq r R.kJ x _ hv;refine ⟨fun Q hQ=>wp_cond ev.1 ?_,fun b hb=>by cases hb⟩;cases t
    ·exact (ih h hpl.2 r R hf).1 Q hQ
    ·exact (ih h hpl.1 r R hf).1 Q hQ
   ·cases h
  | block id b =>
   simp only [fy,Option.map_eq_some_iff] at h;obtain ⟨⟨e1,F1,s1⟩,h1,h⟩:=h;simp only [cj] at hpl;refine ⟨fun Q hQ=>wp_block ?_,fun b hb=>by cases hb⟩;cases e1 with
   | normal =>
    dsimp only at h;injection h with h0 h; injection h with h2 h3
    subst h0 h2 h3;exact (ih h1 hpl r R hf).1 _ fun a' w' t=>hQ a' w' t
   | ret =>
    dsimp only at h;injection h with h0 h; injection h with h2 h3
    subst h0 h2 h3;exact (ih h1 hpl r R hf).1 _ fun a' w' t=>hQ a' w' t
   | exit j =>
    dsimp only at h;cases hb:Nat.beq j id with
    | true =>
     rw [hb] at h;dsimp only at h;injection h with h0 h; injection h with h2 h3
     subst h0 h2 h3;refine (ih h1 hpl r R hf).1 _ fun a' w' t=>?_
     show (if j=id then Q .normal a' w' else Q (.exit j) a' w');rw [if_pos (Nat.eq_of_beq_eq_true hb)];exact hQ a' w' t
    | false =>
     rw [hb] at h;dsimp only at h;injection h with h0 h; injection h with h2 h3
     subst h0 h2 h3;refine (ih h1 hpl r R hf).1 _ fun a' w' t=>?_
     show (if j=id then Q .normal a' w' else Q (.exit j) a' w');rw [if_neg (Nat.ne_of_beq_eq_false hb)];exact hQ a' w' t
  | scope b =>
   simp only [fy] at h;simp only [cj] at hpl;refine ⟨fun Q hQ=>wp_scope_straight ((ih h hpl r R hf).1 _ fun a' w' t=>?_),fun b hb=>by cases hb⟩;cases ex <;> exact hQ a' w' t
  | loop b =>
   simp only [fy,Option.bind_eq_some_iff] at h;obtain ⟨⟨e1,F1,s1⟩,h1,h⟩:=h;dsimp only at h;have OG:cj X pl b=true:=by simpa [cj] using hpl
   have c1:=TX h1;have rd:∀ Q:Exit->Act->World->Prop,(∀ a' w',gz X O E s w F' s' a' w'->Q ex.of a' w')->Code.rounds X.P b Q (m + 1) a w:=fun Q hQ=>by
    rw [rounds_succ];cases e1 with
    | normal =>
     dsimp only at h;have c2:=TX h;refine (ih h1 OG r R (fun id a b=>hf id a (by omega))).1 _ fun a' w' ⟨E1,t1,t2,t3⟩=>?_
     exact (ih h hpl t1 t2 (later c1 c2 hf t3)).2 b rfl Q fun a'' w'' t=>hQ a'' w'' (gz.trans c1 c2 t2 t3 t)
    | exit j =>
     dsimp only at h;injection h with h; injection h with h0 h; injection h with h2 h3
     subst h0 h2 h3;exact (ih h1 OG r R hf).1 _ fun a' w' t=>hQ a' w' t
    | ret =>
     dsimp only at h;injection h with h; injection h with h0 h; injection h with h2 h3
     subst h0 h2 h3;exact (ih h1 OG r R hf).1 _ fun a' w' t=>hQ a' w' t
   exact ⟨fun Q hQ=>wp_loop_rounds (m + 1) (rd Q hQ),fun b' hb Q hQ=>by injection hb with hb; rw [<- hb]; exact rd Q hQ⟩
  | rangeFunc f p x y=>simp [fy] at h
  | goto l=>simp [fy] at h
  | refuse y=>simp [fy] at h
theorem uf:∀ (l:List AV) (i:Nat) (T:Tr AV) (t:Nat),(EW l i T).get t=if i<=t/\t < i + l.length then l[t - i]? else T.get t
 | [],i,T,t=>by rw [if_neg (by simp only [List.length_nil]; omega)]; rfl
 | v :: l,i,T,t=>by
  rw [EW,uf l (i + 1) _ t]
  by_cases h1:i + 1<=t/\t < i + 1 + l.length
  ·rw [if_pos h1,if_pos (by simp; omega),show t - i=(t - (i + 1)) + 1 by omega,List.getElem?_cons_succ]
  ·rw [if_neg h1,Tr.dI]
   by_cases h2:t=i
   ·subst h2
    rw [if_pos rfl,if_pos (by simp),Nat.sub_self];rfl
   ·rw [if_neg h2,if_neg (by simp; omega)]
theorem td {X:Cx σ} (hX:kg X) {E:Env} {F:Fr} {a:Act} {w:World} {S:Tr Ob} (r:RF E F a) (hS:∀ id ob,S.get id=some ob->E.D id/\RO E id w ob) (g:ResultVar->Sem Value) (hg1:∀ t,g (.tmp t)=pure (a.tmps.getD t undef)) (hg2:∀ b t,g (.cell b t)=do loadVar t (<- asAddr (a.tmps.getD b undef))):∀ {l:List ResultVar} {vs:List AV},kP X F S l=some vs->∃ ys,aQ (RV E) vs ys /\
  aQ (fun (x:ResultVar) y=>(g x).run X.P w=.ok y w) l ys
 | [],vs,h=>by simp only [kP] at h; injection h with h; subst h; exact ⟨[],trivial,trivial⟩
 | .tmp t :: l,vs,h=>by
  simp only [kP,Option.bind_eq_some_iff,Option.map_eq_some_iff] at h;obtain ⟨v,hv,vs',h1,rfl⟩:=h;obtain ⟨ys,g1,g2⟩:=td hX r hS g hg1 hg2 h1;obtain ⟨y,k1,k2⟩:=r.2.2 t v hv;exact ⟨y :: ys,⟨k2,g1⟩,⟨by dsimp only; rw [hg1]; simp [Array.getD_eq_getD_getElem?,k1],g2⟩⟩
 | .cell b t :: l,vs,h=>by
  simp only [kP,Option.bind_eq_some_iff] at h;obtain ⟨d,hd,i,hi,v,hv,h⟩:=h;split at h
  ·rename_i id off
   rw [Option.bind_eq_some_iff] at h;obtain ⟨row,hrow,h⟩:=h;rw [Option.bind_eq_some_iff] at h;obtain ⟨u,hu,h⟩:=h;rw [Option.map_eq_some_iff] at h;obtain ⟨vs',h1,rfl⟩:=h;obtain ⟨ys,g1,g2⟩:=td hX r hS g hg1 hg2 h1;obtain ⟨y,k1,_,k2⟩:=r.2.2 b _ hv;obtain ⟨nO,hrow⟩:=fH hrow;obtain ⟨z,z1,z2⟩:=qM hX (hS _ _ hrow).2 hd hi hu;refine ⟨z :: ys,⟨z2,g1⟩,⟨?_,g2⟩⟩;rw [k2] at k1;rw [hg2];simp [Array.getD_eq_getD_getElem?,k1,asAddr,z1]
  ·cases h
theorem L_ {E:Env}:∀ {l:List AV} {vs:List V1} {ys:List Value},Po l=some vs->aQ (RV E) l ys->aQ (R1 E) vs ys
 | [],vs,ys,h,hr=>by simp only [Po] at h; injection h with h; subst h; rw [hr.gS]; trivial
 | .w x :: l,vs,[],h,hr=>hr.elim
 | .w x :: l,vs,y :: ys,h,⟨a,b⟩=>by
  simp only [Po,Option.map_eq_some_iff] at h;obtain ⟨vs',h1,rfl⟩:=h;exact ⟨a,L_ h1 b⟩
 | .nN x :: l,vs,ys,h,hr=>by simp [Po] at h
theorem Ae {X:Cx σ} (hX:kg X) {E:Env} {F:Fr} {a:Act} {w:World} {S:Tr Ob} (r:RF E F a) (hS:∀ id ob,S.get id=some ob->E.D id/\RO E id w ob) {fn:Func} {v:AV} (h:(kP X F S fn.results.toList).bind zu=some v):∃ y,(results fn a.tmps).run X.P w=.ok y w/\RV E v y:=by
 rw [Option.bind_eq_some_iff] at h;obtain ⟨vs,h1,h2⟩:=h;obtain ⟨g,hg⟩:∃ g:ResultVar->Sem Value,(∀ t,g (.tmp t)=pure (a.tmps.getD t undef))/\(∀ b t,g (.cell b t)=do loadVar t (<- asAddr (a.tmps.getD b undef)))/\results fn a.tmps=(do
   let vs <- fn.results.mapM g
   pure (if h:vs.size=1 then vs[0] else .tuple vs)):=⟨_,fun _=>rfl,fun _ _=>rfl,rfl⟩
 obtain ⟨hg1,hg2,hg3⟩:=hg;obtain ⟨ys,g1,g2⟩:=td hX r hS g hg1 hg2 h1;rw [hg3,Sem.run_bind,uW (P:=X.P) (w:=w) _ g2,Result.andThen_ok];unfold zu at h2;split at h2
 ·injection h2 with h2
  subst h2
  match ys,g1 with
  | [y],g1=>exact ⟨y,rfl,g1.1⟩
 ·rename_i hne
  rw [Option.map_eq_some_iff] at h2;obtain ⟨v1,h3,rfl⟩:=h2;have hl:=g1.length;have hsz:¬ ys.toArray.size=1:=fun hh=>by
   rw [List.size_toArray] at hh
   match vs,hl,hne with
   | [x],_,hne=>exact hne x rfl
   | [],hl,_=>simp at hl; omega
   | _ :: _ :: _,hl,_=>simp at hl; omega
  rw [dif_neg hsz];exact ⟨_,rfl,ys.toArray,rfl,L_ h3 g1⟩
theorem Hs {X:Cx σ} (hX:kg X) (hP:ni X) {O:Outside σ} (hO:eh X O X.gg):∀ n,eh X O (l6 X (fy X n)):=by
 intro n
 induction n using Nat.strongRecOn with
 | _ n IH =>
  intro f args s v s' h hn;unfold l6 at h;split at h
  ·rename_i r hr
   injection h with h
   subst h;exact hO f args s v s' hr hn
  ·simp only [Option.bind_eq_some_iff,aE] at h
   obtain ⟨fi,hfi,hlen,⟨ex,F',s1⟩,h1,h⟩:=h;have hlen:=Nat.le_of_ble_eq_true hlen;have hc:=LP (X:=X) (n:=n) (fun k hk=>(IH k hk).c) n lq h1;have hex:∃ u,((kP X F' s1.S fi.res).bind zu)=some u/\v=u/\s'=s1/\(ex.of=.normal\/ex.of=.ret):=by
    cases ex with
    | exit j=>cases h
    | normal =>
     dsimp only at h;rw [Option.map_eq_some_iff] at h;obtain ⟨u,hu,h⟩:=h;injection h with h2 h3
     exact ⟨u,hu,h2.symm,h3.symm,.inl rfl⟩
    | ret =>
     dsimp only at h;rw [Option.map_eq_some_iff] at h;obtain ⟨u,hu,h⟩:=h;injection h with h2 h3
     exact ⟨u,hu,h2.symm,h3.symm,.inr rfl⟩
   obtain ⟨u,hu,rfl,rfl,hor⟩:=hex;refine ⟨hc,fun E w vals R hf hargs=>?_⟩;obtain ⟨fn,f1,f2,f3,f4,_⟩:=hX.fn _ _ hfi;have hal:=hargs.length;refine calls_of_wp f1 f2 ?_;have r:RF E ⟨fi.nt,EW args 0 .e⟩ { tmps:=vals.toArray ++ Array.replicate (fn.ntmps - vals.toArray.size) undef,defers:=[] }:=by
    refine ⟨rfl,by simp; omega,fun t av ht=>?_⟩;dsimp only at ht;rw [uf] at ht
    by_cases ht':0<=t/\t < 0 + args.length
    ·rw [if_pos ht',Nat.sub_zero] at ht
     obtain ⟨y,k1,k2⟩:=hargs.get ht;refine ⟨y,?_,k2⟩;rw [Array.getElem?_append_left (by simp; omega)];simpa using k1
    ·rw [if_neg ht'] at ht
     cases ht
   refine (Qi hX IH n lq h1 (hP _ _ hfi) r R hf).1 _ fun a' w' ⟨E',t1,t2,t3⟩=>?_
   have hres:=Ae hX t1 t2.ob (fn:=fn) (v:=v) (by rw [f4]; exact hu);obtain ⟨y,y1,y2⟩:=hres;have post:a'.defers=[]/\∃ v,(results fn a'.tmps).run X.P w'=.ok v w'/\(∃ y,Ending.returned v=.returned y/\cC X O E s w (some _) s' y w'):=⟨t1.1,y,y1,y,rfl,E',fun av e=>by injection e with e; rw [<- e]; exact y2,t2,t3⟩;rcases hor with hor | hor <;> rw [hor] <;> exact post
end Ev
namespace Ev
open Go
noncomputable section
def MU (P:Program) (t:TypeId):Option TI:=(P.info? t).bind fun i=>i.zero.bind fun z=>gd (Nat.beq z.cells.size i.size) (some ⟨i.size,i.bytes,z⟩)
def findF:List (Nat×List (Nat×List Nat×List Nat))->Nat->Option (List (Nat×List Nat×List Nat))
 | [],_=>none
 | p :: l,i=>match Nat.beq p.1 i with
  | true=>some p.2
  | false=>findF l i
def UG (P : Program) (pl : List (Nat × List (Nat × List Nat × List Nat))) (f : FuncId) : Option FI := (findF pl f).bind fun q => (P.funcs[f]?).bind fun F => gd (!(F.name == "runtime.NumGoroutine")) (F.body.map fun b => ⟨b, F.ntmps, F.results.toList, q⟩)
def LG {σ:Type} (P:Program) (pl:List (Nat×List (Nat×List Nat×List Nat))) (gg:FuncId->List AV->St σ->Option (AV×St σ)):Cx σ:={ P,und:=P.underlying,inf:=MU P,fn:=UG P pl,ng:=P.globals.size,gg }
theorem Nc {σ:Type} (P:Program) (pl:List (Nat×List (Nat×List Nat×List Nat))) (hm:P.follows .mixedOrders=true) (gg:FuncId->List AV->St σ->Option (AV×St σ)):kg (LG P pl gg) where
 und:=fun _ _ h=>h
 inf:=fun t i h=>by
  simp only [LG,MU,Option.bind_eq_some_iff,aE] at h;obtain ⟨ti,h1,z,h2,_,h3⟩:=h;injection h3 with h3
  subst h3;exact ⟨ti,h1,rfl,rfl,h2⟩
 R_:=fun t i h=>by
  simp only [LG,MU,Option.bind_eq_some_iff,aE] at h;obtain ⟨ti,h1,z,h2,h4,h3⟩:=h;injection h3 with h3
  subst h3;exact Nat.eq_of_beq_eq_true h4
 fn:=fun f i h=>by
  simp only [LG,UG,Option.bind_eq_some_iff,aE,Option.map_eq_some_iff] at h;obtain ⟨q,_,F,h1,h2,b,h3,h4⟩:=h;subst h4;exact ⟨F,h1,h3,rfl,rfl,by simpa using h2⟩
 mixed:=hm
theorem qB:∀ {l:List (Nat×List (Nat×List Nat×List Nat))} {f:Nat} {pl:List (Nat×List Nat×List Nat)},findF l f=some pl->∃ p∈l,p.1=f
 | [],_,_,h=>by cases h
 | p :: l,f,pl,h=>by
  simp only [findF] at h;split at h
  ·rename_i hb; exact ⟨p,by simp,Nat.eq_of_beq_eq_true hb⟩
  ·obtain ⟨q,h1,h2⟩:=qB h
   exact ⟨q,List.mem_cons_of_mem _ h1,h2⟩
def rJ {σ:Type} (X:Cx σ) (l:List (Nat×List (Nat×List Nat×List Nat))):Bool:=l.all fun p=>match X.fn p.1 with
 | some fi=>cj X fi.pl fi.body
 | none=>true
theorem Be {σ:Type} {P:Program} {pl:List (Nat×List (Nat×List Nat×List Nat))} {gg:FuncId->List AV->St σ->Option (AV×St σ)} (h:rJ (LG P pl gg) pl=true):ni (LG P pl gg):=fun f fi hf=>by
 have hf':=hf;simp only [LG,UG,Option.bind_eq_some_iff] at hf';obtain ⟨q,hq,_⟩:=hf';obtain ⟨p,h1,h2⟩:=qB hq;simp only [rJ,List.all_eq_true] at h;have:=h p h1;rw [h2,hf] at this;exact this
end
def Qv:List (Nat×List (Nat×List Nat×List Nat)):=[
 (3,[(21,[0,0,2,6,0,16,63],[1,2,3,0,4,5,6])]),
 (4,[(3,[0,1,0,7,15,31,31,63,255],[2,0,1,3,4,5,6,7,8]),(11,[0,0,2,0,14,30,62,126,0,256,0,1792,3840,7936,16128,0,32768,0,229376,491520,1015808,2064384,4194302,8388607],[0,1,2,3,4,5,6,7,8,9,10,11,12,13,14,15,16,17,18,19,20,21,22,23]),(30,[0,0,2,0,14,30,62,0,128,0,896,1920,3968,8191,16383,32767,32767,65535,262143],[0,1,2,3,4,5,6,7,8,9,10,11,12,13,14,15,16,17,18]),(31,[0,0,2,0,14,30,62,0,128,0,896,1920,3968,8191,16383,32767,32767,65535,262143],[0,1,2,3,4,5,6,7,8,9,10,11,12,13,14,15,16,17,18]),(51,[0,1,3,7,3,31,63,3,131,3,899,1923,4095,8191,16383],[0,1,2,3,4,5,6,7,8,9,10,11,12,13,14]),(52,[0,1,3,7,7,23,7,7,135,391,967,2047,4095,8191,16383,32767,65535],[0,1,2,7,8,9,6,10,3,4,5,11,12,13,14,15,16])]),
 (5,[]),
 (6,[]),
 (8,[(3,[0,1,3,7,0,31,63],[0,1,2,3,4,5,6])]),
 (9,[]),
 (10,[]),
 (11,[]),
 (12,[]),
 (13,[]),
 (14,[]),
 (15,[]),
 (16,[]),
 (17,[]),
 (18,[]),
 (19,[]),
 (20,[(5,[0,0,0,6,14,30,0,0,192,448,960,2047,4095,8191,8191,16383,65535],[0,1,2,3,4,5,6,7,8,9,10,11,12,13,14,15,16]),(6,[0,0,0,6,14,30,0,0,192,448,960,0,4095],[0,1,2,3,4,5,6,7,8,9,10,11,12])]),
 (21,[]),
 (22,[]),
 (23,[]),
 (24,[]),
 (25,[(14,[0,0,2,0,0,16,56,120,0,0,0,1536,3840,0,8192,24576,65280,130816,262136,524287,1048575],[8,9,10,11,12,0,1,2,3,4,5,6,7,13,14,15,16,17,18,19,20])]),
 (26,[]),
 (27,[]),
 (28,[]),
 (29,[]),
 (30,[]),
 (31,[]),
 (32,[(5,[0,0,2,0,0,16,56,120,0,0,768,0,2048,6144,16128,32512,65528,131071,262143],[8,9,10,0,1,2,3,4,5,6,7,11,12,13,14,15,16,17,18])]),
 (33,[]),
 (34,[(4,[0,1,0,4,0,31,63,127],[0,1,2,3,4,5,6,7])]),
 (35,[]),
 (36,[]),
 (37,[(0,[0,1,3,7,15,0,32,96,224,480,31,2047],[0,1,2,3,4,5,6,7,8,9,10,11]),(4,[0,1,3,7,0,16,48,112,255],[0,1,2,3,4,5,6,7,8])]),
 (38,[]),
 (39,[(4,[0,1,3,7,0,16,0,64,255,511],[0,1,2,3,4,5,6,7,8,9])]),
 (40,[]),
 (41,[(17,[0,1,3,7,0,16,63,127],[4,5,0,1,2,3,6,7])]),
 (42,[]),
 (43,[])]
def RH:List (Nat×List (Nat×List Nat×List Nat)):=[
 (44,[]),
 (45,[(3,[0,1,3,7,15,0,32,96,224,511,1023,2047,4095],[0,1,2,3,4,5,6,7,8,9,10,11,12])]),
 (47,[]),
 (48,[(10,[0,1,3,7,7,23,63,127,7,511,1023,2047],[0,1,2,3,4,5,6,7,8,9,10,11]),(12,[0,0,2,6,14,0,32,96,254,511,1023,2047],[5,6,1,2,3,4,7,8,0,9,10,11]),(13,[0,0,2,6,14,0,32,96,224,510,1023,2047,4095],[5,6,7,1,2,3,4,8,9,0,10,11,12])]),
 (49,[]),
 (50,[]),
 (51,[]),
 (52,[]),
 (53,[]),
 (54,[]),
 (55,[]),
 (56,[]),
 (57,[]),
 (58,[]),
 (59,[]),
 (60,[]),
 (61,[]),
 (62,[(1,[0,1,3,7,0,16,48,112,255,511,1023,1023,2047,8191],[0,1,2,3,4,5,6,7,8,9,10,11,12,13])]),
 (63,[(1,[0,1,3,7,0,16,48,112,255],[0,1,2,3,4,5,6,7,8])]),
 (64,[]),
 (65,[]),
 (66,[(1,[0,1,3,7,15,31,15,79,207,463,1023,2047,4095,8191,16383,32767,65535,131071,262143,524287,1048575,2097151],[0,1,2,3,4,5,6,7,8,9,10,11,12,13,14,15,16,17,18,19,20,21])]),
 (67,[(2,[0,0,2,6,14,0,32,96,254,511,1023,2047],[5,6,1,2,3,4,7,8,0,9,10,11])]),
 (68,[]),
 (69,[]),
 (70,[]),
 (71,[]),
 (72,[]),
 (73,[]),
 (74,[]),
 (75,[]),
 (76,[]),
 (77,[]),
 (78,[]),
 (79,[]),
 (80,[(3,[0,1,3,7,0,0,32,127,255],[5,6,0,1,2,3,4,7,8])]),
 (81,[]),
 (82,[]),
 (83,[]),
 (84,[(7,[0,1,3,7,15,31,63,127,255,31,543,2047,4095,8191,16383,32767,65535,131071],[0,1,2,3,4,5,6,7,8,9,10,11,12,13,14,15,16,17])])]
def Qy:List (Nat×List (Nat×List Nat×List Nat)):=[
 (85,[(5,[0,1,3,7,0,31,63,0,255],[0,1,2,3,4,5,6,7,8])]),
 (86,[]),
 (87,[]),
 (88,[]),
 (89,[]),
 (90,[]),
 (91,[]),
 (92,[]),
 (93,[]),
 (94,[]),
 (95,[]),
 (96,[]),
 (97,[]),
 (98,[]),
 (99,[]),
 (100,[]),
 (101,[]),
 (102,[]),
 (103,[]),
 (104,[]),
 (105,[]),
 (106,[(1,[0,1,0,4,12,28,60,127,255,511,1023,511,2559,6655,14847,31231,65535,131071,262143],[0,1,2,3,4,5,6,7,8,9,10,11,12,13,14,15,16,17,18]),(11,[0,0,2,7,15,31,63,31,159,415,927,2047,4095,8191],[0,1,2,3,4,5,6,7,8,9,10,11,12,13]),(13,[0,0,2,7,15,31,63,127,255,511,1023,2047,1023,5119,13311,29695,65535,131071,262143],[0,1,2,3,4,5,6,7,8,9,10,11,12,13,14,15,16,17,18])]),
 (107,[(2,[0,0,2,6,14,30,0,64,192,448,960,0,4094,8190,16383,32767],[0,1,2,3,4,5,6,7,8,9,10,11,12,13,14,15])]),
 (108,[(17,[0,1,3,7,0,16,63,127,255,511],[0,1,2,3,4,5,6,7,8,9])]),
 (109,[]),
 (110,[]),
 (111,[]),
 (112,[]),
 (113,[]),
 (114,[(4,[0,0,2,6,14,31,63,127,127,255,1023],[0,1,2,3,4,5,6,7,8,9,10])]),
 (115,[(0,[0,1,3,7,15,0,32,96,224,511,1023,2047,2047,4095,16383],[0,1,2,3,4,5,6,7,8,9,10,11,12,13,14])]),
 (116,[(1,[0,1,3,7,0,16,0,64,0,256,1023,2047],[0,1,2,3,4,5,6,7,8,9,10,11])]),
 (117,[(19,[0,0,2,7],[0,1,2,3]),(24,[0,0,2,7],[0,1,2,3]),(43,[0,0,2,7],[0,1,2,3])]),
 (118,[(7,[0,1,3,7,15,0,63,127],[0,1,2,3,4,5,6,7])]),
 (119,[]),
 (120,[]),
 (121,[]),
 (122,[]),
 (123,[]),
 (124,[])]
def Rr:List (Nat×List (Nat×List Nat×List Nat)):=[
 (125,[]),
 (126,[]),
 (127,[]),
 (128,[]),
 (129,[]),
 (130,[]),
 (131,[]),
 (132,[]),
 (133,[(14,[0,0,2,6,14,30,0,64,254,511,1023,2047,4095],[1,2,3,4,5,6,7,8,0,9,10,11,12])]),
 (134,[(3,[0,1,3,7,15,0,32,96,224,480,1023,2047,4095,0,16383],[0,1,2,3,4,5,6,7,8,9,10,11,12,13,14])]),
 (135,[(6,[0,1,3,7,15,31,63,127,255,255,767,1791,4095,8191,255,32767,65535,131071],[0,1,2,3,4,5,6,7,8,9,10,11,12,13,14,15,16,17])]),
 (136,[]),
 (137,[]),
 (138,[(3,[0,1,3,7,0,0,32,96,224,0,992,2016,4064,8160,16383,32767],[5,6,7,8,9,10,11,12,13,0,1,2,3,4,14,15])]),
 (139,[]),
 (140,[(10,[0,0,2,6,14,0,32,96,224,510,1022,2046,2046,4095,12287,28671,61439],[1,2,3,4,5,6,7,8,9,0,10,11,13,14,15,16,12])]),
 (141,[]),
 (142,[]),
 (143,[(3,[0,1,3,7,15,0,63],[0,1,2,3,4,5,6])]),
 (144,[]),
 (145,[]),
 (146,[]),
 (147,[(7,[0,0,2,6,14,0,32,126,255,511,1023],[1,2,3,4,5,6,7,0,8,9,10])]),
 (148,[]),
 (149,[]),
 (150,[(1,[0,1,3,7,0,16,48,112,240,511],[0,1,2,3,4,5,6,7,8,9]),(3,[0,1,3,7,15,0,32,96,224,480,1023,2047],[0,1,2,3,4,5,6,7,8,9,10,11]),(4,[0,1,3,7,0,0,32,96,224,480,1008,0,2048,6144,14336,0,32768,98304,229376,0,1046528,2097151,0,8388607],[0,1,2,3,4,5,6,7,8,9,10,11,12,13,14,15,16,17,18,19,20,21,22,23])]),
 (151,[]),
 (152,[(1,[0,0,2,6,14,0,32,126,255,511,1023],[1,2,3,4,5,6,7,0,8,9,10])]),
 (153,[(4,[0,0,2,0,8,24,56,120,254,0,512,1536,3584,7680,16382,32766,65535,131071],[9,10,11,12,13,0,1,2,3,4,5,6,7,8,14,15,16,17])]),
 (154,[(1,[0,1,0,4,12,28,60,127],[0,1,2,3,4,5,6,7]),(2,[0,0,2,6,14,0,32,126,255,511,1023],[1,2,3,4,5,6,7,0,8,9,10])]),
 (155,[(1,[0,1,3,7,15,0,32,127,255],[0,1,2,3,4,5,6,7,8])]),
 (156,[]),
 (157,[]),
 (158,[]),
 (159,[(1,[0,1,3,7,15,0,63,127,0],[0,1,2,3,4,5,6,7,8])]),
 (160,[(1,[0,1,3,7,15,0,63,127,255,255,255,0,2559,7167,16383],[0,1,2,3,4,5,6,7,8,9,11,12,13,10,14]),(4,[0,0,2,6,14,30,0,0,192,510,1023],[6,7,8,1,2,3,4,5,9,0,10])]),
 (161,[(1,[0,1,3,7,15,0,63,127,255,255,255,511,3071,8191],[0,1,2,3,4,5,6,7,8,9,10,11,12,13])]),
 (162,[(4,[0,1,3,7,15,31,15,79,255,511,1023,2047,4095,8191],[0,1,2,3,4,5,6,7,8,9,10,11,12,13])]),
 (163,[]),
 (164,[(10,[0,0,2,6,14,31],[0,1,2,3,4,5]),(11,[0,0,1,7],[0,1,2,3])])]
def QM:List (Nat×List (Nat×List Nat×List Nat)):=[
 (165,[]),
 (166,[]),
 (167,[]),
 (168,[]),
 (169,[]),
 (170,[]),
 (171,[(8,[0,1,3,3,3,27,63,127,255],[0,1,3,4,5,2,6,7,8])]),
 (172,[]),
 (173,[]),
 (174,[]),
 (175,[]),
 (176,[]),
 (177,[]),
 (178,[]),
 (179,[]),
 (180,[]),
 (181,[]),
 (182,[]),
 (183,[]),
 (184,[]),
 (185,[]),
 (186,[]),
 (187,[(5,[0,1,3,7,15,31,63,127,255,511,127,127,3199,7295,15487,31871,65535,131071,262143],[0,1,2,3,4,5,6,7,8,9,10,11,12,13,14,15,16,17,18])]),
 (188,[(12,[0,1,0,0,12,3,63,127],[0,1,5,2,3,4,6,7])]),
 (189,[(1,[0,1,0,7,15,31],[0,1,2,3,4,5])]),
 (190,[]),
 (191,[(0,[0,1,3,7,15,0,32,96,224,480,1023],[5,6,7,8,9,0,1,2,3,4,10])]),
 (192,[(0,[0,1,3,7,15,0,32,96,224,480,1023],[5,6,7,8,9,0,1,2,3,4,10])]),
 (193,[]),
 (194,[(3,[0,0,0,4,12,28,0,124,252,508,508,1,2049,6145,15359,31743],[2,3,4,5,6,7,0,1,8,9,11,12,13,14,15,10])]),
 (195,[(3,[0,0,0,4,12,28,0,124,252,508,508,1,2049,6145,15359,31743],[2,3,4,5,6,7,0,1,8,9,11,12,13,14,15,10])]),
 (196,[]),
 (197,[]),
 (198,[(6,[0,1,3,7,15,0,32,96,224,511],[0,1,2,3,4,5,6,7,8,9]),(12,[0,0,2,6,14,0,0,126,0,256,768,2046,0,8190,16383,32767,65535],[8,9,1,2,3,4,5,6,7,10,11,12,13,0,14,15,16])]),
 (199,[]),
 (200,[]),
 (201,[]),
 (202,[(3,[0,1,3,7,0,0,32,96,240,511,1023,2047],[4,5,6,7,8,0,1,2,3,9,10,11])]),
 (203,[(4,[0,0,2,6,0,16,48,112,0,256,768,0,2048,6144,0,16390,49158,0,180230,442374,1048575,0,4194303],[1,2,14,15,17,18,0,3,4,5,6,7,8,9,10,11,12,13,16,19,20,21,22]),(20,[0,1,3,7,0,16,48,112,15,271,1023,2047],[0,1,2,3,8,9,4,5,6,7,10,11])]),
 (204,[])]
def Rh:List (Nat×List (Nat×List Nat×List Nat)):=[
 (205,[]),
 (206,[]),
 (207,[]),
 (208,[]),
 (209,[]),
 (210,[]),
 (211,[(1,[0,1,3,7,0,16,48,112,255],[0,1,2,3,4,5,6,7,8]),(6,[0,1,3,7,0,16,0,64,0,256,1023],[0,1,2,3,4,5,6,7,8,9,10])]),
 (212,[]),
 (213,[(7,[0,1,3,7,0,31],[0,1,2,3,4,5]),(10,[0,0,0,0,0,16,48,112,241,497,1009,2043,4091,8187,16383,32767,65535],[0,4,5,6,7,8,9,10,1,3,11,12,13,2,14,15,16])]),
 (214,[(1,[0,1,3,7,15,7,39,103,231,511,1023,2047,4095,8191,16383,32767,65535,131071,262143,524287,1048575,2097151,4194303,8388607,16777215,33554431,67108863,134217727],[0,1,2,3,4,5,6,7,8,9,10,11,12,13,14,15,16,17,18,19,20,21,22,23,24,25,26,27]),(8,[0,0,2,7,0,16,0,64,15,319,1023],[0,1,2,3,4,5,8,9,6,7,10])]),
 (215,[]),
 (216,[(1,[0,1,3,7,0,31,63],[0,1,2,3,4,5,6]),(7,[0,1,3,7,0,16,48,112,0,511,1023],[0,1,2,3,4,5,6,7,8,9,10]),(10,[0,1,3,7,0,16,0,64,0,256,1023,2047],[0,1,2,3,4,5,6,7,8,9,10,11])]),
 (217,[(1,[0,1,3,7,15,31,63,127,255,511,1023,2047,1023,5119,13311,29695,65535,131071,262143,524287,1048575,2097151],[0,1,2,3,4,5,6,7,8,9,10,11,12,13,14,15,16,17,18,19,20,21])]),
 (218,[(8,[0,1,3,7,0,16,48,112,240,511],[0,1,2,3,4,5,6,7,8,9])]),
 (219,[(3,[0,1,3,7,0,16,0,64,0,256,1023],[0,1,2,3,4,5,6,7,8,9,10])]),
 (220,[]),
 (221,[]),
 (222,[(1,[0,1,3,7,15,31,15,79,207,463,1023,2047,4095,8191,16383,32767,65535,131071,262143,524287,1048575,2097151,4194303,8388607],[0,1,2,3,4,5,6,7,8,9,10,11,12,13,14,15,16,17,18,19,20,21,22,23]),(3,[0,1,3,7,0,16,48,112,0,256,1023,2047,4095,4095,8191,32767],[0,1,2,3,4,5,6,7,8,9,10,11,12,13,14,15])]),
 (223,[]),
 (224,[]),
 (225,[]),
 (226,[]),
 (227,[]),
 (228,[]),
 (229,[]),
 (230,[]),
 (231,[(1,[0,0,0,0,8,24,56,120,0,256,768,1792,3840,8185,16377,32761,65531,131067,262139,524287,1048575,2097151],[0,3,4,5,6,7,8,9,10,11,12,13,14,15,1,16,17,18,2,19,20,21]),(4,[0,1,3,7,0,16,48,112,240,511,1023,2047,2047,4095,16383],[0,1,2,3,4,5,6,7,8,9,10,11,12,13,14])]),
 (232,[(6,[0,0,2,6,14,0,0,126,0,256,768,1792,0,4096,16128,32766,65535,131071,262143],[1,2,3,4,5,6,7,8,9,10,11,12,13,14,15,0,16,17,18])]),
 (233,[]),
 (234,[]),
 (235,[(3,[0,1,0,4,3,19,63,127],[0,1,4,5,2,3,6,7]),(8,[0,1,0,4,3,19,63,127],[0,1,4,5,2,3,6,7]),(12,[0,1,0,4,0,16,3,67,207,463,1023,2047],[0,1,6,7,2,3,8,9,4,5,10,11]),(16,[0,1,0,4,3,19,63,127],[0,1,4,5,2,3,6,7]),(20,[0,1,0,4,3,19,63,127],[0,1,4,5,2,3,6,7]),(22,[0,1,0,4,3,19,63,127],[0,1,4,5,2,3,6,7]),(24,[0,1,0,4,3,19,63,127],[0,1,4,5,2,3,6,7]),(26,[0,1,0,4,0,16,3,67,207,463,1023,2047],[0,1,6,7,2,3,8,9,4,5,10,11])]),
 (236,[]),
 (237,[]),
 (238,[]),
 (239,[]),
 (240,[]),
 (241,[]),
 (242,[]),
 (243,[]),
 (244,[])]
def Q7:List (Nat×List (Nat×List Nat×List Nat)):=[
 (245,[]),
 (246,[]),
 (247,[]),
 (248,[]),
 (249,[]),
 (250,[]),
 (251,[]),
 (252,[]),
 (253,[]),
 (254,[]),
 (255,[]),
 (256,[]),
 (257,[]),
 (258,[]),
 (259,[(5,[0,0,2,6,14,0,62,126,254,0,512,1536,3584,0,15872,32256,65024,0,131072,393216,917504,0,4063232,8257536,16646144,33554430,67108862,134217727,268435455],[17,18,19,20,21,22,23,24,0,1,2,3,4,5,6,7,8,9,10,11,12,13,14,15,16,25,26,27,28])]),
 (260,[]),
 (261,[]),
 (262,[(4,[0,1,0,4,12,28,60,3,255,511],[0,1,2,3,4,5,6,7,8,9])]),
 (263,[]),
 (264,[(1,[0,1,3,7,15,0,32,96,224,480,31,2047],[0,1,2,3,4,5,6,7,8,9,10,11]),(2,[0,1,3,7,15,0,32,96,224,480,31,2047],[0,1,2,3,4,5,6,7,8,9,10,11]),(4,[0,1,3,7,15,0,32,96,224,480,31,2047],[0,1,2,3,4,5,6,7,8,9,10,11]),(5,[0,1,3,7,15,0,32,96,224,480,31,2047],[0,1,2,3,4,5,6,7,8,9,10,11])]),
 (265,[]),
 (266,[]),
 (267,[(4,[0,0,2,0,15,0,63],[1,2,0,3,4,5,6])]),
 (268,[(5,[0,1,0,7],[0,1,2,3]),(7,[0,1,0,7],[0,1,2,3])]),
 (269,[]),
 (270,[]),
 (271,[]),
 (272,[]),
 (273,[(18,[0,1,0,0,12,28,60,127,255],[0,1,2,3,4,5,6,7,8]),(20,[0,0,2,6,0,16,48,0,0,384,896,1920,4094,8190,16383,32767],[0,1,2,3,4,5,6,7,8,9,10,11,12,13,14,15])]),
 (274,[]),
 (275,[]),
 (276,[]),
 (277,[]),
 (278,[(4,[0,1,3,7,0,16,48,112,0,511,1023],[0,1,2,3,4,5,6,7,8,9,10])]),
 (279,[(4,[0,1,3,7,0,16,48,112,0,511,1023,2047],[0,1,2,3,4,5,6,7,8,9,10,11])]),
 (280,[]),
 (281,[]),
 (282,[]),
 (283,[]),
 (284,[])]
def Qj:List (Nat×List (Nat×List Nat×List Nat)):=[
 (285,[]),
 (286,[]),
 (287,[]),
 (288,[]),
 (289,[]),
 (290,[]),
 (291,[]),
 (292,[]),
 (293,[]),
 (294,[]),
 (295,[]),
 (296,[]),
 (297,[]),
 (298,[]),
 (299,[]),
 (300,[]),
 (301,[]),
 (302,[(7,[0,0,2,6,14,0,32,96,254,511,1023,2047],[5,6,1,2,3,4,7,8,0,9,10,11]),(8,[0,0,2,6,14,0,32,96,224,0,992,2016,4064,8160,16382,32767,65535,131071],[5,6,7,8,9,10,11,12,1,2,3,4,13,14,0,15,16,17])]),
 (303,[]),
 (304,[]),
 (305,[]),
 (306,[]),
 (307,[]),
 (308,[]),
 (309,[]),
 (310,[]),
 (312,[]),
 (313,[]),
 (315,[(4,[0,0,2,6,7,31],[1,2,0,4,3,5])]),
 (316,[]),
 (317,[]),
 (318,[]),
 (319,[]),
 (320,[]),
 (321,[(1,[0,1,3,7,0,16,0,64,255,511,1023,1023,0,6143,16383],[0,1,2,3,4,5,6,7,8,9,10,12,13,11,14]),(7,[0,0,0,4,0,16,13,77,205,511,1023,2047],[0,2,3,6,7,8,1,4,5,9,10,11])]),
 (322,[(1,[0,1,3,7,0,16,0,64,255,511,1023,1023,2047,8191],[0,1,2,3,4,5,6,7,8,9,10,11,12,13]),(10,[0,0,0,0,8,0,32,1,129,385,923,1947,3995,8191,16383,32767],[0,7,8,9,1,3,4,10,11,12,2,5,6,13,14,15])]),
 (323,[(13,[0,1,0,4,12,28,63,127],[0,1,2,3,4,5,6,7]),(4,[0,0,2,6,14,0,32,96,224,480,0,1024,3072,7168,15360,32766,0,65536,262142,524287,1048575,2097151],[1,2,3,4,5,6,7,8,9,10,11,12,13,14,15,16,17,18,0,19,20,21]),(12,[0,0,2,6,14,0,63,127],[0,1,2,3,4,5,6,7])]),
 (324,[(1,[0,1,0,4,12,28,63],[0,1,2,3,4,5,6]),(5,[0,1,0,4,12,28,0,124,252,511,0,2047],[0,1,2,3,4,5,6,7,8,9,10,11])]),
 (325,[]),
 (326,[(1,[0,1,3,7,0,16,0,64,255,511,1023,1023,0,6143,16383],[0,1,2,3,4,5,6,7,8,9,10,12,13,11,14]),(8,[0,0,0,0,8,0,32,1,129,385,923,1947,3995,8191,16383,32767],[0,7,8,9,1,3,4,10,11,12,2,5,6,13,14,15]),(10,[0,0,0,4,1,17,49,127,255,511],[0,4,5,6,1,2,3,7,8,9])])]
def Rx:List (Nat×List (Nat×List Nat×List Nat)):=[
 (327,[(3,[0,1,3,7,0,16,0,64,255,511,1023,1023,2047,8191],[0,1,2,3,4,5,6,7,8,9,10,11,12,13]),(6,[0,0,0,0,8,0,32,1,129,385,923,1947,3995,8191,16383,32767],[0,7,8,9,1,3,4,10,11,12,2,5,6,13,14,15]),(7,[0,0,0,0,8,5,37,101,255,511,1023],[0,2,5,6,7,1,3,4,8,9,10])]),
 (328,[(3,[0,1,0,4,12,28,60,127],[0,1,2,3,4,5,6,7]),(4,[0,0,2,6,14,0,32,96,224,480,0,1024,3072,7168,15360,32766,0,65536,262142,524287,1048575,2097151],[1,2,3,4,5,6,7,8,9,10,11,12,13,14,15,16,17,18,0,19,20,21]),(8,[0,1,3,7,15,0,32,96,224,480,992,2047],[0,1,2,3,4,5,6,7,8,9,10,11])]),
 (329,[(1,[0,1,3,7,0,16,48,112,240,0,512,2032,4080,8191,16383],[0,1,2,3,4,5,6,7,8,9,10,11,12,13,14]),(9,[0,1,3,7,0,16,48,112,0,256,1023,2047,4095],[0,1,2,3,4,5,6,7,8,9,10,11,12])]),
 (330,[(2,[0,0,2,6,14,30,0,64,0,256,768,1792,3840,8128,16382,32767,65535,131071,262143],[6,7,0,1,2,3,4,5,8,9,10,11,12,13,14,15,16,17,18]),(9,[0,0,2,6,14,0,32,0,128,384,896,1920,4064,8190,16383],[0,1,2,3,4,5,6,7,8,9,10,11,12,13,14])]),
 (331,[(1,[0,1,0,4,12,28,60,127,255],[0,1,2,3,4,5,6,7,8]),(5,[0,1,3,7,15,0,32,127,255,511,1023,2047],[0,1,2,3,4,5,6,7,8,9,10,11]),(7,[0,1,3,7,15,0,32,127],[5,6,0,1,2,3,4,7]),(10,[0,1,3,0,8,24,56,120,255,511,0,2047],[0,1,2,3,4,5,6,7,8,9,10,11])]),
 (332,[]),
 (333,[]),
 (334,[]),
 (335,[]),
 (336,[]),
 (337,[]),
 (338,[]),
 (339,[]),
 (340,[]),
 (341,[(2,[0,0,0,5,13,29,63,127,255],[0,2,3,4,5,1,6,7,8]),(3,[0,0,2,6,14,30,62,126,254,511,1023,2047],[1,2,3,4,5,6,7,0,8,9,10,11])]),
 (342,[]),
 (343,[]),
 (344,[]),
 (345,[]),
 (346,[(2,[0,0,2,7,15,31,31,127,255,31,1023,2047],[0,1,2,3,4,5,6,7,8,9,10,11]),(4,[0,0,2,7,15,31,31,31,223,479,1023,2047,4095],[0,1,2,3,4,5,6,7,8,9,10,11,12]),(8,[0,0,2,7,0,0,48,127],[0,1,2,3,4,5,6,7])]),
 (347,[]),
 (356,[]),
 (357,[]),
 (358,[]),
 (359,[]),
 (360,[(1,[0,0,0,1,9,25,63,127,255],[0,3,4,5,1,2,6,7,8]),(2,[0,1,3,7,0,16,48,112,0,256,1023,2047,4095],[0,1,2,3,4,5,6,7,8,9,10,11,12])]),
 (361,[]),
 (362,[]),
 (363,[]),
 (364,[]),
 (365,[]),
 (366,[(1,[0,1,3,7,15,31,63,127,255,511,1023,2047,4095,2047,16383,32767],[0,1,2,3,4,5,6,7,8,9,10,11,12,13,14,15])]),
 (367,[]),
 (368,[]),
 (369,[]),
 (372,[(6,[0,1,3,7,7,23,63,127,7,511,1023,2047],[0,1,2,3,4,5,6,7,8,9,10,11])]),
 (373,[]),
 (374,[(20,[0,0,2,6,14,0,32,0,128,480,0,2046,4095,8191],[1,2,3,4,5,6,7,8,9,10,11,0,12,13]),(26,[0,1,3,7,15,0,0,0,0,0,319,1343,3967,8063,16255,32639,65535,131071,262143,524287],[0,1,2,3,4,5,8,10,11,6,9,12,13,14,15,7,16,17,18,19])]),
 (375,[]),
 (378,[])]
def Ru:List (Nat×List (Nat×List Nat×List Nat)):=[
 (385,[]),
 (386,[]),
 (387,[]),
 (388,[]),
 (389,[]),
 (390,[(1,[0,1,3,7,15,31,63,127,255,511,1023,63,2111,6207,14399,30783,65535,131071,63,524287,1048575],[0,1,2,3,4,5,6,7,8,9,10,11,12,13,14,15,16,17,18,19,20]),(8,[0,0,2,6,14,30,62,126,254,31,1023,2047],[0,1,2,3,4,5,6,7,8,9,10,11])]),
 (391,[(7,[0,1,3,7,0,31,63,0,128,384,896,2047,4095],[0,1,2,3,4,5,6,7,8,9,10,11,12])]),
 (392,[]),
 (393,[]),
 (396,[]),
 (397,[]),
 (398,[]),
 (399,[]),
 (400,[]),
 (401,[]),
 (402,[]),
 (403,[]),
 (404,[]),
 (405,[]),
 (406,[]),
 (407,[]),
 (408,[(1,[0,1,3,7,15,0,63,127,0,256,1023,2047,4095],[0,1,2,3,4,5,6,7,8,9,10,11,12])]),
 (409,[(1,[0,1,3,7,15,0,63,127,0,256,0,1024,3072,7168,15360,31744,64512,130816,262143,524287,1048575],[0,1,2,3,4,5,6,7,8,9,10,11,12,13,14,15,16,17,18,19,20])]),
 (410,[(3,[0,1,3,7,0,16,48,112,0,496,1008,2047,4095],[0,1,2,3,4,5,6,7,8,9,10,11,12])]),
 (411,[]),
 (412,[]),
 (434,[(2,[0,1,3,7,15,31,3,67,195,451,1023,2047,4095],[0,1,2,3,4,5,6,7,8,9,10,11,12])]),
 (436,[])]
def Ze:List (Nat×List (Nat×List Nat×List Nat)):=(Qv ++ (RH ++ (Qy ++ (Rr ++ (QM ++ (Rh ++ (Q7 ++ (Qj ++ (Rx ++ (Ru))))))))))
noncomputable def XP {σ:Type} (gg:FuncId->List AV->St σ->Option (AV×St σ)):Cx σ:=LG Tryz.prog Ze gg
theorem Qe {σ:Type} (gg:FuncId->List AV->St σ->Option (AV×St σ)):kg (XP gg):=Nc _ _ (by kernel_rfl) gg
noncomputable section
structure cW where
 f:FuncId
 args:List AV
 c:Nat
 pre:List (Nat×Ob)
 v:AV
 d:Nat
 post:List (Nat×Ob)
 g:Nat:=0
 g':Nat:=0
def mJ:List (Nat×Ob)->Nat->Option Ob
 | [],_=>none
 | p :: l,i=>match Nat.beq p.1 i with
  | true=>some p.2
  | false=>mJ l i
def kr:List (Nat×Ob)->Tr Ob->Tr Ob
 | [],t=>t
 | p :: l,t=>(kr l t).set p.1 (some p.2)
def t_:List (Nat×Ob)->Tr Ob->Tr Ob
 | [],t=>t
 | p :: l,t=>(t_ l t).set p.1 none
def Ga:MapEntry->MapEntry->Bool
 | ⟨k,v,b⟩,⟨k',v',b'⟩=>oP k k' && oP v v' && Nat.beq b b'
def rP:Option Ob->Ob->Bool
 | some (.row a t),.row b u=>iU lP a b && Nat.beq t u
 | some (.map a c),.map b d=>iU Ga a b && Nat.beq c d
 | _,_=>false
def oX (S:Tr Ob):List (Nat×Ob)->Bool
 | []=>true
 | p :: l=>rP (S.get p.1) p.2 && oX S l
def aX (base:FuncId->List AV->St Nat->Option (AV×St Nat)):List cW->FuncId->List AV->St Nat->Option (AV×St Nat)
 | [],f,args,s=>base f args s
 | m :: l,f,args,s=>match Nat.beq m.f f && Nat.beq m.c s.c && Nat.beq m.g s.g && iU mi m.args args && oX s.S m.pre with
  | true=>some (m.v,⟨m.d,kr m.post (t_ m.pre s.S),m.g'⟩)
  | false=>aX base l f args s
def cA (X:Cx Nat) (n:Nat) (m:cW):Bool:=match l6 X (fy X n) m.f m.args ⟨m.c,kr m.pre .e,m.g⟩ with
 | some r=>mi r.1 m.v && Nat.beq r.2.c m.d && Nat.beq r.2.g m.g' && oX r.2.S m.post
 | none=>false
theorem zx {l:List (Nat×Ob)} {t:Tr Ob} {i:Nat}:(kr l t).get i=match mJ l i with | some o=>some o | none=>t.get i:=by
 induction l with
 | nil=>rfl
 | cons p l ih =>
  rw [kr,Tr.dI,mJ]
  by_cases h:i=p.1
  ·subst h
   rw [if_pos rfl,show Nat.beq p.1 p.1=true from Nat.beq_refl p.1]
  ·rw [if_neg h,ih,show Nat.beq p.1 i=false from by
    cases e:Nat.beq p.1 i with
    | false=>rfl
    | true=>exact absurd (Nat.eq_of_beq_eq_true e).symm h]
theorem Oc {l:List (Nat×Ob)} {t:Tr Ob} {i:Nat}:(t_ l t).get i=match mJ l i with | some _=>none | none=>t.get i:=by
 induction l with
 | nil=>rfl
 | cons p l ih =>
  rw [t_,Tr.dI,mJ]
  by_cases h:i=p.1
  ·subst h
   rw [if_pos rfl,show Nat.beq p.1 p.1=true from Nat.beq_refl p.1]
  ·rw [if_neg h,ih,show Nat.beq p.1 i=false from by
    cases e:Nat.beq p.1 i with
    | false=>rfl
    | true=>exact absurd (Nat.eq_of_beq_eq_true e).symm h]
theorem EF {a b:MapEntry} (h:Ga a b=true):a=b:=by
 cases a; cases b;simp only [Ga,Bool.and_eq_true] at h;rw [oJ h.1.1,oJ h.1.2,Nat.eq_of_beq_eq_true h.2]
theorem xe {a:Option Ob} {b:Ob} (h:rP a b=true):a=some b:=by
 unfold rP at h;split at h
 ·rw [Bool.and_eq_true] at h
  rw [dz (fun _ _=>jn) h.1,Nat.eq_of_beq_eq_true h.2]
 ·rw [Bool.and_eq_true] at h
  rw [dz (fun _ _=>EF) h.1,Nat.eq_of_beq_eq_true h.2]
 ·cases h
theorem lT {S:Tr Ob}:∀ {l:List (Nat×Ob)},oX S l=true->∀ i o,mJ l i=some o->S.get i=some o
 | [],_,i,o,h=>by cases h
 | p :: l,hs,i,o,h=>by
  simp only [oX,Bool.and_eq_true] at hs;simp only [mJ] at h;split at h
  ·rename_i hb
   injection h with h
   rw [<- Nat.eq_of_beq_eq_true hb,xe hs.1,h]
  ·exact lT hs.2 i o h
def bj (X:Cx Nat) (O:Outside Nat) (m:cW):Prop:=m.c<=m.d/\∀ E w vals,Rel X O E (mJ m.pre) m.g w->(∀ id,m.c<=id->id < m.d->¬ E.D id)->aQ (RV E) m.args vals ->
 Calls X.P m.f vals.toArray w fun e w'=>∃ y E',e=.returned y/\RV E' m.v y/\Rel X O E' (mJ m.post) m.g' w'/\iB E (mJ m.pre) m.c w E' (mJ m.post) m.d w'
theorem Rel.swap {σ:Type} {X X':Cx σ} {O:Outside σ} {E:Env} {h:Nat->Option Ob} {g:σ} {w:World} (r:Rel X O E h g w) (e:X'.ng=X.ng):Rel X' O E h g w :=
 ⟨r.ob,r.inj,r.apart,fun b hb=>r.kJ b (e ▸ hb),r.lt,r.out⟩
theorem bj.swap {X X':Cx Nat} {O:Outside Nat} {m:cW} (h:bj X O m) (eP:X'.P=X.P) (e:X'.ng=X.ng):bj X' O m:=⟨h.1,fun E w vals R hf ha=>by
 rw [eP];refine (h.2 E w vals (R.swap e.symm) hf ha).mono ?_;rintro e1 w' ⟨y,E',a1,a2,a3,a4⟩;exact ⟨y,E',a1,a2,a3.swap e,a4⟩⟩
theorem Ls {l:List (Nat×Ob)}:(kr l .e).get=mJ l:=by
 funext i
 rw [zx];cases mJ l i <;> rfl
theorem Jb {X:Cx Nat} (hX:kg X) (hP:ni X) {O:Outside Nat} (hO:eh X O X.gg) {n:Nat} {m:cW} (hf:X.fn m.f≠none) (h:cA X n m=true):bj X O m:=by
 unfold cA at h;split at h
 ·rename_i r hr
  simp only [Bool.and_eq_true] at h;obtain ⟨⟨⟨h1,h2⟩,h4⟩,h3⟩:=h;obtain ⟨v,s'⟩:=r;dsimp only at h1 h2 h3 h4;have e1:=jx h1;have e2:=Nat.eq_of_beq_eq_true h2;have e4:=Nat.eq_of_beq_eq_true h4;subst e1;obtain ⟨c1,c2⟩:=Hs hX hP hO n m.f m.args _ _ _ hr hf;dsimp only at c1 c2;rw [e2] at c1;refine ⟨c1,fun E w vals R hf hargs=>?_⟩;rw [Ls] at c2;refine (c2 E w vals R (by rw [e2]; exact hf) hargs).mono ?_;rintro e w' ⟨y,he,E',k1,k2,k3⟩;have sub:∀ i o,mJ m.post i=some o->s'.S.get i=some o:=lT h3;rw [Ls] at k3;rw [e2] at k3;exact ⟨y,E',he,k1 _ rfl,e4 ▸ k2.sub sub,k3.less fun id hi=>by
   cases e:mJ m.post id with
   | none=>exact absurd e hi
   | some o=>rw [sub id o e]; simp⟩
 ·cases h
theorem ou {X:Cx Nat} {O:Outside Nat} {base:FuncId->List AV->St Nat->Option (AV×St Nat)} (hb:eh X O base):∀ {l:List cW},(∀ m∈l,bj X O m)->eh X O (aX base l)
 | [],_=>hb
 | m :: l,hm=>fun f args s v s' h hn=>by
  simp only [aX] at h;split at h
  ·rename_i hb
   simp only [Bool.and_eq_true] at hb;obtain ⟨⟨⟨⟨b1,b2⟩,b5⟩,b3⟩,b4⟩:=hb;injection h with h
   injection h with h1 h2
   subst h1 h2;have e1:=Nat.eq_of_beq_eq_true b1;have e2:=Nat.eq_of_beq_eq_true b2;have e3:=dz (fun _ _=>jx) b3;have e5:=Nat.eq_of_beq_eq_true b5;subst e1 e3;obtain ⟨c1,c2⟩:=hm m (by simp);refine ⟨by rw [<- e2]; exact c1,fun E w vals R hf hargs=>?_⟩;rw [<- e2] at hf;have sub:=lT b4;refine (c2 E w vals (e5 ▸ R.sub sub) hf hargs).mono ?_;rintro e w' ⟨y,E',he,k1,k2,k3⟩;obtain ⟨f1,f2⟩:=R.Is sub k2 k3;have er:rest s.S.get (mJ m.pre) (mJ m.post)=(kr m.post (t_ m.pre s.S)).get:=by
    funext i
    rw [zx,Oc];unfold rest;cases mJ m.post i <;> cases mJ m.pre i <;> rfl
   rw [er] at f1 f2;exact ⟨y,he,E',fun av e=>by injection e with e; rw [<- e]; exact k1,f1,by rw [<- e2]; exact f2⟩
  ·exact ou hb (fun m' h'=>hm m' (List.mem_cons_of_mem _ h')) f args s v s' h hn
end
end Ev
end Go.Proofs.YtijegngfclkdaaaGreatDoor
