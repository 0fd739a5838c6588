/-
  Pieces of the proof: part 6 of 54.
  Conditions: none.
-/
import Derived.Laws.MakeOwn
import Derived.Test.YtijegngfclkdaaaGreatDoorW05
set_option linter.unusedVariables false
set_option linter.unusedSimpArgs false
set_option maxHeartbeats 100000000
set_option maxRecDepth 100000
namespace Go.Proofs.YtijegngfclkdaaaGreatDoor.Ev
open Go
variable {σ:Type}
def CallOK (X:Cx σ) (O:Outside σ) (call:FuncId→List AV→St σ→Option (AV×St σ)):Prop :=
 ∀ f args s v s',call f args s=some (v,s')→X.fn f≠none→s.c≤s'.c∧∀ E w vals,Rel X O E s.S.get s.g w→(∀ id,s.c≤id→id < s'.c→¬ E.D id)→Rel2 (RV E) args vals →
  Calls X.P f vals.toArray w fun e w'=>∃ y,e=.returned y∧StepP X O E s w (some v) s' y w'
theorem run_freeze_self {P:Program} {w:World} {a:Addr}:(markStringish a).run P w=.ok () (match w.shape? a.block with | some (_,n)=>w.freeze ⟨a.block,n,none⟩ 1 | none=>w):=by
 unfold markStringish;rw [Sem.run_bind,run_shape,Result.andThen_ok];cases w.shape? a.block with
 | none=>rfl
 | some p=>rfl
theorem Rel.marked {X:Cx σ} {O:Outside σ} {E:Env} {s:St σ} {w:World} (R:Rel X O E s.S.get s.g w) {id:Nat} {l:List Ce} {ty:TypeId} (hi:s.S.get id=some (.row l ty)) {v:Option AV} {y:Value} (hv:∀ av,v=some av→RV E av y) (b:Nat) (hb:b=E.ι id) :
  StepP X O E s w v s y (match w.shape? b with | some (_,n)=>w.freeze ⟨b,n,none⟩ 1 | none=>w):=by
 subst hb;obtain ⟨arr,fz,h1,h2,h3,h4,h5⟩:=(R.ob id _ hi).2;have hsh:w.shape? (E.ι id)=some (ty,arr.size):=by simp [World.shape?,h1]
 rw [hsh];dsimp only;have hw:∀ b,b≠E.ι id→(w.freeze ⟨E.ι id,arr.size,none⟩ 1).heap[b]?=w.heap[b]?:=fun b hb=>by
  simp [World.freeze,Array.getElem?_modify,Ne.symm hb]
 have hs:(w.freeze ⟨E.ι id,arr.size,none⟩ 1).heap.size=w.heap.size:=by simp [World.freeze]
 have hn:(w.freeze ⟨E.ι id,arr.size,none⟩ 1).heap[E.ι id]?=some (.cells arr ty (if fz.1 == fz.2 then (arr.size,arr.size + 1) else (min fz.1 arr.size,max fz.2 (arr.size + 1)))):=by
  obtain ⟨lo,hi⟩:=fz;simp [World.freeze,Array.getElem?_modify,h1]
 have hro:RO E id (w.freeze ⟨E.ι id,arr.size,none⟩ 1) (.row l ty):=by
  refine ⟨arr,_,hn,h2,h3,?_,h5⟩;split
  ·exact .inr (Nat.le_refl _)
  ·rename_i hne
   rcases h4 with h4 | h4
   ·exact absurd (beq_iff_eq.2 h4) hne
   ·right
    show arr.size≤min fz.1 arr.size;omega
 obtain ⟨a,b⟩:=R.wrote hi hro hw hs s.c;have e:put1 s.S.get id (some (.row l ty))=s.S.get:=by
  funext i
  unfold put1;split
  ·rename_i e; rw [e,hi]
  ·rfl
 rw [e] at a b;exact ⟨E,hv,a,b⟩
theorem modify_list {α:Type} {A:Array α} {i:Nat} {f:α→α}:(A.modify i f).toList=A.toList.modify i f:=by simp
theorem setVal_list (v:Value):∀ (l:List MapEntry) (i:Nat),setVal v l i=l.modify i fun e=>{ e with val:=v }
 | [],i=>by simp [setVal]
 | e :: l,0=>by simp [setVal]
 | e :: l,i + 1=>by simp [setVal,setVal_list v l i]
theorem erase_list:∀ (l:List MapEntry) (i:Nat),eraseAt l i=l.eraseIdx i
 | [],i=>by simp [eraseAt]
 | e :: l,0=>by simp [eraseAt]
 | e :: l,i + 1=>by simp [eraseAt,erase_list l i]
theorem Rel2.modify {α β:Type} {R:α→β→Prop} {f:α→α} {g:β→β}:∀ {l:List α} {r:List β} {i:Nat},Rel2 R l r→(∀ x y,l[i]?=some x→r[i]?=some y→R x y→R (f x) (g y))→Rel2 R (l.modify i f) (r.modify i g)
 | [],[],_,_,_=>by simp; trivial
 | x :: l,y :: r,0,⟨a,b⟩,h=>by simp; exact ⟨h x y rfl rfl a,b⟩
 | x :: l,y :: r,i + 1,⟨a,b⟩,h=>by simp; exact ⟨a,Rel2.modify b fun x y hx hy=>h x y (by simpa using hx) (by simpa using hy)⟩
theorem Rel2.eraseIdx {α β:Type} {R:α→β→Prop}:∀ {l:List α} {r:List β} {i:Nat},Rel2 R l r→Rel2 R (l.eraseIdx i) (r.eraseIdx i)
 | [],[],_,_=>trivial
 | _ :: _,_ :: _,0,⟨_,b⟩=>b
 | _ :: _,_ :: _,_ + 1,⟨a,b⟩=>⟨a,Rel2.eraseIdx b⟩
theorem SM.update {es r:List MapEntry} (h:SM es r) {i:Nat} {k y:Value} {en:MapEntry} (h1:r[i]?=some en) (h2:en.key=k):SM (setVal y es i) (r.modify i fun e=>{ e with key:=k,val:=y }):=by
 rw [setVal_list];refine Rel2.modify h fun a b _ hb ⟨e1,_⟩=>⟨?_,rfl⟩
 rw [h1] at hb;injection hb with hb
 show k=a.key;rw [← e1,← hb,h2]
theorem findMap_some {j:IntKind} {n:Int}:∀ {es:List MapEntry} {i:Nat} {q:Nat×Value},findMap (.int j n) es i=some (some q)→i≤q.1∧∃ e,es[q.1 - i]?=some e∧e.key=.int j n
 | [],i,q,h=>by simp [findMap] at h
 | e :: es,i,q,h=>by
  unfold findMap at h;split at h
  ·rename_i j0 a j' b hk he
   injection hk with hk1 hk2
   subst hk1 hk2;rw [gd_some] at h;obtain ⟨h1,h2⟩:=h;have hj:j=j':=of_decide_eq_true h1;subst hj;split at h2
   ·rename_i hn
    injection h2 with h2
    injection h2 with h2
    subst h2;exact ⟨Nat.le_refl _,e,by simp,by rw [he]; congr 1; exact (eq_of_beq hn).symm⟩
   ·obtain ⟨a1,e',a2,a3⟩:=findMap_some h2
    exact ⟨by omega,e',by rw [show q.1 - i=(q.1 - (i + 1)) + 1 by omega]; simpa using a2,a3⟩
  ·cases h
theorem run_setObj {P:Program} {w:World} {b:Nat} {es:Array MapEntry} {c:Nat} {o:Obj} (h:w.heap[b]?=some (.map es c)):(setObj b o).run P w=.ok () { w with heap:=w.heap.setIfInBounds b o }:=by
 simp [setObj,Sem.run,h]
theorem Rel.mapped {X:Cx σ} {O:Outside σ} {E:Env} {s:St σ} {w:World} (R:Rel X O E s.S.get s.g w) {id:Nat} {es es' r':List MapEntry} {c c' k':Nat} (hi:s.S.get id=some (.map es c)) {v:Option AV} {y:Value} (hv:∀ av,v=some av→RV E av y) {o:Obj} (ho:o=.map r'.toArray k') (hm:SM es' r') :
  StepP X O E s w v (setS s id (some (.map es' c'))) y { w with heap:=w.heap.setIfInBounds (E.ι id) o }:=by
 subst ho;have hlt:=R.block_lt hi;obtain ⟨a,b⟩:=R.wrote (w':={ w with heap:=w.heap.setIfInBounds (E.ι id) (.map r'.toArray k') }) (o':=.map es' c') hi ⟨r',k',by
  show (w.heap.setIfInBounds (E.ι id) _)[E.ι id]?=_;rw [Array.getElem?_setIfInBounds_self_of_lt hlt],hm⟩ (fun b hb=>by
  show (w.heap.setIfInBounds (E.ι id) _)[b]?=_;rw [Array.getElem?_setIfInBounds_ne (Ne.symm hb)]) (by simp) s.c
 refine ⟨E,hv,?_,?_⟩
 ·simp only [setS,get_put1]; exact a
 ·simp only [setS,get_put1]; exact b
end Go.Proofs.YtijegngfclkdaaaGreatDoor.Ev
namespace Go.Proofs.YtijegngfclkdaaaGreatDoor.Ev
open Go
variable {σ:Type}
theorem evApp_c {X:Cx σ} {t u:TypeId} {a b v:AV} {s s':St σ} (h:evApp X t u a b s=some (v,s')):s.c≤s'.c:=by
 simp only [evApp,Option.bind_eq_some_iff] at h;obtain ⟨d,hd,du,hdu,h⟩:=h;split at h
 ·simp only [Option.bind_eq_some_iff,gd_some] at h
  obtain ⟨ie,hie,⟨m,cs⟩,hp,hby,h⟩:=h;split at h
  ·split at h
   ·injection h with h; injection h with _ h; rw [h]; exact Nat.le_refl _
   ·rw [gd_some] at h; obtain ⟨_,h⟩:=h; injection h with h; injection h with _ h; rw [← h]; simp [newS]
  ·rw [gd_some] at h
   obtain ⟨_,h⟩:=h;split at h
   ·injection h with h; injection h with _ h; rw [h]; exact Nat.le_refl _
   ·split at h
    ·rw [gd_some,Option.bind_eq_some_iff] at h
     obtain ⟨_,old,_,h⟩:=h;split at h
     ·injection h with h; injection h with _ h; rw [← h]; simp [newS,setS]
     ·split at h
      ·rw [Option.map_eq_some_iff] at h; obtain ⟨_,_,h⟩:=h; injection h with _ h; rw [← h]; simp [setS]
      ·injection h with h; injection h with _ h; rw [← h]; simp [newS]
    ·cases h
  ·cases h
 ·cases h
theorem ope_c {X:Cx σ} {call:FuncId→List AV→St σ→Option (AV×St σ)} (hc:∀ f args s v s',call f args s=some (v,s')→X.fn f≠none→s.c≤s'.c) {ρ:Operand→Option AV} {o:Oper} {v:Option AV} {s s':St σ} (h:ope X call o ρ s=some (v,s')):s.c≤s'.c:=by
 obtain ⟨dst,op,ty,pos,after,gu⟩:=o;cases op with
 | store t a x =>
  simp only [ope,eStore,eConvert,eMapUpdate,eBuiltin,eCall,Option.bind_eq_some_iff] at h;obtain ⟨i,_,p,_,x,_,cs,_,h⟩:=h;split at h
  ·rw [gd_some] at h
   obtain ⟨_,h⟩:=h;split at h
   ·rw [Option.map_eq_some_iff] at h; obtain ⟨_,_,h⟩:=h; injection h with _ h; rw [← h]; simp [setS]
   ·cases h
  ·cases h
 | convert src dt x =>
  simp only [ope,eStore,eConvert,eMapUpdate,eBuiltin,eCall] at h;split at h
  ·simp only [Option.bind_eq_some_iff] at h
   obtain ⟨de,_,x,_,h⟩:=h;split at h
   ·rw [gd_some] at h; obtain ⟨_,h⟩:=h; injection h with h; injection h with _ h; rw [h]; exact Nat.le_refl _
   ·cases h
  ·cases h
 | mapUpdate t m k x =>
  simp only [ope,eStore,eConvert,eMapUpdate,eBuiltin,eCall,Option.bind_eq_some_iff] at h;obtain ⟨d,_,m,_,k,_,x,_,h⟩:=h;split at h
  ·rw [Option.bind_eq_some_iff] at h
   obtain ⟨dk,_,h⟩:=h;split at h
   ·simp only [Option.bind_eq_some_iff,Option.map_eq_some_iff] at h
    obtain ⟨p,_,q,_,h⟩:=h;split at h <;> (injection h with _ h; rw [← h]; simp [setS])
   ·cases h
  ·cases h
 | call cl =>
  obtain ⟨callee,args,argTypes⟩:=cl;cases callee with
  | builtin b =>
   cases b with
   | append =>
    simp only [ope,eStore,eConvert,eMapUpdate,eBuiltin,eCall] at h;split at h
    ·simp only [Option.bind_eq_some_iff,Option.map_eq_some_iff] at h
     obtain ⟨a,_,b,_,⟨v',s''⟩,h1,h⟩:=h;injection h with _ h
     rw [← h];exact evApp_c h1
    ·cases h
   | copy =>
    simp only [ope,eStore,eConvert,eMapUpdate,eBuiltin,eCall] at h;split at h
    ·simp only [Option.bind_eq_some_iff] at h
     obtain ⟨d,_,h⟩:=h;split at h
     ·simp only [Option.bind_eq_some_iff] at h
      obtain ⟨ie,_,a,_,b,_,p,_,h⟩:=h;split at h
      ·injection h with h; injection h with _ h; rw [h]; exact Nat.le_refl _
      ·rw [gd_some] at h
       obtain ⟨_,h⟩:=h;split at h
       ·simp only [Option.bind_eq_some_iff,Option.map_eq_some_iff] at h
        obtain ⟨_,_,_,_,h⟩:=h;injection h with _ h
        rw [← h]; simp [setS]
       ·cases h
      ·cases h
     ·cases h
    ·cases h
   | delete =>
    simp only [ope,eStore,eConvert,eMapUpdate,eBuiltin,eCall] at h;split at h
    ·simp only [Option.bind_eq_some_iff] at h
     obtain ⟨d,_,m,_,k,_,h⟩:=h;split at h
     ·simp only [Option.bind_eq_some_iff] at h
      obtain ⟨dk,_,h⟩:=h;split at h
      ·simp only [Option.bind_eq_some_iff,Option.map_eq_some_iff] at h
       obtain ⟨p,_,q,_,h⟩:=h;split at h
       ·injection h with _ h; rw [← h]; simp [setS]
       ·injection h with _ h; rw [h]; exact Nat.le_refl _
      ·cases h
     ·cases h
    ·cases h
   | _=>simp [ope,eBuiltin] at h
  | value f =>
   simp only [ope,eStore,eConvert,eMapUpdate,eBuiltin,eCall,Option.bind_eq_some_iff] at h;obtain ⟨f,_,l,_,h⟩:=h;split at h
   ·simp only [Option.bind_eq_some_iff,Option.map_eq_some_iff] at h
    obtain ⟨fi,hfi,⟨v',s''⟩,h1,h⟩:=h;injection h with _ h
    rw [← h];exact hc _ _ _ _ _ h1 (by rw [hfi]; simp)
   ·cases h
  | invoke a b=>simp [ope,eBuiltin] at h
 | _=>simp [ope,eBuiltin] at h
theorem upon_val {P:Program} {o:Oper} {a:Act} {next:Act→World→Prop} {Q:Exit→Act→World→Prop} {s:Sem Value} {w w':World} {y:Value} (h:s.run P w=.ok y w') (k:next (a.put o.dst y) w'):o.upon P a next Q ((do pure (Next.value (← s)):Sem Next).run P w):=by
 rw [run_v h]; exact k
theorem upon_unit {P:Program} {o:Oper} {a:Act} {next:Act→World→Prop} {Q:Exit→Act→World→Prop} {s:Sem Unit} {w w':World} (h:s.run P w=.ok () w') (k:next (a.put o.dst undef) w'):o.upon P a next Q ((do s; pure Next.skip:Sem Next).run P w):=by
 rw [run_u h]; exact k
theorem atC {E:Env}:∀ {l:List At} {vs:List Value},Rel2 (RA E) l vs→Rel2 (RC E) (l.map Ce.a) vs
 | [],[],_=>trivial
 | _ :: _,_ :: _,⟨a,b⟩=>⟨a,atC b⟩
theorem atR {E:Env}:∀ {l:List Ar} {vs:List Value},Rel2 (RAr E) l vs→Rel2 (RV E) (l.map Ar.av) vs
 | [],[],_=>trivial
 | .one _ :: _,_ :: _,⟨a,b⟩=>⟨a,atR b⟩
 | .agg _ :: _,_ :: _,⟨⟨A,e,a⟩,b⟩=>⟨⟨A,e,atC a⟩,atR b⟩
theorem cut_take {l cs:List Ce} {k:Nat} (h:cut l 0 k=some cs):cs=l.take k:=by simpa using (cut_spec h).2
theorem ope_R {X:Cx σ} (hX:XOK X) {O:Outside σ} {call:FuncId→List AV→St σ→Option (AV×St σ)} (hc:CallOK X O call) {E:Env} {w:World} {ρ:Operand→Option AV} {r:Operand→Value} (hρ:∀ x a,ρ x=some a→RV E a (r x)) {o:Oper} {v:Option AV} {s s':St σ} (h:ope X call o ρ s=some (v,s'))
  (R:Rel X O E s.S.get s.g w) (hf:∀ id,s.c≤id→id < s'.c→¬ E.D id) (a:Act) (next:Act→World→Prop) (Q:Exit→Act→World→Prop) (hk:∀ y w',StepP X O E s w v s' y w'→next (a.put o.dst y) w') :
  o.upon X.P a next Q ((execOp r o).run X.P w):=by
 have hS:∀ id ob,s.S.get id=some ob→E.D id∧RO E id w ob:=R.ob;obtain ⟨dst,op,ty,pos,after,gu⟩:=o;cases op with
 | store t ad x =>
  simp only [ope,eStore,eConvert,eMapUpdate,eBuiltin,eCall,Option.bind_eq_some_iff] at h;obtain ⟨i,hi,p,hp,x',hx,cs,hcs,h⟩:=h;split at h
  ·rename_i id off
   rw [gd_some] at h;obtain ⟨hlen,h⟩:=h;split at h
   ·rename_i l rty hl
    rw [Option.map_eq_some_iff] at h;obtain ⟨l',hlay,h⟩:=h;injection h with h1 h2
    subst h1 h2;obtain ⟨ti,i1,i2,_⟩:=hX.inf _ _ hi;obtain ⟨hD,e⟩:=hρ _ _ hp;have hcr:=cells_R hcs (hρ _ _ hx);have hlen:=Nat.eq_of_beq_eq_true hlen;have hro:=(hS _ _ hl).2;obtain ⟨arr,fz,k1,k2,k3,k4,k5⟩:=hro;have hcl:=hcr.length;have hcl2:cs.length=(r x).cells.size:=by rw [hcl,Array.length_toList]
    obtain ⟨b1,_⟩:=lay_spec hlay;obtain ⟨w',cur',r1,r2,r3,r4,r5,r6,r7⟩:=run_lay (P:=X.P) (E.ι id) (E.sh id + off) rty fz (r x).cells.toList 0 arr w k1 k4.free (by omega) (cells_one hcr);obtain ⟨m1,m2⟩:=R.wrote hl ((hS _ _ hl).2.lay (w':=w') hlay hcr k1 r2 r3 (fun j=>by rw [r4 j]; simp only [Nat.add_zero])) r5 r6 s.c r7;refine upon_unit (s:=Instr.storeAt t (r ad) (r x)) (w':=w') ?_ (hk _ _ ⟨E,fun av e=>(by cases e),?_,?_⟩)
    ·rw [e]
     have hsz:¬ ((r x).cells.size≠ti.size):=by
      omega
     simp only [Instr.storeAt,Instr.sureAddr,Sem.run_bind,Sem.run_pure,Result.andThen_ok,storeVar,run_sizeOf' i1];rw [if_neg hsz];simpa using r1
    ·simp only [setS,get_put1]; exact m1
    ·simp only [setS,get_put1]; exact m2
   ·cases h
  ·cases h
 | convert src dt x =>
  simp only [ope,eStore,eConvert,eMapUpdate,eBuiltin,eCall] at h;split at h
  ·rename_i e hbeq hsrc
   simp only [Option.bind_eq_some_iff] at h;obtain ⟨de,hde,x',hx,h⟩:=h;split at h
   ·rename_i id off n cp ez
    rw [gd_some] at h;obtain ⟨hlk,h⟩:=h;injection h with h
    injection h with h1 h2
    subst h1 h2;have hsd:=Nat.eq_of_beq_eq_true hbeq;subst hsd;have hrx:=hρ _ _ hx;obtain ⟨hD,q,c,e1,e2,e3,e4⟩:=hrx;cases hl:look s.S id with
    | none=>rw [hl] at hlk; cases hlk
    | some l =>
     obtain ⟨rty,hlS⟩:=look_some hl;have hq:q.block=E.ι id:=by
      rcases e3 with ⟨_,e3⟩ | ⟨e3,_⟩
      ·exact e3
      ·rw [e3]
     have:=R.marked hlS (v:=some (one (.sl id off n cp ez))) (y:=r x) (fun av e=>by injection e with e; rw [← e]; exact hρ _ _ hx) q.block hq;refine upon_val (s:=Go.convert src src (r x)) ?_ (hk _ _ this);rw [e1];simp [Go.convert,run_underlying (hX.und _ _ hsrc),run_underlying (hX.und _ _ hde),run_freeze_self]
   ·cases h
  ·cases h
 | mapUpdate t m k x =>
  simp only [ope,eStore,eConvert,eMapUpdate,eBuiltin,eCall,Option.bind_eq_some_iff] at h;obtain ⟨d,hd,m',hm,k',hk',x',hx,h⟩:=h;split at h
  ·rename_i kt et id j n y
   rw [Option.bind_eq_some_iff] at h;obtain ⟨dk,hdk,h⟩:=h;split at h
   ·rename_i ik
    simp only [Option.bind_eq_some_iff,Option.map_eq_some_iff] at h;obtain ⟨p,hp,q,hq,h⟩:=h;have hpS:=lookMap_some hp;obtain ⟨rm,km,hro,hsm⟩:=(hS _ _ hpS).2;rw [findMap_SM hsm] at hq;obtain ⟨_,em⟩:=hρ _ _ hm;have ek:=(hρ _ _ hk').1;have ex:=(hρ _ _ hx).1;split at h
    ·rename_i q'
     injection h with h1 h2
     subst h1 h2;obtain ⟨_,en,g1,g2⟩:=findMap_some hq;rw [Nat.sub_zero] at g1;refine upon_unit (s:=Instr.mapUpdate t (r m) (r k) (r x)) ?_ (hk _ _ (R.mapped hpS (fun av e=>by cases e) (o:=.map (rm.toArray.modify q'.1 fun en=>{ en with key:=.int j n,val:=y }) km) (r':=rm.modify q'.1 fun en=>{ en with key:=.int j n,val:=y }) (k':=km) ?_ (hsm.update g1 g2)))
     ·have hg:rm[q'.1]?=some en:=g1
      simp only [Instr.mapUpdate,Sem.run_bind,run_underlying (hX.und _ _ hd),Result.andThen_ok,em,ek,ex,run_getObj hro,checkKey_int' (hX.und _ _ hdk),run_findKey (hX.und _ _ hdk) hq];have hks:Instr.keyThatStays (((rm.toArray[q'.1]?).map (·.key)).getD (.int j n)) (.int j n)=pure (.int j n):=by
       simp only [List.getElem?_toArray,hg,Option.map_some,Option.getD_some,g2,Instr.keyThatStays,Instr.sameBits];simp
      simp only [hks,Sem.run_pure,Result.andThen_ok];exact run_setObj hro
     ·congr 1
      apply Array.ext'
      rw [modify_list]
    ·injection h with h1 h2
     subst h1 h2;refine upon_unit (s:=Instr.mapUpdate t (r m) (r k) (r x)) ?_ (hk _ _ (R.mapped hpS (fun av e=>by cases e) (o:=.map (rm.toArray.push { key:=.int j n,val:=y,born:=km }) (km + 1)) (r':=rm ++ [{ key:=.int j n,val:=y,born:=km }]) (k':=km + 1) (by simp) (Rel2.append hsm ⟨⟨rfl,rfl⟩,trivial⟩)));simp only [Instr.mapUpdate,Sem.run_bind,run_underlying (hX.und _ _ hd),Result.andThen_ok,em,ek,ex,run_getObj hro,checkKey_int' (hX.und _ _ hdk),run_findKey (hX.und _ _ hdk) hq];exact run_setObj hro
   ·cases h
  ·cases h
 | call cl =>
  obtain ⟨callee,args,argTypes⟩:=cl;cases callee with
  | builtin b =>
   cases b with
   | append =>
    simp only [ope,eStore,eConvert,eMapUpdate,eBuiltin,eCall] at h;split at h
    ·rename_i t u x y ht hargs
     have htt:=array2 ht;have haa:=array2 hargs;subst htt haa;simp only [Option.bind_eq_some_iff,Option.map_eq_some_iff] at h;obtain ⟨va,ha,vb,hb,⟨v',s''⟩,h1,h⟩:=h;injection h with h2 h3
     subst h2 h3;obtain ⟨p,w',g1,g2⟩:=evApp_R hX (ty:=ty) h1 R hf (hρ _ _ ha) (hρ _ _ hb);exact upon_val (s:=Builtin.append_ #[t,u] ty ((#[x,y]:Array Operand).map r)) (by rw [show (#[x,y]:Array Operand).map r=#[r x,r y] by simp]; exact g1) (hk _ _ g2)
    ·cases h
   | copy =>
    simp only [ope,eStore,eConvert,eMapUpdate,eBuiltin,eCall] at h;split at h
    ·rename_i t u x y ht hargs
     have htt:=array2 ht;have haa:=array2 hargs;subst htt haa;simp only [Option.bind_eq_some_iff] at h;obtain ⟨d,hd,h⟩:=h;split at h
     ·rename_i e
      simp only [Option.bind_eq_some_iff] at h;obtain ⟨ie,hie,va,ha,vb,hb,⟨m,cs⟩,hp,h⟩:=h;obtain ⟨ti,i1,i2,_⟩:=hX.inf _ _ hie;obtain ⟨c1,vs,c2,c3,c4⟩:=src_R (P:=X.P) hS hp (hρ _ _ hb);have cw:=c4 w rfl;split at h
      ·injection h with h
       injection h with h1 h2
       subst h1 h2;have ea:=(hρ _ _ ha).1;refine upon_val (s:=Builtin.copy_ #[t,u] ty ((#[x,y]:Array Operand).map r)) (w':=w) (y:=goInt 0) ?_ (hk _ _ (StepP.same R fun av e=>by injection e with e; rw [← e]; exact ⟨rfl,rfl⟩));have hx:=cw.2 0 (Nat.zero_le _);rw [← i2] at hx;rw [show (#[x,y]:Array Operand).map r=#[r x,r y] by simp,ea];simp [Builtin.copy_,run_underlying (hX.und _ _ hd),cw.1,run_sizeOf' i1,hx]
      ·rename_i id off n cp ez
       rw [gd_some] at h;obtain ⟨hez,h⟩:=h;have hez:=Nat.eq_of_beq_eq_true hez;split at h
       ·rename_i l rty hl
        simp only [Option.bind_eq_some_iff,Option.map_eq_some_iff] at h;obtain ⟨cs',hcs',l',hlay,h⟩:=h;injection h with h1 h2
        subst h1 h2;have hro:=(hS _ _ hl).2;have hra:=hρ _ _ ha;obtain ⟨hD,q,cap,eq1,eq2,eq3,eq4⟩:=hra;have hmin:Nat.min m n≤m:=Nat.min_le_left _ _;have hmin2:Nat.min m n≤n:=Nat.min_le_right _ _;have hcs2:Rel2 (RC E) cs' (vs.take (Nat.min m n * ie.size)):=by rw [cut_take hcs']; exact c3.take _
        have hlen2:(vs.take (Nat.min m n * ie.size)).length=Nat.min m n * ie.size:=by
         rw [List.length_take,c2];exact Nat.min_eq_left (Nat.mul_le_mul_right _ hmin)
        have hfirst:=cw.2 (Nat.min m n) hmin;rw [← i2] at hfirst hlen2 hcs2;obtain ⟨arr,fz,k1,k2,k3,k4,k5⟩:=hro;obtain ⟨b1,_⟩:=lay_spec hlay;have hl2:=hcs2.length;have hrun:∀ w':World,(storeCells q (vs.take (Nat.min m n * ti.size))).run X.P w=.ok () w'→(Builtin.copy_ #[t,u] ty #[r x,r y]).run X.P w=.ok (goInt (Nat.min m n:Nat)) w':=fun w' hs=>by
         rw [eq1];simp only [Builtin.copy_,Sem.run_bind];simp [run_underlying (hX.und _ _ hd),cw.1,run_sizeOf' i1,hfirst,hs]
        rcases eq3 with ⟨h0,_⟩ | ⟨h0,_⟩
        ·have hn0:n=0:=by omega
         have e0:vs.take (Nat.min m n * ti.size)=[]:=by
          apply List.length_eq_zero_iff.1
          rw [hlen2,hn0];simp
         have e1:cs'=[]:=by
          apply List.length_eq_zero_iff.1
          rw [hl2,e0];rfl
         have e2:l'=l:=by rw [e1] at hlay; have:=(lay_spec hlay).2; rw [this]; simp
         refine upon_val (s:=Builtin.copy_ #[t,u] ty ((#[x,y]:Array Operand).map r)) (w':=w) (y:=goInt (Nat.min m n:Nat)) ?_ (hk _ _ ?_)
         ·rw [show (#[x,y]:Array Operand).map r=#[r x,r y] by simp]
          exact hrun w (by rw [e0]; rfl)
         ·have e3:put1 s.S.get id (some (.row l' rty))=s.S.get:=by
           funext i
           unfold put1;split
           ·rename_i e; rw [e,hl,e2]
           ·rfl
          refine ⟨E,fun av e=>by injection e with e; rw [← e]; exact ⟨rfl,rfl⟩,?_,?_⟩
          ·simp only [setS,get_put1,e3]; exact R
          ·simp only [setS,get_put1,e3]; exact Mvd.refl _ _ _ _
        ·obtain ⟨w',cur',r1,r2,r3,r4,r5,r6,r7⟩:=run_lay (P:=X.P) (E.ι id) (E.sh id + off) rty fz (vs.take (Nat.min m n * ti.size)) 0 arr w k1 k4.free (by omega) (cells_one hcs2)
         obtain ⟨m1,m2⟩:=R.wrote hl ((hS _ _ hl).2.lay (w':=w') hlay hcs2 k1 r2 r3 (fun j=>by rw [r4 j]; simp only [Nat.add_zero])) r5 r6 s.c r7;refine upon_val (s:=Builtin.copy_ #[t,u] ty ((#[x,y]:Array Operand).map r)) (w':=w') (y:=goInt (Nat.min m n:Nat)) ?_ (hk _ _ ⟨E,fun av e=>by injection e with e; rw [← e]; exact ⟨rfl,rfl⟩,?_,?_⟩)
         ·rw [show (#[x,y]:Array Operand).map r=#[r x,r y] by simp]
          exact hrun w' (by rw [h0]; exact r1)
         ·simp only [setS,get_put1]; exact m1
         ·simp only [setS,get_put1]; exact m2
       ·cases h
      ·cases h
     ·cases h
    ·cases h
   | delete =>
    simp only [ope,eStore,eConvert,eMapUpdate,eBuiltin,eCall] at h;split at h
    ·rename_i t u x y ht hargs
     have htt:=array2 ht;have haa:=array2 hargs;subst htt haa;simp only [Option.bind_eq_some_iff] at h;obtain ⟨d,hd,m',hm,k',hk',h⟩:=h;split at h
     ·rename_i kt et id j n
      simp only [Option.bind_eq_some_iff] at h;obtain ⟨dk,hdk,h⟩:=h;split at h
      ·rename_i ik
       simp only [Option.bind_eq_some_iff,Option.map_eq_some_iff] at h;obtain ⟨p,hp,q,hq,h⟩:=h;have hpS:=lookMap_some hp;obtain ⟨rm,km,hro,hsm⟩:=(hS _ _ hpS).2;rw [findMap_SM hsm] at hq;obtain ⟨_,em⟩:=hρ _ _ hm;have ek:=(hρ _ _ hk').1;split at h
       ·rename_i q'
        injection h with h1 h2
        subst h1 h2;obtain ⟨_,en,g1,g2⟩:=findMap_some hq;rw [Nat.sub_zero] at g1;refine upon_val (s:=Builtin.delete_ #[t,u] ty ((#[x,y]:Array Operand).map r)) (y:=.tuple #[]) ?_ (hk _ _ (R.mapped hpS (fun av e=>by injection e with e; rw [← e]; exact ⟨_,rfl,trivial⟩) (o:=.map (rm.toArray.eraseIdxIfInBounds q'.1) km) (r':=rm.eraseIdx q'.1) (k':=km) (by congr 1; simp) (by rw [erase_list]; exact Rel2.eraseIdx hsm)));rw [show (#[x,y]:Array Operand).map r=#[r x,r y] by simp,em,ek];simp [Builtin.delete_,run_underlying (hX.und _ _ hd),run_getObj hro,checkKey_int' (hX.und _ _ hdk),run_findKey (hX.und _ _ hdk) hq,run_setObj hro]
       ·injection h with h1 h2
        subst h1 h2;have:=R.mapped hpS (v:=some (.tup [])) (y:=.tuple #[]) (fun av e=>by injection e with e; rw [← e]; exact ⟨_,rfl,trivial⟩) (o:=.map rm.toArray km) (r':=rm) (c':=p.2) (k':=km) rfl hsm;refine upon_val (s:=Builtin.delete_ #[t,u] ty ((#[x,y]:Array Operand).map r)) (y:=.tuple #[]) (w':={ w with heap:=w.heap.setIfInBounds (E.ι id) (.map rm.toArray km) }) ?_ (hk _ _ ?_)
        ·rw [show (#[x,y]:Array Operand).map r=#[r x,r y] by simp,em,ek]
         simp [Builtin.delete_,run_underlying (hX.und _ _ hd),run_getObj hro,checkKey_int' (hX.und _ _ hdk),run_findKey (hX.und _ _ hdk) hq,run_setObj hro]
        ·obtain ⟨E',a1,a2,a3⟩:=this
         simp only [setS,get_put1] at a2 a3;have e:put1 s.S.get id (some (.map p.1 p.2))=s.S.get:=by
          funext i
          unfold put1;split
          ·rename_i e; rw [e,hpS]
          ·rfl
         rw [e] at a2 a3;exact ⟨E',a1,a2,a3⟩
      ·cases h
     ·cases h
    ·cases h
   | _=>simp [ope,eBuiltin] at h
  | value f =>
   simp only [ope,eStore,eConvert,eMapUpdate,eBuiltin,eCall,Option.bind_eq_some_iff] at h;obtain ⟨vf,hvf,l,hl,h⟩:=h;split at h
   ·rename_i g fi ca
    simp only [Option.bind_eq_some_iff,Option.map_eq_some_iff] at h;obtain ⟨fi',hfi,⟨v',s''⟩,h1,h⟩:=h;injection h with h2 h3
    subst h2 h3;obtain ⟨A,B,e,hA,hB⟩:=hρ _ _ hvf;obtain ⟨F,f1,f2,_,_,f5⟩:=hX.fn _ _ hfi;have hl':=mapO_R hρ hl;have hcall:=(hc _ _ _ _ _ h1 (by rw [hfi]; simp)).2 E w (A.toList ++ (args.toList.map r ++ B.toList)) R hf ((atR hA).append (hl'.append (atR hB)));have hargs:(A.toList ++ (args.toList.map r ++ B.toList)).toArray=A ++ args.map r ++ B:=by apply Array.ext'; simp
    rw [hargs] at hcall;have hrun:(execOp r ⟨dst,.call ⟨.value f,args,argTypes⟩,ty,pos,after,gu⟩).run X.P w=.ok (.enter g (A ++ args.map r ++ B)) w:=by
     have f5' : ¬ ((F.name == "runtime.NumGoroutine") = true) := by rw [f5]; simp
     have f2':F.body.isNone=false:=by rw [f2]; rfl
     simp only [execOp,resolve,Deferred.ofValue,e,Sem.run_bind,Sem.run_pure,Result.andThen_ok,invoke,callFunc,run_program,f1];rw [if_neg f5',if_neg (by rw [f2']; simp)];rfl
    rw [hrun,Oper.upon_enter];refine hcall.mono fun e' w' ⟨y,he,hs⟩=>?_
    subst he;exact hk _ _ hs
   ·cases h
  | invoke x y=>simp [ope,eBuiltin] at h
 | _=>simp [ope,eBuiltin] at h
end Go.Proofs.YtijegngfclkdaaaGreatDoor.Ev
namespace Go.Proofs.YtijegngfclkdaaaGreatDoor.Ev
open Go
variable {σ:Type}
def RF (E:Env) (F:Fr) (a:Act):Prop:=a.defers=[]∧a.tmps.size=F.nt∧∀ t av,F.t.get t=some av→∃ y,a.tmps[t]?=some y∧RV E av y
theorem RF.ext {E E':Env} {F:Fr} {a:Act} (h:Ext E E') (r:RF E F a):RF E' F a:=⟨r.1,r.2.1,fun t av ht=>by obtain ⟨y,a,b⟩:=r.2.2 t av ht; exact ⟨y,a,b.ext h⟩⟩
theorem evO_R {X:Cx σ} {E:Env} {F:Fr} {a:Act} (r:RF E F a) (hg:∀ b,b < X.ng→E.D b∧E.ι b=b∧E.sh b=0) (x:Operand) (av:AV) (h:evO X F x=some av):RV E av (a.eval x):=by
 cases x with
 | tmp t =>
  obtain ⟨y,h1,h2⟩:=r.2.2 t av h;simp only [Act.eval,Array.getD_eq_getD_getElem?,h1,Option.getD_some];exact h2
 | const v =>
  simp only [evO,Option.map_eq_some_iff] at h;obtain ⟨v1,h1,rfl⟩:=h;exact v1Of_R h1
 | global g =>
  simp only [evO,gd_some] at h;obtain ⟨h1,h⟩:=h;injection h with h
  subst h;obtain ⟨a1,a2,a3⟩:=hg g (Nat.le_of_ble_eq_true h1);exact ⟨a1,by rw [a2,a3]; rfl⟩
 | func f =>
  simp only [evO] at h;injection h with h
  subst h;exact ⟨#[],#[],rfl,trivial,trivial⟩
theorem putF_R {E:Env} {F:Fr} {a:Act} (r:RF E F a) {d:Option Tmp} {v:Option AV} {y:Value} (hv:∀ av,v=some av→RV E av y):RF E (putF F d v) (a.put d y):=by
 cases d with
 | none=>exact r
 | some d =>
  simp only [putF,Act.put];split
  ·rename_i hd
   have hd:d < F.nt:=Nat.le_of_ble_eq_true hd;refine ⟨r.1,by simpa using r.2.1,fun t av ht=>?_⟩;simp only [Tr.get_set] at ht
   by_cases e:t=d
   ·subst e
    rw [if_pos rfl] at ht;exact ⟨y,by rw [Array.getElem?_setIfInBounds_self_of_lt (by rw [r.2.1]; exact hd)],hv av ht⟩
   ·rw [if_neg e] at ht
    obtain ⟨u,h1,h2⟩:=r.2.2 t av ht;exact ⟨u,by rw [Array.getElem?_setIfInBounds_ne (Ne.symm e)]; exact h1,h2⟩
  ·rename_i hd
   have hd:¬ d < F.nt:=fun h=>by
    have:Nat.blt d F.nt=true:=Nat.ble_eq_true_of_le h;rw [this] at hd; cases hd
   refine ⟨r.1,by simpa using r.2.1,fun t av ht=>?_⟩;obtain ⟨u,h1,h2⟩:=r.2.2 t av ht;have e:t≠d:=fun e=>by
    subst e;have:t < a.tmps.size:=by
     rcases Nat.lt_or_ge t a.tmps.size with h | h
     ·exact h
     ·rw [Array.getElem?_eq_none h] at h1; cases h1
    rw [r.2.1] at this;exact hd this
   exact ⟨u,by rw [Array.getElem?_setIfInBounds_ne (Ne.symm e)]; exact h1,h2⟩
theorem wantF_R {E:Env} {F:Fr} {a:Act} (r:RF E F a) {ops:Array Oper} {o:Oper} {b:Bool} (h:wantF ops.toList F o=some b):Region.wanted o (yielded ops a.tmps)=b:=by
 unfold wantF at h;unfold Region.wanted;split at h
 ·rename_i hg
  injection h with h
  rw [hg,← h]
 ·rename_i j want hg
  rw [hg];dsimp only;rw [Array.getElem?_toList] at h;unfold yielded;split at h
  ·rename_i hd
   injection h with h
   rw [hd,← h];rfl
  ·rename_i d hd
   split at h
   ·rename_i b' hb
    injection h with h
    obtain ⟨y,h1,h2⟩:=r.2.2 d _ hb;rw [hd,Option.bind_some,h1,h2.1,← h];cases want <;> cases b' <;> rfl
   ·rename_i hb
    injection h with h
    obtain ⟨y,h1,A,h2,h3⟩:=r.2.2 d _ hb;rw [hd,Option.bind_some,h1,h2,← h];cases want <;> rfl
   ·cases h
def Then (X:Cx σ) (O:Outside σ) (E:Env) (s:St σ) (w:World) (F':Fr) (s':St σ) (a':Act) (w':World):Prop :=
 ∃ E',RF E' F' a'∧Rel X O E' s'.S.get s'.g w'∧Mvd E s.S.get s.c w E' s'.S.get s'.c w'
theorem StepP.then {X:Cx σ} {O:Outside σ} {E:Env} {s s':St σ} {w w':World} {F:Fr} {a:Act} {d:Option Tmp} {v:Option AV} {y:Value} (r:RF E F a) (h:StepP X O E s w v s' y w'):Then X O E s w (putF F d v) s' (a.put d y) w':=by
 obtain ⟨E',h1,h2,h3⟩:=h;exact ⟨E',putF_R (r.ext h3.ext) h1,h2,h3⟩
theorem ev1_c {X:Cx σ} {call:FuncId→List AV→St σ→Option (AV×St σ)} (hc:∀ f args s v s',call f args s=some (v,s')→X.fn f≠none→s.c≤s'.c) {ops:List Oper} {o:Oper} {F F':Fr} {s s':St σ} (h:ev1 X call ops o F s=some (F',s')):s.c≤s'.c:=by
 simp only [ev1,Option.bind_eq_some_iff] at h;obtain ⟨b,_,h⟩:=h;split at h
 ·injection h with h; injection h with _ h; rw [h]; exact Nat.le_refl _
 ·split at h
  ·rw [Option.map_eq_some_iff] at h; obtain ⟨_,_,h⟩:=h; injection h with _ h; rw [h]; exact Nat.le_refl _
  ·rw [Option.map_eq_some_iff] at h
   obtain ⟨⟨v,ob⟩,_,h⟩:=h;injection h with _ h
   rw [← h];cases ob <;> simp [newS]
  ·rw [Option.map_eq_some_iff] at h
   obtain ⟨⟨v,s''⟩,h1,h⟩:=h;injection h with _ h
   rw [← h];exact ope_c hc h1
theorem ev1_R {X:Cx σ} (hX:XOK X) {O:Outside σ} {call:FuncId→List AV→St σ→Option (AV×St σ)} (hc:CallOK X O call) {ops:Array Oper} {o:Oper} {F F':Fr} {s s':St σ} (h:ev1 X call ops.toList o F s=some (F',s'))
  {E:Env} {w:World} {a:Act} (r:RF E F a) (R:Rel X O E s.S.get s.g w) (hf:∀ id,s.c≤id→id < s'.c→¬ E.D id) (K:Act→World→Prop) (Q:Exit→Act→World→Prop) (hK:∀ a' w',Then X O E s w F' s' a' w'→K a' w') :
  if Region.wanted o (yielded ops a.tmps) then o.wp X.P a w K Q∨(o.asks X.P a w∧LetsOut Q) else K (a.put o.dst undef) w:=by
 simp only [ev1,Option.bind_eq_some_iff] at h;obtain ⟨b,hb,h⟩:=h;rw [wantF_R r hb];have hρ:=evO_R r R.glob;split at h
 ·injection h with h
  injection h with h1 h2
  subst h1 h2;simp only [Bool.false_eq_true,if_false];exact hK _ _ (StepP.then r (StepP.same R fun av e=>by injection e with e; rw [← e]; exact ⟨#[],rfl,trivial⟩))
 ·simp only [if_true]
  refine .inl ?_;unfold Oper.wp;split at h
  ·rw [Option.map_eq_some_iff] at h
   obtain ⟨v,hv,h⟩:=h;injection h with h1 h2
   subst h1 h2;obtain ⟨y,g1,g2⟩:=opq_R hX hρ R.ob hv;rw [g1];exact hK _ _ (StepP.then r (StepP.same R fun av e=>by injection e with e; rw [← e]; exact g2))
  ·rw [Option.map_eq_some_iff] at h
   obtain ⟨⟨v,ob⟩,hv,h⟩:=h;injection h with h1 h2
   subst h1 h2;have hnew:ob≠none→¬ E.D s.c:=fun hn=>by
    cases ob with
    | none=>exact absurd rfl hn
    | some o=>exact hf s.c (Nat.le_refl _) (by simp [newS])
   obtain ⟨y,w',g1,g2⟩:=opa_R hX hρ (fun _=>rfl) R (fun _ _ h=>h) hnew hv;rw [g1];exact hK _ _ (StepP.then r (StepP.of_made g2))
  ·rw [Option.map_eq_some_iff] at h
   obtain ⟨⟨v,s''⟩,hv,h⟩:=h;injection h with h1 h2
   subst h1 h2;exact ope_R hX hc hρ hv R hf a K Q fun y w' hs=>hK _ _ (StepP.then r hs)
end Go.Proofs.YtijegngfclkdaaaGreatDoor.Ev
