/-
  Pieces of the proof: part 3 of 54.
  Conditions: none.
-/
import Derived.Test.YtijegngfclkdaaaGreatDoorW02
set_option linter.unusedVariables false
set_option linter.unusedSimpArgs false
set_option maxHeartbeats 100000000
set_option maxRecDepth 100000
namespace Go.Proofs.YtijegngfclkdaaaGreatDoor.Ev
open Go
variable {σ:Type}
theorem run_mapM_list {P:Program} {α β:Type} {w:World} (f:α→Sem β):∀ {l:List α} {r:List β},Rel2 (fun x y=>(f x).run P w=.ok y w) l r→(l.mapM f).run P w=.ok r w
 | [],[],_=>by simp [List.mapM_nil]
 | x :: l,y :: r,⟨a,b⟩=>by simp [List.mapM_cons,a,run_mapM_list f b]
theorem run_mapM {P:Program} {α β:Type} {w:World} (f:α→Sem β) {A:Array α} {r:List β} (h:Rel2 (fun x y=>(f x).run P w=.ok y w) A.toList r):(A.mapM f).run P w=.ok r.toArray w:=by
 rw [Array.mapM_eq_mapM_toList,Sem.run_map,run_mapM_list f h];rfl
theorem mapO_spec {α β:Type} {f:α→Option β}:∀ {l:List α} {r:List β},mapO f l=some r→Rel2 (fun x y=>f x=some y) l r
 | [],r,h=>by simp only [mapO] at h; injection h with h; subst h; trivial
 | x :: l,r,h=>by
  simp only [mapO,Option.bind_eq_some_iff] at h;obtain ⟨y,h1,r',h2,h3⟩:=h;injection h3 with h3
  subst h3;exact ⟨h1,mapO_spec h2⟩
theorem foldl_set (off:Nat):∀ (vs:List Value) (i:Nat) (A:Array Value) (k:Nat),off + i + vs.length≤A.size →
  ((vs.zipIdx i).foldl (fun cs (p:Value×Nat)=>cs.setIfInBounds (off + p.2) p.1) A)[k]?=if off + i≤k∧k < off + i + vs.length then vs[k - (off + i)]? else A[k]?
 | [],i,A,k,_=>by rw [if_neg (by simp only [List.length_nil]; omega)]; rfl
 | v :: vs,i,A,k,h=>by
  rw [List.zipIdx_cons,List.foldl_cons,foldl_set off vs (i + 1) _ k (by simp at h ⊢; omega)];have hlt:off + i < A.size:=by simp at h; omega
  by_cases h1:off + (i + 1)≤k∧k < off + (i + 1) + vs.length
  ·rw [if_pos h1,if_pos (by simp; omega),show k - (off + i)=(k - (off + (i + 1))) + 1 by omega,List.getElem?_cons_succ]
  ·rw [if_neg h1]
   by_cases h2:k=off + i
   ·subst h2
    rw [if_pos (by simp),Nat.sub_self,Array.getElem?_setIfInBounds_self_of_lt hlt];rfl
   ·rw [if_neg (by simp; omega),Array.getElem?_setIfInBounds_ne (Ne.symm h2)]
theorem foldl_size (off:Nat):∀ (vs:List (Value×Nat)) (A:Array Value),(vs.foldl (fun cs (p:Value×Nat)=>cs.setIfInBounds (off + p.2) p.1) A).size=A.size
 | [],A=>rfl
 | v :: vs,A=>by rw [List.foldl_cons,foldl_size off vs]; simp
theorem fill_R {E:Env} (place place':Nat→Option (Nat×Nat)):∀ {ps:List (Nat×List Ce)} {qs:List (Nat×Value)} {cs r:List Ce} {A:Array Value},fillC place cs ps=some r→Rel2 (RC E) cs A.toList →
  Rel2 (fun x y=>x.1=y.1∧Rel2 (RC E) x.2 y.2.cells.toList) ps qs→(∀ i x,place i=some x→place' i=some x)→∃ B,Instr.fill place' A qs=some B∧Rel2 (RC E) r B.toList
 | [],[],cs,r,A,h,hA,_,_=>by simp only [fillC] at h; injection h with h; subst h; exact ⟨A,rfl,hA⟩
 | (i,l) :: ps,(j,v) :: qs,cs,r,A,h,hA,⟨⟨hi,hv⟩,hq⟩,hp=>by
  simp only [fillC,Option.bind_eq_some_iff] at h;obtain ⟨⟨off,size⟩,h1,h2⟩:=h;dsimp only at h2;rw [gd_some,Option.bind_eq_some_iff] at h2;obtain ⟨h2,cs',h3,h4⟩:=h2;dsimp only at hi hv;subst hi;have hsz:l.length=size:=Nat.eq_of_beq_eq_true h2;have hlen:=hv.length;have hAl:=hA.length;obtain ⟨h5,_⟩:=lay_spec h3;have e1:v.cells.size=size:=by rw [← hsz,hlen]; simp
  simp only [Array.length_toList] at hlen hAl;have hc:¬ (v.cells.size≠size || off + v.cells.size > A.size)=true:=by simp; omega
  obtain ⟨B,b1,b2⟩:=fill_R place place' (ps:=ps) (qs:=qs) (A:=v.cells.zipIdx.foldl (fun cs (c,j)=>cs.setIfInBounds (off + j) c) A) h4 (by
   have ez:v.cells.zipIdx.foldl (fun cs (c,j)=>cs.setIfInBounds (off + j) c) A=(v.cells.toList.zipIdx 0).foldl (fun cs (p:Value×Nat)=>cs.setIfInBounds (off + p.2) p.1) A:=by
    rw [← Array.foldl_toList,Array.toList_zipIdx]
   rw [ez];refine Rel2.of_get (by rw [lay_length h3,hAl,Array.length_toList,foldl_size]) fun k x y hx hy=>?_
   rw [Array.getElem?_toList,foldl_set off _ _ _ _ (by simp; omega)] at hy;rw [lay_get h3] at hx;simp only [Nat.add_zero,Array.length_toList] at hy
   by_cases hk:off≤k∧k < off + l.length
   ·rw [if_pos hk] at hx
    rw [if_pos (by omega)] at hy;obtain ⟨y',g1,g2⟩:=hv.get hx;rw [hy] at g1;injection g1 with g1
    rw [g1]; exact g2
   ·rw [if_neg hk] at hx
    rw [if_neg (by omega)] at hy;obtain ⟨y',g1,g2⟩:=hA.get hx;rw [Array.getElem?_toList,hy] at g1;injection g1 with g1
    rw [g1]; exact g2) hq hp
  refine ⟨B,?_,b2⟩;simp only [Instr.fill,hp _ _ h1];rw [if_neg hc];exact b1
theorem parts_R {X:Cx σ} {E:Env} {ρ:Operand→Option AV} {r:Operand→Value} (hρ:∀ x a,ρ x=some a→RV E a (r x)):∀ {l:List (Nat×Operand)} {ps:List (Nat×List Ce)},
  mapO (fun p:Nat×Operand=>(ρ p.2).bind fun v=>(cells v).map fun l=>(p.1,l)) l=some ps→Rel2 (fun x y=>x.1=y.1∧Rel2 (RC E) x.2 y.2.cells.toList) ps (l.map fun (i,x)=>(i,r x))
 | [],ps,h=>by simp only [mapO] at h; injection h with h; subst h; trivial
 | (i,x) :: l,ps,h=>by
  simp only [mapO,Option.bind_eq_some_iff,Option.map_eq_some_iff] at h;obtain ⟨y,⟨v,h1,c,h2,h3⟩,r',h4,h5⟩:=h;injection h5 with h5
  subst h3 h5;exact ⟨⟨rfl,cells_R h2 (hρ _ _ h1)⟩,parts_R (X:=X) hρ h4⟩
theorem build_R {X:Cx σ} (hX:XOK X) {E:Env} {w:World} {ρ:Operand→Option AV} {r:Operand→Value} (hρ:∀ x a,ρ x=some a→RV E a (r x)) {t:TypeId} {parts:Array (Nat×Operand)} {d:TypeDesc} {i:TI} {z:List Ce} {ps:List (Nat×List Ce)} {v:AV}
  (hd:X.und t=some d) (hi:X.inf t=some i) (hz:cesOf i.zc=some z) (hps:mapO (fun p:Nat×Operand=>(ρ p.2).bind fun v=>(cells v).map fun l=>(p.1,l)) parts.toList=some ps)
  (h:buildC X d z ps=some v):∃ y,(Instr.build t (parts.map fun (i,x)=>(i,r x))).run X.P w=.ok y w∧RV E v y:=by
 obtain ⟨ti,i1,i2,_,i4⟩:=hX.inf _ _ hi;have hzr:Rel2 (RC E) z i.zero.cells.toList:=cesOf_R hz;have hpr:=parts_R (X:=X) hρ hps;have hq:(parts.map fun (i,x)=>(i,r x)).toList=parts.toList.map fun (i,x)=>(i,r x):=by simp
 unfold buildC at h;unfold Instr.build;simp only [Sem.run_bind,run_zero' i1 i4,Result.andThen_ok,Sem.run_pure,run_underlying (hX.und _ _ hd)];split at h
 ·rename_i fs
  simp only [Option.bind_eq_some_iff,Option.map_eq_some_iff] at h;obtain ⟨pl,h1,l,h2,rfl⟩:=h;have hpl:Rel2 (fun (f:Field) y=>(do pure (f.offset,← sizeOf f.type):Sem (Nat×Nat)).run X.P w=.ok y w) fs.toList pl:=by
   refine (mapO_spec h1).mono fun f y hy=>?_
   rw [Option.map_eq_some_iff] at hy;obtain ⟨fi,f1,rfl⟩:=hy;obtain ⟨ti',j1,j2,_⟩:=hX.inf _ _ f1;simp [run_sizeOf' j1,j2]
  obtain ⟨B,b1,b2⟩:=fill_R (E:=E) _ (fun i=>pl.toArray[i]?) h2 hzr hpr (fun i x hx=>by simpa using hx);refine ⟨.agg B,?_,B,rfl,b2⟩;simp only [Sem.run_bind,run_mapM _ hpl,Result.andThen_ok,hq]
  erw [b1]
  rfl
 ·rename_i n e
  simp only [Option.bind_eq_some_iff,Option.map_eq_some_iff] at h;obtain ⟨ie,h1,l,h2,rfl⟩:=h;obtain ⟨ti',j1,j2,_⟩:=hX.inf _ _ h1;obtain ⟨B,b1,b2⟩:=fill_R (E:=E) _ (fun i=>some (i * ie.size,ie.size)) h2 hzr hpr (fun i x hx=>hx);refine ⟨.agg B,?_,B,rfl,b2⟩;simp only [Sem.run_bind,run_sizeOf' j1,Result.andThen_ok,j2,hq]
  erw [b1]
  rfl
 ·cases h
section
variable {P:Program} {n:Nat} {t:TypeId} {w:World}
theorem eqi_ptr {e:TypeId} (h:P.underlying t=some (.pointer e)) (q:Addr):(Op.equalIn (n + 1) t (.pointer (some q)) (.pointer none)).run P w=.ok false w∧(Op.equalIn (n + 1) t (.pointer none) (.pointer (some q))).run P w=.ok false w:=by
 constructor <;> simp only [Op.equalIn,Sem.run_bind,run_underlying h,Result.andThen_ok,Sem.run_pure,Option.isNone_some]
theorem eqi_sl {e:TypeId} (h:P.underlying t=some (.slice e)) (q:Addr) (a b c d:Nat):(Op.equalIn (n + 1) t (.slice (some q) a b) (.slice none c d)).run P w=.ok false w∧(Op.equalIn (n + 1) t (.slice none c d) (.slice (some q) a b)).run P w=.ok false w:=by
 constructor <;> simp only [Op.equalIn,Sem.run_bind,run_underlying h,Result.andThen_ok,Sem.run_pure,Option.isNone_some]
theorem eqi_mp {k e:TypeId} (h:P.underlying t=some (.map k e)) (q:Nat):(Op.equalIn (n + 1) t (.map (some q)) (.map none)).run P w=.ok false w∧(Op.equalIn (n + 1) t (.map none) (.map (some q))).run P w=.ok false w:=by
 constructor <;> simp only [Op.equalIn,Sem.run_bind,run_underlying h,Result.andThen_ok,Sem.run_pure,Option.isNone_some]
theorem eqi_fn {p r:Array TypeId} {v:Bool} (h:P.underlying t=some (.func p r v)) (f:Fn) (A B:Array Value):(Op.equalIn (n + 1) t (.func f A B) .nilFunc).run P w=.ok false w∧(Op.equalIn (n + 1) t .nilFunc (.func f A B)).run P w=.ok false w:=by
 constructor <;> simp only [Op.equalIn,Sem.run_bind,run_underlying h,Result.andThen_ok,Sem.run_pure]
end
theorem equal_ref {X:Cx σ} (hX:XOK X) {E:Env} {w:World} {t:TypeId} {d:TypeDesc} {a:AV} {u v:Value} (hd:X.und t=some d) (hr:RV E a u) (h1:fitsRef d a=true) (h2:fitsNil d v=true) :
  (Op.equal t u v).run X.P w=.ok false w∧(Op.equal t v u).run X.P w=.ok false w∧(∀ op x y,eqGuard op t x y u v=pure ())∧(∀ op x y,eqGuard op t x y v u=pure ()) ∧
   binOp .eql t u v=(do pure (.bool (← Op.equal t u v)))∧binOp .neq t u v=(do pure (.bool (!(← Op.equal t u v))))∧binOp .eql t v u=(do pure (.bool (← Op.equal t v u)))∧binOp .neq t v u=(do pure (.bool (!(← Op.equal t v u)))):=by
 have hu:=hX.und _ _ hd;unfold fitsRef at h1;split at h1
 ·rename_i e id off
  obtain ⟨_,rfl⟩:=hr;cases v with
  | pointer p=>cases p with
   | none=>exact ⟨(eqi_ptr hu _).1,(eqi_ptr hu _).2,fun op x y=>by cases op <;> rfl,fun op x y=>by cases op <;> rfl,rfl,rfl,rfl,rfl⟩
   | some p=>simp [fitsNil] at h2
  | _=>simp [fitsNil] at h2
 ·rename_i e k
  obtain ⟨_,_,q,rfl⟩:=hr;cases v with
  | pointer p=>cases p with
   | none=>exact ⟨(eqi_ptr hu _).1,(eqi_ptr hu _).2,fun op x y=>by cases op <;> rfl,fun op x y=>by cases op <;> rfl,rfl,rfl,rfl,rfl⟩
   | some p=>simp [fitsNil] at h2
  | _=>simp [fitsNil] at h2
 ·rename_i e id off len cp ez
  obtain ⟨_,q,c,rfl,_⟩:=hr;cases v with
  | slice p=>cases p with
   | none=>exact ⟨(eqi_sl hu _ _ _ _ _).1,(eqi_sl hu _ _ _ _ _).2,fun op x y=>by cases op <;> rfl,fun op x y=>by cases op <;> rfl,rfl,rfl,rfl,rfl⟩
   | some p=>simp [fitsNil] at h2
  | _=>simp [fitsNil] at h2
 ·rename_i kt et id
  obtain ⟨_,rfl⟩:=hr;cases v with
  | map p=>cases p with
   | none=>exact ⟨(eqi_mp hu _).1,(eqi_mp hu _).2,fun op x y=>by cases op <;> rfl,fun op x y=>by cases op <;> rfl,rfl,rfl,rfl,rfl⟩
   | some p=>simp [fitsNil] at h2
  | _=>simp [fitsNil] at h2
 ·rename_i ps rs va f fi ca
  obtain ⟨A,B,rfl,_⟩:=hr;cases v with
  | nilFunc=>exact ⟨(eqi_fn hu _ _ _).1,(eqi_fn hu _ _ _).2,fun op x y=>by cases op <;> rfl,fun op x y=>by cases op <;> rfl,rfl,rfl,rfl,rfl⟩
  | _=>simp [fitsNil] at h2
 ·cases h1
theorem kn_eq {j k:IntKind} (h:Nat.beq (kn j) (kn k)=true):j=k:=by
 cases j <;> cases k <;> first | rfl | cases h
theorem wrapF_eq (k:IntKind) (n:Int):wrapF k n=k.wrap n:=by
 unfold wrapF;split
 ·rename_i m
  split
  ·rename_i h
   have h:=Nat.le_of_ble_eq_true h;show (m:Int)=k.wrap (m:Int);unfold IntKind.wrap;cases k <;> simp [IntKind.signed,IntKind.bits,kmax] at h ⊢ <;> omega
  ·rfl
 ·rfl
theorem eqI_eq (a b:Int):eqI a b=(a == b):=by
 cases a <;> cases b <;> simp only [eqI] <;> rw [Bool.eq_iff_iff]
 ·rw [Nat.beq_eq,beq_iff_eq]; exact ⟨fun h=>by rw [h],fun h=>by injection h⟩
 ·simp
 ·simp
 ·rw [Nat.beq_eq,beq_iff_eq]; exact ⟨fun h=>by rw [h],fun h=>by injection h⟩
theorem leI_eq (a b:Int):leI a b=decide (a≤b):=by
 cases a <;> cases b <;> simp only [leI] <;> rw [Bool.eq_iff_iff,decide_eq_true_iff]
 ·rw [Nat.ble_eq]; simp [Int.ofNat_le]
 ·simp only [Bool.false_eq_true,false_iff,Int.negSucc_eq,Int.ofNat_eq_natCast]; omega
 ·simp only [true_iff,Int.negSucc_eq,Int.ofNat_eq_natCast]; omega
 ·rw [Nat.ble_eq]; simp only [Int.negSucc_eq]; omega
theorem intFast_R {P:Program} {op:BinOp} {t:TypeId} {x y:Operand} {u v r:Value} (h:intFast op u v=some r) (w:World):(do eqGuard op t x y u v; binOp op t u v).run P w=.ok r w∧r.oneCell'=true:=by
 cases u with
 | int j a=>cases v with
  | int k b =>
   simp only [intFast] at h;split at h
   ·rename_i hk
    have:=kn_eq hk;subst this;rw [eqGuard_at_int];unfold intBin at h;cases op <;> simp only [reduceCtorEq,Option.some.injEq] at h <;> subst h <;> refine ⟨?_,rfl⟩ <;> simp only [pure_bind,binOp_add,binOp_sub,binOp_eql,binOp_neq,binOp_lss,binOp_leq,binOp_gtr,binOp_geq,Op.intArith,Op.intCmp,wrapF_eq,eqI_eq,leI_eq,Sem.run_pure]
    ·rfl
    ·rfl
    ·rfl
    ·congr 2; rw [Bool.eq_iff_iff]; simp
    ·congr 2; rw [Bool.eq_iff_iff]; simp
   ·cases h
  | _=>simp [intFast] at h
 | _=>simp [intFast] at h
theorem evBin_R {X:Cx σ} (hX:XOK X) {E:Env} {w:World} {op:BinOp} {t:TypeId} {x y:Operand} {a b v:AV} {u u':Value} (h:evBin X op t x y a b=some v) (ha:RV E a u) (hb:RV E b u') :
  ∃ r,(do eqGuard op t x y u u'; binOp op t u u').run X.P w=.ok r w∧RV E v r:=by
 unfold evBin at h;split at h
 ·rename_i p q hp hq
  rw [plain_R hp ha,plain_R hq hb];split at h
  ·rename_i r hr
   injection h with h
   subst h;obtain ⟨g1,g2⟩:=intFast_R (P:=X.P) (t:=t) (x:=x) (y:=y) hr w;exact ⟨r,g1,rfl,g2⟩
  ·simp only [Option.bind_eq_some_iff,Option.map_eq_some_iff] at h
   obtain ⟨r,h1,v',h2,rfl⟩:=h;exact ⟨r,psem_run h1 w,v1Of_R h2⟩
 ·rename_i q hp hq
  rw [plain_R hq hb];simp only [Option.bind_eq_some_iff,gd_some,Bool.and_eq_true] at h;obtain ⟨d,hd,⟨h1,h2⟩,h3⟩:=h;obtain ⟨e1,_,g1,_,b1,b2,_,_⟩:=equal_ref hX (w:=w) hd ha h1 h2;cases op <;> simp only [reduceCtorEq,Option.some.injEq] at h3 <;> subst h3
  ·exact ⟨.bool false,by rw [g1,b1]; simp [e1],rfl,rfl⟩
  ·exact ⟨.bool true,by rw [g1,b2]; simp [e1],rfl,rfl⟩
 ·rename_i q hp hq
  rw [plain_R hp ha];simp only [Option.bind_eq_some_iff,gd_some,Bool.and_eq_true] at h;obtain ⟨d,hd,⟨h1,h2⟩,h3⟩:=h;obtain ⟨_,e1,_,g1,_,_,b1,b2⟩:=equal_ref hX (w:=w) hd hb h1 h2;cases op <;> simp only [reduceCtorEq,Option.some.injEq] at h3 <;> subst h3
  ·exact ⟨.bool false,by rw [g1,b1]; simp [e1],rfl,rfl⟩
  ·exact ⟨.bool true,by rw [g1,b2]; simp [e1],rfl,rfl⟩
 ·cases h
end Go.Proofs.YtijegngfclkdaaaGreatDoor.Ev
namespace Go.Proofs.YtijegngfclkdaaaGreatDoor.Ev
open Go
variable {σ:Type}
theorem bytesC_R {E:Env}:∀ {l:List Ce} {vs:List Value} {bs:List UInt8},bytesC l=some bs→Rel2 (RC E) l vs→∃ ns:List Int,vs=ns.map (Value.int .u8)∧ns.map (fun n=>UInt8.ofNat n.toNat)=bs
 | [],vs,bs,h,hr=>by simp only [bytesC] at h; injection h with h; subst h; rw [hr.nil_left]; exact ⟨[],rfl,rfl⟩
 | c :: l,[],_,_,hr=>hr.elim
 | c :: l,v :: vs,bs,h,⟨hc,hr⟩=>by
  unfold bytesC at h;split at h
  ·rename_i e; cases e
  ·rename_i n l' e
   injection e with e1 e2
   subst e1 e2;rw [gd_some,Option.map_eq_some_iff] at h;obtain ⟨_,bs',h1,rfl⟩:=h;obtain ⟨ns,rfl,h2⟩:=bytesC_R h1 hr;refine ⟨(n:Int) :: ns,?_,?_⟩
   ·rw [hc.1]; rfl
   ·simp [h2]
  ·cases h
theorem push_list (ns:List Int):∀ s:ByteArray,ns.foldl (fun r n=>r.push (UInt8.ofNat n.toNat)) s=⟨s.data ++ (ns.map fun n=>UInt8.ofNat n.toNat).toArray⟩:=by
 induction ns with
 | nil=>intro s; simp
 | cons n ns ih =>
  intro s;rw [List.foldl_cons,ih]
  congr 1
  apply Array.ext'
  simp [ByteArray.push]
theorem slice_lies {E:Env} {w:World} {id off len ez:Nat} {cp:Option Nat} {y:Value} (hy:RA E (.sl id off len cp ez) y) {l:List Ce} {ty:TypeId} (hr:RO E id w (.row l ty)) {k:Nat} {cs:List Ce} (hk:k≤len) (hc:cut l off (k * ez)=some cs) :
  ∃ a c vs,y=.slice (some a) len c∧vs.length=k * ez∧Rel2 (RC E) cs vs∧(∀ P:Program,(loadCells a (k * ez)).run P w=.ok vs.toArray w):=by
 obtain ⟨_,a,c,h1,h2,h3,_⟩:=hy;obtain ⟨c1,vs,c2,c3,c4⟩:=cut_lies hr hc;refine ⟨a,c,vs,h1,c2,c3,fun P=>?_⟩;rcases h3 with h3 | ⟨h3,_⟩
 ·have hk0:k=0:=by omega
  subst hk0;simp only [Nat.zero_mul] at c2 ⊢;rw [List.length_eq_zero_iff.1 c2];rfl
 ·rw [h3]
  exact loadCells_lies c4 c2
theorem str_R {X:Cx σ} (hX:XOK X) {E:Env} {w:World} {src dst e:TypeId} {id off len ez:Nat} {cp:Option Nat} {y:Value} (hy:RA E (.sl id off len cp ez) y) (hs:X.und src=some (.slice e)) (hd:X.und dst=some .string) (he:X.und e=some (.int .u8))
  {l:List Ce} {ty:TypeId} (hr:RO E id w (.row l ty)) (hz:ez=1) {cs:List Ce} (hc:cut l off len=some cs) {bs:List UInt8} (hb:bytesC cs=some bs):(convert src dst y).run X.P w=.ok (.string ⟨bs.toArray⟩) w:=by
 subst hz;obtain ⟨a,c,vs,rfl,v1,v2,v3⟩:=slice_lies hy hr (Nat.le_refl _) (k:=len) (by simpa using hc);obtain ⟨ns,rfl,n2⟩:=bytesC_R hb v2;rw [run_convert_bytes_string w src dst e _ _ _ (hX.und _ _ hs) (hX.und _ _ he) (hX.und _ _ hd),run_bytesToString w a len c ns (by have:=v3 X.P; rw [Nat.mul_one] at this; exact this),push_list,n2]
 congr 2
 simp
theorem boundOf_R {E:Env} {ρ:Operand→Option AV} {r:Operand→Value} (hρ:∀ x a,ρ x=some a→RV E a (r x)) {d n:Nat} {o:Option Operand} (h:boundOf d ρ o=some n):(o=none∧n=d)∨∃ x k,o=some x∧r x=.int k (n:Int):=by
 cases o with
 | none=>simp only [boundOf] at h; injection h with h; exact .inl ⟨rfl,h.symm⟩
 | some x =>
  simp only [boundOf,Option.bind_eq_some_iff] at h;obtain ⟨a,h1,h2⟩:=h;obtain ⟨k,hk⟩:=natOf_R h2 (hρ _ _ h1);exact .inr ⟨x,k,rfl,hk⟩
theorem bounds_R {E:Env} {P:Program} {w:World} {ρ:Operand→Option AV} {r:Operand→Value} (hρ:∀ x a,ρ x=some a→RV E a (r x)) {isS:Bool} {len cap l h:Nat} {lo hi:Option Operand} (hl:boundOf 0 ρ lo=some l) (hh:boundOf len ρ hi=some h)
  (h1:l≤h) (h2:h≤cap):(Instr.sliceBounds isS len cap (lo.map r) (hi.map r) none).run P w=.ok (l,h,cap) w:=by
 unfold Instr.sliceBounds;rcases boundOf_R hρ hl with ⟨rfl,rfl⟩ | ⟨x,k,rfl,hx⟩ <;> rcases boundOf_R hρ hh with ⟨rfl,rfl⟩ | ⟨x',k',rfl,hx'⟩
 ·simp
 ·simp [hx',sliceBound_R h2]
 ·simp [hx,sliceBound_R h1]
 ·simp [hx,hx',sliceBound_R h1,sliceBound_R h2]
theorem bounds3_R {E:Env} {P:Program} {w:World} {ρ:Operand→Option AV} {r:Operand→Value} (hρ:∀ x a,ρ x=some a→RV E a (r x)) {isS:Bool} {len cap l h m:Nat} {lo hi:Option Operand} {x2:Operand} (hl:boundOf 0 ρ lo=some l) (hh:boundOf len ρ hi=some h) (hm:boundOf 0 ρ (some x2)=some m)
  (hi1:hi.isSome=true) (h1:l≤h) (h2:h≤m) (h3:m≤cap):(Instr.sliceBounds isS len cap (lo.map r) (hi.map r) (some (r x2))).run P w=.ok (l,h,m) w:=by
 unfold Instr.sliceBounds;rcases boundOf_R hρ hm with ⟨h,_⟩ | ⟨x,k,hx0,hx⟩
 ·cases h
 ·injection hx0 with hx0
  subst hx0;rcases boundOf_R hρ hl with ⟨rfl,rfl⟩ | ⟨x',k',rfl,hx'⟩ <;> rcases boundOf_R hρ hh with ⟨rfl,rfl⟩ | ⟨x'',k'',rfl,hx''⟩
  ·simp at hi1
  ·simp [hx,hx'',sliceBound_R h2,sliceBound_R h3]
  ·simp at hi1
  ·simp [hx,hx',hx'',sliceBound_R h1,sliceBound_R h2,sliceBound_R h3]
theorem sub_slice {E:Env} {id off ez:Nat} {a:Addr} {c l h m:Nat} (hd:E.D id) (hc:(c=0∧a.block=E.ι id)∨(a=⟨E.ι id,E.sh id + off,none⟩∧E.sh id + off + c * ez≤E.κ id)) (h1:l≤h) (h2:h≤m) (h3:m≤c) (cp':Option Nat) (hcp:∀ k,cp'=some k→m - l=k) (hcm:cp'=none→m - l≤9223372036854775807:=by intro h; cases h) :
  RA E (.sl id (off + l * ez) (h - l) cp' ez) (.slice (some (if m=l then a else a.add (l * ez))) (h - l) (m - l)):=by
 refine ⟨hd,_,_,rfl,by omega,?_,hcp,hcm⟩
 by_cases hm:m=l
 ·rw [if_pos hm]
  refine .inl ⟨by omega,?_⟩;rcases hc with hc | ⟨rfl,_⟩
  ·exact hc.2
  ·rfl
 ·rw [if_neg hm]
  rcases hc with hc | ⟨rfl,hc⟩
  ·omega
  ·right
   refine ⟨by rw [add_off,Nat.add_assoc],?_⟩;have e:l * ez + (m - l) * ez=m * ez:=by rw [← Nat.add_mul]; congr 1; omega
   have:=Nat.mul_le_mul_right ez h3;omega
theorem sliceAt_sl_R {X:Cx σ} (hX:XOK X) {w:World} {t e:TypeId} {ie:TI} {a:Addr} {len c l h m:Nat} {lo hi mx:Option Value} (hd:X.und t=some (.slice e)) (hi':X.inf e=some ie) (hb:(Instr.sliceBounds true len c lo hi mx).run X.P w=.ok (l,h,m) w) :
  (Instr.sliceAt t (.slice (some a) len c) lo hi mx).run X.P w=.ok (.slice (some (if m=l then a else a.add (l * ie.size))) (h - l) (m - l)) w:=by
 obtain ⟨ti,i1,i2,_⟩:=hX.inf _ _ hi';simp only [Instr.sliceAt,Sem.run_bind,run_underlying (hX.und _ _ hd),Result.andThen_ok,Instr.slice,hb,run_sizeOf' i1,i2,Sem.run_pure];split <;> rfl
theorem sliceAt_arr_R {X:Cx σ} (hX:XOK X) {w:World} {t e:TypeId} {ie:TI} {a:Addr} {n l h m:Nat} {lo hi mx:Option Value} (hd:X.und t=some (.array n e)) (hi':X.inf e=some ie) (hb:(Instr.sliceBounds false n n lo hi mx).run X.P w=.ok (l,h,m) w) :
  (Instr.sliceAt t (.pointer (some a)) lo hi mx).run X.P w=.ok (.slice (some (if m=l then a else a.add (l * ie.size))) (h - l) (m - l)) w:=by
 obtain ⟨ti,i1,i2,_⟩:=hX.inf _ _ hi';simp only [Instr.sliceAt,Sem.run_bind,run_underlying (hX.und _ _ hd),Result.andThen_ok,Instr.sureAddr,hb,run_sizeOf' i1,i2,Sem.run_pure]
theorem findMap_R {k:IntKind} {j:IntKind} {n:Int}:∀ {es:List MapEntry} {i:Nat} {r:Option (Nat×Value)},findMap (.int j n) es i=some r→Instr.findNow (.int k) (.int j n) es i=some r
 | [],i,r,h=>by simpa [findMap,Instr.findNow] using h
 | e :: es,i,r,h=>by
  unfold findMap at h;split at h
  ·rename_i j0 a j' b hk he
   injection hk with hk1 hk2
   subst hk1 hk2;rw [gd_some] at h;obtain ⟨h1,h2⟩:=h;have hj:j=j':=of_decide_eq_true h1;rw [Instr.findNow,he];subst hj;simp only [Instr.sameNow,if_true];split at h2
   ·rename_i hn; simp only [hn]; exact h2
   ·rename_i hn; simp only [hn]; exact findMap_R h2
  ·cases h
theorem checkKey_int {P:Program} {w:World} {n:Nat} {b:Bool} {t:TypeId} {k:IntKind} {v:Value} (h:P.underlying t=some (.int k)):(Instr.checkKey b (n + 1) t v).run P w=.ok () w:=by
 rw [Instr.checkKey,Sem.run_bind,run_underlying h];rfl
theorem checkKey_int' {P:Program} {w:World} {b:Bool} {t:TypeId} {k:IntKind} {v:Value} (h:P.underlying t=some (.int k)):(Instr.checkKey b 10000 t v).run P w=.ok () w:=checkKey_int (n:=9999) h
theorem run_findKey {P:Program} {w:World} {t:TypeId} {k j:IntKind} {n:Int} {es:List MapEntry} {r:Option (Nat×Value)} (h:P.underlying t=some (.int k)) (hf:findMap (.int j n) es 0=some r):(Instr.findKey t (.int j n) es).run P w=.ok r w:=by
 unfold Instr.findKey;rw [Sem.run_bind,run_underlying h,Result.andThen_ok,findMap_R hf];rfl
theorem lookMap_some {S:Tr Ob} {id:Nat} {p:List MapEntry×Nat} (h:lookMap S id=some p):S.get id=some (.map p.1 p.2):=by
 unfold lookMap at h;split at h
 ·rename_i es c e; injection h with h; subst h; exact e
 ·cases h
theorem findMap_SM {k:Value}:∀ {es r:List MapEntry} {i:Nat},SM es r→findMap k es i=findMap k r i
 | [],[],_,_=>rfl
 | a :: l,b :: r,i,⟨⟨h1,h2⟩,h3⟩=>by
  have ih:=findMap_SM (k:=k) (i:=i + 1) h3;simp only [findMap,h1,h2,ih]
theorem run_getObj {P:Program} {w:World} {b:Nat} {es:Array MapEntry} {c:Nat} (h:w.heap[b]?=some (.map es c)):(getObj b).run P w=.ok (.map es c) w:=by
 simp [getObj,Sem.run,h]
theorem evLen_R {X:Cx σ} (hX:XOK X) {E:Env} {w:World} {S:Tr Ob} (hS:∀ id ob,S.get id=some ob→E.D id∧RO E id w ob) {t:TypeId} {v u:AV} {y:Value} {ts:Array TypeId} {ty:TypeId} (ht:ts[0]?=some t) (h:evLen X t v S=some u) (hv:RV E v y) :
  ∃ r,(Builtin.len_ ts ty #[y]).run X.P w=.ok r w∧RV E u r:=by
 simp only [evLen,Option.bind_eq_some_iff] at h;obtain ⟨d,hd,h⟩:=h;have hu:=hX.und _ _ hd;unfold Builtin.len_;split at h
 ·rename_i n e
  injection h with h; subst h
  exact ⟨goInt n,by simp [ht,run_underlying hu],rfl,rfl⟩
 ·rename_i e
  rw [Option.bind_eq_some_iff] at h;obtain ⟨d',hd',h⟩:=h;split at h
  ·rename_i n e'
   injection h with h; subst h
   exact ⟨goInt n,by simp [ht,run_underlying hu,run_underlying (hX.und _ _ hd')],rfl,rfl⟩
  ·cases h
 ·rename_i e
  split at h
  ·rename_i id off n cp ez
   injection h with h; subst h
   obtain ⟨_,a,c,rfl,_⟩:=hv;exact ⟨goInt n,by simp [ht,run_underlying hu],rfl,rfl⟩
  ·cases h
 ·rename_i k e
  split at h
  ·rename_i id
   rw [Option.map_eq_some_iff] at h;obtain ⟨p,h1,rfl⟩:=h;obtain ⟨_,rfl⟩:=hv;obtain ⟨r,k,this,hm⟩:=(hS _ _ (lookMap_some h1)).2;refine ⟨goInt p.1.length,?_,rfl,rfl⟩;simp [ht,run_underlying hu,run_getObj this,hm.length]
  ·cases h
 ·cases h
end Go.Proofs.YtijegngfclkdaaaGreatDoor.Ev
