/-
  Pieces of the proof: part 4 of 54.
  Conditions: none.
-/
import Derived.Laws.Append
import Derived.Test.YtijegngfclkdaaaGreatDoorW03
set_option linter.unusedVariables false
set_option linter.unusedSimpArgs false
set_option maxHeartbeats 100000000
set_option maxRecDepth 100000
namespace Go.Proofs.YtijegngfclkdaaaGreatDoor.Ev
open Go
variable {σ:Type}
theorem v_of_psem {X:Cx σ} {E:Env} {w:World} {s:Sem Value} {v:AV} (h:((psem X.P s).bind fun r=>(v1Of r).map AV.w)=some v):∃ y,s.run X.P w=.ok y w∧RV E v y:=by
 simp only [Option.bind_eq_some_iff,Option.map_eq_some_iff] at h;obtain ⟨r,h1,v',h2,rfl⟩:=h;exact ⟨r,psem_run h1 w,v1Of_R h2⟩
theorem atL_R {E:Env}:∀ {l:List Ce} {r:List At} {vs:List Value},atL l=some r→Rel2 (RC E) l vs→Rel2 (RA E) r vs
 | [],r,vs,h,hr=>by simp only [atL] at h; injection h with h; subst h; rw [hr.nil_left]; trivial
 | c :: l,r,[],h,hr=>hr.elim
 | .a x :: l,r,v :: vs,h,⟨ha,hr⟩=>by
  simp only [atL,Option.map_eq_some_iff] at h;obtain ⟨r',h1,rfl⟩:=h;exact ⟨ha,atL_R h1 hr⟩
 | .fn .. :: l,r,v :: vs,h,_=>by simp [atL] at h
theorem atsOf_R {E:Env}:∀ {l:List AV} {r:List Ar} {vs:List Value},atsOf l=some r→Rel2 (RV E) l vs→Rel2 (RAr E) r vs
 | [],r,vs,h,hr=>by simp only [atsOf] at h; injection h with h; subst h; rw [hr.nil_left]; trivial
 | a :: l,r,[],h,hr=>hr.elim
 | a :: l,r,v :: vs,h,⟨ha,hr⟩=>by
  unfold atsOf at h;split at h
  ·rename_i e; cases e
  ·rename_i x l' e
   injection e with e1 e2
   subst e1 e2;rw [Option.map_eq_some_iff] at h;obtain ⟨r',h1,rfl⟩:=h;exact ⟨ha,atsOf_R h1 hr⟩
  ·rename_i cs l' e
   injection e with e1 e2
   subst e1 e2;simp only [Option.bind_eq_some_iff,Option.map_eq_some_iff] at h;obtain ⟨c,hc,r',h1,rfl⟩:=h;obtain ⟨A,e1,e2⟩:=ha;exact ⟨⟨A,e1,atL_R hc e2⟩,atsOf_R h1 hr⟩
  ·cases h
theorem mapO_R {E:Env} {ρ:Operand→Option AV} {r:Operand→Value} (hρ:∀ x a,ρ x=some a→RV E a (r x)):∀ {l:List Operand} {vs:List AV},mapO ρ l=some vs→Rel2 (RV E) vs (l.map r)
 | [],vs,h=>by simp only [mapO] at h; injection h with h; subst h; trivial
 | x :: l,vs,h=>by
  simp only [mapO,Option.bind_eq_some_iff] at h;obtain ⟨y,h1,r',h2,h3⟩:=h;injection h3 with h3
  subst h3;exact ⟨hρ _ _ h1,mapO_R hρ h2⟩
theorem mapPlain_R {E:Env} {ρ:Operand→Option AV} {r:Operand→Value} (hρ:∀ x a,ρ x=some a→RV E a (r x)):∀ {l:List Operand} {vs:List Value},mapO (fun x=>(ρ x).bind plain) l=some vs→vs=l.map r
 | [],vs,h=>by simp only [mapO] at h; injection h with h; subst h; rfl
 | x :: l,vs,h=>by
  simp only [mapO,Option.bind_eq_some_iff] at h;obtain ⟨y,⟨a,h1,h1'⟩,r',h2,h3⟩:=h;injection h3 with h3
  subst h3;rw [List.map_cons,plain_R h1' (hρ _ _ h1),mapPlain_R hρ h2]
theorem optPlain_R {E:Env} {ρ:Operand→Option AV} {r:Operand→Value} (hρ:∀ x a,ρ x=some a→RV E a (r x)) {o:Option Operand} {l:Option Value} (h:optP ρ o=some l):o.map r=l:=by
 cases o with
 | none=>simp only [optP] at h; injection h
 | some x =>
  simp only [optP,Option.map_eq_some_iff,Option.bind_eq_some_iff] at h;obtain ⟨u,⟨a,h1,h2⟩,rfl⟩:=h;rw [Option.map_some,plain_R h2 (hρ _ _ h1)]
theorem opq_sl {X:Cx σ} (hX:XOK X) {E:Env} {w:World} {ρ:Operand→Option AV} {r:Operand→Value} {S:Tr Ob} (hρ:∀ x a,ρ x=some a→RV E a (r x)) (hS:∀ id ob,S.get id=some ob→E.D id∧RO E id w ob)
  {dst:Option Tmp} {t ty:TypeId} {x:Operand} {lo hi mx:Option Operand} {pos:String} {after:Array Edge} {gu:Option (Nat×Bool)} {v:AV} (h:opq X ⟨dst,.slice t x lo hi mx,ty,pos,after,gu⟩ ρ S=some v) :
  ∃ y,(Instr.sliceAt t (r x) (lo.map r) (hi.map r) (mx.map r)).run X.P w=.ok y w∧RV E v y:=by
 simp only [opq,qPick,qBuild,qLoad,qNilCheck,qBinOp,qUnOp,qConvert,qField,qFieldAddr,qIndexAddr,qIndex,qSlice,qExtract,qMakeFunc,qLookup,qCall,Option.bind_eq_some_iff] at h;obtain ⟨a,ha,h⟩:=h;have hra:=hρ _ _ ha;split at h
 ·rename_i id off len cp ez
  simp only [Option.bind_eq_some_iff] at h;obtain ⟨d,hd,h⟩:=h;split at h
  ·rename_i e
   simp only [Option.bind_eq_some_iff,gd_some] at h;obtain ⟨ie,hi',hez,l,hl,n,hn,h⟩:=h;have hez:=Nat.eq_of_beq_eq_true hez;obtain ⟨hD,q,c,hq,hc1,hc2,hc3,hc4⟩:=hra;rw [hq];have capB:∀ m,within m len cp=true→m≤c:=fun m hm=>by
    unfold within at hm;rw [Bool.or_eq_true] at hm;rcases hm with hm | hm
    ·have:=Nat.le_of_ble_eq_true hm; omega
    ·cases cp with
     | none=>cases hm
     | some k=>have:=hc3 k rfl; have:=Nat.le_of_ble_eq_true hm; omega
   split at h
   ·simp only [gd_some,Bool.and_eq_true] at h
    obtain ⟨⟨b1,b2⟩,h⟩:=h;injection h with h
    subst h;have b1:=Nat.le_of_ble_eq_true b1;have b2:=capB _ b2;have hb:=bounds_R (P:=X.P) (w:=w) (isS:=true) (len:=len) (cap:=c) hρ hl hn b1 b2;refine ⟨_,sliceAt_sl_R hX hd hi' hb,?_⟩;rw [← hez];refine sub_slice hD hc2 b1 b2 (Nat.le_refl _) _ (fun k hk=>?_) (fun hn=>by cases cp with | none=>have:=hc4 rfl; omega | some k=>cases hn);cases cp with
    | none=>cases hk
    | some k'=>simp only [Option.map_some] at hk; injection hk with hk; rw [hc3 k' rfl]; exact hk
   ·rename_i x2
    simp only [Option.bind_eq_some_iff,gd_some,Bool.and_eq_true] at h;obtain ⟨m,hm,⟨⟨⟨b1,b2⟩,b3⟩,b4⟩,h⟩:=h;injection h with h
    subst h;have b1:=Nat.le_of_ble_eq_true b1;have b2:=Nat.le_of_ble_eq_true b2;have b3:=capB _ b3;have hb:=bounds3_R (P:=X.P) (w:=w) (isS:=true) (len:=len) (cap:=c) hρ hl hn hm b4 b1 b2 b3;refine ⟨_,sliceAt_sl_R hX hd hi' hb,?_⟩;rw [← hez];exact sub_slice hD hc2 b1 b2 b3 _ fun k hk=>by injection hk
  ·cases h
 ·rename_i id off
  simp only [Option.bind_eq_some_iff] at h;obtain ⟨d,hd,h⟩:=h;split at h
  ·rename_i n e
   simp only [Option.bind_eq_some_iff,gd_some] at h;obtain ⟨ie,hi',row,hrow,hle,l,hl,m,hm,h⟩:=h;have hle:=Nat.le_of_ble_eq_true hle;obtain ⟨hD,hq⟩:=hra;rw [hq];split at h
   ·simp only [gd_some,Bool.and_eq_true] at h
    obtain ⟨⟨b1,b2⟩,h⟩:=h;injection h with h
    subst h;have b1:=Nat.le_of_ble_eq_true b1;have b2:=Nat.le_of_ble_eq_true b2;have hb:=bounds_R (P:=X.P) (w:=w) (isS:=false) (len:=n) (cap:=n) hρ hl hm b1 b2;refine ⟨_,sliceAt_arr_R hX hd hi' hb,?_⟩;obtain ⟨rty,hrow⟩:=look_some hrow;obtain ⟨_,arr,fz,g1,g2,g3,_⟩:=hS _ _ hrow;exact sub_slice hD (.inr ⟨rfl,by omega⟩) b1 b2 (Nat.le_refl _) _ fun k hk=>by injection hk
   ·cases h
  ·cases h
 ·simp only [Option.bind_eq_some_iff] at h
  obtain ⟨u,hu,l,hl,k,hk,m,hm,r',h1,h2⟩:=h;rw [plain_R hu hra,optPlain_R hρ hl,optPlain_R hρ hk,optPlain_R hρ hm];exact v_of_psem (E:=E) (w:=w) (by rw [h1]; exact h2)
theorem opq_R {X:Cx σ} (hX:XOK X) {E:Env} {w:World} {ρ:Operand→Option AV} {r:Operand→Value} {S:Tr Ob} (hρ:∀ x a,ρ x=some a→RV E a (r x)) (hS:∀ id ob,S.get id=some ob→E.D id∧RO E id w ob)
  {o:Oper} {v:AV} (h:opq X o ρ S=some v):∃ y,(execOp r o).run X.P w=.ok (.value y) w∧RV E v y:=by
 obtain ⟨dst,op,ty,pos,after,gu⟩:=o;have val:∀ {s:Sem Value},(∃ y,s.run X.P w=.ok y w∧RV E v y)→∃ y,(do pure (Next.value (← s)):Sem Next).run X.P w=.ok (.value y) w∧RV E v y:=fun ⟨y,a,b⟩=>⟨y,run_v a,b⟩
 cases op with
 | move x=>exact ⟨r x,rfl,hρ _ _ h⟩
 | assign x=>exact ⟨r x,rfl,hρ _ _ h⟩
 | pick c a b =>
  simp only [opq,qPick,qBuild,qLoad,qNilCheck,qBinOp,qUnOp,qConvert,qField,qFieldAddr,qIndexAddr,qIndex,qSlice,qExtract,qMakeFunc,qLookup,qCall,Option.bind_eq_some_iff] at h;obtain ⟨vc,hc,h⟩:=h;split at h
  ·rename_i t
   simp only [Option.bind_eq_some_iff] at h;obtain ⟨u,hu,u',hu',h⟩:=h;have e:=(hρ _ _ hc).1;cases t
   ·injection h with h; subst h
    exact ⟨r b,by simp [execOp,e,asBool],hρ _ _ hu'⟩
   ·injection h with h; subst h
    exact ⟨r a,by simp [execOp,e,asBool],hρ _ _ hu⟩
  ·cases h
 | build t parts =>
  simp only [opq,qPick,qBuild,qLoad,qNilCheck,qBinOp,qUnOp,qConvert,qField,qFieldAddr,qIndexAddr,qIndex,qSlice,qExtract,qMakeFunc,qLookup,qCall,Option.bind_eq_some_iff] at h;obtain ⟨d,hd,i,hi,z,hz,ps,hps,h⟩:=h;exact val (build_R hX hρ hd hi hz hps h)
 | load t a =>
  simp only [opq,qPick,qBuild,qLoad,qNilCheck,qBinOp,qUnOp,qConvert,qField,qFieldAddr,qIndexAddr,qIndex,qSlice,qExtract,qMakeFunc,qLookup,qCall,Option.bind_eq_some_iff] at h;obtain ⟨d,hd,i,hi,va,ha,h⟩:=h;split at h
  ·rename_i id off
   rw [Option.bind_eq_some_iff] at h;obtain ⟨l,hl,h⟩:=h;obtain ⟨rty,hl⟩:=look_some hl;obtain ⟨_,e⟩:=hρ _ _ ha;have:=load_R hX (hS _ _ hl).2 hd hi h;refine val (s:=Instr.loadAt t (r a)) ?_;rw [e]; exact this
  ·cases h
 | nilCheck x =>
  simp only [opq,qPick,qBuild,qLoad,qNilCheck,qBinOp,qUnOp,qConvert,qField,qFieldAddr,qIndexAddr,qIndex,qSlice,qExtract,qMakeFunc,qLookup,qCall,Option.bind_eq_some_iff] at h;obtain ⟨va,ha,h⟩:=h;have hra:=hρ _ _ ha;split at h
  ·injection h with h; subst h
   obtain ⟨_,e⟩:=hra;exact ⟨r x,by simp [execOp,e],hρ _ _ ha⟩
  ·injection h with h; subst h
   obtain ⟨_,a,c,e,_⟩:=hra;exact ⟨r x,by simp [execOp,e],hρ _ _ ha⟩
  ·injection h with h; subst h
   obtain ⟨_,e⟩:=hra;exact ⟨r x,by simp [execOp,e],hρ _ _ ha⟩
  ·injection h with h; subst h
   obtain ⟨_,_,a,e⟩:=hra;exact ⟨r x,by simp [execOp,e],hρ _ _ ha⟩
  ·injection h with h; subst h
   obtain ⟨A,B,e,_⟩:=hra;exact ⟨r x,by simp [execOp,e],hρ _ _ ha⟩
  ·cases h
 | binOp op t x y yt =>
  simp only [opq,qPick,qBuild,qLoad,qNilCheck,qBinOp,qUnOp,qConvert,qField,qFieldAddr,qIndexAddr,qIndex,qSlice,qExtract,qMakeFunc,qLookup,qCall,Option.bind_eq_some_iff] at h;obtain ⟨a,ha,b,hb,h⟩:=h;exact val (evBin_R hX h (hρ _ _ ha) (hρ _ _ hb))
 | unOp op t x =>
  simp only [opq,qPick,qBuild,qLoad,qNilCheck,qBinOp,qUnOp,qConvert,qField,qFieldAddr,qIndexAddr,qIndex,qSlice,qExtract,qMakeFunc,qLookup,qCall,Option.bind_eq_some_iff] at h;obtain ⟨a,ha,u,hu,r',h1,h2⟩:=h;refine val (s:=Op.unary op (r x)) ?_;rw [plain_R hu (hρ _ _ ha)];exact v_of_psem (by rw [h1]; exact h2)
 | convert src dt x =>
  simp only [opq,qPick,qBuild,qLoad,qNilCheck,qBinOp,qUnOp,qConvert,qField,qFieldAddr,qIndexAddr,qIndex,qSlice,qExtract,qMakeFunc,qLookup,qCall,Option.bind_eq_some_iff] at h;obtain ⟨a,ha,h⟩:=h;refine val (s:=Go.convert src dt (r x)) ?_;split at h
  ·rename_i u hu
   rw [plain_R hu (hρ _ _ ha)];exact v_of_psem h
  ·split at h
   ·rename_i id off len cp ez
    simp only [Option.bind_eq_some_iff] at h;obtain ⟨ds,hds,dd,hdd,h⟩:=h;split at h
    ·rename_i e
     rw [Option.bind_eq_some_iff] at h;obtain ⟨de,hde,h⟩:=h;split at h
     ·simp only [gd_some,Option.bind_eq_some_iff,Option.map_eq_some_iff] at h
      obtain ⟨hz,l,hl,cs,hcs,bs,hbs,rfl⟩:=h;obtain ⟨rty,hl⟩:=look_some hl;exact ⟨_,str_R hX (hρ _ _ ha) hds hdd hde (hS _ _ hl).2 (Nat.eq_of_beq_eq_true hz) hcs hbs,rfl,rfl⟩
     ·cases h
    ·cases h
   ·cases h
 | field t x f =>
  simp only [opq,qPick,qBuild,qLoad,qNilCheck,qBinOp,qUnOp,qConvert,qField,qFieldAddr,qIndexAddr,qIndex,qSlice,qExtract,qMakeFunc,qLookup,qCall,Option.bind_eq_some_iff] at h;obtain ⟨d,hd,va,ha,h⟩:=h;split at h
  ·rename_i fs l
   rw [Option.bind_eq_some_iff] at h;obtain ⟨fd,hf,h⟩:=h;obtain ⟨A,e,hA⟩:=hρ _ _ ha;obtain ⟨y,h1,h2⟩:=part_R hX (w:=w) hA h;refine val ⟨y,?_,h2⟩;simp [Instr.field,run_underlying (hX.und _ _ hd),hf,e,asAgg,h1]
  ·cases h
 | fieldAddr t x f =>
  simp only [opq,qPick,qBuild,qLoad,qNilCheck,qBinOp,qUnOp,qConvert,qField,qFieldAddr,qIndexAddr,qIndex,qSlice,qExtract,qMakeFunc,qLookup,qCall,Option.bind_eq_some_iff] at h;obtain ⟨d,hd,va,ha,h⟩:=h;split at h
  ·rename_i fs id off
   simp only [Option.bind_eq_some_iff,gd_some] at h;obtain ⟨fd,hf,i,hi,h1,h⟩:=h;injection h with h; subst h
   obtain ⟨hD,e⟩:=hρ _ _ ha;refine val (s:=Instr.fieldAt t (r x) f) ?_;rw [e];exact ⟨_,fieldAt_R hX hd hf hi (Nat.le_of_ble_eq_true h1),hD,by rw [Nat.add_assoc]⟩
  ·cases h
 | indexAddr t x ix =>
  simp only [opq,qPick,qBuild,qLoad,qNilCheck,qBinOp,qUnOp,qConvert,qField,qFieldAddr,qIndexAddr,qIndex,qSlice,qExtract,qMakeFunc,qLookup,qCall,Option.bind_eq_some_iff] at h;obtain ⟨d,hd,va,ha,vk,hk,i,hi,h⟩:=h;obtain ⟨ik,e⟩:=natOf_R hi (hρ _ _ hk);refine val (s:=Instr.indexAt t (r x) (r ix)) ?_;rw [e];split at h
  ·rename_i n el id off
   simp only [Option.bind_eq_some_iff,gd_some] at h;obtain ⟨ie,hie,h1,h⟩:=h;injection h with h; subst h
   obtain ⟨hD,e'⟩:=hρ _ _ ha;rw [e'];exact ⟨_,indexAt_array_R hX hd hie (Nat.le_of_ble_eq_true h1),hD,by rw [add_off,Nat.add_assoc]⟩
  ·rename_i el id off len cp ez
   simp only [Option.bind_eq_some_iff,gd_some,Bool.and_eq_true] at h;obtain ⟨ie,hie,⟨h1,h2⟩,h⟩:=h;injection h with h; subst h
   obtain ⟨hD,a,c,e',h3,h4,_⟩:=hρ _ _ ha;have h1:i < len:=Nat.le_of_ble_eq_true h1;rw [e'];rcases h4 with h4 | ⟨h4,_⟩
   ·omega
   ·exact ⟨_,indexAt_slice_R hX hd hie h1,hD,by rw [h4,add_off,Nat.add_assoc]⟩
  ·cases h
 | index t x ix =>
  simp only [opq,qPick,qBuild,qLoad,qNilCheck,qBinOp,qUnOp,qConvert,qField,qFieldAddr,qIndexAddr,qIndex,qSlice,qExtract,qMakeFunc,qLookup,qCall,Option.bind_eq_some_iff] at h;obtain ⟨va,ha,vk,hk,h⟩:=h;refine val (s:=Instr.index t (r x) (r ix)) ?_;split at h
  ·rename_i l
   simp only [Option.bind_eq_some_iff] at h;obtain ⟨d,hd,i,hi,h⟩:=h;split at h
   ·rename_i n el
    simp only [Option.bind_eq_some_iff,gd_some] at h;obtain ⟨ie,hie,h1,h⟩:=h;have h1:i < n:=Nat.le_of_ble_eq_true h1;obtain ⟨ik,e⟩:=natOf_R hi (hρ _ _ hk);obtain ⟨A,e',hA⟩:=hρ _ _ ha;obtain ⟨ti,i1,i2,_⟩:=hX.inf _ _ hie;obtain ⟨y,g1,g2⟩:=part_R hX (w:=w) hA h;have h1':(i:Int) < (n:Int):=by omega
    refine ⟨y,?_,g2⟩;simp [Instr.index,e,e',asIntOf,run_underlying (hX.und _ _ hd),h1',run_sizeOf' i1,i2,g1];intro hh;omega
   ·cases h
  ·simp only [Option.bind_eq_some_iff] at h
   obtain ⟨u,hu,j,hj,r',h1,h2⟩:=h;rw [plain_R hu (hρ _ _ ha),plain_R hj (hρ _ _ hk)];exact v_of_psem (by rw [h1]; exact h2)
 | slice t x lo hi mx=>exact val (opq_sl hX hρ hS h)
 | extract x ix =>
  simp only [opq,qPick,qBuild,qLoad,qNilCheck,qBinOp,qUnOp,qConvert,qField,qFieldAddr,qIndexAddr,qIndex,qSlice,qExtract,qMakeFunc,qLookup,qCall,Option.bind_eq_some_iff] at h;obtain ⟨va,ha,h⟩:=h;split at h
  ·rename_i l
   rw [Option.map_eq_some_iff] at h;obtain ⟨v1,h1,rfl⟩:=h;obtain ⟨A,e,hA⟩:=hρ _ _ ha;obtain ⟨y,g1,g2⟩:=hA.get h1;refine val ⟨y,?_,g2⟩;have:A[ix]?=some y:=by simpa using g1
   simp [Instr.extract,e,this]
  ·cases h
 | makeFunc f fi ca =>
  simp only [opq,qPick,qBuild,qLoad,qNilCheck,qBinOp,qUnOp,qConvert,qField,qFieldAddr,qIndexAddr,qIndex,qSlice,qExtract,qMakeFunc,qLookup,qCall,Option.bind_eq_some_iff,Option.map_eq_some_iff] at h;obtain ⟨a,ha,b,hb,a',ha',b',hb',rfl⟩:=h;refine val ⟨.func f (fi.map r) (ca.map r),rfl,_,_,rfl,?_,?_⟩
  ·rw [Array.toList_map]; exact atsOf_R ha' (mapO_R hρ ha)
  ·rw [Array.toList_map]; exact atsOf_R hb' (mapO_R hρ hb)
 | lookup t x ix ok =>
  simp only [opq,qPick,qBuild,qLoad,qNilCheck,qBinOp,qUnOp,qConvert,qField,qFieldAddr,qIndexAddr,qIndex,qSlice,qExtract,qMakeFunc,qLookup,qCall,Option.bind_eq_some_iff] at h;obtain ⟨d,hd,va,ha,vk,hk,h⟩:=h;split at h
  ·rename_i kt et id j n
   simp only [Option.bind_eq_some_iff] at h;obtain ⟨dk,hdk,ie,hie,p,hp,h⟩:=h;split at h
   ·rename_i kk
    simp only [Option.bind_eq_some_iff] at h;obtain ⟨q,hq,y,hy,h⟩:=h;obtain ⟨_,e⟩:=hρ _ _ ha;have e':=(hρ _ _ hk).1;obtain ⟨rm,km,hm,hsm⟩:=(hS _ _ (lookMap_some hp)).2;rw [findMap_SM hsm] at hq;obtain ⟨ti,i1,i2,_,i4⟩:=hX.inf _ _ hie;have hv1:=v1Of_R (E:=E) hy;refine val ⟨if ok then .tuple #[orZ q ie.zero,.bool q.isSome] else orZ q ie.zero,?_,?_⟩
    ·simp only [Instr.lookup,Sem.run_bind,run_underlying (hX.und _ _ hd),Result.andThen_ok,e,e',run_getObj hm,checkKey_int' (hX.und _ _ hdk),run_findKey (hX.und _ _ hdk) hq,Sem.run_pure]
     cases q with
     | none=>simp [run_zero' i1 i4,orZ]
     | some q=>simp [orZ]
    ·cases ok
     ·injection h with h; subst h; exact hv1
     ·injection h with h; subst h
      exact ⟨_,rfl,hv1,⟨rfl,rfl⟩,trivial⟩
   ·cases h
  ·cases h
 | call c =>
  obtain ⟨callee,args,argTypes⟩:=c;cases callee with
  | builtin b =>
   simp only [opq,qPick,qBuild,qLoad,qNilCheck,qBinOp,qUnOp,qConvert,qField,qFieldAddr,qIndexAddr,qIndex,qSlice,qExtract,qMakeFunc,qLookup,qCall] at h;have callv:∀ {s:Sem Value},(execOp r ⟨dst,.call ⟨.builtin b,args,argTypes⟩,ty,pos,after,gu⟩)=(do pure (Next.value (← s)))→(∃ y,s.run X.P w=.ok y w∧RV E v y)→∃ y,(execOp r ⟨dst,.call ⟨.builtin b,args,argTypes⟩,ty,pos,after,gu⟩).run X.P w=.ok (.value y) w∧RV E v y:=fun e h=>by rw [e]; exact val h
   split at h
   ·split at h
    ·rename_i t tl x ht hx
     rw [Option.bind_eq_some_iff] at h;obtain ⟨va,ha,h⟩:=h;refine callv (s:=Builtin.len_ argTypes ty (args.map r)) rfl ?_;have e:args.map r=#[r x]:=by apply Array.ext'; rw [Array.toList_map,hx]; rfl
     have et:argTypes[0]?=some t:=by rw [← Array.getElem?_toList,ht]; rfl
     rw [e];split at h
     ·rename_i u hu
      rw [plain_R hu (hρ _ _ ha)];exact v_of_psem h
     ·exact evLen_R hX hS et h (hρ _ _ ha)
    ·cases h
   ·rw [Option.bind_eq_some_iff] at h
    obtain ⟨l,hl,h⟩:=h;refine callv (s:=Builtin.min_ argTypes ty (args.map r)) rfl ?_;have:args.map r=l.toArray:=by rw [mapPlain_R hρ hl]; apply Array.ext'; simp
    rw [this];exact v_of_psem h
   ·rw [Option.bind_eq_some_iff] at h
    obtain ⟨l,hl,h⟩:=h;refine callv (s:=Builtin.max_ argTypes ty (args.map r)) rfl ?_;have:args.map r=l.toArray:=by rw [mapPlain_R hρ hl]; apply Array.ext'; simp
    rw [this];exact v_of_psem h
   ·cases h
  | value f=>simp [opq,qCall] at h
  | invoke a b=>simp [opq,qCall] at h
 | _=>simp [opq,qCall] at h
end Go.Proofs.YtijegngfclkdaaaGreatDoor.Ev
namespace Go.Proofs.YtijegngfclkdaaaGreatDoor.Ev
open Go
variable {σ:Type}
theorem RO_new {E:Env} {c:Nat} (hc:¬ E.D c) {w1:World} {b:Nat} {arr:Array Value} {ty:TypeId} {fz:Nat×Nat} (hw:w1.heap[b]?=some (.cells arr ty fz)) {l:List Ce} {vs rest:List Value} (hl:Rel2 (RC E) l vs) (ha:arr.toList=vs ++ rest) (hf:NF fz arr.size) :
  RO (E.more c b arr.size) c w1 (.row l ty):=by
 have ext:Ext E (E.more c b arr.size):=Env.more_ext hc;have hsz:arr.size=vs.length + rest.length:=by rw [← Array.length_toList,ha]; simp
 refine ⟨arr,fz,by simpa [Env.more] using hw,by simp [Env.more],?_,hf,fun i x hx=>?_⟩
 ·have:=hl.length; simp [Env.more]; omega
 ·obtain ⟨y,h1,h2⟩:=hl.get hx
  refine ⟨y,?_,RC.ext ext h2⟩;have hi:i < vs.length:=by
   rcases Nat.lt_or_ge i vs.length with h | h
   ·exact h
   ·rw [List.getElem?_eq_none h] at h1; cases h1
  rw [show (E.more c b arr.size).sh c + i=i by simp [Env.more],← Array.getElem?_toList,ha,List.getElem?_append_left hi];exact h1
theorem nofz' (n:Nat):NF (0,0) n:=.inl rfl
theorem made_row {X:Cx σ} {O:Outside σ} {E:Env} {h:Nat→Option Ob} {g:σ} {w w1:World} (r:Rel X O E h g w) {c:Nat} (hc:¬ E.D c) {arr:Array Value} {ty:TypeId} {l:List Ce} {vs rest:List Value} (hl:Rel2 (RC E) l vs) (ha:arr.toList=vs ++ rest) {fz:Nat×Nat} (hf:NF fz arr.size) (hw:w1=w.alloc (.cells arr ty fz)) :
  Rel X O (E.more c w.heap.size arr.size) (put1 h c (some (.row l ty))) g w1∧Mvd E h c w (E.more c w.heap.size arr.size) (put1 h c (some (.row l ty))) (c + 1) w1:=by
 refine r.made hc hw (RO_new hc (by rw [hw]; exact heap_alloc) hl ha hf) ?_;rcases Nat.lt_or_ge c X.ng with h | h
 ·exact absurd (r.glob c h).1 hc
 ·exact h
theorem more_ptr {E:Env} {c b k:Nat}:RV (E.more c b k) (one (.ptr c 0)) (.pointer (some ⟨b,0,none⟩)):=⟨by simp [Env.more],by simp [Env.more]⟩
theorem more_sl {E:Env} {c b k len cap ez:Nat} {cp:Option Nat} (h:len≤cap) (hk:cap * ez≤k) (hcp:∀ k,cp=some k→cap=k) (hcm:cp=none→cap≤9223372036854775807:=by intro h; cases h):RV (E.more c b k) (one (.sl c 0 len cp ez)) (.slice (some ⟨b,0,none⟩) len cap) :=
 ⟨by simp [Env.more],_,_,rfl,h,.inr ⟨by simp [Env.more],by simpa [Env.more] using hk⟩,hcp,hcm⟩
theorem rep_list (Z:Array Value):∀ k,((Array.range (k * Z.size)).map (fun i=>Z[i % Z.size]!)).toList=(List.replicate k Z.toList).flatten
 | 0=>by simp
 | k + 1=>by
  have ih:=rep_list Z k;simp only [Array.toList_map,Array.toList_range] at ih ⊢;rw [Nat.succ_mul,List.replicate_succ',List.flatten_append,List.flatten_singleton,← ih,List.range_add,List.map_append,List.map_map]
  congr 1
  apply List.ext_getElem?
  intro i
  by_cases hi:i < Z.size
  ·simp only [List.getElem?_map,List.getElem?_range hi,Option.map_some,Function.comp,Nat.mul_comm k,Nat.mul_add_mod,Nat.mod_eq_of_lt hi]
   rw [Array.getElem?_toList,Array.getElem?_eq_getElem hi,getElem!_pos Z i hi]
  ·rw [List.getElem?_eq_none (by simpa using hi),List.getElem?_eq_none (by simpa using hi)]
theorem rep_R {E:Env} {z:List Ce} {Z:List Value} (h:Rel2 (RC E) z Z):∀ k,Rel2 (RC E) (rep z k) (List.replicate k Z).flatten
 | 0=>by simp [rep]; trivial
 | k + 1=>by rw [rep,List.replicate_succ,List.flatten_cons]; exact h.append (rep_R h k)
theorem src_R {P:Program} {E:Env} {w:World} {S:Tr Ob} (hS:∀ id ob,S.get id=some ob→E.D id∧RO E id w ob) {size n:Nat} {cs:List Ce} {v:AV} {y:Value} (h:srcCells S size v=some (n,cs)) (hv:RV E v y) :
  cs.length=n * size∧∃ vs,vs.length=n * size∧Rel2 (RC E) cs vs∧∀ w':World,w'.heap=w.heap→(Builtin.lenOf y).run P w'=.ok n w'∧∀ m,m≤n→(Builtin.firstCells size m y).run P w'=.ok (vs.take (m * size)).toArray w':=by
 unfold srcCells at h;split at h
 ·injection h with h
  injection h with h1 h2
  subst h1 h2;rw [hv.1];exact ⟨by simp,[],by simp,trivial,fun w' _=>⟨rfl,fun m _=>by simp [Builtin.firstCells]⟩⟩
 ·rename_i s
  rw [gd_some] at h;obtain ⟨hz,h⟩:=h;have hz:size=1:=Nat.eq_of_beq_eq_true hz;injection h with h
  injection h with h1 h2
  subst h1 h2 hz;rw [hv.1];refine ⟨by simp,s.data.toList.map (fun b=>Value.int .u8 b.toNat),by simp,?_,fun w' _=>⟨rfl,fun m hm=>?_⟩⟩
  ·generalize s.data.toList=l
   induction l with
   | nil=>trivial
   | cons a l ih=>exact ⟨⟨rfl,rfl⟩,ih⟩
  ·simp only [Builtin.firstCells,Sem.run_pure,Nat.mul_one]
   congr 1
   apply Array.ext'
   rw [Array.toList_map];have:(s.extract 0 m).data.toList=s.data.toList.take m:=by
    rw [ByteArray.data_extract];simp
   rw [this,List.map_take]
 ·rename_i id off n' cp ez
  simp only [gd_some,Option.bind_eq_some_iff,Option.map_eq_some_iff] at h;obtain ⟨hz,l,hl,cs',hc,h⟩:=h;have hz:ez=size:=Nat.eq_of_beq_eq_true hz;injection h with h1 h2
  subst h1 h2 hz;obtain ⟨ty,hl⟩:=look_some hl;have hro:=(hS _ _ hl).2;obtain ⟨_,a,c,h1,h2,h3,_⟩:=hv;obtain ⟨c1,vs,c2,c3,c4⟩:=cut_lies hro hc;subst h1;refine ⟨c1,vs,c2,c3,fun w' hw'=>⟨rfl,fun m hm=>?_⟩⟩;have hlie:Lies w' (E.ι id) (E.sh id + off) (vs.take (m * ez)):=fun j v hj=>by
   have hj':vs[j]?=some v:=by
    rw [List.getElem?_take] at hj;split at hj
    ·exact hj
    ·cases hj
   have:=c4 j v hj';rw [World.cell?,hw'];exact this
  have hlen:(vs.take (m * ez)).length=m * ez:=by
   rw [List.length_take,c2];exact Nat.min_eq_left (Nat.mul_le_mul_right _ hm)
  simp only [Builtin.firstCells];rcases h3 with h3 | ⟨h3,_⟩
  ·have:m=0:=by omega
   subst this;rw [Nat.zero_mul,List.take_zero];rfl
  ·rw [h3]
   exact loadCells_lies hlie hlen
 ·cases h
theorem cap_ge {w:World} {need old:Nat} {e:TypeId}:need≤grownCap w need old e:=by
 show need≤need + _;omega
theorem zeroCells_size (z:Array Value) (n:Nat):(Builtin.zeroCells z n).size=n * z.size:=by simp [Builtin.zeroCells]
theorem isInt_f {d:TypeDesc} (h:isInt d=false):∀ k,d≠.int k:=fun k e=>by subst e; cases h
theorem isInt_t {d:TypeDesc} (h:isInt d=true):∃ k,d=.int k:=by cases d <;> first | exact ⟨_,rfl⟩ | cases h
def AppIn (P:Program) (du:TypeDesc) (ti:TypeInfo) (z:Value) (x:Value) (n:Nat) (news:List Value) (w:World):Prop :=
 (isInt du=false∧(Builtin.lenOf x).run P w=.ok n w∧(Builtin.firstCells ti.size n x).run P w=.ok news.toArray w) ∨
 (isInt du=true∧n≤65536∧ti.bytes≤65536∧(∃ k,x=.int k (n:Int))∧z.cells.size=ti.size∧news.toArray=Builtin.zeroCells z.cells n)
theorem zeros_nil {z:Value} {ti:TypeInfo} {n:Nat} {news:List Value} (h:z.cells.size=ti.size) (hn:news.toArray=Builtin.zeroCells z.cells n) (h0:n * ti.size=0):news=[]:=by
 have:=zeroCells_size z.cells n;rw [← hn,h,h0] at this;simpa using this
theorem wrap_len {n:Nat} (h:n≤65536):IntKind.i64.wrap (n:Int)=(n:Int):=by
 unfold IntKind.wrap;simp [IntKind.signed,IntKind.bits];omega
theorem growsEq (P:Program) {w:World} {t u ty e:TypeId} {ti:TypeInfo} {z:Value} {du:TypeDesc} {base:Option Addr} {sLen sCap n:Nat} {x:Value} {olds news:List Value}
  (ht:P.underlying t=some (.slice e)) (hu:P.underlying u=some du) (hi:P.info? e=some ti) (hz:ti.zero=some z) (hx:∀ w':World,w'.heap=w.heap→AppIn P du ti z x n news w')
  (ho:∀ w':World,w'.heap=w.heap→(Builtin.firstCells ti.size sLen (.slice base sLen sCap)).run P w'=.ok olds.toArray w') (hg:sCap < sLen + n) (hn:sLen + n≤65536) (hb:ti.bytes≤65536) :
  (Builtin.append_ #[t,u] ty #[.slice base sLen sCap,x]).run P w=.ok (.slice (some ⟨w.heap.size,0,none⟩) (sLen + n) (grownCap w (sLen + n) sCap e))
   (w.drew.alloc (.cells (olds.toArray ++ news.toArray ++ Builtin.zeroCells z.cells (grownCap w (sLen + n) sCap e - (sLen + n))) e)):=by
 have h1:¬ (sLen + n≤sCap):=by omega
 have h2:¬ (9223372036854775807 < ((sLen:Int) + (n:Int))):=by omega
 have hfit:=growslice_fits (bytes:=ti.bytes) hg (by
  have:=Nat.mul_le_mul hn hb;omega)
 have h3:¬ (281474976710656 < Builtin.nextslicecap (sLen + n) sCap * ti.bytes):=by omega
 have hx0:=hx w rfl;have hx1:=hx w.drew rfl;have ho1:=ho w.drew rfl;rcases hx0 with ⟨hm,a1,a2⟩ | ⟨hm,a1,a2,⟨k,rfl⟩,a3,a4⟩
 ·have hdu:=isInt_f hm
  clear hm;have hm:(match du with | .int _=>true | _=>false)=false:=by cases du <;> first | rfl | exact absurd rfl (hdu _)
  rcases hx1 with ⟨_,b1,b2⟩ | ⟨hm',_⟩
  ·simp [Builtin.append_,run_underlying ht,run_underlying hu,hm,sizeOf,typeInfo,zeroValue,hi,hz,a1,b2,ho1,h1,h2,h3,Question.forced,newRow,grownCap]
   congr 2
   apply Array.ext'
   simp [List.append_assoc]
  ·obtain ⟨kd,rfl⟩:=isInt_t hm'; exact absurd rfl (hdu _)
 ·obtain ⟨kd,rfl⟩:=isInt_t hm
  have h4:¬ ((n:Int) < 0):=by omega
  have h5:¬ (281474976710656 < (n:Int) * (ti.bytes:Int)):=by
   have:=Nat.mul_le_mul a1 a2;have e:(n:Int) * (ti.bytes:Int)=((n * ti.bytes:Nat):Int):=by simp
   rw [e];omega
  by_cases h0:n * ti.size=0
  ·have:=zeros_nil a3 a4 h0
   subst this;have h0':n=0∨ti.size=0:=Nat.mul_eq_zero.1 h0;simp [Builtin.append_,run_underlying ht,run_underlying hu,sizeOf,typeInfo,zeroValue,hi,hz,asInt,asIntOf,wrap_len a1,h4,h5,h0,ho1,h1,h2,h3,Question.forced,newRow,grownCap]
  ·have h0':¬ (n=0∨ti.size=0):=fun h=>h0 (Nat.mul_eq_zero.2 h)
   simp [Builtin.append_,run_underlying ht,run_underlying hu,sizeOf,typeInfo,zeroValue,hi,hz,asInt,asIntOf,wrap_len a1,h4,h5,h0,ho1,h1,h2,h3,Question.forced,newRow,grownCap,a4]
theorem growsZero (P:Program) {w:World} {t u ty e:TypeId} {ti:TypeInfo} {z:Value} {du:TypeDesc} {base:Option Addr} {sLen sCap:Nat} {x:Value}
  (ht:P.underlying t=some (.slice e)) (hu:P.underlying u=some du) (hi:P.info? e=some ti) (hx:AppIn P du ti z x 0 [] w)
  (hl:sLen≤sCap):(Builtin.append_ #[t,u] ty #[.slice base sLen sCap,x]).run P w=.ok (.slice base sLen sCap) w:=by
 rcases hx with ⟨hm,a1,a2⟩ | ⟨hm,a1,a2,⟨k,rfl⟩,a3,a4⟩
 ·have hdu:=isInt_f hm
  clear hm;have hm:(match du with | .int _=>true | _=>false)=false:=by cases du <;> first | rfl | exact absurd rfl (hdu _)
  cases base with
  | none=>simp [Builtin.append_,run_underlying ht,run_underlying hu,hm,sizeOf,typeInfo,hi,a1,a2,hl]
  | some a=>simp [Builtin.append_,run_underlying ht,run_underlying hu,hm,sizeOf,typeInfo,hi,a1,a2,hl,storeCells]
 ·obtain ⟨kd,rfl⟩:=isInt_t hm
  have hw:IntKind.i64.wrap (0:Int)=0:=by decide
  cases base with
  | none=>simp [Builtin.append_,run_underlying ht,run_underlying hu,sizeOf,typeInfo,hi,asInt,asIntOf,hw,hl]
  | some a=>simp [Builtin.append_,run_underlying ht,run_underlying hu,sizeOf,typeInfo,hi,asInt,asIntOf,hw,hl,storeCells]
theorem array2 {α:Type} {A:Array α} {x y:α} (h:A.toList=[x,y]):A=#[x,y]:=by apply Array.ext'; rw [h]
end Go.Proofs.YtijegngfclkdaaaGreatDoor.Ev
