/-
  Piece 3 of the proof.
  Conditions: none.
-/
import Derived.Laws.Append
import Derived.Lib.ConvBytes
import Derived.Test.YtijegngfclkdaaaGreatDoorQ02
set_option linter.unusedVariables false
set_option linter.unusedSimpArgs false
set_option maxHeartbeats 100000000
set_option maxRecDepth 100000
namespace Go.Proofs.YtijegngfclkdaaaGreatDoor
namespace Ev
open Go
variable {σ:Type}
theorem eB {X:Cx σ} {E:Env} {w:World} {s:Sem Value} {v:AV} (h:((jG X.P s).bind fun r=>(lS r).map AV.w)=some v):∃ y,s.run X.P w=.ok y w/\RV E v y:=by
 simp only [Option.bind_eq_some_iff,Option.map_eq_some_iff] at h;obtain ⟨r,h1,v',h2,rfl⟩:=h;exact ⟨r,tH h1 w,oI h2⟩
theorem LQ {E:Env}:∀ {l:List Ce} {r:List At} {vs:List Value},Ph l=some r->aQ (RC E) l vs->aQ (RA E) r vs
 | [],r,vs,h,hr=>by simp only [Ph] at h; injection h with h; subst h; rw [hr.gS]; trivial
 | c :: l,r,[],h,hr=>hr.elim
 | .a x :: l,r,v :: vs,h,⟨ha,hr⟩=>by
  simp only [Ph,Option.map_eq_some_iff] at h;obtain ⟨r',h1,rfl⟩:=h;exact ⟨ha,LQ h1 hr⟩
 | .fn .. :: l,r,v :: vs,h,_=>by simp [Ph] at h
theorem ny {E:Env}:∀ {l:List AV} {r:List Ar} {vs:List Value},pP l=some r->aQ (RV E) l vs->aQ (Jt E) r vs
 | [],r,vs,h,hr=>by simp only [pP] at h; injection h with h; subst h; rw [hr.gS]; trivial
 | a :: l,r,[],h,hr=>hr.elim
 | a :: l,r,v :: vs,h,⟨ha,hr⟩=>by
  unfold pP at h;split at h
  ·rename_i e; cases e
  ·rename_i x l' e
   injection e with e1 e2
   subst e1 e2;rw [Option.map_eq_some_iff] at h;obtain ⟨r',h1,rfl⟩:=h;exact ⟨ha,ny h1 hr⟩
  ·rename_i cs l' e
   injection e with e1 e2
   subst e1 e2;simp only [Option.bind_eq_some_iff,Option.map_eq_some_iff] at h;obtain ⟨c,hc,r',h1,rfl⟩:=h;obtain ⟨A,e1,e2⟩:=ha;exact ⟨⟨A,e1,LQ hc e2⟩,ny h1 hr⟩
  ·cases h
theorem rR {E:Env} {ρ:Operand->Option AV} {r:Operand->Value} (hρ:∀ x a,ρ x=some a->RV E a (r x)):∀ {l:List Operand} {vs:List AV},gk ρ l=some vs->aQ (RV E) vs (l.map r)
 | [],vs,h=>by simp only [gk] at h; injection h with h; subst h; trivial
 | x :: l,vs,h=>by
  simp only [gk,Option.bind_eq_some_iff] at h;obtain ⟨y,h1,r',h2,h3⟩:=h;injection h3 with h3
  subst h3;exact ⟨hρ _ _ h1,rR hρ h2⟩
theorem ku {E:Env} {ρ:Operand->Option AV} {r:Operand->Value} (hρ:∀ x a,ρ x=some a->RV E a (r x)):∀ {l:List Operand} {vs:List Value},gk (fun x=>(ρ x).bind plain) l=some vs->vs=l.map r
 | [],vs,h=>by simp only [gk] at h; injection h with h; subst h; rfl
 | x :: l,vs,h=>by
  simp only [gk,Option.bind_eq_some_iff] at h;obtain ⟨y,⟨a,h1,h1'⟩,r',h2,h3⟩:=h;injection h3 with h3
  subst h3;rw [List.map_cons,dF h1' (hρ _ _ h1),ku hρ h2]
theorem kB {E:Env} {ρ:Operand->Option AV} {r:Operand->Value} (hρ:∀ x a,ρ x=some a->RV E a (r x)) {o:Option Operand} {l:Option Value} (h:CP ρ o=some l):o.map r=l:=by
 cases o with
 | none=>simp only [CP] at h; injection h
 | some x =>
  simp only [CP,Option.map_eq_some_iff,Option.bind_eq_some_iff] at h;obtain ⟨u,⟨a,h1,h2⟩,rfl⟩:=h;rw [Option.map_some,dF h2 (hρ _ _ h1)]
theorem MR {X:Cx σ} (hX:kg X) {E:Env} {w:World} {ρ:Operand->Option AV} {r:Operand->Value} {S:Tr Ob} (hρ:∀ x a,ρ x=some a->RV E a (r x)) (hS:∀ id ob,S.get id=some ob->E.D id/\RO E id w ob)
  {dst:Option Tmp} {t ty:TypeId} {x:Operand} {lo hi mx:Option Operand} {pos:String} {after:Array Edge} {gu:Option (Nat×Bool)} {v:AV} (h:mP X ⟨dst,.slice t x lo hi mx,ty,pos,after,gu⟩ ρ S=some v) :
  ∃ y,(Instr.sliceAt t (r x) (lo.map r) (hi.map r) (mx.map r)).run X.P w=.ok y w/\RV E v y:=by
 simp only [mP,e9,dh,eV,bH,cX,fa,bR,dj,bo,bk,da,cZ,bP,bG,cB,dQ,Option.bind_eq_some_iff] at h;obtain ⟨a,ha,h⟩:=h;have hra:=hρ _ _ ha;split at h
 ·rename_i id off len cp ez
  simp only [Option.bind_eq_some_iff] at h;obtain ⟨d,hd,h⟩:=h;split at h
  ·rename_i e
   simp only [Option.bind_eq_some_iff,aE] at h;obtain ⟨ie,hi',Ix,l,hl,n,hn,h⟩:=h;have Ix:=Nat.eq_of_beq_eq_true Ix;obtain ⟨hD,q,c,hq,hc1,hc2,hc3,hc4⟩:=hra;rw [hq];have Sb:∀ m,within m len cp=true->m<=c:=fun m hm=>by
    unfold within at hm;rw [Bool.or_eq_true] at hm;rcases hm with hm | hm
    ·have:=Nat.le_of_ble_eq_true hm; omega
    ·cases cp with
     | none=>cases hm
     | some k=>have:=hc3 k rfl; have:=Nat.le_of_ble_eq_true hm; omega
   split at h
   ·simp only [aE,Bool.and_eq_true] at h
    obtain ⟨⟨b1,b2⟩,h⟩:=h;injection h with h
    subst h;have b1:=Nat.le_of_ble_eq_true b1;have b2:=Sb _ b2;have hb:=uY (P:=X.P) (w:=w) (Pr:=true) (len:=len) (cap:=c) hρ hl hn b1 b2;refine ⟨_,lx hX hd hi' hb,?_⟩;rw [<- Ix];refine l_ hD hc2 b1 b2 lq _ (fun k hk=>?_) (fun hn=>by cases cp with | none=>have:=hc4 rfl; omega | some k=>cases hn);cases cp with
    | none=>cases hk
    | some k'=>simp only [Option.map_some] at hk; injection hk with hk; rw [hc3 k' rfl]; exact hk
   ·rename_i x2
    simp only [Option.bind_eq_some_iff,aE,Bool.and_eq_true] at h;obtain ⟨m,hm,⟨⟨⟨b1,b2⟩,b3⟩,b4⟩,h⟩:=h;injection h with h
    subst h;have b1:=Nat.le_of_ble_eq_true b1;have b2:=Nat.le_of_ble_eq_true b2;have b3:=Sb _ b3;have hb:=AM (P:=X.P) (w:=w) (Pr:=true) (len:=len) (cap:=c) hρ hl hn hm b4 b1 b2 b3;refine ⟨_,lx hX hd hi' hb,?_⟩;rw [<- Ix];exact l_ hD hc2 b1 b2 b3 _ fun k hk=>by injection hk
  ·cases h
 ·rename_i id off
  simp only [Option.bind_eq_some_iff] at h;obtain ⟨d,hd,h⟩:=h;split at h
  ·rename_i n e
   simp only [Option.bind_eq_some_iff,aE] at h;obtain ⟨ie,hi',row,hrow,hle,l,hl,m,hm,h⟩:=h;have hle:=Nat.le_of_ble_eq_true hle;obtain ⟨hD,hq⟩:=hra;rw [hq];split at h
   ·simp only [aE,Bool.and_eq_true] at h
    obtain ⟨⟨b1,b2⟩,h⟩:=h;injection h with h
    subst h;have b1:=Nat.le_of_ble_eq_true b1;have b2:=Nat.le_of_ble_eq_true b2;have hb:=uY (P:=X.P) (w:=w) (Pr:=false) (len:=n) (cap:=n) hρ hl hm b1 b2;refine ⟨_,pZ hX hd hi' hb,?_⟩;obtain ⟨nO,hrow⟩:=fH hrow;obtain ⟨_,arr,fz,g1,g2,g3,_⟩:=hS _ _ hrow;exact l_ hD (.inr ⟨rfl,by omega⟩) b1 b2 lq _ fun k hk=>by injection hk
   ·cases h
  ·cases h
 ·simp only [Option.bind_eq_some_iff] at h
  obtain ⟨u,hu,l,hl,k,hk,m,hm,r',h1,h2⟩:=h;rw [dF hu hra,kB hρ hl,kB hρ hk,kB hρ hm];exact eB (E:=E) (w:=w) (by rw [h1]; exact h2)
theorem Lp {X:Cx σ} (hX:kg X) {E:Env} {w:World} {ρ:Operand->Option AV} {r:Operand->Value} {S:Tr Ob} (hρ:∀ x a,ρ x=some a->RV E a (r x)) (hS:∀ id ob,S.get id=some ob->E.D id/\RO E id w ob)
  {o:Oper} {v:AV} (h:mP X o ρ S=some v):∃ y,(execOp r o).run X.P w=.ok (.value y) w/\RV E v y:=by
 obtain ⟨dst,op,ty,pos,after,gu⟩:=o;have val:∀ {s:Sem Value},(∃ y,s.run X.P w=.ok y w/\RV E v y)->∃ y,(do pure (Next.value (<- s)):Sem Next).run X.P w=.ok (.value y) w/\RV E v y:=fun ⟨y,a,b⟩=>⟨y,Gj a,b⟩
 cases op with
 | move x=>exact ⟨r x,rfl,hρ _ _ h⟩
 | assign x=>exact ⟨r x,rfl,hρ _ _ h⟩
 | pick c a b =>
  simp only [mP,e9,dh,eV,bH,cX,fa,bR,dj,bo,bk,da,cZ,bP,bG,cB,dQ,Option.bind_eq_some_iff] at h;obtain ⟨vc,hc,h⟩:=h;split at h
  ·rename_i t
   simp only [Option.bind_eq_some_iff] at h;obtain ⟨u,hu,u',hu',h⟩:=h;have e:=(hρ _ _ hc).1;cases t
   ·injection h with h; subst h
    exact ⟨r b,by simp [execOp,e,asBool],hρ _ _ hu'⟩
   ·injection h with h; subst h
    exact ⟨r a,by simp [execOp,e,asBool],hρ _ _ hu⟩
  ·cases h
 | build t parts =>
  simp only [mP,e9,dh,eV,bH,cX,fa,bR,dj,bo,bk,da,cZ,bP,bG,cB,dQ,Option.bind_eq_some_iff] at h;obtain ⟨d,hd,i,hi,z,hz,ps,hps,h⟩:=h;exact val (JZ hX hρ hd hi hz hps h)
 | load t a =>
  simp only [mP,e9,dh,eV,bH,cX,fa,bR,dj,bo,bk,da,cZ,bP,bG,cB,dQ,Option.bind_eq_some_iff] at h;obtain ⟨d,hd,i,hi,va,ha,h⟩:=h;split at h
  ·rename_i id off
   rw [Option.bind_eq_some_iff] at h;obtain ⟨l,hl,h⟩:=h;obtain ⟨nO,hl⟩:=fH hl;obtain ⟨_,e⟩:=hρ _ _ ha;have:=No hX (hS _ _ hl).2 hd hi h;refine val (s:=Instr.loadAt t (r a)) ?_;rw [e]; exact this
  ·cases h
 | nilCheck x =>
  simp only [mP,e9,dh,eV,bH,cX,fa,bR,dj,bo,bk,da,cZ,bP,bG,cB,dQ,Option.bind_eq_some_iff] at h;obtain ⟨va,ha,h⟩:=h;have hra:=hρ _ _ ha;split at h
  ·injection h with h; subst h
   obtain ⟨_,e⟩:=hra;exact ⟨r x,by simp [execOp,e],hρ _ _ ha⟩
  ·injection h with h; subst h
   obtain ⟨_,a,c,e,_⟩:=hra;exact ⟨r x,by simp [execOp,e],hρ _ _ ha⟩
  ·injection h with h; subst h
   obtain ⟨_,e⟩:=hra;exact ⟨r x,by simp [execOp,e],hρ _ _ ha⟩
  ·injection h with h; subst h
   obtain ⟨_,_,a,e⟩:=hra;exact ⟨r x,by simp [execOp,e],hρ _ _ ha⟩
  ·injection h with h; subst h
   obtain ⟨A,B,e,_⟩:=hra;exact ⟨r x,by simp [execOp,e],hρ _ _ ha⟩
  ·cases h
 | binOp op t x y yt =>
  simp only [mP,e9,dh,eV,bH,cX,fa,bR,dj,bo,bk,da,cZ,bP,bG,cB,dQ,Option.bind_eq_some_iff] at h;obtain ⟨a,ha,b,hb,h⟩:=h;exact val (Jv hX h (hρ _ _ ha) (hρ _ _ hb))
 | unOp op t x =>
  simp only [mP,e9,dh,eV,bH,cX,fa,bR,dj,bo,bk,da,cZ,bP,bG,cB,dQ,Option.bind_eq_some_iff] at h;obtain ⟨a,ha,u,hu,r',h1,h2⟩:=h;refine val (s:=Op.unary op (r x)) ?_;rw [dF hu (hρ _ _ ha)];exact eB (by rw [h1]; exact h2)
 | convert src dt x =>
  simp only [mP,e9,dh,eV,bH,cX,fa,bR,dj,bo,bk,da,cZ,bP,bG,cB,dQ,Option.bind_eq_some_iff] at h;obtain ⟨a,ha,h⟩:=h;refine val (s:=Go.convert src dt (r x)) ?_;split at h
  ·rename_i u hu
   rw [dF hu (hρ _ _ ha)];exact eB h
  ·split at h
   ·rename_i id off len cp ez
    simp only [Option.bind_eq_some_iff] at h;obtain ⟨ds,hds,dd,hdd,h⟩:=h;split at h
    ·rename_i e
     rw [Option.bind_eq_some_iff] at h;obtain ⟨de,hde,h⟩:=h;split at h
     ·simp only [aE,Option.bind_eq_some_iff,Option.map_eq_some_iff] at h
      obtain ⟨hz,l,hl,cs,hcs,bs,hbs,rfl⟩:=h;obtain ⟨nO,hl⟩:=fH hl;exact ⟨_,QV hX (hρ _ _ ha) hds hdd hde (hS _ _ hl).2 (Nat.eq_of_beq_eq_true hz) hcs hbs,rfl,rfl⟩
     ·cases h
    ·cases h
   ·cases h
 | field t x f =>
  simp only [mP,e9,dh,eV,bH,cX,fa,bR,dj,bo,bk,da,cZ,bP,bG,cB,dQ,Option.bind_eq_some_iff] at h;obtain ⟨d,hd,va,ha,h⟩:=h;split at h
  ·rename_i fs l
   rw [Option.bind_eq_some_iff] at h;obtain ⟨fd,hf,h⟩:=h;obtain ⟨A,e,hA⟩:=hρ _ _ ha;obtain ⟨y,h1,h2⟩:=EU hX (w:=w) hA h;refine val ⟨y,?_,h2⟩;simp [Instr.field,run_underlying (hX.und _ _ hd),hf,e,asAgg,h1]
  ·cases h
 | fieldAddr t x f =>
  simp only [mP,e9,dh,eV,bH,cX,fa,bR,dj,bo,bk,da,cZ,bP,bG,cB,dQ,Option.bind_eq_some_iff] at h;obtain ⟨d,hd,va,ha,h⟩:=h;split at h
  ·rename_i fs id off
   simp only [Option.bind_eq_some_iff,aE] at h;obtain ⟨fd,hf,i,hi,h1,h⟩:=h;injection h with h; subst h
   obtain ⟨hD,e⟩:=hρ _ _ ha;refine val (s:=Instr.fieldAt t (r x) f) ?_;rw [e];exact ⟨_,CX hX hd hf hi (Nat.le_of_ble_eq_true h1),hD,by rw [Nat.add_assoc]⟩
  ·cases h
 | indexAddr t x ix =>
  simp only [mP,e9,dh,eV,bH,cX,fa,bR,dj,bo,bk,da,cZ,bP,bG,cB,dQ,Option.bind_eq_some_iff] at h;obtain ⟨d,hd,va,ha,vk,hk,i,hi,h⟩:=h;obtain ⟨ik,e⟩:=lh hi (hρ _ _ hk);refine val (s:=Instr.indexAt t (r x) (r ix)) ?_;rw [e];split at h
  ·rename_i n el id off
   simp only [Option.bind_eq_some_iff,aE] at h;obtain ⟨ie,hie,h1,h⟩:=h;injection h with h; subst h
   obtain ⟨hD,e'⟩:=hρ _ _ ha;rw [e'];exact ⟨_,mX hX hd hie (Nat.le_of_ble_eq_true h1),hD,by rw [lG,Nat.add_assoc]⟩
  ·rename_i el id off len cp ez
   simp only [Option.bind_eq_some_iff,aE,Bool.and_eq_true] at h;obtain ⟨ie,hie,⟨h1,h2⟩,h⟩:=h;injection h with h; subst h
   obtain ⟨hD,a,c,e',h3,h4,_⟩:=hρ _ _ ha;have h1:i < len:=Nat.le_of_ble_eq_true h1;rw [e'];rcases h4 with h4 | ⟨h4,_⟩
   ·omega
   ·exact ⟨_,mW hX hd hie h1,hD,by rw [h4,lG,Nat.add_assoc]⟩
  ·cases h
 | index t x ix =>
  simp only [mP,e9,dh,eV,bH,cX,fa,bR,dj,bo,bk,da,cZ,bP,bG,cB,dQ,Option.bind_eq_some_iff] at h;obtain ⟨va,ha,vk,hk,h⟩:=h;refine val (s:=Instr.index t (r x) (r ix)) ?_;split at h
  ·rename_i l
   simp only [Option.bind_eq_some_iff] at h;obtain ⟨d,hd,i,hi,h⟩:=h;split at h
   ·rename_i n el
    simp only [Option.bind_eq_some_iff,aE] at h;obtain ⟨ie,hie,h1,h⟩:=h;have h1:i < n:=Nat.le_of_ble_eq_true h1;obtain ⟨ik,e⟩:=lh hi (hρ _ _ hk);obtain ⟨A,e',hA⟩:=hρ _ _ ha;obtain ⟨ti,i1,i2,_⟩:=hX.inf _ _ hie;obtain ⟨y,g1,g2⟩:=EU hX (w:=w) hA h;have h1':(i:Int) < (n:Int):=by omega
    refine ⟨y,?_,g2⟩;simp [Instr.index,e,e',asIntOf,run_underlying (hX.und _ _ hd),h1',bm i1,i2,g1];intro hh;omega
   ·cases h
  ·simp only [Option.bind_eq_some_iff] at h
   obtain ⟨u,hu,j,hj,r',h1,h2⟩:=h;rw [dF hu (hρ _ _ ha),dF hj (hρ _ _ hk)];exact eB (by rw [h1]; exact h2)
 | slice t x lo hi mx=>exact val (MR hX hρ hS h)
 | extract x ix =>
  simp only [mP,e9,dh,eV,bH,cX,fa,bR,dj,bo,bk,da,cZ,bP,bG,cB,dQ,Option.bind_eq_some_iff] at h;obtain ⟨va,ha,h⟩:=h;split at h
  ·rename_i l
   rw [Option.map_eq_some_iff] at h;obtain ⟨v1,h1,rfl⟩:=h;obtain ⟨A,e,hA⟩:=hρ _ _ ha;obtain ⟨y,g1,g2⟩:=hA.get h1;refine val ⟨y,?_,g2⟩;have:A[ix]?=some y:=by simpa using g1
   simp [Instr.extract,e,this]
  ·cases h
 | makeFunc f fi ca =>
  simp only [mP,e9,dh,eV,bH,cX,fa,bR,dj,bo,bk,da,cZ,bP,bG,cB,dQ,Option.bind_eq_some_iff,Option.map_eq_some_iff] at h;obtain ⟨a,ha,b,hb,a',ha',b',hb',rfl⟩:=h;refine val ⟨.func f (fi.map r) (ca.map r),rfl,_,_,rfl,?_,?_⟩
  ·rw [Array.toList_map]; exact ny ha' (rR hρ ha)
  ·rw [Array.toList_map]; exact ny hb' (rR hρ hb)
 | lookup t x ix ok =>
  simp only [mP,e9,dh,eV,bH,cX,fa,bR,dj,bo,bk,da,cZ,bP,bG,cB,dQ,Option.bind_eq_some_iff] at h;obtain ⟨d,hd,va,ha,vk,hk,h⟩:=h;split at h
  ·rename_i kt et id j n
   simp only [Option.bind_eq_some_iff] at h;obtain ⟨dk,hdk,ie,hie,p,hp,h⟩:=h;split at h
   ·rename_i kk
    simp only [Option.bind_eq_some_iff] at h;obtain ⟨q,hq,y,hy,h⟩:=h;obtain ⟨_,e⟩:=hρ _ _ ha;have e':=(hρ _ _ hk).1;obtain ⟨rm,km,hm,hsm⟩:=(hS _ _ (fD hp)).2;rw [iH hsm] at hq;obtain ⟨ti,i1,i2,_,i4⟩:=hX.inf _ _ hie;have hv1:=oI (E:=E) hy;refine val ⟨if ok then .tuple #[QG q ie.zero,.bool q.isSome] else QG q ie.zero,?_,?_⟩
    ·simp only [Instr.lookup,Sem.run_bind,run_underlying (hX.und _ _ hd),Result.andThen_ok,e,e',eJ hm,dD (hX.und _ _ hdk),run_findKey (hX.und _ _ hdk) hq,Sem.run_pure]
     cases q with
     | none=>simp [gU i1 i4,QG]
     | some q=>simp [QG]
    ·cases ok
     ·injection h with h; subst h; exact hv1
     ·injection h with h; subst h
      exact ⟨_,rfl,hv1,⟨rfl,rfl⟩,trivial⟩
   ·cases h
  ·cases h
 | call c =>
  obtain ⟨callee,args,argTypes⟩:=c;cases callee with
  | builtin b =>
   simp only [mP,e9,dh,eV,bH,cX,fa,bR,dj,bo,bk,da,cZ,bP,bG,cB,dQ] at h;have Iy:∀ {s:Sem Value},(execOp r ⟨dst,.call ⟨.builtin b,args,argTypes⟩,ty,pos,after,gu⟩)=(do pure (Next.value (<- s)))->(∃ y,s.run X.P w=.ok y w/\RV E v y)->∃ y,(execOp r ⟨dst,.call ⟨.builtin b,args,argTypes⟩,ty,pos,after,gu⟩).run X.P w=.ok (.value y) w/\RV E v y:=fun e h=>by rw [e]; exact val h
   split at h
   ·split at h
    ·rename_i t tl x ht hx
     rw [Option.bind_eq_some_iff] at h;obtain ⟨va,ha,h⟩:=h;refine Iy (s:=Builtin.len_ argTypes ty (args.map r)) rfl ?_;have e:args.map r=#[r x]:=by apply Array.ext'; rw [Array.toList_map,hx]; rfl
     have et:argTypes[0]?=some t:=by rw [<- Array.getElem?_toList,ht]; rfl
     rw [e];split at h
     ·rename_i u hu
      rw [dF hu (hρ _ _ ha)];exact eB h
     ·exact Km hX hS et h (hρ _ _ ha)
    ·cases h
   ·rw [Option.bind_eq_some_iff] at h
    obtain ⟨l,hl,h⟩:=h;refine Iy (s:=Builtin.min_ argTypes ty (args.map r)) rfl ?_;have:args.map r=l.toArray:=by rw [ku hρ hl]; apply Array.ext'; simp
    rw [this];exact eB h
   ·rw [Option.bind_eq_some_iff] at h
    obtain ⟨l,hl,h⟩:=h;refine Iy (s:=Builtin.max_ argTypes ty (args.map r)) rfl ?_;have:args.map r=l.toArray:=by rw [ku hρ hl]; apply Array.ext'; simp
    rw [this];exact eB h
   ·cases h
  | value f=>simp [mP,dQ] at h
  | invoke a b=>simp [mP,dQ] at h
 | _=>simp [mP,dQ] at h
end Ev
namespace Ev
open Go
variable {σ:Type}
theorem Nv {E:Env} {c:Nat} (hc:¬ E.D c) {w1:World} {b:Nat} {arr:Array Value} {ty:TypeId} {fz:Nat×Nat} (hw:w1.heap[b]?=some (.cells arr ty fz)) {l:List Ce} {vs rest:List Value} (hl:aQ (RC E) l vs) (ha:arr.toList=vs ++ rest) (hf:NF fz arr.size) :
  RO (E.more c b arr.size) c w1 (.row l ty):=by
 have ext:Ext E (E.more c b arr.size):=Env.tN hc;have hsz:arr.size=vs.length + rest.length:=by rw [<- Array.length_toList,ha]; simp
 refine ⟨arr,fz,by simpa [Env.more] using hw,by simp [Env.more],?_,hf,fun i x hx=>?_⟩
 ·have:=hl.length; simp [Env.more]; omega
 ·obtain ⟨y,h1,h2⟩:=hl.get hx
  refine ⟨y,?_,RC.ext ext h2⟩;have hi:i < vs.length:=by
   rcases Nat.lt_or_ge i vs.length with h | h
   ·exact h
   ·rw [List.getElem?_eq_none h] at h1; cases h1
  rw [show (E.more c b arr.size).sh c + i=i by simp [Env.more],<- Array.getElem?_toList,ha,List.getElem?_append_left hi];exact h1
theorem Qb (n:Nat):NF (0,0) n:=.inl rfl
theorem DY {X:Cx σ} {O:Outside σ} {E:Env} {h:Nat->Option Ob} {g:σ} {w w1:World} (r:Rel X O E h g w) {c:Nat} (hc:¬ E.D c) {arr:Array Value} {ty:TypeId} {l:List Ce} {vs rest:List Value} (hl:aQ (RC E) l vs) (ha:arr.toList=vs ++ rest) {fz:Nat×Nat} (hf:NF fz arr.size) (hw:w1=w.alloc (.cells arr ty fz)) :
  Rel X O (E.more c w.heap.size arr.size) (cP h c (some (.row l ty))) g w1/\iB E h c w (E.more c w.heap.size arr.size) (cP h c (some (.row l ty))) (c + 1) w1:=by
 refine r.made hc hw (Nv hc (by rw [hw]; exact heap_alloc) hl ha hf) ?_;rcases Nat.lt_or_ge c X.ng with h | h
 ·exact absurd (r.kJ c h).1 hc
 ·exact h
theorem tC {E:Env} {c b k:Nat}:RV (E.more c b k) (one (.ptr c 0)) (.pointer (some ⟨b,0,none⟩)):=⟨by simp [Env.more],by simp [Env.more]⟩
theorem jq {E:Env} {c b k len cap ez:Nat} {cp:Option Nat} (h:len<=cap) (hk:cap * ez<=k) (hcp:∀ k,cp=some k->cap=k) (hcm:cp=none->cap<=9223372036854775807:=by intro h; cases h):RV (E.more c b k) (one (.sl c 0 len cp ez)) (.slice (some ⟨b,0,none⟩) len cap) :=
 ⟨by simp [Env.more],_,_,rfl,h,.inr ⟨by simp [Env.more],by simpa [Env.more] using hk⟩,hcp,hcm⟩
theorem kV (Z:Array Value):∀ k,((Array.range (k * Z.size)).map (fun i=>Z[i % Z.size]!)).toList=(List.replicate k Z.toList).flatten
 | 0=>by simp
 | k + 1=>by
  have ih:=kV Z k;simp only [Array.toList_map,Array.toList_range] at ih ⊢;rw [Nat.succ_mul,List.replicate_succ',List.flatten_append,List.flatten_singleton,<- ih,List.range_add,List.map_append,List.map_map]
  congr 1
  apply List.ext_getElem?
  intro i
  by_cases hi:i < Z.size
  ·simp only [List.getElem?_map,List.getElem?_range hi,Option.map_some,Function.comp,Nat.mul_comm k,Nat.mul_add_mod,Nat.mod_eq_of_lt hi]
   rw [Array.getElem?_toList,Array.getElem?_eq_getElem hi,getElem!_pos Z i hi]
  ·rw [List.getElem?_eq_none (by simpa using hi),List.getElem?_eq_none (by simpa using hi)]
theorem tP {E:Env} {z:List Ce} {Z:List Value} (h:aQ (RC E) z Z):∀ k,aQ (RC E) (rep z k) (List.replicate k Z).flatten
 | 0=>by simp [rep]; trivial
 | k + 1=>by rw [rep,List.replicate_succ,List.flatten_cons]; exact h.append (tP h k)
theorem D_ {P:Program} {E:Env} {w:World} {S:Tr Ob} (hS:∀ id ob,S.get id=some ob->E.D id/\RO E id w ob) {size n:Nat} {cs:List Ce} {v:AV} {y:Value} (h:jj S size v=some (n,cs)) (hv:RV E v y) :
  cs.length=n * size/\∃ vs,vs.length=n * size/\aQ (RC E) cs vs/\∀ w':World,w'.heap=w.heap->(Builtin.lenOf y).run P w'=.ok n w'/\∀ m,m<=n->(Builtin.firstCells size m y).run P w'=.ok (vs.take (m * size)).toArray w':=by
 unfold jj at h;split at h
 ·injection h with h
  injection h with h1 h2
  subst h1 h2;rw [hv.1];exact ⟨by simp,[],by simp,trivial,fun w' _=>⟨rfl,fun m _=>by simp [Builtin.firstCells]⟩⟩
 ·rename_i s
  rw [aE] at h;obtain ⟨hz,h⟩:=h;have hz:size=1:=Nat.eq_of_beq_eq_true hz;injection h with h
  injection h with h1 h2
  subst h1 h2 hz;rw [hv.1];refine ⟨by simp,s.data.toList.map (fun b=>Value.int .u8 b.toNat),by simp,?_,fun w' _=>⟨rfl,fun m hm=>?_⟩⟩
  ·generalize s.data.toList=l
   induction l with
   | nil=>trivial
   | cons a l ih=>exact ⟨⟨rfl,rfl⟩,ih⟩
  ·simp only [Builtin.firstCells,Sem.run_pure,Nat.mul_one]
   congr 1
   apply Array.ext'
   rw [Array.toList_map];have:(s.extract 0 m).data.toList=s.data.toList.take m:=by
    rw [ByteArray.data_extract];simp
   rw [this,List.map_take]
 ·rename_i id off n' cp ez
  simp only [aE,Option.bind_eq_some_iff,Option.map_eq_some_iff] at h;obtain ⟨hz,l,hl,cs',hc,h⟩:=h;have hz:ez=size:=Nat.eq_of_beq_eq_true hz;injection h with h1 h2
  subst h1 h2 hz;obtain ⟨ty,hl⟩:=fH hl;have hro:=(hS _ _ hl).2;obtain ⟨_,a,c,h1,h2,h3,_⟩:=hv;obtain ⟨c1,vs,c2,c3,c4⟩:=ly hro hc;subst h1;refine ⟨c1,vs,c2,c3,fun w' hw'=>⟨rfl,fun m hm=>?_⟩⟩;have Ve:Nx w' (E.ι id) (E.sh id + off) (vs.take (m * ez)):=fun j v hj=>by
   have hj':vs[j]?=some v:=by
    rw [List.getElem?_take] at hj;split at hj
    ·exact hj
    ·cases hj
   have:=c4 j v hj';rw [World.cell?,hw'];exact this
  have hlen:(vs.take (m * ez)).length=m * ez:=by
   rw [List.length_take,c2];exact Nat.min_eq_left (Nat.mul_le_mul_right _ hm)
  simp only [Builtin.firstCells];rcases h3 with h3 | ⟨h3,_⟩
  ·have:m=0:=by omega
   subst this;rw [Nat.zero_mul,List.take_zero];rfl
  ·rw [h3]
   exact ed Ve hlen
 ·cases h
theorem oU {w:World} {need old:Nat} {e:TypeId}:need<=grownCap w need old e:=by
 show need<=need + _;omega
theorem dZ (z:Array Value) (n:Nat):(Builtin.zeroCells z n).size=n * z.size:=by simp [Builtin.zeroCells]
theorem r_ {d:TypeDesc} (h:isInt d=false):∀ k,d≠.int k:=fun k e=>by subst e; cases h
theorem nE {d:TypeDesc} (h:isInt d=true):∃ k,d=.int k:=by cases d <;> first | exact ⟨_,rfl⟩ | cases h
def uy (P:Program) (du:TypeDesc) (ti:TypeInfo) (z:Value) (x:Value) (n:Nat) (news:List Value) (w:World):Prop :=
 (isInt du=false/\(Builtin.lenOf x).run P w=.ok n w/\(Builtin.firstCells ti.size n x).run P w=.ok news.toArray w) \/
 (isInt du=true/\n<=65536/\ti.bytes<=65536/\(∃ k,x=.int k (n:Int))/\z.cells.size=ti.size/\news.toArray=Builtin.zeroCells z.cells n)
theorem ra {z:Value} {ti:TypeInfo} {n:Nat} {news:List Value} (h:z.cells.size=ti.size) (hn:news.toArray=Builtin.zeroCells z.cells n) (h0:n * ti.size=0):news=[]:=by
 have:=dZ z.cells n;rw [<- hn,h,h0] at this;simpa using this
theorem lC {n:Nat} (h:n<=65536):IntKind.i64.wrap (n:Int)=(n:Int):=by
 unfold IntKind.wrap;simp [IntKind.signed,IntKind.bits];omega
theorem rK (P:Program) {w:World} {t u ty e:TypeId} {ti:TypeInfo} {z:Value} {du:TypeDesc} {base:Option Addr} {sLen sCap n:Nat} {x:Value} {olds news:List Value}
  (ht:P.underlying t=some (.slice e)) (hu:P.underlying u=some du) (hi:P.info? e=some ti) (hz:ti.zero=some z) (hx:∀ w':World,w'.heap=w.heap->uy P du ti z x n news w')
  (ho:∀ w':World,w'.heap=w.heap->(Builtin.firstCells ti.size sLen (.slice base sLen sCap)).run P w'=.ok olds.toArray w') (hg:sCap < sLen + n) (hn:sLen + n<=65536) (hb:ti.bytes<=65536) :
  (Builtin.append_ #[t,u] ty #[.slice base sLen sCap,x]).run P w=.ok (.slice (some ⟨w.heap.size,0,none⟩) (sLen + n) (grownCap w (sLen + n) sCap e))
   (w.drew.alloc (.cells (olds.toArray ++ news.toArray ++ Builtin.zeroCells z.cells (grownCap w (sLen + n) sCap e - (sLen + n))) e)):=by
 have h1:¬ (sLen + n<=sCap):=by omega
 have h2:¬ (9223372036854775807 < ((sLen:Int) + (n:Int))):=by omega
 have hfit:=growslice_fits (bytes:=ti.bytes) hg (by
  have:=Nat.mul_le_mul hn hb;omega)
 have h3:¬ (281474976710656 < Builtin.nextslicecap (sLen + n) sCap * ti.bytes):=by omega
 have hx0:=hx w rfl;have hx1:=hx w.drew rfl;have ho1:=ho w.drew rfl;rcases hx0 with ⟨hm,a1,a2⟩ | ⟨hm,a1,a2,⟨k,rfl⟩,a3,a4⟩
 ·have qh:=r_ hm
  clear hm;have hm:(match du with | .int _=>true | _=>false)=false:=by cases du <;> first | rfl | exact absurd rfl (qh _)
  rcases hx1 with ⟨_,b1,b2⟩ | ⟨hm',_⟩
  ·simp [Builtin.append_,run_underlying ht,run_underlying hu,hm,sizeOf,typeInfo,zeroValue,hi,hz,a1,b2,ho1,h1,h2,h3,Question.forced,newRow,grownCap]
   congr 2
   apply Array.ext'
   simp [List.append_assoc]
  ·obtain ⟨kd,rfl⟩:=nE hm'; exact absurd rfl (qh _)
 ·obtain ⟨kd,rfl⟩:=nE hm
  have h4:¬ ((n:Int) < 0):=by omega
  have h5:¬ (281474976710656 < (n:Int) * (ti.bytes:Int)):=by
   have:=Nat.mul_le_mul a1 a2;have e:(n:Int) * (ti.bytes:Int)=((n * ti.bytes:Nat):Int):=by simp
   rw [e];omega
  by_cases h0:n * ti.size=0
  ·have:=ra a3 a4 h0
   subst this;have h0':n=0\/ti.size=0:=Nat.mul_eq_zero.1 h0;simp [Builtin.append_,run_underlying ht,run_underlying hu,sizeOf,typeInfo,zeroValue,hi,hz,asInt,asIntOf,lC a1,h4,h5,h0,ho1,h1,h2,h3,Question.forced,newRow,grownCap]
  ·have h0':¬ (n=0\/ti.size=0):=fun h=>h0 (Nat.mul_eq_zero.2 h)
   simp [Builtin.append_,run_underlying ht,run_underlying hu,sizeOf,typeInfo,zeroValue,hi,hz,asInt,asIntOf,lC a1,h4,h5,h0,ho1,h1,h2,h3,Question.forced,newRow,grownCap,a4]
theorem lR (P:Program) {w:World} {t u ty e:TypeId} {ti:TypeInfo} {z:Value} {du:TypeDesc} {base:Option Addr} {sLen sCap:Nat} {x:Value}
  (ht:P.underlying t=some (.slice e)) (hu:P.underlying u=some du) (hi:P.info? e=some ti) (hx:uy P du ti z x 0 [] w)
  (hl:sLen<=sCap):(Builtin.append_ #[t,u] ty #[.slice base sLen sCap,x]).run P w=.ok (.slice base sLen sCap) w:=by
 rcases hx with ⟨hm,a1,a2⟩ | ⟨hm,a1,a2,⟨k,rfl⟩,a3,a4⟩
 ·have qh:=r_ hm
  clear hm;have hm:(match du with | .int _=>true | _=>false)=false:=by cases du <;> first | rfl | exact absurd rfl (qh _)
  cases base with
  | none=>simp [Builtin.append_,run_underlying ht,run_underlying hu,hm,sizeOf,typeInfo,hi,a1,a2,hl]
  | some a=>simp [Builtin.append_,run_underlying ht,run_underlying hu,hm,sizeOf,typeInfo,hi,a1,a2,hl,storeCells]
 ·obtain ⟨kd,rfl⟩:=nE hm
  have hw:IntKind.i64.wrap (0:Int)=0:=by decide
  cases base with
  | none=>simp [Builtin.append_,run_underlying ht,run_underlying hu,sizeOf,typeInfo,hi,asInt,asIntOf,hw,hl]
  | some a=>simp [Builtin.append_,run_underlying ht,run_underlying hu,sizeOf,typeInfo,hi,asInt,asIntOf,hw,hl,storeCells]
theorem jd {α:Type} {A:Array α} {x y:α} (h:A.toList=[x,y]):A=#[x,y]:=by apply Array.ext'; rw [h]
end Ev
namespace Ev
open Go
variable {σ:Type}
def CS (h:Nat->Option Ob) (c:Nat):Option Ob->Nat->Option Ob
 | none=>h
 | some o=>cP h c (some o)
def Hl (c:Nat):Option Ob->Nat
 | none=>c
 | some _=>c + 1
def jk (X:Cx σ) (O:Outside σ) (E:Env) (h:Nat->Option Ob) (g:σ) (c:Nat) (w:World) (v:AV) (ob:Option Ob) (y:Value) (w':World):Prop :=
 ∃ E',RV E' v y/\Rel X O E' (CS h c ob) g w'/\iB E h c w E' (CS h c ob) (Hl c ob) w'/\E'.sy=E.sy
theorem iB.of_heap {E E':Env} {h h':Nat->Option Ob} {c c':Nat} {w w0 w':World} (m:iB E h c w0 E' h' c' w') (hw:w0.heap=w.heap) (hk:Kp w w0:=by exact ⟨rfl,rfl,rfl⟩):iB E h c w E' h' c' w' :=
 ⟨m.ext,m.fresh,by have:=m.size; rw [hw] at this; exact this,fun b hb hB hI=>by have:=m.frame b (by rw [hw]; exact hb) hB hI; rw [hw] at this; exact this,fun id hi=>by have:=m.img id hi; rw [hw] at this; exact this,fun b hb=>by have:=m.m_ b hb; rw [hw] at this; exact this,m.dom,hk.trans m.kp⟩
theorem yD {X:Cx σ} {O:Outside σ} {E:Env} {h:Nat->Option Ob} {g:σ} {w:World} (r:Rel X O E h g w) {c:Nat} (hc:¬ E.D c) (w0:World) (hw0:w0.heap=w.heap) {arr:Array Value} {ty:TypeId} {l:List Ce} {vs rest:List Value} (hl:aQ (RC E) l vs) (ha:arr.toList=vs ++ rest)
  {fz:Nat×Nat} (hf:NF fz arr.size) {v:AV} {y:Value} (hv:RV (E.more c w.heap.size arr.size) v y) (hk:Kp w w0:=by exact ⟨rfl,rfl,rfl⟩):jk X O E h g c w v (some (.row l ty)) y (w0.alloc (.cells arr ty fz)):=by
 obtain ⟨a,b⟩:=DY (r.drawn hw0 hk) hc hl ha hf (w1:=w0.alloc (.cells arr ty fz)) rfl;rw [hw0] at a b;exact ⟨_,hv,a,b.of_heap hw0 hk,rfl⟩
theorem kD {X:Cx σ} {O:Outside σ} {E:Env} {h:Nat->Option Ob} {g:σ} {w:World} (r:Rel X O E h g w) {c:Nat} (hc:¬ E.D c) (w0:World) (hw0:w0.heap=w.heap) {arr:Array Value} {ty:TypeId} {l:List Ce} {vs rest:List Value} (hl:aQ (RC E) l vs) (ha:arr.toList=vs ++ rest)
  {v:AV} {y:Value} (hv:RV (E.more c w.heap.size arr.size) v y) (hk:Kp w w0:=by exact ⟨rfl,rfl,rfl⟩):jk X O E h g c w v (some (.row l ty)) y (w0.alloc (.cells arr ty)):=yD r hc w0 hw0 hl ha (Qb _) hv hk
theorem eN {P:Program} {w:World} {t:TypeId} {cs:Array Value}:(newRow t cs).run P w=.ok ⟨w.heap.size,0,none⟩ (w.alloc (.cells cs t)):=by simp [newRow]
theorem qV {E:Env} {v:AV} {n:Nat} {y:Value} (h:lH v=some n) (hr:RV E v y) {P:Program} {w:World}:(asInt y).run P w=.ok (n:Int) w:=by
 obtain ⟨k,e⟩:=lh h hr;rw [e];simp [asInt,asIntOf]
theorem wrap_small {n:Nat} (h:n<=65536):IntKind.i64.wrap (n:Int)=(n:Int):=by
 unfold IntKind.wrap;simp [IntKind.signed,IntKind.bits];omega
theorem sx {size:Nat}:∀ (ps:List (Nat×List Ce)) (cs r:List Ce),jS (fun i=>some (i * size,size)) cs ps=some r->r.length=cs.length:=by
 intro ps
 induction ps with
 | nil=>intro cs r h; simp only [jS] at h; injection h with h; rw [h]
 | cons p ps ih =>
  intro cs r h;simp only [jS,Option.bind_eq_some_iff,aE,Option.some.injEq] at h;obtain ⟨x,hx,_,cs',h1,h2⟩:=h;rw [ih _ _ h2,kz h1]
section
variable {X:Cx σ} (hX:kg X) {O:Outside σ} {E:Env} {w:World} {ρ:Operand->Option AV} {r:Operand->Value} {S:Tr Ob} {h:Nat->Option Ob} {g:σ} (hρ:∀ x a,ρ x=some a->RV E a (r x)) (hr:∀ v,r (.const v)=v)
 (R:Rel X O E h g w) (hS:∀ id ob,S.get id=some ob->h id=some ob) {c:Nat} {v:AV} {ob:Option Ob} (hc:ob≠none->¬ E.D c) {dst:Option Tmp} {ty:TypeId} {pos:String} {after:Array Edge} {gu:Option (Nat×Bool)}
include hX hρ R hc
theorem Cq {t:TypeId} {n:Nat} {parts:Array (Nat×Operand)} (ho:qb X ⟨dst,.buildSlice t n parts,ty,pos,after,gu⟩ ρ S c=some (v,ob)):∃ y w',(Instr.buildSlice t n (parts.map fun (i,x)=>(i,r x))).run X.P w=.ok y w'/\jk X O E h g c w v ob y w':=by
 simp only [qb,cK,di,e_,vh,Option.bind_eq_some_iff] at ho;obtain ⟨d,hd,ho⟩:=ho;split at ho
 ·rename_i e
  simp only [Option.bind_eq_some_iff,aE,Bool.and_eq_true,Option.map_eq_some_iff] at ho;obtain ⟨ie,hie,b1,z,hz,ps,hps,l,hl,ho⟩:=ho;injection ho with h1 h2
  subst h1 h2;obtain ⟨ti,i1,i2,_,i4⟩:=hX.inf _ _ hie;have b1:=Nat.le_of_ble_eq_true b1;have b2:ie.zero.cells.size=ie.size:=hX.R_ _ _ hie;have hpr:=rM (X:=X) hρ hps;have hz2:((Array.range (n * ie.size)).map (fun i=>ie.zero.cells[i % ie.zero.cells.size]!)).toList=(List.replicate n ie.zero.cells.toList).flatten:=by rw [<- b2]; exact kV _ _
  obtain ⟨B,f1,f2⟩:=s9 (E:=E) _ (fun i=>some (i * ie.size,ie.size)) (A:=(Array.range (n * ie.size)).map (fun i=>ie.zero.cells[i % ie.zero.cells.size]!)) hl (by rw [hz2]; exact tP (gF hz) n) hpr (fun i x hx=>hx);have TU:B.size=n * ie.size:=by
   have e1:=f2.length;have e2:=sx ps _ _ hl;have e3:=(tP (E:=E) (gF hz) n).length;simp only [TI.zc] at e3;rw [<- hz2] at e3;simp only [Array.length_toList,Array.size_map,Array.size_range] at e1 e3;omega
  have hq:(parts.map fun (i,x)=>(i,r x)).toList=parts.toList.map fun (i,x)=>(i,r x):=by simp
  refine ⟨.slice (some ⟨w.heap.size,0,none⟩) n n,_,?_,kD R (hc (by simp)) w rfl f2 (arr:=B) (rest:=[]) (by simp) (jq lq (by omega) fun k hk=>by injection hk)⟩;have hlim:¬ (16777216 < n * ie.size):=by omega
  generalize hA:(Array.range (n * ie.size)).map (fun i=>ie.zero.cells[i % ie.zero.cells.size]!)=A at *;unfold Instr.buildSlice;simp only [Sem.run_bind,run_underlying (hX.und _ _ hd),Result.andThen_ok,bm i1,i2,hq];rw [if_neg (by simpa using hlim)]
  by_cases h0:n * ie.size=0
  ·have hA':(Array.range (n * ie.size)).map (fun i=>(#[]:Array Value)[i % (#[]:Array Value).size]!)=A:=by rw [<- hA]; simp [h0]
   rw [if_pos h0];simp only [Sem.run_bind,Sem.run_pure,Result.andThen_ok,hA']
   erw [f1]
   simp [eN]
  ·rw [if_neg h0]
   simp only [Sem.run_bind,gU i1 i4,Sem.run_pure,Result.andThen_ok,hA]
   erw [f1]
   simp [eN]
 ·cases ho
theorem Er {t:TypeId} {l k:Operand} (ho:qb X ⟨dst,.makeSlice t l k,ty,pos,after,gu⟩ ρ S c=some (v,ob)):∃ y w',(Instr.makeSlice t (r l) (r k)).run X.P w=.ok y w'/\jk X O E h g c w v ob y w':=by
 simp only [qb,cK,di,e_,vh,Option.bind_eq_some_iff] at ho;obtain ⟨d,hd,ho⟩:=ho;split at ho
 ·rename_i e
  simp only [Option.bind_eq_some_iff,aE,Bool.and_eq_true] at ho;obtain ⟨ie,hie,z,hz,al,hal,ak,hak,n,hn,m,hm,⟨⟨b1,b2⟩,b3⟩,ho⟩:=ho;injection ho with ho
  injection ho with h1 h2
  subst h1 h2;obtain ⟨ti,i1,i2,i3,i4⟩:=hX.inf _ _ hie;have b1:=Nat.le_of_ble_eq_true b1;have b2:=Nat.le_of_ble_eq_true b2;have b3:=Nat.le_of_ble_eq_true b3;have b4:ie.zero.cells.size=ie.size:=hX.R_ _ _ hie;have hz2:((Array.range (m * ie.size)).map (fun i=>ie.zero.cells[i % ie.zero.cells.size]!)).toList=(List.replicate m ie.zero.cells.toList).flatten:=by rw [<- b4]; exact kV _ _
  have hmk:=kD (ty:=e) R (hc (by simp)) w rfl (tP (E:=E) (gF hz) m) (arr:=(Array.range (m * ie.size)).map (fun i=>ie.zero.cells[i % ie.zero.cells.size]!)) (rest:=[]) (by rw [hz2]; simp [TI.zc]) (jq (c:=c) (len:=n) (cap:=m) (ez:=ie.size) (cp:=some m) b1 (by rw [Array.size_map,Array.size_range]; exact Nat.le_refl _) fun k hk=>by injection hk);refine ⟨.slice (some ⟨w.heap.size,0,none⟩) n m,_,?_,hmk⟩;clear hmk;have hprod:ie.bytes * m<=4294967296:=Nat.mul_le_mul b3 b2;have c2:¬ (281474976710656 < (ie.bytes:Int) * (m:Int)):=by
   have h1:((ie.bytes * m:Nat):Int)<=((4294967296:Nat):Int):=Int.ofNat_le.2 hprod;rw [Int.natCast_mul] at h1;generalize (ie.bytes:Int) * (m:Int)=q at *;omega
  have hcond:(decide ((m:Int) < 0) || decide ((ie.bytes:Int) * (m:Int) > 2 ^ 48) || decide ((n:Int) < 0) || decide ((n:Int) > (m:Int)))=false:=by
   have e48:(2:Int) ^ 48=281474976710656:=by decide
   simp only [Bool.or_eq_false_iff,decide_eq_false_iff_not,e48];omega
  unfold Instr.makeSlice;simp only [Sem.run_bind,run_underlying (hX.und _ _ hd),Result.andThen_ok,qV hn (hρ _ _ hal),qV hm (hρ _ _ hak),typeInfo,run_program,i1,i3,wrap_small (show n<=65536 by omega),wrap_small b2,Sem.run_pure,hcond,Bool.false_eq_true,if_false,Int.toNat_natCast,run_askRoom,bm i1,i2]
  by_cases h0:m * ie.size=0
  ·rw [if_pos h0]
   have Xk:∀ f:Nat->Value,(Array.range 0).map f=#[]:=fun f=>by rw [show Array.range 0=#[] from rfl]; simp
   simp [h0,eN];rw [Xk,Xk]
  ·rw [if_neg h0]
   simp only [Sem.run_bind,gU i1 i4,Sem.run_pure,Result.andThen_ok,eN]
 ·cases ho
include hr hS in
theorem JF {args:Array Operand} {argTypes:Array TypeId} (ho:qb X ⟨dst,.call ⟨.builtin .append,args,argTypes⟩,ty,pos,after,gu⟩ ρ S c=some (v,ob)):∃ y w',(Builtin.append_ argTypes ty (args.map r)).run X.P w=.ok y w'/\jk X O E h g c w v ob y w':=by
 have hS':∀ id ob,S.get id=some ob->E.D id/\RO E id w ob:=fun id ob hi=>R.ob id ob (hS id ob hi)
 simp only [qb,cK,di,e_,vh] at ho;split at ho
 ·rename_i t u x ht hx
  have hargs:=jd hx;have Vf:=jd ht;subst hargs Vf;simp only [Option.bind_eq_some_iff] at ho;obtain ⟨d,hd,du,qh,ho⟩:=ho;have e0:(#[Operand.const (.slice none 0 0),x]).map r=#[.slice none 0 0,r x]:=by simp [hr]
  rw [e0];split at ho
  ·cases ho
  ·rename_i e hne
   simp only [Option.bind_eq_some_iff] at ho;obtain ⟨ie,hie,a,ha,⟨n,cs⟩,hp,ho⟩:=ho;obtain ⟨ti,i1,i2,i3,i4⟩:=hX.inf _ _ hie;obtain ⟨c1,vs,c2,c3,c4⟩:=D_ (P:=X.P) hS' hp (hρ _ _ ha);have hdi:isInt du=false:=by cases du <;> first | rfl | exact absurd rfl (hne _)
   split at ho
   ·rename_i hn0
    dsimp only at hn0;subst hn0;injection ho with ho
    injection ho with h1 h2
    subst h1 h2;have h0:=c4 w rfl;have h00:=h0.2 0 lq;rw [<- i2,Nat.zero_mul,List.take_zero] at h00;exact ⟨.slice none 0 0,w,lR X.P (z:=ie.zero) (hX.und _ _ hd) (hX.und _ _ qh) i1 (.inl ⟨hdi,h0.1,h00⟩) lq,E,⟨rfl,rfl⟩,R,iB.refl _ _ _ _,rfl⟩
   ·rename_i k hn
    dsimp only at hn;rw [aE,Bool.and_eq_true] at ho;obtain ⟨⟨b1,b2⟩,ho⟩:=ho;have b1:=Nat.le_of_ble_eq_true b1;have b2:=Nat.le_of_ble_eq_true b2;dsimp only at b1;injection ho with ho
    injection ho with h1 h2
    subst h1 h2;have gq:=rK X.P (w:=w) (ty:=ty) (base:=none) (sLen:=0) (sCap:=0) (n:=n) (x:=r x) (olds:=[]) (news:=vs) (hX.und _ _ hd) (hX.und _ _ qh) i1 i4 (fun w' hw'=>by
     have:=(c4 w' hw').2 n lq;rw [<- c2,List.take_length] at this;rw [<- i2] at this;exact .inl ⟨hdi,(c4 w' hw').1,this⟩) (fun w' _=>by simp [Builtin.firstCells]) (by omega) (by omega) (by omega)
    have hcap:n<=grownCap w (0 + n) 0 e:=by have:=oU (w:=w) (need:=0 + n) (old:=0) (e:=e); omega
    rw [Nat.zero_add] at hcap gq;refine ⟨_,_,gq,kD R (hc (by simp)) w.drew rfl c3 (rest:=(Builtin.zeroCells ie.zero.cells (grownCap w n 0 e - n)).toList) (by simp) (jq hcap ?_ (fun k hk=>by cases hk) (fun _=>Nat.le_trans (grownCap_le_maxLen _ _ _ _ (by unfold maxLen; omega)) (by decide)))⟩;have hz:ie.zero.cells.size=ie.size:=hX.R_ _ _ hie;have es:([].toArray ++ vs.toArray ++ Builtin.zeroCells ie.zero.cells (grownCap w n 0 e - n)).size=n * ie.size + (grownCap w n 0 e - n) * ie.size:=by simp [dZ,c2,hz]
    rw [es,<- Nat.add_mul];exact Nat.mul_le_mul_right _ (by omega)
  ·cases ho
 ·cases ho
end
end Ev
end Go.Proofs.YtijegngfclkdaaaGreatDoor
