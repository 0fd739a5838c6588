/-
  Piece 4 of the proof.
  Conditions: none.
-/
import Derived.Laws.IdiomStrings
import Derived.Lib.SlBytesConst
import Derived.Laws.MakeOwn
import Derived.Test.YtijegngfclkdaaaGreatDoorQ03
set_option linter.unusedVariables false
set_option linter.unusedSimpArgs false
set_option maxHeartbeats 100000000
set_option maxRecDepth 100000
namespace Go.Proofs.YtijegngfclkdaaaGreatDoor
namespace Ev
open Go
variable {σ:Type}
theorem yV {E:Env}:∀ l:List UInt8,aQ (RC E) (l.map fun b=>Ce.a (.v (.int .u8 b.toNat))) (l.map fun b=>Value.int .u8 b.toNat)
 | []=>trivial
 | _ :: l=>⟨⟨rfl,rfl⟩,yV l⟩
theorem L4 {X:Cx σ} (hX:kg X) {O:Outside σ} {E:Env} {w:World} {ρ:Operand->Option AV} {r:Operand->Value} {S:Tr Ob} {h:Nat->Option Ob} {g:σ} (hρ:∀ x a,ρ x=some a->RV E a (r x)) (hr:∀ v,r (.const v)=v)
  (R:Rel X O E h g w) (hS:∀ id ob,S.get id=some ob->h id=some ob) {c:Nat} {o:Oper} {v:AV} {ob:Option Ob} (hc:ob≠none->¬ E.D c) (ho:qb X o ρ S c=some (v,ob)) :
  ∃ y w',(execOp r o).run X.P w=.ok (.value y) w'/\jk X O E h g c w v ob y w':=by
 obtain ⟨dst,op,ty,pos,after,gu⟩:=o;have val:∀ {s:Sem Value},(∃ y w',s.run X.P w=.ok y w'/\jk X O E h g c w v ob y w')->∃ y w',(do pure (Next.value (<- s)):Sem Next).run X.P w=.ok (.value y) w'/\jk X O E h g c w v ob y w':=fun ⟨y,w',a,b⟩=>⟨y,w',Gj a,b⟩
 cases op with
 | alloc t =>
  simp only [qb,cK,di,e_,vh,Option.bind_eq_some_iff,Option.map_eq_some_iff] at ho;obtain ⟨i,hi,z,hz,ho⟩:=ho;injection ho with h1 h2
  subst h1 h2;obtain ⟨ti,i1,i2,_,i4⟩:=hX.inf _ _ hi;refine val (s:=Instr.alloc t true (.tuple #[])) ⟨_,_,?_,kD R (hc (by simp)) w rfl (gF hz) (arr:=i.zero.cells) (rest:=[]) (by simp [TI.zc]) tC⟩;simp [Instr.alloc,gU i1 i4,newVar,eN]
 | box t x =>
  simp only [qb,cK,di,e_,vh,Option.bind_eq_some_iff,Option.map_eq_some_iff] at ho;obtain ⟨a,ha,l,hl,ho⟩:=ho;injection ho with h1 h2
  subst h1 h2;refine val (s:=Instr.box t (r x)) ⟨_,_,?_,kD R (hc (by simp)) w rfl (rO hl (hρ _ _ ha)) (arr:=(r x).cells) (rest:=[]) (by simp) tC⟩;simp [Instr.box,newVar,eN]
 | buildSlice t n parts=>exact val (Cq hX hρ R hc ho)
 | makeMap t k =>
  cases k with
  | some k=>simp [qb] at ho
  | none =>
   simp only [qb,cK,di,e_,vh] at ho;injection ho with ho
   injection ho with h1 h2
   subst h1 h2;refine val (s:=Instr.makeMap t none) ⟨.map (some w.heap.size),w.alloc (.map #[] 0),by simp [Instr.makeMap],?_⟩;have OC:X.ng<=c:=by
    rcases Nat.lt_or_ge c X.ng with h | h
    ·exact absurd (R.kJ c h).1 (hc (by simp))
    ·exact h
   obtain ⟨a,b⟩:=R.made (hc (by simp)) (w1:=w.alloc (.map #[] 0)) (o:=.map [] 0) (k:=0) rfl ⟨[],0,by simp only [Env.more,if_pos]; exact heap_alloc,trivial⟩ OC;exact ⟨_,⟨by simp [Env.more],by simp [Env.more]⟩,a,b,rfl⟩
 | makeSlice t l k=>exact val (Er hX hρ R hc ho)
 | convert src dt x =>
  simp only [qb,cK,di,e_,vh,Option.bind_eq_some_iff] at ho;obtain ⟨ds,hds,dd,hdd,a,ha,ho⟩:=ho;split at ho
  ·rename_i e s
   rw [Option.bind_eq_some_iff] at ho;obtain ⟨de,hde,ho⟩:=ho;split at ho
   ·rw [aE] at ho
    obtain ⟨hsz,ho⟩:=ho;have hsz:=Nat.le_of_ble_eq_true hsz;injection ho with ho
    injection ho with h1 h2
    subst h1 h2;have e1:=(hρ _ _ ha).1;refine val (s:=Go.convert src dt (r x)) ?_;rw [e1];refine ⟨_,_,run_bytes_of_string w src dt e s (hX.und _ _ hds) (hX.und _ _ hdd) (hX.und _ _ hde),yD R (hc (by simp)) w.drew rfl (yV s.data.toList) (rest:=List.replicate (grownCap w s.size 0 e - s.size) (.int .u8 0)) (by simp [bytesRow]) (.inr lq) (jq oU ?_ (fun k hk=>by cases hk) (fun _=>Nat.le_trans (grownCap_le_maxLen _ _ _ _ (by unfold maxLen; omega)) (by decide)))⟩;have hcap:s.size<=grownCap w s.size 0 e:=oU;have:(bytesRow s (grownCap w s.size 0 e)).size=s.size + (grownCap w s.size 0 e - s.size):=by simp [bytesRow]
    rw [this];omega
   ·cases ho
  ·cases ho
 | call cl =>
  obtain ⟨callee,args,argTypes⟩:=cl;cases callee with
  | builtin b =>
   cases b with
   | append=>exact val (JF hX hρ hr R hS hc ho)
   | _=>simp [qb] at ho
  | value f=>simp [qb] at ho
  | invoke a b=>simp [qb] at ho
 | _=>simp [qb] at ho
def cC (X:Cx σ) (O:Outside σ) (E:Env) (s:St σ) (w:World) (v:Option AV) (s':St σ) (y:Value) (w':World):Prop :=
 ∃ E',(∀ av,v=some av->RV E' av y)/\Rel X O E' s'.S.get s'.g w'/\iB E s.S.get s.c w E' s'.S.get s'.c w'
theorem cC.rL {X:Cx σ} {O:Outside σ} {E:Env} {s:St σ} {w w':World} {v:AV} {ob:Option Ob} {y:Value} (h:jk X O E s.S.get s.g s.c w v ob y w'):cC X O E s w (some v) (bp s ob) y w':=by
 obtain ⟨E',h1,h2,h3,_⟩:=h;refine ⟨E',fun av e=>by injection e with e; rw [<- e]; exact h1,?_⟩;cases ob with
 | none=>exact ⟨h2,h3⟩
 | some o =>
  simp only [CS,Hl,bp] at h2 h3 ⊢;rw [bW];exact ⟨h2,h3⟩
theorem cC.same {X:Cx σ} {O:Outside σ} {E:Env} {s:St σ} {w:World} (R:Rel X O E s.S.get s.g w) {v:Option AV} {y:Value} (hv:∀ av,v=some av->RV E av y):cC X O E s w v s y w:=⟨E,hv,R,iB.refl _ _ _ _⟩
def Env.alias (E:Env) (c b o k:Nat):Env:={ E with ι:=fun i=>if i=c then b else E.ι i,sh:=fun i=>if i=c then o else E.sh i,κ:=fun i=>if i=c then k else E.κ i,D:=fun i=>E.D i\/i=c }
theorem Env.rl {E:Env} {c b o k:Nat} (hc:¬ E.D c):Ext E (E.alias c b o k):=fun id hd=>by
 have:id≠c:=fun e=>hc (e ▸ hd)
 simp [Env.alias,this,hd]
theorem Rel.RT {X:Cx σ} {O:Outside σ} {E:Env} {h:Nat->Option Ob} {g:σ} {w w':World} (r:Rel X O E h g w) {c id:Nat} (hc:¬ E.D c) {o o':Ob} (hi:h id=some o) {s k:Nat} (ho:RO (E.alias c (E.ι id) s k) c w' o')
  (hw:∀ b,b≠E.ι id->w'.heap[b]?=w.heap[b]?) (hs:w'.heap.size=w.heap.size) (hk:Kp w w':=by exact ⟨rfl,rfl,rfl⟩) :
  Rel X O (E.alias c (E.ι id) s k) (cP (cP h id none) c (some o')) g w'/\iB E h c w (E.alias c (E.ι id) s k) (cP (cP h id none) c (some o')) (c + 1) w':=by
 have ext:Ext E (E.alias c (E.ι id) s k):=Env.rl hc;have Zg:id≠c:=fun e=>hc (e ▸ (r.ob id o hi).1)
 have hι:∀ i,i≠c->(E.alias c (E.ι id) s k).ι i=E.ι i:=fun i hi=>by simp [Env.alias,hi]
 have KW:(E.alias c (E.ι id) s k).ι c=E.ι id:=by simp [Env.alias]
 have hid:h id≠none:=by rw [hi]; simp
 have hold:∀ i,i≠c->cP (cP h id none) c (some o') i≠none->i≠id/\h i≠none:=fun i h1 h2=>by
  simp only [cP,if_neg h1] at h2
  by_cases e:i=id
  ·rw [if_pos e] at h2; exact absurd rfl h2
  ·rw [if_neg e] at h2; exact ⟨e,h2⟩
 have OC:X.ng<=c:=by
  rcases Nat.lt_or_ge c X.ng with h | h
  ·exact absurd (r.kJ c h).1 hc
  ·exact h
 refine ⟨⟨fun i x hx=>?_,fun i j hi' hj e=>?_,fun i hi'=>?_,fun b hb=>?_,fun b hb=>by rw [hs]; exact r.lt b hb,?_⟩,⟨ext,fun i hd=>?_,by omega,fun b hb _ hI=>hw b (hI id hid).symm,fun i hi'=>?_,fun b hb=>.inl hb,fun i hi'=>?_,hk⟩⟩
 ·by_cases e:i=c
  ·subst e
   simp only [cP,if_pos] at hx;injection hx with hx
   subst hx;exact ⟨by simp [Env.alias],ho⟩
  ·have:=hold i e (by rw [hx]; simp)
   simp only [cP,if_neg e,if_neg this.1] at hx;obtain ⟨a,b⟩:=r.ob i x hx;exact ⟨(ext i a).1,b.ext ext a (hw _ fun e'=>this.1 (r.inj i id this.2 hid e'))⟩
 ·by_cases h1:i=c <;> by_cases h2:j=c
  ·rw [h1,h2]
  ·subst h1
   obtain ⟨a,b⟩:=hold j h2 hj;rw [KW,hι j h2] at e;exact absurd (r.inj j id b hid e.symm) a
  ·subst h2
   obtain ⟨a,b⟩:=hold i h1 hi';rw [KW,hι i h1] at e;exact absurd (r.inj i id b hid e) a
  ·rw [hι i h1,hι j h2] at e
   exact r.inj i j (hold i h1 hi').2 (hold j h2 hj).2 e
 ·by_cases h1:i=c
  ·subst h1; rw [KW]; exact r.apart id hid
  ·rw [hι i h1]; exact r.apart i (hold i h1 hi').2
 ·obtain ⟨a,b',d⟩:=r.kJ b hb
  have:b≠c:=by omega
  exact ⟨(ext b a).1,by rw [hι b this]; exact b',by simpa [Env.alias,this] using d⟩
 ·exact O.dX _ _ _ _ _ r.out ext (fun _=>Iff.rfl) (fun b hb=>hw b fun e=>r.apart id hid (e ▸ hb)) (by omega) hk
 ·rcases hd with h | h
  ·exact .inl h
  ·exact .inr (by omega)
 ·by_cases h1:i=c
  ·subst h1; exact .inl ⟨id,hid,KW⟩
  ·exact .inl ⟨i,(hold i h1 hi').2,hι i h1⟩
 ·by_cases h1:i=c
  ·exact .inr (by omega)
  ·exact .inl (hold i h1 hi').2
theorem uA (P:Program) {w w':World} {t u ty e:TypeId} {ti:TypeInfo} {z:Value} {du:TypeDesc} {a:Addr} {sLen sCap n:Nat} {x:Value} {news:List Value}
  (ht:P.underlying t=some (.slice e)) (hu:P.underlying u=some du) (hi:P.info? e=some ti) (hz:ti.zero=some z) (hx:uy P du ti z x n news w)
  (hg:sLen + n<=sCap) (hs:(storeCells (a.add (sLen * ti.size)) news).run P w=.ok () w'):(Builtin.append_ #[t,u] ty #[.slice (some a) sLen sCap,x]).run P w=.ok (.slice (some a) (sLen + n) sCap) w':=by
 rcases hx with ⟨hm,a1,a2⟩ | ⟨hm,a1,a2,⟨k,rfl⟩,a3,a4⟩
 ·have qh:=r_ hm
  clear hm;have hm:(match du with | .int _=>true | _=>false)=false:=by cases du <;> first | rfl | exact absurd rfl (qh _)
  simp [Builtin.append_,run_underlying ht,run_underlying hu,hm,sizeOf,typeInfo,hi,a1,a2,hg,hs]
 ·obtain ⟨kd,rfl⟩:=nE hm
  have h4:¬ ((n:Int) < 0):=by omega
  have h5:¬ (281474976710656 < (n:Int) * (ti.bytes:Int)):=by
   have:=Nat.mul_le_mul a1 a2;have e:(n:Int) * (ti.bytes:Int)=((n * ti.bytes:Nat):Int):=by simp
   rw [e];omega
  by_cases h0:n * ti.size=0
  ·have:=ra a3 a4 h0
   subst this;have h0':n=0\/ti.size=0:=Nat.mul_eq_zero.1 h0;simp [Builtin.append_,run_underlying ht,run_underlying hu,sizeOf,typeInfo,zeroValue,hi,hz,asInt,asIntOf,lC a1,h4,h5,h0,hg,hs]
  ·have h0':¬ (n=0\/ti.size=0):=fun h=>h0 (Nat.mul_eq_zero.2 h)
   have hs':(storeCells (a.add (sLen * ti.size)) (Builtin.zeroCells z.cells n).toList).run P w=.ok () w':=by rw [<- a4]; exact hs
   simp [Builtin.append_,run_underlying ht,run_underlying hu,sizeOf,typeInfo,zeroValue,hi,hz,asInt,asIntOf,lC a1,h4,h5,h0,hg,hs']
end Ev
namespace Ev
open Go
variable {σ:Type}
theorem J6 {X:Cx σ} (hX:kg X) {O:Outside σ} {E:Env} {w:World} {t u ty:TypeId} {a b v:AV} {s s':St σ} {y z:Value} (h:tL X t u a b s=some (v,s')) (R:Rel X O E s.S.get s.g w) (hf:∀ id,s.c<=id->id < s'.c->¬ E.D id)
  (ha:RV E a y) (hb:RV E b z):∃ p w',(Builtin.append_ #[t,u] ty #[y,z]).run X.P w=.ok p w'/\cC X O E s w (some v) s' p w':=by
 have hS:∀ id ob,s.S.get id=some ob->E.D id/\RO E id w ob:=R.ob;simp only [tL,Option.bind_eq_some_iff] at h;obtain ⟨d,hd,du,qh,h⟩:=h;split at h
 ·rename_i e
  simp only [Option.bind_eq_some_iff,aE] at h;obtain ⟨ie,hie,⟨m,cs⟩,hp,hby,h⟩:=h;have hby:=Nat.le_of_ble_eq_true hby
  obtain ⟨ti,i1,i2,i3,i4⟩:=hX.inf _ _ hie;have hzs:=hX.R_ _ _ hie;have src:cs.length=m * ie.size/\∃ vs,vs.length=m * ie.size/\aQ (RC E) cs vs/\∀ w':World,w'.heap=w.heap->uy X.P du ti ie.zero z m vs w':=by
   unfold Es at hp;split at hp
   ·rename_i hi
    simp only [Option.bind_eq_some_iff,aE,Option.map_eq_some_iff] at hp;obtain ⟨n,hn,hnb,zl,hz,hp⟩:=hp;injection hp with hp1 hp2
    subst hp1 hp2;obtain ⟨k,rfl⟩:=lh hn hb;have hr:=tP (E:=E) (gF (E:=E) hz) n;have hlen:(List.replicate n ie.zc).flatten.length=n * ie.size:=by
     have e:ie.zc.length=ie.size:=by simpa [TI.zc] using hzs
     simp [e]
    refine ⟨by rw [hr.length,hlen],_,hlen,hr,fun w' _=>.inr ⟨hi,Nat.le_of_ble_eq_true hnb,by rw [i3]; exact hby,⟨k,rfl⟩,by rw [i2]; exact hzs,?_⟩⟩;apply Array.ext'
    have:=kV ie.zero.cells n;simpa [Builtin.zeroCells,TI.zc] using this.symm
   ·rename_i hi
    obtain ⟨c1,vs,c2,c3,c4⟩:=D_ (P:=X.P) hS hp hb;refine ⟨c1,vs,c2,c3,fun w' hw'=>.inl ⟨hi,(c4 w' hw').1,?_⟩⟩;have:=(c4 w' hw').2 m lq;rw [<- c2,List.take_length] at this;rw [i2];exact this
  obtain ⟨c1,vs,c2,c3,whole⟩:=src;have none0:∀ w':World,w'.heap=w.heap->m=0->uy X.P du ti ie.zero z 0 [] w':=fun w' hw' h0=>by
   have h1:=whole w' hw';have:vs=[]:=List.length_eq_zero_iff.1 (by rw [c2,h0,Nat.zero_mul]);rw [this,h0] at h1;exact h1
  dsimp only at h;split at h
  ·have hy:y=.slice none 0 0:=ha.1
   subst hy;cases m with
   | zero =>
    dsimp only at h;injection h with h
    injection h with h1 h2
    subst h1 h2;exact ⟨.slice none 0 0,w,lR X.P (z:=ie.zero) (hX.und _ _ hd) (hX.und _ _ qh) i1 (none0 w rfl rfl) lq,cC.same R fun av e=>by injection e with e; rw [<- e]; exact ha⟩
   | succ k =>
    dsimp only at h;rw [aE] at h;obtain ⟨b1,h⟩:=h;have b1:=Nat.le_of_ble_eq_true b1;injection h with h
    injection h with h1 h2
    subst h1 h2;have hc:¬ E.D s.c:=hf s.c lq (by simp [bp]);have gq:=rK X.P (w:=w) (ty:=ty) (base:=none) (sLen:=0) (sCap:=0) (olds:=[]) (hX.und _ _ hd) (hX.und _ _ qh) i1 i4 whole (fun w' _=>by simp [Builtin.firstCells]) (by omega) (by omega) (by omega);have hcap:k + 1<=grownCap w (0 + (k + 1)) 0 e:=by have:=oU (w:=w) (need:=0 + (k + 1)) (old:=0) (e:=e); omega
    rw [Nat.zero_add] at hcap gq;refine ⟨_,_,gq,cC.rL (kD R hc w.drew rfl c3 (rest:=(Builtin.zeroCells ie.zero.cells (grownCap w (k + 1) 0 e - (k + 1))).toList) (by simp) (jq hcap ?_ (fun k hk=>by cases hk) (fun _=>Nat.le_trans (grownCap_le_maxLen _ _ _ _ (by unfold maxLen; omega)) (by decide))))⟩;have es:([].toArray ++ vs.toArray ++ Builtin.zeroCells ie.zero.cells (grownCap w (k + 1) 0 e - (k + 1))).size=(k + 1) * ie.size + (grownCap w (k + 1) 0 e - (k + 1)) * ie.size:=by simp [dZ,c2,hzs]
    rw [es,<- Nat.add_mul];exact Nat.mul_le_mul_right _ (by omega)
  ·rename_i id off n cp ez
   rw [aE,Bool.and_eq_true] at h;obtain ⟨⟨Ix,hnm⟩,h⟩:=h;have Ix:=Nat.eq_of_beq_eq_true Ix;have hnm:=Nat.le_of_ble_eq_true hnm;subst Ix;have ha':=ha;obtain ⟨hD,q,cap,hy,hl1,hl2,hl3,hlc⟩:=ha;subst hy;cases m with
   | zero =>
    dsimp only at h;injection h with h
    injection h with h1 h2
    subst h1 h2;exact ⟨_,w,lR X.P (z:=ie.zero) (hX.und _ _ hd) (hX.und _ _ qh) i1 (none0 w rfl rfl) hl1,cC.same R fun av e=>by injection e with e; rw [<- e]; exact ha'⟩
   | succ k =>
    dsimp only at h;split at h
    case h_2=>cases h
    rename_i l nO Sc;simp only [Option.bind_eq_some_iff,aE] at h;obtain ⟨hty,old,hold,h⟩:=h;have hty:=Nat.eq_of_beq_eq_true hty;subst hty;have hro:=(hS _ _ Sc).2;obtain ⟨o1,Sd,o2,o3,o4⟩:=ly hro hold;have olds:∀ w':World,w'.heap=w.heap->(Builtin.firstCells ti.size n (.slice (some q) n cap)).run X.P w'=.ok Sd.toArray w':=fun w' hw'=>by
     simp only [Builtin.firstCells];rw [i2];rcases hl2 with h0 | ⟨h0,_⟩
     ·have:n=0:=by omega
      subst this;rw [Nat.zero_mul] at o2 ⊢;rw [List.length_eq_zero_iff.1 o2];rfl
     ·rw [h0]
      refine ed (fun j v hj=>?_) o2;have:=o4 j v hj;rw [World.cell?,hw'];exact this
    have grow:cap < n + (k + 1)->s.c < s'.c->∃ p,(Builtin.append_ #[t,u] ty #[.slice (some q) n cap,z]).run X.P w=.ok p (w.drew.alloc (.cells (Sd.toArray ++ vs.toArray ++ Builtin.zeroCells ie.zero.cells (grownCap w (n + (k + 1)) cap nO - (n + (k + 1)))) nO)) /\
      ∀ (h0:Nat->Option Ob),Rel X O E h0 s.g w->jk X O E h0 s.g s.c w (one (.sl s.c 0 (n + (k + 1)) none ie.size)) (some (.row (old ++ cs) nO)) p (w.drew.alloc (.cells (Sd.toArray ++ vs.toArray ++ Builtin.zeroCells ie.zero.cells (grownCap w (n + (k + 1)) cap nO - (n + (k + 1)))) nO)):=fun hg hcc=>by
     have hc:¬ E.D s.c:=hf s.c lq hcc;have gq:=rK X.P (w:=w) (ty:=ty) (base:=some q) (olds:=Sd) (hX.und _ _ hd) (hX.und _ _ qh) i1 i4 whole olds hg hnm (by omega);have hcap:n + (k + 1)<=grownCap w (n + (k + 1)) cap nO:=oU;refine ⟨_,gq,fun h0 R0=>kD R0 hc w.drew rfl (o3.append c3) (rest:=(Builtin.zeroCells ie.zero.cells (grownCap w (n + (k + 1)) cap nO - (n + (k + 1)))).toList) (by simp) (jq hcap ?_ (fun k hk=>by cases hk) (fun _=>Nat.le_trans (grownCap_le_maxLen _ _ _ _ (by unfold maxLen; omega)) (by decide)))⟩;have es:(Sd.toArray ++ vs.toArray ++ Builtin.zeroCells ie.zero.cells (grownCap w (n + (k + 1)) cap nO - (n + (k + 1)))).size=n * ie.size + (k + 1) * ie.size + (grownCap w (n + (k + 1)) cap nO - (n + (k + 1))) * ie.size:=by simp [dZ,c2,o2,hzs]
     rw [es,<- Nat.add_mul,<- Nat.add_mul];exact Nat.mul_le_mul_right _ (by omega)
    have place:n + (k + 1)<=cap->q=⟨E.ι id,E.sh id + off,none⟩/\E.sh id + off + cap * ie.size<=E.κ id/\∃ arr fz w' cur',w.heap[E.ι id]?=some (.cells arr nO fz)/\E.κ id=arr.size/\NF fz arr.size /\
      (Builtin.append_ #[t,u] ty #[.slice (some q) n cap,z]).run X.P w=.ok (.slice (some q) (n + (k + 1)) cap) w'/\w'.heap[E.ι id]?=some (.cells cur' nO fz)/\cur'.size=arr.size /\
      (∀ j,cur'[j]?=if E.sh id + (off + n * ie.size)<=j/\j < E.sh id + (off + n * ie.size) + vs.length then vs[j - (E.sh id + (off + n * ie.size))]? else arr[j]?)/\(∀ b,b≠E.ι id->w'.heap[b]?=w.heap[b]?)/\w'.heap.size=w.heap.size/\Kp w w':=fun hg=>by
     have hq:q=⟨E.ι id,E.sh id + off,none⟩/\E.sh id + off + cap * ie.size<=E.κ id:=by
      rcases hl2 with h0 | h0
      ·omega
      ·exact h0
     obtain ⟨arr,fz,k1,k2,k3,k4,k5⟩:=hro;have hroom:(n + (k + 1)) * ie.size<=cap * ie.size:=Nat.mul_le_mul_right _ hg;rw [Nat.add_mul] at hroom;obtain ⟨w',cur',r1,r2,r3,r4,r5,r6,r7⟩:=nH (P:=X.P) (E.ι id) (E.sh id + (off + n * ie.size)) nO fz vs 0 arr w k1 k4.free (by omega) (lN c3);refine ⟨hq.1,hq.2,arr,fz,w',cur',k1,k2,k4,?_,r2,r3,fun j=>by rw [r4 j]; simp only [Nat.add_zero],r5,r6,r7⟩;refine uA X.P (hX.und _ _ hd) (hX.und _ _ qh) i1 i4 (whole w rfl) hg ?_;rw [hq.1,i2,lG,Nat.add_assoc];exact r1
    split at h
    ·
     injection h with h
     injection h with h1 h2
     subst h1 h2;have hcc:s.c < (bp (dM s id none) (some (.row (old ++ cs) nO))).c:=by simp [bp,dM]
     have hc:¬ E.D s.c:=hf s.c lq hcc;rcases Nat.lt_or_ge cap (n + (k + 1)) with hg | hg
     ·obtain ⟨p,g1,g2⟩:=grow hg hcc
      obtain ⟨E',m1,m2,m3,_⟩:=g2 (cP s.S.get id none) (R.sub fun i o hi=>by
       simp only [cP] at hi;split at hi
       ·cases hi
       ·exact hi)
      refine ⟨p,_,g1,E',fun av e=>by injection e with e; rw [<- e]; exact m1,?_,?_⟩
      ·simp only [bp,dM,bW]; exact m2
      ·have hsub:∀ i,cP s.S.get id none i≠none->s.S.get i≠none:=fun i hi=>by
        simp only [cP] at hi;split at hi
        ·exact absurd rfl hi
        ·exact hi
       simp only [bp,dM,bW];exact ⟨m3.ext,m3.fresh,m3.size,fun b hb hB hI=>m3.frame b hb hB fun i hi=>hI i (hsub i hi),fun i hi=>by rcases m3.img i hi with ⟨j,a,b⟩ | h; exact .inl ⟨j,hsub j a,b⟩; exact .inr h,m3.m_,fun i hi=>by rcases m3.dom i hi with h | h; exact .inl (hsub i h); exact .inr h,m3.kp⟩
     ·obtain ⟨p1,p2,arr,fz,w',cur',k1,k2,k4,r1,r2,r3,r4,r5,r6,r7⟩:=place hg
      have ext:Ext E (E.alias s.c (E.ι id) (E.sh id + off) arr.size):=Env.rl hc;have hlen:=o3.length;have Zh:=c3.length;obtain ⟨m2,m3⟩:=R.RT (c:=s.c) hc (s:=E.sh id + off) (k:=arr.size) (o':=.row (old ++ cs) nO) Sc (by
       refine ⟨cur',fz,by simpa [Env.alias] using r2,by simp [Env.alias,r3],?_,by rw [r3]; exact k4,fun i x hx=>?_⟩
       ·simp only [Env.alias,if_pos,List.length_append]
        have hroom:(n + (k + 1)) * ie.size<=cap * ie.size:=Nat.mul_le_mul_right _ hg;rw [Nat.add_mul] at hroom;omega
       ·have esh:(E.alias s.c (E.ι id) (E.sh id + off) arr.size).sh s.c=E.sh id + off:=by simp [Env.alias]
        rw [esh,r4];rw [List.getElem?_append] at hx;split at hx
        ·rename_i hi
         obtain ⟨y',g1,g2⟩:=o3.get hx;refine ⟨y',?_,RC.ext ext g2⟩;rw [if_neg (by omega)];have:=o4 i y' g1;rw [cell_of k1] at this;exact this
        ·rename_i hi
         have hi2:i - old.length < cs.length:=by
          rcases Nat.lt_or_ge (i - old.length) cs.length with h | h
          ·exact h
          ·rw [List.getElem?_eq_none h] at hx; cases hx
         obtain ⟨y',g1,g2⟩:=c3.get hx;refine ⟨y',?_,RC.ext ext g2⟩;rw [if_pos (by omega),show E.sh id + off + i - (E.sh id + (off + n * ie.size))=i - old.length by omega];exact g1) r5 r6 r7
      refine ⟨_,w',r1,E.alias s.c (E.ι id) (E.sh id + off) arr.size,fun av ee=>?_,?_,?_⟩
      ·injection ee with ee
       rw [<- ee];refine ⟨by simp [Env.alias],_,_,rfl,hg,.inr ⟨by rw [p1]; simp [Env.alias],?_⟩,(fun k hk=>by cases hk),fun _=>hlc rfl⟩;simp only [Env.alias,if_pos];omega
      ·simp only [bp,dM,bW]; exact m2
      ·simp only [bp,dM,bW]; exact m3
    ·rename_i kk
     split at h
     ·rename_i hk
      have hk:=Nat.le_of_ble_eq_true hk;have hcap:=hl3 kk rfl;rw [Option.map_eq_some_iff] at h;obtain ⟨l',tg,h⟩:=h;injection h with h1 h2
      subst h1 h2;obtain ⟨p1,p2,arr,fz,w',cur',k1,k2,k4,r1,r2,r3,r4,r5,r6,r7⟩:=place (by omega);obtain ⟨m2,m3⟩:=R.wrote Sc (hro.lay (w':=w') tg c3 k1 r2 r3 r4) r5 r6 s.c r7;refine ⟨_,w',r1,E,fun av ee=>?_,?_,?_⟩
      ·injection ee with ee
       rw [<- ee];exact ⟨hD,_,_,rfl,by omega,hl2,hl3,hlc⟩
      ·simp only [dM,bW]; exact m2
      ·simp only [dM,bW]; exact m3
     ·rename_i hk
      have hk:¬ n + (k + 1)<=kk:=fun hh=>by rw [Nat.ble_eq_true_of_le hh] at hk; cases hk
      have hcap:=hl3 kk rfl;injection h with h
      injection h with h1 h2
      subst h1 h2;obtain ⟨p,g1,g2⟩:=grow (by omega) (by simp [bp]);exact ⟨p,_,g1,cC.rL (g2 _ R)⟩
  ·cases h
 ·cases h
end Ev
namespace Ev
open Go
variable {σ:Type}
def eh (X:Cx σ) (O:Outside σ) (call:FuncId->List AV->St σ->Option (AV×St σ)):Prop :=
 ∀ f args s v s',call f args s=some (v,s')->X.fn f≠none->s.c<=s'.c/\∀ E w vals,Rel X O E s.S.get s.g w->(∀ id,s.c<=id->id < s'.c->¬ E.D id)->aQ (RV E) args vals ->
  Calls X.P f vals.toArray w fun e w'=>∃ y,e=.returned y/\cC X O E s w (some v) s' y w'
theorem mS {P:Program} {w:World} {a:Addr}:(markStringish a).run P w=.ok () (match w.shape? a.block with | some (_,n)=>w.freeze ⟨a.block,n,none⟩ 1 | none=>w):=by
 unfold markStringish;rw [Sem.run_bind,run_shape,Result.andThen_ok];cases w.shape? a.block with
 | none=>rfl
 | some p=>rfl
theorem Rel.marked {X:Cx σ} {O:Outside σ} {E:Env} {s:St σ} {w:World} (R:Rel X O E s.S.get s.g w) {id:Nat} {l:List Ce} {ty:TypeId} (hi:s.S.get id=some (.row l ty)) {v:Option AV} {y:Value} (hv:∀ av,v=some av->RV E av y) (b:Nat) (hb:b=E.ι id) :
  cC X O E s w v s y (match w.shape? b with | some (_,n)=>w.freeze ⟨b,n,none⟩ 1 | none=>w):=by
 subst hb;obtain ⟨arr,fz,h1,h2,h3,h4,h5⟩:=(R.ob id _ hi).2;have hsh:w.shape? (E.ι id)=some (ty,arr.size):=by simp [World.shape?,h1]
 rw [hsh];dsimp only;have hw:∀ b,b≠E.ι id->(w.freeze ⟨E.ι id,arr.size,none⟩ 1).heap[b]?=w.heap[b]?:=fun b hb=>by
  simp [World.freeze,Array.getElem?_modify,Ne.symm hb]
 have hs:(w.freeze ⟨E.ι id,arr.size,none⟩ 1).heap.size=w.heap.size:=by simp [World.freeze]
 have hn:(w.freeze ⟨E.ι id,arr.size,none⟩ 1).heap[E.ι id]?=some (.cells arr ty (if fz.1 == fz.2 then (arr.size,arr.size + 1) else (min fz.1 arr.size,max fz.2 (arr.size + 1)))):=by
  obtain ⟨lo,hi⟩:=fz;simp [World.freeze,Array.getElem?_modify,h1]
 have hro:RO E id (w.freeze ⟨E.ι id,arr.size,none⟩ 1) (.row l ty):=by
  refine ⟨arr,_,hn,h2,h3,?_,h5⟩;split
  ·exact .inr lq
  ·rename_i hne
   rcases h4 with h4 | h4
   ·exact absurd (beq_iff_eq.2 h4) hne
   ·right
    show arr.size<=min fz.1 arr.size;omega
 obtain ⟨a,b⟩:=R.wrote hi hro hw hs s.c;have e:cP s.S.get id (some (.row l ty))=s.S.get:=by
  funext i
  unfold cP;split
  ·rename_i e; rw [e,hi]
  ·rfl
 rw [e] at a b;exact ⟨E,hv,a,b⟩
theorem uu {α:Type} {A:Array α} {i:Nat} {f:α->α}:(A.modify i f).toList=A.toList.modify i f:=by simp
theorem my (v:Value):∀ (l:List MapEntry) (i:Nat),kG v l i=l.modify i fun e=>{ e with val:=v }
 | [],i=>by simp [kG]
 | e :: l,0=>by simp [kG]
 | e :: l,i + 1=>by simp [kG,my v l i]
theorem nW:∀ (l:List MapEntry) (i:Nat),jt l i=l.eraseIdx i
 | [],i=>by simp [jt]
 | e :: l,0=>by simp [jt]
 | e :: l,i + 1=>by simp [jt,nW l i]
theorem aQ.modify {α β:Type} {R:α->β->Prop} {f:α->α} {g:β->β}:∀ {l:List α} {r:List β} {i:Nat},aQ R l r->(∀ x y,l[i]?=some x->r[i]?=some y->R x y->R (f x) (g y))->aQ R (l.modify i f) (r.modify i g)
 | [],[],_,_,_=>by simp; trivial
 | x :: l,y :: r,0,⟨a,b⟩,h=>by simp; exact ⟨h x y rfl rfl a,b⟩
 | x :: l,y :: r,i + 1,⟨a,b⟩,h=>by simp; exact ⟨a,aQ.modify b fun x y hx hy=>h x y (by simpa using hx) (by simpa using hy)⟩
theorem aQ.eraseIdx {α β:Type} {R:α->β->Prop}:∀ {l:List α} {r:List β} {i:Nat},aQ R l r->aQ R (l.eraseIdx i) (r.eraseIdx i)
 | [],[],_,_=>trivial
 | _ :: _,_ :: _,0,⟨_,b⟩=>b
 | _ :: _,_ :: _,_ + 1,⟨a,b⟩=>⟨a,aQ.eraseIdx b⟩
theorem SM.update {es r:List MapEntry} (h:SM es r) {i:Nat} {k y:Value} {en:MapEntry} (h1:r[i]?=some en) (h2:en.key=k):SM (kG y es i) (r.modify i fun e=>{ e with key:=k,val:=y }):=by
 rw [my];refine aQ.modify h fun a b _ hb ⟨e1,_⟩=>⟨?_,rfl⟩
 rw [h1] at hb;injection hb with hb
 show k=a.key;rw [<- e1,<- hb,h2]
theorem iL {j:IntKind} {n:Int}:∀ {es:List MapEntry} {i:Nat} {q:Nat×Value},cT (.int j n) es i=some (some q)->i<=q.1/\∃ e,es[q.1 - i]?=some e/\e.key=.int j n
 | [],i,q,h=>by simp [cT] at h
 | e :: es,i,q,h=>by
  unfold cT at h;split at h
  ·rename_i j0 a j' b hk he
   injection hk with hk1 hk2
   subst hk1 hk2;rw [aE] at h;obtain ⟨h1,h2⟩:=h;have hj:j=j':=of_decide_eq_true h1;subst hj;split at h2
   ·rename_i hn
    injection h2 with h2
    injection h2 with h2
    subst h2;exact ⟨Nat.le_refl _,e,by simp,by rw [he]; congr 1; exact (eq_of_beq hn).symm⟩
   ·obtain ⟨a1,e',a2,a3⟩:=iL h2
    exact ⟨by omega,e',by rw [show q.1 - i=(q.1 - (i + 1)) + 1 by omega]; simpa using a2,a3⟩
  ·cases h
theorem iK {P:Program} {w:World} {b:Nat} {es:Array MapEntry} {c:Nat} {o:Obj} (h:w.heap[b]?=some (.map es c)):(setObj b o).run P w=.ok () { w with heap:=w.heap.setIfInBounds b o }:=by
 simp [setObj,Sem.run,h]
theorem Rel.mapped {X:Cx σ} {O:Outside σ} {E:Env} {s:St σ} {w:World} (R:Rel X O E s.S.get s.g w) {id:Nat} {es es' r':List MapEntry} {c c' k':Nat} (hi:s.S.get id=some (.map es c)) {v:Option AV} {y:Value} (hv:∀ av,v=some av->RV E av y) {o:Obj} (ho:o=.map r'.toArray k') (hm:SM es' r') :
  cC X O E s w v (dM s id (some (.map es' c'))) y { w with heap:=w.heap.setIfInBounds (E.ι id) o }:=by
 subst ho;have hlt:=R.ji hi;obtain ⟨a,b⟩:=R.wrote (w':={ w with heap:=w.heap.setIfInBounds (E.ι id) (.map r'.toArray k') }) (o':=.map es' c') hi ⟨r',k',by
  show (w.heap.setIfInBounds (E.ι id) _)[E.ι id]?=_;rw [Array.getElem?_setIfInBounds_self_of_lt hlt],hm⟩ (fun b hb=>by
  show (w.heap.setIfInBounds (E.ι id) _)[b]?=_;rw [Array.getElem?_setIfInBounds_ne (Ne.symm hb)]) (by simp) s.c
 refine ⟨E,hv,?_,?_⟩
 ·simp only [dM,bW]; exact a
 ·simp only [dM,bW]; exact b
end Ev
namespace Ev
open Go
variable {σ:Type}
theorem KL {X:Cx σ} {t u:TypeId} {a b v:AV} {s s':St σ} (h:tL X t u a b s=some (v,s')):s.c<=s'.c:=by
 simp only [tL,Option.bind_eq_some_iff] at h;obtain ⟨d,hd,du,qh,h⟩:=h;split at h
 ·simp only [Option.bind_eq_some_iff,aE] at h
  obtain ⟨ie,hie,⟨m,cs⟩,hp,hby,h⟩:=h;split at h
  ·split at h
   ·injection h with h; injection h with _ h; rw [h]; exact Nat.le_refl _
   ·rw [aE] at h; obtain ⟨_,h⟩:=h; injection h with h; injection h with _ h; rw [<- h]; simp [bp]
  ·rw [aE] at h
   obtain ⟨_,h⟩:=h;split at h
   ·injection h with h; injection h with _ h; rw [h]; exact Nat.le_refl _
   ·split at h
    ·rw [aE,Option.bind_eq_some_iff] at h
     obtain ⟨_,old,_,h⟩:=h;split at h
     ·injection h with h; injection h with _ h; rw [<- h]; simp [bp,dM]
     ·split at h
      ·rw [Option.map_eq_some_iff] at h; obtain ⟨_,_,h⟩:=h; injection h with _ h; rw [<- h]; simp [dM]
      ·injection h with h; injection h with _ h; rw [<- h]; simp [bp]
    ·cases h
  ·cases h
 ·cases h
theorem Fv {X:Cx σ} {call:FuncId->List AV->St σ->Option (AV×St σ)} (hc:∀ f args s v s',call f args s=some (v,s')->X.fn f≠none->s.c<=s'.c) {ρ:Operand->Option AV} {o:Oper} {v:Option AV} {s s':St σ} (h:m9 X call o ρ s=some (v,s')):s.c<=s'.c:=by
 obtain ⟨dst,op,ty,pos,after,gu⟩:=o;cases op with
 | store t a x =>
  simp only [m9,dK,cd,bF,bB,fR,Option.bind_eq_some_iff] at h;obtain ⟨i,_,p,_,x,_,cs,_,h⟩:=h;split at h
  ·rw [aE] at h
   obtain ⟨_,h⟩:=h;split at h
   ·rw [Option.map_eq_some_iff] at h; obtain ⟨_,_,h⟩:=h; injection h with _ h; rw [<- h]; simp [dM]
   ·cases h
  ·cases h
 | convert src dt x =>
  simp only [m9,dK,cd,bF,bB,fR] at h;split at h
  ·simp only [Option.bind_eq_some_iff] at h
   obtain ⟨de,_,x,_,h⟩:=h;split at h
   ·rw [aE] at h; obtain ⟨_,h⟩:=h; injection h with h; injection h with _ h; rw [h]; exact Nat.le_refl _
   ·cases h
  ·cases h
 | mapUpdate t m k x =>
  simp only [m9,dK,cd,bF,bB,fR,Option.bind_eq_some_iff] at h;obtain ⟨d,_,m,_,k,_,x,_,h⟩:=h;split at h
  ·rw [Option.bind_eq_some_iff] at h
   obtain ⟨dk,_,h⟩:=h;split at h
   ·simp only [Option.bind_eq_some_iff,Option.map_eq_some_iff] at h
    obtain ⟨p,_,q,_,h⟩:=h;split at h <;> (injection h with _ h; rw [<- h]; simp [dM])
   ·cases h
  ·cases h
 | call cl =>
  obtain ⟨callee,args,argTypes⟩:=cl;cases callee with
  | builtin b =>
   cases b with
   | append =>
    simp only [m9,dK,cd,bF,bB,fR] at h;split at h
    ·simp only [Option.bind_eq_some_iff,Option.map_eq_some_iff] at h
     obtain ⟨a,_,b,_,⟨v',s''⟩,h1,h⟩:=h;injection h with _ h
     rw [<- h];exact KL h1
    ·cases h
   | copy =>
    simp only [m9,dK,cd,bF,bB,fR] at h;split at h
    ·simp only [Option.bind_eq_some_iff] at h
     obtain ⟨d,_,h⟩:=h;split at h
     ·simp only [Option.bind_eq_some_iff] at h
      obtain ⟨ie,_,a,_,b,_,p,_,h⟩:=h;split at h
      ·injection h with h; injection h with _ h; rw [h]; exact Nat.le_refl _
      ·rw [aE] at h
       obtain ⟨_,h⟩:=h;split at h
       ·simp only [Option.bind_eq_some_iff,Option.map_eq_some_iff] at h
        obtain ⟨_,_,_,_,h⟩:=h;injection h with _ h
        rw [<- h]; simp [dM]
       ·cases h
      ·cases h
     ·cases h
    ·cases h
   | delete =>
    simp only [m9,dK,cd,bF,bB,fR] at h;split at h
    ·simp only [Option.bind_eq_some_iff] at h
     obtain ⟨d,_,m,_,k,_,h⟩:=h;split at h
     ·simp only [Option.bind_eq_some_iff] at h
      obtain ⟨dk,_,h⟩:=h;split at h
      ·simp only [Option.bind_eq_some_iff,Option.map_eq_some_iff] at h
       obtain ⟨p,_,q,_,h⟩:=h;split at h
       ·injection h with _ h; rw [<- h]; simp [dM]
       ·injection h with _ h; rw [h]; exact Nat.le_refl _
      ·cases h
     ·cases h
    ·cases h
   | _=>simp [m9,bB] at h
  | value f =>
   simp only [m9,dK,cd,bF,bB,fR,Option.bind_eq_some_iff] at h;obtain ⟨f,_,l,_,h⟩:=h;split at h
   ·simp only [Option.bind_eq_some_iff,Option.map_eq_some_iff] at h
    obtain ⟨fi,hfi,⟨v',s''⟩,h1,h⟩:=h;injection h with _ h
    rw [<- h];exact hc _ _ _ _ _ h1 (by rw [hfi]; simp)
   ·cases h
  | invoke a b=>simp [m9,bB] at h
 | _=>simp [m9,bB] at h
theorem fN {P:Program} {o:Oper} {a:Act} {next:Act->World->Prop} {Q:Exit->Act->World->Prop} {s:Sem Value} {w w':World} {y:Value} (h:s.run P w=.ok y w') (k:next (a.put o.dst y) w'):o.upon P a next Q ((do pure (Next.value (<- s)):Sem Next).run P w):=by
 rw [Gj h]; exact k
theorem mj {P:Program} {o:Oper} {a:Act} {next:Act->World->Prop} {Q:Exit->Act->World->Prop} {s:Sem Unit} {w w':World} (h:s.run P w=.ok () w') (k:next (a.put o.dst undef) w'):o.upon P a next Q ((do s; pure Next.skip:Sem Next).run P w):=by
 rw [RM h]; exact k
theorem Xc {E:Env}:∀ {l:List At} {vs:List Value},aQ (RA E) l vs->aQ (RC E) (l.map Ce.a) vs
 | [],[],_=>trivial
 | _ :: _,_ :: _,⟨a,b⟩=>⟨a,Xc b⟩
theorem atR {E:Env}:∀ {l:List Ar} {vs:List Value},aQ (Jt E) l vs->aQ (RV E) (l.map Ar.av) vs
 | [],[],_=>trivial
 | .one _ :: _,_ :: _,⟨a,b⟩=>⟨a,atR b⟩
 | .agg _ :: _,_ :: _,⟨⟨A,e,a⟩,b⟩=>⟨⟨A,e,Xc a⟩,atR b⟩
theorem Ia {l cs:List Ce} {k:Nat} (h:cut l 0 k=some cs):cs=l.take k:=by simpa using (gZ h).2
theorem Ln {X:Cx σ} (hX:kg X) {O:Outside σ} {call:FuncId->List AV->St σ->Option (AV×St σ)} (hc:eh X O call) {E:Env} {w:World} {ρ:Operand->Option AV} {r:Operand->Value} (hρ:∀ x a,ρ x=some a->RV E a (r x)) {o:Oper} {v:Option AV} {s s':St σ} (h:m9 X call o ρ s=some (v,s'))
  (R:Rel X O E s.S.get s.g w) (hf:∀ id,s.c<=id->id < s'.c->¬ E.D id) (a:Act) (next:Act->World->Prop) (Q:Exit->Act->World->Prop) (hk:∀ y w',cC X O E s w v s' y w'->next (a.put o.dst y) w') :
  o.upon X.P a next Q ((execOp r o).run X.P w):=by
 have hS:∀ id ob,s.S.get id=some ob->E.D id/\RO E id w ob:=R.ob;obtain ⟨dst,op,ty,pos,after,gu⟩:=o;cases op with
 | store t ad x =>
  simp only [m9,dK,cd,bF,bB,fR,Option.bind_eq_some_iff] at h;obtain ⟨i,hi,p,hp,x',hx,cs,hcs,h⟩:=h;split at h
  ·rename_i id off
   rw [aE] at h;obtain ⟨hlen,h⟩:=h;split at h
   ·rename_i l nO hl
    rw [Option.map_eq_some_iff] at h;obtain ⟨l',tg,h⟩:=h;injection h with h1 h2
    subst h1 h2;obtain ⟨ti,i1,i2,_⟩:=hX.inf _ _ hi;obtain ⟨hD,e⟩:=hρ _ _ hp;have hcr:=rO hcs (hρ _ _ hx);have hlen:=Nat.eq_of_beq_eq_true hlen;have hro:=(hS _ _ hl).2;obtain ⟨arr,fz,k1,k2,k3,k4,k5⟩:=hro;have hcl:=hcr.length;have Zi:cs.length=(r x).cells.size:=by rw [hcl,Array.length_toList]
    obtain ⟨b1,_⟩:=eX tg;obtain ⟨w',cur',r1,r2,r3,r4,r5,r6,r7⟩:=nH (P:=X.P) (E.ι id) (E.sh id + off) nO fz (r x).cells.toList 0 arr w k1 k4.free (by omega) (lN hcr);obtain ⟨m1,m2⟩:=R.wrote hl ((hS _ _ hl).2.lay (w':=w') tg hcr k1 r2 r3 (fun j=>by rw [r4 j]; simp only [Nat.add_zero])) r5 r6 s.c r7;refine mj (s:=Instr.storeAt t (r ad) (r x)) (w':=w') ?_ (hk _ _ ⟨E,fun av e=>(by cases e),?_,?_⟩)
    ·rw [e]
     have hsz:¬ ((r x).cells.size≠ti.size):=by
      omega
     simp only [Instr.storeAt,Instr.sureAddr,Sem.run_bind,Sem.run_pure,Result.andThen_ok,storeVar,bm i1];rw [if_neg hsz];simpa using r1
    ·simp only [dM,bW]; exact m1
    ·simp only [dM,bW]; exact m2
   ·cases h
  ·cases h
 | convert src dt x =>
  simp only [m9,dK,cd,bF,bB,fR] at h;split at h
  ·rename_i e hbeq hsrc
   simp only [Option.bind_eq_some_iff] at h;obtain ⟨de,hde,x',hx,h⟩:=h;split at h
   ·rename_i id off n cp ez
    rw [aE] at h;obtain ⟨hlk,h⟩:=h;injection h with h
    injection h with h1 h2
    subst h1 h2;have hsd:=Nat.eq_of_beq_eq_true hbeq;subst hsd;have hrx:=hρ _ _ hx;obtain ⟨hD,q,c,e1,e2,e3,e4⟩:=hrx;cases hl:look s.S id with
    | none=>rw [hl] at hlk; cases hlk
    | some l =>
     obtain ⟨nO,Sc⟩:=fH hl;have hq:q.block=E.ι id:=by
      rcases e3 with ⟨_,e3⟩ | ⟨e3,_⟩
      ·exact e3
      ·rw [e3]
     have:=R.marked Sc (v:=some (one (.sl id off n cp ez))) (y:=r x) (fun av e=>by injection e with e; rw [<- e]; exact hρ _ _ hx) q.block hq;refine fN (s:=Go.convert src src (r x)) ?_ (hk _ _ this);rw [e1];simp [Go.convert,run_underlying (hX.und _ _ hsrc),run_underlying (hX.und _ _ hde),mS]
   ·cases h
  ·cases h
 | mapUpdate t m k x =>
  simp only [m9,dK,cd,bF,bB,fR,Option.bind_eq_some_iff] at h;obtain ⟨d,hd,m',hm,k',hk',x',hx,h⟩:=h;split at h
  ·rename_i kt et id j n y
   rw [Option.bind_eq_some_iff] at h;obtain ⟨dk,hdk,h⟩:=h;split at h
   ·rename_i ik
    simp only [Option.bind_eq_some_iff,Option.map_eq_some_iff] at h;obtain ⟨p,hp,q,hq,h⟩:=h;have Mk:=fD hp;obtain ⟨rm,km,hro,hsm⟩:=(hS _ _ Mk).2;rw [iH hsm] at hq;obtain ⟨_,em⟩:=hρ _ _ hm;have ek:=(hρ _ _ hk').1;have ex:=(hρ _ _ hx).1;split at h
    ·rename_i q'
     injection h with h1 h2
     subst h1 h2;obtain ⟨_,en,g1,g2⟩:=iL hq;rw [Nat.sub_zero] at g1;refine mj (s:=Instr.mapUpdate t (r m) (r k) (r x)) ?_ (hk _ _ (R.mapped Mk (fun av e=>by cases e) (o:=.map (rm.toArray.modify q'.1 fun en=>{ en with key:=.int j n,val:=y }) km) (r':=rm.modify q'.1 fun en=>{ en with key:=.int j n,val:=y }) (k':=km) ?_ (hsm.update g1 g2)))
     ·have hg:rm[q'.1]?=some en:=g1
      simp only [Instr.mapUpdate,Sem.run_bind,run_underlying (hX.und _ _ hd),Result.andThen_ok,em,ek,ex,eJ hro,dD (hX.und _ _ hdk),run_findKey (hX.und _ _ hdk) hq];have hks:Instr.keyThatStays (((rm.toArray[q'.1]?).map (·.key)).getD (.int j n)) (.int j n)=pure (.int j n):=by
       simp only [List.getElem?_toArray,hg,Option.map_some,Option.getD_some,g2,Instr.keyThatStays,Instr.sameBits];simp
      simp only [hks,Sem.run_pure,Result.andThen_ok];exact iK hro
     ·congr 1
      apply Array.ext'
      rw [uu]
    ·injection h with h1 h2
     subst h1 h2;refine mj (s:=Instr.mapUpdate t (r m) (r k) (r x)) ?_ (hk _ _ (R.mapped Mk (fun av e=>by cases e) (o:=.map (rm.toArray.push { key:=.int j n,val:=y,born:=km }) (km + 1)) (r':=rm ++ [{ key:=.int j n,val:=y,born:=km }]) (k':=km + 1) (by simp) (aQ.append hsm ⟨⟨rfl,rfl⟩,trivial⟩)));simp only [Instr.mapUpdate,Sem.run_bind,run_underlying (hX.und _ _ hd),Result.andThen_ok,em,ek,ex,eJ hro,dD (hX.und _ _ hdk),run_findKey (hX.und _ _ hdk) hq];exact iK hro
   ·cases h
  ·cases h
 | call cl =>
  obtain ⟨callee,args,argTypes⟩:=cl;cases callee with
  | builtin b =>
   cases b with
   | append =>
    simp only [m9,dK,cd,bF,bB,fR] at h;split at h
    ·rename_i t u x y ht hargs
     have Se:=jd ht;have Sf:=jd hargs;subst Se Sf;simp only [Option.bind_eq_some_iff,Option.map_eq_some_iff] at h;obtain ⟨va,ha,vb,hb,⟨v',s''⟩,h1,h⟩:=h;injection h with h2 h3
     subst h2 h3;obtain ⟨p,w',g1,g2⟩:=J6 hX (ty:=ty) h1 R hf (hρ _ _ ha) (hρ _ _ hb);exact fN (s:=Builtin.append_ #[t,u] ty ((#[x,y]:Array Operand).map r)) (by rw [show (#[x,y]:Array Operand).map r=#[r x,r y] by simp]; exact g1) (hk _ _ g2)
    ·cases h
   | copy =>
    simp only [m9,dK,cd,bF,bB,fR] at h;split at h
    ·rename_i t u x y ht hargs
     have Se:=jd ht;have Sf:=jd hargs;subst Se Sf;simp only [Option.bind_eq_some_iff] at h;obtain ⟨d,hd,h⟩:=h;split at h
     ·rename_i e
      simp only [Option.bind_eq_some_iff] at h;obtain ⟨ie,hie,va,ha,vb,hb,⟨m,cs⟩,hp,h⟩:=h;obtain ⟨ti,i1,i2,_⟩:=hX.inf _ _ hie;obtain ⟨c1,vs,c2,c3,c4⟩:=D_ (P:=X.P) hS hp (hρ _ _ hb);have cw:=c4 w rfl;split at h
      ·injection h with h
       injection h with h1 h2
       subst h1 h2;have ea:=(hρ _ _ ha).1;refine fN (s:=Builtin.copy_ #[t,u] ty ((#[x,y]:Array Operand).map r)) (w':=w) (y:=goInt 0) ?_ (hk _ _ (cC.same R fun av e=>by injection e with e; rw [<- e]; exact ⟨rfl,rfl⟩));have hx:=cw.2 0 (Nat.zero_le _);rw [<- i2] at hx;rw [show (#[x,y]:Array Operand).map r=#[r x,r y] by simp,ea];simp [Builtin.copy_,run_underlying (hX.und _ _ hd),cw.1,bm i1,hx]
      ·rename_i id off n cp ez
       rw [aE] at h;obtain ⟨Ix,h⟩:=h;have Ix:=Nat.eq_of_beq_eq_true Ix;split at h
       ·rename_i l nO hl
        simp only [Option.bind_eq_some_iff,Option.map_eq_some_iff] at h;obtain ⟨cs',hcs',l',tg,h⟩:=h;injection h with h1 h2
        subst h1 h2;have hro:=(hS _ _ hl).2;have hra:=hρ _ _ ha;obtain ⟨hD,q,cap,Zj,eq2,Zk,eq4⟩:=hra;have hmin:Nat.min m n<=m:=Nat.min_le_left _ _;have Xl:Nat.min m n<=n:=Nat.min_le_right _ _;have hcs2:aQ (RC E) cs' (vs.take (Nat.min m n * ie.size)):=by rw [Ia hcs']; exact c3.take _
        have Ml:(vs.take (Nat.min m n * ie.size)).length=Nat.min m n * ie.size:=by
         rw [List.length_take,c2];exact Nat.min_eq_left (Nat.mul_le_mul_right _ hmin)
        have Iz:=cw.2 (Nat.min m n) hmin;rw [<- i2] at Iz Ml hcs2;obtain ⟨arr,fz,k1,k2,k3,k4,k5⟩:=hro;obtain ⟨b1,_⟩:=eX tg;have hl2:=hcs2.length;have hrun:∀ w':World,(storeCells q (vs.take (Nat.min m n * ti.size))).run X.P w=.ok () w'->(Builtin.copy_ #[t,u] ty #[r x,r y]).run X.P w=.ok (goInt (Nat.min m n:Nat)) w':=fun w' hs=>by
         rw [Zj];simp only [Builtin.copy_,Sem.run_bind];simp [run_underlying (hX.und _ _ hd),cw.1,bm i1,Iz,hs]
        rcases Zk with ⟨h0,_⟩ | ⟨h0,_⟩
        ·have hn0:n=0:=by omega
         have e0:vs.take (Nat.min m n * ti.size)=[]:=by
          apply List.length_eq_zero_iff.1
          rw [Ml,hn0];simp
         have e1:cs'=[]:=by
          apply List.length_eq_zero_iff.1
          rw [hl2,e0];rfl
         have e2:l'=l:=by rw [e1] at tg; have:=(eX tg).2; rw [this]; simp
         refine fN (s:=Builtin.copy_ #[t,u] ty ((#[x,y]:Array Operand).map r)) (w':=w) (y:=goInt (Nat.min m n:Nat)) ?_ (hk _ _ ?_)
         ·rw [show (#[x,y]:Array Operand).map r=#[r x,r y] by simp]
          exact hrun w (by rw [e0]; rfl)
         ·have e3:cP s.S.get id (some (.row l' nO))=s.S.get:=by
           funext i
           unfold cP;split
           ·rename_i e; rw [e,hl,e2]
           ·rfl
          refine ⟨E,fun av e=>by injection e with e; rw [<- e]; exact ⟨rfl,rfl⟩,?_,?_⟩
          ·simp only [dM,bW,e3]; exact R
          ·simp only [dM,bW,e3]; exact iB.refl _ _ _ _
        ·obtain ⟨w',cur',r1,r2,r3,r4,r5,r6,r7⟩:=nH (P:=X.P) (E.ι id) (E.sh id + off) nO fz (vs.take (Nat.min m n * ti.size)) 0 arr w k1 k4.free (by omega) (lN hcs2)
         obtain ⟨m1,m2⟩:=R.wrote hl ((hS _ _ hl).2.lay (w':=w') tg hcs2 k1 r2 r3 (fun j=>by rw [r4 j]; simp only [Nat.add_zero])) r5 r6 s.c r7;refine fN (s:=Builtin.copy_ #[t,u] ty ((#[x,y]:Array Operand).map r)) (w':=w') (y:=goInt (Nat.min m n:Nat)) ?_ (hk _ _ ⟨E,fun av e=>by injection e with e; rw [<- e]; exact ⟨rfl,rfl⟩,?_,?_⟩)
         ·rw [show (#[x,y]:Array Operand).map r=#[r x,r y] by simp]
          exact hrun w' (by rw [h0]; exact r1)
         ·simp only [dM,bW]; exact m1
         ·simp only [dM,bW]; exact m2
       ·cases h
      ·cases h
     ·cases h
    ·cases h
   | delete =>
    simp only [m9,dK,cd,bF,bB,fR] at h;split at h
    ·rename_i t u x y ht hargs
     have Se:=jd ht;have Sf:=jd hargs;subst Se Sf;simp only [Option.bind_eq_some_iff] at h;obtain ⟨d,hd,m',hm,k',hk',h⟩:=h;split at h
     ·rename_i kt et id j n
      simp only [Option.bind_eq_some_iff] at h;obtain ⟨dk,hdk,h⟩:=h;split at h
      ·rename_i ik
       simp only [Option.bind_eq_some_iff,Option.map_eq_some_iff] at h;obtain ⟨p,hp,q,hq,h⟩:=h;have Mk:=fD hp;obtain ⟨rm,km,hro,hsm⟩:=(hS _ _ Mk).2;rw [iH hsm] at hq;obtain ⟨_,em⟩:=hρ _ _ hm;have ek:=(hρ _ _ hk').1;split at h
       ·rename_i q'
        injection h with h1 h2
        subst h1 h2;obtain ⟨_,en,g1,g2⟩:=iL hq;rw [Nat.sub_zero] at g1;refine fN (s:=Builtin.delete_ #[t,u] ty ((#[x,y]:Array Operand).map r)) (y:=.tuple #[]) ?_ (hk _ _ (R.mapped Mk (fun av e=>by injection e with e; rw [<- e]; exact ⟨_,rfl,trivial⟩) (o:=.map (rm.toArray.eraseIdxIfInBounds q'.1) km) (r':=rm.eraseIdx q'.1) (k':=km) (by congr 1; simp) (by rw [nW]; exact aQ.eraseIdx hsm)));rw [show (#[x,y]:Array Operand).map r=#[r x,r y] by simp,em,ek];simp [Builtin.delete_,run_underlying (hX.und _ _ hd),eJ hro,dD (hX.und _ _ hdk),run_findKey (hX.und _ _ hdk) hq,iK hro]
       ·injection h with h1 h2
        subst h1 h2;have:=R.mapped Mk (v:=some (.nN [])) (y:=.tuple #[]) (fun av e=>by injection e with e; rw [<- e]; exact ⟨_,rfl,trivial⟩) (o:=.map rm.toArray km) (r':=rm) (c':=p.2) (k':=km) rfl hsm;refine fN (s:=Builtin.delete_ #[t,u] ty ((#[x,y]:Array Operand).map r)) (y:=.tuple #[]) (w':={ w with heap:=w.heap.setIfInBounds (E.ι id) (.map rm.toArray km) }) ?_ (hk _ _ ?_)
        ·rw [show (#[x,y]:Array Operand).map r=#[r x,r y] by simp,em,ek]
         simp [Builtin.delete_,run_underlying (hX.und _ _ hd),eJ hro,dD (hX.und _ _ hdk),run_findKey (hX.und _ _ hdk) hq,iK hro]
        ·obtain ⟨E',a1,a2,a3⟩:=this
         simp only [dM,bW] at a2 a3;have e:cP s.S.get id (some (.map p.1 p.2))=s.S.get:=by
          funext i
          unfold cP;split
          ·rename_i e; rw [e,Mk]
          ·rfl
         rw [e] at a2 a3;exact ⟨E',a1,a2,a3⟩
      ·cases h
     ·cases h
    ·cases h
   | _=>simp [m9,bB] at h
  | value f =>
   simp only [m9,dK,cd,bF,bB,fR,Option.bind_eq_some_iff] at h;obtain ⟨vf,Zl,l,hl,h⟩:=h;split at h
   ·rename_i g fi ca
    simp only [Option.bind_eq_some_iff,Option.map_eq_some_iff] at h;obtain ⟨fi',hfi,⟨v',s''⟩,h1,h⟩:=h;injection h with h2 h3
    subst h2 h3;obtain ⟨A,B,e,hA,hB⟩:=hρ _ _ Zl;obtain ⟨F,f1,f2,_,_,f5⟩:=hX.fn _ _ hfi;have hl':=rR hρ hl;have hcall:=(hc _ _ _ _ _ h1 (by rw [hfi]; simp)).2 E w (A.toList ++ (args.toList.map r ++ B.toList)) R hf ((atR hA).append (hl'.append (atR hB)));have hargs:(A.toList ++ (args.toList.map r ++ B.toList)).toArray=A ++ args.map r ++ B:=by apply Array.ext'; simp
    rw [hargs] at hcall;have hrun:(execOp r ⟨dst,.call ⟨.value f,args,argTypes⟩,ty,pos,after,gu⟩).run X.P w=.ok (.enter g (A ++ args.map r ++ B)) w:=by
     have Zm : ¬ ((F.name == "runtime.NumGoroutine") = true) := by rw [f5]; simp
     have f2':F.body.isNone=false:=by rw [f2]; rfl
     simp only [execOp,resolve,Deferred.ofValue,e,Sem.run_bind,Sem.run_pure,Result.andThen_ok,invoke,callFunc,run_program,f1];rw [if_neg Zm,if_neg (by rw [f2']; simp)];rfl
    rw [hrun,Oper.upon_enter];refine hcall.mono fun e' w' ⟨y,he,hs⟩=>?_
    subst he;exact hk _ _ hs
   ·cases h
  | invoke x y=>simp [m9,bB] at h
 | _=>simp [m9,bB] at h
end Ev
end Go.Proofs.YtijegngfclkdaaaGreatDoor
