/-
  Pieces of the proof: part 5 of 54.
  Conditions: none.
-/
import Derived.Lib.ConvBytes
import Derived.Laws.IdiomStrings
import Derived.Lib.SlBytesConst
import Derived.Test.YtijegngfclkdaaaGreatDoorW04
set_option linter.unusedVariables false
set_option linter.unusedSimpArgs false
set_option maxHeartbeats 100000000
set_option maxRecDepth 100000
namespace Go.Proofs.YtijegngfclkdaaaGreatDoor.Ev
open Go
variable {σ:Type}
def putO (h:Nat→Option Ob) (c:Nat):Option Ob→Nat→Option Ob
 | none=>h
 | some o=>put1 h c (some o)
def cntO (c:Nat):Option Ob→Nat
 | none=>c
 | some _=>c + 1
def MadeP (X:Cx σ) (O:Outside σ) (E:Env) (h:Nat→Option Ob) (g:σ) (c:Nat) (w:World) (v:AV) (ob:Option Ob) (y:Value) (w':World):Prop :=
 ∃ E',RV E' v y∧Rel X O E' (putO h c ob) g w'∧Mvd E h c w E' (putO h c ob) (cntO c ob) w'∧E'.sy=E.sy
theorem Mvd.of_heap {E E':Env} {h h':Nat→Option Ob} {c c':Nat} {w w0 w':World} (m:Mvd E h c w0 E' h' c' w') (hw:w0.heap=w.heap) (hk:Kp w w0:=by exact ⟨rfl,rfl,rfl⟩):Mvd E h c w E' h' c' w' :=
 ⟨m.ext,m.fresh,by have:=m.size; rw [hw] at this; exact this,fun b hb hB hI=>by have:=m.frame b (by rw [hw]; exact hb) hB hI; rw [hw] at this; exact this,fun id hi=>by have:=m.img id hi; rw [hw] at this; exact this,fun b hb=>by have:=m.imgB b hb; rw [hw] at this; exact this,m.dom,hk.trans m.kp⟩
theorem mk_newF {X:Cx σ} {O:Outside σ} {E:Env} {h:Nat→Option Ob} {g:σ} {w:World} (r:Rel X O E h g w) {c:Nat} (hc:¬ E.D c) (w0:World) (hw0:w0.heap=w.heap) {arr:Array Value} {ty:TypeId} {l:List Ce} {vs rest:List Value} (hl:Rel2 (RC E) l vs) (ha:arr.toList=vs ++ rest)
  {fz:Nat×Nat} (hf:NF fz arr.size) {v:AV} {y:Value} (hv:RV (E.more c w.heap.size arr.size) v y) (hk:Kp w w0:=by exact ⟨rfl,rfl,rfl⟩):MadeP X O E h g c w v (some (.row l ty)) y (w0.alloc (.cells arr ty fz)):=by
 obtain ⟨a,b⟩:=made_row (r.drawn hw0 hk) hc hl ha hf (w1:=w0.alloc (.cells arr ty fz)) rfl;rw [hw0] at a b;exact ⟨_,hv,a,b.of_heap hw0 hk,rfl⟩
theorem mk_new {X:Cx σ} {O:Outside σ} {E:Env} {h:Nat→Option Ob} {g:σ} {w:World} (r:Rel X O E h g w) {c:Nat} (hc:¬ E.D c) (w0:World) (hw0:w0.heap=w.heap) {arr:Array Value} {ty:TypeId} {l:List Ce} {vs rest:List Value} (hl:Rel2 (RC E) l vs) (ha:arr.toList=vs ++ rest)
  {v:AV} {y:Value} (hv:RV (E.more c w.heap.size arr.size) v y) (hk:Kp w w0:=by exact ⟨rfl,rfl,rfl⟩):MadeP X O E h g c w v (some (.row l ty)) y (w0.alloc (.cells arr ty)):=mk_newF r hc w0 hw0 hl ha (nofz' _) hv hk
theorem run_newRow {P:Program} {w:World} {t:TypeId} {cs:Array Value}:(newRow t cs).run P w=.ok ⟨w.heap.size,0,none⟩ (w.alloc (.cells cs t)):=by simp [newRow]
theorem natOf_int {E:Env} {v:AV} {n:Nat} {y:Value} (h:natOf v=some n) (hr:RV E v y) {P:Program} {w:World}:(asInt y).run P w=.ok (n:Int) w:=by
 obtain ⟨k,e⟩:=natOf_R h hr;rw [e];simp [asInt,asIntOf]
theorem wrap_small {n:Nat} (h:n≤65536):IntKind.i64.wrap (n:Int)=(n:Int):=by
 unfold IntKind.wrap;simp [IntKind.signed,IntKind.bits];omega
theorem fillC_length {size:Nat}:∀ (ps:List (Nat×List Ce)) (cs r:List Ce),fillC (fun i=>some (i * size,size)) cs ps=some r→r.length=cs.length:=by
 intro ps
 induction ps with
 | nil=>intro cs r h; simp only [fillC] at h; injection h with h; rw [h]
 | cons p ps ih =>
  intro cs r h;simp only [fillC,Option.bind_eq_some_iff,gd_some,Option.some.injEq] at h;obtain ⟨x,hx,_,cs',h1,h2⟩:=h;rw [ih _ _ h2,lay_length h1]
section
variable {X:Cx σ} (hX:XOK X) {O:Outside σ} {E:Env} {w:World} {ρ:Operand→Option AV} {r:Operand→Value} {S:Tr Ob} {h:Nat→Option Ob} {g:σ} (hρ:∀ x a,ρ x=some a→RV E a (r x)) (hr:∀ v,r (.const v)=v)
 (R:Rel X O E h g w) (hS:∀ id ob,S.get id=some ob→h id=some ob) {c:Nat} {v:AV} {ob:Option Ob} (hc:ob≠none→¬ E.D c) {dst:Option Tmp} {ty:TypeId} {pos:String} {after:Array Edge} {gu:Option (Nat×Bool)}
include hX hρ R hc
theorem opa_build {t:TypeId} {n:Nat} {parts:Array (Nat×Operand)} (ho:opa X ⟨dst,.buildSlice t n parts,ty,pos,after,gu⟩ ρ S c=some (v,ob)):∃ y w',(Instr.buildSlice t n (parts.map fun (i,x)=>(i,r x))).run X.P w=.ok y w'∧MadeP X O E h g c w v ob y w':=by
 simp only [opa,aBuildSlice,aMakeSlice,aConvert,aApp,Option.bind_eq_some_iff] at ho;obtain ⟨d,hd,ho⟩:=ho;split at ho
 ·rename_i e
  simp only [Option.bind_eq_some_iff,gd_some,Bool.and_eq_true,Option.map_eq_some_iff] at ho;obtain ⟨ie,hie,b1,z,hz,ps,hps,l,hl,ho⟩:=ho;injection ho with h1 h2
  subst h1 h2;obtain ⟨ti,i1,i2,_,i4⟩:=hX.inf _ _ hie;have b1:=Nat.le_of_ble_eq_true b1;have b2:ie.zero.cells.size=ie.size:=hX.zsz _ _ hie;have hpr:=parts_R (X:=X) hρ hps;have hz2:((Array.range (n * ie.size)).map (fun i=>ie.zero.cells[i % ie.zero.cells.size]!)).toList=(List.replicate n ie.zero.cells.toList).flatten:=by rw [← b2]; exact rep_list _ _
  obtain ⟨B,f1,f2⟩:=fill_R (E:=E) _ (fun i=>some (i * ie.size,ie.size)) (A:=(Array.range (n * ie.size)).map (fun i=>ie.zero.cells[i % ie.zero.cells.size]!)) hl (by rw [hz2]; exact rep_R (cesOf_R hz) n) hpr (fun i x hx=>hx);have hBs:B.size=n * ie.size:=by
   have e1:=f2.length;have e2:=fillC_length ps _ _ hl;have e3:=(rep_R (E:=E) (cesOf_R hz) n).length;simp only [TI.zc] at e3;rw [← hz2] at e3;simp only [Array.length_toList,Array.size_map,Array.size_range] at e1 e3;omega
  have hq:(parts.map fun (i,x)=>(i,r x)).toList=parts.toList.map fun (i,x)=>(i,r x):=by simp
  refine ⟨.slice (some ⟨w.heap.size,0,none⟩) n n,_,?_,mk_new R (hc (by simp)) w rfl f2 (arr:=B) (rest:=[]) (by simp) (more_sl (Nat.le_refl _) (by omega) fun k hk=>by injection hk)⟩;have hlim:¬ (16777216 < n * ie.size):=by omega
  generalize hA:(Array.range (n * ie.size)).map (fun i=>ie.zero.cells[i % ie.zero.cells.size]!)=A at *;unfold Instr.buildSlice;simp only [Sem.run_bind,run_underlying (hX.und _ _ hd),Result.andThen_ok,run_sizeOf' i1,i2,hq];rw [if_neg (by simpa using hlim)]
  by_cases h0:n * ie.size=0
  ·have hA':(Array.range (n * ie.size)).map (fun i=>(#[]:Array Value)[i % (#[]:Array Value).size]!)=A:=by rw [← hA]; simp [h0]
   rw [if_pos h0];simp only [Sem.run_bind,Sem.run_pure,Result.andThen_ok,hA']
   erw [f1]
   simp [run_newRow]
  ·rw [if_neg h0]
   simp only [Sem.run_bind,run_zero' i1 i4,Sem.run_pure,Result.andThen_ok,hA]
   erw [f1]
   simp [run_newRow]
 ·cases ho
theorem opa_make {t:TypeId} {l k:Operand} (ho:opa X ⟨dst,.makeSlice t l k,ty,pos,after,gu⟩ ρ S c=some (v,ob)):∃ y w',(Instr.makeSlice t (r l) (r k)).run X.P w=.ok y w'∧MadeP X O E h g c w v ob y w':=by
 simp only [opa,aBuildSlice,aMakeSlice,aConvert,aApp,Option.bind_eq_some_iff] at ho;obtain ⟨d,hd,ho⟩:=ho;split at ho
 ·rename_i e
  simp only [Option.bind_eq_some_iff,gd_some,Bool.and_eq_true] at ho;obtain ⟨ie,hie,z,hz,al,hal,ak,hak,n,hn,m,hm,⟨⟨b1,b2⟩,b3⟩,ho⟩:=ho;injection ho with ho
  injection ho with h1 h2
  subst h1 h2;obtain ⟨ti,i1,i2,i3,i4⟩:=hX.inf _ _ hie;have b1:=Nat.le_of_ble_eq_true b1;have b2:=Nat.le_of_ble_eq_true b2;have b3:=Nat.le_of_ble_eq_true b3;have b4:ie.zero.cells.size=ie.size:=hX.zsz _ _ hie;have hz2:((Array.range (m * ie.size)).map (fun i=>ie.zero.cells[i % ie.zero.cells.size]!)).toList=(List.replicate m ie.zero.cells.toList).flatten:=by rw [← b4]; exact rep_list _ _
  have hmk:=mk_new (ty:=e) R (hc (by simp)) w rfl (rep_R (E:=E) (cesOf_R hz) m) (arr:=(Array.range (m * ie.size)).map (fun i=>ie.zero.cells[i % ie.zero.cells.size]!)) (rest:=[]) (by rw [hz2]; simp [TI.zc]) (more_sl (c:=c) (len:=n) (cap:=m) (ez:=ie.size) (cp:=some m) b1 (by rw [Array.size_map,Array.size_range]; exact Nat.le_refl _) fun k hk=>by injection hk);refine ⟨.slice (some ⟨w.heap.size,0,none⟩) n m,_,?_,hmk⟩;clear hmk;have hprod:ie.bytes * m≤4294967296:=Nat.mul_le_mul b3 b2;have c2:¬ (281474976710656 < (ie.bytes:Int) * (m:Int)):=by
   have h1:((ie.bytes * m:Nat):Int)≤((4294967296:Nat):Int):=Int.ofNat_le.2 hprod;rw [Int.natCast_mul] at h1;generalize (ie.bytes:Int) * (m:Int)=q at *;omega
  have hcond:(decide ((m:Int) < 0) || decide ((ie.bytes:Int) * (m:Int) > 2 ^ 48) || decide ((n:Int) < 0) || decide ((n:Int) > (m:Int)))=false:=by
   have e48:(2:Int) ^ 48=281474976710656:=by decide
   simp only [Bool.or_eq_false_iff,decide_eq_false_iff_not,e48];omega
  unfold Instr.makeSlice;simp only [Sem.run_bind,run_underlying (hX.und _ _ hd),Result.andThen_ok,natOf_int hn (hρ _ _ hal),natOf_int hm (hρ _ _ hak),typeInfo,run_program,i1,i3,wrap_small (show n≤65536 by omega),wrap_small b2,Sem.run_pure,hcond,Bool.false_eq_true,if_false,Int.toNat_natCast,run_askRoom,run_sizeOf' i1,i2]
  by_cases h0:m * ie.size=0
  ·rw [if_pos h0]
   have e00:∀ f:Nat→Value,(Array.range 0).map f=#[]:=fun f=>by rw [show Array.range 0=#[] from rfl]; simp
   simp [h0,run_newRow];rw [e00,e00]
  ·rw [if_neg h0]
   simp only [Sem.run_bind,run_zero' i1 i4,Sem.run_pure,Result.andThen_ok,run_newRow]
 ·cases ho
include hr hS in
theorem opa_app {args:Array Operand} {argTypes:Array TypeId} (ho:opa X ⟨dst,.call ⟨.builtin .append,args,argTypes⟩,ty,pos,after,gu⟩ ρ S c=some (v,ob)):∃ y w',(Builtin.append_ argTypes ty (args.map r)).run X.P w=.ok y w'∧MadeP X O E h g c w v ob y w':=by
 have hS':∀ id ob,S.get id=some ob→E.D id∧RO E id w ob:=fun id ob hi=>R.ob id ob (hS id ob hi)
 simp only [opa,aBuildSlice,aMakeSlice,aConvert,aApp] at ho;split at ho
 ·rename_i t u x ht hx
  have hargs:=array2 hx;have htys:=array2 ht;subst hargs htys;simp only [Option.bind_eq_some_iff] at ho;obtain ⟨d,hd,du,hdu,ho⟩:=ho;have e0:(#[Operand.const (.slice none 0 0),x]).map r=#[.slice none 0 0,r x]:=by simp [hr]
  rw [e0];split at ho
  ·cases ho
  ·rename_i e hne
   simp only [Option.bind_eq_some_iff] at ho;obtain ⟨ie,hie,a,ha,⟨n,cs⟩,hp,ho⟩:=ho;obtain ⟨ti,i1,i2,i3,i4⟩:=hX.inf _ _ hie;obtain ⟨c1,vs,c2,c3,c4⟩:=src_R (P:=X.P) hS' hp (hρ _ _ ha);have hdi:isInt du=false:=by cases du <;> first | rfl | exact absurd rfl (hne _)
   split at ho
   ·rename_i hn0
    dsimp only at hn0;subst hn0;injection ho with ho
    injection ho with h1 h2
    subst h1 h2;have h0:=c4 w rfl;have h00:=h0.2 0 (Nat.le_refl _);rw [← i2,Nat.zero_mul,List.take_zero] at h00;exact ⟨.slice none 0 0,w,growsZero X.P (z:=ie.zero) (hX.und _ _ hd) (hX.und _ _ hdu) i1 (.inl ⟨hdi,h0.1,h00⟩) (Nat.le_refl _),E,⟨rfl,rfl⟩,R,Mvd.refl _ _ _ _,rfl⟩
   ·rename_i k hn
    dsimp only at hn;rw [gd_some,Bool.and_eq_true] at ho;obtain ⟨⟨b1,b2⟩,ho⟩:=ho;have b1:=Nat.le_of_ble_eq_true b1;have b2:=Nat.le_of_ble_eq_true b2;dsimp only at b1;injection ho with ho
    injection ho with h1 h2
    subst h1 h2;have gq:=growsEq X.P (w:=w) (ty:=ty) (base:=none) (sLen:=0) (sCap:=0) (n:=n) (x:=r x) (olds:=[]) (news:=vs) (hX.und _ _ hd) (hX.und _ _ hdu) i1 i4 (fun w' hw'=>by
     have:=(c4 w' hw').2 n (Nat.le_refl _);rw [← c2,List.take_length] at this;rw [← i2] at this;exact .inl ⟨hdi,(c4 w' hw').1,this⟩) (fun w' _=>by simp [Builtin.firstCells]) (by omega) (by omega) (by omega)
    have hcap:n≤grownCap w (0 + n) 0 e:=by have:=cap_ge (w:=w) (need:=0 + n) (old:=0) (e:=e); omega
    rw [Nat.zero_add] at hcap gq;refine ⟨_,_,gq,mk_new R (hc (by simp)) w.drew rfl c3 (rest:=(Builtin.zeroCells ie.zero.cells (grownCap w n 0 e - n)).toList) (by simp) (more_sl hcap ?_ (fun k hk=>by cases hk) (fun _=>Nat.le_trans (grownCap_le_maxLen _ _ _ _ (by unfold maxLen; omega)) (by decide)))⟩;have hz:ie.zero.cells.size=ie.size:=hX.zsz _ _ hie;have es:([].toArray ++ vs.toArray ++ Builtin.zeroCells ie.zero.cells (grownCap w n 0 e - n)).size=n * ie.size + (grownCap w n 0 e - n) * ie.size:=by simp [zeroCells_size,c2,hz]
    rw [es,← Nat.add_mul];exact Nat.mul_le_mul_right _ (by omega)
  ·cases ho
 ·cases ho
end
end Go.Proofs.YtijegngfclkdaaaGreatDoor.Ev
namespace Go.Proofs.YtijegngfclkdaaaGreatDoor.Ev
open Go
variable {σ:Type}
theorem bytes_R {E:Env}:∀ l:List UInt8,Rel2 (RC E) (l.map fun b=>Ce.a (.v (.int .u8 b.toNat))) (l.map fun b=>Value.int .u8 b.toNat)
 | []=>trivial
 | _ :: l=>⟨⟨rfl,rfl⟩,bytes_R l⟩
theorem opa_R {X:Cx σ} (hX:XOK X) {O:Outside σ} {E:Env} {w:World} {ρ:Operand→Option AV} {r:Operand→Value} {S:Tr Ob} {h:Nat→Option Ob} {g:σ} (hρ:∀ x a,ρ x=some a→RV E a (r x)) (hr:∀ v,r (.const v)=v)
  (R:Rel X O E h g w) (hS:∀ id ob,S.get id=some ob→h id=some ob) {c:Nat} {o:Oper} {v:AV} {ob:Option Ob} (hc:ob≠none→¬ E.D c) (ho:opa X o ρ S c=some (v,ob)) :
  ∃ y w',(execOp r o).run X.P w=.ok (.value y) w'∧MadeP X O E h g c w v ob y w':=by
 obtain ⟨dst,op,ty,pos,after,gu⟩:=o;have val:∀ {s:Sem Value},(∃ y w',s.run X.P w=.ok y w'∧MadeP X O E h g c w v ob y w')→∃ y w',(do pure (Next.value (← s)):Sem Next).run X.P w=.ok (.value y) w'∧MadeP X O E h g c w v ob y w':=fun ⟨y,w',a,b⟩=>⟨y,w',run_v a,b⟩
 cases op with
 | alloc t =>
  simp only [opa,aBuildSlice,aMakeSlice,aConvert,aApp,Option.bind_eq_some_iff,Option.map_eq_some_iff] at ho;obtain ⟨i,hi,z,hz,ho⟩:=ho;injection ho with h1 h2
  subst h1 h2;obtain ⟨ti,i1,i2,_,i4⟩:=hX.inf _ _ hi;refine val (s:=Instr.alloc t true (.tuple #[])) ⟨_,_,?_,mk_new R (hc (by simp)) w rfl (cesOf_R hz) (arr:=i.zero.cells) (rest:=[]) (by simp [TI.zc]) more_ptr⟩;simp [Instr.alloc,run_zero' i1 i4,newVar,run_newRow]
 | box t x =>
  simp only [opa,aBuildSlice,aMakeSlice,aConvert,aApp,Option.bind_eq_some_iff,Option.map_eq_some_iff] at ho;obtain ⟨a,ha,l,hl,ho⟩:=ho;injection ho with h1 h2
  subst h1 h2;refine val (s:=Instr.box t (r x)) ⟨_,_,?_,mk_new R (hc (by simp)) w rfl (cells_R hl (hρ _ _ ha)) (arr:=(r x).cells) (rest:=[]) (by simp) more_ptr⟩;simp [Instr.box,newVar,run_newRow]
 | buildSlice t n parts=>exact val (opa_build hX hρ R hc ho)
 | makeMap t k =>
  cases k with
  | some k=>simp [opa] at ho
  | none =>
   simp only [opa,aBuildSlice,aMakeSlice,aConvert,aApp] at ho;injection ho with ho
   injection ho with h1 h2
   subst h1 h2;refine val (s:=Instr.makeMap t none) ⟨.map (some w.heap.size),w.alloc (.map #[] 0),by simp [Instr.makeMap],?_⟩;have hng:X.ng≤c:=by
    rcases Nat.lt_or_ge c X.ng with h | h
    ·exact absurd (R.glob c h).1 (hc (by simp))
    ·exact h
   obtain ⟨a,b⟩:=R.made (hc (by simp)) (w1:=w.alloc (.map #[] 0)) (o:=.map [] 0) (k:=0) rfl ⟨[],0,by simp only [Env.more,if_pos]; exact heap_alloc,trivial⟩ hng;exact ⟨_,⟨by simp [Env.more],by simp [Env.more]⟩,a,b,rfl⟩
 | makeSlice t l k=>exact val (opa_make hX hρ R hc ho)
 | convert src dt x =>
  simp only [opa,aBuildSlice,aMakeSlice,aConvert,aApp,Option.bind_eq_some_iff] at ho;obtain ⟨ds,hds,dd,hdd,a,ha,ho⟩:=ho;split at ho
  ·rename_i e s
   rw [Option.bind_eq_some_iff] at ho;obtain ⟨de,hde,ho⟩:=ho;split at ho
   ·rw [gd_some] at ho
    obtain ⟨hsz,ho⟩:=ho;have hsz:=Nat.le_of_ble_eq_true hsz;injection ho with ho
    injection ho with h1 h2
    subst h1 h2;have e1:=(hρ _ _ ha).1;refine val (s:=Go.convert src dt (r x)) ?_;rw [e1];refine ⟨_,_,run_bytes_of_string w src dt e s (hX.und _ _ hds) (hX.und _ _ hdd) (hX.und _ _ hde),mk_newF R (hc (by simp)) w.drew rfl (bytes_R s.data.toList) (rest:=List.replicate (grownCap w s.size 0 e - s.size) (.int .u8 0)) (by simp [bytesRow]) (.inr (Nat.le_refl _)) (more_sl cap_ge ?_ (fun k hk=>by cases hk) (fun _=>Nat.le_trans (grownCap_le_maxLen _ _ _ _ (by unfold maxLen; omega)) (by decide)))⟩;have hcap:s.size≤grownCap w s.size 0 e:=cap_ge;have:(bytesRow s (grownCap w s.size 0 e)).size=s.size + (grownCap w s.size 0 e - s.size):=by simp [bytesRow]
    rw [this];omega
   ·cases ho
  ·cases ho
 | call cl =>
  obtain ⟨callee,args,argTypes⟩:=cl;cases callee with
  | builtin b =>
   cases b with
   | append=>exact val (opa_app hX hρ hr R hS hc ho)
   | _=>simp [opa] at ho
  | value f=>simp [opa] at ho
  | invoke a b=>simp [opa] at ho
 | _=>simp [opa] at ho
def StepP (X:Cx σ) (O:Outside σ) (E:Env) (s:St σ) (w:World) (v:Option AV) (s':St σ) (y:Value) (w':World):Prop :=
 ∃ E',(∀ av,v=some av→RV E' av y)∧Rel X O E' s'.S.get s'.g w'∧Mvd E s.S.get s.c w E' s'.S.get s'.c w'
theorem StepP.of_made {X:Cx σ} {O:Outside σ} {E:Env} {s:St σ} {w w':World} {v:AV} {ob:Option Ob} {y:Value} (h:MadeP X O E s.S.get s.g s.c w v ob y w'):StepP X O E s w (some v) (newS s ob) y w':=by
 obtain ⟨E',h1,h2,h3,_⟩:=h;refine ⟨E',fun av e=>by injection e with e; rw [← e]; exact h1,?_⟩;cases ob with
 | none=>exact ⟨h2,h3⟩
 | some o =>
  simp only [putO,cntO,newS] at h2 h3 ⊢;rw [get_put1];exact ⟨h2,h3⟩
theorem StepP.same {X:Cx σ} {O:Outside σ} {E:Env} {s:St σ} {w:World} (R:Rel X O E s.S.get s.g w) {v:Option AV} {y:Value} (hv:∀ av,v=some av→RV E av y):StepP X O E s w v s y w:=⟨E,hv,R,Mvd.refl _ _ _ _⟩
def Env.alias (E:Env) (c b o k:Nat):Env:={ E with ι:=fun i=>if i=c then b else E.ι i,sh:=fun i=>if i=c then o else E.sh i,κ:=fun i=>if i=c then k else E.κ i,D:=fun i=>E.D i∨i=c }
theorem Env.alias_ext {E:Env} {c b o k:Nat} (hc:¬ E.D c):Ext E (E.alias c b o k):=fun id hd=>by
 have:id≠c:=fun e=>hc (e ▸ hd)
 simp [Env.alias,this,hd]
theorem Rel.moved {X:Cx σ} {O:Outside σ} {E:Env} {h:Nat→Option Ob} {g:σ} {w w':World} (r:Rel X O E h g w) {c id:Nat} (hc:¬ E.D c) {o o':Ob} (hi:h id=some o) {s k:Nat} (ho:RO (E.alias c (E.ι id) s k) c w' o')
  (hw:∀ b,b≠E.ι id→w'.heap[b]?=w.heap[b]?) (hs:w'.heap.size=w.heap.size) (hk:Kp w w':=by exact ⟨rfl,rfl,rfl⟩) :
  Rel X O (E.alias c (E.ι id) s k) (put1 (put1 h id none) c (some o')) g w'∧Mvd E h c w (E.alias c (E.ι id) s k) (put1 (put1 h id none) c (some o')) (c + 1) w':=by
 have ext:Ext E (E.alias c (E.ι id) s k):=Env.alias_ext hc;have hidc:id≠c:=fun e=>hc (e ▸ (r.ob id o hi).1)
 have hι:∀ i,i≠c→(E.alias c (E.ι id) s k).ι i=E.ι i:=fun i hi=>by simp [Env.alias,hi]
 have hιc:(E.alias c (E.ι id) s k).ι c=E.ι id:=by simp [Env.alias]
 have hid:h id≠none:=by rw [hi]; simp
 have hold:∀ i,i≠c→put1 (put1 h id none) c (some o') i≠none→i≠id∧h i≠none:=fun i h1 h2=>by
  simp only [put1,if_neg h1] at h2
  by_cases e:i=id
  ·rw [if_pos e] at h2; exact absurd rfl h2
  ·rw [if_neg e] at h2; exact ⟨e,h2⟩
 have hng:X.ng≤c:=by
  rcases Nat.lt_or_ge c X.ng with h | h
  ·exact absurd (r.glob c h).1 hc
  ·exact h
 refine ⟨⟨fun i x hx=>?_,fun i j hi' hj e=>?_,fun i hi'=>?_,fun b hb=>?_,fun b hb=>by rw [hs]; exact r.lt b hb,?_⟩,⟨ext,fun i hd=>?_,by omega,fun b hb _ hI=>hw b (hI id hid).symm,fun i hi'=>?_,fun b hb=>.inl hb,fun i hi'=>?_,hk⟩⟩
 ·by_cases e:i=c
  ·subst e
   simp only [put1,if_pos] at hx;injection hx with hx
   subst hx;exact ⟨by simp [Env.alias],ho⟩
  ·have:=hold i e (by rw [hx]; simp)
   simp only [put1,if_neg e,if_neg this.1] at hx;obtain ⟨a,b⟩:=r.ob i x hx;exact ⟨(ext i a).1,b.ext ext a (hw _ fun e'=>this.1 (r.inj i id this.2 hid e'))⟩
 ·by_cases h1:i=c <;> by_cases h2:j=c
  ·rw [h1,h2]
  ·subst h1
   obtain ⟨a,b⟩:=hold j h2 hj;rw [hιc,hι j h2] at e;exact absurd (r.inj j id b hid e.symm) a
  ·subst h2
   obtain ⟨a,b⟩:=hold i h1 hi';rw [hιc,hι i h1] at e;exact absurd (r.inj i id b hid e) a
  ·rw [hι i h1,hι j h2] at e
   exact r.inj i j (hold i h1 hi').2 (hold j h2 hj).2 e
 ·by_cases h1:i=c
  ·subst h1; rw [hιc]; exact r.apart id hid
  ·rw [hι i h1]; exact r.apart i (hold i h1 hi').2
 ·obtain ⟨a,b',d⟩:=r.glob b hb
  have:b≠c:=by omega
  exact ⟨(ext b a).1,by rw [hι b this]; exact b',by simpa [Env.alias,this] using d⟩
 ·exact O.keep _ _ _ _ _ r.out ext (fun _=>Iff.rfl) (fun b hb=>hw b fun e=>r.apart id hid (e ▸ hb)) (by omega) hk
 ·rcases hd with h | h
  ·exact .inl h
  ·exact .inr (by omega)
 ·by_cases h1:i=c
  ·subst h1; exact .inl ⟨id,hid,hιc⟩
  ·exact .inl ⟨i,(hold i h1 hi').2,hι i h1⟩
 ·by_cases h1:i=c
  ·exact .inr (by omega)
  ·exact .inl (hold i h1 hi').2
theorem run_inplace (P:Program) {w w':World} {t u ty e:TypeId} {ti:TypeInfo} {z:Value} {du:TypeDesc} {a:Addr} {sLen sCap n:Nat} {x:Value} {news:List Value}
  (ht:P.underlying t=some (.slice e)) (hu:P.underlying u=some du) (hi:P.info? e=some ti) (hz:ti.zero=some z) (hx:AppIn P du ti z x n news w)
  (hg:sLen + n≤sCap) (hs:(storeCells (a.add (sLen * ti.size)) news).run P w=.ok () w'):(Builtin.append_ #[t,u] ty #[.slice (some a) sLen sCap,x]).run P w=.ok (.slice (some a) (sLen + n) sCap) w':=by
 rcases hx with ⟨hm,a1,a2⟩ | ⟨hm,a1,a2,⟨k,rfl⟩,a3,a4⟩
 ·have hdu:=isInt_f hm
  clear hm;have hm:(match du with | .int _=>true | _=>false)=false:=by cases du <;> first | rfl | exact absurd rfl (hdu _)
  simp [Builtin.append_,run_underlying ht,run_underlying hu,hm,sizeOf,typeInfo,hi,a1,a2,hg,hs]
 ·obtain ⟨kd,rfl⟩:=isInt_t hm
  have h4:¬ ((n:Int) < 0):=by omega
  have h5:¬ (281474976710656 < (n:Int) * (ti.bytes:Int)):=by
   have:=Nat.mul_le_mul a1 a2;have e:(n:Int) * (ti.bytes:Int)=((n * ti.bytes:Nat):Int):=by simp
   rw [e];omega
  by_cases h0:n * ti.size=0
  ·have:=zeros_nil a3 a4 h0
   subst this;have h0':n=0∨ti.size=0:=Nat.mul_eq_zero.1 h0;simp [Builtin.append_,run_underlying ht,run_underlying hu,sizeOf,typeInfo,zeroValue,hi,hz,asInt,asIntOf,wrap_len a1,h4,h5,h0,hg,hs]
  ·have h0':¬ (n=0∨ti.size=0):=fun h=>h0 (Nat.mul_eq_zero.2 h)
   have hs':(storeCells (a.add (sLen * ti.size)) (Builtin.zeroCells z.cells n).toList).run P w=.ok () w':=by rw [← a4]; exact hs
   simp [Builtin.append_,run_underlying ht,run_underlying hu,sizeOf,typeInfo,zeroValue,hi,hz,asInt,asIntOf,wrap_len a1,h4,h5,h0,hg,hs']
end Go.Proofs.YtijegngfclkdaaaGreatDoor.Ev
namespace Go.Proofs.YtijegngfclkdaaaGreatDoor.Ev
open Go
variable {σ:Type}
theorem evApp_R {X:Cx σ} (hX:XOK X) {O:Outside σ} {E:Env} {w:World} {t u ty:TypeId} {a b v:AV} {s s':St σ} {y z:Value} (h:evApp X t u a b s=some (v,s')) (R:Rel X O E s.S.get s.g w) (hf:∀ id,s.c≤id→id < s'.c→¬ E.D id)
  (ha:RV E a y) (hb:RV E b z):∃ p w',(Builtin.append_ #[t,u] ty #[y,z]).run X.P w=.ok p w'∧StepP X O E s w (some v) s' p w':=by
 have hS:∀ id ob,s.S.get id=some ob→E.D id∧RO E id w ob:=R.ob;simp only [evApp,Option.bind_eq_some_iff] at h;obtain ⟨d,hd,du,hdu,h⟩:=h;split at h
 ·rename_i e
  simp only [Option.bind_eq_some_iff,gd_some] at h;obtain ⟨ie,hie,⟨m,cs⟩,hp,hby,h⟩:=h;have hby:=Nat.le_of_ble_eq_true hby
  obtain ⟨ti,i1,i2,i3,i4⟩:=hX.inf _ _ hie;have hzs:=hX.zsz _ _ hie;have src:cs.length=m * ie.size∧∃ vs,vs.length=m * ie.size∧Rel2 (RC E) cs vs∧∀ w':World,w'.heap=w.heap→AppIn X.P du ti ie.zero z m vs w':=by
   unfold appSrc at hp;split at hp
   ·rename_i hi
    simp only [Option.bind_eq_some_iff,gd_some,Option.map_eq_some_iff] at hp;obtain ⟨n,hn,hnb,zl,hz,hp⟩:=hp;injection hp with hp1 hp2
    subst hp1 hp2;obtain ⟨k,rfl⟩:=natOf_R hn hb;have hr:=rep_R (E:=E) (cesOf_R (E:=E) hz) n;have hlen:(List.replicate n ie.zc).flatten.length=n * ie.size:=by
     have e:ie.zc.length=ie.size:=by simpa [TI.zc] using hzs
     simp [e]
    refine ⟨by rw [hr.length,hlen],_,hlen,hr,fun w' _=>.inr ⟨hi,Nat.le_of_ble_eq_true hnb,by rw [i3]; exact hby,⟨k,rfl⟩,by rw [i2]; exact hzs,?_⟩⟩;apply Array.ext'
    have:=rep_list ie.zero.cells n;simpa [Builtin.zeroCells,TI.zc] using this.symm
   ·rename_i hi
    obtain ⟨c1,vs,c2,c3,c4⟩:=src_R (P:=X.P) hS hp hb;refine ⟨c1,vs,c2,c3,fun w' hw'=>.inl ⟨hi,(c4 w' hw').1,?_⟩⟩;have:=(c4 w' hw').2 m (Nat.le_refl _);rw [← c2,List.take_length] at this;rw [i2];exact this
  obtain ⟨c1,vs,c2,c3,whole⟩:=src;have none0:∀ w':World,w'.heap=w.heap→m=0→AppIn X.P du ti ie.zero z 0 [] w':=fun w' hw' h0=>by
   have h1:=whole w' hw';have:vs=[]:=List.length_eq_zero_iff.1 (by rw [c2,h0,Nat.zero_mul]);rw [this,h0] at h1;exact h1
  dsimp only at h;split at h
  ·have hy:y=.slice none 0 0:=ha.1
   subst hy;cases m with
   | zero =>
    dsimp only at h;injection h with h
    injection h with h1 h2
    subst h1 h2;exact ⟨.slice none 0 0,w,growsZero X.P (z:=ie.zero) (hX.und _ _ hd) (hX.und _ _ hdu) i1 (none0 w rfl rfl) (Nat.le_refl _),StepP.same R fun av e=>by injection e with e; rw [← e]; exact ha⟩
   | succ k =>
    dsimp only at h;rw [gd_some] at h;obtain ⟨b1,h⟩:=h;have b1:=Nat.le_of_ble_eq_true b1;injection h with h
    injection h with h1 h2
    subst h1 h2;have hc:¬ E.D s.c:=hf s.c (Nat.le_refl _) (by simp [newS]);have gq:=growsEq X.P (w:=w) (ty:=ty) (base:=none) (sLen:=0) (sCap:=0) (olds:=[]) (hX.und _ _ hd) (hX.und _ _ hdu) i1 i4 whole (fun w' _=>by simp [Builtin.firstCells]) (by omega) (by omega) (by omega);have hcap:k + 1≤grownCap w (0 + (k + 1)) 0 e:=by have:=cap_ge (w:=w) (need:=0 + (k + 1)) (old:=0) (e:=e); omega
    rw [Nat.zero_add] at hcap gq;refine ⟨_,_,gq,StepP.of_made (mk_new R hc w.drew rfl c3 (rest:=(Builtin.zeroCells ie.zero.cells (grownCap w (k + 1) 0 e - (k + 1))).toList) (by simp) (more_sl hcap ?_ (fun k hk=>by cases hk) (fun _=>Nat.le_trans (grownCap_le_maxLen _ _ _ _ (by unfold maxLen; omega)) (by decide))))⟩;have es:([].toArray ++ vs.toArray ++ Builtin.zeroCells ie.zero.cells (grownCap w (k + 1) 0 e - (k + 1))).size=(k + 1) * ie.size + (grownCap w (k + 1) 0 e - (k + 1)) * ie.size:=by simp [zeroCells_size,c2,hzs]
    rw [es,← Nat.add_mul];exact Nat.mul_le_mul_right _ (by omega)
  ·rename_i id off n cp ez
   rw [gd_some,Bool.and_eq_true] at h;obtain ⟨⟨hez,hnm⟩,h⟩:=h;have hez:=Nat.eq_of_beq_eq_true hez;have hnm:=Nat.le_of_ble_eq_true hnm;subst hez;have ha':=ha;obtain ⟨hD,q,cap,hy,hl1,hl2,hl3,hlc⟩:=ha;subst hy;cases m with
   | zero =>
    dsimp only at h;injection h with h
    injection h with h1 h2
    subst h1 h2;exact ⟨_,w,growsZero X.P (z:=ie.zero) (hX.und _ _ hd) (hX.und _ _ hdu) i1 (none0 w rfl rfl) hl1,StepP.same R fun av e=>by injection e with e; rw [← e]; exact ha'⟩
   | succ k =>
    dsimp only at h;split at h
    case h_2=>cases h
    rename_i l rty hlS;simp only [Option.bind_eq_some_iff,gd_some] at h;obtain ⟨hty,old,hold,h⟩:=h;have hty:=Nat.eq_of_beq_eq_true hty;subst hty;have hro:=(hS _ _ hlS).2;obtain ⟨o1,ovs,o2,o3,o4⟩:=cut_lies hro hold;have olds:∀ w':World,w'.heap=w.heap→(Builtin.firstCells ti.size n (.slice (some q) n cap)).run X.P w'=.ok ovs.toArray w':=fun w' hw'=>by
     simp only [Builtin.firstCells];rw [i2];rcases hl2 with h0 | ⟨h0,_⟩
     ·have:n=0:=by omega
      subst this;rw [Nat.zero_mul] at o2 ⊢;rw [List.length_eq_zero_iff.1 o2];rfl
     ·rw [h0]
      refine loadCells_lies (fun j v hj=>?_) o2;have:=o4 j v hj;rw [World.cell?,hw'];exact this
    have grow:cap < n + (k + 1)→s.c < s'.c→∃ p,(Builtin.append_ #[t,u] ty #[.slice (some q) n cap,z]).run X.P w=.ok p (w.drew.alloc (.cells (ovs.toArray ++ vs.toArray ++ Builtin.zeroCells ie.zero.cells (grownCap w (n + (k + 1)) cap rty - (n + (k + 1)))) rty)) ∧
      ∀ (h0:Nat→Option Ob),Rel X O E h0 s.g w→MadeP X O E h0 s.g s.c w (one (.sl s.c 0 (n + (k + 1)) none ie.size)) (some (.row (old ++ cs) rty)) p (w.drew.alloc (.cells (ovs.toArray ++ vs.toArray ++ Builtin.zeroCells ie.zero.cells (grownCap w (n + (k + 1)) cap rty - (n + (k + 1)))) rty)):=fun hg hcc=>by
     have hc:¬ E.D s.c:=hf s.c (Nat.le_refl _) hcc;have gq:=growsEq X.P (w:=w) (ty:=ty) (base:=some q) (olds:=ovs) (hX.und _ _ hd) (hX.und _ _ hdu) i1 i4 whole olds hg hnm (by omega);have hcap:n + (k + 1)≤grownCap w (n + (k + 1)) cap rty:=cap_ge;refine ⟨_,gq,fun h0 R0=>mk_new R0 hc w.drew rfl (o3.append c3) (rest:=(Builtin.zeroCells ie.zero.cells (grownCap w (n + (k + 1)) cap rty - (n + (k + 1)))).toList) (by simp) (more_sl hcap ?_ (fun k hk=>by cases hk) (fun _=>Nat.le_trans (grownCap_le_maxLen _ _ _ _ (by unfold maxLen; omega)) (by decide)))⟩;have es:(ovs.toArray ++ vs.toArray ++ Builtin.zeroCells ie.zero.cells (grownCap w (n + (k + 1)) cap rty - (n + (k + 1)))).size=n * ie.size + (k + 1) * ie.size + (grownCap w (n + (k + 1)) cap rty - (n + (k + 1))) * ie.size:=by simp [zeroCells_size,c2,o2,hzs]
     rw [es,← Nat.add_mul,← Nat.add_mul];exact Nat.mul_le_mul_right _ (by omega)
    have place:n + (k + 1)≤cap→q=⟨E.ι id,E.sh id + off,none⟩∧E.sh id + off + cap * ie.size≤E.κ id∧∃ arr fz w' cur',w.heap[E.ι id]?=some (.cells arr rty fz)∧E.κ id=arr.size∧NF fz arr.size ∧
      (Builtin.append_ #[t,u] ty #[.slice (some q) n cap,z]).run X.P w=.ok (.slice (some q) (n + (k + 1)) cap) w'∧w'.heap[E.ι id]?=some (.cells cur' rty fz)∧cur'.size=arr.size ∧
      (∀ j,cur'[j]?=if E.sh id + (off + n * ie.size)≤j∧j < E.sh id + (off + n * ie.size) + vs.length then vs[j - (E.sh id + (off + n * ie.size))]? else arr[j]?)∧(∀ b,b≠E.ι id→w'.heap[b]?=w.heap[b]?)∧w'.heap.size=w.heap.size∧Kp w w':=fun hg=>by
     have hq:q=⟨E.ι id,E.sh id + off,none⟩∧E.sh id + off + cap * ie.size≤E.κ id:=by
      rcases hl2 with h0 | h0
      ·omega
      ·exact h0
     obtain ⟨arr,fz,k1,k2,k3,k4,k5⟩:=hro;have hroom:(n + (k + 1)) * ie.size≤cap * ie.size:=Nat.mul_le_mul_right _ hg;rw [Nat.add_mul] at hroom;obtain ⟨w',cur',r1,r2,r3,r4,r5,r6,r7⟩:=run_lay (P:=X.P) (E.ι id) (E.sh id + (off + n * ie.size)) rty fz vs 0 arr w k1 k4.free (by omega) (cells_one c3);refine ⟨hq.1,hq.2,arr,fz,w',cur',k1,k2,k4,?_,r2,r3,fun j=>by rw [r4 j]; simp only [Nat.add_zero],r5,r6,r7⟩;refine run_inplace X.P (hX.und _ _ hd) (hX.und _ _ hdu) i1 i4 (whole w rfl) hg ?_;rw [hq.1,i2,add_off,Nat.add_assoc];exact r1
    split at h
    ·
     injection h with h
     injection h with h1 h2
     subst h1 h2;have hcc:s.c < (newS (setS s id none) (some (.row (old ++ cs) rty))).c:=by simp [newS,setS]
     have hc:¬ E.D s.c:=hf s.c (Nat.le_refl _) hcc;rcases Nat.lt_or_ge cap (n + (k + 1)) with hg | hg
     ·obtain ⟨p,g1,g2⟩:=grow hg hcc
      obtain ⟨E',m1,m2,m3,_⟩:=g2 (put1 s.S.get id none) (R.sub fun i o hi=>by
       simp only [put1] at hi;split at hi
       ·cases hi
       ·exact hi)
      refine ⟨p,_,g1,E',fun av e=>by injection e with e; rw [← e]; exact m1,?_,?_⟩
      ·simp only [newS,setS,get_put1]; exact m2
      ·have hsub:∀ i,put1 s.S.get id none i≠none→s.S.get i≠none:=fun i hi=>by
        simp only [put1] at hi;split at hi
        ·exact absurd rfl hi
        ·exact hi
       simp only [newS,setS,get_put1];exact ⟨m3.ext,m3.fresh,m3.size,fun b hb hB hI=>m3.frame b hb hB fun i hi=>hI i (hsub i hi),fun i hi=>by rcases m3.img i hi with ⟨j,a,b⟩ | h; exact .inl ⟨j,hsub j a,b⟩; exact .inr h,m3.imgB,fun i hi=>by rcases m3.dom i hi with h | h; exact .inl (hsub i h); exact .inr h,m3.kp⟩
     ·obtain ⟨p1,p2,arr,fz,w',cur',k1,k2,k4,r1,r2,r3,r4,r5,r6,r7⟩:=place hg
      have ext:Ext E (E.alias s.c (E.ι id) (E.sh id + off) arr.size):=Env.alias_ext hc;have hlen:=o3.length;have clen:=c3.length;obtain ⟨m2,m3⟩:=R.moved (c:=s.c) hc (s:=E.sh id + off) (k:=arr.size) (o':=.row (old ++ cs) rty) hlS (by
       refine ⟨cur',fz,by simpa [Env.alias] using r2,by simp [Env.alias,r3],?_,by rw [r3]; exact k4,fun i x hx=>?_⟩
       ·simp only [Env.alias,if_pos,List.length_append]
        have hroom:(n + (k + 1)) * ie.size≤cap * ie.size:=Nat.mul_le_mul_right _ hg;rw [Nat.add_mul] at hroom;omega
       ·have esh:(E.alias s.c (E.ι id) (E.sh id + off) arr.size).sh s.c=E.sh id + off:=by simp [Env.alias]
        rw [esh,r4];rw [List.getElem?_append] at hx;split at hx
        ·rename_i hi
         obtain ⟨y',g1,g2⟩:=o3.get hx;refine ⟨y',?_,RC.ext ext g2⟩;rw [if_neg (by omega)];have:=o4 i y' g1;rw [cell_of k1] at this;exact this
        ·rename_i hi
         have hi2:i - old.length < cs.length:=by
          rcases Nat.lt_or_ge (i - old.length) cs.length with h | h
          ·exact h
          ·rw [List.getElem?_eq_none h] at hx; cases hx
         obtain ⟨y',g1,g2⟩:=c3.get hx;refine ⟨y',?_,RC.ext ext g2⟩;rw [if_pos (by omega),show E.sh id + off + i - (E.sh id + (off + n * ie.size))=i - old.length by omega];exact g1) r5 r6 r7
      refine ⟨_,w',r1,E.alias s.c (E.ι id) (E.sh id + off) arr.size,fun av ee=>?_,?_,?_⟩
      ·injection ee with ee
       rw [← ee];refine ⟨by simp [Env.alias],_,_,rfl,hg,.inr ⟨by rw [p1]; simp [Env.alias],?_⟩,(fun k hk=>by cases hk),fun _=>hlc rfl⟩;simp only [Env.alias,if_pos];omega
      ·simp only [newS,setS,get_put1]; exact m2
      ·simp only [newS,setS,get_put1]; exact m3
    ·rename_i kk
     split at h
     ·rename_i hk
      have hk:=Nat.le_of_ble_eq_true hk;have hcap:=hl3 kk rfl;rw [Option.map_eq_some_iff] at h;obtain ⟨l',hlay,h⟩:=h;injection h with h1 h2
      subst h1 h2;obtain ⟨p1,p2,arr,fz,w',cur',k1,k2,k4,r1,r2,r3,r4,r5,r6,r7⟩:=place (by omega);obtain ⟨m2,m3⟩:=R.wrote hlS (hro.lay (w':=w') hlay c3 k1 r2 r3 r4) r5 r6 s.c r7;refine ⟨_,w',r1,E,fun av ee=>?_,?_,?_⟩
      ·injection ee with ee
       rw [← ee];exact ⟨hD,_,_,rfl,by omega,hl2,hl3,hlc⟩
      ·simp only [setS,get_put1]; exact m2
      ·simp only [setS,get_put1]; exact m3
     ·rename_i hk
      have hk:¬ n + (k + 1)≤kk:=fun hh=>by rw [Nat.ble_eq_true_of_le hh] at hk; cases hk
      have hcap:=hl3 kk rfl;injection h with h
      injection h with h1 h2
      subst h1 h2;obtain ⟨p,g1,g2⟩:=grow (by omega) (by simp [newS]);exact ⟨p,_,g1,StepP.of_made (g2 _ R)⟩
  ·cases h
 ·cases h
end Go.Proofs.YtijegngfclkdaaaGreatDoor.Ev
