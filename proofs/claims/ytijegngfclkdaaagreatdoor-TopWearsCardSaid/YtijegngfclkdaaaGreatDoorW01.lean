/-
  Pieces of the proof: part 1 of 54.
  Conditions: none.
-/
import Derived.OrdersHeld
import Derived.WalkKit
import Derived.LoopN
import Derived.Scope
set_option linter.unusedVariables false
set_option linter.unusedSimpArgs false
set_option maxHeartbeats 100000000
set_option maxRecDepth 100000
namespace Go.Proofs.YtijegngfclkdaaaGreatDoor.Ev
open Go
noncomputable section
inductive Tr (α:Type) where
 | e
 | n (l:Tr α) (v:Option α) (r:Tr α)
namespace Tr
variable {α:Type}
def get (t:Tr α):Nat→Option α :=
 Tr.rec (motive:=fun _=>Nat→Option α) (fun _=>none)
  (fun _ v _ gl gr i=>Nat.casesOn (motive:=fun _=>Option α) i v fun k=>Bool.rec (motive:=fun _=>Option α) (gr (k / 2)) (gl (k / 2)) (Nat.beq (k % 2) 0)) t
def single (d:Nat):Nat→Option α→Tr α :=
 Nat.rec (motive:=fun _=>Nat→Option α→Tr α) (fun _ _=>.e)
  (fun _ ih i x=>Nat.casesOn (motive:=fun _=>Tr α) i (.n .e x .e) fun k=>Bool.rec (motive:=fun _=>Tr α) (.n .e none (ih (k / 2) x)) (.n (ih (k / 2) x) none .e) (Nat.beq (k % 2) 0)) d
def set (t:Tr α) (i:Nat) (x:Option α):Tr α :=
 Tr.rec (motive:=fun _=>Nat→Tr α) (fun i=>single (i + 1) i x)
  (fun l v r pl pr i=>Nat.casesOn (motive:=fun _=>Tr α) i (.n l x r) fun k=>Bool.rec (motive:=fun _=>Tr α) (.n l v (pr (k / 2))) (.n (pl (k / 2)) v r) (Nat.beq (k % 2) 0)) t i
theorem bool_rec {β:Type} (a b:β) (c:Bool):Bool.rec (motive:=fun _=>β) a b c=if c=true then b else a:=by cases c <;> rfl
theorem get_e (i:Nat):(e:Tr α).get i=none:=rfl
theorem get_n (l:Tr α) (v:Option α) (r:Tr α) (i:Nat):(n l v r).get i=if i=0 then v else if (i - 1) % 2=0 then l.get ((i - 1) / 2) else r.get ((i - 1) / 2):=by
 cases i with
 | zero=>rfl
 | succ k =>
  rw [if_neg (by omega),Nat.add_sub_cancel];show Bool.rec (motive:=fun _=>Option α) (r.get (k / 2)) (l.get (k / 2)) (Nat.beq (k % 2) 0)=_;rw [bool_rec]
  by_cases h:k % 2=0
  ·rw [if_pos h,if_pos (by rw [h]; rfl)]
  ·rw [if_neg h,if_neg (fun hh=>h (Nat.eq_of_beq_eq_true hh))]
theorem node_get (k j:Nat) (l r l' r':Tr α) (v x:Option α) (hl:∀ m,l'.get m=if m=k / 2 then x else l.get m) (hr:∀ m,r'.get m=if m=k / 2 then x else r.get m) :
  (Bool.rec (motive:=fun _=>Tr α) (n l v r') (n l' v r) (Nat.beq (k % 2) 0)).get j=if j=k + 1 then x else (n l v r).get j:=by
 rw [bool_rec]
 by_cases h:k % 2=0
 ·rw [if_pos (by rw [h]; rfl),get_n,get_n]
  by_cases hj0:j=0
  ·subst hj0; simp
  ·rw [if_neg hj0,if_neg hj0]
   by_cases hj2:(j - 1) % 2=0
   ·rw [if_pos hj2,if_pos hj2,hl]
    by_cases e:j=k + 1
    ·subst e; simp
    ·rw [if_neg e,if_neg (by omega)]
   ·rw [if_neg hj2,if_neg hj2,if_neg (by omega)]
 ·rw [if_neg (fun hh=>h (Nat.eq_of_beq_eq_true hh)),get_n,get_n]
  by_cases hj0:j=0
  ·subst hj0; simp
  ·rw [if_neg hj0,if_neg hj0]
   by_cases hj2:(j - 1) % 2=0
   ·rw [if_pos hj2,if_pos hj2,if_neg (by omega)]
   ·rw [if_neg hj2,if_neg hj2,hr]
    by_cases e:j=k + 1
    ·subst e; simp
    ·rw [if_neg e,if_neg (by omega)]
theorem get_single:∀ (d i:Nat) (x:Option α) (j:Nat),i < d→(single d i x).get j=if j=i then x else none
 | 0,i,_,_,h=>absurd h (Nat.not_lt_zero i)
 | d + 1,0,x,j,_=>by
  show (n e x e:Tr α).get j=_;rw [get_n]
  by_cases hj:j=0 <;> simp [hj,get_e]
 | d + 1,k + 1,x,j,h=>by
  have ih:=fun m=>get_single d (k / 2) x m (by omega)
  refine (node_get k j e e (single d (k / 2) x) (single d (k / 2) x) none x (fun m=>by rw [ih m,get_e]) (fun m=>by rw [ih m,get_e])).trans ?_
  by_cases e:j=k + 1
  ·rw [if_pos e,if_pos e]
  ·rw [if_neg e,if_neg e,get_n,get_e]
   simp [get_e]
theorem get_set (t:Tr α):∀ (i:Nat) (x:Option α) (j:Nat),(t.set i x).get j=if j=i then x else t.get j:=by
 induction t with
 | e=>intro i x j; exact get_single (i + 1) i x j (Nat.lt_succ_self i)
 | n l v r ihl ihr =>
  intro i x j;cases i with
  | zero =>
   show (n l x r).get j=_;rw [get_n,get_n]
   by_cases hj:j=0 <;> simp [hj]
  | succ k=>exact node_get k j l r (l.set (k / 2) x) (r.set (k / 2) x) v x (fun m=>ihl _ _ _) (fun m=>ihr _ _ _)
end Tr
inductive At where
 | v (x:Value)
 | ptr (id off:Nat)
 | sl (id off len:Nat) (cap:Option Nat) (ez:Nat)
 | mp (id:Nat)
 | sym (k:Nat)
 | op (k:Nat)
 | top
inductive Ar where
 | one (x:At)
 | agg (l:List At)
inductive Ce where
 | a (x:At)
 | fn (f:Fn) (fi ca:List Ar)
inductive V1 where
 | one (c:Ce)
 | agg (l:List Ce)
inductive AV where
 | w (x:V1)
 | tup (l:List V1)
inductive Ob where
 | row (l:List Ce) (ty:TypeId)
 | map (es:List MapEntry) (clock:Nat)
structure St (σ:Type) where
 c:Nat
 S:Tr Ob
 g:σ
structure Fr where
 nt:Nat
 t:Tr AV
def gd {α:Type} (b:Bool) (x:Option α):Option α:=match b with | true=>x | false=>none
theorem gd_some {α:Type} {b:Bool} {x:Option α} {y:α}:gd b x=some y↔b=true∧x=some y:=by cases b <;> simp [gd]
def psem {α:Type} (P:Program):Sem α→Option α
 | .pure a=>some a
 | .program k=>psem P (k P)
 | .mark _ k=>psem P k
 | .load .. | .store .. | .new .. | .shape .. | .freeze .. | .frozen .. | .getObj .. | .setObj .. | .choose .. | .sys .. | .halt _=>none
theorem psem_run {α:Type} {P:Program} {s:Sem α} {a:α} (h:psem P s=some a) (w:World):s.run P w=.ok a w:=by
 induction s generalizing w with
 | pure x=>simp only [psem] at h; injection h with h; subst h; rfl
 | program k ih=>simp only [psem] at h; exact ih P h w
 | mark m k ih=>simp only [psem] at h; exact ih h w
 | _=>simp [psem] at h
def atOf (x:Value):Option At:=match x with
 | .agg _ | .tuple _=>none
 | x=>some (.v x)
def cesOf:List Value→Option (List Ce)
 | []=>some []
 | x :: l=>(atOf x).bind fun a=>(cesOf l).bind fun r=>some (.a a :: r)
def v1Of (x:Value):Option V1:=match x with
 | .agg cs=>(cesOf cs.toList).map .agg
 | x=>(atOf x).map fun a=>.one (.a a)
def plainC:List Ce→Option (List Value)
 | []=>some []
 | .a (.v x) :: l=>(plainC l).map (x :: ·)
 | _ :: _=>none
def plain:AV→Option Value
 | .w (.one (.a (.v x)))=>some x
 | .w (.agg l)=>(plainC l).map fun vs=>.agg vs.toArray
 | _=>none
def cells:AV→Option (List Ce)
 | .w (.one c)=>some [c]
 | .w (.agg l)=>some l
 | .tup _=>none
def aggD:TypeDesc→Bool
 | .struct _ | .array _ _=>true
 | _=>false
structure TI where
 size:Nat
 bytes:Nat
 zero:Value
def TI.zc (i:TI):List Value:=i.zero.cells.toList
structure FI where
 body:Code
 nt:Nat
 res:List ResultVar
 pl:List (Nat×List Nat×List Nat)
structure Cx (σ:Type) where
 P:Program
 und:TypeId→Option TypeDesc
 inf:TypeId→Option TI
 fn:FuncId→Option FI
 ng:Nat
 orc:FuncId→List AV→St σ→Option (AV×St σ)
variable {σ:Type}
def ofCells (d:TypeDesc) (l:List Ce):Option AV:=match aggD d with
 | true=>some (.w (.agg l))
 | false=>match l with
  | [c]=>some (.w (.one c))
  | _=>none
def look (S:Tr Ob) (id:Nat):Option (List Ce):=match S.get id with
 | some (.row l _)=>some l
 | _=>none
def cut:List Ce→Nat→Nat→Option (List Ce)
 | _,0,0=>some []
 | [],0,_ + 1=>none
 | c :: l,0,k + 1=>(cut l 0 k).map (c :: ·)
 | [],_ + 1,_=>none
 | _ :: l,o + 1,k=>cut l o k
def lay:List Ce→Nat→List Ce→Option (List Ce)
 | l,0,[]=>some l
 | [],0,_ :: _=>none
 | _ :: l,0,x :: xs=>(lay l 0 xs).map (x :: ·)
 | [],_ + 1,_=>none
 | c :: l,o + 1,xs=>(lay l o xs).map (c :: ·)
def natOf:AV→Option Nat
 | .w (.one (.a (.v (.int _ (.ofNat n)))))=>some n
 | _=>none
def isNil:Value→Bool
 | .pointer none | .slice none _ _ | .map none | .nilFunc=>true
 | _=>false
def fitsRef (d:TypeDesc) (x:AV):Bool:=match d,x with
 | .pointer _,.w (.one (.a (.ptr ..))) | .pointer _,.w (.one (.a (.op _))) | .slice _,.w (.one (.a (.sl ..))) | .map _ _,.w (.one (.a (.mp _))) | .func _ _ _,.w (.one (.fn ..))=>true
 | _,_=>false
def fitsNil (d:TypeDesc) (x:Value):Bool:=match d,x with
 | .pointer _,.pointer none | .slice _,.slice none _ _ | .map _ _,.map none | .func _ _ _,.nilFunc=>true
 | _,_=>false
def atL:List Ce→Option (List At)
 | []=>some []
 | .a x :: l=>(atL l).map (x :: ·)
 | _ :: _=>none
def atsOf:List AV→Option (List Ar)
 | []=>some []
 | .w (.one (.a x)) :: l=>(atsOf l).map (.one x :: ·)
 | .w (.agg cs) :: l=>(atL cs).bind fun c=>(atsOf l).map (.agg c :: ·)
 | _ :: _=>none
def Ar.av:Ar→AV
 | .one x=>.w (.one (.a x))
 | .agg l=>.w (.agg (l.map .a))
def mapO {α β:Type} (f:α→Option β):List α→Option (List β)
 | []=>some []
 | x :: l=>(f x).bind fun y=>(mapO f l).bind fun r=>some (y :: r)
def one (x:At):AV:=.w (.one (.a x))
def intV (n:Nat):AV:=one (.v (.int .i64 n))
def fillC (place:Nat→Option (Nat×Nat)) (cs:List Ce):List (Nat×List Ce)→Option (List Ce)
 | []=>some cs
 | (i,v) :: rest=>(place i).bind fun (off,size)=>gd (Nat.beq v.length size) ((lay cs off v).bind fun cs'=>fillC place cs' rest)
def rep (l:List Ce):Nat→List Ce
 | 0=>[]
 | n + 1=>l ++ rep l n
end
end Go.Proofs.YtijegngfclkdaaaGreatDoor.Ev
namespace Go.Proofs.YtijegngfclkdaaaGreatDoor.Ev
open Go
noncomputable section
variable {σ:Type}
def kn:IntKind→Nat
 | .i8=>0
 | .i16=>1
 | .i32=>2
 | .i64=>3
 | .u8=>4
 | .u16=>5
 | .u32=>6
 | .u64=>7
def kmax:IntKind→Nat
 | .i8=>127
 | .i16=>32767
 | .i32=>2147483647
 | .i64=>9223372036854775807
 | .u8=>255
 | .u16=>65535
 | .u32=>4294967295
 | .u64=>18446744073709551615
def wrapF (k:IntKind) (n:Int):Int:=match n with
 | .ofNat m=>match Nat.ble m (kmax k) with
  | true=>n
  | false=>k.wrap n
 | .negSucc _=>k.wrap n
def eqI:Int→Int→Bool
 | .ofNat a,.ofNat b=>Nat.beq a b
 | .negSucc a,.negSucc b=>Nat.beq a b
 | _,_=>false
def leI:Int→Int→Bool
 | .ofNat a,.ofNat b=>Nat.ble a b
 | .negSucc a,.negSucc b=>Nat.ble b a
 | .negSucc _,.ofNat _=>true
 | .ofNat _,.negSucc _=>false
def intBin (op:BinOp) (k:IntKind) (a b:Int):Option Value:=match op with
 | .add=>some (.int k (wrapF k (Int.add a b)))
 | .sub=>some (.int k (wrapF k (Int.sub a b)))
 | .eql=>some (.bool (eqI a b))
 | .neq=>some (.bool (!eqI a b))
 | .lss=>some (.bool (!leI b a))
 | .leq=>some (.bool (leI a b))
 | .gtr=>some (.bool (!leI a b))
 | .geq=>some (.bool (leI b a))
 | _=>none
def intFast (op:BinOp) (u v:Value):Option Value:=match u with
 | .int j a=>match v with
  | .int k b=>match Nat.beq (kn j) (kn k) with
   | true=>intBin op j a b
   | false=>none
  | _=>none
 | _=>none
def evBin (X:Cx σ) (op:BinOp) (t:TypeId) (x y:Operand) (a b:AV):Option AV :=
 match plain a,plain b with
 | some u,some v=>match intFast op u v with
  | some r=>some (one (.v r))
  | none=>(psem X.P (do eqGuard op t x y u v; binOp op t u v)).bind fun r=>(v1Of r).map .w
 | none,some v=>(X.und t).bind fun d=>gd (fitsRef d a && fitsNil d v) (match op with
  | .eql=>some (one (.v (.bool false)))
  | .neq=>some (one (.v (.bool true)))
  | _=>none)
 | some u,none=>(X.und t).bind fun d=>gd (fitsRef d b && fitsNil d u) (match op with
  | .eql=>some (one (.v (.bool false)))
  | .neq=>some (one (.v (.bool true)))
  | _=>none)
 | none,none=>none
def bytesC:List Ce→Option (List UInt8)
 | []=>some []
 | .a (.v (.int .u8 (.ofNat n))) :: l=>gd (Nat.blt n 256) ((bytesC l).map (UInt8.ofNat n :: ·))
 | _ :: _=>none
def partC (X:Cx σ) (t:TypeId) (l:List Ce) (off:Nat):Option AV :=
 (X.und t).bind fun d=>(X.inf t).bind fun i=>match aggD d with
  | true=>(cut l off i.size).map fun cs=>.w (.agg cs)
  | false=>(cut l off 1).bind (ofCells d)
def boundOf (dflt:Nat) (ρ:Operand→Option AV):Option Operand→Option Nat
 | none=>some dflt
 | some x=>(ρ x).bind natOf
def findMap (k:Value):List MapEntry→Nat→Option (Option (Nat×Value))
 | [],_=>some none
 | e :: es,i=>match k,e.key with
  | .int j a,.int j' b=>gd (decide (j=j')) (match a == b with
   | true=>some (some (i,e.val))
   | false=>findMap k es (i + 1))
  | _,_=>none
def lookMap (S:Tr Ob) (id:Nat):Option (List MapEntry×Nat):=match S.get id with
 | some (.map es c)=>some (es,c)
 | _=>none
def evLen (X:Cx σ) (t:TypeId) (v:AV) (S:Tr Ob):Option AV:=(X.und t).bind fun d=>match d with
 | .array n _=>some (intV n)
 | .pointer e=>(X.und e).bind fun d=>match d with
  | .array n _=>some (intV n)
  | _=>none
 | .slice _=>match v with
  | .w (.one (.a (.sl _ _ n _ _)))=>some (intV n)
  | _=>none
 | .map _ _=>match v with
  | .w (.one (.a (.mp id)))=>(lookMap S id).map fun p=>intV p.1.length
  | _=>none
 | _=>none
def optP (ρ:Operand→Option AV):Option Operand→Option (Option Value)
 | none=>some none
 | some x=>((ρ x).bind plain).map some
def within (m len:Nat) (cp:Option Nat):Bool:=Nat.ble m len || (match cp with
 | some k=>Nat.ble m k
 | none=>false)
def orZ (q:Option (Nat×Value)) (z:Value):Value:=match q with
 | some q=>q.2
 | none=>z
def buildC (X:Cx σ) (d:TypeDesc) (z:List Ce) (ps:List (Nat×List Ce)):Option AV:=match d with
 | .struct fs=>(mapO (fun f:Field=>(X.inf f.type).map fun i=>(f.offset,i.size)) fs.toList).bind fun pl=>(fillC (fun i=>pl[i]?) z ps).map fun l=>.w (.agg l)
 | .array _ e=>(X.inf e).bind fun ie=>(fillC (fun i=>some (i * ie.size,ie.size)) z ps).map fun l=>.w (.agg l)
 | _=>none
def qPick (X:Cx σ) (c a b:Operand) (ρ:Operand→Option AV) (S:Tr Ob):Option AV:=(ρ c).bind fun v=>match v with
  | .w (.one (.a (.v (.bool t))))=>(ρ a).bind fun u=>(ρ b).bind fun v=>match t with
   | true=>some u
   | false=>some v
  | _=>none
def qBuild (X:Cx σ) (t:TypeId) (parts:Array (Nat×Operand)) (ρ:Operand→Option AV) (S:Tr Ob):Option AV:=(X.und t).bind fun d=>(X.inf t).bind fun i=>(cesOf i.zc).bind fun z =>
  (mapO (fun p:Nat×Operand=>(ρ p.2).bind fun v=>(cells v).map fun l=>(p.1,l)) parts.toList).bind fun ps =>
  buildC X d z ps
def qLoad (X:Cx σ) (t:TypeId) (a:Operand) (ρ:Operand→Option AV) (S:Tr Ob):Option AV:=(X.und t).bind fun d=>(X.inf t).bind fun i=>(ρ a).bind fun v=>match v with
  | .w (.one (.a (.ptr id off)))=>(look S id).bind fun l=>(cut l off (match aggD d with | true=>i.size | false=>1)).bind (ofCells d)
  | _=>none
def qNilCheck (X:Cx σ) (x:Operand) (ρ:Operand→Option AV) (S:Tr Ob):Option AV:=(ρ x).bind fun v=>match v with
  | .w (.one (.a (.ptr ..))) | .w (.one (.a (.sl ..))) | .w (.one (.a (.mp _))) | .w (.one (.a (.op _))) | .w (.one (.fn (.func _) _ _))=>some v
  | _=>none
def qBinOp (X:Cx σ) (op:BinOp) (t:TypeId) (x y:Operand) (ρ:Operand→Option AV) (S:Tr Ob):Option AV:=(ρ x).bind fun a=>(ρ y).bind fun b=>evBin X op t x y a b
def qUnOp (X:Cx σ) (op:UnOp) (x:Operand) (ρ:Operand→Option AV) (S:Tr Ob):Option AV:=(ρ x).bind fun a=>(plain a).bind fun u=>(psem X.P (Op.unary op u)).bind fun r=>(v1Of r).map .w
def qConvert (X:Cx σ) (src dst:TypeId) (x:Operand) (ρ:Operand→Option AV) (S:Tr Ob):Option AV:=(ρ x).bind fun a=>match plain a with
  | some u=>(psem X.P (convert src dst u)).bind fun r=>(v1Of r).map .w
  | none=>match a with
   | .w (.one (.a (.sl id off len _ ez)))=>(X.und src).bind fun ds=>(X.und dst).bind fun dd=>match ds,dd with
    | .slice e,.string=>(X.und e).bind fun de=>match de with
     | .int .u8=>gd (Nat.beq ez 1) ((look S id).bind fun l=>(cut l off len).bind fun cs=>(bytesC cs).map fun bs=>one (.v (.string ⟨bs.toArray⟩)))
     | _=>none
    | _,_=>none
   | _=>none
def qField (X:Cx σ) (t:TypeId) (x:Operand) (f:Nat) (ρ:Operand→Option AV) (S:Tr Ob):Option AV:=(X.und t).bind fun d=>(ρ x).bind fun v=>match d,v with
  | .struct fs,.w (.agg l)=>(fs[f]?).bind fun fd=>partC X fd.type l fd.offset
  | _,_=>none
def qFieldAddr (X:Cx σ) (t:TypeId) (x:Operand) (f:Nat) (ρ:Operand→Option AV) (S:Tr Ob):Option AV:=(X.und t).bind fun d=>(ρ x).bind fun v=>match d,v with
  | .struct fs,.w (.one (.a (.ptr id off)))=>(fs[f]?).bind fun fd=>(X.inf fd.type).bind fun i=>gd (Nat.ble 1 i.size) (some (one (.ptr id (off + fd.offset))))
  | _,_=>none
def qIndexAddr (X:Cx σ) (t:TypeId) (x ix:Operand) (ρ:Operand→Option AV) (S:Tr Ob):Option AV:=(X.und t).bind fun d=>(ρ x).bind fun v=>(ρ ix).bind fun k=>(natOf k).bind fun i=>match d,v with
  | .array n e,.w (.one (.a (.ptr id off)))=>(X.inf e).bind fun ie=>gd (Nat.blt i n) (some (one (.ptr id (off + i * ie.size))))
  | .slice e,.w (.one (.a (.sl id off len _ ez)))=>(X.inf e).bind fun ie=>gd (Nat.blt i len && Nat.beq ez ie.size) (some (one (.ptr id (off + i * ie.size))))
  | _,_=>none
def qIndex (X:Cx σ) (t:TypeId) (x ix:Operand) (ρ:Operand→Option AV) (S:Tr Ob):Option AV:=(ρ x).bind fun v=>(ρ ix).bind fun k=>match v with
  | .w (.agg l)=>(X.und t).bind fun d=>(natOf k).bind fun i=>match d with
   | .array n e=>(X.inf e).bind fun ie=>gd (Nat.blt i n) (partC X e l (i * ie.size))
   | _=>none
  | _=>(plain v).bind fun u=>(plain k).bind fun j=>(psem X.P (Instr.index t u j)).bind fun r=>(v1Of r).map .w
def qSlice (X:Cx σ) (t:TypeId) (x:Operand) (lo hi mx:Option Operand) (ρ:Operand→Option AV) (S:Tr Ob):Option AV:=(ρ x).bind fun v=>match v with
  | .w (.one (.a (.sl id off len cp ez)))=>(X.und t).bind fun d=>match d with
   | .slice e=>(X.inf e).bind fun ie=>gd (Nat.beq ez ie.size) (
    (boundOf 0 ρ lo).bind fun l=>(boundOf len ρ hi).bind fun h=>match mx with
     | none=>gd (Nat.ble l h && within h len cp) (some (one (.sl id (off + l * ez) (h - l) (cp.map (· - l)) ez)))
     | some _=>(boundOf 0 ρ mx).bind fun m=>gd (Nat.ble l h && Nat.ble h m && within m len cp && hi.isSome) (some (one (.sl id (off + l * ez) (h - l) (some (m - l)) ez))))
   | _=>none
  | .w (.one (.a (.ptr id off)))=>(X.und t).bind fun d=>match d with
   | .array n e=>(X.inf e).bind fun ie=>(look S id).bind fun row=>gd (Nat.ble (off + n * ie.size) row.length) (
    (boundOf 0 ρ lo).bind fun l=>(boundOf n ρ hi).bind fun h=>match mx with
     | none=>gd (Nat.ble l h && Nat.ble h n) (some (one (.sl id (off + l * ie.size) (h - l) (some (n - l)) ie.size)))
     | some _=>none)
   | _=>none
  | _=>(plain v).bind fun u=>(optP ρ lo).bind fun l=>(optP ρ hi).bind fun h=>(optP ρ mx).bind fun m=>(psem X.P (Instr.sliceAt t u l h m)).bind fun r=>(v1Of r).map .w
def qExtract (X:Cx σ) (x:Operand) (ix:Nat) (ρ:Operand→Option AV) (S:Tr Ob):Option AV:=(ρ x).bind fun v=>match v with
  | .tup l=>(l[ix]?).map .w
  | _=>none
def qMakeFunc (X:Cx σ) (f:Fn) (fi ca:Array Operand) (ρ:Operand→Option AV) (S:Tr Ob):Option AV:=(mapO ρ fi.toList).bind fun a=>(mapO ρ ca.toList).bind fun b=>(atsOf a).bind fun a=>(atsOf b).map fun b=>.w (.one (.fn f a b))
def qLookup (X:Cx σ) (t:TypeId) (x ix:Operand) (ok:Bool) (ρ:Operand→Option AV) (S:Tr Ob):Option AV:=(X.und t).bind fun d=>(ρ x).bind fun v=>(ρ ix).bind fun k=>match d,v,k with
  | .map kt et,.w (.one (.a (.mp id))),.w (.one (.a (.v (.int j n))))=>(X.und kt).bind fun dk=>(X.inf et).bind fun ie=>(lookMap S id).bind fun p=>match dk with
   | .int _=>(findMap (.int j n) p.1 0).bind fun r=>(v1Of (orZ r ie.zero)).bind fun y=>match ok with
    | false=>some (.w y)
    | true=>some (.tup [y,.one (.a (.v (.bool r.isSome)))])
   | _=>none
  | _,_,_=>none
def qCall (X:Cx σ) (b:Builtin) (args:Array Operand) (argTypes:Array TypeId) (ty:TypeId) (ρ:Operand→Option AV) (S:Tr Ob):Option AV:=match b with
  | .len=>match argTypes.toList,args.toList with
   | t :: _,[x]=>(ρ x).bind fun v=>match plain v with
    | some u=>(psem X.P (Builtin.len_ argTypes ty #[u])).bind fun r=>(v1Of r).map .w
    | none=>evLen X t v S
   | _,_=>none
  | .min=>(mapO (fun x=>(ρ x).bind plain) args.toList).bind fun l=>(psem X.P (Builtin.min_ argTypes ty l.toArray)).bind fun r=>(v1Of r).map .w
  | .max=>(mapO (fun x=>(ρ x).bind plain) args.toList).bind fun l=>(psem X.P (Builtin.max_ argTypes ty l.toArray)).bind fun r=>(v1Of r).map .w
  | _=>none
def opq (X:Cx σ) (o:Oper) (ρ:Operand→Option AV) (S:Tr Ob):Option AV :=
 match o.op with
 | .move x | .assign x=>ρ x
 | .pick c a b=>qPick X c a b ρ S
 | .build t parts=>qBuild X t parts ρ S
 | .load t a=>qLoad X t a ρ S
 | .nilCheck x=>qNilCheck X x ρ S
 | .binOp op t x y _=>qBinOp X op t x y ρ S
 | .unOp op _ x=>qUnOp X op x ρ S
 | .convert src dst x=>qConvert X src dst x ρ S
 | .field t x f=>qField X t x f ρ S
 | .fieldAddr t x f=>qFieldAddr X t x f ρ S
 | .indexAddr t x ix=>qIndexAddr X t x ix ρ S
 | .index t x ix=>qIndex X t x ix ρ S
 | .slice t x lo hi mx=>qSlice X t x lo hi mx ρ S
 | .extract x ix=>qExtract X x ix ρ S
 | .makeFunc f fi ca=>qMakeFunc X f fi ca ρ S
 | .lookup t x ix ok=>qLookup X t x ix ok ρ S
 | .call { callee:=.builtin b,args,argTypes }=>qCall X b args argTypes o.type ρ S
 | _=>none
def srcCells (S:Tr Ob) (size:Nat) (v:AV):Option (Nat×List Ce):=match v with
 | .w (.one (.a (.v (.slice none 0 0))))=>some (0,[])
 | .w (.one (.a (.v (.string s))))=>gd (Nat.beq size 1) (some (s.size,s.data.toList.map fun b=>.a (.v (.int .u8 b.toNat))))
 | .w (.one (.a (.sl id off n _ ez)))=>gd (Nat.beq ez size) ((look S id).bind fun l=>(cut l off (n * size)).map fun cs=>(n,cs))
 | _=>none
def aBuildSlice (X:Cx σ) (t:TypeId) (n:Nat) (parts:Array (Nat×Operand)) (ρ:Operand→Option AV) (S:Tr Ob) (c:Nat):Option (AV×Option Ob):=(X.und t).bind fun d=>match d with
  | .slice e=>(X.inf e).bind fun ie=>gd (Nat.ble (n * ie.size) 65536) ((cesOf ie.zc).bind fun z =>
   (mapO (fun p:Nat×Operand=>(ρ p.2).bind fun v=>(cells v).map fun l=>(p.1,l)) parts.toList).bind fun ps =>
   (fillC (fun i=>some (i * ie.size,ie.size)) (rep z n) ps).map fun l=>(one (.sl c 0 n (some n) ie.size),some (.row l e)))
  | _=>none
def aMakeSlice (X:Cx σ) (t:TypeId) (l k:Operand) (ρ:Operand→Option AV) (S:Tr Ob) (c:Nat):Option (AV×Option Ob):=(X.und t).bind fun d=>match d with
  | .slice e=>(X.inf e).bind fun ie=>(cesOf ie.zc).bind fun z=>(ρ l).bind fun l=>(ρ k).bind fun k=>(natOf l).bind fun l=>(natOf k).bind fun k =>
   gd (Nat.ble l k && Nat.ble k 65536 && Nat.ble ie.bytes 65536) (some (one (.sl c 0 l (some k) ie.size),some (.row (rep z k) e)))
  | _=>none
def aConvert (X:Cx σ) (src dst:TypeId) (x:Operand) (ρ:Operand→Option AV) (S:Tr Ob) (c:Nat):Option (AV×Option Ob):=(X.und src).bind fun ds=>(X.und dst).bind fun dd=>(ρ x).bind fun v=>match ds,dd,v with
  | .string,.slice e,.w (.one (.a (.v (.string s))))=>(X.und e).bind fun de=>match de with
   | .int .u8=>gd (Nat.ble s.size 65536) (some (one (.sl c 0 s.size none 1),some (.row (s.data.toList.map fun b=>.a (.v (.int .u8 b.toNat))) e)))
   | _=>none
  | _,_,_=>none
def aApp (X:Cx σ) (args:Array Operand) (argTypes:Array TypeId) (ρ:Operand→Option AV) (S:Tr Ob) (c:Nat):Option (AV×Option Ob):=match argTypes.toList,args.toList with
  | [t,u],[.const (.slice none 0 0),x]=>(X.und t).bind fun d=>(X.und u).bind fun du=>match d,du with
   | _,.int _=>none
   | .slice e,_=>(X.inf e).bind fun ie=>(ρ x).bind fun v=>(srcCells S ie.size v).bind fun p=>match p.1 with
    | 0=>some (one (.v (.slice none 0 0)),none)
    | _ + 1=>gd (Nat.ble p.1 65536 && Nat.ble ie.bytes 65536) (some (one (.sl c 0 p.1 none ie.size),some (.row p.2 e)))
   | _,_=>none
  | _,_=>none
def opa (X:Cx σ) (o:Oper) (ρ:Operand→Option AV) (S:Tr Ob) (c:Nat):Option (AV×Option Ob) :=
 match o.op with
 | .alloc t=>(X.inf t).bind fun i=>(cesOf i.zc).map fun z=>(one (.ptr c 0),some (.row z t))
 | .box t x=>(ρ x).bind fun v=>(cells v).map fun l=>(one (.ptr c 0),some (.row l t))
 | .buildSlice t n parts=>aBuildSlice X t n parts ρ S c
 | .makeMap t none=>some (one (.mp c),some (.map [] 0))
 | .makeSlice t l k=>aMakeSlice X t l k ρ S c
 | .convert src dst x=>aConvert X src dst x ρ S c
 | .call { callee:=.builtin .append,args,argTypes }=>aApp X args argTypes ρ S c
 | _=>none
inductive Kd where
 | q
 | a
 | e
def kdOf (X:Cx σ) (o:Oper):Kd:=match o.op with
 | .move _ | .assign _ | .pick .. | .build .. | .load .. | .nilCheck _ | .binOp .. | .unOp .. | .field .. | .fieldAddr .. | .indexAddr .. | .index .. | .slice .. | .extract .. | .makeFunc .. | .lookup ..=>.q
 | .convert src dst _=>match X.und src,X.und dst with
  | some .string,some (.slice _)=>.a
  | some (.slice _),some (.slice _)=>.e
  | _,_=>.q
 | .alloc _ | .box .. | .buildSlice .. | .makeMap .. | .makeSlice ..=>.a
 | .call { callee:=.builtin .len,.. } | .call { callee:=.builtin .min,.. } | .call { callee:=.builtin .max,.. }=>.q
 | .call { callee:=.builtin .append,args,.. }=>match args.toList with
  | (.const (.slice none 0 0)) :: _=>.a
  | _=>.e
 | _=>.e
def setS (s:St σ) (id:Nat) (o:Option Ob):St σ:={ s with S:=s.S.set id o }
def newS (s:St σ) (o:Option Ob):St σ:=match o with
 | none=>s
 | some o=>{ s with c:=s.c + 1,S:=s.S.set s.c (some o) }
def eraseAt:List MapEntry→Nat→List MapEntry
 | [],_=>[]
 | _ :: l,0=>l
 | e :: l,i + 1=>e :: eraseAt l i
def setVal (v:Value):List MapEntry→Nat→List MapEntry
 | [],_=>[]
 | e :: l,0=>{ e with val:=v } :: l
 | e :: l,i + 1=>e :: setVal v l i
def isInt:TypeDesc→Bool
 | .int _=>true
 | _=>false
def appSrc (X:Cx σ) (du:TypeDesc) (ie:TI) (S:Tr Ob) (b:AV):Option (Nat×List Ce):=match isInt du with
 | true=>(natOf b).bind fun n=>gd (Nat.ble n 65536) ((cesOf ie.zc).map fun z=>(n,rep z n))
 | false=>srcCells S ie.size b
def evApp (X:Cx σ) (t u:TypeId) (a b:AV) (s:St σ):Option (AV×St σ) :=
 (X.und t).bind fun d=>(X.und u).bind fun du=>match d with
 | .slice e=>(X.inf e).bind fun ie=>(appSrc X du ie s.S b).bind fun p=>gd (Nat.ble ie.bytes 65536) (match a with
  | .w (.one (.a (.v (.slice none 0 0))))=>match p.1 with
   | 0=>some (a,s)
   | _ + 1=>gd (Nat.ble p.1 65536) (some (one (.sl s.c 0 p.1 none ie.size),newS s (some (.row p.2 e))))
  | .w (.one (.a (.sl id off n cp ez)))=>gd (Nat.beq ez ie.size && Nat.ble (n + p.1) 65536) (match p.1 with
   | 0=>some (a,s)
   | _ + 1=>match s.S.get id with
    | some (.row l ty)=>gd (Nat.beq ty e) ((cut l off (n * ie.size)).bind fun old=>match cp with
     | none=>some (one (.sl s.c 0 (n + p.1) none ie.size),newS (setS s id none) (some (.row (old ++ p.2) e)))
     | some k=>match Nat.ble (n + p.1) k with
      | true=>(lay l (off + n * ie.size) p.2).map fun l'=>(one (.sl id off (n + p.1) cp ez),setS s id (some (.row l' e)))
      | false=>some (one (.sl s.c 0 (n + p.1) none ie.size),newS s (some (.row (old ++ p.2) e))))
    | _=>none)
  | _=>none)
 | _=>none
def eStore (X:Cx σ) (t:TypeId) (a x:Operand) (ρ:Operand→Option AV) (s:St σ):Option (Option AV×St σ):=(X.inf t).bind fun i=>(ρ a).bind fun p=>(ρ x).bind fun v=>(cells v).bind fun cs=>match p with
  | .w (.one (.a (.ptr id off)))=>gd (Nat.beq cs.length i.size) (match s.S.get id with
   | some (.row l ty)=>(lay l off cs).map fun l'=>(none,setS s id (some (.row l' ty)))
   | _=>none)
  | _=>none
def eConvert (X:Cx σ) (src dst:TypeId) (x:Operand) (ρ:Operand→Option AV) (s:St σ):Option (Option AV×St σ):=match Nat.beq src dst,X.und src with
  | true,some (.slice e)=>(X.und e).bind fun de=>(ρ x).bind fun v=>match de,v with
   | .int .u8,.w (.one (.a (.sl id off n cp ez)))=>gd (match look s.S id with | some _=>true | none=>false) (some (some v,s))
   | _,_=>none
  | _,_=>none
def eMapUpdate (X:Cx σ) (t:TypeId) (m k x:Operand) (ρ:Operand→Option AV) (s:St σ):Option (Option AV×St σ):=(X.und t).bind fun d=>(ρ m).bind fun m=>(ρ k).bind fun k=>(ρ x).bind fun x=>match d,m,k,x with
  | .map kt _,.w (.one (.a (.mp id))),.w (.one (.a (.v (.int j n)))),.w (.one (.a (.v y)))=>(X.und kt).bind fun dk=>match dk with
   | .int _=>(lookMap s.S id).bind fun p=>(findMap (.int j n) p.1 0).map fun r=>match r with
    | some q=>(none,setS s id (some (.map (setVal y p.1 q.1) p.2)))
    | none=>(none,setS s id (some (.map (p.1 ++ [{ key:=.int j n,val:=y,born:=p.2 }]) (p.2 + 1))))
   | _=>none
  | _,_,_,_=>none
def eBuiltin (X:Cx σ) (b:Builtin) (args:Array Operand) (argTypes:Array TypeId) (ρ:Operand→Option AV) (s:St σ):Option (Option AV×St σ):=match b with
  | .append=>match argTypes.toList,args.toList with
   | [t,u],[x,y]=>(ρ x).bind fun a=>(ρ y).bind fun b=>(evApp X t u a b s).map fun r=>(some r.1,r.2)
   | _,_=>none
  | .copy=>match argTypes.toList,args.toList with
   | [t,_],[x,y]=>(X.und t).bind fun d=>match d with
    | .slice e=>(X.inf e).bind fun ie=>(ρ x).bind fun a=>(ρ y).bind fun b=>(srcCells s.S ie.size b).bind fun p=>match a with
     | .w (.one (.a (.v (.slice none 0 0))))=>some (some (intV 0),s)
     | .w (.one (.a (.sl id off n cp ez)))=>gd (Nat.beq ez ie.size) (match s.S.get id with
      | some (.row l ty)=>(cut p.2 0 (Nat.min p.1 n * ie.size)).bind fun cs=>(lay l off cs).map fun l'=>(some (intV (Nat.min p.1 n)),setS s id (some (.row l' ty)))
      | _=>none)
     | _=>none
    | _=>none
   | _,_=>none
  | .delete=>match argTypes.toList,args.toList with
   | [t,_],[m,k]=>(X.und t).bind fun d=>(ρ m).bind fun m=>(ρ k).bind fun k=>match d,m,k with
    | .map kt _,.w (.one (.a (.mp id))),.w (.one (.a (.v (.int j n))))=>(X.und kt).bind fun dk=>match dk with
     | .int _=>(lookMap s.S id).bind fun p=>(findMap (.int j n) p.1 0).map fun r=>match r with
      | some q=>(some (.tup []),setS s id (some (.map (eraseAt p.1 q.1) p.2)))
      | none=>(some (.tup []),s)
     | _=>none
    | _,_,_=>none
   | _,_=>none
  | _=>none
def eCall (X:Cx σ) (call:FuncId→List AV→St σ→Option (AV×St σ)) (f:Operand) (args:Array Operand) (ρ:Operand→Option AV) (s:St σ):Option (Option AV×St σ):=(ρ f).bind fun f=>(mapO ρ args.toList).bind fun l=>match f with
  | .w (.one (.fn (.func g) fi ca))=>(X.fn g).bind fun _=>(call g (fi.map Ar.av ++ (l ++ ca.map Ar.av)) s).map fun r=>(some r.1,r.2)
  | _=>none
def ope (X:Cx σ) (call:FuncId→List AV→St σ→Option (AV×St σ)) (o:Oper) (ρ:Operand→Option AV) (s:St σ):Option (Option AV×St σ) :=
 match o.op with
 | .store t a x=>eStore X t a x ρ s
 | .convert src dst x=>eConvert X src dst x ρ s
 | .mapUpdate t m k x=>eMapUpdate X t m k x ρ s
 | .call { callee:=.builtin b,args,argTypes }=>eBuiltin X b args argTypes ρ s
 | .call { callee:=.value f,args,.. }=>eCall X call f args ρ s
 | _=>none
def evO (X:Cx σ) (F:Fr):Operand→Option AV
 | .tmp t=>F.t.get t
 | .const v=>(v1Of v).map .w
 | .global g=>gd (Nat.blt g X.ng) (some (one (.ptr g 0)))
 | .func f=>some (.w (.one (.fn (.func f) [] [])))
def putF (F:Fr) (d:Option Tmp) (v:Option AV):Fr:=match d with
 | none=>F
 | some d=>match Nat.blt d F.nt with
  | true=>{ F with t:=F.t.set d v }
  | false=>F
def wantF (ops:List Oper) (F:Fr) (o:Oper):Option Bool:=match o.guard with
 | none=>some true
 | some (j,want)=>match (ops[j]?).bind (·.dst) with
  | none=>some false
  | some d=>match F.t.get d with
   | some (.w (.one (.a (.v (.bool b)))))=>some (match want with | true=>b | false=>!b)
   | some (.tup [])=>some false
   | _=>none
def ev1 (X:Cx σ) (call:FuncId→List AV→St σ→Option (AV×St σ)) (ops:List Oper) (o:Oper) (F:Fr) (s:St σ):Option (Fr×St σ) :=
 (wantF ops F o).bind fun b=>match b with
  | false=>some (putF F o.dst (some (.tup [])),s)
  | true=>match kdOf X o with
   | .q=>(opq X o (evO X F) s.S).map fun v=>(putF F o.dst (some v),s)
   | .a=>(opa X o (evO X F) s.S s.c).map fun r=>(putF F o.dst (some r.1),newS s r.2)
   | .e=>(ope X call o (evO X F) s).map fun r=>(putF F o.dst r.1,r.2)
def evOps (X:Cx σ) (call:FuncId→List AV→St σ→Option (AV×St σ)) (ops:List Oper):List Oper→Fr→St σ→Option (Fr×St σ)
 | [],F,s=>some (F,s)
 | o :: l,F,s=>(ev1 X call ops o F s).bind fun r=>evOps X call ops l r.1 r.2
inductive Ex where
 | normal
 | exit (id:Nat)
 | ret
def evRes (X:Cx σ) (F:Fr) (S:Tr Ob):List ResultVar→Option (List AV)
 | []=>some []
 | .tmp t :: l=>(F.t.get t).bind fun v=>(evRes X F S l).map (v :: ·)
 | .cell a t :: l=>(X.und t).bind fun d=>(X.inf t).bind fun i=>(F.t.get a).bind fun v=>match v with
  | .w (.one (.a (.ptr id off)))=>(look S id).bind fun row=>((cut row off (match aggD d with | true=>i.size | false=>1)).bind (ofCells d)).bind fun v=>(evRes X F S l).map (v :: ·)
  | _=>none
def v1s:List AV→Option (List V1)
 | []=>some []
 | .w x :: l=>(v1s l).map (x :: ·)
 | .tup _ :: _=>none
def resOf:List AV→Option AV
 | [v]=>some v
 | l=>(v1s l).map .tup
def argF:List AV→Nat→Tr AV→Tr AV
 | [],_,t=>t
 | v :: l,i,t=>argF l (i + 1) (t.set i (some v))
end
end Go.Proofs.YtijegngfclkdaaaGreatDoor.Ev
