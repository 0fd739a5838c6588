/-
  Piece 1 of the proof.
  Conditions: none.
-/
import Derived.OrdersHeld
import Derived.WalkKit
import Derived.LoopN
import Derived.Scope
import Derived.Test.YtijegngfclkdaaaGreatDoorQ00
set_option linter.unusedVariables false
set_option linter.unusedSimpArgs false
set_option maxHeartbeats 100000000
set_option maxRecDepth 100000
namespace Go.Proofs.YtijegngfclkdaaaGreatDoor
namespace Ev
open Go
noncomputable section
inductive Tr (α:Type) where
 | e
 | n (l:Tr α) (v:Option α) (r:Tr α)
namespace Tr
variable {α:Type}
def get (t:Tr α):Nat->Option α :=
 Tr.rec (motive:=fun _=>Nat->Option α) (fun _=>none)
  (fun _ v _ gl gr i=>Nat.casesOn (motive:=fun _=>Option α) i v fun k=>Bool.rec (motive:=fun _=>Option α) (gr (k / 2)) (gl (k / 2)) (Nat.beq (k % 2) 0)) t
def single (d:Nat):Nat->Option α->Tr α :=
 Nat.rec (motive:=fun _=>Nat->Option α->Tr α) (fun _ _=>.e)
  (fun _ ih i x=>Nat.casesOn (motive:=fun _=>Tr α) i (.n .e x .e) fun k=>Bool.rec (motive:=fun _=>Tr α) (.n .e none (ih (k / 2) x)) (.n (ih (k / 2) x) none .e) (Nat.beq (k % 2) 0)) d
def set (t:Tr α) (i:Nat) (x:Option α):Tr α :=
 Tr.rec (motive:=fun _=>Nat->Tr α) (fun i=>single (i + 1) i x)
  (fun l v r pl pr i=>Nat.casesOn (motive:=fun _=>Tr α) i (.n l x r) fun k=>Bool.rec (motive:=fun _=>Tr α) (.n l v (pr (k / 2))) (.n (pl (k / 2)) v r) (Nat.beq (k % 2) 0)) t i
theorem vE {β:Type} (a b:β) (c:Bool):Bool.rec (motive:=fun _=>β) a b c=if c=true then b else a:=by cases c <;> rfl
theorem vz (i:Nat):(e:Tr α).get i=none:=rfl
theorem mM (l:Tr α) (v:Option α) (r:Tr α) (i:Nat):(n l v r).get i=if i=0 then v else if (i - 1) % 2=0 then l.get ((i - 1) / 2) else r.get ((i - 1) / 2):=by
 cases i with
 | zero=>rfl
 | succ k =>
  rw [if_neg (by omega),Nat.add_sub_cancel];show Bool.rec (motive:=fun _=>Option α) (r.get (k / 2)) (l.get (k / 2)) (Nat.beq (k % 2) 0)=_;rw [vE]
  by_cases h:k % 2=0
  ·rw [if_pos h,if_pos (by rw [h]; rfl)]
  ·rw [if_neg h,if_neg (fun hh=>h (Nat.eq_of_beq_eq_true hh))]
theorem uM (k j:Nat) (l r l' r':Tr α) (v x:Option α) (hl:∀ m,l'.get m=if m=k / 2 then x else l.get m) (hr:∀ m,r'.get m=if m=k / 2 then x else r.get m) :
  (Bool.rec (motive:=fun _=>Tr α) (n l v r') (n l' v r) (Nat.beq (k % 2) 0)).get j=if j=k + 1 then x else (n l v r).get j:=by
 rw [vE]
 by_cases h:k % 2=0
 ·rw [if_pos (by rw [h]; rfl),mM,mM]
  by_cases hj0:j=0
  ·subst hj0; simp
  ·rw [if_neg hj0,if_neg hj0]
   by_cases hj2:(j - 1) % 2=0
   ·rw [if_pos hj2,if_pos hj2,hl]
    by_cases e:j=k + 1
    ·subst e; simp
    ·rw [if_neg e,if_neg (by omega)]
   ·rw [if_neg hj2,if_neg hj2,if_neg (by omega)]
 ·rw [if_neg (fun hh=>h (Nat.eq_of_beq_eq_true hh)),mM,mM]
  by_cases hj0:j=0
  ·subst hj0; simp
  ·rw [if_neg hj0,if_neg hj0]
   by_cases hj2:(j - 1) % 2=0
   ·rw [if_pos hj2,if_pos hj2,if_neg (by omega)]
   ·rw [if_neg hj2,if_neg hj2,hr]
    by_cases e:j=k + 1
    ·subst e; simp
    ·rw [if_neg e,if_neg (by omega)]
theorem pf:∀ (d i:Nat) (x:Option α) (j:Nat),i < d->(single d i x).get j=if j=i then x else none
 | 0,i,_,_,h=>absurd h (Nat.not_lt_zero i)
 | d + 1,0,x,j,_=>by
  show (n e x e:Tr α).get j=_;rw [mM]
  by_cases hj:j=0 <;> simp [hj,vz]
 | d + 1,k + 1,x,j,h=>by
  have ih:=fun m=>pf d (k / 2) x m (by omega)
  refine (uM k j e e (single d (k / 2) x) (single d (k / 2) x) none x (fun m=>by rw [ih m,vz]) (fun m=>by rw [ih m,vz])).trans ?_
  by_cases e:j=k + 1
  ·rw [if_pos e,if_pos e]
  ·rw [if_neg e,if_neg e,mM,vz]
   simp [vz]
theorem dI (t:Tr α):∀ (i:Nat) (x:Option α) (j:Nat),(t.set i x).get j=if j=i then x else t.get j:=by
 induction t with
 | e=>intro i x j; exact pf (i + 1) i x j (Nat.lt_succ_self i)
 | n l v r ihl ihr =>
  intro i x j;cases i with
  | zero =>
   show (n l x r).get j=_;rw [mM,mM]
   by_cases hj:j=0 <;> simp [hj]
  | succ k=>exact uM k j l r (l.set (k / 2) x) (r.set (k / 2) x) v x (fun m=>ihl _ _ _) (fun m=>ihr _ _ _)
end Tr
inductive At where
 | v (x:Value)
 | ptr (id off:Nat)
 | sl (id off len:Nat) (cap:Option Nat) (ez:Nat)
 | mp (id:Nat)
 | sym (k:Nat)
 | op (k:Nat)
 | top
inductive Ar where
 | one (x:At)
 | agg (l:List At)
inductive Ce where
 | a (x:At)
 | fn (f:Fn) (fi ca:List Ar)
inductive V1 where
 | one (c:Ce)
 | agg (l:List Ce)
inductive AV where
 | w (x:V1)
 | nN (l:List V1)
inductive Ob where
 | row (l:List Ce) (ty:TypeId)
 | map (es:List MapEntry) (clock:Nat)
structure St (σ:Type) where
 c:Nat
 S:Tr Ob
 g:σ
structure Fr where
 nt:Nat
 t:Tr AV
def gd {α:Type} (b:Bool) (x:Option α):Option α:=match b with | true=>x | false=>none
theorem aE {α:Type} {b:Bool} {x:Option α} {y:α}:gd b x=some y↔b=true/\x=some y:=by cases b <;> simp [gd]
def jG {α:Type} (P:Program):Sem α->Option α
 | .pure a=>some a
 | .program k=>jG P (k P)
 | .mark _ k=>jG P k
 | .load .. | .store .. | .new .. | .shape .. | .freeze .. | .frozen .. | .getObj .. | .setObj .. | .choose .. | .sys .. | .halt _=>none
theorem tH {α:Type} {P:Program} {s:Sem α} {a:α} (h:jG P s=some a) (w:World):s.run P w=.ok a w:=by
 induction s generalizing w with
 | pure x=>simp only [jG] at h; injection h with h; subst h; rfl
 | program k ih=>simp only [jG] at h; exact ih P h w
 | mark m k ih=>simp only [jG] at h; exact ih h w
 | _=>simp [jG] at h
def JC (x:Value):Option At:=match x with
 | .agg _ | .tuple _=>none
 | x=>some (.v x)
def i_:List Value->Option (List Ce)
 | []=>some []
 | x :: l=>(JC x).bind fun a=>(i_ l).bind fun r=>some (.a a :: r)
def lS (x:Value):Option V1:=match x with
 | .agg cs=>(i_ cs.toList).map .agg
 | x=>(JC x).map fun a=>.one (.a a)
def kF:List Ce->Option (List Value)
 | []=>some []
 | .a (.v x) :: l=>(kF l).map (x :: ·)
 | _ :: _=>none
def plain:AV->Option Value
 | .w (.one (.a (.v x)))=>some x
 | .w (.agg l)=>(kF l).map fun vs=>.agg vs.toArray
 | _=>none
def cells:AV->Option (List Ce)
 | .w (.one c)=>some [c]
 | .w (.agg l)=>some l
 | .nN _=>none
def rV:TypeDesc->Bool
 | .struct _ | .array _ _=>true
 | _=>false
structure TI where
 size:Nat
 bytes:Nat
 zero:Value
def TI.zc (i:TI):List Value:=i.zero.cells.toList
structure FI where
 body:Code
 nt:Nat
 res:List ResultVar
 pl:List (Nat×List Nat×List Nat)
structure Cx (σ:Type) where
 P:Program
 und:TypeId->Option TypeDesc
 inf:TypeId->Option TI
 fn:FuncId->Option FI
 ng:Nat
 gg:FuncId->List AV->St σ->Option (AV×St σ)
variable {σ:Type}
def iD (d:TypeDesc) (l:List Ce):Option AV:=match rV d with
 | true=>some (.w (.agg l))
 | false=>match l with
  | [c]=>some (.w (.one c))
  | _=>none
def look (S:Tr Ob) (id:Nat):Option (List Ce):=match S.get id with
 | some (.row l _)=>some l
 | _=>none
def cut:List Ce->Nat->Nat->Option (List Ce)
 | _,0,0=>some []
 | [],0,_ + 1=>none
 | c :: l,0,k + 1=>(cut l 0 k).map (c :: ·)
 | [],_ + 1,_=>none
 | _ :: l,o + 1,k=>cut l o k
def lay:List Ce->Nat->List Ce->Option (List Ce)
 | l,0,[]=>some l
 | [],0,_ :: _=>none
 | _ :: l,0,x :: xs=>(lay l 0 xs).map (x :: ·)
 | [],_ + 1,_=>none
 | c :: l,o + 1,xs=>(lay l o xs).map (c :: ·)
def lH:AV->Option Nat
 | .w (.one (.a (.v (.int _ (.ofNat n)))))=>some n
 | _=>none
def isNil:Value->Bool
 | .pointer none | .slice none _ _ | .map none | .nilFunc=>true
 | _=>false
def nB (d:TypeDesc) (x:AV):Bool:=match d,x with
 | .pointer _,.w (.one (.a (.ptr ..))) | .pointer _,.w (.one (.a (.op _))) | .slice _,.w (.one (.a (.sl ..))) | .map _ _,.w (.one (.a (.mp _))) | .func _ _ _,.w (.one (.fn ..))=>true
 | _,_=>false
def dG (d:TypeDesc) (x:Value):Bool:=match d,x with
 | .pointer _,.pointer none | .slice _,.slice none _ _ | .map _ _,.map none | .func _ _ _,.nilFunc=>true
 | _,_=>false
def Ph:List Ce->Option (List At)
 | []=>some []
 | .a x :: l=>(Ph l).map (x :: ·)
 | _ :: _=>none
def pP:List AV->Option (List Ar)
 | []=>some []
 | .w (.one (.a x)) :: l=>(pP l).map (.one x :: ·)
 | .w (.agg cs) :: l=>(Ph cs).bind fun c=>(pP l).map (.agg c :: ·)
 | _ :: _=>none
def Ar.av:Ar->AV
 | .one x=>.w (.one (.a x))
 | .agg l=>.w (.agg (l.map .a))
def gk {α β:Type} (f:α->Option β):List α->Option (List β)
 | []=>some []
 | x :: l=>(f x).bind fun y=>(gk f l).bind fun r=>some (y :: r)
def one (x:At):AV:=.w (.one (.a x))
def BC (n:Nat):AV:=one (.v (.int .i64 n))
def jS (place:Nat->Option (Nat×Nat)) (cs:List Ce):List (Nat×List Ce)->Option (List Ce)
 | []=>some cs
 | (i,v) :: rest=>(place i).bind fun (off,size)=>gd (Nat.beq v.length size) ((lay cs off v).bind fun cs'=>jS place cs' rest)
def Ha (X:Cx σ):List Field->Nat->Option (Nat×Nat)
 | [],_=>none
 | f :: _,0=>(X.inf f.type).map fun i=>(f.offset,i.size)
 | _ :: l,i + 1=>Ha X l i
def rep (l:List Ce):Nat->List Ce
 | 0=>[]
 | n + 1=>l ++ rep l n
end
end Ev
namespace Ev
open Go
noncomputable section
variable {σ:Type}
def kn:IntKind->Nat
 | .i8=>0
 | .i16=>1
 | .i32=>2
 | .i64=>3
 | .u8=>4
 | .u16=>5
 | .u32=>6
 | .u64=>7
def QE:IntKind->Nat
 | .i8=>127
 | .i16=>32767
 | .i32=>2147483647
 | .i64=>9223372036854775807
 | .u8=>255
 | .u16=>65535
 | .u32=>4294967295
 | .u64=>18446744073709551615
def qU (k:IntKind) (n:Int):Int:=match n with
 | .ofNat m=>match Nat.ble m (QE k) with
  | true=>n
  | false=>k.wrap n
 | .negSucc _=>k.wrap n
def TC:Int->Int->Bool
 | .ofNat a,.ofNat b=>Nat.beq a b
 | .negSucc a,.negSucc b=>Nat.beq a b
 | _,_=>false
def Pk:Int->Int->Bool
 | .ofNat a,.ofNat b=>Nat.ble a b
 | .negSucc a,.negSucc b=>Nat.ble b a
 | .negSucc _,.ofNat _=>true
 | .ofNat _,.negSucc _=>false
def Ht (op:BinOp) (k:IntKind) (a b:Int):Option Value:=match op with
 | .add=>some (.int k (qU k (Int.add a b)))
 | .sub=>some (.int k (qU k (Int.sub a b)))
 | .eql=>some (.bool (TC a b))
 | .neq=>some (.bool (!TC a b))
 | .lss=>some (.bool (!Pk b a))
 | .leq=>some (.bool (Pk a b))
 | .gtr=>some (.bool (!Pk a b))
 | .geq=>some (.bool (Pk b a))
 | _=>none
def lf (op:BinOp) (u v:Value):Option Value:=match u with
 | .int j a=>match v with
  | .int k b=>match Nat.beq (kn j) (kn k) with
   | true=>Ht op j a b
   | false=>none
  | _=>none
 | _=>none
def GN (X:Cx σ) (op:BinOp) (t:TypeId) (x y:Operand) (a b:AV):Option AV :=
 match plain a,plain b with
 | some u,some v=>match lf op u v with
  | some r=>some (one (.v r))
  | none=>(jG X.P (do eqGuard op t x y u v; binOp op t u v)).bind fun r=>(lS r).map .w
 | none,some v=>(X.und t).bind fun d=>gd (nB d a && dG d v) (match op with
  | .eql=>some (one (.v (.bool false)))
  | .neq=>some (one (.v (.bool true)))
  | _=>none)
 | some u,none=>(X.und t).bind fun d=>gd (nB d b && dG d u) (match op with
  | .eql=>some (one (.v (.bool false)))
  | .neq=>some (one (.v (.bool true)))
  | _=>none)
 | none,none=>none
def lY:List Ce->Option (List UInt8)
 | []=>some []
 | .a (.v (.int .u8 (.ofNat n))) :: l=>gd (Nat.blt n 256) ((lY l).map (UInt8.ofNat n :: ·))
 | _ :: _=>none
def y_ (X:Cx σ) (t:TypeId) (l:List Ce) (off:Nat):Option AV :=
 (X.und t).bind fun d=>(X.inf t).bind fun i=>match rV d with
  | true=>(cut l off i.size).map fun cs=>.w (.agg cs)
  | false=>(cut l off 1).bind (iD d)
def dp (dflt:Nat) (ρ:Operand->Option AV):Option Operand->Option Nat
 | none=>some dflt
 | some x=>(ρ x).bind lH
def cT (k:Value):List MapEntry->Nat->Option (Option (Nat×Value))
 | [],_=>some none
 | e :: es,i=>match k,e.key with
  | .int j a,.int j' b=>gd (decide (j=j')) (match a == b with
   | true=>some (some (i,e.val))
   | false=>cT k es (i + 1))
  | _,_=>none
def jD (S:Tr Ob) (id:Nat):Option (List MapEntry×Nat):=match S.get id with
 | some (.map es c)=>some (es,c)
 | _=>none
def Hz (X:Cx σ) (t:TypeId) (v:AV) (S:Tr Ob):Option AV:=(X.und t).bind fun d=>match d with
 | .array n _=>some (BC n)
 | .pointer e=>(X.und e).bind fun d=>match d with
  | .array n _=>some (BC n)
  | _=>none
 | .slice _=>match v with
  | .w (.one (.a (.sl _ _ n _ _)))=>some (BC n)
  | _=>none
 | .map _ _=>match v with
  | .w (.one (.a (.mp id)))=>(jD S id).map fun p=>BC p.1.length
  | _=>none
 | _=>none
def CP (ρ:Operand->Option AV):Option Operand->Option (Option Value)
 | none=>some none
 | some x=>((ρ x).bind plain).map some
def within (m len:Nat) (cp:Option Nat):Bool:=Nat.ble m len || (match cp with
 | some k=>Nat.ble m k
 | none=>false)
def QG (q:Option (Nat×Value)) (z:Value):Value:=match q with
 | some q=>q.2
 | none=>z
def wK (X:Cx σ) (d:TypeDesc) (z:List Ce) (ps:List (Nat×List Ce)):Option AV:=match d with
 | .struct fs=>(gk (fun f:Field=>(X.inf f.type).map fun i=>(f.offset,i.size)) fs.toList).bind fun pl=>(jS (fun i=>pl[i]?) z ps).map fun l=>.w (.agg l)
 | .array _ e=>(X.inf e).bind fun ie=>(jS (fun i=>some (i * ie.size,ie.size)) z ps).map fun l=>.w (.agg l)
 | _=>none
def e9 (X:Cx σ) (c a b:Operand) (ρ:Operand->Option AV) (S:Tr Ob):Option AV:=(ρ c).bind fun v=>match v with
  | .w (.one (.a (.v (.bool t))))=>(ρ a).bind fun u=>(ρ b).bind fun v=>match t with
   | true=>some u
   | false=>some v
  | _=>none
def dh (X:Cx σ) (t:TypeId) (parts:Array (Nat×Operand)) (ρ:Operand->Option AV) (S:Tr Ob):Option AV:=(X.und t).bind fun d=>(X.inf t).bind fun i=>(i_ i.zc).bind fun z =>
  (gk (fun p:Nat×Operand=>(ρ p.2).bind fun v=>(cells v).map fun l=>(p.1,l)) parts.toList).bind fun ps =>
  wK X d z ps
def eV (X:Cx σ) (t:TypeId) (a:Operand) (ρ:Operand->Option AV) (S:Tr Ob):Option AV:=(X.und t).bind fun d=>(X.inf t).bind fun i=>(ρ a).bind fun v=>match v with
  | .w (.one (.a (.ptr id off)))=>(look S id).bind fun l=>(cut l off (match rV d with | true=>i.size | false=>1)).bind (iD d)
  | _=>none
def bH (X:Cx σ) (x:Operand) (ρ:Operand->Option AV) (S:Tr Ob):Option AV:=(ρ x).bind fun v=>match v with
  | .w (.one (.a (.ptr ..))) | .w (.one (.a (.sl ..))) | .w (.one (.a (.mp _))) | .w (.one (.a (.op _))) | .w (.one (.fn (.func _) _ _))=>some v
  | _=>none
def cX (X:Cx σ) (op:BinOp) (t:TypeId) (x y:Operand) (ρ:Operand->Option AV) (S:Tr Ob):Option AV:=(ρ x).bind fun a=>(ρ y).bind fun b=>GN X op t x y a b
def fa (X:Cx σ) (op:UnOp) (x:Operand) (ρ:Operand->Option AV) (S:Tr Ob):Option AV:=(ρ x).bind fun a=>(plain a).bind fun u=>(jG X.P (Op.unary op u)).bind fun r=>(lS r).map .w
def bR (X:Cx σ) (src dst:TypeId) (x:Operand) (ρ:Operand->Option AV) (S:Tr Ob):Option AV:=(ρ x).bind fun a=>match plain a with
  | some u=>(jG X.P (convert src dst u)).bind fun r=>(lS r).map .w
  | none=>match a with
   | .w (.one (.a (.sl id off len _ ez)))=>(X.und src).bind fun ds=>(X.und dst).bind fun dd=>match ds,dd with
    | .slice e,.string=>(X.und e).bind fun de=>match de with
     | .int .u8=>gd (Nat.beq ez 1) ((look S id).bind fun l=>(cut l off len).bind fun cs=>(lY cs).map fun bs=>one (.v (.string ⟨bs.toArray⟩)))
     | _=>none
    | _,_=>none
   | _=>none
def dj (X:Cx σ) (t:TypeId) (x:Operand) (f:Nat) (ρ:Operand->Option AV) (S:Tr Ob):Option AV:=(X.und t).bind fun d=>(ρ x).bind fun v=>match d,v with
  | .struct fs,.w (.agg l)=>(fs[f]?).bind fun fd=>y_ X fd.type l fd.offset
  | _,_=>none
def bo (X:Cx σ) (t:TypeId) (x:Operand) (f:Nat) (ρ:Operand->Option AV) (S:Tr Ob):Option AV:=(X.und t).bind fun d=>(ρ x).bind fun v=>match d,v with
  | .struct fs,.w (.one (.a (.ptr id off)))=>(fs[f]?).bind fun fd=>(X.inf fd.type).bind fun i=>gd (Nat.ble 1 i.size) (some (one (.ptr id (off + fd.offset))))
  | _,_=>none
def bk (X:Cx σ) (t:TypeId) (x ix:Operand) (ρ:Operand->Option AV) (S:Tr Ob):Option AV:=(X.und t).bind fun d=>(ρ x).bind fun v=>(ρ ix).bind fun k=>(lH k).bind fun i=>match d,v with
  | .array n e,.w (.one (.a (.ptr id off)))=>(X.inf e).bind fun ie=>gd (Nat.blt i n) (some (one (.ptr id (off + i * ie.size))))
  | .slice e,.w (.one (.a (.sl id off len _ ez)))=>(X.inf e).bind fun ie=>gd (Nat.blt i len && Nat.beq ez ie.size) (some (one (.ptr id (off + i * ie.size))))
  | _,_=>none
def da (X:Cx σ) (t:TypeId) (x ix:Operand) (ρ:Operand->Option AV) (S:Tr Ob):Option AV:=(ρ x).bind fun v=>(ρ ix).bind fun k=>match v with
  | .w (.agg l)=>(X.und t).bind fun d=>(lH k).bind fun i=>match d with
   | .array n e=>(X.inf e).bind fun ie=>gd (Nat.blt i n) (y_ X e l (i * ie.size))
   | _=>none
  | _=>(plain v).bind fun u=>(plain k).bind fun j=>(jG X.P (Instr.index t u j)).bind fun r=>(lS r).map .w
def cZ (X:Cx σ) (t:TypeId) (x:Operand) (lo hi mx:Option Operand) (ρ:Operand->Option AV) (S:Tr Ob):Option AV:=(ρ x).bind fun v=>match v with
  | .w (.one (.a (.sl id off len cp ez)))=>(X.und t).bind fun d=>match d with
   | .slice e=>(X.inf e).bind fun ie=>gd (Nat.beq ez ie.size) (
    (dp 0 ρ lo).bind fun l=>(dp len ρ hi).bind fun h=>match mx with
     | none=>gd (Nat.ble l h && within h len cp) (some (one (.sl id (off + l * ez) (h - l) (cp.map (· - l)) ez)))
     | some _=>(dp 0 ρ mx).bind fun m=>gd (Nat.ble l h && Nat.ble h m && within m len cp && hi.isSome) (some (one (.sl id (off + l * ez) (h - l) (some (m - l)) ez))))
   | _=>none
  | .w (.one (.a (.ptr id off)))=>(X.und t).bind fun d=>match d with
   | .array n e=>(X.inf e).bind fun ie=>(look S id).bind fun row=>gd (Nat.ble (off + n * ie.size) row.length) (
    (dp 0 ρ lo).bind fun l=>(dp n ρ hi).bind fun h=>match mx with
     | none=>gd (Nat.ble l h && Nat.ble h n) (some (one (.sl id (off + l * ie.size) (h - l) (some (n - l)) ie.size)))
     | some _=>none)
   | _=>none
  | _=>(plain v).bind fun u=>(CP ρ lo).bind fun l=>(CP ρ hi).bind fun h=>(CP ρ mx).bind fun m=>(jG X.P (Instr.sliceAt t u l h m)).bind fun r=>(lS r).map .w
def bP (X:Cx σ) (x:Operand) (ix:Nat) (ρ:Operand->Option AV) (S:Tr Ob):Option AV:=(ρ x).bind fun v=>match v with
  | .nN l=>(l[ix]?).map .w
  | _=>none
def bG (X:Cx σ) (f:Fn) (fi ca:Array Operand) (ρ:Operand->Option AV) (S:Tr Ob):Option AV:=(gk ρ fi.toList).bind fun a=>(gk ρ ca.toList).bind fun b=>(pP a).bind fun a=>(pP b).map fun b=>.w (.one (.fn f a b))
def cB (X:Cx σ) (t:TypeId) (x ix:Operand) (ok:Bool) (ρ:Operand->Option AV) (S:Tr Ob):Option AV:=(X.und t).bind fun d=>(ρ x).bind fun v=>(ρ ix).bind fun k=>match d,v,k with
  | .map kt et,.w (.one (.a (.mp id))),.w (.one (.a (.v (.int j n))))=>(X.und kt).bind fun dk=>(X.inf et).bind fun ie=>(jD S id).bind fun p=>match dk with
   | .int _=>(cT (.int j n) p.1 0).bind fun r=>(lS (QG r ie.zero)).bind fun y=>match ok with
    | false=>some (.w y)
    | true=>some (.nN [y,.one (.a (.v (.bool r.isSome)))])
   | _=>none
  | _,_,_=>none
def dQ (X:Cx σ) (b:Builtin) (args:Array Operand) (argTypes:Array TypeId) (ty:TypeId) (ρ:Operand->Option AV) (S:Tr Ob):Option AV:=match b with
  | .len=>match argTypes.toList,args.toList with
   | t :: _,[x]=>(ρ x).bind fun v=>match plain v with
    | some u=>(jG X.P (Builtin.len_ argTypes ty #[u])).bind fun r=>(lS r).map .w
    | none=>Hz X t v S
   | _,_=>none
  | .min=>(gk (fun x=>(ρ x).bind plain) args.toList).bind fun l=>(jG X.P (Builtin.min_ argTypes ty l.toArray)).bind fun r=>(lS r).map .w
  | .max=>(gk (fun x=>(ρ x).bind plain) args.toList).bind fun l=>(jG X.P (Builtin.max_ argTypes ty l.toArray)).bind fun r=>(lS r).map .w
  | _=>none
def mP (X:Cx σ) (o:Oper) (ρ:Operand->Option AV) (S:Tr Ob):Option AV :=
 match o.op with
 | .move x | .assign x=>ρ x
 | .pick c a b=>e9 X c a b ρ S
 | .build t parts=>dh X t parts ρ S
 | .load t a=>eV X t a ρ S
 | .nilCheck x=>bH X x ρ S
 | .binOp op t x y _=>cX X op t x y ρ S
 | .unOp op _ x=>fa X op x ρ S
 | .convert src dst x=>bR X src dst x ρ S
 | .field t x f=>dj X t x f ρ S
 | .fieldAddr t x f=>bo X t x f ρ S
 | .indexAddr t x ix=>bk X t x ix ρ S
 | .index t x ix=>da X t x ix ρ S
 | .slice t x lo hi mx=>cZ X t x lo hi mx ρ S
 | .extract x ix=>bP X x ix ρ S
 | .makeFunc f fi ca=>bG X f fi ca ρ S
 | .lookup t x ix ok=>cB X t x ix ok ρ S
 | .call { callee:=.builtin b,args,argTypes }=>dQ X b args argTypes o.type ρ S
 | _=>none
def jj (S:Tr Ob) (size:Nat) (v:AV):Option (Nat×List Ce):=match v with
 | .w (.one (.a (.v (.slice none 0 0))))=>some (0,[])
 | .w (.one (.a (.v (.string s))))=>gd (Nat.beq size 1) (some (s.size,s.data.toList.map fun b=>.a (.v (.int .u8 b.toNat))))
 | .w (.one (.a (.sl id off n _ ez)))=>gd (Nat.beq ez size) ((look S id).bind fun l=>(cut l off (n * size)).map fun cs=>(n,cs))
 | _=>none
def cK (X:Cx σ) (t:TypeId) (n:Nat) (parts:Array (Nat×Operand)) (ρ:Operand->Option AV) (S:Tr Ob) (c:Nat):Option (AV×Option Ob):=(X.und t).bind fun d=>match d with
  | .slice e=>(X.inf e).bind fun ie=>gd (Nat.ble (n * ie.size) 65536) ((i_ ie.zc).bind fun z =>
   (gk (fun p:Nat×Operand=>(ρ p.2).bind fun v=>(cells v).map fun l=>(p.1,l)) parts.toList).bind fun ps =>
   (jS (fun i=>some (i * ie.size,ie.size)) (rep z n) ps).map fun l=>(one (.sl c 0 n (some n) ie.size),some (.row l e)))
  | _=>none
def di (X:Cx σ) (t:TypeId) (l k:Operand) (ρ:Operand->Option AV) (S:Tr Ob) (c:Nat):Option (AV×Option Ob):=(X.und t).bind fun d=>match d with
  | .slice e=>(X.inf e).bind fun ie=>(i_ ie.zc).bind fun z=>(ρ l).bind fun l=>(ρ k).bind fun k=>(lH l).bind fun l=>(lH k).bind fun k =>
   gd (Nat.ble l k && Nat.ble k 65536 && Nat.ble ie.bytes 65536) (some (one (.sl c 0 l (some k) ie.size),some (.row (rep z k) e)))
  | _=>none
def e_ (X:Cx σ) (src dst:TypeId) (x:Operand) (ρ:Operand->Option AV) (S:Tr Ob) (c:Nat):Option (AV×Option Ob):=(X.und src).bind fun ds=>(X.und dst).bind fun dd=>(ρ x).bind fun v=>match ds,dd,v with
  | .string,.slice e,.w (.one (.a (.v (.string s))))=>(X.und e).bind fun de=>match de with
   | .int .u8=>gd (Nat.ble s.size 65536) (some (one (.sl c 0 s.size none 1),some (.row (s.data.toList.map fun b=>.a (.v (.int .u8 b.toNat))) e)))
   | _=>none
  | _,_,_=>none
def vh (X:Cx σ) (args:Array Operand) (argTypes:Array TypeId) (ρ:Operand->Option AV) (S:Tr Ob) (c:Nat):Option (AV×Option Ob):=match argTypes.toList,args.toList with
  | [t,u],[.const (.slice none 0 0),x]=>(X.und t).bind fun d=>(X.und u).bind fun du=>match d,du with
   | _,.int _=>none
   | .slice e,_=>(X.inf e).bind fun ie=>(ρ x).bind fun v=>(jj S ie.size v).bind fun p=>match p.1 with
    | 0=>some (one (.v (.slice none 0 0)),none)
    | _ + 1=>gd (Nat.ble p.1 65536 && Nat.ble ie.bytes 65536) (some (one (.sl c 0 p.1 none ie.size),some (.row p.2 e)))
   | _,_=>none
  | _,_=>none
def qb (X:Cx σ) (o:Oper) (ρ:Operand->Option AV) (S:Tr Ob) (c:Nat):Option (AV×Option Ob) :=
 match o.op with
 | .alloc t=>(X.inf t).bind fun i=>(i_ i.zc).map fun z=>(one (.ptr c 0),some (.row z t))
 | .box t x=>(ρ x).bind fun v=>(cells v).map fun l=>(one (.ptr c 0),some (.row l t))
 | .buildSlice t n parts=>cK X t n parts ρ S c
 | .makeMap t none=>some (one (.mp c),some (.map [] 0))
 | .makeSlice t l k=>di X t l k ρ S c
 | .convert src dst x=>e_ X src dst x ρ S c
 | .call { callee:=.builtin .append,args,argTypes }=>vh X args argTypes ρ S c
 | _=>none
inductive Kd where
 | q
 | a
 | e
def Bd (X:Cx σ) (o:Oper):Kd:=match o.op with
 | .move _ | .assign _ | .pick .. | .build .. | .load .. | .nilCheck _ | .binOp .. | .unOp .. | .field .. | .fieldAddr .. | .indexAddr .. | .index .. | .slice .. | .extract .. | .makeFunc .. | .lookup ..=>.q
 | .convert src dst _=>match X.und src,X.und dst with
  | some .string,some (.slice _)=>.a
  | some (.slice _),some (.slice _)=>.e
  | _,_=>.q
 | .alloc _ | .box .. | .buildSlice .. | .makeMap .. | .makeSlice ..=>.a
 | .call { callee:=.builtin .len,.. } | .call { callee:=.builtin .min,.. } | .call { callee:=.builtin .max,.. }=>.q
 | .call { callee:=.builtin .append,args,.. }=>match args.toList with
  | (.const (.slice none 0 0)) :: _=>.a
  | _=>.e
 | _=>.e
def dM (s:St σ) (id:Nat) (o:Option Ob):St σ:={ s with S:=s.S.set id o }
def bp (s:St σ) (o:Option Ob):St σ:=match o with
 | none=>s
 | some o=>{ s with c:=s.c + 1,S:=s.S.set s.c (some o) }
def jt:List MapEntry->Nat->List MapEntry
 | [],_=>[]
 | _ :: l,0=>l
 | e :: l,i + 1=>e :: jt l i
def kG (v:Value):List MapEntry->Nat->List MapEntry
 | [],_=>[]
 | e :: l,0=>{ e with val:=v } :: l
 | e :: l,i + 1=>e :: kG v l i
def isInt:TypeDesc->Bool
 | .int _=>true
 | _=>false
def Es (X:Cx σ) (du:TypeDesc) (ie:TI) (S:Tr Ob) (b:AV):Option (Nat×List Ce):=match isInt du with
 | true=>(lH b).bind fun n=>gd (Nat.ble n 65536) ((i_ ie.zc).map fun z=>(n,rep z n))
 | false=>jj S ie.size b
def tL (X:Cx σ) (t u:TypeId) (a b:AV) (s:St σ):Option (AV×St σ) :=
 (X.und t).bind fun d=>(X.und u).bind fun du=>match d with
 | .slice e=>(X.inf e).bind fun ie=>(Es X du ie s.S b).bind fun p=>gd (Nat.ble ie.bytes 65536) (match a with
  | .w (.one (.a (.v (.slice none 0 0))))=>match p.1 with
   | 0=>some (a,s)
   | _ + 1=>gd (Nat.ble p.1 65536) (some (one (.sl s.c 0 p.1 none ie.size),bp s (some (.row p.2 e))))
  | .w (.one (.a (.sl id off n cp ez)))=>gd (Nat.beq ez ie.size && Nat.ble (n + p.1) 65536) (match p.1 with
   | 0=>some (a,s)
   | _ + 1=>match s.S.get id with
    | some (.row l ty)=>gd (Nat.beq ty e) ((cut l off (n * ie.size)).bind fun old=>match cp with
     | none=>some (one (.sl s.c 0 (n + p.1) none ie.size),bp (dM s id none) (some (.row (old ++ p.2) e)))
     | some k=>match Nat.ble (n + p.1) k with
      | true=>(lay l (off + n * ie.size) p.2).map fun l'=>(one (.sl id off (n + p.1) cp ez),dM s id (some (.row l' e)))
      | false=>some (one (.sl s.c 0 (n + p.1) none ie.size),bp s (some (.row (old ++ p.2) e))))
    | _=>none)
  | _=>none)
 | _=>none
def dK (X:Cx σ) (t:TypeId) (a x:Operand) (ρ:Operand->Option AV) (s:St σ):Option (Option AV×St σ):=(X.inf t).bind fun i=>(ρ a).bind fun p=>(ρ x).bind fun v=>(cells v).bind fun cs=>match p with
  | .w (.one (.a (.ptr id off)))=>gd (Nat.beq cs.length i.size) (match s.S.get id with
   | some (.row l ty)=>(lay l off cs).map fun l'=>(none,dM s id (some (.row l' ty)))
   | _=>none)
  | _=>none
def cd (X:Cx σ) (src dst:TypeId) (x:Operand) (ρ:Operand->Option AV) (s:St σ):Option (Option AV×St σ):=match Nat.beq src dst,X.und src with
  | true,some (.slice e)=>(X.und e).bind fun de=>(ρ x).bind fun v=>match de,v with
   | .int .u8,.w (.one (.a (.sl id off n cp ez)))=>gd (match look s.S id with | some _=>true | none=>false) (some (some v,s))
   | _,_=>none
  | _,_=>none
def bF (X:Cx σ) (t:TypeId) (m k x:Operand) (ρ:Operand->Option AV) (s:St σ):Option (Option AV×St σ):=(X.und t).bind fun d=>(ρ m).bind fun m=>(ρ k).bind fun k=>(ρ x).bind fun x=>match d,m,k,x with
  | .map kt _,.w (.one (.a (.mp id))),.w (.one (.a (.v (.int j n)))),.w (.one (.a (.v y)))=>(X.und kt).bind fun dk=>match dk with
   | .int _=>(jD s.S id).bind fun p=>(cT (.int j n) p.1 0).map fun r=>match r with
    | some q=>(none,dM s id (some (.map (kG y p.1 q.1) p.2)))
    | none=>(none,dM s id (some (.map (p.1 ++ [{ key:=.int j n,val:=y,born:=p.2 }]) (p.2 + 1))))
   | _=>none
  | _,_,_,_=>none
def bB (X:Cx σ) (b:Builtin) (args:Array Operand) (argTypes:Array TypeId) (ρ:Operand->Option AV) (s:St σ):Option (Option AV×St σ):=match b with
  | .append=>match argTypes.toList,args.toList with
   | [t,u],[x,y]=>(ρ x).bind fun a=>(ρ y).bind fun b=>(tL X t u a b s).map fun r=>(some r.1,r.2)
   | _,_=>none
  | .copy=>match argTypes.toList,args.toList with
   | [t,_],[x,y]=>(X.und t).bind fun d=>match d with
    | .slice e=>(X.inf e).bind fun ie=>(ρ x).bind fun a=>(ρ y).bind fun b=>(jj s.S ie.size b).bind fun p=>match a with
     | .w (.one (.a (.v (.slice none 0 0))))=>some (some (BC 0),s)
     | .w (.one (.a (.sl id off n cp ez)))=>gd (Nat.beq ez ie.size) (match s.S.get id with
      | some (.row l ty)=>(cut p.2 0 (Nat.min p.1 n * ie.size)).bind fun cs=>(lay l off cs).map fun l'=>(some (BC (Nat.min p.1 n)),dM s id (some (.row l' ty)))
      | _=>none)
     | _=>none
    | _=>none
   | _,_=>none
  | .delete=>match argTypes.toList,args.toList with
   | [t,_],[m,k]=>(X.und t).bind fun d=>(ρ m).bind fun m=>(ρ k).bind fun k=>match d,m,k with
    | .map kt _,.w (.one (.a (.mp id))),.w (.one (.a (.v (.int j n))))=>(X.und kt).bind fun dk=>match dk with
     | .int _=>(jD s.S id).bind fun p=>(cT (.int j n) p.1 0).map fun r=>match r with
      | some q=>(some (.nN []),dM s id (some (.map (jt p.1 q.1) p.2)))
      | none=>(some (.nN []),s)
     | _=>none
    | _,_,_=>none
   | _,_=>none
  | _=>none
def fR (X:Cx σ) (call:FuncId->List AV->St σ->Option (AV×St σ)) (f:Operand) (args:Array Operand) (ρ:Operand->Option AV) (s:St σ):Option (Option AV×St σ):=(ρ f).bind fun f=>(gk ρ args.toList).bind fun l=>match f with
  | .w (.one (.fn (.func g) fi ca))=>(X.fn g).bind fun _=>(call g (fi.map Ar.av ++ (l ++ ca.map Ar.av)) s).map fun r=>(some r.1,r.2)
  | _=>none
def m9 (X:Cx σ) (call:FuncId->List AV->St σ->Option (AV×St σ)) (o:Oper) (ρ:Operand->Option AV) (s:St σ):Option (Option AV×St σ) :=
 match o.op with
 | .store t a x=>dK X t a x ρ s
 | .convert src dst x=>cd X src dst x ρ s
 | .mapUpdate t m k x=>bF X t m k x ρ s
 | .call { callee:=.builtin b,args,argTypes }=>bB X b args argTypes ρ s
 | .call { callee:=.value f,args,.. }=>fR X call f args ρ s
 | _=>none
def Dy (X:Cx σ) (F:Fr):Operand->Option AV
 | .tmp t=>F.t.get t
 | .const v=>(lS v).map .w
 | .global g=>gd (Nat.blt g X.ng) (some (one (.ptr g 0)))
 | .func f=>some (.w (.one (.fn (.func f) [] [])))
def cI (F:Fr) (d:Option Tmp) (v:Option AV):Fr:=match d with
 | none=>F
 | some d=>match Nat.blt d F.nt with
  | true=>{ F with t:=F.t.set d v }
  | false=>F
def gT (ops:List Oper) (F:Fr) (o:Oper):Option Bool:=match o.guard with
 | none=>some true
 | some (j,want)=>match (ops[j]?).bind (·.dst) with
  | none=>some false
  | some d=>match F.t.get d with
   | some (.w (.one (.a (.v (.bool b)))))=>some (match want with | true=>b | false=>!b)
   | some (.nN [])=>some false
   | _=>none
def PW (X:Cx σ) (call:FuncId->List AV->St σ->Option (AV×St σ)) (ops:List Oper) (o:Oper) (F:Fr) (s:St σ):Option (Fr×St σ) :=
 (gT ops F o).bind fun b=>match b with
  | false=>some (cI F o.dst (some (.nN [])),s)
  | true=>match Bd X o with
   | .q=>(mP X o (Dy X F) s.S).map fun v=>(cI F o.dst (some v),s)
   | .a=>(qb X o (Dy X F) s.S s.c).map fun r=>(cI F o.dst (some r.1),bp s r.2)
   | .e=>(m9 X call o (Dy X F) s).map fun r=>(cI F o.dst r.1,r.2)
def mN (X:Cx σ) (call:FuncId->List AV->St σ->Option (AV×St σ)) (ops:List Oper):List Oper->Fr->St σ->Option (Fr×St σ)
 | [],F,s=>some (F,s)
 | o :: l,F,s=>(PW X call ops o F s).bind fun r=>mN X call ops l r.1 r.2
inductive Ex where
 | normal
 | exit (id:Nat)
 | ret
def kP (X:Cx σ) (F:Fr) (S:Tr Ob):List ResultVar->Option (List AV)
 | []=>some []
 | .tmp t :: l=>(F.t.get t).bind fun v=>(kP X F S l).map (v :: ·)
 | .cell a t :: l=>(X.und t).bind fun d=>(X.inf t).bind fun i=>(F.t.get a).bind fun v=>match v with
  | .w (.one (.a (.ptr id off)))=>(look S id).bind fun row=>((cut row off (match rV d with | true=>i.size | false=>1)).bind (iD d)).bind fun v=>(kP X F S l).map (v :: ·)
  | _=>none
def Po:List AV->Option (List V1)
 | []=>some []
 | .w x :: l=>(Po l).map (x :: ·)
 | .nN _ :: _=>none
def zu:List AV->Option AV
 | [v]=>some v
 | l=>(Po l).map .nN
def EW:List AV->Nat->Tr AV->Tr AV
 | [],_,t=>t
 | v :: l,i,t=>EW l (i + 1) (t.set i (some v))
end
end Ev
namespace Ev
open Go
variable {σ:Type}
structure Env where
 ι:Nat->Nat
 sh:Nat->Nat
 κ:Nat->Nat
 D:Nat->Prop
 sy:Nat->Value
 B:Nat->Prop
def RA (E:Env):At->Value->Prop
 | .v x,y=>y=x/\x.oneCell'=true
 | .ptr id off,y=>E.D id/\y=.pointer (some ⟨E.ι id,E.sh id + off,none⟩)
 | .sl id off len cp ez,y=>E.D id/\∃ a c,y=.slice (some a) len c/\len<=c/\((c=0/\a.block=E.ι id)\/(a=⟨E.ι id,E.sh id + off,none⟩/\E.sh id + off + c * ez<=E.κ id))/\(∀ k,cp=some k->c=k)/\(cp=none->c<=9223372036854775807)
 | .mp id,y=>E.D id/\y=.map (some (E.ι id))
 | .sym k,y=>E.D k/\y=E.sy k/\y.oneCell'=true
 | .op k,y=>E.D k/\y=E.sy k/\∃ a,y=.pointer (some a)
 | .top,y=>y.oneCell'=true
def aQ {α β:Type} (R:α->β->Prop):List α->List β->Prop
 | [],[]=>True
 | x :: l,y :: r=>R x y/\aQ R l r
 | _,_=>False
def Jt (E:Env):Ar->Value->Prop
 | .one x,y=>RA E x y
 | .agg l,y=>∃ A,y=.agg A/\aQ (RA E) l A.toList
def RC (E:Env):Ce->Value->Prop
 | .a x,y=>RA E x y
 | .fn f fi ca,y=>∃ A B,y=.func f A B/\aQ (Jt E) fi A.toList/\aQ (Jt E) ca B.toList
def R1 (E:Env):V1->Value->Prop
 | .one c,y=>RC E c y
 | .agg l,y=>∃ A,y=.agg A/\aQ (RC E) l A.toList
def RV (E:Env):AV->Value->Prop
 | .w x,y=>R1 E x y
 | .nN l,y=>∃ A,y=.tuple A/\aQ (R1 E) l A.toList
section
variable {α β γ:Type} {R R':α->β->Prop}
theorem aQ.mono (h:∀ x y,R x y->R' x y):∀ {l:List α} {r:List β},aQ R l r->aQ R' l r
 | [],[],_=>trivial
 | _ :: _,_ :: _,⟨a,b⟩=>⟨h _ _ a,aQ.mono h b⟩
theorem aQ.length:∀ {l:List α} {r:List β},aQ R l r->l.length=r.length
 | [],[],_=>rfl
 | _ :: _,_ :: _,⟨_,b⟩=>by simp [aQ.length b]
theorem aQ.append:∀ {l:List α} {r:List β} {l':List α} {r':List β},aQ R l r->aQ R l' r'->aQ R (l ++ l') (r ++ r')
 | [],[],_,_,_,h=>h
 | _ :: _,_ :: _,_,_,⟨a,b⟩,h=>⟨a,aQ.append b h⟩
theorem aQ.get:∀ {l:List α} {r:List β} {i:Nat} {x:α},aQ R l r->l[i]?=some x->∃ y,r[i]?=some y/\R x y
 | [],[],_,_,_,h=>by simp at h
 | x :: _,y :: _,0,_,⟨a,_⟩,h=>⟨y,rfl,by simp at h; exact h ▸ a⟩
 | _ :: _,_ :: _,i + 1,_,⟨_,b⟩,h=>by simpa using aQ.get b (by simpa using h)
theorem aQ.xF:∀ {l:List α} {r:List β},l.length=r.length->(∀ (i:Nat) x y,l[i]?=some x->r[i]?=some y->R x y)->aQ R l r
 | [],[],_,_=>trivial
 | [],_ :: _,h,_=>by simp at h
 | _ :: _,[],h,_=>by simp at h
 | x :: l,y :: r,h,k=>⟨k 0 x y rfl rfl,aQ.xF (by simpa using h) fun i a b ha hb=>k (i + 1) a b (by simpa using ha) (by simpa using hb)⟩
theorem aQ.gS {r:List β} (h:aQ R [] r):r=[]:=by cases r with | nil=>rfl | cons=>exact h.elim
end
def Ext (E E':Env):Prop:=∀ id,E.D id->E'.D id/\E'.ι id=E.ι id/\E'.sh id=E.sh id/\E'.κ id=E.κ id/\E'.sy id=E.sy id
theorem Ext.refl (E:Env):Ext E E:=fun _ h=>⟨h,rfl,rfl,rfl,rfl⟩
theorem Ext.trans {E E' Mj:Env} (h:Ext E E') (h':Ext E' Mj):Ext E Mj:=fun id hd=>by
 obtain ⟨a,b,c,d,e⟩:=h id hd;obtain ⟨a',b',c',d',e'⟩:=h' id a;exact ⟨a',by rw [b',b],by rw [c',c],by rw [d',d],by rw [e',e]⟩
theorem RA.ext {E E':Env} (h:Ext E E'):∀ {x:At} {y:Value},RA E x y->RA E' x y
 | .v _,_,r=>r
 | .ptr id off,y,⟨d,r⟩=>by obtain ⟨a,b,c,_,_⟩:=h id d; exact ⟨a,by rw [b,c]; exact r⟩
 | .sl id off len cp ez,y,⟨d,a,k,r1,r2,r3,r4⟩=>by obtain ⟨a',b,c,e,_⟩:=h id d; exact ⟨a',a,k,r1,r2,by rw [b,c,e]; exact r3,r4⟩
 | .mp id,y,⟨d,r⟩=>by obtain ⟨a,b,_,_,_⟩:=h id d; exact ⟨a,by rw [b]; exact r⟩
 | .sym k,y,⟨d,r1,r2⟩=>by obtain ⟨a,_,_,_,e⟩:=h k d; exact ⟨a,by rw [e]; exact r1,r2⟩
 | .op k,y,⟨d,r1,r2⟩=>by obtain ⟨a,_,_,_,e⟩:=h k d; exact ⟨a,by rw [e]; exact r1,r2⟩
 | .top,_,r=>r
theorem Jt.ext {E E':Env} (h:Ext E E'):∀ {x:Ar} {y:Value},Jt E x y->Jt E' x y
 | .one _,_,r=>RA.ext h r
 | .agg _,_,⟨A,r1,r2⟩=>⟨A,r1,r2.mono fun _ _=>RA.ext h⟩
theorem RC.ext {E E':Env} (h:Ext E E'):∀ {x:Ce} {y:Value},RC E x y->RC E' x y
 | .a _,_,r=>RA.ext h r
 | .fn _ _ _,_,⟨A,B,r1,r2,r3⟩=>⟨A,B,r1,r2.mono fun _ _=>Jt.ext h,r3.mono fun _ _=>Jt.ext h⟩
theorem R1.ext {E E':Env} (h:Ext E E'):∀ {x:V1} {y:Value},R1 E x y->R1 E' x y
 | .one _,_,r=>RC.ext h r
 | .agg _,_,⟨A,r1,r2⟩=>⟨A,r1,r2.mono fun _ _=>RC.ext h⟩
theorem RV.ext {E E':Env} (h:Ext E E'):∀ {x:AV} {y:Value},RV E x y->RV E' x y
 | .w _,_,r=>R1.ext h r
 | .nN _,_,⟨A,r1,r2⟩=>⟨A,r1,r2.mono fun _ _=>R1.ext h⟩
theorem RA.nA {E:Env}:∀ {x:At} {y:Value},RA E x y->y.oneCell'=true
 | .v _,_,⟨r,h⟩=>by rw [r]; exact h
 | .ptr _ _,_,⟨_,r⟩=>by rw [r]; rfl
 | .sl ..,_,⟨_,a,c,r,_⟩=>by rw [r]; rfl
 | .mp _,_,⟨_,r⟩=>by rw [r]; rfl
 | .sym _,_,⟨_,_,r⟩=>r
 | .op _,_,⟨_,_,a,r⟩=>by rw [r]; rfl
 | .top,_,r=>r
theorem RC.nA {E:Env}:∀ {x:Ce} {y:Value},RC E x y->y.oneCell'=true
 | .a _,_,r=>RA.nA r
 | .fn ..,_,⟨A,B,r,_⟩=>by rw [r]; rfl
theorem EA {E:Env} {x:Value} {a:At} (h:JC x=some a):RA E a x:=by
 unfold JC at h;split at h
 ·cases h
 ·cases h
 ·rename_i h1 h2
  injection h with h
  subst h;refine ⟨rfl,?_⟩;cases x <;> first | rfl | exact absurd rfl (h1 _) | exact absurd rfl (h2 _)
theorem gF {E:Env}:∀ {l:List Value} {r:List Ce},i_ l=some r->aQ (RC E) r l
 | [],r,h=>by simp only [i_] at h; injection h with h; subst h; trivial
 | x :: l,r,h=>by
  simp only [i_,Option.bind_eq_some_iff] at h;obtain ⟨a,h1,r',h2,h3⟩:=h;injection h3 with h3
  subst h3;exact ⟨EA h1,gF h2⟩
theorem oI {E:Env} {x:Value} {y:V1} (h:lS x=some y):R1 E y x:=by
 unfold lS at h;split at h
 ·rename_i cs
  rw [Option.map_eq_some_iff] at h;obtain ⟨l,h1,h2⟩:=h;subst h2;exact ⟨cs,rfl,gF h1⟩
 ·rw [Option.map_eq_some_iff] at h
  obtain ⟨a,h1,h2⟩:=h;subst h2;exact EA h1
theorem tD {E:Env}:∀ {l:List Ce} {r vs:List Value},kF l=some vs->aQ (RC E) l r->r=vs
 | [],r,vs,h,hr=>by simp only [kF] at h; injection h with h; subst h; exact hr.gS
 | c :: l,[],vs,h,hr=>hr.elim
 | c :: l,y :: r,vs,h,⟨hc,hr⟩=>by
  have key:∀ x,c=.a (.v x)->y :: r=vs:=fun x hx=>by
   subst hx;rw [kF,Option.map_eq_some_iff] at h;obtain ⟨vs',h1,h2⟩:=h;subst h2;rw [tD h1 hr,hc.1]
  cases c with
  | fn=>simp [kF] at h
  | a x=>cases x <;> first | exact key _ rfl | simp [kF] at h
theorem dF {E:Env} {x:AV} {y v:Value} (h:plain x=some v) (hr:RV E x y):y=v:=by
 unfold plain at h;split at h
 ·injection h with h; subst h; exact hr.1
 ·rw [Option.map_eq_some_iff] at h
  obtain ⟨vs,h1,h2⟩:=h;obtain ⟨A,r1,r2⟩:=hr;subst h2;rw [r1,<- tD h1 r2]
 ·cases h
theorem rO {E:Env} {x:AV} {y:Value} {l:List Ce} (h:cells x=some l) (hr:RV E x y):aQ (RC E) l y.cells.toList:=by
 unfold cells at h;split at h
 ·injection h with h
  subst h;have:=RC.nA (x:=_) hr;have e:y.cells=#[y]:=by cases y <;> first | rfl | simp [Value.oneCell'] at this
  rw [e];exact ⟨hr,trivial⟩
 ·injection h with h
  subst h;obtain ⟨A,r1,r2⟩:=hr;rw [r1];exact r2
 ·cases h
theorem lN {E:Env} {l:List Ce}:∀ {r:List Value},aQ (RC E) l r->∀ v∈r,v.oneCell'=true:=by
 induction l with
 | nil=>intro r h v hv; rw [h.gS] at hv; simp at hv
 | cons c l ih =>
  intro r h v hv;cases r with
  | nil=>exact h.elim
  | cons y r =>
   rcases List.mem_cons.1 hv with rfl | hv
   ·exact RC.nA h.1
   ·exact ih h.2 v hv
def NF (fz:Nat×Nat) (n:Nat):Prop:=fz.1=fz.2\/n<=fz.1
theorem NF.free {fz:Nat×Nat} {n:Nat} (h:NF fz n):∀ i,i < n->¬ (fz.1<=i/\i < fz.2):=fun i hi hh=>by
 rcases h with h | h <;> omega
def SM (es r:List MapEntry):Prop:=aQ (fun a b:MapEntry=>b.key=a.key/\b.val=a.val) es r
def RO (E:Env) (id:Nat) (w:World):Ob->Prop
 | .row l ty=>∃ arr fz,w.heap[E.ι id]?=some (.cells arr ty fz)/\E.κ id=arr.size/\E.sh id + l.length<=arr.size/\NF fz arr.size/\∀ (i:Nat) c,l[i]?=some c->∃ v,arr[E.sh id + i]?=some v/\RC E c v
 | .map es _=>∃ r k,w.heap[E.ι id]?=some (.map r.toArray k)/\SM es r
theorem RO.ext {E E':Env} {id:Nat} {w w':World} (h:Ext E E') (hd:E.D id) (hw:w'.heap[E.ι id]?=w.heap[E.ι id]?):∀ {o:Ob},RO E id w o->RO E' id w' o
 | .row l ty,⟨arr,fz,h1,h2,h3,h4,h5⟩=>by
  obtain ⟨_,b,c,d,_⟩:=h id hd;refine ⟨arr,fz,by rw [b,hw]; exact h1,by rw [d]; exact h2,by rw [c]; exact h3,h4,fun i x hx=>?_⟩;obtain ⟨v,r1,r2⟩:=h5 i x hx;exact ⟨v,by rw [c]; exact r1,RC.ext h r2⟩
 | .map es k,⟨r,k',h1,h2⟩=>by
  obtain ⟨_,b,_⟩:=h id hd;exact ⟨r,k',by rw [b,hw]; exact h1,h2⟩
def Kp (w w':World):Prop:=w'.os=w.os/\w'.tape=w.tape/\w'.output=w.output
theorem Kp.refl (w:World):Kp w w:=⟨rfl,rfl,rfl⟩
theorem Kp.trans {w w' w'':World} (h:Kp w w') (h':Kp w' w''):Kp w w'':=⟨h'.1.trans h.1,h'.2.1.trans h.2.1,h'.2.2.trans h.2.2⟩
structure Outside (σ:Type) where
 ok:σ->Env->World->Prop
 dX:∀ g E w E' w',ok g E w->Ext E E'->(∀ b,E'.B b↔E.B b)->(∀ b,E.B b->w'.heap[b]?=w.heap[b]?)->w.heap.size<=w'.heap.size->Kp w w'->ok g E' w'
structure Rel (X:Cx σ) (O:Outside σ) (E:Env) (h:Nat->Option Ob) (g:σ) (w:World):Prop where
 ob:∀ id o,h id=some o->E.D id/\RO E id w o
 inj:∀ i j,h i≠none->h j≠none->E.ι i=E.ι j->i=j
 apart:∀ i,h i≠none->¬ E.B (E.ι i)
 kJ:∀ b,b < X.ng->E.D b/\E.ι b=b/\E.sh b=0
 lt:∀ b,E.B b->b < w.heap.size
 out:O.ok g E w
theorem Rel.ji {X:Cx σ} {O:Outside σ} {E:Env} {h:Nat->Option Ob} {g:σ} {w:World} (r:Rel X O E h g w) {id:Nat} {o:Ob} (hi:h id=some o):E.ι id < w.heap.size:=by
 have:=(r.ob id o hi).2;rcases Nat.lt_or_ge (E.ι id) w.heap.size with h' | h'
 ·exact h'
 ·cases o with
  | row l ty=>obtain ⟨arr,fz,h1,_⟩:=this; simp [Array.getElem?_eq_none h'] at h1
  | map es k=>obtain ⟨r,k',h1,_⟩:=this; simp [Array.getElem?_eq_none h'] at h1
theorem Rel.sub {X:Cx σ} {O:Outside σ} {E:Env} {h h':Nat->Option Ob} {g:σ} {w:World} (r:Rel X O E h g w) (hs:∀ id o,h' id=some o->h id=some o):Rel X O E h' g w:=by
 have ne:∀ i,h' i≠none->h i≠none:=fun i hi=>by
  cases e:h' i with
  | none=>exact absurd e hi
  | some o=>rw [hs i o e]; simp
 exact ⟨fun id o e=>r.ob id o (hs id o e),fun i j hi hj e=>r.inj i j (ne i hi) (ne j hj) e,fun i hi=>r.apart i (ne i hi),r.kJ,r.lt,r.out⟩
structure iB (E:Env) (h:Nat->Option Ob) (c:Nat) (w:World) (E':Env) (h':Nat->Option Ob) (c':Nat) (w':World):Prop where
 ext:Ext E E'
 fresh:∀ id,E'.D id->E.D id\/(c<=id/\id < c')
 size:w.heap.size<=w'.heap.size
 frame:∀ b,b < w.heap.size->¬ E.B b->(∀ id,h id≠none->E.ι id≠b)->w'.heap[b]?=w.heap[b]?
 img:∀ id,h' id≠none->(∃ j,h j≠none/\E'.ι id=E.ι j)\/w.heap.size<=E'.ι id
 m_:∀ b,E'.B b->E.B b\/w.heap.size<=b
 dom:∀ id,h' id≠none->h id≠none\/(c<=id/\id < c')
 kp:Kp w w'
theorem iB.refl (E:Env) (h:Nat->Option Ob) (c:Nat) (w:World):iB E h c w E h c w :=
 ⟨Ext.refl E,fun _ h=>.inl h,Nat.le_refl _,fun _ _ _ _=>rfl,fun id hi=>.inl ⟨id,hi,rfl⟩,fun _ h=>.inl h,fun _ h=>.inl h,Kp.refl w⟩
theorem iB.trans {E E' Mj:Env} {h h' h'':Nat->Option Ob} {c c' c'':Nat} {w w' w'':World} (m:iB E h c w E' h' c' w') (n:iB E' h' c' w' Mj h'' c'' w'') (h1:c<=c') (h2:c'<=c'') (hd:∀ id,h' id≠none->E'.D id):iB E h c w Mj h'' c'' w'':=by
 refine ⟨m.ext.trans n.ext,fun id hi=>?_,Nat.le_trans m.size n.size,fun b hb hB hI=>?_,fun id hi=>?_,fun b hb=>?_,fun id hi=>?_,m.kp.trans n.kp⟩
 ·rcases n.fresh id hi with h | ⟨a,b⟩
  ·rcases m.fresh id h with h | ⟨a,b⟩
   ·exact .inl h
   ·exact .inr ⟨a,by omega⟩
  ·exact .inr ⟨by omega,b⟩
 ·rw [n.frame b (Nat.lt_of_lt_of_le hb m.size) (fun h=>by rcases m.m_ b h with h | h; exact hB h; omega) (fun id hi e=>by
   rcases m.img id hi with ⟨j,hj,e'⟩ | h
   ·exact hI j hj (by rw [<- e',e])
   ·omega)]
  exact m.frame b hb hB hI
 ·rcases n.img id hi with ⟨j,hj,e⟩ | h
  ·rcases m.img j hj with ⟨k,hk,e'⟩ | h
   ·exact .inl ⟨k,hk,by rw [e,e']⟩
   ·exact .inr (by omega)
  ·exact .inr (Nat.le_trans m.size h)
 ·rcases n.m_ b hb with h | h
  ·exact m.m_ b h
  ·exact .inr (Nat.le_trans m.size h)
 ·rcases n.dom id hi with h | ⟨a,b⟩
  ·rcases m.dom id h with h | ⟨a,b⟩
   ·exact .inl h
   ·exact .inr ⟨a,by omega⟩
  ·exact .inr ⟨by omega,b⟩
end Ev
end Go.Proofs.YtijegngfclkdaaaGreatDoor
