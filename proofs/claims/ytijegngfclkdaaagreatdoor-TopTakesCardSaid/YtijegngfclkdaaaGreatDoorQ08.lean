/-
  Piece 8 of the proof.
  Conditions: none.
-/
import Derived.Test.YtijegngfclkdaaaGreatDoorQ07
set_option linter.unusedVariables false
set_option linter.unusedSimpArgs false
set_option maxHeartbeats 100000000
set_option maxRecDepth 100000
namespace Go.Proofs.YtijegngfclkdaaaGreatDoor
namespace Ev
open Go
theorem cN {σ:Type} {X:Cx σ} {a b:List (Nat×List (Nat×List Nat×List Nat))} (h1:rJ X a=true) (h2:rJ X b=true):rJ X (a ++ b)=true:=by
 simp only [rJ,List.all_append,Bool.and_eq_true] at *;exact ⟨h1,h2⟩
theorem Qf (gg:FuncId->List AV->St Nat->Option (AV×St Nat)):rJ (XP gg) Qv=true:=by kernel_rfl
theorem Rf (gg:FuncId->List AV->St Nat->Option (AV×St Nat)):rJ (XP gg) RH=true:=by kernel_rfl
theorem Ri (gg:FuncId->List AV->St Nat->Option (AV×St Nat)):rJ (XP gg) Qy=true:=by kernel_rfl
theorem Qr (gg:FuncId->List AV->St Nat->Option (AV×St Nat)):rJ (XP gg) Rr=true:=by kernel_rfl
theorem Qd (gg:FuncId->List AV->St Nat->Option (AV×St Nat)):rJ (XP gg) QM=true:=by kernel_rfl
theorem QW (gg:FuncId->List AV->St Nat->Option (AV×St Nat)):rJ (XP gg) Rh=true:=by kernel_rfl
theorem QU (gg:FuncId->List AV->St Nat->Option (AV×St Nat)):rJ (XP gg) Q7=true:=by kernel_rfl
theorem Rb (gg:FuncId->List AV->St Nat->Option (AV×St Nat)):rJ (XP gg) Qj=true:=by kernel_rfl
theorem Qz (gg:FuncId->List AV->St Nat->Option (AV×St Nat)):rJ (XP gg) Rx=true:=by kernel_rfl
theorem QZ (gg:FuncId->List AV->St Nat->Option (AV×St Nat)):rJ (XP gg) Ru=true:=by kernel_rfl
theorem DP (gg:FuncId->List AV->St Nat->Option (AV×St Nat)):ni (XP gg):=Be (cN (Qf gg) (cN (Rf gg) (cN (Ri gg) (cN (Qr gg) (cN (Qd gg) (cN (QW gg) (cN (QU gg) (cN (Rb gg) (cN (Qz gg) (QZ gg))))))))))
noncomputable section
def u8:List Nat->List Ce
 | []=>[]
 | n :: l=>.a (.v (.int .u8 n)) :: u8 l
def rp (n:Nat) (c:Ce):List Ce:=Nat.rec (motive:=fun _=>List Ce) [] (fun _ r=>c :: r) n
def i6 (n:Int):Ce:=.a (.v (.int .i64 n))
def bl (b:Bool):Ce:=.a (.v (.bool b))
def sl (a b c d e:Nat):Ce:=.a (.sl a b c (some d) e)
def so (a b c e:Nat):Ce:=.a (.sl a b c none e)
def pt (a b:Nat):Ce:=.a (.ptr a b)
def np:Ce:=.a (.v (.pointer none))
def ns:Ce:=.a (.v (.slice none 0 0))
end
section
variable {σ:Type}
theorem Ke {l:List (Nat×Ob)} {i:Nat} {o:Ob} (h:mJ l i=some o):(i,o)∈l:=by
 induction l with
 | nil=>cases h
 | cons p l ih =>
  simp only [mJ] at h;split at h
  ·rename_i hb
   injection h with h
   obtain ⟨p1,p2⟩:=p;have:=Nat.eq_of_beq_eq_true hb;dsimp only at this h;subst this h;exact List.mem_cons_self
  ·exact List.mem_cons_of_mem _ (ih h)
end
end Ev
end Go.Proofs.YtijegngfclkdaaaGreatDoor
