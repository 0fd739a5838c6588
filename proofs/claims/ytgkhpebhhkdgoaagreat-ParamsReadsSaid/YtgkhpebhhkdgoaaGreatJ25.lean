/-
  Texts joined: PrmSame.
  Conditions: none.
-/
import Derived.Test.YtgkhpebhhkdgoaaGreatJ24
import Derived.Deep.QuietTactic
import Derived.BigQuiet
/-
  Walks: same of the statements of layer 33; what PDOs say, in one form.
  Conditions: none.
-/
namespace Go.Proofs.YtgkhpebhhkdgoaaGreat
set_option linter.unusedVariables false
set_option linter.unusedSimpArgs false
open Go.RowKit Go.Sort
theorem VlW.vlc33 {w : World} {base : Nat} {f : Dc.Vl} {cs : List Value} (h : VlW w base f cs) : VlC w w.heap.size f cs := by
  obtain ⟨A, n, c, h1, h2⟩ := h
  exact ⟨A, n, c, h1, h2.rb⟩
set_option maxRecDepth 100000 in
set_option maxHeartbeats 2000000 in
theorem same33_any {w : World} {A A' : Option Addr} {n c c' B B' : Nat} {ws : List Nat} (h1 : RW w B A n c ws) (h2 : RW w B' A' n c' ws) (hB : B ≤ w.heap.size) (hB' : B' ≤ w.heap.size) : Calls Tryz.prog 18 #[.slice A n c, .slice A' n c'] w fun e w' => e = .returned (.bool true) ∧ Below w.heap.size w w' := by
  have hle := RV.le h1
  have hcap := RV.cap h1
  have hle' := RV.le h2
  have hcap' := RV.cap h2
  go_enter Tryz.func18, Tryz.ntmps18
  go_wp2_with fail
  go_loopw [5] (fun i wr => ∃ k : Nat, k ≤ n ∧ i = .int .i64 k ∧ Below w.heap.size w wr) (fun i _ => n - (intOf i).toNat)
  case atStart => exact ⟨0, by omega, rfl, Below.refl _ _⟩
  case round =>
    obtain ⟨k, hk, rfl, bb⟩ := hrel
    obtain ⟨wq, hwq⟩ : ∃ w, w = wr := ⟨wr, rfl⟩
    subst hwq
    by_cases hlt : k < n
    · obtain ⟨b, o, rfl, hb, q1⟩ := (h1.below (bb.mono hB)).at_ hlt
      obtain ⟨b', o', rfl, hb', q2⟩ := (h2.below (bb.mono hB')).at_ hlt
      generalize ((ws.getD k 0 : Nat) : Int) = x at *
      have i0 : (0 : Int) ≤ (k : Int) := by omega
      have i1 : (k : Int) < (n : Int) := by omega
      go_wp2_with fail
      go_quiet (fail)
      have bq := below_drewN bb nq
      go_wp2_with fail
      go_roundw
      case rel => exact ⟨k + 1, by omega, by go_num, bq⟩
      case measure => simp [intOf] <;> omega
    · obtain rfl : k = n := by omega
      go_wp2_with fail
      go_ret
      exact ⟨rfl, bb⟩
/-- How a PDO is set, or nothing. -/
def RpQ (q : Nat × Int × List Nat) (b : Bool) (w : World) (e : Ending) (w' : World) : Prop := ∃ A c, e = .returned (.tuple #[.agg #[.int .u32 (q.1 : Int), .int .i64 q.2.1, .slice A q.2.2.length c], .bool b]) ∧ OWp w' w.heap.size A q.2.2.length c q.2.2 ∧ Below w.heap.size w w'
theorem RpP.q {o : Option (Nat × Int × List Nat)} {w w' : World} {e : Ending} (h : RpP o w e w') : RpQ (o.getD (0, 0, [])) o.isSome w e w' := by
  cases o with
  | none => exact ⟨none, 0, h.1, OWp.none_ _ _, h.2⟩
  | some q => exact h
def TpQ (q : Nat × Int × Int × Int × List Nat) (b : Bool) (w : World) (e : Ending) (w' : World) : Prop := ∃ A c, e = .returned (.tuple #[.agg #[.int .u32 (q.1 : Int), .int .i64 q.2.1, .int .i64 q.2.2.1, .int .i64 q.2.2.2.1, .slice A q.2.2.2.2.length c], .bool b]) ∧ OWp w' w.heap.size A q.2.2.2.2.length c q.2.2.2.2 ∧ Below w.heap.size w w'
theorem TpP.q {o : Option (Nat × Int × Int × Int × List Nat)} {w w' : World} {e : Ending} (h : TpP o w e w') : TpQ (o.getD (0, 0, 0, 0, [])) o.isSome w e w' := by
  cases o with
  | none => exact ⟨none, 0, h.1, OWp.none_ _ _, h.2⟩
  | some q => exact h
def SyncQ (q : Nat × Int) (b : Bool) (w : World) (e : Ending) (w' : World) : Prop := e = .returned (.tuple #[.int .u32 (q.1 : Int), .int .i64 q.2, .bool b]) ∧ Below w.heap.size w w'
theorem SyncP.q {o : Option (Nat × Int)} {w w' : World} {e : Ending} (h : SyncP o w e w') : SyncQ (o.getD (0, 0)) o.isSome w e w' := by
  cases o with
  | none => exact h
  | some q => exact h
end Go.Proofs.YtgkhpebhhkdgoaaGreat
