/-
  Walks: the references' words Join, Lent, Kept, Spoil, Count.
  Conditions: none.
-/
import Derived.Test.YtnppihlalhaldaaProg
import Derived.Test.YtnppihlalhaldaaPhase
namespace Go.Proofs.Ytnppihlalhaldaa
set_option linter.unusedVariables false
set_option linter.unusedSimpArgs false
open Go.RowKit
theorem etb : ET Try.prog 48 5 1 1 (.int .u8 0) := ⟨Try.underlying48, info_parts (by kernel_rfl), rfl, by decide⟩
theorem convb {w : World} {B : Nat} {A : Option Addr} {n c : Nat} {l : List UInt8} (h : RB w B A n c l) :
    (convert 48 9 (.slice A n c)).run Try.prog w = .ok (.string ⟨l.toArray⟩) w := h.conv 48 5 Try.underlying48 Try.underlying5 _ Try.underlying9

theorem convb_grow {w : World} {A : Option Addr} {n c B : Nat} {l : List UInt8} (h : RB w B A n c l) (hB : B ≤ w.heap.size) : ∀ (d : Nat) (os : Array Obj),
    (convert 48 9 (.slice A n c)).run Try.prog (Go.Sort.grow (redrawn w d) os) = .ok (.string ⟨l.toArray⟩) (Go.Sort.grow (redrawn w d) os) := fun d os => convb (h.below ((below_regrown w d os).mono hB))


set_option maxHeartbeats 400000 in
/-- Both, in new memory. -/
theorem Join_any {A : Option Addr} {n c B : Nat} {l : List UInt8} {A' : Option Addr} {n' c' B' : Nat} {l' : List UInt8} (w : World) (h : RB w B A n c l) (h' : RB w B' A' n' c' l') (hn : n + n' < 140737488355328) (hB : B ≤ w.heap.size) (hB' : B' ≤ w.heap.size) :
    Calls Try.prog 79 #[.slice A n c, .slice A' n' c'] w fun e w' => ∃ A1 c1, e = .returned (.slice A1 (n + n') c1) ∧ OB w' w.heap.size A1 (n + n') c1 (l ++ l') ∧ Below w.heap.size w w' := by
  go_enter Try.func79, Try.ntmps79
  go_wp2_with (first
    | (at_builtin; refine wpList_appb_nil etb rfl (.tmp 6) (.tmp 7) rfl rfl rfl w.heap.size h (by omega) (Nat.le_refl _) ?_; intro A1 c1 w1 h1 hb1)
    | (at_builtin; refine wpList_appb etb rfl (.tmp 9) (.tmp 10) rfl rfl rfl w.heap.size h1 (h'.below (hb1.mono hB')) (by omega) hb1.size ?_; intro A2 c2 w2 h2 hb2 _ _))
  go_ret
  exact ⟨_, _, rfl, h2, hb1.trans hb2⟩




end Go.Proofs.Ytnppihlalhaldaa
