/-
  Walks: the references' words Join, Lent, Kept, Spoil, Count.
  Conditions: none.
-/
import Derived.Test.YthfhhkjnmpiieaaProg
import Derived.Test.YthfhhkjnmpiieaaPhase
namespace Go.Proofs.Ythfhhkjnmpiieaa
set_option linter.unusedVariables false
set_option linter.unusedSimpArgs false
open Go.RowKit
theorem etb : ET Try.prog 22 5 1 1 (.int .u8 0) := ⟨Try.underlying22, info_parts (by kernel_rfl), rfl, by decide⟩
theorem convb {w : World} {B : Nat} {A : Option Addr} {n c : Nat} {l : List UInt8} (h : RB w B A n c l) :
    (convert 22 9 (.slice A n c)).run Try.prog w = .ok (.string ⟨l.toArray⟩) w := h.conv 22 5 Try.underlying22 Try.underlying5 _ Try.underlying9

theorem convb_grow {w : World} {A : Option Addr} {n c B : Nat} {l : List UInt8} (h : RB w B A n c l) (hB : B ≤ w.heap.size) : ∀ (d : Nat) (os : Array Obj),
    (convert 22 9 (.slice A n c)).run Try.prog (Go.Sort.grow (redrawn w d) os) = .ok (.string ⟨l.toArray⟩) (Go.Sort.grow (redrawn w d) os) := fun d os => convb (h.below ((below_regrown w d os).mono hB))

set_option maxHeartbeats 400000 in
/-- Bytes in new memory, a mark behind them. -/
theorem Lent_any {A : Option Addr} {n c B : Nat} {l : List UInt8} (w : World) (h : RB w B A n c l) (hn : n < 140737488355328) (hB : B ≤ w.heap.size) :
    Calls Try.prog 9 #[.slice A n c] w fun e w' => ∃ A1 c1, e = .returned (.slice A1 n c1) ∧ OB w' w.heap.size A1 (n + 1) c1 (l ++ [77]) ∧ Below w.heap.size w w' := by
  have hlt := h.lt
  go_enter Try.func9, Try.ntmps9
  go_wp2_with (first
    | (at_builtin; refine wpList_appb_nil etb rfl (.tmp 4) (.tmp 5) rfl rfl rfl w.heap.size h (by omega) (Nat.le_refl _) ?_; intro A1 c1 w1 h1 hb1)
    | (at_builtin; refine wpList_appb_one etb rfl (.tmp 7) (.tmp 8) rfl rfl rfl w.heap.size h1 77 rfl (by omega) hb1.size ?_; intro A2 c2 w2 h2 hb2 _ _; have hle := h2.rb.le))
  go_ret
  exact ⟨_, _, rfl, h2, hb1.trans hb2⟩


set_option maxHeartbeats 400000 in
/-- Are bytes, with a mark behind them, as they were? -/
theorem Kept_any {A : Option Addr} {n c B : Nat} {l : List UInt8} {x : UInt8} {A' : Option Addr} {n' c' B' : Nat} {l' : List UInt8} (w : World) (h : RB w B A (n + 1) c (l ++ [x])) (h' : RB w B' A' n' c' l') :
    Calls Try.prog 15 #[.slice A n c, .slice A' n' c'] w fun e w' => e = .returned (.bool (l == l' && x == 77)) ∧ w = w' := by
  have hn : l.length = n := by have := h.len; simp at this; exact this
  have hn' := h'.len
  have e1 := convb (h.take (k := n) (by omega))
  have e2 := convb h'
  rw [show (l ++ [x]).take n = l by rw [← hn]; simp] at e1
  obtain ⟨b, o, rfl, hb, hc⟩ := h.at_ (by omega)
  have hcx := hc n (by omega)
  have hlt := h.lt
  have hle := h.le
  rw [show (l ++ [x]).getD n 0 = x by simp [List.getD, ← hn]] at hcx
  clear hc
  by_cases hq : l = l'
  · obtain rfl : n = n' := by rw [← hn, ← hn', hq]
    subst hq
    clear hn hn' h h'
    go_enter Try.func15, Try.ntmps15
    go_wp2
    go_ret
    exact ⟨congrArg (fun z => Ending.returned (.bool z)) (by rw [← byte_beq x 77]; simp), rfl⟩
  · have hq' : (l == l') = false := by simpa using hq
    clear hn hn' h h'
    go_enter Try.func15, Try.ntmps15
    go_wp2
    go_ret
    exact ⟨by rw [hq']; rfl, rfl⟩



end Go.Proofs.Ythfhhkjnmpiieaa
