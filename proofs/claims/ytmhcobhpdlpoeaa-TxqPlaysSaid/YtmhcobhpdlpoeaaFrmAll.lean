/-
  Walk: the reference's All.
  Conditions: none.
-/
import Derived.Test.YtmhcobhpdlpoeaaFrm
import Derived.Test.YtmhcobhpdlpoeaaFrmMem
import Derived.Test.YtmhcobhpdlpoeaaPhase
namespace Go.Proofs.Ytmhcobhpdlpoeaa
set_option linter.unusedVariables false
set_option linter.unusedSimpArgs false
open Go.RowKit
set_option maxRecDepth 100000 in
set_option maxHeartbeats 2000000 in
/-- Two slices of the same frames. -/
theorem All_any {A : Option Addr} {n c B : Nat} {fs : List Can.Fr} {A' : Option Addr} {c' B' : Nat} (w : World) (h : RF w B A n c fs) (h' : RF w B' A' n c' fs) (hB : B ≤ w.heap.size) (hB' : B' ≤ w.heap.size) :
    Calls Try.prog 27 #[.slice A n c, .slice A' n c'] w fun e w' => e = .returned (.bool true) ∧ Below w.heap.size w w' := by
  have hn := h.lt
  go_enter Try.func27, Try.ntmps27
  go_wp2_with fail
  go_loopw [5] (fun i wr => ∃ k : Nat, k ≤ n ∧ i = .int .i64 k ∧ Below w.heap.size w wr) (fun i _ => n - (intOf i).toNat)
  case atStart => exact ⟨0, by omega, rfl, Below.refl _ _⟩
  case round =>
    obtain ⟨k, hk, rfl, hbel⟩ := hrel
    by_cases hlt : k < n
    · obtain ⟨b, o, A1, n1, c1, rfl, hbB, q0, q1, q2, hr⟩ := (h.below (hbel.mono hB)).at_ hlt
      obtain ⟨b', o', A2, n2, c2, rfl, hbB', q0', q1', q2', hr'⟩ := (h'.below (hbel.mono hB')).at_ hlt
      generalize fs.getD k Can.zero = f at *
      obtain ⟨fi, fr, fd⟩ := f
      dsimp only at *
      have SR := Lib.hid (Can.sameB_refl ⟨fi, fr, fd⟩)
      replace q0 := cell_regrown q0
      replace q1 := cell_regrown q1
      replace q2 := cell_regrown q2
      replace q0' := cell_regrown q0'
      replace q1' := cell_regrown q1'
      replace q2' := cell_regrown q2'
      have hz := hbel.size
      go_wp2_with fail
      refine region_later (by kernel_rfl) ?_
      refine phase_later (by kernel_rfl) 2 (below_drew _) [0, 1, 4, 5, 2, 6, 3, 7] rfl (by kernel_rfl) ?_
      simp only [picks, nth]
      repeat (go_big_quiet_step (fail))
      refine wpQuiet_nil ?_
      refine phase_op 8 1 rfl (by kernel_rfl) (by decide) ?_
      simp only [nth]
      go_wp2_with fail
      refine (RSame_any fi fr fi fr _ hr.drew hr'.drew (Nat.le_trans hB hz) (Nat.le_trans hB' hz)).mono ?_
      rintro e w1 ⟨he, b1⟩
      rw [SR.out] at he
      subst he
      have d1 := below_step (below_drew wr) b1 (Nat.le_refl _)
      go_wp2_with fail
      refine behind_later d1 ?_
      refine phase_later (by kernel_rfl) 0 (Below.refl _ _) [9] rfl (by kernel_rfl) ?_
      simp only [picks, nth]
      repeat (go_big_quiet_step (fail))
      refine wpQuiet_nil ?_
      refine phase_end (by kernel_rfl) ?_
      go_wp2_with fail
      go_roundw
      case rel => exact ⟨k + 1, by omega, by go_num, below_step hbel d1 (Nat.le_refl _)⟩
      case measure => simp [intOf] <;> omega
    · obtain rfl : k = n := by omega
      go_wp2_with fail
      go_ret
      exact ⟨rfl, hbel⟩
end Go.Proofs.Ytmhcobhpdlpoeaa
