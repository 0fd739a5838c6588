/-
  Walk: 'known' of the statements of layer 16.
  Conditions: none.
-/
import Derived.Test.YtnppihlalhaldaaLexScan
import Derived.Test.YtnppihlalhaldaaLexOps
import Derived.KernelRfl
namespace Go.Proofs.Ytnppihlalhaldaa
set_option linter.unusedVariables false
set_option linter.unusedSimpArgs false
open Go.RowKit
theorem kt1 : Lx.scanS [48, 120, 49, 48, 49, 55, 58, 45, 53, 32, 33, 32, 121] = ([⟨3, [48, 120, 49, 48, 49, 55], 4119, 0⟩, ⟨5, [58], 0, 6⟩, ⟨2, [45, 53], -5, 7⟩], 0, 0) := by kernel_rfl
theorem kt2 : Lx.scanS [108, 101, 116, 32, 48, 55] = ([], 12, 4) := by kernel_rfl
set_option maxRecDepth 100000 in
set_option maxHeartbeats 4000000 in
theorem known16_any (w : World) : Calls Try.prog 8 #[] w fun e w' => e = .returned (.bool true) ∧ Below w.heap.size w w' := by
  have S1 := Scan_any [48, 120, 49, 48, 49, 55, 58, 45, 53, 32, 33, 32, 121] w (by simp)
  have S2 := fun w => Scan_any [108, 101, 116, 32, 48, 55] w (by simp)
  rw [kt1] at S1
  rw [kt2] at S2
  have C := fun w => LSame_any ⟨3, [48, 120, 49, 48, 49, 55], 4119, 0⟩ ⟨3, [48, 120, 49, 48, 49, 55], 4119, 0⟩ 0 0 w
  rw [show Lx.like ⟨3, [48, 120, 49, 48, 49, 55], 4119, 0⟩ ⟨3, [48, 120, 49, 48, 49, 55], 4119, 0⟩ = true by decide] at C
  simp only [tkV] at C
  replace S1 := Lib.hid S1; replace S2 := Lib.hid S2; replace C := Lib.hid C
  go_enter Try.func8, Try.ntmps8
  go_wp2_with fail
  refine (S1.out).mono ?_
  rintro e w1 ⟨A1, c1, rfl, o1, b1⟩
  dsimp only [List.length_cons, List.length_nil] at o1
  go_wp2_with fail
  refine (S2.out _).mono ?_
  rintro e w2 ⟨A2, c2, rfl, o2, b2⟩
  have o3 := o1.below b2
  have d2 := below_step b1 b2 (Nat.le_refl _)
  have hle := o3.rs.lt
  obtain ⟨g, rfl, hg1, hg2, q⟩ := o3.cells (by omega)
  have p0 := q 0 (by omega)
  have p1 := q 1 (by omega)
  have p2 := q 2 (by omega)
  have f0 := cell_regrown p0.1
  have f1 := cell_regrown p0.2.1
  have f2 := cell_regrown p0.2.2.1
  have f3 := cell_regrown p0.2.2.2
  have g1 := cell_regrown p1.2.1
  have g2 := cell_regrown p2.2.2.1
  have g3 := cell_regrown p2.2.2.2
  simp only [List.getD_cons_zero, List.getD_cons_succ, Nat.zero_mul, Nat.one_mul, Nat.zero_add, Nat.reduceMul, Nat.reduceAdd] at f0 f1 f2 f3 g1 g2 g3
  have t1 := T_toList [58]
  clear q p0 p1 p2 o1 o2 o3
  go_wp2_with fail
  refine region_later (by kernel_rfl) ?_
  refine phase_later (by kernel_rfl) 3 (below_drew _) [0, 1, 2, 3, 4, 5, 6, 7, 8, 9, 10, 11, 12, 13, 14, 15, 16, 17, 18, 19, 20, 21, 22, 23, 24, 25, 26, 27, 28, 29, 30, 31, 32, 33, 34, 35, 36, 37, 38, 39, 40, 41, 42, 43, 44, 47, 45, 48, 46, 49] rfl (by kernel_rfl) ?_
  simp only [picks, nth]
  repeat (go_big_quiet_step (fail))
  refine wpQuiet_nil ?_
  refine phase_op 50 2 rfl (by kernel_rfl) (by decide) ?_
  simp only [nth]
  go_wp2_with (go_at_call 12; refine (C.out _).mono ?_; rintro e w5 ⟨rfl, b5⟩)
  have b6 : Below w2.heap.size w2 w5 := (below_drew w2).trans b5
  refine behind_later b6 ?_
  refine phase_later (by kernel_rfl) 0 (Below.refl _ _) [51, 52] rfl (by kernel_rfl) ?_
  simp only [picks, nth]
  repeat (go_big_quiet_step (fail))
  refine wpQuiet_nil ?_
  refine phase_end (by kernel_rfl) ?_
  go_wp2_with fail
  go_ret
  exact ⟨rfl, below_step d2 b6 (Nat.le_refl _)⟩
end Go.Proofs.Ytnppihlalhaldaa
