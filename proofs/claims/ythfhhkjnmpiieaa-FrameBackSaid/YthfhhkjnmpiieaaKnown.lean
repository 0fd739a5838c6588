/-
  Walk: 'known' of the statements of layer 10.
  Conditions: none.
-/
import Derived.Test.YthfhhkjnmpiieaaFrmParse
import Derived.Test.YthfhhkjnmpiieaaFrmMem
import Derived.KernelRfl
namespace Go.Proofs.Ythfhhkjnmpiieaa
set_option linter.unusedVariables false
set_option linter.unusedSimpArgs false
open Go.RowKit
theorem kn1 : Can.showS ⟨385, false, [10, 255]⟩ = ([49, 56, 49, 35, 48, 97, 102, 102], 0) := by decide +kernel
theorem kn2 : Can.parseS [48, 48, 53, 35, 82] = (⟨5, true, []⟩, 0) := by kernel_rfl
theorem kn3 : Can.parseS [56, 48, 48, 35] = (Can.zero, 9) := by kernel_rfl
set_option maxRecDepth 100000 in
set_option maxHeartbeats 1000000 in
theorem known_any (w : World) : Calls Try.prog 8 #[] w fun e w' => e = .returned (.bool true) ∧ Below w.heap.size w w' := by
  have C1 := Lib.hid (fun w => Check_any 2048 false (A := none) (n := 0) (c := 0) w (by omega))
  go_enter Try.func8, Try.ntmps8
  go_wp2_with fail
  refine (Show_any 385 false _ (two_bytes w (x := 10) (y := 255) rfl rfl) (by simp)).mono ?_
  rintro e w1 ⟨he, b1⟩
  rw [kn1] at he
  subst he
  have d1 := below_step (alloc_one _ _) b1 (Nat.le_refl _)
  have hs := T_toList [49, 56, 49, 35, 48, 97, 102, 102]
  have HS := Lib.hid hs; clear hs
  go_wp2_with fail
  refine (Parse_any [48, 48, 53, 35, 82] _ (by decide)).mono ?_
  rintro e w2 ⟨A2, c2, he, h2, b2⟩
  rw [kn2] at he
  subst he
  have d2 := below_step d1 b2 (Nat.le_refl _)
  clear h2
  go_wp2_with fail
  refine (Parse_any [56, 48, 48, 35] _ (by decide)).mono ?_
  rintro e w3 ⟨A3, c3, he, h3, b3⟩
  rw [kn3] at he
  subst he
  have k3 := Blk.made b3
  obtain ⟨f0, f1, f2, f3⟩ := Blk.three k3
  have d3 := below_step (below_step d2 (alloc_one _ _) (Nat.le_refl _)) b3 (Nat.le_refl _)
  clear h3
  have hs := HS.out
  have hlt := k3.lt
  go_wp2_with fail
  refine (C1.out _).mono ?_
  rintro e w4 ⟨rfl, b4⟩
  go_wp2_with fail
  go_ret
  exact ⟨ret_bool (by decide), below_step (below_step d3 (alloc_one _ _) (Nat.le_refl _)) b4 (Nat.le_refl _)⟩
end Go.Proofs.Ythfhhkjnmpiieaa
