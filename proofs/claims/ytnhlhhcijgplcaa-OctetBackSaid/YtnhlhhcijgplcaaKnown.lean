/-
  Walks: what must come of fixed calls, layer 1.
  Conditions: none.
-/
import Derived.Test.YtnhlhhcijgplcaaOctHexU
import Derived.Test.YtnhlhhcijgplcaaOctBits
import Derived.Test.YtnhlhhcijgplcaaOctRef
namespace Go.Proofs.Ytnhlhhcijgplcaa
set_option linter.unusedVariables false
set_option linter.unusedSimpArgs false
open Go.RowKit
theorem kn1 : Oct.putS [] 2 ((258 : Nat)) = ([2, 1], 0) := by decide +kernel
theorem kn2 : Oct.putIntS [] 2 (-2) = ([254, 255], 0) := by decide +kernel
theorem kn3 : Oct.signS 501 8 = (-11, 0) := by decide +kernel
theorem kn4 : Oct.unhexS [48, 97, 102, 102] = ([10, 255], 0) := by decide +kernel
theorem kn5 : Oct.putIntS [] 1 128 = ([], 9) := by decide +kernel
theorem kn6 : Oct.hexS [10, 255] = [48, 97, 102, 102] := by decide +kernel
set_option maxHeartbeats 1000000 in
theorem known_any (w : World) : Calls Try.prog 9 #[] w fun e w' => e = .returned (.bool true) ∧ Below w.heap.size w w' := by
  go_enter Try.func9, Try.ntmps9
  go_wp2_with fail
  refine (Put_any 2 258 w (RB.none_ (B := 0)) (by omega) (by omega) (by omega)).mono ?_
  rintro e w1 ⟨A1, c1, he, h1, b1⟩
  rw [kn1] at he h1
  subst he
  go_wp2_with fail
  refine (PutInt_any 2 (-2) _ (RB.none_ (B := 0)) (by omega) (by omega) (by omega) (by omega)).mono ?_
  rintro e w2 ⟨A2, c2, he, h2, hb2⟩
  rw [kn2] at he h2
  subst he
  have b2 := below_step b1 hb2 (Nat.le_refl _)
  go_wp2_with fail
  refine (Sign_any 501 8 _ (by omega)).mono ?_
  rintro e w3 ⟨he, rfl⟩
  rw [kn3] at he
  subst he
  go_wp2_with fail
  refine (Unhex_any [48, 97, 102, 102] _ (by decide)).mono ?_
  rintro e w4 ⟨A4, c4, he, h4, hb4⟩
  rw [kn4] at he h4
  subst he
  have b4 := below_step b2 hb4 (Nat.le_refl _)
  go_wp2_with fail
  refine (PutInt_any 1 128 _ (RB.none_ (B := 0)) (by omega) (by omega) (by omega) (by omega)).mono ?_
  rintro e w5 ⟨A5, c5, he, h5, hb5⟩
  rw [kn5] at he
  subst he
  have b5 := below_step b4 hb5 (Nat.le_refl _)
  clear h5
  have g1 : OB w5 _ A1 2 c1 [2, 1] := ((h1.below hb2).below hb4).below hb5
  have g2 : OB w5 _ A2 2 c2 [254, 255] := (h2.below hb4).below hb5
  have g4 : OB w5 _ A4 2 c4 [10, 255] := h4.below hb5
  have e1 := convb g1.rb
  have e2 := convb g2.rb
  clear h1 h2 h4
  go_wp2_with fail
  refine (Hex_any _ g4.rb (by decide) (Nat.le_refl _)).mono ?_
  rintro e w6 ⟨he, hb6⟩
  rw [kn6] at he
  subst he
  have b6 := below_step b5 hb6 (Nat.le_refl _)
  go_wp2_with fail
  go_ret
  exact ⟨rfl, b6⟩
end Go.Proofs.Ytnhlhhcijgplcaa
