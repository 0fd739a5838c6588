/-
  Walk: 'known' of the statements of layer 5.
  Conditions: none.
-/
import Derived.Test.YtfmfcgpofkccgaaTypShow
import Derived.Test.YtfmfcgpofkccgaaTypParse
import Derived.KernelRfl
namespace Go.Proofs.Ytfmfcgpofkccgaa
set_option linter.unusedVariables false
set_option linter.unusedSimpArgs false
open Go.RowKit
theorem kt1 : Ty.encS 3 (-2) = ([254, 255], 0) := by kernel_rfl
theorem kt2 : Ty.decS 6 [1, 2] = (513, 0) := by kernel_rfl
theorem kt3 : Ty.showS 9 [97, 34, 98] = ([34, 97, 92, 34, 98, 34], 0) := by kernel_rfl
theorem kt4 : Ty.parseS 5 [48, 55] = ([], 4) := by kernel_rfl
set_option maxRecDepth 100000 in
set_option maxHeartbeats 4000000 in
theorem known05_any (w : World) : Calls Try.prog 9 #[] w fun e w' => e = .returned (.bool true) ∧ Below w.heap.size w w' := by
  have E := Encode_any 3 (-2) w (by omega) (by omega)
  rw [kt1] at E
  replace E := Lib.hid E
  have N := fun w => TName_any 6 w
  rw [show (Ty.kd 6).name = [117, 49, 54] from rfl] at N
  have K := fun w => TKnown_any 0 w
  rw [show knownB 0 = false from rfl] at K
  replace N := Lib.hid N; replace K := Lib.hid K
  have kc := fun (w : World) (C : Array Value) (n c : Nat) => Lib.run_convert_bytes_const (P := Try.prog) w 22 5 C n c Try.underlying22 Try.underlying5
  go_enter Try.func9, Try.ntmps9
  go_wp2_with fail
  refine (E.out).mono ?_
  rintro e w1 ⟨A1, c1, rfl, o1, b1⟩
  dsimp only [List.length_cons, List.length_nil] at o1
  have r2 := RB.lit w1 [.int .u8 1, .int .u8 2] [1, 2] rfl (n := 2) rfl (by omega)
  have bl2 := alloc_one w1 (.cells #[.int .u8 1, .int .u8 2] 5)
  have D := Decode_any 6 _ r2 (by simp)
  rw [kt2] at D
  replace D := Lib.hid D
  have d2 := below_step b1 bl2 (Nat.le_refl _)
  clear r2
  go_wp2_with fail
  refine (D.out).mono ?_
  rintro e w3 ⟨rfl, b3⟩
  have d3 := below_step d2 b3 (Nat.le_refl _)
  have r4 := RB.litm w3 [.int .u8 97, .int .u8 34, .int .u8 98] [97, 34, 98] (3, 3 + 1) rfl (n := 3) rfl (by omega)
  have bl4 := alloc_one w3 (.cells #[.int .u8 97, .int .u8 34, .int .u8 98] 5 (3, 3 + 1))
  have S := Show_anyT 9 _ r4 (by simp)
  rw [kt3] at S
  replace S := Lib.hid S
  have d4 := below_step d3 bl4 (Nat.le_refl _)
  have o4 := (o1.below (below_step bl2 b3 (Nat.le_refl _))).below bl4
  clear r4 o1
  go_wp2_with fail
  refine (S.out).mono ?_
  rintro e w5 ⟨rfl, b5⟩
  have d5 := below_step d4 b5 (Nat.le_refl _)
  have hs := T_toList [34, 97, 92, 34, 98, 34]
  have HS := Lib.hid hs; clear hs
  have P := Parse_anyT 5 [48, 55] w5 (by decide)
  rw [kt4] at P
  replace P := Lib.hid P
  go_wp2_with fail
  refine (P.out).mono ?_
  rintro e w6 ⟨A6, c6, rfl, o6, b6⟩
  have d6 := below_step d5 b6 (Nat.le_refl _)
  have o6' := (o4.below b5).below b6
  have e1 := convb o6'.rb
  have hs := HS.out
  clear o6 o4
  go_wp2_with fail
  refine (N.out _).mono ?_
  rintro e w7 ⟨rfl, b7⟩
  have d7 := below_step d6 b7 (Nat.le_refl _)
  have hn := T_toList [117, 49, 54]
  go_wp2_with fail
  refine (K.out _).mono ?_
  rintro e w8 ⟨rfl, b8⟩
  go_wp2_with fail
  go_ret
  exact ⟨ret_bool (by decide), below_step d7 b8 (Nat.le_refl _)⟩
end Go.Proofs.Ytfmfcgpofkccgaa
