/-
  Walk: TypesKnows.
  Conditions: none.
-/
import Derived.Test.YtfmfcgpofkccgaaKnown
import Derived.Test.YtfmfcgpofkccgaaTypRef
import Derived.Test.YtfmfcgpofkccgaaFrame
namespace Go.Proofs.Ytfmfcgpofkccgaa
set_option linter.unusedVariables false
set_option linter.unusedSimpArgs false
open Go.ChangeShapes Go.WideShapes Go.ChangeAt Go.RowKit
set_option maxRecDepth 100000 in
set_option maxHeartbeats 8000000 in
theorem TypesKnows_walk (W : World) (t : Int) (wt : (Lit.int .i64 t).wf = true) (s0 : ByteArray) (ws : s0.size ≤ maxLen) :
    Calls Try.prog 8 #[.int .i64 t, .string s0] W fun e w' => e = .returned (.bool true) ∧ Below W.heap.size W w' := by
  obtain ⟨s, rfl⟩ := T_of s0
  have hT := T_size s
  rw [hT] at ws
  by_cases hbig : 1000 < s.length
  · go_enter Try.func8, Try.ntmps8
    go_wp2_with fail
    refine (known05_any _).mono ?_
    rintro e w2 ⟨rfl, b2⟩
    go_wp2_with fail
    go_ret
    exact ⟨rfl, b2⟩
  · have L1 := Limits_any t W
    have L2 := fun w => RLimits_any t w
    have B1 := fun w => ByName_any s w
    have B2 := fun w => RByName_any s w
    have K1 := fun w => TKnown_any t w
    have K2 := fun w => RKnown_any t w
    have S1 := fun w => TSize_any t w
    have S2 := fun w => RSize_any t w
    have I1 := fun w => TBits_any t w
    have I2 := fun w => RTBits_any t w
    have G1 := fun w => TSigned_any t w
    have G2 := fun w => RSigned_any t w
    have N1 := fun w => TName_any t w
    have N2 := fun w => RName_any t w
    generalize Ty.limS t = L at *
    obtain ⟨lo, hi, ok⟩ := L
    generalize nameS s = nm at *
    obtain ⟨nt, nb⟩ := nm
    generalize knownB t = kb at *
    generalize (Ty.kd t).size = sz at *
    generalize (Ty.kd t).bits = bt at *
    generalize (Ty.kd t).sgn = sg at *
    generalize (Ty.kd t).name = na at *
    dsimp only at L2 B1 B2
    replace L1 := Lib.hid L1; replace L2 := Lib.hid L2; replace B1 := Lib.hid B1; replace B2 := Lib.hid B2
    replace K1 := Lib.hid K1; replace K2 := Lib.hid K2; replace S1 := Lib.hid S1; replace S2 := Lib.hid S2
    replace I1 := Lib.hid I1; replace I2 := Lib.hid I2; replace G1 := Lib.hid G1; replace G2 := Lib.hid G2
    replace N1 := Lib.hid N1; replace N2 := Lib.hid N2
    go_enter Try.func8, Try.ntmps8
    go_wp2_with fail
    refine (L1.out).mono ?_
    rintro e w1 ⟨rfl, b1⟩
    go_wp2_with fail
    refine (L2.out _).mono ?_
    rintro e _ ⟨rfl, rfl⟩
    go_wp2_with fail
    refine (B1.out _).mono ?_
    rintro e w2 ⟨rfl, b2⟩
    have d2 := below_step b1 b2 (Nat.le_refl _)
    go_wp2_with fail
    refine (B2.out _).mono ?_
    rintro e _ ⟨rfl, rfl⟩
    go_wp2_with fail
    refine (K1.out _).mono ?_
    rintro e w3 ⟨rfl, b3⟩
    have d3 := below_step d2 b3 (Nat.le_refl _)
    go_wp2_with fail
    refine (K2.out _).mono ?_
    rintro e _ ⟨rfl, rfl⟩
    go_wp2_with fail
    refine (S1.out _).mono ?_
    rintro e w4 ⟨rfl, b4⟩
    have d4 := below_step d3 b4 (Nat.le_refl _)
    go_wp2_with fail
    refine (S2.out _).mono ?_
    rintro e _ ⟨rfl, rfl⟩
    go_wp2_with fail
    refine (I1.out _).mono ?_
    rintro e w5 ⟨rfl, b5⟩
    have d5 := below_step d4 b5 (Nat.le_refl _)
    go_wp2_with fail
    refine (I2.out _).mono ?_
    rintro e _ ⟨rfl, rfl⟩
    go_wp2_with fail
    refine (G1.out _).mono ?_
    rintro e w6 ⟨rfl, b6⟩
    have d6 := below_step d5 b6 (Nat.le_refl _)
    go_wp2_with fail
    refine (G2.out _).mono ?_
    rintro e _ ⟨rfl, rfl⟩
    go_wp2_with fail
    refine (N1.out _).mono ?_
    rintro e w7 ⟨rfl, b7⟩
    have d7 := below_step d6 b7 (Nat.le_refl _)
    go_wp2_with fail
    refine (N2.out _).mono ?_
    rintro e _ ⟨rfl, rfl⟩
    go_wp2_with fail
    refine (known05_any _).mono ?_
    rintro e w8 ⟨rfl, b8⟩
    go_wp2_with fail
    go_ret
    exact ⟨rfl, below_step d7 b8 (Nat.le_refl _)⟩
end Go.Proofs.Ytfmfcgpofkccgaa
