/-
  Walk: ParamsNil.
  Conditions: none.
-/
import Derived.Test.YtgkhpebhhkdgoaaJ18
namespace Go.Proofs.Ytgkhpebhhkdgoaa
set_option linter.unusedVariables false
set_option linter.unusedSimpArgs false
open Go.RowKit
set_option maxRecDepth 100000 in
set_option maxHeartbeats 8000000 in
theorem ParamsNil_walk (w : World) (k : Int) {i j : Int} {A : Option Addr} {n c : Nat} {b : List UInt8} (hk : (Lit.int .i64 k).wf = true) (hi : (Lit.int .i64 i).wf = true) (hj : (Lit.int .i64 j).wf = true) (rb : RB w w.heap.size A n c b) :
    Calls Try.prog 3 #[.int .i64 k, .agg #[.int .i64 i, .int .i64 j, .slice A n c]] w fun e w' => e = .returned (.bool true) ∧ Below w.heap.size w w' := by
  have b0 := alloc_one w (.cells #[.int .i64 i, .int .i64 j, .slice A n c] 24)
  have K0 := Blk.new w 24 #[.int .i64 i, .int .i64 j, .slice A n c]
  have F0 := K0.three
  have KN := Lib.hid known33_any
  have N1 := Lib.hid (Number_nil k 0)
  have N2 := Lib.hid (Rpdo_nil k)
  have N3 := Lib.hid (Tpdo_nil k)
  have N4 := Lib.hid Sync_nil
  have N5 := Lib.hid (Words_nil k)
  have N6 := Lib.hid Peers_nil
  have N7 := Lib.hid Period_nil
  have N8 := Lib.hid (Guard_nil i j A n c)
  clear hk hi hj rb
  by_cases hn : 1000 < n
  · go_enter Try.func3, Try.ntmps3
    go_wp2_with fail
    refine (KN.out _).mono ?_
    rintro e w1 ⟨rfl, b1⟩
    go_wp2_with fail
    go_ret
    exact ⟨rfl, below_step b0 b1 (Nat.le_refl _)⟩
  · go_enter Try.func3, Try.ntmps3
    go_wp2_with fail
    refine (N1.out _).mono ?_
    rintro e w1 ⟨rfl, b1⟩
    have d1 := below_step b0 b1 (Nat.le_refl _)
    replace K0 := K0.later b1
    clear b0 b1 F0
    go_wp2_with fail
    refine (N2.out _).mono ?_
    rintro e w2 ⟨rfl, b2⟩
    have a2 := alloc_one w2 (.cells #[.int .u32 0, .int .i64 0, .slice none 0 0] 31)
    have d2 := below_step (below_step d1 b2 (Nat.le_refl _)) a2 (Nat.le_refl _)
    replace K0 := (K0.later b2).later a2
    clear d1 b2 a2
    go_wp2_with fail
    refine (N3.out _).mono ?_
    rintro e w3 ⟨rfl, b3⟩
    have a3 := alloc_one w3 (.cells #[.int .u32 0, .int .i64 0, .int .i64 0, .int .i64 0, .slice none 0 0] 35)
    have d3 := below_step (below_step d2 b3 (Nat.le_refl _)) a3 (Nat.le_refl _)
    replace K0 := (K0.later b3).later a3
    clear d2 b3 a3
    go_wp2_with fail
    refine (N4.out _).mono ?_
    rintro e w4 ⟨rfl, b4⟩
    have d4 := below_step d3 b4 (Nat.le_refl _)
    replace K0 := K0.later b4
    clear d3 b4
    go_wp2_with fail
    refine (N5.out _).mono ?_
    rintro e w5 ⟨rfl, b5⟩
    have d5 := below_step d4 b5 (Nat.le_refl _)
    replace K0 := K0.later b5
    clear d4 b5
    go_wp2_with fail
    refine (N6.out _).mono ?_
    rintro e w6 ⟨rfl, b6⟩
    have d6 := below_step d5 b6 (Nat.le_refl _)
    replace K0 := K0.later b6
    clear d5 b6
    go_wp2_with fail
    refine (N7.out _).mono ?_
    rintro e w7 ⟨rfl, b7⟩
    have d7 := below_step d6 b7 (Nat.le_refl _)
    replace K0 := K0.later b7
    have F7 := K0.three
    clear d6 b7
    go_wp2_with fail
    refine (N8.out _).mono ?_
    rintro e w8 ⟨rfl, b8⟩
    have d8 := below_step d7 b8 (Nat.le_refl _)
    go_wp2_with fail
    refine (KN.out _).mono ?_
    rintro e w9 ⟨rfl, b9⟩
    go_wp2_with fail
    go_ret
    exact ⟨rfl, below_step d8 b9 (Nat.le_refl _)⟩
end Go.Proofs.Ytgkhpebhhkdgoaa
