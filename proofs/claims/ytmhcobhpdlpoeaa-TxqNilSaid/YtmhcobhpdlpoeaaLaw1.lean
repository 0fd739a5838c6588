/-
  Walk: TxqNil.
  Conditions: none.
-/
import Derived.Test.YtmhcobhpdlpoeaaKnown
namespace Go.Proofs.Ytmhcobhpdlpoeaa
set_option linter.unusedVariables false
set_option linter.unusedSimpArgs false
open Go.ChangeShapes Go.WideShapes Go.ChangeAt Go.RowKit
set_option maxRecDepth 100000 in
set_option maxHeartbeats 8000000 in
theorem TxqNil_walk {i : Int} {r : Bool} {A : Option Addr} {n c : Nat} {l : List UInt8} (W : World) (wi : (Lit.int .i64 i).wf = true) (h : RB W W.heap.size A n c l) :
    Calls Try.prog 6 #[.agg #[.int .i64 i, .bool r, .slice A n c]] W fun e w' => e = .returned (.bool true) ∧ Below W.heap.size W w' := by
  by_cases h1 : 1000 < n
  · go_enter Try.func6, Try.ntmps6
    go_wp2_with fail
    refine (known_any _).mono ?_
    rintro e w1 ⟨rfl, b1⟩
    go_wp2_with fail
    go_ret
    exact ⟨rfl, below_step (alloc_one _ _) b1 (Nat.le_refl _)⟩
  have K0 := Blk.new W 29 #[.int .i64 i, .bool r, .slice A n c]
  have d0 := alloc_one W (.cells #[.int .i64 i, .bool r, .slice A n c] 29)
  have SR := Lib.hid (Can.sameB_refl ⟨0, false, []⟩)
  go_enter Try.func6, Try.ntmps6
  go_wp2_with fail
  refine (Clear_nil _).mono ?_
  rintro e w1 ⟨rfl, rfl⟩
  go_wp2_with fail
  refine (Take_nil _).mono ?_
  rintro e w2 ⟨rfl, b2⟩
  have d2 := below_step d0 b2 (Nat.le_refl _)
  replace K0 := K0.later b2
  have K1 := (Blk.new w2 29 #[.int .i64 0, .bool false, .slice none 0 0]).alloc (.cells #[.int .i64 0, .slice none 0 0, .int .i64 0, .bool false] 56)
  have K2 := Blk.new (w2.alloc (.cells #[.int .i64 0, .bool false, .slice none 0 0] 29)) 56 #[.int .i64 0, .slice none 0 0, .int .i64 0, .bool false]
  have b3 := alloc_two w2 (.cells #[.int .i64 0, .bool false, .slice none 0 0] 29) (.cells #[.int .i64 0, .slice none 0 0, .int .i64 0, .bool false] 56)
  replace K0 := K0.later b3
  have d3 := below_step d2 b3 (Nat.le_refl _)
  simp only [World.size_alloc] at K2
  have F0 := K0.three
  have F1 := K1.three
  have hlt := K0.lt
  have hlt0 := d2.size
  go_wp2_with fail
  refine (Put_nil (f := undef) i r A n c _).mono ?_
  rintro e w4 ⟨rfl, b4⟩
  have d4 := below_step d3 b4 (Nat.le_refl _)
  replace K0 := K0.later b4
  replace K1 := K1.later b4
  replace K2 := K2.later b4
  replace F0 := K0.three
  replace F1 := K1.three
  go_wp2_with fail
  refine (Put_zero i r A n c _ K2).mono ?_
  rintro e w5 ⟨rfl, b5⟩
  have d5 := below_step d4 b5 (Nat.le_refl _)
  replace K1 := K1.later b5
  replace F1 := K1.three
  clear F0
  go_wp2_with fail
  refine (RSame_any 0 false 0 false _ (RB.none_ (B := 0)) (RB.none_ (B := 0)) (Nat.zero_le _) (Nat.zero_le _)).mono ?_
  rintro e w6 ⟨he, b6⟩
  rw [SR.out] at he
  subst he
  have d6 := below_step d5 b6 (Nat.le_refl _)
  go_wp2_with fail
  refine (Len_nil _).mono ?_
  rintro e w7 ⟨rfl, rfl⟩
  go_wp2_with fail
  refine (Lost_nil _).mono ?_
  rintro e w7 ⟨rfl, rfl⟩
  go_wp2_with fail
  refine (Spilt_nil _).mono ?_
  rintro e w7 ⟨rfl, rfl⟩
  go_wp2_with fail
  refine (List_nil _).mono ?_
  rintro e w7 ⟨rfl, rfl⟩
  go_wp2_with fail
  refine (Copy_nil _).mono ?_
  rintro e w7 ⟨rfl, rfl⟩
  go_wp2_with fail
  refine (known_any _).mono ?_
  rintro e w8 ⟨rfl, b8⟩
  go_wp2_with fail
  go_ret
  exact ⟨rfl, below_step d6 b8 (Nat.le_refl _)⟩
end Go.Proofs.Ytmhcobhpdlpoeaa
