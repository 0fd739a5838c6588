/-
  Walk: 'known' of the statements of layer 12.
  Conditions: none.
-/
import Derived.Test.YtmhcobhpdlpoeaaTxqOps
import Derived.Test.YtmhcobhpdlpoeaaTxqRefOps
namespace Go.Proofs.Ytmhcobhpdlpoeaa
set_option linter.unusedVariables false
set_option linter.unusedSimpArgs false
open Go.RowKit
theorem below_mv {B : Nat} {w w1 w2 : World} {F : Nat → Prop} (h : Below B w w1) (k : Mv F w1 w2) (hB : B ≤ w1.heap.size) (hF : ∀ b, F b → B ≤ b) : Below B w w2 := h.trans (k.below hB hF)
theorem kn1 : Can.check ⟨385, false, []⟩ = 0 := by decide
theorem kn2 : Can.check ⟨129, false, []⟩ = 0 := by decide
theorem kn3 : Can.check ⟨0, false, []⟩ = 0 := by decide
theorem kn4 : Can.insS ⟨385, false, []⟩ [] = [⟨385, false, []⟩] := rfl
theorem kn5 : Can.insS ⟨129, false, []⟩ [⟨385, false, []⟩] = [⟨129, false, []⟩, ⟨385, false, []⟩] := by rfl
theorem QR.new (w : World) (room : Int) : QR (w.alloc (.cells #[.int .i64 room, .slice none 0 0, .int .i64 0, .bool false] 56)) (fun b => w.heap.size ≤ b) w.heap.size room [] 0 false :=
  ⟨Nat.le_refl _, none, 0, Blk.new _ _ _, RFp.none_ _ _⟩
set_option maxRecDepth 100000 in
set_option maxHeartbeats 4000000 in
theorem known_any (w : World) : Calls Try.prog 8 #[] w fun e w' => e = .returned (.bool true) ∧ Below w.heap.size w w' := by
  have q1 := QR.new w 2
  have d1 := alloc_one w (.cells #[.int .i64 2, .slice none 0 0, .int .i64 0, .bool false] 56)
  go_enter Try.func8, Try.ntmps8
  go_wp2_with fail
  refine (New_ok 2 w (by omega) (by omega)).mono ?_
  rintro e w1 ⟨rfl, rfl⟩
  go_wp2_with fail
  generalize hw1 : w.alloc (.cells #[.int .i64 2, .slice none 0 0, .int .i64 0, .bool false] 56) = w1 at *
  have HW1 := Lib.hid hw1; clear hw1
  refine (Put_in w1 q1 (by omega) (by omega) (RB.none_ (B := 0)) (Nat.zero_le _) kn1 (by decide)).mono ?_
  rintro e w2 ⟨rfl, q2, m2⟩
  rw [kn4] at q2
  have d2 := below_mv d1 m2 d1.size fun b h => by omega
  replace q2 := q2.mono (G := fun b => w.heap.size ≤ b) fun b hb h => by have := d1.size; omega
  go_wp2_with fail
  refine (Put_in w2 q2 (by omega) (by omega) (RB.none_ (B := 0)) (Nat.zero_le _) kn2 (by decide)).mono ?_
  rintro e w3 ⟨rfl, q3, m3⟩
  rw [kn5] at q3
  have d3 := below_mv d2 m3 d2.size fun b h => by omega
  replace q3 := q3.mono (G := fun b => w.heap.size ≤ b) fun b hb h => by have := d2.size; omega
  go_wp2_with fail
  refine (Put_full w3 q3 (by omega) (RB.none_ (B := 0)) kn3 (by decide) (by omega) (by omega)).mono ?_
  rintro e w4 ⟨rfl, q4, m4⟩
  have d4 := below_mv d3 m4 d3.size fun b h => by omega
  go_wp2_with fail
  refine (Take_any w4 _ q4).mono ?_
  rintro e w5 ⟨A5, n5, c5, rfl, r5, q5, m5⟩
  have d5 := below_mv d4 m5 d4.size fun b h => by omega
  have q6 := q5.below (alloc_one w5 (.cells #[.int .i64 129, .bool false, .slice A5 n5 c5] 29))
  have d6 := below_step d5 (alloc_one w5 (.cells #[.int .i64 129, .bool false, .slice A5 n5 c5] 29)) (Nat.le_refl _)
  have K6 := Blk.new w5 29 #[.int .i64 129, .bool false, .slice A5 n5 c5]
  have F6 := K6.three
  go_wp2_with fail
  refine (Len_any _ q6).mono ?_
  rintro e w7 ⟨rfl, rfl⟩
  go_wp2_with fail
  refine (Lost_any _ q6).mono ?_
  rintro e w7 ⟨rfl, rfl⟩
  go_wp2_with fail
  refine (Spilt_any _ q6).mono ?_
  rintro e w8 ⟨rfl, q8, m8⟩
  have d8 := below_mv d6 m8 d6.size fun b h => by omega
  go_wp2_with fail
  refine (Spilt_any _ q8).mono ?_
  rintro e w9 ⟨rfl, q9, m9⟩
  have d9 := below_mv d8 m9 d8.size fun b h => by omega
  go_wp2_with fail
  go_ret
  exact ⟨rfl, d9⟩
end Go.Proofs.Ytmhcobhpdlpoeaa
