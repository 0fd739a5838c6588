/-
  Walk: OctetSigns.
  Conditions: none.
-/
import Derived.Test.YtnhlhhcijgplcaaKnown
import Derived.Test.YtnhlhhcijgplcaaOctLaws
import Derived.Test.YtnhlhhcijgplcaaFrame
namespace Go.Proofs.Ytnhlhhcijgplcaa
set_option linter.unusedVariables false
set_option linter.unusedSimpArgs false
open Go.ChangeShapes Go.WideShapes Go.ChangeAt Go.RowKit
set_option maxRecDepth 100000 in
set_option maxHeartbeats 2000000 in
theorem OctetSigns_walk (W : World) (z : Int) (wz : (Lit.int .i64 z).wf = true) :
    Calls Try.prog 8 #[.int .i64 z] W fun e w' => e = .returned (.bool true) ∧ Below W.heap.size W w' := by
  obtain ⟨hz1, hz2⟩ := bounds_i64 wz
  have ew : IntKind.u64.wrap z = ((z % 18446744073709551616).toNat : Int) := by rw [IntKind.wrap_u64, Int.toNat_of_nonneg (by omega)]
  have hn : (z % 18446744073709551616).toNat < 18446744073709551616 := by omega
  generalize (z % 18446744073709551616).toNat = n at *
  go_enter Try.func8, Try.ntmps8
  go_wp2_with fail
  go_loopw [3] (fun v wr => ∃ j : Nat, 1 ≤ j ∧ j ≤ 9 ∧ v = .int .i64 j ∧ Below W.heap.size W wr) (fun v _ => 9 - (intOf v).toNat)
  case atStart => exact ⟨1, by omega, by omega, rfl, Below.refl _ _⟩
  case round =>
    obtain ⟨j, hj1, hj, rfl, hbel⟩ := hrel
    by_cases hlt : j ≤ 8
    · have c1 := fun w => Sign_any n (8 * (j : Int)) w hn
      rw [Oct.signS_at n j hj1 hlt] at c1
      have c3 := fun w => Low_any n (8 * (j : Int)) w hn
      rw [Oct.lowS_at n j hj1 hlt] at c3
      have hb := Oct.sgn_bounds n (8 * j) (by omega)
      have hb2 : 2 ^ (8 * j - 1) ≤ 2 ^ 63 := Nat.pow_le_pow_right (by decide) (by omega)
      have hlo : n % 256 ^ j < 18446744073709551616 := Nat.lt_of_le_of_lt (Nat.mod_le _ _) hn
      have c2 := fun w => PutInt_any (j : Int) (Oct.sgn n (8 * j)) w (RB.none_ (w := w) (B := 0)) (by omega) (by omega) (by omega) (by omega)
      rw [Oct.putIntS_at n j hj1 hlt] at c2
      have c4 := fun w => Put_any (j : Int) (n % 256 ^ j) w (RB.none_ (w := w) (B := 0)) (by omega) (by omega) hlo
      rw [Oct.putS_at [] n j hj1 hlt, List.nil_append] at c4
      have c5 := fun (A : Option Addr) (n' c B : Nat) (w : World) (hb : RB w B A n' c (Oct.lb j n)) => GetInt_any 0 (j : Int) w hb
      rw [Oct.getIntS_at n j hj1 hlt] at c5
      obtain ⟨k, rfl⟩ : ∃ k, j = k + 1 := ⟨j - 1, by omega⟩
      have hsb := Oct.sign_bit n k
      have hlb := Oct.lb_length (k + 1) n
      have hby := byte_lt ((Oct.lb (k + 1) n).getD k 0)
      generalize Oct.sgn n (8 * (k + 1)) = m at *
      generalize n % 256 ^ (k + 1) = lo at *
      generalize Oct.lb (k + 1) n = bs at *
      have C1 := Lib.hid c1; have C2 := Lib.hid c2; have C3 := Lib.hid c3; have C4 := Lib.hid c4; have C5 := Lib.hid c5
      have HSB := Lib.hid hsb
      clear c1 c2 c3 c4 c5 hsb hb hb2
      go_wp2_with fail
      refine (C1.out _).mono ?_
      rintro e w1 ⟨rfl, rfl⟩
      go_wp2_with fail
      refine (C2.out _).mono ?_
      rintro e w2 ⟨A2, c2, rfl, h2, b2⟩
      go_wp2_with fail
      refine (C3.out _).mono ?_
      rintro e w3 ⟨rfl, rfl⟩
      go_wp2_with fail
      refine (C4.out _).mono ?_
      rintro e w4 ⟨A4, c4, rfl, h4, hb4⟩
      have b4 := below_step b2 hb4 (Nat.le_refl _)
      have g2 := h2.below hb4

      rw [hlb] at g2 h4
      go_wp2_with fail
      refine (C5.out _ _ _ _ _ g2.rb).mono ?_
      rintro e w5 ⟨rfl, rfl⟩
      have e2 := convb g2.rb
      have e4 := convb h4.rb
      obtain ⟨g, rfl, hg1, hg2⟩ := g2.head (by omega)
      have hc := g2.cell (i := k) (by omega)
      generalize bs.getD k 0 = y at *
      by_cases hs : m < 0
      · have hy : 128 ≤ y.toNat := HSB.out.1 hs
        have ht : (!decide (128 ≤ (y.toNat : Int))) = false := by simp; omega
        go_wp2_with fail
        go_roundw
        case rel => exact ⟨k + 2, by omega, by omega, by go_num, below_step hbel b4 (Nat.le_refl _)⟩
        case measure => simp [intOf] <;> omega
      · have hy : y.toNat < 128 := Nat.lt_of_not_le fun h => hs (HSB.out.2 h)
        have ht : (!decide (m < 0) == decide (128 ≤ (y.toNat : Int))) = false := by simp [hs]; omega
        go_wp2_with fail
        go_roundw
        case rel => exact ⟨k + 2, by omega, by omega, by go_num, below_step hbel b4 (Nat.le_refl _)⟩
        case measure => simp [intOf] <;> omega
    · obtain rfl : j = 9 := by omega
      go_wp2_with fail
      refine (known_any _).mono ?_
      rintro e w1 ⟨rfl, b1⟩
      go_wp2_with fail
      go_ret
      exact ⟨rfl, below_step hbel b1 (Nat.le_refl _)⟩
end Go.Proofs.Ytnhlhhcijgplcaa
