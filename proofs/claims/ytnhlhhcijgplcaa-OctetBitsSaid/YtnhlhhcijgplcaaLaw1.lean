/-
  Walk: OctetBits.
  Conditions: none.
-/
import Derived.Test.YtnhlhhcijgplcaaKnown
import Derived.Test.YtnhlhhcijgplcaaFrame
namespace Go.Proofs.Ytnhlhhcijgplcaa
open Go.ChangeShapes Go.WideShapes Go.ChangeAt Go.RowKit
theorem sign_low (n : Nat) (x : Int) (h : (Oct.lowS n x).2 = 0) : Oct.signS (Oct.lowS n x).1 x = Oct.signS n x := by
  unfold Oct.lowS at *
  unfold Oct.signS
  split at h
  · rename_i h1
    rw [if_pos h1, if_pos h1]
    simp only
    rw [Oct.sgn_mod, if_pos h1]
  · cases h
theorem low_sign (n : Nat) (x : Int) (h : (Oct.lowS n x).2 = 0) : Oct.lowS ((Oct.signS n x).1 % 18446744073709551616).toNat x = Oct.lowS n x := by
  unfold Oct.lowS at *
  unfold Oct.signS
  split at h
  · rename_i h1
    rw [if_pos h1, if_pos h1]
    simp only
    obtain ⟨b, rfl⟩ := Int.eq_ofNat_of_zero_le (show 0 ≤ x by omega)
    rw [Int.toNat_natCast]
    have hb : b ≤ 64 := by omega
    have hm := Oct.sgn_emod n b
    have hd : (2 ^ b : Nat) ∣ 18446744073709551616 := by
      rw [show (18446744073709551616 : Nat) = 2 ^ 64 by decide]
      exact Nat.pow_dvd_pow 2 hb
    have hd' : ((2 ^ b : Nat) : Int) ∣ 18446744073709551616 := Int.natCast_dvd_natCast.2 hd
    have e : (((Oct.sgn n b % 18446744073709551616).toNat % 2 ^ b : Nat) : Int) = ((n % 2 ^ b : Nat) : Int) := by
      rw [Int.natCast_emod, Int.toNat_of_nonneg (by omega), Int.emod_emod_of_dvd _ hd', hm]
    rw [Int.ofNat.inj e, if_pos h1]
  · cases h
theorem low_errno (n : Nat) (x : Int) : (Oct.lowS n x).2 = 0 ∨ (Oct.lowS n x).2 = 1 := by
  unfold Oct.lowS
  split
  · exact .inl rfl
  · exact .inr rfl
theorem sign_range (n : Nat) (x : Int) : -9223372036854775808 ≤ (Oct.signS n x).1 ∧ (Oct.signS n x).1 < 9223372036854775808 := by
  unfold Oct.signS
  split
  · rename_i h1
    have := Oct.sgn_bounds n x.toNat (by omega)
    have h2 : 2 ^ (x.toNat - 1) ≤ 2 ^ 63 := Nat.pow_le_pow_right (by decide) (by omega)
    simp only
    omega
  · decide
set_option maxHeartbeats 1000000 in
theorem OctetBits_walk (W : World) (a : Int) (wa : (Lit.int .u64 a).wf = true) (x : Int) (wx : (Lit.int .i64 x).wf = true) :
    Calls Try.prog 5 #[.int .u64 a, .int .i64 x] W fun e w' => e = .returned (.bool true) ∧ Below W.heap.size W w' := by
  obtain ⟨ha, hb⟩ := bounds_u64 wa
  obtain ⟨hx1, hx2⟩ := bounds_i64 wx
  obtain ⟨n, rfl⟩ := Int.eq_ofNat_of_zero_le ha
  have hl := low_lt n x
  have hs := sign_range n x
  have c1 := fun w => Low_any n x w (by omega)
  have c2 := fun w => RLow_any n x w (by omega)
  have c3 := fun w => Sign_any n x w (by omega)
  have c4 := fun w => RSign_any n x w (by omega)
  have c5 := fun w => Sign_any (Oct.lowS n x).1 x w hl
  have c6 := fun w => Low_any ((Oct.signS n x).1 % 18446744073709551616).toNat x w (by omega)
  have k1 := sign_low n x
  have k2 := low_sign n x
  have k3 := low_errno n x
  generalize Oct.lowS n x = p at *
  generalize Oct.signS n x = q at *
  obtain ⟨p, e⟩ := p
  obtain ⟨q, f⟩ := q
  dsimp only at *
  have C1 := Lib.hid c1; have C2 := Lib.hid c2; have C3 := Lib.hid c3; have C4 := Lib.hid c4; have C5 := Lib.hid c5; have C6 := Lib.hid c6
  have K1 := Lib.hid k1; have K2 := Lib.hid k2
  clear c1 c2 c3 c4 c5 c6 k1 k2
  rcases k3 with rfl | rfl
  all_goals
    go_enter Try.func5, Try.ntmps5
    go_wp2_with fail
    refine (C1.out _).mono ?_
    rintro e w1 ⟨rfl, rfl⟩
    go_wp2_with fail
    refine (C2.out _).mono ?_
    rintro e w1 ⟨rfl, rfl⟩
    go_wp2_with fail
    refine (C3.out _).mono ?_
    rintro e w1 ⟨rfl, rfl⟩
    go_wp2_with fail
    refine (C4.out _).mono ?_
    rintro e w1 ⟨rfl, rfl⟩
    go_wp2_with fail
  · refine (C5.out _).mono ?_
    rintro e w1 ⟨he, rfl⟩
    rw [K1.out (by simp)] at he
    subst he
    go_wp2_with fail
    have ew : IntKind.u64.wrap q = ((q % 18446744073709551616).toNat : Int) := by rw [IntKind.wrap_u64, Int.toNat_of_nonneg (by omega)]
    rw [ew]
    refine (C6.out _).mono ?_
    rintro e w1 ⟨he, rfl⟩
    rw [K2.out (by simp)] at he
    subst he
    go_wp2_with fail
    refine (known_any _).mono ?_
    rintro e w1 ⟨rfl, b1⟩
    go_wp2_with fail
    go_ret
    exact ⟨rfl, b1⟩
  · refine (known_any _).mono ?_
    rintro e w1 ⟨rfl, b1⟩
    go_wp2_with fail
    go_ret
    exact ⟨rfl, b1⟩
end Go.Proofs.Ytnhlhhcijgplcaa
