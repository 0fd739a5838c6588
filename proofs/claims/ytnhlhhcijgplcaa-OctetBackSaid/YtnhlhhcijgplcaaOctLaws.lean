/-
  Plain laws of numbers with a sign in bytes: as OctetSigns and OctetBack need them.
  Conditions: none.
-/
import Derived.Test.YtnhlhhcijgplcaaOctPure
namespace Go.Proofs.Ytnhlhhcijgplcaa.Oct
set_option linter.unusedVariables false
set_option linter.unusedSimpArgs false
theorem pow_256 (k : Nat) : (256 : Nat) ^ k = 2 ^ (8 * k) := by rw [Nat.pow_mul]
theorem signS_at (n k : Nat) (h1 : 1 ≤ k) (h2 : k ≤ 8) : signS n (8 * (k : Int)) = (sgn n (8 * k), 0) := by
  unfold signS
  rw [if_pos (by omega), show (8 * (k : Int)).toNat = 8 * k by omega]
theorem lowS_at (n k : Nat) (h1 : 1 ≤ k) (h2 : k ≤ 8) : lowS n (8 * (k : Int)) = (n % 256 ^ k, 0) := by
  unfold lowS
  rw [if_pos (by omega), show (8 * (k : Int)).toNat = 8 * k by omega, pow_256]
theorem sgn_nat (n k : Nat) (h2 : k ≤ 8) : (sgn n (8 * k) % 18446744073709551616).toNat % 256 ^ k = n % 256 ^ k := by
  have hm := sgn_emod n (8 * k)
  have hd : (2 ^ (8 * k) : Nat) ∣ 18446744073709551616 := by
    rw [show (18446744073709551616 : Nat) = 2 ^ 64 by decide]
    exact Nat.pow_dvd_pow 2 (by omega)
  have hd' : ((2 ^ (8 * k) : Nat) : Int) ∣ 18446744073709551616 := Int.natCast_dvd_natCast.2 hd
  have e : (((sgn n (8 * k) % 18446744073709551616).toNat % 2 ^ (8 * k) : Nat) : Int) = ((n % 2 ^ (8 * k) : Nat) : Int) := by
    rw [Int.natCast_emod, Int.toNat_of_nonneg (by omega), Int.emod_emod_of_dvd _ hd', hm]
  rw [pow_256]
  exact Int.ofNat.inj e
theorem putIntS_at (n k : Nat) (h1 : 1 ≤ k) (h2 : k ≤ 8) : putIntS [] (k : Int) (sgn n (8 * k)) = (lb k n, 0) := by
  unfold putIntS
  have hb := sgn_bounds n (8 * k) (by omega)
  rw [if_pos (by omega), Int.toNat_natCast, if_pos hb, List.nil_append, ← lb_mod k _ k (Nat.le_refl _), sgn_nat n k h2, lb_mod k _ k (Nat.le_refl _)]
theorem putS_at (l : List UInt8) (n k : Nat) (h1 : 1 ≤ k) (h2 : k ≤ 8) : putS l (k : Int) (n % 256 ^ k) = (l ++ lb k n, 0) := by
  unfold putS
  have := Nat.mod_lt n (Nat.pow_pos (n := k) (by decide : 0 < 256))
  rw [if_pos (by omega), Int.toNat_natCast, if_neg (by omega), lb_mod k _ k (Nat.le_refl _)]
theorem getS_at (l r : List UInt8) (n k : Nat) (h1 : 1 ≤ k) (h2 : k ≤ 8) : getS (l ++ lb k n ++ r) (l.length : Int) (k : Int) = (n % 256 ^ k, 0) := by
  unfold getS
  have hl : (l ++ lb k n ++ r).length = l.length + k + r.length := by simp only [List.length_append, lb_length]
  have hc : cut (l ++ lb k n ++ r) l.length k = lb k n := by
    unfold cut
    rw [List.append_assoc, List.drop_left, List.take_left' (lb_length k n)]
  rw [if_pos (by omega), if_neg (by omega), Int.toNat_natCast, Int.toNat_natCast, hc, le_lb]
theorem getIntS_at (n k : Nat) (h1 : 1 ≤ k) (h2 : k ≤ 8) : getIntS (lb k n) 0 (k : Int) = (sgn n (8 * k), 0) := by
  have h : getS (lb k n) 0 (k : Int) = (n % 256 ^ k, 0) := by simpa using getS_at [] [] n k h1 h2
  unfold getIntS
  rw [h, if_pos rfl, Int.toNat_natCast, pow_256, sgn_mod]
/-- The sign is the highest bit of the last byte. -/
theorem sign_bit (n k : Nat) : (sgn n (8 * (k + 1)) < 0) ↔ 128 ≤ ((lb (k + 1) n).getD k 0).toNat := by
  have e : (lb (k + 1) n).getD k 0 = UInt8.ofNat (n / 256 ^ k) := by
    rw [lb, List.getD, List.getElem?_append_right (by rw [lb_length]; exact Nat.le_refl _), lb_length]; simp
  rw [e, UInt8.toNat_ofNat']
  unfold sgn
  have h1 : (2 : Nat) ^ (8 * (k + 1)) = 256 ^ (k + 1) := (pow_256 _).symm
  have h2 : (2 : Nat) ^ (8 * (k + 1) - 1) = 256 ^ k * 128 := by
    rw [pow_256, show 8 * (k + 1) - 1 = 8 * k + 7 by omega, Nat.pow_add]
  have h3 : (2 : Int) ^ (8 * (k + 1)) = ((256 ^ (k + 1) : Nat) : Int) := by rw [pow_int, h1]
  rw [h3, h1, h2, Nat.mod_pow_succ]
  have hr : n % 256 ^ k < 256 ^ k := Nat.mod_lt _ (Nat.pow_pos (by decide))
  have hq : n / 256 ^ k % 256 < 256 := Nat.mod_lt _ (by decide)
  have hp : (256 : Nat) ^ (k + 1) = 256 ^ k * 256 := Nat.pow_succ ..
  show _ ↔ 128 ≤ n / 256 ^ k % 256
  generalize n / 256 ^ k % 256 = q at *
  generalize n % 256 ^ k = r at *
  rw [hp]
  generalize 256 ^ k = P at *
  by_cases h : q < 128
  · have : P * (q + 1) ≤ P * 128 := Nat.mul_le_mul_left P h
    rw [Nat.mul_add, Nat.mul_one] at this
    rw [if_pos (by omega)]
    omega
  · have : P * 128 ≤ P * q := Nat.mul_le_mul_left P (by omega)
    have h4 : P * (q + 1) ≤ P * 256 := Nat.mul_le_mul_left P (by omega)
    rw [Nat.mul_add, Nat.mul_one] at h4
    rw [if_neg (by omega)]
    omega
end Go.Proofs.Ytnhlhhcijgplcaa.Oct
