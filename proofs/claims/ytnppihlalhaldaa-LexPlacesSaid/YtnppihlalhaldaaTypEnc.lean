/-
  Layer 5, plain laws: numbers there and back.
  Conditions: none.
-/
import Derived.Test.YtnppihlalhaldaaTypParse
namespace Go.Proofs.Ytnppihlalhaldaa
set_option linter.unusedVariables false
set_option linter.unusedSimpArgs false
theorem mod_pow (n : Int) (k : Nat) (hk : k ≤ 8) : (n % 18446744073709551616).toNat % 2 ^ (8 * k) = (n % ((2 ^ (8 * k) : Nat) : Int)).toNat := by
  have hd : (2 ^ (8 * k) : Nat) ∣ 18446744073709551616 := by
    rw [show (18446744073709551616 : Nat) = 2 ^ 64 by decide]
    exact Nat.pow_dvd_pow 2 (by omega)
  have hd' : ((2 ^ (8 * k) : Nat) : Int) ∣ 18446744073709551616 := Int.natCast_dvd_natCast.2 hd
  have hp : 0 < 2 ^ (8 * k) := Nat.pow_pos (by decide)
  have e : ((((n % 18446744073709551616).toNat % 2 ^ (8 * k) : Nat)) : Int) = (((n % ((2 ^ (8 * k) : Nat) : Int)).toNat : Nat) : Int) := by
    rw [Int.natCast_emod, Int.toNat_of_nonneg (by omega), Int.emod_emod_of_dvd _ hd', Int.toNat_of_nonneg (Int.emod_nonneg _ (by omega))]
  exact Int.ofNat.inj e
theorem dec_enc {t n : Int} {x : List UInt8} (h : Ty.encS t n = (x, 0)) : Ty.decS t x = (n, 0) ∧ x.length = (Ty.kd t).size ∧ (Ty.limS t).2.2 = true ∧ (Ty.limS t).1 ≤ n ∧ n ≤ (Ty.limS t).2.1 := by
  cases hok : (Ty.limS t).2.2 with
  | false => rw [enc_type hok] at h; simp at h
  | true =>
    by_cases hr : n < (Ty.limS t).1 ∨ (Ty.limS t).2.1 < n
    · rw [enc_range hok hr] at h; simp at h
    · rw [enc_ok hok hr] at h
      simp only [Prod.mk.injEq, and_true] at h
      have hlen : x.length = (Ty.kd t).size := by rw [← h, Oct.lb_length]
      refine ⟨?_, hlen, rfl, by omega, by omega⟩
      have hlim := lim_ok hok
      have hb0 : (Ty.kd t).bits ≠ 0 := by
        intro e
        unfold Ty.limS at hok
        rw [if_pos e] at hok
        cases hok
      unfold Ty.decS
      rw [if_neg hb0, hlen, if_neg (by omega), if_neg (by omega)]
      rcases hlim with ⟨s1, s2, s3, s4, s5⟩ | ⟨s1, s2, s3, s4, s5, s6⟩
      · rw [if_pos s1, ← h, Oct.le_lb, pow_256, Oct.sgn_mod, ← Oct.sgn_mod, mod_pow n _ s3, Oct.sgn_of n _ (by omega) (by omega) (by omega)]
      · have hpw := Nat.pow_le_pow_right (show 0 < 2 by decide) s6
        rw [if_neg (by rw [s1]; decide), ← h, Oct.le_lb, pow_256, mod_pow n _ (by omega)]
        have e1 : (n % ((2 ^ (8 * (Ty.kd t).size) : Nat) : Int)) = n := Int.emod_eq_of_lt (by omega) (by omega)
        rw [e1, if_neg (by omega), Int.toNat_of_nonneg (by omega)]
theorem enc_dec {t m : Int} {b : List UInt8} (h : Ty.decS t b = (m, 0)) : Ty.encS t m = (b, 0) := by
  unfold Ty.decS at h
  split at h
  · simp at h
  · rename_i hb0
    split at h
    · simp at h
    · rename_i hlt
      split at h
      · simp at h
      · rename_i hgt
        have hlen : b.length = (Ty.kd t).size := by omega
        rcases kd_num t with ⟨h0, _⟩ | ⟨k1, k2, k3, k4⟩ | ⟨k1, k2, k3, k4, k5, _⟩
        · exact absurd h0 hb0
        · rw [if_pos k1] at h
          simp only [Prod.mk.injEq, and_true] at h
          have hb := Oct.sgn_bounds (Oct.le b) (8 * (Ty.kd t).size) (by omega)
          have hok : (Ty.limS t).2.2 = true := by unfold Ty.limS; rw [if_neg hb0, if_pos k1]
          have hl : (Ty.limS t).1 = -((2 ^ (8 * (Ty.kd t).size - 1) : Nat) : Int) ∧ (Ty.limS t).2.1 = ((2 ^ (8 * (Ty.kd t).size - 1) : Nat) : Int) - 1 := by
            constructor <;> (unfold Ty.limS; rw [if_neg hb0, if_pos k1, k2])
          rw [enc_ok hok (by rw [hl.1, hl.2]; omega)]
          congr 1
          have hm := Oct.sgn_emod (Oct.le b) (8 * (Ty.kd t).size)
          rw [h] at hm
          have hle := Oct.le_lt b
          rw [hlen, pow_256] at hle
          have e1 : Oct.lb (Ty.kd t).size (m % 18446744073709551616).toNat = Oct.lb (Ty.kd t).size ((m % 18446744073709551616).toNat % 256 ^ (Ty.kd t).size) := (Oct.lb_mod _ _ _ (Nat.le_refl _)).symm
          rw [e1, pow_256, mod_pow m _ k4, hm, Int.toNat_natCast, Nat.mod_eq_of_lt hle, ← hlen, Oct.lb_le]
        · rw [if_neg (by rw [k1]; decide)] at h
          split at h
          · simp at h
          · rename_i hw
            simp only [Prod.mk.injEq, and_true] at h
            have hok : (Ty.limS t).2.2 = true := by unfold Ty.limS; rw [if_neg hb0, if_neg (by rw [k1]; decide)]
            have hl : (Ty.limS t).1 = 0 ∧ (Ty.limS t).2.1 = ((2 ^ (Ty.kd t).bits : Nat) : Int) - 1 := by
              constructor <;> (unfold Ty.limS; rw [if_neg hb0, if_neg (by rw [k1]; decide)])
            have hle := Oct.le_lt b
            have hle2 : Oct.le b < 4294967296 := Nat.lt_of_lt_of_le hle (by rw [hlen]; exact Nat.le_trans (Nat.pow_le_pow_right (by decide) k5) (by decide))
            rw [enc_ok hok (by rw [hl.1, hl.2]; omega)]
            congr 1
            rw [show (m % 18446744073709551616).toNat = Oct.le b by omega, ← hlen, Oct.lb_le]
end Go.Proofs.Ytnppihlalhaldaa
