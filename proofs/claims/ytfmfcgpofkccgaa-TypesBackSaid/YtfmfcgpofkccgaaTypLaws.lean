/-
  Layer 5, plain laws: numbers and texts there and back.
  Conditions: none.
-/
import Derived.Test.YtfmfcgpofkccgaaTypParse
import Derived.Test.YtfmfcgpofkccgaaTypShow
namespace Go.Proofs.Ytfmfcgpofkccgaa
set_option linter.unusedVariables false
set_option linter.unusedSimpArgs false
theorem mod_pow (n : Int) (k : Nat) (hk : k ≤ 8) : (n % 18446744073709551616).toNat % 2 ^ (8 * k) = (n % ((2 ^ (8 * k) : Nat) : Int)).toNat := by
  have hd : (2 ^ (8 * k) : Nat) ∣ 18446744073709551616 := by
    rw [show (18446744073709551616 : Nat) = 2 ^ 64 by decide]
    exact Nat.pow_dvd_pow 2 (by omega)
  have hd' : ((2 ^ (8 * k) : Nat) : Int) ∣ 18446744073709551616 := Int.natCast_dvd_natCast.2 hd
  have hp : 0 < 2 ^ (8 * k) := Nat.pow_pos (by decide)
  have e : ((((n % 18446744073709551616).toNat % 2 ^ (8 * k) : Nat)) : Int) = (((n % ((2 ^ (8 * k) : Nat) : Int)).toNat : Nat) : Int) := by
    rw [Int.natCast_emod, Int.toNat_of_nonneg (by omega), Int.emod_emod_of_dvd _ hd', Int.toNat_of_nonneg (Int.emod_nonneg _ (by omega))]
  exact Int.ofNat.inj e
theorem dec_enc {t n : Int} {x : List UInt8} (h : Ty.encS t n = (x, 0)) : Ty.decS t x = (n, 0) ∧ x.length = (Ty.kd t).size ∧ (Ty.limS t).2.2 = true ∧ (Ty.limS t).1 ≤ n ∧ n ≤ (Ty.limS t).2.1 := by
  cases hok : (Ty.limS t).2.2 with
  | false => rw [enc_type hok] at h; simp at h
  | true =>
    by_cases hr : n < (Ty.limS t).1 ∨ (Ty.limS t).2.1 < n
    · rw [enc_range hok hr] at h; simp at h
    · rw [enc_ok hok hr] at h
      simp only [Prod.mk.injEq, and_true] at h
      have hlen : x.length = (Ty.kd t).size := by rw [← h, Oct.lb_length]
      refine ⟨?_, hlen, rfl, by omega, by omega⟩
      have hlim := lim_ok hok
      have hb0 : (Ty.kd t).bits ≠ 0 := by
        intro e
        unfold Ty.limS at hok
        rw [if_pos e] at hok
        cases hok
      unfold Ty.decS
      rw [if_neg hb0, hlen, if_neg (by omega), if_neg (by omega)]
      rcases hlim with ⟨s1, s2, s3, s4, s5⟩ | ⟨s1, s2, s3, s4, s5, s6⟩
      · rw [if_pos s1, ← h, Oct.le_lb, pow_256, Oct.sgn_mod, ← Oct.sgn_mod, mod_pow n _ s3, Oct.sgn_of n _ (by omega) (by omega) (by omega)]
      · have hpw := Nat.pow_le_pow_right (show 0 < 2 by decide) s6
        rw [if_neg (by rw [s1]; decide), ← h, Oct.le_lb, pow_256, mod_pow n _ (by omega)]
        have e1 : (n % ((2 ^ (8 * (Ty.kd t).size) : Nat) : Int)) = n := Int.emod_eq_of_lt (by omega) (by omega)
        rw [e1, if_neg (by omega), Int.toNat_of_nonneg (by omega)]
theorem enc_dec {t m : Int} {b : List UInt8} (h : Ty.decS t b = (m, 0)) : Ty.encS t m = (b, 0) := by
  unfold Ty.decS at h
  split at h
  · simp at h
  · rename_i hb0
    split at h
    · simp at h
    · rename_i hlt
      split at h
      · simp at h
      · rename_i hgt
        have hlen : b.length = (Ty.kd t).size := by omega
        rcases kd_num t with ⟨h0, _⟩ | ⟨k1, k2, k3, k4⟩ | ⟨k1, k2, k3, k4, k5, _⟩
        · exact absurd h0 hb0
        · rw [if_pos k1] at h
          simp only [Prod.mk.injEq, and_true] at h
          have hb := Oct.sgn_bounds (Oct.le b) (8 * (Ty.kd t).size) (by omega)
          have hok : (Ty.limS t).2.2 = true := by unfold Ty.limS; rw [if_neg hb0, if_pos k1]
          have hl : (Ty.limS t).1 = -((2 ^ (8 * (Ty.kd t).size - 1) : Nat) : Int) ∧ (Ty.limS t).2.1 = ((2 ^ (8 * (Ty.kd t).size - 1) : Nat) : Int) - 1 := by
            constructor <;> (unfold Ty.limS; rw [if_neg hb0, if_pos k1, k2])
          rw [enc_ok hok (by rw [hl.1, hl.2]; omega)]
          congr 1
          have hm := Oct.sgn_emod (Oct.le b) (8 * (Ty.kd t).size)
          rw [h] at hm
          have hle := Oct.le_lt b
          rw [hlen, pow_256] at hle
          have e1 : Oct.lb (Ty.kd t).size (m % 18446744073709551616).toNat = Oct.lb (Ty.kd t).size ((m % 18446744073709551616).toNat % 256 ^ (Ty.kd t).size) := (Oct.lb_mod _ _ _ (Nat.le_refl _)).symm
          rw [e1, pow_256, mod_pow m _ k4, hm, Int.toNat_natCast, Nat.mod_eq_of_lt hle, ← hlen, Oct.lb_le]
        · rw [if_neg (by rw [k1]; decide)] at h
          split at h
          · simp at h
          · rename_i hw
            simp only [Prod.mk.injEq, and_true] at h
            have hok : (Ty.limS t).2.2 = true := by unfold Ty.limS; rw [if_neg hb0, if_neg (by rw [k1]; decide)]
            have hl : (Ty.limS t).1 = 0 ∧ (Ty.limS t).2.1 = ((2 ^ (Ty.kd t).bits : Nat) : Int) - 1 := by
              constructor <;> (unfold Ty.limS; rw [if_neg hb0, if_neg (by rw [k1]; decide)])
            have hle := Oct.le_lt b
            have hle2 : Oct.le b < 4294967296 := Nat.lt_of_lt_of_le hle (by rw [hlen]; exact Nat.le_trans (Nat.pow_le_pow_right (by decide) k5) (by decide))
            rw [enc_ok hok (by rw [hl.1, hl.2]; omega)]
            congr 1
            rw [show (m % 18446744073709551616).toNat = Oct.le b by omega, ← hlen, Oct.lb_le]
theorem chk_num {t most : Int} {b : List UInt8} (hn : (Ty.kd t).name ≠ []) (hb : 0 < (Ty.kd t).bits) : Ty.checkS t most b = (Ty.decS t b).2 := by
  rw [chk_val, if_neg hn, if_pos hb]
theorem num_named {t : Int} (hb : 0 < (Ty.kd t).bits) : (Ty.kd t).name ≠ [] := by
  rcases kd_named t with h | h
  · exact h
  · rw [h] at hb; exact absurd hb (by decide)
theorem parse_show {t : Int} {b x : List UInt8} (h : Ty.showS t b = (x, 0)) : Ty.parseS t x = (b, 0) := by
  rw [show_val] at h
  split at h
  · rename_i h1
    simp only [Prod.mk.injEq] at h
    exact absurd h.2 h1
  · rename_i h1
    have hck : Ty.checkS t 256 b = 0 := by simpa using h1
    have hnm : (Ty.kd t).name ≠ [] := by
      intro e
      rw [chk_val, if_pos e] at hck
      cases hck
    split at h
    · rename_i hb
      simp only [Prod.mk.injEq, and_true] at h
      rw [chk_num hnm hb] at hck
      have hd : Ty.decS t b = ((Ty.decS t b).1, 0) := by rw [← hck]
      have hr := dec_range t b
      rw [parse_val, if_neg hnm, if_pos hb, ← h, Ty.parN_numT _ hr.1 hr.2, if_neg (by simp)]
      exact enc_dec hd
    · rename_i hb
      split at h
      · rename_i ht
        simp only [Prod.mk.injEq, and_true] at h
        subst ht
        have hraw : Ty.rawS 9 x = (b, 0) := by rw [raw_nine, ← h, Ty.unq_quo]
        rw [parse_val, if_neg hnm, if_neg hb, hraw, if_neg (by simp), if_neg (by rw [hck]; simp)]
      · rename_i ht
        simp only [Prod.mk.injEq, and_true] at h
        have hraw : Ty.rawS t x = (b, 0) := by
          rw [← h, raw_hex ht]
          unfold Oct.unhexS
          rw [Oct.pairs_hex]
        rw [parse_val, if_neg hnm, if_neg hb, hraw, if_neg (by simp), if_neg (by rw [hck]; simp)]
theorem show_parse {t : Int} {s y : List UInt8} (h : Ty.parseS t s = (y, 0)) : Ty.showS t y = (s, 0) ∧ Ty.checkS t 256 y = 0 := by
  rw [parse_val] at h
  split at h
  · simp at h
  · rename_i hnm
    split at h
    · rename_i hb
      split at h
      · rename_i h1
        simp only [Prod.mk.injEq] at h
        exact absurd h.2 h1
      · rename_i h1
        have hp : Ty.parN s = ((Ty.parN s).1, 0) := by
          have : (Ty.parN s).2 = 0 := by simpa using h1
          rw [← this]
        obtain ⟨h2, _⟩ := dec_enc h
        have hck : Ty.checkS t 256 y = 0 := by rw [chk_num hnm hb, h2]
        refine ⟨?_, hck⟩
        rw [show_val, if_neg (by rw [hck]; simp), if_pos hb, h2, (Ty.numT_parN hp).1]
    · rename_i hb
      split at h
      · rename_i h1
        simp only [Prod.mk.injEq] at h
        exact absurd h.2 h1
      · rename_i h1
        split at h
        · rename_i h2
          simp only [Prod.mk.injEq] at h
          exact absurd h.2 h2
        · rename_i h2
          simp only [Prod.mk.injEq, and_true] at h
          have hraw : Ty.rawS t s = (y, 0) := by
            have : (Ty.rawS t s).2 = 0 := by simpa using h1
            rw [← this, ← h]
          rw [h] at h2
          have hck : Ty.checkS t 256 y = 0 := by simpa using h2
          refine ⟨?_, hck⟩
          rw [show_val, if_neg (by rw [hck]; simp), if_neg hb]
          by_cases ht : t = 9
          · subst ht
            rw [if_pos rfl]
            rw [raw_nine] at hraw
            cases hu : Ty.unq s with
            | none => rw [hu] at hraw; simp at hraw
            | some z =>
              rw [hu] at hraw
              simp only [Prod.mk.injEq, and_true] at hraw
              subst hraw
              rw [Ty.quo_unq hu]
          · rw [if_neg ht]
            cases s with
            | nil => rw [raw_no ht (.inr rfl)] at hraw; simp at hraw
            | cons a r =>
              by_cases ha : a = 35
              · subst ha
                rw [raw_hex ht] at hraw
                unfold Oct.unhexS at hraw
                cases hp : Oct.pairs r with
                | none => rw [hp] at hraw; simp at hraw
                | some z =>
                  rw [hp] at hraw
                  simp only [Prod.mk.injEq, and_true] at hraw
                  subst hraw
                  rw [Oct.hex_pairs _ _ hp]
              · rw [raw_no (s := a :: r) ht (.inl ha)] at hraw; simp at hraw
theorem show_len {t : Int} {b : List UInt8} : (Ty.showS t b).1.length ≤ 600 := by
  rw [show_val]
  split
  · simp
  · rename_i h1
    have hck : Ty.checkS t 256 b = 0 := by simpa using h1
    split
    · have := Ty.numT_len (Ty.decS t b).1
      dsimp only
      omega
    · rename_i hb
      have hs := chk_small hck (by omega)
      split
      · have := quo_len b
        dsimp only
        omega
      · dsimp only
        rw [List.length_cons, Oct.hexS_length]
        omega
end Go.Proofs.Ytfmfcgpofkccgaa
