/-
  Walks: octet.mask, extend, Low, Sign, PutInt, GetInt; Put and Get whole.
  Conditions: none.
-/
import Derived.Test.YtnppihlalhaldaaWords
import Derived.Test.YtnppihlalhaldaaOctPure
import Derived.Test.YtnppihlalhaldaaOctPut
import Derived.Test.YtnppihlalhaldaaOctGet
namespace Go.Proofs.Ytnppihlalhaldaa
set_option linter.unusedVariables false
set_option linter.unusedSimpArgs false
open Go.RowKit
theorem and_mask (n b : Nat) (hn : n < 18446744073709551616) (hb : b < 64) : bits .and .u64 (n : Int) (IntKind.u64.wrap (IntKind.u64.wrap ((2 : Int) ^ b) - 1)) = ((n % 2 ^ b : Nat) : Int) := by
  have hp : 0 < 2 ^ b := Nat.pow_pos (by decide)
  have hlt : 2 ^ b < 2 ^ 64 := Nat.pow_lt_pow_right (by decide) hb
  have e : IntKind.u64.wrap (IntKind.u64.wrap ((2 : Int) ^ b) - 1) = ((2 ^ b - 1 : Nat) : Int) := by
    rw [IntKind.wrap_u64, IntKind.wrap_u64, Oct.pow_int]; omega
  rw [e, u64_and_nat _ _ hn (by omega), Nat.and_two_pow_sub_one_eq_mod]
set_option maxHeartbeats 400000 in
theorem mask_any (n b : Nat) {x : Int} (hx : x = (b : Int)) (w : World) (hn : n < 18446744073709551616) (h1 : 1 ≤ b) (h2 : b ≤ 64) :
    Calls Try.prog 80 #[.int .u64 (n : Int), .int .i64 x] w fun e w' => e = .returned (.int .u64 ((n % 2 ^ b : Nat) : Int)) ∧ w = w' := by
  subst hx
  by_cases hb : b = 64
  · subst hb
    go_enter Try.func80, Try.ntmps80
    go_wp2
    go_ret
    exact ⟨ret_int (by rw [Nat.mod_eq_of_lt (by simpa using hn)]), rfl⟩
  · have ht : ((b : Int) == 64) = false := by rw [beq_eq_false_iff_ne]; omega
    have hlt : b < 64 := by omega
    clear hb
    go_enter Try.func80, Try.ntmps80
    go_wp2
    go_ret
    show _ ∧ _
    exact ⟨ret_int (and_mask n b hn hlt), rfl⟩
set_option maxHeartbeats 400000 in
theorem extend_any (n b : Nat) {x : Int} (hx : x = (b : Int)) (w : World) (hn : n < 18446744073709551616) (h1 : 1 ≤ b) (h2 : b ≤ 64) :
    Calls Try.prog 75 #[.int .u64 (n : Int), .int .i64 x] w fun e w' => e = .returned (.int .i64 (Oct.sgn n b)) ∧ w = w' := by
  subst hx
  go_enter Try.func75, Try.ntmps75
  go_wp2
  go_ret
  exact ⟨ret_int (by unfold wrap64; rw [IntKind.wrap_u64]; exact Oct.extend_val n b h1 h2), rfl⟩

set_option maxHeartbeats 400000 in
theorem Put_any {A : Option Addr} {n c B : Nat} {l : List UInt8} (x : Int) (m : Nat) (w : World) (hb : RB w B A n c l) (hn : n < 140737488355000) (hB : B ≤ w.heap.size) (hm : m < 18446744073709551616) :
    Calls Try.prog 70 #[.slice A n c, .int .i64 x, .int .u64 (m : Int)] w fun e w' =>
      ∃ A1 c1, e = .returned (.tuple #[.slice A1 (Oct.putS l x m).1.length c1, .int .i64 (Oct.putS l x m).2]) ∧ OB w' w.heap.size A1 (Oct.putS l x m).1.length c1 (Oct.putS l x m).1 ∧ Below w.heap.size w w' := by
  unfold Oct.putS
  by_cases h : 1 ≤ x ∧ x ≤ 8
  · obtain ⟨k, rfl⟩ := Int.eq_ofNat_of_zero_le (show 0 ≤ x by omega)
    rw [if_pos h]
    by_cases hk : 256 ^ k ≤ m
    · have e : 256 ^ ((k : Nat) : Int).toNat ≤ m := hk
      rw [if_pos e]
      exact (Put_range k m w (by omega) (by omega) hm hk).mono fun e w' ⟨he, hw⟩ => by subst hw; exact ⟨none, 0, he, OB.none_ _ _, Below.refl _ _⟩
    · have e : ¬ 256 ^ ((k : Nat) : Int).toNat ≤ m := hk
      have hl : (l ++ Oct.lb k m).length = n + k := by rw [List.length_append, Oct.lb_length, hb.len]
      rw [if_neg e]
      refine (Put_ok k m w hb hn hB (by omega) (by omega) hm (by omega)).mono fun e w' ⟨A1, c1, he, h1, h2⟩ => ⟨A1, c1, ?_, ?_, h2⟩
      · show e = .returned (.tuple #[.slice A1 (l ++ Oct.lb k m).length c1, _])
        rw [hl]; exact he
      · show OB w' _ A1 (l ++ Oct.lb k m).length c1 (l ++ Oct.lb k m)
        rw [hl]; exact h1
  · rw [if_neg h]
    exact (Put_arg x m w h).mono fun e w' ⟨he, hw⟩ => by subst hw; exact ⟨none, 0, he, OB.none_ _ _, Below.refl _ _⟩
set_option maxHeartbeats 800000 in
theorem PutInt_any {A : Option Addr} {n c B : Nat} {l : List UInt8} (x z : Int) (w : World) (hb : RB w B A n c l) (hn : n < 140737488355000) (hB : B ≤ w.heap.size) (hz1 : -9223372036854775808 ≤ z) (hz2 : z ≤ 9223372036854775807) :
    Calls Try.prog 68 #[.slice A n c, .int .i64 x, .int .i64 z] w fun e w' =>
      ∃ A1 c1, e = .returned (.tuple #[.slice A1 (Oct.putIntS l x z).1.length c1, .int .i64 (Oct.putIntS l x z).2]) ∧ OB w' w.heap.size A1 (Oct.putIntS l x z).1.length c1 (Oct.putIntS l x z).1 ∧ Below w.heap.size w w' := by
  unfold Oct.putIntS
  by_cases h : 1 ≤ x ∧ x ≤ 8
  · obtain ⟨k, rfl⟩ := Int.eq_ofNat_of_zero_le (show 0 ≤ x by omega)
    rw [if_pos h]
    obtain ⟨h1, h2⟩ := h
    obtain ⟨u, hu⟩ := Int.eq_ofNat_of_zero_le (Int.emod_nonneg z (show (18446744073709551616 : Int) ≠ 0 by decide))
    have hu2 : u < 18446744073709551616 := by have := Int.emod_lt_of_pos z (show (0 : Int) < 18446744073709551616 by decide); omega
    have huN : (z % 18446744073709551616).toNat = u := by omega
    rw [huN, Int.toNat_natCast]
    have hsg : Oct.sgn (u % 2 ^ (8 * k)) (8 * k) = z ↔ -((2 ^ (8 * k - 1) : Nat) : Int) ≤ z ∧ z < ((2 ^ (8 * k - 1) : Nat) : Int) := by
      rw [Oct.sgn_mod]
      have hdvd : ((2 ^ (8 * k) : Nat) : Int) ∣ 18446744073709551616 := by
        rw [show (18446744073709551616 : Int) = ((2 ^ 64 : Nat) : Int) by decide]
        exact Int.natCast_dvd_natCast.2 (Nat.pow_dvd_pow 2 (by omega))
      have hum : u % 2 ^ (8 * k) = (z % ((2 ^ (8 * k) : Nat) : Int)).toNat := by
        have : ((u % 2 ^ (8 * k) : Nat) : Int) = z % ((2 ^ (8 * k) : Nat) : Int) := by
          rw [Int.natCast_emod, ← hu, Int.emod_emod_of_dvd _ hdvd]
        omega
      constructor
      · intro e
        rw [← e]
        exact Oct.sgn_bounds u (8 * k) (by omega)
      · rintro ⟨g1, g2⟩
        rw [← Oct.sgn_mod, hum]
        exact Oct.sgn_of z (8 * k) (by omega) g1 g2
    have hmk : u % 2 ^ (8 * k) < 18446744073709551616 := Nat.lt_of_le_of_lt (Nat.mod_le _ _) hu2
    have hmlt : u % 2 ^ (8 * k) < 256 ^ k := by
      rw [show (256 : Nat) = 2 ^ 8 by decide, ← Nat.pow_mul]
      exact Nat.mod_lt _ (Nat.pow_pos (by decide))
    have hlb : Oct.lb k (u % 2 ^ (8 * k)) = Oct.lb k u := by
      have := Oct.lb_mod k u k (Nat.le_refl _)
      rwa [show (256 : Nat) = 2 ^ 8 by decide, ← Nat.pow_mul] at this
    have hl : (l ++ Oct.lb k u).length = n + k := by rw [List.length_append, Oct.lb_length, hb.len]
    by_cases hr : Oct.sgn (u % 2 ^ (8 * k)) (8 * k) = z
    · rw [if_pos (hsg.1 hr)]
      dsimp only
      rw [hl]
      have ht : (Oct.sgn (u % 2 ^ (8 * k)) (8 * k) != z) = false := by rw [hr]; simp
      have HU := Lib.hid hu; have HLB := Lib.hid hlb
      have hwu : IntKind.u64.wrap z = (u : Int) := by rw [IntKind.wrap_u64]; exact hu
      clear hsg hu huN hlb hl hr
      go_enter Try.func68, Try.ntmps68
      go_wp2_with fail
      refine (there_yes _ _ (by omega) (by omega)).mono ?_
      rintro e w1 ⟨rfl, rfl⟩
      go_wp2_with fail
      refine (mask_any u (8 * k) (by omega) _ hu2 (by omega) (by omega)).mono ?_
      rintro e w1 ⟨rfl, rfl⟩
      generalize u % 2 ^ (8 * k) = v at *
      go_wp2_with fail
      refine (extend_any v (8 * k) (by omega) _ hmk (by omega) (by omega)).mono ?_
      rintro e w1 ⟨rfl, rfl⟩
      generalize Oct.sgn v (8 * k) = y at *
      go_wp2_with fail
      refine (Put_ok k v _ hb hn hB (by omega) (by omega) hmk hmlt).mono ?_
      rintro e w2 ⟨A2, c2, rfl, h2, hb2⟩
      go_wp2_with fail
      go_ret2
      exact ⟨A2, c2, rfl, by rw [← HLB.out]; exact h2, hb2⟩
    · rw [if_neg (fun g => hr (hsg.2 g))]
      have ht : (Oct.sgn (u % 2 ^ (8 * k)) (8 * k) != z) = true := by rw [bne_iff_ne]; exact hr
      have hwu : IntKind.u64.wrap z = (u : Int) := by rw [IntKind.wrap_u64]; exact hu
      clear hsg hlb hl hr hu huN
      go_enter Try.func68, Try.ntmps68
      go_wp2_with fail
      refine (there_yes _ _ (by omega) (by omega)).mono ?_
      rintro e w1 ⟨rfl, rfl⟩
      go_wp2_with fail
      refine (mask_any u (8 * k) (by omega) _ hu2 (by omega) (by omega)).mono ?_
      rintro e w1 ⟨rfl, rfl⟩
      generalize u % 2 ^ (8 * k) = v at *
      go_wp2_with fail
      refine (extend_any v (8 * k) (by omega) _ hmk (by omega) (by omega)).mono ?_
      rintro e w1 ⟨rfl, rfl⟩
      generalize Oct.sgn v (8 * k) = y at *
      go_wp2_with fail
      go_ret2
      exact ⟨none, 0, rfl, OB.none_ _ _, Below.refl _ _⟩
  · rw [if_neg h]
    go_enter Try.func68, Try.ntmps68
    go_wp2_with fail
    refine (there_no _ _ h).mono ?_
    rintro e w1 ⟨rfl, rfl⟩
    go_wp2_with fail
    go_ret2
    exact ⟨none, 0, rfl, OB.none_ _ _, Below.refl _ _⟩

set_option maxHeartbeats 400000 in
theorem Get_any {A : Option Addr} {n c B : Nat} {l : List UInt8} (p x : Int) (w : World) (hb : RB w B A n c l) :
    Calls Try.prog 59 #[.slice A n c, .int .i64 p, .int .i64 x] w fun e w' => e = .returned (.tuple #[.int .u64 ((Oct.getS l p x).1 : Int), .int .i64 (Oct.getS l p x).2]) ∧ w = w' := by
  have hl := hb.len
  have hn := hb.lt
  unfold Oct.getS
  by_cases h : 1 ≤ x ∧ x ≤ 8 ∧ 0 ≤ p ∧ p ≤ (l.length : Int)
  · rw [if_pos h]
    obtain ⟨h1, h2, h3, h4⟩ := h
    by_cases hs : (l.length : Int) - p < x
    · rw [if_pos hs]
      exact Get_short x p w h1 h2 h3 (by omega) hn (by omega)
    · rw [if_neg hs]
      obtain ⟨k, rfl⟩ := Int.eq_ofNat_of_zero_le (show 0 ≤ x by omega)
      obtain ⟨q, rfl⟩ := Int.eq_ofNat_of_zero_le h3
      exact Get_ok k q w hb (by omega) (by omega) (by omega)
  · rw [if_neg h]
    exact Get_arg x p w (by rw [← hl]; omega)
theorem getS_lt (l : List UInt8) (p x : Int) : (Oct.getS l p x).1 < 18446744073709551616 := by
  unfold Oct.getS
  split
  · rename_i h
    split
    · decide
    · have h1 := Oct.le_lt (Oct.cut l p.toNat x.toNat)
      rw [Oct.cut_length _ _ _ (by omega)] at h1
      exact Nat.lt_of_lt_of_le h1 (Nat.le_trans (Nat.pow_le_pow_right (by decide) (show x.toNat ≤ 8 by omega)) (by decide))
  · decide
theorem getS_ok {l : List UInt8} {p x : Int} (h : (Oct.getS l p x).2 = 0) : 1 ≤ x ∧ x ≤ 8 := by
  unfold Oct.getS at h
  split at h
  · rename_i h1; exact ⟨h1.1, h1.2.1⟩
  · simp at h
set_option maxHeartbeats 400000 in
theorem GetInt_any {A : Option Addr} {n c B : Nat} {l : List UInt8} (p x : Int) (w : World) (hb : RB w B A n c l) :
    Calls Try.prog 58 #[.slice A n c, .int .i64 p, .int .i64 x] w fun e w' => e = .returned (.tuple #[.int .i64 (Oct.getIntS l p x).1, .int .i64 (Oct.getIntS l p x).2]) ∧ w = w' := by
  have hlt := getS_lt l p x
  have hok := getS_ok (l := l) (p := p) (x := x)
  have hg := Get_any p x w hb
  unfold Oct.getIntS
  generalize Oct.getS l p x = y at *
  obtain ⟨y, ye⟩ := y
  dsimp only at *
  have HG := Lib.hid hg; clear hg
  by_cases he : ye = 0
  · rw [if_pos he]
    obtain ⟨h1, h2⟩ := hok he
    clear hok
    subst he
    go_enter Try.func58, Try.ntmps58
    go_wp2_with fail
    refine HG.out.mono ?_
    rintro e w1 ⟨rfl, rfl⟩
    go_wp2_with fail
    refine (extend_any y (8 * x.toNat) (by omega) _ hlt (by omega) (by omega)).mono ?_
    rintro e w1 ⟨rfl, rfl⟩
    go_wp2_with fail
    go_ret2
    exact ⟨rfl, rfl⟩
  · rw [if_neg he]
    clear hok
    have ht : (ye != 0) = true := by rw [bne_iff_ne]; exact he
    clear he
    go_enter Try.func58, Try.ntmps58
    go_wp2_with fail
    refine HG.out.mono ?_
    rintro e w1 ⟨rfl, rfl⟩
    go_wp2_with fail
    go_ret2
    exact ⟨rfl, rfl⟩
end Go.Proofs.Ytnppihlalhaldaa
