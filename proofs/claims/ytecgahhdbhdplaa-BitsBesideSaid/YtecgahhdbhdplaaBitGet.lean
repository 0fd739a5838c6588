/-
  Walks: bits.Get, the reference's Get.
  Conditions: none.
-/
import Derived.Test.YtecgahhdbhdplaaBit
namespace Go.Proofs.Ytecgahhdbhdplaa
set_option linter.unusedVariables false
set_option linter.unusedSimpArgs false
open Go.RowKit
theorem or_bit (x y j k : Nat) (hx : x < 2 ^ 8) (hy : y < 2 ^ k) (hk : k < 64) :
    bits .or .u64 (y : Int) (IntKind.u64.wrap (IntKind.u64.wrap (bits .and .u8 ((x : Int) / 2 ^ j) 1) * 2 ^ k)) = ((y + x / 2 ^ j % 2 * 2 ^ k : Nat) : Int) := by
  have e1 : (x : Int) / 2 ^ j = ((x / 2 ^ j : Nat) : Int) := by simp
  have hle : x / 2 ^ j ≤ x := Nat.div_le_self _ _
  have e2 : bits .and .u8 ((x : Int) / 2 ^ j) 1 = ((x / 2 ^ j % 2 : Nat) : Int) := by
    rw [e1]
    have := u8_and_nat (x / 2 ^ j) 1 (by omega) (by omega)
    rw [Nat.and_one_is_mod] at this
    exact this
  have hb : x / 2 ^ j % 2 < 2 := Nat.mod_lt _ (by decide)
  rw [e2]
  generalize x / 2 ^ j % 2 = z at *
  have hpk : 2 ^ k ≤ 2 ^ 63 := Nat.pow_le_pow_right (by decide) (by omega)
  have hzk : z * 2 ^ k ≤ 1 * 2 ^ k := Nat.mul_le_mul_right _ (by omega)
  have e3 : IntKind.u64.wrap (IntKind.u64.wrap ((z : Nat) : Int) * 2 ^ k) = ((z * 2 ^ k : Nat) : Int) := by
    rw [IntKind.wrap_u64, IntKind.wrap_u64, Int.emod_eq_of_lt (a := (z : Int)) (by omega) (by omega), show (z : Int) * 2 ^ k = ((z * 2 ^ k : Nat) : Int) by simp]
    omega
  rw [e3, u64_or_nat _ _ (by omega) (by omega)]
  congr 1
  rw [Nat.or_comm, Nat.mul_comm z, ← Nat.two_pow_add_eq_or_of_lt hy]
  omega
set_option maxHeartbeats 1000000 in
theorem BGet_bad {A : Option Addr} {n c : Nat} (p m : Int) (w : World) (hn : n ≤ 1000000) (h : Bt.roomS n p m ≠ 0) :
    Calls Try.prog 9 #[.slice A n c, .int .i64 p, .int .i64 m] w fun e w' => e = .returned (.tuple #[.int .u64 0, .int .i64 (Bt.roomS n p m)]) ∧ w = w' := by
  have C := Lib.hid (room_any (A := A) (c := c) p m w hn)
  have hz : (Bt.roomS n p m != 0) = true := by simpa using h
  generalize Bt.roomS n p m = z at *
  clear h
  go_enter Try.func9, Try.ntmps9
  go_wp2_with fail
  refine (C.out).mono ?_
  rintro e _ ⟨rfl, rfl⟩
  go_wp2_with fail
  go_ret2
  exact ⟨rfl, rfl⟩
set_option maxHeartbeats 1000000 in
theorem BGet_ok {A : Option Addr} {n c B : Nat} {l : List UInt8} (p m : Nat) (w : World) (hb : RB w B A n c l) (hn : n ≤ 1000000) (h1 : 1 ≤ m) (h2 : m ≤ 64) (h3 : p + m ≤ 8 * n) :
    Calls Try.prog 9 #[.slice A n c, .int .i64 (p : Int), .int .i64 (m : Int)] w fun e w' => e = .returned (.tuple #[.int .u64 (Bt.lowF l p m : Int), .int .i64 0]) ∧ w = w' := by
  have C := room_any (A := A) (c := c) (p : Int) (m : Int) w hn
  rw [show Bt.roomS n p m = 0 by unfold Bt.roomS; rw [if_neg (by omega), if_neg (by omega)]] at C
  replace C := Lib.hid C
  go_enter Try.func9, Try.ntmps9
  go_wp2_with fail
  refine (C.out).mono ?_
  rintro e _ ⟨rfl, rfl⟩
  go_wp2_with fail
  go_loopw [9, 20] (fun v u wr => ∃ k : Nat, k ≤ m ∧ u = .int .i64 k ∧ v = .int .u64 (Bt.lowF l p k : Int) ∧ w = wr) (fun _ u _ => m - (intOf u).toNat)
  case atStart => exact ⟨0, by omega, rfl, rfl, rfl⟩
  case round =>
    obtain ⟨k, hk, rfl, rfl, rfl⟩ := hrel
    by_cases hlt : k < m
    · obtain ⟨b, o, rfl, hbB, hc⟩ := hb.at_ (show 0 < n by omega)
      have hcell := hc ((p + k) / 8) (by omega)
      have hx := (l.getD ((p + k) / 8) 0).toNat_lt
      have hbt : Bt.bt l (p + k) = (l.getD ((p + k) / 8) 0).toNat / 2 ^ ((p + k) % 8) % 2 := rfl
      have hlo := Bt.lowF_lt l p k
      have hnx : Bt.lowF l p (k + 1) = Bt.lowF l p k + Bt.bt l (p + k) * 2 ^ k := rfl
      generalize (l.getD ((p + k) / 8) 0).toNat = x at *
      generalize Bt.lowF l p k = y at *
      have HB := Lib.hid hbt; have HN := Lib.hid hnx; have HL := Lib.hid hlo; clear hbt hnx hlo hc
      go_wp2_with fail
      go_roundw
      case rel =>
        refine ⟨k + 1, by omega, by go_num, ?_, by trivial⟩
        rw [HN.out, HB.out]
        exact congrArg _ (or_bit x y ((p + k) % 8) k hx HL.out (by omega))
      case measure => simp [intOf] <;> omega
    · obtain rfl : k = m := by omega
      go_wp2_with fail
      go_ret2
      exact ⟨rfl, rfl⟩
set_option maxHeartbeats 1000000 in
theorem RGet_bad {A : Option Addr} {n c : Nat} (p m : Int) (w : World) (hn : n ≤ 1000000) (h : Bt.roomS n p m ≠ 0) :
    Calls Try.prog 10 #[.slice A n c, .int .i64 p, .int .i64 m] w fun e w' => e = .returned (.tuple #[.int .u64 0, .int .i64 (Bt.roomS n p m)]) ∧ w = w' := by
  unfold Bt.roomS at h ⊢
  by_cases h0 : m < 1 ∨ 64 < m ∨ p < 0
  · rw [if_pos h0]
    clear h
    rcases (show m < 1 ∨ (1 ≤ m ∧ 64 < m) ∨ (1 ≤ m ∧ m ≤ 64 ∧ p < 0) by omega) with h | ⟨h1, h2⟩ | ⟨h1, h2, h3⟩
    all_goals
      clear h0
      go_enter Try.func10, Try.ntmps10
      go_wp2_with fail
      go_ret2
      exact ⟨rfl, rfl⟩
  · rw [if_neg h0] at h ⊢
    have h1 : 1 ≤ m := by omega
    have h2 : m ≤ 64 := by omega
    have h3 : 0 ≤ p := by omega
    clear h0
    by_cases h4 : 8 * (n : Int) < p
    · rw [if_pos (.inl h4)]
      clear h
      go_enter Try.func10, Try.ntmps10
      go_wp2_with fail
      go_ret2
      exact ⟨rfl, rfl⟩
    · by_cases h' : 8 * (n : Int) - p < m
      · rw [if_pos (.inr h')]
        clear h
        go_enter Try.func10, Try.ntmps10
        go_wp2_with fail
        go_ret2
        exact ⟨rfl, rfl⟩
      · exact absurd (if_neg (by omega)) h
set_option maxHeartbeats 1000000 in
theorem RGet_ok {A : Option Addr} {n c B : Nat} {l : List UInt8} (p m : Nat) (w : World) (hb : RB w B A n c l) (hn : n ≤ 1000000) (h1 : 1 ≤ m) (h2 : m ≤ 64) (h3 : p + m ≤ 8 * n) :
    Calls Try.prog 10 #[.slice A n c, .int .i64 (p : Int), .int .i64 (m : Int)] w fun e w' => e = .returned (.tuple #[.int .u64 (Bt.lowF l p m : Int), .int .i64 0]) ∧ w = w' := by
  have hU := Bt.upF_all l p m
  have HU := Lib.hid hU; clear hU
  go_enter Try.func10, Try.ntmps10
  go_wp2_with fail
  go_loopw [8, 9] (fun v u wr => ∃ k : Nat, k ≤ m ∧ u = .int .i64 ((m : Int) - 1 - k) ∧ v = .int .u64 (Bt.upF l p m k : Int) ∧ w = wr) (fun _ u _ => (intOf u + 1).toNat)
  case atStart => exact ⟨0, by omega, by go_num, rfl, rfl⟩
  case round =>
    obtain ⟨k, hk, rfl, rfl, rfl⟩ := hrel
    by_cases hlt : k < m
    · have hlo := Bt.upF_lt l p m k
      have hpk : 2 ^ k ≤ 2 ^ 63 := Nat.pow_le_pow_right (by decide) (by omega)
      have hb2 := Bt.bt_lt l (p + (m - 1 - k))
      have hC := bit_any (p + (m - 1 - k)) w hb (by omega) (by omega)
      have hnx : Bt.upF l p m (k + 1) = 2 * Bt.upF l p m k + Bt.bt l (p + (m - 1 - k)) := rfl
      rw [show ((p + (m - 1 - k) : Nat) : Int) = (p : Int) + ((m : Int) - 1 - k) by omega] at hC
      have hy : Bt.upF l p m k < 2 ^ 63 := by omega
      generalize Bt.upF l p m k = y at *
      generalize Bt.bt l (p + (m - 1 - k)) = z at *
      have C := Lib.hid hC; have HN := Lib.hid hnx; clear hC hnx hlo hpk
      go_wp2_with fail
      refine (C.out).mono ?_
      rintro e _ ⟨rfl, rfl⟩
      go_wp2_with fail
      go_roundw
      case rel => exact ⟨k + 1, by omega, by go_num, by rw [HN.out]; go_num, by trivial⟩
      case measure => simp [intOf] <;> omega
    · obtain rfl : k = m := by omega
      go_wp2_with fail
      go_ret2
      exact ⟨by rw [HU.out]; rfl, rfl⟩
end Go.Proofs.Ytecgahhdbhdplaa
