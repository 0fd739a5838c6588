/-
  Walks: bits.room, wide, Bytes; the reference's Bytes, bit.
  Conditions: none.
-/
import Derived.Test.YtecgahhdbhdplaaWords
import Derived.Test.YtecgahhdbhdplaaBitPure
namespace Go.Proofs.Ytecgahhdbhdplaa
set_option linter.unusedVariables false
set_option linter.unusedSimpArgs false
open Go.RowKit
theorem ret_bool' {a b : Bool} (h : a = b) : Ending.returned (.bool a) = .returned (.bool b) := by rw [h]
theorem room_any {A : Option Addr} {n c : Nat} (p m : Int) (w : World) (hn : n ≤ 1000000) :
    Calls Try.prog 27 #[.slice A n c, .int .i64 p, .int .i64 m] w fun e w' => e = .returned (.int .i64 (Bt.roomS n p m)) ∧ w = w' := by
  unfold Bt.roomS
  by_cases h : m < 1 ∨ 64 < m ∨ p < 0
  · rw [if_pos h]
    rcases (show m < 1 ∨ (1 ≤ m ∧ 64 < m) ∨ (1 ≤ m ∧ m ≤ 64 ∧ p < 0) by omega) with h | ⟨h1, h2⟩ | ⟨h1, h2, h3⟩
    all_goals
      go_enter Try.func27, Try.ntmps27
      go_wp2_with fail
      go_ret
      exact ⟨rfl, rfl⟩
  · rw [if_neg h]
    have h1 : 1 ≤ m := by omega
    have h2 : m ≤ 64 := by omega
    have h3 : 0 ≤ p := by omega
    clear h
    by_cases h : 8 * (n : Int) < p
    · rw [if_pos (.inl h)]
      go_enter Try.func27, Try.ntmps27
      go_wp2_with fail
      go_ret
      exact ⟨rfl, rfl⟩
    · by_cases h' : 8 * (n : Int) - p < m
      · rw [if_pos (.inr h')]
        go_enter Try.func27, Try.ntmps27
        go_wp2_with fail
        go_ret
        exact ⟨rfl, rfl⟩
      · rw [if_neg (by omega)]
        go_enter Try.func27, Try.ntmps27
        go_wp2_with fail
        go_ret
        exact ⟨rfl, rfl⟩
theorem Bytes_any (m : Int) (w : World) (hm : m ≤ 9223372036854775807) : Calls Try.prog 13 #[.int .i64 m] w fun e w' => e = .returned (.int .i64 (Bt.bytesS m)) ∧ w = w' := by
  unfold Bt.bytesS
  by_cases h : m < 1
  · rw [if_pos h]
    go_enter Try.func13, Try.ntmps13
    go_wp2_with fail
    go_ret
    exact ⟨rfl, rfl⟩
  · rw [if_neg h]
    go_enter Try.func13, Try.ntmps13
    go_wp2_with fail
    go_ret
    exact ⟨rfl, rfl⟩
theorem RBytes_any (m : Int) (w : World) (hm : m ≤ 9223372036854775807) : Calls Try.prog 14 #[.int .i64 m] w fun e w' => e = .returned (.int .i64 (Bt.bytesS m)) ∧ w = w' := by
  unfold Bt.bytesS
  by_cases h : m < 1
  · rw [if_pos h]
    go_enter Try.func14, Try.ntmps14
    go_wp2_with fail
    go_ret
    exact ⟨rfl, rfl⟩
  · rw [if_neg h]
    by_cases h0 : m % 8 = 0
    · have ht : (m.tmod 8 == 0) = true := by rw [Int.tmod_eq_emod_of_nonneg (by omega), h0]; rfl
      go_enter Try.func14, Try.ntmps14
      go_wp2_with fail
      go_ret
      exact ⟨ret_int (by omega), rfl⟩
    · have ht : (m.tmod 8 == 0) = false := by rw [Int.tmod_eq_emod_of_nonneg (by omega), beq_eq_false_iff_ne]; exact h0
      go_enter Try.func14, Try.ntmps14
      go_wp2_with fail
      go_ret
      exact ⟨ret_int (by omega), rfl⟩
theorem wide_any (v : Nat) (m : Int) (w : World) (h1 : 1 ≤ m) (h2 : m ≤ 64) :
    Calls Try.prog 29 #[.int .u64 (v : Int), .int .i64 m] w fun e w' => e = .returned (.bool (Bt.wideS v m)) ∧ w = w' := by
  unfold Bt.wideS
  by_cases h : m < 64
  · obtain ⟨k, rfl⟩ : ∃ k : Nat, m = (k : Int) := ⟨m.toNat, by omega⟩
    go_enter Try.func29, Try.ntmps29
    go_wp2_with fail
    go_ret
    refine ⟨ret_bool' ?_, rfl⟩
    have e : (v : Int) / 2 ^ k = ((v / 2 ^ k : Nat) : Int) := by simp
    simp only [e, h, decide_true, Bool.true_and, Int.toNat_natCast]
    rw [Bool.eq_iff_iff]
    simp only [bne_iff_ne, ne_eq]
    omega
  · go_enter Try.func29, Try.ntmps29
    go_wp2_with fail
    go_ret
    exact ⟨ret_bool' (by rw [show decide (m < 64) = false by simpa using h]; rfl), rfl⟩
set_option maxHeartbeats 400000 in
theorem bit_any {A : Option Addr} {n c B : Nat} {l : List UInt8} (i : Nat) (w : World) (hb : RB w B A n c l) (hi : i / 8 < n) (hi2 : i ≤ 9223372036854775807) :
    Calls Try.prog 28 #[.slice A n c, .int .i64 (i : Int)] w fun e w' => e = .returned (.int .u64 (Bt.bt l i : Int)) ∧ w = w' := by
  have hn := hb.lt
  obtain ⟨b, o, rfl, hbB, hc⟩ := hb.at_ (by omega)
  have hcell := hc (i / 8) hi
  have hx := (l.getD (i / 8) 0).toNat_lt
  have hbt : Bt.bt l i = (l.getD (i / 8) 0).toNat / 2 ^ (i % 8) % 2 := rfl
  generalize (l.getD (i / 8) 0).toNat = x at *
  have HB := Lib.hid hbt; clear hbt hc
  have hw : wrap64 (x : Int) = x := by unfold wrap64; omega
  go_enter Try.func28, Try.ntmps28
  go_wp2_with fail
  go_loopw [5, 6] (fun v u wr => ∃ k : Nat, k ≤ i % 8 ∧ u = .int .i64 k ∧ v = .int .i64 ((x / 2 ^ k : Nat) : Int) ∧ w = wr) (fun _ u _ => i % 8 - (intOf u).toNat)
  case atStart => exact ⟨0, by omega, rfl, by simp, rfl⟩
  case round =>
    obtain ⟨k, hk, rfl, rfl, rfl⟩ := hrel
    have hle : x / 2 ^ k ≤ x := Nat.div_le_self _ _
    have hp : x / 2 ^ k / 2 = x / 2 ^ (k + 1) := by rw [Nat.div_div_eq_div_mul, Nat.pow_succ]
    have HP := Lib.hid hp; clear hp
    by_cases hlt : k < i % 8
    · generalize x / 2 ^ k = y at *
      go_wp2_with fail
      go_roundw
      case rel => exact ⟨k + 1, by omega, by go_num, by rw [← HP.out]; go_num, by trivial⟩
      case measure => simp [intOf] <;> omega
    · obtain rfl : k = i % 8 := by omega
      generalize hy : x / 2 ^ (i % 8) = y at *
      have HY := Lib.hid hy; clear hy
      go_wp2_with fail
      go_ret
      exact ⟨ret_int (by rw [HB.out]; go_num), rfl⟩
end Go.Proofs.Ytecgahhdbhdplaa
