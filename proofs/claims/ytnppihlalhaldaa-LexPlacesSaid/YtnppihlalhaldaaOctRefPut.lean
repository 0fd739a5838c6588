/-
  Walks: the reference's digits and Put.
  Conditions: none.
-/
import Derived.Test.YtnppihlalhaldaaOctPut
namespace Go.Proofs.Ytnppihlalhaldaa
set_option linter.unusedVariables false
set_option linter.unusedSimpArgs false
open Go.RowKit
theorem natdiv (n j : Nat) : n / 256 ^ j / 256 = n / 256 ^ (j + 1) := by rw [Nat.div_div_eq_div_mul, Nat.pow_succ]
set_option maxHeartbeats 1000000 in
theorem digits_any (m k : Nat) (w : World) (hm : m < 18446744073709551616) (h2 : k ≤ 1000) :
    Calls Try.prog 78 #[.int .u64 (m : Int), .int .i64 (k : Int)] w fun e w' =>
      ∃ A1 c1, e = .returned (.tuple #[.slice A1 k c1, .int .u64 ((m / 256 ^ k : Nat) : Int)]) ∧ OB w' w.heap.size A1 k c1 (Oct.lb k m) ∧ Below w.heap.size w w' := by
  go_enter Try.func78, Try.ntmps78
  go_wp2_with fail
  go_loopw [0, 6, 7] (fun u v i wr => ∃ (j : Nat) (A1 : Option Addr) (c1 : Nat), j ≤ k ∧ i = .int .i64 j ∧ u = .int .u64 ((m / 256 ^ j : Nat) : Int) ∧ v = .slice A1 j c1 ∧ OB wr w.heap.size A1 j c1 (Oct.lb j m) ∧ Below w.heap.size w wr) (fun _ _ i _ => k - (intOf i).toNat)
  case atStart => exact ⟨0, none, 0, Nat.zero_le _, rfl, by simp, rfl, OB.none_ _ _, Below.refl _ _⟩
  case round =>
    obtain ⟨j, A1, c1, hj, rfl, rfl, rfl, hown, hbel⟩ := hrel
    have hv : m / 256 ^ j < 18446744073709551616 := Nat.lt_of_le_of_lt (Nat.div_le_self _ _) hm
    have hd := natdiv m j
    have hb : ((m / 256 ^ j : Nat) : Int) % 256 = ((UInt8.ofNat (m / 256 ^ j)).toNat : Int) := by rw [UInt8.toNat_ofNat']; simp
    generalize hxe : m / 256 ^ j = x at *
    have HD := Lib.hid hd; clear hd
    have HX := Lib.hid hxe; clear hxe
    have HB := Lib.hid hb; clear hb
    by_cases hlt : j < k
    · go_wp2_with (at_builtin; refine wpList_appb_one etb rfl (.tmp 13) (.tmp 17) rfl rfl rfl w.heap.size hown (UInt8.ofNat x) HB.out (by omega) hbel.size ?_; intro A2 c2 w3 h3 hb3 _ _)
      go_roundw
      case rel => exact ⟨j + 1, A2, c2, by omega, by go_num, by rw [← HD.out]; rfl, rfl, by rw [Oct.lb, HX.out]; exact h3, hbel.trans hb3⟩
      case measure => simp [intOf]; omega
    · obtain rfl : j = k := by omega
      go_wp2
      go_ret2
      exact ⟨_, _, by rw [HX.out]; rfl, hown, hbel⟩

set_option maxHeartbeats 400000 in
theorem RPut_arg {A : Option Addr} {n c : Nat} (x m : Int) (w : World) (h : ¬ (1 ≤ x ∧ x ≤ 8)) :
    Calls Try.prog 64 #[.slice A n c, .int .i64 x, .int .u64 m] w fun e w' => e = .returned (.tuple #[.slice none 0 0, .int .i64 1]) ∧ w = w' := by
  by_cases h1 : x < 1
  · clear h
    go_enter Try.func64, Try.ntmps64
    go_wp2_with fail
    go_ret2
    exact ⟨rfl, rfl⟩
  · have h2 : 8 < x := by omega
    clear h
    go_enter Try.func64, Try.ntmps64
    go_wp2_with fail
    go_ret2
    exact ⟨rfl, rfl⟩

set_option maxHeartbeats 400000 in
theorem RPut_range {A : Option Addr} {n c : Nat} (k m : Nat) (w : World) (h1 : 1 ≤ k) (h2 : k ≤ 8) (hm : m < 18446744073709551616) (h : 256 ^ k ≤ m) :
    Calls Try.prog 64 #[.slice A n c, .int .i64 (k : Int), .int .u64 (m : Int)] w fun e w' => e = .returned (.tuple #[.slice none 0 0, .int .i64 9]) ∧ Below w.heap.size w w' := by
  have ht : (((m / 256 ^ k : Nat) : Int) != 0) = true := by
    rw [bne_iff_ne]
    have := Nat.div_pos h (Nat.pow_pos (by decide : 0 < 256))
    omega
  clear h
  go_enter Try.func64, Try.ntmps64
  go_wp2_with (go_at_call 78; refine (digits_any m k _ hm (by omega)).mono ?_; rintro e w1 ⟨A1, c1, rfl, h1, hb1⟩; generalize m / 256 ^ k = q at *)
  go_ret2
  exact ⟨rfl, hb1⟩

set_option maxHeartbeats 1000000 in
theorem RPut_ok {A : Option Addr} {n c B : Nat} {l : List UInt8} (k m : Nat) (w : World) (hb : RB w B A n c l) (hn : n < 140737488355000) (hB : B ≤ w.heap.size) (h1 : 1 ≤ k) (h2 : k ≤ 8) (hm : m < 18446744073709551616) (h : m < 256 ^ k) :
    Calls Try.prog 64 #[.slice A n c, .int .i64 (k : Int), .int .u64 (m : Int)] w fun e w' =>
      ∃ A1 c1, e = .returned (.tuple #[.slice A1 (n + k) c1, .int .i64 0]) ∧ OB w' w.heap.size A1 (n + k) c1 (l ++ Oct.lb k m) ∧ Below w.heap.size w w' := by
  have ht : (((m / 256 ^ k : Nat) : Int) != 0) = false := by
    rw [bne_eq_false_iff_eq, Nat.div_eq_of_lt h]; rfl
  clear h
  go_enter Try.func64, Try.ntmps64
  go_wp2_with (first
    | (go_at_call 78; refine (digits_any m k _ hm (by omega)).mono ?_; rintro e w1 ⟨A1, c1, rfl, h1, hb1⟩; generalize m / 256 ^ k = q at *)
    | (go_at_call 79; refine (Join_any _ (hb.below (hb1.mono hB)) h1.rb (by omega) (Nat.le_trans hB hb1.size) (Nat.le_refl _)).mono ?_; rintro e w2 ⟨A2, c2, rfl, h2, hb2⟩))
  go_ret2
  exact ⟨_, _, rfl, h2.more hb1.size, below_step hb1 hb2 (Nat.le_refl _)⟩
end Go.Proofs.Ytnppihlalhaldaa
