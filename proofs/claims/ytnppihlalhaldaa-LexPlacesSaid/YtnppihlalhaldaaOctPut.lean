/-
  Walks: octet.there, octet.Put.
  Conditions: none.
-/
import Derived.Test.YtnppihlalhaldaaWords
import Derived.Test.YtnppihlalhaldaaOct
namespace Go.Proofs.Ytnppihlalhaldaa
set_option linter.unusedVariables false
set_option linter.unusedSimpArgs false
open Go.RowKit
theorem there_yes (x : Int) (w : World) (h1 : 1 ≤ x) (h2 : x ≤ 8) : Calls Try.prog 76 #[.int .i64 x] w fun e w' => e = .returned (.bool true) ∧ w = w' := by
  go_enter Try.func76, Try.ntmps76
  go_wp2
  go_ret
  exact ⟨by simp [h2], rfl⟩
theorem there_no (x : Int) (w : World) (h : ¬ (1 ≤ x ∧ x ≤ 8)) : Calls Try.prog 76 #[.int .i64 x] w fun e w' => e = .returned (.bool false) ∧ w = w' := by
  by_cases h1 : 1 ≤ x
  · have h2 : ¬ x ≤ 8 := fun h2 => h ⟨h1, h2⟩
    clear h
    go_enter Try.func76, Try.ntmps76
    go_wp2
    all_goals
      go_ret
      exact ⟨by simp <;> omega, rfl⟩
  · clear h
    go_enter Try.func76, Try.ntmps76
    go_wp2
    all_goals
      go_ret
      exact ⟨by simp <;> omega, rfl⟩

set_option maxHeartbeats 400000 in
theorem Put_arg {A : Option Addr} {n c : Nat} (x m : Int) (w : World) (h : ¬ (1 ≤ x ∧ x ≤ 8)) :
    Calls Try.prog 70 #[.slice A n c, .int .i64 x, .int .u64 m] w fun e w' => e = .returned (.tuple #[.slice none 0 0, .int .i64 1]) ∧ w = w' := by
  go_enter Try.func70, Try.ntmps70
  go_wp2_with (go_at_call 76; refine (there_no _ _ h).mono ?_; rintro e w' ⟨rfl, rfl⟩)
  go_ret2
  exact ⟨rfl, rfl⟩

theorem pow_shift (k : Nat) : (2 : Int) ^ (8 * k) = ((256 ^ k : Nat) : Int) := by
  rw [Int.pow_mul]; simp
theorem byte_shift (m j : Nat) : ((m : Int) / 2 ^ (8 * j)) % 256 = ((UInt8.ofNat (m / 256 ^ j)).toNat : Int) := by
  rw [pow_shift, ← Int.natCast_ediv, UInt8.toNat_ofNat']
  simp
set_option maxHeartbeats 400000 in
theorem Put_range {A : Option Addr} {n c : Nat} (k m : Nat) (w : World) (h1 : 1 ≤ k) (h2 : k ≤ 8) (hm : m < 18446744073709551616) (h : 256 ^ k ≤ m) :
    Calls Try.prog 70 #[.slice A n c, .int .i64 (k : Int), .int .u64 (m : Int)] w fun e w' => e = .returned (.tuple #[.slice none 0 0, .int .i64 9]) ∧ w = w' := by
  have hk : k < 8 := by
    rcases Nat.lt_or_ge k 8 with hk | hk
    · exact hk
    · obtain rfl : k = 8 := by omega
      omega
  have ht : ((m : Int) / 2 ^ (8 * k) != 0) = true := by
    rw [pow_shift, bne_iff_ne, ← Int.natCast_ediv]
    have := Nat.div_pos h (Nat.pow_pos (by decide : 0 < 256))
    omega
  clear h
  go_enter Try.func70, Try.ntmps70
  go_wp2_with (first | (go_at_call 76; refine (there_yes _ _ (by omega) (by omega)).mono ?_; rintro e w' ⟨rfl, rfl⟩) | fail)
  go_ret2
  exact ⟨rfl, rfl⟩

set_option maxHeartbeats 1000000 in
theorem Put_ok {A : Option Addr} {n c B : Nat} {l : List UInt8} (k m : Nat) (w : World) (hb : RB w B A n c l) (hn : n < 140737488355000) (hB : B ≤ w.heap.size) (h1 : 1 ≤ k) (h2 : k ≤ 8) (hm : m < 18446744073709551616) (h : m < 256 ^ k) :
    Calls Try.prog 70 #[.slice A n c, .int .i64 (k : Int), .int .u64 (m : Int)] w fun e w' =>
      ∃ A1 c1, e = .returned (.tuple #[.slice A1 (n + k) c1, .int .i64 0]) ∧ OB w' w.heap.size A1 (n + k) c1 (l ++ Oct.lb k m) ∧ Below w.heap.size w w' := by
  have ht : ((m : Int) / 2 ^ (8 * k) != 0) = false := by
    rw [pow_shift, bne_eq_false_iff_eq, ← Int.natCast_ediv, Nat.div_eq_of_lt h]; rfl
  clear h
  by_cases hk : k < 8
  all_goals
    go_enter Try.func70, Try.ntmps70
    go_wp2_with (first
      | (go_at_call 76; refine (there_yes _ _ (by omega) (by omega)).mono ?_; rintro e w' ⟨rfl, rfl⟩)
      | (at_make; refine wpList_mkb etb rfl (.tmp 26) (.tmp 30) rfl .i64 .i64 n (n + k) rfl rfl (by omega) (by omega) w.heap.size (Nat.le_refl _) ?_; intro w1 hw1 hb1 hs1)
      | (refine wpList_cpb etb rfl (.tmp 32) (.tmp 33) rfl rfl rfl w.heap.size hw1 (hb.below (hb1.mono hB)) (Nat.le_refl _) ?_; intro w2 hw2 hg2 hs2; have hb2 := grown_below hg2 hw1.lt (by omega))
      | fail)
    rw [List.drop_of_length_le (by simp), List.append_nil] at hw2
    go_loopw [8, 36] (fun v i wr => ∃ (j : Nat) (A1 : Option Addr) (c1 : Nat), j ≤ k ∧ i = .int .i64 j ∧ v = .slice A1 (n + j) c1 ∧ OB wr w.heap.size A1 (n + j) c1 (l ++ Oct.lb j m) ∧ Below w.heap.size w wr) (fun _ i _ => k - (intOf i).toNat)
    case atStart => exact ⟨0, _, _, Nat.zero_le _, rfl, rfl, by simpa [Oct.lb] using hw2, hb1.trans hb2⟩
    case round =>
      obtain ⟨j, A1, c1, hj, rfl, rfl, hown, hbel⟩ := hrel
      by_cases hlt : j < k
      · go_wp2_with (at_builtin; refine wpList_appb_one etb rfl (.tmp 39) (.tmp 46) rfl rfl rfl w.heap.size hown (UInt8.ofNat (m / 256 ^ j)) (byte_shift m j) (by omega) hbel.size ?_; intro A2 c2 w3 h3 hb3 _ _)
        go_roundw
        case rel => exact ⟨j + 1, A2, c2, by omega, by go_num, rfl, by rw [Oct.lb, ← List.append_assoc]; exact h3, hbel.trans hb3⟩
        case measure => simp [intOf]; omega
      · obtain rfl : j = k := by omega
        go_wp2
        go_ret2
        exact ⟨_, _, rfl, hown, hbel⟩
end Go.Proofs.Ytnppihlalhaldaa
