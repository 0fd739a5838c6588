/-
  Walks: what the reference knows of a type.
  Conditions: none.
-/
import Derived.Test.YtnppihlalhaldaaTypLim
namespace Go.Proofs.Ytnppihlalhaldaa
set_option linter.unusedVariables false
set_option linter.unusedSimpArgs false
open Go.RowKit
theorem not_num {t : Int} (h : t ∉ Ty.nums) : (t == 1) = false ∧ (t == 2) = false ∧ (t == 3) = false ∧ (t == 4) = false ∧ (t == 5) = false ∧ (t == 6) = false ∧ (t == 7) = false ∧ (t == 9) = false ∧ (t == 10) = false ∧ (t == 15) = false ∧ (t == 21) = false := by
  unfold Ty.nums at h
  simp only [List.mem_cons, List.not_mem_nil, or_false, not_or] at h
  simp only [beq_eq_false_iff_ne, ne_eq]
  exact h
set_option maxRecDepth 100000 in
set_option maxHeartbeats 4000000 in
theorem RName_any (t : Int) (w : World) : Calls Try.prog 60 #[.int .i64 t] w fun e w' => e = .returned (.string (T (Ty.kd t).name)) ∧ w = w' := by
  rcases Ty.kd_cases t with h | ⟨hn, h⟩
  · rcases h with rfl | rfl | rfl | rfl | rfl | rfl | rfl | rfl | rfl | rfl | rfl
    all_goals
      go_enter Try.func60, Try.ntmps60
      go_wp2_with fail
      go_ret
      exact ⟨rfl, rfl⟩
  · rw [h]
    obtain ⟨q1, q2, q3, q4, q5, q6, q7, q8, q9, q10, q11⟩ := not_num hn
    clear h hn
    go_enter Try.func60, Try.ntmps60
    go_wp2_with fail
    go_ret
    exact ⟨rfl, rfl⟩
set_option maxRecDepth 100000 in
set_option maxHeartbeats 4000000 in
theorem RSize_any (t : Int) (w : World) : Calls Try.prog 61 #[.int .i64 t] w fun e w' => e = .returned (.int .i64 ((Ty.kd t).size : Int)) ∧ w = w' := by
  rcases Ty.kd_cases t with h | ⟨hn, h⟩
  · rcases h with rfl | rfl | rfl | rfl | rfl | rfl | rfl | rfl | rfl | rfl | rfl
    all_goals
      go_enter Try.func61, Try.ntmps61
      go_wp2_with fail
      go_ret
      exact ⟨rfl, rfl⟩
  · rw [h]
    obtain ⟨q1, q2, q3, q4, q5, q6, q7, q8, q9, q10, q11⟩ := not_num hn
    clear h hn
    go_enter Try.func61, Try.ntmps61
    go_wp2_with fail
    go_ret
    exact ⟨rfl, rfl⟩
set_option maxRecDepth 100000 in
set_option maxHeartbeats 4000000 in
theorem RSigned_any (t : Int) (w : World) : Calls Try.prog 77 #[.int .i64 t] w fun e w' => e = .returned (.bool (Ty.kd t).sgn) ∧ w = w' := by
  rcases Ty.kd_cases t with h | ⟨hn, h⟩
  · rcases h with rfl | rfl | rfl | rfl | rfl | rfl | rfl | rfl | rfl | rfl | rfl
    all_goals
      go_enter Try.func77, Try.ntmps77
      go_wp2_with fail
      go_ret
      exact ⟨rfl, rfl⟩
  · rw [h]
    obtain ⟨q1, q2, q3, q4, q5, q6, q7, q8, q9, q10, q11⟩ := not_num hn
    clear h hn
    go_enter Try.func77, Try.ntmps77
    go_wp2_with fail
    go_ret
    exact ⟨rfl, rfl⟩
set_option maxHeartbeats 4000000 in
theorem RTBits_any (t : Int) (w : World) : Calls Try.prog 44 #[.int .i64 t] w fun e w' => e = .returned (.int .i64 ((Ty.kd t).bits : Int)) ∧ w = w' := by
  have C := RSize_any t w
  by_cases h1 : t = 1
  · subst h1
    clear C
    go_enter Try.func44, Try.ntmps44
    go_wp2_with fail
    go_ret
    exact ⟨rfl, rfl⟩
  · have h2 : (t == 1) = false := by rw [beq_eq_false_iff_ne]; exact h1
    have h3 : (Ty.kd t).bits = 8 * (Ty.kd t).size ∧ (Ty.kd t).size ≤ 8 := by
      rcases Ty.kd_cases t with h | ⟨hn, h⟩
      · rcases h with rfl | rfl | rfl | rfl | rfl | rfl | rfl | rfl | rfl | rfl | rfl
        · exact absurd rfl h1
        all_goals decide
      · rw [h]; decide
    obtain ⟨h3, h4⟩ := h3
    rw [h3]
    generalize (Ty.kd t).size = sz at *
    replace C := Lib.hid C
    clear h1 h3
    go_enter Try.func44, Try.ntmps44
    go_wp2_with fail
    refine (C.out).mono ?_
    rintro e _ ⟨rfl, rfl⟩
    go_wp2_with fail
    go_ret
    exact ⟨ret_int (by omega), rfl⟩
theorem RKnown_any (t : Int) (w : World) : Calls Try.prog 43 #[.int .i64 t] w fun e w' => e = .returned (.bool (knownB t)) ∧ w = w' := by
  have C := Lib.hid (RName_any t w)
  unfold knownB
  generalize (Ty.kd t).name = nm at *
  have e1 := T_toList nm
  go_enter Try.func43, Try.ntmps43
  go_wp2_with fail
  refine (C.out).mono ?_
  rintro e _ ⟨rfl, rfl⟩
  go_wp2_with fail
  go_ret
  exact ⟨rfl, rfl⟩
/-- The loop's number behind i rounds. -/
theorem ones_step (i : Nat) (h : i < 63) : 2 * (((2 ^ i : Nat) : Int) - 1) + 1 = ((2 ^ (i + 1) : Nat) : Int) - 1 := by
  rw [Nat.pow_succ]; omega
set_option maxRecDepth 100000 in
set_option maxHeartbeats 4000000 in
theorem RLimits_any (t : Int) (w : World) : Calls Try.prog 62 #[.int .i64 t] w fun e w' => e = .returned (.tuple #[.int .i64 (Ty.limS t).1, .int .i64 (Ty.limS t).2.1, .bool (Ty.limS t).2.2]) ∧ w = w' := by
  have C1 := RTBits_any t w
  have C2 := RSigned_any t w
  have hl : Ty.limS t = if (Ty.kd t).bits = 0 then (0, 0, false) else if (Ty.kd t).sgn = true then (-((2 ^ ((Ty.kd t).bits - 1) : Nat) : Int), ((2 ^ ((Ty.kd t).bits - 1) : Nat) : Int) - 1, true) else (0, ((2 ^ (Ty.kd t).bits : Nat) : Int) - 1, true) := rfl
  have hc : (Ty.kd t).bits = 0 ∨ ((Ty.kd t).sgn = true ∧ 1 ≤ (Ty.kd t).bits ∧ (Ty.kd t).bits ≤ 64) ∨ ((Ty.kd t).sgn = false ∧ 1 ≤ (Ty.kd t).bits ∧ (Ty.kd t).bits ≤ 32) := by
    rcases Ty.kd_cases t with h | ⟨_, h⟩
    · rcases h with rfl | rfl | rfl | rfl | rfl | rfl | rfl | rfl | rfl | rfl | rfl <;> decide
    · rw [h]; exact .inl rfl
  generalize (Ty.kd t).bits = bt at *
  generalize (Ty.kd t).sgn = sg at *
  replace C1 := Lib.hid C1; replace C2 := Lib.hid C2
  rcases hc with rfl | ⟨rfl, hb1, hb2⟩ | ⟨rfl, hb1, hb2⟩
  · have HL := Lib.hid hl; clear hl
    go_enter Try.func62, Try.ntmps62
    go_wp2_with fail
    refine (C1.out).mono ?_
    rintro e _ ⟨rfl, rfl⟩
    go_wp2_with fail
    go_ret3
    exact ⟨by rw [HL.out]; rfl, rfl⟩
  · rw [if_neg (by omega), if_pos rfl] at hl
    have HL := Lib.hid hl; clear hl
    obtain ⟨n, rfl⟩ : ∃ n, bt = n + 1 := ⟨bt - 1, by omega⟩
    go_enter Try.func62, Try.ntmps62
    go_wp2_with fail
    refine (C1.out).mono ?_
    rintro e _ ⟨rfl, rfl⟩
    go_wp2_with fail
    refine (C2.out).mono ?_
    rintro e _ ⟨rfl, rfl⟩
    go_wp2_with fail
    go_loop [6, 7] (fun v i => ∃ k : Nat, k ≤ n ∧ i = .int .i64 k ∧ v = .int .i64 (((2 ^ k : Nat) : Int) - 1)) (fun _ i => n - (intOf i).toNat)
    case atStart => exact ⟨0, by omega, rfl, rfl⟩
    case round =>
      obtain ⟨k, hk, rfl, rfl⟩ := hrel
      have hp : 2 ^ k ≤ 2 ^ 63 := Nat.pow_le_pow_right (by decide) (by omega)
      have hp1 : 1 ≤ 2 ^ k := Nat.one_le_two_pow
      by_cases hlt : k < n
      · have hst := ones_step k (by omega)
        have hp2 : 2 ^ k ≤ 2 ^ 62 := Nat.pow_le_pow_right (by decide) (by omega)
        generalize 2 ^ k = q at *
        have HS := Lib.hid hst; clear hst
        go_wp2_with fail
        go_round
        case rel => exact ⟨k + 1, by omega, by go_num, by rw [← HS.out]⟩
        case measure => simp [intOf] <;> omega
      · obtain rfl : k = n := by omega
        have HE : Hid (Ty.limS t = (-((2 ^ k : Nat) : Int), ((2 ^ k : Nat) : Int) - 1, true)) := Lib.hid HL.out
        generalize 2 ^ k = q at *
        go_wp2_with fail
        refine (C2.out).mono ?_
        rintro e _ ⟨rfl, rfl⟩
        go_wp2_with fail
        go_ret3
        refine ⟨?_, rfl⟩
        rw [HE.out]
        show Ending.returned (.tuple #[.int .i64 (-((q : Int) - 1) - 1), .int .i64 ((q : Int) - 1), .bool true]) = _
        rw [show -((q : Int) - 1) - 1 = -(q : Int) by omega]
  · rw [if_neg (by omega), if_neg (by decide)] at hl
    have HL := Lib.hid hl; clear hl
    have hbz : ((bt : Int) == 0) = false := by rw [beq_eq_false_iff_ne]; omega
    go_enter Try.func62, Try.ntmps62
    go_wp2_with fail
    refine (C1.out).mono ?_
    rintro e _ ⟨rfl, rfl⟩
    go_wp2_with fail
    refine (C2.out).mono ?_
    rintro e _ ⟨rfl, rfl⟩
    go_wp2_with fail
    go_loop [6, 7] (fun v i => ∃ k : Nat, k ≤ bt ∧ i = .int .i64 k ∧ v = .int .i64 (((2 ^ k : Nat) : Int) - 1)) (fun _ i => bt - (intOf i).toNat)
    case atStart => exact ⟨0, by omega, rfl, rfl⟩
    case round =>
      obtain ⟨k, hk, rfl, rfl⟩ := hrel
      have hp : 2 ^ k ≤ 2 ^ 63 := Nat.pow_le_pow_right (by decide) (by omega)
      have hp1 : 1 ≤ 2 ^ k := Nat.one_le_two_pow
      by_cases hlt : k < bt
      · have hst := ones_step k (by omega)
        have hp2 : 2 ^ k ≤ 2 ^ 62 := Nat.pow_le_pow_right (by decide) (by omega)
        generalize 2 ^ k = q at *
        have HS := Lib.hid hst; clear hst
        go_wp2_with fail
        go_round
        case rel => exact ⟨k + 1, by omega, by go_num, by rw [← HS.out]⟩
        case measure => simp [intOf] <;> omega
      · obtain rfl : k = bt := by omega
        have HE : Hid (Ty.limS t = (0, ((2 ^ k : Nat) : Int) - 1, true)) := Lib.hid HL.out
        generalize 2 ^ k = q at *
        go_wp2_with fail
        refine (C2.out).mono ?_
        rintro e _ ⟨rfl, rfl⟩
        go_wp2_with fail
        go_ret3
        exact ⟨by rw [HE.out]; rfl, rfl⟩
end Go.Proofs.Ytnppihlalhaldaa
