/-
  Texts joined: TypLim, TypRef, OctPut, OctGet, OctBits, OctRef, TypCode.
  Conditions: none.
-/
import Derived.Test.YtkddillihhjghaaGreatJ01
import Derived.Test.YtkddillihhjghaaGreatJ04
import Derived.Test.YtkddillihhjghaaGreatJ06
import Derived.Deep.QuietTactic
import Derived.BigQuiet
/-
  Walks: types.Limits, ByName.
  Conditions: none.
-/
namespace Go.Proofs.YtkddillihhjghaaGreat
set_option linter.unusedVariables false
set_option linter.unusedSimpArgs false
open Go.RowKit
def LimPost (p : Int × Int × Bool) (w : World) (e : Ending) (w' : World) : Prop := e = .returned (.tuple #[.int .i64 p.1, .int .i64 p.2.1, .bool p.2.2]) ∧ Below w.heap.size w w'
theorem lim_mk {p : Int × Int × Bool} {w w' : World} {a b : Int} {x : Bool} (h : p = (a, b, x)) (hb : Below w.heap.size w w') : LimPost p w (.returned (.tuple #[.int .i64 a, .int .i64 b, .bool x])) w' := by
  subst h; exact ⟨rfl, hb⟩
set_option maxRecDepth 100000 in
set_option maxHeartbeats 4000000 in
theorem Limits_any (t : Int) (w : World) : Calls Tryz.prog 44 #[.int .i64 t] w (LimPost (Ty.limS t) w) := by
  have C := of_any t w
  have hl : Ty.limS t = if (Ty.kd t).bits = 0 then (0, 0, false) else if (Ty.kd t).sgn = true then (-((2 ^ ((Ty.kd t).bits - 1) : Nat) : Int), ((2 ^ ((Ty.kd t).bits - 1) : Nat) : Int) - 1, true) else (0, ((2 ^ (Ty.kd t).bits : Nat) : Int) - 1, true) := rfl
  have hc : (Ty.kd t).bits = 0 ∨ ((Ty.kd t).sgn = true ∧ ((Ty.kd t).bits = 8 ∨ (Ty.kd t).bits = 16 ∨ (Ty.kd t).bits = 32 ∨ (Ty.kd t).bits = 64)) ∨ ((Ty.kd t).sgn = false ∧ ((Ty.kd t).bits = 1 ∨ (Ty.kd t).bits = 8 ∨ (Ty.kd t).bits = 16 ∨ (Ty.kd t).bits = 32)) := by
    rcases Ty.kd_cases t with h | ⟨_, h⟩
    · rcases h with rfl | rfl | rfl | rfl | rfl | rfl | rfl | rfl | rfl | rfl | rfl <;> decide
    · rw [h]; exact .inl rfl
  generalize (Ty.kd t).name = nm at *
  generalize (Ty.kd t).size = sz at *
  generalize (Ty.kd t).bits = bt at *
  generalize (Ty.kd t).sgn = sg at *
  rcases hc with rfl | ⟨rfl, rfl | rfl | rfl | rfl⟩ | ⟨rfl, rfl | rfl | rfl | rfl⟩
  all_goals
    have HL := Lib.hid hl
    clear hl
    replace C := Lib.hid C
    go_enter Tryz.func44, Tryz.ntmps44
    go_wp2_with fail
    refine (C.out).mono ?_
    rintro e w1 ⟨rfl, b1⟩
    go_wp2_with fail
  all_goals first
    | (go_ret3; exact lim_mk (by rw [HL.out]; rfl) (b1.alloc b1.size _))
    | (go_quiet (fail); go_wp2_with fail; go_ret3; exact lim_mk (by rw [HL.out]; rfl) (below_drewN (b1.alloc b1.size _) _))
end Go.Proofs.YtkddillihhjghaaGreat
/-
  Walks: what the reference knows of a type.
  Conditions: none.
-/
namespace Go.Proofs.YtkddillihhjghaaGreat
set_option linter.unusedVariables false
set_option linter.unusedSimpArgs false
open Go.RowKit
theorem not_num {t : Int} (h : t ∉ Ty.nums) : (t == 1) = false ∧ (t == 2) = false ∧ (t == 3) = false ∧ (t == 4) = false ∧ (t == 5) = false ∧ (t == 6) = false ∧ (t == 7) = false ∧ (t == 9) = false ∧ (t == 10) = false ∧ (t == 15) = false ∧ (t == 21) = false := by
  unfold Ty.nums at h
  simp only [List.mem_cons, List.not_mem_nil, or_false, not_or] at h
  simp only [beq_eq_false_iff_ne, ne_eq]
  exact h
set_option maxRecDepth 100000 in
set_option maxHeartbeats 4000000 in
theorem RName_any (t : Int) (w : World) : Calls Tryz.prog 77 #[.int .i64 t] w fun e w' => e = .returned (.string (T (Ty.kd t).name)) ∧ w = w' := by
  rcases Ty.kd_cases t with h | ⟨hn, h⟩
  · rcases h with rfl | rfl | rfl | rfl | rfl | rfl | rfl | rfl | rfl | rfl | rfl
    all_goals
      go_enter Tryz.func77, Tryz.ntmps77
      go_wp2_with fail
      go_ret
      exact ⟨rfl, rfl⟩
  · rw [h]
    obtain ⟨q1, q2, q3, q4, q5, q6, q7, q8, q9, q10, q11⟩ := not_num hn
    clear h hn
    go_enter Tryz.func77, Tryz.ntmps77
    go_wp2_with fail
    go_ret
    exact ⟨rfl, rfl⟩
set_option maxRecDepth 100000 in
set_option maxHeartbeats 4000000 in
theorem RSize_any (t : Int) (w : World) : Calls Tryz.prog 83 #[.int .i64 t] w fun e w' => e = .returned (.int .i64 ((Ty.kd t).size : Int)) ∧ w = w' := by
  rcases Ty.kd_cases t with h | ⟨hn, h⟩
  · rcases h with rfl | rfl | rfl | rfl | rfl | rfl | rfl | rfl | rfl | rfl | rfl
    all_goals
      go_enter Tryz.func83, Tryz.ntmps83
      go_wp2_with fail
      go_ret
      exact ⟨rfl, rfl⟩
  · rw [h]
    obtain ⟨q1, q2, q3, q4, q5, q6, q7, q8, q9, q10, q11⟩ := not_num hn
    clear h hn
    go_enter Tryz.func83, Tryz.ntmps83
    go_wp2_with fail
    go_ret
    exact ⟨rfl, rfl⟩
set_option maxRecDepth 100000 in
set_option maxHeartbeats 4000000 in
theorem RSigned_any (t : Int) (w : World) : Calls Tryz.prog 76 #[.int .i64 t] w fun e w' => e = .returned (.bool (Ty.kd t).sgn) ∧ w = w' := by
  rcases Ty.kd_cases t with h | ⟨hn, h⟩
  · rcases h with rfl | rfl | rfl | rfl | rfl | rfl | rfl | rfl | rfl | rfl | rfl
    all_goals
      go_enter Tryz.func76, Tryz.ntmps76
      go_wp2_with fail
      go_ret
      exact ⟨rfl, rfl⟩
  · rw [h]
    obtain ⟨q1, q2, q3, q4, q5, q6, q7, q8, q9, q10, q11⟩ := not_num hn
    clear h hn
    go_enter Tryz.func76, Tryz.ntmps76
    go_wp2_with fail
    go_ret
    exact ⟨rfl, rfl⟩
set_option maxHeartbeats 4000000 in
theorem RTBits_any (t : Int) (w : World) : Calls Tryz.prog 61 #[.int .i64 t] w fun e w' => e = .returned (.int .i64 ((Ty.kd t).bits : Int)) ∧ w = w' := by
  have C := RSize_any t w
  by_cases h1 : t = 1
  · subst h1
    clear C
    go_enter Tryz.func61, Tryz.ntmps61
    go_wp2_with fail
    go_ret
    exact ⟨rfl, rfl⟩
  · have h2 : (t == 1) = false := by rw [beq_eq_false_iff_ne]; exact h1
    have h3 : (Ty.kd t).bits = 8 * (Ty.kd t).size ∧ (Ty.kd t).size ≤ 8 := by
      rcases Ty.kd_cases t with h | ⟨hn, h⟩
      · rcases h with rfl | rfl | rfl | rfl | rfl | rfl | rfl | rfl | rfl | rfl | rfl
        · exact absurd rfl h1
        all_goals decide
      · rw [h]; decide
    obtain ⟨h3, h4⟩ := h3
    rw [h3]
    generalize (Ty.kd t).size = sz at *
    replace C := Lib.hid C
    clear h1 h3
    go_enter Tryz.func61, Tryz.ntmps61
    go_wp2_with fail
    refine (C.out).mono ?_
    rintro e _ ⟨rfl, rfl⟩
    go_wp2_with fail
    go_ret
    exact ⟨ret_int (by omega), rfl⟩
theorem RKnown_any (t : Int) (w : World) : Calls Tryz.prog 53 #[.int .i64 t] w fun e w' => e = .returned (.bool (knownB t)) ∧ w = w' := by
  have C := Lib.hid (RName_any t w)
  unfold knownB
  generalize (Ty.kd t).name = nm at *
  have e1 := T_toList nm
  go_enter Tryz.func53, Tryz.ntmps53
  go_wp2_with fail
  refine (C.out).mono ?_
  rintro e _ ⟨rfl, rfl⟩
  go_wp2_with fail
  go_ret
  exact ⟨rfl, rfl⟩
/-- The loop's number behind i rounds. -/
theorem ones_step (i : Nat) (h : i < 63) : 2 * (((2 ^ i : Nat) : Int) - 1) + 1 = ((2 ^ (i + 1) : Nat) : Int) - 1 := by
  rw [Nat.pow_succ]; omega
set_option maxRecDepth 100000 in
set_option maxHeartbeats 4000000 in
theorem RLimits_any (t : Int) (w : World) : Calls Tryz.prog 51 #[.int .i64 t] w fun e w' => e = .returned (.tuple #[.int .i64 (Ty.limS t).1, .int .i64 (Ty.limS t).2.1, .bool (Ty.limS t).2.2]) ∧ w = w' := by
  have C1 := RTBits_any t w
  have C2 := RSigned_any t w
  have hl : Ty.limS t = if (Ty.kd t).bits = 0 then (0, 0, false) else if (Ty.kd t).sgn = true then (-((2 ^ ((Ty.kd t).bits - 1) : Nat) : Int), ((2 ^ ((Ty.kd t).bits - 1) : Nat) : Int) - 1, true) else (0, ((2 ^ (Ty.kd t).bits : Nat) : Int) - 1, true) := rfl
  have hc : (Ty.kd t).bits = 0 ∨ ((Ty.kd t).sgn = true ∧ 1 ≤ (Ty.kd t).bits ∧ (Ty.kd t).bits ≤ 64) ∨ ((Ty.kd t).sgn = false ∧ 1 ≤ (Ty.kd t).bits ∧ (Ty.kd t).bits ≤ 32) := by
    rcases Ty.kd_cases t with h | ⟨_, h⟩
    · rcases h with rfl | rfl | rfl | rfl | rfl | rfl | rfl | rfl | rfl | rfl | rfl <;> decide
    · rw [h]; exact .inl rfl
  generalize (Ty.kd t).bits = bt at *
  generalize (Ty.kd t).sgn = sg at *
  replace C1 := Lib.hid C1; replace C2 := Lib.hid C2
  rcases hc with rfl | ⟨rfl, hb1, hb2⟩ | ⟨rfl, hb1, hb2⟩
  · have HL := Lib.hid hl; clear hl
    go_enter Tryz.func51, Tryz.ntmps51
    go_wp2_with fail
    refine (C1.out).mono ?_
    rintro e _ ⟨rfl, rfl⟩
    go_wp2_with fail
    go_ret3
    exact ⟨by rw [HL.out]; rfl, rfl⟩
  · rw [if_neg (by omega), if_pos rfl] at hl
    have HL := Lib.hid hl; clear hl
    obtain ⟨n, rfl⟩ : ∃ n, bt = n + 1 := ⟨bt - 1, by omega⟩
    go_enter Tryz.func51, Tryz.ntmps51
    go_wp2_with fail
    refine (C1.out).mono ?_
    rintro e _ ⟨rfl, rfl⟩
    go_wp2_with fail
    refine (C2.out).mono ?_
    rintro e _ ⟨rfl, rfl⟩
    go_wp2_with fail
    go_loop [6, 7] (fun v i => ∃ k : Nat, k ≤ n ∧ i = .int .i64 k ∧ v = .int .i64 (((2 ^ k : Nat) : Int) - 1)) (fun _ i => n - (intOf i).toNat)
    case atStart => exact ⟨0, by omega, rfl, rfl⟩
    case round =>
      obtain ⟨k, hk, rfl, rfl⟩ := hrel
      have hp : 2 ^ k ≤ 2 ^ 63 := Nat.pow_le_pow_right (by decide) (by omega)
      have hp1 : 1 ≤ 2 ^ k := Nat.one_le_two_pow
      by_cases hlt : k < n
      · have hst := ones_step k (by omega)
        have hp2 : 2 ^ k ≤ 2 ^ 62 := Nat.pow_le_pow_right (by decide) (by omega)
        generalize 2 ^ k = q at *
        have HS := Lib.hid hst; clear hst
        go_wp2_with fail
        go_round
        case rel => exact ⟨k + 1, by omega, by go_num, by rw [← HS.out]⟩
        case measure => simp [intOf] <;> omega
      · obtain rfl : k = n := by omega
        have HE : Hid (Ty.limS t = (-((2 ^ k : Nat) : Int), ((2 ^ k : Nat) : Int) - 1, true)) := Lib.hid HL.out
        generalize 2 ^ k = q at *
        go_wp2_with fail
        refine (C2.out).mono ?_
        rintro e _ ⟨rfl, rfl⟩
        go_wp2_with fail
        go_ret3
        refine ⟨?_, rfl⟩
        rw [HE.out]
        show Ending.returned (.tuple #[.int .i64 (-((q : Int) - 1) - 1), .int .i64 ((q : Int) - 1), .bool true]) = _
        rw [show -((q : Int) - 1) - 1 = -(q : Int) by omega]
  · rw [if_neg (by omega), if_neg (by decide)] at hl
    have HL := Lib.hid hl; clear hl
    have hbz : ((bt : Int) == 0) = false := by rw [beq_eq_false_iff_ne]; omega
    go_enter Tryz.func51, Tryz.ntmps51
    go_wp2_with fail
    refine (C1.out).mono ?_
    rintro e _ ⟨rfl, rfl⟩
    go_wp2_with fail
    refine (C2.out).mono ?_
    rintro e _ ⟨rfl, rfl⟩
    go_wp2_with fail
    go_loop [6, 7] (fun v i => ∃ k : Nat, k ≤ bt ∧ i = .int .i64 k ∧ v = .int .i64 (((2 ^ k : Nat) : Int) - 1)) (fun _ i => bt - (intOf i).toNat)
    case atStart => exact ⟨0, by omega, rfl, rfl⟩
    case round =>
      obtain ⟨k, hk, rfl, rfl⟩ := hrel
      have hp : 2 ^ k ≤ 2 ^ 63 := Nat.pow_le_pow_right (by decide) (by omega)
      have hp1 : 1 ≤ 2 ^ k := Nat.one_le_two_pow
      by_cases hlt : k < bt
      · have hst := ones_step k (by omega)
        have hp2 : 2 ^ k ≤ 2 ^ 62 := Nat.pow_le_pow_right (by decide) (by omega)
        generalize 2 ^ k = q at *
        have HS := Lib.hid hst; clear hst
        go_wp2_with fail
        go_round
        case rel => exact ⟨k + 1, by omega, by go_num, by rw [← HS.out]⟩
        case measure => simp [intOf] <;> omega
      · obtain rfl : k = bt := by omega
        have HE : Hid (Ty.limS t = (0, ((2 ^ k : Nat) : Int) - 1, true)) := Lib.hid HL.out
        generalize 2 ^ k = q at *
        go_wp2_with fail
        refine (C2.out).mono ?_
        rintro e _ ⟨rfl, rfl⟩
        go_wp2_with fail
        go_ret3
        exact ⟨by rw [HE.out]; rfl, rfl⟩
end Go.Proofs.YtkddillihhjghaaGreat
/-
  Walks: octet.there, octet.Put.
  Conditions: none.
-/
namespace Go.Proofs.YtkddillihhjghaaGreat
set_option linter.unusedVariables false
set_option linter.unusedSimpArgs false
open Go.RowKit
theorem there_yes (x : Int) (w : World) (h1 : 1 ≤ x) (h2 : x ≤ 8) : Calls Tryz.prog 103 #[.int .i64 x] w fun e w' => e = .returned (.bool true) ∧ w = w' := by
  go_enter Tryz.func103, Tryz.ntmps103
  go_wp2
  go_ret
  exact ⟨by simp [h2], rfl⟩
theorem there_no (x : Int) (w : World) (h : ¬ (1 ≤ x ∧ x ≤ 8)) : Calls Tryz.prog 103 #[.int .i64 x] w fun e w' => e = .returned (.bool false) ∧ w = w' := by
  by_cases h1 : 1 ≤ x
  · have h2 : ¬ x ≤ 8 := fun h2 => h ⟨h1, h2⟩
    clear h
    go_enter Tryz.func103, Tryz.ntmps103
    go_wp2
    all_goals
      go_ret
      exact ⟨by simp <;> omega, rfl⟩
  · clear h
    go_enter Tryz.func103, Tryz.ntmps103
    go_wp2
    all_goals
      go_ret
      exact ⟨by simp <;> omega, rfl⟩

set_option maxHeartbeats 400000 in
theorem Put_arg {A : Option Addr} {n c : Nat} (x m : Int) (w : World) (h : ¬ (1 ≤ x ∧ x ≤ 8)) :
    Calls Tryz.prog 87 #[.slice A n c, .int .i64 x, .int .u64 m] w fun e w' => e = .returned (.tuple #[.slice none 0 0, .int .i64 1]) ∧ w = w' := by
  go_enter Tryz.func87, Tryz.ntmps87
  go_wp2_with (go_at_call 103; refine (there_no _ _ h).mono ?_; rintro e w' ⟨rfl, rfl⟩)
  go_ret2
  exact ⟨rfl, rfl⟩

theorem pow_shift (k : Nat) : (2 : Int) ^ (8 * k) = ((256 ^ k : Nat) : Int) := by
  rw [Int.pow_mul]; simp
theorem byte_shift (m j : Nat) : ((m : Int) / 2 ^ (8 * j)) % 256 = ((UInt8.ofNat (m / 256 ^ j)).toNat : Int) := by
  rw [pow_shift, ← Int.natCast_ediv, UInt8.toNat_ofNat']
  simp
set_option maxHeartbeats 400000 in
theorem Put_range {A : Option Addr} {n c : Nat} (k m : Nat) (w : World) (h1 : 1 ≤ k) (h2 : k ≤ 8) (hm : m < 18446744073709551616) (h : 256 ^ k ≤ m) :
    Calls Tryz.prog 87 #[.slice A n c, .int .i64 (k : Int), .int .u64 (m : Int)] w fun e w' => e = .returned (.tuple #[.slice none 0 0, .int .i64 9]) ∧ w = w' := by
  have hk : k < 8 := by
    rcases Nat.lt_or_ge k 8 with hk | hk
    · exact hk
    · obtain rfl : k = 8 := by omega
      omega
  have ht : ((m : Int) / 2 ^ (8 * k) != 0) = true := by
    rw [pow_shift, bne_iff_ne, ← Int.natCast_ediv]
    have := Nat.div_pos h (Nat.pow_pos (by decide : 0 < 256))
    omega
  clear h
  go_enter Tryz.func87, Tryz.ntmps87
  go_wp2_with (first | (go_at_call 103; refine (there_yes _ _ (by omega) (by omega)).mono ?_; rintro e w' ⟨rfl, rfl⟩) | fail)
  go_ret2
  exact ⟨rfl, rfl⟩

set_option maxHeartbeats 1000000 in
theorem Put_ok {A : Option Addr} {n c B : Nat} {l : List UInt8} (k m : Nat) (w : World) (hb : RB w B A n c l) (hn : n < 140737488355000) (hB : B ≤ w.heap.size) (h1 : 1 ≤ k) (h2 : k ≤ 8) (hm : m < 18446744073709551616) (h : m < 256 ^ k) :
    Calls Tryz.prog 87 #[.slice A n c, .int .i64 (k : Int), .int .u64 (m : Int)] w fun e w' =>
      ∃ A1 c1, e = .returned (.tuple #[.slice A1 (n + k) c1, .int .i64 0]) ∧ OB w' w.heap.size A1 (n + k) c1 (l ++ Oct.lb k m) ∧ Below w.heap.size w w' := by
  have ht : ((m : Int) / 2 ^ (8 * k) != 0) = false := by
    rw [pow_shift, bne_eq_false_iff_eq, ← Int.natCast_ediv, Nat.div_eq_of_lt h]; rfl
  clear h
  by_cases hk : k < 8
  all_goals
    go_enter Tryz.func87, Tryz.ntmps87
    go_wp2_with (first
      | (go_at_call 103; refine (there_yes _ _ (by omega) (by omega)).mono ?_; rintro e w' ⟨rfl, rfl⟩)
      | (at_make; refine wpList_mkb etb rfl (.tmp 26) (.tmp 30) rfl .i64 .i64 n (n + k) rfl rfl (by omega) (by omega) w.heap.size (Nat.le_refl _) ?_; intro w1 hw1 hb1 hs1)
      | (refine wpList_cpb etb rfl (.tmp 32) (.tmp 33) rfl rfl rfl w.heap.size hw1 (hb.below (hb1.mono hB)) (Nat.le_refl _) ?_; intro w2 hw2 hg2 hs2; have hb2 := grown_below hg2 hw1.lt (by omega))
      | fail)
    rw [List.drop_of_length_le (by simp), List.append_nil] at hw2
    go_loopw [8, 36] (fun v i wr => ∃ (j : Nat) (A1 : Option Addr) (c1 : Nat), j ≤ k ∧ i = .int .i64 j ∧ v = .slice A1 (n + j) c1 ∧ OB wr w.heap.size A1 (n + j) c1 (l ++ Oct.lb j m) ∧ Below w.heap.size w wr) (fun _ i _ => k - (intOf i).toNat)
    case atStart => exact ⟨0, _, _, Nat.zero_le _, rfl, rfl, by simpa [Oct.lb] using hw2, hb1.trans hb2⟩
    case round =>
      obtain ⟨j, A1, c1, hj, rfl, rfl, hown, hbel⟩ := hrel
      by_cases hlt : j < k
      · go_wp2_with (at_builtin; refine wpList_appb_one etb rfl (.tmp 39) (.tmp 46) rfl rfl rfl w.heap.size hown (UInt8.ofNat (m / 256 ^ j)) (byte_shift m j) (by omega) hbel.size ?_; intro A2 c2 w3 h3 hb3 _ _)
        go_roundw
        case rel => exact ⟨j + 1, A2, c2, by omega, by go_num, rfl, by rw [Oct.lb, ← List.append_assoc]; exact h3, hbel.trans hb3⟩
        case measure => simp [intOf]; omega
      · obtain rfl : j = k := by omega
        go_wp2
        go_ret2
        exact ⟨_, _, rfl, hown, hbel⟩
end Go.Proofs.YtkddillihhjghaaGreat
/-
  Walks: octet.Get.
  Conditions: none.
-/
namespace Go.Proofs.YtkddillihhjghaaGreat
set_option linter.unusedVariables false
set_option linter.unusedSimpArgs false
open Go.RowKit
set_option maxHeartbeats 400000 in
theorem Get_arg {A : Option Addr} {n c : Nat} (x p : Int) (w : World) (h : ¬ (1 ≤ x ∧ x ≤ 8) ∨ p < 0 ∨ (n : Int) < p) :
    Calls Tryz.prog 109 #[.slice A n c, .int .i64 p, .int .i64 x] w fun e w' => e = .returned (.tuple #[.int .u64 0, .int .i64 1]) ∧ w = w' := by
  by_cases hx : 1 ≤ x ∧ x ≤ 8
  · have h' : p < 0 ∨ (n : Int) < p := h.resolve_left (fun h => h hx)
    clear h
    obtain ⟨h1, h2⟩ := hx
    by_cases hp : p < 0
    · go_enter Tryz.func109, Tryz.ntmps109
      go_wp2_with (go_at_call 103; refine (there_yes _ _ h1 h2).mono ?_; rintro e w' ⟨rfl, rfl⟩)
      go_ret2
      exact ⟨rfl, rfl⟩
    · have hq : (n : Int) < p := h'.resolve_left hp
      clear h'
      go_enter Tryz.func109, Tryz.ntmps109
      go_wp2_with (go_at_call 103; refine (there_yes _ _ h1 h2).mono ?_; rintro e w' ⟨rfl, rfl⟩)
      go_ret2
      exact ⟨rfl, rfl⟩
  · clear h
    go_enter Tryz.func109, Tryz.ntmps109
    go_wp2_with (go_at_call 103; refine (there_no _ _ hx).mono ?_; rintro e w' ⟨rfl, rfl⟩)
    go_ret2
    exact ⟨rfl, rfl⟩
set_option maxHeartbeats 400000 in
theorem Get_short {A : Option Addr} {n c : Nat} (x p : Int) (w : World) (h1 : 1 ≤ x) (h2 : x ≤ 8) (h3 : 0 ≤ p) (h4 : p ≤ (n : Int)) (hn : n ≤ 9223372036854775807) (h : (n : Int) - p < x) :
    Calls Tryz.prog 109 #[.slice A n c, .int .i64 p, .int .i64 x] w fun e w' => e = .returned (.tuple #[.int .u64 0, .int .i64 2]) ∧ w = w' := by
  go_enter Tryz.func109, Tryz.ntmps109
  go_wp2_with (go_at_call 103; refine (there_yes _ _ h1 h2).mono ?_; rintro e w' ⟨rfl, rfl⟩)
  go_ret2
  exact ⟨rfl, rfl⟩
theorem or_step {v a j : Nat} (hv : v < 256 ^ j) (ha : a < 256) (hj : j < 8) : bits .or .u64 (v : Int) (IntKind.u64.wrap ((a : Int) * 2 ^ (8 * j))) = ((v + a * 256 ^ j : Nat) : Int) := by
  have hp : 256 ^ j * 256 ≤ 18446744073709551616 := by
    rw [← Nat.pow_succ]
    exact Nat.le_trans (Nat.pow_le_pow_right (by decide) (show j + 1 ≤ 8 by omega)) (by decide)
  have h1 : a * 256 ^ j < 256 ^ j * 256 := by rw [Nat.mul_comm]; exact Nat.mul_lt_mul_of_pos_left ha (Nat.pow_pos (by decide))
  have h2 : 256 ^ j ≤ 256 ^ j * 256 := Nat.le_mul_of_pos_right _ (by decide)
  rw [pow_shift, ← Int.natCast_mul, IntKind.wrap_u64, Int.emod_eq_of_lt (by omega) (by omega), u64_or_nat _ _ (by omega) (by omega), Nat.or_comm, nat_join (8 * j), Nat.add_comm]
  · rw [Nat.pow_mul]; exact Nat.mul_mod_left _ _
  · rw [Nat.pow_mul]; exact hv
set_option maxHeartbeats 1000000 in
theorem Get_ok {A : Option Addr} {n c B : Nat} {l : List UInt8} (k p : Nat) (w : World) (hb : RB w B A n c l) (h1 : 1 ≤ k) (h2 : k ≤ 8) (h : p + k ≤ n) :
    Calls Tryz.prog 109 #[.slice A n c, .int .i64 (p : Int), .int .i64 (k : Int)] w fun e w' => e = .returned (.tuple #[.int .u64 (Oct.le (Oct.cut l p k) : Int), .int .i64 0]) ∧ w = w' := by
  have hn := hb.lt
  have hl := hb.len
  obtain ⟨b, o, rfl, hbB, hc⟩ := hb.at_ (by omega)
  have HL := Lib.hid hl; clear hl
  clear hb
  go_enter Tryz.func109, Tryz.ntmps109
  go_wp2_with (go_at_call 103; refine (there_yes _ _ (by omega) (by omega)).mono ?_; rintro e w' ⟨rfl, rfl⟩)
  go_loop [8, 32] (fun v i => ∃ j : Nat, j ≤ k ∧ i = .int .i64 j ∧ v = .int .u64 (Oct.le (Oct.cut l p j) : Int)) (fun _ i => k - (intOf i).toNat)
  case atStart => exact ⟨0, Nat.zero_le _, rfl, by rw [Oct.cut_zero]; rfl⟩
  case round =>
    obtain ⟨j, hj, rfl, rfl⟩ := hrel
    by_cases hlt : j < k
    · have hcj := hc (p + j) (by omega)
      have hx := byte_lt (l.getD (p + j) 0)
      generalize hxe : l.getD (p + j) 0 = x at *
      have HX := Lib.hid hxe; clear hxe hc
      generalize hve : Oct.le (Oct.cut l p j) = v at *
      have HV := Lib.hid hve; clear hve
      go_wp2
      go_round
      case rel =>
        refine ⟨j + 1, by omega, by go_num, ?_⟩
        have hl := HL.out
        have h3 : v < 256 ^ j := by rw [← HV.out]; have := Oct.le_lt (Oct.cut l p j); rwa [Oct.cut_length _ _ _ (by omega)] at this
        rw [or_step h3 hx (by omega), Oct.cut_succ _ _ _ (by omega), Oct.le_snoc, Oct.cut_length _ _ _ (by omega), HX.out, HV.out]
      case measure => simp [intOf]; omega
    · obtain rfl : j = k := by omega
      clear hc
      go_wp2
      go_ret2
      exact ⟨rfl, rfl⟩
end Go.Proofs.YtkddillihhjghaaGreat
/-
  Walks: octet.mask, extend, Low, Sign, PutInt, GetInt; Put and Get whole.
  Conditions: none.
-/
namespace Go.Proofs.YtkddillihhjghaaGreat
set_option linter.unusedVariables false
set_option linter.unusedSimpArgs false
open Go.RowKit
set_option maxHeartbeats 400000 in
theorem extend_any (n b : Nat) {x : Int} (hx : x = (b : Int)) (w : World) (hn : n < 18446744073709551616) (h1 : 1 ≤ b) (h2 : b ≤ 64) :
    Calls Tryz.prog 112 #[.int .u64 (n : Int), .int .i64 x] w fun e w' => e = .returned (.int .i64 (Oct.sgn n b)) ∧ w = w' := by
  subst hx
  go_enter Tryz.func112, Tryz.ntmps112
  go_wp2
  go_ret
  exact ⟨ret_int (by unfold wrap64; rw [IntKind.wrap_u64]; exact Oct.extend_val n b h1 h2), rfl⟩

set_option maxHeartbeats 400000 in
theorem Put_any {A : Option Addr} {n c B : Nat} {l : List UInt8} (x : Int) (m : Nat) (w : World) (hb : RB w B A n c l) (hn : n < 140737488355000) (hB : B ≤ w.heap.size) (hm : m < 18446744073709551616) :
    Calls Tryz.prog 87 #[.slice A n c, .int .i64 x, .int .u64 (m : Int)] w fun e w' =>
      ∃ A1 c1, e = .returned (.tuple #[.slice A1 (Oct.putS l x m).1.length c1, .int .i64 (Oct.putS l x m).2]) ∧ OB w' w.heap.size A1 (Oct.putS l x m).1.length c1 (Oct.putS l x m).1 ∧ Below w.heap.size w w' := by
  unfold Oct.putS
  by_cases h : 1 ≤ x ∧ x ≤ 8
  · obtain ⟨k, rfl⟩ := Int.eq_ofNat_of_zero_le (show 0 ≤ x by omega)
    rw [if_pos h]
    by_cases hk : 256 ^ k ≤ m
    · have e : 256 ^ ((k : Nat) : Int).toNat ≤ m := hk
      rw [if_pos e]
      exact (Put_range k m w (by omega) (by omega) hm hk).mono fun e w' ⟨he, hw⟩ => by subst hw; exact ⟨none, 0, he, OB.none_ _ _, Below.refl _ _⟩
    · have e : ¬ 256 ^ ((k : Nat) : Int).toNat ≤ m := hk
      have hl : (l ++ Oct.lb k m).length = n + k := by rw [List.length_append, Oct.lb_length, hb.len]
      rw [if_neg e]
      refine (Put_ok k m w hb hn hB (by omega) (by omega) hm (by omega)).mono fun e w' ⟨A1, c1, he, h1, h2⟩ => ⟨A1, c1, ?_, ?_, h2⟩
      · show e = .returned (.tuple #[.slice A1 (l ++ Oct.lb k m).length c1, _])
        rw [hl]; exact he
      · show OB w' _ A1 (l ++ Oct.lb k m).length c1 (l ++ Oct.lb k m)
        rw [hl]; exact h1
  · rw [if_neg h]
    exact (Put_arg x m w h).mono fun e w' ⟨he, hw⟩ => by subst hw; exact ⟨none, 0, he, OB.none_ _ _, Below.refl _ _⟩

set_option maxHeartbeats 400000 in
theorem Get_any {A : Option Addr} {n c B : Nat} {l : List UInt8} (p x : Int) (w : World) (hb : RB w B A n c l) :
    Calls Tryz.prog 109 #[.slice A n c, .int .i64 p, .int .i64 x] w fun e w' => e = .returned (.tuple #[.int .u64 ((Oct.getS l p x).1 : Int), .int .i64 (Oct.getS l p x).2]) ∧ w = w' := by
  have hl := hb.len
  have hn := hb.lt
  unfold Oct.getS
  by_cases h : 1 ≤ x ∧ x ≤ 8 ∧ 0 ≤ p ∧ p ≤ (l.length : Int)
  · rw [if_pos h]
    obtain ⟨h1, h2, h3, h4⟩ := h
    by_cases hs : (l.length : Int) - p < x
    · rw [if_pos hs]
      exact Get_short x p w h1 h2 h3 (by omega) hn (by omega)
    · rw [if_neg hs]
      obtain ⟨k, rfl⟩ := Int.eq_ofNat_of_zero_le (show 0 ≤ x by omega)
      obtain ⟨q, rfl⟩ := Int.eq_ofNat_of_zero_le h3
      exact Get_ok k q w hb (by omega) (by omega) (by omega)
  · rw [if_neg h]
    exact Get_arg x p w (by rw [← hl]; omega)
theorem getS_lt (l : List UInt8) (p x : Int) : (Oct.getS l p x).1 < 18446744073709551616 := by
  unfold Oct.getS
  split
  · rename_i h
    split
    · decide
    · have h1 := Oct.le_lt (Oct.cut l p.toNat x.toNat)
      rw [Oct.cut_length _ _ _ (by omega)] at h1
      exact Nat.lt_of_lt_of_le h1 (Nat.le_trans (Nat.pow_le_pow_right (by decide) (show x.toNat ≤ 8 by omega)) (by decide))
  · decide
theorem getS_ok {l : List UInt8} {p x : Int} (h : (Oct.getS l p x).2 = 0) : 1 ≤ x ∧ x ≤ 8 := by
  unfold Oct.getS at h
  split at h
  · rename_i h1; exact ⟨h1.1, h1.2.1⟩
  · simp at h
set_option maxHeartbeats 400000 in
theorem GetInt_any {A : Option Addr} {n c B : Nat} {l : List UInt8} (p x : Int) (w : World) (hb : RB w B A n c l) :
    Calls Tryz.prog 108 #[.slice A n c, .int .i64 p, .int .i64 x] w fun e w' => e = .returned (.tuple #[.int .i64 (Oct.getIntS l p x).1, .int .i64 (Oct.getIntS l p x).2]) ∧ w = w' := by
  have hlt := getS_lt l p x
  have hok := getS_ok (l := l) (p := p) (x := x)
  have hg := Get_any p x w hb
  unfold Oct.getIntS
  generalize Oct.getS l p x = y at *
  obtain ⟨y, ye⟩ := y
  dsimp only at *
  have HG := Lib.hid hg; clear hg
  by_cases he : ye = 0
  · rw [if_pos he]
    obtain ⟨h1, h2⟩ := hok he
    clear hok
    subst he
    go_enter Tryz.func108, Tryz.ntmps108
    go_wp2_with fail
    refine HG.out.mono ?_
    rintro e w1 ⟨rfl, rfl⟩
    go_wp2_with fail
    refine (extend_any y (8 * x.toNat) (by omega) _ hlt (by omega) (by omega)).mono ?_
    rintro e w1 ⟨rfl, rfl⟩
    go_wp2_with fail
    go_ret2
    exact ⟨rfl, rfl⟩
  · rw [if_neg he]
    clear hok
    have ht : (ye != 0) = true := by rw [bne_iff_ne]; exact he
    clear he
    go_enter Tryz.func108, Tryz.ntmps108
    go_wp2_with fail
    refine HG.out.mono ?_
    rintro e w1 ⟨rfl, rfl⟩
    go_wp2_with fail
    go_ret2
    exact ⟨rfl, rfl⟩
end Go.Proofs.YtkddillihhjghaaGreat
/-
  Walks: the reference's Low, Sign, half, PutInt, Get, GetInt.
  Conditions: none.
-/
namespace Go.Proofs.YtkddillihhjghaaGreat
set_option linter.unusedVariables false
set_option linter.unusedSimpArgs false
open Go.RowKit
set_option maxHeartbeats 1000000 in
theorem half_any (k : Nat) {x : Int} (hx : x = (k : Int)) (w : World) (h1 : 1 ≤ k) (h2 : k ≤ 7) :
    Calls Tryz.prog 110 #[.int .i64 x] w fun e w' => e = .returned (.int .i64 ((2 ^ (8 * k - 1) : Nat) : Int)) ∧ w = w' := by
  subst hx
  go_enter Tryz.func110, Tryz.ntmps110
  go_wp2_with fail
  go_loop [3, 4] (fun v i => ∃ j : Nat, j ≤ 8 * k - 1 ∧ i = .int .i64 j ∧ v = .int .i64 ((2 ^ j : Nat) : Int)) (fun _ i => 8 * k - 1 - (intOf i).toNat)
  case atStart => exact ⟨0, by omega, rfl, rfl⟩
  case round =>
    obtain ⟨j, hj, rfl, rfl⟩ := hrel
    have hp : 2 ^ j ≤ 2 ^ 55 := Nat.pow_le_pow_right (by decide) (by omega)
    have hps : 2 ^ (j + 1) = 2 * 2 ^ j := by rw [Nat.pow_succ, Nat.mul_comm]
    have HPS := Lib.hid hps; clear hps
    by_cases hlt : j < 8 * k - 1
    · generalize 2 ^ j = q at *
      have hlt' : (j : Int) < 8 * k - 1 := by omega
      go_wp2_with fail
      go_round
      case rel => exact ⟨j + 1, by omega, by go_num, by rw [HPS.out]; rfl⟩
      case measure => simp [intOf]; omega
    · obtain rfl : j = 8 * k - 1 := by omega
      go_wp2_with fail
      go_ret
      exact ⟨rfl, rfl⟩

set_option maxHeartbeats 1000000 in
theorem RGet_ok {A : Option Addr} {n c B : Nat} {l : List UInt8} (k p : Nat) (w : World) (hb : RB w B A n c l) (h1 : 1 ≤ k) (h2 : k ≤ 8) (h : p + k ≤ n) :
    Calls Tryz.prog 99 #[.slice A n c, .int .i64 (p : Int), .int .i64 (k : Int)] w fun e w' => e = .returned (.tuple #[.int .u64 (Oct.le (Oct.cut l p k) : Int), .int .i64 0]) ∧ w = w' := by
  have hn := hb.lt
  have hl := hb.len
  obtain ⟨b, o, rfl, hbB, hc⟩ := hb.at_ (by omega)
  have HL := Lib.hid hl; clear hl
  clear hb
  go_enter Tryz.func99, Tryz.ntmps99
  go_wp2_with fail
  go_loop [8, 9] (fun v i => ∃ j : Nat, j ≤ k ∧ i = .int .i64 ((j : Int) - 1) ∧ v = .int .u64 (Oct.le ((Oct.cut l p k).drop j) : Int)) (fun _ i => (intOf i + 1).toNat)
  case atStart => exact ⟨k, Nat.le_refl _, rfl, by rw [List.drop_of_length_le (by rw [Oct.cut_length _ _ _ (by rw [HL.out]; exact h)]; exact Nat.le_refl _)]; rfl⟩
  case round =>
    obtain ⟨j, hj, rfl, rfl⟩ := hrel
    by_cases h0 : j = 0
    · subst h0
      clear hc
      go_wp2_with fail
      go_ret2
      exact ⟨rfl, rfl⟩
    · obtain ⟨i, rfl⟩ : ∃ i, j = i + 1 := ⟨j - 1, by omega⟩
      have hci := hc (p + i) (by omega)
      have hx := byte_lt (l.getD (p + i) 0)
      have hcl : (Oct.cut l p k).length = k := Oct.cut_length _ _ _ (by rw [HL.out]; exact h)
      have hds : (Oct.cut l p k).drop i = l.getD (p + i) 0 :: (Oct.cut l p k).drop (i + 1) := by
        rw [List.drop_eq_getElem_cons (by omega)]
        congr 1
        have := HL.out
        simp [Oct.cut, List.getD, show p + i < l.length by omega]
      have hlt : Oct.le ((Oct.cut l p k).drop (i + 1)) < 256 ^ 7 := by
        have := Oct.le_lt ((Oct.cut l p k).drop (i + 1))
        rw [List.length_drop, hcl] at this
        exact Nat.lt_of_lt_of_le this (Nat.pow_le_pow_right (by decide) (by omega))
      have hstep : Oct.le ((Oct.cut l p k).drop i) = 256 * Oct.le ((Oct.cut l p k).drop (i + 1)) + (l.getD (p + i) 0).toNat := by rw [hds, Oct.le]; omega
      generalize l.getD (p + i) 0 = x at *
      generalize Oct.le ((Oct.cut l p k).drop (i + 1)) = v at *
      have HS := Lib.hid hstep
      clear hc hds hstep hcl
      have e0 : ((i + 1 : Nat) : Int) - 1 = (i : Int) := by omega
      rw [e0]
      clear e0
      go_wp2_with fail
      go_round
      case rel => exact ⟨i, by omega, rfl, by rw [HS.out]; rfl⟩
      case measure => simp [intOf] <;> omega
set_option maxHeartbeats 400000 in
theorem RGet_any {A : Option Addr} {n c B : Nat} {l : List UInt8} (p x : Int) (w : World) (hb : RB w B A n c l) :
    Calls Tryz.prog 99 #[.slice A n c, .int .i64 p, .int .i64 x] w fun e w' => e = .returned (.tuple #[.int .u64 ((Oct.getS l p x).1 : Int), .int .i64 (Oct.getS l p x).2]) ∧ w = w' := by
  have hl := hb.len
  have hn := hb.lt
  unfold Oct.getS
  by_cases h : 1 ≤ x ∧ x ≤ 8 ∧ 0 ≤ p ∧ p ≤ (l.length : Int)
  · rw [if_pos h]
    obtain ⟨h1, h2, h3, h4⟩ := h
    by_cases hs : (l.length : Int) - p < x
    · rw [if_pos hs]
      have hs' : (n : Int) - p < x := by omega
      have h4' : p ≤ (n : Int) := by omega
      clear hs h4 hl
      go_enter Tryz.func99, Tryz.ntmps99
      go_wp2_with fail
      go_ret2
      exact ⟨rfl, rfl⟩
    · rw [if_neg hs]
      obtain ⟨k, rfl⟩ := Int.eq_ofNat_of_zero_le (show 0 ≤ x by omega)
      obtain ⟨q, rfl⟩ := Int.eq_ofNat_of_zero_le h3
      exact RGet_ok k q w hb (by omega) (by omega) (by omega)
  · rw [if_neg h]
    by_cases h1 : x < 1
    · clear h hl
      go_enter Tryz.func99, Tryz.ntmps99
      go_wp2_with fail
      go_ret2
      exact ⟨rfl, rfl⟩
    by_cases h2 : 8 < x
    · clear h hl
      go_enter Tryz.func99, Tryz.ntmps99
      go_wp2_with fail
      go_ret2
      exact ⟨rfl, rfl⟩
    by_cases h3 : p < 0
    · clear h hl
      go_enter Tryz.func99, Tryz.ntmps99
      go_wp2_with fail
      go_ret2
      exact ⟨rfl, rfl⟩
    · have h4 : (n : Int) < p := by omega
      clear h hl
      go_enter Tryz.func99, Tryz.ntmps99
      go_wp2_with fail
      go_ret2
      exact ⟨rfl, rfl⟩
theorem sgn_low (n b : Nat) (h : n < 2 ^ b) : Oct.sgn n b = if n < 2 ^ (b - 1) then (n : Int) else (n : Int) - ((2 ^ b : Nat) : Int) := by
  unfold Oct.sgn; rw [Nat.mod_eq_of_lt h, Oct.pow_int]
theorem getS_fits (l : List UInt8) (p : Int) (k : Nat) : (Oct.getS l p k).1 < 2 ^ (8 * k) := by
  unfold Oct.getS
  rw [Nat.pow_mul]
  split
  · split
    · exact Nat.pow_pos (by decide)
    · rename_i h1 h2
      have h3 := Oct.le_lt (Oct.cut l p.toNat ((k : Nat) : Int).toNat)
      rwa [Oct.cut_length _ _ _ (by omega)] at h3
  · exact Nat.pow_pos (by decide)
theorem getS_ok' {l : List UInt8} {p x : Int} (h : (Oct.getS l p x).2 = 0) : 1 ≤ x ∧ x ≤ 8 := by
  unfold Oct.getS at h
  split at h
  · rename_i h1; exact ⟨h1.1, h1.2.1⟩
  · simp at h
set_option maxHeartbeats 1000000 in
theorem RGetInt_any {A : Option Addr} {n c B : Nat} {l : List UInt8} (p x : Int) (w : World) (hb : RB w B A n c l) :
    Calls Tryz.prog 98 #[.slice A n c, .int .i64 p, .int .i64 x] w fun e w' => e = .returned (.tuple #[.int .i64 (Oct.getIntS l p x).1, .int .i64 (Oct.getIntS l p x).2]) ∧ w = w' := by
  have hok := getS_ok' (l := l) (p := p) (x := x)
  have hg := RGet_any p x w hb
  have hft := getS_fits l p x.toNat
  unfold Oct.getIntS
  by_cases he : (Oct.getS l p x).2 = 0
  · rw [if_pos he]
    obtain ⟨h1, h2⟩ := hok he
    obtain ⟨k, rfl⟩ := Int.eq_ofNat_of_zero_le (show 0 ≤ x by omega)
    rw [Int.toNat_natCast] at *
    clear hok
    generalize Oct.getS l p k = y at *
    obtain ⟨y, ye⟩ := y
    dsimp only at *
    subst he
    have HG := Lib.hid hg; clear hg
    have hsg := sgn_low y (8 * k) hft
    have h64 : 2 ^ (8 * k) ≤ 18446744073709551616 := Nat.le_trans (Nat.pow_le_pow_right (by decide) (show 8 * k ≤ 64 by omega)) (by decide)
    have hh := Oct.two_half (8 * k) (by omega)
    by_cases h8 : k = 8
    · subst h8
      have hv : wrap64 (y : Int) = Oct.sgn y (8 * 8) := by
        rw [hsg]
        have e1 : 2 ^ (8 * 8 - 1) = 9223372036854775808 := by decide
        have e2 : 2 ^ (8 * 8) = 18446744073709551616 := by decide
        rw [e1, e2]
        rw [e2] at hft
        unfold wrap64
        split <;> omega
      have HV := Lib.hid hv
      clear hv hsg hh hft
      have hk8 : ((8 : Nat) : Int) = 8 := rfl
      go_enter Tryz.func98, Tryz.ntmps98
      go_wp2_with fail
      refine HG.out.mono ?_
      rintro e w1 ⟨rfl, rfl⟩
      go_wp2_with fail
      go_ret2
      exact ⟨by rw [← HV.out]; rfl, rfl⟩
    · have hk8 : ((k : Int) == 8) = false := by rw [beq_eq_false_iff_ne]; omega
      have hk7 : k ≤ 7 := by omega
      have hp55 : 2 ^ (8 * k - 1) ≤ 2 ^ 55 := Nat.pow_le_pow_right (by decide) (by omega)
      clear h8
      rw [hh] at hft hsg h64
      by_cases hlow : y < 2 ^ (8 * k - 1)
      · rw [if_pos hlow] at hsg
        have HE := Lib.hid hsg; have HH := Lib.hid hh
        clear hsg hh
        have hhalf := half_any k (x := (k : Int)) rfl w (by omega) hk7
        generalize 2 ^ (8 * k - 1) = q at *
        have HF := Lib.hid hhalf; clear hhalf
        have hlow' : (y : Int) < (q : Int) := by omega
        go_enter Tryz.func98, Tryz.ntmps98
        go_wp2_with fail
        refine HG.out.mono ?_
        rintro e w1 ⟨rfl, rfl⟩
        go_wp2_with fail
        refine HF.out.mono ?_
        rintro e w1 ⟨rfl, rfl⟩
        go_wp2_with fail
        go_ret2
        exact ⟨by rw [HE.out]; rfl, rfl⟩
      · rw [if_neg hlow] at hsg
        have HE := Lib.hid hsg; have HH := Lib.hid hh
        clear hsg hh
        have hhalf := half_any k (x := (k : Int)) rfl w (by omega) hk7
        generalize 2 ^ (8 * k - 1) = q at *
        have HF := Lib.hid hhalf; clear hhalf
        have hlow' : (q : Int) ≤ (y : Int) := by omega
        go_enter Tryz.func98, Tryz.ntmps98
        go_wp2_with fail
        refine HG.out.mono ?_
        rintro e w1 ⟨rfl, rfl⟩
        go_wp2_with fail
        refine HF.out.mono ?_
        rintro e w1 ⟨rfl, rfl⟩
        go_wp2_with fail
        refine HF.out.mono ?_
        rintro e w1 ⟨rfl, rfl⟩
        go_wp2_with fail
        refine HF.out.mono ?_
        rintro e w1 ⟨rfl, rfl⟩
        go_wp2_with fail
        go_ret2
        exact ⟨by rw [HE.out]; exact congrArg (fun z => Ending.returned (.tuple #[.int .i64 z, .int .i64 0])) (by omega), rfl⟩
  · rw [if_neg he]
    clear hok hft
    generalize Oct.getS l p x = y at *
    obtain ⟨y, ye⟩ := y
    dsimp only at *
    have ht : (ye != 0) = true := by rw [bne_iff_ne]; exact he
    have HG := Lib.hid hg; clear hg he
    go_enter Tryz.func98, Tryz.ntmps98
    go_wp2_with fail
    refine HG.out.mono ?_
    rintro e w1 ⟨rfl, rfl⟩
    go_wp2_with fail
    go_ret2
    exact ⟨rfl, rfl⟩

end Go.Proofs.YtkddillihhjghaaGreat
/-
  Walks: types.Encode, Decode, and the reference's.
  Conditions: none.
-/
namespace Go.Proofs.YtkddillihhjghaaGreat
set_option linter.unusedVariables false
set_option linter.unusedSimpArgs false
open Go.RowKit
/-- Bytes and a code are answered; the bytes are the call's own. -/
def BP (p : List UInt8 × Int) (w : World) (e : Ending) (w' : World) : Prop := ∃ A1 c1, e = .returned (.tuple #[.slice A1 p.1.length c1, .int .i64 p.2]) ∧ OB w' w.heap.size A1 p.1.length c1 p.1 ∧ Below w.heap.size w w'
theorem bp_bad {p : List UInt8 × Int} {w w' : World} {x : Int} (h : p = ([], x)) (hb : Below w.heap.size w w') : BP p w (.returned (.tuple #[.slice none 0 0, .int .i64 x])) w' := by
  subst h
  exact ⟨none, 0, rfl, OB.none_ _ _, hb⟩
theorem bp_ok {p : List UInt8 × Int} {w w' : World} {A : Option Addr} {n c : Nat} {l : List UInt8} {x : Int} (h : p = (l, x)) (hn : l.length = n) (ho : OB w' w.heap.size A n c l) (hb : Below w.heap.size w w') : BP p w (.returned (.tuple #[.slice A n c, .int .i64 x])) w' := by
  subst h hn
  exact ⟨A, c, rfl, ho, hb⟩
theorem kd_num (t : Int) : ((Ty.kd t).bits = 0 ∧ (Ty.kd t).size = 0 ∧ (Ty.kd t).sgn = false) ∨ ((Ty.kd t).sgn = true ∧ (Ty.kd t).bits = 8 * (Ty.kd t).size ∧ 1 ≤ (Ty.kd t).size ∧ (Ty.kd t).size ≤ 8) ∨ ((Ty.kd t).sgn = false ∧ 1 ≤ (Ty.kd t).bits ∧ (Ty.kd t).bits ≤ 8 * (Ty.kd t).size ∧ 1 ≤ (Ty.kd t).size ∧ (Ty.kd t).size ≤ 4 ∧ ((Ty.kd t).bits = 8 * (Ty.kd t).size ∨ ((Ty.kd t).bits = 1 ∧ t = 1))) := by
  rcases Ty.kd_cases t with h | ⟨_, h⟩
  · rcases h with rfl | rfl | rfl | rfl | rfl | rfl | rfl | rfl | rfl | rfl | rfl <;> decide
  · rw [h]; exact .inl ⟨rfl, rfl, rfl⟩
theorem enc_type {t n : Int} (h : (Ty.limS t).2.2 = false) : Ty.encS t n = ([], 15) := by unfold Ty.encS; rw [if_pos h]
theorem enc_range {t n : Int} (h : (Ty.limS t).2.2 = true) (hr : n < (Ty.limS t).1 ∨ (Ty.limS t).2.1 < n) : Ty.encS t n = ([], 9) := by unfold Ty.encS; rw [if_neg (by rw [h]; decide), if_pos hr]
theorem enc_ok {t n : Int} (h : (Ty.limS t).2.2 = true) (hr : ¬ (n < (Ty.limS t).1 ∨ (Ty.limS t).2.1 < n)) : Ty.encS t n = (Oct.lb (Ty.kd t).size (n % 18446744073709551616).toNat, 0) := by unfold Ty.encS; rw [if_neg (by rw [h]; decide), if_neg hr]
theorem lim_ok {t : Int} (h : (Ty.limS t).2.2 = true) : ((Ty.kd t).sgn = true ∧ 1 ≤ (Ty.kd t).size ∧ (Ty.kd t).size ≤ 8 ∧ (Ty.limS t).1 = -((2 ^ (8 * (Ty.kd t).size - 1) : Nat) : Int) ∧ (Ty.limS t).2.1 = ((2 ^ (8 * (Ty.kd t).size - 1) : Nat) : Int) - 1) ∨
    ((Ty.kd t).sgn = false ∧ 1 ≤ (Ty.kd t).size ∧ (Ty.kd t).size ≤ 4 ∧ (Ty.limS t).1 = 0 ∧ (Ty.limS t).2.1 = ((2 ^ (Ty.kd t).bits : Nat) : Int) - 1 ∧ (Ty.kd t).bits ≤ 8 * (Ty.kd t).size) := by
  rcases kd_num t with ⟨h1, _⟩ | ⟨h1, h2, h3, h4⟩ | ⟨h1, h2, h3, h4, h5, _⟩
  · unfold Ty.limS at h; rw [if_pos h1] at h; cases h
  · left
    refine ⟨h1, h3, h4, ?_, ?_⟩ <;> (unfold Ty.limS; rw [if_neg (by omega), if_pos h1, h2])
  · right
    refine ⟨h1, h4, h5, ?_, ?_, h3⟩ <;> (unfold Ty.limS; rw [if_neg (by omega), if_neg (by rw [h1]; decide)])
theorem pow_256 (k : Nat) : 256 ^ k = 2 ^ (8 * k) := by rw [Nat.pow_mul]
end Go.Proofs.YtkddillihhjghaaGreat
