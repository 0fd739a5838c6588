/-
  Walks: the reference of package lex: skip, quoted.
  Conditions: none.
-/
import Derived.Test.YtnppihlalhaldaaLexRef
namespace Go.Proofs.Ytnppihlalhaldaa
set_option linter.unusedVariables false
set_option linter.unusedSimpArgs false
open Go.RowKit
namespace Lx
theorem skip_blank {c : UInt8} {r : List UInt8} (h : blank c = true) : skip false (c :: r) = skip false r := by rw [skip, if_pos h]
theorem skip_in {c : UInt8} {r : List UInt8} (h : c ≠ 10) : skip true (c :: r) = skip true r := by
  rw [skip]
  congr 1
  unfold line
  simpa using h
theorem skip_out (r : List UInt8) : skip true (10 :: r) = skip false (10 :: r) := rfl
end Lx
set_option maxRecDepth 100000 in
set_option maxHeartbeats 4000000 in
theorem skip_any (s : List UInt8) (i : Nat) (w : World) (hs : s.length ≤ 1000000) (hi : i ≤ s.length) :
    Calls Try.prog 17 #[.string (T s), .int .i64 (i : Int)] w fun e w' => e = .returned (.int .i64 (Lx.pos s i : Int)) ∧ w' = w := by
  have hT := T_size s
  have hf : ∀ j, j ≤ s.length → Lx.skip false (s.drop j) = Lx.skip false (s.drop i) → s.drop j = Lx.skip false (s.drop j) → j = Lx.pos s i := fun j hj h1 h2 => by
    unfold Lx.pos
    rw [← h1, ← h2, List.length_drop]
    omega
  have HF := Lib.hid hf; clear hf
  generalize Lx.pos s i = res at *
  go_enter Try.func17, Try.ntmps17
  go_wp2_with fail
  go_loop [1] (fun v => ∃ k : Nat, k ≤ s.length ∧ v = .int .i64 k ∧ Hid (Lx.skip false (s.drop k) = Lx.skip false (s.drop i))) (fun v => s.length - (intOf v).toNat)
  case atStart => exact ⟨i, hi, rfl, Lib.hid rfl⟩
  case round =>
    obtain ⟨k, hk, rfl, hq⟩ := hrel
    by_cases hlt : k < s.length
    · have hd := drop_cons hlt
      have hat := fun w => run_T_at s .i64 k k rfl hlt w
      have hqo := hq.out
      rw [hd] at hqo
      clear hq
      have B := ref_blank (s.getD k 0) w
      cases hb : Lx.blank (s.getD k 0) with
      | true =>
        rw [hb] at B
        rw [Lx.skip_blank hb] at hqo
        have HQ := Lib.hid hqo
        replace B := Lib.hid B
        generalize s.getD k 0 = c at *
        clear hqo hd hb
        go_wp2_with fail
        refine (B.out).mono ?_
        rintro e _ ⟨rfl, rfl⟩
        go_wp2_with fail
        go_round
        case rel => exact ⟨k + 1, by omega, by go_num, HQ⟩
        case measure => simp [intOf] <;> omega
      | false =>
        rw [hb] at B
        replace B := Lib.hid B
        by_cases h33 : s.getD k 0 = 33
        · rw [h33] at hqo hat
          rw [h33] at B
          rw [Lx.skip_bang, Lx.skip_in (by decide)] at hqo
          have H33 := Lib.hid h33
          have HQ0 : Hid (Lx.skip true (s.drop k) = Lx.skip false (s.drop i)) := Lib.hid (by rw [hd, h33, Lx.skip_in (by decide)]; exact hqo)
          clear hqo hd hb h33
          go_wp2_with fail
          refine (B.out).mono ?_
          rintro e _ ⟨rfl, rfl⟩
          go_wp2_with fail
          clear hat
          go_loop [1] (fun v => ∃ j : Nat, k ≤ j ∧ j ≤ s.length ∧ v = .int .i64 j ∧ Hid (Lx.skip true (s.drop j) = Lx.skip false (s.drop i))) (fun v => s.length - (intOf v).toNat)
          case atStart => exact ⟨k, by omega, hk, rfl, HQ0⟩
          case round =>
            obtain ⟨j, hkj, hj, rfl, hq⟩ := hrel
            by_cases hlj : j < s.length
            · have hd := drop_cons hlj
              have hat := fun w => run_T_at s .i64 j j rfl hlj w
              have hqo := hq.out
              rw [hd] at hqo
              clear hq
              by_cases h10 : s.getD j 0 = 10
              · have hne : j ≠ k := by
                  rintro rfl
                  rw [H33.out] at h10
                  exact absurd h10 (by decide)
                rw [h10] at hat hqo
                rw [Lx.skip_out] at hqo
                have HQ : Hid (Lx.skip false (s.drop j) = Lx.skip false (s.drop i)) := Lib.hid (by rw [hd, h10]; exact hqo)
                clear hqo hd h10
                go_wp2_with fail
                go_round
                case rel => exact ⟨j, by omega, rfl, HQ⟩
                case measure => simp [intOf] <;> omega
              · have hc1 := byte_neq (k := 10) h10 rfl
                rw [Lx.skip_in h10] at hqo
                have HQ := Lib.hid hqo
                clear hqo hd h10
                generalize s.getD j 0 = c at *
                go_wp2_with fail
                go_round
                case rel => exact ⟨j + 1, by omega, by omega, by go_num, HQ⟩
                case measure => simp [intOf] <;> omega
            · obtain rfl : j = s.length := by omega
              have HQ : Hid (Lx.skip false (s.drop s.length) = Lx.skip false (s.drop i)) := Lib.hid (by
                have := hq.out
                rw [List.drop_length] at this ⊢
                exact this)
              clear hq
              go_wp2_with fail
              go_round
              case rel => exact ⟨s.length, by omega, rfl, HQ⟩
              case measure => simp [intOf] <;> omega
        · have hc1 := byte_ne (k := 33) h33 rfl
          rw [Lx.skip_stop hb h33] at hqo
          have HZ : Hid (k = res) := Lib.hid (HF.out k hk (by rw [hd, Lx.skip_stop hb h33]; exact hqo) (by rw [hd, Lx.skip_stop hb h33]))
          clear hqo hd hb h33
          generalize s.getD k 0 = c at *
          go_wp2_with fail
          refine (B.out).mono ?_
          rintro e _ ⟨rfl, rfl⟩
          go_wp2_with fail
          go_ret
          exact ⟨ret_int (by rw [HZ.out]), rfl⟩
    · obtain rfl : k = s.length := by omega
      have HZ : Hid (s.length = res) := Lib.hid (HF.out _ (Nat.le_refl _) hq.out (by rw [List.drop_length]; rfl))
      clear hq
      go_wp2_with fail
      go_ret
      exact ⟨ret_int (by rw [HZ.out]), rfl⟩
/-- How many bytes a text between two signs has. -/
def quoN (s : List UInt8) (i : Nat) : Int := match Lx.qlen false (s.drop (i + 1)) with | some k => (k : Int) + 1 | none => 0
set_option maxRecDepth 100000 in
set_option maxHeartbeats 4000000 in
theorem rquoted_any (s : List UInt8) (i : Nat) (w : World) (hs : s.length ≤ 1000000) (hi : i < s.length) :
    Calls Try.prog 39 #[.string (T s), .int .i64 (i : Int)] w fun e w' => e = .returned (.int .i64 (quoN s i)) ∧ w' = w := by
  have hT := T_size s
  go_enter Try.func39, Try.ntmps39
  go_wp2_with fail
  go_loop [5] (fun v => ∃ j : Nat, i + 1 ≤ j ∧ j ≤ s.length + 1 ∧ v = .int .i64 j ∧ Hid (Lx.qlen false (s.drop (i + 1)) = (Lx.qlen false (s.drop j)).map (· + (j - (i + 1))))) (fun v => s.length + 1 - (intOf v).toNat)
  case atStart => exact ⟨i + 1, by omega, by omega, by go_num, Lib.hid (by simp)⟩
  case round =>
    obtain ⟨j, hj1, hj, rfl, hq⟩ := hrel
    by_cases hlt : j < s.length
    · have hd := drop_cons hlt
      have hat := fun w => run_T_at s .i64 j j rfl hlt w
      have hqo := hq.out
      rw [hd] at hqo
      clear hq
      by_cases h34 : s.getD j 0 = 34
      · rw [h34] at hat hqo
        have HV : Hid ((j : Int) + 1 - i = quoN s i) := Lib.hid (by
          unfold quoN
          rw [hqo, Lx.qlen, if_neg (by decide), if_pos rfl]
          simp only [Option.map_some]
          omega)
        clear hqo hd h34
        go_wp2_with fail
        go_ret
        exact ⟨ret_int HV.out, rfl⟩
      · have hc1 := byte_ne (k := 34) h34 rfl
        by_cases h92 : s.getD j 0 = 92
        · rw [h92] at hat hqo hc1
          have HQ : Hid (Lx.qlen false (s.drop (i + 1)) = (Lx.qlen false (s.drop (j + 2))).map (· + (j + 2 - (i + 1)))) := Lib.hid (by
            rw [hqo, Lx.qlen, if_pos rfl]
            by_cases hj2 : j + 1 < s.length
            · rw [drop_cons hj2, Lx.qlen]
              cases Lx.qlen false (s.drop (j + 1 + 1)) with
              | none => rfl
              | some x => simp only [Option.map_some]; congr 1; omega
            · rw [List.drop_of_length_le (by omega), List.drop_of_length_le (by omega)]
              rfl)
          clear hqo hd h34 h92
          go_wp2_with fail
          go_round
          case rel => exact ⟨j + 2, by omega, by omega, by go_num, HQ⟩
          case measure => simp [intOf] <;> omega
        · have hc2 := byte_ne (k := 92) h92 rfl
          have HQ : Hid (Lx.qlen false (s.drop (i + 1)) = (Lx.qlen false (s.drop (j + 1))).map (· + (j + 1 - (i + 1)))) := Lib.hid (by
            rw [hqo, Lx.qlen, if_neg h92, if_neg h34]
            cases Lx.qlen false (s.drop (j + 1)) with
            | none => rfl
            | some x => simp only [Option.map_some]; congr 1; omega)
          clear hqo hd h34 h92
          generalize s.getD j 0 = c at *
          go_wp2_with fail
          go_round
          case rel => exact ⟨j + 1, by omega, by omega, by go_num, HQ⟩
          case measure => simp [intOf] <;> omega
    · have HV : Hid (0 = quoN s i) := Lib.hid (by
        unfold quoN
        rw [hq.out, List.drop_of_length_le (by omega)]
        rfl)
      clear hq
      go_wp2_with fail
      go_ret
      exact ⟨ret_int HV.out, rfl⟩
end Go.Proofs.Ytnppihlalhaldaa
