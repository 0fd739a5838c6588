/-
  Walks: the program's nibble and Hex, the reference's digit.
  Conditions: none.
-/
import Derived.Test.YtnppihlalhaldaaOctPure
import Derived.Test.YtnppihlalhaldaaWords
import Derived.Test.YtnppihlalhaldaaPhase
namespace Go.Proofs.Ytnppihlalhaldaa
set_option linter.unusedVariables false
set_option linter.unusedSimpArgs false
open Go.RowKit
set_option maxHeartbeats 1000000 in
theorem nibble_some (c : UInt8) (k : Nat) (w : World) (h : Oct.nib c = some k) :
    Calls Try.prog 81 #[.int .u8 (c.toNat : Int)] w fun e w' => e = .returned (.tuple #[.int .u8 (k : Int), .bool true]) ∧ w = w' := by
  have hc := byte_lt c
  unfold Oct.nib at h
  generalize c.toNat = d at *
  by_cases h1 : 48 ≤ d ∧ d ≤ 57
  · rw [if_pos h1] at h
    injection h with h
    obtain ⟨h1, h2⟩ := h1
    obtain ⟨k', rfl⟩ : ∃ k', d = k' + 48 := ⟨d - 48, by omega⟩
    obtain rfl : k' = k := by omega
    clear h
    go_enter Try.func81, Try.ntmps81
    go_wp2_with fail
    go_ret2
    exact ⟨rfl, rfl⟩
  · rw [if_neg h1] at h
    by_cases h2 : 97 ≤ d ∧ d ≤ 102
    · rw [if_pos h2] at h
      injection h with h
      clear h1
      obtain ⟨h1, h2⟩ := h2
      obtain ⟨k', rfl⟩ : ∃ k', d = k' + 97 := ⟨d - 97, by omega⟩
      obtain rfl : k' + 10 = k := by omega
      clear h
      go_enter Try.func81, Try.ntmps81
      go_wp2_with fail
      go_ret2
      exact ⟨rfl, rfl⟩
    · rw [if_neg h2] at h
      cases h
set_option maxHeartbeats 1000000 in
theorem nibble_none (c : UInt8) (w : World) (h : Oct.nib c = none) :
    Calls Try.prog 81 #[.int .u8 (c.toNat : Int)] w fun e w' => e = .returned (.tuple #[.int .u8 0, .bool false]) ∧ w = w' := by
  have hc := byte_lt c
  unfold Oct.nib at h
  generalize c.toNat = d at *
  split at h
  · cases h
  · rename_i h1
    split at h
    · cases h
    · rename_i h2
      clear h
      by_cases ha : d < 48
      · clear h1 h2
        go_enter Try.func81, Try.ntmps81
        go_wp2_with fail
        go_ret2
        exact ⟨rfl, rfl⟩
      · by_cases hb : d < 97
        · have hc2 : 57 < d := by omega
          clear h1 h2
          go_enter Try.func81, Try.ntmps81
          go_wp2_with fail
          go_ret2
          exact ⟨rfl, rfl⟩
        · have hc2 : 102 < d := by omega
          clear h1 h2
          go_enter Try.func81, Try.ntmps81
          go_wp2_with fail
          go_ret2
          exact ⟨rfl, rfl⟩
theorem hexd_get : ∀ j : Fin 16, (⟨#[48, 49, 50, 51, 52, 53, 54, 55, 56, 57, 97, 98, 99, 100, 101, 102]⟩ : ByteArray)[j.val]'(j.isLt) = Oct.dig j.val := by decide
theorem run_hexd (kd : IntKind) (z : Int) (k : Nat) (hz : z = (k : Int)) (hk : k < 16) (w : World) :
    (Instr.index 9 (.string ⟨#[48, 49, 50, 51, 52, 53, 54, 55, 56, 57, 97, 98, 99, 100, 101, 102]⟩) (.int kd z)).run Try.prog w = .ok (.int .u8 ((Oct.dig k).toNat : Int)) w := by
  subst hz
  rw [run_index_string w _ _ kd _ Try.underlying9, dif_pos ⟨by omega, by exact Int.ofNat_lt.2 hk⟩]
  have e : ((k : Int)).toNat = k := by omega
  simp only [e]
  rw [hexd_get ⟨k, hk⟩]
set_option maxHeartbeats 1000000 in
theorem digit_any (c : UInt8) (w : World) :
    Calls Try.prog 42 #[.int .u8 (c.toNat : Int)] w fun e w' => e = .returned (.int .i64 (match Oct.nib c with | some k => (k : Int) | none => -1)) ∧ w = w' := by
  have hc := byte_lt c
  generalize hspec : (match Oct.nib c with | some k => (k : Int) | none => -1) = v
  have HS := Lib.hid hspec
  clear hspec
  go_enter Try.func42, Try.ntmps42
  go_wp2_with fail
  go_loop [3] (fun i => ∃ j : Nat, j ≤ 16 ∧ i = .int .i64 j ∧ ∀ i < j, Oct.dig i ≠ c) (fun i => 16 - (intOf i).toNat)
  case atStart => exact ⟨0, by omega, rfl, fun _ h => absurd h (by omega)⟩
  case round =>
    obtain ⟨j, hj, rfl, hne⟩ := hrel
    have HN := Lib.hid hne
    clear hne
    by_cases hlt : j < 16
    · have hg := hexd_get ⟨j, hlt⟩
      by_cases hd : Oct.dig j = c
      · have ht : ((((⟨#[48, 49, 50, 51, 52, 53, 54, 55, 56, 57, 97, 98, 99, 100, 101, 102]⟩ : ByteArray)[j]'hlt).toNat : Int) == (c.toNat : Int)) = true := by
          rw [byte_beq, beq_iff_eq]; exact hg.trans hd
        have HG := Lib.hid hd
        clear hg hd
        go_wp2_with fail
        go_ret
        exact ⟨by rw [← HS.out, show Oct.nib c = some j from HG.out ▸ Oct.nib_dig j hlt]; rfl, rfl⟩
      · have ht : ((((⟨#[48, 49, 50, 51, 52, 53, 54, 55, 56, 57, 97, 98, 99, 100, 101, 102]⟩ : ByteArray)[j]'hlt).toNat : Int) == (c.toNat : Int)) = false := by
          rw [byte_beq, beq_eq_false_iff_ne]; exact fun h => hd (hg.symm.trans h)
        have HG := Lib.hid hd
        clear hg hd
        go_wp2_with fail
        go_round
        case rel => exact ⟨j + 1, by omega, by go_num, fun i hi => by
          by_cases e : i = j
          · subst e; exact HG.out
          · exact HN.out i (by omega)⟩
        case measure => simp [intOf] <;> omega
    · go_wp2_with fail
      go_ret
      refine ⟨?_, rfl⟩
      rw [← HS.out]
      cases e : Oct.nib c with
      | none => rfl
      | some k => exact absurd (Oct.dig_nib e) (HN.out k (by have := Oct.nib_lt e; omega))
end Go.Proofs.Ytnppihlalhaldaa
