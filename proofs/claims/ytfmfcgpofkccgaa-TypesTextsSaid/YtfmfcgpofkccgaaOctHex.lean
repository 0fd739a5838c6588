/-
  Walks: the program's nibble and Hex, the reference's digit.
  Conditions: none.
-/
import Derived.Test.YtfmfcgpofkccgaaOctPure
import Derived.Test.YtfmfcgpofkccgaaWords
import Derived.Test.YtfmfcgpofkccgaaPhase
namespace Go.Proofs.Ytfmfcgpofkccgaa
set_option linter.unusedVariables false
set_option linter.unusedSimpArgs false
open Go.RowKit
set_option maxHeartbeats 1000000 in
theorem nibble_some (c : UInt8) (k : Nat) (w : World) (h : Oct.nib c = some k) :
    Calls Try.prog 67 #[.int .u8 (c.toNat : Int)] w fun e w' => e = .returned (.tuple #[.int .u8 (k : Int), .bool true]) ∧ w = w' := by
  have hc := byte_lt c
  unfold Oct.nib at h
  generalize c.toNat = d at *
  by_cases h1 : 48 ≤ d ∧ d ≤ 57
  · rw [if_pos h1] at h
    injection h with h
    obtain ⟨h1, h2⟩ := h1
    obtain ⟨k', rfl⟩ : ∃ k', d = k' + 48 := ⟨d - 48, by omega⟩
    obtain rfl : k' = k := by omega
    clear h
    go_enter Try.func67, Try.ntmps67
    go_wp2_with fail
    go_ret2
    exact ⟨rfl, rfl⟩
  · rw [if_neg h1] at h
    by_cases h2 : 97 ≤ d ∧ d ≤ 102
    · rw [if_pos h2] at h
      injection h with h
      clear h1
      obtain ⟨h1, h2⟩ := h2
      obtain ⟨k', rfl⟩ : ∃ k', d = k' + 97 := ⟨d - 97, by omega⟩
      obtain rfl : k' + 10 = k := by omega
      clear h
      go_enter Try.func67, Try.ntmps67
      go_wp2_with fail
      go_ret2
      exact ⟨rfl, rfl⟩
    · rw [if_neg h2] at h
      cases h
set_option maxHeartbeats 1000000 in
theorem nibble_none (c : UInt8) (w : World) (h : Oct.nib c = none) :
    Calls Try.prog 67 #[.int .u8 (c.toNat : Int)] w fun e w' => e = .returned (.tuple #[.int .u8 0, .bool false]) ∧ w = w' := by
  have hc := byte_lt c
  unfold Oct.nib at h
  generalize c.toNat = d at *
  split at h
  · cases h
  · rename_i h1
    split at h
    · cases h
    · rename_i h2
      clear h
      by_cases ha : d < 48
      · clear h1 h2
        go_enter Try.func67, Try.ntmps67
        go_wp2_with fail
        go_ret2
        exact ⟨rfl, rfl⟩
      · by_cases hb : d < 97
        · have hc2 : 57 < d := by omega
          clear h1 h2
          go_enter Try.func67, Try.ntmps67
          go_wp2_with fail
          go_ret2
          exact ⟨rfl, rfl⟩
        · have hc2 : 102 < d := by omega
          clear h1 h2
          go_enter Try.func67, Try.ntmps67
          go_wp2_with fail
          go_ret2
          exact ⟨rfl, rfl⟩
theorem hexd_get : ∀ j : Fin 16, (⟨#[48, 49, 50, 51, 52, 53, 54, 55, 56, 57, 97, 98, 99, 100, 101, 102]⟩ : ByteArray)[j.val]'(j.isLt) = Oct.dig j.val := by decide
theorem run_hexd (kd : IntKind) (z : Int) (k : Nat) (hz : z = (k : Int)) (hk : k < 16) (w : World) :
    (Instr.index 9 (.string ⟨#[48, 49, 50, 51, 52, 53, 54, 55, 56, 57, 97, 98, 99, 100, 101, 102]⟩) (.int kd z)).run Try.prog w = .ok (.int .u8 ((Oct.dig k).toNat : Int)) w := by
  subst hz
  rw [run_index_string w _ _ kd _ Try.underlying9, dif_pos ⟨by omega, by exact Int.ofNat_lt.2 hk⟩]
  have e : ((k : Int)).toNat = k := by omega
  simp only [e]
  rw [hexd_get ⟨k, hk⟩]
set_option maxHeartbeats 1000000 in
theorem digit_any (c : UInt8) (w : World) :
    Calls Try.prog 66 #[.int .u8 (c.toNat : Int)] w fun e w' => e = .returned (.int .i64 (match Oct.nib c with | some k => (k : Int) | none => -1)) ∧ w = w' := by
  have hc := byte_lt c
  generalize hspec : (match Oct.nib c with | some k => (k : Int) | none => -1) = v
  have HS := Lib.hid hspec
  clear hspec
  go_enter Try.func66, Try.ntmps66
  go_wp2_with fail
  go_loop [3] (fun i => ∃ j : Nat, j ≤ 16 ∧ i = .int .i64 j ∧ ∀ i < j, Oct.dig i ≠ c) (fun i => 16 - (intOf i).toNat)
  case atStart => exact ⟨0, by omega, rfl, fun _ h => absurd h (by omega)⟩
  case round =>
    obtain ⟨j, hj, rfl, hne⟩ := hrel
    have HN := Lib.hid hne
    clear hne
    by_cases hlt : j < 16
    · have hg := hexd_get ⟨j, hlt⟩
      by_cases hd : Oct.dig j = c
      · have ht : ((((⟨#[48, 49, 50, 51, 52, 53, 54, 55, 56, 57, 97, 98, 99, 100, 101, 102]⟩ : ByteArray)[j]'hlt).toNat : Int) == (c.toNat : Int)) = true := by
          rw [byte_beq, beq_iff_eq]; exact hg.trans hd
        have HG := Lib.hid hd
        clear hg hd
        go_wp2_with fail
        go_ret
        exact ⟨by rw [← HS.out, show Oct.nib c = some j from HG.out ▸ Oct.nib_dig j hlt]; rfl, rfl⟩
      · have ht : ((((⟨#[48, 49, 50, 51, 52, 53, 54, 55, 56, 57, 97, 98, 99, 100, 101, 102]⟩ : ByteArray)[j]'hlt).toNat : Int) == (c.toNat : Int)) = false := by
          rw [byte_beq, beq_eq_false_iff_ne]; exact fun h => hd (hg.symm.trans h)
        have HG := Lib.hid hd
        clear hg hd
        go_wp2_with fail
        go_round
        case rel => exact ⟨j + 1, by omega, by go_num, fun i hi => by
          by_cases e : i = j
          · subst e; exact HG.out
          · exact HN.out i (by omega)⟩
        case measure => simp [intOf] <;> omega
    · go_wp2_with fail
      go_ret
      refine ⟨?_, rfl⟩
      rw [← HS.out]
      cases e : Oct.nib c with
      | none => rfl
      | some k => exact absurd (Oct.dig_nib e) (HN.out k (by have := Oct.nib_lt e; omega))
set_option maxHeartbeats 1000000 in
theorem Hex_any {A : Option Addr} {n c B : Nat} {l : List UInt8} (w : World) (hb : RB w B A n c l) (hn : n ≤ 100000) (hB : B ≤ w.heap.size) :
    Calls Try.prog 49 #[.slice A n c] w fun e w' => e = .returned (.string ⟨(Oct.hexS l).toArray⟩) ∧ Below w.heap.size w w' := by
  have hl := hb.len
  go_enter Try.func49, Try.ntmps49
  go_wp2_with (at_make; refine wpList_mkb etb rfl (.const (.int .i64 0)) (.tmp 8) rfl .i64 .i64 0 (2 * n) rfl rfl (by omega) (by omega) w.heap.size (Nat.le_refl _) ?_; intro w3 h3 hb3 hz3)
  go_loopw [3, 12] (fun v i wr => ∃ (j : Nat) (A1 : Option Addr) (c1 : Nat), j ≤ n ∧ i = .int .i64 j ∧ v = .slice A1 (2 * j) c1 ∧ OB wr w.heap.size A1 (2 * j) c1 (Oct.hexS (l.take j)) ∧ Below w.heap.size w wr) (fun _ i _ => n - (intOf i).toNat)
  case atStart => exact ⟨0, _, _, Nat.zero_le _, rfl, rfl, h3, hb3⟩
  case round =>
    obtain ⟨j, A1, c1, hj, rfl, rfl, hown, hbel⟩ := hrel
    have hbr := hb.below (hbel.mono hB)
    by_cases hlt : j < n
    · obtain ⟨g, o, rfl, hgB, hcl⟩ := hbr.at_ (by omega)
      have hcj := hcl j hlt
      have hx2 : (l.getD j 0).toNat < 256 := byte_lt _
      have hsn : Oct.hexS (l.take (j + 1)) = Oct.hexS (l.take j) ++ [Oct.dig ((l.getD j 0).toNat / 16), Oct.dig ((l.getD j 0).toNat % 16)] := by
        rw [← Oct.hexS_snoc]
        congr 1
        have : j < l.length := by omega
        rw [List.take_succ_eq_append_getElem this]
        simp [List.getD, this]
      have HSN := Lib.hid hsn
      clear hsn hcl
      generalize l.getD j 0 = x at *
      have hi1 := fun w => run_hexd .u8 ((x.toNat : Int) / 16) (x.toNat / 16) (by omega) (by omega) w
      have hi2 := fun w => run_hexd .u8 ((x.toNat : Int) % 16) (x.toNat % 16) (by omega) (by omega) w
      go_wp2_with fail
      refine region_since (w0 := w) (by kernel_rfl) ?_
      refine phase_later (by kernel_rfl) 3 (hbel.drew) [0, 1, 4, 2, 5, 3, 6] rfl (by kernel_rfl) ?_
      simp only [picks, nth]
      repeat (go_big_quiet_step (fail))
      refine wpQuiet_nil ?_
      refine phase_op 7 2 rfl (by kernel_rfl) (by decide) ?_
      simp only [nth]
      go_wp2_with fail
      have h4 := (RB.lit wr [.int .u8 ((Oct.dig (x.toNat / 16)).toNat : Int), .int .u8 ((Oct.dig (x.toNat % 16)).toNat : Int)] [Oct.dig (x.toNat / 16), Oct.dig (x.toNat % 16)] rfl (n := 2) rfl (by omega)).drew
      have o4 := (hown.alloc (.cells #[.int .u8 ((Oct.dig (x.toNat / 16)).toNat : Int), .int .u8 ((Oct.dig (x.toNat % 16)).toNat : Int)] 5)).below (below_drew _)
      have b4 := (hbel.alloc hbel.size (.cells #[.int .u8 ((Oct.dig (x.toNat / 16)).toNat : Int), .int .u8 ((Oct.dig (x.toNat % 16)).toNat : Int)] 5)).drew
      refine behind_since b4 ?_
      refine phase_op 8 1 rfl (by kernel_rfl) (by decide) ?_
      simp only [nth]
      go_wp2_with (at_builtin; refine wpList_appb etb rfl (.tmp 16) (.tmp 23) rfl rfl rfl w.heap.size o4 h4 (by omega) b4.size ?_; intro A2 c2 w5 h5 b5 _ _)
      have d5 : Below w.heap.size w w5 := b4.trans b5
      refine behind_since d5 ?_
      refine phase_later (by kernel_rfl) 0 d5 [9] rfl (by kernel_rfl) ?_
      simp only [picks, nth]
      repeat (go_big_quiet_step (fail))
      refine wpQuiet_nil ?_
      refine phase_end (by kernel_rfl) ?_
      go_wp2_with fail
      go_roundw
      case rel => exact ⟨j + 1, A2, c2, by omega, by go_num, rfl, by rw [HSN.out]; exact h5, d5⟩
      case measure => simp [intOf] <;> omega
    · obtain rfl : j = n := by omega
      have e1 := convb hown.rb
      rw [show l.take j = l by rw [List.take_of_length_le (by omega)]] at e1
      go_wp2_with fail
      go_ret
      exact ⟨rfl, hbel⟩
end Go.Proofs.Ytfmfcgpofkccgaa
