/-
  Walks: bits.value, the reference's number; the closures of Pack and Unpack.
  Conditions: none.
-/
import Derived.Test.YtecgahhdbhdplaaBitMem
import Derived.Test.YtecgahhdbhdplaaBitGet
import Derived.Test.YtecgahhdbhdplaaOctGet
import Derived.Deep.QuietTactic
import Derived.BigQuiet
namespace Go.Proofs.Ytecgahhdbhdplaa
set_option linter.unusedVariables false
set_option linter.unusedSimpArgs false
open Go.RowKit
theorem cut_all (l : List UInt8) : Oct.cut l 0 l.length = l := by simp [Oct.cut]
set_option maxHeartbeats 1000000 in
theorem value_any {A : Option Addr} {n c B : Nat} {l : List UInt8} (m : Int) (w : World) (hb : RB w B A n c l) (hn : n ≤ 1000000) (hB : B ≤ w.heap.size) (hm : m ≤ 9223372036854775807) :
    Calls Try.prog 32 #[.agg #[.int .i64 m, .slice A n c]] w fun e w' => e = .returned (.tuple #[.int .u64 ((Bt.valS ⟨m, l⟩).1 : Int), .bool (Bt.valS ⟨m, l⟩).2]) ∧ Below w.heap.size w w' := by
  have hl := hb.len
  have C := Lib.hid (fun w => Bytes_any m w hm)
  have b1 := alloc_one w (.cells #[.int .i64 m, .slice A n c] 51)
  have F := (Blk.new w 51 #[.int .i64 m, .slice A n c]).two
  by_cases hf : 1 ≤ m ∧ m ≤ 64 ∧ (n : Int) = Bt.bytesS m
  · obtain ⟨h1, h2, h3⟩ := hf
    have hp := Bt.bytesS_pos h1 h2
    have hv : Bt.valS ⟨m, l⟩ = (Oct.le l, !Bt.wideS (Oct.le l) m) := by
      unfold Bt.valS Bt.fits
      rw [if_pos (decide_eq_true ⟨h1, h2, by dsimp only; rw [hl, h3]⟩)]
    have C2 := Get_ok n 0 _ (hb.below (b1.mono hB)) (by omega) (by omega) (by omega)
    have e1 : Oct.cut l 0 n = l := by rw [← hl, cut_all]
    rw [e1, show ((0 : Nat) : Int) = 0 from rfl] at C2
    have C3 := fun w => wide_any (Oct.le l) m w h1 h2
    rw [hv]
    generalize Oct.le l = v at *
    generalize Bt.wideS v m = x at *
    replace C2 := Lib.hid C2
    replace C3 := Lib.hid C3
    rw [← h3] at C
    have hn1 : 1 ≤ n := by omega
    have hn2 : n ≤ 8 := by omega
    clear hv hl hb e1 hp h3
    go_enter Try.func32, Try.ntmps32
    go_wp2_with fail
    refine (C.out _).mono ?_
    rintro e _ ⟨rfl, rfl⟩
    go_wp2_with fail
    refine (C2.out).mono ?_
    rintro e _ ⟨rfl, rfl⟩
    go_wp2_with fail
    refine (C3.out _).mono ?_
    rintro e _ ⟨rfl, rfl⟩
    go_wp2_with fail
    go_ret2
    exact ⟨rfl, b1⟩
  · have hv : Bt.valS ⟨m, l⟩ = (0, false) := by
      unfold Bt.valS Bt.fits
      rw [if_neg (by rw [decide_eq_true_iff]; dsimp only; rw [hl]; exact hf)]
    rw [hv]
    clear hv
    rcases (show m < 1 ∨ (1 ≤ m ∧ 64 < m) ∨ (1 ≤ m ∧ m ≤ 64 ∧ ¬ (n : Int) = Bt.bytesS m) by omega) with h | ⟨h1, h2⟩ | ⟨h1, h2, h3⟩
    all_goals
      try have h4 : ((n : Int) != Bt.bytesS m) = true := by rw [bne_iff_ne]; exact h3
      clear hf hl hb
      generalize Bt.bytesS m = z at *
      try clear h3
      go_enter Try.func32, Try.ntmps32
      go_wp2_with fail
      refine (C.out _).mono ?_
      rintro e _ ⟨rfl, rfl⟩
      go_wp2_with fail
      go_ret2
      exact ⟨rfl, b1⟩
/-- The bytes of a number from the highest one down: k of them. -/
theorem le_down (l : List UInt8) (k : Nat) (h : k < l.length) : Oct.le (l.drop (l.length - 1 - k)) = 256 * Oct.le (l.drop (l.length - k)) + (l.getD (l.length - 1 - k) 0).toNat := by
  have e : l.drop (l.length - 1 - k) = l.getD (l.length - 1 - k) 0 :: l.drop (l.length - k) := by
    rw [List.drop_eq_getElem_cons (show l.length - 1 - k < l.length by omega), show l.length - 1 - k + 1 = l.length - k by omega]
    simp [List.getD, show l.length - 1 - k < l.length by omega]
  rw [e, Oct.le]
  omega
theorem wide_shift (v j : Nat) (h : (j : Int) < 64) : (((v : Nat) : Int) / 2 ^ j == 0) = !Bt.wideS v (j : Int) := by
  unfold Bt.wideS
  have e : (v : Int) / 2 ^ j = ((v / 2 ^ j : Nat) : Int) := by simp
  rw [e, show decide ((j : Int) < 64) = true from decide_eq_true h, Bool.true_and, Int.toNat_natCast]
  generalize v / 2 ^ j = x
  rw [Bool.eq_iff_iff]
  simp only [beq_iff_eq, Bool.not_eq_true', bne_eq_false_iff_eq]
  omega
set_option maxHeartbeats 2000000 in
theorem number_any {A : Option Addr} {n c B : Nat} {l : List UInt8} (m : Int) (w : World) (hb : RB w B A n c l) (hn : n ≤ 1000000) (hB : B ≤ w.heap.size) (hm : m ≤ 9223372036854775807) :
    Calls Try.prog 33 #[.agg #[.int .i64 m, .slice A n c]] w fun e w' => e = .returned (.tuple #[.int .u64 ((Bt.valS ⟨m, l⟩).1 : Int), .bool (Bt.valS ⟨m, l⟩).2]) ∧ Below w.heap.size w w' := by
  have hl := hb.len
  have C := Lib.hid (fun w => RBytes_any m w hm)
  have b1 := alloc_one w (.cells #[.int .i64 m, .slice A n c] 53)
  have F := (Blk.new w 53 #[.int .i64 m, .slice A n c]).two
  by_cases hf : 1 ≤ m ∧ m ≤ 64 ∧ (n : Int) = Bt.bytesS m
  · obtain ⟨h1, h2, h3⟩ := hf
    have hp := Bt.bytesS_pos h1 h2
    have hv : Bt.valS ⟨m, l⟩ = (Oct.le l, !Bt.wideS (Oct.le l) m) := by
      unfold Bt.valS Bt.fits
      rw [if_pos (decide_eq_true ⟨h1, h2, by dsimp only; rw [hl, h3]⟩)]
    have d1 : decide (m < 1) = false := decide_eq_false (by omega)
    have d2 : decide (64 < m) = false := decide_eq_false (by omega)
    have d3 : ((n : Int) != (n : Int)) = false := by simp
    have hn1 : 1 ≤ n := by omega
    have hn2 : n ≤ 8 := by omega
    rw [← h3] at C
    rw [hv]
    have HL := Lib.hid hl
    obtain ⟨b, o, rfl, hbB, hc⟩ := hb.at_ (show 0 < n by omega)
    have hbs : b < w.heap.size := by omega
    have hlow := fun k (h : k < l.length) => le_down l k h
    have HLOW := Lib.hid hlow
    have hlt0 := Oct.le_lt l
    have HLT := Lib.hid hlt0
    have HC := Lib.hid hc
    clear hv hl hb hp h3 hlow hlt0 hc
    go_enter Try.func33, Try.ntmps33
    go_wp2_with fail
    go_quiet ((go_at_call 14; exact quiet_same (C.out _)))
    go_wp2_with fail
    go_loop [4, 5] (fun v i => ∃ k : Nat, k ≤ n ∧ i = .int .i64 ((n : Int) - 1 - k) ∧ v = .int .u64 (Oct.le (l.drop (n - k)) : Int)) (fun _ i => (intOf i + 1).toNat)
    case atStart => exact ⟨0, by omega, by go_num, by rw [show l.drop (n - 0) = [] from List.drop_eq_nil_of_le (by have := HL.out; omega)]; rfl⟩
    case round =>
      obtain ⟨k, hk, rfl, rfl⟩ := hrel
      by_cases hlt : k < n
      · have hcell := HC.out (n - 1 - k) (by omega)
        have hx := (l.getD (n - 1 - k) 0).toNat_lt
        have hnx : Oct.le (l.drop (n - (k + 1))) = 256 * Oct.le (l.drop (n - k)) + (l.getD (n - 1 - k) 0).toNat := by
          have := HLOW.out k (by have := HL.out; omega)
          rw [HL.out] at this
          rw [show n - (k + 1) = n - 1 - k by omega, this]
        have hsm : Oct.le (l.drop (n - k)) < 72057594037927936 := by
          have h1 := Oct.le_lt (l.drop (n - k))
          rw [List.length_drop, HL.out, show n - (n - k) = k by omega] at h1
          exact Nat.lt_of_lt_of_le h1 (Nat.le_trans (Nat.pow_le_pow_right (by decide) (show k ≤ 7 by omega)) (by decide))
        generalize (l.getD (n - 1 - k) 0).toNat = x at *
        generalize Oct.le (l.drop (n - k)) = v at *
        have HN := Lib.hid hnx; clear hnx
        go_wp2_with fail
        go_round
        case rel => exact ⟨k + 1, by omega, by go_num, by rw [HN.out]; go_num⟩
        case measure => simp [intOf] <;> omega
      · obtain rfl : k = n := by omega
        rw [show l.drop (k - k) = l by simp]
        by_cases h64 : m = 64
        · subst h64
          go_wp2_with fail
          go_quiet (fail)
          go_wp2_with fail
          go_ret2
          exact ⟨rfl, below_drewN (below_drewN b1 _) _⟩
        · have h5 : m < 64 := by omega
          have d5 : (m == 64) = false := by rw [beq_eq_false_iff_ne]; exact h64
          clear h64
          obtain ⟨j, rfl⟩ : ∃ j : Nat, m = (j : Int) := ⟨m.toNat, by omega⟩
          go_wp2_with fail
          go_quiet (fail)
          go_wp2_with fail
          go_ret2
          refine ⟨?_, below_drewN (below_drewN b1 _) _⟩
          show Ending.returned (.tuple #[.int .u64 (Oct.le l : Int), .bool (((Oct.le l : Nat) : Int) / 2 ^ j == 0)]) = _
          rw [wide_shift _ _ h5]
  · have hv : Bt.valS ⟨m, l⟩ = (0, false) := by
      unfold Bt.valS Bt.fits
      rw [if_neg (by rw [decide_eq_true_iff]; dsimp only; rw [hl]; exact hf)]
    rw [hv]
    clear hv
    rcases (show m < 1 ∨ (1 ≤ m ∧ 64 < m) ∨ (1 ≤ m ∧ m ≤ 64 ∧ ¬ (n : Int) = Bt.bytesS m) by omega) with h | ⟨h1, h2⟩ | ⟨h1, h2, h3⟩
    all_goals
      try have h4 : ((n : Int) != Bt.bytesS m) = true := by rw [bne_iff_ne]; exact h3
      clear hf hl hb
      generalize Bt.bytesS m = z at *
      try clear h3
      try have d1 : decide (m < 1) = false := decide_eq_false (by omega)
      try have d2 : decide (64 < m) = false := decide_eq_false (by omega)
      go_enter Try.func33, Try.ntmps33
      go_wp2_with fail
      go_quiet ((go_at_call 14; exact quiet_same (C.out _)))
      go_wp2_with fail
      go_ret2
      exact ⟨rfl, below_drewN b1 _⟩
end Go.Proofs.Ytecgahhdbhdplaa
