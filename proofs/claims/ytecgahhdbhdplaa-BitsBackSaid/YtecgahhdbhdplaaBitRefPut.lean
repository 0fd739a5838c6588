/-
  Walks: the reference's Put of bits.
  Conditions: none.
-/
import Derived.Test.YtecgahhdbhdplaaBitPut
namespace Go.Proofs.Ytecgahhdbhdplaa
set_option linter.unusedVariables false
set_option linter.unusedSimpArgs false
open Go.RowKit
theorem two_steps : ∀ j, j < 8 → ∀ c, c < 256 → ((c &&& (255 - 2 ^ j)) ||| 2 ^ j) = (c ||| 2 ^ j) := by decide +kernel
theorem sb_twice (c : UInt8) (j : Nat) (hj : j < 8) : Bt.sb (Bt.sb c j false) j true = Bt.sb c j true := by
  have hc := c.toNat_lt
  have ho : c.toNat &&& (255 - 2 ^ j) < 256 := Nat.lt_of_le_of_lt Nat.and_le_left hc
  have e : (Bt.sb c j false).toNat = c.toNat &&& (255 - 2 ^ j) := by
    rw [Bt.sb, if_neg (by decide), UInt8.toNat_ofNat', Nat.mod_eq_of_lt (by simpa using ho)]
  rw [Bt.sb, if_pos rfl, e, two_steps j hj _ hc, Bt.sb, if_pos rfl]
theorem setB_twice (l : List UInt8) (i : Nat) : Bt.setB (Bt.setB l i false) i true = Bt.setB l i true := by
  unfold Bt.setB
  by_cases h : i / 8 < l.length
  · have e : (l.set (i / 8) (Bt.sb (l.getD (i / 8) 0) (i % 8) false)).getD (i / 8) 0 = Bt.sb (l.getD (i / 8) 0) (i % 8) false := by simp [List.getD, h]
    rw [e, sb_twice _ _ (Nat.mod_lt _ (by decide)), List.set_set]
  · have e : ∀ x, l.set (i / 8) x = l := fun x => List.set_eq_of_length_le (by omega)
    simp only [e]
theorem test_mod (v k : Nat) : (((v / 2 ^ k : Nat) : Int).tmod 2 == 1) = v.testBit k := by
  rw [Nat.testBit_eq_decide_div_mod_eq, Int.tmod_eq_emod_of_nonneg (Int.natCast_nonneg _), Bool.eq_iff_iff]
  simp only [beq_iff_eq, decide_eq_true_eq]
  generalize v / 2 ^ k = y
  omega
theorem test_emod (v k : Nat) : (((v / 2 ^ k : Nat) : Int) % 2 == 1) = v.testBit k := by
  rw [Nat.testBit_eq_decide_div_mod_eq, Bool.eq_iff_iff]
  simp only [beq_iff_eq, decide_eq_true_eq]
  generalize v / 2 ^ k = y
  omega
set_option maxHeartbeats 1000000 in
theorem RPutB_ok {A : Option Addr} {n c B : Nat} {l : List UInt8} (p m v : Nat) (w : World) (hb : RB w B A n c l) (hn : n ≤ 1000000) (hB : B ≤ w.heap.size) (hv : v < 18446744073709551616) (h1 : 1 ≤ m) (h2 : m ≤ 64) (h3 : p + m ≤ 8 * n) (hw : Bt.wideS v m = false) :
    Calls Try.prog 12 #[.slice A n c, .int .i64 (p : Int), .int .i64 (m : Int), .int .u64 (v : Int)] w fun e w' => ∃ A1 c1, e = .returned (.tuple #[.slice A1 n c1, .int .i64 0]) ∧ OB w' w.heap.size A1 n c1 (Bt.putF l p v m) ∧ Below w.heap.size w w' := by
  have hwt : m < 64 → ((v : Int) / 2 ^ m != 0) = false := fun h => by
    have : v / 2 ^ m = 0 := by
      unfold Bt.wideS at hw
      simp at hw
      have := hw (by omega)
      exact Nat.div_eq_of_lt this
    have e1 : (v : Int) / 2 ^ m = ((v / 2 ^ m : Nat) : Int) := by simp
    rw [e1, this]
    rfl
  clear hw
  have ht0 : m < 64 ∧ ((v : Int) / 2 ^ m != 0) = false ∨ 64 ≤ m := by
    rcases Nat.lt_or_ge m 64 with h | h
    · exact .inl ⟨h, hwt h⟩
    · exact .inr h
  clear hwt
  rcases ht0 with ⟨hm, ht0⟩ | hm
  all_goals
    go_enter Try.func12, Try.ntmps12
    go_wp2_with (at_builtin; refine wpList_appb_nil etb rfl (.tmp 47) (.tmp 48) rfl rfl rfl w.heap.size hb (by omega) (Nat.le_refl _) ?_; intro A1 c1 w1 o1 b1)
    go_loopw [3, 11] (fun x u wr => ∃ k : Nat, k ≤ m ∧ u = .int .i64 k ∧ x = .int .u64 ((v / 2 ^ k : Nat) : Int) ∧ OB wr w.heap.size A1 n c1 (Bt.putF l p v k) ∧ Below w.heap.size w wr) (fun _ u _ => m - (intOf u).toNat)
    case atStart => exact ⟨0, by omega, rfl, by simp, o1, b1⟩
    case round =>
      clear o1 b1
      obtain ⟨k, hk, rfl, rfl, ob, bb⟩ := hrel
      by_cases hlt : k < m
      · obtain ⟨g, rfl, hg1, hg2⟩ := OV.head (e := 5) (size := 1) ob (show 0 < n by omega)
        have hcell := ob.cell (i := (p + k) / 8) (by omega)
        have hfree := ob.free ((p + k) / 8)
        have ht := test_emod v k
        have hle : v / 2 ^ k ≤ v := Nat.div_le_self _ _
        have hdv : v / 2 ^ k / 2 = v / 2 ^ (k + 1) := by rw [Nat.div_div_eq_div_mul, Nat.pow_succ]
        have hnx : Bt.putF l p v (k + 1) = Bt.setB (Bt.putF l p v k) (p + k) (v.testBit k) := rfl
        generalize Bt.putF l p v k = l' at *
        generalize v / 2 ^ k = y at *
        have HD := Lib.hid hdv; clear hdv
        generalize hxe : l'.getD ((p + k) / 8) 0 = xc at *
        have HX := Lib.hid hxe; clear hxe
        have hx := xc.toNat_lt
        cases hbit : v.testBit k with
        | true =>
          rw [hbit] at ht hnx
          have HN := Lib.hid hnx; clear hnx hbit
          go_wp2_with fail
          go_roundw
          case rel =>
            have e1 := andNot_byte xc ((p + k) % 8) (by omega)
            have s1 := ob.setv ((p + k) / 8) _ e1
            have s2 := s1.1.setv ((p + k) / 8) _ (show bits .or .u8 (bits .andNot .u8 (xc.toNat : Int) (2 ^ ((p + k) % 8) % 256)) (2 ^ ((p + k) % 8) % 256) = _ by rw [e1]; exact or_byte _ _ (by omega))
            refine ⟨k + 1, by omega, by go_num, ?_, ?_, (bb.setCell (p := ⟨g, (p + k) / 8, none⟩) hg1 _).setCell (p := ⟨g, (p + k) / 8, none⟩) hg1 _⟩
            · rw [← HD.out]; go_num
            · rw [HN.out, Bt.setB, HX.out]
              have s3 := s2.1
              rw [sb_twice _ _ (Nat.mod_lt _ (by decide)), List.set_set] at s3
              exact s3
          case measure => simp [intOf] <;> omega
        | false =>
          rw [hbit] at ht hnx
          have HN := Lib.hid hnx; clear hnx hbit
          go_wp2_with fail
          go_roundw
          case rel =>
            refine ⟨k + 1, by omega, by go_num, ?_, ?_, bb.setCell (p := ⟨g, (p + k) / 8, none⟩) hg1 _⟩
            · rw [← HD.out]; go_num
            · rw [HN.out, ← HX.out]
              exact (ob.setv _ _ (andNot_byte _ _ (by omega))).1
          case measure => simp [intOf] <;> omega
      · obtain rfl : k = m := by omega
        go_wp2_with fail
        go_ret2
        exact ⟨A1, c1, rfl, ob, bb⟩
theorem wide_test {v : Nat} {m : Int} {b : Bool} (h : Bt.wideS v m = b) (hm : m < 64) : ((v : Int) / 2 ^ m.toNat != 0) = b := by
  unfold Bt.wideS at h
  rw [show decide (m < 64) = true from decide_eq_true hm, Bool.true_and] at h
  have e : (v : Int) / 2 ^ m.toNat = ((v / 2 ^ m.toNat : Nat) : Int) := by simp
  rw [e, ← h]
  generalize v / 2 ^ m.toNat = y
  rw [Bool.eq_iff_iff]
  simp only [bne_iff_ne, ne_eq]
  omega
set_option maxHeartbeats 1000000 in
theorem RPutB_bad {A : Option Addr} {n c : Nat} (p m : Int) (v : Nat) (w : World) (hn : n ≤ 1000000) (z : Int) (h : (Bt.roomS n p m = 1 ∧ z = 1) ∨ (Bt.roomS n p m ≠ 1 ∧ Bt.wideS v m = true ∧ z = 9) ∨ (Bt.roomS n p m = 2 ∧ Bt.wideS v m = false ∧ z = 2)) :
    Calls Try.prog 12 #[.slice A n c, .int .i64 p, .int .i64 m, .int .u64 (v : Int)] w fun e w' => e = .returned (.tuple #[.slice none 0 0, .int .i64 z]) ∧ w = w' := by
  rcases h with ⟨h1, rfl⟩ | ⟨h1, h2, rfl⟩ | ⟨h1, h2, rfl⟩
  · have h0 : m < 1 ∨ (1 ≤ m ∧ 64 < m) ∨ (1 ≤ m ∧ m ≤ 64 ∧ p < 0) := by
      unfold Bt.roomS at h1
      split at h1
      · omega
      · split at h1 <;> omega
    clear h1
    rcases h0 with h | ⟨h1, h2⟩ | ⟨h1, h2, h3⟩
    all_goals
      go_enter Try.func12, Try.ntmps12
      go_wp2_with fail
      go_ret2
      exact ⟨rfl, rfl⟩
  · obtain ⟨r1, r2, r3, _⟩ := (room_range n p m).resolve_left h1
    have hm : m < 64 := by
      rcases (show m < 64 ∨ m = 64 by omega) with h | rfl
      · exact h
      · unfold Bt.wideS at h2; simp at h2
    have ht := wide_test h2 hm
    obtain ⟨M, rfl⟩ : ∃ M : Nat, m = (M : Int) := ⟨m.toNat, by omega⟩
    rw [Int.toNat_natCast] at ht
    clear h1 h2
    go_enter Try.func12, Try.ntmps12
    go_wp2_with fail
    go_ret2
    exact ⟨rfl, rfl⟩
  · obtain ⟨r1, r2, r3, _⟩ := (room_range n p m).resolve_left (by omega)
    have h0 : 8 * (n : Int) < p ∨ (p ≤ 8 * (n : Int) ∧ 8 * (n : Int) - p < m) := by
      unfold Bt.roomS at h1
      split at h1
      · omega
      · split at h1 <;> omega
    obtain ⟨M, rfl⟩ : ∃ M : Nat, m = (M : Int) := ⟨m.toNat, by omega⟩
    rcases (show (M : Int) < 64 ∨ (M : Int) = 64 by omega) with hm | hm
    · have ht := wide_test h2 hm
      rw [Int.toNat_natCast] at ht
      clear h1 h2
      rcases h0 with h | ⟨h1, h2⟩
      all_goals
        go_enter Try.func12, Try.ntmps12
        go_wp2_with fail
        go_ret2
        exact ⟨rfl, rfl⟩
    · obtain rfl : M = 64 := by omega
      clear h1 h2 hm
      rcases h0 with h | ⟨h1, h2⟩
      all_goals
        go_enter Try.func12, Try.ntmps12
        go_wp2_with fail
        go_ret2
        exact ⟨rfl, rfl⟩
end Go.Proofs.Ytecgahhdbhdplaa
