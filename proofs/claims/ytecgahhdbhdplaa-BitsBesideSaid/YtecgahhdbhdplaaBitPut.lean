/-
  Walks: bits.Put, the reference's Put.
  Conditions: none.
-/
import Derived.Test.YtecgahhdbhdplaaBit
namespace Go.Proofs.Ytecgahhdbhdplaa
set_option linter.unusedVariables false
set_option linter.unusedSimpArgs false
open Go.RowKit
theorem test_bit (v k : Nat) (hv : v < 18446744073709551616) : (bits .and .u64 ((v : Int) / 2 ^ k) 1 == 1) = v.testBit k := by
  have e1 : (v : Int) / 2 ^ k = ((v / 2 ^ k : Nat) : Int) := by simp
  have hle : v / 2 ^ k ≤ v := Nat.div_le_self _ _
  have e2 : bits .and .u64 ((v : Int) / 2 ^ k) 1 = ((v / 2 ^ k % 2 : Nat) : Int) := by
    rw [e1]
    have := u64_and_nat (v / 2 ^ k) 1 (by omega) (by omega)
    rw [Nat.and_one_is_mod] at this
    exact this
  rw [e2, Nat.testBit_eq_decide_div_mod_eq]
  rw [Bool.eq_iff_iff]
  simp only [beq_iff_eq, decide_eq_true_eq]
  omega
theorem pow_byte {j : Nat} (hj : j < 8) : (2 : Int) ^ j % 256 = ((2 ^ j : Nat) : Int) ∧ 2 ^ j < 256 := by
  have h : 2 ^ j ≤ 2 ^ 7 := Nat.pow_le_pow_right (by decide) (by omega)
  have e : (2 : Int) ^ j = ((2 ^ j : Nat) : Int) := by simp
  rw [e]
  generalize 2 ^ j = q at *
  omega
theorem or_byte (c : UInt8) (j : Nat) (hj : j < 8) : bits .or .u8 (c.toNat : Int) ((2 : Int) ^ j % 256) = ((Bt.sb c j true).toNat : Int) := by
  obtain ⟨e, hlt⟩ := pow_byte hj
  have hc := c.toNat_lt
  have ho : c.toNat ||| 2 ^ j < 2 ^ 8 := Nat.or_lt_two_pow hc hlt
  rw [e, u8_or_nat _ _ (by omega) hlt, Bt.sb, if_pos rfl, UInt8.toNat_ofNat', Nat.mod_eq_of_lt ho]
theorem andNot_byte (c : UInt8) (j : Nat) (hj : j < 8) : bits .andNot .u8 (c.toNat : Int) ((2 : Int) ^ j % 256) = ((Bt.sb c j false).toNat : Int) := by
  obtain ⟨e, hlt⟩ := pow_byte hj
  have hc := c.toNat_lt
  have ho : c.toNat &&& (255 - 2 ^ j) < 2 ^ 8 := Nat.lt_of_le_of_lt Nat.and_le_left hc
  rw [e, u8_andNot_nat _ _ (by omega) hlt, Bt.sb, if_neg (by decide), UInt8.toNat_ofNat', Nat.mod_eq_of_lt ho]
set_option maxHeartbeats 1000000 in
theorem BPut_ok {A : Option Addr} {n c B : Nat} {l : List UInt8} (p m v : Nat) (w : World) (hb : RB w B A n c l) (hn : n ≤ 1000000) (hB : B ≤ w.heap.size) (hv : v < 18446744073709551616) (h1 : 1 ≤ m) (h2 : m ≤ 64) (h3 : p + m ≤ 8 * n) (hw : Bt.wideS v m = false) :
    Calls Try.prog 11 #[.slice A n c, .int .i64 (p : Int), .int .i64 (m : Int), .int .u64 (v : Int)] w fun e w' => ∃ A1 c1, e = .returned (.tuple #[.slice A1 n c1, .int .i64 0]) ∧ OB w' w.heap.size A1 n c1 (Bt.putF l p v m) ∧ Below w.heap.size w w' := by
  have C := room_any (A := A) (c := c) (p : Int) (m : Int) w hn
  rw [show Bt.roomS n p m = 0 by unfold Bt.roomS; rw [if_neg (by omega), if_neg (by omega)]] at C
  replace C := Lib.hid C
  have C2 := wide_any v (m : Int) w (by omega) (by omega)
  rw [hw] at C2
  replace C2 := Lib.hid C2
  clear hw
  go_enter Try.func11, Try.ntmps11
  go_wp2_with fail
  refine (C.out).mono ?_
  rintro e _ ⟨rfl, rfl⟩
  go_wp2_with fail
  refine (C2.out).mono ?_
  rintro e _ ⟨rfl, rfl⟩
  go_wp2_with (at_builtin; refine wpList_appb_nil etb rfl (.const (.slice none 0 0)) (.tmp 31) rfl rfl rfl w.heap.size hb (by omega) (Nat.le_refl _) ?_; intro A1 c1 w1 o1 b1)
  go_loopw [34] (fun u wr => ∃ k : Nat, k ≤ m ∧ u = .int .i64 k ∧ OB wr w.heap.size A1 n c1 (Bt.putF l p v k) ∧ Below w.heap.size w wr) (fun u _ => m - (intOf u).toNat)
  case atStart => exact ⟨0, by omega, rfl, o1, b1⟩
  case round =>
    clear o1 b1
    obtain ⟨k, hk, rfl, ob, bb⟩ := hrel
    by_cases hlt : k < m
    · obtain ⟨g, rfl, hg1, hg2⟩ := OV.head (e := 5) (size := 1) ob (show 0 < n by omega)
      have hcell := ob.cell (i := (p + k) / 8) (by omega)
      have hfree := ob.free ((p + k) / 8)
      have hx := ((Bt.putF l p v k).getD ((p + k) / 8) 0).toNat_lt
      have ht := test_bit v k hv
      have hnx : Bt.putF l p v (k + 1) = Bt.setB (Bt.putF l p v k) (p + k) (v.testBit k) := rfl
      generalize Bt.putF l p v k = l' at *
      cases hbit : v.testBit k with
      | true =>
        rw [hbit] at ht hnx
        have HN := Lib.hid hnx; clear hnx hbit
        generalize hxx : (l'.getD ((p + k) / 8) 0).toNat = x at *
        have HX := Lib.hid hxx; clear hxx
        go_wp2_with fail
        go_roundw
        case rel =>
          refine ⟨k + 1, by omega, by go_num, ?_, bb.setCell (p := ⟨g, (p + k) / 8, none⟩) hg1 _⟩
          rw [HN.out, ← HX.out]
          exact (ob.setv _ _ (or_byte _ _ (by omega))).1
        case measure => simp [intOf] <;> omega
      | false =>
        rw [hbit] at ht hnx
        have HN := Lib.hid hnx; clear hnx hbit
        generalize hxx : (l'.getD ((p + k) / 8) 0).toNat = x at *
        have HX := Lib.hid hxx; clear hxx
        go_wp2_with fail
        go_roundw
        case rel =>
          refine ⟨k + 1, by omega, by go_num, ?_, bb.setCell (p := ⟨g, (p + k) / 8, none⟩) hg1 _⟩
          rw [HN.out, ← HX.out]
          exact (ob.setv _ _ (andNot_byte _ _ (by omega))).1
        case measure => simp [intOf] <;> omega
    · obtain rfl : k = m := by omega
      go_wp2_with fail
      go_ret2
      exact ⟨A1, c1, rfl, ob, bb⟩
theorem room_range (n : Nat) (p m : Int) : Bt.roomS n p m = 1 ∨ (1 ≤ m ∧ m ≤ 64 ∧ 0 ≤ p ∧ (Bt.roomS n p m = 2 ∨ (Bt.roomS n p m = 0 ∧ p + m ≤ 8 * (n : Int)))) := by
  unfold Bt.roomS
  by_cases h : m < 1 ∨ 64 < m ∨ p < 0
  · rw [if_pos h]; exact .inl rfl
  · rw [if_neg h]
    right
    refine ⟨by omega, by omega, by omega, ?_⟩
    by_cases h' : 8 * (n : Int) < p ∨ 8 * (n : Int) - p < m
    · rw [if_pos h']; exact .inl rfl
    · rw [if_neg h']; exact .inr ⟨rfl, by omega⟩
set_option maxHeartbeats 1000000 in
theorem BPut_bad {A : Option Addr} {n c : Nat} (p m : Int) (v : Nat) (w : World) (hn : n ≤ 1000000) (z : Int) (h : (Bt.roomS n p m = 1 ∧ z = 1) ∨ (Bt.roomS n p m ≠ 1 ∧ Bt.wideS v m = true ∧ z = 9) ∨ (Bt.roomS n p m = 2 ∧ Bt.wideS v m = false ∧ z = 2)) :
    Calls Try.prog 11 #[.slice A n c, .int .i64 p, .int .i64 m, .int .u64 (v : Int)] w fun e w' => e = .returned (.tuple #[.slice none 0 0, .int .i64 z]) ∧ w = w' := by
  have C := room_any (A := A) (c := c) p m w hn
  rcases h with ⟨h1, rfl⟩ | ⟨h1, h2, rfl⟩ | ⟨h1, h2, rfl⟩
  · rw [h1] at C
    replace C := Lib.hid C; clear h1
    go_enter Try.func11, Try.ntmps11
    go_wp2_with fail
    refine (C.out).mono ?_
    rintro e _ ⟨rfl, rfl⟩
    go_wp2_with fail
    go_ret2
    exact ⟨rfl, rfl⟩
  · have hr := (room_range n p m).resolve_left h1
    have C2 := wide_any v m w hr.1 hr.2.1
    rw [h2] at C2
    have hz : (Bt.roomS n p m == 1) = false := by simpa using h1
    generalize Bt.roomS n p m = r at *
    replace C := Lib.hid C; replace C2 := Lib.hid C2; clear h1 h2 hr
    go_enter Try.func11, Try.ntmps11
    go_wp2_with fail
    refine (C.out).mono ?_
    rintro e _ ⟨rfl, rfl⟩
    go_wp2_with fail
    refine (C2.out).mono ?_
    rintro e _ ⟨rfl, rfl⟩
    go_wp2_with fail
    go_ret2
    exact ⟨rfl, rfl⟩
  · have hr := (room_range n p m).resolve_left (by omega)
    have C2 := wide_any v m w hr.1 hr.2.1
    rw [h2] at C2
    rw [h1] at C
    replace C := Lib.hid C; replace C2 := Lib.hid C2; clear h1 h2 hr
    go_enter Try.func11, Try.ntmps11
    go_wp2_with fail
    refine (C.out).mono ?_
    rintro e _ ⟨rfl, rfl⟩
    go_wp2_with fail
    refine (C2.out).mono ?_
    rintro e _ ⟨rfl, rfl⟩
    go_wp2_with fail
    go_ret2
    exact ⟨rfl, rfl⟩
end Go.Proofs.Ytecgahhdbhdplaa
