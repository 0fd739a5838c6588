/-
  Texts joined: BitPut, BitRefPut, BitPack, MapGath.
  Conditions: none.
-/
import Derived.Test.YtbmocffnnlfnjaaGreatJ02
import Derived.Test.YtbmocffnnlfnjaaGreatJ13
/-
  Walks: bits.Put, the reference's Put.
  Conditions: none.
-/
namespace Go.Proofs.YtbmocffnnlfnjaaGreat
set_option linter.unusedVariables false
set_option linter.unusedSimpArgs false
open Go.RowKit
theorem test_bit (v k : Nat) (hv : v < 18446744073709551616) : (bits .and .u64 ((v : Int) / 2 ^ k) 1 == 1) = v.testBit k := by
  have e1 : (v : Int) / 2 ^ k = ((v / 2 ^ k : Nat) : Int) := by simp
  have hle : v / 2 ^ k ≤ v := Nat.div_le_self _ _
  have e2 : bits .and .u64 ((v : Int) / 2 ^ k) 1 = ((v / 2 ^ k % 2 : Nat) : Int) := by
    rw [e1]
    have := u64_and_nat (v / 2 ^ k) 1 (by omega) (by omega)
    rw [Nat.and_one_is_mod] at this
    exact this
  rw [e2, Nat.testBit_eq_decide_div_mod_eq]
  rw [Bool.eq_iff_iff]
  simp only [beq_iff_eq, decide_eq_true_eq]
  omega
theorem pow_byte {j : Nat} (hj : j < 8) : (2 : Int) ^ j % 256 = ((2 ^ j : Nat) : Int) ∧ 2 ^ j < 256 := by
  have h : 2 ^ j ≤ 2 ^ 7 := Nat.pow_le_pow_right (by decide) (by omega)
  have e : (2 : Int) ^ j = ((2 ^ j : Nat) : Int) := by simp
  rw [e]
  generalize 2 ^ j = q at *
  omega
theorem or_byte (c : UInt8) (j : Nat) (hj : j < 8) : bits .or .u8 (c.toNat : Int) ((2 : Int) ^ j % 256) = ((Bt.sb c j true).toNat : Int) := by
  obtain ⟨e, hlt⟩ := pow_byte hj
  have hc := c.toNat_lt
  have ho : c.toNat ||| 2 ^ j < 2 ^ 8 := Nat.or_lt_two_pow hc hlt
  rw [e, u8_or_nat _ _ (by omega) hlt, Bt.sb, if_pos rfl, UInt8.toNat_ofNat', Nat.mod_eq_of_lt ho]
theorem andNot_byte (c : UInt8) (j : Nat) (hj : j < 8) : bits .andNot .u8 (c.toNat : Int) ((2 : Int) ^ j % 256) = ((Bt.sb c j false).toNat : Int) := by
  obtain ⟨e, hlt⟩ := pow_byte hj
  have hc := c.toNat_lt
  have ho : c.toNat &&& (255 - 2 ^ j) < 2 ^ 8 := Nat.lt_of_le_of_lt Nat.and_le_left hc
  rw [e, u8_andNot_nat _ _ (by omega) hlt, Bt.sb, if_neg (by decide), UInt8.toNat_ofNat', Nat.mod_eq_of_lt ho]
set_option maxHeartbeats 1000000 in
theorem BPut_ok {A : Option Addr} {n c B : Nat} {l : List UInt8} (p m v : Nat) (w : World) (hb : RB w B A n c l) (hn : n ≤ 1000000) (hB : B ≤ w.heap.size) (hv : v < 18446744073709551616) (h1 : 1 ≤ m) (h2 : m ≤ 64) (h3 : p + m ≤ 8 * n) (hw : Bt.wideS v m = false) :
    Calls Tryz.prog 111 #[.slice A n c, .int .i64 (p : Int), .int .i64 (m : Int), .int .u64 (v : Int)] w fun e w' => ∃ A1 c1, e = .returned (.tuple #[.slice A1 n c1, .int .i64 0]) ∧ OB w' w.heap.size A1 n c1 (Bt.putF l p v m) ∧ Below w.heap.size w w' := by
  have C := room_any (A := A) (c := c) (p : Int) (m : Int) w hn
  rw [show Bt.roomS n p m = 0 by unfold Bt.roomS; rw [if_neg (by omega), if_neg (by omega)]] at C
  replace C := Lib.hid C
  have C2 := wide_any v (m : Int) w (by omega) (by omega)
  rw [hw] at C2
  replace C2 := Lib.hid C2
  clear hw
  go_enter Tryz.func111, Tryz.ntmps111
  go_wp2_with fail
  refine (C.out).mono ?_
  rintro e _ ⟨rfl, rfl⟩
  go_wp2_with fail
  refine (C2.out).mono ?_
  rintro e _ ⟨rfl, rfl⟩
  go_wp2_with (at_builtin; refine wpList_appb_nil etb rfl (.const (.slice none 0 0)) (.tmp 31) rfl rfl rfl w.heap.size hb (by omega) (Nat.le_refl _) ?_; intro A1 c1 w1 o1 b1)
  go_loopw [34] (fun u wr => ∃ k : Nat, k ≤ m ∧ u = .int .i64 k ∧ OB wr w.heap.size A1 n c1 (Bt.putF l p v k) ∧ Below w.heap.size w wr) (fun u _ => m - (intOf u).toNat)
  case atStart => exact ⟨0, by omega, rfl, o1, b1⟩
  case round =>
    clear o1 b1
    obtain ⟨k, hk, rfl, ob, bb⟩ := hrel
    by_cases hlt : k < m
    · obtain ⟨g, rfl, hg1, hg2⟩ := OV.head (e := 5) (size := 1) ob (show 0 < n by omega)
      have hcell := ob.cell (i := (p + k) / 8) (by omega)
      have hfree := ob.free ((p + k) / 8)
      have hx := ((Bt.putF l p v k).getD ((p + k) / 8) 0).toNat_lt
      have ht := test_bit v k hv
      have hnx : Bt.putF l p v (k + 1) = Bt.setB (Bt.putF l p v k) (p + k) (v.testBit k) := rfl
      generalize Bt.putF l p v k = l' at *
      cases hbit : v.testBit k with
      | true =>
        rw [hbit] at ht hnx
        have HN := Lib.hid hnx; clear hnx hbit
        generalize hxx : (l'.getD ((p + k) / 8) 0).toNat = x at *
        have HX := Lib.hid hxx; clear hxx
        go_wp2_with fail
        go_roundw
        case rel =>
          refine ⟨k + 1, by omega, by go_num, ?_, bb.setCell (p := ⟨g, (p + k) / 8, none⟩) hg1 _⟩
          rw [HN.out, ← HX.out]
          exact (ob.setv _ _ (or_byte _ _ (by omega))).1
        case measure => simp [intOf] <;> omega
      | false =>
        rw [hbit] at ht hnx
        have HN := Lib.hid hnx; clear hnx hbit
        generalize hxx : (l'.getD ((p + k) / 8) 0).toNat = x at *
        have HX := Lib.hid hxx; clear hxx
        go_wp2_with fail
        go_roundw
        case rel =>
          refine ⟨k + 1, by omega, by go_num, ?_, bb.setCell (p := ⟨g, (p + k) / 8, none⟩) hg1 _⟩
          rw [HN.out, ← HX.out]
          exact (ob.setv _ _ (andNot_byte _ _ (by omega))).1
        case measure => simp [intOf] <;> omega
    · obtain rfl : k = m := by omega
      go_wp2_with fail
      go_ret2
      exact ⟨A1, c1, rfl, ob, bb⟩
theorem room_range (n : Nat) (p m : Int) : Bt.roomS n p m = 1 ∨ (1 ≤ m ∧ m ≤ 64 ∧ 0 ≤ p ∧ (Bt.roomS n p m = 2 ∨ (Bt.roomS n p m = 0 ∧ p + m ≤ 8 * (n : Int)))) := by
  unfold Bt.roomS
  by_cases h : m < 1 ∨ 64 < m ∨ p < 0
  · rw [if_pos h]; exact .inl rfl
  · rw [if_neg h]
    right
    refine ⟨by omega, by omega, by omega, ?_⟩
    by_cases h' : 8 * (n : Int) < p ∨ 8 * (n : Int) - p < m
    · rw [if_pos h']; exact .inl rfl
    · rw [if_neg h']; exact .inr ⟨rfl, by omega⟩
set_option maxHeartbeats 1000000 in
theorem BPut_bad {A : Option Addr} {n c : Nat} (p m : Int) (v : Nat) (w : World) (hn : n ≤ 1000000) (z : Int) (h : (Bt.roomS n p m = 1 ∧ z = 1) ∨ (Bt.roomS n p m ≠ 1 ∧ Bt.wideS v m = true ∧ z = 9) ∨ (Bt.roomS n p m = 2 ∧ Bt.wideS v m = false ∧ z = 2)) :
    Calls Tryz.prog 111 #[.slice A n c, .int .i64 p, .int .i64 m, .int .u64 (v : Int)] w fun e w' => e = .returned (.tuple #[.slice none 0 0, .int .i64 z]) ∧ w = w' := by
  have C := room_any (A := A) (c := c) p m w hn
  rcases h with ⟨h1, rfl⟩ | ⟨h1, h2, rfl⟩ | ⟨h1, h2, rfl⟩
  · rw [h1] at C
    replace C := Lib.hid C; clear h1
    go_enter Tryz.func111, Tryz.ntmps111
    go_wp2_with fail
    refine (C.out).mono ?_
    rintro e _ ⟨rfl, rfl⟩
    go_wp2_with fail
    go_ret2
    exact ⟨rfl, rfl⟩
  · have hr := (room_range n p m).resolve_left h1
    have C2 := wide_any v m w hr.1 hr.2.1
    rw [h2] at C2
    have hz : (Bt.roomS n p m == 1) = false := by simpa using h1
    generalize Bt.roomS n p m = r at *
    replace C := Lib.hid C; replace C2 := Lib.hid C2; clear h1 h2 hr
    go_enter Tryz.func111, Tryz.ntmps111
    go_wp2_with fail
    refine (C.out).mono ?_
    rintro e _ ⟨rfl, rfl⟩
    go_wp2_with fail
    refine (C2.out).mono ?_
    rintro e _ ⟨rfl, rfl⟩
    go_wp2_with fail
    go_ret2
    exact ⟨rfl, rfl⟩
  · have hr := (room_range n p m).resolve_left (by omega)
    have C2 := wide_any v m w hr.1 hr.2.1
    rw [h2] at C2
    rw [h1] at C
    replace C := Lib.hid C; replace C2 := Lib.hid C2; clear h1 h2 hr
    go_enter Tryz.func111, Tryz.ntmps111
    go_wp2_with fail
    refine (C.out).mono ?_
    rintro e _ ⟨rfl, rfl⟩
    go_wp2_with fail
    refine (C2.out).mono ?_
    rintro e _ ⟨rfl, rfl⟩
    go_wp2_with fail
    go_ret2
    exact ⟨rfl, rfl⟩
end Go.Proofs.YtbmocffnnlfnjaaGreat
/-
  Walks: the reference's Put of bits.
  Conditions: none.
-/
namespace Go.Proofs.YtbmocffnnlfnjaaGreat
set_option linter.unusedVariables false
set_option linter.unusedSimpArgs false
open Go.RowKit
theorem two_steps : ∀ j, j < 8 → ∀ c, c < 256 → ((c &&& (255 - 2 ^ j)) ||| 2 ^ j) = (c ||| 2 ^ j) := by decide +kernel
theorem sb_twice (c : UInt8) (j : Nat) (hj : j < 8) : Bt.sb (Bt.sb c j false) j true = Bt.sb c j true := by
  have hc := c.toNat_lt
  have ho : c.toNat &&& (255 - 2 ^ j) < 256 := Nat.lt_of_le_of_lt Nat.and_le_left hc
  have e : (Bt.sb c j false).toNat = c.toNat &&& (255 - 2 ^ j) := by
    rw [Bt.sb, if_neg (by decide), UInt8.toNat_ofNat', Nat.mod_eq_of_lt (by simpa using ho)]
  rw [Bt.sb, if_pos rfl, e, two_steps j hj _ hc, Bt.sb, if_pos rfl]
theorem setB_twice (l : List UInt8) (i : Nat) : Bt.setB (Bt.setB l i false) i true = Bt.setB l i true := by
  unfold Bt.setB
  by_cases h : i / 8 < l.length
  · have e : (l.set (i / 8) (Bt.sb (l.getD (i / 8) 0) (i % 8) false)).getD (i / 8) 0 = Bt.sb (l.getD (i / 8) 0) (i % 8) false := by simp [List.getD, h]
    rw [e, sb_twice _ _ (Nat.mod_lt _ (by decide)), List.set_set]
  · have e : ∀ x, l.set (i / 8) x = l := fun x => List.set_eq_of_length_le (by omega)
    simp only [e]
theorem test_mod (v k : Nat) : (((v / 2 ^ k : Nat) : Int).tmod 2 == 1) = v.testBit k := by
  rw [Nat.testBit_eq_decide_div_mod_eq, Int.tmod_eq_emod_of_nonneg (Int.natCast_nonneg _), Bool.eq_iff_iff]
  simp only [beq_iff_eq, decide_eq_true_eq]
  generalize v / 2 ^ k = y
  omega
theorem test_emod (v k : Nat) : (((v / 2 ^ k : Nat) : Int) % 2 == 1) = v.testBit k := by
  rw [Nat.testBit_eq_decide_div_mod_eq, Bool.eq_iff_iff]
  simp only [beq_iff_eq, decide_eq_true_eq]
  generalize v / 2 ^ k = y
  omega
set_option maxHeartbeats 1000000 in
theorem RPutB_ok {A : Option Addr} {n c B : Nat} {l : List UInt8} (p m v : Nat) (w : World) (hb : RB w B A n c l) (hn : n ≤ 1000000) (hB : B ≤ w.heap.size) (hv : v < 18446744073709551616) (h1 : 1 ≤ m) (h2 : m ≤ 64) (h3 : p + m ≤ 8 * n) (hw : Bt.wideS v m = false) :
    Calls Tryz.prog 114 #[.slice A n c, .int .i64 (p : Int), .int .i64 (m : Int), .int .u64 (v : Int)] w fun e w' => ∃ A1 c1, e = .returned (.tuple #[.slice A1 n c1, .int .i64 0]) ∧ OB w' w.heap.size A1 n c1 (Bt.putF l p v m) ∧ Below w.heap.size w w' := by
  have hwt : m < 64 → ((v : Int) / 2 ^ m != 0) = false := fun h => by
    have : v / 2 ^ m = 0 := by
      unfold Bt.wideS at hw
      simp at hw
      have := hw (by omega)
      exact Nat.div_eq_of_lt this
    have e1 : (v : Int) / 2 ^ m = ((v / 2 ^ m : Nat) : Int) := by simp
    rw [e1, this]
    rfl
  clear hw
  have ht0 : m < 64 ∧ ((v : Int) / 2 ^ m != 0) = false ∨ 64 ≤ m := by
    rcases Nat.lt_or_ge m 64 with h | h
    · exact .inl ⟨h, hwt h⟩
    · exact .inr h
  clear hwt
  rcases ht0 with ⟨hm, ht0⟩ | hm
  all_goals
    go_enter Tryz.func114, Tryz.ntmps114
    go_wp2_with (at_builtin; refine wpList_appb_nil etb rfl (.tmp 47) (.tmp 48) rfl rfl rfl w.heap.size hb (by omega) (Nat.le_refl _) ?_; intro A1 c1 w1 o1 b1)
    go_loopw [3, 11] (fun x u wr => ∃ k : Nat, k ≤ m ∧ u = .int .i64 k ∧ x = .int .u64 ((v / 2 ^ k : Nat) : Int) ∧ OB wr w.heap.size A1 n c1 (Bt.putF l p v k) ∧ Below w.heap.size w wr) (fun _ u _ => m - (intOf u).toNat)
    case atStart => exact ⟨0, by omega, rfl, by simp, o1, b1⟩
    case round =>
      clear o1 b1
      obtain ⟨k, hk, rfl, rfl, ob, bb⟩ := hrel
      by_cases hlt : k < m
      · obtain ⟨g, rfl, hg1, hg2⟩ := OV.head (e := 5) (size := 1) ob (show 0 < n by omega)
        have hcell := ob.cell (i := (p + k) / 8) (by omega)
        have hfree := ob.free ((p + k) / 8)
        have ht := test_emod v k
        have hle : v / 2 ^ k ≤ v := Nat.div_le_self _ _
        have hdv : v / 2 ^ k / 2 = v / 2 ^ (k + 1) := by rw [Nat.div_div_eq_div_mul, Nat.pow_succ]
        have hnx : Bt.putF l p v (k + 1) = Bt.setB (Bt.putF l p v k) (p + k) (v.testBit k) := rfl
        generalize Bt.putF l p v k = l' at *
        generalize v / 2 ^ k = y at *
        have HD := Lib.hid hdv; clear hdv
        generalize hxe : l'.getD ((p + k) / 8) 0 = xc at *
        have HX := Lib.hid hxe; clear hxe
        have hx := xc.toNat_lt
        cases hbit : v.testBit k with
        | true =>
          rw [hbit] at ht hnx
          have HN := Lib.hid hnx; clear hnx hbit
          go_wp2_with fail
          go_roundw
          case rel =>
            have e1 := andNot_byte xc ((p + k) % 8) (by omega)
            have s1 := ob.setv ((p + k) / 8) _ e1
            have s2 := s1.1.setv ((p + k) / 8) _ (show bits .or .u8 (bits .andNot .u8 (xc.toNat : Int) (2 ^ ((p + k) % 8) % 256)) (2 ^ ((p + k) % 8) % 256) = _ by rw [e1]; exact or_byte _ _ (by omega))
            refine ⟨k + 1, by omega, by go_num, ?_, ?_, (bb.setCell (p := ⟨g, (p + k) / 8, none⟩) hg1 _).setCell (p := ⟨g, (p + k) / 8, none⟩) hg1 _⟩
            · rw [← HD.out]; go_num
            · rw [HN.out, Bt.setB, HX.out]
              have s3 := s2.1
              rw [sb_twice _ _ (Nat.mod_lt _ (by decide)), List.set_set] at s3
              exact s3
          case measure => simp [intOf] <;> omega
        | false =>
          rw [hbit] at ht hnx
          have HN := Lib.hid hnx; clear hnx hbit
          go_wp2_with fail
          go_roundw
          case rel =>
            refine ⟨k + 1, by omega, by go_num, ?_, ?_, bb.setCell (p := ⟨g, (p + k) / 8, none⟩) hg1 _⟩
            · rw [← HD.out]; go_num
            · rw [HN.out, ← HX.out]
              exact (ob.setv _ _ (andNot_byte _ _ (by omega))).1
          case measure => simp [intOf] <;> omega
      · obtain rfl : k = m := by omega
        go_wp2_with fail
        go_ret2
        exact ⟨A1, c1, rfl, ob, bb⟩
theorem wide_test {v : Nat} {m : Int} {b : Bool} (h : Bt.wideS v m = b) (hm : m < 64) : ((v : Int) / 2 ^ m.toNat != 0) = b := by
  unfold Bt.wideS at h
  rw [show decide (m < 64) = true from decide_eq_true hm, Bool.true_and] at h
  have e : (v : Int) / 2 ^ m.toNat = ((v / 2 ^ m.toNat : Nat) : Int) := by simp
  rw [e, ← h]
  generalize v / 2 ^ m.toNat = y
  rw [Bool.eq_iff_iff]
  simp only [bne_iff_ne, ne_eq]
  omega
set_option maxHeartbeats 1000000 in
theorem RPutB_bad {A : Option Addr} {n c : Nat} (p m : Int) (v : Nat) (w : World) (hn : n ≤ 1000000) (z : Int) (h : (Bt.roomS n p m = 1 ∧ z = 1) ∨ (Bt.roomS n p m ≠ 1 ∧ Bt.wideS v m = true ∧ z = 9) ∨ (Bt.roomS n p m = 2 ∧ Bt.wideS v m = false ∧ z = 2)) :
    Calls Tryz.prog 114 #[.slice A n c, .int .i64 p, .int .i64 m, .int .u64 (v : Int)] w fun e w' => e = .returned (.tuple #[.slice none 0 0, .int .i64 z]) ∧ w = w' := by
  rcases h with ⟨h1, rfl⟩ | ⟨h1, h2, rfl⟩ | ⟨h1, h2, rfl⟩
  · have h0 : m < 1 ∨ (1 ≤ m ∧ 64 < m) ∨ (1 ≤ m ∧ m ≤ 64 ∧ p < 0) := by
      unfold Bt.roomS at h1
      split at h1
      · omega
      · split at h1 <;> omega
    clear h1
    rcases h0 with h | ⟨h1, h2⟩ | ⟨h1, h2, h3⟩
    all_goals
      go_enter Tryz.func114, Tryz.ntmps114
      go_wp2_with fail
      go_ret2
      exact ⟨rfl, rfl⟩
  · obtain ⟨r1, r2, r3, _⟩ := (room_range n p m).resolve_left h1
    have hm : m < 64 := by
      rcases (show m < 64 ∨ m = 64 by omega) with h | rfl
      · exact h
      · unfold Bt.wideS at h2; simp at h2
    have ht := wide_test h2 hm
    obtain ⟨M, rfl⟩ : ∃ M : Nat, m = (M : Int) := ⟨m.toNat, by omega⟩
    rw [Int.toNat_natCast] at ht
    clear h1 h2
    go_enter Tryz.func114, Tryz.ntmps114
    go_wp2_with fail
    go_ret2
    exact ⟨rfl, rfl⟩
  · obtain ⟨r1, r2, r3, _⟩ := (room_range n p m).resolve_left (by omega)
    have h0 : 8 * (n : Int) < p ∨ (p ≤ 8 * (n : Int) ∧ 8 * (n : Int) - p < m) := by
      unfold Bt.roomS at h1
      split at h1
      · omega
      · split at h1 <;> omega
    obtain ⟨M, rfl⟩ : ∃ M : Nat, m = (M : Int) := ⟨m.toNat, by omega⟩
    rcases (show (M : Int) < 64 ∨ (M : Int) = 64 by omega) with hm | hm
    · have ht := wide_test h2 hm
      rw [Int.toNat_natCast] at ht
      clear h1 h2
      rcases h0 with h | ⟨h1, h2⟩
      all_goals
        go_enter Tryz.func114, Tryz.ntmps114
        go_wp2_with fail
        go_ret2
        exact ⟨rfl, rfl⟩
    · obtain rfl : M = 64 := by omega
      clear h1 h2 hm
      rcases h0 with h | ⟨h1, h2⟩
      all_goals
        go_enter Tryz.func114, Tryz.ntmps114
        go_wp2_with fail
        go_ret2
        exact ⟨rfl, rfl⟩
end Go.Proofs.YtbmocffnnlfnjaaGreat
/-
  Walks: bits.Pack, the reference's Pack.
  Conditions: none.
-/
namespace Go.Proofs.YtbmocffnnlfnjaaGreat
set_option linter.unusedVariables false
set_option linter.unusedSimpArgs false
open Go.RowKit
theorem tot_inv {ws : List Int} {ok : List Bool} {z : Int} (h : Bt.totS ws ok = (z, 0)) : (∀ i, i < ok.length → ok.getD i false = true) ∧ z = Bt.sumK ws ws.length ∧ z ≤ 64 := by
  unfold Bt.totS at h
  split at h
  · rename_i h1
    split at h
    · simp at h
    · rename_i h2
      simp only [Prod.mk.injEq, and_true] at h
      exact ⟨fun i hi => Bt.all_get h1 hi, h.symm, by omega⟩
  · simp at h
/-- What the rounds of packing need of field k. -/
theorem pack_step {fs : List Bt.Fld} {z : Int} (h : Bt.totS (Bt.bitsOf fs) (fs.map Bt.okF) = (z, 0)) {k : Nat} (hk : k < fs.length) :
    Bt.okF (fs.getD k Bt.Fld.zero) = true ∧ 0 ≤ Bt.sumK (Bt.bitsOf fs) k ∧ Bt.sumK (Bt.bitsOf fs) k + (fs.getD k Bt.Fld.zero).bits = Bt.sumK (Bt.bitsOf fs) (k + 1) ∧ Bt.sumK (Bt.bitsOf fs) (k + 1) ≤ z := by
  obtain ⟨h1, h2, h3⟩ := tot_inv h
  have hw : ∀ i, i < (Bt.bitsOf fs).length → Bt.okW ((Bt.bitsOf fs).getD i 0) = true := fun i hi => by
    have hi' : i < fs.length := by simpa [Bt.bitsOf] using hi
    have := h1 i (by simpa using hi')
    rw [Bt.okF_getD] at this
    rw [Bt.bitsOf_getD]
    have := Bt.okF_fits this
    exact Bt.okW_iff.2 ⟨this.1, this.2.1⟩
  have hl : (Bt.bitsOf fs).length = fs.length := by simp [Bt.bitsOf]
  refine ⟨by have := h1 k (by simpa using hk); rwa [Bt.okF_getD] at this, by have := Bt.sumK_mono hw k (by omega); omega, by rw [Bt.sumK, Bt.bitsOf_getD], ?_⟩
  have := Bt.sumK_le hw (k + 1) (fs.length - (k + 1)) (by omega)
  rw [show k + 1 + (fs.length - (k + 1)) = fs.length by omega] at this
  rw [h2, hl]
  omega
theorem getD_mem {fs : List Bt.Fld} {k : Nat} (hk : k < fs.length) : fs.getD k Bt.Fld.zero ∈ fs := by
  rw [show fs.getD k Bt.Fld.zero = fs[k] by simp [List.getD, hk]]
  exact List.getElem_mem hk
theorem room_ok {n : Nat} {p m : Int} (h0 : 0 ≤ p) (h1 : 1 ≤ m) (h2 : m ≤ 64) (h3 : p + m ≤ 8 * (n : Int)) : Bt.roomS n p m = 0 := by
  unfold Bt.roomS
  rw [if_neg (by omega), if_neg (by omega)]
def PackPost (p : List UInt8 × Int) (w : World) (e : Ending) (w' : World) : Prop := ∃ A1 c1, e = .returned (.tuple #[.slice A1 p.1.length c1, .int .i64 p.2]) ∧ OB w' w.heap.size A1 p.1.length c1 p.1 ∧ Below w.heap.size w w'
theorem pack_bad {p : List UInt8 × Int} {w w' : World} {x : Int} (h : p = ([], x)) (hb : Below w.heap.size w w') : PackPost p w (.returned (.tuple #[.slice none 0 0, .int .i64 x])) w' := by
  subst h
  exact ⟨none, 0, rfl, OB.none_ _ _, hb⟩
theorem pack_fine {p : List UInt8 × Int} {w w' : World} {A : Option Addr} {n c : Nat} {l : List UInt8} (h : p = (l, 0)) (hn : l.length = n) (ho : OB w' w.heap.size A n c l) (hb : Below w.heap.size w w') : PackPost p w (.returned (.tuple #[.slice A n c, .int .i64 0])) w' := by
  subst h hn
  exact ⟨A, c, rfl, ho, hb⟩
theorem packS_bad {fs : List Bt.Fld} {z x : Int} (h : Bt.totS (Bt.bitsOf fs) (fs.map Bt.okF) = (z, x)) (hx : x ≠ 0) : Bt.packS fs = ([], x) := by
  unfold Bt.packS
  rw [h, if_neg hx]
theorem packS_fine {fs : List Bt.Fld} {z : Int} (h : Bt.totS (Bt.bitsOf fs) (fs.map Bt.okF) = (z, 0)) : Bt.packS fs = (Bt.packK fs (List.replicate (Bt.bytesS z).toNat 0) fs.length, 0) := by
  unfold Bt.packS
  rw [h, if_pos rfl]
theorem bytesS_nat (z : Int) (h1 : 0 ≤ z) (h2 : z ≤ 64) : ∃ k : Nat, Bt.bytesS z = (k : Int) ∧ k ≤ 8 ∧ z ≤ 8 * (k : Int) := by
  unfold Bt.bytesS
  split
  · exact ⟨0, by omega, by omega, by omega⟩
  · exact ⟨((z - 1) / 8 + 1).toNat, by omega, by omega, by omega⟩
set_option maxRecDepth 100000 in
set_option maxHeartbeats 4000000 in
theorem Pack_any {A : Option Addr} {n c B B' : Nat} {fs : List Bt.Fld} (w : World) (h : RFl w B B' A n c fs) (hn : n ≤ 1000000) (hB : B ≤ w.heap.size) (hB' : B' ≤ B) (hsm : ∀ f ∈ fs, f.data.length ≤ 1000000) (hm : ∀ f ∈ fs, f.bits ≤ 9223372036854775807) :
    Calls Tryz.prog 93 #[.slice A n c] w (PackPost (Bt.packS fs) w) := by
  have hl := h.len
  have T := total_any w h hn hB hB' hsm hm
  cases hp : Bt.totS (Bt.bitsOf fs) (fs.map Bt.okF) with
  | mk z x =>
  rw [hp] at T
  have HP := Lib.hid hp; clear hp
  replace T := Lib.hid T
  by_cases hx : x = 0
  · subst hx
    obtain ⟨t1, t2, t3⟩ := tot_inv HP.out
    have hz0 : 0 ≤ z := by
      rcases Nat.eq_zero_or_pos fs.length with h0 | h0
      · rw [t2, show (Bt.bitsOf fs).length = 0 by simpa [Bt.bitsOf] using h0]; exact Int.le_refl 0
      · have h' := pack_step HP.out (k := 0) h0
        have h'' := Bt.okF_fits h'.1
        have e : Bt.sumK (Bt.bitsOf fs) 0 = 0 := rfl
        omega
    obtain ⟨nb, hb1, hb2, hb3⟩ := bytesS_nat z hz0 t3
    have C := fun w => Bytes_any z w (by omega)
    rw [hb1] at C
    replace C := Lib.hid C
    have HPK := Lib.hid (packS_fine HP.out)
    have HB1 := Lib.hid hb1; clear hb1
    clear t1 t2
    go_enter Tryz.func93, Tryz.ntmps93
    go_wp2_with fail
    refine (T.out).mono ?_
    rintro e w1 ⟨rfl, b1⟩
    go_wp2_with fail
    refine (C.out _).mono ?_
    rintro e _ ⟨rfl, rfl⟩
    go_wp2_with (at_make; refine wpList_mkb etb rfl (.tmp 21) (.tmp 21) rfl .i64 .i64 nb nb rfl rfl (Nat.le_refl _) (by omega) w.heap.size b1.size ?_; intro w2 o2 b2 hs2)
    have d2 := below_step b1 b2 (Nat.le_refl _)
    go_loopw [6, 7, 25] (fun v a u wr => ∃ (k : Nat) (A1 : Option Addr) (c1 : Nat), k ≤ n ∧ u = .int .i64 k ∧ v = .slice A1 nb c1 ∧ a = .int .i64 (Bt.sumK (Bt.bitsOf fs) k) ∧ OB wr w.heap.size A1 nb c1 (Bt.packK fs (List.replicate nb 0) k) ∧ Below w.heap.size w wr) (fun _ _ u _ => n - (intOf u).toNat)
    case atStart => exact ⟨0, _, _, by omega, rfl, rfl, rfl, o2, d2⟩
    case round =>
      clear o2 b1 b2 d2 hs2
      obtain ⟨k, A1, c1, hk, rfl, rfl, rfl, ob, bb⟩ := hrel
      by_cases hlt : k < n
      · obtain ⟨b, o, A2, n2, c2, rfl, hbB, q0, q1, hr⟩ := (h.below (bb.mono hB) hB').at_ hlt
        have hmem := getD_mem (fs := fs) (k := k) (by omega)
        have hd := hsm _ hmem
        obtain ⟨s1, s2, s3, s4⟩ := pack_step HP.out (k := k) (by omega)
        have hnx : Bt.packK fs (List.replicate nb 0) (k + 1) = Bt.putF (Bt.packK fs (List.replicate nb 0) k) (Bt.sumK (Bt.bitsOf fs) k).toNat (Oct.le (fs.getD k Bt.Fld.zero).data) (fs.getD k Bt.Fld.zero).bits.toNat := rfl
        generalize fs.getD k Bt.Fld.zero = f at *
        generalize Bt.packK fs (List.replicate nb 0) k = L at *
        obtain ⟨m, l⟩ := f
        dsimp only at *
        obtain rfl : l.length = n2 := hr.len
        have hval := Bt.okF_val s1
        obtain ⟨g1, g2, g3, g4⟩ := Bt.okF_fits s1
        dsimp only at g1 g2 g3 g4
        obtain ⟨P, hP⟩ : ∃ P : Nat, Bt.sumK (Bt.bitsOf fs) k = (P : Int) := ⟨_, (Int.toNat_of_nonneg s2).symm⟩
        obtain ⟨M, rfl⟩ : ∃ M : Nat, m = (M : Int) := ⟨m.toNat, by omega⟩
        have hle := Oct.le_lt l
        have hle2 : Oct.le l < 18446744073709551616 := by
          have h8 : l.length ≤ 8 := by have := Bt.bytesS_pos g1 g2; omega
          exact Nat.lt_of_lt_of_le hle (Nat.le_trans (Nat.pow_le_pow_right (by decide) h8) (by decide))
        have b1 := alloc_one wr (.cells #[.int .i64 (M : Int), .slice A2 l.length c2] 130)
        have F := (Blk.new wr 130 #[.int .i64 (M : Int), .slice A2 l.length c2]).two
        have hz := bb.size
        have V := value_any (M : Int) _ (hr.below (b1.mono (Nat.le_trans hB' (Nat.le_trans hB hz)))) hd (Nat.le_trans hB' (Nat.le_trans hB (Nat.le_trans hz b1.size))) (by omega)
        rw [hval] at V
        dsimp only at V
        replace V := Lib.hid V
        rw [hP] at s3 s2 hnx ⊢
        rw [← s3] at s4
        rw [Int.toNat_natCast, Int.toNat_natCast] at hnx
        have PU := fun (w2 : World) (h : Below wr.heap.size wr w2) => BPut_ok P M (Oct.le l) w2 ((ob.below h).rb) (by omega) (Nat.le_refl _) hle2 (by omega) (by omega) (by omega) g4
        replace PU := Lib.hid PU
        have HN := Lib.hid hnx; have HS := Lib.hid s3
        clear hnx s3 hval hle hP s1 g3 g4 hr
        generalize Oct.le l = v at *
        go_wp2_with fail
        refine (V.out).mono ?_
        rintro e w1 ⟨rfl, b2⟩
        have K := Blk.made b2
        have F2 := K.two
        clear F
        have d1 := below_step b1 b2 (Nat.le_refl _)
        go_wp2_with fail
        refine (PU.out w1 d1).mono ?_
        rintro e w3 ⟨A3, c3, rfl, o3, b3⟩
        have F3 := (K.later b3).two
        clear F2
        have d3 := below_step d1 b3 (Nat.le_refl _)
        go_wp2_with fail
        go_roundw
        case rel => exact ⟨k + 1, A3, c3, by omega, by go_num, rfl, by rw [← HS.out], by rw [HN.out]; exact o3.more (Nat.le_trans hz d1.size), below_step bb d3 (Nat.le_refl _)⟩
        case measure => simp [intOf] <;> omega
      · obtain rfl : k = n := by omega
        go_wp2_with fail
        go_ret2
        exact pack_fine (by rw [HPK.out, HB1.out, hl, Int.toNat_natCast]) (by rw [Bt.packK_length, List.length_replicate]) ob bb
  · have hx' : (x != 0) = true := by simpa using hx
    have HX := Lib.hid hx; clear hx
    go_enter Tryz.func93, Tryz.ntmps93
    go_wp2_with fail
    refine (T.out).mono ?_
    rintro e w1 ⟨rfl, b1⟩
    go_wp2_with fail
    go_ret2
    exact pack_bad (packS_bad HP.out HX.out) b1
/-- What the reference's first loop has: it adds no more above 64. -/
structure RTotRel (ws : List Int) (ok : List Bool) (k : Nat) (s : Int) : Prop where
  lo : 0 ≤ s
  hi : s ≤ 128
  sum : s ≤ 64 → s = Bt.sumK ws k
  big : 65 ≤ s → 65 ≤ Bt.sumK ws k
  all : ∀ i, i < k → ok.getD i false = true
theorem rtot_start (ws : List Int) (ok : List Bool) : RTotRel ws ok 0 0 := ⟨by omega, by omega, fun _ => rfl, fun h => by omega, fun _ h => absurd h (by omega)⟩
theorem RTotRel.next {ws : List Int} {ok : List Bool} {k : Nat} {s x : Int} (h : RTotRel ws ok k s) (h1 : 1 ≤ x) (h2 : x ≤ 64) (hx : ws.getD k 0 = x) (ho : ok.getD k false = true) (s' : Int) (hs : (s ≤ 64 ∧ s' = s + x) ∨ (65 ≤ s ∧ s' = s)) : RTotRel ws ok (k + 1) s' := by
  have a := h.lo
  have b := h.hi
  refine ⟨by omega, by omega, fun h64 => ?_, fun h65 => ?_, fun i hi => ?_⟩
  · have := h.sum (by omega)
    rw [Bt.sumK, hx]
    omega
  · rw [Bt.sumK, hx]
    by_cases e : 65 ≤ s
    · have := h.big e
      omega
    · have := h.sum (by omega)
      omega
  · rcases Nat.lt_or_ge i k with hi' | hi'
    · exact h.all i hi'
    · obtain rfl : i = k := by omega
      exact ho
theorem RTotRel.toBig {ws : List Int} {ok : List Bool} {k : Nat} {s : Int} (h : RTotRel ws ok k s) (hw : ws.length = k) (ho : ok.length = k) (hs : 65 ≤ s) : Bt.totS ws ok = (0, 3) :=
  tot_big (fun i hi => h.all i (by omega)) (by rw [hw]; have := h.big hs; omega)
theorem RTotRel.fine {ws : List Int} {ok : List Bool} {k : Nat} {s : Int} (h : RTotRel ws ok k s) (hw : ws.length = k) (ho : ok.length = k) (hs : s ≤ 64) : Bt.totS ws ok = (s, 0) := by
  have e := h.sum hs
  rw [tot_ok (fun i hi => h.all i (by omega)) (by rw [hw]; omega), hw, ← e]
set_option maxRecDepth 100000 in
set_option maxHeartbeats 4000000 in
theorem RPack_any {A : Option Addr} {n c B B' : Nat} {fs : List Bt.Fld} (w : World) (h : RFl w B B' A n c fs) (hn : n ≤ 1000000) (hB : B ≤ w.heap.size) (hB' : B' ≤ B) (hsm : ∀ f ∈ fs, f.data.length ≤ 1000000) (hm : ∀ f ∈ fs, f.bits ≤ 9223372036854775807) :
    Calls Tryz.prog 95 #[.slice A n c] w (PackPost (Bt.packS fs) w) := by
  have hl := h.len
  have HL1 := Lib.hid (show (Bt.bitsOf fs).length = n by simpa [Bt.bitsOf] using hl)
  have HL2 := Lib.hid (show (fs.map Bt.okF).length = n by simpa using hl)
  go_enter Tryz.func95, Tryz.ntmps95
  go_wp2_with fail
  go_loopw [4, 5] (fun v u wr => ∃ (k : Nat) (s : Int), k ≤ n ∧ u = .int .i64 k ∧ v = .int .i64 s ∧ RTotRel (Bt.bitsOf fs) (fs.map Bt.okF) k s ∧ Below w.heap.size w wr) (fun _ u _ => n - (intOf u).toNat)
  case atStart => exact ⟨0, 0, by omega, rfl, rfl, rtot_start _ _, Below.refl _ _⟩
  case round =>
    obtain ⟨k, s, hk, rfl, rfl, hrel, hbel⟩ := hrel
    have hs1 := hrel.lo
    have hs2 := hrel.hi
    have HREL := Lib.hid hrel; clear hrel
    by_cases hlt : k < n
    · obtain ⟨b, o, A1, n1, c1, rfl, hbB, q0, q1, hr⟩ := (h.below (hbel.mono hB) hB').at_ hlt
      have hmem := getD_mem (fs := fs) (k := k) (by omega)
      have hd := hsm _ hmem
      have hb := hm _ hmem
      have hok := Bt.okF_getD fs k
      have hbi := Bt.bitsOf_getD fs k
      generalize fs.getD k Bt.Fld.zero = f at *
      obtain ⟨m, l⟩ := f
      dsimp only at *
      obtain rfl : l.length = n1 := hr.len
      have hz := hbel.size
      have C := number_any m wr hr hd (Nat.le_trans hB' (Nat.le_trans hB hz)) hb
      have hfb := fun h => Bt.okF_fits (f := ⟨m, l⟩) h
      rw [show (Bt.valS ⟨m, l⟩).2 = Bt.okF ⟨m, l⟩ from rfl] at C
      generalize Bt.okF ⟨m, l⟩ = x at *
      generalize (Bt.valS ⟨m, l⟩).1 = v at *
      replace C := Lib.hid C
      have HOK := Lib.hid hok; have HBI := Lib.hid hbi
      have HQ := Lib.hid (fun (w2 : World) (h : Below w.heap.size w w2) => show w2.cell? _ = _ from ((h.cell (p := ⟨b, o + k * 2, none⟩) (Nat.lt_of_lt_of_le hbB hB)).trans (hbel.cell (p := ⟨b, o + k * 2, none⟩) (Nat.lt_of_lt_of_le hbB hB)).symm).trans q0)
      clear hok hbi hr hmem hl
      cases x with
      | false =>
        clear hfb
        go_wp2_with fail
        refine (C.out).mono ?_
        rintro e w1 ⟨rfl, b2⟩
        go_wp2_with fail
        go_ret2
        exact pack_bad (packS_bad (tot_bad (i := k) (by rw [HL2.out]; omega) HOK.out) (by decide)) (below_step hbel b2 (Nat.le_refl _))
      | true =>
        obtain ⟨g1, g2, _⟩ := hfb rfl
        dsimp only at g1 g2
        clear hfb
        by_cases h64 : s ≤ 64
        · go_wp2_with fail
          refine (C.out).mono ?_
          rintro e w1 ⟨rfl, b2⟩
          have d2 := below_step hbel b2 (Nat.le_refl _)
          have q2 := HQ.out w1 d2
          clear q0
          go_wp2_with fail
          go_roundw
          case rel => exact ⟨k + 1, _, by omega, by go_num, rfl, HREL.out.next g1 g2 HBI.out HOK.out _ (.inl ⟨h64, rfl⟩), d2⟩
          case measure => simp [intOf] <;> omega
        · go_wp2_with fail
          refine (C.out).mono ?_
          rintro e w1 ⟨rfl, b2⟩
          have d2 := below_step hbel b2 (Nat.le_refl _)
          go_wp2_with fail
          go_roundw
          case rel => exact ⟨k + 1, _, by omega, by go_num, rfl, HREL.out.next g1 g2 HBI.out HOK.out _ (.inr ⟨by omega, rfl⟩), d2⟩
          case measure => simp [intOf] <;> omega
    · obtain rfl : k = n := by omega
      by_cases h65 : 65 ≤ s
      · go_wp2_with fail
        go_ret2
        exact pack_bad (packS_bad (HREL.out.toBig HL1.out HL2.out h65) (by decide)) hbel
      · have h64 : s ≤ 64 := by omega
        clear h65
        have HP := Lib.hid (HREL.out.fine HL1.out HL2.out h64)
        obtain ⟨nb, hb1, hb2, hb3⟩ := bytesS_nat s hs1 h64
        have C := fun w => RBytes_any s w (by omega)
        rw [hb1] at C
        replace C := Lib.hid C
        have HPK := Lib.hid (packS_fine HP.out)
        have HB1 := Lib.hid hb1; clear hb1
        obtain ⟨wo, rfl⟩ : ∃ wo : World, wo = wr := ⟨_, rfl⟩
        go_wp2_with fail
        refine (C.out _).mono ?_
        rintro e _ ⟨rfl, rfl⟩
        go_wp2_with (at_make; refine wpList_mkb etb rfl (.tmp 43) (.tmp 43) rfl .i64 .i64 nb nb rfl rfl (Nat.le_refl _) (by omega) w.heap.size hbel.size ?_; intro w2 o2 b2 hs2)
        have d2 := below_step hbel b2 (Nat.le_refl _)
        go_loopw [8, 9, 10] (fun v a u wr => ∃ (j : Nat) (A1 : Option Addr) (c1 : Nat), j ≤ k ∧ u = .int .i64 j ∧ v = .slice A1 nb c1 ∧ a = .int .i64 (Bt.sumK (Bt.bitsOf fs) j) ∧ OB wr w.heap.size A1 nb c1 (Bt.packK fs (List.replicate nb 0) j) ∧ Below w.heap.size w wr) (fun _ _ u _ => k - (intOf u).toNat)
        case atStart => exact ⟨0, _, _, by omega, rfl, rfl, rfl, o2, d2⟩
        case round =>
          clear o2 b2 d2 hs2 hbel
          obtain ⟨j, A1, c1, hj, rfl, rfl, rfl, ob, bb⟩ := hrel
          by_cases hlt : j < k
          · obtain ⟨b, o, A2, n2, c2, rfl, hbB, q0, q1, hr⟩ := (h.below (bb.mono hB) hB').at_ hlt
            have hmem := getD_mem (fs := fs) (k := j) (by omega)
            have hd := hsm _ hmem
            obtain ⟨s1, s2, s3, s4⟩ := pack_step HP.out (k := j) (by omega)
            have hnx : Bt.packK fs (List.replicate nb 0) (j + 1) = Bt.putF (Bt.packK fs (List.replicate nb 0) j) (Bt.sumK (Bt.bitsOf fs) j).toNat (Oct.le (fs.getD j Bt.Fld.zero).data) (fs.getD j Bt.Fld.zero).bits.toNat := rfl
            generalize fs.getD j Bt.Fld.zero = f at *
            generalize Bt.packK fs (List.replicate nb 0) j = L at *
            obtain ⟨m, l⟩ := f
            dsimp only at *
            obtain rfl : l.length = n2 := hr.len
            have hval := Bt.okF_val s1
            obtain ⟨g1, g2, g3, g4⟩ := Bt.okF_fits s1
            dsimp only at g1 g2 g3 g4
            obtain ⟨P, hP⟩ : ∃ P : Nat, Bt.sumK (Bt.bitsOf fs) j = (P : Int) := ⟨_, (Int.toNat_of_nonneg s2).symm⟩
            obtain ⟨M, rfl⟩ : ∃ M : Nat, m = (M : Int) := ⟨m.toNat, by omega⟩
            have hle := Oct.le_lt l
            have hle2 : Oct.le l < 18446744073709551616 := by
              have h8 : l.length ≤ 8 := by have := Bt.bytesS_pos g1 g2; omega
              exact Nat.lt_of_lt_of_le hle (Nat.le_trans (Nat.pow_le_pow_right (by decide) h8) (by decide))
            have hz := bb.size
            have V := number_any (M : Int) wr hr hd (Nat.le_trans hB' (Nat.le_trans hB hz)) (by omega)
            rw [hval] at V
            dsimp only at V
            replace V := Lib.hid V
            rw [hP] at s3 s2 hnx ⊢
            rw [← s3] at s4
            rw [Int.toNat_natCast, Int.toNat_natCast] at hnx
            have PU := fun (w2 : World) (h : Below wr.heap.size wr w2) => RPutB_ok P M (Oct.le l) w2 ((ob.below h).rb) (by omega) (Nat.le_refl _) hle2 (by omega) (by omega) (by omega) g4
            replace PU := Lib.hid PU
            have HN := Lib.hid hnx; have HS := Lib.hid s3
            have HQ := Lib.hid (fun (w2 : World) (h : Below w.heap.size w w2) => show w2.cell? _ = _ from ((h.cell (p := ⟨b, o + j * 2, none⟩) (Nat.lt_of_lt_of_le hbB hB)).trans (bb.cell (p := ⟨b, o + j * 2, none⟩) (Nat.lt_of_lt_of_le hbB hB)).symm).trans q0)
            clear hnx s3 hval hle hP s1 g3 g4 hr
            generalize Oct.le l = v at *
            go_wp2_with fail
            refine (V.out).mono ?_
            rintro e w1 ⟨rfl, b1⟩
            have e1 := HQ.out w1 (below_step bb b1 (Nat.le_refl _))
            clear q0
            go_wp2_with fail
            refine (PU.out w1 b1).mono ?_
            rintro e w3 ⟨A3, c3, rfl, o3, b3⟩
            have d3 := below_step b1 b3 (Nat.le_refl _)
            have e3 := HQ.out w3 (below_step bb d3 (Nat.le_refl _))
            clear e1
            go_wp2_with fail
            go_roundw
            case rel => exact ⟨j + 1, A3, c3, by omega, by go_num, rfl, by rw [← HS.out], by rw [HN.out]; exact o3.more (Nat.le_trans hz b1.size), below_step bb d3 (Nat.le_refl _)⟩
            case measure => simp [intOf] <;> omega
          · obtain rfl : j = k := by omega
            go_wp2_with fail
            go_ret2
            exact pack_fine (by rw [HPK.out, HB1.out, hl, Int.toNat_natCast]) (by rw [Bt.packK_length, List.length_replicate]) ob bb
end Go.Proofs.YtbmocffnnlfnjaaGreat
/-
  Walks: Gather of layer 30.
  Conditions: none.
-/
namespace Go.Proofs.YtbmocffnnlfnjaaGreat
set_option linter.unusedVariables false
set_option linter.unusedSimpArgs false
open Go.RowKit
theorem PeekP.any {v : Option (List UInt8)} {w w' : World} {e : Ending} (h : PeekP v w e w') : ∃ A c b, e = .returned (.tuple #[.slice A (v.getD []).length c, .bool b]) ∧ OB w' w.heap.size A (v.getD []).length c (v.getD []) ∧ Below w.heap.size w w' ∧ b = v.isSome := by
  cases v with
  | none => exact ⟨none, 0, false, h.1, OB.none_ _ _, h.2, rfl⟩
  | some l => obtain ⟨A, c, h1, h2, h3⟩ := h; exact ⟨A, c, true, h1, h2, h3, rfl⟩
set_option maxRecDepth 100000 in
set_option maxHeartbeats 4000000 in
theorem Gather_any {F : Nat → Prop} {w : World} {g gv lc vc : Nat} {la : Addr} {vA : Option Addr} {xs vs : List Value} {D : Dc.Dic} {A : Option Addr} {n c B : Nat} {ws : List Nat} (h : DRt 66 w F g gv (some la) lc vA vc xs vs D) (hd : ∀ e ∈ D.l, e.dflt.length ≤ 1000000) (hv : ∀ v ∈ D.v, v.length ≤ 1000000) (hw : RW w B A n c ws) (hwl : ∀ x ∈ ws, x < 4294967296) (hB : B ≤ w.heap.size) : Calls Tryz.prog 73 #[.pointer (some ⟨g, 0, none⟩), .slice A n c] w (PackPost (Mp.gatherS D ws) w) := by
  have hl := hw.len
  have RI := MRight_any false h hd hw hwl hB
  have hgs : Mp.gatherS D ws = if Mp.checkS D.l false ws ≠ 0 then ([], 4) else Bt.packS (Mp.fldsS D ws) := rfl
  have hce := Mp.check_each (l := D.l) (inn := false) (ws := ws)
  generalize Mp.checkS D.l false ws = r at *
  by_cases hr : r = 0
  · subst hr
    simp only [ne_eq, not_true_eq_false, if_false] at hgs RI
    rw [hgs]
    have h8 : n ≤ 8 := by rw [← hl]; exact (hce rfl).1
    clear hgs hce
    replace RI := Lib.hid RI
    have HL := Lib.hid hl
    clear hl
    go_enter Tryz.func73, Tryz.ntmps73
    go_wp2_with fail
    refine (RI.out).mono ?_
    rintro e w1 ⟨rfl, b1⟩
    go_wp2_with fail
    go_loopw [7, 23] (fun v i wr => ∃ (k : Nat) (A1 : Option Addr) (c1 : Nat), k ≤ n ∧ i = .int .i64 k ∧ v = .slice A1 k c1 ∧ OS (FlW wr w.heap.size) wr w.heap.size 130 2 A1 k c1 (Mp.fldsS D (ws.take k)) ∧ Below w.heap.size w wr) (fun _ i _ => n - (intOf i).toNat)
    case atStart => exact ⟨0, _, _, by omega, rfl, rfl, OS.none_ _ _ _ _, b1⟩
    case round =>
      clear b1
      obtain ⟨k, A1, c1, hk, rfl, rfl, os, bb⟩ := hrel
      by_cases hlt : k < n
      · obtain ⟨b, o, rfl, hbB, q0⟩ := (hw.below (bb.mono hB)).at_ hlt
        have SP := MSplit_any (ws.getD k 0) (word_lt hwl k) wr
        have PK := dPeek_any (Mp.ix (ws.getD k 0)) (Mp.sb (ws.getD k 0)) (h.below bb) hv
        have hnx := Mp.flds_take D ws (k := k) (by rw [HL.out]; exact hlt)
        have hpb := Mp.peek_bound hv (Mp.ix (ws.getD k 0)) (Mp.sb (ws.getD k 0))
        have hbt := Mp.bt_le (ws.getD k 0)
        unfold Mp.fld at hnx
        generalize ws.getD k 0 = x at *
        have HN := Lib.hid hnx
        clear hnx
        generalize Dc.peekS D (Mp.ix x) (Mp.sb x) = pv at *
        generalize (Mp.ix x : Int) = ixx at SP PK
        generalize (Mp.sb x : Int) = sbx at SP PK
        replace SP := Lib.hid SP; replace PK := Lib.hid PK
        go_wp2_with fail
        refine (SP.out).mono ?_
        rintro e w1 ⟨rfl, rfl⟩
        go_wp2_with fail
        refine (PK.out).mono ?_
        intro e w2 hpk
        obtain ⟨A2, c2, bq, rfl, o2, b2, _⟩ := hpk.any
        generalize pv.getD [] = l2 at *
        have d2 := below_step bb b2 (Nat.le_refl _)
        have os1 := os.below b2 (R' := FlW w2 w.heap.size) fun _ _ h => h.below b2
        have ow := (o2.ow).more (base' := w.heap.size) bb.size
        clear o2 hpk
        go_wp2_with (at_builtin; refine wpList_apps etfl (fun w1 => FlW w1 w.heap.size) rfl (.tmp 40) (.tmp 44) rfl rfl rfl rfl w.heap.size os1 ⟨(Mp.bt x : Int), l2⟩ ⟨A2, l2.length, c2, rfl, ow⟩ rfl (field_oneCell _ _ _ _) (by omega) (by omega) d2.size (fun w1 A1 n1 c1 xs h g f cs hf => hf.beside h (by decide) g) ?_; intro A3 c3 w3 os3 b3 g3 _)
        go_roundw
        case rel => exact ⟨k + 1, A3, c3, by omega, by go_num, rfl, by rw [HN.out]; exact os3, d2.trans b3⟩
        case measure => simp [intOf] <;> omega
      · obtain rfl : k = n := by omega
        have hall : ws.take k = ws := List.take_of_length_le (by rw [HL.out]; omega)
        rw [hall] at os
        have rf : RFl wr wr.heap.size wr.heap.size A1 k c1 (Mp.fldsS D ws) := os.rs.imp fun _ _ h => h.flc
        have hfb := Mp.flds_bound hv ws
        have PA := Pack_any wr rf (by omega) (Nat.le_refl _) (Nat.le_refl _) (fun f hf => (hfb f hf).1) (fun f hf => by have := (hfb f hf).2; omega)
        unfold PackPost at PA ⊢
        generalize Bt.packS (Mp.fldsS D ws) = pk at *
        replace PA := Lib.hid PA
        clear hfb rf os hall
        go_wp2_with fail
        refine (PA.out).mono ?_
        rintro e w2 ⟨A2, c2, rfl, o2, b2⟩
        go_wp2_with fail
        go_ret2
        exact ⟨A2, c2, rfl, o2.more bb.size, below_step bb b2 (Nat.le_refl _)⟩
  · simp only [ne_eq, hr, not_false_eq_true, if_true] at hgs RI
    rw [hgs]
    clear hgs hce hr hl
    replace RI := Lib.hid RI
    go_enter Tryz.func73, Tryz.ntmps73
    go_wp2_with fail
    refine (RI.out).mono ?_
    rintro e w1 ⟨rfl, b1⟩
    go_wp2_with fail
    go_ret2
    exact pack_bad rfl b1
end Go.Proofs.YtbmocffnnlfnjaaGreat
