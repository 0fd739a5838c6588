/-
  Walk: Sum32Turned.
  Conditions: none.
-/
import Derived.Test.YtmilljfgnphilaaLaw2
import Derived.Test.YtmilljfgnphilaaCrcLaws
namespace Go.Proofs.Ytmilljfgnphilaa
open Go.ChangeShapes Go.WideShapes Go.ChangeAt Go.RowKit
theorem openS_turned (b : List UInt8) (burst k j : Nat) (hj : j ≤ 32) (hk : k + j ≤ 8 * (b.length + 4)) (ht : Crc.turned burst j = true) : openS (Crc.turn burst k (sealS b) j) = ([], 5) := by
  have hl : (Crc.turn burst k (sealS b) j).length = b.length + 4 := by rw [Crc.turn_length, sealS_length]
  unfold openS
  rw [if_neg (by omega), if_neg]
  intro h
  exact Crc.turned_seen burst k j b _ hj hk ht h
theorem bit_u32 (burst j : Nat) (hb : burst < 4294967296) : bits .and .u32 ((burst : Int) / 2 ^ j) 1 = (Crc.bit burst j : Int) := by
  have := u32_and_nat (burst / 2 ^ j) 1 (Nat.lt_of_le_of_lt (Nat.div_le_self _ _) hb) (by decide)
  rw [nat_mask1] at this
  rw [Crc.bit, ← this]; simp
theorem pow_byte (m : Nat) : (2 : Int) ^ m % 256 = ((UInt8.ofNat (2 ^ m)).toNat : Int) := by
  rw [UInt8.toNat_ofNat', Int.natCast_emod]
  simp
set_option maxHeartbeats 2000000 in
theorem Sum32Turned_walk {A : Option Addr} {n c : Nat} {l : List UInt8} (W : World) (h : RB W W.heap.size A n c l) (at_ : Int) (wat : (Lit.int .i64 at_).wf = true) (bu : Int) (wbu : (Lit.int .u32 bu).wf = true) :
    Calls Try.prog 6 #[.slice A n c, .int .i64 at_, .int .u32 bu] W fun e w' => e = .returned (.bool true) ∧ Below W.heap.size W w' := by
  obtain ⟨ha, hb⟩ := bounds_u32 wbu
  obtain ⟨burst, rfl⟩ := Int.eq_ofNat_of_zero_le ha
  obtain ⟨ha1, ha2⟩ := bounds_i64 wat
  clear wat wbu
  have hl := h.len
  by_cases hbig : 16384 < n
  · go_enter Try.func6, Try.ntmps6
    go_wp2_with (go_at_call 8; refine (known_any _).mono ?_; rintro e w1 ⟨rfl, hb1⟩)
    go_ret
    exact ⟨rfl, hb1⟩
  have HL := Lib.hid hl; clear hl
  go_enter Try.func6, Try.ntmps6
  go_wp2_with fail
  refine (Seal_any _ h (Nat.le_refl _) (by omega)).mono ?_
  rintro e w1 ⟨A1, c1, rfl, h1, hb1⟩
  obtain ⟨g, rfl, hg1, hg2⟩ := h1.head (by omega)
  go_wp2_with fail
  refine (Count_any at_ _ _ (by omega) (by omega) (by omega) (by omega)).mono ?_
  rintro e w2 ⟨rfl, rfl⟩
  obtain ⟨k, hk, hkn⟩ : ∃ k : Nat, cnt at_ (8 * ((n : Int) + 4)) = (k : Int) ∧ k < 8 * (n + 4) := by
    have p1 := Int.emod_nonneg at_ (show (8 * ((n : Int) + 4)) ≠ 0 by omega)
    have p2 := Int.emod_lt_of_pos at_ (show 0 < 8 * ((n : Int) + 4) by omega)
    obtain ⟨k, hk⟩ := Int.eq_ofNat_of_zero_le p1
    exact ⟨k, hk, by omega⟩
  rw [hk]
  clear hk
  go_wp2_with fail
  have ho0 : OB w1 W.heap.size (some ⟨g, 0, none⟩) (n + 4) c1 (Crc.turn burst k (sealS l) 0) := h1
  go_loopw [10, 11] (fun t i wr => ∃ j : Nat, j ≤ 32 ∧ k + j ≤ 8 * (n + 4) ∧ i = .int .i64 j ∧ t = .bool (Crc.turned burst j) ∧ OB wr W.heap.size (some ⟨g, 0, none⟩) (n + 4) c1 (Crc.turn burst k (sealS l) j) ∧ Below W.heap.size W wr) (fun _ i _ => 32 - (intOf i).toNat)
  case atStart => exact ⟨0, by omega, by omega, rfl, rfl, ho0, hb1⟩
  case round =>
    obtain ⟨j, hj, hkj, rfl, rfl, hown, hbel⟩ := hrel
    clear h1 ho0
    by_cases hgo : j < 32 ∧ k + j < 8 * (n + 4)
    · obtain ⟨g1, g2⟩ := hgo
      have hbit := bit_u32 burst j (by omega)
      have hts : Crc.turn burst k (sealS l) (j + 1) = if Crc.bit burst j = 1 then Crc.flip (Crc.turn burst k (sealS l) j) (k + j) else Crc.turn burst k (sealS l) j := rfl
      have hds : Crc.turned burst (j + 1) = if Crc.bit burst j = 1 then true else Crc.turned burst j := rfl
      generalize hsj : Crc.turn burst k (sealS l) j = s at *
      have HT := Lib.hid hts; have HD := Lib.hid hds; have HS := Lib.hid hsj
      clear hts hds hsj
      by_cases h1 : Crc.bit burst j = 1
      · rw [h1] at hbit
        have HB1 := Lib.hid h1; clear h1
        have hc := hown.cell (i := (k + j) / 8) (by omega)
        have hf := hown.free ((k + j) / 8)
        have hx := byte_lt (s.getD ((k + j) / 8) 0)
        generalize hxe : s.getD ((k + j) / 8) 0 = x at *
        have HX := Lib.hid hxe; clear hxe
        go_wp2_with fail
        go_roundw
        case rel =>
          have R := hown.setv ((k + j) / 8) (v := bits .xor .u8 (x.toNat : Int) (2 ^ ((k + j) % 8) % 256)) (x ^^^ UInt8.ofNat (2 ^ ((k + j) % 8))) (by rw [pow_byte, u8_xor_bytes])
          refine ⟨j + 1, by omega, by omega, by go_num, by rw [HD.out, if_pos HB1.out], ?_, hbel.setCell (p := ⟨g, (k + j) / 8, none⟩) hg1 _⟩
          rw [HT.out, if_pos HB1.out, Crc.flip, HX.out]
          exact R.1
        case measure => simp [intOf]; omega
      · have h0 : Crc.bit burst j = 0 := by have := Crc.bit_lt burst j; omega
        rw [h0] at hbit
        have HB0 := Lib.hid h1; clear h1 h0
        go_wp2_with fail
        go_roundw
        case rel => exact ⟨j + 1, by omega, by omega, by go_num, by rw [HD.out, if_neg HB0.out], by rw [HT.out, if_neg HB0.out]; exact hown, hbel⟩
        case measure => simp [intOf]; omega
    · have hend : j = 32 ∨ k + j = 8 * (n + 4) := by omega
      clear hgo
      have hseen := openS_turned l burst k j hj (by rw [HL.out]; exact hkj)
      have hsame := Crc.not_turned burst k (sealS l) j
      generalize hsj : Crc.turn burst k (sealS l) j = s at *
      have HS := Lib.hid hsj; clear hsj
      by_cases hj32 : j < 32
      all_goals
        rcases Bool.eq_false_or_eq_true (Crc.turned burst j) with ht | ht
        · have ho := hseen ht
          rw [ht]
          have HT := Lib.hid ht; have HO := Lib.hid ho
          clear hseen hsame ht ho
          go_wp2_with fail
          refine (Open_any _ hown.rb (Nat.le_refl _) (by omega)).mono ?_
          rintro e w2 ⟨A2, c2, he, h2, hb2⟩
          rw [HO.out] at he h2
          subst he
          have b2 := hbel.trans (hb2.mono hbel.size)
          go_wp2_with fail
          refine (known_any _).mono ?_
          rintro e w3 ⟨rfl, hb3⟩
          go_wp2_with fail
          go_ret
          exact ⟨rfl, b2.trans (hb3.mono b2.size)⟩
        · have hs := hsame ht
          rw [ht]
          have hop : openS s = (l, 0) := by rw [hs, openS_seal]
          have HT := Lib.hid ht; have HO := Lib.hid hop
          clear hseen hsame ht hs hop
          go_wp2_with fail
          refine (Open_any _ hown.rb (Nat.le_refl _) (by omega)).mono ?_
          rintro e w2 ⟨A2, c2, he, h2, hb2⟩
          rw [HO.out] at he h2
          subst he
          have b2 := hbel.trans (hb2.mono hbel.size)
          have e1 := convb h2.rb
          have e2 := convb (h.below b2)
          go_wp2_with fail
          refine (known_any _).mono ?_
          rintro e w3 ⟨rfl, hb3⟩
          go_wp2_with fail
          go_ret
          exact ⟨rfl, b2.trans (hb3.mono b2.size)⟩
end Go.Proofs.Ytmilljfgnphilaa
