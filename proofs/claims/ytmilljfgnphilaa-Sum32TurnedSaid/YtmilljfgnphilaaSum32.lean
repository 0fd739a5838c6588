/-
  Walks: sum32.On and its closure, Sum; the reference's On, Sum.
  Conditions: none.
-/
import Derived.Test.YtmilljfgnphilaaWords
import Derived.Test.YtmilljfgnphilaaCrc
import Derived.Test.YtmilljfgnphilaaOct
namespace Go.Proofs.Ytmilljfgnphilaa
open Go.RowKit
theorem nat_not32 (s : Nat) (h : s < 4294967296) : 4294967295 ^^^ s = 4294967295 - s := by
  apply Nat.eq_of_testBit_eq
  intro i
  have h' : s < 2 ^ 32 := h
  rw [Nat.testBit_xor, show 4294967295 - s = 2 ^ 32 - (s + 1) by omega, Nat.testBit_two_pow_sub_succ h', show 4294967295 = 2 ^ 32 - 1 by decide, Nat.testBit_two_pow_sub_one]
  by_cases hi : i < 32
  · simp [hi]
  · have : s.testBit i = false := Nat.testBit_lt_two_pow (Nat.lt_of_lt_of_le h' (Nat.pow_le_pow_right (by decide) (by omega)))
    simp [hi, this]
theorem not32 (s : Nat) (h : s < 4294967296) : bits .xor .u32 4294967295 (s : Int) = ((4294967295 - s : Nat) : Int) := by
  have := u32_xor_nat 4294967295 s (by decide) h
  rw [nat_not32 s h] at this
  exact this
theorem take_val (r bit : Nat) (hr : r < 4294967296) (hb : bit < 2) :
    bits .xor .u32 ((r : Int) / 2) (bits .and .u32 3988292384 (-bits .xor .u32 (bits .and .u32 (r : Int) 1) (bit : Int) % 4294967296)) = (Crc.stp r bit : Int) := by
  have e1 : bits .and .u32 (r : Int) 1 = ((r % 2 : Nat) : Int) := by
    have := u32_and_nat r 1 hr (by decide)
    rwa [nat_mask1] at this
  have h2 : r % 2 < 2 := Nat.mod_lt _ (by decide)
  have e2 : bits .xor .u32 ((r % 2 : Nat) : Int) (bit : Int) = ((r % 2 ^^^ bit : Nat) : Int) := u32_xor_nat _ _ (by omega) (by omega)
  have hq : (r ^^^ bit) / 2 = r / 2 := by rw [Crc.xor_div2, show bit / 2 = 0 by omega, Nat.xor_zero]
  have hm : (r ^^^ bit) % 2 = r % 2 ^^^ bit := by rw [Crc.xor_mod2, show bit % 2 = bit by omega]
  rw [e1, e2]
  unfold Crc.stp Crc.T
  rw [hq, hm]
  have hx : r % 2 ^^^ bit = 0 ∨ r % 2 ^^^ bit = 1 := by
    rcases (show r % 2 = 0 ∨ r % 2 = 1 by omega) with e | e <;> rcases (show bit = 0 ∨ bit = 1 by omega) with e' | e' <;> rw [e, e'] <;> simp
  rcases hx with e | e <;> rw [e]
  · have e3 : bits .and .u32 3988292384 (-((0 : Nat) : Int) % 4294967296) = ((0 : Nat) : Int) := u32_and_nat 3988292384 0 (by decide) (by decide)
    rw [e3, if_pos rfl]
    exact u32_xor_nat (r / 2) 0 (by omega) (by decide)
  · have e3 : bits .and .u32 3988292384 (-((1 : Nat) : Int) % 4294967296) = ((3988292384 : Nat) : Int) := u32_and_nat 3988292384 4294967295 (by decide) (by decide)
    rw [e3, if_neg (by decide)]
    exact u32_xor_nat (r / 2) 3988292384 (by omega) (by decide)

set_option maxHeartbeats 400000 in
theorem take_any (r bit : Nat) (g : Nat) (w : World) {b : Int} (hbb : b = (bit : Int)) (hr : r < 4294967296) (hb : bit < 2) (hg : w.heap[g]? = some (.cells #[.int .u32 (r : Int)] 22 (0, 0))) :
    Calls Try.prog 22 #[.int .u32 b, .pointer (some ⟨g, 0, none⟩)] w fun e w' =>
      e = .returned (.tuple #[]) ∧ w'.heap[g]? = some (.cells #[.int .u32 (Crc.stp r bit : Int)] 22 (0, 0)) ∧ w.grownBy w' (some g) ∧ w'.heap.size = w.heap.size := by
  subst hbb
  have hc := cell_of_one hg
  have hf := free_of_one hg
  have HG := Lib.hid hg; clear hg
  go_enter Try.func22, Try.ntmps22
  go_wp2
  go_end0
  rw [take_val r bit hr hb]
  exact ⟨rfl, one_setCell (one_setCell HG.out), grown_setCell (grown_setCell (World.grownBy.refl _ _) (.inl rfl) _) (.inl rfl) _, by simp⟩

set_option maxHeartbeats 1000000 in
theorem On_any {A : Option Addr} {n c B : Nat} {l : List UInt8} (s : Nat) (w : World) (hs : s < 4294967296) (hb : RB w B A n c l) (hB : B ≤ w.heap.size) :
    Calls Try.prog 10 #[.int .u32 (s : Int), .slice A n c] w fun e w' => e = .returned (.int .u32 (Crc.on s l : Int)) ∧ Below w.heap.size w w' := by
  have hn := hb.lt
  have hl := hb.len
  have h0 : bits .xor .u32 IntKind.u32.max (s : Int) = ((Crc.full - s : Nat) : Int) := not32 s hs
  have hf : Crc.full - s < 4294967296 := by unfold Crc.full; omega
  have HL := Lib.hid hl; clear hl
  go_enter Try.func10, Try.ntmps10
  go_wp2_with fail
  go_loopw [15] (fun i wr => ∃ k : Nat, k ≤ n ∧ i = .int .i64 k ∧ wr.heap[w.heap.size]? = some (.cells #[.int .u32 (Crc.reg (Crc.full - s) (l.take k) : Int)] 22 (0, 0)) ∧ Below w.heap.size w wr) (fun i _ => n - (intOf i).toNat)
  case atStart => exact ⟨0, Nat.zero_le _, rfl, heap_alloc_new w _, (Below.refl _ _).alloc (Nat.le_refl _) _⟩
  case round =>
    obtain ⟨k, hk, rfl, hg, hbel⟩ := hrel
    have hr := Crc.reg_lt (l.take k) (Crc.full - s) hf
    by_cases hlt : k < n
    · obtain ⟨b, o, rfl, hbB, hc⟩ := hb.at_ (by omega)
      have hck := (hbel.cell (p := ⟨b, o + k, none⟩) (by show b < _; omega)).trans (hc k hlt)
      have hts := List.take_succ_eq_append_getElem (l := l) (i := k) (by rw [HL.out]; exact hlt)
      have hgd : l.getD k 0 = l[k]'(by rw [HL.out]; exact hlt) := by simp [List.getD, HL.out, hlt]
      rw [← hgd] at hts
      have hx := byte_lt (l.getD k 0)
      have HT := Lib.hid hts; clear hts
      clear hgd
      generalize hrr : Crc.reg (Crc.full - s) (l.take k) = r at *
      have HR := Lib.hid hrr; clear hrr
      generalize hxe : l.getD k 0 = x at *
      clear hc hxe h0
      obtain ⟨wo, rfl⟩ : ∃ wo : World, wo = wr := ⟨_, rfl⟩
      have HG := Lib.hid hg; clear hg
      go_wp2_with fail
      go_loopw [19] (fun j wi => ∃ q : Nat, q ≤ 8 ∧ j = .int .i64 q ∧ wi.heap[w.heap.size]? = some (.cells #[.int .u32 (Crc.bitsStep q r x.toNat : Int)] 22 (0, 0)) ∧ Below w.heap.size w wi) (fun j _ => 8 - (intOf j).toNat)
      case atStart => exact ⟨0, by omega, rfl, HG.out, hbel⟩
      case round =>
        obtain ⟨q, hq, rfl, hgi, hbi⟩ := hrel
        have hbit : bits .and .u32 ((x.toNat : Int) / 2 ^ q) 1 = ((x.toNat / 2 ^ q % 2 : Nat) : Int) := by
          have := u32_and_nat (x.toNat / 2 ^ q) 1 (Nat.lt_of_le_of_lt (Nat.div_le_self _ _) (by omega)) (by decide)
          rw [nat_mask1] at this
          rw [← this]; simp
        have hs := Crc.bitsStep_succ q r x.toNat
        have hbl := Crc.bitsStep_lt q r x.toNat hr
        generalize hye : Crc.bitsStep q r x.toNat = y at *
        have HB := Lib.hid hbit; clear hbit
        have HS := Lib.hid hs; clear hs
        have HGI := Lib.hid hgi; clear hgi
        have HY := Lib.hid hye; clear hye
        by_cases hq8 : q < 8
        · go_wp2_with (go_at_call 22; refine (take_any y _ _ _ HB.out hbl (Nat.mod_lt _ (by decide)) HGI.out).mono ?_; rintro e w2 ⟨rfl, hg2, hgr2, hsz2⟩)
          go_roundw
          case rel => exact ⟨q + 1, by omega, by go_num, by rw [HS.out]; exact hg2, hbi.grown hgr2 hbi.size fun k hk => by cases hk; exact Nat.le_refl _⟩
          case measure => simp [intOf]; omega
        · obtain rfl : q = 8 := by omega
          go_wp2_with fail
          go_roundw
          case rel => exact ⟨k + 1, by omega, by go_num, by rw [HT.out, Crc.reg_snoc, HR.out, HY.out]; exact HGI.out, hbi⟩
          case measure => simp [intOf]; omega
    · obtain rfl : k = n := by omega
      have hc := cell_of_one hg
      rw [List.take_of_length_le (by rw [HL.out]; exact Nat.le_refl _)] at hc
      clear hg h0
      have h1 : bits .xor .u32 IntKind.u32.max (Crc.reg (Crc.full - s) l : Int) = (Crc.on s l : Int) := not32 _ (Crc.reg_lt l _ hf)
      have H1 := Lib.hid h1; clear h1
      go_wp2
      go_ret
      exact ⟨by rw [← H1.out]; rfl, hbel⟩

set_option maxHeartbeats 400000 in
theorem Sum_any {A : Option Addr} {n c B : Nat} {l : List UInt8} (w : World) (hb : RB w B A n c l) (hB : B ≤ w.heap.size) :
    Calls Try.prog 12 #[.slice A n c] w fun e w' => e = .returned (.int .u32 (Crc.on 0 l : Int)) ∧ Below w.heap.size w w' := by
  go_enter Try.func12, Try.ntmps12
  go_wp2_with (go_at_call 10; refine (On_any 0 _ (by decide) hb hB).mono ?_; rintro e w' ⟨rfl, hb1⟩)
  go_ret
  exact ⟨rfl, hb1⟩

theorem i64_xor32 (a b : Nat) (ha : a < 4294967296) (hb : b < 4294967296) : bits .xor .i64 (a : Int) (b : Int) = ((a ^^^ b : Nat) : Int) := by
  have hx : a ^^^ b < 2 ^ 32 := Nat.xor_lt_two_pow (by omega) (by omega)
  have h1 : ∀ z : Nat, z < 9223372036854775808 → (BitVec.ofInt 64 (z : Int)).toNat = z := fun z hz => by
    rw [BitVec.ofInt_natCast, BitVec.toNat_ofNat]; exact Nat.mod_eq_of_lt (by omega)
  show IntKind.i64.wrap ((BitVec.ofInt 64 (a : Int) ^^^ BitVec.ofInt 64 (b : Int)).toNat : Int) = _
  rw [BitVec.toNat_xor, h1 a (by omega), h1 b (by omega), IntKind.wrap_i64]
  omega
theorem stp_of_ne {r c : Nat} (h : r % 2 ≠ c % 2) : Crc.stp r (c % 2) = r / 2 ^^^ 3988292384 := by
  unfold Crc.stp Crc.T
  have h1 : (r ^^^ (c % 2)) % 2 = 1 := by
    rw [Crc.xor_mod2, Nat.mod_mod]
    rcases (show r % 2 = 0 ∨ r % 2 = 1 by omega) with e | e <;> rcases (show c % 2 = 0 ∨ c % 2 = 1 by omega) with e' | e' <;> rw [e, e'] <;> simp <;> omega
  rw [if_neg (by omega), Crc.xor_div2, show c % 2 / 2 = 0 by omega, Nat.xor_zero]
  rfl
theorem stp_of_eq {r c : Nat} (h : r % 2 = c % 2) : Crc.stp r (c % 2) = r / 2 := by
  unfold Crc.stp Crc.T
  have h1 : (r ^^^ (c % 2)) % 2 = 0 := by
    rw [Crc.xor_mod2, Nat.mod_mod, h, Nat.xor_self]
  rw [if_pos h1, Crc.xor_div2, show c % 2 / 2 = 0 by omega, Nat.xor_zero, Nat.xor_zero]
set_option maxHeartbeats 2000000 in
theorem ROn_any {A : Option Addr} {n c B : Nat} {l : List UInt8} (s : Nat) (w : World) (hs : s < 4294967296) (hb : RB w B A n c l) :
    Calls Try.prog 11 #[.int .u32 (s : Int), .slice A n c] w fun e w' => e = .returned (.int .u32 (Crc.on s l : Int)) ∧ w = w' := by
  have hn := hb.lt
  have hl := hb.len
  have hf : Crc.full - s < 4294967296 := by unfold Crc.full; omega
  have h0 : (4294967295 : Int) - (s : Int) = ((Crc.full - s : Nat) : Int) := by unfold Crc.full; omega
  have HL := Lib.hid hl; clear hl
  have H0 := Lib.hid h0; clear h0
  go_enter Try.func11, Try.ntmps11
  go_wp2_with fail
  go_loop [5, 6] (fun v i => ∃ k : Nat, k ≤ n ∧ i = .int .i64 k ∧ v = .int .i64 (Crc.reg (Crc.full - s) (l.take k) : Int)) (fun _ i => n - (intOf i).toNat)
  case atStart => exact ⟨0, Nat.zero_le _, rfl, congrArg (Value.int .i64) H0.out⟩
  case round =>
    obtain ⟨k, hk, rfl, rfl⟩ := hrel
    have hr := Crc.reg_lt (l.take k) (Crc.full - s) hf
    by_cases hlt : k < n
    · obtain ⟨b, o, rfl, hbB, hc⟩ := hb.at_ (by omega)
      have hck := hc k hlt
      have hts := List.take_succ_eq_append_getElem (l := l) (i := k) (by rw [HL.out]; exact hlt)
      have hgd : l.getD k 0 = l[k]'(by rw [HL.out]; exact hlt) := by simp [List.getD, HL.out, hlt]
      rw [← hgd] at hts
      have hx := byte_lt (l.getD k 0)
      have HT := Lib.hid hts; clear hts
      clear hgd
      generalize hrr : Crc.reg (Crc.full - s) (l.take k) = r at *
      have HR := Lib.hid hrr; clear hrr
      generalize hxe : l.getD k 0 = x at *
      clear hc hxe
      go_wp2_with fail
      go_loop [5, 7, 8] (fun v cc j => ∃ q : Nat, q ≤ 8 ∧ j = .int .i64 q ∧ v = .int .i64 (Crc.bitsStep q r x.toNat : Int) ∧ cc = .int .i64 ((x.toNat / 2 ^ q : Nat) : Int)) (fun _ _ j => 8 - (intOf j).toNat)
      case atStart => exact ⟨0, by omega, rfl, rfl, by simp⟩
      case round =>
        obtain ⟨q, hq, rfl, rfl, rfl⟩ := hrel
        have hs := Crc.bitsStep_succ q r x.toNat
        have hbl := Crc.bitsStep_lt q r x.toNat hr
        have hcl : x.toNat / 2 ^ q < 256 := Nat.lt_of_le_of_lt (Nat.div_le_self _ _) hx
        have hcd : x.toNat / 2 ^ q / 2 = x.toNat / 2 ^ (q + 1) := by rw [Nat.div_div_eq_div_mul, Nat.pow_succ]
        generalize hye : Crc.bitsStep q r x.toNat = y at *
        generalize hze : x.toNat / 2 ^ q = z at *
        have HS := Lib.hid hs; clear hs
        have HY := Lib.hid hye; clear hye
        have HZ := Lib.hid hze; clear hze
        have HD := Lib.hid hcd; clear hcd
        by_cases hq8 : q < 8
        · by_cases hne : y % 2 = z % 2
          · have ht : ((y : Int) % 2 != (z : Int) % 2) = false := by rw [bne_eq_false_iff_eq]; omega
            have HN := Lib.hid hne; clear hne
            go_wp2_with fail
            go_round
            case rel => exact ⟨q + 1, by omega, by go_num, by rw [HS.out, stp_of_eq HN.out]; rfl, by rw [← HD.out]; rfl⟩
            case measure => simp [intOf]; omega
          · have ht : ((y : Int) % 2 != (z : Int) % 2) = true := by rw [bne_iff_ne]; omega
            have hx := i64_xor32 (y / 2) 3988292384 (by omega) (by decide)
            have HX := Lib.hid hx; clear hx
            have HN := Lib.hid hne; clear hne
            go_wp2_with fail
            go_round
            case rel => exact ⟨q + 1, by omega, by go_num, by rw [HS.out, stp_of_ne HN.out, ← HX.out]; rfl, by rw [← HD.out]; rfl⟩
            case measure => simp [intOf]; omega
        · obtain rfl : q = 8 := by omega
          go_wp2_with fail
          go_round
          case rel => exact ⟨k + 1, by omega, by go_num, by rw [HT.out, Crc.reg_snoc, HR.out, HY.out]⟩
          case measure => simp [intOf]; omega
    · obtain rfl : k = n := by omega
      rw [List.take_of_length_le (by rw [HL.out]; exact Nat.le_refl _)] at *
      go_wp2
      go_ret
      exact ⟨ret_int (by unfold Crc.on Crc.full at *; omega), rfl⟩
end Go.Proofs.Ytmilljfgnphilaa
