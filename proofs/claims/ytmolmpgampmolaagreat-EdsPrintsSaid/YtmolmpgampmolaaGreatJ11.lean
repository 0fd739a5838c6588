/-
  Texts joined: OctBits, OctRefPut, OctRef, TypCode.
  Conditions: none.
-/
import Derived.Test.YtmolmpgampmolaaGreatJ01
import Derived.Test.YtmolmpgampmolaaGreatJ04
import Derived.Test.YtmolmpgampmolaaGreatJ10
/-
  Walks: octet.mask, extend, Low, Sign, PutInt, GetInt; Put and Get whole.
  Conditions: none.
-/
namespace Go.Proofs.YtmolmpgampmolaaGreat
set_option linter.unusedVariables false
set_option linter.unusedSimpArgs false
open Go.RowKit
theorem and_mask (n b : Nat) (hn : n < 18446744073709551616) (hb : b < 64) : bits .and .u64 (n : Int) (IntKind.u64.wrap (IntKind.u64.wrap ((2 : Int) ^ b) - 1)) = ((n % 2 ^ b : Nat) : Int) := by
  have hp : 0 < 2 ^ b := Nat.pow_pos (by decide)
  have hlt : 2 ^ b < 2 ^ 64 := Nat.pow_lt_pow_right (by decide) hb
  have e : IntKind.u64.wrap (IntKind.u64.wrap ((2 : Int) ^ b) - 1) = ((2 ^ b - 1 : Nat) : Int) := by
    rw [IntKind.wrap_u64, IntKind.wrap_u64, Oct.pow_int]; omega
  rw [e, u64_and_nat _ _ hn (by omega), Nat.and_two_pow_sub_one_eq_mod]
set_option maxHeartbeats 400000 in
theorem mask_any (n b : Nat) {x : Int} (hx : x = (b : Int)) (w : World) (hn : n < 18446744073709551616) (h1 : 1 ≤ b) (h2 : b ≤ 64) :
    Calls Tryz.prog 132 #[.int .u64 (n : Int), .int .i64 x] w fun e w' => e = .returned (.int .u64 ((n % 2 ^ b : Nat) : Int)) ∧ w = w' := by
  subst hx
  by_cases hb : b = 64
  · subst hb
    go_enter Tryz.func132, Tryz.ntmps132
    go_wp2
    go_ret
    exact ⟨ret_int (by rw [Nat.mod_eq_of_lt (by simpa using hn)]), rfl⟩
  · have ht : ((b : Int) == 64) = false := by rw [beq_eq_false_iff_ne]; omega
    have hlt : b < 64 := by omega
    clear hb
    go_enter Tryz.func132, Tryz.ntmps132
    go_wp2
    go_ret
    show _ ∧ _
    exact ⟨ret_int (and_mask n b hn hlt), rfl⟩
set_option maxHeartbeats 400000 in
theorem extend_any (n b : Nat) {x : Int} (hx : x = (b : Int)) (w : World) (hn : n < 18446744073709551616) (h1 : 1 ≤ b) (h2 : b ≤ 64) :
    Calls Tryz.prog 133 #[.int .u64 (n : Int), .int .i64 x] w fun e w' => e = .returned (.int .i64 (Oct.sgn n b)) ∧ w = w' := by
  subst hx
  go_enter Tryz.func133, Tryz.ntmps133
  go_wp2
  go_ret
  exact ⟨ret_int (by unfold wrap64; rw [IntKind.wrap_u64]; exact Oct.extend_val n b h1 h2), rfl⟩

set_option maxHeartbeats 400000 in
theorem Put_any {A : Option Addr} {n c B : Nat} {l : List UInt8} (x : Int) (m : Nat) (w : World) (hb : RB w B A n c l) (hn : n < 140737488355000) (hB : B ≤ w.heap.size) (hm : m < 18446744073709551616) :
    Calls Tryz.prog 122 #[.slice A n c, .int .i64 x, .int .u64 (m : Int)] w fun e w' =>
      ∃ A1 c1, e = .returned (.tuple #[.slice A1 (Oct.putS l x m).1.length c1, .int .i64 (Oct.putS l x m).2]) ∧ OB w' w.heap.size A1 (Oct.putS l x m).1.length c1 (Oct.putS l x m).1 ∧ Below w.heap.size w w' := by
  unfold Oct.putS
  by_cases h : 1 ≤ x ∧ x ≤ 8
  · obtain ⟨k, rfl⟩ := Int.eq_ofNat_of_zero_le (show 0 ≤ x by omega)
    rw [if_pos h]
    by_cases hk : 256 ^ k ≤ m
    · have e : 256 ^ ((k : Nat) : Int).toNat ≤ m := hk
      rw [if_pos e]
      exact (Put_range k m w (by omega) (by omega) hm hk).mono fun e w' ⟨he, hw⟩ => by subst hw; exact ⟨none, 0, he, OB.none_ _ _, Below.refl _ _⟩
    · have e : ¬ 256 ^ ((k : Nat) : Int).toNat ≤ m := hk
      have hl : (l ++ Oct.lb k m).length = n + k := by rw [List.length_append, Oct.lb_length, hb.len]
      rw [if_neg e]
      refine (Put_ok k m w hb hn hB (by omega) (by omega) hm (by omega)).mono fun e w' ⟨A1, c1, he, h1, h2⟩ => ⟨A1, c1, ?_, ?_, h2⟩
      · show e = .returned (.tuple #[.slice A1 (l ++ Oct.lb k m).length c1, _])
        rw [hl]; exact he
      · show OB w' _ A1 (l ++ Oct.lb k m).length c1 (l ++ Oct.lb k m)
        rw [hl]; exact h1
  · rw [if_neg h]
    exact (Put_arg x m w h).mono fun e w' ⟨he, hw⟩ => by subst hw; exact ⟨none, 0, he, OB.none_ _ _, Below.refl _ _⟩
set_option maxHeartbeats 800000 in
theorem PutInt_any {A : Option Addr} {n c B : Nat} {l : List UInt8} (x z : Int) (w : World) (hb : RB w B A n c l) (hn : n < 140737488355000) (hB : B ≤ w.heap.size) (hz1 : -9223372036854775808 ≤ z) (hz2 : z ≤ 9223372036854775807) :
    Calls Tryz.prog 120 #[.slice A n c, .int .i64 x, .int .i64 z] w fun e w' =>
      ∃ A1 c1, e = .returned (.tuple #[.slice A1 (Oct.putIntS l x z).1.length c1, .int .i64 (Oct.putIntS l x z).2]) ∧ OB w' w.heap.size A1 (Oct.putIntS l x z).1.length c1 (Oct.putIntS l x z).1 ∧ Below w.heap.size w w' := by
  unfold Oct.putIntS
  by_cases h : 1 ≤ x ∧ x ≤ 8
  · obtain ⟨k, rfl⟩ := Int.eq_ofNat_of_zero_le (show 0 ≤ x by omega)
    rw [if_pos h]
    obtain ⟨h1, h2⟩ := h
    obtain ⟨u, hu⟩ := Int.eq_ofNat_of_zero_le (Int.emod_nonneg z (show (18446744073709551616 : Int) ≠ 0 by decide))
    have hu2 : u < 18446744073709551616 := by have := Int.emod_lt_of_pos z (show (0 : Int) < 18446744073709551616 by decide); omega
    have huN : (z % 18446744073709551616).toNat = u := by omega
    rw [huN, Int.toNat_natCast]
    have hsg : Oct.sgn (u % 2 ^ (8 * k)) (8 * k) = z ↔ -((2 ^ (8 * k - 1) : Nat) : Int) ≤ z ∧ z < ((2 ^ (8 * k - 1) : Nat) : Int) := by
      rw [Oct.sgn_mod]
      have hdvd : ((2 ^ (8 * k) : Nat) : Int) ∣ 18446744073709551616 := by
        rw [show (18446744073709551616 : Int) = ((2 ^ 64 : Nat) : Int) by decide]
        exact Int.natCast_dvd_natCast.2 (Nat.pow_dvd_pow 2 (by omega))
      have hum : u % 2 ^ (8 * k) = (z % ((2 ^ (8 * k) : Nat) : Int)).toNat := by
        have : ((u % 2 ^ (8 * k) : Nat) : Int) = z % ((2 ^ (8 * k) : Nat) : Int) := by
          rw [Int.natCast_emod, ← hu, Int.emod_emod_of_dvd _ hdvd]
        omega
      constructor
      · intro e
        rw [← e]
        exact Oct.sgn_bounds u (8 * k) (by omega)
      · rintro ⟨g1, g2⟩
        rw [← Oct.sgn_mod, hum]
        exact Oct.sgn_of z (8 * k) (by omega) g1 g2
    have hmk : u % 2 ^ (8 * k) < 18446744073709551616 := Nat.lt_of_le_of_lt (Nat.mod_le _ _) hu2
    have hmlt : u % 2 ^ (8 * k) < 256 ^ k := by
      rw [show (256 : Nat) = 2 ^ 8 by decide, ← Nat.pow_mul]
      exact Nat.mod_lt _ (Nat.pow_pos (by decide))
    have hlb : Oct.lb k (u % 2 ^ (8 * k)) = Oct.lb k u := by
      have := Oct.lb_mod k u k (Nat.le_refl _)
      rwa [show (256 : Nat) = 2 ^ 8 by decide, ← Nat.pow_mul] at this
    have hl : (l ++ Oct.lb k u).length = n + k := by rw [List.length_append, Oct.lb_length, hb.len]
    by_cases hr : Oct.sgn (u % 2 ^ (8 * k)) (8 * k) = z
    · rw [if_pos (hsg.1 hr)]
      dsimp only
      rw [hl]
      have ht : (Oct.sgn (u % 2 ^ (8 * k)) (8 * k) != z) = false := by rw [hr]; simp
      have HU := Lib.hid hu; have HLB := Lib.hid hlb
      have hwu : IntKind.u64.wrap z = (u : Int) := by rw [IntKind.wrap_u64]; exact hu
      clear hsg hu huN hlb hl hr
      go_enter Tryz.func120, Tryz.ntmps120
      go_wp2_with fail
      refine (there_yes _ _ (by omega) (by omega)).mono ?_
      rintro e w1 ⟨rfl, rfl⟩
      go_wp2_with fail
      refine (mask_any u (8 * k) (by omega) _ hu2 (by omega) (by omega)).mono ?_
      rintro e w1 ⟨rfl, rfl⟩
      generalize u % 2 ^ (8 * k) = v at *
      go_wp2_with fail
      refine (extend_any v (8 * k) (by omega) _ hmk (by omega) (by omega)).mono ?_
      rintro e w1 ⟨rfl, rfl⟩
      generalize Oct.sgn v (8 * k) = y at *
      go_wp2_with fail
      refine (Put_ok k v _ hb hn hB (by omega) (by omega) hmk hmlt).mono ?_
      rintro e w2 ⟨A2, c2, rfl, h2, hb2⟩
      go_wp2_with fail
      go_ret2
      exact ⟨A2, c2, rfl, by rw [← HLB.out]; exact h2, hb2⟩
    · rw [if_neg (fun g => hr (hsg.2 g))]
      have ht : (Oct.sgn (u % 2 ^ (8 * k)) (8 * k) != z) = true := by rw [bne_iff_ne]; exact hr
      have hwu : IntKind.u64.wrap z = (u : Int) := by rw [IntKind.wrap_u64]; exact hu
      clear hsg hlb hl hr hu huN
      go_enter Tryz.func120, Tryz.ntmps120
      go_wp2_with fail
      refine (there_yes _ _ (by omega) (by omega)).mono ?_
      rintro e w1 ⟨rfl, rfl⟩
      go_wp2_with fail
      refine (mask_any u (8 * k) (by omega) _ hu2 (by omega) (by omega)).mono ?_
      rintro e w1 ⟨rfl, rfl⟩
      generalize u % 2 ^ (8 * k) = v at *
      go_wp2_with fail
      refine (extend_any v (8 * k) (by omega) _ hmk (by omega) (by omega)).mono ?_
      rintro e w1 ⟨rfl, rfl⟩
      generalize Oct.sgn v (8 * k) = y at *
      go_wp2_with fail
      go_ret2
      exact ⟨none, 0, rfl, OB.none_ _ _, Below.refl _ _⟩
  · rw [if_neg h]
    go_enter Tryz.func120, Tryz.ntmps120
    go_wp2_with fail
    refine (there_no _ _ h).mono ?_
    rintro e w1 ⟨rfl, rfl⟩
    go_wp2_with fail
    go_ret2
    exact ⟨none, 0, rfl, OB.none_ _ _, Below.refl _ _⟩

set_option maxHeartbeats 400000 in
theorem Get_any {A : Option Addr} {n c B : Nat} {l : List UInt8} (p x : Int) (w : World) (hb : RB w B A n c l) :
    Calls Tryz.prog 125 #[.slice A n c, .int .i64 p, .int .i64 x] w fun e w' => e = .returned (.tuple #[.int .u64 ((Oct.getS l p x).1 : Int), .int .i64 (Oct.getS l p x).2]) ∧ w = w' := by
  have hl := hb.len
  have hn := hb.lt
  unfold Oct.getS
  by_cases h : 1 ≤ x ∧ x ≤ 8 ∧ 0 ≤ p ∧ p ≤ (l.length : Int)
  · rw [if_pos h]
    obtain ⟨h1, h2, h3, h4⟩ := h
    by_cases hs : (l.length : Int) - p < x
    · rw [if_pos hs]
      exact Get_short x p w h1 h2 h3 (by omega) hn (by omega)
    · rw [if_neg hs]
      obtain ⟨k, rfl⟩ := Int.eq_ofNat_of_zero_le (show 0 ≤ x by omega)
      obtain ⟨q, rfl⟩ := Int.eq_ofNat_of_zero_le h3
      exact Get_ok k q w hb (by omega) (by omega) (by omega)
  · rw [if_neg h]
    exact Get_arg x p w (by rw [← hl]; omega)
theorem getS_lt (l : List UInt8) (p x : Int) : (Oct.getS l p x).1 < 18446744073709551616 := by
  unfold Oct.getS
  split
  · rename_i h
    split
    · decide
    · have h1 := Oct.le_lt (Oct.cut l p.toNat x.toNat)
      rw [Oct.cut_length _ _ _ (by omega)] at h1
      exact Nat.lt_of_lt_of_le h1 (Nat.le_trans (Nat.pow_le_pow_right (by decide) (show x.toNat ≤ 8 by omega)) (by decide))
  · decide
theorem getS_ok {l : List UInt8} {p x : Int} (h : (Oct.getS l p x).2 = 0) : 1 ≤ x ∧ x ≤ 8 := by
  unfold Oct.getS at h
  split at h
  · rename_i h1; exact ⟨h1.1, h1.2.1⟩
  · simp at h
set_option maxHeartbeats 400000 in
theorem GetInt_any {A : Option Addr} {n c B : Nat} {l : List UInt8} (p x : Int) (w : World) (hb : RB w B A n c l) :
    Calls Tryz.prog 124 #[.slice A n c, .int .i64 p, .int .i64 x] w fun e w' => e = .returned (.tuple #[.int .i64 (Oct.getIntS l p x).1, .int .i64 (Oct.getIntS l p x).2]) ∧ w = w' := by
  have hlt := getS_lt l p x
  have hok := getS_ok (l := l) (p := p) (x := x)
  have hg := Get_any p x w hb
  unfold Oct.getIntS
  generalize Oct.getS l p x = y at *
  obtain ⟨y, ye⟩ := y
  dsimp only at *
  have HG := Lib.hid hg; clear hg
  by_cases he : ye = 0
  · rw [if_pos he]
    obtain ⟨h1, h2⟩ := hok he
    clear hok
    subst he
    go_enter Tryz.func124, Tryz.ntmps124
    go_wp2_with fail
    refine HG.out.mono ?_
    rintro e w1 ⟨rfl, rfl⟩
    go_wp2_with fail
    refine (extend_any y (8 * x.toNat) (by omega) _ hlt (by omega) (by omega)).mono ?_
    rintro e w1 ⟨rfl, rfl⟩
    go_wp2_with fail
    go_ret2
    exact ⟨rfl, rfl⟩
  · rw [if_neg he]
    clear hok
    have ht : (ye != 0) = true := by rw [bne_iff_ne]; exact he
    clear he
    go_enter Tryz.func124, Tryz.ntmps124
    go_wp2_with fail
    refine HG.out.mono ?_
    rintro e w1 ⟨rfl, rfl⟩
    go_wp2_with fail
    go_ret2
    exact ⟨rfl, rfl⟩
end Go.Proofs.YtmolmpgampmolaaGreat
/-
  Walks: the reference's digits and Put.
  Conditions: none.
-/
namespace Go.Proofs.YtmolmpgampmolaaGreat
set_option linter.unusedVariables false
set_option linter.unusedSimpArgs false
open Go.RowKit
theorem natdiv (n j : Nat) : n / 256 ^ j / 256 = n / 256 ^ (j + 1) := by rw [Nat.div_div_eq_div_mul, Nat.pow_succ]
set_option maxHeartbeats 1000000 in
theorem digits_any (m k : Nat) (w : World) (hm : m < 18446744073709551616) (h2 : k ≤ 1000) :
    Calls Tryz.prog 130 #[.int .u64 (m : Int), .int .i64 (k : Int)] w fun e w' =>
      ∃ A1 c1, e = .returned (.tuple #[.slice A1 k c1, .int .u64 ((m / 256 ^ k : Nat) : Int)]) ∧ OB w' w.heap.size A1 k c1 (Oct.lb k m) ∧ Below w.heap.size w w' := by
  go_enter Tryz.func130, Tryz.ntmps130
  go_wp2_with fail
  go_loopw [0, 6, 7] (fun u v i wr => ∃ (j : Nat) (A1 : Option Addr) (c1 : Nat), j ≤ k ∧ i = .int .i64 j ∧ u = .int .u64 ((m / 256 ^ j : Nat) : Int) ∧ v = .slice A1 j c1 ∧ OB wr w.heap.size A1 j c1 (Oct.lb j m) ∧ Below w.heap.size w wr) (fun _ _ i _ => k - (intOf i).toNat)
  case atStart => exact ⟨0, none, 0, Nat.zero_le _, rfl, by simp, rfl, OB.none_ _ _, Below.refl _ _⟩
  case round =>
    obtain ⟨j, A1, c1, hj, rfl, rfl, rfl, hown, hbel⟩ := hrel
    have hv : m / 256 ^ j < 18446744073709551616 := Nat.lt_of_le_of_lt (Nat.div_le_self _ _) hm
    have hd := natdiv m j
    have hb : ((m / 256 ^ j : Nat) : Int) % 256 = ((UInt8.ofNat (m / 256 ^ j)).toNat : Int) := by rw [UInt8.toNat_ofNat']; simp
    generalize hxe : m / 256 ^ j = x at *
    have HD := Lib.hid hd; clear hd
    have HX := Lib.hid hxe; clear hxe
    have HB := Lib.hid hb; clear hb
    by_cases hlt : j < k
    · go_wp2_with (at_builtin; refine wpList_appb_one etb rfl (.tmp 13) (.tmp 17) rfl rfl rfl w.heap.size hown (UInt8.ofNat x) HB.out (by omega) hbel.size ?_; intro A2 c2 w3 h3 hb3 _ _)
      go_roundw
      case rel => exact ⟨j + 1, A2, c2, by omega, by go_num, by rw [← HD.out]; rfl, rfl, by rw [Oct.lb, HX.out]; exact h3, hbel.trans hb3⟩
      case measure => simp [intOf]; omega
    · obtain rfl : j = k := by omega
      go_wp2
      go_ret2
      exact ⟨_, _, by rw [HX.out]; rfl, hown, hbel⟩

set_option maxHeartbeats 400000 in
theorem RPut_arg {A : Option Addr} {n c : Nat} (x m : Int) (w : World) (h : ¬ (1 ≤ x ∧ x ≤ 8)) :
    Calls Tryz.prog 113 #[.slice A n c, .int .i64 x, .int .u64 m] w fun e w' => e = .returned (.tuple #[.slice none 0 0, .int .i64 1]) ∧ w = w' := by
  by_cases h1 : x < 1
  · clear h
    go_enter Tryz.func113, Tryz.ntmps113
    go_wp2_with fail
    go_ret2
    exact ⟨rfl, rfl⟩
  · have h2 : 8 < x := by omega
    clear h
    go_enter Tryz.func113, Tryz.ntmps113
    go_wp2_with fail
    go_ret2
    exact ⟨rfl, rfl⟩

set_option maxHeartbeats 400000 in
theorem RPut_range {A : Option Addr} {n c : Nat} (k m : Nat) (w : World) (h1 : 1 ≤ k) (h2 : k ≤ 8) (hm : m < 18446744073709551616) (h : 256 ^ k ≤ m) :
    Calls Tryz.prog 113 #[.slice A n c, .int .i64 (k : Int), .int .u64 (m : Int)] w fun e w' => e = .returned (.tuple #[.slice none 0 0, .int .i64 9]) ∧ Below w.heap.size w w' := by
  have ht : (((m / 256 ^ k : Nat) : Int) != 0) = true := by
    rw [bne_iff_ne]
    have := Nat.div_pos h (Nat.pow_pos (by decide : 0 < 256))
    omega
  clear h
  go_enter Tryz.func113, Tryz.ntmps113
  go_wp2_with (go_at_call 130; refine (digits_any m k _ hm (by omega)).mono ?_; rintro e w1 ⟨A1, c1, rfl, h1, hb1⟩; generalize m / 256 ^ k = q at *)
  go_ret2
  exact ⟨rfl, hb1⟩

set_option maxHeartbeats 1000000 in
theorem RPut_ok {A : Option Addr} {n c B : Nat} {l : List UInt8} (k m : Nat) (w : World) (hb : RB w B A n c l) (hn : n < 140737488355000) (hB : B ≤ w.heap.size) (h1 : 1 ≤ k) (h2 : k ≤ 8) (hm : m < 18446744073709551616) (h : m < 256 ^ k) :
    Calls Tryz.prog 113 #[.slice A n c, .int .i64 (k : Int), .int .u64 (m : Int)] w fun e w' =>
      ∃ A1 c1, e = .returned (.tuple #[.slice A1 (n + k) c1, .int .i64 0]) ∧ OB w' w.heap.size A1 (n + k) c1 (l ++ Oct.lb k m) ∧ Below w.heap.size w w' := by
  have ht : (((m / 256 ^ k : Nat) : Int) != 0) = false := by
    rw [bne_eq_false_iff_eq, Nat.div_eq_of_lt h]; rfl
  clear h
  go_enter Tryz.func113, Tryz.ntmps113
  go_wp2_with (first
    | (go_at_call 130; refine (digits_any m k _ hm (by omega)).mono ?_; rintro e w1 ⟨A1, c1, rfl, h1, hb1⟩; generalize m / 256 ^ k = q at *)
    | (go_at_call 68; refine (Join_any _ (hb.below (hb1.mono hB)) h1.rb (by omega) (Nat.le_trans hB hb1.size) (Nat.le_refl _)).mono ?_; rintro e w2 ⟨A2, c2, rfl, h2, hb2⟩))
  go_ret2
  exact ⟨_, _, rfl, h2.more hb1.size, below_step hb1 hb2 (Nat.le_refl _)⟩
end Go.Proofs.YtmolmpgampmolaaGreat
/-
  Walks: the reference's Low, Sign, half, PutInt, Get, GetInt.
  Conditions: none.
-/
namespace Go.Proofs.YtmolmpgampmolaaGreat
set_option linter.unusedVariables false
set_option linter.unusedSimpArgs false
open Go.RowKit
set_option maxHeartbeats 1000000 in
theorem RLow_any (n : Nat) (x : Int) (w : World) (hn : n < 18446744073709551616) :
    Calls Tryz.prog 112 #[.int .u64 (n : Int), .int .i64 x] w fun e w' => e = .returned (.tuple #[.int .u64 ((Oct.lowS n x).1 : Int), .int .i64 (Oct.lowS n x).2]) ∧ w = w' := by
  unfold Oct.lowS
  by_cases h : 1 ≤ x ∧ x ≤ 64
  · rw [if_pos h]
    obtain ⟨h1, h2⟩ := h
    obtain ⟨b, rfl⟩ := Int.eq_ofNat_of_zero_le (show 0 ≤ x by omega)
    go_enter Tryz.func112, Tryz.ntmps112
    go_wp2_with fail
    go_loop [0, 6, 7, 8] (fun u o p i => ∃ j : Nat, j ≤ b ∧ i = .int .i64 j ∧ u = .int .u64 ((n / 2 ^ j : Nat) : Int) ∧ o = .int .u64 ((n % 2 ^ j : Nat) : Int) ∧ p = .int .u64 ((2 ^ j % 18446744073709551616 : Nat) : Int)) (fun _ _ _ i => b - (intOf i).toNat)
    case atStart => exact ⟨0, Nat.zero_le _, rfl, by simp, by simp [Nat.mod_one], rfl⟩
    case round =>
      obtain ⟨j, hj, rfl, rfl, rfl, rfl⟩ := hrel
      by_cases hlt : j < b
      · have hp : 0 < 2 ^ j := Nat.pow_pos (by decide)
        have hp2 : 2 ^ j * 2 ≤ 18446744073709551616 := by rw [← Nat.pow_succ]; exact Nat.le_trans (Nat.pow_le_pow_right (by decide) (show j + 1 ≤ 64 by omega)) (by decide)
        have hms := Nat.mod_pow_succ (x := n) (b := 2) (k := j)
        have hds : n / 2 ^ (j + 1) = n / 2 ^ j / 2 := by rw [Nat.pow_succ, Nat.div_div_eq_div_mul]
        have hps : 2 ^ (j + 1) = 2 ^ j * 2 := Nat.pow_succ ..
        have hm : n % 2 ^ j < 2 ^ j := Nat.mod_lt _ hp
        have hd : n / 2 ^ j < 18446744073709551616 := Nat.lt_of_le_of_lt (Nat.div_le_self _ _) hn
        rw [Nat.mod_eq_of_lt (show 2 ^ j < 18446744073709551616 by omega)]
        have HMS := Lib.hid hms; have HDS := Lib.hid hds; have HPS := Lib.hid hps
        clear hms hds hps
        generalize n / 2 ^ j = d at *
        generalize n % 2 ^ j = m at *
        generalize 2 ^ j = q at *
        by_cases h1 : d % 2 = 1
        · have ht : ((d : Int) % 2 == 1) = true := by rw [beq_iff_eq]; omega
          have H1 := Lib.hid h1; clear h1
          go_wp2_with fail
          go_round
          case rel => exact ⟨j + 1, by omega, by go_num, by rw [HDS.out]; rfl, by rw [HMS.out, H1.out, Nat.mul_one]; rfl, by rw [HPS.out, IntKind.wrap_u64]; rfl⟩
          case measure => simp [intOf]; omega
        · have ht : ((d : Int) % 2 == 1) = false := by rw [beq_eq_false_iff_ne]; omega
          have H1 := Lib.hid (show d % 2 = 0 by omega); clear h1
          go_wp2_with fail
          go_round
          case rel => exact ⟨j + 1, by omega, by go_num, by rw [HDS.out]; rfl, by rw [HMS.out, H1.out, Nat.mul_zero, Nat.add_zero], by rw [HPS.out, IntKind.wrap_u64]; rfl⟩
          case measure => simp [intOf]; omega
      · obtain rfl : j = b := by omega
        go_wp2_with fail
        go_ret2
        exact ⟨rfl, rfl⟩
  · rw [if_neg h]
    by_cases h1 : x < 1
    · clear h
      go_enter Tryz.func112, Tryz.ntmps112
      go_wp2_with fail
      go_ret2
      exact ⟨rfl, rfl⟩
    · have h2 : 64 < x := by omega
      clear h
      go_enter Tryz.func112, Tryz.ntmps112
      go_wp2_with fail
      go_ret2
      exact ⟨rfl, rfl⟩
set_option maxHeartbeats 1000000 in
theorem half_any (k : Nat) {x : Int} (hx : x = (k : Int)) (w : World) (h1 : 1 ≤ k) (h2 : k ≤ 7) :
    Calls Tryz.prog 129 #[.int .i64 x] w fun e w' => e = .returned (.int .i64 ((2 ^ (8 * k - 1) : Nat) : Int)) ∧ w = w' := by
  subst hx
  go_enter Tryz.func129, Tryz.ntmps129
  go_wp2_with fail
  go_loop [3, 4] (fun v i => ∃ j : Nat, j ≤ 8 * k - 1 ∧ i = .int .i64 j ∧ v = .int .i64 ((2 ^ j : Nat) : Int)) (fun _ i => 8 * k - 1 - (intOf i).toNat)
  case atStart => exact ⟨0, by omega, rfl, rfl⟩
  case round =>
    obtain ⟨j, hj, rfl, rfl⟩ := hrel
    have hp : 2 ^ j ≤ 2 ^ 55 := Nat.pow_le_pow_right (by decide) (by omega)
    have hps : 2 ^ (j + 1) = 2 * 2 ^ j := by rw [Nat.pow_succ, Nat.mul_comm]
    have HPS := Lib.hid hps; clear hps
    by_cases hlt : j < 8 * k - 1
    · generalize 2 ^ j = q at *
      have hlt' : (j : Int) < 8 * k - 1 := by omega
      go_wp2_with fail
      go_round
      case rel => exact ⟨j + 1, by omega, by go_num, by rw [HPS.out]; rfl⟩
      case measure => simp [intOf]; omega
    · obtain rfl : j = 8 * k - 1 := by omega
      go_wp2_with fail
      go_ret
      exact ⟨rfl, rfl⟩

set_option maxHeartbeats 1000000 in
theorem RGet_ok {A : Option Addr} {n c B : Nat} {l : List UInt8} (k p : Nat) (w : World) (hb : RB w B A n c l) (h1 : 1 ≤ k) (h2 : k ≤ 8) (h : p + k ≤ n) :
    Calls Tryz.prog 126 #[.slice A n c, .int .i64 (p : Int), .int .i64 (k : Int)] w fun e w' => e = .returned (.tuple #[.int .u64 (Oct.le (Oct.cut l p k) : Int), .int .i64 0]) ∧ w = w' := by
  have hn := hb.lt
  have hl := hb.len
  obtain ⟨b, o, rfl, hbB, hc⟩ := hb.at_ (by omega)
  have HL := Lib.hid hl; clear hl
  clear hb
  go_enter Tryz.func126, Tryz.ntmps126
  go_wp2_with fail
  go_loop [8, 9] (fun v i => ∃ j : Nat, j ≤ k ∧ i = .int .i64 ((j : Int) - 1) ∧ v = .int .u64 (Oct.le ((Oct.cut l p k).drop j) : Int)) (fun _ i => (intOf i + 1).toNat)
  case atStart => exact ⟨k, Nat.le_refl _, rfl, by rw [List.drop_of_length_le (by rw [Oct.cut_length _ _ _ (by rw [HL.out]; exact h)]; exact Nat.le_refl _)]; rfl⟩
  case round =>
    obtain ⟨j, hj, rfl, rfl⟩ := hrel
    by_cases h0 : j = 0
    · subst h0
      clear hc
      go_wp2_with fail
      go_ret2
      exact ⟨rfl, rfl⟩
    · obtain ⟨i, rfl⟩ : ∃ i, j = i + 1 := ⟨j - 1, by omega⟩
      have hci := hc (p + i) (by omega)
      have hx := byte_lt (l.getD (p + i) 0)
      have hcl : (Oct.cut l p k).length = k := Oct.cut_length _ _ _ (by rw [HL.out]; exact h)
      have hds : (Oct.cut l p k).drop i = l.getD (p + i) 0 :: (Oct.cut l p k).drop (i + 1) := by
        rw [List.drop_eq_getElem_cons (by omega)]
        congr 1
        have := HL.out
        simp [Oct.cut, List.getD, show p + i < l.length by omega]
      have hlt : Oct.le ((Oct.cut l p k).drop (i + 1)) < 256 ^ 7 := by
        have := Oct.le_lt ((Oct.cut l p k).drop (i + 1))
        rw [List.length_drop, hcl] at this
        exact Nat.lt_of_lt_of_le this (Nat.pow_le_pow_right (by decide) (by omega))
      have hstep : Oct.le ((Oct.cut l p k).drop i) = 256 * Oct.le ((Oct.cut l p k).drop (i + 1)) + (l.getD (p + i) 0).toNat := by rw [hds, Oct.le]; omega
      generalize l.getD (p + i) 0 = x at *
      generalize Oct.le ((Oct.cut l p k).drop (i + 1)) = v at *
      have HS := Lib.hid hstep
      clear hc hds hstep hcl
      have e0 : ((i + 1 : Nat) : Int) - 1 = (i : Int) := by omega
      rw [e0]
      clear e0
      go_wp2_with fail
      go_round
      case rel => exact ⟨i, by omega, rfl, by rw [HS.out]; rfl⟩
      case measure => simp [intOf] <;> omega
set_option maxHeartbeats 400000 in
theorem RGet_any {A : Option Addr} {n c B : Nat} {l : List UInt8} (p x : Int) (w : World) (hb : RB w B A n c l) :
    Calls Tryz.prog 126 #[.slice A n c, .int .i64 p, .int .i64 x] w fun e w' => e = .returned (.tuple #[.int .u64 ((Oct.getS l p x).1 : Int), .int .i64 (Oct.getS l p x).2]) ∧ w = w' := by
  have hl := hb.len
  have hn := hb.lt
  unfold Oct.getS
  by_cases h : 1 ≤ x ∧ x ≤ 8 ∧ 0 ≤ p ∧ p ≤ (l.length : Int)
  · rw [if_pos h]
    obtain ⟨h1, h2, h3, h4⟩ := h
    by_cases hs : (l.length : Int) - p < x
    · rw [if_pos hs]
      have hs' : (n : Int) - p < x := by omega
      have h4' : p ≤ (n : Int) := by omega
      clear hs h4 hl
      go_enter Tryz.func126, Tryz.ntmps126
      go_wp2_with fail
      go_ret2
      exact ⟨rfl, rfl⟩
    · rw [if_neg hs]
      obtain ⟨k, rfl⟩ := Int.eq_ofNat_of_zero_le (show 0 ≤ x by omega)
      obtain ⟨q, rfl⟩ := Int.eq_ofNat_of_zero_le h3
      exact RGet_ok k q w hb (by omega) (by omega) (by omega)
  · rw [if_neg h]
    by_cases h1 : x < 1
    · clear h hl
      go_enter Tryz.func126, Tryz.ntmps126
      go_wp2_with fail
      go_ret2
      exact ⟨rfl, rfl⟩
    by_cases h2 : 8 < x
    · clear h hl
      go_enter Tryz.func126, Tryz.ntmps126
      go_wp2_with fail
      go_ret2
      exact ⟨rfl, rfl⟩
    by_cases h3 : p < 0
    · clear h hl
      go_enter Tryz.func126, Tryz.ntmps126
      go_wp2_with fail
      go_ret2
      exact ⟨rfl, rfl⟩
    · have h4 : (n : Int) < p := by omega
      clear h hl
      go_enter Tryz.func126, Tryz.ntmps126
      go_wp2_with fail
      go_ret2
      exact ⟨rfl, rfl⟩
set_option maxHeartbeats 400000 in
theorem RPut_any {A : Option Addr} {n c B : Nat} {l : List UInt8} (x : Int) (m : Nat) (w : World) (hb : RB w B A n c l) (hn : n < 140737488355000) (hB : B ≤ w.heap.size) (hm : m < 18446744073709551616) :
    Calls Tryz.prog 113 #[.slice A n c, .int .i64 x, .int .u64 (m : Int)] w fun e w' =>
      ∃ A1 c1, e = .returned (.tuple #[.slice A1 (Oct.putS l x m).1.length c1, .int .i64 (Oct.putS l x m).2]) ∧ OB w' w.heap.size A1 (Oct.putS l x m).1.length c1 (Oct.putS l x m).1 ∧ Below w.heap.size w w' := by
  unfold Oct.putS
  by_cases h : 1 ≤ x ∧ x ≤ 8
  · obtain ⟨k, rfl⟩ := Int.eq_ofNat_of_zero_le (show 0 ≤ x by omega)
    rw [if_pos h, Int.toNat_natCast]
    by_cases hk : 256 ^ k ≤ m
    · rw [if_pos hk]
      exact (RPut_range k m w (by omega) (by omega) hm hk).mono fun e w' ⟨he, hw⟩ => ⟨none, 0, he, OB.none_ _ _, hw⟩
    · have hl : (l ++ Oct.lb k m).length = n + k := by rw [List.length_append, Oct.lb_length, hb.len]
      rw [if_neg hk]
      dsimp only
      rw [hl]
      exact RPut_ok k m w hb hn hB (by omega) (by omega) hm (by omega)
  · rw [if_neg h]
    exact (RPut_arg x m w h).mono fun e w' ⟨he, hw⟩ => by subst hw; exact ⟨none, 0, he, OB.none_ _ _, Below.refl _ _⟩
theorem sgn_low (n b : Nat) (h : n < 2 ^ b) : Oct.sgn n b = if n < 2 ^ (b - 1) then (n : Int) else (n : Int) - ((2 ^ b : Nat) : Int) := by
  unfold Oct.sgn; rw [Nat.mod_eq_of_lt h, Oct.pow_int]
theorem getS_fits (l : List UInt8) (p : Int) (k : Nat) : (Oct.getS l p k).1 < 2 ^ (8 * k) := by
  unfold Oct.getS
  rw [Nat.pow_mul]
  split
  · split
    · exact Nat.pow_pos (by decide)
    · rename_i h1 h2
      have h3 := Oct.le_lt (Oct.cut l p.toNat ((k : Nat) : Int).toNat)
      rwa [Oct.cut_length _ _ _ (by omega)] at h3
  · exact Nat.pow_pos (by decide)
theorem getS_ok' {l : List UInt8} {p x : Int} (h : (Oct.getS l p x).2 = 0) : 1 ≤ x ∧ x ≤ 8 := by
  unfold Oct.getS at h
  split at h
  · rename_i h1; exact ⟨h1.1, h1.2.1⟩
  · simp at h
set_option maxHeartbeats 1000000 in
theorem RGetInt_any {A : Option Addr} {n c B : Nat} {l : List UInt8} (p x : Int) (w : World) (hb : RB w B A n c l) :
    Calls Tryz.prog 106 #[.slice A n c, .int .i64 p, .int .i64 x] w fun e w' => e = .returned (.tuple #[.int .i64 (Oct.getIntS l p x).1, .int .i64 (Oct.getIntS l p x).2]) ∧ w = w' := by
  have hok := getS_ok' (l := l) (p := p) (x := x)
  have hg := RGet_any p x w hb
  have hft := getS_fits l p x.toNat
  unfold Oct.getIntS
  by_cases he : (Oct.getS l p x).2 = 0
  · rw [if_pos he]
    obtain ⟨h1, h2⟩ := hok he
    obtain ⟨k, rfl⟩ := Int.eq_ofNat_of_zero_le (show 0 ≤ x by omega)
    rw [Int.toNat_natCast] at *
    clear hok
    generalize Oct.getS l p k = y at *
    obtain ⟨y, ye⟩ := y
    dsimp only at *
    subst he
    have HG := Lib.hid hg; clear hg
    have hsg := sgn_low y (8 * k) hft
    have h64 : 2 ^ (8 * k) ≤ 18446744073709551616 := Nat.le_trans (Nat.pow_le_pow_right (by decide) (show 8 * k ≤ 64 by omega)) (by decide)
    have hh := Oct.two_half (8 * k) (by omega)
    by_cases h8 : k = 8
    · subst h8
      have hv : wrap64 (y : Int) = Oct.sgn y (8 * 8) := by
        rw [hsg]
        have e1 : 2 ^ (8 * 8 - 1) = 9223372036854775808 := by decide
        have e2 : 2 ^ (8 * 8) = 18446744073709551616 := by decide
        rw [e1, e2]
        rw [e2] at hft
        unfold wrap64
        split <;> omega
      have HV := Lib.hid hv
      clear hv hsg hh hft
      have hk8 : ((8 : Nat) : Int) = 8 := rfl
      go_enter Tryz.func106, Tryz.ntmps106
      go_wp2_with fail
      refine HG.out.mono ?_
      rintro e w1 ⟨rfl, rfl⟩
      go_wp2_with fail
      go_ret2
      exact ⟨by rw [← HV.out]; rfl, rfl⟩
    · have hk8 : ((k : Int) == 8) = false := by rw [beq_eq_false_iff_ne]; omega
      have hk7 : k ≤ 7 := by omega
      have hp55 : 2 ^ (8 * k - 1) ≤ 2 ^ 55 := Nat.pow_le_pow_right (by decide) (by omega)
      clear h8
      rw [hh] at hft hsg h64
      by_cases hlow : y < 2 ^ (8 * k - 1)
      · rw [if_pos hlow] at hsg
        have HE := Lib.hid hsg; have HH := Lib.hid hh
        clear hsg hh
        have hhalf := half_any k (x := (k : Int)) rfl w (by omega) hk7
        generalize 2 ^ (8 * k - 1) = q at *
        have HF := Lib.hid hhalf; clear hhalf
        have hlow' : (y : Int) < (q : Int) := by omega
        go_enter Tryz.func106, Tryz.ntmps106
        go_wp2_with fail
        refine HG.out.mono ?_
        rintro e w1 ⟨rfl, rfl⟩
        go_wp2_with fail
        refine HF.out.mono ?_
        rintro e w1 ⟨rfl, rfl⟩
        go_wp2_with fail
        go_ret2
        exact ⟨by rw [HE.out]; rfl, rfl⟩
      · rw [if_neg hlow] at hsg
        have HE := Lib.hid hsg; have HH := Lib.hid hh
        clear hsg hh
        have hhalf := half_any k (x := (k : Int)) rfl w (by omega) hk7
        generalize 2 ^ (8 * k - 1) = q at *
        have HF := Lib.hid hhalf; clear hhalf
        have hlow' : (q : Int) ≤ (y : Int) := by omega
        go_enter Tryz.func106, Tryz.ntmps106
        go_wp2_with fail
        refine HG.out.mono ?_
        rintro e w1 ⟨rfl, rfl⟩
        go_wp2_with fail
        refine HF.out.mono ?_
        rintro e w1 ⟨rfl, rfl⟩
        go_wp2_with fail
        refine HF.out.mono ?_
        rintro e w1 ⟨rfl, rfl⟩
        go_wp2_with fail
        refine HF.out.mono ?_
        rintro e w1 ⟨rfl, rfl⟩
        go_wp2_with fail
        go_ret2
        exact ⟨by rw [HE.out]; exact congrArg (fun z => Ending.returned (.tuple #[.int .i64 z, .int .i64 0])) (by omega), rfl⟩
  · rw [if_neg he]
    clear hok hft
    generalize Oct.getS l p x = y at *
    obtain ⟨y, ye⟩ := y
    dsimp only at *
    have ht : (ye != 0) = true := by rw [bne_iff_ne]; exact he
    have HG := Lib.hid hg; clear hg he
    go_enter Tryz.func106, Tryz.ntmps106
    go_wp2_with fail
    refine HG.out.mono ?_
    rintro e w1 ⟨rfl, rfl⟩
    go_wp2_with fail
    go_ret2
    exact ⟨rfl, rfl⟩

end Go.Proofs.YtmolmpgampmolaaGreat
/-
  Walks: types.Encode, Decode, and the reference's.
  Conditions: none.
-/
namespace Go.Proofs.YtmolmpgampmolaaGreat
set_option linter.unusedVariables false
set_option linter.unusedSimpArgs false
open Go.RowKit
/-- Bytes and a code are answered; the bytes are the call's own. -/
def BP (p : List UInt8 × Int) (w : World) (e : Ending) (w' : World) : Prop := ∃ A1 c1, e = .returned (.tuple #[.slice A1 p.1.length c1, .int .i64 p.2]) ∧ OB w' w.heap.size A1 p.1.length c1 p.1 ∧ Below w.heap.size w w'
theorem bp_bad {p : List UInt8 × Int} {w w' : World} {x : Int} (h : p = ([], x)) (hb : Below w.heap.size w w') : BP p w (.returned (.tuple #[.slice none 0 0, .int .i64 x])) w' := by
  subst h
  exact ⟨none, 0, rfl, OB.none_ _ _, hb⟩
theorem bp_ok {p : List UInt8 × Int} {w w' : World} {A : Option Addr} {n c : Nat} {l : List UInt8} {x : Int} (h : p = (l, x)) (hn : l.length = n) (ho : OB w' w.heap.size A n c l) (hb : Below w.heap.size w w') : BP p w (.returned (.tuple #[.slice A n c, .int .i64 x])) w' := by
  subst h hn
  exact ⟨A, c, rfl, ho, hb⟩
theorem kd_num (t : Int) : ((Ty.kd t).bits = 0 ∧ (Ty.kd t).size = 0 ∧ (Ty.kd t).sgn = false) ∨ ((Ty.kd t).sgn = true ∧ (Ty.kd t).bits = 8 * (Ty.kd t).size ∧ 1 ≤ (Ty.kd t).size ∧ (Ty.kd t).size ≤ 8) ∨ ((Ty.kd t).sgn = false ∧ 1 ≤ (Ty.kd t).bits ∧ (Ty.kd t).bits ≤ 8 * (Ty.kd t).size ∧ 1 ≤ (Ty.kd t).size ∧ (Ty.kd t).size ≤ 4 ∧ ((Ty.kd t).bits = 8 * (Ty.kd t).size ∨ ((Ty.kd t).bits = 1 ∧ t = 1))) := by
  rcases Ty.kd_cases t with h | ⟨_, h⟩
  · rcases h with rfl | rfl | rfl | rfl | rfl | rfl | rfl | rfl | rfl | rfl | rfl <;> decide
  · rw [h]; exact .inl ⟨rfl, rfl, rfl⟩
theorem enc_type {t n : Int} (h : (Ty.limS t).2.2 = false) : Ty.encS t n = ([], 15) := by unfold Ty.encS; rw [if_pos h]
theorem enc_range {t n : Int} (h : (Ty.limS t).2.2 = true) (hr : n < (Ty.limS t).1 ∨ (Ty.limS t).2.1 < n) : Ty.encS t n = ([], 9) := by unfold Ty.encS; rw [if_neg (by rw [h]; decide), if_pos hr]
theorem enc_ok {t n : Int} (h : (Ty.limS t).2.2 = true) (hr : ¬ (n < (Ty.limS t).1 ∨ (Ty.limS t).2.1 < n)) : Ty.encS t n = (Oct.lb (Ty.kd t).size (n % 18446744073709551616).toNat, 0) := by unfold Ty.encS; rw [if_neg (by rw [h]; decide), if_neg hr]
theorem lim_ok {t : Int} (h : (Ty.limS t).2.2 = true) : ((Ty.kd t).sgn = true ∧ 1 ≤ (Ty.kd t).size ∧ (Ty.kd t).size ≤ 8 ∧ (Ty.limS t).1 = -((2 ^ (8 * (Ty.kd t).size - 1) : Nat) : Int) ∧ (Ty.limS t).2.1 = ((2 ^ (8 * (Ty.kd t).size - 1) : Nat) : Int) - 1) ∨
    ((Ty.kd t).sgn = false ∧ 1 ≤ (Ty.kd t).size ∧ (Ty.kd t).size ≤ 4 ∧ (Ty.limS t).1 = 0 ∧ (Ty.limS t).2.1 = ((2 ^ (Ty.kd t).bits : Nat) : Int) - 1 ∧ (Ty.kd t).bits ≤ 8 * (Ty.kd t).size) := by
  rcases kd_num t with ⟨h1, _⟩ | ⟨h1, h2, h3, h4⟩ | ⟨h1, h2, h3, h4, h5, _⟩
  · unfold Ty.limS at h; rw [if_pos h1] at h; cases h
  · left
    refine ⟨h1, h3, h4, ?_, ?_⟩ <;> (unfold Ty.limS; rw [if_neg (by omega), if_pos h1, h2])
  · right
    refine ⟨h1, h4, h5, ?_, ?_, h3⟩ <;> (unfold Ty.limS; rw [if_neg (by omega), if_neg (by rw [h1]; decide)])
theorem pow_256 (k : Nat) : 256 ^ k = 2 ^ (8 * k) := by rw [Nat.pow_mul]
set_option maxRecDepth 100000 in
set_option maxHeartbeats 4000000 in
theorem Encode_any (t n : Int) (w : World) (h1 : -9223372036854775808 ≤ n) (h2 : n ≤ 9223372036854775807) : Calls Tryz.prog 76 #[.int .i64 t, .int .i64 n] w (BP (Ty.encS t n) w) := by
  have C := Limits_any t w
  have ht := enc_type (t := t) (n := n)
  have hr := enc_range (t := t) (n := n)
  have ho := enc_ok (t := t) (n := n)
  have hl := lim_ok (t := t)
  generalize Ty.limS t = L at *
  obtain ⟨lo, hi, ok⟩ := L
  dsimp only at ht hr ho hl
  replace C := Lib.hid C
  cases ok with
  | false =>
    have HT := Lib.hid (ht rfl)
    clear ht hr ho hl
    go_enter Tryz.func76, Tryz.ntmps76
    go_wp2_with fail
    refine (C.out).mono ?_
    rintro e w1 ⟨rfl, b1⟩
    go_wp2_with fail
    go_ret2
    exact bp_bad HT.out b1
  | true =>
    by_cases hlo : n < lo
    · have HT := Lib.hid (hr rfl (.inl hlo))
      clear ht hr ho hl
      go_enter Tryz.func76, Tryz.ntmps76
      go_wp2_with fail
      refine (C.out).mono ?_
      rintro e w1 ⟨rfl, b1⟩
      go_wp2_with fail
      go_ret2
      exact bp_bad HT.out b1
    · by_cases hhi : hi < n
      · have HT := Lib.hid (hr rfl (.inr hhi))
        clear ht hr ho hl
        go_enter Tryz.func76, Tryz.ntmps76
        go_wp2_with fail
        refine (C.out).mono ?_
        rintro e w1 ⟨rfl, b1⟩
        go_wp2_with fail
        go_ret2
        exact bp_bad HT.out b1
      · have HT := Lib.hid (ho rfl (by omega))
        have hl := hl rfl
        clear ht hr ho
        have C1 := fun w => TSigned_any t w
        have C2 := fun w => TSize_any t w
        generalize (Ty.kd t).sgn = sg at *
        generalize (Ty.kd t).size = sz at *
        generalize (Ty.kd t).bits = bt at *
        replace C1 := Lib.hid C1; replace C2 := Lib.hid C2
        rcases hl with ⟨rfl, a1, a2, a3, a4⟩ | ⟨rfl, a1, a2, a3, a4, a5⟩
        · have C3 := fun (w : World) => PutInt_any (sz : Int) n w (RB.none_ (B := 0)) (by omega) (Nat.zero_le _) h1 h2
          have hp : Oct.putIntS [] (sz : Int) n = (Oct.lb sz (n % 18446744073709551616).toNat, 0) := by
            unfold Oct.putIntS
            rw [if_pos (by omega), Int.toNat_natCast, if_pos (by omega)]
            rfl
          rw [hp] at C3
          replace C3 := Lib.hid C3
          clear hp a3 a4
          go_enter Tryz.func76, Tryz.ntmps76
          go_wp2_with fail
          refine (C.out).mono ?_
          rintro e w1 ⟨rfl, b1⟩
          go_wp2_with fail
          refine (C1.out _).mono ?_
          rintro e w2 ⟨rfl, b2⟩
          have d2 := below_step b1 b2 (Nat.le_refl _)
          go_wp2_with fail
          refine (C2.out _).mono ?_
          rintro e w3 ⟨rfl, b3⟩
          have d3 := below_step d2 b3 (Nat.le_refl _)
          go_wp2_with fail
          refine (C3.out _).mono ?_
          rintro e w4 ⟨A4, c4, rfl, o4, b4⟩
          go_wp2_with fail
          go_ret2
          exact bp_ok HT.out rfl (o4.more d3.size) (below_step d3 b4 (Nat.le_refl _))
        · obtain ⟨N, rfl⟩ : ∃ N : Nat, n = (N : Int) := ⟨n.toNat, by omega⟩
          have hN : N < 256 ^ sz := by
            rw [pow_256]
            have := Nat.pow_le_pow_right (show 0 < 2 by decide) a5
            omega
          have C3 := fun (w : World) => Put_any (sz : Int) N w (RB.none_ (B := 0)) (by omega) (Nat.zero_le _) (by omega)
          have hp : Oct.putS [] (sz : Int) N = (Oct.lb sz ((N : Int) % 18446744073709551616).toNat, 0) := by
            unfold Oct.putS
            rw [if_pos (by omega), Int.toNat_natCast, if_neg (by omega), show ((N : Int) % 18446744073709551616).toNat = N by omega]
            rfl
          rw [hp] at C3
          replace C3 := Lib.hid C3
          clear hp a3 a4 hN
          go_enter Tryz.func76, Tryz.ntmps76
          go_wp2_with fail
          refine (C.out).mono ?_
          rintro e w1 ⟨rfl, b1⟩
          go_wp2_with fail
          refine (C1.out _).mono ?_
          rintro e w2 ⟨rfl, b2⟩
          have d2 := below_step b1 b2 (Nat.le_refl _)
          go_wp2_with fail
          refine (C2.out _).mono ?_
          rintro e w3 ⟨rfl, b3⟩
          have d3 := below_step d2 b3 (Nat.le_refl _)
          go_wp2_with fail
          refine (C3.out _).mono ?_
          rintro e w4 ⟨A4, c4, rfl, o4, b4⟩
          go_wp2_with fail
          go_ret2
          exact bp_ok HT.out rfl (o4.more d3.size) (below_step d3 b4 (Nat.le_refl _))
set_option maxRecDepth 100000 in
set_option maxHeartbeats 4000000 in
theorem REncode_any (t n : Int) (w : World) (h1 : -9223372036854775808 ≤ n) (h2 : n ≤ 9223372036854775807) : Calls Tryz.prog 60 #[.int .i64 t, .int .i64 n] w (BP (Ty.encS t n) w) := by
  have C := RLimits_any t w
  have ht := enc_type (t := t) (n := n)
  have hr := enc_range (t := t) (n := n)
  have ho := enc_ok (t := t) (n := n)
  have hl := lim_ok (t := t)
  generalize Ty.limS t = L at *
  obtain ⟨lo, hi, ok⟩ := L
  dsimp only at ht hr ho hl C
  replace C := Lib.hid C
  cases ok with
  | false =>
    have HT := Lib.hid (ht rfl)
    clear ht hr ho hl
    go_enter Tryz.func60, Tryz.ntmps60
    go_wp2_with fail
    refine (C.out).mono ?_
    rintro e _ ⟨rfl, rfl⟩
    go_wp2_with fail
    go_ret2
    exact bp_bad HT.out (Below.refl _ _)
  | true =>
    by_cases hlo : n < lo
    · have HT := Lib.hid (hr rfl (.inl hlo))
      clear ht hr ho hl
      go_enter Tryz.func60, Tryz.ntmps60
      go_wp2_with fail
      refine (C.out).mono ?_
      rintro e _ ⟨rfl, rfl⟩
      go_wp2_with fail
      go_ret2
      exact bp_bad HT.out (Below.refl _ _)
    · by_cases hhi : hi < n
      · have HT := Lib.hid (hr rfl (.inr hhi))
        clear ht hr ho hl
        go_enter Tryz.func60, Tryz.ntmps60
        go_wp2_with fail
        refine (C.out).mono ?_
        rintro e _ ⟨rfl, rfl⟩
        go_wp2_with fail
        go_ret2
        exact bp_bad HT.out (Below.refl _ _)
      · have HT := Lib.hid (ho rfl (by omega))
        have hz : 1 ≤ (Ty.kd t).size ∧ (Ty.kd t).size ≤ 8 := by rcases hl rfl with ⟨_, a1, a2, _⟩ | ⟨_, a1, a2, _⟩ <;> omega
        clear ht hr ho hl
        have C2 := fun w => RSize_any t w
        generalize (Ty.kd t).size = sz at *
        obtain ⟨a1, a2⟩ := hz
        obtain ⟨N, hN⟩ : ∃ N : Nat, n % 18446744073709551616 = (N : Int) := ⟨(n % 18446744073709551616).toNat, by omega⟩
        have hN2 : N < 18446744073709551616 := by omega
        have C3 := fun (w : World) => RLow_any N (8 * (sz : Int)) w hN2
        have hlow : Oct.lowS N (8 * (sz : Int)) = (N % 256 ^ sz, 0) := by
          unfold Oct.lowS
          rw [if_pos (by omega), show (8 * (sz : Int)).toNat = 8 * sz by omega, pow_256]
        rw [hlow] at C3
        have hm : N % 256 ^ sz < 256 ^ sz := Nat.mod_lt _ (Nat.pow_pos (by decide))
        have hm2 : N % 256 ^ sz ≤ N := Nat.mod_le _ _
        have C4 := fun (w : World) => RPut_any (sz : Int) (N % 256 ^ sz) w (RB.none_ (B := 0)) (by omega) (Nat.zero_le _) (by omega)
        have hp : Oct.putS [] (sz : Int) (N % 256 ^ sz) = (Oct.lb sz N, 0) := by
          unfold Oct.putS
          rw [if_pos (by omega), Int.toNat_natCast, if_neg (by omega), Oct.lb_mod _ _ _ (Nat.le_refl _)]
          rfl
        rw [hp] at C4
        rw [hN, Int.toNat_natCast] at HT
        generalize N % 256 ^ sz = M at *
        have HN := Lib.hid hN
        replace C2 := Lib.hid C2; replace C3 := Lib.hid C3; replace C4 := Lib.hid C4
        have ew : IntKind.u64.wrap n = (N : Int) := by rw [IntKind.wrap_u64]; exact HN.out
        clear hp hlow hm hm2 hN
        go_enter Tryz.func60, Tryz.ntmps60
        go_wp2_with fail
        refine (C.out).mono ?_
        rintro e _ ⟨rfl, rfl⟩
        go_wp2_with fail
        refine (C2.out _).mono ?_
        rintro e _ ⟨rfl, rfl⟩
        go_wp2_with fail
        refine (C3.out _).mono ?_
        rintro e _ ⟨rfl, rfl⟩
        go_wp2_with fail
        refine (C2.out _).mono ?_
        rintro e _ ⟨rfl, rfl⟩
        go_wp2_with fail
        refine (C4.out _).mono ?_
        rintro e w4 ⟨A4, c4, rfl, o4, b4⟩
        go_wp2_with fail
        go_ret2
        exact bp_ok HT.out rfl o4 b4
end Go.Proofs.YtmolmpgampmolaaGreat
