/-
  Walks: the reference's Low, Sign, half, PutInt, Get, GetInt.
  Conditions: none.
-/
import Derived.Test.YtnppihlalhaldaaOctPure
import Derived.Test.YtnppihlalhaldaaOctRefPut
namespace Go.Proofs.Ytnppihlalhaldaa
set_option linter.unusedVariables false
set_option linter.unusedSimpArgs false
open Go.RowKit
set_option maxHeartbeats 1000000 in
theorem RLow_any (n : Nat) (x : Int) (w : World) (hn : n < 18446744073709551616) :
    Calls Try.prog 63 #[.int .u64 (n : Int), .int .i64 x] w fun e w' => e = .returned (.tuple #[.int .u64 ((Oct.lowS n x).1 : Int), .int .i64 (Oct.lowS n x).2]) ∧ w = w' := by
  unfold Oct.lowS
  by_cases h : 1 ≤ x ∧ x ≤ 64
  · rw [if_pos h]
    obtain ⟨h1, h2⟩ := h
    obtain ⟨b, rfl⟩ := Int.eq_ofNat_of_zero_le (show 0 ≤ x by omega)
    go_enter Try.func63, Try.ntmps63
    go_wp2_with fail
    go_loop [0, 6, 7, 8] (fun u o p i => ∃ j : Nat, j ≤ b ∧ i = .int .i64 j ∧ u = .int .u64 ((n / 2 ^ j : Nat) : Int) ∧ o = .int .u64 ((n % 2 ^ j : Nat) : Int) ∧ p = .int .u64 ((2 ^ j % 18446744073709551616 : Nat) : Int)) (fun _ _ _ i => b - (intOf i).toNat)
    case atStart => exact ⟨0, Nat.zero_le _, rfl, by simp, by simp [Nat.mod_one], rfl⟩
    case round =>
      obtain ⟨j, hj, rfl, rfl, rfl, rfl⟩ := hrel
      by_cases hlt : j < b
      · have hp : 0 < 2 ^ j := Nat.pow_pos (by decide)
        have hp2 : 2 ^ j * 2 ≤ 18446744073709551616 := by rw [← Nat.pow_succ]; exact Nat.le_trans (Nat.pow_le_pow_right (by decide) (show j + 1 ≤ 64 by omega)) (by decide)
        have hms := Nat.mod_pow_succ (x := n) (b := 2) (k := j)
        have hds : n / 2 ^ (j + 1) = n / 2 ^ j / 2 := by rw [Nat.pow_succ, Nat.div_div_eq_div_mul]
        have hps : 2 ^ (j + 1) = 2 ^ j * 2 := Nat.pow_succ ..
        have hm : n % 2 ^ j < 2 ^ j := Nat.mod_lt _ hp
        have hd : n / 2 ^ j < 18446744073709551616 := Nat.lt_of_le_of_lt (Nat.div_le_self _ _) hn
        rw [Nat.mod_eq_of_lt (show 2 ^ j < 18446744073709551616 by omega)]
        have HMS := Lib.hid hms; have HDS := Lib.hid hds; have HPS := Lib.hid hps
        clear hms hds hps
        generalize n / 2 ^ j = d at *
        generalize n % 2 ^ j = m at *
        generalize 2 ^ j = q at *
        by_cases h1 : d % 2 = 1
        · have ht : ((d : Int) % 2 == 1) = true := by rw [beq_iff_eq]; omega
          have H1 := Lib.hid h1; clear h1
          go_wp2_with fail
          go_round
          case rel => exact ⟨j + 1, by omega, by go_num, by rw [HDS.out]; rfl, by rw [HMS.out, H1.out, Nat.mul_one]; rfl, by rw [HPS.out, IntKind.wrap_u64]; rfl⟩
          case measure => simp [intOf]; omega
        · have ht : ((d : Int) % 2 == 1) = false := by rw [beq_eq_false_iff_ne]; omega
          have H1 := Lib.hid (show d % 2 = 0 by omega); clear h1
          go_wp2_with fail
          go_round
          case rel => exact ⟨j + 1, by omega, by go_num, by rw [HDS.out]; rfl, by rw [HMS.out, H1.out, Nat.mul_zero, Nat.add_zero], by rw [HPS.out, IntKind.wrap_u64]; rfl⟩
          case measure => simp [intOf]; omega
      · obtain rfl : j = b := by omega
        go_wp2_with fail
        go_ret2
        exact ⟨rfl, rfl⟩
  · rw [if_neg h]
    by_cases h1 : x < 1
    · clear h
      go_enter Try.func63, Try.ntmps63
      go_wp2_with fail
      go_ret2
      exact ⟨rfl, rfl⟩
    · have h2 : 64 < x := by omega
      clear h
      go_enter Try.func63, Try.ntmps63
      go_wp2_with fail
      go_ret2
      exact ⟨rfl, rfl⟩
set_option maxHeartbeats 1000000 in
theorem half_any (k : Nat) {x : Int} (hx : x = (k : Int)) (w : World) (h1 : 1 ≤ k) (h2 : k ≤ 7) :
    Calls Try.prog 50 #[.int .i64 x] w fun e w' => e = .returned (.int .i64 ((2 ^ (8 * k - 1) : Nat) : Int)) ∧ w = w' := by
  subst hx
  go_enter Try.func50, Try.ntmps50
  go_wp2_with fail
  go_loop [3, 4] (fun v i => ∃ j : Nat, j ≤ 8 * k - 1 ∧ i = .int .i64 j ∧ v = .int .i64 ((2 ^ j : Nat) : Int)) (fun _ i => 8 * k - 1 - (intOf i).toNat)
  case atStart => exact ⟨0, by omega, rfl, rfl⟩
  case round =>
    obtain ⟨j, hj, rfl, rfl⟩ := hrel
    have hp : 2 ^ j ≤ 2 ^ 55 := Nat.pow_le_pow_right (by decide) (by omega)
    have hps : 2 ^ (j + 1) = 2 * 2 ^ j := by rw [Nat.pow_succ, Nat.mul_comm]
    have HPS := Lib.hid hps; clear hps
    by_cases hlt : j < 8 * k - 1
    · generalize 2 ^ j = q at *
      have hlt' : (j : Int) < 8 * k - 1 := by omega
      go_wp2_with fail
      go_round
      case rel => exact ⟨j + 1, by omega, by go_num, by rw [HPS.out]; rfl⟩
      case measure => simp [intOf]; omega
    · obtain rfl : j = 8 * k - 1 := by omega
      go_wp2_with fail
      go_ret
      exact ⟨rfl, rfl⟩

set_option maxHeartbeats 1000000 in
theorem RGet_ok {A : Option Addr} {n c B : Nat} {l : List UInt8} (k p : Nat) (w : World) (hb : RB w B A n c l) (h1 : 1 ≤ k) (h2 : k ≤ 8) (h : p + k ≤ n) :
    Calls Try.prog 49 #[.slice A n c, .int .i64 (p : Int), .int .i64 (k : Int)] w fun e w' => e = .returned (.tuple #[.int .u64 (Oct.le (Oct.cut l p k) : Int), .int .i64 0]) ∧ w = w' := by
  have hn := hb.lt
  have hl := hb.len
  obtain ⟨b, o, rfl, hbB, hc⟩ := hb.at_ (by omega)
  have HL := Lib.hid hl; clear hl
  clear hb
  go_enter Try.func49, Try.ntmps49
  go_wp2_with fail
  go_loop [8, 9] (fun v i => ∃ j : Nat, j ≤ k ∧ i = .int .i64 ((j : Int) - 1) ∧ v = .int .u64 (Oct.le ((Oct.cut l p k).drop j) : Int)) (fun _ i => (intOf i + 1).toNat)
  case atStart => exact ⟨k, Nat.le_refl _, rfl, by rw [List.drop_of_length_le (by rw [Oct.cut_length _ _ _ (by rw [HL.out]; exact h)]; exact Nat.le_refl _)]; rfl⟩
  case round =>
    obtain ⟨j, hj, rfl, rfl⟩ := hrel
    by_cases h0 : j = 0
    · subst h0
      clear hc
      go_wp2_with fail
      go_ret2
      exact ⟨rfl, rfl⟩
    · obtain ⟨i, rfl⟩ : ∃ i, j = i + 1 := ⟨j - 1, by omega⟩
      have hci := hc (p + i) (by omega)
      have hx := byte_lt (l.getD (p + i) 0)
      have hcl : (Oct.cut l p k).length = k := Oct.cut_length _ _ _ (by rw [HL.out]; exact h)
      have hds : (Oct.cut l p k).drop i = l.getD (p + i) 0 :: (Oct.cut l p k).drop (i + 1) := by
        rw [List.drop_eq_getElem_cons (by omega)]
        congr 1
        have := HL.out
        simp [Oct.cut, List.getD, show p + i < l.length by omega]
      have hlt : Oct.le ((Oct.cut l p k).drop (i + 1)) < 256 ^ 7 := by
        have := Oct.le_lt ((Oct.cut l p k).drop (i + 1))
        rw [List.length_drop, hcl] at this
        exact Nat.lt_of_lt_of_le this (Nat.pow_le_pow_right (by decide) (by omega))
      have hstep : Oct.le ((Oct.cut l p k).drop i) = 256 * Oct.le ((Oct.cut l p k).drop (i + 1)) + (l.getD (p + i) 0).toNat := by rw [hds, Oct.le]; omega
      generalize l.getD (p + i) 0 = x at *
      generalize Oct.le ((Oct.cut l p k).drop (i + 1)) = v at *
      have HS := Lib.hid hstep
      clear hc hds hstep hcl
      have e0 : ((i + 1 : Nat) : Int) - 1 = (i : Int) := by omega
      rw [e0]
      clear e0
      go_wp2_with fail
      go_round
      case rel => exact ⟨i, by omega, rfl, by rw [HS.out]; rfl⟩
      case measure => simp [intOf] <;> omega
set_option maxHeartbeats 400000 in
theorem RGet_any {A : Option Addr} {n c B : Nat} {l : List UInt8} (p x : Int) (w : World) (hb : RB w B A n c l) :
    Calls Try.prog 49 #[.slice A n c, .int .i64 p, .int .i64 x] w fun e w' => e = .returned (.tuple #[.int .u64 ((Oct.getS l p x).1 : Int), .int .i64 (Oct.getS l p x).2]) ∧ w = w' := by
  have hl := hb.len
  have hn := hb.lt
  unfold Oct.getS
  by_cases h : 1 ≤ x ∧ x ≤ 8 ∧ 0 ≤ p ∧ p ≤ (l.length : Int)
  · rw [if_pos h]
    obtain ⟨h1, h2, h3, h4⟩ := h
    by_cases hs : (l.length : Int) - p < x
    · rw [if_pos hs]
      have hs' : (n : Int) - p < x := by omega
      have h4' : p ≤ (n : Int) := by omega
      clear hs h4 hl
      go_enter Try.func49, Try.ntmps49
      go_wp2_with fail
      go_ret2
      exact ⟨rfl, rfl⟩
    · rw [if_neg hs]
      obtain ⟨k, rfl⟩ := Int.eq_ofNat_of_zero_le (show 0 ≤ x by omega)
      obtain ⟨q, rfl⟩ := Int.eq_ofNat_of_zero_le h3
      exact RGet_ok k q w hb (by omega) (by omega) (by omega)
  · rw [if_neg h]
    by_cases h1 : x < 1
    · clear h hl
      go_enter Try.func49, Try.ntmps49
      go_wp2_with fail
      go_ret2
      exact ⟨rfl, rfl⟩
    by_cases h2 : 8 < x
    · clear h hl
      go_enter Try.func49, Try.ntmps49
      go_wp2_with fail
      go_ret2
      exact ⟨rfl, rfl⟩
    by_cases h3 : p < 0
    · clear h hl
      go_enter Try.func49, Try.ntmps49
      go_wp2_with fail
      go_ret2
      exact ⟨rfl, rfl⟩
    · have h4 : (n : Int) < p := by omega
      clear h hl
      go_enter Try.func49, Try.ntmps49
      go_wp2_with fail
      go_ret2
      exact ⟨rfl, rfl⟩
set_option maxHeartbeats 400000 in
theorem RPut_any {A : Option Addr} {n c B : Nat} {l : List UInt8} (x : Int) (m : Nat) (w : World) (hb : RB w B A n c l) (hn : n < 140737488355000) (hB : B ≤ w.heap.size) (hm : m < 18446744073709551616) :
    Calls Try.prog 64 #[.slice A n c, .int .i64 x, .int .u64 (m : Int)] w fun e w' =>
      ∃ A1 c1, e = .returned (.tuple #[.slice A1 (Oct.putS l x m).1.length c1, .int .i64 (Oct.putS l x m).2]) ∧ OB w' w.heap.size A1 (Oct.putS l x m).1.length c1 (Oct.putS l x m).1 ∧ Below w.heap.size w w' := by
  unfold Oct.putS
  by_cases h : 1 ≤ x ∧ x ≤ 8
  · obtain ⟨k, rfl⟩ := Int.eq_ofNat_of_zero_le (show 0 ≤ x by omega)
    rw [if_pos h, Int.toNat_natCast]
    by_cases hk : 256 ^ k ≤ m
    · rw [if_pos hk]
      exact (RPut_range k m w (by omega) (by omega) hm hk).mono fun e w' ⟨he, hw⟩ => ⟨none, 0, he, OB.none_ _ _, hw⟩
    · have hl : (l ++ Oct.lb k m).length = n + k := by rw [List.length_append, Oct.lb_length, hb.len]
      rw [if_neg hk]
      dsimp only
      rw [hl]
      exact RPut_ok k m w hb hn hB (by omega) (by omega) hm (by omega)
  · rw [if_neg h]
    exact (RPut_arg x m w h).mono fun e w' ⟨he, hw⟩ => by subst hw; exact ⟨none, 0, he, OB.none_ _ _, Below.refl _ _⟩
theorem sgn_low (n b : Nat) (h : n < 2 ^ b) : Oct.sgn n b = if n < 2 ^ (b - 1) then (n : Int) else (n : Int) - ((2 ^ b : Nat) : Int) := by
  unfold Oct.sgn; rw [Nat.mod_eq_of_lt h, Oct.pow_int]
theorem getS_fits (l : List UInt8) (p : Int) (k : Nat) : (Oct.getS l p k).1 < 2 ^ (8 * k) := by
  unfold Oct.getS
  rw [Nat.pow_mul]
  split
  · split
    · exact Nat.pow_pos (by decide)
    · rename_i h1 h2
      have h3 := Oct.le_lt (Oct.cut l p.toNat ((k : Nat) : Int).toNat)
      rwa [Oct.cut_length _ _ _ (by omega)] at h3
  · exact Nat.pow_pos (by decide)
theorem getS_ok' {l : List UInt8} {p x : Int} (h : (Oct.getS l p x).2 = 0) : 1 ≤ x ∧ x ≤ 8 := by
  unfold Oct.getS at h
  split at h
  · rename_i h1; exact ⟨h1.1, h1.2.1⟩
  · simp at h
set_option maxHeartbeats 1000000 in
theorem RGetInt_any {A : Option Addr} {n c B : Nat} {l : List UInt8} (p x : Int) (w : World) (hb : RB w B A n c l) :
    Calls Try.prog 38 #[.slice A n c, .int .i64 p, .int .i64 x] w fun e w' => e = .returned (.tuple #[.int .i64 (Oct.getIntS l p x).1, .int .i64 (Oct.getIntS l p x).2]) ∧ w = w' := by
  have hok := getS_ok' (l := l) (p := p) (x := x)
  have hg := RGet_any p x w hb
  have hft := getS_fits l p x.toNat
  unfold Oct.getIntS
  by_cases he : (Oct.getS l p x).2 = 0
  · rw [if_pos he]
    obtain ⟨h1, h2⟩ := hok he
    obtain ⟨k, rfl⟩ := Int.eq_ofNat_of_zero_le (show 0 ≤ x by omega)
    rw [Int.toNat_natCast] at *
    clear hok
    generalize Oct.getS l p k = y at *
    obtain ⟨y, ye⟩ := y
    dsimp only at *
    subst he
    have HG := Lib.hid hg; clear hg
    have hsg := sgn_low y (8 * k) hft
    have h64 : 2 ^ (8 * k) ≤ 18446744073709551616 := Nat.le_trans (Nat.pow_le_pow_right (by decide) (show 8 * k ≤ 64 by omega)) (by decide)
    have hh := Oct.two_half (8 * k) (by omega)
    by_cases h8 : k = 8
    · subst h8
      have hv : wrap64 (y : Int) = Oct.sgn y (8 * 8) := by
        rw [hsg]
        have e1 : 2 ^ (8 * 8 - 1) = 9223372036854775808 := by decide
        have e2 : 2 ^ (8 * 8) = 18446744073709551616 := by decide
        rw [e1, e2]
        rw [e2] at hft
        unfold wrap64
        split <;> omega
      have HV := Lib.hid hv
      clear hv hsg hh hft
      have hk8 : ((8 : Nat) : Int) = 8 := rfl
      go_enter Try.func38, Try.ntmps38
      go_wp2_with fail
      refine HG.out.mono ?_
      rintro e w1 ⟨rfl, rfl⟩
      go_wp2_with fail
      go_ret2
      exact ⟨by rw [← HV.out]; rfl, rfl⟩
    · have hk8 : ((k : Int) == 8) = false := by rw [beq_eq_false_iff_ne]; omega
      have hk7 : k ≤ 7 := by omega
      have hp55 : 2 ^ (8 * k - 1) ≤ 2 ^ 55 := Nat.pow_le_pow_right (by decide) (by omega)
      clear h8
      rw [hh] at hft hsg h64
      by_cases hlow : y < 2 ^ (8 * k - 1)
      · rw [if_pos hlow] at hsg
        have HE := Lib.hid hsg; have HH := Lib.hid hh
        clear hsg hh
        have hhalf := half_any k (x := (k : Int)) rfl w (by omega) hk7
        generalize 2 ^ (8 * k - 1) = q at *
        have HF := Lib.hid hhalf; clear hhalf
        have hlow' : (y : Int) < (q : Int) := by omega
        go_enter Try.func38, Try.ntmps38
        go_wp2_with fail
        refine HG.out.mono ?_
        rintro e w1 ⟨rfl, rfl⟩
        go_wp2_with fail
        refine HF.out.mono ?_
        rintro e w1 ⟨rfl, rfl⟩
        go_wp2_with fail
        go_ret2
        exact ⟨by rw [HE.out]; rfl, rfl⟩
      · rw [if_neg hlow] at hsg
        have HE := Lib.hid hsg; have HH := Lib.hid hh
        clear hsg hh
        have hhalf := half_any k (x := (k : Int)) rfl w (by omega) hk7
        generalize 2 ^ (8 * k - 1) = q at *
        have HF := Lib.hid hhalf; clear hhalf
        have hlow' : (q : Int) ≤ (y : Int) := by omega
        go_enter Try.func38, Try.ntmps38
        go_wp2_with fail
        refine HG.out.mono ?_
        rintro e w1 ⟨rfl, rfl⟩
        go_wp2_with fail
        refine HF.out.mono ?_
        rintro e w1 ⟨rfl, rfl⟩
        go_wp2_with fail
        refine HF.out.mono ?_
        rintro e w1 ⟨rfl, rfl⟩
        go_wp2_with fail
        refine HF.out.mono ?_
        rintro e w1 ⟨rfl, rfl⟩
        go_wp2_with fail
        go_ret2
        exact ⟨by rw [HE.out]; exact congrArg (fun z => Ending.returned (.tuple #[.int .i64 z, .int .i64 0])) (by omega), rfl⟩
  · rw [if_neg he]
    clear hok hft
    generalize Oct.getS l p x = y at *
    obtain ⟨y, ye⟩ := y
    dsimp only at *
    have ht : (ye != 0) = true := by rw [bne_iff_ne]; exact he
    have HG := Lib.hid hg; clear hg he
    go_enter Try.func38, Try.ntmps38
    go_wp2_with fail
    refine HG.out.mono ?_
    rintro e w1 ⟨rfl, rfl⟩
    go_wp2_with fail
    go_ret2
    exact ⟨rfl, rfl⟩

end Go.Proofs.Ytnppihlalhaldaa
