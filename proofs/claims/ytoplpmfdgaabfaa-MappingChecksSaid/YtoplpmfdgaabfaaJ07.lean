/-
  Texts joined: OctBits, OctRef, TypCode, TypDec.
  Conditions: none.
-/
import Derived.Test.YtoplpmfdgaabfaaJ01
import Derived.Test.YtoplpmfdgaabfaaJ03
import Derived.Test.YtoplpmfdgaabfaaJ06
/-
  Walks: octet.mask, extend, Low, Sign, PutInt, GetInt; Put and Get whole.
  Conditions: none.
-/
namespace Go.Proofs.Ytoplpmfdgaabfaa
set_option linter.unusedVariables false
set_option linter.unusedSimpArgs false
open Go.RowKit
set_option maxHeartbeats 400000 in
theorem extend_any (n b : Nat) {x : Int} (hx : x = (b : Int)) (w : World) (hn : n < 18446744073709551616) (h1 : 1 ≤ b) (h2 : b ≤ 64) :
    Calls Try.prog 100 #[.int .u64 (n : Int), .int .i64 x] w fun e w' => e = .returned (.int .i64 (Oct.sgn n b)) ∧ w = w' := by
  subst hx
  go_enter Try.func100, Try.ntmps100
  go_wp2
  go_ret
  exact ⟨ret_int (by unfold wrap64; rw [IntKind.wrap_u64]; exact Oct.extend_val n b h1 h2), rfl⟩

set_option maxHeartbeats 400000 in
theorem Put_any {A : Option Addr} {n c B : Nat} {l : List UInt8} (x : Int) (m : Nat) (w : World) (hb : RB w B A n c l) (hn : n < 140737488355000) (hB : B ≤ w.heap.size) (hm : m < 18446744073709551616) :
    Calls Try.prog 59 #[.slice A n c, .int .i64 x, .int .u64 (m : Int)] w fun e w' =>
      ∃ A1 c1, e = .returned (.tuple #[.slice A1 (Oct.putS l x m).1.length c1, .int .i64 (Oct.putS l x m).2]) ∧ OB w' w.heap.size A1 (Oct.putS l x m).1.length c1 (Oct.putS l x m).1 ∧ Below w.heap.size w w' := by
  unfold Oct.putS
  by_cases h : 1 ≤ x ∧ x ≤ 8
  · obtain ⟨k, rfl⟩ := Int.eq_ofNat_of_zero_le (show 0 ≤ x by omega)
    rw [if_pos h]
    by_cases hk : 256 ^ k ≤ m
    · have e : 256 ^ ((k : Nat) : Int).toNat ≤ m := hk
      rw [if_pos e]
      exact (Put_range k m w (by omega) (by omega) hm hk).mono fun e w' ⟨he, hw⟩ => by subst hw; exact ⟨none, 0, he, OB.none_ _ _, Below.refl _ _⟩
    · have e : ¬ 256 ^ ((k : Nat) : Int).toNat ≤ m := hk
      have hl : (l ++ Oct.lb k m).length = n + k := by rw [List.length_append, Oct.lb_length, hb.len]
      rw [if_neg e]
      refine (Put_ok k m w hb hn hB (by omega) (by omega) hm (by omega)).mono fun e w' ⟨A1, c1, he, h1, h2⟩ => ⟨A1, c1, ?_, ?_, h2⟩
      · show e = .returned (.tuple #[.slice A1 (l ++ Oct.lb k m).length c1, _])
        rw [hl]; exact he
      · show OB w' _ A1 (l ++ Oct.lb k m).length c1 (l ++ Oct.lb k m)
        rw [hl]; exact h1
  · rw [if_neg h]
    exact (Put_arg x m w h).mono fun e w' ⟨he, hw⟩ => by subst hw; exact ⟨none, 0, he, OB.none_ _ _, Below.refl _ _⟩

set_option maxHeartbeats 400000 in
theorem Get_any {A : Option Addr} {n c B : Nat} {l : List UInt8} (p x : Int) (w : World) (hb : RB w B A n c l) :
    Calls Try.prog 81 #[.slice A n c, .int .i64 p, .int .i64 x] w fun e w' => e = .returned (.tuple #[.int .u64 ((Oct.getS l p x).1 : Int), .int .i64 (Oct.getS l p x).2]) ∧ w = w' := by
  have hl := hb.len
  have hn := hb.lt
  unfold Oct.getS
  by_cases h : 1 ≤ x ∧ x ≤ 8 ∧ 0 ≤ p ∧ p ≤ (l.length : Int)
  · rw [if_pos h]
    obtain ⟨h1, h2, h3, h4⟩ := h
    by_cases hs : (l.length : Int) - p < x
    · rw [if_pos hs]
      exact Get_short x p w h1 h2 h3 (by omega) hn (by omega)
    · rw [if_neg hs]
      obtain ⟨k, rfl⟩ := Int.eq_ofNat_of_zero_le (show 0 ≤ x by omega)
      obtain ⟨q, rfl⟩ := Int.eq_ofNat_of_zero_le h3
      exact Get_ok k q w hb (by omega) (by omega) (by omega)
  · rw [if_neg h]
    exact Get_arg x p w (by rw [← hl]; omega)
theorem getS_lt (l : List UInt8) (p x : Int) : (Oct.getS l p x).1 < 18446744073709551616 := by
  unfold Oct.getS
  split
  · rename_i h
    split
    · decide
    · have h1 := Oct.le_lt (Oct.cut l p.toNat x.toNat)
      rw [Oct.cut_length _ _ _ (by omega)] at h1
      exact Nat.lt_of_lt_of_le h1 (Nat.le_trans (Nat.pow_le_pow_right (by decide) (show x.toNat ≤ 8 by omega)) (by decide))
  · decide
theorem getS_ok {l : List UInt8} {p x : Int} (h : (Oct.getS l p x).2 = 0) : 1 ≤ x ∧ x ≤ 8 := by
  unfold Oct.getS at h
  split at h
  · rename_i h1; exact ⟨h1.1, h1.2.1⟩
  · simp at h
set_option maxHeartbeats 400000 in
theorem GetInt_any {A : Option Addr} {n c B : Nat} {l : List UInt8} (p x : Int) (w : World) (hb : RB w B A n c l) :
    Calls Try.prog 97 #[.slice A n c, .int .i64 p, .int .i64 x] w fun e w' => e = .returned (.tuple #[.int .i64 (Oct.getIntS l p x).1, .int .i64 (Oct.getIntS l p x).2]) ∧ w = w' := by
  have hlt := getS_lt l p x
  have hok := getS_ok (l := l) (p := p) (x := x)
  have hg := Get_any p x w hb
  unfold Oct.getIntS
  generalize Oct.getS l p x = y at *
  obtain ⟨y, ye⟩ := y
  dsimp only at *
  have HG := Lib.hid hg; clear hg
  by_cases he : ye = 0
  · rw [if_pos he]
    obtain ⟨h1, h2⟩ := hok he
    clear hok
    subst he
    go_enter Try.func97, Try.ntmps97
    go_wp2_with fail
    refine HG.out.mono ?_
    rintro e w1 ⟨rfl, rfl⟩
    go_wp2_with fail
    refine (extend_any y (8 * x.toNat) (by omega) _ hlt (by omega) (by omega)).mono ?_
    rintro e w1 ⟨rfl, rfl⟩
    go_wp2_with fail
    go_ret2
    exact ⟨rfl, rfl⟩
  · rw [if_neg he]
    clear hok
    have ht : (ye != 0) = true := by rw [bne_iff_ne]; exact he
    clear he
    go_enter Try.func97, Try.ntmps97
    go_wp2_with fail
    refine HG.out.mono ?_
    rintro e w1 ⟨rfl, rfl⟩
    go_wp2_with fail
    go_ret2
    exact ⟨rfl, rfl⟩
end Go.Proofs.Ytoplpmfdgaabfaa
/-
  Walks: the reference's Low, Sign, half, PutInt, Get, GetInt.
  Conditions: none.
-/
namespace Go.Proofs.Ytoplpmfdgaabfaa
set_option linter.unusedVariables false
set_option linter.unusedSimpArgs false
open Go.RowKit
set_option maxHeartbeats 1000000 in
theorem half_any (k : Nat) {x : Int} (hx : x = (k : Int)) (w : World) (h1 : 1 ≤ k) (h2 : k ≤ 7) :
    Calls Try.prog 99 #[.int .i64 x] w fun e w' => e = .returned (.int .i64 ((2 ^ (8 * k - 1) : Nat) : Int)) ∧ w = w' := by
  subst hx
  go_enter Try.func99, Try.ntmps99
  go_wp2_with fail
  go_loop [3, 4] (fun v i => ∃ j : Nat, j ≤ 8 * k - 1 ∧ i = .int .i64 j ∧ v = .int .i64 ((2 ^ j : Nat) : Int)) (fun _ i => 8 * k - 1 - (intOf i).toNat)
  case atStart => exact ⟨0, by omega, rfl, rfl⟩
  case round =>
    obtain ⟨j, hj, rfl, rfl⟩ := hrel
    have hp : 2 ^ j ≤ 2 ^ 55 := Nat.pow_le_pow_right (by decide) (by omega)
    have hps : 2 ^ (j + 1) = 2 * 2 ^ j := by rw [Nat.pow_succ, Nat.mul_comm]
    have HPS := Lib.hid hps; clear hps
    by_cases hlt : j < 8 * k - 1
    · generalize 2 ^ j = q at *
      have hlt' : (j : Int) < 8 * k - 1 := by omega
      go_wp2_with fail
      go_round
      case rel => exact ⟨j + 1, by omega, by go_num, by rw [HPS.out]; rfl⟩
      case measure => simp [intOf]; omega
    · obtain rfl : j = 8 * k - 1 := by omega
      go_wp2_with fail
      go_ret
      exact ⟨rfl, rfl⟩

set_option maxHeartbeats 1000000 in
theorem RGet_ok {A : Option Addr} {n c B : Nat} {l : List UInt8} (k p : Nat) (w : World) (hb : RB w B A n c l) (h1 : 1 ≤ k) (h2 : k ≤ 8) (h : p + k ≤ n) :
    Calls Try.prog 94 #[.slice A n c, .int .i64 (p : Int), .int .i64 (k : Int)] w fun e w' => e = .returned (.tuple #[.int .u64 (Oct.le (Oct.cut l p k) : Int), .int .i64 0]) ∧ w = w' := by
  have hn := hb.lt
  have hl := hb.len
  obtain ⟨b, o, rfl, hbB, hc⟩ := hb.at_ (by omega)
  have HL := Lib.hid hl; clear hl
  clear hb
  go_enter Try.func94, Try.ntmps94
  go_wp2_with fail
  go_loop [8, 9] (fun v i => ∃ j : Nat, j ≤ k ∧ i = .int .i64 ((j : Int) - 1) ∧ v = .int .u64 (Oct.le ((Oct.cut l p k).drop j) : Int)) (fun _ i => (intOf i + 1).toNat)
  case atStart => exact ⟨k, Nat.le_refl _, rfl, by rw [List.drop_of_length_le (by rw [Oct.cut_length _ _ _ (by rw [HL.out]; exact h)]; exact Nat.le_refl _)]; rfl⟩
  case round =>
    obtain ⟨j, hj, rfl, rfl⟩ := hrel
    by_cases h0 : j = 0
    · subst h0
      clear hc
      go_wp2_with fail
      go_ret2
      exact ⟨rfl, rfl⟩
    · obtain ⟨i, rfl⟩ : ∃ i, j = i + 1 := ⟨j - 1, by omega⟩
      have hci := hc (p + i) (by omega)
      have hx := byte_lt (l.getD (p + i) 0)
      have hcl : (Oct.cut l p k).length = k := Oct.cut_length _ _ _ (by rw [HL.out]; exact h)
      have hds : (Oct.cut l p k).drop i = l.getD (p + i) 0 :: (Oct.cut l p k).drop (i + 1) := by
        rw [List.drop_eq_getElem_cons (by omega)]
        congr 1
        have := HL.out
        simp [Oct.cut, List.getD, show p + i < l.length by omega]
      have hlt : Oct.le ((Oct.cut l p k).drop (i + 1)) < 256 ^ 7 := by
        have := Oct.le_lt ((Oct.cut l p k).drop (i + 1))
        rw [List.length_drop, hcl] at this
        exact Nat.lt_of_lt_of_le this (Nat.pow_le_pow_right (by decide) (by omega))
      have hstep : Oct.le ((Oct.cut l p k).drop i) = 256 * Oct.le ((Oct.cut l p k).drop (i + 1)) + (l.getD (p + i) 0).toNat := by rw [hds, Oct.le]; omega
      generalize l.getD (p + i) 0 = x at *
      generalize Oct.le ((Oct.cut l p k).drop (i + 1)) = v at *
      have HS := Lib.hid hstep
      clear hc hds hstep hcl
      have e0 : ((i + 1 : Nat) : Int) - 1 = (i : Int) := by omega
      rw [e0]
      clear e0
      go_wp2_with fail
      go_round
      case rel => exact ⟨i, by omega, rfl, by rw [HS.out]; rfl⟩
      case measure => simp [intOf] <;> omega
set_option maxHeartbeats 400000 in
theorem RGet_any {A : Option Addr} {n c B : Nat} {l : List UInt8} (p x : Int) (w : World) (hb : RB w B A n c l) :
    Calls Try.prog 94 #[.slice A n c, .int .i64 p, .int .i64 x] w fun e w' => e = .returned (.tuple #[.int .u64 ((Oct.getS l p x).1 : Int), .int .i64 (Oct.getS l p x).2]) ∧ w = w' := by
  have hl := hb.len
  have hn := hb.lt
  unfold Oct.getS
  by_cases h : 1 ≤ x ∧ x ≤ 8 ∧ 0 ≤ p ∧ p ≤ (l.length : Int)
  · rw [if_pos h]
    obtain ⟨h1, h2, h3, h4⟩ := h
    by_cases hs : (l.length : Int) - p < x
    · rw [if_pos hs]
      have hs' : (n : Int) - p < x := by omega
      have h4' : p ≤ (n : Int) := by omega
      clear hs h4 hl
      go_enter Try.func94, Try.ntmps94
      go_wp2_with fail
      go_ret2
      exact ⟨rfl, rfl⟩
    · rw [if_neg hs]
      obtain ⟨k, rfl⟩ := Int.eq_ofNat_of_zero_le (show 0 ≤ x by omega)
      obtain ⟨q, rfl⟩ := Int.eq_ofNat_of_zero_le h3
      exact RGet_ok k q w hb (by omega) (by omega) (by omega)
  · rw [if_neg h]
    by_cases h1 : x < 1
    · clear h hl
      go_enter Try.func94, Try.ntmps94
      go_wp2_with fail
      go_ret2
      exact ⟨rfl, rfl⟩
    by_cases h2 : 8 < x
    · clear h hl
      go_enter Try.func94, Try.ntmps94
      go_wp2_with fail
      go_ret2
      exact ⟨rfl, rfl⟩
    by_cases h3 : p < 0
    · clear h hl
      go_enter Try.func94, Try.ntmps94
      go_wp2_with fail
      go_ret2
      exact ⟨rfl, rfl⟩
    · have h4 : (n : Int) < p := by omega
      clear h hl
      go_enter Try.func94, Try.ntmps94
      go_wp2_with fail
      go_ret2
      exact ⟨rfl, rfl⟩
theorem sgn_low (n b : Nat) (h : n < 2 ^ b) : Oct.sgn n b = if n < 2 ^ (b - 1) then (n : Int) else (n : Int) - ((2 ^ b : Nat) : Int) := by
  unfold Oct.sgn; rw [Nat.mod_eq_of_lt h, Oct.pow_int]
theorem getS_fits (l : List UInt8) (p : Int) (k : Nat) : (Oct.getS l p k).1 < 2 ^ (8 * k) := by
  unfold Oct.getS
  rw [Nat.pow_mul]
  split
  · split
    · exact Nat.pow_pos (by decide)
    · rename_i h1 h2
      have h3 := Oct.le_lt (Oct.cut l p.toNat ((k : Nat) : Int).toNat)
      rwa [Oct.cut_length _ _ _ (by omega)] at h3
  · exact Nat.pow_pos (by decide)
theorem getS_ok' {l : List UInt8} {p x : Int} (h : (Oct.getS l p x).2 = 0) : 1 ≤ x ∧ x ≤ 8 := by
  unfold Oct.getS at h
  split at h
  · rename_i h1; exact ⟨h1.1, h1.2.1⟩
  · simp at h
set_option maxHeartbeats 1000000 in
theorem RGetInt_any {A : Option Addr} {n c B : Nat} {l : List UInt8} (p x : Int) (w : World) (hb : RB w B A n c l) :
    Calls Try.prog 93 #[.slice A n c, .int .i64 p, .int .i64 x] w fun e w' => e = .returned (.tuple #[.int .i64 (Oct.getIntS l p x).1, .int .i64 (Oct.getIntS l p x).2]) ∧ w = w' := by
  have hok := getS_ok' (l := l) (p := p) (x := x)
  have hg := RGet_any p x w hb
  have hft := getS_fits l p x.toNat
  unfold Oct.getIntS
  by_cases he : (Oct.getS l p x).2 = 0
  · rw [if_pos he]
    obtain ⟨h1, h2⟩ := hok he
    obtain ⟨k, rfl⟩ := Int.eq_ofNat_of_zero_le (show 0 ≤ x by omega)
    rw [Int.toNat_natCast] at *
    clear hok
    generalize Oct.getS l p k = y at *
    obtain ⟨y, ye⟩ := y
    dsimp only at *
    subst he
    have HG := Lib.hid hg; clear hg
    have hsg := sgn_low y (8 * k) hft
    have h64 : 2 ^ (8 * k) ≤ 18446744073709551616 := Nat.le_trans (Nat.pow_le_pow_right (by decide) (show 8 * k ≤ 64 by omega)) (by decide)
    have hh := Oct.two_half (8 * k) (by omega)
    by_cases h8 : k = 8
    · subst h8
      have hv : wrap64 (y : Int) = Oct.sgn y (8 * 8) := by
        rw [hsg]
        have e1 : 2 ^ (8 * 8 - 1) = 9223372036854775808 := by decide
        have e2 : 2 ^ (8 * 8) = 18446744073709551616 := by decide
        rw [e1, e2]
        rw [e2] at hft
        unfold wrap64
        split <;> omega
      have HV := Lib.hid hv
      clear hv hsg hh hft
      have hk8 : ((8 : Nat) : Int) = 8 := rfl
      go_enter Try.func93, Try.ntmps93
      go_wp2_with fail
      refine HG.out.mono ?_
      rintro e w1 ⟨rfl, rfl⟩
      go_wp2_with fail
      go_ret2
      exact ⟨by rw [← HV.out]; rfl, rfl⟩
    · have hk8 : ((k : Int) == 8) = false := by rw [beq_eq_false_iff_ne]; omega
      have hk7 : k ≤ 7 := by omega
      have hp55 : 2 ^ (8 * k - 1) ≤ 2 ^ 55 := Nat.pow_le_pow_right (by decide) (by omega)
      clear h8
      rw [hh] at hft hsg h64
      by_cases hlow : y < 2 ^ (8 * k - 1)
      · rw [if_pos hlow] at hsg
        have HE := Lib.hid hsg; have HH := Lib.hid hh
        clear hsg hh
        have hhalf := half_any k (x := (k : Int)) rfl w (by omega) hk7
        generalize 2 ^ (8 * k - 1) = q at *
        have HF := Lib.hid hhalf; clear hhalf
        have hlow' : (y : Int) < (q : Int) := by omega
        go_enter Try.func93, Try.ntmps93
        go_wp2_with fail
        refine HG.out.mono ?_
        rintro e w1 ⟨rfl, rfl⟩
        go_wp2_with fail
        refine HF.out.mono ?_
        rintro e w1 ⟨rfl, rfl⟩
        go_wp2_with fail
        go_ret2
        exact ⟨by rw [HE.out]; rfl, rfl⟩
      · rw [if_neg hlow] at hsg
        have HE := Lib.hid hsg; have HH := Lib.hid hh
        clear hsg hh
        have hhalf := half_any k (x := (k : Int)) rfl w (by omega) hk7
        generalize 2 ^ (8 * k - 1) = q at *
        have HF := Lib.hid hhalf; clear hhalf
        have hlow' : (q : Int) ≤ (y : Int) := by omega
        go_enter Try.func93, Try.ntmps93
        go_wp2_with fail
        refine HG.out.mono ?_
        rintro e w1 ⟨rfl, rfl⟩
        go_wp2_with fail
        refine HF.out.mono ?_
        rintro e w1 ⟨rfl, rfl⟩
        go_wp2_with fail
        refine HF.out.mono ?_
        rintro e w1 ⟨rfl, rfl⟩
        go_wp2_with fail
        refine HF.out.mono ?_
        rintro e w1 ⟨rfl, rfl⟩
        go_wp2_with fail
        go_ret2
        exact ⟨by rw [HE.out]; exact congrArg (fun z => Ending.returned (.tuple #[.int .i64 z, .int .i64 0])) (by omega), rfl⟩
  · rw [if_neg he]
    clear hok hft
    generalize Oct.getS l p x = y at *
    obtain ⟨y, ye⟩ := y
    dsimp only at *
    have ht : (ye != 0) = true := by rw [bne_iff_ne]; exact he
    have HG := Lib.hid hg; clear hg he
    go_enter Try.func93, Try.ntmps93
    go_wp2_with fail
    refine HG.out.mono ?_
    rintro e w1 ⟨rfl, rfl⟩
    go_wp2_with fail
    go_ret2
    exact ⟨rfl, rfl⟩

end Go.Proofs.Ytoplpmfdgaabfaa
/-
  Walks: types.Encode, Decode, and the reference's.
  Conditions: none.
-/
namespace Go.Proofs.Ytoplpmfdgaabfaa
set_option linter.unusedVariables false
set_option linter.unusedSimpArgs false
open Go.RowKit
/-- Bytes and a code are answered; the bytes are the call's own. -/
def BP (p : List UInt8 × Int) (w : World) (e : Ending) (w' : World) : Prop := ∃ A1 c1, e = .returned (.tuple #[.slice A1 p.1.length c1, .int .i64 p.2]) ∧ OB w' w.heap.size A1 p.1.length c1 p.1 ∧ Below w.heap.size w w'
theorem bp_bad {p : List UInt8 × Int} {w w' : World} {x : Int} (h : p = ([], x)) (hb : Below w.heap.size w w') : BP p w (.returned (.tuple #[.slice none 0 0, .int .i64 x])) w' := by
  subst h
  exact ⟨none, 0, rfl, OB.none_ _ _, hb⟩
theorem bp_ok {p : List UInt8 × Int} {w w' : World} {A : Option Addr} {n c : Nat} {l : List UInt8} {x : Int} (h : p = (l, x)) (hn : l.length = n) (ho : OB w' w.heap.size A n c l) (hb : Below w.heap.size w w') : BP p w (.returned (.tuple #[.slice A n c, .int .i64 x])) w' := by
  subst h hn
  exact ⟨A, c, rfl, ho, hb⟩
theorem kd_num (t : Int) : ((Ty.kd t).bits = 0 ∧ (Ty.kd t).size = 0 ∧ (Ty.kd t).sgn = false) ∨ ((Ty.kd t).sgn = true ∧ (Ty.kd t).bits = 8 * (Ty.kd t).size ∧ 1 ≤ (Ty.kd t).size ∧ (Ty.kd t).size ≤ 8) ∨ ((Ty.kd t).sgn = false ∧ 1 ≤ (Ty.kd t).bits ∧ (Ty.kd t).bits ≤ 8 * (Ty.kd t).size ∧ 1 ≤ (Ty.kd t).size ∧ (Ty.kd t).size ≤ 4 ∧ ((Ty.kd t).bits = 8 * (Ty.kd t).size ∨ ((Ty.kd t).bits = 1 ∧ t = 1))) := by
  rcases Ty.kd_cases t with h | ⟨_, h⟩
  · rcases h with rfl | rfl | rfl | rfl | rfl | rfl | rfl | rfl | rfl | rfl | rfl <;> decide
  · rw [h]; exact .inl ⟨rfl, rfl, rfl⟩
theorem enc_type {t n : Int} (h : (Ty.limS t).2.2 = false) : Ty.encS t n = ([], 15) := by unfold Ty.encS; rw [if_pos h]
theorem enc_range {t n : Int} (h : (Ty.limS t).2.2 = true) (hr : n < (Ty.limS t).1 ∨ (Ty.limS t).2.1 < n) : Ty.encS t n = ([], 9) := by unfold Ty.encS; rw [if_neg (by rw [h]; decide), if_pos hr]
theorem enc_ok {t n : Int} (h : (Ty.limS t).2.2 = true) (hr : ¬ (n < (Ty.limS t).1 ∨ (Ty.limS t).2.1 < n)) : Ty.encS t n = (Oct.lb (Ty.kd t).size (n % 18446744073709551616).toNat, 0) := by unfold Ty.encS; rw [if_neg (by rw [h]; decide), if_neg hr]
theorem lim_ok {t : Int} (h : (Ty.limS t).2.2 = true) : ((Ty.kd t).sgn = true ∧ 1 ≤ (Ty.kd t).size ∧ (Ty.kd t).size ≤ 8 ∧ (Ty.limS t).1 = -((2 ^ (8 * (Ty.kd t).size - 1) : Nat) : Int) ∧ (Ty.limS t).2.1 = ((2 ^ (8 * (Ty.kd t).size - 1) : Nat) : Int) - 1) ∨
    ((Ty.kd t).sgn = false ∧ 1 ≤ (Ty.kd t).size ∧ (Ty.kd t).size ≤ 4 ∧ (Ty.limS t).1 = 0 ∧ (Ty.limS t).2.1 = ((2 ^ (Ty.kd t).bits : Nat) : Int) - 1 ∧ (Ty.kd t).bits ≤ 8 * (Ty.kd t).size) := by
  rcases kd_num t with ⟨h1, _⟩ | ⟨h1, h2, h3, h4⟩ | ⟨h1, h2, h3, h4, h5, _⟩
  · unfold Ty.limS at h; rw [if_pos h1] at h; cases h
  · left
    refine ⟨h1, h3, h4, ?_, ?_⟩ <;> (unfold Ty.limS; rw [if_neg (by omega), if_pos h1, h2])
  · right
    refine ⟨h1, h4, h5, ?_, ?_, h3⟩ <;> (unfold Ty.limS; rw [if_neg (by omega), if_neg (by rw [h1]; decide)])
theorem pow_256 (k : Nat) : 256 ^ k = 2 ^ (8 * k) := by rw [Nat.pow_mul]
end Go.Proofs.Ytoplpmfdgaabfaa
/-
  Walks: types.Decode, and the reference's.
  Conditions: none.
-/
namespace Go.Proofs.Ytoplpmfdgaabfaa
set_option linter.unusedVariables false
set_option linter.unusedSimpArgs false
open Go.RowKit
theorem getS_all {l : List UInt8} {k : Nat} (h : l.length = k) (h1 : 1 ≤ k) (h2 : k ≤ 8) : Oct.getS l 0 (k : Int) = (Oct.le l, 0) := by
  unfold Oct.getS
  rw [if_pos (by omega), if_neg (by omega), Int.toNat_natCast, show (0 : Int).toNat = 0 from rfl]
  subst h
  simp [Oct.cut]
theorem getIntS_all {l : List UInt8} {k : Nat} (h : l.length = k) (h1 : 1 ≤ k) (h2 : k ≤ 8) : Oct.getIntS l 0 (k : Int) = (Oct.sgn (Oct.le l) (8 * k), 0) := by
  unfold Oct.getIntS
  rw [getS_all h h1 h2, if_pos rfl, Int.toNat_natCast]
set_option maxRecDepth 100000 in
set_option maxHeartbeats 4000000 in
theorem Decode_any {A : Option Addr} {n c B : Nat} {l : List UInt8} (t : Int) (w : World) (hb : RB w B A n c l) (hB : B ≤ w.heap.size) :
    Calls Try.prog 86 #[.int .i64 t, .slice A n c] w fun e w' => e = .returned (.tuple #[.int .i64 (Ty.decS t l).1, .int .i64 (Ty.decS t l).2]) ∧ Below w.heap.size w w' := by
  have hl := hb.len
  have hn := hb.lt
  have C := of_any t w
  have hk := kd_num t
  have hd : Ty.decS t l = if (Ty.kd t).bits = 0 then (0, 15) else if l.length < (Ty.kd t).size then (0, 2) else if (Ty.kd t).size < l.length then (0, 3)
    else if (Ty.kd t).sgn = true then (Oct.sgn (Oct.le l) (8 * (Ty.kd t).size), 0) else if 2 ^ (Ty.kd t).bits ≤ Oct.le l then (0, 9) else ((Oct.le l : Int), 0) := rfl
  generalize (Ty.kd t).name = nm at *
  generalize (Ty.kd t).sgn = sg at *
  generalize (Ty.kd t).size = sz at *
  generalize (Ty.kd t).bits = bt at *
  generalize Ty.decS t l = d at *
  rw [hl] at hd
  replace C := Lib.hid C
  have HL := Lib.hid hl; clear hl
  by_cases h0 : bt = 0
  · subst h0
    rw [if_pos rfl] at hd
    have HD := Lib.hid hd; clear hd hk
    go_enter Try.func86, Try.ntmps86
    go_wp2_with fail
    refine (C.out).mono ?_
    rintro e w1 ⟨rfl, b1⟩
    go_wp2_with fail
    go_ret2
    exact ⟨by rw [HD.out]; rfl, b1.alloc b1.size _⟩
  · rw [if_neg h0] at hd
    have hbz : ((bt : Int) == 0) = false := by rw [beq_eq_false_iff_ne]; omega
    by_cases hlt : n < sz
    · rw [if_pos hlt] at hd
      have HD := Lib.hid hd; clear hd hk h0
      go_enter Try.func86, Try.ntmps86
      go_wp2_with fail
      refine (C.out).mono ?_
      rintro e w1 ⟨rfl, b1⟩
      go_wp2_with fail
      go_ret2
      exact ⟨by rw [HD.out]; rfl, b1.alloc b1.size _⟩
    · rw [if_neg hlt] at hd
      by_cases hgt : sz < n
      · rw [if_pos hgt] at hd
        have HD := Lib.hid hd; clear hd hk h0
        go_enter Try.func86, Try.ntmps86
        go_wp2_with fail
        refine (C.out).mono ?_
        rintro e w1 ⟨rfl, b1⟩
        go_wp2_with fail
        go_ret2
        exact ⟨by rw [HD.out]; rfl, b1.alloc b1.size _⟩
      · rw [if_neg hgt] at hd
        obtain rfl : n = sz := by omega
        rcases hk with ⟨h, _⟩ | ⟨rfl, e1, e2, e3⟩ | ⟨rfl, e1, e2, e3, e4, e5⟩
        · exact absurd h h0
        · rw [if_pos rfl] at hd
          have HD := Lib.hid hd; clear hd h0
          have G := fun (w1 : World) (h : Below w.heap.size w w1) => GetInt_any 0 (n : Int) w1 (hb.below (h.mono hB))
          rw [getIntS_all HL.out e2 e3] at G
          dsimp only at G
          replace G := Lib.hid G
          clear e1
          go_enter Try.func86, Try.ntmps86
          go_wp2_with fail
          refine (C.out).mono ?_
          rintro e w1 ⟨rfl, b1⟩
          have b2 := b1.alloc b1.size (.cells #[.string (T nm), .int .i64 (n : Int), .int .i64 (bt : Int), .bool true] 122)
          go_wp2_with fail
          refine (G.out _ b2).mono ?_
          rintro e _ ⟨rfl, rfl⟩
          go_wp2_with fail
          go_ret2
          exact ⟨by rw [HD.out]; rfl, b2⟩
        · rw [if_neg (by decide)] at hd
          have hle := Oct.le_lt l
          rw [HL.out] at hle
          have hle2 : Oct.le l < 4294967296 := Nat.lt_of_lt_of_le hle (Nat.le_trans (Nat.pow_le_pow_right (by decide) e4) (by decide))
          have G := fun (w1 : World) (h : Below w.heap.size w w1) => Get_any 0 (n : Int) w1 (hb.below (h.mono hB))
          rw [getS_all HL.out e3 (by omega)] at G
          dsimp only at G
          replace G := Lib.hid G
          generalize Oct.le l = v at *
          by_cases hw : 2 ^ bt ≤ v
          · rw [if_pos hw] at hd
            have HD := Lib.hid hd; clear hd h0
            have hbt : bt < 8 * n := by
              rcases Nat.lt_or_ge bt (8 * n) with h | h
              · exact h
              · obtain rfl : bt = 8 * n := by omega
                rw [pow_256] at hle
                omega
            have ht : ((v : Int) / 2 ^ bt != 0) = true := by
              rw [show (v : Int) / 2 ^ bt = ((v / 2 ^ bt : Nat) : Int) by simp, bne_iff_ne]
              have := Nat.div_pos hw (Nat.pow_pos (by decide))
              omega
            clear hle hw e5
            go_enter Try.func86, Try.ntmps86
            go_wp2_with fail
            refine (C.out).mono ?_
            rintro e w1 ⟨rfl, b1⟩
            have b2 := b1.alloc b1.size (.cells #[.string (T nm), .int .i64 (n : Int), .int .i64 (bt : Int), .bool false] 122)
            go_wp2_with fail
            refine (G.out _ b2).mono ?_
            rintro e _ ⟨rfl, rfl⟩
            go_wp2_with fail
            go_ret2
            exact ⟨by rw [HD.out]; rfl, b2⟩
          · rw [if_neg hw] at hd
            have HD := Lib.hid hd; clear hd h0
            have ht : ((v : Int) / 2 ^ bt != 0) = false := by
              rw [show (v : Int) / 2 ^ bt = ((v / 2 ^ bt : Nat) : Int) by simp, bne_eq_false_iff_eq, Nat.div_eq_of_lt (by omega)]
              rfl
            clear hle hw e5
            by_cases hbt : bt < 8 * n
            all_goals
              go_enter Try.func86, Try.ntmps86
              go_wp2_with fail
              refine (C.out).mono ?_
              rintro e w1 ⟨rfl, b1⟩
              have b2 := b1.alloc b1.size (.cells #[.string (T nm), .int .i64 (n : Int), .int .i64 (bt : Int), .bool false] 122)
              go_wp2_with fail
              refine (G.out _ b2).mono ?_
              rintro e _ ⟨rfl, rfl⟩
              go_wp2_with fail
              go_ret2
              exact ⟨by rw [HD.out]; rfl, b2⟩
set_option maxRecDepth 100000 in
set_option maxHeartbeats 4000000 in
theorem RDecode_any {A : Option Addr} {n c B : Nat} {l : List UInt8} (t : Int) (w : World) (hb : RB w B A n c l) :
    Calls Try.prog 76 #[.int .i64 t, .slice A n c] w fun e w' => e = .returned (.tuple #[.int .i64 (Ty.decS t l).1, .int .i64 (Ty.decS t l).2]) ∧ w = w' := by
  have hl := hb.len
  have hn := hb.lt
  have C1 := RTBits_any t w
  have C2 := RSize_any t w
  have C3 := RSigned_any t w
  have hk := kd_num t
  have hk1 : t = 1 → (Ty.kd t).bits = 1 := by rintro rfl; rfl
  have hd : Ty.decS t l = if (Ty.kd t).bits = 0 then (0, 15) else if l.length < (Ty.kd t).size then (0, 2) else if (Ty.kd t).size < l.length then (0, 3)
    else if (Ty.kd t).sgn = true then (Oct.sgn (Oct.le l) (8 * (Ty.kd t).size), 0) else if 2 ^ (Ty.kd t).bits ≤ Oct.le l then (0, 9) else ((Oct.le l : Int), 0) := rfl
  generalize (Ty.kd t).sgn = sg at *
  generalize (Ty.kd t).size = sz at *
  generalize (Ty.kd t).bits = bt at *
  generalize Ty.decS t l = d at *
  rw [hl] at hd
  replace C1 := Lib.hid C1; replace C2 := Lib.hid C2; replace C3 := Lib.hid C3
  have HL := Lib.hid hl; clear hl
  have HK1 := Lib.hid hk1; clear hk1
  by_cases h0 : bt = 0
  · subst h0
    rw [if_pos rfl] at hd
    have HD := Lib.hid hd; clear hd hk
    go_enter Try.func76, Try.ntmps76
    go_wp2_with fail
    refine (C1.out).mono ?_
    rintro e _ ⟨rfl, rfl⟩
    go_wp2_with fail
    go_ret2
    exact ⟨by rw [HD.out]; rfl, rfl⟩
  · rw [if_neg h0] at hd
    have hbz : ((bt : Int) == 0) = false := by rw [beq_eq_false_iff_ne]; omega
    by_cases hlt : n < sz
    · rw [if_pos hlt] at hd
      have HD := Lib.hid hd; clear hd hk h0
      go_enter Try.func76, Try.ntmps76
      go_wp2_with fail
      refine (C1.out).mono ?_
      rintro e _ ⟨rfl, rfl⟩
      go_wp2_with fail
      refine (C2.out).mono ?_
      rintro e _ ⟨rfl, rfl⟩
      go_wp2_with fail
      go_ret2
      exact ⟨by rw [HD.out]; rfl, rfl⟩
    · rw [if_neg hlt] at hd
      by_cases hgt : sz < n
      · rw [if_pos hgt] at hd
        have HD := Lib.hid hd; clear hd hk h0
        go_enter Try.func76, Try.ntmps76
        go_wp2_with fail
        refine (C1.out).mono ?_
        rintro e _ ⟨rfl, rfl⟩
        go_wp2_with fail
        refine (C2.out).mono ?_
        rintro e _ ⟨rfl, rfl⟩
        go_wp2_with fail
        refine (C2.out).mono ?_
        rintro e _ ⟨rfl, rfl⟩
        go_wp2_with fail
        go_ret2
        exact ⟨by rw [HD.out]; rfl, rfl⟩
      · rw [if_neg hgt] at hd
        obtain rfl : n = sz := by omega
        rcases hk with ⟨h, _⟩ | ⟨rfl, e1, e2, e3⟩ | ⟨rfl, e1, e2, e3, e4, e5⟩
        · exact absurd h h0
        · rw [if_pos rfl] at hd
          have HD := Lib.hid hd; clear hd h0
          have G := RGetInt_any 0 (n : Int) w hb
          rw [getIntS_all HL.out e2 e3] at G
          dsimp only at G
          replace G := Lib.hid G
          clear e1
          go_enter Try.func76, Try.ntmps76
          go_wp2_with fail
          refine (C1.out).mono ?_
          rintro e _ ⟨rfl, rfl⟩
          go_wp2_with fail
          refine (C2.out).mono ?_
          rintro e _ ⟨rfl, rfl⟩
          go_wp2_with fail
          refine (C2.out).mono ?_
          rintro e _ ⟨rfl, rfl⟩
          go_wp2_with fail
          refine (C3.out).mono ?_
          rintro e _ ⟨rfl, rfl⟩
          go_wp2_with fail
          refine (C2.out).mono ?_
          rintro e _ ⟨rfl, rfl⟩
          go_wp2_with fail
          refine (G.out).mono ?_
          rintro e _ ⟨rfl, rfl⟩
          go_wp2_with fail
          go_ret2
          exact ⟨by rw [HD.out]; rfl, rfl⟩
        · rw [if_neg (by decide)] at hd
          have hle := Oct.le_lt l
          rw [HL.out] at hle
          have hle2 : Oct.le l < 4294967296 := Nat.lt_of_lt_of_le hle (Nat.le_trans (Nat.pow_le_pow_right (by decide) e4) (by decide))
          have G := RGet_any 0 (n : Int) w hb
          rw [getS_all HL.out e3 (by omega)] at G
          dsimp only at G
          replace G := Lib.hid G
          generalize Oct.le l = v at *
          rcases (show (t = 1 ∧ 1 < v ∧ 2 ^ bt ≤ v) ∨ (t = 1 ∧ v ≤ 1 ∧ ¬ 2 ^ bt ≤ v) ∨ (t ≠ 1 ∧ ¬ 2 ^ bt ≤ v) by
            by_cases ht : t = 1
            · have hb1 := HK1.out ht
              subst hb1
              by_cases hv : 1 < v
              · exact .inl ⟨ht, hv, by omega⟩
              · exact .inr (.inl ⟨ht, by omega, by omega⟩)
            · right; right
              refine ⟨ht, ?_⟩
              rcases e5 with e5 | e5
              · rw [e5, ← pow_256]; omega
              · exact absurd e5.2 ht) with ⟨rfl, hv, hw⟩ | ⟨rfl, hv, hw⟩ | ⟨ht, hw⟩
          · rw [if_pos hw] at hd
            have HD := Lib.hid hd; clear hd h0 hw hle e5
            go_enter Try.func76, Try.ntmps76
            go_wp2_with fail
            refine (C1.out).mono ?_
            rintro e _ ⟨rfl, rfl⟩
            go_wp2_with fail
            refine (C2.out).mono ?_
            rintro e _ ⟨rfl, rfl⟩
            go_wp2_with fail
            refine (C2.out).mono ?_
            rintro e _ ⟨rfl, rfl⟩
            go_wp2_with fail
            refine (C3.out).mono ?_
            rintro e _ ⟨rfl, rfl⟩
            go_wp2_with fail
            refine (C2.out).mono ?_
            rintro e _ ⟨rfl, rfl⟩
            go_wp2_with fail
            refine (G.out).mono ?_
            rintro e _ ⟨rfl, rfl⟩
            go_wp2_with fail
            go_ret2
            exact ⟨by rw [HD.out]; rfl, rfl⟩
          · rw [if_neg hw] at hd
            have HD := Lib.hid hd; clear hd h0 hw hle e5
            go_enter Try.func76, Try.ntmps76
            go_wp2_with fail
            refine (C1.out).mono ?_
            rintro e _ ⟨rfl, rfl⟩
            go_wp2_with fail
            refine (C2.out).mono ?_
            rintro e _ ⟨rfl, rfl⟩
            go_wp2_with fail
            refine (C2.out).mono ?_
            rintro e _ ⟨rfl, rfl⟩
            go_wp2_with fail
            refine (C3.out).mono ?_
            rintro e _ ⟨rfl, rfl⟩
            go_wp2_with fail
            refine (C2.out).mono ?_
            rintro e _ ⟨rfl, rfl⟩
            go_wp2_with fail
            refine (G.out).mono ?_
            rintro e _ ⟨rfl, rfl⟩
            go_wp2_with fail
            go_ret2
            exact ⟨by rw [HD.out]; rfl, rfl⟩
          · rw [if_neg hw] at hd
            have HD := Lib.hid hd; clear hd h0 hw hle e5
            have ht1 : (t == 1) = false := by rw [beq_eq_false_iff_ne]; exact ht
            clear ht
            go_enter Try.func76, Try.ntmps76
            go_wp2_with fail
            refine (C1.out).mono ?_
            rintro e _ ⟨rfl, rfl⟩
            go_wp2_with fail
            refine (C2.out).mono ?_
            rintro e _ ⟨rfl, rfl⟩
            go_wp2_with fail
            refine (C2.out).mono ?_
            rintro e _ ⟨rfl, rfl⟩
            go_wp2_with fail
            refine (C3.out).mono ?_
            rintro e _ ⟨rfl, rfl⟩
            go_wp2_with fail
            refine (C2.out).mono ?_
            rintro e _ ⟨rfl, rfl⟩
            go_wp2_with fail
            refine (G.out).mono ?_
            rintro e _ ⟨rfl, rfl⟩
            go_wp2_with fail
            go_ret2
            exact ⟨by rw [HD.out]; rfl, rfl⟩
end Go.Proofs.Ytoplpmfdgaabfaa
