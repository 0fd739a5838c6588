/-
  Texts joined: OctRef, TypCode, TypDec, TypChk.
  Conditions: none.
-/
import Derived.Test.YtbmocffnnlfnjaaGreatJ01
import Derived.Test.YtbmocffnnlfnjaaGreatJ04
import Derived.Test.YtbmocffnnlfnjaaGreatJ07
/-
  Walks: the reference's Low, Sign, half, PutInt, Get, GetInt.
  Conditions: none.
-/
namespace Go.Proofs.YtbmocffnnlfnjaaGreat
set_option linter.unusedVariables false
set_option linter.unusedSimpArgs false
open Go.RowKit
set_option maxHeartbeats 1000000 in
theorem half_any (k : Nat) {x : Int} (hx : x = (k : Int)) (w : World) (h1 : 1 ≤ k) (h2 : k ≤ 7) :
    Calls Tryz.prog 119 #[.int .i64 x] w fun e w' => e = .returned (.int .i64 ((2 ^ (8 * k - 1) : Nat) : Int)) ∧ w = w' := by
  subst hx
  go_enter Tryz.func119, Tryz.ntmps119
  go_wp2_with fail
  go_loop [3, 4] (fun v i => ∃ j : Nat, j ≤ 8 * k - 1 ∧ i = .int .i64 j ∧ v = .int .i64 ((2 ^ j : Nat) : Int)) (fun _ i => 8 * k - 1 - (intOf i).toNat)
  case atStart => exact ⟨0, by omega, rfl, rfl⟩
  case round =>
    obtain ⟨j, hj, rfl, rfl⟩ := hrel
    have hp : 2 ^ j ≤ 2 ^ 55 := Nat.pow_le_pow_right (by decide) (by omega)
    have hps : 2 ^ (j + 1) = 2 * 2 ^ j := by rw [Nat.pow_succ, Nat.mul_comm]
    have HPS := Lib.hid hps; clear hps
    by_cases hlt : j < 8 * k - 1
    · generalize 2 ^ j = q at *
      have hlt' : (j : Int) < 8 * k - 1 := by omega
      go_wp2_with fail
      go_round
      case rel => exact ⟨j + 1, by omega, by go_num, by rw [HPS.out]; rfl⟩
      case measure => simp [intOf]; omega
    · obtain rfl : j = 8 * k - 1 := by omega
      go_wp2_with fail
      go_ret
      exact ⟨rfl, rfl⟩

set_option maxHeartbeats 1000000 in
theorem RGet_ok {A : Option Addr} {n c B : Nat} {l : List UInt8} (k p : Nat) (w : World) (hb : RB w B A n c l) (h1 : 1 ≤ k) (h2 : k ≤ 8) (h : p + k ≤ n) :
    Calls Tryz.prog 99 #[.slice A n c, .int .i64 (p : Int), .int .i64 (k : Int)] w fun e w' => e = .returned (.tuple #[.int .u64 (Oct.le (Oct.cut l p k) : Int), .int .i64 0]) ∧ w = w' := by
  have hn := hb.lt
  have hl := hb.len
  obtain ⟨b, o, rfl, hbB, hc⟩ := hb.at_ (by omega)
  have HL := Lib.hid hl; clear hl
  clear hb
  go_enter Tryz.func99, Tryz.ntmps99
  go_wp2_with fail
  go_loop [8, 9] (fun v i => ∃ j : Nat, j ≤ k ∧ i = .int .i64 ((j : Int) - 1) ∧ v = .int .u64 (Oct.le ((Oct.cut l p k).drop j) : Int)) (fun _ i => (intOf i + 1).toNat)
  case atStart => exact ⟨k, Nat.le_refl _, rfl, by rw [List.drop_of_length_le (by rw [Oct.cut_length _ _ _ (by rw [HL.out]; exact h)]; exact Nat.le_refl _)]; rfl⟩
  case round =>
    obtain ⟨j, hj, rfl, rfl⟩ := hrel
    by_cases h0 : j = 0
    · subst h0
      clear hc
      go_wp2_with fail
      go_ret2
      exact ⟨rfl, rfl⟩
    · obtain ⟨i, rfl⟩ : ∃ i, j = i + 1 := ⟨j - 1, by omega⟩
      have hci := hc (p + i) (by omega)
      have hx := byte_lt (l.getD (p + i) 0)
      have hcl : (Oct.cut l p k).length = k := Oct.cut_length _ _ _ (by rw [HL.out]; exact h)
      have hds : (Oct.cut l p k).drop i = l.getD (p + i) 0 :: (Oct.cut l p k).drop (i + 1) := by
        rw [List.drop_eq_getElem_cons (by omega)]
        congr 1
        have := HL.out
        simp [Oct.cut, List.getD, show p + i < l.length by omega]
      have hlt : Oct.le ((Oct.cut l p k).drop (i + 1)) < 256 ^ 7 := by
        have := Oct.le_lt ((Oct.cut l p k).drop (i + 1))
        rw [List.length_drop, hcl] at this
        exact Nat.lt_of_lt_of_le this (Nat.pow_le_pow_right (by decide) (by omega))
      have hstep : Oct.le ((Oct.cut l p k).drop i) = 256 * Oct.le ((Oct.cut l p k).drop (i + 1)) + (l.getD (p + i) 0).toNat := by rw [hds, Oct.le]; omega
      generalize l.getD (p + i) 0 = x at *
      generalize Oct.le ((Oct.cut l p k).drop (i + 1)) = v at *
      have HS := Lib.hid hstep
      clear hc hds hstep hcl
      have e0 : ((i + 1 : Nat) : Int) - 1 = (i : Int) := by omega
      rw [e0]
      clear e0
      go_wp2_with fail
      go_round
      case rel => exact ⟨i, by omega, rfl, by rw [HS.out]; rfl⟩
      case measure => simp [intOf] <;> omega
set_option maxHeartbeats 400000 in
theorem RGet_any {A : Option Addr} {n c B : Nat} {l : List UInt8} (p x : Int) (w : World) (hb : RB w B A n c l) :
    Calls Tryz.prog 99 #[.slice A n c, .int .i64 p, .int .i64 x] w fun e w' => e = .returned (.tuple #[.int .u64 ((Oct.getS l p x).1 : Int), .int .i64 (Oct.getS l p x).2]) ∧ w = w' := by
  have hl := hb.len
  have hn := hb.lt
  unfold Oct.getS
  by_cases h : 1 ≤ x ∧ x ≤ 8 ∧ 0 ≤ p ∧ p ≤ (l.length : Int)
  · rw [if_pos h]
    obtain ⟨h1, h2, h3, h4⟩ := h
    by_cases hs : (l.length : Int) - p < x
    · rw [if_pos hs]
      have hs' : (n : Int) - p < x := by omega
      have h4' : p ≤ (n : Int) := by omega
      clear hs h4 hl
      go_enter Tryz.func99, Tryz.ntmps99
      go_wp2_with fail
      go_ret2
      exact ⟨rfl, rfl⟩
    · rw [if_neg hs]
      obtain ⟨k, rfl⟩ := Int.eq_ofNat_of_zero_le (show 0 ≤ x by omega)
      obtain ⟨q, rfl⟩ := Int.eq_ofNat_of_zero_le h3
      exact RGet_ok k q w hb (by omega) (by omega) (by omega)
  · rw [if_neg h]
    by_cases h1 : x < 1
    · clear h hl
      go_enter Tryz.func99, Tryz.ntmps99
      go_wp2_with fail
      go_ret2
      exact ⟨rfl, rfl⟩
    by_cases h2 : 8 < x
    · clear h hl
      go_enter Tryz.func99, Tryz.ntmps99
      go_wp2_with fail
      go_ret2
      exact ⟨rfl, rfl⟩
    by_cases h3 : p < 0
    · clear h hl
      go_enter Tryz.func99, Tryz.ntmps99
      go_wp2_with fail
      go_ret2
      exact ⟨rfl, rfl⟩
    · have h4 : (n : Int) < p := by omega
      clear h hl
      go_enter Tryz.func99, Tryz.ntmps99
      go_wp2_with fail
      go_ret2
      exact ⟨rfl, rfl⟩
theorem sgn_low (n b : Nat) (h : n < 2 ^ b) : Oct.sgn n b = if n < 2 ^ (b - 1) then (n : Int) else (n : Int) - ((2 ^ b : Nat) : Int) := by
  unfold Oct.sgn; rw [Nat.mod_eq_of_lt h, Oct.pow_int]
theorem getS_fits (l : List UInt8) (p : Int) (k : Nat) : (Oct.getS l p k).1 < 2 ^ (8 * k) := by
  unfold Oct.getS
  rw [Nat.pow_mul]
  split
  · split
    · exact Nat.pow_pos (by decide)
    · rename_i h1 h2
      have h3 := Oct.le_lt (Oct.cut l p.toNat ((k : Nat) : Int).toNat)
      rwa [Oct.cut_length _ _ _ (by omega)] at h3
  · exact Nat.pow_pos (by decide)
theorem getS_ok' {l : List UInt8} {p x : Int} (h : (Oct.getS l p x).2 = 0) : 1 ≤ x ∧ x ≤ 8 := by
  unfold Oct.getS at h
  split at h
  · rename_i h1; exact ⟨h1.1, h1.2.1⟩
  · simp at h
set_option maxHeartbeats 1000000 in
theorem RGetInt_any {A : Option Addr} {n c B : Nat} {l : List UInt8} (p x : Int) (w : World) (hb : RB w B A n c l) :
    Calls Tryz.prog 98 #[.slice A n c, .int .i64 p, .int .i64 x] w fun e w' => e = .returned (.tuple #[.int .i64 (Oct.getIntS l p x).1, .int .i64 (Oct.getIntS l p x).2]) ∧ w = w' := by
  have hok := getS_ok' (l := l) (p := p) (x := x)
  have hg := RGet_any p x w hb
  have hft := getS_fits l p x.toNat
  unfold Oct.getIntS
  by_cases he : (Oct.getS l p x).2 = 0
  · rw [if_pos he]
    obtain ⟨h1, h2⟩ := hok he
    obtain ⟨k, rfl⟩ := Int.eq_ofNat_of_zero_le (show 0 ≤ x by omega)
    rw [Int.toNat_natCast] at *
    clear hok
    generalize Oct.getS l p k = y at *
    obtain ⟨y, ye⟩ := y
    dsimp only at *
    subst he
    have HG := Lib.hid hg; clear hg
    have hsg := sgn_low y (8 * k) hft
    have h64 : 2 ^ (8 * k) ≤ 18446744073709551616 := Nat.le_trans (Nat.pow_le_pow_right (by decide) (show 8 * k ≤ 64 by omega)) (by decide)
    have hh := Oct.two_half (8 * k) (by omega)
    by_cases h8 : k = 8
    · subst h8
      have hv : wrap64 (y : Int) = Oct.sgn y (8 * 8) := by
        rw [hsg]
        have e1 : 2 ^ (8 * 8 - 1) = 9223372036854775808 := by decide
        have e2 : 2 ^ (8 * 8) = 18446744073709551616 := by decide
        rw [e1, e2]
        rw [e2] at hft
        unfold wrap64
        split <;> omega
      have HV := Lib.hid hv
      clear hv hsg hh hft
      have hk8 : ((8 : Nat) : Int) = 8 := rfl
      go_enter Tryz.func98, Tryz.ntmps98
      go_wp2_with fail
      refine HG.out.mono ?_
      rintro e w1 ⟨rfl, rfl⟩
      go_wp2_with fail
      go_ret2
      exact ⟨by rw [← HV.out]; rfl, rfl⟩
    · have hk8 : ((k : Int) == 8) = false := by rw [beq_eq_false_iff_ne]; omega
      have hk7 : k ≤ 7 := by omega
      have hp55 : 2 ^ (8 * k - 1) ≤ 2 ^ 55 := Nat.pow_le_pow_right (by decide) (by omega)
      clear h8
      rw [hh] at hft hsg h64
      by_cases hlow : y < 2 ^ (8 * k - 1)
      · rw [if_pos hlow] at hsg
        have HE := Lib.hid hsg; have HH := Lib.hid hh
        clear hsg hh
        have hhalf := half_any k (x := (k : Int)) rfl w (by omega) hk7
        generalize 2 ^ (8 * k - 1) = q at *
        have HF := Lib.hid hhalf; clear hhalf
        have hlow' : (y : Int) < (q : Int) := by omega
        go_enter Tryz.func98, Tryz.ntmps98
        go_wp2_with fail
        refine HG.out.mono ?_
        rintro e w1 ⟨rfl, rfl⟩
        go_wp2_with fail
        refine HF.out.mono ?_
        rintro e w1 ⟨rfl, rfl⟩
        go_wp2_with fail
        go_ret2
        exact ⟨by rw [HE.out]; rfl, rfl⟩
      · rw [if_neg hlow] at hsg
        have HE := Lib.hid hsg; have HH := Lib.hid hh
        clear hsg hh
        have hhalf := half_any k (x := (k : Int)) rfl w (by omega) hk7
        generalize 2 ^ (8 * k - 1) = q at *
        have HF := Lib.hid hhalf; clear hhalf
        have hlow' : (q : Int) ≤ (y : Int) := by omega
        go_enter Tryz.func98, Tryz.ntmps98
        go_wp2_with fail
        refine HG.out.mono ?_
        rintro e w1 ⟨rfl, rfl⟩
        go_wp2_with fail
        refine HF.out.mono ?_
        rintro e w1 ⟨rfl, rfl⟩
        go_wp2_with fail
        refine HF.out.mono ?_
        rintro e w1 ⟨rfl, rfl⟩
        go_wp2_with fail
        refine HF.out.mono ?_
        rintro e w1 ⟨rfl, rfl⟩
        go_wp2_with fail
        go_ret2
        exact ⟨by rw [HE.out]; exact congrArg (fun z => Ending.returned (.tuple #[.int .i64 z, .int .i64 0])) (by omega), rfl⟩
  · rw [if_neg he]
    clear hok hft
    generalize Oct.getS l p x = y at *
    obtain ⟨y, ye⟩ := y
    dsimp only at *
    have ht : (ye != 0) = true := by rw [bne_iff_ne]; exact he
    have HG := Lib.hid hg; clear hg he
    go_enter Tryz.func98, Tryz.ntmps98
    go_wp2_with fail
    refine HG.out.mono ?_
    rintro e w1 ⟨rfl, rfl⟩
    go_wp2_with fail
    go_ret2
    exact ⟨rfl, rfl⟩

end Go.Proofs.YtbmocffnnlfnjaaGreat
/-
  Walks: types.Encode, Decode, and the reference's.
  Conditions: none.
-/
namespace Go.Proofs.YtbmocffnnlfnjaaGreat
set_option linter.unusedVariables false
set_option linter.unusedSimpArgs false
open Go.RowKit
/-- Bytes and a code are answered; the bytes are the call's own. -/
def BP (p : List UInt8 × Int) (w : World) (e : Ending) (w' : World) : Prop := ∃ A1 c1, e = .returned (.tuple #[.slice A1 p.1.length c1, .int .i64 p.2]) ∧ OB w' w.heap.size A1 p.1.length c1 p.1 ∧ Below w.heap.size w w'
theorem bp_bad {p : List UInt8 × Int} {w w' : World} {x : Int} (h : p = ([], x)) (hb : Below w.heap.size w w') : BP p w (.returned (.tuple #[.slice none 0 0, .int .i64 x])) w' := by
  subst h
  exact ⟨none, 0, rfl, OB.none_ _ _, hb⟩
theorem bp_ok {p : List UInt8 × Int} {w w' : World} {A : Option Addr} {n c : Nat} {l : List UInt8} {x : Int} (h : p = (l, x)) (hn : l.length = n) (ho : OB w' w.heap.size A n c l) (hb : Below w.heap.size w w') : BP p w (.returned (.tuple #[.slice A n c, .int .i64 x])) w' := by
  subst h hn
  exact ⟨A, c, rfl, ho, hb⟩
theorem kd_num (t : Int) : ((Ty.kd t).bits = 0 ∧ (Ty.kd t).size = 0 ∧ (Ty.kd t).sgn = false) ∨ ((Ty.kd t).sgn = true ∧ (Ty.kd t).bits = 8 * (Ty.kd t).size ∧ 1 ≤ (Ty.kd t).size ∧ (Ty.kd t).size ≤ 8) ∨ ((Ty.kd t).sgn = false ∧ 1 ≤ (Ty.kd t).bits ∧ (Ty.kd t).bits ≤ 8 * (Ty.kd t).size ∧ 1 ≤ (Ty.kd t).size ∧ (Ty.kd t).size ≤ 4 ∧ ((Ty.kd t).bits = 8 * (Ty.kd t).size ∨ ((Ty.kd t).bits = 1 ∧ t = 1))) := by
  rcases Ty.kd_cases t with h | ⟨_, h⟩
  · rcases h with rfl | rfl | rfl | rfl | rfl | rfl | rfl | rfl | rfl | rfl | rfl <;> decide
  · rw [h]; exact .inl ⟨rfl, rfl, rfl⟩
theorem enc_type {t n : Int} (h : (Ty.limS t).2.2 = false) : Ty.encS t n = ([], 15) := by unfold Ty.encS; rw [if_pos h]
theorem enc_range {t n : Int} (h : (Ty.limS t).2.2 = true) (hr : n < (Ty.limS t).1 ∨ (Ty.limS t).2.1 < n) : Ty.encS t n = ([], 9) := by unfold Ty.encS; rw [if_neg (by rw [h]; decide), if_pos hr]
theorem enc_ok {t n : Int} (h : (Ty.limS t).2.2 = true) (hr : ¬ (n < (Ty.limS t).1 ∨ (Ty.limS t).2.1 < n)) : Ty.encS t n = (Oct.lb (Ty.kd t).size (n % 18446744073709551616).toNat, 0) := by unfold Ty.encS; rw [if_neg (by rw [h]; decide), if_neg hr]
theorem lim_ok {t : Int} (h : (Ty.limS t).2.2 = true) : ((Ty.kd t).sgn = true ∧ 1 ≤ (Ty.kd t).size ∧ (Ty.kd t).size ≤ 8 ∧ (Ty.limS t).1 = -((2 ^ (8 * (Ty.kd t).size - 1) : Nat) : Int) ∧ (Ty.limS t).2.1 = ((2 ^ (8 * (Ty.kd t).size - 1) : Nat) : Int) - 1) ∨
    ((Ty.kd t).sgn = false ∧ 1 ≤ (Ty.kd t).size ∧ (Ty.kd t).size ≤ 4 ∧ (Ty.limS t).1 = 0 ∧ (Ty.limS t).2.1 = ((2 ^ (Ty.kd t).bits : Nat) : Int) - 1 ∧ (Ty.kd t).bits ≤ 8 * (Ty.kd t).size) := by
  rcases kd_num t with ⟨h1, _⟩ | ⟨h1, h2, h3, h4⟩ | ⟨h1, h2, h3, h4, h5, _⟩
  · unfold Ty.limS at h; rw [if_pos h1] at h; cases h
  · left
    refine ⟨h1, h3, h4, ?_, ?_⟩ <;> (unfold Ty.limS; rw [if_neg (by omega), if_pos h1, h2])
  · right
    refine ⟨h1, h4, h5, ?_, ?_, h3⟩ <;> (unfold Ty.limS; rw [if_neg (by omega), if_neg (by rw [h1]; decide)])
theorem pow_256 (k : Nat) : 256 ^ k = 2 ^ (8 * k) := by rw [Nat.pow_mul]
end Go.Proofs.YtbmocffnnlfnjaaGreat
/-
  Walks: types.Decode, and the reference's.
  Conditions: none.
-/
namespace Go.Proofs.YtbmocffnnlfnjaaGreat
set_option linter.unusedVariables false
set_option linter.unusedSimpArgs false
open Go.RowKit
theorem getS_all {l : List UInt8} {k : Nat} (h : l.length = k) (h1 : 1 ≤ k) (h2 : k ≤ 8) : Oct.getS l 0 (k : Int) = (Oct.le l, 0) := by
  unfold Oct.getS
  rw [if_pos (by omega), if_neg (by omega), Int.toNat_natCast, show (0 : Int).toNat = 0 from rfl]
  subst h
  simp [Oct.cut]
theorem getIntS_all {l : List UInt8} {k : Nat} (h : l.length = k) (h1 : 1 ≤ k) (h2 : k ≤ 8) : Oct.getIntS l 0 (k : Int) = (Oct.sgn (Oct.le l) (8 * k), 0) := by
  unfold Oct.getIntS
  rw [getS_all h h1 h2, if_pos rfl, Int.toNat_natCast]
set_option maxRecDepth 100000 in
set_option maxHeartbeats 4000000 in
theorem Decode_any {A : Option Addr} {n c B : Nat} {l : List UInt8} (t : Int) (w : World) (hb : RB w B A n c l) (hB : B ≤ w.heap.size) :
    Calls Tryz.prog 101 #[.int .i64 t, .slice A n c] w fun e w' => e = .returned (.tuple #[.int .i64 (Ty.decS t l).1, .int .i64 (Ty.decS t l).2]) ∧ Below w.heap.size w w' := by
  have hl := hb.len
  have hn := hb.lt
  have C := of_any t w
  have hk := kd_num t
  have hd : Ty.decS t l = if (Ty.kd t).bits = 0 then (0, 15) else if l.length < (Ty.kd t).size then (0, 2) else if (Ty.kd t).size < l.length then (0, 3)
    else if (Ty.kd t).sgn = true then (Oct.sgn (Oct.le l) (8 * (Ty.kd t).size), 0) else if 2 ^ (Ty.kd t).bits ≤ Oct.le l then (0, 9) else ((Oct.le l : Int), 0) := rfl
  generalize (Ty.kd t).name = nm at *
  generalize (Ty.kd t).sgn = sg at *
  generalize (Ty.kd t).size = sz at *
  generalize (Ty.kd t).bits = bt at *
  generalize Ty.decS t l = d at *
  rw [hl] at hd
  replace C := Lib.hid C
  have HL := Lib.hid hl; clear hl
  by_cases h0 : bt = 0
  · subst h0
    rw [if_pos rfl] at hd
    have HD := Lib.hid hd; clear hd hk
    go_enter Tryz.func101, Tryz.ntmps101
    go_wp2_with fail
    refine (C.out).mono ?_
    rintro e w1 ⟨rfl, b1⟩
    go_wp2_with fail
    go_ret2
    exact ⟨by rw [HD.out]; rfl, b1.alloc b1.size _⟩
  · rw [if_neg h0] at hd
    have hbz : ((bt : Int) == 0) = false := by rw [beq_eq_false_iff_ne]; omega
    by_cases hlt : n < sz
    · rw [if_pos hlt] at hd
      have HD := Lib.hid hd; clear hd hk h0
      go_enter Tryz.func101, Tryz.ntmps101
      go_wp2_with fail
      refine (C.out).mono ?_
      rintro e w1 ⟨rfl, b1⟩
      go_wp2_with fail
      go_ret2
      exact ⟨by rw [HD.out]; rfl, b1.alloc b1.size _⟩
    · rw [if_neg hlt] at hd
      by_cases hgt : sz < n
      · rw [if_pos hgt] at hd
        have HD := Lib.hid hd; clear hd hk h0
        go_enter Tryz.func101, Tryz.ntmps101
        go_wp2_with fail
        refine (C.out).mono ?_
        rintro e w1 ⟨rfl, b1⟩
        go_wp2_with fail
        go_ret2
        exact ⟨by rw [HD.out]; rfl, b1.alloc b1.size _⟩
      · rw [if_neg hgt] at hd
        obtain rfl : n = sz := by omega
        rcases hk with ⟨h, _⟩ | ⟨rfl, e1, e2, e3⟩ | ⟨rfl, e1, e2, e3, e4, e5⟩
        · exact absurd h h0
        · rw [if_pos rfl] at hd
          have HD := Lib.hid hd; clear hd h0
          have G := fun (w1 : World) (h : Below w.heap.size w w1) => GetInt_any 0 (n : Int) w1 (hb.below (h.mono hB))
          rw [getIntS_all HL.out e2 e3] at G
          dsimp only at G
          replace G := Lib.hid G
          clear e1
          go_enter Tryz.func101, Tryz.ntmps101
          go_wp2_with fail
          refine (C.out).mono ?_
          rintro e w1 ⟨rfl, b1⟩
          have b2 := b1.alloc b1.size (.cells #[.string (T nm), .int .i64 (n : Int), .int .i64 (bt : Int), .bool true] 116)
          go_wp2_with fail
          refine (G.out _ b2).mono ?_
          rintro e _ ⟨rfl, rfl⟩
          go_wp2_with fail
          go_ret2
          exact ⟨by rw [HD.out]; rfl, b2⟩
        · rw [if_neg (by decide)] at hd
          have hle := Oct.le_lt l
          rw [HL.out] at hle
          have hle2 : Oct.le l < 4294967296 := Nat.lt_of_lt_of_le hle (Nat.le_trans (Nat.pow_le_pow_right (by decide) e4) (by decide))
          have G := fun (w1 : World) (h : Below w.heap.size w w1) => Get_any 0 (n : Int) w1 (hb.below (h.mono hB))
          rw [getS_all HL.out e3 (by omega)] at G
          dsimp only at G
          replace G := Lib.hid G
          generalize Oct.le l = v at *
          by_cases hw : 2 ^ bt ≤ v
          · rw [if_pos hw] at hd
            have HD := Lib.hid hd; clear hd h0
            have hbt : bt < 8 * n := by
              rcases Nat.lt_or_ge bt (8 * n) with h | h
              · exact h
              · obtain rfl : bt = 8 * n := by omega
                rw [pow_256] at hle
                omega
            have ht : ((v : Int) / 2 ^ bt != 0) = true := by
              rw [show (v : Int) / 2 ^ bt = ((v / 2 ^ bt : Nat) : Int) by simp, bne_iff_ne]
              have := Nat.div_pos hw (Nat.pow_pos (by decide))
              omega
            clear hle hw e5
            go_enter Tryz.func101, Tryz.ntmps101
            go_wp2_with fail
            refine (C.out).mono ?_
            rintro e w1 ⟨rfl, b1⟩
            have b2 := b1.alloc b1.size (.cells #[.string (T nm), .int .i64 (n : Int), .int .i64 (bt : Int), .bool false] 116)
            go_wp2_with fail
            refine (G.out _ b2).mono ?_
            rintro e _ ⟨rfl, rfl⟩
            go_wp2_with fail
            go_ret2
            exact ⟨by rw [HD.out]; rfl, b2⟩
          · rw [if_neg hw] at hd
            have HD := Lib.hid hd; clear hd h0
            have ht : ((v : Int) / 2 ^ bt != 0) = false := by
              rw [show (v : Int) / 2 ^ bt = ((v / 2 ^ bt : Nat) : Int) by simp, bne_eq_false_iff_eq, Nat.div_eq_of_lt (by omega)]
              rfl
            clear hle hw e5
            by_cases hbt : bt < 8 * n
            all_goals
              go_enter Tryz.func101, Tryz.ntmps101
              go_wp2_with fail
              refine (C.out).mono ?_
              rintro e w1 ⟨rfl, b1⟩
              have b2 := b1.alloc b1.size (.cells #[.string (T nm), .int .i64 (n : Int), .int .i64 (bt : Int), .bool false] 116)
              go_wp2_with fail
              refine (G.out _ b2).mono ?_
              rintro e _ ⟨rfl, rfl⟩
              go_wp2_with fail
              go_ret2
              exact ⟨by rw [HD.out]; rfl, b2⟩
set_option maxRecDepth 100000 in
set_option maxHeartbeats 4000000 in
theorem RDecode_any {A : Option Addr} {n c B : Nat} {l : List UInt8} (t : Int) (w : World) (hb : RB w B A n c l) :
    Calls Tryz.prog 76 #[.int .i64 t, .slice A n c] w fun e w' => e = .returned (.tuple #[.int .i64 (Ty.decS t l).1, .int .i64 (Ty.decS t l).2]) ∧ w = w' := by
  have hl := hb.len
  have hn := hb.lt
  have C1 := RTBits_any t w
  have C2 := RSize_any t w
  have C3 := RSigned_any t w
  have hk := kd_num t
  have hk1 : t = 1 → (Ty.kd t).bits = 1 := by rintro rfl; rfl
  have hd : Ty.decS t l = if (Ty.kd t).bits = 0 then (0, 15) else if l.length < (Ty.kd t).size then (0, 2) else if (Ty.kd t).size < l.length then (0, 3)
    else if (Ty.kd t).sgn = true then (Oct.sgn (Oct.le l) (8 * (Ty.kd t).size), 0) else if 2 ^ (Ty.kd t).bits ≤ Oct.le l then (0, 9) else ((Oct.le l : Int), 0) := rfl
  generalize (Ty.kd t).sgn = sg at *
  generalize (Ty.kd t).size = sz at *
  generalize (Ty.kd t).bits = bt at *
  generalize Ty.decS t l = d at *
  rw [hl] at hd
  replace C1 := Lib.hid C1; replace C2 := Lib.hid C2; replace C3 := Lib.hid C3
  have HL := Lib.hid hl; clear hl
  have HK1 := Lib.hid hk1; clear hk1
  by_cases h0 : bt = 0
  · subst h0
    rw [if_pos rfl] at hd
    have HD := Lib.hid hd; clear hd hk
    go_enter Tryz.func76, Tryz.ntmps76
    go_wp2_with fail
    refine (C1.out).mono ?_
    rintro e _ ⟨rfl, rfl⟩
    go_wp2_with fail
    go_ret2
    exact ⟨by rw [HD.out]; rfl, rfl⟩
  · rw [if_neg h0] at hd
    have hbz : ((bt : Int) == 0) = false := by rw [beq_eq_false_iff_ne]; omega
    by_cases hlt : n < sz
    · rw [if_pos hlt] at hd
      have HD := Lib.hid hd; clear hd hk h0
      go_enter Tryz.func76, Tryz.ntmps76
      go_wp2_with fail
      refine (C1.out).mono ?_
      rintro e _ ⟨rfl, rfl⟩
      go_wp2_with fail
      refine (C2.out).mono ?_
      rintro e _ ⟨rfl, rfl⟩
      go_wp2_with fail
      go_ret2
      exact ⟨by rw [HD.out]; rfl, rfl⟩
    · rw [if_neg hlt] at hd
      by_cases hgt : sz < n
      · rw [if_pos hgt] at hd
        have HD := Lib.hid hd; clear hd hk h0
        go_enter Tryz.func76, Tryz.ntmps76
        go_wp2_with fail
        refine (C1.out).mono ?_
        rintro e _ ⟨rfl, rfl⟩
        go_wp2_with fail
        refine (C2.out).mono ?_
        rintro e _ ⟨rfl, rfl⟩
        go_wp2_with fail
        refine (C2.out).mono ?_
        rintro e _ ⟨rfl, rfl⟩
        go_wp2_with fail
        go_ret2
        exact ⟨by rw [HD.out]; rfl, rfl⟩
      · rw [if_neg hgt] at hd
        obtain rfl : n = sz := by omega
        rcases hk with ⟨h, _⟩ | ⟨rfl, e1, e2, e3⟩ | ⟨rfl, e1, e2, e3, e4, e5⟩
        · exact absurd h h0
        · rw [if_pos rfl] at hd
          have HD := Lib.hid hd; clear hd h0
          have G := RGetInt_any 0 (n : Int) w hb
          rw [getIntS_all HL.out e2 e3] at G
          dsimp only at G
          replace G := Lib.hid G
          clear e1
          go_enter Tryz.func76, Tryz.ntmps76
          go_wp2_with fail
          refine (C1.out).mono ?_
          rintro e _ ⟨rfl, rfl⟩
          go_wp2_with fail
          refine (C2.out).mono ?_
          rintro e _ ⟨rfl, rfl⟩
          go_wp2_with fail
          refine (C2.out).mono ?_
          rintro e _ ⟨rfl, rfl⟩
          go_wp2_with fail
          refine (C3.out).mono ?_
          rintro e _ ⟨rfl, rfl⟩
          go_wp2_with fail
          refine (C2.out).mono ?_
          rintro e _ ⟨rfl, rfl⟩
          go_wp2_with fail
          refine (G.out).mono ?_
          rintro e _ ⟨rfl, rfl⟩
          go_wp2_with fail
          go_ret2
          exact ⟨by rw [HD.out]; rfl, rfl⟩
        · rw [if_neg (by decide)] at hd
          have hle := Oct.le_lt l
          rw [HL.out] at hle
          have hle2 : Oct.le l < 4294967296 := Nat.lt_of_lt_of_le hle (Nat.le_trans (Nat.pow_le_pow_right (by decide) e4) (by decide))
          have G := RGet_any 0 (n : Int) w hb
          rw [getS_all HL.out e3 (by omega)] at G
          dsimp only at G
          replace G := Lib.hid G
          generalize Oct.le l = v at *
          rcases (show (t = 1 ∧ 1 < v ∧ 2 ^ bt ≤ v) ∨ (t = 1 ∧ v ≤ 1 ∧ ¬ 2 ^ bt ≤ v) ∨ (t ≠ 1 ∧ ¬ 2 ^ bt ≤ v) by
            by_cases ht : t = 1
            · have hb1 := HK1.out ht
              subst hb1
              by_cases hv : 1 < v
              · exact .inl ⟨ht, hv, by omega⟩
              · exact .inr (.inl ⟨ht, by omega, by omega⟩)
            · right; right
              refine ⟨ht, ?_⟩
              rcases e5 with e5 | e5
              · rw [e5, ← pow_256]; omega
              · exact absurd e5.2 ht) with ⟨rfl, hv, hw⟩ | ⟨rfl, hv, hw⟩ | ⟨ht, hw⟩
          · rw [if_pos hw] at hd
            have HD := Lib.hid hd; clear hd h0 hw hle e5
            go_enter Tryz.func76, Tryz.ntmps76
            go_wp2_with fail
            refine (C1.out).mono ?_
            rintro e _ ⟨rfl, rfl⟩
            go_wp2_with fail
            refine (C2.out).mono ?_
            rintro e _ ⟨rfl, rfl⟩
            go_wp2_with fail
            refine (C2.out).mono ?_
            rintro e _ ⟨rfl, rfl⟩
            go_wp2_with fail
            refine (C3.out).mono ?_
            rintro e _ ⟨rfl, rfl⟩
            go_wp2_with fail
            refine (C2.out).mono ?_
            rintro e _ ⟨rfl, rfl⟩
            go_wp2_with fail
            refine (G.out).mono ?_
            rintro e _ ⟨rfl, rfl⟩
            go_wp2_with fail
            go_ret2
            exact ⟨by rw [HD.out]; rfl, rfl⟩
          · rw [if_neg hw] at hd
            have HD := Lib.hid hd; clear hd h0 hw hle e5
            go_enter Tryz.func76, Tryz.ntmps76
            go_wp2_with fail
            refine (C1.out).mono ?_
            rintro e _ ⟨rfl, rfl⟩
            go_wp2_with fail
            refine (C2.out).mono ?_
            rintro e _ ⟨rfl, rfl⟩
            go_wp2_with fail
            refine (C2.out).mono ?_
            rintro e _ ⟨rfl, rfl⟩
            go_wp2_with fail
            refine (C3.out).mono ?_
            rintro e _ ⟨rfl, rfl⟩
            go_wp2_with fail
            refine (C2.out).mono ?_
            rintro e _ ⟨rfl, rfl⟩
            go_wp2_with fail
            refine (G.out).mono ?_
            rintro e _ ⟨rfl, rfl⟩
            go_wp2_with fail
            go_ret2
            exact ⟨by rw [HD.out]; rfl, rfl⟩
          · rw [if_neg hw] at hd
            have HD := Lib.hid hd; clear hd h0 hw hle e5
            have ht1 : (t == 1) = false := by rw [beq_eq_false_iff_ne]; exact ht
            clear ht
            go_enter Tryz.func76, Tryz.ntmps76
            go_wp2_with fail
            refine (C1.out).mono ?_
            rintro e _ ⟨rfl, rfl⟩
            go_wp2_with fail
            refine (C2.out).mono ?_
            rintro e _ ⟨rfl, rfl⟩
            go_wp2_with fail
            refine (C2.out).mono ?_
            rintro e _ ⟨rfl, rfl⟩
            go_wp2_with fail
            refine (C3.out).mono ?_
            rintro e _ ⟨rfl, rfl⟩
            go_wp2_with fail
            refine (C2.out).mono ?_
            rintro e _ ⟨rfl, rfl⟩
            go_wp2_with fail
            refine (G.out).mono ?_
            rintro e _ ⟨rfl, rfl⟩
            go_wp2_with fail
            go_ret2
            exact ⟨by rw [HD.out]; rfl, rfl⟩
end Go.Proofs.YtbmocffnnlfnjaaGreat
/-
  Walks: types.printed, Check, and the reference's.
  Conditions: none.
-/
namespace Go.Proofs.YtbmocffnnlfnjaaGreat
set_option linter.unusedVariables false
set_option linter.unusedSimpArgs false
open Go.RowKit
theorem seen_all {l : List UInt8} (h : ∀ i, i < l.length → Ty.seen (l.getD i 0) = true) : l.all Ty.seen = true := by
  rw [List.all_eq_true]
  intro x hx
  obtain ⟨i, hi, rfl⟩ := List.getElem_of_mem hx
  have := h i hi
  simpa [List.getD, hi] using this
theorem seen_not {l : List UInt8} {i : Nat} (hi : i < l.length) (h : Ty.seen (l.getD i 0) = false) : l.all Ty.seen = false := by
  cases hb : l.all Ty.seen with
  | false => rfl
  | true =>
    rw [List.all_eq_true] at hb
    have := hb l[i] (List.getElem_mem hi)
    rw [show l.getD i 0 = l[i] by simp [List.getD, hi]] at h
    rw [h] at this
    cases this
set_option maxHeartbeats 1000000 in
theorem printed_any {A : Option Addr} {n c B : Nat} {l : List UInt8} (w : World) (hb : RB w B A n c l) : Calls Tryz.prog 102 #[.slice A n c] w fun e w' => e = .returned (.bool (l.all Ty.seen)) ∧ w = w' := by
  have hn := hb.lt
  have HL := Lib.hid hb.len
  go_enter Tryz.func102, Tryz.ntmps102
  go_wp2_with fail
  go_loop [7] (fun i => ∃ k : Nat, k ≤ n ∧ i = .int .i64 k ∧ ∀ j, j < k → Ty.seen (l.getD j 0) = true) (fun i => n - (intOf i).toNat)
  case atStart => exact ⟨0, by omega, rfl, fun j hj => absurd hj (by omega)⟩
  case round =>
    obtain ⟨k, hk, rfl, hall⟩ := hrel
    have HA := Lib.hid hall; clear hall
    by_cases hlt : k < n
    · obtain ⟨b, o, rfl, hbB, hc⟩ := hb.at_ (show 0 < n by omega)
      have hck := hc k hlt
      have hx := byte_lt (l.getD k 0)
      generalize hxe : l.getD k 0 = x at *
      have HX := Lib.hid hxe; clear hxe hc hb
      rcases (show x.toNat < 32 ∨ (32 ≤ x.toNat ∧ 126 < x.toNat) ∨ (32 ≤ x.toNat ∧ x.toNat ≤ 126) by omega) with h | ⟨h1, h2⟩ | ⟨h1, h2⟩
      · go_wp2_with fail
        go_ret
        refine ⟨?_, rfl⟩
        rw [seen_not (i := k) (by have := HL.out; omega) (by rw [HX.out]; exact decide_eq_false (by omega))]
        rfl
      · go_wp2_with fail
        go_ret
        refine ⟨?_, rfl⟩
        rw [seen_not (i := k) (by have := HL.out; omega) (by rw [HX.out]; exact decide_eq_false (by omega))]
        rfl
      · go_wp2_with fail
        go_round
        case rel =>
          refine ⟨k + 1, by omega, by go_num, fun j hj => ?_⟩
          rcases Nat.lt_or_ge j k with h | h
          · exact HA.out j h
          · obtain rfl : j = k := by omega
            rw [HX.out]; exact decide_eq_true ⟨h1, h2⟩
        case measure => simp [intOf] <;> omega
    · obtain rfl : k = n := by omega
      have HS := Lib.hid (seen_all (l := l) fun i hi => HA.out i (by have := HL.out; omega))
      go_wp2_with fail
      go_ret
      exact ⟨by rw [HS.out]; rfl, rfl⟩
theorem chk_val (t most : Int) (l : List UInt8) : Ty.checkS t most l = if (Ty.kd t).name = [] then 15 else if 0 < (Ty.kd t).bits then (Ty.decS t l).2 else if most < (l.length : Int) ∨ 256 < (l.length : Int) then 3 else if t = 9 ∧ l.all Ty.seen = false then 4 else 0 := rfl
set_option maxRecDepth 100000 in
set_option maxHeartbeats 4000000 in
theorem Check_any {A : Option Addr} {n c B : Nat} {l : List UInt8} (t most : Int) (w : World) (hb : RB w B A n c l) (hB : B ≤ w.heap.size) :
    Calls Tryz.prog 83 #[.int .i64 t, .int .i64 most, .slice A n c] w fun e w' => e = .returned (.int .i64 (Ty.checkS t most l)) ∧ Below w.heap.size w w' := by
  have hl := hb.len
  have hn := hb.lt
  have C := of_any t w
  have D := fun (w1 : World) (h : Below w.heap.size w w1) => Decode_any t w1 (hb.below (h.mono hB)) (Nat.le_trans hB h.size)
  have P := fun (w1 : World) (h : Below w.heap.size w w1) => printed_any w1 (hb.below (h.mono hB))
  have hv := chk_val t most l
  rw [hl] at hv
  rcases kd_named t with h | h
  · rw [if_neg h] at hv
    generalize Ty.checkS t most l = v at *
    generalize Ty.decS t l = d at *
    generalize l.all Ty.seen = se at *
    obtain ⟨dv, de⟩ := d
    generalize (Ty.kd t).name = nm at *
    generalize (Ty.kd t).sgn = sg at *
    generalize (Ty.kd t).size = sz at *
    generalize (Ty.kd t).bits = bt at *
    dsimp only at hv
    have h1 : nm.isEmpty = false := by simpa using h
    have h2 := T_toList nm
    have h3 : T nm ≠ T [] := T_ne h
    have h4 : (nm == []) = false := by simpa using h
    replace C := Lib.hid C; replace D := Lib.hid D; replace P := Lib.hid P
    clear h hl
    by_cases hbt : 0 < bt
    · rw [if_pos hbt] at hv
      subst hv
      go_enter Tryz.func83, Tryz.ntmps83
      go_wp2_with fail
      refine (C.out).mono ?_
      rintro e w1 ⟨rfl, b1⟩
      have b2 := b1.alloc b1.size (.cells #[.string (T nm), .int .i64 (sz : Int), .int .i64 (bt : Int), .bool sg] 116)
      go_wp2_with fail
      refine (D.out _ b2).mono ?_
      rintro e w3 ⟨rfl, b3⟩
      go_wp2_with fail
      go_ret
      exact ⟨rfl, below_step b2 b3 (Nat.le_refl _)⟩
    · rw [if_neg hbt] at hv
      obtain rfl : bt = 0 := by omega
      by_cases hbig : most < (n : Int) ∨ 256 < (n : Int)
      · rw [if_pos hbig] at hv
        subst hv
        rcases (show (most ≤ 256 ∧ most < (n : Int)) ∨ (256 < most ∧ 256 < n) by omega) with ⟨m1, m2⟩ | ⟨m1, m2⟩
        all_goals
          clear hbig
          go_enter Tryz.func83, Tryz.ntmps83
          go_wp2_with fail
          refine (C.out).mono ?_
          rintro e w1 ⟨rfl, b1⟩
          have b2 := b1.alloc b1.size (.cells #[.string (T nm), .int .i64 (sz : Int), .int .i64 ((0 : Nat) : Int), .bool sg] 116)
          go_wp2_with fail
          go_ret
          exact ⟨rfl, b2⟩
      · rw [if_neg hbig] at hv
        have m1 : (n : Int) ≤ most := by omega
        have m2 : (n : Int) ≤ 256 := by omega
        clear hbig
        by_cases ht : t = 9
        · subst ht
          have HV := Lib.hid hv; clear hv
          by_cases hmm : most ≤ 256
          all_goals
            go_enter Tryz.func83, Tryz.ntmps83
            go_wp2_with fail
            refine (C.out).mono ?_
            rintro e w1 ⟨rfl, b1⟩
            have b2 := b1.alloc b1.size (.cells #[.string (T nm), .int .i64 (sz : Int), .int .i64 0, .bool sg] 116)
            go_wp2_with fail
            refine (P.out _ b2).mono ?_
            rintro e _ ⟨rfl, rfl⟩
            cases se with
            | true =>
              go_wp2_with fail
              go_ret
              exact ⟨by rw [HV.out]; rfl, b2⟩
            | false =>
              go_wp2_with fail
              go_ret
              exact ⟨by rw [HV.out]; rfl, b2⟩
        · rw [if_neg (fun h => ht h.1)] at hv
          subst hv
          have ht1 : (t == 9) = false := by rw [beq_eq_false_iff_ne]; exact ht
          clear ht
          by_cases hmm : most ≤ 256
          all_goals
            go_enter Tryz.func83, Tryz.ntmps83
            go_wp2_with fail
            refine (C.out).mono ?_
            rintro e w1 ⟨rfl, b1⟩
            have b2 := b1.alloc b1.size (.cells #[.string (T nm), .int .i64 (sz : Int), .int .i64 0, .bool sg] 116)
            go_wp2_with fail
            go_ret
            exact ⟨rfl, b2⟩
  · rw [h, if_pos (show Ty.kd0.name = [] from rfl)] at hv
    rw [h] at C
    unfold Ty.kd0 at C
    dsimp only at C
    rw [show T [] = (⟨#[]⟩ : ByteArray) from rfl, show ((0 : Nat) : Int) = 0 from rfl] at C
    rw [hv]
    replace C := Lib.hid C
    clear hv h D P hl
    go_enter Tryz.func83, Tryz.ntmps83
    go_wp2_with fail
    refine (C.out).mono ?_
    rintro e w1 ⟨rfl, b1⟩
    have b2 := b1.alloc b1.size (.cells #[.string ⟨#[]⟩, .int .i64 0, .int .i64 0, .bool false] 116)
    go_wp2_with fail
    go_ret
    exact ⟨rfl, b2⟩
set_option maxRecDepth 100000 in
set_option maxHeartbeats 4000000 in
theorem RCheckT_any {A : Option Addr} {n c B : Nat} {l : List UInt8} (t most : Int) (w : World) (hb : RB w B A n c l) :
    Calls Tryz.prog 77 #[.int .i64 t, .int .i64 most, .slice A n c] w fun e w' => e = .returned (.int .i64 (Ty.checkS t most l)) ∧ w = w' := by
  have hl := hb.len
  have hn := hb.lt
  have C1 := RKnown_any t w
  have C2 := RTBits_any t w
  have D := RDecode_any t w hb
  have hv := chk_val t most l
  rw [hl] at hv
  unfold knownB at C1
  have HL := Lib.hid hl
  by_cases h : (Ty.kd t).name = []
  · rw [if_pos h] at hv
    rw [h] at C1
    rw [hv]
    simp only [List.isEmpty_nil, Bool.not_true] at C1
    replace C1 := Lib.hid C1
    clear hv h D C2 hl
    go_enter Tryz.func77, Tryz.ntmps77
    go_wp2_with fail
    refine (C1.out).mono ?_
    rintro e _ ⟨rfl, rfl⟩
    go_wp2_with fail
    go_ret
    exact ⟨rfl, rfl⟩
  · rw [if_neg h] at hv
    have h1 : (Ty.kd t).name.isEmpty = false := by simpa using h
    rw [h1, Bool.not_false] at C1
    generalize Ty.checkS t most l = v at *
    generalize Ty.decS t l = d at *
    obtain ⟨dv, de⟩ := d
    generalize (Ty.kd t).bits = bt at *
    dsimp only at hv
    replace C1 := Lib.hid C1; replace C2 := Lib.hid C2; replace D := Lib.hid D
    clear h h1 hl
    by_cases hbt : 0 < bt
    · rw [if_pos hbt] at hv
      subst hv
      go_enter Tryz.func77, Tryz.ntmps77
      go_wp2_with fail
      refine (C1.out).mono ?_
      rintro e _ ⟨rfl, rfl⟩
      go_wp2_with fail
      refine (C2.out).mono ?_
      rintro e _ ⟨rfl, rfl⟩
      go_wp2_with fail
      refine (D.out).mono ?_
      rintro e _ ⟨rfl, rfl⟩
      go_wp2_with fail
      go_ret
      exact ⟨rfl, rfl⟩
    · rw [if_neg hbt] at hv
      obtain rfl : bt = 0 := by omega
      by_cases hbig : most < (n : Int) ∨ 256 < (n : Int)
      · rw [if_pos hbig] at hv
        subst hv
        rcases (show most < (n : Int) ∨ ((n : Int) ≤ most ∧ 256 < n) by omega) with m1 | ⟨m1, m2⟩
        all_goals
          clear hbig
          go_enter Tryz.func77, Tryz.ntmps77
          go_wp2_with fail
          refine (C1.out).mono ?_
          rintro e _ ⟨rfl, rfl⟩
          go_wp2_with fail
          refine (C2.out).mono ?_
          rintro e _ ⟨rfl, rfl⟩
          go_wp2_with fail
          go_ret
          exact ⟨rfl, rfl⟩
      · rw [if_neg hbig] at hv
        have m1 : (n : Int) ≤ most := by omega
        have m2 : (n : Int) ≤ 256 := by omega
        have HV := Lib.hid hv
        clear hbig hv
        go_enter Tryz.func77, Tryz.ntmps77
        go_wp2_with fail
        refine (C1.out).mono ?_
        rintro e _ ⟨rfl, rfl⟩
        go_wp2_with fail
        refine (C2.out).mono ?_
        rintro e _ ⟨rfl, rfl⟩
        go_wp2_with fail
        go_loop [9] (fun i => ∃ k : Nat, k ≤ n ∧ i = .int .i64 k ∧ ∀ j, j < k → t = 9 → Ty.seen (l.getD j 0) = true) (fun i => n - (intOf i).toNat)
        case atStart => exact ⟨0, by omega, rfl, fun j hj => absurd hj (by omega)⟩
        case round =>
          obtain ⟨k, hk, rfl, hall⟩ := hrel
          have HA := Lib.hid hall; clear hall
          by_cases hlt : k < n
          · obtain ⟨b, o, rfl, hbB, hc⟩ := hb.at_ (show 0 < n by omega)
            have hck := hc k hlt
            have hx := byte_lt (l.getD k 0)
            generalize hxe : l.getD k 0 = x at *
            have HX := Lib.hid hxe; clear hxe hc
            by_cases ht : t = 9
            · subst ht
              rcases (show x.toNat < 32 ∨ (32 ≤ x.toNat ∧ 126 < x.toNat) ∨ (32 ≤ x.toNat ∧ x.toNat ≤ 126) by omega) with h | ⟨h1, h2⟩ | ⟨h1, h2⟩
              · go_wp2_with fail
                go_ret
                refine ⟨?_, rfl⟩
                rw [HV.out, seen_not (i := k) (by have := HL.out; omega) (by rw [HX.out]; exact decide_eq_false (by omega))]
                rfl
              · go_wp2_with fail
                go_ret
                refine ⟨?_, rfl⟩
                rw [HV.out, seen_not (i := k) (by have := HL.out; omega) (by rw [HX.out]; exact decide_eq_false (by omega))]
                rfl
              · go_wp2_with fail
                go_round
                case rel =>
                  refine ⟨k + 1, by omega, by go_num, fun j hj _ => ?_⟩
                  rcases Nat.lt_or_ge j k with h | h
                  · exact HA.out j h rfl
                  · obtain rfl : j = k := by omega
                    rw [HX.out]; exact decide_eq_true ⟨h1, h2⟩
                case measure => simp [intOf] <;> omega
            · have ht1 : (t == 9) = false := by rw [beq_eq_false_iff_ne]; exact ht
              have HT := Lib.hid ht; clear ht
              go_wp2_with fail
              go_round
              case rel => exact ⟨k + 1, by omega, by go_num, fun j hj h => absurd h HT.out⟩
              case measure => simp [intOf] <;> omega
          · obtain rfl : k = n := by omega
            have HS : Hid (v = 0) := by
              refine Lib.hid ?_
              rw [HV.out]
              by_cases ht : t = 9
              · rw [if_neg]
                rw [seen_all (l := l) fun i hi => HA.out i (by have := HL.out; omega) ht]
                simp
              · rw [if_neg fun h => ht h.1]
            go_wp2_with fail
            go_ret
            exact ⟨by rw [HS.out]; rfl, rfl⟩
end Go.Proofs.YtbmocffnnlfnjaaGreat
