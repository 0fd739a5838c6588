/-
  Walks: types.Encode, Decode, and the reference's.
  Conditions: none.
-/
import Derived.Test.YtnppihlalhaldaaTypRef
import Derived.Test.YtnppihlalhaldaaOctBits
import Derived.Test.YtnppihlalhaldaaOctRef
namespace Go.Proofs.Ytnppihlalhaldaa
set_option linter.unusedVariables false
set_option linter.unusedSimpArgs false
open Go.RowKit
/-- Bytes and a code are answered; the bytes are the call's own. -/
def BP (p : List UInt8 × Int) (w : World) (e : Ending) (w' : World) : Prop := ∃ A1 c1, e = .returned (.tuple #[.slice A1 p.1.length c1, .int .i64 p.2]) ∧ OB w' w.heap.size A1 p.1.length c1 p.1 ∧ Below w.heap.size w w'
theorem bp_bad {p : List UInt8 × Int} {w w' : World} {x : Int} (h : p = ([], x)) (hb : Below w.heap.size w w') : BP p w (.returned (.tuple #[.slice none 0 0, .int .i64 x])) w' := by
  subst h
  exact ⟨none, 0, rfl, OB.none_ _ _, hb⟩
theorem bp_ok {p : List UInt8 × Int} {w w' : World} {A : Option Addr} {n c : Nat} {l : List UInt8} {x : Int} (h : p = (l, x)) (hn : l.length = n) (ho : OB w' w.heap.size A n c l) (hb : Below w.heap.size w w') : BP p w (.returned (.tuple #[.slice A n c, .int .i64 x])) w' := by
  subst h hn
  exact ⟨A, c, rfl, ho, hb⟩
theorem kd_num (t : Int) : ((Ty.kd t).bits = 0 ∧ (Ty.kd t).size = 0 ∧ (Ty.kd t).sgn = false) ∨ ((Ty.kd t).sgn = true ∧ (Ty.kd t).bits = 8 * (Ty.kd t).size ∧ 1 ≤ (Ty.kd t).size ∧ (Ty.kd t).size ≤ 8) ∨ ((Ty.kd t).sgn = false ∧ 1 ≤ (Ty.kd t).bits ∧ (Ty.kd t).bits ≤ 8 * (Ty.kd t).size ∧ 1 ≤ (Ty.kd t).size ∧ (Ty.kd t).size ≤ 4 ∧ ((Ty.kd t).bits = 8 * (Ty.kd t).size ∨ ((Ty.kd t).bits = 1 ∧ t = 1))) := by
  rcases Ty.kd_cases t with h | ⟨_, h⟩
  · rcases h with rfl | rfl | rfl | rfl | rfl | rfl | rfl | rfl | rfl | rfl | rfl <;> decide
  · rw [h]; exact .inl ⟨rfl, rfl, rfl⟩
theorem enc_type {t n : Int} (h : (Ty.limS t).2.2 = false) : Ty.encS t n = ([], 15) := by unfold Ty.encS; rw [if_pos h]
theorem enc_range {t n : Int} (h : (Ty.limS t).2.2 = true) (hr : n < (Ty.limS t).1 ∨ (Ty.limS t).2.1 < n) : Ty.encS t n = ([], 9) := by unfold Ty.encS; rw [if_neg (by rw [h]; decide), if_pos hr]
theorem enc_ok {t n : Int} (h : (Ty.limS t).2.2 = true) (hr : ¬ (n < (Ty.limS t).1 ∨ (Ty.limS t).2.1 < n)) : Ty.encS t n = (Oct.lb (Ty.kd t).size (n % 18446744073709551616).toNat, 0) := by unfold Ty.encS; rw [if_neg (by rw [h]; decide), if_neg hr]
theorem lim_ok {t : Int} (h : (Ty.limS t).2.2 = true) : ((Ty.kd t).sgn = true ∧ 1 ≤ (Ty.kd t).size ∧ (Ty.kd t).size ≤ 8 ∧ (Ty.limS t).1 = -((2 ^ (8 * (Ty.kd t).size - 1) : Nat) : Int) ∧ (Ty.limS t).2.1 = ((2 ^ (8 * (Ty.kd t).size - 1) : Nat) : Int) - 1) ∨
    ((Ty.kd t).sgn = false ∧ 1 ≤ (Ty.kd t).size ∧ (Ty.kd t).size ≤ 4 ∧ (Ty.limS t).1 = 0 ∧ (Ty.limS t).2.1 = ((2 ^ (Ty.kd t).bits : Nat) : Int) - 1 ∧ (Ty.kd t).bits ≤ 8 * (Ty.kd t).size) := by
  rcases kd_num t with ⟨h1, _⟩ | ⟨h1, h2, h3, h4⟩ | ⟨h1, h2, h3, h4, h5, _⟩
  · unfold Ty.limS at h; rw [if_pos h1] at h; cases h
  · left
    refine ⟨h1, h3, h4, ?_, ?_⟩ <;> (unfold Ty.limS; rw [if_neg (by omega), if_pos h1, h2])
  · right
    refine ⟨h1, h4, h5, ?_, ?_, h3⟩ <;> (unfold Ty.limS; rw [if_neg (by omega), if_neg (by rw [h1]; decide)])
theorem pow_256 (k : Nat) : 256 ^ k = 2 ^ (8 * k) := by rw [Nat.pow_mul]
set_option maxRecDepth 100000 in
set_option maxHeartbeats 4000000 in
theorem Encode_any (t n : Int) (w : World) (h1 : -9223372036854775808 ≤ n) (h2 : n ≤ 9223372036854775807) : Calls Try.prog 54 #[.int .i64 t, .int .i64 n] w (BP (Ty.encS t n) w) := by
  have C := Limits_any t w
  have ht := enc_type (t := t) (n := n)
  have hr := enc_range (t := t) (n := n)
  have ho := enc_ok (t := t) (n := n)
  have hl := lim_ok (t := t)
  generalize Ty.limS t = L at *
  obtain ⟨lo, hi, ok⟩ := L
  dsimp only at ht hr ho hl
  replace C := Lib.hid C
  cases ok with
  | false =>
    have HT := Lib.hid (ht rfl)
    clear ht hr ho hl
    go_enter Try.func54, Try.ntmps54
    go_wp2_with fail
    refine (C.out).mono ?_
    rintro e w1 ⟨rfl, b1⟩
    go_wp2_with fail
    go_ret2
    exact bp_bad HT.out b1
  | true =>
    by_cases hlo : n < lo
    · have HT := Lib.hid (hr rfl (.inl hlo))
      clear ht hr ho hl
      go_enter Try.func54, Try.ntmps54
      go_wp2_with fail
      refine (C.out).mono ?_
      rintro e w1 ⟨rfl, b1⟩
      go_wp2_with fail
      go_ret2
      exact bp_bad HT.out b1
    · by_cases hhi : hi < n
      · have HT := Lib.hid (hr rfl (.inr hhi))
        clear ht hr ho hl
        go_enter Try.func54, Try.ntmps54
        go_wp2_with fail
        refine (C.out).mono ?_
        rintro e w1 ⟨rfl, b1⟩
        go_wp2_with fail
        go_ret2
        exact bp_bad HT.out b1
      · have HT := Lib.hid (ho rfl (by omega))
        have hl := hl rfl
        clear ht hr ho
        have C1 := fun w => TSigned_any t w
        have C2 := fun w => TSize_any t w
        generalize (Ty.kd t).sgn = sg at *
        generalize (Ty.kd t).size = sz at *
        generalize (Ty.kd t).bits = bt at *
        replace C1 := Lib.hid C1; replace C2 := Lib.hid C2
        rcases hl with ⟨rfl, a1, a2, a3, a4⟩ | ⟨rfl, a1, a2, a3, a4, a5⟩
        · have C3 := fun (w : World) => PutInt_any (sz : Int) n w (RB.none_ (B := 0)) (by omega) (Nat.zero_le _) h1 h2
          have hp : Oct.putIntS [] (sz : Int) n = (Oct.lb sz (n % 18446744073709551616).toNat, 0) := by
            unfold Oct.putIntS
            rw [if_pos (by omega), Int.toNat_natCast, if_pos (by omega)]
            rfl
          rw [hp] at C3
          replace C3 := Lib.hid C3
          clear hp a3 a4
          go_enter Try.func54, Try.ntmps54
          go_wp2_with fail
          refine (C.out).mono ?_
          rintro e w1 ⟨rfl, b1⟩
          go_wp2_with fail
          refine (C1.out _).mono ?_
          rintro e w2 ⟨rfl, b2⟩
          have d2 := below_step b1 b2 (Nat.le_refl _)
          go_wp2_with fail
          refine (C2.out _).mono ?_
          rintro e w3 ⟨rfl, b3⟩
          have d3 := below_step d2 b3 (Nat.le_refl _)
          go_wp2_with fail
          refine (C3.out _).mono ?_
          rintro e w4 ⟨A4, c4, rfl, o4, b4⟩
          go_wp2_with fail
          go_ret2
          exact bp_ok HT.out rfl (o4.more d3.size) (below_step d3 b4 (Nat.le_refl _))
        · obtain ⟨N, rfl⟩ : ∃ N : Nat, n = (N : Int) := ⟨n.toNat, by omega⟩
          have hN : N < 256 ^ sz := by
            rw [pow_256]
            have := Nat.pow_le_pow_right (show 0 < 2 by decide) a5
            omega
          have C3 := fun (w : World) => Put_any (sz : Int) N w (RB.none_ (B := 0)) (by omega) (Nat.zero_le _) (by omega)
          have hp : Oct.putS [] (sz : Int) N = (Oct.lb sz ((N : Int) % 18446744073709551616).toNat, 0) := by
            unfold Oct.putS
            rw [if_pos (by omega), Int.toNat_natCast, if_neg (by omega), show ((N : Int) % 18446744073709551616).toNat = N by omega]
            rfl
          rw [hp] at C3
          replace C3 := Lib.hid C3
          clear hp a3 a4 hN
          go_enter Try.func54, Try.ntmps54
          go_wp2_with fail
          refine (C.out).mono ?_
          rintro e w1 ⟨rfl, b1⟩
          go_wp2_with fail
          refine (C1.out _).mono ?_
          rintro e w2 ⟨rfl, b2⟩
          have d2 := below_step b1 b2 (Nat.le_refl _)
          go_wp2_with fail
          refine (C2.out _).mono ?_
          rintro e w3 ⟨rfl, b3⟩
          have d3 := below_step d2 b3 (Nat.le_refl _)
          go_wp2_with fail
          refine (C3.out _).mono ?_
          rintro e w4 ⟨A4, c4, rfl, o4, b4⟩
          go_wp2_with fail
          go_ret2
          exact bp_ok HT.out rfl (o4.more d3.size) (below_step d3 b4 (Nat.le_refl _))
set_option maxRecDepth 100000 in
set_option maxHeartbeats 4000000 in
theorem REncode_any (t n : Int) (w : World) (h1 : -9223372036854775808 ≤ n) (h2 : n ≤ 9223372036854775807) : Calls Try.prog 46 #[.int .i64 t, .int .i64 n] w (BP (Ty.encS t n) w) := by
  have C := RLimits_any t w
  have ht := enc_type (t := t) (n := n)
  have hr := enc_range (t := t) (n := n)
  have ho := enc_ok (t := t) (n := n)
  have hl := lim_ok (t := t)
  generalize Ty.limS t = L at *
  obtain ⟨lo, hi, ok⟩ := L
  dsimp only at ht hr ho hl C
  replace C := Lib.hid C
  cases ok with
  | false =>
    have HT := Lib.hid (ht rfl)
    clear ht hr ho hl
    go_enter Try.func46, Try.ntmps46
    go_wp2_with fail
    refine (C.out).mono ?_
    rintro e _ ⟨rfl, rfl⟩
    go_wp2_with fail
    go_ret2
    exact bp_bad HT.out (Below.refl _ _)
  | true =>
    by_cases hlo : n < lo
    · have HT := Lib.hid (hr rfl (.inl hlo))
      clear ht hr ho hl
      go_enter Try.func46, Try.ntmps46
      go_wp2_with fail
      refine (C.out).mono ?_
      rintro e _ ⟨rfl, rfl⟩
      go_wp2_with fail
      go_ret2
      exact bp_bad HT.out (Below.refl _ _)
    · by_cases hhi : hi < n
      · have HT := Lib.hid (hr rfl (.inr hhi))
        clear ht hr ho hl
        go_enter Try.func46, Try.ntmps46
        go_wp2_with fail
        refine (C.out).mono ?_
        rintro e _ ⟨rfl, rfl⟩
        go_wp2_with fail
        go_ret2
        exact bp_bad HT.out (Below.refl _ _)
      · have HT := Lib.hid (ho rfl (by omega))
        have hz : 1 ≤ (Ty.kd t).size ∧ (Ty.kd t).size ≤ 8 := by rcases hl rfl with ⟨_, a1, a2, _⟩ | ⟨_, a1, a2, _⟩ <;> omega
        clear ht hr ho hl
        have C2 := fun w => RSize_any t w
        generalize (Ty.kd t).size = sz at *
        obtain ⟨a1, a2⟩ := hz
        obtain ⟨N, hN⟩ : ∃ N : Nat, n % 18446744073709551616 = (N : Int) := ⟨(n % 18446744073709551616).toNat, by omega⟩
        have hN2 : N < 18446744073709551616 := by omega
        have C3 := fun (w : World) => RLow_any N (8 * (sz : Int)) w hN2
        have hlow : Oct.lowS N (8 * (sz : Int)) = (N % 256 ^ sz, 0) := by
          unfold Oct.lowS
          rw [if_pos (by omega), show (8 * (sz : Int)).toNat = 8 * sz by omega, pow_256]
        rw [hlow] at C3
        have hm : N % 256 ^ sz < 256 ^ sz := Nat.mod_lt _ (Nat.pow_pos (by decide))
        have hm2 : N % 256 ^ sz ≤ N := Nat.mod_le _ _
        have C4 := fun (w : World) => RPut_any (sz : Int) (N % 256 ^ sz) w (RB.none_ (B := 0)) (by omega) (Nat.zero_le _) (by omega)
        have hp : Oct.putS [] (sz : Int) (N % 256 ^ sz) = (Oct.lb sz N, 0) := by
          unfold Oct.putS
          rw [if_pos (by omega), Int.toNat_natCast, if_neg (by omega), Oct.lb_mod _ _ _ (Nat.le_refl _)]
          rfl
        rw [hp] at C4
        rw [hN, Int.toNat_natCast] at HT
        generalize N % 256 ^ sz = M at *
        have HN := Lib.hid hN
        replace C2 := Lib.hid C2; replace C3 := Lib.hid C3; replace C4 := Lib.hid C4
        have ew : IntKind.u64.wrap n = (N : Int) := by rw [IntKind.wrap_u64]; exact HN.out
        clear hp hlow hm hm2 hN
        go_enter Try.func46, Try.ntmps46
        go_wp2_with fail
        refine (C.out).mono ?_
        rintro e _ ⟨rfl, rfl⟩
        go_wp2_with fail
        refine (C2.out _).mono ?_
        rintro e _ ⟨rfl, rfl⟩
        go_wp2_with fail
        refine (C3.out _).mono ?_
        rintro e _ ⟨rfl, rfl⟩
        go_wp2_with fail
        refine (C2.out _).mono ?_
        rintro e _ ⟨rfl, rfl⟩
        go_wp2_with fail
        refine (C4.out _).mono ?_
        rintro e w4 ⟨A4, c4, rfl, o4, b4⟩
        go_wp2_with fail
        go_ret2
        exact bp_ok HT.out rfl o4 b4
end Go.Proofs.Ytnppihlalhaldaa
