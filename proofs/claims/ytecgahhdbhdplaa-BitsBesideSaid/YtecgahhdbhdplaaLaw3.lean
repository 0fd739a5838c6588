/-
  Walk: BitsBeside.
  Conditions: none.
-/
import Derived.Test.YtecgahhdbhdplaaBitAny
import Derived.Test.YtecgahhdbhdplaaBitLaws
import Derived.Test.YtecgahhdbhdplaaBitKnown
import Derived.Test.YtecgahhdbhdplaaBitOpen
import Derived.Test.YtecgahhdbhdplaaFrame
namespace Go.Proofs.Ytecgahhdbhdplaa
set_option linter.unusedVariables false
set_option linter.unusedSimpArgs false
open Go.ChangeShapes Go.WideShapes Go.ChangeAt Go.RowKit
theorem putS_err {l : List UInt8} {p m : Int} {v : Nat} (h : (Bt.putS l p m v).2 ≠ 0) : (Bt.putS l p m v).1 = [] := by
  unfold Bt.putS at *
  split
  · rfl
  · split
    · rfl
    · split
      · rename_i h1 h2 h3
        rw [if_neg h1, if_neg h2, if_pos h3] at h
        exact absurd rfl h
      · rfl
theorem putS_ok {l : List UInt8} {p m : Int} {v : Nat} (h : (Bt.putS l p m v).2 = 0) : Bt.roomS l.length p m = 0 ∧ Bt.wideS v m = false ∧ (Bt.putS l p m v).1 = Bt.putF l p.toNat v m.toNat := by
  have hr := room_range l.length p m
  unfold Bt.putS at *
  split at h
  · simp at h
  · rename_i h1
    rw [if_neg h1]
    split at h
    · simp at h
    · rename_i h2
      rw [if_neg h2]
      have h2' : Bt.wideS v m = false := by simpa using h2
      split at h
      · rename_i h3
        rw [if_pos h3]
        exact ⟨h3, h2', rfl⟩
      · rename_i h3
        exact absurd h h3
theorem low_one (l : List UInt8) (k : Nat) : Bt.lowF l k 1 = Bt.bt l k := by simp [Bt.lowF]
set_option maxRecDepth 100000 in
set_option maxHeartbeats 8000000 in
theorem BitsBeside_walk {A : Option Addr} {n c : Nat} {l : List UInt8} (W : World) (p m : Int) (u : Nat) (hb : RB W W.heap.size A n c l) (wp : (Lit.int .i64 p).wf = true) (wm : (Lit.int .i64 m).wf = true) (hu : u < 18446744073709551616) (at_ : Int) (wa : (Lit.int .i64 at_).wf = true) :
    Calls Try.prog 6 #[.agg #[.slice A n c, .int .i64 p, .int .i64 m, .int .u64 (u : Int)], .int .i64 at_] W fun e w' => e = .returned (.bool true) ∧ Below W.heap.size W w' := by
  obtain ⟨p1, p2⟩ := bounds_i64 wp
  obtain ⟨m1, m2⟩ := bounds_i64 wm
  obtain ⟨a1, a2⟩ := bounds_i64 wa
  have hl := hb.len
  have b0 := alloc_one W (.cells #[.slice A n c, .int .i64 p, .int .i64 m, .int .u64 (u : Int)] 25)
  have K0 := Blk.new W 25 #[.slice A n c, .int .i64 p, .int .i64 m, .int .u64 (u : Int)]
  have F0 := K0.four
  have hn := hb.lt
  by_cases h5 : 1000 < n
  · go_enter Try.func6, Try.ntmps6
    go_wp2_with fail
    refine (known29_any _).mono ?_
    rintro e w2 ⟨rfl, b2⟩
    go_wp2_with fail
    go_ret
    exact ⟨rfl, below_step b0 b2 (Nat.le_refl _)⟩
  · have P1 := BPut_any p m u _ (hb.below b0) (by omega) b0.size hu
    have hok := putS_ok (l := l) (p := p) (m := m) (v := u)
    have herr := putS_err (l := l) (p := p) (m := m) (v := u)
    generalize Bt.putS l p m u = ps at *
    obtain ⟨pv, pe⟩ := ps
    dsimp only at hok herr
    replace P1 := Lib.hid P1
    by_cases hpe : pe = 0
    · subst hpe
      obtain ⟨r1, r2, r3⟩ := hok rfl
      clear hok herr
      rw [hl] at r1
      obtain ⟨s1, s2, s3, s4⟩ := (room_range n p m).resolve_left (by omega)
      have s5 := (s4.resolve_left (by omega)).2
      obtain ⟨P, rfl⟩ : ∃ P : Nat, p = (P : Int) := ⟨p.toNat, by omega⟩
      obtain ⟨M, rfl⟩ : ∃ M : Nat, m = (M : Int) := ⟨m.toNat, by omega⟩
      rw [Int.toNat_natCast, Int.toNat_natCast] at r3
      have hlt := Bt.wide_lt r2 s1 s2 hu
      rw [Int.toNat_natCast] at hlt
      have hlow : Bt.lowF pv P M = u := by rw [r3, Bt.lowF_putF _ _ _ _ (by omega), Nat.mod_eq_of_lt hlt]
      have hpl : pv.length = n := by rw [r3, Bt.putF_length]; exact hl
      have hbt : ∀ j, ¬ (P ≤ j ∧ j < P + M) → Bt.bt pv j = Bt.bt l j := fun j hj => by rw [r3, Bt.bt_putF _ _ _ _ _ (by omega), if_neg hj]
      have HLOW := Lib.hid hlow; have HBT := Lib.hid hbt
      have hk1 : 0 ≤ cnt at_ (8 * (n : Int)) := Int.emod_nonneg _ (by omega)
      have hk2 : cnt at_ (8 * (n : Int)) < 8 * (n : Int) := Int.emod_lt_of_pos _ (by omega)
      have CN := fun w => Count_any at_ (8 * (n : Int)) w (by omega) (by omega) a1 a2
      generalize cnt at_ (8 * (n : Int)) = kk at *
      obtain ⟨K, rfl⟩ : ∃ K : Nat, kk = (K : Int) := ⟨kk.toNat, by omega⟩
      obtain rfl : n = pv.length := hpl.symm
      replace CN := Lib.hid CN
      have HL := Lib.hid hl
      clear hlow hbt r1 r2 r3 s4 hlt hl hpl
      go_enter Try.func6, Try.ntmps6
      go_wp2_with fail
      refine (P1.out).mono ?_
      rintro e w1 ⟨A1, c1, rfl, o1, b1⟩
      dsimp only at o1
      have d1 := below_step b0 b1 (Nat.le_refl _)
      have F1 := (K0.later b1).four
      have hr1 := hb.below d1
      have G := BGet_ok P M w1 o1.rb (by omega) (by omega) (by omega) (by omega)
      rw [HLOW.out] at G
      replace G := Lib.hid G
      have G1 := BGet_ok K 1 w1 o1.rb (by omega) (by omega) (by omega) (by omega)
      have G2 := BGet_ok K 1 w1 hr1 (by omega) (by omega) (by omega) (by omega)
      rw [low_one, show ((1 : Nat) : Int) = 1 from rfl] at G1 G2
      have hbt := HBT.out K
      generalize Bt.bt pv K = x at *
      generalize Bt.bt l K = y at *
      replace G1 := Lib.hid G1; replace G2 := Lib.hid G2
      clear F0 P1 o1 hr1
      have q1 : ((pv.length : Int) != (pv.length : Int)) = false := by simp
      have q2 : ((pv.length : Int) == 0) = false := by rw [beq_eq_false_iff_ne]; omega
      have q3 : ((u : Int) != (u : Int)) = false := by simp
      go_wp2_with fail
      refine (G.out).mono ?_
      rintro e _ ⟨rfl, rfl⟩
      go_wp2_with fail
      refine (CN.out _).mono ?_
      rintro e _ ⟨rfl, rfl⟩
      go_wp2_with fail
      refine (G1.out).mono ?_
      rintro e _ ⟨rfl, rfl⟩
      go_wp2_with fail
      refine (G2.out).mono ?_
      rintro e _ ⟨rfl, rfl⟩
      rcases (show K < P ∨ (P ≤ K ∧ K < P + M) ∨ (P ≤ K ∧ P + M ≤ K) by omega) with h | ⟨h, h'⟩ | ⟨h, h'⟩
      · obtain rfl := hbt (by omega)
        go_wp2_with fail
        refine (known29_any _).mono ?_
        rintro e w5 ⟨rfl, b5⟩
        go_wp2_with fail
        go_ret
        exact ⟨rfl, below_step d1 b5 (Nat.le_refl _)⟩
      · clear hbt
        go_wp2_with fail
        refine (known29_any _).mono ?_
        rintro e w5 ⟨rfl, b5⟩
        go_wp2_with fail
        go_ret
        exact ⟨rfl, below_step d1 b5 (Nat.le_refl _)⟩
      · obtain rfl := hbt (by omega)
        go_wp2_with fail
        refine (known29_any _).mono ?_
        rintro e w5 ⟨rfl, b5⟩
        go_wp2_with fail
        go_ret
        exact ⟨rfl, below_step d1 b5 (Nat.le_refl _)⟩
    · obtain rfl : pv = [] := herr hpe
      have hx : (pe != 0) = true := by simpa using hpe
      clear hok herr hpe hl
      go_enter Try.func6, Try.ntmps6
      go_wp2_with fail
      refine (P1.out).mono ?_
      rintro e w1 ⟨A1, c1, rfl, o1, b1⟩
      have d1 := below_step b0 b1 (Nat.le_refl _)
      clear o1
      go_wp2_with fail
      refine (known29_any _).mono ?_
      rintro e w5 ⟨rfl, b5⟩
      go_wp2_with fail
      go_ret
      exact ⟨rfl, below_step d1 b5 (Nat.le_refl _)⟩
end Go.Proofs.Ytecgahhdbhdplaa
